/- The Go functions compute the pure ones. (Printed by gen.py.) -/
import Derived.Test.YtelpgjfojhcjcaaGreatC1
namespace Go.Proofs.YtelpgjfojhcjcaaGreat
open Go Go.Abs
attribute [local irreducible] Tryz.prog
theorem law17_Drafts_parts.con (k : Nat) (a0 : Drafts) (r : (Types × Graph × Graph × Bool)) (h : law17_Drafts_parts k a0 = some r) : Con Tryz.prog 23 [] [AggA [SlcA kA2Int a0.fNodes, SlcA kA2Int a0.fEdges, SlcA kU8 a0.fP.fNodes, SlcA kA3Int a0.fP.fEdges, SlcA kU8 a0.fG.fNodes, SlcA kA3Int a0.fG.fEdges]] (RA (TupA [AggA [SlcA kNodeType r.1.fNodes, SlcA kEdgeType r.1.fEdges], AggA [SlcA kInt r.2.1.fNodes, SlcA kEdge r.2.1.fEdges], AggA [SlcA kInt r.2.2.1.fNodes, SlcA kEdge r.2.2.1.fEdges], EqA (.bool r.2.2.2)])) := by
 unfold law17_Drafts_parts at h
 refine Con.of (N := 62) Tryz.func23 rfl rfl rfl fun w0_ fg_ => W.seq <| W.region <| WL.p rfl rfl rfl (.s 0 rfl .nil) (q_box rfl (CellsOf.agg _)) <| WL.w [] rfl (Wanted.plain rfl) rfl rfl .nil (w_alloc rfl z25 (l := [EqA (.slice none 0 0), EqA (.slice none 0 0)]) rfl) ?_
 rintro _ _ ⟨b3065, rfl, rfl⟩
 refine WL.w [] rfl (Wanted.plain rfl) rfl rfl .nil (w_alloc rfl z29 (l := [EqA (.slice none 0 0), EqA (.slice none 0 0)]) rfl) ?_
 rintro _ _ ⟨b3066, rfl, rfl⟩
 refine WL.w [] rfl (Wanted.plain rfl) rfl rfl .nil (w_alloc rfl z29 (l := [EqA (.slice none 0 0), EqA (.slice none 0 0)]) rfl) ?_
 rintro _ _ ⟨b3067, rfl, rfl⟩
 refine WL.p rfl rfl rfl (.k .nil) (q_assign rfl) <| WL.nil <| QN.then_ <| W.seq <| W.seq ?_
 refine W.jn1 (Γ := Unit) (fun (_ : Unit) (x44 : Bool) => [(1, PtrA [SlcA kA2Int a0.fNodes, SlcA kA2Int a0.fEdges, SlcA kU8 a0.fP.fNodes, SlcA kA3Int a0.fP.fEdges, SlcA kU8 a0.fG.fNodes, SlcA kA3Int a0.fG.fEdges]), (2, EqA (.pointer (some ⟨b3065, 0, none⟩))), (3, EqA (.pointer (some ⟨b3066, 0, none⟩))), (4, EqA (.pointer (some ⟨b3067, 0, none⟩))), (44, EqA (.bool x44))]) (fun (_ : Unit) (_ : Bool) => [BoxE b3065 [EqA (.slice none 0 0), EqA (.slice none 0 0)], BoxE b3066 [EqA (.slice none 0 0), EqA (.slice none 0 0)], BoxE b3067 [EqA (.slice none 0 0), EqA (.slice none 0 0)]]) h (fun _ x44 h => ?_) (fun j3074 Kj3074 h => ?_)
 ·refine QN.then_ ?_
  refine W.condP h rfl (fun hb3075 h => ?_) (fun hb3075 h => ?_)
  ·refine W.seq <| W.region <| WL.p rfl rfl rfl .nil (q_build (is := []) (xs := []) (L := [EqA (.slice none 0 0), EqA (.slice none 0 0)]) rfl rfl z25 pl25 rfl rfl .nil rfl) <| WL.p rfl rfl rfl .nil (q_build (is := []) (xs := []) (L := [EqA (.slice none 0 0), EqA (.slice none 0 0)]) rfl rfl z29 pl29 rfl rfl .nil rfl) <| WL.p rfl rfl rfl .nil (q_build (is := []) (xs := []) (L := [EqA (.slice none 0 0), EqA (.slice none 0 0)]) rfl rfl z29 pl29 rfl rfl .nil rfl) <| WL.w0 [0] rfl (Wanted.plain rfl) rfl (.s 2 rfl (.s 45 rfl .nil)) (w_store (L := [EqA (.slice none 0 0), EqA (.slice none 0 0)]) rfl sh25 (CellsOf.agg _) rfl rfl (leB rfl) rfl) ?_
   rintro _ _ ⟨rfl, rfl⟩
   refine WL.w0 [1] rfl (Wanted.plain rfl) rfl (.s 3 rfl (.s 46 rfl .nil)) (w_store (L := [EqA (.slice none 0 0), EqA (.slice none 0 0)]) rfl sh29 (CellsOf.agg _) rfl rfl (leB rfl) rfl) ?_
   rintro _ _ ⟨rfl, rfl⟩
   refine WL.w0 [2] rfl (Wanted.plain rfl) rfl (.s 4 rfl (.s 47 rfl .nil)) (w_store (L := [EqA (.slice none 0 0), EqA (.slice none 0 0)]) rfl sh29 (CellsOf.agg _) rfl rfl (leB rfl) rfl) ?_
   rintro _ _ ⟨rfl, rfl⟩
   refine WL.p rfl rfl rfl (.k .nil) (q_assign rfl) <| WL.nil <| QN.then_ <| W.ret <| QR.then_ ?_
   cases h
   exact QR.f4 rfl rfl (.cs (i := 2) rfl sh25 rfl rfl) (.cs (i := 1) rfl sh29 rfl rfl) (.cs (i := 0) rfl sh29 rfl rfl) (.t rfl) (.imp (Imp.tup (.cons (Imp.agg (.cons (Imp.nil kNodeType) (.cons (Imp.nil kEdgeType) .nil))) (.cons (Imp.agg (.cons (Imp.nil kInt) (.cons (Imp.nil kEdge) .nil))) (.cons (Imp.agg (.cons (Imp.nil kInt) (.cons (Imp.nil kEdge) .nil))) (.cons (Imp.id _) .nil))))))
  ·refine W.skip <| QN.then_ <| W.seq <| W.region <| WL.p rfl rfl rfl (.s 1 rfl .nil) (q_field rfl fo58_0 rfl) <| WL.p rfl rfl rfl (.s 48 rfl .nil) (q_load rfl sh52) <| WL.p rfl rfl rfl (.s 1 rfl .nil) (q_field rfl fo58_1 rfl) <| WL.p rfl rfl rfl (.s 50 rfl .nil) (q_load rfl sh52) ?_
   obtain ⟨t3076, ht3076, h⟩ := bind_s h
   refine WL.p rfl rfl rfl (.s 49 rfl (.s 51 rfl .nil)) (q_call (f := 51) (A := AggA [SlcA kNodeType t3076.fNodes, SlcA kEdgeType t3076.fEdges]) (xs := [.tmp 49, .tmp 51]) («as» := [SlcA kA2Int a0.fNodes, SlcA kA2Int a0.fEdges]) rfl ca51 (ref04_Made.con k a0.fNodes a0.fEdges t3076 ht3076) rfl) <| WL.w [] rfl (Wanted.plain rfl) rfl rfl .nil (w_alloc rfl z25 (l := [EqA (.slice none 0 0), EqA (.slice none 0 0)]) rfl) ?_
   rintro _ _ ⟨b3077, rfl, rfl⟩
   refine WL.w0 [0] rfl (Wanted.plain rfl) rfl (.s 6 rfl (.s 52 rfl .nil)) (w_store (L := [SlcA kNodeType t3076.fNodes, SlcA kEdgeType t3076.fEdges]) rfl sh25 (CellsOf.agg _) rfl rfl (leB rfl) rfl) ?_
   rintro _ _ ⟨rfl, rfl⟩
   refine WL.nil <| QN.to (StTo.still [0] 6 rfl rfl) <| QN.then_ <| W.seq <| W.drawK [(0, false), (1, false), (2, false), (3, false), (4, false), (5, false), (6, false), (7, false), (8, false)] [9, 10, 11, 12] [[], [], [], [2], [1, 2, 3], [], [], [6], [1, 2, 3, 4, 5, 6, 7], [0, 1, 2, 3, 4, 5, 6, 7, 8], [0, 1, 2, 3, 4, 5, 6, 7, 8, 9], [0, 1, 2, 3, 4, 5, 6, 7, 8, 9, 10], [0, 1, 2, 3, 4, 5, 6, 7, 8, 9, 10, 11]] mx (by kernel_rfl) <| DK.cons rfl rfl (.p rfl (.s 6 rfl .nil) rfl (q_loadS rfl sh25 (leB rfl) rfl)) <| DK.cons rfl rfl (.p rfl (.s 6 rfl .nil) rfl (q_loadS rfl sh25 (leB rfl) rfl)) <| DK.cons rfl rfl (.p rfl (.s 1 rfl .nil) rfl (q_field rfl fo58_2 rfl)) <| DK.cons rfl rfl (.p rfl (.s 55 rfl .nil) rfl (q_loadS rfl sh56 (leB rfl) rfl)) ?_
   obtain ⟨t3082, ht3082, h⟩ := bind_s h
   refine DK.cons rfl rfl (.p rfl (.s 54 rfl (.s 56 rfl (.k .nil))) rfl (q_call (f := 52) (A := AggA [SlcA kInt t3082.fNodes, SlcA kEdge t3082.fEdges]) (xs := [.tmp 54, .tmp 56, .const (.bool true)]) («as» := [AggA [SlcA kNodeType t3076.fNodes, SlcA kEdgeType t3076.fEdges], AggA [SlcA kU8 a0.fP.fNodes, SlcA kA3Int a0.fP.fEdges], EqA (.bool true)]) rfl ca52 (ref17_Made.con k t3076 a0.fP true t3082 ht3082) rfl)) <| DK.cons rfl rfl (.p rfl (.s 6 rfl .nil) rfl (q_loadS rfl sh25 (leB rfl) rfl)) <| DK.cons rfl rfl (.p rfl (.s 1 rfl .nil) rfl (q_field rfl fo58_3 rfl)) <| DK.cons rfl rfl (.p rfl (.s 59 rfl .nil) rfl (q_loadS rfl sh56 (leB rfl) rfl)) ?_
   obtain ⟨t3083, ht3083, h⟩ := bind_s h
   refine DK.cons rfl rfl (.p rfl (.s 58 rfl (.s 60 rfl (.k .nil))) rfl (q_call (f := 52) (A := AggA [SlcA kInt t3083.fNodes, SlcA kEdge t3083.fEdges]) (xs := [.tmp 58, .tmp 60, .const (.bool false)]) («as» := [AggA [SlcA kNodeType t3076.fNodes, SlcA kEdgeType t3076.fEdges], AggA [SlcA kU8 a0.fG.fNodes, SlcA kA3Int a0.fG.fEdges], EqA (.bool false)]) rfl ca52 (ref17_Made.con k t3076 a0.fG false t3083 ht3083) rfl)) <| DK.nil <| CSteps.w0 [0] rfl rfl rfl (.s 2 rfl (.s 53 rfl .nil)) rfl (w_store (L := [SlcA kNodeType t3076.fNodes, SlcA kEdgeType t3076.fEdges]) rfl sh25 (CellsOf.agg _) rfl rfl (leB rfl) rfl) ?_
   rintro _ _ ⟨rfl, rfl⟩
   refine CSteps.w0 [1] rfl rfl rfl (.s 3 rfl (.s 57 rfl .nil)) rfl (w_store (L := [SlcA kInt t3082.fNodes, SlcA kEdge t3082.fEdges]) rfl sh29 (CellsOf.agg _) rfl rfl (leB rfl) rfl) ?_
   rintro _ _ ⟨rfl, rfl⟩
   refine CSteps.w0 [2] rfl rfl rfl (.s 4 rfl (.s 61 rfl .nil)) rfl (w_store (L := [SlcA kInt t3083.fNodes, SlcA kEdge t3083.fEdges]) rfl sh29 (CellsOf.agg _) rfl rfl (leB rfl) rfl) ?_
   rintro _ _ ⟨rfl, rfl⟩
   refine CSteps.p rfl rfl rfl (.k .nil) rfl (q_assign rfl) <| CSteps.nil <| QN.weaken (env' := [(5, _), (4, _), (3, _), (2, _)]) (.one rfl (.one rfl (.one rfl (.one rfl (.nil _))))) <| QN.then_ <| W.ret ?_
   cases h
   exact QR.f4 rfl rfl (.cs (i := 2) rfl sh25 rfl rfl) (.cs (i := 1) rfl sh29 rfl rfl) (.cs (i := 0) rfl sh29 rfl rfl) (.t rfl) (.id _)
 ·refine W.region <| WL.p rfl rfl rfl (.s 1 rfl .nil) (q_field rfl fo58_0 rfl) <| WL.p rfl rfl rfl (.s 7 rfl .nil) (q_load rfl sh52) <| WL.p rfl rfl rfl (.s 8 rfl .nil) (q_len rfl elS52) <| WL.p rfl rfl rfl (.s 9 rfl (.k .nil)) (q_int rfl rfl) <| WL.p rfl rfl rfl (.s 10 rfl .nil) (q_move rfl) ?_
  rcases bif_s h with ⟨hb3084, h⟩ | ⟨hb3084, h⟩
  ·refine WL.skip (Unwanted.on rfl rfl rfl hb3084) rfl rfl <| WL.skip (Unwanted.on rfl rfl rfl hb3084) rfl rfl <| WL.skip (Unwanted.on rfl rfl rfl hb3084) rfl rfl <| WL.skip (Unwanted.on rfl rfl rfl hb3084) rfl rfl <| WL.p rfl rfl rfl (.s 11 rfl (.k .nil)) (q_pickT rfl hb3084) <| WL.p rfl rfl rfl (.s 16 rfl .nil) (q_move rfl) <| WL.skip (Unwanted.on rfl rfl rfl rfl) rfl rfl <| WL.skip (Unwanted.on rfl rfl rfl rfl) rfl rfl <| WL.skip (Unwanted.on rfl rfl rfl rfl) rfl rfl <| WL.skip (Unwanted.on rfl rfl rfl rfl) rfl rfl <| WL.skip (Unwanted.on rfl rfl rfl rfl) rfl rfl <| WL.p rfl rfl rfl (.s 17 rfl (.k .nil)) (q_pickT rfl rfl) <| WL.p rfl rfl rfl (.s 23 rfl .nil) (q_move rfl) ?_
   refine WL.skip (Unwanted.on rfl rfl rfl rfl) rfl rfl <| WL.skip (Unwanted.on rfl rfl rfl rfl) rfl rfl <| WL.skip (Unwanted.on rfl rfl rfl rfl) rfl rfl <| WL.skip (Unwanted.on rfl rfl rfl rfl) rfl rfl <| WL.skip (Unwanted.on rfl rfl rfl rfl) rfl rfl <| WL.p rfl rfl rfl (.s 24 rfl (.k .nil)) (q_pickT rfl rfl) <| WL.p rfl rfl rfl (.s 30 rfl .nil) (q_move rfl) <| WL.skip (Unwanted.on rfl rfl rfl rfl) rfl rfl <| WL.skip (Unwanted.on rfl rfl rfl rfl) rfl rfl <| WL.skip (Unwanted.on rfl rfl rfl rfl) rfl rfl <| WL.skip (Unwanted.on rfl rfl rfl rfl) rfl rfl <| WL.skip (Unwanted.on rfl rfl rfl rfl) rfl rfl <| WL.p rfl rfl rfl (.s 31 rfl (.k .nil)) (q_pickT rfl rfl) ?_
   refine WL.p rfl rfl rfl (.s 37 rfl .nil) (q_move rfl) <| WL.skip (Unwanted.on rfl rfl rfl rfl) rfl rfl <| WL.skip (Unwanted.on rfl rfl rfl rfl) rfl rfl <| WL.skip (Unwanted.on rfl rfl rfl rfl) rfl rfl <| WL.skip (Unwanted.on rfl rfl rfl rfl) rfl rfl <| WL.skip (Unwanted.on rfl rfl rfl rfl) rfl rfl <| WL.p rfl rfl rfl (.s 38 rfl (.k .nil)) (q_pickT rfl rfl) <| WL.nil <| QN.order [2, 1, 0] rfl ?_
   exact QN.weaken (.one rfl (.one rfl (.one rfl (.one rfl (.one rfl (.nil _)))))) (Kj3074 () true h)
  ·refine WL.q (Wanted.on rfl rfl rfl hb3084) rfl rfl (.s 1 rfl .nil) (q_field rfl fo58_1 rfl).o <| WL.q (Wanted.on rfl rfl rfl hb3084) rfl rfl (.s 12 rfl .nil) (q_load rfl sh52).o <| WL.q (Wanted.on rfl rfl rfl hb3084) rfl rfl (.s 13 rfl .nil) (q_len rfl elS52).o <| WL.q (Wanted.on rfl rfl rfl hb3084) rfl rfl (.s 14 rfl (.k .nil)) (q_int rfl rfl).o <| WL.p rfl rfl rfl (.s 11 rfl (.s 15 rfl .nil)) (q_pickF rfl hb3084) <| WL.p rfl rfl rfl (.s 16 rfl .nil) (q_move rfl) ?_
   rcases bif_s h with ⟨hb3085, h⟩ | ⟨hb3085, h⟩
   ·refine WL.skip (Unwanted.on rfl rfl rfl hb3085) rfl rfl <| WL.skip (Unwanted.on rfl rfl rfl hb3085) rfl rfl <| WL.skip (Unwanted.on rfl rfl rfl hb3085) rfl rfl <| WL.skip (Unwanted.on rfl rfl rfl hb3085) rfl rfl <| WL.skip (Unwanted.on rfl rfl rfl hb3085) rfl rfl <| WL.p rfl rfl rfl (.s 17 rfl (.k .nil)) (q_pickT rfl hb3085) <| WL.p rfl rfl rfl (.s 23 rfl .nil) (q_move rfl) <| WL.skip (Unwanted.on rfl rfl rfl rfl) rfl rfl <| WL.skip (Unwanted.on rfl rfl rfl rfl) rfl rfl <| WL.skip (Unwanted.on rfl rfl rfl rfl) rfl rfl <| WL.skip (Unwanted.on rfl rfl rfl rfl) rfl rfl <| WL.skip (Unwanted.on rfl rfl rfl rfl) rfl rfl <| WL.p rfl rfl rfl (.s 24 rfl (.k .nil)) (q_pickT rfl rfl) ?_
    refine WL.p rfl rfl rfl (.s 30 rfl .nil) (q_move rfl) <| WL.skip (Unwanted.on rfl rfl rfl rfl) rfl rfl <| WL.skip (Unwanted.on rfl rfl rfl rfl) rfl rfl <| WL.skip (Unwanted.on rfl rfl rfl rfl) rfl rfl <| WL.skip (Unwanted.on rfl rfl rfl rfl) rfl rfl <| WL.skip (Unwanted.on rfl rfl rfl rfl) rfl rfl <| WL.p rfl rfl rfl (.s 31 rfl (.k .nil)) (q_pickT rfl rfl) <| WL.p rfl rfl rfl (.s 37 rfl .nil) (q_move rfl) <| WL.skip (Unwanted.on rfl rfl rfl rfl) rfl rfl <| WL.skip (Unwanted.on rfl rfl rfl rfl) rfl rfl <| WL.skip (Unwanted.on rfl rfl rfl rfl) rfl rfl <| WL.skip (Unwanted.on rfl rfl rfl rfl) rfl rfl <| WL.skip (Unwanted.on rfl rfl rfl rfl) rfl rfl ?_
    refine WL.p rfl rfl rfl (.s 38 rfl (.k .nil)) (q_pickT rfl rfl) <| WL.nil <| QN.order [2, 1, 0] rfl ?_
    exact QN.weaken (.one rfl (.one rfl (.one rfl (.one rfl (.one rfl (.nil _)))))) (Kj3074 () true h)
   ·refine WL.q (Wanted.on rfl rfl rfl hb3085) rfl rfl (.s 1 rfl .nil) (q_field rfl fo58_2 rfl).o <| WL.q (Wanted.on rfl rfl rfl hb3085) rfl rfl (.s 18 rfl .nil) (q_field rfl fo56_0 rfl).o <| WL.q (Wanted.on rfl rfl rfl hb3085) rfl rfl (.s 19 rfl .nil) (q_load rfl sh53).o <| WL.q (Wanted.on rfl rfl rfl hb3085) rfl rfl (.s 20 rfl .nil) (q_len rfl elS53).o <| WL.q (Wanted.on rfl rfl rfl hb3085) rfl rfl (.s 21 rfl (.k .nil)) (q_int rfl rfl).o <| WL.p rfl rfl rfl (.s 17 rfl (.s 22 rfl .nil)) (q_pickF rfl hb3085) <| WL.p rfl rfl rfl (.s 23 rfl .nil) (q_move rfl) ?_
    rcases bif_s h with ⟨hb3086, h⟩ | ⟨hb3086, h⟩
    ·refine WL.skip (Unwanted.on rfl rfl rfl hb3086) rfl rfl <| WL.skip (Unwanted.on rfl rfl rfl hb3086) rfl rfl <| WL.skip (Unwanted.on rfl rfl rfl hb3086) rfl rfl <| WL.skip (Unwanted.on rfl rfl rfl hb3086) rfl rfl <| WL.skip (Unwanted.on rfl rfl rfl hb3086) rfl rfl <| WL.p rfl rfl rfl (.s 24 rfl (.k .nil)) (q_pickT rfl hb3086) <| WL.p rfl rfl rfl (.s 30 rfl .nil) (q_move rfl) <| WL.skip (Unwanted.on rfl rfl rfl rfl) rfl rfl <| WL.skip (Unwanted.on rfl rfl rfl rfl) rfl rfl <| WL.skip (Unwanted.on rfl rfl rfl rfl) rfl rfl <| WL.skip (Unwanted.on rfl rfl rfl rfl) rfl rfl <| WL.skip (Unwanted.on rfl rfl rfl rfl) rfl rfl <| WL.p rfl rfl rfl (.s 31 rfl (.k .nil)) (q_pickT rfl rfl) ?_
     refine WL.p rfl rfl rfl (.s 37 rfl .nil) (q_move rfl) <| WL.skip (Unwanted.on rfl rfl rfl rfl) rfl rfl <| WL.skip (Unwanted.on rfl rfl rfl rfl) rfl rfl <| WL.skip (Unwanted.on rfl rfl rfl rfl) rfl rfl <| WL.skip (Unwanted.on rfl rfl rfl rfl) rfl rfl <| WL.skip (Unwanted.on rfl rfl rfl rfl) rfl rfl <| WL.p rfl rfl rfl (.s 38 rfl (.k .nil)) (q_pickT rfl rfl) <| WL.nil <| QN.order [2, 1, 0] rfl ?_
     exact QN.weaken (.one rfl (.one rfl (.one rfl (.one rfl (.one rfl (.nil _)))))) (Kj3074 () true h)
    ·refine WL.q (Wanted.on rfl rfl rfl hb3086) rfl rfl (.s 1 rfl .nil) (q_field rfl fo58_2 rfl).o <| WL.q (Wanted.on rfl rfl rfl hb3086) rfl rfl (.s 25 rfl .nil) (q_field rfl fo56_1 rfl).o <| WL.q (Wanted.on rfl rfl rfl hb3086) rfl rfl (.s 26 rfl .nil) (q_load rfl sh54).o <| WL.q (Wanted.on rfl rfl rfl hb3086) rfl rfl (.s 27 rfl .nil) (q_len rfl elS54).o <| WL.q (Wanted.on rfl rfl rfl hb3086) rfl rfl (.s 28 rfl (.k .nil)) (q_int rfl rfl).o <| WL.p rfl rfl rfl (.s 24 rfl (.s 29 rfl .nil)) (q_pickF rfl hb3086) <| WL.p rfl rfl rfl (.s 30 rfl .nil) (q_move rfl) ?_
     rcases bif_s h with ⟨hb3087, h⟩ | ⟨hb3087, h⟩
     ·refine WL.skip (Unwanted.on rfl rfl rfl hb3087) rfl rfl <| WL.skip (Unwanted.on rfl rfl rfl hb3087) rfl rfl <| WL.skip (Unwanted.on rfl rfl rfl hb3087) rfl rfl <| WL.skip (Unwanted.on rfl rfl rfl hb3087) rfl rfl <| WL.skip (Unwanted.on rfl rfl rfl hb3087) rfl rfl <| WL.p rfl rfl rfl (.s 31 rfl (.k .nil)) (q_pickT rfl hb3087) <| WL.p rfl rfl rfl (.s 37 rfl .nil) (q_move rfl) <| WL.skip (Unwanted.on rfl rfl rfl rfl) rfl rfl <| WL.skip (Unwanted.on rfl rfl rfl rfl) rfl rfl <| WL.skip (Unwanted.on rfl rfl rfl rfl) rfl rfl <| WL.skip (Unwanted.on rfl rfl rfl rfl) rfl rfl <| WL.skip (Unwanted.on rfl rfl rfl rfl) rfl rfl <| WL.p rfl rfl rfl (.s 38 rfl (.k .nil)) (q_pickT rfl rfl) ?_
      refine WL.nil <| QN.order [2, 1, 0] rfl ?_
      exact QN.weaken (.one rfl (.one rfl (.one rfl (.one rfl (.one rfl (.nil _)))))) (Kj3074 () true h)
     ·refine WL.q (Wanted.on rfl rfl rfl hb3087) rfl rfl (.s 1 rfl .nil) (q_field rfl fo58_3 rfl).o <| WL.q (Wanted.on rfl rfl rfl hb3087) rfl rfl (.s 32 rfl .nil) (q_field rfl fo56_0 rfl).o <| WL.q (Wanted.on rfl rfl rfl hb3087) rfl rfl (.s 33 rfl .nil) (q_load rfl sh53).o <| WL.q (Wanted.on rfl rfl rfl hb3087) rfl rfl (.s 34 rfl .nil) (q_len rfl elS53).o <| WL.q (Wanted.on rfl rfl rfl hb3087) rfl rfl (.s 35 rfl (.k .nil)) (q_int rfl rfl).o <| WL.p rfl rfl rfl (.s 31 rfl (.s 36 rfl .nil)) (q_pickF rfl hb3087) <| WL.p rfl rfl rfl (.s 37 rfl .nil) (q_move rfl) ?_
      rcases bif_s h with ⟨hb3088, h⟩ | ⟨hb3088, h⟩
      ·refine WL.skip (Unwanted.on rfl rfl rfl hb3088) rfl rfl <| WL.skip (Unwanted.on rfl rfl rfl hb3088) rfl rfl <| WL.skip (Unwanted.on rfl rfl rfl hb3088) rfl rfl <| WL.skip (Unwanted.on rfl rfl rfl hb3088) rfl rfl <| WL.skip (Unwanted.on rfl rfl rfl hb3088) rfl rfl <| WL.p rfl rfl rfl (.s 38 rfl (.k .nil)) (q_pickT rfl hb3088) <| WL.nil <| QN.order [2, 1, 0] rfl ?_
       exact QN.weaken (.one rfl (.one rfl (.one rfl (.one rfl (.one rfl (.nil _)))))) (Kj3074 () true h)
      ·refine WL.q (Wanted.on rfl rfl rfl hb3088) rfl rfl (.s 1 rfl .nil) (q_field rfl fo58_3 rfl).o <| WL.q (Wanted.on rfl rfl rfl hb3088) rfl rfl (.s 39 rfl .nil) (q_field rfl fo56_1 rfl).o <| WL.q (Wanted.on rfl rfl rfl hb3088) rfl rfl (.s 40 rfl .nil) (q_load rfl sh54).o <| WL.q (Wanted.on rfl rfl rfl hb3088) rfl rfl (.s 41 rfl .nil) (q_len rfl elS54).o <| WL.q (Wanted.on rfl rfl rfl hb3088) rfl rfl (.s 42 rfl (.k .nil)) (q_int rfl rfl).o <| WL.p rfl rfl rfl (.s 38 rfl (.s 43 rfl .nil)) (q_pickF rfl hb3088) <| WL.nil <| QN.order [2, 1, 0] rfl ?_
       exact QN.weaken (.one rfl (.one rfl (.one rfl (.one rfl (.one rfl (.nil _)))))) (Kj3074 () (decide ((a0.fG.fEdges.length : Int) > 10)) h)
theorem ref04_Example.con (k : Nat) (r : Types) (h : ref04_Example k = some r) : Con Tryz.prog 30 [] [] (RA (AggA [SlcA kNodeType r.fNodes, SlcA kEdgeType r.fEdges])) := by
 unfold ref04_Example at h
 refine Con.of (N := 15) Tryz.func30 rfl rfl rfl fun w0_ fg_ => W.seq <| W.region <| WL.w [] rfl (Wanted.plain rfl) rfl rfl .nil (w_alloc rfl z25 (l := [EqA (.slice none 0 0), EqA (.slice none 0 0)]) rfl) ?_
 rintro _ _ ⟨b3089, rfl, rfl⟩
 refine WL.nil <| QN.then_ <| W.seq <| W.region <| WL.p rfl rfl rfl (.k (.k (.k .nil))) (q_build (is := [0, 1, 2]) (xs := [.const (.string ⟨#[98, 97, 108, 97, 110, 99, 101]⟩), .const (.int .i64 (-1000)), .const (.int .i64 1000)]) (L := [EqA (strV ([98, 97, 108, 97, 110, 99, 101] : Str)), EqA (.int .i64 (-1000)), EqA (.int .i64 1000), EqA (.slice none 0 0)]) rfl rfl z91 pl91 rfl rfl (.cons (CellsOf.one rfl) (.cons (CellsOf.one rfl) (.cons (CellsOf.one rfl) .nil))) rfl) <| WL.p rfl rfl rfl (.s 1 rfl .nil) (QS.args (q_lit (kd := kAttr) (ps := [(0, .tmp 1)]) (xs := [.tmp 1]) («as» := [AggA [EqA (strV ([98, 97, 108, 97, 110, 99, 101] : Str)), EqA (.int .i64 (-1000)), EqA (.int .i64 1000), SlcA kStr []]]) (ys := [(Attr.mk ([98, 97, 108, 97, 110, 99, 101] : Str) (-1000) 1000 [])]) rfl rfl el92 rfl gr91 rfl rfl rfl (.cons (CellsOf.agg _) .nil)) (.cons (Imp.agg (.cons (Imp.id _) (.cons (Imp.id _) (.cons (Imp.id _) (.cons (Imp.nil kStr) .nil))))) .nil)) <| WL.p rfl rfl rfl (.k (.k (.k (.s 2 rfl .nil)))) (q_build (is := [0, 1, 2, 3]) (xs := [.const (.string ⟨#[65, 99, 99, 111, 117, 110, 116]⟩), .const (.int .i64 (-1)), .const (.bool true), .tmp 2]) (L := [EqA (strV ([65, 99, 99, 111, 117, 110, 116] : Str)), EqA (.int .i64 (-1)), EqA (.bool true), SlcA kAttr ([(Attr.mk ([98, 97, 108, 97, 110, 99, 101] : Str) (-1000) 1000 [])])]) rfl rfl z94 pl94 rfl rfl (.cons (CellsOf.one rfl) (.cons (CellsOf.one rfl) (.cons (CellsOf.one rfl) (.cons (CellsOf.one rfl) .nil)))) rfl) <| WL.p rfl rfl rfl (.k (.k .nil)) (q_build (is := [0, 1]) (xs := [.const (.string ⟨#[67, 97, 115, 104]⟩), .const (.int .i64 0)]) (L := [EqA (strV ([67, 97, 115, 104] : Str)), EqA (.int .i64 0), EqA (.bool false), EqA (.slice none 0 0)]) rfl rfl z94 pl94 rfl rfl (.cons (CellsOf.one rfl) (.cons (CellsOf.one rfl) .nil)) rfl) <| WL.p rfl rfl rfl (.k (.k .nil)) (q_lit (kd := kStr) (ps := [(0, .const (.string ⟨#[111, 112, 101, 110]⟩)), (1, .const (.string ⟨#[99, 108, 111, 115, 101, 100]⟩))]) (xs := [.const (.string ⟨#[111, 112, 101, 110]⟩), .const (.string ⟨#[99, 108, 111, 115, 101, 100]⟩)]) («as» := [EqA (strV ([111, 112, 101, 110] : Str)), EqA (strV ([99, 108, 111, 115, 101, 100] : Str))]) (ys := [([111, 112, 101, 110] : Str), ([99, 108, 111, 115, 101, 100] : Str)]) rfl rfl el89 rfl gr9 rfl rfl rfl (.cons (CellsOf.one rfl) (.cons (CellsOf.one rfl) .nil))) <| WL.p rfl rfl rfl (.k (.k (.s 5 rfl .nil))) (q_build (is := [0, 2, 3]) (xs := [.const (.string ⟨#[115, 116, 97, 116, 101]⟩), .const (.int .i64 1), .tmp 5]) (L := [EqA (strV ([115, 116, 97, 116, 101] : Str)), EqA (.int .i64 0), EqA (.int .i64 1), SlcA kStr ([([111, 112, 101, 110] : Str), ([99, 108, 111, 115, 101, 100] : Str)])]) rfl rfl z91 pl91 rfl rfl (.cons (CellsOf.one rfl) (.cons (CellsOf.one rfl) (.cons (CellsOf.one rfl) .nil))) rfl) <| WL.p rfl rfl rfl (.s 6 rfl .nil) (q_lit (kd := kAttr) (ps := [(0, .tmp 6)]) (xs := [.tmp 6]) («as» := [AggA [EqA (strV ([115, 116, 97, 116, 101] : Str)), EqA (.int .i64 0), EqA (.int .i64 1), SlcA kStr ([([111, 112, 101, 110] : Str), ([99, 108, 111, 115, 101, 100] : Str)])]]) (ys := [(Attr.mk ([115, 116, 97, 116, 101] : Str) 0 1 ([([111, 112, 101, 110] : Str), ([99, 108, 111, 115, 101, 100] : Str)]))]) rfl rfl el92 rfl gr91 rfl rfl rfl (.cons (CellsOf.agg _) .nil)) <| WL.p rfl rfl rfl (.k (.k (.s 7 rfl .nil))) (q_build (is := [0, 1, 3]) (xs := [.const (.string ⟨#[76, 111, 97, 110]⟩), .const (.int .i64 0), .tmp 7]) (L := [EqA (strV ([76, 111, 97, 110] : Str)), EqA (.int .i64 0), EqA (.bool false), SlcA kAttr ([(Attr.mk ([115, 116, 97, 116, 101] : Str) 0 1 ([([111, 112, 101, 110] : Str), ([99, 108, 111, 115, 101, 100] : Str)]))])]) rfl rfl z94 pl94 rfl rfl (.cons (CellsOf.one rfl) (.cons (CellsOf.one rfl) (.cons (CellsOf.one rfl) .nil))) rfl) <| WL.p rfl rfl rfl (.k (.k .nil)) (q_build (is := [0, 1]) (xs := [.const (.string ⟨#[80, 101, 114, 115, 111, 110]⟩), .const (.int .i64 (-1))]) (L := [EqA (strV ([80, 101, 114, 115, 111, 110] : Str)), EqA (.int .i64 (-1)), EqA (.bool false), EqA (.slice none 0 0)]) rfl rfl z94 pl94 rfl rfl (.cons (CellsOf.one rfl) (.cons (CellsOf.one rfl) .nil)) rfl) ?_
 refine WL.p rfl rfl rfl (.s 3 rfl (.s 4 rfl (.s 8 rfl (.s 9 rfl .nil)))) (QS.args (q_lit (kd := kNodeType) (ps := [(0, .tmp 3), (1, .tmp 4), (2, .tmp 8), (3, .tmp 9)]) (xs := [.tmp 3, .tmp 4, .tmp 8, .tmp 9]) («as» := [AggA [EqA (strV ([65, 99, 99, 111, 117, 110, 116] : Str)), EqA (.int .i64 (-1)), EqA (.bool true), SlcA kAttr ([(Attr.mk ([98, 97, 108, 97, 110, 99, 101] : Str) (-1000) 1000 [])])], AggA [EqA (strV ([67, 97, 115, 104] : Str)), EqA (.int .i64 0), EqA (.bool false), SlcA kAttr []], AggA [EqA (strV ([76, 111, 97, 110] : Str)), EqA (.int .i64 0), EqA (.bool false), SlcA kAttr ([(Attr.mk ([115, 116, 97, 116, 101] : Str) 0 1 ([([111, 112, 101, 110] : Str), ([99, 108, 111, 115, 101, 100] : Str)]))])], AggA [EqA (strV ([80, 101, 114, 115, 111, 110] : Str)), EqA (.int .i64 (-1)), EqA (.bool false), SlcA kAttr []]]) (ys := [(NodeType.mk ([65, 99, 99, 111, 117, 110, 116] : Str) (-1) true ([(Attr.mk ([98, 97, 108, 97, 110, 99, 101] : Str) (-1000) 1000 [])])), (NodeType.mk ([67, 97, 115, 104] : Str) 0 false []), (NodeType.mk ([76, 111, 97, 110] : Str) 0 false ([(Attr.mk ([115, 116, 97, 116, 101] : Str) 0 1 ([([111, 112, 101, 110] : Str), ([99, 108, 111, 115, 101, 100] : Str)]))])), (NodeType.mk ([80, 101, 114, 115, 111, 110] : Str) (-1) false [])]) rfl rfl el22 rfl gr94 rfl rfl rfl (.cons (CellsOf.agg _) (.cons (CellsOf.agg _) (.cons (CellsOf.agg _) (.cons (CellsOf.agg _) .nil))))) (.cons (Imp.id _) (.cons (Imp.agg (.cons (Imp.id _) (.cons (Imp.id _) (.cons (Imp.id _) (.cons (Imp.nil kAttr) .nil))))) (.cons (Imp.id _) (.cons (Imp.agg (.cons (Imp.id _) (.cons (Imp.id _) (.cons (Imp.id _) (.cons (Imp.nil kAttr) .nil))))) .nil))))) <| WL.p rfl rfl rfl (.k (.k (.k (.k (.k (.k .nil)))))) (q_build (is := [0, 1, 2, 4, 5, 6]) (xs := [.const (.string ⟨#[111, 119, 110, 115]⟩), .const (.int .i64 3), .const (.int .i64 0), .const (.int .i64 (-1)), .const (.int .i64 1), .const (.int .i64 1)]) (L := [EqA (strV ([111, 119, 110, 115] : Str)), EqA (.int .i64 3), EqA (.int .i64 0), EqA (.int .i64 0), EqA (.int .i64 (-1)), EqA (.int .i64 1), EqA (.int .i64 1)]) rfl rfl z96 pl96 rfl rfl (.cons (CellsOf.one rfl) (.cons (CellsOf.one rfl) (.cons (CellsOf.one rfl) (.cons (CellsOf.one rfl) (.cons (CellsOf.one rfl) (.cons (CellsOf.one rfl) .nil)))))) rfl) <| WL.p rfl rfl rfl (.k (.k (.k (.k (.k .nil))))) (q_build (is := [0, 1, 2, 4, 6]) (xs := [.const (.string ⟨#[112, 97, 121, 115]⟩), .const (.int .i64 1), .const (.int .i64 1), .const (.int .i64 (-1)), .const (.int .i64 (-1))]) (L := [EqA (strV ([112, 97, 121, 115] : Str)), EqA (.int .i64 1), EqA (.int .i64 1), EqA (.int .i64 0), EqA (.int .i64 (-1)), EqA (.int .i64 0), EqA (.int .i64 (-1))]) rfl rfl z96 pl96 rfl rfl (.cons (CellsOf.one rfl) (.cons (CellsOf.one rfl) (.cons (CellsOf.one rfl) (.cons (CellsOf.one rfl) (.cons (CellsOf.one rfl) .nil))))) rfl) <| WL.p rfl rfl rfl (.s 11 rfl (.s 12 rfl .nil)) (q_lit (kd := kEdgeType) (ps := [(0, .tmp 11), (1, .tmp 12)]) (xs := [.tmp 11, .tmp 12]) («as» := [AggA [EqA (strV ([111, 119, 110, 115] : Str)), EqA (.int .i64 3), EqA (.int .i64 0), EqA (.int .i64 0), EqA (.int .i64 (-1)), EqA (.int .i64 1), EqA (.int .i64 1)], AggA [EqA (strV ([112, 97, 121, 115] : Str)), EqA (.int .i64 1), EqA (.int .i64 1), EqA (.int .i64 0), EqA (.int .i64 (-1)), EqA (.int .i64 0), EqA (.int .i64 (-1))]]) (ys := [(EdgeType.mk ([111, 119, 110, 115] : Str) 3 0 0 (-1) 1 1), (EdgeType.mk ([112, 97, 121, 115] : Str) 1 1 0 (-1) 0 (-1))]) rfl rfl el23 rfl gr96 rfl rfl rfl (.cons (CellsOf.agg _) (.cons (CellsOf.agg _) .nil))) <| WL.p rfl rfl rfl (.s 10 rfl (.s 13 rfl .nil)) (q_build (is := [0, 1]) (xs := [.tmp 10, .tmp 13]) (L := [SlcA kNodeType ([(NodeType.mk ([65, 99, 99, 111, 117, 110, 116] : Str) (-1) true ([(Attr.mk ([98, 97, 108, 97, 110, 99, 101] : Str) (-1000) 1000 [])])), (NodeType.mk ([67, 97, 115, 104] : Str) 0 false []), (NodeType.mk ([76, 111, 97, 110] : Str) 0 false ([(Attr.mk ([115, 116, 97, 116, 101] : Str) 0 1 ([([111, 112, 101, 110] : Str), ([99, 108, 111, 115, 101, 100] : Str)]))])), (NodeType.mk ([80, 101, 114, 115, 111, 110] : Str) (-1) false [])]), SlcA kEdgeType ([(EdgeType.mk ([111, 119, 110, 115] : Str) 3 0 0 (-1) 1 1), (EdgeType.mk ([112, 97, 121, 115] : Str) 1 1 0 (-1) 0 (-1))])]) rfl rfl z25 pl25 rfl rfl (.cons (CellsOf.one rfl) (.cons (CellsOf.one rfl) .nil)) rfl) <| WL.w0 [0] rfl (Wanted.plain rfl) rfl (.s 0 rfl (.s 14 rfl .nil)) (w_store (L := [SlcA kNodeType ([(NodeType.mk ([65, 99, 99, 111, 117, 110, 116] : Str) (-1) true ([(Attr.mk ([98, 97, 108, 97, 110, 99, 101] : Str) (-1000) 1000 [])])), (NodeType.mk ([67, 97, 115, 104] : Str) 0 false []), (NodeType.mk ([76, 111, 97, 110] : Str) 0 false ([(Attr.mk ([115, 116, 97, 116, 101] : Str) 0 1 ([([111, 112, 101, 110] : Str), ([99, 108, 111, 115, 101, 100] : Str)]))])), (NodeType.mk ([80, 101, 114, 115, 111, 110] : Str) (-1) false [])]), SlcA kEdgeType ([(EdgeType.mk ([111, 119, 110, 115] : Str) 3 0 0 (-1) 1 1), (EdgeType.mk ([112, 97, 121, 115] : Str) 1 1 0 (-1) 0 (-1))])]) rfl sh25 (CellsOf.agg _) rfl rfl (leB rfl) rfl) ?_
 rintro _ _ ⟨rfl, rfl⟩
 refine WL.nil <| QN.to (StTo.still [0] 0 rfl rfl) <| QN.weaken (env' := [(0, _)]) (.one rfl (.nil _)) <| QN.then_ <| W.ret ?_
 cases h
 exact QR.f1 rfl rfl (.ps rfl sh25 rfl) (.id _)
theorem law17_bank.con (k : Nat) (r : Graph) (h : law17_bank k = some r) : Con Tryz.prog 31 [] [] (RA (AggA [SlcA kInt r.fNodes, SlcA kEdge r.fEdges])) := by
 unfold law17_bank at h
 refine Con.of (N := 6) Tryz.func31 rfl rfl rfl fun w0_ fg_ => W.seq <| W.region <| WL.w [] rfl (Wanted.plain rfl) rfl rfl .nil (w_alloc rfl z29 (l := [EqA (.slice none 0 0), EqA (.slice none 0 0)]) rfl) ?_
 rintro _ _ ⟨b3090, rfl, rfl⟩
 refine WL.nil <| QN.then_ <| W.seq <| W.region <| WL.p rfl rfl rfl (.k (.k (.k .nil))) (q_lit (kd := kInt) (ps := [(0, .const (.int .i64 3)), (1, .const (.int .i64 1)), (2, .const (.int .i64 1))]) (xs := [.const (.int .i64 3), .const (.int .i64 1), .const (.int .i64 1)]) («as» := [EqA (.int .i64 3), EqA (.int .i64 1), EqA (.int .i64 1)]) (ys := [3, 1, 1]) rfl rfl el26 rfl gr3 rfl rfl rfl (.cons (CellsOf.one rfl) (.cons (CellsOf.one rfl) (.cons (CellsOf.one rfl) .nil)))) <| WL.p rfl rfl rfl (.k (.k (.k .nil))) (q_build (is := [0, 1, 2]) (xs := [.const (.int .i64 0), .const (.int .i64 0), .const (.int .i64 1)]) (L := [EqA (.int .i64 0), EqA (.int .i64 0), EqA (.int .i64 1)]) rfl rfl z77 pl77 rfl rfl (.cons (CellsOf.one rfl) (.cons (CellsOf.one rfl) (.cons (CellsOf.one rfl) .nil))) rfl) <| WL.p rfl rfl rfl (.k (.k (.k .nil))) (q_build (is := [0, 1, 2]) (xs := [.const (.int .i64 0), .const (.int .i64 0), .const (.int .i64 2)]) (L := [EqA (.int .i64 0), EqA (.int .i64 0), EqA (.int .i64 2)]) rfl rfl z77 pl77 rfl rfl (.cons (CellsOf.one rfl) (.cons (CellsOf.one rfl) (.cons (CellsOf.one rfl) .nil))) rfl) <| WL.p rfl rfl rfl (.s 2 rfl (.s 3 rfl .nil)) (q_lit (kd := kEdge) (ps := [(0, .tmp 2), (1, .tmp 3)]) (xs := [.tmp 2, .tmp 3]) («as» := [AggA [EqA (.int .i64 0), EqA (.int .i64 0), EqA (.int .i64 1)], AggA [EqA (.int .i64 0), EqA (.int .i64 0), EqA (.int .i64 2)]]) (ys := [(Edge.mk 0 0 1), (Edge.mk 0 0 2)]) rfl rfl el27 rfl gr77 rfl rfl rfl (.cons (CellsOf.agg _) (.cons (CellsOf.agg _) .nil))) <| WL.p rfl rfl rfl (.s 1 rfl (.s 4 rfl .nil)) (q_build (is := [0, 1]) (xs := [.tmp 1, .tmp 4]) (L := [SlcA kInt [3, 1, 1], SlcA kEdge [(Edge.mk 0 0 1), (Edge.mk 0 0 2)]]) rfl rfl z29 pl29 rfl rfl (.cons (CellsOf.one rfl) (.cons (CellsOf.one rfl) .nil)) rfl) <| WL.w0 [0] rfl (Wanted.plain rfl) rfl (.s 0 rfl (.s 5 rfl .nil)) (w_store (L := [SlcA kInt [3, 1, 1], SlcA kEdge [(Edge.mk 0 0 1), (Edge.mk 0 0 2)]]) rfl sh29 (CellsOf.agg _) rfl rfl (leB rfl) rfl) ?_
 rintro _ _ ⟨rfl, rfl⟩
 refine WL.nil <| QN.to (StTo.still [0] 0 rfl rfl) <| QN.then_ <| W.ret ?_
 cases h
 exact QR.f1 rfl rfl (.ps rfl sh29 rfl) (.id _)
theorem token_letter.con (k : Nat) (a0 : Int) (r : Bool) (h : token_letter k a0 = some r) : Con Tryz.prog 156 [] [EqA (.int .u8 a0)] (RA (EqA (.bool r))) := by
 unfold token_letter at h
 refine Con.of (N := 17) Tryz.func156 rfl rfl rfl fun w0_ fg_ => W.seq <| W.region <| WL.p rfl rfl rfl (.k .nil) (q_assign rfl) <| WL.nil <| QN.then_ <| W.seq ?_
 refine W.jn1 (Γ := Unit) (fun (_ : Unit) (x2 : Bool) => [(2, EqA (.bool x2))]) (fun (_ : Unit) (_ : Bool) => []) h (fun _ x2 h => ?_) (fun j3096 Kj3096 h => ?_)
 ·refine QN.then_ <| W.ret ?_
  cases h
  exact QR.f1 rfl rfl (.t rfl) (.id _)
 ·refine W.region <| WL.p rfl rfl rfl (.s 0 rfl .nil) (q_move rfl) <| WL.p rfl rfl rfl (.s 3 rfl (.k .nil)) (q_int rfl rfl) <| WL.p rfl rfl rfl (.s 4 rfl .nil) (q_move rfl) ?_
  rcases bif_s h with ⟨hb3097, h⟩ | ⟨hb3097, h⟩
  ·refine WL.q (Wanted.on rfl rfl rfl hb3097) rfl rfl (.s 0 rfl .nil) (q_move rfl).o <| WL.q (Wanted.on rfl rfl rfl hb3097) rfl rfl (.s 6 rfl (.k .nil)) (q_int rfl rfl).o <| WL.p rfl rfl rfl (.s 5 rfl (.s 7 rfl .nil)) (q_pickT rfl hb3097) <| WL.p rfl rfl rfl (.s 8 rfl .nil) (q_move rfl) ?_
   rcases bif_s h with ⟨hb3098, h⟩ | ⟨hb3098, h⟩
   ·refine WL.skip (Unwanted.on rfl rfl rfl hb3098) rfl rfl <| WL.skip (Unwanted.on rfl rfl rfl hb3098) rfl rfl <| WL.skip (Unwanted.on rfl rfl rfl hb3098) rfl rfl <| WL.skip (Unwanted.und rfl rfl rfl) rfl rfl <| WL.skip (Unwanted.und rfl rfl rfl) rfl rfl <| WL.skip (Unwanted.on rfl rfl rfl hb3098) rfl rfl <| WL.p rfl rfl rfl (.s 9 rfl (.k .nil)) (q_pickT rfl hb3098) <| WL.p rfl rfl rfl (.s 16 rfl .nil) (q_assign rfl) <| WL.nil ?_
    exact QN.weaken (.one rfl (.nil _)) (Kj3096 () true h)
   ·refine WL.q (Wanted.on rfl rfl rfl hb3098) rfl rfl (.s 0 rfl .nil) (q_move rfl).o <| WL.q (Wanted.on rfl rfl rfl hb3098) rfl rfl (.s 10 rfl (.k .nil)) (q_int rfl rfl).o <| WL.q (Wanted.on rfl rfl rfl hb3098) rfl rfl (.s 11 rfl .nil) (q_move rfl).o ?_
    rcases bif_s h with ⟨hb3099, h⟩ | ⟨hb3099, h⟩
    ·refine WL.q (Wanted.on rfl rfl rfl hb3099) rfl rfl (.s 0 rfl .nil) (q_move rfl).o <| WL.q (Wanted.on rfl rfl rfl hb3099) rfl rfl (.s 13 rfl (.k .nil)) (q_int rfl rfl).o <| WL.q (Wanted.on rfl rfl rfl hb3098) rfl rfl (.s 12 rfl (.s 14 rfl .nil)) (q_pickT rfl hb3099).o <| WL.p rfl rfl rfl (.s 9 rfl (.s 15 rfl .nil)) (q_pickF rfl hb3098) <| WL.p rfl rfl rfl (.s 16 rfl .nil) (q_assign rfl) <| WL.nil ?_
     exact QN.weaken (.one rfl (.nil _)) (Kj3096 () (decide (a0 ≤ 90)) h)
    ·refine WL.skip (Unwanted.on rfl rfl rfl hb3099) rfl rfl <| WL.skip (Unwanted.on rfl rfl rfl hb3099) rfl rfl <| WL.q (Wanted.on rfl rfl rfl hb3098) rfl rfl (.s 12 rfl (.k .nil)) (q_pickF rfl hb3099).o <| WL.p rfl rfl rfl (.s 9 rfl (.s 15 rfl .nil)) (q_pickF rfl hb3098) <| WL.p rfl rfl rfl (.s 16 rfl .nil) (q_assign rfl) <| WL.nil ?_
     exact QN.weaken (.one rfl (.nil _)) (Kj3096 () false h)
  ·refine WL.skip (Unwanted.on rfl rfl rfl hb3097) rfl rfl <| WL.skip (Unwanted.on rfl rfl rfl hb3097) rfl rfl <| WL.p rfl rfl rfl (.s 5 rfl (.k .nil)) (q_pickF rfl hb3097) <| WL.p rfl rfl rfl (.s 8 rfl .nil) (q_move rfl) <| WL.q (Wanted.on rfl rfl rfl rfl) rfl rfl (.s 0 rfl .nil) (q_move rfl).o <| WL.q (Wanted.on rfl rfl rfl rfl) rfl rfl (.s 10 rfl (.k .nil)) (q_int rfl rfl).o <| WL.q (Wanted.on rfl rfl rfl rfl) rfl rfl (.s 11 rfl .nil) (q_move rfl).o ?_
   rcases bif_s h with ⟨hb3100, h⟩ | ⟨hb3100, h⟩
   ·refine WL.q (Wanted.on rfl rfl rfl hb3100) rfl rfl (.s 0 rfl .nil) (q_move rfl).o <| WL.q (Wanted.on rfl rfl rfl hb3100) rfl rfl (.s 13 rfl (.k .nil)) (q_int rfl rfl).o <| WL.q (Wanted.on rfl rfl rfl rfl) rfl rfl (.s 12 rfl (.s 14 rfl .nil)) (q_pickT rfl hb3100).o <| WL.p rfl rfl rfl (.s 9 rfl (.s 15 rfl .nil)) (q_pickF rfl rfl) <| WL.p rfl rfl rfl (.s 16 rfl .nil) (q_assign rfl) <| WL.nil ?_
    exact QN.weaken (.one rfl (.nil _)) (Kj3096 () (decide (a0 ≤ 90)) h)
   ·refine WL.skip (Unwanted.on rfl rfl rfl hb3100) rfl rfl <| WL.skip (Unwanted.on rfl rfl rfl hb3100) rfl rfl <| WL.q (Wanted.on rfl rfl rfl rfl) rfl rfl (.s 12 rfl (.k .nil)) (q_pickF rfl hb3100).o <| WL.p rfl rfl rfl (.s 9 rfl (.s 15 rfl .nil)) (q_pickF rfl rfl) <| WL.p rfl rfl rfl (.s 16 rfl .nil) (q_assign rfl) <| WL.nil ?_
    exact QN.weaken (.one rfl (.nil _)) (Kj3096 () false h)
theorem token_run.con (k : Nat) (a0 : Str) (a1 : (Int → Option Bool)) (r : Int) (h : token_run k a0 a1 = some r) : Con Tryz.prog 157 [] [EqA (strV a0), FnA Tryz.prog (fun (x : Int) => [EqA (.int .u8 x)]) (fun (y : Bool) => EqA (.bool y)) a1] (RA (EqA (.int .i64 r))) := by
 unfold token_run at h
 refine Con.of (N := 20) Tryz.func157 rfl rfl rfl fun w0_ fg_ => W.seq <| W.region <| WL.p rfl rfl rfl (.k .nil) (q_assign rfl) <| WL.nil <| QN.then_ <| W.seq <| W.region <| WL.p rfl rfl rfl (.k .nil) (q_assign rfl) <| WL.nil <| QN.then_ <| W.seq <| W.block ?_
 refine W.loop1 (Γ := Unit) (fun (_ : Unit) (x5 : Int) => [(0, EqA (strV a0)), (1, FnA Tryz.prog (fun (x : Int) => [EqA (.int .u8 x)]) (fun (y : Bool) => EqA (.bool y)) a1), (5, EqA (.int .i64 x5))]) (fun (_ : Unit) (_ : Int) => []) h () (.one rfl (.one rfl (.one rfl (.nil _)))) rfl (fun rec0 K0 next0 _ x5 h => ?_)
 unfold token_run.b0 at h
 refine W.seq <| W.seq ?_
 refine W.jn1 (Γ := Unit) (fun (_ : Unit) (x16 : Bool) => [(0, EqA (strV a0)), (1, FnA Tryz.prog (fun (x : Int) => [EqA (.int .u8 x)]) (fun (y : Bool) => EqA (.bool y)) a1), (5, EqA (.int .i64 x5)), (16, EqA (.bool x16))]) (fun (_ : Unit) (_ : Bool) => []) h (fun _ x16 h => ?_) (fun j3125 Kj3125 h => ?_)
 ·refine QN.then_ ?_
  refine W.condP h rfl (fun hb3126 h => ?_) (fun hb3126 h => ?_)
  ·refine W.skip <| QN.then_ <| W.block <| W.region <| WL.p rfl rfl rfl (.s 5 rfl .nil) (q_move rfl) ?_
   obtain ⟨c3127, h⟩ := ite_n h
   refine WL.p rfl rfl rfl (.s 17 rfl (.k .nil)) (q_addR rfl c3127) <| WL.p rfl rfl rfl (.s 18 rfl .nil) (q_assign rfl) <| WL.nil <| QN.block ?_
   exact next0 () (x5 + 1) _ h (.one rfl (.one rfl (.one rfl (.nil _))))
  ·refine W.exit <| QX.then_ <| QX.then_ <| QX.here <| QN.then_ <| W.seq <| W.region <| WL.p rfl rfl rfl (.s 5 rfl .nil) (q_move rfl) <| WL.p rfl rfl rfl (.s 19 rfl .nil) (q_assign rfl) <| WL.nil <| QN.then_ <| W.ret ?_
   cases h
   exact QR.f1 rfl rfl (.t rfl) (.id _)
 ·refine W.region <| WL.p rfl rfl rfl (.s 5 rfl .nil) (q_move rfl) <| WL.p rfl rfl rfl (.s 0 rfl .nil) (q_move rfl) <| WL.p rfl rfl rfl (.s 7 rfl .nil) (q_slen (s := a0) rfl iss9) <| WL.p rfl rfl rfl (.s 6 rfl (.s 8 rfl .nil)) (q_int rfl rfl) <| WL.p rfl rfl rfl (.s 9 rfl .nil) (q_move rfl) ?_
  rcases bif_s h with ⟨hb3128, h⟩ | ⟨hb3128, h⟩
  ·refine WL.q (Wanted.on rfl rfl rfl hb3128) rfl rfl (.s 1 rfl .nil) (q_move rfl).o <| WL.q (Wanted.on rfl rfl rfl hb3128) rfl rfl (.s 0 rfl .nil) (q_move rfl).o <| WL.q (Wanted.on rfl rfl rfl hb3128) rfl rfl (.s 5 rfl .nil) (q_move rfl).o ?_
   obtain ⟨c3129, h⟩ := ite_n h
   refine WL.q (Wanted.on rfl rfl rfl hb3128) rfl rfl (.s 12 rfl (.s 13 rfl .nil)) (q_sindex rfl iss9 c3129.1 c3129.2).o ?_
   obtain ⟨t3130, ht3130, h⟩ := bind_s h
   refine WL.q (Wanted.on rfl rfl rfl hb3128) rfl rfl (.s 11 rfl (.s 14 rfl .nil)) (q_callV («as» := fun (x : Int) => [EqA (.int .u8 x)]) (res := fun (y : Bool) => EqA (.bool y)) (x := (bt a0 x5)) (y := t3130) (xs := [.tmp 14]) rfl ht3130 rfl).o <| WL.p rfl rfl rfl (.s 10 rfl (.s 15 rfl .nil)) (q_pickT rfl hb3128) <| WL.nil ?_
   exact QN.weaken (.one rfl (.one rfl (.one rfl (.one rfl (.nil _))))) (Kj3125 () t3130 h)
  ·refine WL.skip (Unwanted.on rfl rfl rfl hb3128) rfl rfl <| WL.skip (Unwanted.on rfl rfl rfl hb3128) rfl rfl <| WL.skip (Unwanted.on rfl rfl rfl hb3128) rfl rfl <| WL.skip (Unwanted.on rfl rfl rfl hb3128) rfl rfl <| WL.skip (Unwanted.on rfl rfl rfl hb3128) rfl rfl <| WL.p rfl rfl rfl (.s 10 rfl (.k .nil)) (q_pickF rfl hb3128) <| WL.nil ?_
   exact QN.weaken (.one rfl (.one rfl (.one rfl (.one rfl (.nil _))))) (Kj3125 () false h)
theorem token_digit.con (k : Nat) (a0 : Int) (r : Bool) (h : token_digit k a0 = some r) : Con Tryz.prog 159 [] [EqA (.int .u8 a0)] (RA (EqA (.bool r))) := by
 unfold token_digit at h
 refine Con.of (N := 9) Tryz.func159 rfl rfl rfl fun w0_ fg_ => W.seq <| W.region <| WL.p rfl rfl rfl (.k .nil) (q_assign rfl) <| WL.nil <| QN.then_ <| W.seq ?_
 refine W.jn1 (Γ := Unit) (fun (_ : Unit) (x2 : Bool) => [(2, EqA (.bool x2))]) (fun (_ : Unit) (_ : Bool) => []) h (fun _ x2 h => ?_) (fun j3133 Kj3133 h => ?_)
 ·refine QN.then_ <| W.ret ?_
  cases h
  exact QR.f1 rfl rfl (.t rfl) (.id _)
 ·refine W.region <| WL.p rfl rfl rfl (.s 0 rfl .nil) (q_move rfl) <| WL.p rfl rfl rfl (.s 3 rfl (.k .nil)) (q_int rfl rfl) <| WL.p rfl rfl rfl (.s 4 rfl .nil) (q_move rfl) ?_
  rcases bif_s h with ⟨hb3134, h⟩ | ⟨hb3134, h⟩
  ·refine WL.q (Wanted.on rfl rfl rfl hb3134) rfl rfl (.s 0 rfl .nil) (q_move rfl).o <| WL.q (Wanted.on rfl rfl rfl hb3134) rfl rfl (.s 6 rfl (.k .nil)) (q_int rfl rfl).o <| WL.p rfl rfl rfl (.s 5 rfl (.s 7 rfl .nil)) (q_pickT rfl hb3134) <| WL.p rfl rfl rfl (.s 8 rfl .nil) (q_assign rfl) <| WL.nil ?_
   exact QN.weaken (.one rfl (.nil _)) (Kj3133 () (decide (a0 ≤ 57)) h)
  ·refine WL.skip (Unwanted.on rfl rfl rfl hb3134) rfl rfl <| WL.skip (Unwanted.on rfl rfl rfl hb3134) rfl rfl <| WL.p rfl rfl rfl (.s 5 rfl (.k .nil)) (q_pickF rfl hb3134) <| WL.p rfl rfl rfl (.s 8 rfl .nil) (q_assign rfl) <| WL.nil ?_
   exact QN.weaken (.one rfl (.nil _)) (Kj3133 () false h)
theorem token_part.con (k : Nat) (a0 : Int) (r : Bool) (h : token_part k a0 = some r) : Con Tryz.prog 158 [] [EqA (.int .u8 a0)] (RA (EqA (.bool r))) := by
 unfold token_part at h
 refine Con.of (N := 13) Tryz.func158 rfl rfl rfl fun w0_ fg_ => W.seq <| W.region <| WL.p rfl rfl rfl (.k .nil) (q_assign rfl) <| WL.nil <| QN.then_ <| W.seq ?_
 refine W.jn1 (Γ := Unit) (fun (_ : Unit) (x2 : Bool) => [(2, EqA (.bool x2))]) (fun (_ : Unit) (_ : Bool) => []) h (fun _ x2 h => ?_) (fun j3140 Kj3140 h => ?_)
 ·refine QN.then_ <| W.ret ?_
  cases h
  exact QR.f1 rfl rfl (.t rfl) (.id _)
 ·refine W.region <| WL.p rfl rfl rfl (.s 0 rfl .nil) (q_move rfl) ?_
  obtain ⟨t3141, ht3141, h⟩ := bind_s h
  refine WL.p rfl rfl rfl (.s 3 rfl .nil) (q_call (f := 156) (A := EqA (.bool t3141)) (xs := [.tmp 3]) («as» := [EqA (.int .u8 a0)]) rfl ca156 (token_letter.con k a0 t3141 ht3141) rfl) <| WL.p rfl rfl rfl (.s 4 rfl .nil) (q_move rfl) ?_
  rcases bif_s h with ⟨hb3142, h⟩ | ⟨hb3142, h⟩
  ·refine WL.skip (Unwanted.on rfl rfl rfl hb3142) rfl rfl <| WL.skip (Unwanted.on rfl rfl rfl hb3142) rfl rfl <| WL.p rfl rfl rfl (.s 5 rfl (.k .nil)) (q_pickT rfl hb3142) <| WL.p rfl rfl rfl (.s 8 rfl .nil) (q_move rfl) <| WL.skip (Unwanted.on rfl rfl rfl rfl) rfl rfl <| WL.skip (Unwanted.on rfl rfl rfl rfl) rfl rfl <| WL.p rfl rfl rfl (.s 9 rfl (.k .nil)) (q_pickT rfl rfl) <| WL.p rfl rfl rfl (.s 12 rfl .nil) (q_assign rfl) <| WL.nil ?_
   exact QN.weaken (.one rfl (.nil _)) (Kj3140 () true h)
  ·refine WL.q (Wanted.on rfl rfl rfl hb3142) rfl rfl (.s 0 rfl .nil) (q_move rfl).o ?_
   obtain ⟨t3143, ht3143, h⟩ := bind_s h
   refine WL.q (Wanted.on rfl rfl rfl hb3142) rfl rfl (.s 6 rfl .nil) (q_call (f := 159) (A := EqA (.bool t3143)) (xs := [.tmp 6]) («as» := [EqA (.int .u8 a0)]) rfl ca159 (token_digit.con k a0 t3143 ht3143) rfl).o <| WL.p rfl rfl rfl (.s 5 rfl (.s 7 rfl .nil)) (q_pickF rfl hb3142) <| WL.p rfl rfl rfl (.s 8 rfl .nil) (q_move rfl) ?_
   rcases bif_s h with ⟨hb3144, h⟩ | ⟨hb3144, h⟩
   ·refine WL.skip (Unwanted.on rfl rfl rfl hb3144) rfl rfl <| WL.skip (Unwanted.on rfl rfl rfl hb3144) rfl rfl <| WL.p rfl rfl rfl (.s 9 rfl (.k .nil)) (q_pickT rfl hb3144) <| WL.p rfl rfl rfl (.s 12 rfl .nil) (q_assign rfl) <| WL.nil ?_
    exact QN.weaken (.one rfl (.nil _)) (Kj3140 () true h)
   ·refine WL.q (Wanted.on rfl rfl rfl hb3144) rfl rfl (.s 0 rfl .nil) (q_move rfl).o <| WL.q (Wanted.on rfl rfl rfl hb3144) rfl rfl (.s 10 rfl (.k .nil)) (q_int rfl rfl).o <| WL.p rfl rfl rfl (.s 9 rfl (.s 11 rfl .nil)) (q_pickF rfl hb3144) <| WL.p rfl rfl rfl (.s 12 rfl .nil) (q_assign rfl) <| WL.nil ?_
    exact QN.weaken (.one rfl (.nil _)) (Kj3140 () (a0 == 95) h)
theorem token_quoted_1.con (k : Nat) (a0 : Int) (r : Bool) (h : token_quoted_1 k a0 = some r) : Con Tryz.prog 165 [] [EqA (.int .u8 a0)] (RA (EqA (.bool r))) := by
 unfold token_quoted_1 at h
 refine Con.of (N := 13) Tryz.func165 rfl rfl rfl fun w0_ fg_ => W.seq <| W.region <| WL.p rfl rfl rfl (.k .nil) (q_assign rfl) <| WL.nil <| QN.then_ <| W.seq ?_
 refine W.jn1 (Γ := Unit) (fun (_ : Unit) (x2 : Bool) => [(2, EqA (.bool x2))]) (fun (_ : Unit) (_ : Bool) => []) h (fun _ x2 h => ?_) (fun j3148 Kj3148 h => ?_)
 ·refine QN.then_ <| W.ret ?_
  cases h
  exact QR.f1 rfl rfl (.t rfl) (.id _)
 ·refine W.region <| WL.p rfl rfl rfl (.s 0 rfl .nil) (q_move rfl) <| WL.p rfl rfl rfl (.s 3 rfl (.k .nil)) (q_int rfl rfl) <| WL.p rfl rfl rfl (.s 4 rfl .nil) (q_move rfl) ?_
  rcases bif_s h with ⟨hb3149, h⟩ | ⟨hb3149, h⟩
  ·refine WL.q (Wanted.on rfl rfl rfl hb3149) rfl rfl (.s 0 rfl .nil) (q_move rfl).o <| WL.q (Wanted.on rfl rfl rfl hb3149) rfl rfl (.s 6 rfl (.k .nil)) (q_int rfl rfl).o <| WL.p rfl rfl rfl (.s 5 rfl (.s 7 rfl .nil)) (q_pickT rfl hb3149) <| WL.p rfl rfl rfl (.s 8 rfl .nil) (q_move rfl) ?_
   rcases bif_s h with ⟨hb3150, h⟩ | ⟨hb3150, h⟩
   ·refine WL.q (Wanted.on rfl rfl rfl hb3150) rfl rfl (.s 0 rfl .nil) (q_move rfl).o <| WL.q (Wanted.on rfl rfl rfl hb3150) rfl rfl (.s 10 rfl (.k .nil)) (q_int rfl rfl).o <| WL.p rfl rfl rfl (.s 9 rfl (.s 11 rfl .nil)) (q_pickT rfl hb3150) <| WL.p rfl rfl rfl (.s 12 rfl .nil) (q_assign rfl) <| WL.nil ?_
    exact QN.weaken (.one rfl (.nil _)) (Kj3148 () (a0 != 34) h)
   ·refine WL.skip (Unwanted.on rfl rfl rfl hb3150) rfl rfl <| WL.skip (Unwanted.on rfl rfl rfl hb3150) rfl rfl <| WL.p rfl rfl rfl (.s 9 rfl (.k .nil)) (q_pickF rfl hb3150) <| WL.p rfl rfl rfl (.s 12 rfl .nil) (q_assign rfl) <| WL.nil ?_
    exact QN.weaken (.one rfl (.nil _)) (Kj3148 () false h)
  ·refine WL.skip (Unwanted.on rfl rfl rfl hb3149) rfl rfl <| WL.skip (Unwanted.on rfl rfl rfl hb3149) rfl rfl <| WL.p rfl rfl rfl (.s 5 rfl (.k .nil)) (q_pickF rfl hb3149) <| WL.p rfl rfl rfl (.s 8 rfl .nil) (q_move rfl) <| WL.skip (Unwanted.on rfl rfl rfl rfl) rfl rfl <| WL.skip (Unwanted.on rfl rfl rfl rfl) rfl rfl <| WL.p rfl rfl rfl (.s 9 rfl (.k .nil)) (q_pickF rfl rfl) <| WL.p rfl rfl rfl (.s 12 rfl .nil) (q_assign rfl) <| WL.nil ?_
   exact QN.weaken (.one rfl (.nil _)) (Kj3148 () false h)
theorem token_quoted.con (k : Nat) (a0 : Str) (r : (Int × Int)) (h : token_quoted k a0 = some r) : Con Tryz.prog 160 [] [EqA (strV a0)] (RA (TupA [EqA (.int .i64 r.1), EqA (.int .i64 r.2)])) := by
 unfold token_quoted at h
 refine Con.of (N := 24) Tryz.func160 rfl rfl rfl fun w0_ fg_ => W.seq <| W.region <| WL.p rfl rfl rfl (.k .nil) (q_assign rfl) <| WL.p rfl rfl rfl (.k .nil) (q_assign rfl) <| WL.nil <| QN.then_ <| W.seq <| W.region <| WL.p rfl rfl rfl (.s 0 rfl .nil) (q_move rfl) ?_
 obtain ⟨c3151, h⟩ := ite_n h
 refine WL.p rfl rfl rfl (.s 5 rfl (.k .nil)) (q_ssubL rfl iss9 c3151.1 c3151.2) ?_
 obtain ⟨t3152, ht3152, h⟩ := bind_s h
 refine WL.p rfl rfl rfl (.s 6 rfl (.f («as» := fun (x : Int) => [EqA (.int .u8 x)]) (res := fun (y : Bool) => EqA (.bool y)) (p := fun x => token_quoted_1 k x) ca165 (fun x y hp => token_quoted_1.con k x y hp) .nil)) (q_call (f := 157) (A := EqA (.int .i64 t3152)) (xs := [.tmp 6, .func 165]) («as» := [EqA (strV (a0.drop (1 : Int).toNat)), FnA Tryz.prog (fun (x : Int) => [EqA (.int .u8 x)]) (fun (y : Bool) => EqA (.bool y)) (fun x => token_quoted_1 k x)]) rfl ca157 (token_run.con k (a0.drop (1 : Int).toNat) (fun x => token_quoted_1 k x) t3152 ht3152) rfl) <| WL.p rfl rfl rfl (.s 7 rfl .nil) (q_assign rfl) <| WL.nil <| QN.then_ <| W.seq <| W.seq ?_
 refine W.jn1 (Γ := Unit) (fun (_ : Unit) (x19 : Bool) => [(4, EqA (.int .i64 t3152)), (19, EqA (.bool x19))]) (fun (_ : Unit) (_ : Bool) => []) h (fun _ x19 h => ?_) (fun j3158 Kj3158 h => ?_)
 ·refine QN.then_ ?_
  refine W.condP h rfl (fun hb3159 h => ?_) (fun hb3159 h => ?_)
  ·refine W.seq <| W.region <| WL.p rfl rfl rfl (.k .nil) (q_assign rfl) <| WL.p rfl rfl rfl (.k .nil) (q_assign rfl) <| WL.nil <| QN.then_ <| W.ret <| QR.then_ ?_
   cases h
   exact QR.f2 rfl rfl (.t rfl) (.t rfl) (.id _)
  ·refine W.skip <| QN.then_ <| W.seq <| W.seq <| W.region <| WL.p rfl rfl rfl (.s 4 rfl .nil) (q_move rfl) <| WL.p rfl rfl rfl (.s 20 rfl (.k .nil)) (q_int rfl rfl) <| WL.nil <| QN.then_ ?_
   refine W.condP h rfl (fun hb3160 h => ?_) (fun hb3160 h => ?_)
   ·refine W.seq <| W.region <| WL.p rfl rfl rfl (.k .nil) (q_assign rfl) <| WL.p rfl rfl rfl (.k .nil) (q_assign rfl) <| WL.nil <| QN.then_ <| W.ret <| QR.then_ ?_
    cases h
    exact QR.f2 rfl rfl (.t rfl) (.t rfl) (.id _)
   ·refine W.skip <| QN.then_ <| W.seq <| W.region <| WL.p rfl rfl rfl (.s 4 rfl .nil) (q_move rfl) ?_
    obtain ⟨c3161, h⟩ := ite_n h
    refine WL.p rfl rfl rfl (.s 22 rfl (.k .nil)) (q_addR rfl c3161) <| WL.p rfl rfl rfl (.s 23 rfl .nil) (q_assign rfl) <| WL.p rfl rfl rfl (.k .nil) (q_assign rfl) <| WL.nil <| QN.then_ <| W.ret ?_
    cases h
    exact QR.f2 rfl rfl (.t rfl) (.t rfl) (.id _)
 ·refine W.region <| WL.p rfl rfl rfl (.s 4 rfl .nil) (q_move rfl) ?_
  obtain ⟨c3162, h⟩ := ite_n h
  refine WL.p rfl rfl rfl (.k (.s 8 rfl .nil)) (q_addR rfl c3162) <| WL.p rfl rfl rfl (.s 0 rfl .nil) (q_move rfl) <| WL.p rfl rfl rfl (.s 10 rfl .nil) (q_slen (s := a0) rfl iss9) <| WL.p rfl rfl rfl (.s 9 rfl (.s 11 rfl .nil)) (q_int rfl rfl) <| WL.p rfl rfl rfl (.s 12 rfl .nil) (q_move rfl) ?_
  rcases bif_s h with ⟨hb3163, h⟩ | ⟨hb3163, h⟩
  ·refine WL.skip (Unwanted.on rfl rfl rfl hb3163) rfl rfl <| WL.skip (Unwanted.on rfl rfl rfl hb3163) rfl rfl <| WL.skip (Unwanted.on rfl rfl rfl hb3163) rfl rfl <| WL.skip (Unwanted.on rfl rfl rfl hb3163) rfl rfl <| WL.skip (Unwanted.on rfl rfl rfl hb3163) rfl rfl <| WL.p rfl rfl rfl (.s 13 rfl (.k .nil)) (q_pickT rfl hb3163) <| WL.nil ?_
   exact QN.weaken (.one rfl (.one rfl (.nil _))) (Kj3158 () true h)
  ·refine WL.q (Wanted.on rfl rfl rfl hb3163) rfl rfl (.s 0 rfl .nil) (q_move rfl).o <| WL.q (Wanted.on rfl rfl rfl hb3163) rfl rfl (.s 4 rfl .nil) (q_move rfl).o ?_
   obtain ⟨c3164, h⟩ := ite_n h
   refine WL.q (Wanted.on rfl rfl rfl hb3163) rfl rfl (.k (.s 15 rfl .nil)) (q_addR rfl c3164).o ?_
   obtain ⟨c3165, h⟩ := ite_n h
   refine WL.q (Wanted.on rfl rfl rfl hb3163) rfl rfl (.s 14 rfl (.s 16 rfl .nil)) (q_sindex rfl iss9 c3165.1 c3165.2).o <| WL.q (Wanted.on rfl rfl rfl hb3163) rfl rfl (.s 17 rfl (.k .nil)) (q_int rfl rfl).o <| WL.p rfl rfl rfl (.s 13 rfl (.s 18 rfl .nil)) (q_pickF rfl hb3163) <| WL.nil ?_
   exact QN.weaken (.one rfl (.one rfl (.nil _))) (Kj3158 () ((bt a0 (1 + t3152)) != 34) h)
theorem slices_Index_string.con (k : Nat) (a0 : (List Str)) (a1 : Str) (r : Int) (h : slices_Index_string k a0 a1 = some r) : Con Tryz.prog 163 [] [SlcA kStr a0, EqA (strV a1)] (RA (EqA (.int .i64 r))) := by
 unfold slices_Index_string at h
 refine Con.of (N := 19) Tryz.func163 rfl rfl rfl fun w0_ fg_ => W.seq <| W.region <| WL.p rfl rfl rfl (.k .nil) (q_assign rfl) <| WL.nil <| QN.then_ <| W.seq <| W.seq <| W.region <| WL.p rfl rfl rfl (.s 0 rfl .nil) (q_move rfl) <| WL.p rfl rfl rfl (.s 6 rfl .nil) (q_len rfl elS89) <| WL.p rfl rfl rfl (.k .nil) (q_move rfl) <| WL.nil ?_
 refine QN.then_ <| W.block ?_
 refine W.loop1 (Γ := Unit) (fun (_ : Unit) (x8 : Int) => [(0, SlcA kStr a0), (1, EqA (strV a1)), (7, EqA (.int .i64 (a0.length : Int))), (8, EqA (.int .i64 x8))]) (fun (_ : Unit) (_ : Int) => []) h () (.one rfl (.one rfl (.one rfl (.one rfl (.nil _))))) rfl (fun rec0 K0 next0 _ x8 h => ?_)
 unfold slices_Index_string.b0 at h
 refine W.seq <| W.region <| WL.p rfl rfl rfl (.s 8 rfl (.s 7 rfl .nil)) (q_int rfl rfl) <| WL.nil <| QN.then_ <| W.seq ?_
 refine W.condP h rfl (fun hb3174 h => ?_) (fun hb3174 h => ?_)
 ·refine W.skip <| QN.then_ <| W.seq <| W.block <| W.seq <| W.region <| WL.p rfl rfl rfl (.s 8 rfl .nil) (q_move rfl) <| WL.p rfl rfl rfl (.s 10 rfl .nil) (q_assign rfl) <| WL.nil <| QN.then_ <| W.seq <| W.region <| WL.p rfl rfl rfl (.s 1 rfl .nil) (q_move rfl) ?_
  refine WL.p rfl rfl rfl (.s 0 rfl .nil) (q_move rfl) <| WL.p rfl rfl rfl (.s 5 rfl .nil) (q_move rfl) ?_
  obtain ⟨c3175, h⟩ := ite_n h
  refine WL.p rfl rfl rfl (.s 12 rfl (.s 13 rfl .nil)) (q_index rfl el89 rfl c3175.1 c3175.2) <| WL.p rfl rfl rfl (.s 14 rfl .nil) (q_load rfl sh9) <| WL.p rfl rfl rfl (.s 11 rfl (.s 15 rfl .nil)) (q_str (s := a1) (t := (rd a0 x8)) rfl) <| WL.nil <| QN.weaken (env' := [(16, _), (5, _), (8, _), (7, _), (1, _), (0, _)]) (.one rfl (.one rfl (.one rfl (.one rfl (.one rfl (.one rfl (.nil _))))))) <| QN.then_ ?_
  refine W.condP h rfl (fun hb3176 h => ?_) (fun hb3176 h => ?_)
  ·refine W.seq <| W.region <| WL.p rfl rfl rfl (.s 5 rfl .nil) (q_move rfl) <| WL.p rfl rfl rfl (.s 17 rfl .nil) (q_assign rfl) <| WL.nil <| QN.weaken (env' := [(4, _)]) (.one rfl (.nil _)) <| QN.then_ <| W.ret <| QR.block <| QR.then_ <| QR.then_ <| QR.block <| QR.then_ ?_
   cases h
   exact QR.f1 rfl rfl (.t rfl) (.id _)
  ·refine W.skip <| QN.block <| QN.then_ <| W.region ?_
   obtain ⟨c3177, h⟩ := ite_n h
   refine WL.p rfl rfl rfl (.s 8 rfl (.k .nil)) (q_addR rfl c3177) <| WL.p rfl rfl rfl (.s 18 rfl .nil) (q_move rfl) <| WL.nil ?_
   exact next0 () (x8 + 1) _ h (.one rfl (.one rfl (.one rfl (.one rfl (.nil _)))))
 ·refine W.exit <| QX.then_ <| QX.then_ <| QX.here <| QN.then_ <| W.seq <| W.region <| WL.p rfl rfl rfl (.k .nil) (q_assign rfl) <| WL.nil <| QN.then_ <| W.ret ?_
  cases h
  exact QR.f1 rfl rfl (.t rfl) (.id _)
theorem slices_Contains_string.con (k : Nat) (a0 : (List Str)) (a1 : Str) (r : Bool) (h : slices_Contains_string k a0 a1 = some r) : Con Tryz.prog 144 [] [SlcA kStr a0, EqA (strV a1)] (RA (EqA (.bool r))) := by
 unfold slices_Contains_string at h
 refine Con.of (N := 9) Tryz.func144 rfl rfl rfl fun w0_ fg_ => W.seq <| W.region <| WL.p rfl rfl rfl (.k .nil) (q_assign rfl) <| WL.nil <| QN.then_ <| W.seq <| W.region <| WL.p rfl rfl rfl (.s 0 rfl .nil) (q_move rfl) <| WL.p rfl rfl rfl (.s 1 rfl .nil) (q_move rfl) ?_
 obtain ⟨t3178, ht3178, h⟩ := bind_s h
 refine WL.p rfl rfl rfl (.s 5 rfl (.s 6 rfl .nil)) (q_call (f := 163) (A := EqA (.int .i64 t3178)) (xs := [.tmp 5, .tmp 6]) («as» := [SlcA kStr a0, EqA (strV a1)]) rfl ca163 (slices_Index_string.con k a0 a1 t3178 ht3178) rfl) <| WL.p rfl rfl rfl (.s 7 rfl (.k .nil)) (q_int rfl rfl) <| WL.p rfl rfl rfl (.s 8 rfl .nil) (q_assign rfl) <| WL.nil <| QN.then_ <| W.ret ?_
 cases h
 exact QR.f1 rfl rfl (.t rfl) (.id _)
theorem token_pair.con (k : Nat) (a0 : Str) (r : Bool) (h : token_pair k a0 = some r) : Con Tryz.prog 161 [] [EqA (strV a0)] (RA (EqA (.bool r))) := by
 unfold token_pair at h
 refine Con.of (N := 12) Tryz.func161 rfl rfl rfl fun w0_ fg_ => W.seq <| W.region <| WL.p rfl rfl rfl (.k .nil) (q_assign rfl) <| WL.nil <| QN.then_ <| W.seq ?_
 refine W.jn1 (Γ := Unit) (fun (_ : Unit) (x2 : Bool) => [(2, EqA (.bool x2))]) (fun (_ : Unit) (_ : Bool) => []) h (fun _ x2 h => ?_) (fun j3183 Kj3183 h => ?_)
 ·refine QN.then_ <| W.ret ?_
  cases h
  exact QR.f1 rfl rfl (.t rfl) (.id _)
 ·refine W.region <| WL.p rfl rfl rfl (.s 0 rfl .nil) (q_move rfl) <| WL.p rfl rfl rfl (.s 3 rfl .nil) (q_slen (s := a0) rfl iss9) <| WL.p rfl rfl rfl (.s 4 rfl (.k .nil)) (q_int rfl rfl) <| WL.p rfl rfl rfl (.s 5 rfl .nil) (q_move rfl) ?_
  rcases bif_s h with ⟨hb3184, h⟩ | ⟨hb3184, h⟩
  ·refine WL.q (Wanted.on rfl rfl rfl hb3184) rfl rfl (.k (.k (.k (.k (.k .nil))))) (q_lit (kd := kStr) (ps := [(0, .const (.string ⟨#[45, 62]⟩)), (1, .const (.string ⟨#[60, 61]⟩)), (2, .const (.string ⟨#[62, 61]⟩)), (3, .const (.string ⟨#[61, 61]⟩)), (4, .const (.string ⟨#[33, 61]⟩))]) (xs := [.const (.string ⟨#[45, 62]⟩), .const (.string ⟨#[60, 61]⟩), .const (.string ⟨#[62, 61]⟩), .const (.string ⟨#[61, 61]⟩), .const (.string ⟨#[33, 61]⟩)]) («as» := [EqA (strV ([45, 62] : Str)), EqA (strV ([60, 61] : Str)), EqA (strV ([62, 61] : Str)), EqA (strV ([61, 61] : Str)), EqA (strV ([33, 61] : Str))]) (ys := [([45, 62] : Str), ([60, 61] : Str), ([62, 61] : Str), ([61, 61] : Str), ([33, 61] : Str)]) rfl rfl el89 rfl gr9 rfl rfl rfl (.cons (CellsOf.one rfl) (.cons (CellsOf.one rfl) (.cons (CellsOf.one rfl) (.cons (CellsOf.one rfl) (.cons (CellsOf.one rfl) .nil)))))).o <| WL.q (Wanted.on rfl rfl rfl hb3184) rfl rfl (.s 0 rfl .nil) (q_move rfl).o ?_
   obtain ⟨c3185, h⟩ := ite_n h
   refine WL.q (Wanted.on rfl rfl rfl hb3184) rfl rfl (.s 8 rfl (.k .nil)) (q_ssubH rfl iss9 c3185.1 c3185.2).o ?_
   obtain ⟨t3186, ht3186, h⟩ := bind_s h
   refine WL.q (Wanted.on rfl rfl rfl hb3184) rfl rfl (.s 7 rfl (.s 9 rfl .nil)) (q_call (f := 144) (A := EqA (.bool t3186)) (xs := [.tmp 7, .tmp 9]) («as» := [SlcA kStr ([([45, 62] : Str), ([60, 61] : Str), ([62, 61] : Str), ([61, 61] : Str), ([33, 61] : Str)]), EqA (strV (a0.take (2 : Int).toNat))]) rfl ca144 (slices_Contains_string.con k ([([45, 62] : Str), ([60, 61] : Str), ([62, 61] : Str), ([61, 61] : Str), ([33, 61] : Str)]) (a0.take (2 : Int).toNat) t3186 ht3186) rfl).o <| WL.p rfl rfl rfl (.s 6 rfl (.s 10 rfl .nil)) (q_pickT rfl hb3184) <| WL.p rfl rfl rfl (.s 11 rfl .nil) (q_assign rfl) <| WL.nil ?_
   exact QN.weaken (.one rfl (.nil _)) (Kj3183 () t3186 h)
  ·refine WL.skip (Unwanted.on rfl rfl rfl hb3184) rfl rfl <| WL.skip (Unwanted.on rfl rfl rfl hb3184) rfl rfl <| WL.skip (Unwanted.on rfl rfl rfl hb3184) rfl rfl <| WL.skip (Unwanted.on rfl rfl rfl hb3184) rfl rfl <| WL.p rfl rfl rfl (.s 6 rfl (.k .nil)) (q_pickF rfl hb3184) <| WL.p rfl rfl rfl (.s 11 rfl .nil) (q_assign rfl) <| WL.nil ?_
   exact QN.weaken (.one rfl (.nil _)) (Kj3183 () false h)
theorem TryzIdx : Extern.find Tryz.f167 = some Extern.BytealgIndexByte.indexByte := by kernel_rfl
theorem stringslite_IndexByte.con (k : Nat) (a0 : Str) (a1 : Int) (r : Int) (h : stringslite_IndexByte k a0 a1 = some r) : Con Tryz.prog 166 [] [EqA (strV a0), EqA (.int .u8 a1)] (RA (EqA (.int .i64 r))) := by
  unfold stringslite_IndexByte at h
  cases h
  refine Con.of (N := 8) Tryz.func166 rfl rfl rfl fun w0_ fg_ => ?_
  refine W.seq (W.region (WL.p rfl rfl rfl (.k .nil) (q_assign rfl) (WL.nil (QN.then_ ?_))))
  refine W.seq (W.region ?_)
  refine WL.p rfl rfl rfl (.s 0 rfl .nil) (q_move rfl) ?_
  refine WL.p rfl rfl rfl (.s 1 rfl .nil) (q_move rfl) ?_
  refine WL.p rfl rfl rfl (.s 5 rfl (.s 6 rfl .nil)) (q_indexByte (f := 167) rfl Tryz.func167 (by kernel_rfl) rfl (by kernel_rfl) TryzIdx) ?_
  refine WL.p rfl rfl rfl (.s 7 rfl .nil) (q_assign rfl) ?_
  refine WL.nil (QN.then_ ?_)
  exact W.ret (QR.f1 rfl rfl (.t rfl) (.id _))
theorem strings_IndexByte.con (k : Nat) (a0 : Str) (a1 : Int) (r : Int) (h : strings_IndexByte k a0 a1 = some r) : Con Tryz.prog 162 [] [EqA (strV a0), EqA (.int .u8 a1)] (RA (EqA (.int .i64 r))) := by
 unfold strings_IndexByte at h
 refine Con.of (N := 8) Tryz.func162 rfl rfl rfl fun w0_ fg_ => W.seq <| W.region <| WL.p rfl rfl rfl (.k .nil) (q_assign rfl) <| WL.nil <| QN.then_ <| W.seq <| W.region <| WL.p rfl rfl rfl (.s 0 rfl .nil) (q_move rfl) <| WL.p rfl rfl rfl (.s 1 rfl .nil) (q_move rfl) ?_
 obtain ⟨t3187, ht3187, h⟩ := bind_s h
 refine WL.p rfl rfl rfl (.s 5 rfl (.s 6 rfl .nil)) (q_call (f := 166) (A := EqA (.int .i64 t3187)) (xs := [.tmp 5, .tmp 6]) («as» := [EqA (strV a0), EqA (.int .u8 a1)]) rfl ca166 (stringslite_IndexByte.con k a0 a1 t3187 ht3187) rfl) <| WL.p rfl rfl rfl (.s 7 rfl .nil) (q_assign rfl) <| WL.nil <| QN.then_ <| W.ret ?_
 cases h
 exact QR.f1 rfl rfl (.t rfl) (.id _)
theorem token_next.con (k : Nat) (a0 : Str) (r : (Int × Int × Int)) (h : token_next k a0 = some r) : Con Tryz.prog 142 [] [EqA (strV a0)] (RA (TupA [EqA (.int .i64 r.1), EqA (.int .i64 r.2.1), EqA (.int .i64 r.2.2)])) := by
 unfold token_next at h
 refine Con.of (N := 45) Tryz.func142 rfl rfl rfl fun w0_ fg_ => W.seq <| W.region <| WL.p rfl rfl rfl (.k .nil) (q_assign rfl) <| WL.p rfl rfl rfl (.k .nil) (q_assign rfl) <| WL.p rfl rfl rfl (.k .nil) (q_assign rfl) <| WL.nil <| QN.then_ <| W.seq <| W.region <| WL.p rfl rfl rfl (.s 0 rfl .nil) (q_move rfl) ?_
 obtain ⟨c3188, h⟩ := ite_n h
 refine WL.p rfl rfl rfl (.s 10 rfl (.k .nil)) (q_sindex rfl iss9 c3188.1 c3188.2) <| WL.p rfl rfl rfl (.s 11 rfl .nil) (q_assign rfl) <| WL.nil <| QN.then_ <| W.seq <| W.block <| W.seq <| W.region <| WL.p rfl rfl rfl (.s 5 rfl .nil) (q_move rfl) ?_
 obtain ⟨t3189, ht3189, h⟩ := bind_s h
 refine WL.p rfl rfl rfl (.s 13 rfl .nil) (q_call (f := 156) (A := EqA (.bool t3189)) (xs := [.tmp 13]) («as» := [EqA (.int .u8 (bt a0 0))]) rfl ca156 (token_letter.con k (bt a0 0) t3189 ht3189) rfl) <| WL.p rfl rfl rfl (.s 14 rfl .nil) (q_assign rfl) <| WL.nil <| QN.weaken (env' := [(12, _), (5, _), (0, _)]) (.one rfl (.one rfl (.one rfl (.nil _)))) <| QN.then_ ?_
 refine W.condP h rfl (fun hb3190 h => ?_) (fun hb3190 h => ?_)
 ·refine W.seq <| W.region <| WL.p rfl rfl rfl (.s 0 rfl .nil) (q_move rfl) ?_
  obtain ⟨t3191, ht3191, h⟩ := bind_s h
  refine WL.p rfl rfl rfl (.s 15 rfl (.f («as» := fun (x : Int) => [EqA (.int .u8 x)]) (res := fun (y : Bool) => EqA (.bool y)) (p := fun x => token_part k x) ca158 (fun x y hp => token_part.con k x y hp) .nil)) (q_call (f := 157) (A := EqA (.int .i64 t3191)) (xs := [.tmp 15, .func 158]) («as» := [EqA (strV a0), FnA Tryz.prog (fun (x : Int) => [EqA (.int .u8 x)]) (fun (y : Bool) => EqA (.bool y)) (fun x => token_part k x)]) rfl ca157 (token_run.con k a0 (fun x => token_part k x) t3191 ht3191) rfl) <| WL.p rfl rfl rfl (.s 16 rfl .nil) (q_assign rfl) <| WL.nil <| QN.then_ <| W.seq <| W.seq <| W.region <| WL.p rfl rfl rfl (.s 6 rfl .nil) (q_move rfl) <| WL.p rfl rfl rfl (.s 17 rfl (.k .nil)) (q_int rfl rfl) <| WL.nil <| QN.then_ ?_
  refine W.condP h rfl (fun hb3192 h => ?_) (fun hb3192 h => ?_)
  ·refine W.seq <| W.region <| WL.p rfl rfl rfl (.k .nil) (q_assign rfl) <| WL.p rfl rfl rfl (.k .nil) (q_assign rfl) <| WL.p rfl rfl rfl (.k .nil) (q_assign rfl) <| WL.nil <| QN.weaken (env' := [(4, _), (3, _), (2, _)]) (.one rfl (.one rfl (.one rfl (.nil _)))) <| QN.then_ <| W.ret <| QR.then_ <| QR.block <| QR.then_ ?_
   cases h
   exact QR.f3 rfl rfl (.t rfl) (.t rfl) (.t rfl) (.id _)
  ·refine W.skip <| QN.weaken (env' := [(6, _)]) (.one rfl (.nil _)) <| QN.then_ <| W.seq <| W.region <| WL.p rfl rfl rfl (.s 6 rfl .nil) (q_move rfl) <| WL.p rfl rfl rfl (.k .nil) (q_assign rfl) <| WL.p rfl rfl rfl (.s 19 rfl .nil) (q_assign rfl) <| WL.p rfl rfl rfl (.k .nil) (q_assign rfl) <| WL.nil <| QN.then_ <| W.ret <| QR.block ?_
   refine QR.then_ ?_
   cases h
   exact QR.f3 rfl rfl (.t rfl) (.t rfl) (.t rfl) (.id _)
 ·refine W.seq <| W.region <| WL.p rfl rfl rfl (.s 5 rfl .nil) (q_move rfl) ?_
  obtain ⟨t3193, ht3193, h⟩ := bind_s h
  refine WL.p rfl rfl rfl (.s 21 rfl .nil) (q_call (f := 159) (A := EqA (.bool t3193)) (xs := [.tmp 21]) («as» := [EqA (.int .u8 (bt a0 0))]) rfl ca159 (token_digit.con k (bt a0 0) t3193 ht3193) rfl) <| WL.p rfl rfl rfl (.s 22 rfl .nil) (q_assign rfl) <| WL.nil <| QN.then_ ?_
  refine W.condP h rfl (fun hb3194 h => ?_) (fun hb3194 h => ?_)
  ·refine W.seq <| W.region <| WL.p rfl rfl rfl (.s 0 rfl .nil) (q_move rfl) ?_
   obtain ⟨t3195, ht3195, h⟩ := bind_s h
   refine WL.p rfl rfl rfl (.s 23 rfl (.f («as» := fun (x : Int) => [EqA (.int .u8 x)]) (res := fun (y : Bool) => EqA (.bool y)) (p := fun x => token_digit k x) ca159 (fun x y hp => token_digit.con k x y hp) .nil)) (q_call (f := 157) (A := EqA (.int .i64 t3195)) (xs := [.tmp 23, .func 159]) («as» := [EqA (strV a0), FnA Tryz.prog (fun (x : Int) => [EqA (.int .u8 x)]) (fun (y : Bool) => EqA (.bool y)) (fun x => token_digit k x)]) rfl ca157 (token_run.con k a0 (fun x => token_digit k x) t3195 ht3195) rfl) <| WL.p rfl rfl rfl (.s 24 rfl .nil) (q_assign rfl) <| WL.nil <| QN.weaken (env' := [(7, _)]) (.one rfl (.nil _)) <| QN.then_ <| W.seq <| W.seq <| W.region <| WL.p rfl rfl rfl (.s 7 rfl .nil) (q_move rfl) <| WL.p rfl rfl rfl (.s 25 rfl (.k .nil)) (q_int rfl rfl) <| WL.nil <| QN.then_ ?_
   refine W.condP h rfl (fun hb3196 h => ?_) (fun hb3196 h => ?_)
   ·refine W.seq <| W.region <| WL.p rfl rfl rfl (.k .nil) (q_assign rfl) <| WL.p rfl rfl rfl (.k .nil) (q_assign rfl) <| WL.p rfl rfl rfl (.k .nil) (q_assign rfl) <| WL.nil <| QN.then_ <| W.ret <| QR.then_ <| QR.block <| QR.then_ ?_
    cases h
    exact QR.f3 rfl rfl (.t rfl) (.t rfl) (.t rfl) (.id _)
   ·refine W.skip <| QN.then_ <| W.seq <| W.region <| WL.p rfl rfl rfl (.s 7 rfl .nil) (q_move rfl) <| WL.p rfl rfl rfl (.k .nil) (q_assign rfl) <| WL.p rfl rfl rfl (.s 27 rfl .nil) (q_assign rfl) <| WL.p rfl rfl rfl (.k .nil) (q_assign rfl) <| WL.nil <| QN.then_ <| W.ret <| QR.block <| QR.then_ ?_
    cases h
    exact QR.f3 rfl rfl (.t rfl) (.t rfl) (.t rfl) (.id _)
  ·refine W.seq <| W.region <| WL.p rfl rfl rfl (.s 5 rfl .nil) (q_move rfl) <| WL.p rfl rfl rfl (.s 29 rfl (.k .nil)) (q_int rfl rfl) <| WL.p rfl rfl rfl (.s 30 rfl .nil) (q_assign rfl) <| WL.nil <| QN.then_ ?_
   refine W.condP h rfl (fun hb3197 h => ?_) (fun hb3197 h => ?_)
   ·refine W.seq <| W.region <| WL.p rfl rfl rfl (.s 0 rfl .nil) (q_move rfl) ?_
    obtain ⟨t3198, ht3198, h⟩ := bind_s h
    refine WL.p rfl rfl rfl (.s 32 rfl .nil) (q_call (f := 160) (A := TupA [EqA (.int .i64 t3198.1), EqA (.int .i64 t3198.2)]) (xs := [.tmp 32]) («as» := [EqA (strV a0)]) rfl ca160 (token_quoted.con k a0 t3198 ht3198) rfl) <| WL.p rfl rfl rfl (.s 33 rfl .nil) (q_move rfl) <| WL.p rfl rfl rfl (.s 31 rfl .nil) (q_extract rfl rfl) <| WL.p rfl rfl rfl (.s 31 rfl .nil) (q_extract rfl rfl) <| WL.p rfl rfl rfl (.s 34 rfl .nil) (q_assign rfl) <| WL.p rfl rfl rfl (.s 35 rfl .nil) (q_assign rfl) <| WL.nil <| QN.weaken (env' := [(9, _), (8, _)]) (.one rfl (.one rfl (.nil _))) <| QN.then_ <| W.seq <| W.region <| WL.p rfl rfl rfl (.s 8 rfl .nil) (q_move rfl) <| WL.p rfl rfl rfl (.s 9 rfl .nil) (q_move rfl) ?_
    refine WL.p rfl rfl rfl (.k .nil) (q_assign rfl) <| WL.p rfl rfl rfl (.s 36 rfl .nil) (q_assign rfl) <| WL.p rfl rfl rfl (.s 37 rfl .nil) (q_assign rfl) <| WL.nil <| QN.then_ <| W.ret <| QR.block <| QR.then_ ?_
    cases h
    exact QR.f3 rfl rfl (.t rfl) (.t rfl) (.t rfl) (.id _)
   ·refine W.seq <| W.region <| WL.p rfl rfl rfl (.s 0 rfl .nil) (q_move rfl) ?_
    obtain ⟨t3199, ht3199, h⟩ := bind_s h
    refine WL.p rfl rfl rfl (.s 39 rfl .nil) (q_call (f := 161) (A := EqA (.bool t3199)) (xs := [.tmp 39]) («as» := [EqA (strV a0)]) rfl ca161 (token_pair.con k a0 t3199 ht3199) rfl) <| WL.p rfl rfl rfl (.s 40 rfl .nil) (q_assign rfl) <| WL.nil <| QN.weaken (env' := [(38, _), (5, _)]) (.one rfl (.one rfl (.nil _))) <| QN.then_ ?_
    refine W.condP h rfl (fun hb3200 h => ?_) (fun hb3200 h => ?_)
    ·refine W.seq <| W.region <| WL.p rfl rfl rfl (.k .nil) (q_assign rfl) <| WL.p rfl rfl rfl (.k .nil) (q_assign rfl) <| WL.p rfl rfl rfl (.k .nil) (q_assign rfl) <| WL.nil <| QN.then_ <| W.ret <| QR.block <| QR.then_ ?_
     cases h
     exact QR.f3 rfl rfl (.t rfl) (.t rfl) (.t rfl) (.id _)
    ·refine W.seq <| W.region <| WL.p rfl rfl rfl (.s 5 rfl .nil) (q_move rfl) ?_
     obtain ⟨t3201, ht3201, h⟩ := bind_s h
     refine WL.p rfl rfl rfl (.k (.s 42 rfl .nil)) (q_call (f := 162) (A := EqA (.int .i64 t3201)) (xs := [.const (.string ⟨#[123, 125, 40, 41, 91, 93, 44, 59, 58, 61, 43, 45, 42, 60, 62, 33, 38, 124, 46, 63]⟩), .tmp 42]) («as» := [EqA (strV ([123, 125, 40, 41, 91, 93, 44, 59, 58, 61, 43, 45, 42, 60, 62, 33, 38, 124, 46, 63] : Str)), EqA (.int .u8 (bt a0 0))]) rfl ca162 (strings_IndexByte.con k ([123, 125, 40, 41, 91, 93, 44, 59, 58, 61, 43, 45, 42, 60, 62, 33, 38, 124, 46, 63] : Str) (bt a0 0) t3201 ht3201) rfl) <| WL.p rfl rfl rfl (.s 43 rfl (.k .nil)) (q_int rfl rfl) <| WL.p rfl rfl rfl (.s 44 rfl .nil) (q_assign rfl) <| WL.nil <| QN.then_ ?_
     refine W.condP h rfl (fun hb3202 h => ?_) (fun hb3202 h => ?_)
     ·refine W.seq <| W.region <| WL.p rfl rfl rfl (.k .nil) (q_assign rfl) <| WL.p rfl rfl rfl (.k .nil) (q_assign rfl) <| WL.p rfl rfl rfl (.k .nil) (q_assign rfl) <| WL.nil <| QN.then_ <| W.ret <| QR.block <| QR.then_ ?_
      cases h
      exact QR.f3 rfl rfl (.t rfl) (.t rfl) (.t rfl) (.id _)
     ·refine W.skip <| QN.block <| QN.then_ <| W.seq <| W.region <| WL.p rfl rfl rfl (.k .nil) (q_assign rfl) <| WL.p rfl rfl rfl (.k .nil) (q_assign rfl) <| WL.p rfl rfl rfl (.k .nil) (q_assign rfl) <| WL.nil <| QN.then_ <| W.ret ?_
      cases h
      exact QR.f3 rfl rfl (.t rfl) (.t rfl) (.t rfl) (.id _)
end Go.Proofs.YtelpgjfojhcjcaaGreat
