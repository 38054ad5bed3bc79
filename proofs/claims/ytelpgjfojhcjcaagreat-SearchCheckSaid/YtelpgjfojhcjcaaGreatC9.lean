/- The Go functions compute the pure ones. (Printed by gen.py.) -/
import Derived.Test.YtelpgjfojhcjcaaGreatC8
namespace Go.Proofs.YtelpgjfojhcjcaaGreat
open Go Go.Abs
attribute [local irreducible] Tryz.prog

theorem search_Check.con (k : Nat) (a0 : Types) (a1 : Graph) (a2 : Graph) (a3 : Morphism) (a4 : Bool) (r : Int) (h : search_Check k a0 a1 a2 a3 a4 = some r) : Con Tryz.prog 21 [] [AggA [SlcA kNodeType a0.fNodes, SlcA kEdgeType a0.fEdges], AggA [SlcA kInt a1.fNodes, SlcA kEdge a1.fEdges], AggA [SlcA kInt a2.fNodes, SlcA kEdge a2.fEdges], AggA [SlcA kInt a3.fNodes, SlcA kInt a3.fEdges], EqA (.bool a4)] (RA (EqA (.int .i64 r))) := by
 unfold search_Check at h
 refine Con.of (N := 39) Tryz.func21 rfl rfl rfl fun w0_ fg_ => W.seq <| W.region <| WL.p rfl rfl rfl (.s 0 rfl .nil) (q_box rfl (CellsOf.agg _)) <| WL.p rfl rfl rfl (.s 1 rfl .nil) (q_box rfl (CellsOf.agg _)) <| WL.p rfl rfl rfl (.s 2 rfl .nil) (q_box rfl (CellsOf.agg _)) <| WL.p rfl rfl rfl (.s 3 rfl .nil) (q_box rfl (CellsOf.agg _)) <| WL.p rfl rfl rfl (.k .nil) (q_assign rfl) <| WL.nil <| QN.then_ <| W.seq <| W.seq <| W.region ?_
 refine WL.p rfl rfl rfl (.s 5 rfl .nil) (q_loadS rfl sh25 (leB rfl) rfl) <| WL.p rfl rfl rfl (.s 6 rfl .nil) (q_loadS rfl sh29 (leB rfl) rfl) <| WL.p rfl rfl rfl (.s 7 rfl .nil) (q_loadS rfl sh29 (leB rfl) rfl) ?_
 obtain ⟨t6211, ht6211, h⟩ := bind_s h
 refine WL.p rfl rfl rfl (.s 13 rfl (.s 14 rfl (.s 15 rfl .nil))) (q_call (f := 36) (A := EqA (.int .i64 t6211)) (xs := [.tmp 13, .tmp 14, .tmp 15]) («as» := [AggA [SlcA kNodeType a0.fNodes, SlcA kEdgeType a0.fEdges], AggA [SlcA kInt a1.fNodes, SlcA kEdge a1.fEdges], AggA [SlcA kInt a2.fNodes, SlcA kEdge a2.fEdges]]) rfl ca36 (search_valid.con k a0 a1 a2 t6211 ht6211) rfl) <| WL.p rfl rfl rfl (.s 16 rfl .nil) (q_assign rfl) <| WL.nil <| QN.weaken (env' := [(11, _), (8, _), (7, _), (6, _), (5, _), (4, _)]) (.one rfl (.one rfl (.one rfl (.one rfl (.one rfl (.one rfl (.nil _))))))) <| QN.then_ <| W.seq <| W.region <| WL.p rfl rfl rfl (.s 11 rfl .nil) (q_move rfl) <| WL.p rfl rfl rfl (.s 17 rfl (.k .nil)) (q_int rfl rfl) <| WL.nil <| QN.then_ ?_
 refine W.condP h rfl (fun hb6212 h => ?_) (fun hb6212 h => ?_)
 ·refine W.seq <| W.region <| WL.p rfl rfl rfl (.s 11 rfl .nil) (q_move rfl) <| WL.p rfl rfl rfl (.s 19 rfl .nil) (q_assign rfl) <| WL.nil <| QN.weaken (env' := [(10, _)]) (.one rfl (.nil _)) <| QN.then_ <| W.ret <| QR.then_ ?_
  cases h
  exact QR.f1 rfl rfl (.t rfl) (.id _)
 ·refine W.skip <| QN.then_ <| W.seq <| W.seq <| W.region <| WL.p rfl rfl rfl (.s 5 rfl .nil) (q_loadS rfl sh25 (leB rfl) rfl) <| WL.p rfl rfl rfl (.s 6 rfl .nil) (q_loadS rfl sh29 (leB rfl) rfl) <| WL.p rfl rfl rfl (.s 7 rfl .nil) (q_loadS rfl sh29 (leB rfl) rfl) <| WL.p rfl rfl rfl (.s 8 rfl .nil) (q_loadS rfl sh33 (leB rfl) rfl) ?_
  obtain ⟨t6213, ht6213, h⟩ := bind_s h
  refine WL.p rfl rfl rfl (.s 20 rfl (.s 21 rfl (.s 22 rfl (.s 23 rfl .nil)))) (q_call (f := 37) (A := EqA (.int .i64 t6213)) (xs := [.tmp 20, .tmp 21, .tmp 22, .tmp 23]) («as» := [AggA [SlcA kNodeType a0.fNodes, SlcA kEdgeType a0.fEdges], AggA [SlcA kInt a1.fNodes, SlcA kEdge a1.fEdges], AggA [SlcA kInt a2.fNodes, SlcA kEdge a2.fEdges], AggA [SlcA kInt a3.fNodes, SlcA kInt a3.fEdges]]) rfl ca37 (search_shape.con k a0 a1 a2 a3 t6213 ht6213) rfl) <| WL.p rfl rfl rfl (.s 24 rfl .nil) (q_assign rfl) <| WL.nil <| QN.weaken (env' := [(12, _), (8, _), (4, _)]) (.one rfl (.one rfl (.one rfl (.nil _)))) <| QN.then_ <| W.seq <| W.region <| WL.p rfl rfl rfl (.s 12 rfl .nil) (q_move rfl) <| WL.p rfl rfl rfl (.s 25 rfl (.k .nil)) (q_int rfl rfl) <| WL.nil <| QN.then_ ?_
  refine W.condP h rfl (fun hb6214 h => ?_) (fun hb6214 h => ?_)
  ·refine W.seq <| W.region <| WL.p rfl rfl rfl (.s 12 rfl .nil) (q_move rfl) <| WL.p rfl rfl rfl (.s 27 rfl .nil) (q_assign rfl) <| WL.nil <| QN.then_ <| W.ret <| QR.then_ ?_
   cases h
   exact QR.f1 rfl rfl (.t rfl) (.id _)
  ·refine W.skip <| QN.then_ <| W.seq <| W.seq ?_
   refine W.jn1 (Γ := Unit) (fun (_ : Unit) (x38 : Bool) => [(38, EqA (.bool x38))]) (fun (_ : Unit) (_ : Bool) => []) h (fun _ x38 h => ?_) (fun j6220 Kj6220 h => ?_)
   ·refine QN.then_ ?_
    refine W.condP h rfl (fun hb6221 h => ?_) (fun hb6221 h => ?_)
    ·refine W.seq <| W.region <| WL.p rfl rfl rfl (.k .nil) (q_assign rfl) <| WL.nil <| QN.then_ <| W.ret <| QR.then_ ?_
     cases h
     exact QR.f1 rfl rfl (.t rfl) (.id _)
    ·refine W.skip <| QN.then_ <| W.seq <| W.region <| WL.p rfl rfl rfl (.k .nil) (q_assign rfl) <| WL.nil <| QN.then_ <| W.ret ?_
     cases h
     exact QR.f1 rfl rfl (.t rfl) (.id _)
   ·refine W.region <| WL.p rfl rfl rfl (.s 4 rfl .nil) (q_move rfl) <| WL.p rfl rfl rfl (.s 28 rfl .nil) (q_move rfl) ?_
    rcases bif_s h with ⟨hb6222, h⟩ | ⟨hb6222, h⟩
    ·refine WL.q (Wanted.on rfl rfl rfl hb6222) rfl rfl (.s 8 rfl .nil) (q_field rfl fo33_0 rfl).o <| WL.q (Wanted.on rfl rfl rfl hb6222) rfl rfl (.s 30 rfl .nil) (q_load rfl sh26).o ?_
     obtain ⟨t6223, ht6223, h⟩ := bind_s h
     refine WL.q (Wanted.on rfl rfl rfl hb6222) rfl rfl (.s 31 rfl .nil) (q_call (f := 49) (A := EqA (.bool t6223)) (xs := [.tmp 31]) («as» := [SlcA kInt a3.fNodes]) rfl ca49 (search_twice.con k a3.fNodes t6223 ht6223) rfl).o <| WL.q (Wanted.on rfl rfl rfl hb6222) rfl rfl (.s 32 rfl .nil) (q_move rfl).o ?_
     rcases bif_s h with ⟨hb6224, h⟩ | ⟨hb6224, h⟩
     ·refine WL.skip (Unwanted.on rfl rfl rfl hb6224) rfl rfl <| WL.skip (Unwanted.on rfl rfl rfl hb6224) rfl rfl <| WL.skip (Unwanted.on rfl rfl rfl hb6224) rfl rfl <| WL.q (Wanted.on rfl rfl rfl hb6222) rfl rfl (.s 33 rfl (.k .nil)) (q_pickT rfl hb6224).o <| WL.p rfl rfl rfl (.s 29 rfl (.s 37 rfl .nil)) (q_pickT rfl hb6222) <| WL.nil ?_
      exact QN.weaken (.one rfl (.nil _)) (Kj6220 () true h)
     ·refine WL.q (Wanted.on rfl rfl rfl hb6224) rfl rfl (.s 8 rfl .nil) (q_field rfl fo33_1 rfl).o <| WL.q (Wanted.on rfl rfl rfl hb6224) rfl rfl (.s 34 rfl .nil) (q_load rfl sh26).o ?_
      obtain ⟨t6225, ht6225, h⟩ := bind_s h
      refine WL.q (Wanted.on rfl rfl rfl hb6224) rfl rfl (.s 35 rfl .nil) (q_call (f := 49) (A := EqA (.bool t6225)) (xs := [.tmp 35]) («as» := [SlcA kInt a3.fEdges]) rfl ca49 (search_twice.con k a3.fEdges t6225 ht6225) rfl).o <| WL.q (Wanted.on rfl rfl rfl hb6222) rfl rfl (.s 33 rfl (.s 36 rfl .nil)) (q_pickF rfl hb6224).o <| WL.p rfl rfl rfl (.s 29 rfl (.s 37 rfl .nil)) (q_pickT rfl hb6222) <| WL.nil ?_
      exact QN.weaken (.one rfl (.nil _)) (Kj6220 () t6225 h)
    ·refine WL.skip (Unwanted.on rfl rfl rfl hb6222) rfl rfl <| WL.skip (Unwanted.on rfl rfl rfl hb6222) rfl rfl <| WL.skip (Unwanted.on rfl rfl rfl hb6222) rfl rfl <| WL.skip (Unwanted.on rfl rfl rfl hb6222) rfl rfl <| WL.skip (Unwanted.und rfl rfl rfl) rfl rfl <| WL.skip (Unwanted.und rfl rfl rfl) rfl rfl <| WL.skip (Unwanted.und rfl rfl rfl) rfl rfl <| WL.skip (Unwanted.on rfl rfl rfl hb6222) rfl rfl <| WL.p rfl rfl rfl (.s 29 rfl (.k .nil)) (q_pickF rfl hb6222) <| WL.nil ?_
     exact QN.weaken (.one rfl (.nil _)) (Kj6220 () false h)
theorem ref04_Below1.con : ∀ (k : Nat) (a0 : Types) (a1 : Int) (a2 : Int) (r : Bool) (_ : ref04_Below1 k a0 a1 a2 = some r), Con Tryz.prog 70 [] [AggA [SlcA kNodeType a0.fNodes, SlcA kEdgeType a0.fEdges], EqA (.int .i64 a1), EqA (.int .i64 a2)] (RA (EqA (.bool r))) := by
 intro k
 induction k with
 | zero => intro a0 a1 a2 r h; cases h
 | succ k ih =>
  intro a0 a1 a2 r h
  change ref04_Below1.main (ref04_Below1 k) k a0 a1 a2 = some r at h
  unfold ref04_Below1.main at h
  refine Con.of (N := 25) Tryz.func70 rfl rfl rfl fun w0_ fg_ => W.seq <| W.region <| WL.p rfl rfl rfl (.s 0 rfl .nil) (q_box rfl (CellsOf.agg _)) <| WL.p rfl rfl rfl (.k .nil) (q_assign rfl) <| WL.nil <| QN.then_ <| W.seq ?_
  refine W.jn1 (Γ := Unit) (fun (_ : Unit) (x6 : Bool) => [(6, EqA (.bool x6))]) (fun (_ : Unit) (_ : Bool) => []) h (fun _ x6 h => ?_) (fun j6235 Kj6235 h => ?_)
  ·refine QN.then_ <| W.ret ?_
   cases h
   exact QR.f1 rfl rfl (.t rfl) (.id _)
  ·refine W.drawK [(0, false), (1, false), (2, false), (3, false), (4, false), (5, false), (6, false), (7, false), (8, false), (9, false), (10, false), (11, false), (12, false), (13, false), (14, false), (15, false), (16, false), (17, false), (18, false)] [] [[], [], [0, 1], [0, 1, 2], [0, 1, 2, 3], [0, 1, 2, 3, 4], [0, 1, 2, 3, 4, 5], [0, 1, 2, 3, 4, 5, 6], [0, 1, 2, 3, 4, 5, 6], [0, 1, 2, 3, 4, 5, 6, 8], [0, 1, 2, 3, 4, 5, 6], [0, 1, 2, 3, 4, 5, 6, 8, 9, 10], [0, 1, 2, 3, 4, 5, 6, 8, 9, 10, 11], [0, 1, 2, 3, 4, 5, 6, 8, 9, 10, 11, 12], [0, 1, 2, 3, 4, 5, 6], [0, 1, 2, 3, 4, 5, 6, 7, 8, 9, 10, 11, 12, 13, 14], [0, 1, 2, 3, 4, 5, 6, 7, 8, 9, 10, 11, 12, 13, 14, 15], [0, 1, 2, 3, 4, 5, 6, 7, 8, 9, 10, 11, 12, 13, 14, 15, 16], [0, 1, 2, 3, 4, 5, 6, 7, 8, 9, 10, 11, 12, 13, 14, 15, 16, 17]] mx (by kernel_rfl) <| DK.cons rfl rfl (.p rfl (.s 1 rfl .nil) rfl (q_move rfl)) <| DK.cons rfl rfl (.p rfl (.s 2 rfl .nil) rfl (q_move rfl)) <| DK.cons rfl rfl (.p rfl (.s 7 rfl (.s 8 rfl .nil)) rfl (q_int rfl rfl)) <| DK.cons rfl rfl (.p rfl (.s 9 rfl .nil) rfl (q_move rfl)) ?_
   rcases bif_s h with ⟨hb6236, h⟩ | ⟨hb6236, h⟩
   ·refine DK.cons rfl rfl (.off rfl rfl rfl hb6236) <| DK.cons rfl rfl (.off rfl rfl rfl hb6236) <| DK.cons rfl rfl (.off rfl rfl rfl hb6236) <| DK.cons rfl rfl (.und rfl rfl rfl) <| DK.cons rfl rfl (.und rfl rfl rfl) <| DK.cons rfl rfl (.und rfl rfl rfl) <| DK.cons rfl rfl (.und rfl rfl rfl) <| DK.cons rfl rfl (.und rfl rfl rfl) <| DK.cons rfl rfl (.und rfl rfl rfl) <| DK.cons rfl rfl (.und rfl rfl rfl) <| DK.cons rfl rfl (.und rfl rfl rfl) <| DK.cons rfl rfl (.und rfl rfl rfl) <| DK.cons rfl rfl (.off rfl rfl rfl hb6236) ?_
    refine DK.cons rfl rfl (.p rfl (.s 10 rfl (.k .nil)) rfl (q_pickT rfl hb6236)) <| DK.cons rfl rfl (.p rfl (.s 24 rfl .nil) rfl (q_assign rfl)) <| DK.nil <| CSteps.nil ?_
    exact QN.weaken (.one rfl (.nil _)) (Kj6235 () true h)
   ·refine DK.cons rfl rfl (.gp rfl rfl rfl hb6236 (.s 1 rfl .nil) rfl (q_move rfl)) <| DK.cons rfl rfl (.gp rfl rfl rfl hb6236 (.s 11 rfl (.k .nil)) rfl (q_int rfl rfl)) <| DK.cons rfl rfl (.gp rfl rfl rfl hb6236 (.s 12 rfl .nil) rfl (q_move rfl)) ?_
    rcases bif_s h with ⟨hb6237, h⟩ | ⟨hb6237, h⟩
    ·refine DK.cons rfl rfl (.gp rfl rfl rfl hb6237 (.s 3 rfl .nil) rfl (q_loadS rfl sh25 (leB rfl) rfl)) <| DK.cons rfl rfl (.gp rfl rfl rfl hb6237 (.s 3 rfl .nil) rfl (q_field rfl fo25_0 rfl)) <| DK.cons rfl rfl (.gp rfl rfl rfl hb6237 (.s 15 rfl .nil) rfl (q_load rfl sh22)) <| DK.cons rfl rfl (.gp rfl rfl rfl hb6237 (.s 1 rfl .nil) rfl (q_move rfl)) ?_
     obtain ⟨c6238, h⟩ := ite_n h
     refine DK.cons rfl rfl (.gp rfl rfl rfl hb6237 (.s 16 rfl (.s 17 rfl .nil)) rfl (q_index rfl el22 rfl c6238.1 c6238.2)) <| DK.cons rfl rfl (.gp rfl rfl rfl hb6237 (.s 18 rfl .nil) rfl (q_field rfl fo94_1 rfl)) <| DK.cons rfl rfl (.gp rfl rfl rfl hb6237 (.s 19 rfl .nil) rfl (q_load rfl sh3)) <| DK.cons rfl rfl (.gp rfl rfl rfl hb6237 (.s 2 rfl .nil) rfl (q_move rfl)) ?_
     obtain ⟨t6239, ht6239, h⟩ := bind_s h
     refine DK.cons rfl rfl (.gp rfl rfl rfl hb6237 (.s 14 rfl (.s 20 rfl (.s 21 rfl .nil))) rfl (q_call (f := 70) (A := EqA (.bool t6239)) (xs := [.tmp 14, .tmp 20, .tmp 21]) («as» := [AggA [SlcA kNodeType a0.fNodes, SlcA kEdgeType a0.fEdges], EqA (.int .i64 ((rd a0.fNodes a1).fParent)), EqA (.int .i64 a2)]) rfl ca70 (ih a0 ((rd a0.fNodes a1).fParent) a2 t6239 ht6239) rfl)) <| DK.cons rfl rfl (.gp rfl rfl rfl hb6236 (.s 13 rfl (.s 22 rfl .nil)) rfl (q_pickT rfl hb6237)) <| DK.cons rfl rfl (.p rfl (.s 10 rfl (.s 23 rfl .nil)) rfl (q_pickF rfl hb6236)) <| DK.cons rfl rfl (.p rfl (.s 24 rfl .nil) rfl (q_assign rfl)) <| DK.nil <| CSteps.nil ?_
     exact QN.weaken (.one rfl (.nil _)) (Kj6235 () t6239 h)
    ·refine DK.cons rfl rfl (.off rfl rfl rfl hb6237) <| DK.cons rfl rfl (.off rfl rfl rfl hb6237) <| DK.cons rfl rfl (.off rfl rfl rfl hb6237) <| DK.cons rfl rfl (.off rfl rfl rfl hb6237) <| DK.cons rfl rfl (.off rfl rfl rfl hb6237) <| DK.cons rfl rfl (.off rfl rfl rfl hb6237) <| DK.cons rfl rfl (.off rfl rfl rfl hb6237) <| DK.cons rfl rfl (.off rfl rfl rfl hb6237) <| DK.cons rfl rfl (.off rfl rfl rfl hb6237) <| DK.cons rfl rfl (.gp rfl rfl rfl hb6236 (.s 13 rfl (.k .nil)) rfl (q_pickF rfl hb6237)) <| DK.cons rfl rfl (.p rfl (.s 10 rfl (.s 23 rfl .nil)) rfl (q_pickF rfl hb6236)) <| DK.cons rfl rfl (.p rfl (.s 24 rfl .nil) rfl (q_assign rfl)) <| DK.nil ?_
     refine CSteps.nil ?_
     exact QN.weaken (.one rfl (.nil _)) (Kj6235 () false h)
theorem ref17_distinct.con (k : Nat) (a0 : (List Int)) (r : Bool) (h : ref17_distinct k a0 = some r) : Con Tryz.prog 71 [] [SlcA kInt a0] (RA (EqA (.bool r))) := by
 unfold ref17_distinct at h
 refine Con.of (N := 25) Tryz.func71 rfl rfl rfl fun w0_ fg_ => W.seq <| W.region <| WL.p rfl rfl rfl (.k .nil) (q_assign rfl) <| WL.nil <| QN.then_ <| W.seq <| W.seq <| W.region <| WL.p rfl rfl rfl (.k .nil) (q_assign rfl) <| WL.nil <| QN.then_ <| W.block ?_
 refine W.loop1 (Γ := Unit) (fun (_ : Unit) (x3 : Int) => [(0, SlcA kInt a0), (3, EqA (.int .i64 x3))]) (fun (_ : Unit) (_ : Int) => []) h () (.one rfl (.one rfl (.nil _))) rfl (fun rec0 K0 next0 _ x3 h => ?_)
 unfold ref17_distinct.b0 at h
 refine W.seq <| W.seq <| W.region <| WL.p rfl rfl rfl (.s 3 rfl .nil) (q_move rfl) <| WL.p rfl rfl rfl (.s 0 rfl .nil) (q_move rfl) <| WL.p rfl rfl rfl (.s 6 rfl .nil) (q_len rfl elS26) <| WL.p rfl rfl rfl (.s 5 rfl (.s 7 rfl .nil)) (q_int rfl rfl) <| WL.nil <| QN.then_ ?_
 refine W.condP h rfl (fun hb6302 h => ?_) (fun hb6302 h => ?_)
 ·refine W.skip <| QN.then_ <| W.seq <| W.block <| W.seq <| W.region <| WL.p rfl rfl rfl (.k .nil) (q_assign rfl) <| WL.nil <| QN.then_ <| W.block ?_
  refine W.loop1 (Γ := Unit) (fun (_ : Unit) (x4 : Int) => [(0, SlcA kInt a0), (3, EqA (.int .i64 x3)), (4, EqA (.int .i64 x4))]) (fun (_ : Unit) (_ : Int) => []) h () (.one rfl (.one rfl (.one rfl (.nil _)))) rfl (fun rec1 K1 next1 _ x4 h => ?_)
  unfold ref17_distinct.b1 at h
  refine W.seq <| W.seq <| W.region <| WL.p rfl rfl rfl (.s 4 rfl .nil) (q_move rfl) <| WL.p rfl rfl rfl (.s 3 rfl .nil) (q_move rfl) <| WL.p rfl rfl rfl (.s 11 rfl (.s 12 rfl .nil)) (q_int rfl rfl) <| WL.nil <| QN.then_ ?_
  refine W.condP h rfl (fun hb6323 h => ?_) (fun hb6323 h => ?_)
  ·refine W.skip <| QN.then_ <| W.seq <| W.block <| W.seq <| W.drawK [(0, false), (1, false), (2, false), (3, false), (4, false), (5, false), (6, false), (7, false), (8, false)] [] [[], [], [0, 1], [0, 1, 2], [], [], [4, 5], [4, 5, 6], [0, 1, 2, 3, 4, 5, 6, 7]] mx (by kernel_rfl) <| DK.cons rfl rfl (.p rfl (.s 0 rfl .nil) rfl (q_move rfl)) <| DK.cons rfl rfl (.p rfl (.s 3 rfl .nil) rfl (q_move rfl)) ?_
   obtain ⟨c6328, h⟩ := ite_n h
   refine DK.cons rfl rfl (.p rfl (.s 16 rfl (.s 17 rfl .nil)) rfl (q_index rfl el26 rfl c6328.1 c6328.2)) <| DK.cons rfl rfl (.p rfl (.s 18 rfl .nil) rfl (q_load rfl sh3)) <| DK.cons rfl rfl (.p rfl (.s 0 rfl .nil) rfl (q_move rfl)) <| DK.cons rfl rfl (.p rfl (.s 4 rfl .nil) rfl (q_move rfl)) ?_
   obtain ⟨c6329, h⟩ := ite_n h
   refine DK.cons rfl rfl (.p rfl (.s 20 rfl (.s 21 rfl .nil)) rfl (q_index rfl el26 rfl c6329.1 c6329.2)) <| DK.cons rfl rfl (.p rfl (.s 22 rfl .nil) rfl (q_load rfl sh3)) <| DK.cons rfl rfl (.p rfl (.s 19 rfl (.s 23 rfl .nil)) rfl (q_int rfl rfl)) <| DK.nil <| CSteps.nil <| QN.weaken (env' := [(24, _), (4, _), (3, _), (0, _)]) (.one rfl (.one rfl (.one rfl (.one rfl (.nil _))))) <| QN.then_ ?_
   refine W.condP h rfl (fun hb6330 h => ?_) (fun hb6330 h => ?_)
   ·refine W.seq <| W.region <| WL.p rfl rfl rfl (.k .nil) (q_assign rfl) <| WL.nil <| QN.then_ <| W.ret <| QR.block <| QR.then_ <| QR.then_ <| QR.block <| QR.block <| QR.then_ <| QR.then_ ?_
    refine QR.block <| QR.then_ ?_
    cases h
    exact QR.f1 rfl rfl (.t rfl) (.id _)
   ·refine W.skip <| QN.block <| QN.then_ <| W.region <| WL.p rfl rfl rfl (.s 4 rfl .nil) (q_move rfl) ?_
    obtain ⟨c6331, h⟩ := ite_n h
    refine WL.p rfl rfl rfl (.s 14 rfl (.k .nil)) (q_addR rfl c6331) <| WL.p rfl rfl rfl (.s 15 rfl .nil) (q_assign rfl) <| WL.nil ?_
    exact next1 () (x4 + 1) _ h (.one rfl (.one rfl (.one rfl (.nil _))))
  ·refine W.exit <| QX.then_ <| QX.then_ <| QX.here <| QN.block <| QN.then_ <| W.region <| WL.p rfl rfl rfl (.s 3 rfl .nil) (q_move rfl) ?_
   obtain ⟨c6332, h⟩ := ite_n h
   refine WL.p rfl rfl rfl (.s 9 rfl (.k .nil)) (q_addR rfl c6332) <| WL.p rfl rfl rfl (.s 10 rfl .nil) (q_assign rfl) <| WL.nil ?_
   exact next0 () (x3 + 1) _ h (.one rfl (.one rfl (.nil _)))
 ·refine W.exit <| QX.then_ <| QX.then_ <| QX.here <| QN.then_ <| W.seq <| W.region <| WL.p rfl rfl rfl (.k .nil) (q_assign rfl) <| WL.nil <| QN.then_ <| W.ret ?_
  cases h
  exact QR.f1 rfl rfl (.t rfl) (.id _)
theorem ref17_match.con (k : Nat) (a0 : Types) (a1 : Graph) (a2 : Graph) (a3 : Morphism) (a4 : Bool) (r : Int) (h : ref17_match k a0 a1 a2 a3 a4 = some r) : Con Tryz.prog 50 [] [AggA [SlcA kNodeType a0.fNodes, SlcA kEdgeType a0.fEdges], AggA [SlcA kInt a1.fNodes, SlcA kEdge a1.fEdges], AggA [SlcA kInt a2.fNodes, SlcA kEdge a2.fEdges], AggA [SlcA kInt a3.fNodes, SlcA kInt a3.fEdges], EqA (.bool a4)] (RA (EqA (.int .i64 r))) := by
 unfold ref17_match at h
 refine Con.of (N := 148) Tryz.func50 rfl rfl rfl fun w0_ fg_ => W.seq <| W.region <| WL.p rfl rfl rfl (.s 0 rfl .nil) (q_box rfl (CellsOf.agg _)) <| WL.p rfl rfl rfl (.s 1 rfl .nil) (q_box rfl (CellsOf.agg _)) <| WL.p rfl rfl rfl (.s 2 rfl .nil) (q_box rfl (CellsOf.agg _)) <| WL.p rfl rfl rfl (.s 3 rfl .nil) (q_box rfl (CellsOf.agg _)) <| WL.p rfl rfl rfl (.k .nil) (q_assign rfl) <| WL.nil <| QN.then_ <| W.seq <| W.seq ?_
 refine W.jn1 (Γ := Unit) (fun (_ : Unit) (x30 : Bool) => [(4, EqA (.bool a4)), (5, PtrA [SlcA kNodeType a0.fNodes, SlcA kEdgeType a0.fEdges]), (6, PtrA [SlcA kInt a1.fNodes, SlcA kEdge a1.fEdges]), (7, PtrA [SlcA kInt a2.fNodes, SlcA kEdge a2.fEdges]), (8, PtrA [SlcA kInt a3.fNodes, SlcA kInt a3.fEdges]), (30, EqA (.bool x30))]) (fun (_ : Unit) (_ : Bool) => []) h (fun _ x30 h => ?_) (fun j6335 Kj6335 h => ?_)
 ·refine QN.then_ ?_
  refine W.condP h rfl (fun hb6336 h => ?_) (fun hb6336 h => ?_)
  ·refine W.seq <| W.region <| WL.p rfl rfl rfl (.k .nil) (q_assign rfl) <| WL.nil <| QN.then_ <| W.ret <| QR.then_ ?_
   cases h
   exact QR.f1 rfl rfl (.t rfl) (.id _)
  ·refine W.skip <| QN.then_ <| W.seq <| W.seq <| W.region <| WL.p rfl rfl rfl (.k .nil) (q_assign rfl) <| WL.nil <| QN.then_ <| W.block ?_
   refine W.loop1 (Γ := Unit) (fun (_ : Unit) (x11 : Int) => [(4, EqA (.bool a4)), (5, PtrA [SlcA kNodeType a0.fNodes, SlcA kEdgeType a0.fEdges]), (6, PtrA [SlcA kInt a1.fNodes, SlcA kEdge a1.fEdges]), (7, PtrA [SlcA kInt a2.fNodes, SlcA kEdge a2.fEdges]), (8, PtrA [SlcA kInt a3.fNodes, SlcA kInt a3.fEdges]), (11, EqA (.int .i64 x11))]) (fun (_ : Unit) (_ : Int) => []) h () (.one rfl (.one rfl (.one rfl (.one rfl (.one rfl (.one rfl (.nil _))))))) rfl (fun rec0 K0 next0 _ x11 h => ?_)
   unfold ref17_match.b0 at h
   refine W.seq <| W.seq <| W.region <| WL.p rfl rfl rfl (.s 11 rfl .nil) (q_move rfl) <| WL.p rfl rfl rfl (.s 8 rfl .nil) (q_field rfl fo33_0 rfl) <| WL.p rfl rfl rfl (.s 32 rfl .nil) (q_load rfl sh26) <| WL.p rfl rfl rfl (.s 33 rfl .nil) (q_len rfl elS26) <| WL.p rfl rfl rfl (.s 31 rfl (.s 34 rfl .nil)) (q_int rfl rfl) <| WL.nil <| QN.then_ ?_
   refine W.condP h rfl (fun hb6721 h => ?_) (fun hb6721 h => ?_)
   ·refine W.skip <| QN.then_ <| W.seq <| W.block <| W.seq <| W.seq ?_
    refine W.jn1 (Γ := Unit) (fun (_ : Unit) (x54 : Bool) => [(4, EqA (.bool a4)), (5, PtrA [SlcA kNodeType a0.fNodes, SlcA kEdgeType a0.fEdges]), (6, PtrA [SlcA kInt a1.fNodes, SlcA kEdge a1.fEdges]), (7, PtrA [SlcA kInt a2.fNodes, SlcA kEdge a2.fEdges]), (8, PtrA [SlcA kInt a3.fNodes, SlcA kInt a3.fEdges]), (11, EqA (.int .i64 x11)), (54, EqA (.bool x54))]) (fun (_ : Unit) (_ : Bool) => []) h (fun _ x54 h => ?_) (fun j6729 Kj6729 h => ?_)
    ·refine QN.then_ ?_
     refine W.condP h rfl (fun hb6730 h => ?_) (fun hb6730 h => ?_)
     ·refine W.seq <| W.region <| WL.p rfl rfl rfl (.k .nil) (q_assign rfl) <| WL.nil <| QN.weaken (env' := [(10, _)]) (.one rfl (.nil _)) <| QN.then_ <| W.ret <| QR.then_ <| QR.block <| QR.then_ <| QR.then_ <| QR.block <| QR.then_ ?_
      cases h
      exact QR.f1 rfl rfl (.t rfl) (.id _)
     ·refine W.skip <| QN.then_ <| W.seq <| W.drawK [(0, false), (1, false), (2, false), (3, false), (4, false), (5, false), (6, false), (7, false), (8, false), (9, false), (10, false), (11, false), (12, false), (13, false), (14, false), (15, false), (16, false)] [] [[], [], [1], [], [3], [], [3, 4, 5], [3, 4, 5, 6], [1, 2, 3, 4, 5, 6, 7], [1, 2, 3, 4, 5, 6, 7, 8], [], [10], [], [10, 11, 12], [10, 11, 12, 13], [0, 1, 2, 3, 4, 5, 6, 7, 8, 9, 10, 11, 12, 13, 14], [0, 1, 2, 3, 4, 5, 6, 7, 8, 9, 10, 11, 12, 13, 14, 15]] mx (by kernel_rfl) <| DK.cons rfl rfl (.p rfl (.s 5 rfl .nil) rfl (q_loadS rfl sh25 (leB rfl) rfl)) <| DK.cons rfl rfl (.p rfl (.s 7 rfl .nil) rfl (q_field rfl fo29_0 rfl)) <| DK.cons rfl rfl (.p rfl (.s 56 rfl .nil) rfl (q_load rfl sh26)) <| DK.cons rfl rfl (.p rfl (.s 8 rfl .nil) rfl (q_field rfl fo33_0 rfl)) <| DK.cons rfl rfl (.p rfl (.s 58 rfl .nil) rfl (q_load rfl sh26)) <| DK.cons rfl rfl (.p rfl (.s 11 rfl .nil) rfl (q_move rfl)) ?_
      obtain ⟨c6739, h⟩ := ite_n h
      refine DK.cons rfl rfl (.p rfl (.s 59 rfl (.s 60 rfl .nil)) rfl (q_index rfl el26 rfl c6739.1 c6739.2)) <| DK.cons rfl rfl (.p rfl (.s 61 rfl .nil) rfl (q_load rfl sh3)) ?_
      obtain ⟨c6740, h⟩ := ite_n h
      refine DK.cons rfl rfl (.p rfl (.s 57 rfl (.s 62 rfl .nil)) rfl (q_index rfl el26 rfl c6740.1 c6740.2)) <| DK.cons rfl rfl (.p rfl (.s 63 rfl .nil) rfl (q_load rfl sh3)) <| DK.cons rfl rfl (.p rfl (.s 6 rfl .nil) rfl (q_field rfl fo29_0 rfl)) <| DK.cons rfl rfl (.p rfl (.s 65 rfl .nil) rfl (q_load rfl sh26)) <| DK.cons rfl rfl (.p rfl (.s 11 rfl .nil) rfl (q_move rfl)) ?_
      obtain ⟨c6741, h⟩ := ite_n h
      refine DK.cons rfl rfl (.p rfl (.s 66 rfl (.s 67 rfl .nil)) rfl (q_index rfl el26 rfl c6741.1 c6741.2)) <| DK.cons rfl rfl (.p rfl (.s 68 rfl .nil) rfl (q_load rfl sh3)) ?_
      obtain ⟨t6742, ht6742, h⟩ := bind_s h
      refine DK.cons rfl rfl (.p rfl (.s 55 rfl (.s 64 rfl (.s 69 rfl .nil))) rfl (q_call (f := 70) (A := EqA (.bool t6742)) (xs := [.tmp 55, .tmp 64, .tmp 69]) («as» := [AggA [SlcA kNodeType a0.fNodes, SlcA kEdgeType a0.fEdges], EqA (.int .i64 (rd a2.fNodes (rd a3.fNodes x11))), EqA (.int .i64 (rd a1.fNodes x11))]) rfl ca70 (ref04_Below1.con k a0 (rd a2.fNodes (rd a3.fNodes x11)) (rd a1.fNodes x11) t6742 ht6742) rfl)) <| DK.cons rfl rfl (.p rfl (.s 70 rfl .nil) rfl (q_not rfl)) <| DK.nil <| CSteps.nil <| QN.weaken (env' := [(71, _), (11, _), (8, _), (7, _), (6, _), (5, _), (4, _)]) (.one rfl (.one rfl (.one rfl (.one rfl (.one rfl (.one rfl (.one rfl (.nil _)))))))) <| QN.then_ ?_
      refine W.condP h rfl (fun hb6743 h => ?_) (fun hb6743 h => ?_)
      ·refine W.seq <| W.region <| WL.p rfl rfl rfl (.k .nil) (q_assign rfl) <| WL.nil <| QN.weaken (env' := [(10, _)]) (.one rfl (.nil _)) <| QN.then_ <| W.ret <| QR.block <| QR.then_ <| QR.then_ <| QR.block <| QR.then_ ?_
       cases h
       exact QR.f1 rfl rfl (.t rfl) (.id _)
      ·refine W.skip <| QN.block <| QN.then_ <| W.region <| WL.p rfl rfl rfl (.s 11 rfl .nil) (q_move rfl) ?_
       obtain ⟨c6744, h⟩ := ite_n h
       refine WL.p rfl rfl rfl (.s 36 rfl (.k .nil)) (q_addR rfl c6744) <| WL.p rfl rfl rfl (.s 37 rfl .nil) (q_assign rfl) <| WL.nil ?_
       exact next0 () (x11 + 1) _ h (.one rfl (.one rfl (.one rfl (.one rfl (.one rfl (.one rfl (.nil _)))))))
    ·refine W.drawK [(0, false), (1, false), (2, false), (3, false), (4, false), (5, false), (6, false), (7, false), (8, false), (9, false), (10, false), (11, false), (12, false), (13, false), (14, false), (15, false), (16, false)] [] [[], [0], [], [0, 1, 2], [0, 1, 2, 3], [0, 1, 2, 3, 4], [0, 1, 2, 3, 4, 5], [0, 1, 2, 3, 4, 5, 6], [0, 1, 2, 3, 4, 5, 6, 7], [0, 1, 2, 3, 4, 5, 6], [0, 1, 2, 3, 4, 5, 6, 7, 8, 9], [0, 1, 2, 3, 4, 5, 6, 7, 8, 9, 10], [0, 1, 2, 3, 4, 5, 6], [0, 1, 2, 3, 4, 5, 6, 12], [0, 1, 2, 3, 4, 5, 6, 12, 13], [0, 1, 2, 3, 4, 5, 6, 7, 8, 9, 10, 11, 12, 13, 14], [0, 1, 2, 3, 4, 5, 6, 7, 8, 9, 10, 11, 12, 13, 14, 15]] mx (by kernel_rfl) <| DK.cons rfl rfl (.p rfl (.s 8 rfl .nil) rfl (q_field rfl fo33_0 rfl)) <| DK.cons rfl rfl (.p rfl (.s 38 rfl .nil) rfl (q_load rfl sh26)) <| DK.cons rfl rfl (.p rfl (.s 11 rfl .nil) rfl (q_move rfl)) ?_
     obtain ⟨c6745, h⟩ := ite_n h
     refine DK.cons rfl rfl (.p rfl (.s 39 rfl (.s 40 rfl .nil)) rfl (q_index rfl el26 rfl c6745.1 c6745.2)) <| DK.cons rfl rfl (.p rfl (.s 41 rfl .nil) rfl (q_load rfl sh3)) <| DK.cons rfl rfl (.p rfl (.s 42 rfl (.k .nil)) rfl (q_int rfl rfl)) <| DK.cons rfl rfl (.p rfl (.s 43 rfl .nil) rfl (q_move rfl)) ?_
     rcases bif_s h with ⟨hb6746, h⟩ | ⟨hb6746, h⟩
     ·refine DK.cons rfl rfl (.off rfl rfl rfl hb6746) <| DK.cons rfl rfl (.off rfl rfl rfl hb6746) <| DK.cons rfl rfl (.off rfl rfl rfl hb6746) <| DK.cons rfl rfl (.off rfl rfl rfl hb6746) <| DK.cons rfl rfl (.off rfl rfl rfl hb6746) <| DK.cons rfl rfl (.off rfl rfl rfl hb6746) <| DK.cons rfl rfl (.off rfl rfl rfl hb6746) <| DK.cons rfl rfl (.off rfl rfl rfl hb6746) <| DK.cons rfl rfl (.off rfl rfl rfl hb6746) <| DK.cons rfl rfl (.p rfl (.s 44 rfl (.k .nil)) rfl (q_pickT rfl hb6746)) <| DK.nil <| CSteps.nil ?_
      exact QN.weaken (.one rfl (.one rfl (.one rfl (.one rfl (.one rfl (.one rfl (.one rfl (.nil _)))))))) (Kj6729 () true h)
     ·refine DK.cons rfl rfl (.gp rfl rfl rfl hb6746 (.s 8 rfl .nil) rfl (q_field rfl fo33_0 rfl)) <| DK.cons rfl rfl (.gp rfl rfl rfl hb6746 (.s 45 rfl .nil) rfl (q_load rfl sh26)) <| DK.cons rfl rfl (.gp rfl rfl rfl hb6746 (.s 11 rfl .nil) rfl (q_move rfl)) ?_
      obtain ⟨c6747, h⟩ := ite_n h
      refine DK.cons rfl rfl (.gp rfl rfl rfl hb6746 (.s 46 rfl (.s 47 rfl .nil)) rfl (q_index rfl el26 rfl c6747.1 c6747.2)) <| DK.cons rfl rfl (.gp rfl rfl rfl hb6746 (.s 48 rfl .nil) rfl (q_load rfl sh3)) <| DK.cons rfl rfl (.gp rfl rfl rfl hb6746 (.s 7 rfl .nil) rfl (q_field rfl fo29_0 rfl)) <| DK.cons rfl rfl (.gp rfl rfl rfl hb6746 (.s 50 rfl .nil) rfl (q_load rfl sh26)) <| DK.cons rfl rfl (.gp rfl rfl rfl hb6746 (.s 51 rfl .nil) rfl (q_len rfl elS26)) <| DK.cons rfl rfl (.gp rfl rfl rfl hb6746 (.s 49 rfl (.s 52 rfl .nil)) rfl (q_int rfl rfl)) <| DK.cons rfl rfl (.p rfl (.s 44 rfl (.s 53 rfl .nil)) rfl (q_pickF rfl hb6746)) <| DK.nil <| CSteps.nil ?_
      exact QN.weaken (.one rfl (.one rfl (.one rfl (.one rfl (.one rfl (.one rfl (.one rfl (.nil _)))))))) (Kj6729 () (decide ((rd a3.fNodes x11) ≥ (a2.fNodes.length : Int))) h)
   ·refine W.exit <| QX.then_ <| QX.then_ <| QX.here <| QN.weaken (env' := [(8, _), (7, _), (6, _), (4, _)]) (.one rfl (.one rfl (.one rfl (.one rfl (.nil _))))) <| QN.then_ <| W.seq <| W.seq <| W.region <| WL.p rfl rfl rfl (.k .nil) (q_assign rfl) <| WL.nil <| QN.then_ <| W.block ?_
    refine W.loop1 (Γ := Unit) (fun (_ : Unit) (x12 : Int) => [(4, EqA (.bool a4)), (6, PtrA [SlcA kInt a1.fNodes, SlcA kEdge a1.fEdges]), (7, PtrA [SlcA kInt a2.fNodes, SlcA kEdge a2.fEdges]), (8, PtrA [SlcA kInt a3.fNodes, SlcA kInt a3.fEdges]), (12, EqA (.int .i64 x12))]) (fun (_ : Unit) (_ : Int) => []) h () (.one rfl (.one rfl (.one rfl (.one rfl (.one rfl (.nil _)))))) rfl (fun rec1 K1 next1 _ x12 h => ?_)
    unfold ref17_match.b1 at h
    refine W.seq <| W.seq <| W.region <| WL.p rfl rfl rfl (.s 12 rfl .nil) (q_move rfl) <| WL.p rfl rfl rfl (.s 8 rfl .nil) (q_field rfl fo33_1 rfl) <| WL.p rfl rfl rfl (.s 73 rfl .nil) (q_load rfl sh26) <| WL.p rfl rfl rfl (.s 74 rfl .nil) (q_len rfl elS26) <| WL.p rfl rfl rfl (.s 72 rfl (.s 75 rfl .nil)) (q_int rfl rfl) <| WL.nil <| QN.then_ ?_
    refine W.condP h rfl (fun hb6858 h => ?_) (fun hb6858 h => ?_)
    ·refine W.skip <| QN.then_ <| W.seq <| W.block <| W.seq <| W.seq ?_
     refine W.jn1 (Γ := Unit) (fun (_ : Unit) (x95 : Bool) => [(4, EqA (.bool a4)), (6, PtrA [SlcA kInt a1.fNodes, SlcA kEdge a1.fEdges]), (7, PtrA [SlcA kInt a2.fNodes, SlcA kEdge a2.fEdges]), (8, PtrA [SlcA kInt a3.fNodes, SlcA kInt a3.fEdges]), (12, EqA (.int .i64 x12)), (95, EqA (.bool x95))]) (fun (_ : Unit) (_ : Bool) => []) h (fun _ x95 h => ?_) (fun j6866 Kj6866 h => ?_)
     ·refine QN.then_ ?_
      refine W.condP h rfl (fun hb6867 h => ?_) (fun hb6867 h => ?_)
      ·refine W.seq <| W.region <| WL.p rfl rfl rfl (.k .nil) (q_assign rfl) <| WL.nil <| QN.then_ <| W.ret <| QR.then_ <| QR.block <| QR.then_ <| QR.then_ <| QR.block <| QR.then_ ?_
       cases h
       exact QR.f1 rfl rfl (.t rfl) (.id _)
      ·refine W.skip <| QN.then_ <| W.seq ?_
       refine W.jn0 (Γ := Unit) (fun (_ : Unit) => [(4, EqA (.bool a4)), (6, PtrA [SlcA kInt a1.fNodes, SlcA kEdge a1.fEdges]), (7, PtrA [SlcA kInt a2.fNodes, SlcA kEdge a2.fEdges]), (8, PtrA [SlcA kInt a3.fNodes, SlcA kInt a3.fEdges]), (12, EqA (.int .i64 x12)), (13, PtrA [EqA (.int .i64 ((rd a1.fEdges x12).fType)), EqA (.int .i64 ((rd a1.fEdges x12).fFrom)), EqA (.int .i64 ((rd a1.fEdges x12).fTo))]), (14, PtrA [EqA (.int .i64 ((rd a2.fEdges (rd a3.fEdges x12)).fType)), EqA (.int .i64 ((rd a2.fEdges (rd a3.fEdges x12)).fFrom)), EqA (.int .i64 ((rd a2.fEdges (rd a3.fEdges x12)).fTo))])]) (fun (_ : Unit) => []) h (fun _ h => ?_) (fun j6879 Kj6879 h => ?_)
       ·refine QN.then_ <| W.seq <| W.seq <| W.region <| WL.p rfl rfl rfl (.s 13 rfl .nil) (q_field rfl fo77_0 rfl) <| WL.p rfl rfl rfl (.s 110 rfl .nil) (q_load rfl sh3) <| WL.p rfl rfl rfl (.s 14 rfl .nil) (q_field rfl fo77_0 rfl) <| WL.p rfl rfl rfl (.s 112 rfl .nil) (q_load rfl sh3) <| WL.p rfl rfl rfl (.s 111 rfl (.s 113 rfl .nil)) (q_int rfl rfl) <| WL.nil <| QN.then_ ?_
        refine W.condP h rfl (fun hb6880 h => ?_) (fun hb6880 h => ?_)
        ·refine W.seq <| W.region <| WL.p rfl rfl rfl (.k .nil) (q_assign rfl) <| WL.nil <| QN.weaken (env' := [(10, _)]) (.one rfl (.nil _)) <| QN.then_ <| W.ret <| QR.then_ <| QR.block <| QR.then_ <| QR.then_ <| QR.block <| QR.then_ ?_
         cases h
         exact QR.f1 rfl rfl (.t rfl) (.id _)
        ·refine W.skip <| QN.then_ <| W.seq ?_
         refine W.jn1 (Γ := Unit) (fun (_ : Unit) (x134 : Bool) => [(4, EqA (.bool a4)), (6, PtrA [SlcA kInt a1.fNodes, SlcA kEdge a1.fEdges]), (7, PtrA [SlcA kInt a2.fNodes, SlcA kEdge a2.fEdges]), (8, PtrA [SlcA kInt a3.fNodes, SlcA kInt a3.fEdges]), (12, EqA (.int .i64 x12)), (134, EqA (.bool x134))]) (fun (_ : Unit) (_ : Bool) => []) h (fun _ x134 h => ?_) (fun j6888 Kj6888 h => ?_)
         ·refine QN.then_ ?_
          refine W.condP h rfl (fun hb6889 h => ?_) (fun hb6889 h => ?_)
          ·refine W.seq <| W.region <| WL.p rfl rfl rfl (.k .nil) (q_assign rfl) <| WL.nil <| QN.then_ <| W.ret <| QR.block <| QR.then_ <| QR.then_ <| QR.block <| QR.then_ ?_
           cases h
           exact QR.f1 rfl rfl (.t rfl) (.id _)
          ·refine W.skip <| QN.block <| QN.then_ <| W.region <| WL.p rfl rfl rfl (.s 12 rfl .nil) (q_move rfl) ?_
           obtain ⟨c6890, h⟩ := ite_n h
           refine WL.p rfl rfl rfl (.s 77 rfl (.k .nil)) (q_addR rfl c6890) <| WL.p rfl rfl rfl (.s 78 rfl .nil) (q_assign rfl) <| WL.nil ?_
           exact next1 () (x12 + 1) _ h (.one rfl (.one rfl (.one rfl (.one rfl (.one rfl (.nil _))))))
         ·refine W.drawK [(0, false), (1, false), (2, false), (3, false), (4, false), (5, false), (6, false), (7, false), (8, false), (9, false), (10, false), (11, false), (12, false), (13, false), (14, false), (15, false), (16, false), (17, false), (18, false), (19, false)] [] [[], [0], [], [2], [0, 1, 2, 3], [0, 1, 2, 3, 4], [], [6], [0, 1, 2, 3, 4, 5, 6, 7], [0, 1, 2, 3, 4, 5, 6, 7, 8], [0, 1, 2, 3, 4, 5, 6, 7, 8, 9], [0, 1, 2, 3, 4, 5, 6, 7, 8, 9, 10], [0, 1, 2, 3, 4, 5, 6, 7, 8, 9], [0, 1, 2, 3, 4, 5, 6, 7, 8, 9, 12], [0, 1, 2, 3, 4, 5, 6, 7, 8, 9, 10, 11, 12, 13], [0, 1, 2, 3, 4, 5, 6, 7, 8, 9, 10, 11, 12, 13, 14], [0, 1, 2, 3, 4, 5, 6, 7, 8, 9], [0, 1, 2, 3, 4, 5, 6, 7, 8, 9, 16], [0, 1, 2, 3, 4, 5, 6, 7, 8, 9, 10, 11, 12, 13, 14, 15, 16, 17], [0, 1, 2, 3, 4, 5, 6, 7, 8, 9, 10, 11, 12, 13, 14, 15, 16, 17, 18]] mx (by kernel_rfl) <| DK.cons rfl rfl (.p rfl (.s 8 rfl .nil) rfl (q_field rfl fo33_0 rfl)) <| DK.cons rfl rfl (.p rfl (.s 115 rfl .nil) rfl (q_load rfl sh26)) <| DK.cons rfl rfl (.p rfl (.s 13 rfl .nil) rfl (q_field rfl fo77_1 rfl)) <| DK.cons rfl rfl (.p rfl (.s 117 rfl .nil) rfl (q_load rfl sh3)) ?_
          obtain ⟨c6891, h⟩ := ite_n h
          refine DK.cons rfl rfl (.p rfl (.s 116 rfl (.s 118 rfl .nil)) rfl (q_index rfl el26 rfl c6891.1 c6891.2)) <| DK.cons rfl rfl (.p rfl (.s 119 rfl .nil) rfl (q_load rfl sh3)) <| DK.cons rfl rfl (.p rfl (.s 14 rfl .nil) rfl (q_field rfl fo77_1 rfl)) <| DK.cons rfl rfl (.p rfl (.s 121 rfl .nil) rfl (q_load rfl sh3)) <| DK.cons rfl rfl (.p rfl (.s 120 rfl (.s 122 rfl .nil)) rfl (q_int rfl rfl)) <| DK.cons rfl rfl (.p rfl (.s 123 rfl .nil) rfl (q_move rfl)) ?_
          rcases bif_s h with ⟨hb6892, h⟩ | ⟨hb6892, h⟩
          ·refine DK.cons rfl rfl (.off rfl rfl rfl hb6892) <| DK.cons rfl rfl (.off rfl rfl rfl hb6892) <| DK.cons rfl rfl (.off rfl rfl rfl hb6892) <| DK.cons rfl rfl (.off rfl rfl rfl hb6892) <| DK.cons rfl rfl (.off rfl rfl rfl hb6892) <| DK.cons rfl rfl (.off rfl rfl rfl hb6892) <| DK.cons rfl rfl (.off rfl rfl rfl hb6892) <| DK.cons rfl rfl (.off rfl rfl rfl hb6892) <| DK.cons rfl rfl (.off rfl rfl rfl hb6892) <| DK.cons rfl rfl (.p rfl (.s 124 rfl (.k .nil)) rfl (q_pickT rfl hb6892)) <| DK.nil <| CSteps.nil ?_
           exact QN.weaken (.one rfl (.one rfl (.one rfl (.one rfl (.one rfl (.one rfl (.nil _))))))) (Kj6888 () true h)
          ·refine DK.cons rfl rfl (.gp rfl rfl rfl hb6892 (.s 8 rfl .nil) rfl (q_field rfl fo33_0 rfl)) <| DK.cons rfl rfl (.gp rfl rfl rfl hb6892 (.s 125 rfl .nil) rfl (q_load rfl sh26)) <| DK.cons rfl rfl (.gp rfl rfl rfl hb6892 (.s 13 rfl .nil) rfl (q_field rfl fo77_2 rfl)) <| DK.cons rfl rfl (.gp rfl rfl rfl hb6892 (.s 127 rfl .nil) rfl (q_load rfl sh3)) ?_
           obtain ⟨c6893, h⟩ := ite_n h
           refine DK.cons rfl rfl (.gp rfl rfl rfl hb6892 (.s 126 rfl (.s 128 rfl .nil)) rfl (q_index rfl el26 rfl c6893.1 c6893.2)) <| DK.cons rfl rfl (.gp rfl rfl rfl hb6892 (.s 129 rfl .nil) rfl (q_load rfl sh3)) <| DK.cons rfl rfl (.gp rfl rfl rfl hb6892 (.s 14 rfl .nil) rfl (q_field rfl fo77_2 rfl)) <| DK.cons rfl rfl (.gp rfl rfl rfl hb6892 (.s 131 rfl .nil) rfl (q_load rfl sh3)) <| DK.cons rfl rfl (.gp rfl rfl rfl hb6892 (.s 130 rfl (.s 132 rfl .nil)) rfl (q_int rfl rfl)) <| DK.cons rfl rfl (.p rfl (.s 124 rfl (.s 133 rfl .nil)) rfl (q_pickF rfl hb6892)) <| DK.nil <| CSteps.nil ?_
           exact QN.weaken (.one rfl (.one rfl (.one rfl (.one rfl (.one rfl (.one rfl (.nil _))))))) (Kj6888 () ((rd a3.fNodes ((rd a1.fEdges x12).fTo)) != (rd a2.fEdges (rd a3.fEdges x12)).fTo) h)
       ·refine W.drawKT [(0, false), (1, false), (2, false), (3, false), (4, false), (5, false), (6, false), (7, false), (8, false), (9, false), (10, false), (11, false), (12, false), (13, false)] [14, 15, 16, 17] [14, 15] 4 [[], [0], [], [0, 1, 2], [0, 1, 2, 3], [], [5], [], [7], [], [7, 8, 9], [7, 8, 9, 10], [5, 6, 7, 8, 9, 10, 11], [5, 6, 7, 8, 9, 10, 11, 12], [], [], [0, 1, 2, 3, 4, 14, 15], [0, 1, 2, 3, 4, 5, 6, 7, 8, 9, 10, 11, 12, 13, 14, 15, 16]] mx (by kernel_rfl) <| DKT.cons rfl rfl (.p rfl (.s 6 rfl .nil) rfl (q_field rfl fo29_1 rfl)) <| DKT.cons rfl rfl (.p rfl (.s 96 rfl .nil) rfl (q_load rfl sh27)) <| DKT.cons rfl rfl (.p rfl (.s 12 rfl .nil) rfl (q_move rfl)) ?_
        obtain ⟨c6894, h⟩ := ite_n h
        refine DKT.cons rfl rfl (.p rfl (.s 97 rfl (.s 98 rfl .nil)) rfl (q_index rfl el27 rfl c6894.1 c6894.2)) <| DKT.cons rfl rfl (.p rfl (.s 99 rfl .nil) rfl (q_loadS rfl sh77 (leB rfl) rfl)) <| DKT.cons rfl rfl (.p rfl (.s 7 rfl .nil) rfl (q_field rfl fo29_1 rfl)) <| DKT.cons rfl rfl (.p rfl (.s 101 rfl .nil) rfl (q_load rfl sh27)) <| DKT.cons rfl rfl (.p rfl (.s 8 rfl .nil) rfl (q_field rfl fo33_1 rfl)) <| DKT.cons rfl rfl (.p rfl (.s 103 rfl .nil) rfl (q_load rfl sh26)) <| DKT.cons rfl rfl (.p rfl (.s 12 rfl .nil) rfl (q_move rfl)) ?_
        obtain ⟨c6895, h⟩ := ite_n h
        refine DKT.cons rfl rfl (.p rfl (.s 104 rfl (.s 105 rfl .nil)) rfl (q_index rfl el26 rfl c6895.1 c6895.2)) <| DKT.cons rfl rfl (.p rfl (.s 106 rfl .nil) rfl (q_load rfl sh3)) ?_
        obtain ⟨c6896, h⟩ := ite_n h
        refine DKT.cons rfl rfl (.p rfl (.s 102 rfl (.s 107 rfl .nil)) rfl (q_index rfl el27 rfl c6896.1 c6896.2)) <| DKT.cons rfl rfl (.p rfl (.s 108 rfl .nil) rfl (q_loadS rfl sh77 (leB rfl) rfl)) <| DKT.nil <| CT.step ?_
        refine CTc.yes rfl ?_ ?_
        ·refine CStep1.w [] (fun _ => rfl) rfl rfl rfl rfl .nil rfl (w_alloc rfl z77 (l := [EqA (.int .i64 0), EqA (.int .i64 0), EqA (.int .i64 0)]) rfl) ?_
         rintro _ _ ⟨b6897, rfl, rfl⟩
         refine CT.list (l' := [15, 16, 17]) rfl <| CT.step ?_
         refine CTc.yes rfl ?_ ?_
         ·refine CStep1.w [] (fun _ => rfl) rfl rfl rfl rfl .nil rfl (w_alloc rfl z77 (l := [EqA (.int .i64 0), EqA (.int .i64 0), EqA (.int .i64 0)]) rfl) ?_
          rintro _ _ ⟨b6898, rfl, rfl⟩
          refine CT.list (l' := [16, 17]) rfl <| CT.step ?_
          refine CTc.yes rfl ?_ ?_
          ·refine CStep1.w0 [1] (fun h => absurd h (by decide)) rfl rfl rfl (.s 13 rfl (.s 100 rfl .nil)) rfl (w_store (L := [EqA (.int .i64 ((rd a1.fEdges x12).fType)), EqA (.int .i64 ((rd a1.fEdges x12).fFrom)), EqA (.int .i64 ((rd a1.fEdges x12).fTo))]) rfl sh77 (CellsOf.agg _) rfl rfl (leB rfl) rfl) ?_
           rintro _ _ ⟨rfl, rfl⟩
           refine CT.list (l' := [17]) rfl <| CT.step ?_
           refine CTc.yes rfl ?_ ?_
           ·refine CStep1.w0 [1] (fun h => absurd h (by decide)) rfl rfl rfl (.s 14 rfl (.s 109 rfl .nil)) rfl (w_store (L := [EqA (.int .i64 ((rd a2.fEdges (rd a3.fEdges x12)).fType)), EqA (.int .i64 ((rd a2.fEdges (rd a3.fEdges x12)).fFrom)), EqA (.int .i64 ((rd a2.fEdges (rd a3.fEdges x12)).fTo))]) rfl sh77 (CellsOf.agg _) rfl rfl (leB rfl) rfl) ?_
            rintro _ _ ⟨rfl, rfl⟩
            refine CT.list (l' := []) rfl <| CT.nil <| QN.to (StTo.still [1] 13 rfl rfl) <| QN.to (StTo.still [0] 14 rfl rfl) ?_
            exact QN.weaken (.one rfl (.one rfl (.one rfl (.one rfl (.one rfl (.one rfl (.one rfl (.nil _)))))))) (Kj6879 () h)
           exact CTc.end
          refine CTc.no rfl ?_
          exact CTc.end
         refine CTc.no rfl <| CTc.no rfl ?_
         exact CTc.end
        refine CTc.yes rfl ?_ ?_
        ·refine CStep1.w [] (fun _ => rfl) rfl rfl rfl rfl .nil rfl (w_alloc rfl z77 (l := [EqA (.int .i64 0), EqA (.int .i64 0), EqA (.int .i64 0)]) rfl) ?_
         rintro _ _ ⟨b6898, rfl, rfl⟩
         refine CT.list (l' := [14, 16, 17]) rfl <| CT.step ?_
         refine CTc.yes rfl ?_ ?_
         ·refine CStep1.w [] (fun _ => rfl) rfl rfl rfl rfl .nil rfl (w_alloc rfl z77 (l := [EqA (.int .i64 0), EqA (.int .i64 0), EqA (.int .i64 0)]) rfl) ?_
          rintro _ _ ⟨b6897, rfl, rfl⟩
          refine CT.list (l' := [16, 17]) rfl <| CT.step ?_
          refine CTc.yes rfl ?_ ?_
          ·refine CStep1.w0 [0] (fun h => absurd h (by decide)) rfl rfl rfl (.s 13 rfl (.s 100 rfl .nil)) rfl (w_store (L := [EqA (.int .i64 ((rd a1.fEdges x12).fType)), EqA (.int .i64 ((rd a1.fEdges x12).fFrom)), EqA (.int .i64 ((rd a1.fEdges x12).fTo))]) rfl sh77 (CellsOf.agg _) rfl rfl (leB rfl) rfl) ?_
           rintro _ _ ⟨rfl, rfl⟩
           refine CT.list (l' := [17]) rfl <| CT.step ?_
           refine CTc.yes rfl ?_ ?_
           ·refine CStep1.w0 [1] (fun h => absurd h (by decide)) rfl rfl rfl (.s 14 rfl (.s 109 rfl .nil)) rfl (w_store (L := [EqA (.int .i64 ((rd a2.fEdges (rd a3.fEdges x12)).fType)), EqA (.int .i64 ((rd a2.fEdges (rd a3.fEdges x12)).fFrom)), EqA (.int .i64 ((rd a2.fEdges (rd a3.fEdges x12)).fTo))]) rfl sh77 (CellsOf.agg _) rfl rfl (leB rfl) rfl) ?_
            rintro _ _ ⟨rfl, rfl⟩
            refine CT.list (l' := []) rfl <| CT.nil <| QN.to (StTo.still [1] 13 rfl rfl) <| QN.to (StTo.still [0] 14 rfl rfl) ?_
            exact QN.weaken (.one rfl (.one rfl (.one rfl (.one rfl (.one rfl (.one rfl (.one rfl (.nil _)))))))) (Kj6879 () h)
           exact CTc.end
          refine CTc.no rfl ?_
          exact CTc.end
         refine CTc.no rfl <| CTc.no rfl ?_
         exact CTc.end
        refine CTc.no rfl <| CTc.no rfl ?_
        exact CTc.end
     ·refine W.drawK [(0, false), (1, false), (2, false), (3, false), (4, false), (5, false), (6, false), (7, false), (8, false), (9, false), (10, false), (11, false), (12, false), (13, false), (14, false), (15, false), (16, false)] [] [[], [0], [], [0, 1, 2], [0, 1, 2, 3], [0, 1, 2, 3, 4], [0, 1, 2, 3, 4, 5], [0, 1, 2, 3, 4, 5, 6], [0, 1, 2, 3, 4, 5, 6, 7], [0, 1, 2, 3, 4, 5, 6], [0, 1, 2, 3, 4, 5, 6, 7, 8, 9], [0, 1, 2, 3, 4, 5, 6, 7, 8, 9, 10], [0, 1, 2, 3, 4, 5, 6], [0, 1, 2, 3, 4, 5, 6, 12], [0, 1, 2, 3, 4, 5, 6, 12, 13], [0, 1, 2, 3, 4, 5, 6, 7, 8, 9, 10, 11, 12, 13, 14], [0, 1, 2, 3, 4, 5, 6, 7, 8, 9, 10, 11, 12, 13, 14, 15]] mx (by kernel_rfl) <| DK.cons rfl rfl (.p rfl (.s 8 rfl .nil) rfl (q_field rfl fo33_1 rfl)) <| DK.cons rfl rfl (.p rfl (.s 79 rfl .nil) rfl (q_load rfl sh26)) <| DK.cons rfl rfl (.p rfl (.s 12 rfl .nil) rfl (q_move rfl)) ?_
      obtain ⟨c6899, h⟩ := ite_n h
      refine DK.cons rfl rfl (.p rfl (.s 80 rfl (.s 81 rfl .nil)) rfl (q_index rfl el26 rfl c6899.1 c6899.2)) <| DK.cons rfl rfl (.p rfl (.s 82 rfl .nil) rfl (q_load rfl sh3)) <| DK.cons rfl rfl (.p rfl (.s 83 rfl (.k .nil)) rfl (q_int rfl rfl)) <| DK.cons rfl rfl (.p rfl (.s 84 rfl .nil) rfl (q_move rfl)) ?_
      rcases bif_s h with ⟨hb6900, h⟩ | ⟨hb6900, h⟩
      ·refine DK.cons rfl rfl (.off rfl rfl rfl hb6900) <| DK.cons rfl rfl (.off rfl rfl rfl hb6900) <| DK.cons rfl rfl (.off rfl rfl rfl hb6900) <| DK.cons rfl rfl (.off rfl rfl rfl hb6900) <| DK.cons rfl rfl (.off rfl rfl rfl hb6900) <| DK.cons rfl rfl (.off rfl rfl rfl hb6900) <| DK.cons rfl rfl (.off rfl rfl rfl hb6900) <| DK.cons rfl rfl (.off rfl rfl rfl hb6900) <| DK.cons rfl rfl (.off rfl rfl rfl hb6900) <| DK.cons rfl rfl (.p rfl (.s 85 rfl (.k .nil)) rfl (q_pickT rfl hb6900)) <| DK.nil <| CSteps.nil ?_
       exact QN.weaken (.one rfl (.one rfl (.one rfl (.one rfl (.one rfl (.one rfl (.nil _))))))) (Kj6866 () true h)
      ·refine DK.cons rfl rfl (.gp rfl rfl rfl hb6900 (.s 8 rfl .nil) rfl (q_field rfl fo33_1 rfl)) <| DK.cons rfl rfl (.gp rfl rfl rfl hb6900 (.s 86 rfl .nil) rfl (q_load rfl sh26)) <| DK.cons rfl rfl (.gp rfl rfl rfl hb6900 (.s 12 rfl .nil) rfl (q_move rfl)) ?_
       obtain ⟨c6901, h⟩ := ite_n h
       refine DK.cons rfl rfl (.gp rfl rfl rfl hb6900 (.s 87 rfl (.s 88 rfl .nil)) rfl (q_index rfl el26 rfl c6901.1 c6901.2)) <| DK.cons rfl rfl (.gp rfl rfl rfl hb6900 (.s 89 rfl .nil) rfl (q_load rfl sh3)) <| DK.cons rfl rfl (.gp rfl rfl rfl hb6900 (.s 7 rfl .nil) rfl (q_field rfl fo29_1 rfl)) <| DK.cons rfl rfl (.gp rfl rfl rfl hb6900 (.s 91 rfl .nil) rfl (q_load rfl sh27)) <| DK.cons rfl rfl (.gp rfl rfl rfl hb6900 (.s 92 rfl .nil) rfl (q_len rfl elS27)) <| DK.cons rfl rfl (.gp rfl rfl rfl hb6900 (.s 90 rfl (.s 93 rfl .nil)) rfl (q_int rfl rfl)) <| DK.cons rfl rfl (.p rfl (.s 85 rfl (.s 94 rfl .nil)) rfl (q_pickF rfl hb6900)) <| DK.nil <| CSteps.nil ?_
       exact QN.weaken (.one rfl (.one rfl (.one rfl (.one rfl (.one rfl (.one rfl (.nil _))))))) (Kj6866 () (decide ((rd a3.fEdges x12) ≥ (a2.fEdges.length : Int))) h)
    ·refine W.exit <| QX.then_ <| QX.then_ <| QX.here <| QN.weaken (env' := [(8, _), (4, _)]) (.one rfl (.one rfl (.nil _))) <| QN.then_ <| W.seq <| W.seq ?_
     refine W.jn1 (Γ := Unit) (fun (_ : Unit) (x147 : Bool) => [(147, EqA (.bool x147))]) (fun (_ : Unit) (_ : Bool) => []) h (fun _ x147 h => ?_) (fun j6907 Kj6907 h => ?_)
     ·refine QN.then_ ?_
      refine W.condP h rfl (fun hb6908 h => ?_) (fun hb6908 h => ?_)
      ·refine W.seq <| W.region <| WL.p rfl rfl rfl (.k .nil) (q_assign rfl) <| WL.nil <| QN.then_ <| W.ret <| QR.then_ ?_
       cases h
       exact QR.f1 rfl rfl (.t rfl) (.id _)
      ·refine W.skip <| QN.then_ <| W.seq <| W.region <| WL.p rfl rfl rfl (.k .nil) (q_assign rfl) <| WL.nil <| QN.then_ <| W.ret ?_
       cases h
       exact QR.f1 rfl rfl (.t rfl) (.id _)
     ·refine W.region <| WL.p rfl rfl rfl (.s 4 rfl .nil) (q_move rfl) <| WL.p rfl rfl rfl (.s 135 rfl .nil) (q_move rfl) ?_
      rcases bif_s h with ⟨hb6909, h⟩ | ⟨hb6909, h⟩
      ·refine WL.q (Wanted.on rfl rfl rfl hb6909) rfl rfl (.s 8 rfl .nil) (q_field rfl fo33_0 rfl).o <| WL.q (Wanted.on rfl rfl rfl hb6909) rfl rfl (.s 137 rfl .nil) (q_load rfl sh26).o ?_
       obtain ⟨t6910, ht6910, h⟩ := bind_s h
       refine WL.q (Wanted.on rfl rfl rfl hb6909) rfl rfl (.s 138 rfl .nil) (q_call (f := 71) (A := EqA (.bool t6910)) (xs := [.tmp 138]) («as» := [SlcA kInt a3.fNodes]) rfl ca71 (ref17_distinct.con k a3.fNodes t6910 ht6910) rfl).o <| WL.q (Wanted.on rfl rfl rfl hb6909) rfl rfl (.s 139 rfl .nil) (q_not rfl).o <| WL.q (Wanted.on rfl rfl rfl hb6909) rfl rfl (.s 140 rfl .nil) (q_move rfl).o ?_
       rcases bif_s h with ⟨hb6911, h⟩ | ⟨hb6911, h⟩
       ·refine WL.skip (Unwanted.on rfl rfl rfl hb6911) rfl rfl <| WL.skip (Unwanted.on rfl rfl rfl hb6911) rfl rfl <| WL.skip (Unwanted.on rfl rfl rfl hb6911) rfl rfl <| WL.skip (Unwanted.on rfl rfl rfl hb6911) rfl rfl <| WL.q (Wanted.on rfl rfl rfl hb6909) rfl rfl (.s 141 rfl (.k .nil)) (q_pickT rfl hb6911).o <| WL.p rfl rfl rfl (.s 136 rfl (.s 146 rfl .nil)) (q_pickT rfl hb6909) <| WL.nil ?_
        exact QN.weaken (.one rfl (.nil _)) (Kj6907 () true h)
       ·refine WL.q (Wanted.on rfl rfl rfl hb6911) rfl rfl (.s 8 rfl .nil) (q_field rfl fo33_1 rfl).o <| WL.q (Wanted.on rfl rfl rfl hb6911) rfl rfl (.s 142 rfl .nil) (q_load rfl sh26).o ?_
        obtain ⟨t6912, ht6912, h⟩ := bind_s h
        refine WL.q (Wanted.on rfl rfl rfl hb6911) rfl rfl (.s 143 rfl .nil) (q_call (f := 71) (A := EqA (.bool t6912)) (xs := [.tmp 143]) («as» := [SlcA kInt a3.fEdges]) rfl ca71 (ref17_distinct.con k a3.fEdges t6912 ht6912) rfl).o <| WL.q (Wanted.on rfl rfl rfl hb6911) rfl rfl (.s 144 rfl .nil) (q_not rfl).o <| WL.q (Wanted.on rfl rfl rfl hb6909) rfl rfl (.s 141 rfl (.s 145 rfl .nil)) (q_pickF rfl hb6911).o <| WL.p rfl rfl rfl (.s 136 rfl (.s 146 rfl .nil)) (q_pickT rfl hb6909) <| WL.nil ?_
        exact QN.weaken (.one rfl (.nil _)) (Kj6907 () (!t6912) h)
      ·refine WL.skip (Unwanted.on rfl rfl rfl hb6909) rfl rfl <| WL.skip (Unwanted.on rfl rfl rfl hb6909) rfl rfl <| WL.skip (Unwanted.on rfl rfl rfl hb6909) rfl rfl <| WL.skip (Unwanted.on rfl rfl rfl hb6909) rfl rfl <| WL.skip (Unwanted.on rfl rfl rfl hb6909) rfl rfl <| WL.skip (Unwanted.und rfl rfl rfl) rfl rfl <| WL.skip (Unwanted.und rfl rfl rfl) rfl rfl <| WL.skip (Unwanted.und rfl rfl rfl) rfl rfl <| WL.skip (Unwanted.und rfl rfl rfl) rfl rfl <| WL.skip (Unwanted.on rfl rfl rfl hb6909) rfl rfl <| WL.p rfl rfl rfl (.s 136 rfl (.k .nil)) (q_pickF rfl hb6909) <| WL.nil ?_
       exact QN.weaken (.one rfl (.nil _)) (Kj6907 () false h)
 ·refine W.region <| WL.p rfl rfl rfl (.s 8 rfl .nil) (q_field rfl fo33_0 rfl) <| WL.p rfl rfl rfl (.s 15 rfl .nil) (q_load rfl sh26) <| WL.p rfl rfl rfl (.s 16 rfl .nil) (q_len rfl elS26) <| WL.p rfl rfl rfl (.s 6 rfl .nil) (q_field rfl fo29_0 rfl) <| WL.p rfl rfl rfl (.s 18 rfl .nil) (q_load rfl sh26) <| WL.p rfl rfl rfl (.s 19 rfl .nil) (q_len rfl elS26) <| WL.p rfl rfl rfl (.s 17 rfl (.s 20 rfl .nil)) (q_int rfl rfl) <| WL.p rfl rfl rfl (.s 21 rfl .nil) (q_move rfl) ?_
  rcases bif_s h with ⟨hb6913, h⟩ | ⟨hb6913, h⟩
  ·refine WL.skip (Unwanted.on rfl rfl rfl hb6913) rfl rfl <| WL.skip (Unwanted.on rfl rfl rfl hb6913) rfl rfl <| WL.skip (Unwanted.on rfl rfl rfl hb6913) rfl rfl <| WL.skip (Unwanted.on rfl rfl rfl hb6913) rfl rfl <| WL.skip (Unwanted.on rfl rfl rfl hb6913) rfl rfl <| WL.skip (Unwanted.on rfl rfl rfl hb6913) rfl rfl <| WL.skip (Unwanted.on rfl rfl rfl hb6913) rfl rfl <| WL.p rfl rfl rfl (.s 22 rfl (.k .nil)) (q_pickT rfl hb6913) <| WL.nil ?_
   exact QN.weaken (.one rfl (.one rfl (.one rfl (.one rfl (.one rfl (.one rfl (.nil _))))))) (Kj6335 () true h)
  ·refine WL.q (Wanted.on rfl rfl rfl hb6913) rfl rfl (.s 8 rfl .nil) (q_field rfl fo33_1 rfl).o <| WL.q (Wanted.on rfl rfl rfl hb6913) rfl rfl (.s 23 rfl .nil) (q_load rfl sh26).o <| WL.q (Wanted.on rfl rfl rfl hb6913) rfl rfl (.s 24 rfl .nil) (q_len rfl elS26).o <| WL.q (Wanted.on rfl rfl rfl hb6913) rfl rfl (.s 6 rfl .nil) (q_field rfl fo29_1 rfl).o <| WL.q (Wanted.on rfl rfl rfl hb6913) rfl rfl (.s 26 rfl .nil) (q_load rfl sh27).o <| WL.q (Wanted.on rfl rfl rfl hb6913) rfl rfl (.s 27 rfl .nil) (q_len rfl elS27).o <| WL.q (Wanted.on rfl rfl rfl hb6913) rfl rfl (.s 25 rfl (.s 28 rfl .nil)) (q_int rfl rfl).o <| WL.p rfl rfl rfl (.s 22 rfl (.s 29 rfl .nil)) (q_pickF rfl hb6913) <| WL.nil ?_
   exact QN.weaken (.one rfl (.one rfl (.one rfl (.one rfl (.one rfl (.one rfl (.nil _))))))) (Kj6335 () ((a3.fEdges.length : Int) != (a1.fEdges.length : Int)) h)
theorem ref17_Check.con (k : Nat) (a0 : Types) (a1 : Graph) (a2 : Graph) (a3 : Morphism) (a4 : Bool) (r : Int) (h : ref17_Check k a0 a1 a2 a3 a4 = some r) : Con Tryz.prog 22 [] [AggA [SlcA kNodeType a0.fNodes, SlcA kEdgeType a0.fEdges], AggA [SlcA kInt a1.fNodes, SlcA kEdge a1.fEdges], AggA [SlcA kInt a2.fNodes, SlcA kEdge a2.fEdges], AggA [SlcA kInt a3.fNodes, SlcA kInt a3.fEdges], EqA (.bool a4)] (RA (EqA (.int .i64 r))) := by
 unfold ref17_Check at h
 refine Con.of (N := 25) Tryz.func22 rfl rfl rfl fun w0_ fg_ => W.seq <| W.region <| WL.p rfl rfl rfl (.s 0 rfl .nil) (q_box rfl (CellsOf.agg _)) <| WL.p rfl rfl rfl (.s 1 rfl .nil) (q_box rfl (CellsOf.agg _)) <| WL.p rfl rfl rfl (.s 2 rfl .nil) (q_box rfl (CellsOf.agg _)) <| WL.p rfl rfl rfl (.s 3 rfl .nil) (q_box rfl (CellsOf.agg _)) <| WL.p rfl rfl rfl (.k .nil) (q_assign rfl) <| WL.nil <| QN.then_ <| W.seq <| W.seq <| W.region ?_
 refine WL.p rfl rfl rfl (.s 5 rfl .nil) (q_loadS rfl sh25 (leB rfl) rfl) <| WL.p rfl rfl rfl (.s 6 rfl .nil) (q_loadS rfl sh29 (leB rfl) rfl) <| WL.p rfl rfl rfl (.s 7 rfl .nil) (q_loadS rfl sh29 (leB rfl) rfl) ?_
 obtain ⟨t6914, ht6914, h⟩ := bind_s h
 refine WL.p rfl rfl rfl (.s 12 rfl (.s 13 rfl (.s 14 rfl .nil))) (q_call (f := 35) (A := EqA (.int .i64 t6914)) (xs := [.tmp 12, .tmp 13, .tmp 14]) («as» := [AggA [SlcA kNodeType a0.fNodes, SlcA kEdgeType a0.fEdges], AggA [SlcA kInt a1.fNodes, SlcA kEdge a1.fEdges], AggA [SlcA kInt a2.fNodes, SlcA kEdge a2.fEdges]]) rfl ca35 (ref17_given.con k a0 a1 a2 t6914 ht6914) rfl) <| WL.p rfl rfl rfl (.s 15 rfl .nil) (q_assign rfl) <| WL.nil <| QN.weaken (env' := [(11, _), (8, _), (7, _), (6, _), (5, _), (4, _)]) (.one rfl (.one rfl (.one rfl (.one rfl (.one rfl (.one rfl (.nil _))))))) <| QN.then_ <| W.seq <| W.region <| WL.p rfl rfl rfl (.s 11 rfl .nil) (q_move rfl) <| WL.p rfl rfl rfl (.s 16 rfl (.k .nil)) (q_int rfl rfl) <| WL.nil <| QN.then_ ?_
 refine W.condP h rfl (fun hb6915 h => ?_) (fun hb6915 h => ?_)
 ·refine W.seq <| W.region <| WL.p rfl rfl rfl (.s 11 rfl .nil) (q_move rfl) <| WL.p rfl rfl rfl (.s 18 rfl .nil) (q_assign rfl) <| WL.nil <| QN.weaken (env' := [(10, _)]) (.one rfl (.nil _)) <| QN.then_ <| W.ret <| QR.then_ ?_
  cases h
  exact QR.f1 rfl rfl (.t rfl) (.id _)
 ·refine W.skip <| QN.then_ <| W.seq <| W.region <| WL.p rfl rfl rfl (.s 5 rfl .nil) (q_loadS rfl sh25 (leB rfl) rfl) <| WL.p rfl rfl rfl (.s 6 rfl .nil) (q_loadS rfl sh29 (leB rfl) rfl) <| WL.p rfl rfl rfl (.s 7 rfl .nil) (q_loadS rfl sh29 (leB rfl) rfl) <| WL.p rfl rfl rfl (.s 8 rfl .nil) (q_loadS rfl sh33 (leB rfl) rfl) <| WL.p rfl rfl rfl (.s 4 rfl .nil) (q_move rfl) ?_
  obtain ⟨t6916, ht6916, h⟩ := bind_s h
  refine WL.p rfl rfl rfl (.s 19 rfl (.s 20 rfl (.s 21 rfl (.s 22 rfl (.s 23 rfl .nil))))) (q_call (f := 50) (A := EqA (.int .i64 t6916)) (xs := [.tmp 19, .tmp 20, .tmp 21, .tmp 22, .tmp 23]) («as» := [AggA [SlcA kNodeType a0.fNodes, SlcA kEdgeType a0.fEdges], AggA [SlcA kInt a1.fNodes, SlcA kEdge a1.fEdges], AggA [SlcA kInt a2.fNodes, SlcA kEdge a2.fEdges], AggA [SlcA kInt a3.fNodes, SlcA kInt a3.fEdges], EqA (.bool a4)]) rfl ca50 (ref17_match.con k a0 a1 a2 a3 a4 t6916 ht6916) rfl) <| WL.p rfl rfl rfl (.s 24 rfl .nil) (q_assign rfl) <| WL.nil <| QN.weaken (env' := [(10, _)]) (.one rfl (.nil _)) <| QN.then_ <| W.ret ?_
  cases h
  exact QR.f1 rfl rfl (.t rfl) (.id _)
theorem law17_SearchCheck.con (k : Nat) (a0 : Case) (a1 : Morphism) (a2 : Bool) (r : Bool) (h : law17_SearchCheck k a0 a1 a2 = some r) : Con Tryz.prog 6 [] [AggA [SlcA kNodeType a0.fT.fNodes, SlcA kEdgeType a0.fT.fEdges, SlcA kInt a0.fP.fNodes, SlcA kEdge a0.fP.fEdges, SlcA kInt a0.fG.fNodes, SlcA kEdge a0.fG.fEdges], AggA [SlcA kInt a1.fNodes, SlcA kInt a1.fEdges], EqA (.bool a2)] (RA (EqA (.bool r))) := by
 unfold law17_SearchCheck at h
 refine Con.of (N := 51) Tryz.func6 rfl rfl rfl fun w0_ fg_ => W.seq <| W.region <| WL.p rfl rfl rfl (.s 0 rfl .nil) (q_box rfl (CellsOf.agg _)) <| WL.p rfl rfl rfl (.s 1 rfl .nil) (q_box rfl (CellsOf.agg _)) <| WL.p rfl rfl rfl (.k .nil) (q_assign rfl) <| WL.nil <| QN.then_ <| W.seq <| W.seq ?_
 refine W.jn1 (Γ := Unit) (fun (_ : Unit) (x30 : Bool) => [(2, EqA (.bool a2)), (3, PtrA [SlcA kNodeType a0.fT.fNodes, SlcA kEdgeType a0.fT.fEdges, SlcA kInt a0.fP.fNodes, SlcA kEdge a0.fP.fEdges, SlcA kInt a0.fG.fNodes, SlcA kEdge a0.fG.fEdges]), (4, PtrA [SlcA kInt a1.fNodes, SlcA kInt a1.fEdges]), (30, EqA (.bool x30))]) (fun (_ : Unit) (_ : Bool) => []) h (fun _ x30 h => ?_) (fun j6923 Kj6923 h => ?_)
 ·refine QN.then_ ?_
  refine W.condP h rfl (fun hb6924 h => ?_) (fun hb6924 h => ?_)
  ·refine W.seq <| W.region ?_
   obtain ⟨t6925, ht6925, h⟩ := bind_s h
   refine WL.p rfl rfl rfl .nil (q_call (f := 9) (A := EqA (.bool t6925)) (xs := []) («as» := []) rfl ca9 (law17_awake.con k  t6925 ht6925) rfl) <| WL.p rfl rfl rfl (.s 31 rfl .nil) (q_assign rfl) <| WL.nil <| QN.then_ <| W.ret <| QR.then_ ?_
   cases h
   exact QR.f1 rfl rfl (.t rfl) (.id _)
  ·refine W.skip <| QN.then_ <| W.seq <| W.drawK [(0, false), (1, false), (2, false), (3, false), (4, false), (5, false), (6, false), (7, false), (8, false), (9, false), (10, false), (11, false), (12, false), (13, false), (14, false), (15, false), (16, false), (17, false), (18, false), (19, false)] [] [[], [0], [], [2], [], [4], [], [], [0, 1, 2, 3, 4, 5, 6, 7], [], [9], [], [11], [], [13], [], [], [0, 1, 2, 3, 4, 5, 6, 7, 8, 9, 10, 11, 12, 13, 14, 15, 16], [0, 1, 2, 3, 4, 5, 6, 7, 8, 9, 10, 11, 12, 13, 14, 15, 16, 17], [0, 1, 2, 3, 4, 5, 6, 7, 8, 9, 10, 11, 12, 13, 14, 15, 16, 17, 18]] mx (by kernel_rfl) <| DK.cons rfl rfl (.p rfl (.s 3 rfl .nil) rfl (q_field rfl fo31_0 rfl)) <| DK.cons rfl rfl (.p rfl (.s 32 rfl .nil) rfl (q_loadS rfl sh25 (leB rfl) rfl)) <| DK.cons rfl rfl (.p rfl (.s 3 rfl .nil) rfl (q_field rfl fo31_1 rfl)) <| DK.cons rfl rfl (.p rfl (.s 34 rfl .nil) rfl (q_loadS rfl sh29 (leB rfl) rfl)) <| DK.cons rfl rfl (.p rfl (.s 3 rfl .nil) rfl (q_field rfl fo31_2 rfl)) <| DK.cons rfl rfl (.p rfl (.s 36 rfl .nil) rfl (q_loadS rfl sh29 (leB rfl) rfl)) <| DK.cons rfl rfl (.p rfl (.s 4 rfl .nil) rfl (q_loadS rfl sh33 (leB rfl) rfl)) <| DK.cons rfl rfl (.p rfl (.s 2 rfl .nil) rfl (q_move rfl)) ?_
   obtain ⟨t6930, ht6930, h⟩ := bind_s h
   refine DK.cons rfl rfl (.p rfl (.s 33 rfl (.s 35 rfl (.s 37 rfl (.s 38 rfl (.s 39 rfl .nil))))) rfl (q_call (f := 21) (A := EqA (.int .i64 t6930)) (xs := [.tmp 33, .tmp 35, .tmp 37, .tmp 38, .tmp 39]) («as» := [AggA [SlcA kNodeType a0.fT.fNodes, SlcA kEdgeType a0.fT.fEdges], AggA [SlcA kInt a0.fP.fNodes, SlcA kEdge a0.fP.fEdges], AggA [SlcA kInt a0.fG.fNodes, SlcA kEdge a0.fG.fEdges], AggA [SlcA kInt a1.fNodes, SlcA kInt a1.fEdges], EqA (.bool a2)]) rfl ca21 (search_Check.con k a0.fT a0.fP a0.fG a1 a2 t6930 ht6930) rfl)) <| DK.cons rfl rfl (.p rfl (.s 3 rfl .nil) rfl (q_field rfl fo31_0 rfl)) <| DK.cons rfl rfl (.p rfl (.s 41 rfl .nil) rfl (q_loadS rfl sh25 (leB rfl) rfl)) <| DK.cons rfl rfl (.p rfl (.s 3 rfl .nil) rfl (q_field rfl fo31_1 rfl)) <| DK.cons rfl rfl (.p rfl (.s 43 rfl .nil) rfl (q_loadS rfl sh29 (leB rfl) rfl)) <| DK.cons rfl rfl (.p rfl (.s 3 rfl .nil) rfl (q_field rfl fo31_2 rfl)) <| DK.cons rfl rfl (.p rfl (.s 45 rfl .nil) rfl (q_loadS rfl sh29 (leB rfl) rfl)) <| DK.cons rfl rfl (.p rfl (.s 4 rfl .nil) rfl (q_loadS rfl sh33 (leB rfl) rfl)) <| DK.cons rfl rfl (.p rfl (.s 2 rfl .nil) rfl (q_move rfl)) ?_
   obtain ⟨t6931, ht6931, h⟩ := bind_s h
   refine DK.cons rfl rfl (.p rfl (.s 42 rfl (.s 44 rfl (.s 46 rfl (.s 47 rfl (.s 48 rfl .nil))))) rfl (q_call (f := 22) (A := EqA (.int .i64 t6931)) (xs := [.tmp 42, .tmp 44, .tmp 46, .tmp 47, .tmp 48]) («as» := [AggA [SlcA kNodeType a0.fT.fNodes, SlcA kEdgeType a0.fT.fEdges], AggA [SlcA kInt a0.fP.fNodes, SlcA kEdge a0.fP.fEdges], AggA [SlcA kInt a0.fG.fNodes, SlcA kEdge a0.fG.fEdges], AggA [SlcA kInt a1.fNodes, SlcA kInt a1.fEdges], EqA (.bool a2)]) rfl ca22 (ref17_Check.con k a0.fT a0.fP a0.fG a1 a2 t6931 ht6931) rfl)) <| DK.cons rfl rfl (.p rfl (.s 40 rfl (.s 49 rfl .nil)) rfl (q_int rfl rfl)) <| DK.cons rfl rfl (.p rfl (.s 50 rfl .nil) rfl (q_assign rfl)) <| DK.nil <| CSteps.nil <| QN.weaken (env' := [(6, _)]) (.one rfl (.nil _)) <| QN.then_ <| W.ret ?_
   cases h
   exact QR.f1 rfl rfl (.t rfl) (.id _)
 ·refine W.region ?_
  obtain ⟨t6932, ht6932, h⟩ := bind_s h
  refine WL.p rfl rfl rfl .nil (q_call (f := 9) (A := EqA (.bool t6932)) (xs := []) («as» := []) rfl ca9 (law17_awake.con k  t6932 ht6932) rfl) <| WL.p rfl rfl rfl (.s 7 rfl .nil) (q_not rfl) <| WL.p rfl rfl rfl (.s 8 rfl .nil) (q_move rfl) ?_
  rcases bif_s h with ⟨hb6933, h⟩ | ⟨hb6933, h⟩
  ·refine WL.skip (Unwanted.on rfl rfl rfl hb6933) rfl rfl <| WL.skip (Unwanted.on rfl rfl rfl hb6933) rfl rfl <| WL.skip (Unwanted.on rfl rfl rfl hb6933) rfl rfl <| WL.skip (Unwanted.on rfl rfl rfl hb6933) rfl rfl <| WL.skip (Unwanted.on rfl rfl rfl hb6933) rfl rfl <| WL.skip (Unwanted.on rfl rfl rfl hb6933) rfl rfl <| WL.skip (Unwanted.on rfl rfl rfl hb6933) rfl rfl <| WL.skip (Unwanted.on rfl rfl rfl hb6933) rfl rfl <| WL.p rfl rfl rfl (.s 9 rfl (.k .nil)) (q_pickT rfl hb6933) <| WL.p rfl rfl rfl (.s 18 rfl .nil) (q_move rfl) <| WL.skip (Unwanted.on rfl rfl rfl rfl) rfl rfl <| WL.skip (Unwanted.on rfl rfl rfl rfl) rfl rfl <| WL.skip (Unwanted.on rfl rfl rfl rfl) rfl rfl ?_
   refine WL.skip (Unwanted.on rfl rfl rfl rfl) rfl rfl <| WL.p rfl rfl rfl (.s 19 rfl (.k .nil)) (q_pickT rfl rfl) <| WL.p rfl rfl rfl (.s 24 rfl .nil) (q_move rfl) <| WL.skip (Unwanted.on rfl rfl rfl rfl) rfl rfl <| WL.skip (Unwanted.on rfl rfl rfl rfl) rfl rfl <| WL.skip (Unwanted.on rfl rfl rfl rfl) rfl rfl <| WL.skip (Unwanted.on rfl rfl rfl rfl) rfl rfl <| WL.p rfl rfl rfl (.s 25 rfl (.k .nil)) (q_pickT rfl rfl) <| WL.nil ?_
   exact QN.weaken (.one rfl (.one rfl (.one rfl (.one rfl (.nil _))))) (Kj6923 () true h)
  ·refine WL.q (Wanted.on rfl rfl rfl hb6933) rfl rfl (.s 3 rfl .nil) (q_field rfl fo31_0 rfl).o <| WL.q (Wanted.on rfl rfl rfl hb6933) rfl rfl (.s 10 rfl .nil) (q_loadS rfl sh25 (leB rfl) rfl).o <| WL.q (Wanted.on rfl rfl rfl hb6933) rfl rfl (.s 3 rfl .nil) (q_field rfl fo31_1 rfl).o <| WL.q (Wanted.on rfl rfl rfl hb6933) rfl rfl (.s 12 rfl .nil) (q_loadS rfl sh29 (leB rfl) rfl).o <| WL.q (Wanted.on rfl rfl rfl hb6933) rfl rfl (.s 3 rfl .nil) (q_field rfl fo31_2 rfl).o <| WL.q (Wanted.on rfl rfl rfl hb6933) rfl rfl (.s 14 rfl .nil) (q_loadS rfl sh29 (leB rfl) rfl).o ?_
   obtain ⟨t6934, ht6934, h⟩ := bind_s h
   refine WL.q (Wanted.on rfl rfl rfl hb6933) rfl rfl (.s 11 rfl (.s 13 rfl (.s 15 rfl .nil))) (q_call (f := 10) (A := EqA (.bool t6934)) (xs := [.tmp 11, .tmp 13, .tmp 15]) («as» := [AggA [SlcA kNodeType a0.fT.fNodes, SlcA kEdgeType a0.fT.fEdges], AggA [SlcA kInt a0.fP.fNodes, SlcA kEdge a0.fP.fEdges], AggA [SlcA kInt a0.fG.fNodes, SlcA kEdge a0.fG.fEdges]]) rfl ca10 (ref17_Light.con k a0.fT a0.fP a0.fG t6934 ht6934) rfl).o <| WL.q (Wanted.on rfl rfl rfl hb6933) rfl rfl (.s 16 rfl .nil) (q_not rfl).o <| WL.p rfl rfl rfl (.s 9 rfl (.s 17 rfl .nil)) (q_pickF rfl hb6933) <| WL.p rfl rfl rfl (.s 18 rfl .nil) (q_move rfl) ?_
   rcases bif_s h with ⟨hb6935, h⟩ | ⟨hb6935, h⟩
   ·refine WL.skip (Unwanted.on rfl rfl rfl hb6935) rfl rfl <| WL.skip (Unwanted.on rfl rfl rfl hb6935) rfl rfl <| WL.skip (Unwanted.on rfl rfl rfl hb6935) rfl rfl <| WL.skip (Unwanted.on rfl rfl rfl hb6935) rfl rfl <| WL.p rfl rfl rfl (.s 19 rfl (.k .nil)) (q_pickT rfl hb6935) <| WL.p rfl rfl rfl (.s 24 rfl .nil) (q_move rfl) <| WL.skip (Unwanted.on rfl rfl rfl rfl) rfl rfl <| WL.skip (Unwanted.on rfl rfl rfl rfl) rfl rfl <| WL.skip (Unwanted.on rfl rfl rfl rfl) rfl rfl <| WL.skip (Unwanted.on rfl rfl rfl rfl) rfl rfl <| WL.p rfl rfl rfl (.s 25 rfl (.k .nil)) (q_pickT rfl rfl) <| WL.nil ?_
    exact QN.weaken (.one rfl (.one rfl (.one rfl (.one rfl (.nil _))))) (Kj6923 () true h)
   ·refine WL.q (Wanted.on rfl rfl rfl hb6935) rfl rfl (.s 4 rfl .nil) (q_field rfl fo33_0 rfl).o <| WL.q (Wanted.on rfl rfl rfl hb6935) rfl rfl (.s 20 rfl .nil) (q_load rfl sh26).o <| WL.q (Wanted.on rfl rfl rfl hb6935) rfl rfl (.s 21 rfl .nil) (q_len rfl elS26).o <| WL.q (Wanted.on rfl rfl rfl hb6935) rfl rfl (.s 22 rfl (.k .nil)) (q_int rfl rfl).o <| WL.p rfl rfl rfl (.s 19 rfl (.s 23 rfl .nil)) (q_pickF rfl hb6935) <| WL.p rfl rfl rfl (.s 24 rfl .nil) (q_move rfl) ?_
    rcases bif_s h with ⟨hb6936, h⟩ | ⟨hb6936, h⟩
    ·refine WL.skip (Unwanted.on rfl rfl rfl hb6936) rfl rfl <| WL.skip (Unwanted.on rfl rfl rfl hb6936) rfl rfl <| WL.skip (Unwanted.on rfl rfl rfl hb6936) rfl rfl <| WL.skip (Unwanted.on rfl rfl rfl hb6936) rfl rfl <| WL.p rfl rfl rfl (.s 25 rfl (.k .nil)) (q_pickT rfl hb6936) <| WL.nil ?_
     exact QN.weaken (.one rfl (.one rfl (.one rfl (.one rfl (.nil _))))) (Kj6923 () true h)
    ·refine WL.q (Wanted.on rfl rfl rfl hb6936) rfl rfl (.s 4 rfl .nil) (q_field rfl fo33_1 rfl).o <| WL.q (Wanted.on rfl rfl rfl hb6936) rfl rfl (.s 26 rfl .nil) (q_load rfl sh26).o <| WL.q (Wanted.on rfl rfl rfl hb6936) rfl rfl (.s 27 rfl .nil) (q_len rfl elS26).o <| WL.q (Wanted.on rfl rfl rfl hb6936) rfl rfl (.s 28 rfl (.k .nil)) (q_int rfl rfl).o <| WL.p rfl rfl rfl (.s 25 rfl (.s 29 rfl .nil)) (q_pickF rfl hb6936) <| WL.nil ?_
     exact QN.weaken (.one rfl (.one rfl (.one rfl (.one rfl (.nil _))))) (Kj6923 () (decide ((a1.fEdges.length : Int) > 100)) h)
end Go.Proofs.YtelpgjfojhcjcaaGreat
