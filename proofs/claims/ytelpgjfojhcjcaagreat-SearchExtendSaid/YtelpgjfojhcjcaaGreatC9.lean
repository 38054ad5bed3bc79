/- The Go functions compute the pure ones. (Printed by gen.py.) -/
import Derived.Test.YtelpgjfojhcjcaaGreatC8
namespace Go.Proofs.YtelpgjfojhcjcaaGreat
open Go Go.Abs
attribute [local irreducible] Tryz.prog
theorem ref04_Below1.con : ∀ (k : Nat) (a0 : Types) (a1 : Int) (a2 : Int) (r : Bool) (_ : ref04_Below1 k a0 a1 a2 = some r), Con Tryz.prog 70 [] [AggA [SlcA kNodeType a0.fNodes, SlcA kEdgeType a0.fEdges], EqA (.int .i64 a1), EqA (.int .i64 a2)] (RA (EqA (.bool r))) := by
 intro k
 induction k with
 | zero => intro a0 a1 a2 r h; cases h
 | succ k ih =>
  intro a0 a1 a2 r h
  change ref04_Below1.main (ref04_Below1 k) k a0 a1 a2 = some r at h
  unfold ref04_Below1.main at h
  refine Con.of (N := 25) Tryz.func70 rfl rfl rfl fun w0_ fg_ => W.seq <| W.region <| WL.p rfl rfl rfl (.s 0 rfl .nil) (q_box rfl (CellsOf.agg _)) <| WL.p rfl rfl rfl (.k .nil) (q_assign rfl) <| WL.nil <| QN.then_ <| W.seq ?_
  refine W.jn1 (Γ := Unit) (fun (_ : Unit) (x6 : Bool) => [(6, EqA (.bool x6))]) (fun (_ : Unit) (_ : Bool) => []) h (fun _ x6 h => ?_) (fun j6220 Kj6220 h => ?_)
  ·refine QN.then_ <| W.ret ?_
   cases h
   exact QR.f1 rfl rfl (.t rfl) (.id _)
  ·refine W.drawK [(0, false), (1, false), (2, false), (3, false), (4, false), (5, false), (6, false), (7, false), (8, false), (9, false), (10, false), (11, false), (12, false), (13, false), (14, false), (15, false), (16, false), (17, false), (18, false)] [] [[], [], [0, 1], [0, 1, 2], [0, 1, 2, 3], [0, 1, 2, 3, 4], [0, 1, 2, 3, 4, 5], [0, 1, 2, 3, 4, 5, 6], [0, 1, 2, 3, 4, 5, 6], [0, 1, 2, 3, 4, 5, 6, 8], [0, 1, 2, 3, 4, 5, 6], [0, 1, 2, 3, 4, 5, 6, 8, 9, 10], [0, 1, 2, 3, 4, 5, 6, 8, 9, 10, 11], [0, 1, 2, 3, 4, 5, 6, 8, 9, 10, 11, 12], [0, 1, 2, 3, 4, 5, 6], [0, 1, 2, 3, 4, 5, 6, 7, 8, 9, 10, 11, 12, 13, 14], [0, 1, 2, 3, 4, 5, 6, 7, 8, 9, 10, 11, 12, 13, 14, 15], [0, 1, 2, 3, 4, 5, 6, 7, 8, 9, 10, 11, 12, 13, 14, 15, 16], [0, 1, 2, 3, 4, 5, 6, 7, 8, 9, 10, 11, 12, 13, 14, 15, 16, 17]] mx (by kernel_rfl) <| DK.cons rfl rfl (.p rfl (.s 1 rfl .nil) rfl (q_move rfl)) <| DK.cons rfl rfl (.p rfl (.s 2 rfl .nil) rfl (q_move rfl)) <| DK.cons rfl rfl (.p rfl (.s 7 rfl (.s 8 rfl .nil)) rfl (q_int rfl rfl)) <| DK.cons rfl rfl (.p rfl (.s 9 rfl .nil) rfl (q_move rfl)) ?_
   rcases bif_s h with ⟨hb6221, h⟩ | ⟨hb6221, h⟩
   ·refine DK.cons rfl rfl (.off rfl rfl rfl hb6221) <| DK.cons rfl rfl (.off rfl rfl rfl hb6221) <| DK.cons rfl rfl (.off rfl rfl rfl hb6221) <| DK.cons rfl rfl (.und rfl rfl rfl) <| DK.cons rfl rfl (.und rfl rfl rfl) <| DK.cons rfl rfl (.und rfl rfl rfl) <| DK.cons rfl rfl (.und rfl rfl rfl) <| DK.cons rfl rfl (.und rfl rfl rfl) <| DK.cons rfl rfl (.und rfl rfl rfl) <| DK.cons rfl rfl (.und rfl rfl rfl) <| DK.cons rfl rfl (.und rfl rfl rfl) <| DK.cons rfl rfl (.und rfl rfl rfl) <| DK.cons rfl rfl (.off rfl rfl rfl hb6221) ?_
    refine DK.cons rfl rfl (.p rfl (.s 10 rfl (.k .nil)) rfl (q_pickT rfl hb6221)) <| DK.cons rfl rfl (.p rfl (.s 24 rfl .nil) rfl (q_assign rfl)) <| DK.nil <| CSteps.nil ?_
    exact QN.weaken (.one rfl (.nil _)) (Kj6220 () true h)
   ·refine DK.cons rfl rfl (.gp rfl rfl rfl hb6221 (.s 1 rfl .nil) rfl (q_move rfl)) <| DK.cons rfl rfl (.gp rfl rfl rfl hb6221 (.s 11 rfl (.k .nil)) rfl (q_int rfl rfl)) <| DK.cons rfl rfl (.gp rfl rfl rfl hb6221 (.s 12 rfl .nil) rfl (q_move rfl)) ?_
    rcases bif_s h with ⟨hb6222, h⟩ | ⟨hb6222, h⟩
    ·refine DK.cons rfl rfl (.gp rfl rfl rfl hb6222 (.s 3 rfl .nil) rfl (q_loadS rfl sh25 (leB rfl) rfl)) <| DK.cons rfl rfl (.gp rfl rfl rfl hb6222 (.s 3 rfl .nil) rfl (q_field rfl fo25_0 rfl)) <| DK.cons rfl rfl (.gp rfl rfl rfl hb6222 (.s 15 rfl .nil) rfl (q_load rfl sh22)) <| DK.cons rfl rfl (.gp rfl rfl rfl hb6222 (.s 1 rfl .nil) rfl (q_move rfl)) ?_
     obtain ⟨c6223, h⟩ := ite_n h
     refine DK.cons rfl rfl (.gp rfl rfl rfl hb6222 (.s 16 rfl (.s 17 rfl .nil)) rfl (q_index rfl el22 rfl c6223.1 c6223.2)) <| DK.cons rfl rfl (.gp rfl rfl rfl hb6222 (.s 18 rfl .nil) rfl (q_field rfl fo94_1 rfl)) <| DK.cons rfl rfl (.gp rfl rfl rfl hb6222 (.s 19 rfl .nil) rfl (q_load rfl sh3)) <| DK.cons rfl rfl (.gp rfl rfl rfl hb6222 (.s 2 rfl .nil) rfl (q_move rfl)) ?_
     obtain ⟨t6224, ht6224, h⟩ := bind_s h
     refine DK.cons rfl rfl (.gp rfl rfl rfl hb6222 (.s 14 rfl (.s 20 rfl (.s 21 rfl .nil))) rfl (q_call (f := 70) (A := EqA (.bool t6224)) (xs := [.tmp 14, .tmp 20, .tmp 21]) («as» := [AggA [SlcA kNodeType a0.fNodes, SlcA kEdgeType a0.fEdges], EqA (.int .i64 ((rd a0.fNodes a1).fParent)), EqA (.int .i64 a2)]) rfl ca70 (ih a0 ((rd a0.fNodes a1).fParent) a2 t6224 ht6224) rfl)) <| DK.cons rfl rfl (.gp rfl rfl rfl hb6221 (.s 13 rfl (.s 22 rfl .nil)) rfl (q_pickT rfl hb6222)) <| DK.cons rfl rfl (.p rfl (.s 10 rfl (.s 23 rfl .nil)) rfl (q_pickF rfl hb6221)) <| DK.cons rfl rfl (.p rfl (.s 24 rfl .nil) rfl (q_assign rfl)) <| DK.nil <| CSteps.nil ?_
     exact QN.weaken (.one rfl (.nil _)) (Kj6220 () t6224 h)
    ·refine DK.cons rfl rfl (.off rfl rfl rfl hb6222) <| DK.cons rfl rfl (.off rfl rfl rfl hb6222) <| DK.cons rfl rfl (.off rfl rfl rfl hb6222) <| DK.cons rfl rfl (.off rfl rfl rfl hb6222) <| DK.cons rfl rfl (.off rfl rfl rfl hb6222) <| DK.cons rfl rfl (.off rfl rfl rfl hb6222) <| DK.cons rfl rfl (.off rfl rfl rfl hb6222) <| DK.cons rfl rfl (.off rfl rfl rfl hb6222) <| DK.cons rfl rfl (.off rfl rfl rfl hb6222) <| DK.cons rfl rfl (.gp rfl rfl rfl hb6221 (.s 13 rfl (.k .nil)) rfl (q_pickF rfl hb6222)) <| DK.cons rfl rfl (.p rfl (.s 10 rfl (.s 23 rfl .nil)) rfl (q_pickF rfl hb6221)) <| DK.cons rfl rfl (.p rfl (.s 24 rfl .nil) rfl (q_assign rfl)) <| DK.nil ?_
     refine CSteps.nil ?_
     exact QN.weaken (.one rfl (.nil _)) (Kj6220 () false h)
theorem ref17_distinct.con (k : Nat) (a0 : (List Int)) (r : Bool) (h : ref17_distinct k a0 = some r) : Con Tryz.prog 71 [] [SlcA kInt a0] (RA (EqA (.bool r))) := by
 unfold ref17_distinct at h
 refine Con.of (N := 25) Tryz.func71 rfl rfl rfl fun w0_ fg_ => W.seq <| W.region <| WL.p rfl rfl rfl (.k .nil) (q_assign rfl) <| WL.nil <| QN.then_ <| W.seq <| W.seq <| W.region <| WL.p rfl rfl rfl (.k .nil) (q_assign rfl) <| WL.nil <| QN.then_ <| W.block ?_
 refine W.loop1 (Γ := Unit) (fun (_ : Unit) (x3 : Int) => [(0, SlcA kInt a0), (3, EqA (.int .i64 x3))]) (fun (_ : Unit) (_ : Int) => []) h () (.one rfl (.one rfl (.nil _))) rfl (fun rec0 K0 next0 _ x3 h => ?_)
 unfold ref17_distinct.b0 at h
 refine W.seq <| W.seq <| W.region <| WL.p rfl rfl rfl (.s 3 rfl .nil) (q_move rfl) <| WL.p rfl rfl rfl (.s 0 rfl .nil) (q_move rfl) <| WL.p rfl rfl rfl (.s 6 rfl .nil) (q_len rfl elS26) <| WL.p rfl rfl rfl (.s 5 rfl (.s 7 rfl .nil)) (q_int rfl rfl) <| WL.nil <| QN.then_ ?_
 refine W.condP h rfl (fun hb6287 h => ?_) (fun hb6287 h => ?_)
 ·refine W.skip <| QN.then_ <| W.seq <| W.block <| W.seq <| W.region <| WL.p rfl rfl rfl (.k .nil) (q_assign rfl) <| WL.nil <| QN.then_ <| W.block ?_
  refine W.loop1 (Γ := Unit) (fun (_ : Unit) (x4 : Int) => [(0, SlcA kInt a0), (3, EqA (.int .i64 x3)), (4, EqA (.int .i64 x4))]) (fun (_ : Unit) (_ : Int) => []) h () (.one rfl (.one rfl (.one rfl (.nil _)))) rfl (fun rec1 K1 next1 _ x4 h => ?_)
  unfold ref17_distinct.b1 at h
  refine W.seq <| W.seq <| W.region <| WL.p rfl rfl rfl (.s 4 rfl .nil) (q_move rfl) <| WL.p rfl rfl rfl (.s 3 rfl .nil) (q_move rfl) <| WL.p rfl rfl rfl (.s 11 rfl (.s 12 rfl .nil)) (q_int rfl rfl) <| WL.nil <| QN.then_ ?_
  refine W.condP h rfl (fun hb6308 h => ?_) (fun hb6308 h => ?_)
  ·refine W.skip <| QN.then_ <| W.seq <| W.block <| W.seq <| W.drawK [(0, false), (1, false), (2, false), (3, false), (4, false), (5, false), (6, false), (7, false), (8, false)] [] [[], [], [0, 1], [0, 1, 2], [], [], [4, 5], [4, 5, 6], [0, 1, 2, 3, 4, 5, 6, 7]] mx (by kernel_rfl) <| DK.cons rfl rfl (.p rfl (.s 0 rfl .nil) rfl (q_move rfl)) <| DK.cons rfl rfl (.p rfl (.s 3 rfl .nil) rfl (q_move rfl)) ?_
   obtain ⟨c6313, h⟩ := ite_n h
   refine DK.cons rfl rfl (.p rfl (.s 16 rfl (.s 17 rfl .nil)) rfl (q_index rfl el26 rfl c6313.1 c6313.2)) <| DK.cons rfl rfl (.p rfl (.s 18 rfl .nil) rfl (q_load rfl sh3)) <| DK.cons rfl rfl (.p rfl (.s 0 rfl .nil) rfl (q_move rfl)) <| DK.cons rfl rfl (.p rfl (.s 4 rfl .nil) rfl (q_move rfl)) ?_
   obtain ⟨c6314, h⟩ := ite_n h
   refine DK.cons rfl rfl (.p rfl (.s 20 rfl (.s 21 rfl .nil)) rfl (q_index rfl el26 rfl c6314.1 c6314.2)) <| DK.cons rfl rfl (.p rfl (.s 22 rfl .nil) rfl (q_load rfl sh3)) <| DK.cons rfl rfl (.p rfl (.s 19 rfl (.s 23 rfl .nil)) rfl (q_int rfl rfl)) <| DK.nil <| CSteps.nil <| QN.weaken (env' := [(24, _), (4, _), (3, _), (0, _)]) (.one rfl (.one rfl (.one rfl (.one rfl (.nil _))))) <| QN.then_ ?_
   refine W.condP h rfl (fun hb6315 h => ?_) (fun hb6315 h => ?_)
   ·refine W.seq <| W.region <| WL.p rfl rfl rfl (.k .nil) (q_assign rfl) <| WL.nil <| QN.then_ <| W.ret <| QR.block <| QR.then_ <| QR.then_ <| QR.block <| QR.block <| QR.then_ <| QR.then_ ?_
    refine QR.block <| QR.then_ ?_
    cases h
    exact QR.f1 rfl rfl (.t rfl) (.id _)
   ·refine W.skip <| QN.block <| QN.then_ <| W.region <| WL.p rfl rfl rfl (.s 4 rfl .nil) (q_move rfl) ?_
    obtain ⟨c6316, h⟩ := ite_n h
    refine WL.p rfl rfl rfl (.s 14 rfl (.k .nil)) (q_addR rfl c6316) <| WL.p rfl rfl rfl (.s 15 rfl .nil) (q_assign rfl) <| WL.nil ?_
    exact next1 () (x4 + 1) _ h (.one rfl (.one rfl (.one rfl (.nil _))))
  ·refine W.exit <| QX.then_ <| QX.then_ <| QX.here <| QN.block <| QN.then_ <| W.region <| WL.p rfl rfl rfl (.s 3 rfl .nil) (q_move rfl) ?_
   obtain ⟨c6317, h⟩ := ite_n h
   refine WL.p rfl rfl rfl (.s 9 rfl (.k .nil)) (q_addR rfl c6317) <| WL.p rfl rfl rfl (.s 10 rfl .nil) (q_assign rfl) <| WL.nil ?_
   exact next0 () (x3 + 1) _ h (.one rfl (.one rfl (.nil _)))
 ·refine W.exit <| QX.then_ <| QX.then_ <| QX.here <| QN.then_ <| W.seq <| W.region <| WL.p rfl rfl rfl (.k .nil) (q_assign rfl) <| WL.nil <| QN.then_ <| W.ret ?_
  cases h
  exact QR.f1 rfl rfl (.t rfl) (.id _)
theorem ref17_match.con (k : Nat) (a0 : Types) (a1 : Graph) (a2 : Graph) (a3 : Morphism) (a4 : Bool) (r : Int) (h : ref17_match k a0 a1 a2 a3 a4 = some r) : Con Tryz.prog 50 [] [AggA [SlcA kNodeType a0.fNodes, SlcA kEdgeType a0.fEdges], AggA [SlcA kInt a1.fNodes, SlcA kEdge a1.fEdges], AggA [SlcA kInt a2.fNodes, SlcA kEdge a2.fEdges], AggA [SlcA kInt a3.fNodes, SlcA kInt a3.fEdges], EqA (.bool a4)] (RA (EqA (.int .i64 r))) := by
 unfold ref17_match at h
 refine Con.of (N := 148) Tryz.func50 rfl rfl rfl fun w0_ fg_ => W.seq <| W.region <| WL.p rfl rfl rfl (.s 0 rfl .nil) (q_box rfl (CellsOf.agg _)) <| WL.p rfl rfl rfl (.s 1 rfl .nil) (q_box rfl (CellsOf.agg _)) <| WL.p rfl rfl rfl (.s 2 rfl .nil) (q_box rfl (CellsOf.agg _)) <| WL.p rfl rfl rfl (.s 3 rfl .nil) (q_box rfl (CellsOf.agg _)) <| WL.p rfl rfl rfl (.k .nil) (q_assign rfl) <| WL.nil <| QN.then_ <| W.seq <| W.seq ?_
 refine W.jn1 (Γ := Unit) (fun (_ : Unit) (x30 : Bool) => [(4, EqA (.bool a4)), (5, PtrA [SlcA kNodeType a0.fNodes, SlcA kEdgeType a0.fEdges]), (6, PtrA [SlcA kInt a1.fNodes, SlcA kEdge a1.fEdges]), (7, PtrA [SlcA kInt a2.fNodes, SlcA kEdge a2.fEdges]), (8, PtrA [SlcA kInt a3.fNodes, SlcA kInt a3.fEdges]), (30, EqA (.bool x30))]) (fun (_ : Unit) (_ : Bool) => []) h (fun _ x30 h => ?_) (fun j6320 Kj6320 h => ?_)
 ·refine QN.then_ ?_
  refine W.condP h rfl (fun hb6321 h => ?_) (fun hb6321 h => ?_)
  ·refine W.seq <| W.region <| WL.p rfl rfl rfl (.k .nil) (q_assign rfl) <| WL.nil <| QN.then_ <| W.ret <| QR.then_ ?_
   cases h
   exact QR.f1 rfl rfl (.t rfl) (.id _)
  ·refine W.skip <| QN.then_ <| W.seq <| W.seq <| W.region <| WL.p rfl rfl rfl (.k .nil) (q_assign rfl) <| WL.nil <| QN.then_ <| W.block ?_
   refine W.loop1 (Γ := Unit) (fun (_ : Unit) (x11 : Int) => [(4, EqA (.bool a4)), (5, PtrA [SlcA kNodeType a0.fNodes, SlcA kEdgeType a0.fEdges]), (6, PtrA [SlcA kInt a1.fNodes, SlcA kEdge a1.fEdges]), (7, PtrA [SlcA kInt a2.fNodes, SlcA kEdge a2.fEdges]), (8, PtrA [SlcA kInt a3.fNodes, SlcA kInt a3.fEdges]), (11, EqA (.int .i64 x11))]) (fun (_ : Unit) (_ : Int) => []) h () (.one rfl (.one rfl (.one rfl (.one rfl (.one rfl (.one rfl (.nil _))))))) rfl (fun rec0 K0 next0 _ x11 h => ?_)
   unfold ref17_match.b0 at h
   refine W.seq <| W.seq <| W.region <| WL.p rfl rfl rfl (.s 11 rfl .nil) (q_move rfl) <| WL.p rfl rfl rfl (.s 8 rfl .nil) (q_field rfl fo33_0 rfl) <| WL.p rfl rfl rfl (.s 32 rfl .nil) (q_load rfl sh26) <| WL.p rfl rfl rfl (.s 33 rfl .nil) (q_len rfl elS26) <| WL.p rfl rfl rfl (.s 31 rfl (.s 34 rfl .nil)) (q_int rfl rfl) <| WL.nil <| QN.then_ ?_
   refine W.condP h rfl (fun hb6706 h => ?_) (fun hb6706 h => ?_)
   ·refine W.skip <| QN.then_ <| W.seq <| W.block <| W.seq <| W.seq ?_
    refine W.jn1 (Γ := Unit) (fun (_ : Unit) (x54 : Bool) => [(4, EqA (.bool a4)), (5, PtrA [SlcA kNodeType a0.fNodes, SlcA kEdgeType a0.fEdges]), (6, PtrA [SlcA kInt a1.fNodes, SlcA kEdge a1.fEdges]), (7, PtrA [SlcA kInt a2.fNodes, SlcA kEdge a2.fEdges]), (8, PtrA [SlcA kInt a3.fNodes, SlcA kInt a3.fEdges]), (11, EqA (.int .i64 x11)), (54, EqA (.bool x54))]) (fun (_ : Unit) (_ : Bool) => []) h (fun _ x54 h => ?_) (fun j6714 Kj6714 h => ?_)
    ·refine QN.then_ ?_
     refine W.condP h rfl (fun hb6715 h => ?_) (fun hb6715 h => ?_)
     ·refine W.seq <| W.region <| WL.p rfl rfl rfl (.k .nil) (q_assign rfl) <| WL.nil <| QN.weaken (env' := [(10, _)]) (.one rfl (.nil _)) <| QN.then_ <| W.ret <| QR.then_ <| QR.block <| QR.then_ <| QR.then_ <| QR.block <| QR.then_ ?_
      cases h
      exact QR.f1 rfl rfl (.t rfl) (.id _)
     ·refine W.skip <| QN.then_ <| W.seq <| W.drawK [(0, false), (1, false), (2, false), (3, false), (4, false), (5, false), (6, false), (7, false), (8, false), (9, false), (10, false), (11, false), (12, false), (13, false), (14, false), (15, false), (16, false)] [] [[], [], [1], [], [3], [], [3, 4, 5], [3, 4, 5, 6], [1, 2, 3, 4, 5, 6, 7], [1, 2, 3, 4, 5, 6, 7, 8], [], [10], [], [10, 11, 12], [10, 11, 12, 13], [0, 1, 2, 3, 4, 5, 6, 7, 8, 9, 10, 11, 12, 13, 14], [0, 1, 2, 3, 4, 5, 6, 7, 8, 9, 10, 11, 12, 13, 14, 15]] mx (by kernel_rfl) <| DK.cons rfl rfl (.p rfl (.s 5 rfl .nil) rfl (q_loadS rfl sh25 (leB rfl) rfl)) <| DK.cons rfl rfl (.p rfl (.s 7 rfl .nil) rfl (q_field rfl fo29_0 rfl)) <| DK.cons rfl rfl (.p rfl (.s 56 rfl .nil) rfl (q_load rfl sh26)) <| DK.cons rfl rfl (.p rfl (.s 8 rfl .nil) rfl (q_field rfl fo33_0 rfl)) <| DK.cons rfl rfl (.p rfl (.s 58 rfl .nil) rfl (q_load rfl sh26)) <| DK.cons rfl rfl (.p rfl (.s 11 rfl .nil) rfl (q_move rfl)) ?_
      obtain ⟨c6724, h⟩ := ite_n h
      refine DK.cons rfl rfl (.p rfl (.s 59 rfl (.s 60 rfl .nil)) rfl (q_index rfl el26 rfl c6724.1 c6724.2)) <| DK.cons rfl rfl (.p rfl (.s 61 rfl .nil) rfl (q_load rfl sh3)) ?_
      obtain ⟨c6725, h⟩ := ite_n h
      refine DK.cons rfl rfl (.p rfl (.s 57 rfl (.s 62 rfl .nil)) rfl (q_index rfl el26 rfl c6725.1 c6725.2)) <| DK.cons rfl rfl (.p rfl (.s 63 rfl .nil) rfl (q_load rfl sh3)) <| DK.cons rfl rfl (.p rfl (.s 6 rfl .nil) rfl (q_field rfl fo29_0 rfl)) <| DK.cons rfl rfl (.p rfl (.s 65 rfl .nil) rfl (q_load rfl sh26)) <| DK.cons rfl rfl (.p rfl (.s 11 rfl .nil) rfl (q_move rfl)) ?_
      obtain ⟨c6726, h⟩ := ite_n h
      refine DK.cons rfl rfl (.p rfl (.s 66 rfl (.s 67 rfl .nil)) rfl (q_index rfl el26 rfl c6726.1 c6726.2)) <| DK.cons rfl rfl (.p rfl (.s 68 rfl .nil) rfl (q_load rfl sh3)) ?_
      obtain ⟨t6727, ht6727, h⟩ := bind_s h
      refine DK.cons rfl rfl (.p rfl (.s 55 rfl (.s 64 rfl (.s 69 rfl .nil))) rfl (q_call (f := 70) (A := EqA (.bool t6727)) (xs := [.tmp 55, .tmp 64, .tmp 69]) («as» := [AggA [SlcA kNodeType a0.fNodes, SlcA kEdgeType a0.fEdges], EqA (.int .i64 (rd a2.fNodes (rd a3.fNodes x11))), EqA (.int .i64 (rd a1.fNodes x11))]) rfl ca70 (ref04_Below1.con k a0 (rd a2.fNodes (rd a3.fNodes x11)) (rd a1.fNodes x11) t6727 ht6727) rfl)) <| DK.cons rfl rfl (.p rfl (.s 70 rfl .nil) rfl (q_not rfl)) <| DK.nil <| CSteps.nil <| QN.weaken (env' := [(71, _), (11, _), (8, _), (7, _), (6, _), (5, _), (4, _)]) (.one rfl (.one rfl (.one rfl (.one rfl (.one rfl (.one rfl (.one rfl (.nil _)))))))) <| QN.then_ ?_
      refine W.condP h rfl (fun hb6728 h => ?_) (fun hb6728 h => ?_)
      ·refine W.seq <| W.region <| WL.p rfl rfl rfl (.k .nil) (q_assign rfl) <| WL.nil <| QN.weaken (env' := [(10, _)]) (.one rfl (.nil _)) <| QN.then_ <| W.ret <| QR.block <| QR.then_ <| QR.then_ <| QR.block <| QR.then_ ?_
       cases h
       exact QR.f1 rfl rfl (.t rfl) (.id _)
      ·refine W.skip <| QN.block <| QN.then_ <| W.region <| WL.p rfl rfl rfl (.s 11 rfl .nil) (q_move rfl) ?_
       obtain ⟨c6729, h⟩ := ite_n h
       refine WL.p rfl rfl rfl (.s 36 rfl (.k .nil)) (q_addR rfl c6729) <| WL.p rfl rfl rfl (.s 37 rfl .nil) (q_assign rfl) <| WL.nil ?_
       exact next0 () (x11 + 1) _ h (.one rfl (.one rfl (.one rfl (.one rfl (.one rfl (.one rfl (.nil _)))))))
    ·refine W.drawK [(0, false), (1, false), (2, false), (3, false), (4, false), (5, false), (6, false), (7, false), (8, false), (9, false), (10, false), (11, false), (12, false), (13, false), (14, false), (15, false), (16, false)] [] [[], [0], [], [0, 1, 2], [0, 1, 2, 3], [0, 1, 2, 3, 4], [0, 1, 2, 3, 4, 5], [0, 1, 2, 3, 4, 5, 6], [0, 1, 2, 3, 4, 5, 6, 7], [0, 1, 2, 3, 4, 5, 6], [0, 1, 2, 3, 4, 5, 6, 7, 8, 9], [0, 1, 2, 3, 4, 5, 6, 7, 8, 9, 10], [0, 1, 2, 3, 4, 5, 6], [0, 1, 2, 3, 4, 5, 6, 12], [0, 1, 2, 3, 4, 5, 6, 12, 13], [0, 1, 2, 3, 4, 5, 6, 7, 8, 9, 10, 11, 12, 13, 14], [0, 1, 2, 3, 4, 5, 6, 7, 8, 9, 10, 11, 12, 13, 14, 15]] mx (by kernel_rfl) <| DK.cons rfl rfl (.p rfl (.s 8 rfl .nil) rfl (q_field rfl fo33_0 rfl)) <| DK.cons rfl rfl (.p rfl (.s 38 rfl .nil) rfl (q_load rfl sh26)) <| DK.cons rfl rfl (.p rfl (.s 11 rfl .nil) rfl (q_move rfl)) ?_
     obtain ⟨c6730, h⟩ := ite_n h
     refine DK.cons rfl rfl (.p rfl (.s 39 rfl (.s 40 rfl .nil)) rfl (q_index rfl el26 rfl c6730.1 c6730.2)) <| DK.cons rfl rfl (.p rfl (.s 41 rfl .nil) rfl (q_load rfl sh3)) <| DK.cons rfl rfl (.p rfl (.s 42 rfl (.k .nil)) rfl (q_int rfl rfl)) <| DK.cons rfl rfl (.p rfl (.s 43 rfl .nil) rfl (q_move rfl)) ?_
     rcases bif_s h with ⟨hb6731, h⟩ | ⟨hb6731, h⟩
     ·refine DK.cons rfl rfl (.off rfl rfl rfl hb6731) <| DK.cons rfl rfl (.off rfl rfl rfl hb6731) <| DK.cons rfl rfl (.off rfl rfl rfl hb6731) <| DK.cons rfl rfl (.off rfl rfl rfl hb6731) <| DK.cons rfl rfl (.off rfl rfl rfl hb6731) <| DK.cons rfl rfl (.off rfl rfl rfl hb6731) <| DK.cons rfl rfl (.off rfl rfl rfl hb6731) <| DK.cons rfl rfl (.off rfl rfl rfl hb6731) <| DK.cons rfl rfl (.off rfl rfl rfl hb6731) <| DK.cons rfl rfl (.p rfl (.s 44 rfl (.k .nil)) rfl (q_pickT rfl hb6731)) <| DK.nil <| CSteps.nil ?_
      exact QN.weaken (.one rfl (.one rfl (.one rfl (.one rfl (.one rfl (.one rfl (.one rfl (.nil _)))))))) (Kj6714 () true h)
     ·refine DK.cons rfl rfl (.gp rfl rfl rfl hb6731 (.s 8 rfl .nil) rfl (q_field rfl fo33_0 rfl)) <| DK.cons rfl rfl (.gp rfl rfl rfl hb6731 (.s 45 rfl .nil) rfl (q_load rfl sh26)) <| DK.cons rfl rfl (.gp rfl rfl rfl hb6731 (.s 11 rfl .nil) rfl (q_move rfl)) ?_
      obtain ⟨c6732, h⟩ := ite_n h
      refine DK.cons rfl rfl (.gp rfl rfl rfl hb6731 (.s 46 rfl (.s 47 rfl .nil)) rfl (q_index rfl el26 rfl c6732.1 c6732.2)) <| DK.cons rfl rfl (.gp rfl rfl rfl hb6731 (.s 48 rfl .nil) rfl (q_load rfl sh3)) <| DK.cons rfl rfl (.gp rfl rfl rfl hb6731 (.s 7 rfl .nil) rfl (q_field rfl fo29_0 rfl)) <| DK.cons rfl rfl (.gp rfl rfl rfl hb6731 (.s 50 rfl .nil) rfl (q_load rfl sh26)) <| DK.cons rfl rfl (.gp rfl rfl rfl hb6731 (.s 51 rfl .nil) rfl (q_len rfl elS26)) <| DK.cons rfl rfl (.gp rfl rfl rfl hb6731 (.s 49 rfl (.s 52 rfl .nil)) rfl (q_int rfl rfl)) <| DK.cons rfl rfl (.p rfl (.s 44 rfl (.s 53 rfl .nil)) rfl (q_pickF rfl hb6731)) <| DK.nil <| CSteps.nil ?_
      exact QN.weaken (.one rfl (.one rfl (.one rfl (.one rfl (.one rfl (.one rfl (.one rfl (.nil _)))))))) (Kj6714 () (decide ((rd a3.fNodes x11) ≥ (a2.fNodes.length : Int))) h)
   ·refine W.exit <| QX.then_ <| QX.then_ <| QX.here <| QN.weaken (env' := [(8, _), (7, _), (6, _), (4, _)]) (.one rfl (.one rfl (.one rfl (.one rfl (.nil _))))) <| QN.then_ <| W.seq <| W.seq <| W.region <| WL.p rfl rfl rfl (.k .nil) (q_assign rfl) <| WL.nil <| QN.then_ <| W.block ?_
    refine W.loop1 (Γ := Unit) (fun (_ : Unit) (x12 : Int) => [(4, EqA (.bool a4)), (6, PtrA [SlcA kInt a1.fNodes, SlcA kEdge a1.fEdges]), (7, PtrA [SlcA kInt a2.fNodes, SlcA kEdge a2.fEdges]), (8, PtrA [SlcA kInt a3.fNodes, SlcA kInt a3.fEdges]), (12, EqA (.int .i64 x12))]) (fun (_ : Unit) (_ : Int) => []) h () (.one rfl (.one rfl (.one rfl (.one rfl (.one rfl (.nil _)))))) rfl (fun rec1 K1 next1 _ x12 h => ?_)
    unfold ref17_match.b1 at h
    refine W.seq <| W.seq <| W.region <| WL.p rfl rfl rfl (.s 12 rfl .nil) (q_move rfl) <| WL.p rfl rfl rfl (.s 8 rfl .nil) (q_field rfl fo33_1 rfl) <| WL.p rfl rfl rfl (.s 73 rfl .nil) (q_load rfl sh26) <| WL.p rfl rfl rfl (.s 74 rfl .nil) (q_len rfl elS26) <| WL.p rfl rfl rfl (.s 72 rfl (.s 75 rfl .nil)) (q_int rfl rfl) <| WL.nil <| QN.then_ ?_
    refine W.condP h rfl (fun hb6843 h => ?_) (fun hb6843 h => ?_)
    ·refine W.skip <| QN.then_ <| W.seq <| W.block <| W.seq <| W.seq ?_
     refine W.jn1 (Γ := Unit) (fun (_ : Unit) (x95 : Bool) => [(4, EqA (.bool a4)), (6, PtrA [SlcA kInt a1.fNodes, SlcA kEdge a1.fEdges]), (7, PtrA [SlcA kInt a2.fNodes, SlcA kEdge a2.fEdges]), (8, PtrA [SlcA kInt a3.fNodes, SlcA kInt a3.fEdges]), (12, EqA (.int .i64 x12)), (95, EqA (.bool x95))]) (fun (_ : Unit) (_ : Bool) => []) h (fun _ x95 h => ?_) (fun j6851 Kj6851 h => ?_)
     ·refine QN.then_ ?_
      refine W.condP h rfl (fun hb6852 h => ?_) (fun hb6852 h => ?_)
      ·refine W.seq <| W.region <| WL.p rfl rfl rfl (.k .nil) (q_assign rfl) <| WL.nil <| QN.then_ <| W.ret <| QR.then_ <| QR.block <| QR.then_ <| QR.then_ <| QR.block <| QR.then_ ?_
       cases h
       exact QR.f1 rfl rfl (.t rfl) (.id _)
      ·refine W.skip <| QN.then_ <| W.seq ?_
       refine W.jn0 (Γ := Unit) (fun (_ : Unit) => [(4, EqA (.bool a4)), (6, PtrA [SlcA kInt a1.fNodes, SlcA kEdge a1.fEdges]), (7, PtrA [SlcA kInt a2.fNodes, SlcA kEdge a2.fEdges]), (8, PtrA [SlcA kInt a3.fNodes, SlcA kInt a3.fEdges]), (12, EqA (.int .i64 x12)), (13, PtrA [EqA (.int .i64 ((rd a1.fEdges x12).fType)), EqA (.int .i64 ((rd a1.fEdges x12).fFrom)), EqA (.int .i64 ((rd a1.fEdges x12).fTo))]), (14, PtrA [EqA (.int .i64 ((rd a2.fEdges (rd a3.fEdges x12)).fType)), EqA (.int .i64 ((rd a2.fEdges (rd a3.fEdges x12)).fFrom)), EqA (.int .i64 ((rd a2.fEdges (rd a3.fEdges x12)).fTo))])]) (fun (_ : Unit) => []) h (fun _ h => ?_) (fun j6864 Kj6864 h => ?_)
       ·refine QN.then_ <| W.seq <| W.seq <| W.region <| WL.p rfl rfl rfl (.s 13 rfl .nil) (q_field rfl fo77_0 rfl) <| WL.p rfl rfl rfl (.s 110 rfl .nil) (q_load rfl sh3) <| WL.p rfl rfl rfl (.s 14 rfl .nil) (q_field rfl fo77_0 rfl) <| WL.p rfl rfl rfl (.s 112 rfl .nil) (q_load rfl sh3) <| WL.p rfl rfl rfl (.s 111 rfl (.s 113 rfl .nil)) (q_int rfl rfl) <| WL.nil <| QN.then_ ?_
        refine W.condP h rfl (fun hb6865 h => ?_) (fun hb6865 h => ?_)
        ·refine W.seq <| W.region <| WL.p rfl rfl rfl (.k .nil) (q_assign rfl) <| WL.nil <| QN.weaken (env' := [(10, _)]) (.one rfl (.nil _)) <| QN.then_ <| W.ret <| QR.then_ <| QR.block <| QR.then_ <| QR.then_ <| QR.block <| QR.then_ ?_
         cases h
         exact QR.f1 rfl rfl (.t rfl) (.id _)
        ·refine W.skip <| QN.then_ <| W.seq ?_
         refine W.jn1 (Γ := Unit) (fun (_ : Unit) (x134 : Bool) => [(4, EqA (.bool a4)), (6, PtrA [SlcA kInt a1.fNodes, SlcA kEdge a1.fEdges]), (7, PtrA [SlcA kInt a2.fNodes, SlcA kEdge a2.fEdges]), (8, PtrA [SlcA kInt a3.fNodes, SlcA kInt a3.fEdges]), (12, EqA (.int .i64 x12)), (134, EqA (.bool x134))]) (fun (_ : Unit) (_ : Bool) => []) h (fun _ x134 h => ?_) (fun j6873 Kj6873 h => ?_)
         ·refine QN.then_ ?_
          refine W.condP h rfl (fun hb6874 h => ?_) (fun hb6874 h => ?_)
          ·refine W.seq <| W.region <| WL.p rfl rfl rfl (.k .nil) (q_assign rfl) <| WL.nil <| QN.then_ <| W.ret <| QR.block <| QR.then_ <| QR.then_ <| QR.block <| QR.then_ ?_
           cases h
           exact QR.f1 rfl rfl (.t rfl) (.id _)
          ·refine W.skip <| QN.block <| QN.then_ <| W.region <| WL.p rfl rfl rfl (.s 12 rfl .nil) (q_move rfl) ?_
           obtain ⟨c6875, h⟩ := ite_n h
           refine WL.p rfl rfl rfl (.s 77 rfl (.k .nil)) (q_addR rfl c6875) <| WL.p rfl rfl rfl (.s 78 rfl .nil) (q_assign rfl) <| WL.nil ?_
           exact next1 () (x12 + 1) _ h (.one rfl (.one rfl (.one rfl (.one rfl (.one rfl (.nil _))))))
         ·refine W.drawK [(0, false), (1, false), (2, false), (3, false), (4, false), (5, false), (6, false), (7, false), (8, false), (9, false), (10, false), (11, false), (12, false), (13, false), (14, false), (15, false), (16, false), (17, false), (18, false), (19, false)] [] [[], [0], [], [2], [0, 1, 2, 3], [0, 1, 2, 3, 4], [], [6], [0, 1, 2, 3, 4, 5, 6, 7], [0, 1, 2, 3, 4, 5, 6, 7, 8], [0, 1, 2, 3, 4, 5, 6, 7, 8, 9], [0, 1, 2, 3, 4, 5, 6, 7, 8, 9, 10], [0, 1, 2, 3, 4, 5, 6, 7, 8, 9], [0, 1, 2, 3, 4, 5, 6, 7, 8, 9, 12], [0, 1, 2, 3, 4, 5, 6, 7, 8, 9, 10, 11, 12, 13], [0, 1, 2, 3, 4, 5, 6, 7, 8, 9, 10, 11, 12, 13, 14], [0, 1, 2, 3, 4, 5, 6, 7, 8, 9], [0, 1, 2, 3, 4, 5, 6, 7, 8, 9, 16], [0, 1, 2, 3, 4, 5, 6, 7, 8, 9, 10, 11, 12, 13, 14, 15, 16, 17], [0, 1, 2, 3, 4, 5, 6, 7, 8, 9, 10, 11, 12, 13, 14, 15, 16, 17, 18]] mx (by kernel_rfl) <| DK.cons rfl rfl (.p rfl (.s 8 rfl .nil) rfl (q_field rfl fo33_0 rfl)) <| DK.cons rfl rfl (.p rfl (.s 115 rfl .nil) rfl (q_load rfl sh26)) <| DK.cons rfl rfl (.p rfl (.s 13 rfl .nil) rfl (q_field rfl fo77_1 rfl)) <| DK.cons rfl rfl (.p rfl (.s 117 rfl .nil) rfl (q_load rfl sh3)) ?_
          obtain ⟨c6876, h⟩ := ite_n h
          refine DK.cons rfl rfl (.p rfl (.s 116 rfl (.s 118 rfl .nil)) rfl (q_index rfl el26 rfl c6876.1 c6876.2)) <| DK.cons rfl rfl (.p rfl (.s 119 rfl .nil) rfl (q_load rfl sh3)) <| DK.cons rfl rfl (.p rfl (.s 14 rfl .nil) rfl (q_field rfl fo77_1 rfl)) <| DK.cons rfl rfl (.p rfl (.s 121 rfl .nil) rfl (q_load rfl sh3)) <| DK.cons rfl rfl (.p rfl (.s 120 rfl (.s 122 rfl .nil)) rfl (q_int rfl rfl)) <| DK.cons rfl rfl (.p rfl (.s 123 rfl .nil) rfl (q_move rfl)) ?_
          rcases bif_s h with ⟨hb6877, h⟩ | ⟨hb6877, h⟩
          ·refine DK.cons rfl rfl (.off rfl rfl rfl hb6877) <| DK.cons rfl rfl (.off rfl rfl rfl hb6877) <| DK.cons rfl rfl (.off rfl rfl rfl hb6877) <| DK.cons rfl rfl (.off rfl rfl rfl hb6877) <| DK.cons rfl rfl (.off rfl rfl rfl hb6877) <| DK.cons rfl rfl (.off rfl rfl rfl hb6877) <| DK.cons rfl rfl (.off rfl rfl rfl hb6877) <| DK.cons rfl rfl (.off rfl rfl rfl hb6877) <| DK.cons rfl rfl (.off rfl rfl rfl hb6877) <| DK.cons rfl rfl (.p rfl (.s 124 rfl (.k .nil)) rfl (q_pickT rfl hb6877)) <| DK.nil <| CSteps.nil ?_
           exact QN.weaken (.one rfl (.one rfl (.one rfl (.one rfl (.one rfl (.one rfl (.nil _))))))) (Kj6873 () true h)
          ·refine DK.cons rfl rfl (.gp rfl rfl rfl hb6877 (.s 8 rfl .nil) rfl (q_field rfl fo33_0 rfl)) <| DK.cons rfl rfl (.gp rfl rfl rfl hb6877 (.s 125 rfl .nil) rfl (q_load rfl sh26)) <| DK.cons rfl rfl (.gp rfl rfl rfl hb6877 (.s 13 rfl .nil) rfl (q_field rfl fo77_2 rfl)) <| DK.cons rfl rfl (.gp rfl rfl rfl hb6877 (.s 127 rfl .nil) rfl (q_load rfl sh3)) ?_
           obtain ⟨c6878, h⟩ := ite_n h
           refine DK.cons rfl rfl (.gp rfl rfl rfl hb6877 (.s 126 rfl (.s 128 rfl .nil)) rfl (q_index rfl el26 rfl c6878.1 c6878.2)) <| DK.cons rfl rfl (.gp rfl rfl rfl hb6877 (.s 129 rfl .nil) rfl (q_load rfl sh3)) <| DK.cons rfl rfl (.gp rfl rfl rfl hb6877 (.s 14 rfl .nil) rfl (q_field rfl fo77_2 rfl)) <| DK.cons rfl rfl (.gp rfl rfl rfl hb6877 (.s 131 rfl .nil) rfl (q_load rfl sh3)) <| DK.cons rfl rfl (.gp rfl rfl rfl hb6877 (.s 130 rfl (.s 132 rfl .nil)) rfl (q_int rfl rfl)) <| DK.cons rfl rfl (.p rfl (.s 124 rfl (.s 133 rfl .nil)) rfl (q_pickF rfl hb6877)) <| DK.nil <| CSteps.nil ?_
           exact QN.weaken (.one rfl (.one rfl (.one rfl (.one rfl (.one rfl (.one rfl (.nil _))))))) (Kj6873 () ((rd a3.fNodes ((rd a1.fEdges x12).fTo)) != (rd a2.fEdges (rd a3.fEdges x12)).fTo) h)
       ·refine W.drawKT [(0, false), (1, false), (2, false), (3, false), (4, false), (5, false), (6, false), (7, false), (8, false), (9, false), (10, false), (11, false), (12, false), (13, false)] [14, 15, 16, 17] [14, 15] 4 [[], [0], [], [0, 1, 2], [0, 1, 2, 3], [], [5], [], [7], [], [7, 8, 9], [7, 8, 9, 10], [5, 6, 7, 8, 9, 10, 11], [5, 6, 7, 8, 9, 10, 11, 12], [], [], [0, 1, 2, 3, 4, 14, 15], [0, 1, 2, 3, 4, 5, 6, 7, 8, 9, 10, 11, 12, 13, 14, 15, 16]] mx (by kernel_rfl) <| DKT.cons rfl rfl (.p rfl (.s 6 rfl .nil) rfl (q_field rfl fo29_1 rfl)) <| DKT.cons rfl rfl (.p rfl (.s 96 rfl .nil) rfl (q_load rfl sh27)) <| DKT.cons rfl rfl (.p rfl (.s 12 rfl .nil) rfl (q_move rfl)) ?_
        obtain ⟨c6879, h⟩ := ite_n h
        refine DKT.cons rfl rfl (.p rfl (.s 97 rfl (.s 98 rfl .nil)) rfl (q_index rfl el27 rfl c6879.1 c6879.2)) <| DKT.cons rfl rfl (.p rfl (.s 99 rfl .nil) rfl (q_loadS rfl sh77 (leB rfl) rfl)) <| DKT.cons rfl rfl (.p rfl (.s 7 rfl .nil) rfl (q_field rfl fo29_1 rfl)) <| DKT.cons rfl rfl (.p rfl (.s 101 rfl .nil) rfl (q_load rfl sh27)) <| DKT.cons rfl rfl (.p rfl (.s 8 rfl .nil) rfl (q_field rfl fo33_1 rfl)) <| DKT.cons rfl rfl (.p rfl (.s 103 rfl .nil) rfl (q_load rfl sh26)) <| DKT.cons rfl rfl (.p rfl (.s 12 rfl .nil) rfl (q_move rfl)) ?_
        obtain ⟨c6880, h⟩ := ite_n h
        refine DKT.cons rfl rfl (.p rfl (.s 104 rfl (.s 105 rfl .nil)) rfl (q_index rfl el26 rfl c6880.1 c6880.2)) <| DKT.cons rfl rfl (.p rfl (.s 106 rfl .nil) rfl (q_load rfl sh3)) ?_
        obtain ⟨c6881, h⟩ := ite_n h
        refine DKT.cons rfl rfl (.p rfl (.s 102 rfl (.s 107 rfl .nil)) rfl (q_index rfl el27 rfl c6881.1 c6881.2)) <| DKT.cons rfl rfl (.p rfl (.s 108 rfl .nil) rfl (q_loadS rfl sh77 (leB rfl) rfl)) <| DKT.nil <| CT.step ?_
        refine CTc.yes rfl ?_ ?_
        ·refine CStep1.w [] (fun _ => rfl) rfl rfl rfl rfl .nil rfl (w_alloc rfl z77 (l := [EqA (.int .i64 0), EqA (.int .i64 0), EqA (.int .i64 0)]) rfl) ?_
         rintro _ _ ⟨b6882, rfl, rfl⟩
         refine CT.list (l' := [15, 16, 17]) rfl <| CT.step ?_
         refine CTc.yes rfl ?_ ?_
         ·refine CStep1.w [] (fun _ => rfl) rfl rfl rfl rfl .nil rfl (w_alloc rfl z77 (l := [EqA (.int .i64 0), EqA (.int .i64 0), EqA (.int .i64 0)]) rfl) ?_
          rintro _ _ ⟨b6883, rfl, rfl⟩
          refine CT.list (l' := [16, 17]) rfl <| CT.step ?_
          refine CTc.yes rfl ?_ ?_
          ·refine CStep1.w0 [1] (fun h => absurd h (by decide)) rfl rfl rfl (.s 13 rfl (.s 100 rfl .nil)) rfl (w_store (L := [EqA (.int .i64 ((rd a1.fEdges x12).fType)), EqA (.int .i64 ((rd a1.fEdges x12).fFrom)), EqA (.int .i64 ((rd a1.fEdges x12).fTo))]) rfl sh77 (CellsOf.agg _) rfl rfl (leB rfl) rfl) ?_
           rintro _ _ ⟨rfl, rfl⟩
           refine CT.list (l' := [17]) rfl <| CT.step ?_
           refine CTc.yes rfl ?_ ?_
           ·refine CStep1.w0 [1] (fun h => absurd h (by decide)) rfl rfl rfl (.s 14 rfl (.s 109 rfl .nil)) rfl (w_store (L := [EqA (.int .i64 ((rd a2.fEdges (rd a3.fEdges x12)).fType)), EqA (.int .i64 ((rd a2.fEdges (rd a3.fEdges x12)).fFrom)), EqA (.int .i64 ((rd a2.fEdges (rd a3.fEdges x12)).fTo))]) rfl sh77 (CellsOf.agg _) rfl rfl (leB rfl) rfl) ?_
            rintro _ _ ⟨rfl, rfl⟩
            refine CT.list (l' := []) rfl <| CT.nil <| QN.to (StTo.still [1] 13 rfl rfl) <| QN.to (StTo.still [0] 14 rfl rfl) ?_
            exact QN.weaken (.one rfl (.one rfl (.one rfl (.one rfl (.one rfl (.one rfl (.one rfl (.nil _)))))))) (Kj6864 () h)
           exact CTc.end
          refine CTc.no rfl ?_
          exact CTc.end
         refine CTc.no rfl <| CTc.no rfl ?_
         exact CTc.end
        refine CTc.yes rfl ?_ ?_
        ·refine CStep1.w [] (fun _ => rfl) rfl rfl rfl rfl .nil rfl (w_alloc rfl z77 (l := [EqA (.int .i64 0), EqA (.int .i64 0), EqA (.int .i64 0)]) rfl) ?_
         rintro _ _ ⟨b6883, rfl, rfl⟩
         refine CT.list (l' := [14, 16, 17]) rfl <| CT.step ?_
         refine CTc.yes rfl ?_ ?_
         ·refine CStep1.w [] (fun _ => rfl) rfl rfl rfl rfl .nil rfl (w_alloc rfl z77 (l := [EqA (.int .i64 0), EqA (.int .i64 0), EqA (.int .i64 0)]) rfl) ?_
          rintro _ _ ⟨b6882, rfl, rfl⟩
          refine CT.list (l' := [16, 17]) rfl <| CT.step ?_
          refine CTc.yes rfl ?_ ?_
          ·refine CStep1.w0 [0] (fun h => absurd h (by decide)) rfl rfl rfl (.s 13 rfl (.s 100 rfl .nil)) rfl (w_store (L := [EqA (.int .i64 ((rd a1.fEdges x12).fType)), EqA (.int .i64 ((rd a1.fEdges x12).fFrom)), EqA (.int .i64 ((rd a1.fEdges x12).fTo))]) rfl sh77 (CellsOf.agg _) rfl rfl (leB rfl) rfl) ?_
           rintro _ _ ⟨rfl, rfl⟩
           refine CT.list (l' := [17]) rfl <| CT.step ?_
           refine CTc.yes rfl ?_ ?_
           ·refine CStep1.w0 [1] (fun h => absurd h (by decide)) rfl rfl rfl (.s 14 rfl (.s 109 rfl .nil)) rfl (w_store (L := [EqA (.int .i64 ((rd a2.fEdges (rd a3.fEdges x12)).fType)), EqA (.int .i64 ((rd a2.fEdges (rd a3.fEdges x12)).fFrom)), EqA (.int .i64 ((rd a2.fEdges (rd a3.fEdges x12)).fTo))]) rfl sh77 (CellsOf.agg _) rfl rfl (leB rfl) rfl) ?_
            rintro _ _ ⟨rfl, rfl⟩
            refine CT.list (l' := []) rfl <| CT.nil <| QN.to (StTo.still [1] 13 rfl rfl) <| QN.to (StTo.still [0] 14 rfl rfl) ?_
            exact QN.weaken (.one rfl (.one rfl (.one rfl (.one rfl (.one rfl (.one rfl (.one rfl (.nil _)))))))) (Kj6864 () h)
           exact CTc.end
          refine CTc.no rfl ?_
          exact CTc.end
         refine CTc.no rfl <| CTc.no rfl ?_
         exact CTc.end
        refine CTc.no rfl <| CTc.no rfl ?_
        exact CTc.end
     ·refine W.drawK [(0, false), (1, false), (2, false), (3, false), (4, false), (5, false), (6, false), (7, false), (8, false), (9, false), (10, false), (11, false), (12, false), (13, false), (14, false), (15, false), (16, false)] [] [[], [0], [], [0, 1, 2], [0, 1, 2, 3], [0, 1, 2, 3, 4], [0, 1, 2, 3, 4, 5], [0, 1, 2, 3, 4, 5, 6], [0, 1, 2, 3, 4, 5, 6, 7], [0, 1, 2, 3, 4, 5, 6], [0, 1, 2, 3, 4, 5, 6, 7, 8, 9], [0, 1, 2, 3, 4, 5, 6, 7, 8, 9, 10], [0, 1, 2, 3, 4, 5, 6], [0, 1, 2, 3, 4, 5, 6, 12], [0, 1, 2, 3, 4, 5, 6, 12, 13], [0, 1, 2, 3, 4, 5, 6, 7, 8, 9, 10, 11, 12, 13, 14], [0, 1, 2, 3, 4, 5, 6, 7, 8, 9, 10, 11, 12, 13, 14, 15]] mx (by kernel_rfl) <| DK.cons rfl rfl (.p rfl (.s 8 rfl .nil) rfl (q_field rfl fo33_1 rfl)) <| DK.cons rfl rfl (.p rfl (.s 79 rfl .nil) rfl (q_load rfl sh26)) <| DK.cons rfl rfl (.p rfl (.s 12 rfl .nil) rfl (q_move rfl)) ?_
      obtain ⟨c6884, h⟩ := ite_n h
      refine DK.cons rfl rfl (.p rfl (.s 80 rfl (.s 81 rfl .nil)) rfl (q_index rfl el26 rfl c6884.1 c6884.2)) <| DK.cons rfl rfl (.p rfl (.s 82 rfl .nil) rfl (q_load rfl sh3)) <| DK.cons rfl rfl (.p rfl (.s 83 rfl (.k .nil)) rfl (q_int rfl rfl)) <| DK.cons rfl rfl (.p rfl (.s 84 rfl .nil) rfl (q_move rfl)) ?_
      rcases bif_s h with ⟨hb6885, h⟩ | ⟨hb6885, h⟩
      ·refine DK.cons rfl rfl (.off rfl rfl rfl hb6885) <| DK.cons rfl rfl (.off rfl rfl rfl hb6885) <| DK.cons rfl rfl (.off rfl rfl rfl hb6885) <| DK.cons rfl rfl (.off rfl rfl rfl hb6885) <| DK.cons rfl rfl (.off rfl rfl rfl hb6885) <| DK.cons rfl rfl (.off rfl rfl rfl hb6885) <| DK.cons rfl rfl (.off rfl rfl rfl hb6885) <| DK.cons rfl rfl (.off rfl rfl rfl hb6885) <| DK.cons rfl rfl (.off rfl rfl rfl hb6885) <| DK.cons rfl rfl (.p rfl (.s 85 rfl (.k .nil)) rfl (q_pickT rfl hb6885)) <| DK.nil <| CSteps.nil ?_
       exact QN.weaken (.one rfl (.one rfl (.one rfl (.one rfl (.one rfl (.one rfl (.nil _))))))) (Kj6851 () true h)
      ·refine DK.cons rfl rfl (.gp rfl rfl rfl hb6885 (.s 8 rfl .nil) rfl (q_field rfl fo33_1 rfl)) <| DK.cons rfl rfl (.gp rfl rfl rfl hb6885 (.s 86 rfl .nil) rfl (q_load rfl sh26)) <| DK.cons rfl rfl (.gp rfl rfl rfl hb6885 (.s 12 rfl .nil) rfl (q_move rfl)) ?_
       obtain ⟨c6886, h⟩ := ite_n h
       refine DK.cons rfl rfl (.gp rfl rfl rfl hb6885 (.s 87 rfl (.s 88 rfl .nil)) rfl (q_index rfl el26 rfl c6886.1 c6886.2)) <| DK.cons rfl rfl (.gp rfl rfl rfl hb6885 (.s 89 rfl .nil) rfl (q_load rfl sh3)) <| DK.cons rfl rfl (.gp rfl rfl rfl hb6885 (.s 7 rfl .nil) rfl (q_field rfl fo29_1 rfl)) <| DK.cons rfl rfl (.gp rfl rfl rfl hb6885 (.s 91 rfl .nil) rfl (q_load rfl sh27)) <| DK.cons rfl rfl (.gp rfl rfl rfl hb6885 (.s 92 rfl .nil) rfl (q_len rfl elS27)) <| DK.cons rfl rfl (.gp rfl rfl rfl hb6885 (.s 90 rfl (.s 93 rfl .nil)) rfl (q_int rfl rfl)) <| DK.cons rfl rfl (.p rfl (.s 85 rfl (.s 94 rfl .nil)) rfl (q_pickF rfl hb6885)) <| DK.nil <| CSteps.nil ?_
       exact QN.weaken (.one rfl (.one rfl (.one rfl (.one rfl (.one rfl (.one rfl (.nil _))))))) (Kj6851 () (decide ((rd a3.fEdges x12) ≥ (a2.fEdges.length : Int))) h)
    ·refine W.exit <| QX.then_ <| QX.then_ <| QX.here <| QN.weaken (env' := [(8, _), (4, _)]) (.one rfl (.one rfl (.nil _))) <| QN.then_ <| W.seq <| W.seq ?_
     refine W.jn1 (Γ := Unit) (fun (_ : Unit) (x147 : Bool) => [(147, EqA (.bool x147))]) (fun (_ : Unit) (_ : Bool) => []) h (fun _ x147 h => ?_) (fun j6892 Kj6892 h => ?_)
     ·refine QN.then_ ?_
      refine W.condP h rfl (fun hb6893 h => ?_) (fun hb6893 h => ?_)
      ·refine W.seq <| W.region <| WL.p rfl rfl rfl (.k .nil) (q_assign rfl) <| WL.nil <| QN.then_ <| W.ret <| QR.then_ ?_
       cases h
       exact QR.f1 rfl rfl (.t rfl) (.id _)
      ·refine W.skip <| QN.then_ <| W.seq <| W.region <| WL.p rfl rfl rfl (.k .nil) (q_assign rfl) <| WL.nil <| QN.then_ <| W.ret ?_
       cases h
       exact QR.f1 rfl rfl (.t rfl) (.id _)
     ·refine W.region <| WL.p rfl rfl rfl (.s 4 rfl .nil) (q_move rfl) <| WL.p rfl rfl rfl (.s 135 rfl .nil) (q_move rfl) ?_
      rcases bif_s h with ⟨hb6894, h⟩ | ⟨hb6894, h⟩
      ·refine WL.q (Wanted.on rfl rfl rfl hb6894) rfl rfl (.s 8 rfl .nil) (q_field rfl fo33_0 rfl).o <| WL.q (Wanted.on rfl rfl rfl hb6894) rfl rfl (.s 137 rfl .nil) (q_load rfl sh26).o ?_
       obtain ⟨t6895, ht6895, h⟩ := bind_s h
       refine WL.q (Wanted.on rfl rfl rfl hb6894) rfl rfl (.s 138 rfl .nil) (q_call (f := 71) (A := EqA (.bool t6895)) (xs := [.tmp 138]) («as» := [SlcA kInt a3.fNodes]) rfl ca71 (ref17_distinct.con k a3.fNodes t6895 ht6895) rfl).o <| WL.q (Wanted.on rfl rfl rfl hb6894) rfl rfl (.s 139 rfl .nil) (q_not rfl).o <| WL.q (Wanted.on rfl rfl rfl hb6894) rfl rfl (.s 140 rfl .nil) (q_move rfl).o ?_
       rcases bif_s h with ⟨hb6896, h⟩ | ⟨hb6896, h⟩
       ·refine WL.skip (Unwanted.on rfl rfl rfl hb6896) rfl rfl <| WL.skip (Unwanted.on rfl rfl rfl hb6896) rfl rfl <| WL.skip (Unwanted.on rfl rfl rfl hb6896) rfl rfl <| WL.skip (Unwanted.on rfl rfl rfl hb6896) rfl rfl <| WL.q (Wanted.on rfl rfl rfl hb6894) rfl rfl (.s 141 rfl (.k .nil)) (q_pickT rfl hb6896).o <| WL.p rfl rfl rfl (.s 136 rfl (.s 146 rfl .nil)) (q_pickT rfl hb6894) <| WL.nil ?_
        exact QN.weaken (.one rfl (.nil _)) (Kj6892 () true h)
       ·refine WL.q (Wanted.on rfl rfl rfl hb6896) rfl rfl (.s 8 rfl .nil) (q_field rfl fo33_1 rfl).o <| WL.q (Wanted.on rfl rfl rfl hb6896) rfl rfl (.s 142 rfl .nil) (q_load rfl sh26).o ?_
        obtain ⟨t6897, ht6897, h⟩ := bind_s h
        refine WL.q (Wanted.on rfl rfl rfl hb6896) rfl rfl (.s 143 rfl .nil) (q_call (f := 71) (A := EqA (.bool t6897)) (xs := [.tmp 143]) («as» := [SlcA kInt a3.fEdges]) rfl ca71 (ref17_distinct.con k a3.fEdges t6897 ht6897) rfl).o <| WL.q (Wanted.on rfl rfl rfl hb6896) rfl rfl (.s 144 rfl .nil) (q_not rfl).o <| WL.q (Wanted.on rfl rfl rfl hb6894) rfl rfl (.s 141 rfl (.s 145 rfl .nil)) (q_pickF rfl hb6896).o <| WL.p rfl rfl rfl (.s 136 rfl (.s 146 rfl .nil)) (q_pickT rfl hb6894) <| WL.nil ?_
        exact QN.weaken (.one rfl (.nil _)) (Kj6892 () (!t6897) h)
      ·refine WL.skip (Unwanted.on rfl rfl rfl hb6894) rfl rfl <| WL.skip (Unwanted.on rfl rfl rfl hb6894) rfl rfl <| WL.skip (Unwanted.on rfl rfl rfl hb6894) rfl rfl <| WL.skip (Unwanted.on rfl rfl rfl hb6894) rfl rfl <| WL.skip (Unwanted.on rfl rfl rfl hb6894) rfl rfl <| WL.skip (Unwanted.und rfl rfl rfl) rfl rfl <| WL.skip (Unwanted.und rfl rfl rfl) rfl rfl <| WL.skip (Unwanted.und rfl rfl rfl) rfl rfl <| WL.skip (Unwanted.und rfl rfl rfl) rfl rfl <| WL.skip (Unwanted.on rfl rfl rfl hb6894) rfl rfl <| WL.p rfl rfl rfl (.s 136 rfl (.k .nil)) (q_pickF rfl hb6894) <| WL.nil ?_
       exact QN.weaken (.one rfl (.nil _)) (Kj6892 () false h)
 ·refine W.region <| WL.p rfl rfl rfl (.s 8 rfl .nil) (q_field rfl fo33_0 rfl) <| WL.p rfl rfl rfl (.s 15 rfl .nil) (q_load rfl sh26) <| WL.p rfl rfl rfl (.s 16 rfl .nil) (q_len rfl elS26) <| WL.p rfl rfl rfl (.s 6 rfl .nil) (q_field rfl fo29_0 rfl) <| WL.p rfl rfl rfl (.s 18 rfl .nil) (q_load rfl sh26) <| WL.p rfl rfl rfl (.s 19 rfl .nil) (q_len rfl elS26) <| WL.p rfl rfl rfl (.s 17 rfl (.s 20 rfl .nil)) (q_int rfl rfl) <| WL.p rfl rfl rfl (.s 21 rfl .nil) (q_move rfl) ?_
  rcases bif_s h with ⟨hb6898, h⟩ | ⟨hb6898, h⟩
  ·refine WL.skip (Unwanted.on rfl rfl rfl hb6898) rfl rfl <| WL.skip (Unwanted.on rfl rfl rfl hb6898) rfl rfl <| WL.skip (Unwanted.on rfl rfl rfl hb6898) rfl rfl <| WL.skip (Unwanted.on rfl rfl rfl hb6898) rfl rfl <| WL.skip (Unwanted.on rfl rfl rfl hb6898) rfl rfl <| WL.skip (Unwanted.on rfl rfl rfl hb6898) rfl rfl <| WL.skip (Unwanted.on rfl rfl rfl hb6898) rfl rfl <| WL.p rfl rfl rfl (.s 22 rfl (.k .nil)) (q_pickT rfl hb6898) <| WL.nil ?_
   exact QN.weaken (.one rfl (.one rfl (.one rfl (.one rfl (.one rfl (.one rfl (.nil _))))))) (Kj6320 () true h)
  ·refine WL.q (Wanted.on rfl rfl rfl hb6898) rfl rfl (.s 8 rfl .nil) (q_field rfl fo33_1 rfl).o <| WL.q (Wanted.on rfl rfl rfl hb6898) rfl rfl (.s 23 rfl .nil) (q_load rfl sh26).o <| WL.q (Wanted.on rfl rfl rfl hb6898) rfl rfl (.s 24 rfl .nil) (q_len rfl elS26).o <| WL.q (Wanted.on rfl rfl rfl hb6898) rfl rfl (.s 6 rfl .nil) (q_field rfl fo29_1 rfl).o <| WL.q (Wanted.on rfl rfl rfl hb6898) rfl rfl (.s 26 rfl .nil) (q_load rfl sh27).o <| WL.q (Wanted.on rfl rfl rfl hb6898) rfl rfl (.s 27 rfl .nil) (q_len rfl elS27).o <| WL.q (Wanted.on rfl rfl rfl hb6898) rfl rfl (.s 25 rfl (.s 28 rfl .nil)) (q_int rfl rfl).o <| WL.p rfl rfl rfl (.s 22 rfl (.s 29 rfl .nil)) (q_pickF rfl hb6898) <| WL.nil ?_
   exact QN.weaken (.one rfl (.one rfl (.one rfl (.one rfl (.one rfl (.one rfl (.nil _))))))) (Kj6320 () ((a3.fEdges.length : Int) != (a1.fEdges.length : Int)) h)
theorem ref17_Check.con (k : Nat) (a0 : Types) (a1 : Graph) (a2 : Graph) (a3 : Morphism) (a4 : Bool) (r : Int) (h : ref17_Check k a0 a1 a2 a3 a4 = some r) : Con Tryz.prog 22 [] [AggA [SlcA kNodeType a0.fNodes, SlcA kEdgeType a0.fEdges], AggA [SlcA kInt a1.fNodes, SlcA kEdge a1.fEdges], AggA [SlcA kInt a2.fNodes, SlcA kEdge a2.fEdges], AggA [SlcA kInt a3.fNodes, SlcA kInt a3.fEdges], EqA (.bool a4)] (RA (EqA (.int .i64 r))) := by
 unfold ref17_Check at h
 refine Con.of (N := 25) Tryz.func22 rfl rfl rfl fun w0_ fg_ => W.seq <| W.region <| WL.p rfl rfl rfl (.s 0 rfl .nil) (q_box rfl (CellsOf.agg _)) <| WL.p rfl rfl rfl (.s 1 rfl .nil) (q_box rfl (CellsOf.agg _)) <| WL.p rfl rfl rfl (.s 2 rfl .nil) (q_box rfl (CellsOf.agg _)) <| WL.p rfl rfl rfl (.s 3 rfl .nil) (q_box rfl (CellsOf.agg _)) <| WL.p rfl rfl rfl (.k .nil) (q_assign rfl) <| WL.nil <| QN.then_ <| W.seq <| W.seq <| W.region ?_
 refine WL.p rfl rfl rfl (.s 5 rfl .nil) (q_loadS rfl sh25 (leB rfl) rfl) <| WL.p rfl rfl rfl (.s 6 rfl .nil) (q_loadS rfl sh29 (leB rfl) rfl) <| WL.p rfl rfl rfl (.s 7 rfl .nil) (q_loadS rfl sh29 (leB rfl) rfl) ?_
 obtain ⟨t6899, ht6899, h⟩ := bind_s h
 refine WL.p rfl rfl rfl (.s 12 rfl (.s 13 rfl (.s 14 rfl .nil))) (q_call (f := 35) (A := EqA (.int .i64 t6899)) (xs := [.tmp 12, .tmp 13, .tmp 14]) («as» := [AggA [SlcA kNodeType a0.fNodes, SlcA kEdgeType a0.fEdges], AggA [SlcA kInt a1.fNodes, SlcA kEdge a1.fEdges], AggA [SlcA kInt a2.fNodes, SlcA kEdge a2.fEdges]]) rfl ca35 (ref17_given.con k a0 a1 a2 t6899 ht6899) rfl) <| WL.p rfl rfl rfl (.s 15 rfl .nil) (q_assign rfl) <| WL.nil <| QN.weaken (env' := [(11, _), (8, _), (7, _), (6, _), (5, _), (4, _)]) (.one rfl (.one rfl (.one rfl (.one rfl (.one rfl (.one rfl (.nil _))))))) <| QN.then_ <| W.seq <| W.region <| WL.p rfl rfl rfl (.s 11 rfl .nil) (q_move rfl) <| WL.p rfl rfl rfl (.s 16 rfl (.k .nil)) (q_int rfl rfl) <| WL.nil <| QN.then_ ?_
 refine W.condP h rfl (fun hb6900 h => ?_) (fun hb6900 h => ?_)
 ·refine W.seq <| W.region <| WL.p rfl rfl rfl (.s 11 rfl .nil) (q_move rfl) <| WL.p rfl rfl rfl (.s 18 rfl .nil) (q_assign rfl) <| WL.nil <| QN.weaken (env' := [(10, _)]) (.one rfl (.nil _)) <| QN.then_ <| W.ret <| QR.then_ ?_
  cases h
  exact QR.f1 rfl rfl (.t rfl) (.id _)
 ·refine W.skip <| QN.then_ <| W.seq <| W.region <| WL.p rfl rfl rfl (.s 5 rfl .nil) (q_loadS rfl sh25 (leB rfl) rfl) <| WL.p rfl rfl rfl (.s 6 rfl .nil) (q_loadS rfl sh29 (leB rfl) rfl) <| WL.p rfl rfl rfl (.s 7 rfl .nil) (q_loadS rfl sh29 (leB rfl) rfl) <| WL.p rfl rfl rfl (.s 8 rfl .nil) (q_loadS rfl sh33 (leB rfl) rfl) <| WL.p rfl rfl rfl (.s 4 rfl .nil) (q_move rfl) ?_
  obtain ⟨t6901, ht6901, h⟩ := bind_s h
  refine WL.p rfl rfl rfl (.s 19 rfl (.s 20 rfl (.s 21 rfl (.s 22 rfl (.s 23 rfl .nil))))) (q_call (f := 50) (A := EqA (.int .i64 t6901)) (xs := [.tmp 19, .tmp 20, .tmp 21, .tmp 22, .tmp 23]) («as» := [AggA [SlcA kNodeType a0.fNodes, SlcA kEdgeType a0.fEdges], AggA [SlcA kInt a1.fNodes, SlcA kEdge a1.fEdges], AggA [SlcA kInt a2.fNodes, SlcA kEdge a2.fEdges], AggA [SlcA kInt a3.fNodes, SlcA kInt a3.fEdges], EqA (.bool a4)]) rfl ca50 (ref17_match.con k a0 a1 a2 a3 a4 t6901 ht6901) rfl) <| WL.p rfl rfl rfl (.s 24 rfl .nil) (q_assign rfl) <| WL.nil <| QN.weaken (env' := [(10, _)]) (.one rfl (.nil _)) <| QN.then_ <| W.ret ?_
  cases h
  exact QR.f1 rfl rfl (.t rfl) (.id _)
theorem ref05_Copied.con (k : Nat) (a0 : Graph) (r : Graph) (h : ref05_Copied k a0 = some r) : Con Tryz.prog 39 [] [AggA [SlcA kInt a0.fNodes, SlcA kEdge a0.fEdges]] (fun O' A => ∃ u0 u1, O' = [SlE 3 u0 kInt r.fNodes, SlE 77 u1 kEdge r.fEdges] ∧ A = AggA [HdA u0, HdA u1]) := by
 unfold ref05_Copied at h
 refine Con.of (N := 12) Tryz.func39 rfl rfl rfl fun w0_ fg_ => W.seq <| W.region <| WL.p rfl rfl rfl (.s 0 rfl .nil) (q_box rfl (CellsOf.agg _)) <| WL.w [] rfl (Wanted.plain rfl) rfl rfl .nil (w_alloc rfl z29 (l := [EqA (.slice none 0 0), EqA (.slice none 0 0)]) rfl) ?_
 rintro _ _ ⟨b6919, rfl, rfl⟩
 refine WL.nil <| QN.then_ <| W.seq <| W.drawK [(0, false), (1, false), (2, false), (4, false), (5, false), (6, false)] [3, 7, 8, 9] [[], [], [1], [0, 1, 2], [], [], [5], [0, 1, 2, 3, 4, 5, 6], [0, 1, 2, 3, 4, 5, 6, 7], [0, 1, 2, 3, 4, 5, 6, 7, 8]] mx (by kernel_rfl) <| DK.cons rfl rfl (.p rfl .nil rfl (q_lit0 rfl el26 gr3)) <| DK.cons rfl rfl (.p rfl (.s 1 rfl .nil) rfl (q_field rfl fo29_0 rfl)) <| DK.cons rfl rfl (.p rfl (.s 4 rfl .nil) rfl (q_load rfl sh26)) ?_
 obtain ⟨c6928, h⟩ := ite_n h
 refine DK.cons rfl rfl (.p rfl .nil rfl (q_lit0 rfl el27 gr77)) <| DK.cons rfl rfl (.p rfl (.s 1 rfl .nil) rfl (q_field rfl fo29_1 rfl)) <| DK.cons rfl rfl (.p rfl (.s 8 rfl .nil) rfl (q_load rfl sh27)) ?_
 obtain ⟨c6930, h⟩ := ite_n h
 refine DK.nil <| CSteps.w [] rfl rfl rfl rfl (.s 3 rfl (.s 5 rfl .nil)) rfl (w_appendZ (kd := kInt) rfl el26 rfl gr3 c6928) ?_
 rintro _ _ ⟨v6929, rfl, rfl⟩
 refine CSteps.w [] rfl rfl rfl rfl (.s 7 rfl (.s 9 rfl .nil)) rfl (w_appendZ (kd := kEdge) rfl el27 rfl gr77 c6930) ?_
 rintro _ _ ⟨v6931, rfl, rfl⟩
 refine CSteps.p rfl rfl rfl (.s 6 rfl (.s 10 rfl .nil)) rfl (q_build (is := [0, 1]) (xs := [.tmp 6, .tmp 10]) (L := [HdA v6929, HdA v6931]) rfl rfl z29 pl29 rfl rfl (.cons (CellsOf.one rfl) (.cons (CellsOf.one rfl) .nil)) rfl) <| CSteps.w0 [2] rfl rfl rfl (.s 2 rfl (.s 11 rfl .nil)) rfl (w_store (L := [HdA v6929, HdA v6931]) rfl sh29 (CellsOf.agg _) rfl rfl (leB rfl) rfl) ?_
 rintro _ _ ⟨rfl, rfl⟩
 refine CSteps.nil <| QN.to (StTo.still [0] 2 rfl rfl) <| QN.weaken (env' := [(2, _)]) (.one rfl (.nil _)) <| QN.then_ <| W.ret ?_
 cases h
 refine QR.order [1, 0] rfl ?_
 exact QR.r1 rfl rfl (.ps rfl sh29 rfl) ⟨v6929, v6931, rfl, rfl⟩
theorem ref17_Instance.con (k : Nat) (a0 : Types) (a1 : Graph) (a2 : Graph) (a3 : Morphism) (r : (Graph × Int)) (h : ref17_Instance k a0 a1 a2 a3 = some r) : Con Tryz.prog 12 [] [AggA [SlcA kNodeType a0.fNodes, SlcA kEdgeType a0.fEdges], AggA [SlcA kInt a1.fNodes, SlcA kEdge a1.fEdges], AggA [SlcA kInt a2.fNodes, SlcA kEdge a2.fEdges], AggA [SlcA kInt a3.fNodes, SlcA kInt a3.fEdges]] (RA (TupA [AggA [SlcA kInt r.1.fNodes, SlcA kEdge r.1.fEdges], EqA (.int .i64 r.2)])) := by
 unfold ref17_Instance at h
 refine Con.of (N := 45) Tryz.func12 rfl rfl rfl fun w0_ fg_ => W.seq <| W.region <| WL.p rfl rfl rfl (.s 0 rfl .nil) (q_box rfl (CellsOf.agg _)) <| WL.p rfl rfl rfl (.s 1 rfl .nil) (q_box rfl (CellsOf.agg _)) <| WL.p rfl rfl rfl (.s 2 rfl .nil) (q_box rfl (CellsOf.agg _)) <| WL.p rfl rfl rfl (.s 3 rfl .nil) (q_box rfl (CellsOf.agg _)) <| WL.w [] rfl (Wanted.plain rfl) rfl rfl .nil (w_alloc rfl z29 (l := [EqA (.slice none 0 0), EqA (.slice none 0 0)]) rfl) ?_
 rintro _ _ ⟨b6932, rfl, rfl⟩
 refine WL.p rfl rfl rfl (.k .nil) (q_assign rfl) <| WL.nil <| QN.then_ <| W.seq <| W.seq <| W.region <| WL.p rfl rfl rfl (.s 4 rfl .nil) (q_loadS rfl sh25 (leB rfl) rfl) <| WL.p rfl rfl rfl (.s 5 rfl .nil) (q_loadS rfl sh29 (leB rfl) rfl) <| WL.p rfl rfl rfl (.s 6 rfl .nil) (q_loadS rfl sh29 (leB rfl) rfl) <| WL.p rfl rfl rfl (.s 7 rfl .nil) (q_loadS rfl sh33 (leB rfl) rfl) ?_
 obtain ⟨t6933, ht6933, h⟩ := bind_s h
 refine WL.p rfl rfl rfl (.s 13 rfl (.s 14 rfl (.s 15 rfl (.s 16 rfl (.k .nil))))) (q_call (f := 22) (A := EqA (.int .i64 t6933)) (xs := [.tmp 13, .tmp 14, .tmp 15, .tmp 16, .const (.bool false)]) («as» := [AggA [SlcA kNodeType a0.fNodes, SlcA kEdgeType a0.fEdges], AggA [SlcA kInt a1.fNodes, SlcA kEdge a1.fEdges], AggA [SlcA kInt a2.fNodes, SlcA kEdge a2.fEdges], AggA [SlcA kInt a3.fNodes, SlcA kInt a3.fEdges], EqA (.bool false)]) rfl ca22 (ref17_Check.con k a0 a1 a2 a3 false t6933 ht6933) rfl) <| WL.p rfl rfl rfl (.s 17 rfl .nil) (q_assign rfl) <| WL.nil <| QN.weaken (env' := [(10, _), (8, _), (7, _), (6, _), (5, _)]) (.one rfl (.one rfl (.one rfl (.one rfl (.one rfl (.nil _)))))) <| QN.then_ <| W.seq <| W.region <| WL.p rfl rfl rfl (.s 10 rfl .nil) (q_move rfl) <| WL.p rfl rfl rfl (.s 18 rfl (.k .nil)) (q_int rfl rfl) <| WL.nil <| QN.then_ ?_
 refine W.condP h rfl (fun hb6934 h => ?_) (fun hb6934 h => ?_)
 ·refine W.seq <| W.region <| WL.p rfl rfl rfl .nil (q_build (is := []) (xs := []) (L := [EqA (.slice none 0 0), EqA (.slice none 0 0)]) rfl rfl z29 pl29 rfl rfl .nil rfl) <| WL.p rfl rfl rfl (.s 10 rfl .nil) (q_move rfl) <| WL.w0 [0] rfl (Wanted.plain rfl) rfl (.s 8 rfl (.s 20 rfl .nil)) (w_store (L := [EqA (.slice none 0 0), EqA (.slice none 0 0)]) rfl sh29 (CellsOf.agg _) rfl rfl (leB rfl) rfl) ?_
  rintro _ _ ⟨rfl, rfl⟩
  refine WL.p rfl rfl rfl (.s 21 rfl .nil) (q_assign rfl) <| WL.nil <| QN.weaken (env' := [(9, _), (8, _)]) (.one rfl (.one rfl (.nil _))) <| QN.then_ <| W.ret <| QR.then_ ?_
  cases h
  exact QR.f2 rfl rfl (.cs (i := 0) rfl sh29 rfl rfl) (.t rfl) (.imp (Imp.tup (.cons (Imp.agg (.cons (Imp.nil kInt) (.cons (Imp.nil kEdge) .nil))) (.cons (Imp.id _) .nil))))
 ·refine W.skip <| QN.then_ <| W.seq <| W.region <| WL.p rfl rfl rfl (.s 5 rfl .nil) (q_loadS rfl sh29 (leB rfl) rfl) ?_
  obtain ⟨t6935, ht6935, h⟩ := bind_s h
  refine WL.w [] rfl (Wanted.plain rfl) rfl rfl (.s 22 rfl .nil) (w_callI (f := 39) (xs := [.tmp 22]) («as» := [AggA [SlcA kInt a1.fNodes, SlcA kEdge a1.fEdges]]) rfl ca39 (ref05_Copied.con k a1 t6935 ht6935) rfl (.cons (Imp.id _) .nil)) ?_
  rintro _ _ ⟨v6936, v6937, rfl, rfl⟩
  refine WL.w [] rfl (Wanted.plain rfl) rfl rfl .nil (w_alloc rfl z29 (l := [EqA (.slice none 0 0), EqA (.slice none 0 0)]) rfl) ?_
  rintro _ _ ⟨b6938, rfl, rfl⟩
  refine WL.w0 [0] rfl (Wanted.plain rfl) rfl (.s 11 rfl (.s 23 rfl .nil)) (w_store (L := [HdA v6936, HdA v6937]) rfl sh29 (CellsOf.agg _) rfl rfl (leB rfl) rfl) ?_
  rintro _ _ ⟨rfl, rfl⟩
  refine WL.nil <| QN.to (StTo.still [0] 11 rfl rfl) <| QN.then_ <| W.seq <| W.seq <| W.region <| WL.p rfl rfl rfl (.k .nil) (q_assign rfl) <| WL.nil <| QN.then_ <| W.block <| W.order [2, 0, 0] rfl ?_
  refine W.loop2 (Γ := Unit) (fun (_ : Unit) (_ : (List Int)) (x12 : Int) => [(6, PtrA [SlcA kInt a2.fNodes, SlcA kEdge a2.fEdges]), (7, PtrA [SlcA kInt a3.fNodes, SlcA kInt a3.fEdges]), (8, EqA (.pointer (some ⟨b6932, 0, none⟩))), (11, PtrA [HdA v6936, HdA v6937]), (12, EqA (.int .i64 x12))]) (fun (_ : Unit) (x11_0 : (List Int)) (_ : Int) => [BoxE b6932 [EqA (.slice none 0 0), EqA (.slice none 0 0)], SlE 3 v6936 kInt x11_0, SlE 77 v6937 kEdge t6935.fEdges]) h () (.one rfl (.one rfl (.one rfl (.one rfl (.one rfl (.nil _)))))) rfl (fun rec0 K0 next0 _ x11_0 x12 h => ?_)
  unfold ref17_Instance.b0 at h
  refine W.seq <| W.seq <| W.region <| WL.p rfl rfl rfl (.s 12 rfl .nil) (q_move rfl) <| WL.p rfl rfl rfl (.s 11 rfl .nil) (q_field rfl fo29_0 rfl) <| WL.p rfl rfl rfl (.s 25 rfl .nil) (q_load rfl sh26) <| WL.q (Wanted.plain rfl) rfl rfl (.s 26 rfl .nil) (q_lenO rfl elS26 (i := 1) rfl) <| WL.p rfl rfl rfl (.s 24 rfl (.s 27 rfl .nil)) (q_int rfl rfl) <| WL.nil <| QN.then_ ?_
  refine W.condP h rfl (fun hb6961 h => ?_) (fun hb6961 h => ?_)
  ·refine W.skip <| QN.then_ <| W.seq <| W.block <| W.drawK [(0, false), (1, false), (2, false), (3, false), (4, false), (5, false), (6, false), (7, false), (8, false), (9, false), (10, false), (11, false), (12, true)] [13] [[], [0], [], [], [3], [], [5], [], [5, 6, 7], [5, 6, 7, 8], [3, 4, 5, 6, 7, 8, 9], [3, 4, 5, 6, 7, 8, 9, 10], [0, 1, 2, 3, 4, 5, 6, 7, 8, 9, 10, 11], [0, 1, 2, 3, 4, 5, 6, 7, 8, 9, 10, 11, 12]] mx (by kernel_rfl) <| DK.cons rfl rfl (.p rfl (.s 11 rfl .nil) rfl (q_field rfl fo29_0 rfl)) <| DK.cons rfl rfl (.p rfl (.s 31 rfl .nil) rfl (q_load rfl sh26)) <| DK.cons rfl rfl (.p rfl (.s 12 rfl .nil) rfl (q_move rfl)) <| DK.cons rfl rfl (.p rfl (.s 6 rfl .nil) rfl (q_field rfl fo29_0 rfl)) <| DK.cons rfl rfl (.p rfl (.s 34 rfl .nil) rfl (q_load rfl sh26)) <| DK.cons rfl rfl (.p rfl (.s 7 rfl .nil) rfl (q_field rfl fo33_0 rfl)) <| DK.cons rfl rfl (.p rfl (.s 36 rfl .nil) rfl (q_load rfl sh26)) <| DK.cons rfl rfl (.p rfl (.s 12 rfl .nil) rfl (q_move rfl)) ?_
   obtain ⟨c6968, h⟩ := ite_n h
   refine DK.cons rfl rfl (.p rfl (.s 37 rfl (.s 38 rfl .nil)) rfl (q_index rfl el26 rfl c6968.1 c6968.2)) <| DK.cons rfl rfl (.p rfl (.s 39 rfl .nil) rfl (q_load rfl sh3)) ?_
   obtain ⟨c6969, h⟩ := ite_n h
   refine DK.cons rfl rfl (.p rfl (.s 35 rfl (.s 40 rfl .nil)) rfl (q_index rfl el26 rfl c6969.1 c6969.2)) <| DK.cons rfl rfl (.p rfl (.s 41 rfl .nil) rfl (q_load rfl sh3)) ?_
   obtain ⟨c6970, h⟩ := ite_n h
   refine DK.cons rfl rfl (.o rfl (.s 32 rfl (.s 33 rfl .nil)) rfl (q_indexO rfl el26 (j := 1) rfl c6970.1 c6970.2)) <| DK.nil <| CSteps.w0 [1] rfl rfl rfl (.s 43 rfl (.s 42 rfl .nil)) rfl (w_storeEl (kd := kInt) (z := (rd a2.fNodes (rd a3.fNodes x12))) rfl sh3 (CellsOf.one rfl) rfl rfl rfl c6970.1 c6970.2 rfl rfl) ?_
   rintro _ _ ⟨rfl, rfl⟩
   refine CSteps.nil <| QN.block <| QN.weaken (env' := [(12, _), (11, _), (8, _), (7, _), (6, _)]) (.one rfl (.one rfl (.one rfl (.one rfl (.one rfl (.nil _)))))) <| QN.then_ <| W.region <| WL.p rfl rfl rfl (.s 12 rfl .nil) (q_move rfl) ?_
   obtain ⟨c6971, h⟩ := ite_n h
   refine WL.p rfl rfl rfl (.s 29 rfl (.k .nil)) (q_addR rfl c6971) <| WL.p rfl rfl rfl (.s 30 rfl .nil) (q_assign rfl) <| WL.nil <| QN.order [1, 0, 0] rfl ?_
   exact next0 () (x11_0.set (x12 : Int).toNat (rd a2.fNodes (rd a3.fNodes x12))) (x12 + 1) _ h (.one rfl (.one rfl (.one rfl (.one rfl (.one rfl (.nil _))))))
  ·refine W.exit <| QX.then_ <| QX.then_ <| QX.here <| QN.weaken (env' := [(11, _), (8, _)]) (.one rfl (.one rfl (.nil _))) <| QN.then_ <| W.seq <| W.region <| WL.p rfl rfl rfl (.s 11 rfl .nil) (q_loadS rfl sh29 (leB rfl) rfl) <| WL.w0 [0] rfl (Wanted.plain rfl) rfl (.s 8 rfl (.s 44 rfl .nil)) (w_store (L := [HdA v6936, HdA v6937]) rfl sh29 (CellsOf.agg _) rfl rfl (leB rfl) rfl) ?_
   rintro _ _ ⟨rfl, rfl⟩
   refine WL.p rfl rfl rfl (.k .nil) (q_assign rfl) <| WL.nil <| QN.then_ <| W.ret ?_
   cases h
   exact QR.f2 rfl rfl (.cs (i := 0) rfl sh29 rfl rfl) (.t rfl) (.tup (.cons (.agg (.cons (.slc 1 rfl) (.cons (.slc 2 rfl) .nil))) (.cons (.id _) .nil)))
theorem ref05_Same.con (k : Nat) (a0 : Graph) (a1 : Graph) (r : Bool) (h : ref05_Same k a0 a1 = some r) : Con Tryz.prog 13 [] [AggA [SlcA kInt a0.fNodes, SlcA kEdge a0.fEdges], AggA [SlcA kInt a1.fNodes, SlcA kEdge a1.fEdges]] (RA (EqA (.bool r))) := by
 unfold ref05_Same at h
 refine Con.of (N := 39) Tryz.func13 rfl rfl rfl fun w0_ fg_ => W.seq <| W.region <| WL.p rfl rfl rfl (.s 0 rfl .nil) (q_box rfl (CellsOf.agg _)) <| WL.p rfl rfl rfl (.s 1 rfl .nil) (q_box rfl (CellsOf.agg _)) <| WL.p rfl rfl rfl (.k .nil) (q_assign rfl) <| WL.nil <| QN.then_ <| W.seq <| W.seq ?_
 refine W.jn1 (Γ := Unit) (fun (_ : Unit) (x20 : Bool) => [(2, PtrA [SlcA kInt a0.fNodes, SlcA kEdge a0.fEdges]), (3, PtrA [SlcA kInt a1.fNodes, SlcA kEdge a1.fEdges]), (20, EqA (.bool x20))]) (fun (_ : Unit) (_ : Bool) => []) h (fun _ x20 h => ?_) (fun j6975 Kj6975 h => ?_)
 ·refine QN.then_ ?_
  refine W.condP h rfl (fun hb6976 h => ?_) (fun hb6976 h => ?_)
  ·refine W.seq <| W.region <| WL.p rfl rfl rfl (.k .nil) (q_assign rfl) <| WL.nil <| QN.then_ <| W.ret <| QR.then_ ?_
   cases h
   exact QR.f1 rfl rfl (.t rfl) (.id _)
  ·refine W.skip <| QN.then_ <| W.seq <| W.seq <| W.region <| WL.p rfl rfl rfl (.k .nil) (q_assign rfl) <| WL.nil <| QN.then_ <| W.block ?_
   refine W.loop1 (Γ := Unit) (fun (_ : Unit) (x5 : Int) => [(2, PtrA [SlcA kInt a0.fNodes, SlcA kEdge a0.fEdges]), (3, PtrA [SlcA kInt a1.fNodes, SlcA kEdge a1.fEdges]), (5, EqA (.int .i64 x5))]) (fun (_ : Unit) (_ : Int) => []) h () (.one rfl (.one rfl (.one rfl (.nil _)))) rfl (fun rec0 K0 next0 _ x5 h => ?_)
   unfold ref05_Same.b0 at h
   refine W.seq <| W.seq <| W.region <| WL.p rfl rfl rfl (.s 5 rfl .nil) (q_move rfl) <| WL.p rfl rfl rfl (.s 2 rfl .nil) (q_field rfl fo29_1 rfl) <| WL.p rfl rfl rfl (.s 22 rfl .nil) (q_load rfl sh27) <| WL.p rfl rfl rfl (.s 23 rfl .nil) (q_len rfl elS27) <| WL.p rfl rfl rfl (.s 21 rfl (.s 24 rfl .nil)) (q_int rfl rfl) <| WL.nil <| QN.then_ ?_
   refine W.condP h rfl (fun hb6995 h => ?_) (fun hb6995 h => ?_)
   ·refine W.skip <| QN.then_ <| W.seq <| W.block <| W.seq <| W.drawK [(0, false), (1, false), (2, false), (3, false), (4, false), (5, false), (6, false), (7, false), (8, false), (9, false), (10, false)] [] [[], [0], [], [0, 1, 2], [0, 1, 2, 3], [], [5], [], [5, 6, 7], [5, 6, 7, 8], [0, 1, 2, 3, 4, 5, 6, 7, 8, 9]] mx (by kernel_rfl) <| DK.cons rfl rfl (.p rfl (.s 2 rfl .nil) rfl (q_field rfl fo29_1 rfl)) <| DK.cons rfl rfl (.p rfl (.s 28 rfl .nil) rfl (q_load rfl sh27)) <| DK.cons rfl rfl (.p rfl (.s 5 rfl .nil) rfl (q_move rfl)) ?_
    obtain ⟨c7000, h⟩ := ite_n h
    refine DK.cons rfl rfl (.p rfl (.s 29 rfl (.s 30 rfl .nil)) rfl (q_index rfl el27 rfl c7000.1 c7000.2)) <| DK.cons rfl rfl (.p rfl (.s 31 rfl .nil) rfl (q_loadS rfl sh77 (leB rfl) rfl)) <| DK.cons rfl rfl (.p rfl (.s 3 rfl .nil) rfl (q_field rfl fo29_1 rfl)) <| DK.cons rfl rfl (.p rfl (.s 33 rfl .nil) rfl (q_load rfl sh27)) <| DK.cons rfl rfl (.p rfl (.s 5 rfl .nil) rfl (q_move rfl)) ?_
    obtain ⟨c7001, h⟩ := ite_n h
    refine DK.cons rfl rfl (.p rfl (.s 34 rfl (.s 35 rfl .nil)) rfl (q_index rfl el27 rfl c7001.1 c7001.2)) <| DK.cons rfl rfl (.p rfl (.s 36 rfl .nil) rfl (q_loadS rfl sh77 (leB rfl) rfl)) <| DK.cons rfl rfl (.p rfl (.s 32 rfl (.s 37 rfl .nil)) rfl (q_eqIn (ms := [(rd a0.fEdges x5).fType, (rd a0.fEdges x5).fFrom, (rd a0.fEdges x5).fTo]) (ns := [(rd a1.fEdges x5).fType, (rd a1.fEdges x5).fFrom, (rd a1.fEdges x5).fTo]) rfl issI_77)) <| DK.nil <| CSteps.nil <| QN.weaken (env' := [(38, _), (5, _), (3, _), (2, _)]) (.one rfl (.one rfl (.one rfl (.one rfl (.nil _))))) <| QN.then_ ?_
    refine W.condP h rfl (fun hb7002 h => ?_) (fun hb7002 h => ?_)
    ·refine W.seq <| W.region <| WL.p rfl rfl rfl (.k .nil) (q_assign rfl) <| WL.nil <| QN.then_ <| W.ret <| QR.block <| QR.then_ <| QR.then_ <| QR.block <| QR.then_ ?_
     cases h
     exact QR.f1 rfl rfl (.t rfl) (.id _)
    ·refine W.skip <| QN.block <| QN.then_ <| W.region <| WL.p rfl rfl rfl (.s 5 rfl .nil) (q_move rfl) ?_
     obtain ⟨c7003, h⟩ := ite_n h
     refine WL.p rfl rfl rfl (.s 26 rfl (.k .nil)) (q_addR rfl c7003) <| WL.p rfl rfl rfl (.s 27 rfl .nil) (q_assign rfl) <| WL.nil ?_
     exact next0 () (x5 + 1) _ h (.one rfl (.one rfl (.one rfl (.nil _))))
   ·refine W.exit <| QX.then_ <| QX.then_ <| QX.here <| QN.weaken (env' := []) (.nil _) <| QN.then_ <| W.seq <| W.region <| WL.p rfl rfl rfl (.k .nil) (q_assign rfl) <| WL.nil <| QN.then_ <| W.ret ?_
    cases h
    exact QR.f1 rfl rfl (.t rfl) (.id _)
 ·refine W.region <| WL.p rfl rfl rfl (.s 2 rfl .nil) (q_field rfl fo29_0 rfl) <| WL.p rfl rfl rfl (.s 6 rfl .nil) (q_load rfl sh26) <| WL.p rfl rfl rfl (.s 3 rfl .nil) (q_field rfl fo29_0 rfl) <| WL.p rfl rfl rfl (.s 8 rfl .nil) (q_load rfl sh26) ?_
  obtain ⟨t7004, ht7004, h⟩ := bind_s h
  refine WL.p rfl rfl rfl (.s 7 rfl (.s 9 rfl .nil)) (q_call (f := 40) (A := EqA (.bool t7004)) (xs := [.tmp 7, .tmp 9]) («as» := [SlcA kInt a0.fNodes, SlcA kInt a1.fNodes]) rfl ca40 (ref05_SameInts.con k a0.fNodes a1.fNodes t7004 ht7004) rfl) <| WL.p rfl rfl rfl (.s 10 rfl .nil) (q_not rfl) <| WL.p rfl rfl rfl (.s 11 rfl .nil) (q_move rfl) ?_
  rcases bif_s h with ⟨hb7005, h⟩ | ⟨hb7005, h⟩
  ·refine WL.skip (Unwanted.on rfl rfl rfl hb7005) rfl rfl <| WL.skip (Unwanted.on rfl rfl rfl hb7005) rfl rfl <| WL.skip (Unwanted.on rfl rfl rfl hb7005) rfl rfl <| WL.skip (Unwanted.on rfl rfl rfl hb7005) rfl rfl <| WL.skip (Unwanted.on rfl rfl rfl hb7005) rfl rfl <| WL.skip (Unwanted.on rfl rfl rfl hb7005) rfl rfl <| WL.skip (Unwanted.on rfl rfl rfl hb7005) rfl rfl <| WL.p rfl rfl rfl (.s 12 rfl (.k .nil)) (q_pickT rfl hb7005) <| WL.nil ?_
   exact QN.weaken (.one rfl (.one rfl (.one rfl (.nil _)))) (Kj6975 () true h)
  ·refine WL.q (Wanted.on rfl rfl rfl hb7005) rfl rfl (.s 2 rfl .nil) (q_field rfl fo29_1 rfl).o <| WL.q (Wanted.on rfl rfl rfl hb7005) rfl rfl (.s 13 rfl .nil) (q_load rfl sh27).o <| WL.q (Wanted.on rfl rfl rfl hb7005) rfl rfl (.s 14 rfl .nil) (q_len rfl elS27).o <| WL.q (Wanted.on rfl rfl rfl hb7005) rfl rfl (.s 3 rfl .nil) (q_field rfl fo29_1 rfl).o <| WL.q (Wanted.on rfl rfl rfl hb7005) rfl rfl (.s 16 rfl .nil) (q_load rfl sh27).o <| WL.q (Wanted.on rfl rfl rfl hb7005) rfl rfl (.s 17 rfl .nil) (q_len rfl elS27).o <| WL.q (Wanted.on rfl rfl rfl hb7005) rfl rfl (.s 15 rfl (.s 18 rfl .nil)) (q_int rfl rfl).o <| WL.p rfl rfl rfl (.s 12 rfl (.s 19 rfl .nil)) (q_pickF rfl hb7005) <| WL.nil ?_
   exact QN.weaken (.one rfl (.one rfl (.one rfl (.nil _)))) (Kj6975 () ((a0.fEdges.length : Int) != (a1.fEdges.length : Int)) h)
end Go.Proofs.YtelpgjfojhcjcaaGreat
