/- The Go functions compute the pure ones. (Printed by gen.py.) -/
import Derived.Test.YtelpgjfojhcjcaaGreatC9
namespace Go.Proofs.YtelpgjfojhcjcaaGreat
open Go Go.Abs
attribute [local irreducible] Tryz.prog
theorem ref06_Valid.con (k : Nat) (a0 : Graph) (a1 : Graph) (a2 : Morphism) (r : Int) (h : ref06_Valid k a0 a1 a2 = some r) : Con Tryz.prog 14 [] [AggA [SlcA kInt a0.fNodes, SlcA kEdge a0.fEdges], AggA [SlcA kInt a1.fNodes, SlcA kEdge a1.fEdges], AggA [SlcA kInt a2.fNodes, SlcA kInt a2.fEdges]] (RA (EqA (.int .i64 r))) := by
 unfold ref06_Valid at h
 refine Con.of (N := 141) Tryz.func14 rfl rfl rfl fun w0_ fg_ => W.seq <| W.region <| WL.p rfl rfl rfl (.s 0 rfl .nil) (q_box rfl (CellsOf.agg _)) <| WL.p rfl rfl rfl (.s 1 rfl .nil) (q_box rfl (CellsOf.agg _)) <| WL.p rfl rfl rfl (.s 2 rfl .nil) (q_box rfl (CellsOf.agg _)) <| WL.p rfl rfl rfl (.k .nil) (q_assign rfl) <| WL.nil <| QN.then_ <| W.seq <| W.seq <| W.region <| WL.p rfl rfl rfl (.s 3 rfl .nil) (q_loadS rfl sh29 (leB rfl) rfl) ?_
 obtain ⟨t7006, ht7006, h⟩ := bind_s h
 refine WL.p rfl rfl rfl (.s 13 rfl .nil) (q_call (f := 41) (A := EqA (.int .i64 t7006)) (xs := [.tmp 13]) («as» := [AggA [SlcA kInt a0.fNodes, SlcA kEdge a0.fEdges]]) rfl ca41 (ref05_Valid.con k a0 t7006 ht7006) rfl) <| WL.p rfl rfl rfl (.s 14 rfl .nil) (q_assign rfl) <| WL.nil <| QN.then_ <| W.seq <| W.region <| WL.p rfl rfl rfl (.s 7 rfl .nil) (q_move rfl) <| WL.p rfl rfl rfl (.s 15 rfl (.k .nil)) (q_int rfl rfl) <| WL.nil <| QN.weaken (env' := [(16, _), (7, _), (5, _), (4, _), (3, _)]) (.one rfl (.one rfl (.one rfl (.one rfl (.one rfl (.nil _)))))) <| QN.then_ ?_
 refine W.condP h rfl (fun hb7007 h => ?_) (fun hb7007 h => ?_)
 ·refine W.seq <| W.region <| WL.p rfl rfl rfl (.s 7 rfl .nil) (q_move rfl) <| WL.p rfl rfl rfl (.s 17 rfl .nil) (q_assign rfl) <| WL.nil <| QN.then_ <| W.ret <| QR.then_ ?_
  cases h
  exact QR.f1 rfl rfl (.t rfl) (.id _)
 ·refine W.skip <| QN.then_ <| W.seq <| W.seq <| W.region <| WL.p rfl rfl rfl (.s 4 rfl .nil) (q_loadS rfl sh29 (leB rfl) rfl) ?_
  obtain ⟨t7008, ht7008, h⟩ := bind_s h
  refine WL.p rfl rfl rfl (.s 18 rfl .nil) (q_call (f := 41) (A := EqA (.int .i64 t7008)) (xs := [.tmp 18]) («as» := [AggA [SlcA kInt a1.fNodes, SlcA kEdge a1.fEdges]]) rfl ca41 (ref05_Valid.con k a1 t7008 ht7008) rfl) <| WL.p rfl rfl rfl (.s 19 rfl .nil) (q_assign rfl) <| WL.nil <| QN.then_ <| W.seq <| W.region <| WL.p rfl rfl rfl (.s 8 rfl .nil) (q_move rfl) <| WL.p rfl rfl rfl (.s 20 rfl (.k .nil)) (q_int rfl rfl) <| WL.nil <| QN.then_ ?_
  refine W.condP h rfl (fun hb7009 h => ?_) (fun hb7009 h => ?_)
  ·refine W.seq <| W.region <| WL.p rfl rfl rfl (.s 8 rfl .nil) (q_move rfl) <| WL.p rfl rfl rfl (.s 22 rfl .nil) (q_assign rfl) <| WL.nil <| QN.weaken (env' := [(6, _)]) (.one rfl (.nil _)) <| QN.then_ <| W.ret <| QR.then_ ?_
   cases h
   exact QR.f1 rfl rfl (.t rfl) (.id _)
  ·refine W.skip <| QN.weaken (env' := [(5, _), (4, _), (3, _)]) (.one rfl (.one rfl (.one rfl (.nil _)))) <| QN.then_ <| W.seq <| W.seq ?_
   refine W.jn1 (Γ := Unit) (fun (_ : Unit) (x38 : Bool) => [(3, PtrA [SlcA kInt a0.fNodes, SlcA kEdge a0.fEdges]), (4, PtrA [SlcA kInt a1.fNodes, SlcA kEdge a1.fEdges]), (5, PtrA [SlcA kInt a2.fNodes, SlcA kInt a2.fEdges]), (38, EqA (.bool x38))]) (fun (_ : Unit) (_ : Bool) => []) h (fun _ x38 h => ?_) (fun j7012 Kj7012 h => ?_)
   ·refine QN.then_ ?_
    refine W.condP h rfl (fun hb7013 h => ?_) (fun hb7013 h => ?_)
    ·refine W.seq <| W.region <| WL.p rfl rfl rfl (.k .nil) (q_assign rfl) <| WL.nil <| QN.then_ <| W.ret <| QR.then_ ?_
     cases h
     exact QR.f1 rfl rfl (.t rfl) (.id _)
    ·refine W.skip <| QN.then_ <| W.seq <| W.seq <| W.region <| WL.p rfl rfl rfl (.k .nil) (q_assign rfl) <| WL.nil <| QN.then_ <| W.block ?_
     refine W.loop1 (Γ := Unit) (fun (_ : Unit) (x9 : Int) => [(3, PtrA [SlcA kInt a0.fNodes, SlcA kEdge a0.fEdges]), (4, PtrA [SlcA kInt a1.fNodes, SlcA kEdge a1.fEdges]), (5, PtrA [SlcA kInt a2.fNodes, SlcA kInt a2.fEdges]), (9, EqA (.int .i64 x9))]) (fun (_ : Unit) (_ : Int) => []) h () (.one rfl (.one rfl (.one rfl (.one rfl (.nil _))))) rfl (fun rec0 K0 next0 _ x9 h => ?_)
     unfold ref06_Valid.b0 at h
     refine W.seq <| W.seq <| W.region <| WL.p rfl rfl rfl (.s 9 rfl .nil) (q_move rfl) <| WL.p rfl rfl rfl (.s 3 rfl .nil) (q_field rfl fo29_0 rfl) <| WL.p rfl rfl rfl (.s 40 rfl .nil) (q_load rfl sh26) <| WL.p rfl rfl rfl (.s 41 rfl .nil) (q_len rfl elS26) <| WL.p rfl rfl rfl (.s 39 rfl (.s 42 rfl .nil)) (q_int rfl rfl) <| WL.nil <| QN.then_ ?_
     refine W.condP h rfl (fun hb7326 h => ?_) (fun hb7326 h => ?_)
     ·refine W.skip <| QN.then_ <| W.seq <| W.block <| W.seq <| W.seq ?_
      refine W.jn1 (Γ := Unit) (fun (_ : Unit) (x62 : Bool) => [(3, PtrA [SlcA kInt a0.fNodes, SlcA kEdge a0.fEdges]), (4, PtrA [SlcA kInt a1.fNodes, SlcA kEdge a1.fEdges]), (5, PtrA [SlcA kInt a2.fNodes, SlcA kInt a2.fEdges]), (9, EqA (.int .i64 x9)), (62, EqA (.bool x62))]) (fun (_ : Unit) (_ : Bool) => []) h (fun _ x62 h => ?_) (fun j7334 Kj7334 h => ?_)
      ·refine QN.then_ ?_
       refine W.condP h rfl (fun hb7335 h => ?_) (fun hb7335 h => ?_)
       ·refine W.seq <| W.region <| WL.p rfl rfl rfl (.k .nil) (q_assign rfl) <| WL.nil <| QN.then_ <| W.ret <| QR.then_ <| QR.block <| QR.then_ <| QR.then_ <| QR.block <| QR.then_ ?_
        cases h
        exact QR.f1 rfl rfl (.t rfl) (.id _)
       ·refine W.skip <| QN.then_ <| W.seq <| W.drawK [(0, false), (1, false), (2, false), (3, false), (4, false), (5, false), (6, false), (7, false), (8, false), (9, false), (10, false), (11, false), (12, false), (13, false), (14, false)] [] [[], [0], [], [2], [], [2, 3, 4], [2, 3, 4, 5], [0, 1, 2, 3, 4, 5, 6], [0, 1, 2, 3, 4, 5, 6, 7], [], [9], [], [9, 10, 11], [9, 10, 11, 12], [0, 1, 2, 3, 4, 5, 6, 7, 8, 9, 10, 11, 12, 13]] mx (by kernel_rfl) <| DK.cons rfl rfl (.p rfl (.s 4 rfl .nil) rfl (q_field rfl fo29_0 rfl)) <| DK.cons rfl rfl (.p rfl (.s 63 rfl .nil) rfl (q_load rfl sh26)) <| DK.cons rfl rfl (.p rfl (.s 5 rfl .nil) rfl (q_field rfl fo33_0 rfl)) <| DK.cons rfl rfl (.p rfl (.s 65 rfl .nil) rfl (q_load rfl sh26)) <| DK.cons rfl rfl (.p rfl (.s 9 rfl .nil) rfl (q_move rfl)) ?_
        obtain ⟨c7342, h⟩ := ite_n h
        refine DK.cons rfl rfl (.p rfl (.s 66 rfl (.s 67 rfl .nil)) rfl (q_index rfl el26 rfl c7342.1 c7342.2)) <| DK.cons rfl rfl (.p rfl (.s 68 rfl .nil) rfl (q_load rfl sh3)) ?_
        obtain ⟨c7343, h⟩ := ite_n h
        refine DK.cons rfl rfl (.p rfl (.s 64 rfl (.s 69 rfl .nil)) rfl (q_index rfl el26 rfl c7343.1 c7343.2)) <| DK.cons rfl rfl (.p rfl (.s 70 rfl .nil) rfl (q_load rfl sh3)) <| DK.cons rfl rfl (.p rfl (.s 3 rfl .nil) rfl (q_field rfl fo29_0 rfl)) <| DK.cons rfl rfl (.p rfl (.s 72 rfl .nil) rfl (q_load rfl sh26)) <| DK.cons rfl rfl (.p rfl (.s 9 rfl .nil) rfl (q_move rfl)) ?_
        obtain ⟨c7344, h⟩ := ite_n h
        refine DK.cons rfl rfl (.p rfl (.s 73 rfl (.s 74 rfl .nil)) rfl (q_index rfl el26 rfl c7344.1 c7344.2)) <| DK.cons rfl rfl (.p rfl (.s 75 rfl .nil) rfl (q_load rfl sh3)) <| DK.cons rfl rfl (.p rfl (.s 71 rfl (.s 76 rfl .nil)) rfl (q_int rfl rfl)) <| DK.nil <| CSteps.nil <| QN.weaken (env' := [(77, _), (9, _), (5, _), (4, _), (3, _)]) (.one rfl (.one rfl (.one rfl (.one rfl (.one rfl (.nil _)))))) <| QN.then_ ?_
        refine W.condP h rfl (fun hb7345 h => ?_) (fun hb7345 h => ?_)
        ·refine W.seq <| W.region <| WL.p rfl rfl rfl (.k .nil) (q_assign rfl) <| WL.nil <| QN.then_ <| W.ret <| QR.block <| QR.then_ <| QR.then_ <| QR.block <| QR.then_ ?_
         cases h
         exact QR.f1 rfl rfl (.t rfl) (.id _)
        ·refine W.skip <| QN.block <| QN.then_ <| W.region <| WL.p rfl rfl rfl (.s 9 rfl .nil) (q_move rfl) ?_
         obtain ⟨c7346, h⟩ := ite_n h
         refine WL.p rfl rfl rfl (.s 44 rfl (.k .nil)) (q_addR rfl c7346) <| WL.p rfl rfl rfl (.s 45 rfl .nil) (q_assign rfl) <| WL.nil ?_
         exact next0 () (x9 + 1) _ h (.one rfl (.one rfl (.one rfl (.one rfl (.nil _)))))
      ·refine W.drawK [(0, false), (1, false), (2, false), (3, false), (4, false), (5, false), (6, false), (7, false), (8, false), (9, false), (10, false), (11, false), (12, false), (13, false), (14, false), (15, false), (16, false)] [] [[], [0], [], [0, 1, 2], [0, 1, 2, 3], [0, 1, 2, 3, 4], [0, 1, 2, 3, 4, 5], [0, 1, 2, 3, 4, 5, 6], [0, 1, 2, 3, 4, 5, 6, 7], [0, 1, 2, 3, 4, 5, 6], [0, 1, 2, 3, 4, 5, 6, 7, 8, 9], [0, 1, 2, 3, 4, 5, 6, 7, 8, 9, 10], [0, 1, 2, 3, 4, 5, 6], [0, 1, 2, 3, 4, 5, 6, 12], [0, 1, 2, 3, 4, 5, 6, 12, 13], [0, 1, 2, 3, 4, 5, 6, 7, 8, 9, 10, 11, 12, 13, 14], [0, 1, 2, 3, 4, 5, 6, 7, 8, 9, 10, 11, 12, 13, 14, 15]] mx (by kernel_rfl) <| DK.cons rfl rfl (.p rfl (.s 5 rfl .nil) rfl (q_field rfl fo33_0 rfl)) <| DK.cons rfl rfl (.p rfl (.s 46 rfl .nil) rfl (q_load rfl sh26)) <| DK.cons rfl rfl (.p rfl (.s 9 rfl .nil) rfl (q_move rfl)) ?_
       obtain ⟨c7347, h⟩ := ite_n h
       refine DK.cons rfl rfl (.p rfl (.s 47 rfl (.s 48 rfl .nil)) rfl (q_index rfl el26 rfl c7347.1 c7347.2)) <| DK.cons rfl rfl (.p rfl (.s 49 rfl .nil) rfl (q_load rfl sh3)) <| DK.cons rfl rfl (.p rfl (.s 50 rfl (.k .nil)) rfl (q_int rfl rfl)) <| DK.cons rfl rfl (.p rfl (.s 51 rfl .nil) rfl (q_move rfl)) ?_
       rcases bif_s h with ⟨hb7348, h⟩ | ⟨hb7348, h⟩
       ·refine DK.cons rfl rfl (.off rfl rfl rfl hb7348) <| DK.cons rfl rfl (.off rfl rfl rfl hb7348) <| DK.cons rfl rfl (.off rfl rfl rfl hb7348) <| DK.cons rfl rfl (.off rfl rfl rfl hb7348) <| DK.cons rfl rfl (.off rfl rfl rfl hb7348) <| DK.cons rfl rfl (.off rfl rfl rfl hb7348) <| DK.cons rfl rfl (.off rfl rfl rfl hb7348) <| DK.cons rfl rfl (.off rfl rfl rfl hb7348) <| DK.cons rfl rfl (.off rfl rfl rfl hb7348) <| DK.cons rfl rfl (.p rfl (.s 52 rfl (.k .nil)) rfl (q_pickT rfl hb7348)) <| DK.nil <| CSteps.nil ?_
        exact QN.weaken (.one rfl (.one rfl (.one rfl (.one rfl (.one rfl (.nil _)))))) (Kj7334 () true h)
       ·refine DK.cons rfl rfl (.gp rfl rfl rfl hb7348 (.s 5 rfl .nil) rfl (q_field rfl fo33_0 rfl)) <| DK.cons rfl rfl (.gp rfl rfl rfl hb7348 (.s 53 rfl .nil) rfl (q_load rfl sh26)) <| DK.cons rfl rfl (.gp rfl rfl rfl hb7348 (.s 9 rfl .nil) rfl (q_move rfl)) ?_
        obtain ⟨c7349, h⟩ := ite_n h
        refine DK.cons rfl rfl (.gp rfl rfl rfl hb7348 (.s 54 rfl (.s 55 rfl .nil)) rfl (q_index rfl el26 rfl c7349.1 c7349.2)) <| DK.cons rfl rfl (.gp rfl rfl rfl hb7348 (.s 56 rfl .nil) rfl (q_load rfl sh3)) <| DK.cons rfl rfl (.gp rfl rfl rfl hb7348 (.s 4 rfl .nil) rfl (q_field rfl fo29_0 rfl)) <| DK.cons rfl rfl (.gp rfl rfl rfl hb7348 (.s 58 rfl .nil) rfl (q_load rfl sh26)) <| DK.cons rfl rfl (.gp rfl rfl rfl hb7348 (.s 59 rfl .nil) rfl (q_len rfl elS26)) <| DK.cons rfl rfl (.gp rfl rfl rfl hb7348 (.s 57 rfl (.s 60 rfl .nil)) rfl (q_int rfl rfl)) <| DK.cons rfl rfl (.p rfl (.s 52 rfl (.s 61 rfl .nil)) rfl (q_pickF rfl hb7348)) <| DK.nil <| CSteps.nil ?_
        exact QN.weaken (.one rfl (.one rfl (.one rfl (.one rfl (.one rfl (.nil _)))))) (Kj7334 () (decide ((rd a2.fNodes x9) ≥ (a1.fNodes.length : Int))) h)
     ·refine W.exit <| QX.then_ <| QX.then_ <| QX.here <| QN.then_ <| W.seq <| W.seq <| W.region <| WL.p rfl rfl rfl (.k .nil) (q_assign rfl) <| WL.nil <| QN.then_ <| W.block ?_
      refine W.loop1 (Γ := Unit) (fun (_ : Unit) (x10 : Int) => [(3, PtrA [SlcA kInt a0.fNodes, SlcA kEdge a0.fEdges]), (4, PtrA [SlcA kInt a1.fNodes, SlcA kEdge a1.fEdges]), (5, PtrA [SlcA kInt a2.fNodes, SlcA kInt a2.fEdges]), (10, EqA (.int .i64 x10))]) (fun (_ : Unit) (_ : Int) => []) h () (.one rfl (.one rfl (.one rfl (.one rfl (.nil _))))) rfl (fun rec1 K1 next1 _ x10 h => ?_)
      unfold ref06_Valid.b1 at h
      refine W.seq <| W.seq <| W.region <| WL.p rfl rfl rfl (.s 10 rfl .nil) (q_move rfl) <| WL.p rfl rfl rfl (.s 3 rfl .nil) (q_field rfl fo29_1 rfl) <| WL.p rfl rfl rfl (.s 79 rfl .nil) (q_load rfl sh27) <| WL.p rfl rfl rfl (.s 80 rfl .nil) (q_len rfl elS27) <| WL.p rfl rfl rfl (.s 78 rfl (.s 81 rfl .nil)) (q_int rfl rfl) <| WL.nil <| QN.then_ ?_
      refine W.condP h rfl (fun hb7438 h => ?_) (fun hb7438 h => ?_)
      ·refine W.skip <| QN.then_ <| W.seq <| W.block <| W.seq <| W.seq ?_
       refine W.jn1 (Γ := Unit) (fun (_ : Unit) (x101 : Bool) => [(3, PtrA [SlcA kInt a0.fNodes, SlcA kEdge a0.fEdges]), (4, PtrA [SlcA kInt a1.fNodes, SlcA kEdge a1.fEdges]), (5, PtrA [SlcA kInt a2.fNodes, SlcA kInt a2.fEdges]), (10, EqA (.int .i64 x10)), (101, EqA (.bool x101))]) (fun (_ : Unit) (_ : Bool) => []) h (fun _ x101 h => ?_) (fun j7446 Kj7446 h => ?_)
       ·refine QN.then_ ?_
        refine W.condP h rfl (fun hb7447 h => ?_) (fun hb7447 h => ?_)
        ·refine W.seq <| W.region <| WL.p rfl rfl rfl (.k .nil) (q_assign rfl) <| WL.nil <| QN.then_ <| W.ret <| QR.then_ <| QR.block <| QR.then_ <| QR.then_ <| QR.block <| QR.then_ ?_
         cases h
         exact QR.f1 rfl rfl (.t rfl) (.id _)
        ·refine W.skip <| QN.then_ <| W.seq ?_
         refine W.jn0 (Γ := Unit) (fun (_ : Unit) => [(3, PtrA [SlcA kInt a0.fNodes, SlcA kEdge a0.fEdges]), (4, PtrA [SlcA kInt a1.fNodes, SlcA kEdge a1.fEdges]), (5, PtrA [SlcA kInt a2.fNodes, SlcA kInt a2.fEdges]), (10, EqA (.int .i64 x10)), (11, PtrA [EqA (.int .i64 ((rd a0.fEdges x10).fType)), EqA (.int .i64 ((rd a0.fEdges x10).fFrom)), EqA (.int .i64 ((rd a0.fEdges x10).fTo))]), (12, PtrA [EqA (.int .i64 ((rd a1.fEdges (rd a2.fEdges x10)).fType)), EqA (.int .i64 ((rd a1.fEdges (rd a2.fEdges x10)).fFrom)), EqA (.int .i64 ((rd a1.fEdges (rd a2.fEdges x10)).fTo))])]) (fun (_ : Unit) => []) h (fun _ h => ?_) (fun j7459 Kj7459 h => ?_)
         ·refine QN.then_ <| W.seq <| W.seq <| W.region <| WL.p rfl rfl rfl (.s 11 rfl .nil) (q_field rfl fo77_0 rfl) <| WL.p rfl rfl rfl (.s 116 rfl .nil) (q_load rfl sh3) <| WL.p rfl rfl rfl (.s 12 rfl .nil) (q_field rfl fo77_0 rfl) <| WL.p rfl rfl rfl (.s 118 rfl .nil) (q_load rfl sh3) <| WL.p rfl rfl rfl (.s 117 rfl (.s 119 rfl .nil)) (q_int rfl rfl) <| WL.nil <| QN.then_ ?_
          refine W.condP h rfl (fun hb7460 h => ?_) (fun hb7460 h => ?_)
          ·refine W.seq <| W.region <| WL.p rfl rfl rfl (.k .nil) (q_assign rfl) <| WL.nil <| QN.weaken (env' := [(6, _)]) (.one rfl (.nil _)) <| QN.then_ <| W.ret <| QR.then_ <| QR.block <| QR.then_ <| QR.then_ <| QR.block <| QR.then_ ?_
           cases h
           exact QR.f1 rfl rfl (.t rfl) (.id _)
          ·refine W.skip <| QN.then_ <| W.seq ?_
           refine W.jn1 (Γ := Unit) (fun (_ : Unit) (x140 : Bool) => [(3, PtrA [SlcA kInt a0.fNodes, SlcA kEdge a0.fEdges]), (4, PtrA [SlcA kInt a1.fNodes, SlcA kEdge a1.fEdges]), (5, PtrA [SlcA kInt a2.fNodes, SlcA kInt a2.fEdges]), (10, EqA (.int .i64 x10)), (140, EqA (.bool x140))]) (fun (_ : Unit) (_ : Bool) => []) h (fun _ x140 h => ?_) (fun j7468 Kj7468 h => ?_)
           ·refine QN.then_ ?_
            refine W.condP h rfl (fun hb7469 h => ?_) (fun hb7469 h => ?_)
            ·refine W.seq <| W.region <| WL.p rfl rfl rfl (.k .nil) (q_assign rfl) <| WL.nil <| QN.then_ <| W.ret <| QR.block <| QR.then_ <| QR.then_ <| QR.block <| QR.then_ ?_
             cases h
             exact QR.f1 rfl rfl (.t rfl) (.id _)
            ·refine W.skip <| QN.block <| QN.then_ <| W.region <| WL.p rfl rfl rfl (.s 10 rfl .nil) (q_move rfl) ?_
             obtain ⟨c7470, h⟩ := ite_n h
             refine WL.p rfl rfl rfl (.s 83 rfl (.k .nil)) (q_addR rfl c7470) <| WL.p rfl rfl rfl (.s 84 rfl .nil) (q_assign rfl) <| WL.nil ?_
             exact next1 () (x10 + 1) _ h (.one rfl (.one rfl (.one rfl (.one rfl (.nil _)))))
           ·refine W.drawK [(0, false), (1, false), (2, false), (3, false), (4, false), (5, false), (6, false), (7, false), (8, false), (9, false), (10, false), (11, false), (12, false), (13, false), (14, false), (15, false), (16, false), (17, false), (18, false), (19, false)] [] [[], [0], [], [2], [0, 1, 2, 3], [0, 1, 2, 3, 4], [], [6], [0, 1, 2, 3, 4, 5, 6, 7], [0, 1, 2, 3, 4, 5, 6, 7, 8], [0, 1, 2, 3, 4, 5, 6, 7, 8, 9], [0, 1, 2, 3, 4, 5, 6, 7, 8, 9, 10], [0, 1, 2, 3, 4, 5, 6, 7, 8, 9], [0, 1, 2, 3, 4, 5, 6, 7, 8, 9, 12], [0, 1, 2, 3, 4, 5, 6, 7, 8, 9, 10, 11, 12, 13], [0, 1, 2, 3, 4, 5, 6, 7, 8, 9, 10, 11, 12, 13, 14], [0, 1, 2, 3, 4, 5, 6, 7, 8, 9], [0, 1, 2, 3, 4, 5, 6, 7, 8, 9, 16], [0, 1, 2, 3, 4, 5, 6, 7, 8, 9, 10, 11, 12, 13, 14, 15, 16, 17], [0, 1, 2, 3, 4, 5, 6, 7, 8, 9, 10, 11, 12, 13, 14, 15, 16, 17, 18]] mx (by kernel_rfl) <| DK.cons rfl rfl (.p rfl (.s 5 rfl .nil) rfl (q_field rfl fo33_0 rfl)) <| DK.cons rfl rfl (.p rfl (.s 121 rfl .nil) rfl (q_load rfl sh26)) <| DK.cons rfl rfl (.p rfl (.s 11 rfl .nil) rfl (q_field rfl fo77_1 rfl)) <| DK.cons rfl rfl (.p rfl (.s 123 rfl .nil) rfl (q_load rfl sh3)) ?_
            obtain ⟨c7471, h⟩ := ite_n h
            refine DK.cons rfl rfl (.p rfl (.s 122 rfl (.s 124 rfl .nil)) rfl (q_index rfl el26 rfl c7471.1 c7471.2)) <| DK.cons rfl rfl (.p rfl (.s 125 rfl .nil) rfl (q_load rfl sh3)) <| DK.cons rfl rfl (.p rfl (.s 12 rfl .nil) rfl (q_field rfl fo77_1 rfl)) <| DK.cons rfl rfl (.p rfl (.s 127 rfl .nil) rfl (q_load rfl sh3)) <| DK.cons rfl rfl (.p rfl (.s 126 rfl (.s 128 rfl .nil)) rfl (q_int rfl rfl)) <| DK.cons rfl rfl (.p rfl (.s 129 rfl .nil) rfl (q_move rfl)) ?_
            rcases bif_s h with ⟨hb7472, h⟩ | ⟨hb7472, h⟩
            ·refine DK.cons rfl rfl (.off rfl rfl rfl hb7472) <| DK.cons rfl rfl (.off rfl rfl rfl hb7472) <| DK.cons rfl rfl (.off rfl rfl rfl hb7472) <| DK.cons rfl rfl (.off rfl rfl rfl hb7472) <| DK.cons rfl rfl (.off rfl rfl rfl hb7472) <| DK.cons rfl rfl (.off rfl rfl rfl hb7472) <| DK.cons rfl rfl (.off rfl rfl rfl hb7472) <| DK.cons rfl rfl (.off rfl rfl rfl hb7472) <| DK.cons rfl rfl (.off rfl rfl rfl hb7472) <| DK.cons rfl rfl (.p rfl (.s 130 rfl (.k .nil)) rfl (q_pickT rfl hb7472)) <| DK.nil <| CSteps.nil ?_
             exact QN.weaken (.one rfl (.one rfl (.one rfl (.one rfl (.one rfl (.nil _)))))) (Kj7468 () true h)
            ·refine DK.cons rfl rfl (.gp rfl rfl rfl hb7472 (.s 5 rfl .nil) rfl (q_field rfl fo33_0 rfl)) <| DK.cons rfl rfl (.gp rfl rfl rfl hb7472 (.s 131 rfl .nil) rfl (q_load rfl sh26)) <| DK.cons rfl rfl (.gp rfl rfl rfl hb7472 (.s 11 rfl .nil) rfl (q_field rfl fo77_2 rfl)) <| DK.cons rfl rfl (.gp rfl rfl rfl hb7472 (.s 133 rfl .nil) rfl (q_load rfl sh3)) ?_
             obtain ⟨c7473, h⟩ := ite_n h
             refine DK.cons rfl rfl (.gp rfl rfl rfl hb7472 (.s 132 rfl (.s 134 rfl .nil)) rfl (q_index rfl el26 rfl c7473.1 c7473.2)) <| DK.cons rfl rfl (.gp rfl rfl rfl hb7472 (.s 135 rfl .nil) rfl (q_load rfl sh3)) <| DK.cons rfl rfl (.gp rfl rfl rfl hb7472 (.s 12 rfl .nil) rfl (q_field rfl fo77_2 rfl)) <| DK.cons rfl rfl (.gp rfl rfl rfl hb7472 (.s 137 rfl .nil) rfl (q_load rfl sh3)) <| DK.cons rfl rfl (.gp rfl rfl rfl hb7472 (.s 136 rfl (.s 138 rfl .nil)) rfl (q_int rfl rfl)) <| DK.cons rfl rfl (.p rfl (.s 130 rfl (.s 139 rfl .nil)) rfl (q_pickF rfl hb7472)) <| DK.nil <| CSteps.nil ?_
             exact QN.weaken (.one rfl (.one rfl (.one rfl (.one rfl (.one rfl (.nil _)))))) (Kj7468 () ((rd a2.fNodes ((rd a0.fEdges x10).fTo)) != (rd a1.fEdges (rd a2.fEdges x10)).fTo) h)
         ·refine W.drawKT [(0, false), (1, false), (2, false), (3, false), (4, false), (5, false), (6, false), (7, false), (8, false), (9, false), (10, false), (11, false), (12, false), (13, false)] [14, 15, 16, 17] [14, 15] 4 [[], [0], [], [0, 1, 2], [0, 1, 2, 3], [], [5], [], [7], [], [7, 8, 9], [7, 8, 9, 10], [5, 6, 7, 8, 9, 10, 11], [5, 6, 7, 8, 9, 10, 11, 12], [], [], [0, 1, 2, 3, 4, 14, 15], [0, 1, 2, 3, 4, 5, 6, 7, 8, 9, 10, 11, 12, 13, 14, 15, 16]] mx (by kernel_rfl) <| DKT.cons rfl rfl (.p rfl (.s 3 rfl .nil) rfl (q_field rfl fo29_1 rfl)) <| DKT.cons rfl rfl (.p rfl (.s 102 rfl .nil) rfl (q_load rfl sh27)) <| DKT.cons rfl rfl (.p rfl (.s 10 rfl .nil) rfl (q_move rfl)) ?_
          obtain ⟨c7474, h⟩ := ite_n h
          refine DKT.cons rfl rfl (.p rfl (.s 103 rfl (.s 104 rfl .nil)) rfl (q_index rfl el27 rfl c7474.1 c7474.2)) <| DKT.cons rfl rfl (.p rfl (.s 105 rfl .nil) rfl (q_loadS rfl sh77 (leB rfl) rfl)) <| DKT.cons rfl rfl (.p rfl (.s 4 rfl .nil) rfl (q_field rfl fo29_1 rfl)) <| DKT.cons rfl rfl (.p rfl (.s 107 rfl .nil) rfl (q_load rfl sh27)) <| DKT.cons rfl rfl (.p rfl (.s 5 rfl .nil) rfl (q_field rfl fo33_1 rfl)) <| DKT.cons rfl rfl (.p rfl (.s 109 rfl .nil) rfl (q_load rfl sh26)) <| DKT.cons rfl rfl (.p rfl (.s 10 rfl .nil) rfl (q_move rfl)) ?_
          obtain ⟨c7475, h⟩ := ite_n h
          refine DKT.cons rfl rfl (.p rfl (.s 110 rfl (.s 111 rfl .nil)) rfl (q_index rfl el26 rfl c7475.1 c7475.2)) <| DKT.cons rfl rfl (.p rfl (.s 112 rfl .nil) rfl (q_load rfl sh3)) ?_
          obtain ⟨c7476, h⟩ := ite_n h
          refine DKT.cons rfl rfl (.p rfl (.s 108 rfl (.s 113 rfl .nil)) rfl (q_index rfl el27 rfl c7476.1 c7476.2)) <| DKT.cons rfl rfl (.p rfl (.s 114 rfl .nil) rfl (q_loadS rfl sh77 (leB rfl) rfl)) <| DKT.nil <| CT.step ?_
          refine CTc.yes rfl ?_ ?_
          ·refine CStep1.w [] (fun _ => rfl) rfl rfl rfl rfl .nil rfl (w_alloc rfl z77 (l := [EqA (.int .i64 0), EqA (.int .i64 0), EqA (.int .i64 0)]) rfl) ?_
           rintro _ _ ⟨b7477, rfl, rfl⟩
           refine CT.list (l' := [15, 16, 17]) rfl <| CT.step ?_
           refine CTc.yes rfl ?_ ?_
           ·refine CStep1.w [] (fun _ => rfl) rfl rfl rfl rfl .nil rfl (w_alloc rfl z77 (l := [EqA (.int .i64 0), EqA (.int .i64 0), EqA (.int .i64 0)]) rfl) ?_
            rintro _ _ ⟨b7478, rfl, rfl⟩
            refine CT.list (l' := [16, 17]) rfl <| CT.step ?_
            refine CTc.yes rfl ?_ ?_
            ·refine CStep1.w0 [1] (fun h => absurd h (by decide)) rfl rfl rfl (.s 11 rfl (.s 106 rfl .nil)) rfl (w_store (L := [EqA (.int .i64 ((rd a0.fEdges x10).fType)), EqA (.int .i64 ((rd a0.fEdges x10).fFrom)), EqA (.int .i64 ((rd a0.fEdges x10).fTo))]) rfl sh77 (CellsOf.agg _) rfl rfl (leB rfl) rfl) ?_
             rintro _ _ ⟨rfl, rfl⟩
             refine CT.list (l' := [17]) rfl <| CT.step ?_
             refine CTc.yes rfl ?_ ?_
             ·refine CStep1.w0 [1] (fun h => absurd h (by decide)) rfl rfl rfl (.s 12 rfl (.s 115 rfl .nil)) rfl (w_store (L := [EqA (.int .i64 ((rd a1.fEdges (rd a2.fEdges x10)).fType)), EqA (.int .i64 ((rd a1.fEdges (rd a2.fEdges x10)).fFrom)), EqA (.int .i64 ((rd a1.fEdges (rd a2.fEdges x10)).fTo))]) rfl sh77 (CellsOf.agg _) rfl rfl (leB rfl) rfl) ?_
              rintro _ _ ⟨rfl, rfl⟩
              refine CT.list (l' := []) rfl <| CT.nil <| QN.to (StTo.still [1] 11 rfl rfl) <| QN.to (StTo.still [0] 12 rfl rfl) ?_
              exact QN.weaken (.one rfl (.one rfl (.one rfl (.one rfl (.one rfl (.one rfl (.nil _))))))) (Kj7459 () h)
             exact CTc.end
            refine CTc.no rfl ?_
            exact CTc.end
           refine CTc.no rfl <| CTc.no rfl ?_
           exact CTc.end
          refine CTc.yes rfl ?_ ?_
          ·refine CStep1.w [] (fun _ => rfl) rfl rfl rfl rfl .nil rfl (w_alloc rfl z77 (l := [EqA (.int .i64 0), EqA (.int .i64 0), EqA (.int .i64 0)]) rfl) ?_
           rintro _ _ ⟨b7478, rfl, rfl⟩
           refine CT.list (l' := [14, 16, 17]) rfl <| CT.step ?_
           refine CTc.yes rfl ?_ ?_
           ·refine CStep1.w [] (fun _ => rfl) rfl rfl rfl rfl .nil rfl (w_alloc rfl z77 (l := [EqA (.int .i64 0), EqA (.int .i64 0), EqA (.int .i64 0)]) rfl) ?_
            rintro _ _ ⟨b7477, rfl, rfl⟩
            refine CT.list (l' := [16, 17]) rfl <| CT.step ?_
            refine CTc.yes rfl ?_ ?_
            ·refine CStep1.w0 [0] (fun h => absurd h (by decide)) rfl rfl rfl (.s 11 rfl (.s 106 rfl .nil)) rfl (w_store (L := [EqA (.int .i64 ((rd a0.fEdges x10).fType)), EqA (.int .i64 ((rd a0.fEdges x10).fFrom)), EqA (.int .i64 ((rd a0.fEdges x10).fTo))]) rfl sh77 (CellsOf.agg _) rfl rfl (leB rfl) rfl) ?_
             rintro _ _ ⟨rfl, rfl⟩
             refine CT.list (l' := [17]) rfl <| CT.step ?_
             refine CTc.yes rfl ?_ ?_
             ·refine CStep1.w0 [1] (fun h => absurd h (by decide)) rfl rfl rfl (.s 12 rfl (.s 115 rfl .nil)) rfl (w_store (L := [EqA (.int .i64 ((rd a1.fEdges (rd a2.fEdges x10)).fType)), EqA (.int .i64 ((rd a1.fEdges (rd a2.fEdges x10)).fFrom)), EqA (.int .i64 ((rd a1.fEdges (rd a2.fEdges x10)).fTo))]) rfl sh77 (CellsOf.agg _) rfl rfl (leB rfl) rfl) ?_
              rintro _ _ ⟨rfl, rfl⟩
              refine CT.list (l' := []) rfl <| CT.nil <| QN.to (StTo.still [1] 11 rfl rfl) <| QN.to (StTo.still [0] 12 rfl rfl) ?_
              exact QN.weaken (.one rfl (.one rfl (.one rfl (.one rfl (.one rfl (.one rfl (.nil _))))))) (Kj7459 () h)
             exact CTc.end
            refine CTc.no rfl ?_
            exact CTc.end
           refine CTc.no rfl <| CTc.no rfl ?_
           exact CTc.end
          refine CTc.no rfl <| CTc.no rfl ?_
          exact CTc.end
       ·refine W.drawK [(0, false), (1, false), (2, false), (3, false), (4, false), (5, false), (6, false), (7, false), (8, false), (9, false), (10, false), (11, false), (12, false), (13, false), (14, false), (15, false), (16, false)] [] [[], [0], [], [0, 1, 2], [0, 1, 2, 3], [0, 1, 2, 3, 4], [0, 1, 2, 3, 4, 5], [0, 1, 2, 3, 4, 5, 6], [0, 1, 2, 3, 4, 5, 6, 7], [0, 1, 2, 3, 4, 5, 6], [0, 1, 2, 3, 4, 5, 6, 7, 8, 9], [0, 1, 2, 3, 4, 5, 6, 7, 8, 9, 10], [0, 1, 2, 3, 4, 5, 6], [0, 1, 2, 3, 4, 5, 6, 12], [0, 1, 2, 3, 4, 5, 6, 12, 13], [0, 1, 2, 3, 4, 5, 6, 7, 8, 9, 10, 11, 12, 13, 14], [0, 1, 2, 3, 4, 5, 6, 7, 8, 9, 10, 11, 12, 13, 14, 15]] mx (by kernel_rfl) <| DK.cons rfl rfl (.p rfl (.s 5 rfl .nil) rfl (q_field rfl fo33_1 rfl)) <| DK.cons rfl rfl (.p rfl (.s 85 rfl .nil) rfl (q_load rfl sh26)) <| DK.cons rfl rfl (.p rfl (.s 10 rfl .nil) rfl (q_move rfl)) ?_
        obtain ⟨c7479, h⟩ := ite_n h
        refine DK.cons rfl rfl (.p rfl (.s 86 rfl (.s 87 rfl .nil)) rfl (q_index rfl el26 rfl c7479.1 c7479.2)) <| DK.cons rfl rfl (.p rfl (.s 88 rfl .nil) rfl (q_load rfl sh3)) <| DK.cons rfl rfl (.p rfl (.s 89 rfl (.k .nil)) rfl (q_int rfl rfl)) <| DK.cons rfl rfl (.p rfl (.s 90 rfl .nil) rfl (q_move rfl)) ?_
        rcases bif_s h with ⟨hb7480, h⟩ | ⟨hb7480, h⟩
        ·refine DK.cons rfl rfl (.off rfl rfl rfl hb7480) <| DK.cons rfl rfl (.off rfl rfl rfl hb7480) <| DK.cons rfl rfl (.off rfl rfl rfl hb7480) <| DK.cons rfl rfl (.off rfl rfl rfl hb7480) <| DK.cons rfl rfl (.off rfl rfl rfl hb7480) <| DK.cons rfl rfl (.off rfl rfl rfl hb7480) <| DK.cons rfl rfl (.off rfl rfl rfl hb7480) <| DK.cons rfl rfl (.off rfl rfl rfl hb7480) <| DK.cons rfl rfl (.off rfl rfl rfl hb7480) <| DK.cons rfl rfl (.p rfl (.s 91 rfl (.k .nil)) rfl (q_pickT rfl hb7480)) <| DK.nil <| CSteps.nil ?_
         exact QN.weaken (.one rfl (.one rfl (.one rfl (.one rfl (.one rfl (.nil _)))))) (Kj7446 () true h)
        ·refine DK.cons rfl rfl (.gp rfl rfl rfl hb7480 (.s 5 rfl .nil) rfl (q_field rfl fo33_1 rfl)) <| DK.cons rfl rfl (.gp rfl rfl rfl hb7480 (.s 92 rfl .nil) rfl (q_load rfl sh26)) <| DK.cons rfl rfl (.gp rfl rfl rfl hb7480 (.s 10 rfl .nil) rfl (q_move rfl)) ?_
         obtain ⟨c7481, h⟩ := ite_n h
         refine DK.cons rfl rfl (.gp rfl rfl rfl hb7480 (.s 93 rfl (.s 94 rfl .nil)) rfl (q_index rfl el26 rfl c7481.1 c7481.2)) <| DK.cons rfl rfl (.gp rfl rfl rfl hb7480 (.s 95 rfl .nil) rfl (q_load rfl sh3)) <| DK.cons rfl rfl (.gp rfl rfl rfl hb7480 (.s 4 rfl .nil) rfl (q_field rfl fo29_1 rfl)) <| DK.cons rfl rfl (.gp rfl rfl rfl hb7480 (.s 97 rfl .nil) rfl (q_load rfl sh27)) <| DK.cons rfl rfl (.gp rfl rfl rfl hb7480 (.s 98 rfl .nil) rfl (q_len rfl elS27)) <| DK.cons rfl rfl (.gp rfl rfl rfl hb7480 (.s 96 rfl (.s 99 rfl .nil)) rfl (q_int rfl rfl)) <| DK.cons rfl rfl (.p rfl (.s 91 rfl (.s 100 rfl .nil)) rfl (q_pickF rfl hb7480)) <| DK.nil <| CSteps.nil ?_
         exact QN.weaken (.one rfl (.one rfl (.one rfl (.one rfl (.one rfl (.nil _)))))) (Kj7446 () (decide ((rd a2.fEdges x10) ≥ (a1.fEdges.length : Int))) h)
      ·refine W.exit <| QX.then_ <| QX.then_ <| QX.here <| QN.weaken (env' := []) (.nil _) <| QN.then_ <| W.seq <| W.region <| WL.p rfl rfl rfl (.k .nil) (q_assign rfl) <| WL.nil <| QN.then_ <| W.ret ?_
       cases h
       exact QR.f1 rfl rfl (.t rfl) (.id _)
   ·refine W.region <| WL.p rfl rfl rfl (.s 5 rfl .nil) (q_field rfl fo33_0 rfl) <| WL.p rfl rfl rfl (.s 23 rfl .nil) (q_load rfl sh26) <| WL.p rfl rfl rfl (.s 24 rfl .nil) (q_len rfl elS26) <| WL.p rfl rfl rfl (.s 3 rfl .nil) (q_field rfl fo29_0 rfl) <| WL.p rfl rfl rfl (.s 26 rfl .nil) (q_load rfl sh26) <| WL.p rfl rfl rfl (.s 27 rfl .nil) (q_len rfl elS26) <| WL.p rfl rfl rfl (.s 25 rfl (.s 28 rfl .nil)) (q_int rfl rfl) <| WL.p rfl rfl rfl (.s 29 rfl .nil) (q_move rfl) ?_
    rcases bif_s h with ⟨hb7482, h⟩ | ⟨hb7482, h⟩
    ·refine WL.skip (Unwanted.on rfl rfl rfl hb7482) rfl rfl <| WL.skip (Unwanted.on rfl rfl rfl hb7482) rfl rfl <| WL.skip (Unwanted.on rfl rfl rfl hb7482) rfl rfl <| WL.skip (Unwanted.on rfl rfl rfl hb7482) rfl rfl <| WL.skip (Unwanted.on rfl rfl rfl hb7482) rfl rfl <| WL.skip (Unwanted.on rfl rfl rfl hb7482) rfl rfl <| WL.skip (Unwanted.on rfl rfl rfl hb7482) rfl rfl <| WL.p rfl rfl rfl (.s 30 rfl (.k .nil)) (q_pickT rfl hb7482) <| WL.nil ?_
     exact QN.weaken (.one rfl (.one rfl (.one rfl (.one rfl (.nil _))))) (Kj7012 () true h)
    ·refine WL.q (Wanted.on rfl rfl rfl hb7482) rfl rfl (.s 5 rfl .nil) (q_field rfl fo33_1 rfl).o <| WL.q (Wanted.on rfl rfl rfl hb7482) rfl rfl (.s 31 rfl .nil) (q_load rfl sh26).o <| WL.q (Wanted.on rfl rfl rfl hb7482) rfl rfl (.s 32 rfl .nil) (q_len rfl elS26).o <| WL.q (Wanted.on rfl rfl rfl hb7482) rfl rfl (.s 3 rfl .nil) (q_field rfl fo29_1 rfl).o <| WL.q (Wanted.on rfl rfl rfl hb7482) rfl rfl (.s 34 rfl .nil) (q_load rfl sh27).o <| WL.q (Wanted.on rfl rfl rfl hb7482) rfl rfl (.s 35 rfl .nil) (q_len rfl elS27).o <| WL.q (Wanted.on rfl rfl rfl hb7482) rfl rfl (.s 33 rfl (.s 36 rfl .nil)) (q_int rfl rfl).o <| WL.p rfl rfl rfl (.s 30 rfl (.s 37 rfl .nil)) (q_pickF rfl hb7482) <| WL.nil ?_
     exact QN.weaken (.one rfl (.one rfl (.one rfl (.one rfl (.nil _))))) (Kj7012 () ((a2.fEdges.length : Int) != (a0.fEdges.length : Int)) h)
theorem law17_SearchInstance.con (k : Nat) (a0 : Case) (a1 : Morphism) (r : Bool) (h : law17_SearchInstance k a0 a1 = some r) : Con Tryz.prog 3 [] [AggA [SlcA kNodeType a0.fT.fNodes, SlcA kEdgeType a0.fT.fEdges, SlcA kInt a0.fP.fNodes, SlcA kEdge a0.fP.fEdges, SlcA kInt a0.fG.fNodes, SlcA kEdge a0.fG.fEdges], AggA [SlcA kInt a1.fNodes, SlcA kInt a1.fEdges]] (RA (EqA (.bool r))) := by
 unfold law17_SearchInstance at h
 refine Con.of (N := 76) Tryz.func3 rfl rfl rfl fun w0_ fg_ => W.seq <| W.region <| WL.p rfl rfl rfl (.s 0 rfl .nil) (q_box rfl (CellsOf.agg _)) <| WL.p rfl rfl rfl (.s 1 rfl .nil) (q_box rfl (CellsOf.agg _)) <| WL.p rfl rfl rfl (.k .nil) (q_assign rfl) <| WL.nil <| QN.then_ <| W.seq <| W.seq ?_
 refine W.jn1 (Γ := Unit) (fun (_ : Unit) (x32 : Bool) => [(2, PtrA [SlcA kNodeType a0.fT.fNodes, SlcA kEdgeType a0.fT.fEdges, SlcA kInt a0.fP.fNodes, SlcA kEdge a0.fP.fEdges, SlcA kInt a0.fG.fNodes, SlcA kEdge a0.fG.fEdges]), (3, PtrA [SlcA kInt a1.fNodes, SlcA kInt a1.fEdges]), (32, EqA (.bool x32))]) (fun (_ : Unit) (_ : Bool) => []) h (fun _ x32 h => ?_) (fun j7489 Kj7489 h => ?_)
 ·refine QN.then_ ?_
  refine W.condP h rfl (fun hb7490 h => ?_) (fun hb7490 h => ?_)
  ·refine W.seq <| W.region ?_
   obtain ⟨t7491, ht7491, h⟩ := bind_s h
   refine WL.p rfl rfl rfl .nil (q_call (f := 9) (A := EqA (.bool t7491)) (xs := []) («as» := []) rfl ca9 (law17_awake.con k  t7491 ht7491) rfl) <| WL.p rfl rfl rfl (.s 33 rfl .nil) (q_assign rfl) <| WL.nil <| QN.then_ <| W.ret <| QR.then_ ?_
   cases h
   exact QR.f1 rfl rfl (.t rfl) (.id _)
  ·refine W.skip <| QN.then_ <| W.seq <| W.region <| WL.p rfl rfl rfl (.s 2 rfl .nil) (q_field rfl fo31_0 rfl) <| WL.p rfl rfl rfl (.s 35 rfl .nil) (q_loadS rfl sh25 (leB rfl) rfl) <| WL.p rfl rfl rfl (.s 2 rfl .nil) (q_field rfl fo31_1 rfl) <| WL.p rfl rfl rfl (.s 37 rfl .nil) (q_loadS rfl sh29 (leB rfl) rfl) <| WL.p rfl rfl rfl (.s 2 rfl .nil) (q_field rfl fo31_2 rfl) <| WL.p rfl rfl rfl (.s 39 rfl .nil) (q_loadS rfl sh29 (leB rfl) rfl) <| WL.p rfl rfl rfl (.s 3 rfl .nil) (q_loadS rfl sh33 (leB rfl) rfl) ?_
   obtain ⟨t7492, ht7492, h⟩ := bind_s h
   refine WL.p rfl rfl rfl (.s 36 rfl (.s 38 rfl (.s 40 rfl (.s 41 rfl .nil)))) (q_call (f := 11) (A := TupA [AggA [SlcA kInt t7492.1.fNodes, SlcA kEdge t7492.1.fEdges], EqA (.int .i64 t7492.2)]) (xs := [.tmp 36, .tmp 38, .tmp 40, .tmp 41]) («as» := [AggA [SlcA kNodeType a0.fT.fNodes, SlcA kEdgeType a0.fT.fEdges], AggA [SlcA kInt a0.fP.fNodes, SlcA kEdge a0.fP.fEdges], AggA [SlcA kInt a0.fG.fNodes, SlcA kEdge a0.fG.fEdges], AggA [SlcA kInt a1.fNodes, SlcA kInt a1.fEdges]]) rfl ca11 (search_Instance.con k a0.fT a0.fP a0.fG a1 t7492 ht7492) rfl) <| WL.p rfl rfl rfl (.s 42 rfl .nil) (q_move rfl) <| WL.p rfl rfl rfl (.s 34 rfl .nil) (q_extract rfl rfl) <| WL.p rfl rfl rfl (.s 34 rfl .nil) (q_extract rfl rfl) <| WL.w [] rfl (Wanted.plain rfl) rfl rfl .nil (w_alloc rfl z29 (l := [EqA (.slice none 0 0), EqA (.slice none 0 0)]) rfl) ?_
   rintro _ _ ⟨b7493, rfl, rfl⟩
   refine WL.w0 [0] rfl (Wanted.plain rfl) rfl (.s 5 rfl (.s 43 rfl .nil)) (w_store (L := [SlcA kInt t7492.1.fNodes, SlcA kEdge t7492.1.fEdges]) rfl sh29 (CellsOf.agg _) rfl rfl (leB rfl) rfl) ?_
   rintro _ _ ⟨rfl, rfl⟩
   refine WL.p rfl rfl rfl (.s 44 rfl .nil) (q_assign rfl) <| WL.nil <| QN.to (StTo.still [0] 5 rfl rfl) <| QN.weaken (env' := [(6, _), (5, _), (3, _), (2, _)]) (.one rfl (.one rfl (.one rfl (.one rfl (.nil _))))) <| QN.then_ <| W.seq <| W.region <| WL.p rfl rfl rfl (.s 2 rfl .nil) (q_field rfl fo31_0 rfl) <| WL.p rfl rfl rfl (.s 46 rfl .nil) (q_loadS rfl sh25 (leB rfl) rfl) <| WL.p rfl rfl rfl (.s 2 rfl .nil) (q_field rfl fo31_1 rfl) <| WL.p rfl rfl rfl (.s 48 rfl .nil) (q_loadS rfl sh29 (leB rfl) rfl) <| WL.p rfl rfl rfl (.s 2 rfl .nil) (q_field rfl fo31_2 rfl) <| WL.p rfl rfl rfl (.s 50 rfl .nil) (q_loadS rfl sh29 (leB rfl) rfl) ?_
   refine WL.p rfl rfl rfl (.s 3 rfl .nil) (q_loadS rfl sh33 (leB rfl) rfl) ?_
   obtain ⟨t7494, ht7494, h⟩ := bind_s h
   refine WL.p rfl rfl rfl (.s 47 rfl (.s 49 rfl (.s 51 rfl (.s 52 rfl .nil)))) (q_call (f := 12) (A := TupA [AggA [SlcA kInt t7494.1.fNodes, SlcA kEdge t7494.1.fEdges], EqA (.int .i64 t7494.2)]) (xs := [.tmp 47, .tmp 49, .tmp 51, .tmp 52]) («as» := [AggA [SlcA kNodeType a0.fT.fNodes, SlcA kEdgeType a0.fT.fEdges], AggA [SlcA kInt a0.fP.fNodes, SlcA kEdge a0.fP.fEdges], AggA [SlcA kInt a0.fG.fNodes, SlcA kEdge a0.fG.fEdges], AggA [SlcA kInt a1.fNodes, SlcA kInt a1.fEdges]]) rfl ca12 (ref17_Instance.con k a0.fT a0.fP a0.fG a1 t7494 ht7494) rfl) <| WL.p rfl rfl rfl (.s 53 rfl .nil) (q_move rfl) <| WL.p rfl rfl rfl (.s 45 rfl .nil) (q_extract rfl rfl) <| WL.p rfl rfl rfl (.s 45 rfl .nil) (q_extract rfl rfl) <| WL.w [] rfl (Wanted.plain rfl) rfl rfl .nil (w_alloc rfl z29 (l := [EqA (.slice none 0 0), EqA (.slice none 0 0)]) rfl) ?_
   rintro _ _ ⟨b7495, rfl, rfl⟩
   refine WL.w0 [0] rfl (Wanted.plain rfl) rfl (.s 7 rfl (.s 54 rfl .nil)) (w_store (L := [SlcA kInt t7494.1.fNodes, SlcA kEdge t7494.1.fEdges]) rfl sh29 (CellsOf.agg _) rfl rfl (leB rfl) rfl) ?_
   rintro _ _ ⟨rfl, rfl⟩
   refine WL.p rfl rfl rfl (.s 55 rfl .nil) (q_assign rfl) <| WL.nil <| QN.to (StTo.still [0] 7 rfl rfl) <| QN.weaken (env' := [(8, _), (7, _), (6, _), (5, _), (3, _), (2, _)]) (.one rfl (.one rfl (.one rfl (.one rfl (.one rfl (.one rfl (.nil _))))))) <| QN.then_ <| W.seq ?_
   refine W.jn1 (Γ := Unit) (fun (_ : Unit) (x4 : Bool) => [(4, EqA (.bool x4))]) (fun (_ : Unit) (_ : Bool) => []) h (fun _ x4 h => ?_) (fun j7502 Kj7502 h => ?_)
   ·refine QN.then_ <| W.ret ?_
    cases h
    exact QR.f1 rfl rfl (.t rfl) (.id _)
   ·refine W.region <| WL.p rfl rfl rfl (.s 6 rfl .nil) (q_move rfl) <| WL.p rfl rfl rfl (.s 8 rfl .nil) (q_move rfl) <| WL.p rfl rfl rfl (.s 56 rfl (.s 57 rfl .nil)) (q_int rfl rfl) <| WL.p rfl rfl rfl (.s 58 rfl .nil) (q_move rfl) ?_
    rcases bif_s h with ⟨hb7503, h⟩ | ⟨hb7503, h⟩
    ·refine WL.q (Wanted.on rfl rfl rfl hb7503) rfl rfl (.s 5 rfl .nil) (q_loadS rfl sh29 (leB rfl) rfl).o <| WL.q (Wanted.on rfl rfl rfl hb7503) rfl rfl (.s 7 rfl .nil) (q_loadS rfl sh29 (leB rfl) rfl).o ?_
     obtain ⟨t7504, ht7504, h⟩ := bind_s h
     refine WL.q (Wanted.on rfl rfl rfl hb7503) rfl rfl (.s 60 rfl (.s 61 rfl .nil)) (q_call (f := 13) (A := EqA (.bool t7504)) (xs := [.tmp 60, .tmp 61]) («as» := [AggA [SlcA kInt t7492.1.fNodes, SlcA kEdge t7492.1.fEdges], AggA [SlcA kInt t7494.1.fNodes, SlcA kEdge t7494.1.fEdges]]) rfl ca13 (ref05_Same.con k t7492.1 t7494.1 t7504 ht7504) rfl).o <| WL.p rfl rfl rfl (.s 59 rfl (.s 62 rfl .nil)) (q_pickT rfl hb7503) <| WL.p rfl rfl rfl (.s 63 rfl .nil) (q_move rfl) ?_
     rcases bif_s h with ⟨hb7505, h⟩ | ⟨hb7505, h⟩
     ·refine WL.q (Wanted.on rfl rfl rfl hb7505) rfl rfl (.s 6 rfl .nil) (q_move rfl).o <| WL.q (Wanted.on rfl rfl rfl hb7505) rfl rfl (.s 65 rfl (.k .nil)) (q_int rfl rfl).o <| WL.q (Wanted.on rfl rfl rfl hb7505) rfl rfl (.s 66 rfl .nil) (q_move rfl).o ?_
      rcases bif_s h with ⟨hb7506, h⟩ | ⟨hb7506, h⟩
      ·refine WL.skip (Unwanted.on rfl rfl rfl hb7506) rfl rfl <| WL.skip (Unwanted.on rfl rfl rfl hb7506) rfl rfl <| WL.skip (Unwanted.on rfl rfl rfl hb7506) rfl rfl <| WL.skip (Unwanted.on rfl rfl rfl hb7506) rfl rfl <| WL.skip (Unwanted.on rfl rfl rfl hb7506) rfl rfl <| WL.skip (Unwanted.on rfl rfl rfl hb7506) rfl rfl <| WL.q (Wanted.on rfl rfl rfl hb7505) rfl rfl (.s 67 rfl (.k .nil)) (q_pickT rfl hb7506).o <| WL.p rfl rfl rfl (.s 64 rfl (.s 74 rfl .nil)) (q_pickT rfl hb7505) <| WL.p rfl rfl rfl (.s 75 rfl .nil) (q_assign rfl) <| WL.nil ?_
       exact QN.weaken (.one rfl (.nil _)) (Kj7502 () true h)
      ·refine WL.q (Wanted.on rfl rfl rfl hb7506) rfl rfl (.s 5 rfl .nil) (q_loadS rfl sh29 (leB rfl) rfl).o <| WL.q (Wanted.on rfl rfl rfl hb7506) rfl rfl (.s 2 rfl .nil) (q_field rfl fo31_2 rfl).o <| WL.q (Wanted.on rfl rfl rfl hb7506) rfl rfl (.s 69 rfl .nil) (q_loadS rfl sh29 (leB rfl) rfl).o <| WL.q (Wanted.on rfl rfl rfl hb7506) rfl rfl (.s 3 rfl .nil) (q_loadS rfl sh33 (leB rfl) rfl).o ?_
       obtain ⟨t7507, ht7507, h⟩ := bind_s h
       refine WL.q (Wanted.on rfl rfl rfl hb7506) rfl rfl (.s 68 rfl (.s 70 rfl (.s 71 rfl .nil))) (q_call (f := 14) (A := EqA (.int .i64 t7507)) (xs := [.tmp 68, .tmp 70, .tmp 71]) («as» := [AggA [SlcA kInt t7492.1.fNodes, SlcA kEdge t7492.1.fEdges], AggA [SlcA kInt a0.fG.fNodes, SlcA kEdge a0.fG.fEdges], AggA [SlcA kInt a1.fNodes, SlcA kInt a1.fEdges]]) rfl ca14 (ref06_Valid.con k t7492.1 a0.fG a1 t7507 ht7507) rfl).o <| WL.q (Wanted.on rfl rfl rfl hb7506) rfl rfl (.s 72 rfl (.k .nil)) (q_int rfl rfl).o <| WL.q (Wanted.on rfl rfl rfl hb7505) rfl rfl (.s 67 rfl (.s 73 rfl .nil)) (q_pickF rfl hb7506).o <| WL.p rfl rfl rfl (.s 64 rfl (.s 74 rfl .nil)) (q_pickT rfl hb7505) <| WL.p rfl rfl rfl (.s 75 rfl .nil) (q_assign rfl) <| WL.nil ?_
       exact QN.weaken (.one rfl (.nil _)) (Kj7502 () (t7507 == 0) h)
     ·refine WL.skip (Unwanted.on rfl rfl rfl hb7505) rfl rfl <| WL.skip (Unwanted.on rfl rfl rfl hb7505) rfl rfl <| WL.skip (Unwanted.on rfl rfl rfl hb7505) rfl rfl <| WL.skip (Unwanted.und rfl rfl rfl) rfl rfl <| WL.skip (Unwanted.und rfl rfl rfl) rfl rfl <| WL.skip (Unwanted.und rfl rfl rfl) rfl rfl <| WL.skip (Unwanted.und rfl rfl rfl) rfl rfl <| WL.skip (Unwanted.und rfl rfl rfl) rfl rfl <| WL.skip (Unwanted.und rfl rfl rfl) rfl rfl <| WL.skip (Unwanted.on rfl rfl rfl hb7505) rfl rfl <| WL.p rfl rfl rfl (.s 64 rfl (.k .nil)) (q_pickF rfl hb7505) <| WL.p rfl rfl rfl (.s 75 rfl .nil) (q_assign rfl) <| WL.nil ?_
      exact QN.weaken (.one rfl (.nil _)) (Kj7502 () false h)
    ·refine WL.skip (Unwanted.on rfl rfl rfl hb7503) rfl rfl <| WL.skip (Unwanted.on rfl rfl rfl hb7503) rfl rfl <| WL.skip (Unwanted.on rfl rfl rfl hb7503) rfl rfl <| WL.p rfl rfl rfl (.s 59 rfl (.k .nil)) (q_pickF rfl hb7503) <| WL.p rfl rfl rfl (.s 63 rfl .nil) (q_move rfl) <| WL.skip (Unwanted.on rfl rfl rfl rfl) rfl rfl <| WL.skip (Unwanted.on rfl rfl rfl rfl) rfl rfl <| WL.skip (Unwanted.on rfl rfl rfl rfl) rfl rfl <| WL.skip (Unwanted.und rfl rfl rfl) rfl rfl <| WL.skip (Unwanted.und rfl rfl rfl) rfl rfl <| WL.skip (Unwanted.und rfl rfl rfl) rfl rfl <| WL.skip (Unwanted.und rfl rfl rfl) rfl rfl <| WL.skip (Unwanted.und rfl rfl rfl) rfl rfl ?_
     refine WL.skip (Unwanted.und rfl rfl rfl) rfl rfl <| WL.skip (Unwanted.on rfl rfl rfl rfl) rfl rfl <| WL.p rfl rfl rfl (.s 64 rfl (.k .nil)) (q_pickF rfl rfl) <| WL.p rfl rfl rfl (.s 75 rfl .nil) (q_assign rfl) <| WL.nil ?_
     exact QN.weaken (.one rfl (.nil _)) (Kj7502 () false h)
 ·refine W.region ?_
  obtain ⟨t7508, ht7508, h⟩ := bind_s h
  refine WL.p rfl rfl rfl .nil (q_call (f := 9) (A := EqA (.bool t7508)) (xs := []) («as» := []) rfl ca9 (law17_awake.con k  t7508 ht7508) rfl) <| WL.p rfl rfl rfl (.s 9 rfl .nil) (q_not rfl) <| WL.p rfl rfl rfl (.s 10 rfl .nil) (q_move rfl) ?_
  rcases bif_s h with ⟨hb7509, h⟩ | ⟨hb7509, h⟩
  ·refine WL.skip (Unwanted.on rfl rfl rfl hb7509) rfl rfl <| WL.skip (Unwanted.on rfl rfl rfl hb7509) rfl rfl <| WL.skip (Unwanted.on rfl rfl rfl hb7509) rfl rfl <| WL.skip (Unwanted.on rfl rfl rfl hb7509) rfl rfl <| WL.skip (Unwanted.on rfl rfl rfl hb7509) rfl rfl <| WL.skip (Unwanted.on rfl rfl rfl hb7509) rfl rfl <| WL.skip (Unwanted.on rfl rfl rfl hb7509) rfl rfl <| WL.skip (Unwanted.on rfl rfl rfl hb7509) rfl rfl <| WL.p rfl rfl rfl (.s 11 rfl (.k .nil)) (q_pickT rfl hb7509) <| WL.p rfl rfl rfl (.s 20 rfl .nil) (q_move rfl) <| WL.skip (Unwanted.on rfl rfl rfl rfl) rfl rfl <| WL.skip (Unwanted.on rfl rfl rfl rfl) rfl rfl <| WL.skip (Unwanted.on rfl rfl rfl rfl) rfl rfl ?_
   refine WL.skip (Unwanted.on rfl rfl rfl rfl) rfl rfl <| WL.p rfl rfl rfl (.s 21 rfl (.k .nil)) (q_pickT rfl rfl) <| WL.p rfl rfl rfl (.s 26 rfl .nil) (q_move rfl) <| WL.skip (Unwanted.on rfl rfl rfl rfl) rfl rfl <| WL.skip (Unwanted.on rfl rfl rfl rfl) rfl rfl <| WL.skip (Unwanted.on rfl rfl rfl rfl) rfl rfl <| WL.skip (Unwanted.on rfl rfl rfl rfl) rfl rfl <| WL.p rfl rfl rfl (.s 27 rfl (.k .nil)) (q_pickT rfl rfl) <| WL.nil ?_
   exact QN.weaken (.one rfl (.one rfl (.one rfl (.nil _)))) (Kj7489 () true h)
  ·refine WL.q (Wanted.on rfl rfl rfl hb7509) rfl rfl (.s 2 rfl .nil) (q_field rfl fo31_0 rfl).o <| WL.q (Wanted.on rfl rfl rfl hb7509) rfl rfl (.s 12 rfl .nil) (q_loadS rfl sh25 (leB rfl) rfl).o <| WL.q (Wanted.on rfl rfl rfl hb7509) rfl rfl (.s 2 rfl .nil) (q_field rfl fo31_1 rfl).o <| WL.q (Wanted.on rfl rfl rfl hb7509) rfl rfl (.s 14 rfl .nil) (q_loadS rfl sh29 (leB rfl) rfl).o <| WL.q (Wanted.on rfl rfl rfl hb7509) rfl rfl (.s 2 rfl .nil) (q_field rfl fo31_2 rfl).o <| WL.q (Wanted.on rfl rfl rfl hb7509) rfl rfl (.s 16 rfl .nil) (q_loadS rfl sh29 (leB rfl) rfl).o ?_
   obtain ⟨t7510, ht7510, h⟩ := bind_s h
   refine WL.q (Wanted.on rfl rfl rfl hb7509) rfl rfl (.s 13 rfl (.s 15 rfl (.s 17 rfl .nil))) (q_call (f := 10) (A := EqA (.bool t7510)) (xs := [.tmp 13, .tmp 15, .tmp 17]) («as» := [AggA [SlcA kNodeType a0.fT.fNodes, SlcA kEdgeType a0.fT.fEdges], AggA [SlcA kInt a0.fP.fNodes, SlcA kEdge a0.fP.fEdges], AggA [SlcA kInt a0.fG.fNodes, SlcA kEdge a0.fG.fEdges]]) rfl ca10 (ref17_Light.con k a0.fT a0.fP a0.fG t7510 ht7510) rfl).o <| WL.q (Wanted.on rfl rfl rfl hb7509) rfl rfl (.s 18 rfl .nil) (q_not rfl).o <| WL.p rfl rfl rfl (.s 11 rfl (.s 19 rfl .nil)) (q_pickF rfl hb7509) <| WL.p rfl rfl rfl (.s 20 rfl .nil) (q_move rfl) ?_
   rcases bif_s h with ⟨hb7511, h⟩ | ⟨hb7511, h⟩
   ·refine WL.skip (Unwanted.on rfl rfl rfl hb7511) rfl rfl <| WL.skip (Unwanted.on rfl rfl rfl hb7511) rfl rfl <| WL.skip (Unwanted.on rfl rfl rfl hb7511) rfl rfl <| WL.skip (Unwanted.on rfl rfl rfl hb7511) rfl rfl <| WL.p rfl rfl rfl (.s 21 rfl (.k .nil)) (q_pickT rfl hb7511) <| WL.p rfl rfl rfl (.s 26 rfl .nil) (q_move rfl) <| WL.skip (Unwanted.on rfl rfl rfl rfl) rfl rfl <| WL.skip (Unwanted.on rfl rfl rfl rfl) rfl rfl <| WL.skip (Unwanted.on rfl rfl rfl rfl) rfl rfl <| WL.skip (Unwanted.on rfl rfl rfl rfl) rfl rfl <| WL.p rfl rfl rfl (.s 27 rfl (.k .nil)) (q_pickT rfl rfl) <| WL.nil ?_
    exact QN.weaken (.one rfl (.one rfl (.one rfl (.nil _)))) (Kj7489 () true h)
   ·refine WL.q (Wanted.on rfl rfl rfl hb7511) rfl rfl (.s 3 rfl .nil) (q_field rfl fo33_0 rfl).o <| WL.q (Wanted.on rfl rfl rfl hb7511) rfl rfl (.s 22 rfl .nil) (q_load rfl sh26).o <| WL.q (Wanted.on rfl rfl rfl hb7511) rfl rfl (.s 23 rfl .nil) (q_len rfl elS26).o <| WL.q (Wanted.on rfl rfl rfl hb7511) rfl rfl (.s 24 rfl (.k .nil)) (q_int rfl rfl).o <| WL.p rfl rfl rfl (.s 21 rfl (.s 25 rfl .nil)) (q_pickF rfl hb7511) <| WL.p rfl rfl rfl (.s 26 rfl .nil) (q_move rfl) ?_
    rcases bif_s h with ⟨hb7512, h⟩ | ⟨hb7512, h⟩
    ·refine WL.skip (Unwanted.on rfl rfl rfl hb7512) rfl rfl <| WL.skip (Unwanted.on rfl rfl rfl hb7512) rfl rfl <| WL.skip (Unwanted.on rfl rfl rfl hb7512) rfl rfl <| WL.skip (Unwanted.on rfl rfl rfl hb7512) rfl rfl <| WL.p rfl rfl rfl (.s 27 rfl (.k .nil)) (q_pickT rfl hb7512) <| WL.nil ?_
     exact QN.weaken (.one rfl (.one rfl (.one rfl (.nil _)))) (Kj7489 () true h)
    ·refine WL.q (Wanted.on rfl rfl rfl hb7512) rfl rfl (.s 3 rfl .nil) (q_field rfl fo33_1 rfl).o <| WL.q (Wanted.on rfl rfl rfl hb7512) rfl rfl (.s 28 rfl .nil) (q_load rfl sh26).o <| WL.q (Wanted.on rfl rfl rfl hb7512) rfl rfl (.s 29 rfl .nil) (q_len rfl elS26).o <| WL.q (Wanted.on rfl rfl rfl hb7512) rfl rfl (.s 30 rfl (.k .nil)) (q_int rfl rfl).o <| WL.p rfl rfl rfl (.s 27 rfl (.s 31 rfl .nil)) (q_pickF rfl hb7512) <| WL.nil ?_
     exact QN.weaken (.one rfl (.one rfl (.one rfl (.nil _)))) (Kj7489 () (decide ((a1.fEdges.length : Int) > 100)) h)
theorem search_First.con (k : Nat) (a0 : Types) (a1 : Graph) (a2 : Graph) (a3 : Bool) (r : (Morphism × Int)) (h : search_First k a0 a1 a2 a3 = some r) : Con Tryz.prog 15 [] [AggA [SlcA kNodeType a0.fNodes, SlcA kEdgeType a0.fEdges], AggA [SlcA kInt a1.fNodes, SlcA kEdge a1.fEdges], AggA [SlcA kInt a2.fNodes, SlcA kEdge a2.fEdges], EqA (.bool a3)] (RA (TupA [AggA [SlcA kInt r.1.fNodes, SlcA kInt r.1.fEdges], EqA (.int .i64 r.2)])) := by
 unfold search_First at h
 refine Con.of (N := 33) Tryz.func15 rfl rfl rfl fun w0_ fg_ => W.seq <| W.region <| WL.p rfl rfl rfl (.s 0 rfl .nil) (q_box rfl (CellsOf.agg _)) <| WL.p rfl rfl rfl (.s 1 rfl .nil) (q_box rfl (CellsOf.agg _)) <| WL.p rfl rfl rfl (.s 2 rfl .nil) (q_box rfl (CellsOf.agg _)) <| WL.w [] rfl (Wanted.plain rfl) rfl rfl .nil (w_alloc rfl z33 (l := [EqA (.slice none 0 0), EqA (.slice none 0 0)]) rfl) ?_
 rintro _ _ ⟨b7513, rfl, rfl⟩
 refine WL.p rfl rfl rfl (.k .nil) (q_assign rfl) <| WL.nil <| QN.then_ <| W.seq <| W.seq <| W.region <| WL.p rfl rfl rfl (.s 4 rfl .nil) (q_loadS rfl sh25 (leB rfl) rfl) <| WL.p rfl rfl rfl (.s 5 rfl .nil) (q_loadS rfl sh29 (leB rfl) rfl) <| WL.p rfl rfl rfl (.s 6 rfl .nil) (q_loadS rfl sh29 (leB rfl) rfl) ?_
 obtain ⟨t7514, ht7514, h⟩ := bind_s h
 refine WL.p rfl rfl rfl (.s 12 rfl (.s 13 rfl (.s 14 rfl .nil))) (q_call (f := 36) (A := EqA (.int .i64 t7514)) (xs := [.tmp 12, .tmp 13, .tmp 14]) («as» := [AggA [SlcA kNodeType a0.fNodes, SlcA kEdgeType a0.fEdges], AggA [SlcA kInt a1.fNodes, SlcA kEdge a1.fEdges], AggA [SlcA kInt a2.fNodes, SlcA kEdge a2.fEdges]]) rfl ca36 (search_valid.con k a0 a1 a2 t7514 ht7514) rfl) <| WL.p rfl rfl rfl (.s 15 rfl .nil) (q_assign rfl) <| WL.nil <| QN.weaken (env' := [(10, _), (8, _), (6, _), (5, _), (4, _), (3, _)]) (.one rfl (.one rfl (.one rfl (.one rfl (.one rfl (.one rfl (.nil _))))))) <| QN.then_ <| W.seq <| W.region <| WL.p rfl rfl rfl (.s 10 rfl .nil) (q_move rfl) <| WL.p rfl rfl rfl (.s 16 rfl (.k .nil)) (q_int rfl rfl) <| WL.nil <| QN.then_ ?_
 refine W.condP h rfl (fun hb7515 h => ?_) (fun hb7515 h => ?_)
 ·refine W.seq <| W.region <| WL.p rfl rfl rfl .nil (q_build (is := []) (xs := []) (L := [EqA (.slice none 0 0), EqA (.slice none 0 0)]) rfl rfl z33 pl33 rfl rfl .nil rfl) <| WL.p rfl rfl rfl (.s 10 rfl .nil) (q_move rfl) <| WL.w0 [0] rfl (Wanted.plain rfl) rfl (.s 8 rfl (.s 18 rfl .nil)) (w_store (L := [EqA (.slice none 0 0), EqA (.slice none 0 0)]) rfl sh33 (CellsOf.agg _) rfl rfl (leB rfl) rfl) ?_
  rintro _ _ ⟨rfl, rfl⟩
  refine WL.p rfl rfl rfl (.s 19 rfl .nil) (q_assign rfl) <| WL.nil <| QN.weaken (env' := [(9, _), (8, _)]) (.one rfl (.one rfl (.nil _))) <| QN.then_ <| W.ret <| QR.then_ ?_
  cases h
  exact QR.f2 rfl rfl (.cs (i := 0) rfl sh33 rfl rfl) (.t rfl) (.imp (Imp.tup (.cons (Imp.agg (.cons (Imp.nil kInt) (.cons (Imp.nil kInt) .nil))) (.cons (Imp.id _) .nil))))
 ·refine W.skip <| QN.then_ <| W.seq <| W.region <| WL.p rfl rfl rfl (.s 4 rfl .nil) (q_loadS rfl sh25 (leB rfl) rfl) <| WL.p rfl rfl rfl (.s 5 rfl .nil) (q_loadS rfl sh29 (leB rfl) rfl) <| WL.p rfl rfl rfl (.s 6 rfl .nil) (q_loadS rfl sh29 (leB rfl) rfl) <| WL.p rfl rfl rfl .nil (q_build (is := []) (xs := []) (L := [EqA (.slice none 0 0), EqA (.slice none 0 0)]) rfl rfl z33 pl33 rfl rfl .nil rfl) <| WL.p rfl rfl rfl (.s 3 rfl .nil) (q_move rfl) ?_
  obtain ⟨t7516, ht7516, h⟩ := bind_s h
  refine WL.p rfl rfl rfl (.s 20 rfl (.s 21 rfl (.s 22 rfl (.s 23 rfl (.s 24 rfl (.k .nil)))))) (q_callI (f := 42) (A := SlcA kMorphism t7516) (xs := [.tmp 20, .tmp 21, .tmp 22, .tmp 23, .tmp 24, .const (.int .i64 1)]) («as» := [AggA [SlcA kNodeType a0.fNodes, SlcA kEdgeType a0.fEdges], AggA [SlcA kInt a1.fNodes, SlcA kEdge a1.fEdges], AggA [SlcA kInt a2.fNodes, SlcA kEdge a2.fEdges], AggA [EqA (.slice none 0 0), EqA (.slice none 0 0)], EqA (.bool a3), EqA (.int .i64 1)]) rfl ca42 (search_found.con k a0 a1 a2 (OMorphism.mk none none) a3 1 t7516 ht7516) rfl (.cons (Imp.id _) (.cons (Imp.id _) (.cons (Imp.id _) (.cons (Imp.agg (.cons (Imp.optN kInt) (.cons (Imp.optN kInt) .nil))) (.cons (Imp.id _) (.cons (Imp.id _) .nil))))))) <| WL.p rfl rfl rfl (.s 25 rfl .nil) (q_assign rfl) <| WL.nil <| QN.weaken (env' := [(11, _), (8, _)]) (.one rfl (.one rfl (.nil _))) <| QN.then_ <| W.seq <| W.seq <| W.region <| WL.p rfl rfl rfl (.s 11 rfl .nil) (q_move rfl) <| WL.p rfl rfl rfl (.s 26 rfl .nil) (q_len rfl elS46) <| WL.p rfl rfl rfl (.s 27 rfl (.k .nil)) (q_int rfl rfl) <| WL.nil <| QN.then_ ?_
  refine W.condP h rfl (fun hb7517 h => ?_) (fun hb7517 h => ?_)
  ·refine W.seq <| W.region <| WL.p rfl rfl rfl .nil (q_build (is := []) (xs := []) (L := [EqA (.slice none 0 0), EqA (.slice none 0 0)]) rfl rfl z33 pl33 rfl rfl .nil rfl) <| WL.w0 [0] rfl (Wanted.plain rfl) rfl (.s 8 rfl (.s 29 rfl .nil)) (w_store (L := [EqA (.slice none 0 0), EqA (.slice none 0 0)]) rfl sh33 (CellsOf.agg _) rfl rfl (leB rfl) rfl) ?_
   rintro _ _ ⟨rfl, rfl⟩
   refine WL.p rfl rfl rfl (.k .nil) (q_assign rfl) <| WL.nil <| QN.then_ <| W.ret <| QR.then_ ?_
   cases h
   exact QR.f2 rfl rfl (.cs (i := 0) rfl sh33 rfl rfl) (.t rfl) (.imp (Imp.tup (.cons (Imp.agg (.cons (Imp.nil kInt) (.cons (Imp.nil kInt) .nil))) (.cons (Imp.id _) .nil))))
  ·refine W.skip <| QN.then_ <| W.seq <| W.region <| WL.p rfl rfl rfl (.s 11 rfl .nil) (q_move rfl) ?_
   obtain ⟨c7518, h⟩ := ite_n h
   refine WL.p rfl rfl rfl (.s 30 rfl (.k .nil)) (q_index rfl el46 rfl c7518.1 c7518.2) <| WL.p rfl rfl rfl (.s 31 rfl .nil) (q_loadS rfl sh33 (leB rfl) rfl) <| WL.w0 [0] rfl (Wanted.plain rfl) rfl (.s 8 rfl (.s 32 rfl .nil)) (w_store (L := [SlcA kInt ((rd t7516 0).fNodes), SlcA kInt ((rd t7516 0).fEdges)]) rfl sh33 (CellsOf.agg _) rfl rfl (leB rfl) rfl) ?_
   rintro _ _ ⟨rfl, rfl⟩
   refine WL.p rfl rfl rfl (.k .nil) (q_assign rfl) <| WL.nil <| QN.weaken (env' := [(9, _), (8, _)]) (.one rfl (.one rfl (.nil _))) <| QN.then_ <| W.ret ?_
   cases h
   exact QR.f2 rfl rfl (.cs (i := 0) rfl sh33 rfl rfl) (.t rfl) (.id _)
theorem ref17_open.con (k : Nat) (a0 : Graph) (r : Morphism) (h : ref17_open k a0 = some r) : Con Tryz.prog 44 [] [AggA [SlcA kInt a0.fNodes, SlcA kEdge a0.fEdges]] (RA (AggA [SlcA kInt r.fNodes, SlcA kInt r.fEdges])) := by
 unfold ref17_open at h
 refine Con.of (N := 38) Tryz.func44 rfl rfl rfl fun w0_ fg_ => W.seq <| W.region <| WL.p rfl rfl rfl (.s 0 rfl .nil) (q_box rfl (CellsOf.agg _)) <| WL.w [] rfl (Wanted.plain rfl) rfl rfl .nil (w_alloc rfl z33 (l := [EqA (.slice none 0 0), EqA (.slice none 0 0)]) rfl) ?_
 rintro _ _ ⟨b7519, rfl, rfl⟩
 refine WL.nil <| QN.then_ <| W.seq ?_
 refine W.jn0 (Γ := (Value × Value)) (fun (g7530 : (Value × Value)) => [(2, EqA (.pointer (some ⟨b7519, 0, none⟩))), (3, PtrA [HdA g7530.1, HdA g7530.2])]) (fun (g7530 : (Value × Value)) => [BoxE b7519 [EqA (.slice none 0 0), EqA (.slice none 0 0)], SlE 3 g7530.1 kInt (List.replicate ((a0.fNodes.length : Int) : Int).toNat (0 : Int)), SlE 3 g7530.2 kInt (List.replicate ((a0.fEdges.length : Int) : Int).toNat (0 : Int))]) h (fun g7530 h => ?_) (fun j7535 Kj7535 h => ?_)
 ·refine QN.then_ <| W.seq <| W.seq <| W.region <| WL.p rfl rfl rfl (.k .nil) (q_assign rfl) <| WL.nil <| QN.then_ <| W.block ?_
  refine W.loop2 (Γ := Unit) (fun (_ : Unit) (_ : (List Int)) (x4 : Int) => [(2, EqA (.pointer (some ⟨b7519, 0, none⟩))), (3, PtrA [HdA g7530.1, HdA g7530.2]), (4, EqA (.int .i64 x4))]) (fun (_ : Unit) (x3_0 : (List Int)) (_ : Int) => [BoxE b7519 [EqA (.slice none 0 0), EqA (.slice none 0 0)], SlE 3 g7530.1 kInt x3_0, SlE 3 g7530.2 kInt (List.replicate ((a0.fEdges.length : Int) : Int).toNat (0 : Int))]) h () (.one rfl (.one rfl (.one rfl (.nil _)))) rfl (fun rec0 K0 next0 _ x3_0 x4 h => ?_)
  unfold ref17_open.b0 at h
  refine W.seq <| W.seq <| W.region <| WL.p rfl rfl rfl (.s 4 rfl .nil) (q_move rfl) <| WL.p rfl rfl rfl (.s 3 rfl .nil) (q_field rfl fo33_0 rfl) <| WL.p rfl rfl rfl (.s 16 rfl .nil) (q_load rfl sh26) <| WL.q (Wanted.plain rfl) rfl rfl (.s 17 rfl .nil) (q_lenO rfl elS26 (i := 1) rfl) <| WL.p rfl rfl rfl (.s 15 rfl (.s 18 rfl .nil)) (q_int rfl rfl) <| WL.nil <| QN.then_ ?_
  refine W.condP h rfl (fun hb7560 h => ?_) (fun hb7560 h => ?_)
  ·refine W.skip <| QN.then_ <| W.seq <| W.block <| W.region <| WL.p rfl rfl rfl (.s 3 rfl .nil) (q_field rfl fo33_0 rfl) <| WL.p rfl rfl rfl (.s 22 rfl .nil) (q_load rfl sh26) <| WL.p rfl rfl rfl (.s 4 rfl .nil) (q_move rfl) ?_
   obtain ⟨c7561, h⟩ := ite_n h
   refine WL.q (Wanted.plain rfl) rfl rfl (.s 23 rfl (.s 24 rfl .nil)) (q_indexO rfl el26 (j := 1) rfl c7561.1 c7561.2) <| WL.w0 [1] rfl (Wanted.plain rfl) rfl (.s 25 rfl (.k .nil)) (w_storeEl (kd := kInt) (z := (-1)) rfl sh3 (CellsOf.one rfl) rfl rfl rfl c7561.1 c7561.2 rfl rfl) ?_
   rintro _ _ ⟨rfl, rfl⟩
   refine WL.nil <| QN.block <| QN.weaken (env' := [(4, _), (3, _), (2, _)]) (.one rfl (.one rfl (.one rfl (.nil _)))) <| QN.then_ <| W.region <| WL.p rfl rfl rfl (.s 4 rfl .nil) (q_move rfl) ?_
   obtain ⟨c7562, h⟩ := ite_n h
   refine WL.p rfl rfl rfl (.s 20 rfl (.k .nil)) (q_addR rfl c7562) <| WL.p rfl rfl rfl (.s 21 rfl .nil) (q_assign rfl) <| WL.nil <| QN.order [1, 0, 0] rfl ?_
   exact next0 () (x3_0.set (x4 : Int).toNat (-1)) (x4 + 1) _ h (.one rfl (.one rfl (.one rfl (.nil _))))
  ·refine W.exit <| QX.then_ <| QX.then_ <| QX.here <| QN.then_ <| W.seq <| W.seq <| W.region <| WL.p rfl rfl rfl (.k .nil) (q_assign rfl) <| WL.nil <| QN.then_ <| W.block ?_
   refine W.loop2 (Γ := Unit) (fun (_ : Unit) (_ : (List Int)) (x5 : Int) => [(2, EqA (.pointer (some ⟨b7519, 0, none⟩))), (3, PtrA [HdA g7530.1, HdA g7530.2]), (5, EqA (.int .i64 x5))]) (fun (_ : Unit) (x3_1 : (List Int)) (_ : Int) => [BoxE b7519 [EqA (.slice none 0 0), EqA (.slice none 0 0)], SlE 3 g7530.1 kInt x3_0, SlE 3 g7530.2 kInt x3_1]) h () (.one rfl (.one rfl (.one rfl (.nil _)))) rfl (fun rec1 K1 next1 _ x3_1 x5 h => ?_)
   unfold ref17_open.b1 at h
   refine W.seq <| W.seq <| W.region <| WL.p rfl rfl rfl (.s 5 rfl .nil) (q_move rfl) <| WL.p rfl rfl rfl (.s 3 rfl .nil) (q_field rfl fo33_1 rfl) <| WL.p rfl rfl rfl (.s 27 rfl .nil) (q_load rfl sh26) <| WL.q (Wanted.plain rfl) rfl rfl (.s 28 rfl .nil) (q_lenO rfl elS26 (i := 2) rfl) <| WL.p rfl rfl rfl (.s 26 rfl (.s 29 rfl .nil)) (q_int rfl rfl) <| WL.nil <| QN.then_ ?_
   refine W.condP h rfl (fun hb7569 h => ?_) (fun hb7569 h => ?_)
   ·refine W.skip <| QN.then_ <| W.seq <| W.block <| W.region <| WL.p rfl rfl rfl (.s 3 rfl .nil) (q_field rfl fo33_1 rfl) <| WL.p rfl rfl rfl (.s 33 rfl .nil) (q_load rfl sh26) <| WL.p rfl rfl rfl (.s 5 rfl .nil) (q_move rfl) ?_
    obtain ⟨c7570, h⟩ := ite_n h
    refine WL.q (Wanted.plain rfl) rfl rfl (.s 34 rfl (.s 35 rfl .nil)) (q_indexO rfl el26 (j := 2) rfl c7570.1 c7570.2) <| WL.w0 [2] rfl (Wanted.plain rfl) rfl (.s 36 rfl (.k .nil)) (w_storeEl (kd := kInt) (z := (-1)) rfl sh3 (CellsOf.one rfl) rfl rfl rfl c7570.1 c7570.2 rfl rfl) ?_
    rintro _ _ ⟨rfl, rfl⟩
    refine WL.nil <| QN.block <| QN.weaken (env' := [(5, _), (3, _), (2, _)]) (.one rfl (.one rfl (.one rfl (.nil _)))) <| QN.then_ <| W.region <| WL.p rfl rfl rfl (.s 5 rfl .nil) (q_move rfl) ?_
    obtain ⟨c7571, h⟩ := ite_n h
    refine WL.p rfl rfl rfl (.s 31 rfl (.k .nil)) (q_addR rfl c7571) <| WL.p rfl rfl rfl (.s 32 rfl .nil) (q_assign rfl) <| WL.nil <| QN.order [1, 1, 0] rfl ?_
    exact next1 () (x3_1.set (x5 : Int).toNat (-1)) (x5 + 1) _ h (.one rfl (.one rfl (.one rfl (.nil _))))
   ·refine W.exit <| QX.then_ <| QX.then_ <| QX.here <| QN.then_ <| W.seq <| W.region <| WL.p rfl rfl rfl (.s 3 rfl .nil) (q_loadS rfl sh33 (leB rfl) rfl) <| WL.w0 [0] rfl (Wanted.plain rfl) rfl (.s 2 rfl (.s 37 rfl .nil)) (w_store (L := [HdA g7530.1, HdA g7530.2]) rfl sh33 (CellsOf.agg _) rfl rfl (leB rfl) rfl) ?_
    rintro _ _ ⟨rfl, rfl⟩
    refine WL.nil <| QN.to (StTo.still [0] 2 rfl rfl) <| QN.weaken (env' := [(2, _)]) (.one rfl (.nil _)) <| QN.then_ <| W.ret ?_
    cases h
    exact QR.f1 rfl rfl (.ps rfl sh33 rfl) (.agg (.cons (.slc 0 rfl) (.cons (.slc 1 rfl) .nil)))
 ·refine W.drawKT [(0, false), (1, false), (2, false), (4, false), (5, false), (6, false)] [3, 7, 8, 9, 10] [3, 7, 8, 9] 5 [[], [0], [0, 1], [0, 1, 2], [], [4], [4, 5], [4, 5, 6], [0, 1, 2, 3, 4, 5, 6, 7], [], [0, 1, 2, 3, 4, 5, 6, 7, 8, 9]] mx (by kernel_rfl) <| DKT.cons rfl rfl (.p rfl (.s 1 rfl .nil) rfl (q_field rfl fo29_0 rfl)) <| DKT.cons rfl rfl (.p rfl (.s 6 rfl .nil) rfl (q_load rfl sh26)) <| DKT.cons rfl rfl (.p rfl (.s 7 rfl .nil) rfl (q_len rfl elS26)) ?_
  obtain ⟨c7572, h⟩ := ite_n h
  refine DKT.cons rfl rfl (.p rfl (.s 1 rfl .nil) rfl (q_field rfl fo29_1 rfl)) <| DKT.cons rfl rfl (.p rfl (.s 10 rfl .nil) rfl (q_load rfl sh27)) <| DKT.cons rfl rfl (.p rfl (.s 11 rfl .nil) rfl (q_len rfl elS27)) ?_
  obtain ⟨c7574, h⟩ := ite_n h
  refine DKT.nil <| CT.step ?_
  refine CTc.yes rfl ?_ ?_
  ·refine CStep1.w [] (fun _ => rfl) rfl rfl rfl rfl (.s 8 rfl (.s 8 rfl .nil)) rfl (w_make (kd := kInt) (z := (0 : Int)) rfl el26 rfl gr3 z3 rfl c7572.1 c7572.2) ?_
   rintro _ _ ⟨v7573, rfl, rfl⟩
   refine CT.list (l' := [7, 8, 9, 10]) rfl <| CT.step ?_
   refine CTc.yes rfl ?_ ?_
   ·refine CStep1.w [] (fun _ => rfl) rfl rfl rfl rfl (.s 12 rfl (.s 12 rfl .nil)) rfl (w_make (kd := kInt) (z := (0 : Int)) rfl el26 rfl gr3 z3 rfl c7574.1 c7574.2) ?_
    rintro _ _ ⟨v7575, rfl, rfl⟩
    refine CT.list (l' := [8, 9, 10]) rfl <| CT.step ?_
    refine CTc.yes rfl ?_ ?_
    ·refine CStep1.p rfl rfl rfl (.s 9 rfl (.s 13 rfl .nil)) rfl (q_build (is := [0, 1]) (xs := [.tmp 9, .tmp 13]) (L := [HdA v7573, HdA v7575]) rfl rfl z33 pl33 rfl rfl (.cons (CellsOf.one rfl) (.cons (CellsOf.one rfl) .nil)) rfl) <| CT.list (l' := [9, 10]) rfl <| CT.step ?_
     refine CTc.yes rfl ?_ ?_
     ·refine CStep1.w [] (fun _ => rfl) rfl rfl rfl rfl .nil rfl (w_alloc rfl z33 (l := [EqA (.slice none 0 0), EqA (.slice none 0 0)]) rfl) ?_
      rintro _ _ ⟨b7576, rfl, rfl⟩
      refine CT.list (l' := [10]) rfl <| CT.step ?_
      refine CTc.yes rfl ?_ ?_
      ·refine CStep1.w0 [0] (fun h => absurd h (by decide)) rfl rfl rfl (.s 3 rfl (.s 14 rfl .nil)) rfl (w_store (L := [HdA v7573, HdA v7575]) rfl sh33 (CellsOf.agg _) rfl rfl (leB rfl) rfl) ?_
       rintro _ _ ⟨rfl, rfl⟩
       refine CT.list (l' := []) rfl <| CT.nil <| QN.to (StTo.still [0] 3 rfl rfl) <| QN.order [2, 1, 0] rfl ?_
       exact QN.weaken (.one rfl (.one rfl (.nil _))) (Kj7535 (v7573, v7575) h)
      exact CTc.end
     refine CTc.no rfl ?_
     exact CTc.end
    refine CTc.yes rfl ?_ ?_
    ·refine CStep1.w [] (fun _ => rfl) rfl rfl rfl rfl .nil rfl (w_alloc rfl z33 (l := [EqA (.slice none 0 0), EqA (.slice none 0 0)]) rfl) ?_
     rintro _ _ ⟨b7576, rfl, rfl⟩
     refine CT.list (l' := [8, 10]) rfl <| CT.step ?_
     refine CTc.yes rfl ?_ ?_
     ·refine CStep1.p rfl rfl rfl (.s 9 rfl (.s 13 rfl .nil)) rfl (q_build (is := [0, 1]) (xs := [.tmp 9, .tmp 13]) (L := [HdA v7573, HdA v7575]) rfl rfl z33 pl33 rfl rfl (.cons (CellsOf.one rfl) (.cons (CellsOf.one rfl) .nil)) rfl) <| CT.list (l' := [10]) rfl <| CT.step ?_
      refine CTc.yes rfl ?_ ?_
      ·refine CStep1.w0 [0] (fun h => absurd h (by decide)) rfl rfl rfl (.s 3 rfl (.s 14 rfl .nil)) rfl (w_store (L := [HdA v7573, HdA v7575]) rfl sh33 (CellsOf.agg _) rfl rfl (leB rfl) rfl) ?_
       rintro _ _ ⟨rfl, rfl⟩
       refine CT.list (l' := []) rfl <| CT.nil <| QN.to (StTo.still [0] 3 rfl rfl) <| QN.order [2, 1, 0] rfl ?_
       exact QN.weaken (.one rfl (.one rfl (.nil _))) (Kj7535 (v7573, v7575) h)
      exact CTc.end
     refine CTc.no rfl ?_
     exact CTc.end
    refine CTc.no rfl ?_
    exact CTc.end
   refine CTc.no rfl ?_
   refine CTc.yes rfl ?_ ?_
   ·refine CStep1.w [] (fun _ => rfl) rfl rfl rfl rfl .nil rfl (w_alloc rfl z33 (l := [EqA (.slice none 0 0), EqA (.slice none 0 0)]) rfl) ?_
    rintro _ _ ⟨b7576, rfl, rfl⟩
    refine CT.list (l' := [7, 8, 10]) rfl <| CT.step ?_
    refine CTc.yes rfl ?_ ?_
    ·refine CStep1.w [] (fun _ => rfl) rfl rfl rfl rfl (.s 12 rfl (.s 12 rfl .nil)) rfl (w_make (kd := kInt) (z := (0 : Int)) rfl el26 rfl gr3 z3 rfl c7574.1 c7574.2) ?_
     rintro _ _ ⟨v7575, rfl, rfl⟩
     refine CT.list (l' := [8, 10]) rfl <| CT.step ?_
     refine CTc.yes rfl ?_ ?_
     ·refine CStep1.p rfl rfl rfl (.s 9 rfl (.s 13 rfl .nil)) rfl (q_build (is := [0, 1]) (xs := [.tmp 9, .tmp 13]) (L := [HdA v7573, HdA v7575]) rfl rfl z33 pl33 rfl rfl (.cons (CellsOf.one rfl) (.cons (CellsOf.one rfl) .nil)) rfl) <| CT.list (l' := [10]) rfl <| CT.step ?_
      refine CTc.yes rfl ?_ ?_
      ·refine CStep1.w0 [1] (fun h => absurd h (by decide)) rfl rfl rfl (.s 3 rfl (.s 14 rfl .nil)) rfl (w_store (L := [HdA v7573, HdA v7575]) rfl sh33 (CellsOf.agg _) rfl rfl (leB rfl) rfl) ?_
       rintro _ _ ⟨rfl, rfl⟩
       refine CT.list (l' := []) rfl <| CT.nil <| QN.to (StTo.still [0] 3 rfl rfl) <| QN.order [2, 1, 0] rfl ?_
       exact QN.weaken (.one rfl (.one rfl (.nil _))) (Kj7535 (v7573, v7575) h)
      exact CTc.end
     refine CTc.no rfl ?_
     exact CTc.end
    refine CTc.no rfl <| CTc.no rfl ?_
    exact CTc.end
   refine CTc.no rfl ?_
   exact CTc.end
  refine CTc.yes rfl ?_ ?_
  ·refine CStep1.w [] (fun _ => rfl) rfl rfl rfl rfl (.s 12 rfl (.s 12 rfl .nil)) rfl (w_make (kd := kInt) (z := (0 : Int)) rfl el26 rfl gr3 z3 rfl c7574.1 c7574.2) ?_
   rintro _ _ ⟨v7575, rfl, rfl⟩
   refine CT.list (l' := [3, 8, 9, 10]) rfl <| CT.step ?_
   refine CTc.yes rfl ?_ ?_
   ·refine CStep1.w [] (fun _ => rfl) rfl rfl rfl rfl (.s 8 rfl (.s 8 rfl .nil)) rfl (w_make (kd := kInt) (z := (0 : Int)) rfl el26 rfl gr3 z3 rfl c7572.1 c7572.2) ?_
    rintro _ _ ⟨v7573, rfl, rfl⟩
    refine CT.list (l' := [8, 9, 10]) rfl <| CT.step ?_
    refine CTc.yes rfl ?_ ?_
    ·refine CStep1.p rfl rfl rfl (.s 9 rfl (.s 13 rfl .nil)) rfl (q_build (is := [0, 1]) (xs := [.tmp 9, .tmp 13]) (L := [HdA v7573, HdA v7575]) rfl rfl z33 pl33 rfl rfl (.cons (CellsOf.one rfl) (.cons (CellsOf.one rfl) .nil)) rfl) <| CT.list (l' := [9, 10]) rfl <| CT.step ?_
     refine CTc.yes rfl ?_ ?_
     ·refine CStep1.w [] (fun _ => rfl) rfl rfl rfl rfl .nil rfl (w_alloc rfl z33 (l := [EqA (.slice none 0 0), EqA (.slice none 0 0)]) rfl) ?_
      rintro _ _ ⟨b7576, rfl, rfl⟩
      refine CT.list (l' := [10]) rfl <| CT.step ?_
      refine CTc.yes rfl ?_ ?_
      ·refine CStep1.w0 [0] (fun h => absurd h (by decide)) rfl rfl rfl (.s 3 rfl (.s 14 rfl .nil)) rfl (w_store (L := [HdA v7573, HdA v7575]) rfl sh33 (CellsOf.agg _) rfl rfl (leB rfl) rfl) ?_
       rintro _ _ ⟨rfl, rfl⟩
       refine CT.list (l' := []) rfl <| CT.nil <| QN.to (StTo.still [0] 3 rfl rfl) <| QN.order [2, 0, 0] rfl ?_
       exact QN.weaken (.one rfl (.one rfl (.nil _))) (Kj7535 (v7573, v7575) h)
      exact CTc.end
     refine CTc.no rfl ?_
     exact CTc.end
    refine CTc.yes rfl ?_ ?_
    ·refine CStep1.w [] (fun _ => rfl) rfl rfl rfl rfl .nil rfl (w_alloc rfl z33 (l := [EqA (.slice none 0 0), EqA (.slice none 0 0)]) rfl) ?_
     rintro _ _ ⟨b7576, rfl, rfl⟩
     refine CT.list (l' := [8, 10]) rfl <| CT.step ?_
     refine CTc.yes rfl ?_ ?_
     ·refine CStep1.p rfl rfl rfl (.s 9 rfl (.s 13 rfl .nil)) rfl (q_build (is := [0, 1]) (xs := [.tmp 9, .tmp 13]) (L := [HdA v7573, HdA v7575]) rfl rfl z33 pl33 rfl rfl (.cons (CellsOf.one rfl) (.cons (CellsOf.one rfl) .nil)) rfl) <| CT.list (l' := [10]) rfl <| CT.step ?_
      refine CTc.yes rfl ?_ ?_
      ·refine CStep1.w0 [0] (fun h => absurd h (by decide)) rfl rfl rfl (.s 3 rfl (.s 14 rfl .nil)) rfl (w_store (L := [HdA v7573, HdA v7575]) rfl sh33 (CellsOf.agg _) rfl rfl (leB rfl) rfl) ?_
       rintro _ _ ⟨rfl, rfl⟩
       refine CT.list (l' := []) rfl <| CT.nil <| QN.to (StTo.still [0] 3 rfl rfl) <| QN.order [2, 0, 0] rfl ?_
       exact QN.weaken (.one rfl (.one rfl (.nil _))) (Kj7535 (v7573, v7575) h)
      exact CTc.end
     refine CTc.no rfl ?_
     exact CTc.end
    refine CTc.no rfl ?_
    exact CTc.end
   refine CTc.no rfl ?_
   refine CTc.yes rfl ?_ ?_
   ·refine CStep1.w [] (fun _ => rfl) rfl rfl rfl rfl .nil rfl (w_alloc rfl z33 (l := [EqA (.slice none 0 0), EqA (.slice none 0 0)]) rfl) ?_
    rintro _ _ ⟨b7576, rfl, rfl⟩
    refine CT.list (l' := [3, 8, 10]) rfl <| CT.step ?_
    refine CTc.yes rfl ?_ ?_
    ·refine CStep1.w [] (fun _ => rfl) rfl rfl rfl rfl (.s 8 rfl (.s 8 rfl .nil)) rfl (w_make (kd := kInt) (z := (0 : Int)) rfl el26 rfl gr3 z3 rfl c7572.1 c7572.2) ?_
     rintro _ _ ⟨v7573, rfl, rfl⟩
     refine CT.list (l' := [8, 10]) rfl <| CT.step ?_
     refine CTc.yes rfl ?_ ?_
     ·refine CStep1.p rfl rfl rfl (.s 9 rfl (.s 13 rfl .nil)) rfl (q_build (is := [0, 1]) (xs := [.tmp 9, .tmp 13]) (L := [HdA v7573, HdA v7575]) rfl rfl z33 pl33 rfl rfl (.cons (CellsOf.one rfl) (.cons (CellsOf.one rfl) .nil)) rfl) <| CT.list (l' := [10]) rfl <| CT.step ?_
      refine CTc.yes rfl ?_ ?_
      ·refine CStep1.w0 [1] (fun h => absurd h (by decide)) rfl rfl rfl (.s 3 rfl (.s 14 rfl .nil)) rfl (w_store (L := [HdA v7573, HdA v7575]) rfl sh33 (CellsOf.agg _) rfl rfl (leB rfl) rfl) ?_
       rintro _ _ ⟨rfl, rfl⟩
       refine CT.list (l' := []) rfl <| CT.nil <| QN.to (StTo.still [0] 3 rfl rfl) <| QN.order [2, 0, 0] rfl ?_
       exact QN.weaken (.one rfl (.one rfl (.nil _))) (Kj7535 (v7573, v7575) h)
      exact CTc.end
     refine CTc.no rfl ?_
     exact CTc.end
    refine CTc.no rfl <| CTc.no rfl ?_
    exact CTc.end
   refine CTc.no rfl ?_
   exact CTc.end
  refine CTc.no rfl ?_
  refine CTc.yes rfl ?_ ?_
  ·refine CStep1.w [] (fun _ => rfl) rfl rfl rfl rfl .nil rfl (w_alloc rfl z33 (l := [EqA (.slice none 0 0), EqA (.slice none 0 0)]) rfl) ?_
   rintro _ _ ⟨b7576, rfl, rfl⟩
   refine CT.list (l' := [3, 7, 8, 10]) rfl <| CT.step ?_
   refine CTc.yes rfl ?_ ?_
   ·refine CStep1.w [] (fun _ => rfl) rfl rfl rfl rfl (.s 8 rfl (.s 8 rfl .nil)) rfl (w_make (kd := kInt) (z := (0 : Int)) rfl el26 rfl gr3 z3 rfl c7572.1 c7572.2) ?_
    rintro _ _ ⟨v7573, rfl, rfl⟩
    refine CT.list (l' := [7, 8, 10]) rfl <| CT.step ?_
    refine CTc.yes rfl ?_ ?_
    ·refine CStep1.w [] (fun _ => rfl) rfl rfl rfl rfl (.s 12 rfl (.s 12 rfl .nil)) rfl (w_make (kd := kInt) (z := (0 : Int)) rfl el26 rfl gr3 z3 rfl c7574.1 c7574.2) ?_
     rintro _ _ ⟨v7575, rfl, rfl⟩
     refine CT.list (l' := [8, 10]) rfl <| CT.step ?_
     refine CTc.yes rfl ?_ ?_
     ·refine CStep1.p rfl rfl rfl (.s 9 rfl (.s 13 rfl .nil)) rfl (q_build (is := [0, 1]) (xs := [.tmp 9, .tmp 13]) (L := [HdA v7573, HdA v7575]) rfl rfl z33 pl33 rfl rfl (.cons (CellsOf.one rfl) (.cons (CellsOf.one rfl) .nil)) rfl) <| CT.list (l' := [10]) rfl <| CT.step ?_
      refine CTc.yes rfl ?_ ?_
      ·refine CStep1.w0 [2] (fun h => absurd h (by decide)) rfl rfl rfl (.s 3 rfl (.s 14 rfl .nil)) rfl (w_store (L := [HdA v7573, HdA v7575]) rfl sh33 (CellsOf.agg _) rfl rfl (leB rfl) rfl) ?_
       rintro _ _ ⟨rfl, rfl⟩
       refine CT.list (l' := []) rfl <| CT.nil <| QN.to (StTo.still [0] 3 rfl rfl) <| QN.order [2, 1, 0] rfl ?_
       exact QN.weaken (.one rfl (.one rfl (.nil _))) (Kj7535 (v7573, v7575) h)
      exact CTc.end
     refine CTc.no rfl ?_
     exact CTc.end
    refine CTc.no rfl <| CTc.no rfl ?_
    exact CTc.end
   refine CTc.yes rfl ?_ ?_
   ·refine CStep1.w [] (fun _ => rfl) rfl rfl rfl rfl (.s 12 rfl (.s 12 rfl .nil)) rfl (w_make (kd := kInt) (z := (0 : Int)) rfl el26 rfl gr3 z3 rfl c7574.1 c7574.2) ?_
    rintro _ _ ⟨v7575, rfl, rfl⟩
    refine CT.list (l' := [3, 8, 10]) rfl <| CT.step ?_
    refine CTc.yes rfl ?_ ?_
    ·refine CStep1.w [] (fun _ => rfl) rfl rfl rfl rfl (.s 8 rfl (.s 8 rfl .nil)) rfl (w_make (kd := kInt) (z := (0 : Int)) rfl el26 rfl gr3 z3 rfl c7572.1 c7572.2) ?_
     rintro _ _ ⟨v7573, rfl, rfl⟩
     refine CT.list (l' := [8, 10]) rfl <| CT.step ?_
     refine CTc.yes rfl ?_ ?_
     ·refine CStep1.p rfl rfl rfl (.s 9 rfl (.s 13 rfl .nil)) rfl (q_build (is := [0, 1]) (xs := [.tmp 9, .tmp 13]) (L := [HdA v7573, HdA v7575]) rfl rfl z33 pl33 rfl rfl (.cons (CellsOf.one rfl) (.cons (CellsOf.one rfl) .nil)) rfl) <| CT.list (l' := [10]) rfl <| CT.step ?_
      refine CTc.yes rfl ?_ ?_
      ·refine CStep1.w0 [2] (fun h => absurd h (by decide)) rfl rfl rfl (.s 3 rfl (.s 14 rfl .nil)) rfl (w_store (L := [HdA v7573, HdA v7575]) rfl sh33 (CellsOf.agg _) rfl rfl (leB rfl) rfl) ?_
       rintro _ _ ⟨rfl, rfl⟩
       refine CT.list (l' := []) rfl <| CT.nil <| QN.to (StTo.still [0] 3 rfl rfl) <| QN.order [2, 0, 0] rfl ?_
       exact QN.weaken (.one rfl (.one rfl (.nil _))) (Kj7535 (v7573, v7575) h)
      exact CTc.end
     refine CTc.no rfl ?_
     exact CTc.end
    refine CTc.no rfl <| CTc.no rfl ?_
    exact CTc.end
   refine CTc.no rfl <| CTc.no rfl ?_
   exact CTc.end
  refine CTc.no rfl ?_
  exact CTc.end
end Go.Proofs.YtelpgjfojhcjcaaGreat
