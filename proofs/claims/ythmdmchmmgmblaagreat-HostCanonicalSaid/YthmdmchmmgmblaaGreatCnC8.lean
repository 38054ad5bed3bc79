/- The Go functions compute the pure ones. (Printed by gen.py.) -/
import Derived.Test.YthmdmchmmgmblaaGreatCnC7
namespace Go.Proofs.YthmdmchmmgmblaaGreat
open Go Go.Abs
attribute [local irreducible] Tryz.prog
theorem ref15_node.con (k : Nat) (a0 : Types) (a1 : Int) (a2 : (List Int)) (r : Int) (h : ref15_node k a0 a1 a2 = some r) : Con Tryz.prog 52 [] [AggA [SlcA kNodeType a0.fNodes, SlcA kEdgeType a0.fEdges], iA a1, SlcA kInt a2] (RA (iA r)) := by
 unfold ref15_node at h
 refine Con.of (N := 60) Tryz.func52 rfl rfl rfl fun w0_ fg_ => sr <| p1 rfl 0 rfl (q_box rfl (CellsOf.agg _)) <| ak rfl <| nt <| W.seq <| sr <| mv rfl rfl <| fd rfl rfl fo25_0 rfl <| ld rfl rfl sh22 ?_
 refine p1 rfl 12 rfl (q_len rfl elS22) <| p2 rfl 10 rfl 13 rfl (q_int rfl rfl) <| nt ?_
 refine W.condP h rfl (fun hb100 h => ?_) (fun hb100 h => ?_)
 ·refine sr <| ak rfl <| WL.nil <| QN.weaken (env' := [(6, _)]) (.one rfl (.nil _)) <| QN.then_ <| W.ret <| QR.then_ ?_
  cases h
  exact QR.f1 rfl rfl (.t rfl) (.id _)
 ·refine W.skip <| QN.weaken (env' := [(3, _), (2, _), (1, _)]) (.o2 rfl (.one rfl (.nil _))) <| QN.then_ <| W.seq <| sr <| fd rfl rfl fo25_0 rfl <| ld rfl rfl sh22 <| mv rfl rfl ?_
  obtain ⟨c101, h⟩ := ite_n h
  refine p2 rfl 16 rfl 17 rfl (q_index rfl el22 rfl c101.1 c101.2) <| fd rfl rfl fo120_2 rfl <| ld rfl rfl sh4 <| nt ?_
  refine W.condP h rfl (fun hb102 h => ?_) (fun hb102 h => ?_)
  ·refine sr <| ak rfl <| WL.nil <| QN.weaken (env' := [(6, _)]) (.one rfl (.nil _)) <| QN.then_ <| W.ret <| QR.then_ ?_
   cases h
   exact QR.f1 rfl rfl (.t rfl) (.id _)
  ·refine W.skip <| QN.then_ <| sr <| lS rfl rfl sh25 rfl rfl <| mv rfl rfl ?_
   obtain ⟨t103, ht103, h⟩ := bind_s h
   refine p2 rfl 22 rfl 23 rfl (q_call (f := 68) (A := TupA [SlcA kAttr t103.1, iA t103.2]) (xs := [.tmp 22, .tmp 23]) («as» := [AggA [SlcA kNodeType a0.fNodes, SlcA kEdgeType a0.fEdges], iA a1]) rfl ca68 (ref04_Attrs.con k a0 a1 t103 ht103) rfl) <| mv rfl rfl <| p1 rfl 21 rfl (q_extract rfl rfl) <| p1 rfl 21 rfl (q_extract rfl rfl) <| av rfl rfl <| av rfl rfl <| WL.nil <| QN.weaken (env' := [(7, _), (2, _)]) (.o2 rfl (.nil _)) <| QN.then_ <| W.seq <| sr <| mv rfl rfl ?_
   refine p1 rfl 27 rfl (q_len rfl elS26) <| mv rfl rfl <| p1 rfl 29 rfl (q_len rfl elS118) <| p2 rfl 28 rfl 30 rfl (q_int rfl rfl) <| nt ?_
   refine W.condP h rfl (fun hb104 h => ?_) (fun hb104 h => ?_)
   ·refine sr <| ak rfl <| WL.nil <| QN.weaken (env' := [(6, _)]) (.one rfl (.nil _)) <| QN.then_ <| W.ret <| QR.then_ ?_
    cases h
    exact QR.f1 rfl rfl (.t rfl) (.id _)
   ·refine W.skip <| QN.then_ <| W.seq <| sr <| ak rfl <| nt <| W.block ?_
    refine W.loop1 (Γ := Unit) (fun (_ : Unit) (x9 : Int) => [(2, SlcA kInt a2), (7, SlcA kAttr t103.1), (9, iA x9)]) (fun (_ : Unit) (_ : Int) => []) h () (.o2 rfl (.one rfl (.nil _))) rfl (fun rec0 K0 next0 _ x9 h => ?_)
    unfold ref15_node.b0 at h
    refine W.seq <| sr <| mv rfl rfl <| mv rfl rfl <| p1 rfl 33 rfl (q_len rfl elS118) <| p2 rfl 32 rfl 34 rfl (q_int rfl rfl) <| nt ?_
    refine W.condP h rfl (fun hb145 h => ?_) (fun hb145 h => ?_)
    ·refine W.skip <| QN.then_ <| W.seq <| W.block <| W.seq ?_
     refine W.jn1 (Γ := Unit) (fun (_ : Unit) (x59 : Bool) => [(2, SlcA kInt a2), (7, SlcA kAttr t103.1), (9, iA x9), (59, bA x59)]) (fun (_ : Unit) (_ : Bool) => []) h (fun _ x59 h => ?_) (fun j157 Kj157 h => ?_)
     ·refine QN.then_ ?_
      refine W.condP h rfl (fun hb158 h => ?_) (fun hb158 h => ?_)
      ·refine sr <| ak rfl <| nt <| W.ret <| QR.block <| QR.then_ <| QR.then_ <| QR.block <| QR.then_ ?_
       cases h
       exact QR.f1 rfl rfl (.t rfl) (.id _)
      ·refine W.skip <| QN.block <| QN.then_ <| W.region <| mv rfl rfl ?_
       obtain ⟨c159, h⟩ := ite_n h
       refine pk rfl 36 rfl (q_addR rfl c159) <| av rfl rfl <| WL.nil ?_
       exact next0 () (x9 + 1) _ h (.o2 rfl (.one rfl (.nil _)))
     ·refine W.drawK [(0, false), (1, false), (2, false), (3, false), (4, false), (5, false), (6, false), (7, false), (8, false), (9, false), (10, false), (11, false), (12, false), (13, false), (14, false), (15, false), (16, false), (17, false), (18, false), (19, false), (20, false), (21, false)] [] (bm [0, 0, 3, 7, 0, 0, 48, 112, 240, 511, 1023, 2047, 2047, 8191, 16383, 2047, 2047, 100351, 231423, 493567, 1048575, 2097151]) mx (by kernel_rfl) <| dm rfl rfl rfl <| dm rfl rfl rfl ?_
      obtain ⟨c160, h⟩ := ite_n h
      refine DK.cons rfl rfl (.p rfl (.s 38 rfl (.s 39 rfl .nil)) rfl (q_index rfl el26 rfl c160.1 c160.2)) <| dl rfl rfl rfl sh3 <| dm rfl rfl rfl <| dm rfl rfl rfl ?_
      obtain ⟨c161, h⟩ := ite_n h
      refine DK.cons rfl rfl (.p rfl (.s 42 rfl (.s 43 rfl .nil)) rfl (q_index rfl el118 rfl c161.1 c161.2)) <| df rfl rfl rfl fo117_1 rfl <| dl rfl rfl rfl sh3 <| DK.cons rfl rfl (.p rfl (.s 41 rfl (.s 46 rfl .nil)) rfl (q_int rfl rfl)) <| dm rfl rfl rfl ?_
      rcases bif_s h with ⟨hb162, h⟩ | ⟨hb162, h⟩
      ·refine dx rfl rfl rfl hb162 <| dx rfl rfl rfl hb162 <| dx rfl rfl rfl hb162 <| dx rfl rfl rfl hb162 <| dx rfl rfl rfl hb162 <| dx rfl rfl rfl hb162 <| dx rfl rfl rfl hb162 <| dx rfl rfl rfl hb162 <| dx rfl rfl rfl hb162 <| dx rfl rfl rfl hb162 <| DK.cons rfl rfl (.p rfl (.s 48 rfl (.k .nil)) rfl (q_pickT rfl hb162)) <| DK.nil <| CSteps.nil ?_
       exact QN.weaken (.o4 rfl (.nil _)) (Kj157 () true h)
      ·refine DK.cons rfl rfl (.gp rfl rfl rfl hb162 (.s 2 rfl .nil) rfl (q_move rfl)) <| DK.cons rfl rfl (.gp rfl rfl rfl hb162 (.s 9 rfl .nil) rfl (q_move rfl)) ?_
       obtain ⟨c163, h⟩ := ite_n h
       refine DK.cons rfl rfl (.gp rfl rfl rfl hb162 (.s 49 rfl (.s 50 rfl .nil)) rfl (q_index rfl el26 rfl c163.1 c163.2)) <| DK.cons rfl rfl (.gp rfl rfl rfl hb162 (.s 51 rfl .nil) rfl (q_load rfl sh3)) <| DK.cons rfl rfl (.gp rfl rfl rfl hb162 (.s 7 rfl .nil) rfl (q_move rfl)) <| DK.cons rfl rfl (.gp rfl rfl rfl hb162 (.s 9 rfl .nil) rfl (q_move rfl)) ?_
       obtain ⟨c164, h⟩ := ite_n h
       refine DK.cons rfl rfl (.gp rfl rfl rfl hb162 (.s 53 rfl (.s 54 rfl .nil)) rfl (q_index rfl el118 rfl c164.1 c164.2)) <| DK.cons rfl rfl (.gp rfl rfl rfl hb162 (.s 55 rfl .nil) rfl (q_field rfl fo117_2 rfl)) <| DK.cons rfl rfl (.gp rfl rfl rfl hb162 (.s 56 rfl .nil) rfl (q_load rfl sh3)) <| DK.cons rfl rfl (.gp rfl rfl rfl hb162 (.s 52 rfl (.s 57 rfl .nil)) rfl (q_int rfl rfl)) <| DK.cons rfl rfl (.p rfl (.s 48 rfl (.s 58 rfl .nil)) rfl (q_pickF rfl hb162)) <| DK.nil <| CSteps.nil ?_
       exact QN.weaken (.o4 rfl (.nil _)) (Kj157 () (decide ((rd a2 x9) > (rd t103.1 x9).fHigh)) h)
    ·refine W.exit <| QX.then_ <| QX.then_ <| QX.here <| QN.weaken (env' := []) (.nil _) <| QN.then_ <| sr <| ak rfl <| nt <| W.ret ?_
     cases h
     exact QR.f1 rfl rfl (.t rfl) (.id _)
theorem ref04_Below1.con : ∀ (k : Nat) (a0 : Types) (a1 : Int) (a2 : Int) (r : Bool) (_ : ref04_Below1 k a0 a1 a2 = some r), Con Tryz.prog 56 [] [AggA [SlcA kNodeType a0.fNodes, SlcA kEdgeType a0.fEdges], iA a1, iA a2] (RA (bA r)) := by
 intro k
 induction k with
 | zero => intro a0 a1 a2 r h; cases h
 | succ k ih =>
  intro a0 a1 a2 r h
  change ref04_Below1.main (ref04_Below1 k) k a0 a1 a2 = some r at h
  unfold ref04_Below1.main at h
  refine Con.of (N := 25) Tryz.func56 rfl rfl rfl fun w0_ fg_ => sr <| p1 rfl 0 rfl (q_box rfl (CellsOf.agg _)) <| ak rfl <| nt <| W.seq ?_
  refine W.jn1 (Γ := Unit) (fun (_ : Unit) (x6 : Bool) => [(6, bA x6)]) (fun (_ : Unit) (_ : Bool) => []) h (fun _ x6 h => ?_) (fun j109 Kj109 h => ?_)
  ·refine QN.then_ <| W.ret ?_
   cases h
   exact QR.f1 rfl rfl (.t rfl) (.id _)
  ·refine W.drawK [(0, false), (1, false), (2, false), (3, false), (4, false), (5, false), (6, false), (7, false), (8, false), (9, false), (10, false), (11, false), (12, false), (13, false), (14, false), (15, false), (16, false), (17, false), (18, false)] [] (bm [0, 0, 3, 7, 15, 31, 63, 127, 127, 383, 127, 1919, 3967, 8063, 127, 32767, 65535, 131071, 262143]) mx (by kernel_rfl) <| dm rfl rfl rfl <| dm rfl rfl rfl <| DK.cons rfl rfl (.p rfl (.s 7 rfl (.s 8 rfl .nil)) rfl (q_int rfl rfl)) <| dm rfl rfl rfl ?_
   rcases bif_s h with ⟨hb110, h⟩ | ⟨hb110, h⟩
   ·refine dx rfl rfl rfl hb110 <| dx rfl rfl rfl hb110 <| dx rfl rfl rfl hb110 <| DK.cons rfl rfl (.und rfl rfl rfl) <| DK.cons rfl rfl (.und rfl rfl rfl) <| DK.cons rfl rfl (.und rfl rfl rfl) <| DK.cons rfl rfl (.und rfl rfl rfl) <| DK.cons rfl rfl (.und rfl rfl rfl) <| DK.cons rfl rfl (.und rfl rfl rfl) <| DK.cons rfl rfl (.und rfl rfl rfl) <| DK.cons rfl rfl (.und rfl rfl rfl) <| DK.cons rfl rfl (.und rfl rfl rfl) <| dx rfl rfl rfl hb110 ?_
    refine DK.cons rfl rfl (.p rfl (.s 10 rfl (.k .nil)) rfl (q_pickT rfl hb110)) <| DK.cons rfl rfl (.p rfl (.s 24 rfl .nil) rfl (q_assign rfl)) <| DK.nil <| CSteps.nil ?_
    exact QN.weaken (.one rfl (.nil _)) (Kj109 () true h)
   ·refine DK.cons rfl rfl (.gp rfl rfl rfl hb110 (.s 1 rfl .nil) rfl (q_move rfl)) <| DK.cons rfl rfl (.gp rfl rfl rfl hb110 (.s 11 rfl (.k .nil)) rfl (q_int rfl rfl)) <| DK.cons rfl rfl (.gp rfl rfl rfl hb110 (.s 12 rfl .nil) rfl (q_move rfl)) ?_
    rcases bif_s h with ⟨hb111, h⟩ | ⟨hb111, h⟩
    ·refine DK.cons rfl rfl (.gp rfl rfl rfl hb111 (.s 3 rfl .nil) rfl (q_loadS rfl sh25 (leB rfl) rfl)) <| DK.cons rfl rfl (.gp rfl rfl rfl hb111 (.s 3 rfl .nil) rfl (q_field rfl fo25_0 rfl)) <| DK.cons rfl rfl (.gp rfl rfl rfl hb111 (.s 15 rfl .nil) rfl (q_load rfl sh22)) <| DK.cons rfl rfl (.gp rfl rfl rfl hb111 (.s 1 rfl .nil) rfl (q_move rfl)) ?_
     obtain ⟨c112, h⟩ := ite_n h
     refine DK.cons rfl rfl (.gp rfl rfl rfl hb111 (.s 16 rfl (.s 17 rfl .nil)) rfl (q_index rfl el22 rfl c112.1 c112.2)) <| DK.cons rfl rfl (.gp rfl rfl rfl hb111 (.s 18 rfl .nil) rfl (q_field rfl fo120_1 rfl)) <| DK.cons rfl rfl (.gp rfl rfl rfl hb111 (.s 19 rfl .nil) rfl (q_load rfl sh3)) <| DK.cons rfl rfl (.gp rfl rfl rfl hb111 (.s 2 rfl .nil) rfl (q_move rfl)) ?_
     obtain ⟨t113, ht113, h⟩ := bind_s h
     refine DK.cons rfl rfl (.gp rfl rfl rfl hb111 (.s 14 rfl (.s 20 rfl (.s 21 rfl .nil))) rfl (q_call (f := 56) (A := bA t113) (xs := [.tmp 14, .tmp 20, .tmp 21]) («as» := [AggA [SlcA kNodeType a0.fNodes, SlcA kEdgeType a0.fEdges], iA ((rd a0.fNodes a1).fParent), iA a2]) rfl ca56 (ih a0 ((rd a0.fNodes a1).fParent) a2 t113 ht113) rfl)) <| DK.cons rfl rfl (.gp rfl rfl rfl hb110 (.s 13 rfl (.s 22 rfl .nil)) rfl (q_pickT rfl hb111)) <| DK.cons rfl rfl (.p rfl (.s 10 rfl (.s 23 rfl .nil)) rfl (q_pickF rfl hb110)) <| DK.cons rfl rfl (.p rfl (.s 24 rfl .nil) rfl (q_assign rfl)) <| DK.nil <| CSteps.nil ?_
     exact QN.weaken (.one rfl (.nil _)) (Kj109 () t113 h)
    ·refine dx rfl rfl rfl hb111 <| dx rfl rfl rfl hb111 <| dx rfl rfl rfl hb111 <| dx rfl rfl rfl hb111 <| dx rfl rfl rfl hb111 <| dx rfl rfl rfl hb111 <| dx rfl rfl rfl hb111 <| dx rfl rfl rfl hb111 <| dx rfl rfl rfl hb111 <| DK.cons rfl rfl (.gp rfl rfl rfl hb110 (.s 13 rfl (.k .nil)) rfl (q_pickF rfl hb111)) <| DK.cons rfl rfl (.p rfl (.s 10 rfl (.s 23 rfl .nil)) rfl (q_pickF rfl hb110)) <| DK.cons rfl rfl (.p rfl (.s 24 rfl .nil) rfl (q_assign rfl)) <| DK.nil ?_
     refine CSteps.nil ?_
     exact QN.weaken (.one rfl (.nil _)) (Kj109 () false h)
theorem ref04_Fits.con (k : Nat) (a0 : Types) (a1 : Int) (a2 : Int) (a3 : Int) (r : Bool) (h : ref04_Fits k a0 a1 a2 a3 = some r) : Con Tryz.prog 53 [] [AggA [SlcA kNodeType a0.fNodes, SlcA kEdgeType a0.fEdges], iA a1, iA a2, iA a3] (RA (bA r)) := by
 unfold ref04_Fits at h
 refine Con.of (N := 43) Tryz.func53 rfl rfl rfl fun w0_ fg_ => sr <| p1 rfl 0 rfl (q_box rfl (CellsOf.agg _)) <| ak rfl <| nt <| W.seq <| W.seq ?_
 refine W.jn1 (Γ := Unit) (fun (_ : Unit) (x22 : Bool) => [(1, iA a1), (2, iA a2), (3, iA a3), (4, PtrA [SlcA kNodeType a0.fNodes, SlcA kEdgeType a0.fEdges]), (22, bA x22)]) (fun (_ : Unit) (_ : Bool) => []) h (fun _ x22 h => ?_) (fun j105 Kj105 h => ?_)
 ·refine QN.then_ ?_
  refine W.condP h rfl (fun hb106 h => ?_) (fun hb106 h => ?_)
  ·refine sr <| ak rfl <| nt <| W.ret <| QR.then_ ?_
   cases h
   exact QR.f1 rfl rfl (.t rfl) (.id _)
  ·refine W.skip <| QN.then_ <| W.seq ?_
   refine W.jn1 (Γ := Unit) (fun (_ : Unit) (x8 : Bool) => [(8, bA x8)]) (fun (_ : Unit) (_ : Bool) => []) h (fun _ x8 h => ?_) (fun j118 Kj118 h => ?_)
   ·refine QN.then_ <| W.ret ?_
    cases h
    exact QR.f1 rfl rfl (.t rfl) (.id _)
   ·refine W.drawK [(0, false), (1, false), (2, false), (3, false), (4, false), (5, false), (6, false), (7, false), (8, false), (9, false), (10, false), (11, false), (12, false), (13, false), (14, false), (15, false), (16, false), (17, false), (18, false), (19, false), (20, false)] [] (bm [0, 0, 0, 4, 0, 28, 60, 124, 255, 511, 1023, 1023, 1023, 5119, 1023, 29695, 62463, 127999, 262143, 524287, 1048575]) mx (by kernel_rfl) <| DK.cons rfl rfl (.p rfl (.s 4 rfl .nil) rfl (q_loadS rfl sh25 (leB rfl) rfl)) <| dm rfl rfl rfl <| df rfl rfl rfl fo25_1 rfl <| dl rfl rfl rfl sh23 <| dm rfl rfl rfl ?_
    obtain ⟨c119, h⟩ := ite_n h
    refine DK.cons rfl rfl (.p rfl (.s 26 rfl (.s 27 rfl .nil)) rfl (q_index rfl el23 rfl c119.1 c119.2)) <| df rfl rfl rfl fo60_1 rfl <| dl rfl rfl rfl sh3 ?_
    obtain ⟨t120, ht120, h⟩ := bind_s h
    refine DK.cons rfl rfl (.p rfl (.s 23 rfl (.s 24 rfl (.s 30 rfl .nil))) rfl (q_call (f := 56) (A := bA t120) (xs := [.tmp 23, .tmp 24, .tmp 30]) («as» := [AggA [SlcA kNodeType a0.fNodes, SlcA kEdgeType a0.fEdges], iA a2, iA ((rd a0.fEdges a1).fFrom)]) rfl ca56 (ref04_Below1.con k a0 a2 ((rd a0.fEdges a1).fFrom) t120 ht120) rfl)) <| dm rfl rfl rfl ?_
    rcases bif_s h with ⟨hb121, h⟩ | ⟨hb121, h⟩
    ·refine DK.cons rfl rfl (.gp rfl rfl rfl hb121 (.s 4 rfl .nil) rfl (q_loadS rfl sh25 (leB rfl) rfl)) <| DK.cons rfl rfl (.gp rfl rfl rfl hb121 (.s 3 rfl .nil) rfl (q_move rfl)) <| DK.cons rfl rfl (.gp rfl rfl rfl hb121 (.s 4 rfl .nil) rfl (q_field rfl fo25_1 rfl)) <| DK.cons rfl rfl (.gp rfl rfl rfl hb121 (.s 35 rfl .nil) rfl (q_load rfl sh23)) <| DK.cons rfl rfl (.gp rfl rfl rfl hb121 (.s 1 rfl .nil) rfl (q_move rfl)) ?_
     obtain ⟨c122, h⟩ := ite_n h
     refine DK.cons rfl rfl (.gp rfl rfl rfl hb121 (.s 36 rfl (.s 37 rfl .nil)) rfl (q_index rfl el23 rfl c122.1 c122.2)) <| DK.cons rfl rfl (.gp rfl rfl rfl hb121 (.s 38 rfl .nil) rfl (q_field rfl fo60_2 rfl)) <| DK.cons rfl rfl (.gp rfl rfl rfl hb121 (.s 39 rfl .nil) rfl (q_load rfl sh3)) ?_
     obtain ⟨t123, ht123, h⟩ := bind_s h
     refine DK.cons rfl rfl (.gp rfl rfl rfl hb121 (.s 33 rfl (.s 34 rfl (.s 40 rfl .nil))) rfl (q_call (f := 56) (A := bA t123) (xs := [.tmp 33, .tmp 34, .tmp 40]) («as» := [AggA [SlcA kNodeType a0.fNodes, SlcA kEdgeType a0.fEdges], iA a3, iA ((rd a0.fEdges a1).fTo)]) rfl ca56 (ref04_Below1.con k a0 a3 ((rd a0.fEdges a1).fTo) t123 ht123) rfl)) <| DK.cons rfl rfl (.p rfl (.s 32 rfl (.s 41 rfl .nil)) rfl (q_pickT rfl hb121)) <| DK.cons rfl rfl (.p rfl (.s 42 rfl .nil) rfl (q_assign rfl)) <| DK.nil <| CSteps.nil ?_
     exact QN.weaken (.one rfl (.nil _)) (Kj118 () t123 h)
    ·refine dx rfl rfl rfl hb121 <| dx rfl rfl rfl hb121 <| dx rfl rfl rfl hb121 <| dx rfl rfl rfl hb121 <| dx rfl rfl rfl hb121 <| dx rfl rfl rfl hb121 <| dx rfl rfl rfl hb121 <| dx rfl rfl rfl hb121 <| dx rfl rfl rfl hb121 <| DK.cons rfl rfl (.p rfl (.s 32 rfl (.k .nil)) rfl (q_pickF rfl hb121)) <| DK.cons rfl rfl (.p rfl (.s 42 rfl .nil) rfl (q_assign rfl)) <| DK.nil <| CSteps.nil ?_
     exact QN.weaken (.one rfl (.nil _)) (Kj118 () false h)
 ·refine W.region <| lS rfl rfl sh25 rfl rfl <| mv rfl rfl <| mv rfl rfl ?_
  obtain ⟨t124, ht124, h⟩ := bind_s h
  refine WL.p rfl rfl rfl (.s 9 rfl (.s 10 rfl (.s 11 rfl .nil))) (q_call (f := 100) (A := iA t124) (xs := [.tmp 9, .tmp 10, .tmp 11]) («as» := [AggA [SlcA kNodeType a0.fNodes, SlcA kEdgeType a0.fEdges], iA a2, iA a3]) rfl ca100 (ref04_given.con k a0 a2 a3 t124 ht124) rfl) <| pk rfl 12 rfl (q_int rfl rfl) <| mv rfl rfl ?_
  rcases bif_s h with ⟨hb125, h⟩ | ⟨hb125, h⟩
  ·refine sk rfl rfl rfl hb125 <| sk rfl rfl rfl hb125 <| sk rfl rfl rfl hb125 <| sk rfl rfl rfl hb125 <| sk rfl rfl rfl hb125 <| sk rfl rfl rfl hb125 <| sk rfl rfl rfl hb125 <| pk rfl 14 rfl (q_pickT rfl hb125) <| WL.nil ?_
   exact QN.weaken (.o4 rfl (.one rfl (.nil _))) (Kj105 () true h)
  ·refine wm rfl rfl rfl hb125 rfl rfl <| wf rfl rfl rfl hb125 rfl rfl fo25_1 rfl <| wl rfl rfl rfl hb125 rfl rfl sh23 <| wq rfl rfl rfl hb125 (.s 17 rfl .nil) (q_len rfl elS23).o ?_
   obtain ⟨c126, h⟩ := ite_n h
   refine wq rfl rfl rfl hb125 (.s 18 rfl (.k .nil)) (q_subR rfl c126).o ?_
   obtain ⟨t127, ht127, h⟩ := bind_s h
   refine wq rfl rfl rfl hb125 (.s 15 rfl (.k (.s 19 rfl .nil))) (q_call (f := 101) (A := bA t127) (xs := [.tmp 15, .const (.int .i64 0), .tmp 19]) («as» := [iA a1, iA 0, iA ((a0.fEdges.length : Int) - 1)]) rfl ca101 (ref04_in.con k a1 0 ((a0.fEdges.length : Int) - 1) t127 ht127) rfl).o <| wq rfl rfl rfl hb125 (.s 20 rfl .nil) (q_not rfl).o <| p2 rfl 14 rfl 21 rfl (q_pickF rfl hb125) <| WL.nil ?_
   exact QN.weaken (.o4 rfl (.one rfl (.nil _))) (Kj105 () (!t127) h)
theorem ref15_Valid.con (k : Nat) (a0 : Types) (a1 : Host) (r : (Int × Int)) (h : ref15_Valid k a0 a1 = some r) : Con Tryz.prog 15 [] [AggA [SlcA kNodeType a0.fNodes, SlcA kEdgeType a0.fEdges], AggA [SlcA kInt a1.fGraph.fNodes, SlcA kEdge a1.fGraph.fEdges, SlcA (kSl kInt) a1.fValues]] (RA (TupA [iA r.1, iA r.2])) := by
 unfold ref15_Valid at h
 refine Con.of (N := 101) Tryz.func15 rfl rfl rfl fun w0_ fg_ => sr <| p1 rfl 0 rfl (q_box rfl (CellsOf.agg _)) <| p1 rfl 1 rfl (q_box rfl (CellsOf.agg _)) <| ak rfl <| ak rfl <| nt <| W.seq <| sr <| lS rfl rfl sh25 rfl rfl ?_
 obtain ⟨t100, ht100, h⟩ := bind_s h
 refine p1 rfl 14 rfl (q_call (f := 50) (A := TupA [EqA (strV t100.1), iA t100.2]) (xs := [.tmp 14]) («as» := [AggA [SlcA kNodeType a0.fNodes, SlcA kEdgeType a0.fEdges]]) rfl ca50 (ref04_Valid.con k a0 t100 ht100) rfl) <| mv rfl rfl <| p1 rfl 13 rfl (q_extract rfl rfl) <| p1 rfl 13 rfl (q_extract rfl rfl) <| av rfl rfl <| av rfl rfl <| WL.nil <| QN.weaken (env' := [(7, _), (3, _), (2, _)]) (.o2 rfl (.one rfl (.nil _))) <| QN.then_ <| sr <| mv rfl rfl <| pk rfl 18 rfl (q_int rfl rfl) ?_
 refine nt ?_
 refine W.condP h rfl (fun hb101 h => ?_) (fun hb101 h => ?_)
 ·refine sr <| mv rfl rfl <| ak rfl <| av rfl rfl <| nt <| W.ret <| QR.then_ ?_
  cases h
  exact QR.f2 rfl rfl (.t rfl) (.t rfl) (.id _)
 ·refine W.skip <| QN.then_ <| W.seq <| sr <| fd rfl rfl fo32_0 rfl <| lS rfl rfl sh29 rfl rfl ?_
  obtain ⟨t102, ht102, h⟩ := bind_s h
  refine p1 rfl 22 rfl (q_call (f := 51) (A := iA t102) (xs := [.tmp 22]) («as» := [AggA [SlcA kInt a1.fGraph.fNodes, SlcA kEdge a1.fGraph.fEdges]]) rfl ca51 (ref05_Valid.con k a1.fGraph t102 ht102) rfl) <| av rfl rfl <| nx <| mv rfl rfl <| pk rfl 24 rfl (q_int rfl rfl) <| WL.nil <| QN.weaken (env' := [(25, _), (8, _), (3, _), (2, _)]) (.o4 rfl (.nil _)) <| QN.then_ ?_
  refine W.condP h rfl (fun hb103 h => ?_) (fun hb103 h => ?_)
  ·refine sr <| mv rfl rfl <| ak rfl <| av rfl rfl <| nt <| W.ret <| QR.then_ ?_
   cases h
   exact QR.f2 rfl rfl (.t rfl) (.t rfl) (.id _)
  ·refine W.skip <| QN.then_ <| W.seq <| sr <| fd rfl rfl fo32_1 rfl <| ld rfl rfl sh30 <| p1 rfl 28 rfl (q_len rfl elS30) <| fd rfl rfl fo32_0 rfl <| fd rfl rfl fo29_0 rfl <| ld rfl rfl sh26 <| p1 rfl 32 rfl (q_len rfl elS26) <| p2 rfl 29 rfl 33 rfl (q_int rfl rfl) ?_
   refine WL.nil <| QN.weaken (env' := [(34, _), (3, _), (2, _)]) (.o2 rfl (.one rfl (.nil _))) <| QN.then_ ?_
   refine W.condP h rfl (fun hb104 h => ?_) (fun hb104 h => ?_)
   ·refine sr <| ak rfl <| ak rfl <| nt <| W.ret <| QR.then_ ?_
    cases h
    exact QR.f2 rfl rfl (.t rfl) (.t rfl) (.id _)
   ·refine W.skip <| QN.then_ <| W.seq <| sr <| ak rfl <| nt <| W.block ?_
    refine W.loop1 (Γ := Unit) (fun (_ : Unit) (x9 : Int) => [(2, PtrA [SlcA kNodeType a0.fNodes, SlcA kEdgeType a0.fEdges]), (3, PtrA [SlcA kInt a1.fGraph.fNodes, SlcA kEdge a1.fGraph.fEdges, SlcA (kSl kInt) a1.fValues]), (9, iA x9)]) (fun (_ : Unit) (_ : Int) => []) h () (.o2 rfl (.one rfl (.nil _))) rfl (fun rec0 K0 next0 _ x9 h => ?_)
    unfold ref15_Valid.b0 at h
    refine W.seq <| sr <| mv rfl rfl <| fd rfl rfl fo32_0 rfl <| fd rfl rfl fo29_0 rfl <| ld rfl rfl sh26 <| p1 rfl 38 rfl (q_len rfl elS26) <| p2 rfl 35 rfl 39 rfl (q_int rfl rfl) <| nt ?_
    refine W.condP h rfl (fun hb219 h => ?_) (fun hb219 h => ?_)
    ·refine W.skip <| QN.then_ <| W.seq <| W.block <| W.seq <| W.drawK [(0, false), (1, false), (2, false), (3, false), (4, false), (5, false), (6, false), (7, false), (8, false), (9, false), (10, false), (11, false), (12, false), (13, false)] [] (bm [0, 0, 2, 6, 0, 30, 62, 0, 128, 0, 896, 1920, 4095, 8191]) mx (by kernel_rfl) <| DK.cons rfl rfl (.p rfl (.s 2 rfl .nil) rfl (q_loadS rfl sh25 (leB rfl) rfl)) <| df rfl rfl rfl fo32_0 rfl <| df rfl rfl rfl fo29_0 rfl <| dl rfl rfl rfl sh26 <| dm rfl rfl rfl ?_
     obtain ⟨c226, h⟩ := ite_n h
     refine DK.cons rfl rfl (.p rfl (.s 46 rfl (.s 47 rfl .nil)) rfl (q_index rfl el26 rfl c226.1 c226.2)) <| dl rfl rfl rfl sh3 <| df rfl rfl rfl fo32_1 rfl <| dl rfl rfl rfl sh30 <| dm rfl rfl rfl ?_
     obtain ⟨c227, h⟩ := ite_n h
     refine DK.cons rfl rfl (.p rfl (.s 51 rfl (.s 52 rfl .nil)) rfl (q_index rfl el30 rfl c227.1 c227.2)) <| dl rfl rfl rfl sh26 ?_
     obtain ⟨t228, ht228, h⟩ := bind_s h
     refine DK.cons rfl rfl (.p rfl (.s 43 rfl (.s 49 rfl (.s 54 rfl .nil))) rfl (q_call (f := 52) (A := iA t228) (xs := [.tmp 43, .tmp 49, .tmp 54]) («as» := [AggA [SlcA kNodeType a0.fNodes, SlcA kEdgeType a0.fEdges], iA (rd a1.fGraph.fNodes x9), SlcA kInt (rd a1.fValues x9)]) rfl ca52 (ref15_node.con k a0 (rd a1.fGraph.fNodes x9) (rd a1.fValues x9) t228 ht228) rfl)) <| DK.cons rfl rfl (.p rfl (.s 55 rfl .nil) rfl (q_assign rfl)) <| DK.nil <| CSteps.nil <| QN.weaken (env' := [(10, _), (9, _), (3, _), (2, _)]) (.o4 rfl (.nil _)) <| QN.then_ <| sr <| mv rfl rfl <| pk rfl 56 rfl (q_int rfl rfl) <| nt ?_
     refine W.condP h rfl (fun hb229 h => ?_) (fun hb229 h => ?_)
     ·refine sr <| mv rfl rfl <| mv rfl rfl <| av rfl rfl <| av rfl rfl <| WL.nil <| QN.weaken (env' := [(5, _), (4, _)]) (.o2 rfl (.nil _)) <| QN.then_ <| W.ret <| QR.block <| QR.then_ <| QR.then_ ?_
      refine QR.block <| QR.then_ ?_
      cases h
      exact QR.f2 rfl rfl (.t rfl) (.t rfl) (.id _)
     ·refine W.skip <| QN.block <| QN.then_ <| W.region <| mv rfl rfl ?_
      obtain ⟨c230, h⟩ := ite_n h
      refine pk rfl 41 rfl (q_addR rfl c230) <| av rfl rfl <| WL.nil ?_
      exact next0 () (x9 + 1) _ h (.o2 rfl (.one rfl (.nil _)))
    ·refine W.exit <| QX.then_ <| QX.then_ <| QX.here <| QN.weaken (env' := [(3, _), (2, _)]) (.o2 rfl (.nil _)) <| QN.then_ <| W.seq <| sr <| ak rfl <| nt <| W.block ?_
     refine W.loop1 (Γ := Unit) (fun (_ : Unit) (x11 : Int) => [(2, PtrA [SlcA kNodeType a0.fNodes, SlcA kEdgeType a0.fEdges]), (3, PtrA [SlcA kInt a1.fGraph.fNodes, SlcA kEdge a1.fGraph.fEdges, SlcA (kSl kInt) a1.fValues]), (11, iA x11)]) (fun (_ : Unit) (_ : Int) => []) h () (.o2 rfl (.one rfl (.nil _))) rfl (fun rec1 K1 next1 _ x11 h => ?_)
     unfold ref15_Valid.b1 at h
     refine W.seq <| sr <| mv rfl rfl <| fd rfl rfl fo32_0 rfl <| fd rfl rfl fo29_1 rfl <| ld rfl rfl sh27 <| p1 rfl 63 rfl (q_len rfl elS27) <| p2 rfl 60 rfl 64 rfl (q_int rfl rfl) <| nt ?_
     refine W.condP h rfl (fun hb261 h => ?_) (fun hb261 h => ?_)
     ·refine W.skip <| QN.then_ <| W.seq <| W.block <| sr <| fd rfl rfl fo32_0 rfl <| fd rfl rfl fo29_1 rfl <| ld rfl rfl sh27 <| mv rfl rfl ?_
      obtain ⟨c262, h⟩ := ite_n h
      refine p2 rfl 70 rfl 71 rfl (q_index rfl el27 rfl c262.1 c262.2) <| lS rfl rfl sh63 rfl rfl <| WL.w [] rfl (Wanted.plain rfl) rfl rfl .nil (w_alloc rfl z63 (l := [iA 0, iA 0, iA 0]) rfl) ?_
      rintro _ _ ⟨b263, rfl, rfl⟩
      refine WL.w0 [0] rfl (Wanted.plain rfl) rfl (.s 12 rfl (.s 73 rfl .nil)) (w_store (L := [iA ((rd a1.fGraph.fEdges x11).fType), iA ((rd a1.fGraph.fEdges x11).fFrom), iA ((rd a1.fGraph.fEdges x11).fTo)]) rfl sh63 (CellsOf.agg _) rfl rfl (leB rfl) rfl) ?_
      rintro _ _ ⟨rfl, rfl⟩
      refine WL.nil <| QN.to (StTo.still [0] 12 rfl rfl) <| QN.weaken (env' := [(12, _), (11, _), (3, _), (2, _)]) (.o4 rfl (.nil _)) <| QN.then_ <| W.seq <| sr <| fd rfl rfl fo63_0 rfl <| ld rfl rfl sh3 <| fd rfl rfl fo25_1 rfl <| ld rfl rfl sh23 <| p1 rfl 77 rfl (q_len rfl elS23) <| p2 rfl 75 rfl 78 rfl (q_int rfl rfl) ?_
      refine nt ?_
      refine W.condP h rfl (fun hb264 h => ?_) (fun hb264 h => ?_)
      ·refine sr <| mv rfl rfl <| av rfl rfl <| ak rfl <| WL.nil <| QN.weaken (env' := [(5, _), (4, _)]) (.o2 rfl (.nil _)) <| QN.then_ <| W.ret <| QR.then_ <| QR.block <| QR.then_ <| QR.then_ ?_
       refine QR.block <| QR.then_ ?_
       cases h
       exact QR.f2 rfl rfl (.t rfl) (.t rfl) (.id _)
      ·refine W.skip <| QN.then_ <| W.seq <| W.drawK [(0, false), (1, false), (2, false), (3, false), (4, false), (5, false), (6, false), (7, false), (8, false), (9, false), (10, false), (11, false), (12, false), (13, false), (14, false), (15, false), (16, false), (17, false), (18, false)] [] (bm [0, 0, 2, 0, 8, 24, 0, 64, 248, 504, 0, 1024, 3072, 0, 8192, 31744, 64512, 131071, 262143]) mx (by kernel_rfl) <| DK.cons rfl rfl (.p rfl (.s 2 rfl .nil) rfl (q_loadS rfl sh25 (leB rfl) rfl)) <| df rfl rfl rfl fo63_0 rfl <| dl rfl rfl rfl sh3 <| df rfl rfl rfl fo32_0 rfl <| df rfl rfl rfl fo29_0 rfl <| dl rfl rfl rfl sh26 <| df rfl rfl rfl fo63_1 rfl <| dl rfl rfl rfl sh3 ?_
       obtain ⟨c271, h⟩ := ite_n h
       refine DK.cons rfl rfl (.p rfl (.s 86 rfl (.s 88 rfl .nil)) rfl (q_index rfl el26 rfl c271.1 c271.2)) <| dl rfl rfl rfl sh3 <| df rfl rfl rfl fo32_0 rfl <| df rfl rfl rfl fo29_0 rfl <| dl rfl rfl rfl sh26 <| df rfl rfl rfl fo63_2 rfl <| dl rfl rfl rfl sh3 ?_
       obtain ⟨c272, h⟩ := ite_n h
       refine DK.cons rfl rfl (.p rfl (.s 93 rfl (.s 95 rfl .nil)) rfl (q_index rfl el26 rfl c272.1 c272.2)) <| dl rfl rfl rfl sh3 ?_
       obtain ⟨t273, ht273, h⟩ := bind_s h
       refine DK.cons rfl rfl (.p rfl (.s 81 rfl (.s 83 rfl (.s 90 rfl (.s 97 rfl .nil)))) rfl (q_call (f := 53) (A := bA t273) (xs := [.tmp 81, .tmp 83, .tmp 90, .tmp 97]) («as» := [AggA [SlcA kNodeType a0.fNodes, SlcA kEdgeType a0.fEdges], iA ((rd a1.fGraph.fEdges x11).fType), iA (rd a1.fGraph.fNodes ((rd a1.fGraph.fEdges x11).fFrom)), iA (rd a1.fGraph.fNodes ((rd a1.fGraph.fEdges x11).fTo))]) rfl ca53 (ref04_Fits.con k a0 ((rd a1.fGraph.fEdges x11).fType) (rd a1.fGraph.fNodes ((rd a1.fGraph.fEdges x11).fFrom)) (rd a1.fGraph.fNodes ((rd a1.fGraph.fEdges x11).fTo)) t273 ht273) rfl)) <| DK.cons rfl rfl (.p rfl (.s 98 rfl .nil) rfl (q_not rfl)) <| DK.nil <| CSteps.nil <| QN.weaken (env' := [(99, _), (11, _), (3, _), (2, _)]) (.o4 rfl (.nil _)) <| QN.then_ ?_
       refine W.condP h rfl (fun hb274 h => ?_) (fun hb274 h => ?_)
       ·refine sr <| mv rfl rfl <| av rfl rfl <| ak rfl <| nt <| W.ret <| QR.block <| QR.then_ <| QR.then_ <| QR.block <| QR.then_ ?_
        cases h
        exact QR.f2 rfl rfl (.t rfl) (.t rfl) (.id _)
       ·refine W.skip <| QN.block <| QN.then_ <| W.region <| mv rfl rfl ?_
        obtain ⟨c275, h⟩ := ite_n h
        refine pk rfl 66 rfl (q_addR rfl c275) <| av rfl rfl <| WL.nil ?_
        exact next1 () (x11 + 1) _ h (.o2 rfl (.one rfl (.nil _)))
     ·refine W.exit <| QX.then_ <| QX.then_ <| QX.here <| QN.weaken (env' := []) (.nil _) <| QN.then_ <| sr <| ak rfl <| ak rfl <| nt <| W.ret ?_
      cases h
      exact QR.f2 rfl rfl (.t rfl) (.t rfl) (.id _)
theorem ref15_small.con (k : Nat) (a0 : Types) (a1 : Host) (r : Int) (h : ref15_small k a0 a1 = some r) : Con Tryz.prog 61 [] [AggA [SlcA kNodeType a0.fNodes, SlcA kEdgeType a0.fEdges], AggA [SlcA kInt a1.fGraph.fNodes, SlcA kEdge a1.fGraph.fEdges, SlcA (kSl kInt) a1.fValues]] (RA (iA r)) := by
 unfold ref15_small at h
 refine Con.of (N := 21) Tryz.func61 rfl rfl rfl fun w0_ fg_ => sr <| p1 rfl 0 rfl (q_box rfl (CellsOf.agg _)) <| p1 rfl 1 rfl (q_box rfl (CellsOf.agg _)) <| ak rfl <| nt <| W.seq <| sr <| lS rfl rfl sh25 rfl rfl <| lS rfl rfl sh32 rfl rfl ?_
 obtain ⟨t100, ht100, h⟩ := bind_s h
 refine p2 rfl 8 rfl 9 rfl (q_call (f := 15) (A := TupA [iA t100.1, iA t100.2]) (xs := [.tmp 8, .tmp 9]) («as» := [AggA [SlcA kNodeType a0.fNodes, SlcA kEdgeType a0.fEdges], AggA [SlcA kInt a1.fGraph.fNodes, SlcA kEdge a1.fGraph.fEdges, SlcA (kSl kInt) a1.fValues]]) rfl ca15 (ref15_Valid.con k a0 a1 t100 ht100) rfl) <| mv rfl rfl <| p1 rfl 7 rfl (q_extract rfl rfl) <| p1 rfl 7 rfl (q_extract rfl rfl) <| av rfl rfl <| av rfl rfl <| WL.nil <| QN.weaken (env' := [(6, _), (3, _)]) (.o2 rfl (.nil _)) <| QN.then_ <| sr <| mv rfl rfl <| pk rfl 13 rfl (q_int rfl rfl) ?_
 refine nt ?_
 refine W.condP h rfl (fun hb101 h => ?_) (fun hb101 h => ?_)
 ·refine sr <| mv rfl rfl <| av rfl rfl <| nt <| W.ret <| QR.then_ ?_
  cases h
  exact QR.f1 rfl rfl (.t rfl) (.id _)
 ·refine W.skip <| QN.then_ <| W.seq <| sr <| fd rfl rfl fo32_0 rfl <| fd rfl rfl fo29_0 rfl <| ld rfl rfl sh26 <| p1 rfl 18 rfl (q_len rfl elS26) <| pk rfl 19 rfl (q_int rfl rfl) <| WL.nil <| QN.weaken (env' := [(20, _)]) (.one rfl (.nil _)) <| QN.then_ ?_
  refine W.condP h rfl (fun hb102 h => ?_) (fun hb102 h => ?_)
  ·refine sr <| ak rfl <| nt <| W.ret <| QR.then_ ?_
   cases h
   exact QR.f1 rfl rfl (.t rfl) (.id _)
  ·refine W.skip <| QN.then_ <| sr <| ak rfl <| nt <| W.ret ?_
   cases h
   exact QR.f1 rfl rfl (.t rfl) (.id _)
theorem ref15_has.con (k : Nat) (a0 : (List Int)) (a1 : Int) (r : Bool) (h : ref15_has k a0 a1 = some r) : Con Tryz.prog 119 [] [SlcA kInt a0, iA a1] (RA (bA r)) := by
 unfold ref15_has at h
 refine Con.of (N := 18) Tryz.func119 rfl rfl rfl fun w0_ fg_ => sr <| ak rfl <| nt <| W.seq <| sr <| ak rfl <| nt <| W.block ?_
 refine W.loop1 (Γ := Unit) (fun (_ : Unit) (x5 : Int) => [(0, SlcA kInt a0), (1, iA a1), (5, iA x5)]) (fun (_ : Unit) (_ : Int) => []) h () (.o2 rfl (.one rfl (.nil _))) rfl (fun rec0 K0 next0 _ x5 h => ?_)
 unfold ref15_has.b0 at h
 refine W.seq <| sr <| mv rfl rfl <| mv rfl rfl <| p1 rfl 7 rfl (q_len rfl elS26) <| p2 rfl 6 rfl 8 rfl (q_int rfl rfl) <| nt ?_
 refine W.condP h rfl (fun hb108 h => ?_) (fun hb108 h => ?_)
 ·refine W.skip <| QN.then_ <| W.seq <| W.block <| sr <| mv rfl rfl <| mv rfl rfl ?_
  obtain ⟨c109, h⟩ := ite_n h
  refine p2 rfl 12 rfl 13 rfl (q_index rfl el26 rfl c109.1 c109.2) <| ld rfl rfl sh3 <| mv rfl rfl <| p2 rfl 15 rfl 16 rfl (q_int rfl rfl) <| WL.nil <| QN.weaken (env' := [(17, _), (5, _), (1, _), (0, _)]) (.o4 rfl (.nil _)) <| QN.then_ ?_
  refine W.condP h rfl (fun hb110 h => ?_) (fun hb110 h => ?_)
  ·refine sr <| ak rfl <| nt <| W.ret <| QR.block <| QR.then_ <| QR.then_ <| QR.block <| QR.then_ ?_
   cases h
   exact QR.f1 rfl rfl (.t rfl) (.id _)
  ·refine W.skip <| QN.block <| QN.then_ <| W.region <| mv rfl rfl ?_
   obtain ⟨c111, h⟩ := ite_n h
   refine pk rfl 10 rfl (q_addR rfl c111) <| av rfl rfl <| WL.nil ?_
   exact next0 () (x5 + 1) _ h (.o2 rfl (.one rfl (.nil _)))
 ·refine W.exit <| QX.then_ <| QX.then_ <| QX.here <| QN.weaken (env' := []) (.nil _) <| QN.then_ <| sr <| ak rfl <| nt <| W.ret ?_
  cases h
  exact QR.f1 rfl rfl (.t rfl) (.id _)
theorem ref15_between.con (k : Nat) (a0 : Graph) (a1 : Int) (a2 : Int) (r : (List Int)) (h : ref15_between k a0 a1 a2 = some r) : Con Tryz.prog 79 [] [AggA [SlcA kInt a0.fNodes, SlcA kEdge a0.fEdges], iA a1, iA a2] (RA (SlcA kInt r)) := by
 unfold ref15_between at h
 refine Con.of (N := 73) Tryz.func79 rfl rfl rfl fun w0_ fg_ => sr <| p1 rfl 0 rfl (q_box rfl (CellsOf.agg _)) <| ak rfl <| nx <| ak rfl <| nt <| W.seq ?_
 refine sr <| ak rfl <| nt <| W.block ?_
 refine W.loop2 (Γ := Unit) (fun (_ : Unit) (x7 : (List Int)) (x8 : Int) => [(1, iA a1), (2, iA a2), (3, PtrA [SlcA kInt a0.fNodes, SlcA kEdge a0.fEdges]), (7, SlcA kInt x7), (8, iA x8)]) (fun (_ : Unit) (_ : (List Int)) (_ : Int) => []) h () (.o2 rfl (.one rfl (.cons rfl (Imp.nil kInt) (.one rfl (.nil _))))) rfl (fun rec0 K0 next0 _ x7 x8 h => ?_)
 unfold ref15_between.b0 at h
 refine W.seq <| sr <| mv rfl rfl <| fd rfl rfl fo29_1 rfl <| ld rfl rfl sh27 <| p1 rfl 12 rfl (q_len rfl elS27) <| p2 rfl 10 rfl 13 rfl (q_int rfl rfl) <| nt ?_
 refine W.condP h rfl (fun hb662 h => ?_) (fun hb662 h => ?_)
 ·refine W.skip <| QN.then_ <| W.seq <| W.block <| W.seq <| W.seq ?_
  refine W.jn1 (Γ := Unit) (fun (_ : Unit) (x34 : Bool) => [(1, iA a1), (2, iA a2), (3, PtrA [SlcA kInt a0.fNodes, SlcA kEdge a0.fEdges]), (7, SlcA kInt x7), (8, iA x8), (34, bA x34)]) (fun (_ : Unit) (_ : Bool) => []) h (fun _ x34 h => ?_) (fun j805 Kj805 h => ?_)
  ·refine QN.then_ ?_
   refine W.condP h rfl (fun hb806 h => ?_) (fun hb806 h => ?_)
   ·refine W.exit <| QX.then_ <| QX.here <| QN.then_ <| W.region <| mv rfl rfl ?_
    obtain ⟨c807, h⟩ := ite_n h
    refine pk rfl 15 rfl (q_addR rfl c807) <| av rfl rfl <| WL.nil ?_
    exact next0 () x7 (x8 + 1) _ h (.o4 rfl (.one rfl (.nil _)))
   ·refine W.skip <| QN.then_ <| sr <| mv rfl rfl <| p1 rfl 35 rfl (q_len rfl elS26) <| av rfl rfl <| nt <| W.seq <| W.block ?_
    refine W.loop1 (Γ := Unit) (fun (_ : Unit) (x9 : Int) => [(1, iA a1), (2, iA a2), (3, PtrA [SlcA kInt a0.fNodes, SlcA kEdge a0.fEdges]), (7, SlcA kInt x7), (8, iA x8), (9, iA x9)]) (fun (_ : Unit) (_ : Int) => []) h () (.o4 rfl (.o2 rfl (.nil _))) rfl (fun rec1 K1 next1 _ x9 h => ?_)
    unfold ref15_between.b1 at h
    refine W.seq <| W.seq ?_
    refine W.jn1 (Γ := Unit) (fun (_ : Unit) (x57 : Bool) => [(1, iA a1), (2, iA a2), (3, PtrA [SlcA kInt a0.fNodes, SlcA kEdge a0.fEdges]), (7, SlcA kInt x7), (8, iA x8), (9, iA x9), (57, bA x57)]) (fun (_ : Unit) (_ : Bool) => []) h (fun _ x57 h => ?_) (fun j907 Kj907 h => ?_)
    ·refine QN.then_ ?_
     refine W.condP h rfl (fun hb908 h => ?_) (fun hb908 h => ?_)
     ·refine W.skip <| QN.then_ <| W.block <| W.region <| mv rfl rfl ?_
      obtain ⟨c909, h⟩ := ite_n h
      refine pk rfl 58 rfl (q_subR rfl c909) <| av rfl rfl <| WL.nil <| QN.block ?_
      exact next1 () (x9 - 1) _ h (.o4 rfl (.o2 rfl (.nil _)))
     ·refine W.exit <| QX.then_ <| QX.then_ <| QX.here <| QN.then_ <| W.drawK [(0, false), (1, false), (2, false), (3, false), (5, false), (6, false), (8, false), (9, false), (10, false)] [4, 7, 11, 12] (bm [0, 0, 0, 6, 15, 0, 32, 127, 0, 0, 768, 2047, 4095]) mx (by kernel_rfl) <| DK.cons rfl rfl (.p rfl .nil rfl (q_lit0 rfl el26 gr3)) <| dm rfl rfl rfl <| dm rfl rfl rfl ?_
      obtain ⟨c926, h⟩ := ite_n h
      refine DK.cons rfl rfl (.p rfl (.s 61 rfl (.s 62 rfl .nil)) rfl (q_subH rfl el26 rfl c926.1 c926.2)) ?_
      obtain ⟨c927, h⟩ := ite_n h
      refine dm rfl rfl rfl <| DK.cons rfl rfl (.p rfl (.s 65 rfl .nil) rfl (q_lit (kd := kInt) (ps := [(0, .tmp 65)]) (xs := [.tmp 65]) («as» := [iA x8]) (ys := [x8]) rfl rfl el26 rfl gr3 rfl rfl rfl (.cons (CellsOf.one rfl) .nil))) ?_
      obtain ⟨c929, h⟩ := ite_n h
      refine dm rfl rfl rfl <| dm rfl rfl rfl ?_
      obtain ⟨c931, h⟩ := ite_n h
      refine DK.cons rfl rfl (.p rfl (.s 68 rfl (.s 69 rfl .nil)) rfl (q_subL rfl el26 rfl c931.1 c931.2)) ?_
      obtain ⟨c932, h⟩ := ite_n h
      refine DK.nil <| CSteps.w [] rfl rfl rfl rfl (.s 60 rfl (.s 63 rfl .nil)) rfl (w_appendZ (kd := kInt) rfl el26 rfl gr3 c927) ?_
      rintro _ _ ⟨v928, rfl, rfl⟩
      refine CSteps.w [0] rfl rfl rfl rfl (.s 64 rfl (.s 66 rfl .nil)) rfl (w_append (kd := kInt) rfl el26 rfl gr3 c929) ?_
      rintro _ _ ⟨v930, rfl, rfl⟩
      refine CSteps.w [0] rfl rfl rfl rfl (.s 67 rfl (.s 70 rfl .nil)) rfl (WS.free (w_append (kd := kInt) rfl el26 rfl gr3 c932)) ?_
      rintro _ _ ⟨rfl, rfl⟩
      refine CSteps.p rfl rfl rfl (.s 71 rfl .nil) rfl (q_assign rfl) <| CSteps.nil <| QN.block <| QN.weaken (env' := [(7, _), (8, _), (3, _), (2, _), (1, _)]) (.o4 rfl (.one rfl (.nil _))) <| QN.then_ <| W.region <| mv rfl rfl ?_
      obtain ⟨c934, h⟩ := ite_n h
      refine pk rfl 15 rfl (q_addR rfl c934) <| av rfl rfl <| WL.nil ?_
      exact next0 () (((x7.take (x9 : Int).toNat) ++ [x8]) ++ (x7.drop (x9 : Int).toNat)) (x8 + 1) _ h (.o4 rfl (.one rfl (.nil _)))
    ·refine W.drawK [(0, false), (1, false), (2, false), (3, false), (4, false), (5, false), (6, false), (7, false), (8, false), (9, false), (10, false), (11, false), (12, false), (13, false), (14, false), (15, false), (16, false), (17, false), (18, false), (19, false), (20, false)] [] (bm [0, 1, 3, 7, 15, 7, 7, 71, 231, 487, 1023, 2047, 4095, 7, 8199, 7, 57351, 122887, 253959, 524287, 1048575]) mx (by kernel_rfl) <| dm rfl rfl rfl <| DK.cons rfl rfl (.p rfl (.s 37 rfl (.k .nil)) rfl (q_int rfl rfl)) <| dm rfl rfl rfl ?_
     rcases bif_s h with ⟨hb935, h⟩ | ⟨hb935, h⟩
     ·refine DK.cons rfl rfl (.gp rfl rfl rfl hb935 (.s 3 rfl .nil) rfl (q_field rfl fo29_1 rfl)) <| DK.cons rfl rfl (.gp rfl rfl rfl hb935 (.s 40 rfl .nil) rfl (q_load rfl sh27)) <| DK.cons rfl rfl (.gp rfl rfl rfl hb935 (.s 7 rfl .nil) rfl (q_move rfl)) <| DK.cons rfl rfl (.gp rfl rfl rfl hb935 (.s 9 rfl .nil) rfl (q_move rfl)) ?_
      obtain ⟨c936, h⟩ := ite_n h
      refine DK.cons rfl rfl (.gp rfl rfl rfl hb935 (.s 43 rfl (.k .nil)) rfl (q_subR rfl c936)) ?_
      obtain ⟨c937, h⟩ := ite_n h
      refine DK.cons rfl rfl (.gp rfl rfl rfl hb935 (.s 42 rfl (.s 44 rfl .nil)) rfl (q_index rfl el26 rfl c937.1 c937.2)) <| DK.cons rfl rfl (.gp rfl rfl rfl hb935 (.s 45 rfl .nil) rfl (q_load rfl sh3)) ?_
      obtain ⟨c938, h⟩ := ite_n h
      refine DK.cons rfl rfl (.gp rfl rfl rfl hb935 (.s 41 rfl (.s 46 rfl .nil)) rfl (q_index rfl el27 rfl c938.1 c938.2)) <| DK.cons rfl rfl (.gp rfl rfl rfl hb935 (.s 47 rfl .nil) rfl (q_field rfl fo63_0 rfl)) <| DK.cons rfl rfl (.gp rfl rfl rfl hb935 (.s 48 rfl .nil) rfl (q_load rfl sh3)) <| DK.cons rfl rfl (.gp rfl rfl rfl hb935 (.s 3 rfl .nil) rfl (q_field rfl fo29_1 rfl)) <| DK.cons rfl rfl (.gp rfl rfl rfl hb935 (.s 50 rfl .nil) rfl (q_load rfl sh27)) <| DK.cons rfl rfl (.gp rfl rfl rfl hb935 (.s 8 rfl .nil) rfl (q_move rfl)) ?_
      obtain ⟨c939, h⟩ := ite_n h
      refine DK.cons rfl rfl (.gp rfl rfl rfl hb935 (.s 51 rfl (.s 52 rfl .nil)) rfl (q_index rfl el27 rfl c939.1 c939.2)) <| DK.cons rfl rfl (.gp rfl rfl rfl hb935 (.s 53 rfl .nil) rfl (q_field rfl fo63_0 rfl)) <| DK.cons rfl rfl (.gp rfl rfl rfl hb935 (.s 54 rfl .nil) rfl (q_load rfl sh3)) <| DK.cons rfl rfl (.gp rfl rfl rfl hb935 (.s 49 rfl (.s 55 rfl .nil)) rfl (q_int rfl rfl)) <| DK.cons rfl rfl (.p rfl (.s 39 rfl (.s 56 rfl .nil)) rfl (q_pickT rfl hb935)) <| DK.nil <| CSteps.nil ?_
      exact QN.weaken (.o4 rfl (.o2 rfl (.one rfl (.nil _)))) (Kj907 () (decide ((rd a0.fEdges (rd x7 (x9 - 1))).fType > (rd a0.fEdges x8).fType)) h)
     ·refine dx rfl rfl rfl hb935 <| dx rfl rfl rfl hb935 <| dx rfl rfl rfl hb935 <| dx rfl rfl rfl hb935 <| dx rfl rfl rfl hb935 <| dx rfl rfl rfl hb935 <| dx rfl rfl rfl hb935 <| dx rfl rfl rfl hb935 <| dx rfl rfl rfl hb935 <| dx rfl rfl rfl hb935 <| dx rfl rfl rfl hb935 <| dx rfl rfl rfl hb935 <| dx rfl rfl rfl hb935 ?_
      refine dx rfl rfl rfl hb935 <| dx rfl rfl rfl hb935 <| dx rfl rfl rfl hb935 <| dx rfl rfl rfl hb935 <| DK.cons rfl rfl (.p rfl (.s 39 rfl (.k .nil)) rfl (q_pickF rfl hb935)) <| DK.nil <| CSteps.nil ?_
      exact QN.weaken (.o4 rfl (.o2 rfl (.one rfl (.nil _)))) (Kj907 () false h)
  ·refine W.region <| fd rfl rfl fo29_1 rfl <| ld rfl rfl sh27 <| mv rfl rfl ?_
   obtain ⟨c940, h⟩ := ite_n h
   refine p2 rfl 18 rfl 19 rfl (q_index rfl el27 rfl c940.1 c940.2) <| fd rfl rfl fo63_1 rfl <| ld rfl rfl sh3 <| mv rfl rfl <| p2 rfl 22 rfl 23 rfl (q_int rfl rfl) <| mv rfl rfl ?_
   rcases bif_s h with ⟨hb941, h⟩ | ⟨hb941, h⟩
   ·refine sk rfl rfl rfl hb941 <| sk rfl rfl rfl hb941 <| sk rfl rfl rfl hb941 <| sk rfl rfl rfl hb941 <| sk rfl rfl rfl hb941 <| sk rfl rfl rfl hb941 <| sk rfl rfl rfl hb941 <| sk rfl rfl rfl hb941 <| pk rfl 25 rfl (q_pickT rfl hb941) <| WL.nil ?_
    exact QN.weaken (.o4 rfl (.o2 rfl (.nil _))) (Kj805 () true h)
   ·refine wf rfl rfl rfl hb941 rfl rfl fo29_1 rfl <| wl rfl rfl rfl hb941 rfl rfl sh27 <| wm rfl rfl rfl hb941 rfl rfl ?_
    obtain ⟨c942, h⟩ := ite_n h
    refine wq rfl rfl rfl hb941 (.s 27 rfl (.s 28 rfl .nil)) (q_index rfl el27 rfl c942.1 c942.2).o <| wf rfl rfl rfl hb941 rfl rfl fo63_2 rfl <| wl rfl rfl rfl hb941 rfl rfl sh3 <| wm rfl rfl rfl hb941 rfl rfl <| wq rfl rfl rfl hb941 (.s 31 rfl (.s 32 rfl .nil)) (q_int rfl rfl).o <| p2 rfl 25 rfl 33 rfl (q_pickF rfl hb941) <| WL.nil ?_
    exact QN.weaken (.o4 rfl (.o2 rfl (.nil _))) (Kj805 () ((rd a0.fEdges x8).fTo != a2) h)
 ·refine W.exit <| QX.then_ <| QX.then_ <| QX.here <| QN.weaken (env' := [(7, _)]) (.one rfl (.nil _)) <| QN.then_ <| sr <| mv rfl rfl <| av rfl rfl <| nt <| W.ret ?_
  cases h
  exact QR.f1 rfl rfl (.t rfl) (.id _)
theorem ref15_listed.con (k : Nat) (a0 : Graph) (a1 : (List Int)) (r : (List Int)) (h : ref15_listed k a0 a1 = some r) : Con Tryz.prog 111 [] [AggA [SlcA kInt a0.fNodes, SlcA kEdge a0.fEdges], SlcA kInt a1] (RA (SlcA kInt r)) := by
 unfold ref15_listed at h
 refine Con.of (N := 29) Tryz.func111 rfl rfl rfl fun w0_ fg_ => sr <| p1 rfl 0 rfl (q_box rfl (CellsOf.agg _)) <| ak rfl <| nx <| mv rfl rfl <| p1 rfl 7 rfl (q_len rfl elS26) <| WL.w [] rfl (Wanted.plain rfl) rfl rfl (.s 8 rfl .nil) (w_lit (kd := kInt) (ps := [(0, .tmp 8)]) (xs := [.tmp 8]) («as» := [iA (a1.length : Int)]) (ys := [(a1.length : Int)]) rfl rfl el26 rfl gr3 rfl rfl rfl (.cons (CellsOf.one rfl) .nil)) ?_
 rintro _ _ ⟨v100, rfl, rfl⟩
 refine av rfl rfl <| nt <| W.seq <| sr <| ak rfl <| nt <| W.block ?_
 refine W.loop2 (Γ := Value) (fun (g0 : Value) (_ : (List Int)) (x6 : Int) => [(1, SlcA kInt a1), (2, PtrA [SlcA kInt a0.fNodes, SlcA kEdge a0.fEdges]), (5, HdA g0), (6, iA x6)]) (fun (g0 : Value) (x5 : (List Int)) (_ : Int) => [SlE 3 g0 kInt x5]) h v100 (.o4 rfl (.nil _)) rfl (fun rec0 K0 next0 g0 x5 x6 h => ?_)
 unfold ref15_listed.b0 at h
 refine W.seq <| sr <| mv rfl rfl <| mv rfl rfl <| p1 rfl 11 rfl (q_len rfl elS26) <| p2 rfl 10 rfl 12 rfl (q_int rfl rfl) <| nt ?_
 refine W.condP h rfl (fun hb133 h => ?_) (fun hb133 h => ?_)
 ·refine W.skip <| QN.then_ <| W.seq <| W.block <| W.drawK [(0, false), (1, false), (2, false), (3, false), (4, false), (5, false), (6, false), (7, false), (8, false), (9, false), (10, false)] [11, 12] (bm [0, 0, 2, 0, 0, 24, 56, 126, 254, 510, 1022, 2047, 4095]) mx (by kernel_rfl) <| dm rfl rfl rfl <| df rfl rfl rfl fo29_1 rfl <| dl rfl rfl rfl sh27 <| dm rfl rfl rfl <| dm rfl rfl rfl ?_
  obtain ⟨c142, h⟩ := ite_n h
  refine DK.cons rfl rfl (.p rfl (.s 19 rfl (.s 20 rfl .nil)) rfl (q_index rfl el26 rfl c142.1 c142.2)) <| dl rfl rfl rfl sh3 ?_
  obtain ⟨c143, h⟩ := ite_n h
  refine DK.cons rfl rfl (.p rfl (.s 18 rfl (.s 22 rfl .nil)) rfl (q_index rfl el27 rfl c143.1 c143.2)) <| df rfl rfl rfl fo63_0 rfl <| dl rfl rfl rfl sh3 <| DK.cons rfl rfl (.p rfl (.s 25 rfl .nil) rfl (q_lit (kd := kInt) (ps := [(0, .tmp 25)]) (xs := [.tmp 25]) («as» := [iA ((rd a0.fEdges (rd a1 x6)).fType)]) (ys := [(rd a0.fEdges (rd a1 x6)).fType]) rfl rfl el26 rfl gr3 rfl rfl rfl (.cons (CellsOf.one rfl) .nil))) ?_
  obtain ⟨c144, h⟩ := ite_n h
  refine DK.nil <| CSteps.w [0] rfl rfl rfl rfl (.s 16 rfl (.s 26 rfl .nil)) rfl (w_append (kd := kInt) rfl el26 rfl gr3 c144) ?_
  rintro _ _ ⟨v145, rfl, rfl⟩
  refine CSteps.p rfl rfl rfl (.s 27 rfl .nil) rfl (q_assign rfl) <| CSteps.nil <| QN.block <| QN.weaken (env' := [(5, _), (6, _), (2, _), (1, _)]) (.o4 rfl (.nil _)) <| QN.then_ <| W.region <| mv rfl rfl ?_
  obtain ⟨c146, h⟩ := ite_n h
  refine pk rfl 14 rfl (q_addR rfl c146) <| av rfl rfl <| WL.nil ?_
  exact next0 v145 (x5 ++ [(rd a0.fEdges (rd a1 x6)).fType]) (x6 + 1) _ h (.o4 rfl (.nil _))
 ·refine W.exit <| QX.then_ <| QX.then_ <| QX.here <| QN.weaken (env' := [(5, _)]) (.one rfl (.nil _)) <| QN.then_ <| sr <| mv rfl rfl <| av rfl rfl <| nt <| W.ret ?_
  cases h
  exact QR.f1 rfl rfl (.t rfl) (.slc 0 rfl)
theorem ref15_same.con (k : Nat) (a0 : Graph) (a1 : Int) (a2 : Int) (a3 : Int) (a4 : Int) (r : Bool) (h : ref15_same k a0 a1 a2 a3 a4 = some r) : Con Tryz.prog 161 [] [AggA [SlcA kInt a0.fNodes, SlcA kEdge a0.fEdges], iA a1, iA a2, iA a3, iA a4] (RA (bA r)) := by
 unfold ref15_same at h
 refine Con.of (N := 25) Tryz.func161 rfl rfl rfl fun w0_ fg_ => sr <| p1 rfl 0 rfl (q_box rfl (CellsOf.agg _)) <| ak rfl <| nt <| W.seq <| W.drawK [(0, false), (1, false), (2, false), (3, false), (4, false), (5, false), (6, false), (7, false), (8, false), (9, false), (10, false), (11, false), (12, false), (13, false), (14, false)] [] (bm [0, 0, 0, 0, 14, 31, 0, 0, 0, 0, 959, 2047, 4095, 8191, 16383]) mx (by kernel_rfl) <| DK.cons rfl rfl (.p rfl (.s 5 rfl .nil) rfl (q_loadS rfl sh29 (leB rfl) rfl)) <| DK.cons rfl rfl (.p rfl (.s 5 rfl .nil) rfl (q_loadS rfl sh29 (leB rfl) rfl)) <| dm rfl rfl rfl <| dm rfl rfl rfl ?_
 obtain ⟨t110, ht110, h⟩ := bind_s h
 refine DK.cons rfl rfl (.p rfl (.s 12 rfl (.s 13 rfl (.s 14 rfl .nil))) rfl (q_call (f := 79) (A := SlcA kInt t110) (xs := [.tmp 12, .tmp 13, .tmp 14]) («as» := [AggA [SlcA kInt a0.fNodes, SlcA kEdge a0.fEdges], iA a1, iA a2]) rfl ca79 (ref15_between.con k a0 a1 a2 t110 ht110) rfl)) ?_
 obtain ⟨t111, ht111, h⟩ := bind_s h
 refine DK.cons rfl rfl (.p rfl (.s 11 rfl (.s 15 rfl .nil)) rfl (q_call (f := 111) (A := SlcA kInt t111) (xs := [.tmp 11, .tmp 15]) («as» := [AggA [SlcA kInt a0.fNodes, SlcA kEdge a0.fEdges], SlcA kInt t110]) rfl ca111 (ref15_listed.con k a0 t110 t111 ht111) rfl)) <| DK.cons rfl rfl (.p rfl (.s 5 rfl .nil) rfl (q_loadS rfl sh29 (leB rfl) rfl)) <| DK.cons rfl rfl (.p rfl (.s 5 rfl .nil) rfl (q_loadS rfl sh29 (leB rfl) rfl)) <| dm rfl rfl rfl <| dm rfl rfl rfl ?_
 obtain ⟨t112, ht112, h⟩ := bind_s h
 refine DK.cons rfl rfl (.p rfl (.s 18 rfl (.s 19 rfl (.s 20 rfl .nil))) rfl (q_call (f := 79) (A := SlcA kInt t112) (xs := [.tmp 18, .tmp 19, .tmp 20]) («as» := [AggA [SlcA kInt a0.fNodes, SlcA kEdge a0.fEdges], iA a3, iA a4]) rfl ca79 (ref15_between.con k a0 a3 a4 t112 ht112) rfl)) ?_
 obtain ⟨t113, ht113, h⟩ := bind_s h
 refine DK.cons rfl rfl (.p rfl (.s 17 rfl (.s 21 rfl .nil)) rfl (q_call (f := 111) (A := SlcA kInt t113) (xs := [.tmp 17, .tmp 21]) («as» := [AggA [SlcA kInt a0.fNodes, SlcA kEdge a0.fEdges], SlcA kInt t112]) rfl ca111 (ref15_listed.con k a0 t112 t113 ht113) rfl)) ?_
 obtain ⟨t114, ht114, h⟩ := bind_s h
 refine DK.cons rfl rfl (.p rfl (.s 16 rfl (.s 22 rfl .nil)) rfl (q_call (f := 65) (A := iA t114) (xs := [.tmp 16, .tmp 22]) («as» := [SlcA kInt t111, SlcA kInt t113]) rfl ca65 (ref15_compare.con k t111 t113 t114 ht114) rfl)) <| DK.cons rfl rfl (.p rfl (.s 23 rfl (.k .nil)) rfl (q_int rfl rfl)) <| DK.cons rfl rfl (.p rfl (.s 24 rfl .nil) rfl (q_assign rfl)) <| DK.nil <| CSteps.nil <| QN.weaken (env' := [(10, _)]) (.one rfl (.nil _)) <| QN.then_ <| W.ret ?_
 cases h
 exact QR.f1 rfl rfl (.t rfl) (.id _)
theorem ref15_twins.con (k : Nat) (a0 : Host) (a1 : Int) (a2 : Int) (r : Bool) (h : ref15_twins k a0 a1 a2 = some r) : Con Tryz.prog 144 [] [AggA [SlcA kInt a0.fGraph.fNodes, SlcA kEdge a0.fGraph.fEdges, SlcA (kSl kInt) a0.fValues], iA a1, iA a2] (RA (bA r)) := by
 unfold ref15_twins at h
 refine Con.of (N := 87) Tryz.func144 rfl rfl rfl fun w0_ fg_ => sr <| p1 rfl 0 rfl (q_box rfl (CellsOf.agg _)) <| ak rfl <| nx <| fd rfl rfl fo32_0 rfl <| lS rfl rfl sh29 rfl rfl <| WL.w [] rfl (Wanted.plain rfl) rfl rfl .nil (w_alloc rfl z29 (l := [EqA (.slice none 0 0), EqA (.slice none 0 0)]) rfl) ?_
 rintro _ _ ⟨b100, rfl, rfl⟩
 refine WL.w0 [0] rfl (Wanted.plain rfl) rfl (.s 7 rfl (.s 10 rfl .nil)) (w_store (L := [SlcA kInt a0.fGraph.fNodes, SlcA kEdge a0.fGraph.fEdges]) rfl sh29 (CellsOf.agg _) rfl rfl (leB rfl) rfl) ?_
 rintro _ _ ⟨rfl, rfl⟩
 refine WL.nil <| QN.to (StTo.still [0] 7 rfl rfl) <| QN.then_ <| W.seq <| W.seq ?_
 refine W.jn1 (Γ := Unit) (fun (_ : Unit) (x53 : Bool) => [(1, iA a1), (2, iA a2), (7, PtrA [SlcA kInt a0.fGraph.fNodes, SlcA kEdge a0.fGraph.fEdges]), (53, bA x53)]) (fun (_ : Unit) (_ : Bool) => []) h (fun _ x53 h => ?_) (fun j122 Kj122 h => ?_)
 ·refine QN.then_ ?_
  refine W.condP h rfl (fun hb123 h => ?_) (fun hb123 h => ?_)
  ·refine sr <| ak rfl <| nt <| W.ret <| QR.then_ ?_
   cases h
   exact QR.f1 rfl rfl (.t rfl) (.id _)
  ·refine W.skip <| QN.then_ <| W.seq <| sr <| ak rfl <| nt <| W.block ?_
   refine W.loop1 (Γ := Unit) (fun (_ : Unit) (x8 : Int) => [(1, iA a1), (2, iA a2), (7, PtrA [SlcA kInt a0.fGraph.fNodes, SlcA kEdge a0.fGraph.fEdges]), (8, iA x8)]) (fun (_ : Unit) (_ : Int) => []) h () (.o4 rfl (.nil _)) rfl (fun rec0 K0 next0 _ x8 h => ?_)
   unfold ref15_twins.b0 at h
   refine W.seq <| sr <| mv rfl rfl <| fd rfl rfl fo29_0 rfl <| ld rfl rfl sh26 <| p1 rfl 56 rfl (q_len rfl elS26) <| p2 rfl 54 rfl 57 rfl (q_int rfl rfl) <| nt ?_
   refine W.condP h rfl (fun hb154 h => ?_) (fun hb154 h => ?_)
   ·refine W.skip <| QN.then_ <| W.seq <| W.block <| W.seq ?_
    refine W.jn1 (Γ := Unit) (fun (_ : Unit) (x86 : Bool) => [(1, iA a1), (2, iA a2), (7, PtrA [SlcA kInt a0.fGraph.fNodes, SlcA kEdge a0.fGraph.fEdges]), (8, iA x8), (86, bA x86)]) (fun (_ : Unit) (_ : Bool) => []) h (fun _ x86 h => ?_) (fun j161 Kj161 h => ?_)
    ·refine QN.then_ ?_
     refine W.condP h rfl (fun hb162 h => ?_) (fun hb162 h => ?_)
     ·refine sr <| ak rfl <| nt <| W.ret <| QR.block <| QR.then_ <| QR.then_ <| QR.block <| QR.then_ ?_
      cases h
      exact QR.f1 rfl rfl (.t rfl) (.id _)
     ·refine W.skip <| QN.block <| QN.then_ <| W.region <| mv rfl rfl ?_
      obtain ⟨c163, h⟩ := ite_n h
      refine pk rfl 59 rfl (q_addR rfl c163) <| av rfl rfl <| WL.nil ?_
      exact next0 () (x8 + 1) _ h (.o4 rfl (.nil _))
    ·refine W.region <| mv rfl rfl <| mv rfl rfl <| p2 rfl 61 rfl 62 rfl (q_int rfl rfl) <| mv rfl rfl ?_
     rcases bif_s h with ⟨hb164, h⟩ | ⟨hb164, h⟩
     ·refine wm rfl rfl rfl hb164 rfl rfl <| wm rfl rfl rfl hb164 rfl rfl <| wq rfl rfl rfl hb164 (.s 65 rfl (.s 66 rfl .nil)) (q_int rfl rfl).o <| p2 rfl 64 rfl 67 rfl (q_pickT rfl hb164) <| mv rfl rfl ?_
      rcases bif_s h with ⟨hb165, h⟩ | ⟨hb165, h⟩
      ·refine wq rfl rfl rfl hb165 (.s 7 rfl .nil) (q_loadS rfl sh29 (leB rfl) rfl).o <| wm rfl rfl rfl hb165 rfl rfl <| wm rfl rfl rfl hb165 rfl rfl <| wm rfl rfl rfl hb165 rfl rfl <| wm rfl rfl rfl hb165 rfl rfl ?_
       obtain ⟨t166, ht166, h⟩ := bind_s h
       refine wq rfl rfl rfl hb165 (.s 70 rfl (.s 71 rfl (.s 72 rfl (.s 73 rfl (.s 74 rfl .nil))))) (q_call (f := 161) (A := bA t166) (xs := [.tmp 70, .tmp 71, .tmp 72, .tmp 73, .tmp 74]) («as» := [AggA [SlcA kInt a0.fGraph.fNodes, SlcA kEdge a0.fGraph.fEdges], iA a1, iA x8, iA a2, iA x8]) rfl ca161 (ref15_same.con k a0.fGraph a1 x8 a2 x8 t166 ht166) rfl).o <| wq rfl rfl rfl hb165 (.s 75 rfl .nil) (q_not rfl).o <| wm rfl rfl rfl hb165 rfl rfl ?_
       rcases bif_s h with ⟨hb167, h⟩ | ⟨hb167, h⟩
       ·refine sk rfl rfl rfl hb167 <| sk rfl rfl rfl hb167 <| sk rfl rfl rfl hb167 <| sk rfl rfl rfl hb167 <| sk rfl rfl rfl hb167 <| sk rfl rfl rfl hb167 <| sk rfl rfl rfl hb167 <| wq rfl rfl rfl hb165 (.s 77 rfl (.k .nil)) (q_pickT rfl hb167).o <| p2 rfl 69 rfl 85 rfl (q_pickT rfl hb165) <| WL.nil ?_
        exact QN.weaken (.o4 rfl (.one rfl (.nil _))) (Kj161 () true h)
       ·refine wq rfl rfl rfl hb167 (.s 7 rfl .nil) (q_loadS rfl sh29 (leB rfl) rfl).o <| wm rfl rfl rfl hb167 rfl rfl <| wm rfl rfl rfl hb167 rfl rfl <| wm rfl rfl rfl hb167 rfl rfl <| wm rfl rfl rfl hb167 rfl rfl ?_
        obtain ⟨t168, ht168, h⟩ := bind_s h
        refine wq rfl rfl rfl hb167 (.s 78 rfl (.s 79 rfl (.s 80 rfl (.s 81 rfl (.s 82 rfl .nil))))) (q_call (f := 161) (A := bA t168) (xs := [.tmp 78, .tmp 79, .tmp 80, .tmp 81, .tmp 82]) («as» := [AggA [SlcA kInt a0.fGraph.fNodes, SlcA kEdge a0.fGraph.fEdges], iA x8, iA a1, iA x8, iA a2]) rfl ca161 (ref15_same.con k a0.fGraph x8 a1 x8 a2 t168 ht168) rfl).o <| wq rfl rfl rfl hb167 (.s 83 rfl .nil) (q_not rfl).o <| wq rfl rfl rfl hb165 (.s 77 rfl (.s 84 rfl .nil)) (q_pickF rfl hb167).o <| p2 rfl 69 rfl 85 rfl (q_pickT rfl hb165) <| WL.nil ?_
        exact QN.weaken (.o4 rfl (.one rfl (.nil _))) (Kj161 () (!t168) h)
      ·refine sk rfl rfl rfl hb165 <| sk rfl rfl rfl hb165 <| sk rfl rfl rfl hb165 <| sk rfl rfl rfl hb165 <| sk rfl rfl rfl hb165 <| sk rfl rfl rfl hb165 <| sk rfl rfl rfl hb165 <| sk rfl rfl rfl hb165 <| su rfl rfl rfl <| su rfl rfl rfl <| su rfl rfl rfl <| su rfl rfl rfl <| su rfl rfl rfl ?_
       refine su rfl rfl rfl <| su rfl rfl rfl <| sk rfl rfl rfl hb165 <| pk rfl 69 rfl (q_pickF rfl hb165) <| WL.nil ?_
       exact QN.weaken (.o4 rfl (.one rfl (.nil _))) (Kj161 () false h)
     ·refine sk rfl rfl rfl hb164 <| sk rfl rfl rfl hb164 <| sk rfl rfl rfl hb164 <| pk rfl 64 rfl (q_pickF rfl hb164) <| mv rfl rfl <| sk rfl rfl rfl rfl <| sk rfl rfl rfl rfl <| sk rfl rfl rfl rfl <| sk rfl rfl rfl rfl <| sk rfl rfl rfl rfl <| sk rfl rfl rfl rfl <| sk rfl rfl rfl rfl <| sk rfl rfl rfl rfl ?_
      refine su rfl rfl rfl <| su rfl rfl rfl <| su rfl rfl rfl <| su rfl rfl rfl <| su rfl rfl rfl <| su rfl rfl rfl <| su rfl rfl rfl <| sk rfl rfl rfl rfl <| pk rfl 69 rfl (q_pickF rfl rfl) <| WL.nil ?_
      exact QN.weaken (.o4 rfl (.one rfl (.nil _))) (Kj161 () false h)
   ·refine W.exit <| QX.then_ <| QX.then_ <| QX.here <| QN.weaken (env' := []) (.nil _) <| QN.then_ <| sr <| ak rfl <| nt <| W.ret ?_
    cases h
    exact QR.f1 rfl rfl (.t rfl) (.id _)
 ·refine W.drawK [(0, false), (1, false), (2, false), (3, false), (4, false), (5, false), (6, false), (7, false), (8, false), (9, false), (10, false), (11, false), (12, false), (13, false), (14, false), (15, false), (16, false), (17, false), (18, false), (19, false), (20, false), (21, false), (22, false), (23, false), (24, false), (25, false), (26, false), (27, false), (28, false), (29, false), (30, false), (31, false), (32, false), (33, false), (34, false), (35, false), (36, false), (37, false), (38, false), (39, false), (40, false), (41, false), (42, false)] [] (bm [0, 1, 0, 7, 15, 0, 32, 0, 224, 480, 1023, 2047, 4095, 8191, 4095, 32767, 65535, 4095, 135167, 4095, 921599, 1970175, 4194303, 8388607, 16777215, 33554431, 67108863, 67108863, 67108863, 67108863, 67108863, 2147483647, 4294967295, 8589934591, 17179869183, 34359738367, 34359738367, 34359738367, 34359738367, 34359738367, 1099511627775, 2199023255551, 4398046511103]) mx (by kernel_rfl) <| df rfl rfl rfl fo29_0 rfl <| dl rfl rfl rfl sh26 <| dm rfl rfl rfl ?_
  obtain ⟨c169, h⟩ := ite_n h
  refine DK.cons rfl rfl (.p rfl (.s 12 rfl (.s 13 rfl .nil)) rfl (q_index rfl el26 rfl c169.1 c169.2)) <| dl rfl rfl rfl sh3 <| df rfl rfl rfl fo29_0 rfl <| dl rfl rfl rfl sh26 <| dm rfl rfl rfl ?_
  obtain ⟨c170, h⟩ := ite_n h
  refine DK.cons rfl rfl (.p rfl (.s 17 rfl (.s 18 rfl .nil)) rfl (q_index rfl el26 rfl c170.1 c170.2)) <| dl rfl rfl rfl sh3 <| DK.cons rfl rfl (.p rfl (.s 15 rfl (.s 20 rfl .nil)) rfl (q_int rfl rfl)) <| dm rfl rfl rfl ?_
  rcases bif_s h with ⟨hb171, h⟩ | ⟨hb171, h⟩
  ·refine dx rfl rfl rfl hb171 <| dx rfl rfl rfl hb171 <| dx rfl rfl rfl hb171 <| dx rfl rfl rfl hb171 <| dx rfl rfl rfl hb171 <| dx rfl rfl rfl hb171 <| dx rfl rfl rfl hb171 <| dx rfl rfl rfl hb171 <| dx rfl rfl rfl hb171 <| dx rfl rfl rfl hb171 <| dx rfl rfl rfl hb171 <| dx rfl rfl rfl hb171 <| DK.cons rfl rfl (.p rfl (.s 22 rfl (.k .nil)) rfl (q_pickT rfl hb171)) ?_
   refine dm rfl rfl rfl <| dx rfl rfl rfl rfl <| dx rfl rfl rfl rfl <| dx rfl rfl rfl rfl <| dx rfl rfl rfl rfl <| dx rfl rfl rfl rfl <| dx rfl rfl rfl rfl <| dx rfl rfl rfl rfl <| DK.cons rfl rfl (.p rfl (.s 36 rfl (.k .nil)) rfl (q_pickT rfl rfl)) <| dm rfl rfl rfl <| dx rfl rfl rfl rfl <| dx rfl rfl rfl rfl <| dx rfl rfl rfl rfl ?_
   refine dx rfl rfl rfl rfl <| dx rfl rfl rfl rfl <| dx rfl rfl rfl rfl <| dx rfl rfl rfl rfl <| DK.cons rfl rfl (.p rfl (.s 45 rfl (.k .nil)) rfl (q_pickT rfl rfl)) <| DK.nil <| CSteps.nil ?_
   exact QN.weaken (.o4 rfl (.nil _)) (Kj122 () true h)
  ·refine DK.cons rfl rfl (.gp rfl rfl rfl hb171 (.s 3 rfl .nil) rfl (q_field rfl fo32_1 rfl)) <| DK.cons rfl rfl (.gp rfl rfl rfl hb171 (.s 23 rfl .nil) rfl (q_load rfl sh30)) <| DK.cons rfl rfl (.gp rfl rfl rfl hb171 (.s 1 rfl .nil) rfl (q_move rfl)) ?_
   obtain ⟨c172, h⟩ := ite_n h
   refine DK.cons rfl rfl (.gp rfl rfl rfl hb171 (.s 24 rfl (.s 25 rfl .nil)) rfl (q_index rfl el30 rfl c172.1 c172.2)) <| DK.cons rfl rfl (.gp rfl rfl rfl hb171 (.s 26 rfl .nil) rfl (q_load rfl sh26)) <| DK.cons rfl rfl (.gp rfl rfl rfl hb171 (.s 3 rfl .nil) rfl (q_field rfl fo32_1 rfl)) <| DK.cons rfl rfl (.gp rfl rfl rfl hb171 (.s 28 rfl .nil) rfl (q_load rfl sh30)) <| DK.cons rfl rfl (.gp rfl rfl rfl hb171 (.s 2 rfl .nil) rfl (q_move rfl)) ?_
   obtain ⟨c173, h⟩ := ite_n h
   refine DK.cons rfl rfl (.gp rfl rfl rfl hb171 (.s 29 rfl (.s 30 rfl .nil)) rfl (q_index rfl el30 rfl c173.1 c173.2)) <| DK.cons rfl rfl (.gp rfl rfl rfl hb171 (.s 31 rfl .nil) rfl (q_load rfl sh26)) ?_
   obtain ⟨t174, ht174, h⟩ := bind_s h
   refine DK.cons rfl rfl (.gp rfl rfl rfl hb171 (.s 27 rfl (.s 32 rfl .nil)) rfl (q_call (f := 65) (A := iA t174) (xs := [.tmp 27, .tmp 32]) («as» := [SlcA kInt (rd a0.fValues a1), SlcA kInt (rd a0.fValues a2)]) rfl ca65 (ref15_compare.con k (rd a0.fValues a1) (rd a0.fValues a2) t174 ht174) rfl)) <| DK.cons rfl rfl (.gp rfl rfl rfl hb171 (.s 33 rfl (.k .nil)) rfl (q_int rfl rfl)) <| DK.cons rfl rfl (.p rfl (.s 22 rfl (.s 34 rfl .nil)) rfl (q_pickF rfl hb171)) <| dm rfl rfl rfl ?_
   rcases bif_s h with ⟨hb175, h⟩ | ⟨hb175, h⟩
   ·refine dx rfl rfl rfl hb175 <| dx rfl rfl rfl hb175 <| dx rfl rfl rfl hb175 <| dx rfl rfl rfl hb175 <| dx rfl rfl rfl hb175 <| dx rfl rfl rfl hb175 <| dx rfl rfl rfl hb175 <| DK.cons rfl rfl (.p rfl (.s 36 rfl (.k .nil)) rfl (q_pickT rfl hb175)) <| dm rfl rfl rfl <| dx rfl rfl rfl rfl <| dx rfl rfl rfl rfl <| dx rfl rfl rfl rfl <| dx rfl rfl rfl rfl ?_
    refine dx rfl rfl rfl rfl <| dx rfl rfl rfl rfl <| dx rfl rfl rfl rfl <| DK.cons rfl rfl (.p rfl (.s 45 rfl (.k .nil)) rfl (q_pickT rfl rfl)) <| DK.nil <| CSteps.nil ?_
    exact QN.weaken (.o4 rfl (.nil _)) (Kj122 () true h)
   ·refine DK.cons rfl rfl (.gp rfl rfl rfl hb175 (.s 7 rfl .nil) rfl (q_loadS rfl sh29 (leB rfl) rfl)) <| DK.cons rfl rfl (.gp rfl rfl rfl hb175 (.s 1 rfl .nil) rfl (q_move rfl)) <| DK.cons rfl rfl (.gp rfl rfl rfl hb175 (.s 2 rfl .nil) rfl (q_move rfl)) <| DK.cons rfl rfl (.gp rfl rfl rfl hb175 (.s 2 rfl .nil) rfl (q_move rfl)) <| DK.cons rfl rfl (.gp rfl rfl rfl hb175 (.s 1 rfl .nil) rfl (q_move rfl)) ?_
    obtain ⟨t176, ht176, h⟩ := bind_s h
    refine DK.cons rfl rfl (.gp rfl rfl rfl hb175 (.s 37 rfl (.s 38 rfl (.s 39 rfl (.s 40 rfl (.s 41 rfl .nil))))) rfl (q_call (f := 161) (A := bA t176) (xs := [.tmp 37, .tmp 38, .tmp 39, .tmp 40, .tmp 41]) («as» := [AggA [SlcA kInt a0.fGraph.fNodes, SlcA kEdge a0.fGraph.fEdges], iA a1, iA a2, iA a2, iA a1]) rfl ca161 (ref15_same.con k a0.fGraph a1 a2 a2 a1 t176 ht176) rfl)) <| DK.cons rfl rfl (.gp rfl rfl rfl hb175 (.s 42 rfl .nil) rfl (q_not rfl)) <| DK.cons rfl rfl (.p rfl (.s 36 rfl (.s 43 rfl .nil)) rfl (q_pickF rfl hb175)) <| dm rfl rfl rfl ?_
    rcases bif_s h with ⟨hb177, h⟩ | ⟨hb177, h⟩
    ·refine dx rfl rfl rfl hb177 <| dx rfl rfl rfl hb177 <| dx rfl rfl rfl hb177 <| dx rfl rfl rfl hb177 <| dx rfl rfl rfl hb177 <| dx rfl rfl rfl hb177 <| dx rfl rfl rfl hb177 <| DK.cons rfl rfl (.p rfl (.s 45 rfl (.k .nil)) rfl (q_pickT rfl hb177)) <| DK.nil <| CSteps.nil ?_
     exact QN.weaken (.o4 rfl (.nil _)) (Kj122 () true h)
    ·refine DK.cons rfl rfl (.gp rfl rfl rfl hb177 (.s 7 rfl .nil) rfl (q_loadS rfl sh29 (leB rfl) rfl)) <| DK.cons rfl rfl (.gp rfl rfl rfl hb177 (.s 1 rfl .nil) rfl (q_move rfl)) <| DK.cons rfl rfl (.gp rfl rfl rfl hb177 (.s 1 rfl .nil) rfl (q_move rfl)) <| DK.cons rfl rfl (.gp rfl rfl rfl hb177 (.s 2 rfl .nil) rfl (q_move rfl)) <| DK.cons rfl rfl (.gp rfl rfl rfl hb177 (.s 2 rfl .nil) rfl (q_move rfl)) ?_
     obtain ⟨t178, ht178, h⟩ := bind_s h
     refine DK.cons rfl rfl (.gp rfl rfl rfl hb177 (.s 46 rfl (.s 47 rfl (.s 48 rfl (.s 49 rfl (.s 50 rfl .nil))))) rfl (q_call (f := 161) (A := bA t178) (xs := [.tmp 46, .tmp 47, .tmp 48, .tmp 49, .tmp 50]) («as» := [AggA [SlcA kInt a0.fGraph.fNodes, SlcA kEdge a0.fGraph.fEdges], iA a1, iA a1, iA a2, iA a2]) rfl ca161 (ref15_same.con k a0.fGraph a1 a1 a2 a2 t178 ht178) rfl)) <| DK.cons rfl rfl (.gp rfl rfl rfl hb177 (.s 51 rfl .nil) rfl (q_not rfl)) <| DK.cons rfl rfl (.p rfl (.s 45 rfl (.s 52 rfl .nil)) rfl (q_pickF rfl hb177)) <| DK.nil <| CSteps.nil ?_
     exact QN.weaken (.o4 rfl (.nil _)) (Kj122 () (!t178) h)
theorem ref15_next.con (k : Nat) (a0 : Host) (a1 : (List Int)) (r : (List Int)) (h : ref15_next k a0 a1 = some r) : Con Tryz.prog 110 [] [AggA [SlcA kInt a0.fGraph.fNodes, SlcA kEdge a0.fGraph.fEdges, SlcA (kSl kInt) a0.fValues], SlcA kInt a1] (RA (SlcA kInt r)) := by
 unfold ref15_next at h
 refine Con.of (N := 45) Tryz.func110 rfl rfl rfl fun w0_ fg_ => sr <| p1 rfl 0 rfl (q_box rfl (CellsOf.agg _)) <| ak rfl <| nx <| ak rfl <| nt <| W.seq ?_
 refine sr <| ak rfl <| nt <| W.block <| W.to (StTo.newNil 3 kInt) <| W.to (StTo.as 5 rfl Imp.nilHd) ?_
 refine W.loop2 (Γ := Value) (fun (g0 : Value) (_ : (List Int)) (x6 : Int) => [(1, SlcA kInt a1), (2, PtrA [SlcA kInt a0.fGraph.fNodes, SlcA kEdge a0.fGraph.fEdges, SlcA (kSl kInt) a0.fValues]), (5, HdA g0), (6, iA x6)]) (fun (g0 : Value) (x5 : (List Int)) (_ : Int) => [SlE 3 g0 kInt x5]) h (.slice none 0 0) (.o4 rfl (.nil _)) rfl (fun rec0 K0 next0 g0 x5 x6 h => ?_)
 unfold ref15_next.b0 at h
 refine W.seq <| sr <| mv rfl rfl <| fd rfl rfl fo32_0 rfl <| fd rfl rfl fo29_0 rfl <| ld rfl rfl sh26 <| p1 rfl 12 rfl (q_len rfl elS26) <| p2 rfl 9 rfl 13 rfl (q_int rfl rfl) <| nt ?_
 refine W.condP h rfl (fun hb246 h => ?_) (fun hb246 h => ?_)
 ·refine W.skip <| QN.then_ <| W.seq <| W.block <| sr <| mv rfl rfl <| mv rfl rfl ?_
  obtain ⟨t247, ht247, h⟩ := bind_s h
  refine p2 rfl 17 rfl 18 rfl (q_call (f := 119) (A := bA t247) (xs := [.tmp 17, .tmp 18]) («as» := [SlcA kInt a1, iA x6]) rfl ca119 (ref15_has.con k a1 x6 t247 ht247) rfl) <| p1 rfl 19 rfl (q_not rfl) <| av rfl rfl <| WL.nil <| QN.weaken (env' := [(7, _), (6, _), (5, _), (2, _), (1, _)]) (.o4 rfl (.one rfl (.nil _))) <| QN.then_ <| W.seq <| sr <| ak rfl <| nt <| W.block ?_
  refine W.loop2 (Γ := Unit) (fun (_ : Unit) (x7 : Bool) (x8 : Int) => [(1, SlcA kInt a1), (2, PtrA [SlcA kInt a0.fGraph.fNodes, SlcA kEdge a0.fGraph.fEdges, SlcA (kSl kInt) a0.fValues]), (5, HdA g0), (6, iA x6), (7, bA x7), (8, iA x8)]) (fun (_ : Unit) (_ : Bool) (_ : Int) => [SlE 3 g0 kInt x5]) h () (.o4 rfl (.o2 rfl (.nil _))) rfl (fun rec1 K1 next1 _ x7 x8 h => ?_)
  unfold ref15_next.b1 at h
  refine W.seq <| W.seq ?_
  refine W.jn1 (Γ := Unit) (fun (_ : Unit) (x26 : Bool) => [(1, SlcA kInt a1), (2, PtrA [SlcA kInt a0.fGraph.fNodes, SlcA kEdge a0.fGraph.fEdges, SlcA (kSl kInt) a0.fValues]), (5, HdA g0), (6, iA x6), (7, bA x7), (8, iA x8), (26, bA x26)]) (fun (_ : Unit) (_ : Bool) => [SlE 3 g0 kInt x5]) h (fun _ x26 h => ?_) (fun j294 Kj294 h => ?_)
  ·refine QN.then_ ?_
   refine W.condP h rfl (fun hb295 h => ?_) (fun hb295 h => ?_)
   ·refine W.skip <| QN.then_ <| W.seq <| W.block ?_
    refine W.jn1 (Γ := Unit) (fun (_ : Unit) (x7' : Bool) => [(1, SlcA kInt a1), (2, PtrA [SlcA kInt a0.fGraph.fNodes, SlcA kEdge a0.fGraph.fEdges, SlcA (kSl kInt) a0.fValues]), (5, HdA g0), (6, iA x6), (8, iA x8), (7, bA x7')]) (fun (_ : Unit) (_ : Bool) => [SlE 3 g0 kInt x5]) h (fun _ x7' h => ?_) (fun j300 Kj300 h => ?_)
    ·refine QN.block <| QN.then_ <| W.region <| mv rfl rfl ?_
     obtain ⟨c301, h⟩ := ite_n h
     refine pk rfl 27 rfl (q_addR rfl c301) <| av rfl rfl <| WL.nil ?_
     exact next1 () x7' (x8 + 1) _ h (.o4 rfl (.o2 rfl (.nil _)))
    ·refine W.region <| mv rfl rfl <| mv rfl rfl ?_
     obtain ⟨t302, ht302, h⟩ := bind_s h
     refine p2 rfl 29 rfl 30 rfl (q_call (f := 119) (A := bA t302) (xs := [.tmp 29, .tmp 30]) («as» := [SlcA kInt a1, iA x8]) rfl ca119 (ref15_has.con k a1 x8 t302 ht302) rfl) <| mv rfl rfl ?_
     rcases bif_s h with ⟨hb303, h⟩ | ⟨hb303, h⟩
     ·refine sk rfl rfl rfl hb303 <| sk rfl rfl rfl hb303 <| sk rfl rfl rfl hb303 <| sk rfl rfl rfl hb303 <| sk rfl rfl rfl hb303 <| pk rfl 32 rfl (q_pickT rfl hb303) <| av rfl rfl <| WL.nil ?_
      exact QN.weaken (.o4 rfl (.o2 rfl (.nil _))) (Kj300 () true h)
     ·refine wq rfl rfl rfl hb303 (.s 2 rfl .nil) (q_loadS rfl sh32 (leB rfl) rfl).o <| wm rfl rfl rfl hb303 rfl rfl <| wm rfl rfl rfl hb303 rfl rfl ?_
      obtain ⟨t304, ht304, h⟩ := bind_s h
      refine wq rfl rfl rfl hb303 (.s 33 rfl (.s 34 rfl (.s 35 rfl .nil))) (q_call (f := 144) (A := bA t304) (xs := [.tmp 33, .tmp 34, .tmp 35]) («as» := [AggA [SlcA kInt a0.fGraph.fNodes, SlcA kEdge a0.fGraph.fEdges, SlcA (kSl kInt) a0.fValues], iA x8, iA x6]) rfl ca144 (ref15_twins.con k a0 x8 x6 t304 ht304) rfl).o <| wq rfl rfl rfl hb303 (.s 36 rfl .nil) (q_not rfl).o <| p2 rfl 32 rfl 37 rfl (q_pickF rfl hb303) <| av rfl rfl <| WL.nil ?_
      exact QN.weaken (.o4 rfl (.o2 rfl (.nil _))) (Kj300 () (!t304) h)
   ·refine W.exit <| QX.then_ <| QX.then_ <| QX.here <| QN.then_ <| sr <| mv rfl rfl <| nt ?_
    refine W.condP h rfl (fun hb308 h => ?_) (fun hb308 h => ?_)
    ·refine W.region <| mv rfl rfl <| mv rfl rfl <| p1 rfl 41 rfl (q_lit (kd := kInt) (ps := [(0, .tmp 41)]) (xs := [.tmp 41]) («as» := [iA x6]) (ys := [x6]) rfl rfl el26 rfl gr3 rfl rfl rfl (.cons (CellsOf.one rfl) .nil)) ?_
     obtain ⟨c309, h⟩ := ite_n h
     refine WL.w [0] rfl (Wanted.plain rfl) rfl rfl (.s 40 rfl (.s 42 rfl .nil)) (w_append (kd := kInt) rfl el26 rfl gr3 c309) ?_
     rintro _ _ ⟨v310, rfl, rfl⟩
     refine av rfl rfl <| WL.nil <| QN.block <| QN.weaken (env' := [(5, _), (6, _), (2, _), (1, _)]) (.o4 rfl (.nil _)) <| QN.then_ <| W.region <| mv rfl rfl ?_
     obtain ⟨c311, h⟩ := ite_n h
     refine pk rfl 15 rfl (q_addR rfl c311) <| av rfl rfl <| WL.nil ?_
     exact next0 v310 (x5 ++ [x6]) (x6 + 1) _ h (.o4 rfl (.nil _))
    ·refine W.skip <| QN.block <| QN.then_ <| W.region <| mv rfl rfl ?_
     obtain ⟨c312, h⟩ := ite_n h
     refine pk rfl 15 rfl (q_addR rfl c312) <| av rfl rfl <| WL.nil ?_
     exact next0 g0 x5 (x6 + 1) _ h (.o4 rfl (.nil _))
  ·refine W.region <| mv rfl rfl <| mv rfl rfl <| p2 rfl 21 rfl 22 rfl (q_int rfl rfl) <| mv rfl rfl ?_
   rcases bif_s h with ⟨hb313, h⟩ | ⟨hb313, h⟩
   ·refine wm rfl rfl rfl hb313 rfl rfl <| p2 rfl 24 rfl 25 rfl (q_pickT rfl hb313) <| WL.nil ?_
    exact QN.weaken (.o4 rfl (.o2 rfl (.one rfl (.nil _)))) (Kj294 () x7 h)
   ·refine sk rfl rfl rfl hb313 <| pk rfl 24 rfl (q_pickF rfl hb313) <| WL.nil ?_
    exact QN.weaken (.o4 rfl (.o2 rfl (.one rfl (.nil _)))) (Kj294 () false h)
 ·refine W.exit <| QX.then_ <| QX.then_ <| QX.here <| QN.weaken (env' := [(5, _)]) (.one rfl (.nil _)) <| QN.then_ <| sr <| mv rfl rfl <| av rfl rfl <| nt <| W.ret ?_
  cases h
  exact QR.f1 rfl rfl (.t rfl) (.slc 0 rfl)
end Go.Proofs.YthmdmchmmgmblaaGreat
