/- The Go functions compute the pure ones. (Printed by gen.py.) -/
import Derived.Test.YthmdmchmmgmblaaGreatVaC7
namespace Go.Proofs.YthmdmchmmgmblaaGreat
open Go Go.Abs
attribute [local irreducible] Tryz.prog
theorem ref15_node.con (k : Nat) (a0 : Types) (a1 : Int) (a2 : (List Int)) (r : Int) (h : ref15_node k a0 a1 a2 = some r) : Con Tryz.prog 52 [] [AggA [SlcA kNodeType a0.fNodes, SlcA kEdgeType a0.fEdges], iA a1, SlcA kInt a2] (RA (iA r)) := by
 unfold ref15_node at h
 refine Con.of (N := 60) Tryz.func52 rfl rfl rfl fun w0_ fg_ => sr <| p1 rfl 0 rfl (q_box rfl (CellsOf.agg _)) <| ak rfl <| nt <| W.seq <| sr <| mv rfl rfl <| fd rfl rfl fo25_0 rfl <| ld rfl rfl sh22 ?_
 refine p1 rfl 12 rfl (q_len rfl elS22) <| p2 rfl 10 rfl 13 rfl (q_int rfl rfl) <| nt ?_
 refine W.condP h rfl (fun hb100 h => ?_) (fun hb100 h => ?_)
 ·refine sr <| ak rfl <| WL.nil <| QN.weaken (env' := [(6, _)]) (.one rfl (.nil _)) <| QN.then_ <| W.ret <| QR.then_ ?_
  cases h
  exact QR.f1 rfl rfl (.t rfl) (.id _)
 ·refine W.skip <| QN.weaken (env' := [(3, _), (2, _), (1, _)]) (.o2 rfl (.one rfl (.nil _))) <| QN.then_ <| W.seq <| sr <| fd rfl rfl fo25_0 rfl <| ld rfl rfl sh22 <| mv rfl rfl ?_
  obtain ⟨c101, h⟩ := ite_n h
  refine p2 rfl 16 rfl 17 rfl (q_index rfl el22 rfl c101.1 c101.2) <| fd rfl rfl fo120_2 rfl <| ld rfl rfl sh4 <| nt ?_
  refine W.condP h rfl (fun hb102 h => ?_) (fun hb102 h => ?_)
  ·refine sr <| ak rfl <| WL.nil <| QN.weaken (env' := [(6, _)]) (.one rfl (.nil _)) <| QN.then_ <| W.ret <| QR.then_ ?_
   cases h
   exact QR.f1 rfl rfl (.t rfl) (.id _)
  ·refine W.skip <| QN.then_ <| sr <| lS rfl rfl sh25 rfl rfl <| mv rfl rfl ?_
   obtain ⟨t103, ht103, h⟩ := bind_s h
   refine p2 rfl 22 rfl 23 rfl (q_call (f := 68) (A := TupA [SlcA kAttr t103.1, iA t103.2]) (xs := [.tmp 22, .tmp 23]) («as» := [AggA [SlcA kNodeType a0.fNodes, SlcA kEdgeType a0.fEdges], iA a1]) rfl ca68 (ref04_Attrs.con k a0 a1 t103 ht103) rfl) <| mv rfl rfl <| p1 rfl 21 rfl (q_extract rfl rfl) <| p1 rfl 21 rfl (q_extract rfl rfl) <| av rfl rfl <| av rfl rfl <| WL.nil <| QN.weaken (env' := [(7, _), (2, _)]) (.o2 rfl (.nil _)) <| QN.then_ <| W.seq <| sr <| mv rfl rfl ?_
   refine p1 rfl 27 rfl (q_len rfl elS26) <| mv rfl rfl <| p1 rfl 29 rfl (q_len rfl elS118) <| p2 rfl 28 rfl 30 rfl (q_int rfl rfl) <| nt ?_
   refine W.condP h rfl (fun hb104 h => ?_) (fun hb104 h => ?_)
   ·refine sr <| ak rfl <| WL.nil <| QN.weaken (env' := [(6, _)]) (.one rfl (.nil _)) <| QN.then_ <| W.ret <| QR.then_ ?_
    cases h
    exact QR.f1 rfl rfl (.t rfl) (.id _)
   ·refine W.skip <| QN.then_ <| W.seq <| sr <| ak rfl <| nt <| W.block ?_
    refine W.loop1 (Γ := Unit) (fun (_ : Unit) (x9 : Int) => [(2, SlcA kInt a2), (7, SlcA kAttr t103.1), (9, iA x9)]) (fun (_ : Unit) (_ : Int) => []) h () (.o2 rfl (.one rfl (.nil _))) rfl (fun rec0 K0 next0 _ x9 h => ?_)
    unfold ref15_node.b0 at h
    refine W.seq <| sr <| mv rfl rfl <| mv rfl rfl <| p1 rfl 33 rfl (q_len rfl elS118) <| p2 rfl 32 rfl 34 rfl (q_int rfl rfl) <| nt ?_
    refine W.condP h rfl (fun hb145 h => ?_) (fun hb145 h => ?_)
    ·refine W.skip <| QN.then_ <| W.seq <| W.block <| W.seq ?_
     refine W.jn1 (Γ := Unit) (fun (_ : Unit) (x59 : Bool) => [(2, SlcA kInt a2), (7, SlcA kAttr t103.1), (9, iA x9), (59, bA x59)]) (fun (_ : Unit) (_ : Bool) => []) h (fun _ x59 h => ?_) (fun j157 Kj157 h => ?_)
     ·refine QN.then_ ?_
      refine W.condP h rfl (fun hb158 h => ?_) (fun hb158 h => ?_)
      ·refine sr <| ak rfl <| nt <| W.ret <| QR.block <| QR.then_ <| QR.then_ <| QR.block <| QR.then_ ?_
       cases h
       exact QR.f1 rfl rfl (.t rfl) (.id _)
      ·refine W.skip <| QN.block <| QN.then_ <| W.region <| mv rfl rfl ?_
       obtain ⟨c159, h⟩ := ite_n h
       refine pk rfl 36 rfl (q_addR rfl c159) <| av rfl rfl <| WL.nil ?_
       exact next0 () (x9 + 1) _ h (.o2 rfl (.one rfl (.nil _)))
     ·refine W.drawK [(0, false), (1, false), (2, false), (3, false), (4, false), (5, false), (6, false), (7, false), (8, false), (9, false), (10, false), (11, false), (12, false), (13, false), (14, false), (15, false), (16, false), (17, false), (18, false), (19, false), (20, false), (21, false)] [] (bm [0, 0, 3, 7, 0, 0, 48, 112, 240, 511, 1023, 2047, 2047, 8191, 16383, 2047, 2047, 100351, 231423, 493567, 1048575, 2097151]) mx (by kernel_rfl) <| dm rfl rfl rfl <| dm rfl rfl rfl ?_
      obtain ⟨c160, h⟩ := ite_n h
      refine DK.cons rfl rfl (.p rfl (.s 38 rfl (.s 39 rfl .nil)) rfl (q_index rfl el26 rfl c160.1 c160.2)) <| dl rfl rfl rfl sh3 <| dm rfl rfl rfl <| dm rfl rfl rfl ?_
      obtain ⟨c161, h⟩ := ite_n h
      refine DK.cons rfl rfl (.p rfl (.s 42 rfl (.s 43 rfl .nil)) rfl (q_index rfl el118 rfl c161.1 c161.2)) <| df rfl rfl rfl fo117_1 rfl <| dl rfl rfl rfl sh3 <| DK.cons rfl rfl (.p rfl (.s 41 rfl (.s 46 rfl .nil)) rfl (q_int rfl rfl)) <| dm rfl rfl rfl ?_
      rcases bif_s h with ⟨hb162, h⟩ | ⟨hb162, h⟩
      ·refine dx rfl rfl rfl hb162 <| dx rfl rfl rfl hb162 <| dx rfl rfl rfl hb162 <| dx rfl rfl rfl hb162 <| dx rfl rfl rfl hb162 <| dx rfl rfl rfl hb162 <| dx rfl rfl rfl hb162 <| dx rfl rfl rfl hb162 <| dx rfl rfl rfl hb162 <| dx rfl rfl rfl hb162 <| DK.cons rfl rfl (.p rfl (.s 48 rfl (.k .nil)) rfl (q_pickT rfl hb162)) <| DK.nil <| CSteps.nil ?_
       exact QN.weaken (.o4 rfl (.nil _)) (Kj157 () true h)
      ·refine DK.cons rfl rfl (.gp rfl rfl rfl hb162 (.s 2 rfl .nil) rfl (q_move rfl)) <| DK.cons rfl rfl (.gp rfl rfl rfl hb162 (.s 9 rfl .nil) rfl (q_move rfl)) ?_
       obtain ⟨c163, h⟩ := ite_n h
       refine DK.cons rfl rfl (.gp rfl rfl rfl hb162 (.s 49 rfl (.s 50 rfl .nil)) rfl (q_index rfl el26 rfl c163.1 c163.2)) <| DK.cons rfl rfl (.gp rfl rfl rfl hb162 (.s 51 rfl .nil) rfl (q_load rfl sh3)) <| DK.cons rfl rfl (.gp rfl rfl rfl hb162 (.s 7 rfl .nil) rfl (q_move rfl)) <| DK.cons rfl rfl (.gp rfl rfl rfl hb162 (.s 9 rfl .nil) rfl (q_move rfl)) ?_
       obtain ⟨c164, h⟩ := ite_n h
       refine DK.cons rfl rfl (.gp rfl rfl rfl hb162 (.s 53 rfl (.s 54 rfl .nil)) rfl (q_index rfl el118 rfl c164.1 c164.2)) <| DK.cons rfl rfl (.gp rfl rfl rfl hb162 (.s 55 rfl .nil) rfl (q_field rfl fo117_2 rfl)) <| DK.cons rfl rfl (.gp rfl rfl rfl hb162 (.s 56 rfl .nil) rfl (q_load rfl sh3)) <| DK.cons rfl rfl (.gp rfl rfl rfl hb162 (.s 52 rfl (.s 57 rfl .nil)) rfl (q_int rfl rfl)) <| DK.cons rfl rfl (.p rfl (.s 48 rfl (.s 58 rfl .nil)) rfl (q_pickF rfl hb162)) <| DK.nil <| CSteps.nil ?_
       exact QN.weaken (.o4 rfl (.nil _)) (Kj157 () (decide ((rd a2 x9) > (rd t103.1 x9).fHigh)) h)
    ·refine W.exit <| QX.then_ <| QX.then_ <| QX.here <| QN.weaken (env' := []) (.nil _) <| QN.then_ <| sr <| ak rfl <| nt <| W.ret ?_
     cases h
     exact QR.f1 rfl rfl (.t rfl) (.id _)
theorem ref04_Below1.con : ∀ (k : Nat) (a0 : Types) (a1 : Int) (a2 : Int) (r : Bool) (_ : ref04_Below1 k a0 a1 a2 = some r), Con Tryz.prog 56 [] [AggA [SlcA kNodeType a0.fNodes, SlcA kEdgeType a0.fEdges], iA a1, iA a2] (RA (bA r)) := by
 intro k
 induction k with
 | zero => intro a0 a1 a2 r h; cases h
 | succ k ih =>
  intro a0 a1 a2 r h
  change ref04_Below1.main (ref04_Below1 k) k a0 a1 a2 = some r at h
  unfold ref04_Below1.main at h
  refine Con.of (N := 25) Tryz.func56 rfl rfl rfl fun w0_ fg_ => sr <| p1 rfl 0 rfl (q_box rfl (CellsOf.agg _)) <| ak rfl <| nt <| W.seq ?_
  refine W.jn1 (Γ := Unit) (fun (_ : Unit) (x6 : Bool) => [(6, bA x6)]) (fun (_ : Unit) (_ : Bool) => []) h (fun _ x6 h => ?_) (fun j109 Kj109 h => ?_)
  ·refine QN.then_ <| W.ret ?_
   cases h
   exact QR.f1 rfl rfl (.t rfl) (.id _)
  ·refine W.drawK [(0, false), (1, false), (2, false), (3, false), (4, false), (5, false), (6, false), (7, false), (8, false), (9, false), (10, false), (11, false), (12, false), (13, false), (14, false), (15, false), (16, false), (17, false), (18, false)] [] (bm [0, 0, 3, 7, 15, 31, 63, 127, 127, 383, 127, 1919, 3967, 8063, 127, 32767, 65535, 131071, 262143]) mx (by kernel_rfl) <| dm rfl rfl rfl <| dm rfl rfl rfl <| DK.cons rfl rfl (.p rfl (.s 7 rfl (.s 8 rfl .nil)) rfl (q_int rfl rfl)) <| dm rfl rfl rfl ?_
   rcases bif_s h with ⟨hb110, h⟩ | ⟨hb110, h⟩
   ·refine dx rfl rfl rfl hb110 <| dx rfl rfl rfl hb110 <| dx rfl rfl rfl hb110 <| DK.cons rfl rfl (.und rfl rfl rfl) <| DK.cons rfl rfl (.und rfl rfl rfl) <| DK.cons rfl rfl (.und rfl rfl rfl) <| DK.cons rfl rfl (.und rfl rfl rfl) <| DK.cons rfl rfl (.und rfl rfl rfl) <| DK.cons rfl rfl (.und rfl rfl rfl) <| DK.cons rfl rfl (.und rfl rfl rfl) <| DK.cons rfl rfl (.und rfl rfl rfl) <| DK.cons rfl rfl (.und rfl rfl rfl) <| dx rfl rfl rfl hb110 ?_
    refine DK.cons rfl rfl (.p rfl (.s 10 rfl (.k .nil)) rfl (q_pickT rfl hb110)) <| DK.cons rfl rfl (.p rfl (.s 24 rfl .nil) rfl (q_assign rfl)) <| DK.nil <| CSteps.nil ?_
    exact QN.weaken (.one rfl (.nil _)) (Kj109 () true h)
   ·refine DK.cons rfl rfl (.gp rfl rfl rfl hb110 (.s 1 rfl .nil) rfl (q_move rfl)) <| DK.cons rfl rfl (.gp rfl rfl rfl hb110 (.s 11 rfl (.k .nil)) rfl (q_int rfl rfl)) <| DK.cons rfl rfl (.gp rfl rfl rfl hb110 (.s 12 rfl .nil) rfl (q_move rfl)) ?_
    rcases bif_s h with ⟨hb111, h⟩ | ⟨hb111, h⟩
    ·refine DK.cons rfl rfl (.gp rfl rfl rfl hb111 (.s 3 rfl .nil) rfl (q_loadS rfl sh25 (leB rfl) rfl)) <| DK.cons rfl rfl (.gp rfl rfl rfl hb111 (.s 3 rfl .nil) rfl (q_field rfl fo25_0 rfl)) <| DK.cons rfl rfl (.gp rfl rfl rfl hb111 (.s 15 rfl .nil) rfl (q_load rfl sh22)) <| DK.cons rfl rfl (.gp rfl rfl rfl hb111 (.s 1 rfl .nil) rfl (q_move rfl)) ?_
     obtain ⟨c112, h⟩ := ite_n h
     refine DK.cons rfl rfl (.gp rfl rfl rfl hb111 (.s 16 rfl (.s 17 rfl .nil)) rfl (q_index rfl el22 rfl c112.1 c112.2)) <| DK.cons rfl rfl (.gp rfl rfl rfl hb111 (.s 18 rfl .nil) rfl (q_field rfl fo120_1 rfl)) <| DK.cons rfl rfl (.gp rfl rfl rfl hb111 (.s 19 rfl .nil) rfl (q_load rfl sh3)) <| DK.cons rfl rfl (.gp rfl rfl rfl hb111 (.s 2 rfl .nil) rfl (q_move rfl)) ?_
     obtain ⟨t113, ht113, h⟩ := bind_s h
     refine DK.cons rfl rfl (.gp rfl rfl rfl hb111 (.s 14 rfl (.s 20 rfl (.s 21 rfl .nil))) rfl (q_call (f := 56) (A := bA t113) (xs := [.tmp 14, .tmp 20, .tmp 21]) («as» := [AggA [SlcA kNodeType a0.fNodes, SlcA kEdgeType a0.fEdges], iA ((rd a0.fNodes a1).fParent), iA a2]) rfl ca56 (ih a0 ((rd a0.fNodes a1).fParent) a2 t113 ht113) rfl)) <| DK.cons rfl rfl (.gp rfl rfl rfl hb110 (.s 13 rfl (.s 22 rfl .nil)) rfl (q_pickT rfl hb111)) <| DK.cons rfl rfl (.p rfl (.s 10 rfl (.s 23 rfl .nil)) rfl (q_pickF rfl hb110)) <| DK.cons rfl rfl (.p rfl (.s 24 rfl .nil) rfl (q_assign rfl)) <| DK.nil <| CSteps.nil ?_
     exact QN.weaken (.one rfl (.nil _)) (Kj109 () t113 h)
    ·refine dx rfl rfl rfl hb111 <| dx rfl rfl rfl hb111 <| dx rfl rfl rfl hb111 <| dx rfl rfl rfl hb111 <| dx rfl rfl rfl hb111 <| dx rfl rfl rfl hb111 <| dx rfl rfl rfl hb111 <| dx rfl rfl rfl hb111 <| dx rfl rfl rfl hb111 <| DK.cons rfl rfl (.gp rfl rfl rfl hb110 (.s 13 rfl (.k .nil)) rfl (q_pickF rfl hb111)) <| DK.cons rfl rfl (.p rfl (.s 10 rfl (.s 23 rfl .nil)) rfl (q_pickF rfl hb110)) <| DK.cons rfl rfl (.p rfl (.s 24 rfl .nil) rfl (q_assign rfl)) <| DK.nil ?_
     refine CSteps.nil ?_
     exact QN.weaken (.one rfl (.nil _)) (Kj109 () false h)
theorem ref04_Fits.con (k : Nat) (a0 : Types) (a1 : Int) (a2 : Int) (a3 : Int) (r : Bool) (h : ref04_Fits k a0 a1 a2 a3 = some r) : Con Tryz.prog 53 [] [AggA [SlcA kNodeType a0.fNodes, SlcA kEdgeType a0.fEdges], iA a1, iA a2, iA a3] (RA (bA r)) := by
 unfold ref04_Fits at h
 refine Con.of (N := 43) Tryz.func53 rfl rfl rfl fun w0_ fg_ => sr <| p1 rfl 0 rfl (q_box rfl (CellsOf.agg _)) <| ak rfl <| nt <| W.seq <| W.seq ?_
 refine W.jn1 (Γ := Unit) (fun (_ : Unit) (x22 : Bool) => [(1, iA a1), (2, iA a2), (3, iA a3), (4, PtrA [SlcA kNodeType a0.fNodes, SlcA kEdgeType a0.fEdges]), (22, bA x22)]) (fun (_ : Unit) (_ : Bool) => []) h (fun _ x22 h => ?_) (fun j105 Kj105 h => ?_)
 ·refine QN.then_ ?_
  refine W.condP h rfl (fun hb106 h => ?_) (fun hb106 h => ?_)
  ·refine sr <| ak rfl <| nt <| W.ret <| QR.then_ ?_
   cases h
   exact QR.f1 rfl rfl (.t rfl) (.id _)
  ·refine W.skip <| QN.then_ <| W.seq ?_
   refine W.jn1 (Γ := Unit) (fun (_ : Unit) (x8 : Bool) => [(8, bA x8)]) (fun (_ : Unit) (_ : Bool) => []) h (fun _ x8 h => ?_) (fun j118 Kj118 h => ?_)
   ·refine QN.then_ <| W.ret ?_
    cases h
    exact QR.f1 rfl rfl (.t rfl) (.id _)
   ·refine W.drawK [(0, false), (1, false), (2, false), (3, false), (4, false), (5, false), (6, false), (7, false), (8, false), (9, false), (10, false), (11, false), (12, false), (13, false), (14, false), (15, false), (16, false), (17, false), (18, false), (19, false), (20, false)] [] (bm [0, 0, 0, 4, 0, 28, 60, 124, 255, 511, 1023, 1023, 1023, 5119, 1023, 29695, 62463, 127999, 262143, 524287, 1048575]) mx (by kernel_rfl) <| DK.cons rfl rfl (.p rfl (.s 4 rfl .nil) rfl (q_loadS rfl sh25 (leB rfl) rfl)) <| dm rfl rfl rfl <| df rfl rfl rfl fo25_1 rfl <| dl rfl rfl rfl sh23 <| dm rfl rfl rfl ?_
    obtain ⟨c119, h⟩ := ite_n h
    refine DK.cons rfl rfl (.p rfl (.s 26 rfl (.s 27 rfl .nil)) rfl (q_index rfl el23 rfl c119.1 c119.2)) <| df rfl rfl rfl fo60_1 rfl <| dl rfl rfl rfl sh3 ?_
    obtain ⟨t120, ht120, h⟩ := bind_s h
    refine DK.cons rfl rfl (.p rfl (.s 23 rfl (.s 24 rfl (.s 30 rfl .nil))) rfl (q_call (f := 56) (A := bA t120) (xs := [.tmp 23, .tmp 24, .tmp 30]) («as» := [AggA [SlcA kNodeType a0.fNodes, SlcA kEdgeType a0.fEdges], iA a2, iA ((rd a0.fEdges a1).fFrom)]) rfl ca56 (ref04_Below1.con k a0 a2 ((rd a0.fEdges a1).fFrom) t120 ht120) rfl)) <| dm rfl rfl rfl ?_
    rcases bif_s h with ⟨hb121, h⟩ | ⟨hb121, h⟩
    ·refine DK.cons rfl rfl (.gp rfl rfl rfl hb121 (.s 4 rfl .nil) rfl (q_loadS rfl sh25 (leB rfl) rfl)) <| DK.cons rfl rfl (.gp rfl rfl rfl hb121 (.s 3 rfl .nil) rfl (q_move rfl)) <| DK.cons rfl rfl (.gp rfl rfl rfl hb121 (.s 4 rfl .nil) rfl (q_field rfl fo25_1 rfl)) <| DK.cons rfl rfl (.gp rfl rfl rfl hb121 (.s 35 rfl .nil) rfl (q_load rfl sh23)) <| DK.cons rfl rfl (.gp rfl rfl rfl hb121 (.s 1 rfl .nil) rfl (q_move rfl)) ?_
     obtain ⟨c122, h⟩ := ite_n h
     refine DK.cons rfl rfl (.gp rfl rfl rfl hb121 (.s 36 rfl (.s 37 rfl .nil)) rfl (q_index rfl el23 rfl c122.1 c122.2)) <| DK.cons rfl rfl (.gp rfl rfl rfl hb121 (.s 38 rfl .nil) rfl (q_field rfl fo60_2 rfl)) <| DK.cons rfl rfl (.gp rfl rfl rfl hb121 (.s 39 rfl .nil) rfl (q_load rfl sh3)) ?_
     obtain ⟨t123, ht123, h⟩ := bind_s h
     refine DK.cons rfl rfl (.gp rfl rfl rfl hb121 (.s 33 rfl (.s 34 rfl (.s 40 rfl .nil))) rfl (q_call (f := 56) (A := bA t123) (xs := [.tmp 33, .tmp 34, .tmp 40]) («as» := [AggA [SlcA kNodeType a0.fNodes, SlcA kEdgeType a0.fEdges], iA a3, iA ((rd a0.fEdges a1).fTo)]) rfl ca56 (ref04_Below1.con k a0 a3 ((rd a0.fEdges a1).fTo) t123 ht123) rfl)) <| DK.cons rfl rfl (.p rfl (.s 32 rfl (.s 41 rfl .nil)) rfl (q_pickT rfl hb121)) <| DK.cons rfl rfl (.p rfl (.s 42 rfl .nil) rfl (q_assign rfl)) <| DK.nil <| CSteps.nil ?_
     exact QN.weaken (.one rfl (.nil _)) (Kj118 () t123 h)
    ·refine dx rfl rfl rfl hb121 <| dx rfl rfl rfl hb121 <| dx rfl rfl rfl hb121 <| dx rfl rfl rfl hb121 <| dx rfl rfl rfl hb121 <| dx rfl rfl rfl hb121 <| dx rfl rfl rfl hb121 <| dx rfl rfl rfl hb121 <| dx rfl rfl rfl hb121 <| DK.cons rfl rfl (.p rfl (.s 32 rfl (.k .nil)) rfl (q_pickF rfl hb121)) <| DK.cons rfl rfl (.p rfl (.s 42 rfl .nil) rfl (q_assign rfl)) <| DK.nil <| CSteps.nil ?_
     exact QN.weaken (.one rfl (.nil _)) (Kj118 () false h)
 ·refine W.region <| lS rfl rfl sh25 rfl rfl <| mv rfl rfl <| mv rfl rfl ?_
  obtain ⟨t124, ht124, h⟩ := bind_s h
  refine WL.p rfl rfl rfl (.s 9 rfl (.s 10 rfl (.s 11 rfl .nil))) (q_call (f := 100) (A := iA t124) (xs := [.tmp 9, .tmp 10, .tmp 11]) («as» := [AggA [SlcA kNodeType a0.fNodes, SlcA kEdgeType a0.fEdges], iA a2, iA a3]) rfl ca100 (ref04_given.con k a0 a2 a3 t124 ht124) rfl) <| pk rfl 12 rfl (q_int rfl rfl) <| mv rfl rfl ?_
  rcases bif_s h with ⟨hb125, h⟩ | ⟨hb125, h⟩
  ·refine sk rfl rfl rfl hb125 <| sk rfl rfl rfl hb125 <| sk rfl rfl rfl hb125 <| sk rfl rfl rfl hb125 <| sk rfl rfl rfl hb125 <| sk rfl rfl rfl hb125 <| sk rfl rfl rfl hb125 <| pk rfl 14 rfl (q_pickT rfl hb125) <| WL.nil ?_
   exact QN.weaken (.o4 rfl (.one rfl (.nil _))) (Kj105 () true h)
  ·refine wm rfl rfl rfl hb125 rfl rfl <| wf rfl rfl rfl hb125 rfl rfl fo25_1 rfl <| wl rfl rfl rfl hb125 rfl rfl sh23 <| wq rfl rfl rfl hb125 (.s 17 rfl .nil) (q_len rfl elS23).o ?_
   obtain ⟨c126, h⟩ := ite_n h
   refine wq rfl rfl rfl hb125 (.s 18 rfl (.k .nil)) (q_subR rfl c126).o ?_
   obtain ⟨t127, ht127, h⟩ := bind_s h
   refine wq rfl rfl rfl hb125 (.s 15 rfl (.k (.s 19 rfl .nil))) (q_call (f := 101) (A := bA t127) (xs := [.tmp 15, .const (.int .i64 0), .tmp 19]) («as» := [iA a1, iA 0, iA ((a0.fEdges.length : Int) - 1)]) rfl ca101 (ref04_in.con k a1 0 ((a0.fEdges.length : Int) - 1) t127 ht127) rfl).o <| wq rfl rfl rfl hb125 (.s 20 rfl .nil) (q_not rfl).o <| p2 rfl 14 rfl 21 rfl (q_pickF rfl hb125) <| WL.nil ?_
   exact QN.weaken (.o4 rfl (.one rfl (.nil _))) (Kj105 () (!t127) h)
theorem ref15_Valid.con (k : Nat) (a0 : Types) (a1 : Host) (r : (Int × Int)) (h : ref15_Valid k a0 a1 = some r) : Con Tryz.prog 15 [] [AggA [SlcA kNodeType a0.fNodes, SlcA kEdgeType a0.fEdges], AggA [SlcA kInt a1.fGraph.fNodes, SlcA kEdge a1.fGraph.fEdges, SlcA (kSl kInt) a1.fValues]] (RA (TupA [iA r.1, iA r.2])) := by
 unfold ref15_Valid at h
 refine Con.of (N := 101) Tryz.func15 rfl rfl rfl fun w0_ fg_ => sr <| p1 rfl 0 rfl (q_box rfl (CellsOf.agg _)) <| p1 rfl 1 rfl (q_box rfl (CellsOf.agg _)) <| ak rfl <| ak rfl <| nt <| W.seq <| sr <| lS rfl rfl sh25 rfl rfl ?_
 obtain ⟨t100, ht100, h⟩ := bind_s h
 refine p1 rfl 14 rfl (q_call (f := 50) (A := TupA [EqA (strV t100.1), iA t100.2]) (xs := [.tmp 14]) («as» := [AggA [SlcA kNodeType a0.fNodes, SlcA kEdgeType a0.fEdges]]) rfl ca50 (ref04_Valid.con k a0 t100 ht100) rfl) <| mv rfl rfl <| p1 rfl 13 rfl (q_extract rfl rfl) <| p1 rfl 13 rfl (q_extract rfl rfl) <| av rfl rfl <| av rfl rfl <| WL.nil <| QN.weaken (env' := [(7, _), (3, _), (2, _)]) (.o2 rfl (.one rfl (.nil _))) <| QN.then_ <| sr <| mv rfl rfl <| pk rfl 18 rfl (q_int rfl rfl) ?_
 refine nt ?_
 refine W.condP h rfl (fun hb101 h => ?_) (fun hb101 h => ?_)
 ·refine sr <| mv rfl rfl <| ak rfl <| av rfl rfl <| nt <| W.ret <| QR.then_ ?_
  cases h
  exact QR.f2 rfl rfl (.t rfl) (.t rfl) (.id _)
 ·refine W.skip <| QN.then_ <| W.seq <| sr <| fd rfl rfl fo32_0 rfl <| lS rfl rfl sh29 rfl rfl ?_
  obtain ⟨t102, ht102, h⟩ := bind_s h
  refine p1 rfl 22 rfl (q_call (f := 51) (A := iA t102) (xs := [.tmp 22]) («as» := [AggA [SlcA kInt a1.fGraph.fNodes, SlcA kEdge a1.fGraph.fEdges]]) rfl ca51 (ref05_Valid.con k a1.fGraph t102 ht102) rfl) <| av rfl rfl <| nx <| mv rfl rfl <| pk rfl 24 rfl (q_int rfl rfl) <| WL.nil <| QN.weaken (env' := [(25, _), (8, _), (3, _), (2, _)]) (.o4 rfl (.nil _)) <| QN.then_ ?_
  refine W.condP h rfl (fun hb103 h => ?_) (fun hb103 h => ?_)
  ·refine sr <| mv rfl rfl <| ak rfl <| av rfl rfl <| nt <| W.ret <| QR.then_ ?_
   cases h
   exact QR.f2 rfl rfl (.t rfl) (.t rfl) (.id _)
  ·refine W.skip <| QN.then_ <| W.seq <| sr <| fd rfl rfl fo32_1 rfl <| ld rfl rfl sh30 <| p1 rfl 28 rfl (q_len rfl elS30) <| fd rfl rfl fo32_0 rfl <| fd rfl rfl fo29_0 rfl <| ld rfl rfl sh26 <| p1 rfl 32 rfl (q_len rfl elS26) <| p2 rfl 29 rfl 33 rfl (q_int rfl rfl) ?_
   refine WL.nil <| QN.weaken (env' := [(34, _), (3, _), (2, _)]) (.o2 rfl (.one rfl (.nil _))) <| QN.then_ ?_
   refine W.condP h rfl (fun hb104 h => ?_) (fun hb104 h => ?_)
   ·refine sr <| ak rfl <| ak rfl <| nt <| W.ret <| QR.then_ ?_
    cases h
    exact QR.f2 rfl rfl (.t rfl) (.t rfl) (.id _)
   ·refine W.skip <| QN.then_ <| W.seq <| sr <| ak rfl <| nt <| W.block ?_
    refine W.loop1 (Γ := Unit) (fun (_ : Unit) (x9 : Int) => [(2, PtrA [SlcA kNodeType a0.fNodes, SlcA kEdgeType a0.fEdges]), (3, PtrA [SlcA kInt a1.fGraph.fNodes, SlcA kEdge a1.fGraph.fEdges, SlcA (kSl kInt) a1.fValues]), (9, iA x9)]) (fun (_ : Unit) (_ : Int) => []) h () (.o2 rfl (.one rfl (.nil _))) rfl (fun rec0 K0 next0 _ x9 h => ?_)
    unfold ref15_Valid.b0 at h
    refine W.seq <| sr <| mv rfl rfl <| fd rfl rfl fo32_0 rfl <| fd rfl rfl fo29_0 rfl <| ld rfl rfl sh26 <| p1 rfl 38 rfl (q_len rfl elS26) <| p2 rfl 35 rfl 39 rfl (q_int rfl rfl) <| nt ?_
    refine W.condP h rfl (fun hb219 h => ?_) (fun hb219 h => ?_)
    ·refine W.skip <| QN.then_ <| W.seq <| W.block <| W.seq <| W.drawK [(0, false), (1, false), (2, false), (3, false), (4, false), (5, false), (6, false), (7, false), (8, false), (9, false), (10, false), (11, false), (12, false), (13, false)] [] (bm [0, 0, 2, 6, 0, 30, 62, 0, 128, 0, 896, 1920, 4095, 8191]) mx (by kernel_rfl) <| DK.cons rfl rfl (.p rfl (.s 2 rfl .nil) rfl (q_loadS rfl sh25 (leB rfl) rfl)) <| df rfl rfl rfl fo32_0 rfl <| df rfl rfl rfl fo29_0 rfl <| dl rfl rfl rfl sh26 <| dm rfl rfl rfl ?_
     obtain ⟨c226, h⟩ := ite_n h
     refine DK.cons rfl rfl (.p rfl (.s 46 rfl (.s 47 rfl .nil)) rfl (q_index rfl el26 rfl c226.1 c226.2)) <| dl rfl rfl rfl sh3 <| df rfl rfl rfl fo32_1 rfl <| dl rfl rfl rfl sh30 <| dm rfl rfl rfl ?_
     obtain ⟨c227, h⟩ := ite_n h
     refine DK.cons rfl rfl (.p rfl (.s 51 rfl (.s 52 rfl .nil)) rfl (q_index rfl el30 rfl c227.1 c227.2)) <| dl rfl rfl rfl sh26 ?_
     obtain ⟨t228, ht228, h⟩ := bind_s h
     refine DK.cons rfl rfl (.p rfl (.s 43 rfl (.s 49 rfl (.s 54 rfl .nil))) rfl (q_call (f := 52) (A := iA t228) (xs := [.tmp 43, .tmp 49, .tmp 54]) («as» := [AggA [SlcA kNodeType a0.fNodes, SlcA kEdgeType a0.fEdges], iA (rd a1.fGraph.fNodes x9), SlcA kInt (rd a1.fValues x9)]) rfl ca52 (ref15_node.con k a0 (rd a1.fGraph.fNodes x9) (rd a1.fValues x9) t228 ht228) rfl)) <| DK.cons rfl rfl (.p rfl (.s 55 rfl .nil) rfl (q_assign rfl)) <| DK.nil <| CSteps.nil <| QN.weaken (env' := [(10, _), (9, _), (3, _), (2, _)]) (.o4 rfl (.nil _)) <| QN.then_ <| sr <| mv rfl rfl <| pk rfl 56 rfl (q_int rfl rfl) <| nt ?_
     refine W.condP h rfl (fun hb229 h => ?_) (fun hb229 h => ?_)
     ·refine sr <| mv rfl rfl <| mv rfl rfl <| av rfl rfl <| av rfl rfl <| WL.nil <| QN.weaken (env' := [(5, _), (4, _)]) (.o2 rfl (.nil _)) <| QN.then_ <| W.ret <| QR.block <| QR.then_ <| QR.then_ ?_
      refine QR.block <| QR.then_ ?_
      cases h
      exact QR.f2 rfl rfl (.t rfl) (.t rfl) (.id _)
     ·refine W.skip <| QN.block <| QN.then_ <| W.region <| mv rfl rfl ?_
      obtain ⟨c230, h⟩ := ite_n h
      refine pk rfl 41 rfl (q_addR rfl c230) <| av rfl rfl <| WL.nil ?_
      exact next0 () (x9 + 1) _ h (.o2 rfl (.one rfl (.nil _)))
    ·refine W.exit <| QX.then_ <| QX.then_ <| QX.here <| QN.weaken (env' := [(3, _), (2, _)]) (.o2 rfl (.nil _)) <| QN.then_ <| W.seq <| sr <| ak rfl <| nt <| W.block ?_
     refine W.loop1 (Γ := Unit) (fun (_ : Unit) (x11 : Int) => [(2, PtrA [SlcA kNodeType a0.fNodes, SlcA kEdgeType a0.fEdges]), (3, PtrA [SlcA kInt a1.fGraph.fNodes, SlcA kEdge a1.fGraph.fEdges, SlcA (kSl kInt) a1.fValues]), (11, iA x11)]) (fun (_ : Unit) (_ : Int) => []) h () (.o2 rfl (.one rfl (.nil _))) rfl (fun rec1 K1 next1 _ x11 h => ?_)
     unfold ref15_Valid.b1 at h
     refine W.seq <| sr <| mv rfl rfl <| fd rfl rfl fo32_0 rfl <| fd rfl rfl fo29_1 rfl <| ld rfl rfl sh27 <| p1 rfl 63 rfl (q_len rfl elS27) <| p2 rfl 60 rfl 64 rfl (q_int rfl rfl) <| nt ?_
     refine W.condP h rfl (fun hb261 h => ?_) (fun hb261 h => ?_)
     ·refine W.skip <| QN.then_ <| W.seq <| W.block <| sr <| fd rfl rfl fo32_0 rfl <| fd rfl rfl fo29_1 rfl <| ld rfl rfl sh27 <| mv rfl rfl ?_
      obtain ⟨c262, h⟩ := ite_n h
      refine p2 rfl 70 rfl 71 rfl (q_index rfl el27 rfl c262.1 c262.2) <| lS rfl rfl sh63 rfl rfl <| WL.w [] rfl (Wanted.plain rfl) rfl rfl .nil (w_alloc rfl z63 (l := [iA 0, iA 0, iA 0]) rfl) ?_
      rintro _ _ ⟨b263, rfl, rfl⟩
      refine WL.w0 [0] rfl (Wanted.plain rfl) rfl (.s 12 rfl (.s 73 rfl .nil)) (w_store (L := [iA ((rd a1.fGraph.fEdges x11).fType), iA ((rd a1.fGraph.fEdges x11).fFrom), iA ((rd a1.fGraph.fEdges x11).fTo)]) rfl sh63 (CellsOf.agg _) rfl rfl (leB rfl) rfl) ?_
      rintro _ _ ⟨rfl, rfl⟩
      refine WL.nil <| QN.to (StTo.still [0] 12 rfl rfl) <| QN.weaken (env' := [(12, _), (11, _), (3, _), (2, _)]) (.o4 rfl (.nil _)) <| QN.then_ <| W.seq <| sr <| fd rfl rfl fo63_0 rfl <| ld rfl rfl sh3 <| fd rfl rfl fo25_1 rfl <| ld rfl rfl sh23 <| p1 rfl 77 rfl (q_len rfl elS23) <| p2 rfl 75 rfl 78 rfl (q_int rfl rfl) ?_
      refine nt ?_
      refine W.condP h rfl (fun hb264 h => ?_) (fun hb264 h => ?_)
      ·refine sr <| mv rfl rfl <| av rfl rfl <| ak rfl <| WL.nil <| QN.weaken (env' := [(5, _), (4, _)]) (.o2 rfl (.nil _)) <| QN.then_ <| W.ret <| QR.then_ <| QR.block <| QR.then_ <| QR.then_ ?_
       refine QR.block <| QR.then_ ?_
       cases h
       exact QR.f2 rfl rfl (.t rfl) (.t rfl) (.id _)
      ·refine W.skip <| QN.then_ <| W.seq <| W.drawK [(0, false), (1, false), (2, false), (3, false), (4, false), (5, false), (6, false), (7, false), (8, false), (9, false), (10, false), (11, false), (12, false), (13, false), (14, false), (15, false), (16, false), (17, false), (18, false)] [] (bm [0, 0, 2, 0, 8, 24, 0, 64, 248, 504, 0, 1024, 3072, 0, 8192, 31744, 64512, 131071, 262143]) mx (by kernel_rfl) <| DK.cons rfl rfl (.p rfl (.s 2 rfl .nil) rfl (q_loadS rfl sh25 (leB rfl) rfl)) <| df rfl rfl rfl fo63_0 rfl <| dl rfl rfl rfl sh3 <| df rfl rfl rfl fo32_0 rfl <| df rfl rfl rfl fo29_0 rfl <| dl rfl rfl rfl sh26 <| df rfl rfl rfl fo63_1 rfl <| dl rfl rfl rfl sh3 ?_
       obtain ⟨c271, h⟩ := ite_n h
       refine DK.cons rfl rfl (.p rfl (.s 86 rfl (.s 88 rfl .nil)) rfl (q_index rfl el26 rfl c271.1 c271.2)) <| dl rfl rfl rfl sh3 <| df rfl rfl rfl fo32_0 rfl <| df rfl rfl rfl fo29_0 rfl <| dl rfl rfl rfl sh26 <| df rfl rfl rfl fo63_2 rfl <| dl rfl rfl rfl sh3 ?_
       obtain ⟨c272, h⟩ := ite_n h
       refine DK.cons rfl rfl (.p rfl (.s 93 rfl (.s 95 rfl .nil)) rfl (q_index rfl el26 rfl c272.1 c272.2)) <| dl rfl rfl rfl sh3 ?_
       obtain ⟨t273, ht273, h⟩ := bind_s h
       refine DK.cons rfl rfl (.p rfl (.s 81 rfl (.s 83 rfl (.s 90 rfl (.s 97 rfl .nil)))) rfl (q_call (f := 53) (A := bA t273) (xs := [.tmp 81, .tmp 83, .tmp 90, .tmp 97]) («as» := [AggA [SlcA kNodeType a0.fNodes, SlcA kEdgeType a0.fEdges], iA ((rd a1.fGraph.fEdges x11).fType), iA (rd a1.fGraph.fNodes ((rd a1.fGraph.fEdges x11).fFrom)), iA (rd a1.fGraph.fNodes ((rd a1.fGraph.fEdges x11).fTo))]) rfl ca53 (ref04_Fits.con k a0 ((rd a1.fGraph.fEdges x11).fType) (rd a1.fGraph.fNodes ((rd a1.fGraph.fEdges x11).fFrom)) (rd a1.fGraph.fNodes ((rd a1.fGraph.fEdges x11).fTo)) t273 ht273) rfl)) <| DK.cons rfl rfl (.p rfl (.s 98 rfl .nil) rfl (q_not rfl)) <| DK.nil <| CSteps.nil <| QN.weaken (env' := [(99, _), (11, _), (3, _), (2, _)]) (.o4 rfl (.nil _)) <| QN.then_ ?_
       refine W.condP h rfl (fun hb274 h => ?_) (fun hb274 h => ?_)
       ·refine sr <| mv rfl rfl <| av rfl rfl <| ak rfl <| nt <| W.ret <| QR.block <| QR.then_ <| QR.then_ <| QR.block <| QR.then_ ?_
        cases h
        exact QR.f2 rfl rfl (.t rfl) (.t rfl) (.id _)
       ·refine W.skip <| QN.block <| QN.then_ <| W.region <| mv rfl rfl ?_
        obtain ⟨c275, h⟩ := ite_n h
        refine pk rfl 66 rfl (q_addR rfl c275) <| av rfl rfl <| WL.nil ?_
        exact next1 () (x11 + 1) _ h (.o2 rfl (.one rfl (.nil _)))
     ·refine W.exit <| QX.then_ <| QX.then_ <| QX.here <| QN.weaken (env' := []) (.nil _) <| QN.then_ <| sr <| ak rfl <| ak rfl <| nt <| W.ret ?_
      cases h
      exact QR.f2 rfl rfl (.t rfl) (.t rfl) (.id _)
theorem ref15_count.con (k : Nat) (a0 : Graph) (a1 : Int) (a2 : Int) (a3 : Bool) (r : Int) (h : ref15_count k a0 a1 a2 a3 = some r) : Con Tryz.prog 57 [] [AggA [SlcA kInt a0.fNodes, SlcA kEdge a0.fEdges], iA a1, iA a2, bA a3] (RA (iA r)) := by
 unfold ref15_count at h
 refine Con.of (N := 50) Tryz.func57 rfl rfl rfl fun w0_ fg_ => sr <| p1 rfl 0 rfl (q_box rfl (CellsOf.agg _)) <| ak rfl <| nx <| ak rfl <| nt <| W.seq ?_
 refine sr <| ak rfl <| nt <| W.block ?_
 refine W.loop2 (Γ := Unit) (fun (_ : Unit) (x9 : Int) (x10 : Int) => [(1, iA a1), (2, iA a2), (3, bA a3), (4, PtrA [SlcA kInt a0.fNodes, SlcA kEdge a0.fEdges]), (9, iA x9), (10, iA x10)]) (fun (_ : Unit) (_ : Int) (_ : Int) => []) h () (.o4 rfl (.o2 rfl (.nil _))) rfl (fun rec0 K0 next0 _ x9 x10 h => ?_)
 unfold ref15_count.b0 at h
 refine W.seq <| sr <| mv rfl rfl <| fd rfl rfl fo29_1 rfl <| ld rfl rfl sh27 <| p1 rfl 14 rfl (q_len rfl elS27) <| p2 rfl 12 rfl 15 rfl (q_int rfl rfl) <| nt ?_
 refine W.condP h rfl (fun hb142 h => ?_) (fun hb142 h => ?_)
 ·refine W.skip <| QN.then_ <| W.seq <| W.block <| sr <| fd rfl rfl fo29_1 rfl <| ld rfl rfl sh27 <| mv rfl rfl ?_
  obtain ⟨c143, h⟩ := ite_n h
  refine p2 rfl 20 rfl 21 rfl (q_index rfl el27 rfl c143.1 c143.2) <| lS rfl rfl sh63 rfl rfl <| WL.w [] rfl (Wanted.plain rfl) rfl rfl .nil (w_alloc rfl z63 (l := [iA 0, iA 0, iA 0]) rfl) ?_
  rintro _ _ ⟨b144, rfl, rfl⟩
  refine WL.w0 [0] rfl (Wanted.plain rfl) rfl (.s 11 rfl (.s 23 rfl .nil)) (w_store (L := [iA ((rd a0.fEdges x10).fType), iA ((rd a0.fEdges x10).fFrom), iA ((rd a0.fEdges x10).fTo)]) rfl sh63 (CellsOf.agg _) rfl rfl (leB rfl) rfl) ?_
  rintro _ _ ⟨rfl, rfl⟩
  refine WL.nil <| QN.to (StTo.still [0] 11 rfl rfl) <| QN.weaken (env' := [(11, _), (10, _), (9, _), (4, _), (3, _), (2, _), (1, _)]) (.o4 rfl (.o2 rfl (.one rfl (.nil _)))) <| QN.then_ <| W.seq ?_
  refine W.jn1 (Γ := Unit) (fun (_ : Unit) (x46 : Bool) => [(1, iA a1), (2, iA a2), (3, bA a3), (4, PtrA [SlcA kInt a0.fNodes, SlcA kEdge a0.fEdges]), (9, iA x9), (10, iA x10), (46, bA x46)]) (fun (_ : Unit) (_ : Bool) => []) h (fun _ x46 h => ?_) (fun j151 Kj151 h => ?_)
  ·refine QN.then_ ?_
   refine W.condP h rfl (fun hb154 h => ?_) (fun hb154 h => ?_)
   ·refine W.region <| mv rfl rfl ?_
    obtain ⟨c155, h⟩ := ite_n h
    refine pk rfl 47 rfl (q_addR rfl c155) <| av rfl rfl <| WL.nil <| QN.block <| QN.then_ <| W.region <| mv rfl rfl ?_
    obtain ⟨c156, h⟩ := ite_n h
    refine pk rfl 17 rfl (q_addR rfl c156) <| av rfl rfl <| WL.nil ?_
    exact next0 () (x9 + 1) (x10 + 1) _ h (.o4 rfl (.o2 rfl (.nil _)))
   ·refine W.skip <| QN.block <| QN.then_ <| W.region <| mv rfl rfl ?_
    obtain ⟨c157, h⟩ := ite_n h
    refine pk rfl 17 rfl (q_addR rfl c157) <| av rfl rfl <| WL.nil ?_
    exact next0 () x9 (x10 + 1) _ h (.o4 rfl (.o2 rfl (.nil _)))
  ·refine W.region <| fd rfl rfl fo63_0 rfl <| ld rfl rfl sh3 <| mv rfl rfl <| p2 rfl 25 rfl 26 rfl (q_int rfl rfl) <| mv rfl rfl ?_
   rcases bif_s h with ⟨hb158, h⟩ | ⟨hb158, h⟩
   ·refine wm rfl rfl rfl hb158 rfl rfl <| wm rfl rfl rfl hb158 rfl rfl ?_
    rcases bif_s h with ⟨hb159, h⟩ | ⟨hb159, h⟩
    ·refine wf rfl rfl rfl hb159 rfl rfl fo63_1 rfl <| wl rfl rfl rfl hb159 rfl rfl sh3 <| wm rfl rfl rfl hb159 rfl rfl <| wq rfl rfl rfl hb159 (.s 32 rfl (.s 33 rfl .nil)) (q_int rfl rfl).o <| wq rfl rfl rfl hb158 (.s 30 rfl (.s 34 rfl .nil)) (q_pickT rfl hb159).o <| wm rfl rfl rfl hb158 rfl rfl ?_
     rcases bif_s h with ⟨hb160, h⟩ | ⟨hb160, h⟩
     ·refine sk rfl rfl rfl hb160 <| sk rfl rfl rfl hb160 <| sk rfl rfl rfl hb160 <| su rfl rfl rfl <| su rfl rfl rfl <| su rfl rfl rfl <| su rfl rfl rfl <| sk rfl rfl rfl hb160 <| wq rfl rfl rfl hb158 (.s 36 rfl (.k .nil)) (q_pickT rfl hb160).o <| p2 rfl 28 rfl 45 rfl (q_pickT rfl hb158) <| WL.nil ?_
      exact QN.weaken (.o4 rfl (.o2 rfl (.one rfl (.nil _)))) (Kj151 () true h)
     ·refine wm rfl rfl rfl hb160 rfl rfl <| wq rfl rfl rfl hb160 (.s 37 rfl .nil) (q_not rfl).o <| wm rfl rfl rfl hb160 rfl rfl ?_
      rcases bif_s h with ⟨hb161, h⟩ | ⟨hb161, h⟩
      ·refine wf rfl rfl rfl hb161 rfl rfl fo63_2 rfl <| wl rfl rfl rfl hb161 rfl rfl sh3 <| wm rfl rfl rfl hb161 rfl rfl <| wq rfl rfl rfl hb161 (.s 41 rfl (.s 42 rfl .nil)) (q_int rfl rfl).o <| wq rfl rfl rfl hb160 (.s 39 rfl (.s 43 rfl .nil)) (q_pickT rfl hb161).o <| wq rfl rfl rfl hb158 (.s 36 rfl (.s 44 rfl .nil)) (q_pickF rfl hb160).o <| p2 rfl 28 rfl 45 rfl (q_pickT rfl hb158) <| WL.nil ?_
       exact QN.weaken (.o4 rfl (.o2 rfl (.one rfl (.nil _)))) (Kj151 () ((rd a0.fEdges x10).fTo == a2) h)
      ·refine sk rfl rfl rfl hb161 <| sk rfl rfl rfl hb161 <| sk rfl rfl rfl hb161 <| sk rfl rfl rfl hb161 <| wq rfl rfl rfl hb160 (.s 39 rfl (.k .nil)) (q_pickF rfl hb161).o <| wq rfl rfl rfl hb158 (.s 36 rfl (.s 44 rfl .nil)) (q_pickF rfl hb160).o <| p2 rfl 28 rfl 45 rfl (q_pickT rfl hb158) <| WL.nil ?_
       exact QN.weaken (.o4 rfl (.o2 rfl (.one rfl (.nil _)))) (Kj151 () false h)
    ·refine sk rfl rfl rfl hb159 <| sk rfl rfl rfl hb159 <| sk rfl rfl rfl hb159 <| sk rfl rfl rfl hb159 <| wq rfl rfl rfl hb158 (.s 30 rfl (.k .nil)) (q_pickF rfl hb159).o <| wm rfl rfl rfl hb158 rfl rfl <| wm rfl rfl rfl rfl rfl rfl <| wq rfl rfl rfl rfl (.s 37 rfl .nil) (q_not rfl).o <| wm rfl rfl rfl rfl rfl rfl ?_
     rcases bif_s h with ⟨hb162, h⟩ | ⟨hb162, h⟩
     ·refine wf rfl rfl rfl hb162 rfl rfl fo63_2 rfl <| wl rfl rfl rfl hb162 rfl rfl sh3 <| wm rfl rfl rfl hb162 rfl rfl <| wq rfl rfl rfl hb162 (.s 41 rfl (.s 42 rfl .nil)) (q_int rfl rfl).o <| wq rfl rfl rfl rfl (.s 39 rfl (.s 43 rfl .nil)) (q_pickT rfl hb162).o <| wq rfl rfl rfl hb158 (.s 36 rfl (.s 44 rfl .nil)) (q_pickF rfl rfl).o <| p2 rfl 28 rfl 45 rfl (q_pickT rfl hb158) <| WL.nil ?_
      exact QN.weaken (.o4 rfl (.o2 rfl (.one rfl (.nil _)))) (Kj151 () ((rd a0.fEdges x10).fTo == a2) h)
     ·refine sk rfl rfl rfl hb162 <| sk rfl rfl rfl hb162 <| sk rfl rfl rfl hb162 <| sk rfl rfl rfl hb162 <| wq rfl rfl rfl rfl (.s 39 rfl (.k .nil)) (q_pickF rfl hb162).o <| wq rfl rfl rfl hb158 (.s 36 rfl (.s 44 rfl .nil)) (q_pickF rfl rfl).o <| p2 rfl 28 rfl 45 rfl (q_pickT rfl hb158) <| WL.nil ?_
      exact QN.weaken (.o4 rfl (.o2 rfl (.one rfl (.nil _)))) (Kj151 () false h)
   ·refine sk rfl rfl rfl hb158 <| sk rfl rfl rfl hb158 <| su rfl rfl rfl <| su rfl rfl rfl <| su rfl rfl rfl <| su rfl rfl rfl <| sk rfl rfl rfl hb158 <| sk rfl rfl rfl hb158 <| su rfl rfl rfl <| su rfl rfl rfl <| su rfl rfl rfl <| su rfl rfl rfl <| su rfl rfl rfl ?_
    refine su rfl rfl rfl <| su rfl rfl rfl <| su rfl rfl rfl <| sk rfl rfl rfl hb158 <| pk rfl 28 rfl (q_pickF rfl hb158) <| WL.nil ?_
    exact QN.weaken (.o4 rfl (.o2 rfl (.one rfl (.nil _)))) (Kj151 () false h)
 ·refine W.exit <| QX.then_ <| QX.then_ <| QX.here <| QN.weaken (env' := [(9, _)]) (.one rfl (.nil _)) <| QN.then_ <| sr <| mv rfl rfl <| av rfl rfl <| nt <| W.ret ?_
  cases h
  exact QR.f1 rfl rfl (.t rfl) (.id _)
theorem ref15_Excesses.con (k : Nat) (a0 : Types) (a1 : Host) (r : ((List Excess) × Int)) (h : ref15_Excesses k a0 a1 = some r) : Con Tryz.prog 17 [] [AggA [SlcA kNodeType a0.fNodes, SlcA kEdgeType a0.fEdges], AggA [SlcA kInt a1.fGraph.fNodes, SlcA kEdge a1.fGraph.fEdges, SlcA (kSl kInt) a1.fValues]] (RA (TupA [SlcA kExcess r.1, iA r.2])) := by
 unfold ref15_Excesses at h
 refine Con.of (N := 103) Tryz.func17 rfl rfl rfl fun w0_ fg_ => sr <| p1 rfl 0 rfl (q_box rfl (CellsOf.agg _)) <| p1 rfl 1 rfl (q_box rfl (CellsOf.agg _)) <| ak rfl <| ak rfl <| nt <| W.seq <| sr <| lS rfl rfl sh25 rfl rfl ?_
 refine lS rfl rfl sh32 rfl rfl ?_
 obtain ⟨t100, ht100, h⟩ := bind_s h
 refine p2 rfl 18 rfl 19 rfl (q_call (f := 15) (A := TupA [iA t100.1, iA t100.2]) (xs := [.tmp 18, .tmp 19]) («as» := [AggA [SlcA kNodeType a0.fNodes, SlcA kEdgeType a0.fEdges], AggA [SlcA kInt a1.fGraph.fNodes, SlcA kEdge a1.fGraph.fEdges, SlcA (kSl kInt) a1.fValues]]) rfl ca15 (ref15_Valid.con k a0 a1 t100 ht100) rfl) <| mv rfl rfl <| p1 rfl 17 rfl (q_extract rfl rfl) <| p1 rfl 17 rfl (q_extract rfl rfl) <| av rfl rfl <| av rfl rfl <| WL.nil <| QN.weaken (env' := [(7, _), (3, _), (2, _)]) (.o2 rfl (.one rfl (.nil _))) <| QN.then_ <| sr <| mv rfl rfl <| pk rfl 23 rfl (q_int rfl rfl) ?_
 refine nt ?_
 refine W.condP h rfl (fun hb101 h => ?_) (fun hb101 h => ?_)
 ·refine sr <| mv rfl rfl <| ak rfl <| av rfl rfl <| nt <| W.ret <| QR.then_ ?_
  cases h
  exact QR.f2 rfl rfl (.t rfl) (.t rfl) (.imp (Imp.tup (.cons (Imp.nil kExcess) (.cons (Imp.id _) .nil))))
 ·refine W.skip <| QN.then_ <| sr <| ak rfl <| nt <| W.seq <| sr <| ak rfl <| nt ?_
  refine W.block <| W.to (StTo.newNil 44 kExcess) <| W.to (StTo.as 8 rfl Imp.nilHd) ?_
  refine W.loop2 (Γ := Value) (fun (g0 : Value) (_ : (List Excess)) (x9 : Int) => [(2, PtrA [SlcA kNodeType a0.fNodes, SlcA kEdgeType a0.fEdges]), (3, PtrA [SlcA kInt a1.fGraph.fNodes, SlcA kEdge a1.fGraph.fEdges, SlcA (kSl kInt) a1.fValues]), (8, HdA g0), (9, iA x9)]) (fun (g0 : Value) (x8 : (List Excess)) (_ : Int) => [SlE 44 g0 kExcess x8]) h (.slice none 0 0) (.o4 rfl (.nil _)) rfl (fun rec0 K0 next0 g0 x8 x9 h => ?_)
  unfold ref15_Excesses.b0 at h
  refine W.seq <| sr <| mv rfl rfl <| fd rfl rfl fo25_1 rfl <| ld rfl rfl sh23 <| p1 rfl 28 rfl (q_len rfl elS23) <| p2 rfl 26 rfl 29 rfl (q_int rfl rfl) <| nt ?_
  refine W.condP h rfl (fun hb1003 h => ?_) (fun hb1003 h => ?_)
  ·refine W.skip <| QN.then_ <| W.seq <| W.block <| sr <| fd rfl rfl fo25_1 rfl <| ld rfl rfl sh23 <| mv rfl rfl ?_
   obtain ⟨c1004, h⟩ := ite_n h
   refine p2 rfl 34 rfl 35 rfl (q_index rfl el23 rfl c1004.1 c1004.2) <| lS rfl rfl sh60 rfl rfl <| WL.w [] rfl (Wanted.plain rfl) rfl rfl .nil (w_alloc rfl z60 (l := [EqA (strV ([] : Str)), iA 0, iA 0, iA 0, iA 0, iA 0, iA 0]) rfl) ?_
   rintro _ _ ⟨b1005, rfl, rfl⟩
   refine WL.w0 [0] rfl (Wanted.plain rfl) rfl (.s 10 rfl (.s 37 rfl .nil)) (w_store (L := [EqA (strV ((rd a0.fEdges x9).fName)), iA ((rd a0.fEdges x9).fFrom), iA ((rd a0.fEdges x9).fTo), iA ((rd a0.fEdges x9).fOutLow), iA ((rd a0.fEdges x9).fOutHigh), iA ((rd a0.fEdges x9).fInLow), iA ((rd a0.fEdges x9).fInHigh)]) rfl sh60 (CellsOf.agg _) rfl rfl (leB rfl) rfl) ?_
   rintro _ _ ⟨rfl, rfl⟩
   refine WL.nil <| QN.to (StTo.still [0] 10 rfl rfl) <| QN.weaken (env' := [(10, _), (9, _), (8, _), (3, _), (2, _)]) (.o4 rfl (.one rfl (.nil _))) <| QN.then_ <| sr <| ak rfl <| nt <| W.block ?_
   refine W.loop2 (Γ := Value) (fun (g1 : Value) (_ : (List Excess)) (x11 : Int) => [(2, PtrA [SlcA kNodeType a0.fNodes, SlcA kEdgeType a0.fEdges]), (3, PtrA [SlcA kInt a1.fGraph.fNodes, SlcA kEdge a1.fGraph.fEdges, SlcA (kSl kInt) a1.fValues]), (8, HdA g1), (9, iA x9), (10, PtrA [EqA (strV ((rd a0.fEdges x9).fName)), iA ((rd a0.fEdges x9).fFrom), iA ((rd a0.fEdges x9).fTo), iA ((rd a0.fEdges x9).fOutLow), iA ((rd a0.fEdges x9).fOutHigh), iA ((rd a0.fEdges x9).fInLow), iA ((rd a0.fEdges x9).fInHigh)]), (11, iA x11)]) (fun (g1 : Value) (x8' : (List Excess)) (_ : Int) => [SlE 44 g1 kExcess x8']) h g0 (.o4 rfl (.o2 rfl (.nil _))) rfl (fun rec1 K1 next1 g1 x8' x11 h => ?_)
   unfold ref15_Excesses.b1 at h
   refine W.seq <| sr <| mv rfl rfl <| pk rfl 38 rfl (q_int rfl rfl) <| nt ?_
   refine W.condP h rfl (fun hb1300 h => ?_) (fun hb1300 h => ?_)
   ·refine W.skip <| QN.then_ <| W.seq <| W.block <| W.seq <| W.drawK [(0, false), (1, false), (2, false), (3, false), (4, false), (5, false), (6, false), (7, false), (8, false)] [] (bm [0, 1, 0, 4, 0, 16, 3, 79, 255]) mx (by kernel_rfl) <| df rfl rfl rfl fo60_1 rfl <| dl rfl rfl rfl sh3 <| df rfl rfl rfl fo60_3 rfl <| dl rfl rfl rfl sh3 <| df rfl rfl rfl fo60_4 rfl <| dl rfl rfl rfl sh3 <| DK.cons rfl rfl (.p rfl (.s 43 rfl .nil) rfl (q_assign rfl)) ?_
    refine DK.cons rfl rfl (.p rfl (.s 45 rfl .nil) rfl (q_assign rfl)) <| DK.cons rfl rfl (.p rfl (.s 47 rfl .nil) rfl (q_assign rfl)) <| DK.nil <| CSteps.nil <| QN.weaken (env' := [(14, _), (13, _), (12, _), (11, _), (10, _), (9, _), (8, _), (3, _), (2, _)]) (.o4 rfl (.o4 rfl (.one rfl (.nil _)))) <| QN.then_ <| W.seq <| sr <| mv rfl rfl <| pk rfl 48 rfl (q_int rfl rfl) <| nt ?_
    refine W.jn3 (Γ := Unit) (fun (_ : Unit) (x12 : Int) (x13 : Int) (x14 : Int) => [(2, PtrA [SlcA kNodeType a0.fNodes, SlcA kEdgeType a0.fEdges]), (3, PtrA [SlcA kInt a1.fGraph.fNodes, SlcA kEdge a1.fGraph.fEdges, SlcA (kSl kInt) a1.fValues]), (8, HdA g1), (9, iA x9), (10, PtrA [EqA (strV ((rd a0.fEdges x9).fName)), iA ((rd a0.fEdges x9).fFrom), iA ((rd a0.fEdges x9).fTo), iA ((rd a0.fEdges x9).fOutLow), iA ((rd a0.fEdges x9).fOutHigh), iA ((rd a0.fEdges x9).fInLow), iA ((rd a0.fEdges x9).fInHigh)]), (11, iA x11), (12, iA x12), (13, iA x13), (14, iA x14)]) (fun (_ : Unit) (_ : Int) (_ : Int) (_ : Int) => [SlE 44 g1 kExcess x8']) h (fun _ x12 x13 x14 h => ?_) (fun j1303 Kj1303 h => ?_)
    ·refine QN.then_ <| sr <| ak rfl <| nt <| W.block ?_
     refine W.loop2 (Γ := Value) (fun (g2 : Value) (_ : (List Excess)) (x15 : Int) => [(2, PtrA [SlcA kNodeType a0.fNodes, SlcA kEdgeType a0.fEdges]), (3, PtrA [SlcA kInt a1.fGraph.fNodes, SlcA kEdge a1.fGraph.fEdges, SlcA (kSl kInt) a1.fValues]), (8, HdA g2), (9, iA x9), (10, PtrA [EqA (strV ((rd a0.fEdges x9).fName)), iA ((rd a0.fEdges x9).fFrom), iA ((rd a0.fEdges x9).fTo), iA ((rd a0.fEdges x9).fOutLow), iA ((rd a0.fEdges x9).fOutHigh), iA ((rd a0.fEdges x9).fInLow), iA ((rd a0.fEdges x9).fInHigh)]), (11, iA x11), (12, iA x12), (13, iA x13), (14, iA x14), (15, iA x15)]) (fun (g2 : Value) (x8'' : (List Excess)) (_ : Int) => [SlE 44 g2 kExcess x8'']) h g1 (.o4 rfl (.o4 rfl (.o2 rfl (.nil _)))) rfl (fun rec2 K2 next2 g2 x8'' x15 h => ?_)
     unfold ref15_Excesses.b2 at h
     refine W.seq <| sr <| mv rfl rfl <| fd rfl rfl fo32_0 rfl <| fd rfl rfl fo29_0 rfl <| ld rfl rfl sh26 <| p1 rfl 59 rfl (q_len rfl elS26) <| p2 rfl 56 rfl 60 rfl (q_int rfl rfl) <| nt ?_
     refine W.condP h rfl (fun hb1398 h => ?_) (fun hb1398 h => ?_)
     ·refine W.skip <| QN.then_ <| W.seq <| W.block <| W.seq <| W.seq <| W.drawK [(0, false), (1, false), (2, false), (3, false), (4, false), (5, false), (6, false), (7, false), (8, false), (9, false)] [] (bm [0, 0, 2, 6, 0, 30, 62, 0, 255, 511]) mx (by kernel_rfl) <| DK.cons rfl rfl (.p rfl (.s 2 rfl .nil) rfl (q_loadS rfl sh25 (leB rfl) rfl)) <| df rfl rfl rfl fo32_0 rfl <| df rfl rfl rfl fo29_0 rfl <| dl rfl rfl rfl sh26 <| dm rfl rfl rfl ?_
      obtain ⟨c1423, h⟩ := ite_n h
      refine DK.cons rfl rfl (.p rfl (.s 67 rfl (.s 68 rfl .nil)) rfl (q_index rfl el26 rfl c1423.1 c1423.2)) <| dl rfl rfl rfl sh3 <| dm rfl rfl rfl ?_
      obtain ⟨t1424, ht1424, h⟩ := bind_s h
      refine DK.cons rfl rfl (.p rfl (.s 64 rfl (.s 70 rfl (.s 71 rfl .nil))) rfl (q_call (f := 56) (A := bA t1424) (xs := [.tmp 64, .tmp 70, .tmp 71]) («as» := [AggA [SlcA kNodeType a0.fNodes, SlcA kEdgeType a0.fEdges], iA (rd a1.fGraph.fNodes x15), iA x12]) rfl ca56 (ref04_Below1.con k a0 (rd a1.fGraph.fNodes x15) x12 t1424 ht1424) rfl)) <| DK.cons rfl rfl (.p rfl (.s 72 rfl .nil) rfl (q_not rfl)) <| DK.nil <| CSteps.nil <| QN.weaken (env' := [(73, _), (15, _), (14, _), (13, _), (12, _), (11, _), (10, _), (9, _), (8, _), (3, _), (2, _)]) (.o4 rfl (.o4 rfl (.o2 rfl (.one rfl (.nil _))))) <| QN.then_ ?_
      refine W.condP h rfl (fun hb1425 h => ?_) (fun hb1425 h => ?_)
      ·refine W.exit <| QX.then_ <| QX.here <| QN.then_ <| W.region <| mv rfl rfl ?_
       obtain ⟨c1426, h⟩ := ite_n h
       refine pk rfl 62 rfl (q_addR rfl c1426) <| av rfl rfl <| WL.nil ?_
       exact next2 g2 x8'' (x15 + 1) _ h (.o4 rfl (.o4 rfl (.o2 rfl (.nil _))))
      ·refine W.skip <| QN.then_ <| sr <| fd rfl rfl fo32_0 rfl <| lS rfl rfl sh29 rfl rfl <| mv rfl rfl <| mv rfl rfl <| mv rfl rfl <| pk rfl 78 rfl (q_int rfl rfl) ?_
       obtain ⟨t1427, ht1427, h⟩ := bind_s h
       refine WL.p rfl rfl rfl (.s 75 rfl (.s 76 rfl (.s 77 rfl (.s 79 rfl .nil)))) (q_call (f := 57) (A := iA t1427) (xs := [.tmp 75, .tmp 76, .tmp 77, .tmp 79]) («as» := [AggA [SlcA kInt a1.fGraph.fNodes, SlcA kEdge a1.fGraph.fEdges], iA x9, iA x15, bA (x11 == 0)]) rfl ca57 (ref15_count.con k a1.fGraph x9 x15 (x11 == 0) t1427 ht1427) rfl) <| av rfl rfl <| WL.nil <| QN.weaken (env' := [(16, _), (15, _), (14, _), (13, _), (12, _), (11, _), (10, _), (9, _), (8, _), (3, _), (2, _)]) (.o4 rfl (.o4 rfl (.o2 rfl (.one rfl (.nil _))))) <| QN.then_ <| W.seq ?_
       refine W.jn1 (Γ := Unit) (fun (_ : Unit) (x92 : Bool) => [(2, PtrA [SlcA kNodeType a0.fNodes, SlcA kEdgeType a0.fEdges]), (3, PtrA [SlcA kInt a1.fGraph.fNodes, SlcA kEdge a1.fGraph.fEdges, SlcA (kSl kInt) a1.fValues]), (8, HdA g2), (9, iA x9), (10, PtrA [EqA (strV ((rd a0.fEdges x9).fName)), iA ((rd a0.fEdges x9).fFrom), iA ((rd a0.fEdges x9).fTo), iA ((rd a0.fEdges x9).fOutLow), iA ((rd a0.fEdges x9).fOutHigh), iA ((rd a0.fEdges x9).fInLow), iA ((rd a0.fEdges x9).fInHigh)]), (11, iA x11), (12, iA x12), (13, iA x13), (14, iA x14), (15, iA x15), (16, iA t1427), (92, bA x92)]) (fun (_ : Unit) (_ : Bool) => [SlE 44 g2 kExcess x8'']) h (fun _ x92 h => ?_) (fun j1431 Kj1431 h => ?_)
       ·refine QN.then_ ?_
        refine W.condP h rfl (fun hb1435 h => ?_) (fun hb1435 h => ?_)
        ·refine W.region <| mv rfl rfl <| mv rfl rfl <| mv rfl rfl <| mv rfl rfl <| mv rfl rfl <| pk rfl 97 rfl (q_int rfl rfl) <| WL.p rfl rfl rfl (.s 94 rfl (.s 95 rfl (.s 96 rfl (.s 98 rfl .nil)))) (q_build (is := [0, 1, 2, 3]) (xs := [.tmp 94, .tmp 95, .tmp 96, .tmp 98]) (L := [iA x9, iA x15, iA t1427, bA (x11 == 0)]) rfl rfl z44 pl44 rfl rfl (.cons (CellsOf.one rfl) (.cons (CellsOf.one rfl) (.cons (CellsOf.one rfl) (.cons (CellsOf.one rfl) .nil)))) rfl) <| p1 rfl 99 rfl (q_lit (kd := kExcess) (ps := [(0, .tmp 99)]) (xs := [.tmp 99]) («as» := [AggA [iA x9, iA x15, iA t1427, bA (x11 == 0)]]) (ys := [(Excess.mk x9 x15 t1427 (x11 == 0))]) rfl rfl el39 rfl gr44 rfl rfl rfl (.cons (CellsOf.agg _) .nil)) ?_
         obtain ⟨c1436, h⟩ := ite_n h
         refine WL.w [0] rfl (Wanted.plain rfl) rfl rfl (.s 93 rfl (.s 100 rfl .nil)) (w_append (kd := kExcess) rfl el39 rfl gr44 c1436) ?_
         rintro _ _ ⟨v1437, rfl, rfl⟩
         refine av rfl rfl <| WL.nil <| QN.block <| QN.weaken (env' := [(8, _), (15, _), (14, _), (13, _), (12, _), (11, _), (10, _), (9, _), (3, _), (2, _)]) (.o4 rfl (.o4 rfl (.o2 rfl (.nil _)))) <| QN.then_ <| W.region <| mv rfl rfl ?_
         obtain ⟨c1438, h⟩ := ite_n h
         refine pk rfl 62 rfl (q_addR rfl c1438) <| av rfl rfl <| WL.nil ?_
         exact next2 v1437 (x8'' ++ [(Excess.mk x9 x15 t1427 (x11 == 0))]) (x15 + 1) _ h (.o4 rfl (.o4 rfl (.o2 rfl (.nil _))))
        ·refine W.skip <| QN.block <| QN.then_ <| W.region <| mv rfl rfl ?_
         obtain ⟨c1439, h⟩ := ite_n h
         refine pk rfl 62 rfl (q_addR rfl c1439) <| av rfl rfl <| WL.nil ?_
         exact next2 g2 x8'' (x15 + 1) _ h (.o4 rfl (.o4 rfl (.o2 rfl (.nil _))))
       ·refine W.region <| mv rfl rfl <| mv rfl rfl <| p2 rfl 81 rfl 82 rfl (q_int rfl rfl) <| mv rfl rfl ?_
        rcases bif_s h with ⟨hb1440, h⟩ | ⟨hb1440, h⟩
        ·refine sk rfl rfl rfl hb1440 <| sk rfl rfl rfl hb1440 <| sk rfl rfl rfl hb1440 <| su rfl rfl rfl <| su rfl rfl rfl <| su rfl rfl rfl <| sk rfl rfl rfl hb1440 <| pk rfl 84 rfl (q_pickT rfl hb1440) <| WL.nil ?_
         exact QN.weaken (.o4 rfl (.o4 rfl (.o4 rfl (.nil _)))) (Kj1431 () true h)
        ·refine wm rfl rfl rfl hb1440 rfl rfl <| wq rfl rfl rfl hb1440 (.s 85 rfl (.k .nil)) (q_int rfl rfl).o <| wm rfl rfl rfl hb1440 rfl rfl ?_
         rcases bif_s h with ⟨hb1441, h⟩ | ⟨hb1441, h⟩
         ·refine wm rfl rfl rfl hb1441 rfl rfl <| wm rfl rfl rfl hb1441 rfl rfl <| wq rfl rfl rfl hb1441 (.s 88 rfl (.s 89 rfl .nil)) (q_int rfl rfl).o <| wq rfl rfl rfl hb1440 (.s 87 rfl (.s 90 rfl .nil)) (q_pickT rfl hb1441).o <| p2 rfl 84 rfl 91 rfl (q_pickF rfl hb1440) <| WL.nil ?_
          exact QN.weaken (.o4 rfl (.o4 rfl (.o4 rfl (.nil _)))) (Kj1431 () (decide (t1427 > x14)) h)
         ·refine sk rfl rfl rfl hb1441 <| sk rfl rfl rfl hb1441 <| sk rfl rfl rfl hb1441 <| wq rfl rfl rfl hb1440 (.s 87 rfl (.k .nil)) (q_pickF rfl hb1441).o <| p2 rfl 84 rfl 91 rfl (q_pickF rfl hb1440) <| WL.nil ?_
          exact QN.weaken (.o4 rfl (.o4 rfl (.o4 rfl (.nil _)))) (Kj1431 () false h)
     ·refine W.exit <| QX.then_ <| QX.then_ <| QX.here <| QN.block <| QN.weaken (env' := [(11, _), (10, _), (9, _), (8, _), (3, _), (2, _)]) (.o4 rfl (.o2 rfl (.nil _))) <| QN.then_ <| W.region <| mv rfl rfl ?_
      obtain ⟨c1442, h⟩ := ite_n h
      refine pk rfl 40 rfl (q_addR rfl c1442) <| av rfl rfl <| WL.nil ?_
      exact next1 g2 x8'' (x11 + 1) _ h (.o4 rfl (.o2 rfl (.nil _)))
    ·refine W.condP h rfl (fun hb1443 h => ?_) (fun hb1443 h => ?_)
     ·refine W.drawK [(0, false), (1, false), (2, false), (3, false), (4, false), (5, false), (6, false), (7, false), (8, false)] [] (bm [0, 1, 0, 4, 0, 16, 3, 79, 255]) mx (by kernel_rfl) <| df rfl rfl rfl fo60_2 rfl <| dl rfl rfl rfl sh3 <| df rfl rfl rfl fo60_5 rfl <| dl rfl rfl rfl sh3 <| df rfl rfl rfl fo60_6 rfl <| dl rfl rfl rfl sh3 <| DK.cons rfl rfl (.p rfl (.s 51 rfl .nil) rfl (q_assign rfl)) <| DK.cons rfl rfl (.p rfl (.s 53 rfl .nil) rfl (q_assign rfl)) <| DK.cons rfl rfl (.p rfl (.s 55 rfl .nil) rfl (q_assign rfl)) <| DK.nil <| CSteps.nil ?_
      exact QN.weaken (.o4 rfl (.o4 rfl (.one rfl (.nil _)))) (Kj1303 () ((rd a0.fEdges x9).fTo) ((rd a0.fEdges x9).fInLow) ((rd a0.fEdges x9).fInHigh) h)
     ·refine W.skip ?_
      exact QN.weaken (.o4 rfl (.o4 rfl (.one rfl (.nil _)))) (Kj1303 () ((rd a0.fEdges x9).fFrom) ((rd a0.fEdges x9).fOutLow) ((rd a0.fEdges x9).fOutHigh) h)
   ·refine W.exit <| QX.then_ <| QX.then_ <| QX.here <| QN.block <| QN.then_ <| W.region <| mv rfl rfl ?_
    obtain ⟨c1444, h⟩ := ite_n h
    refine pk rfl 31 rfl (q_addR rfl c1444) <| av rfl rfl <| WL.nil ?_
    exact next0 g1 x8' (x9 + 1) _ h (.o4 rfl (.nil _))
  ·refine W.exit <| QX.then_ <| QX.then_ <| QX.here <| QN.weaken (env' := [(8, _)]) (.one rfl (.nil _)) <| QN.then_ <| sr <| mv rfl rfl <| av rfl rfl <| ak rfl <| nt ?_
   refine W.ret ?_
   cases h
   exact QR.f2 rfl rfl (.t rfl) (.t rfl) (.tup (.cons (.slc 0 rfl) (.cons (.id _) .nil)))
theorem law15_HostValid.con (k : Nat) (a0 : Types) (a1 : Host) (r : Bool) (h : law15_HostValid k a0 a1 = some r) : Con Tryz.prog 3 [] [AggA [SlcA kNodeType a0.fNodes, SlcA kEdgeType a0.fEdges], AggA [SlcA kInt a1.fGraph.fNodes, SlcA kEdge a1.fGraph.fEdges, SlcA (kSl kInt) a1.fValues]] (RA (bA r)) := by
 unfold law15_HostValid at h
 refine Con.of (N := 67) Tryz.func3 rfl rfl rfl fun w0_ fg_ => sr <| p1 rfl 0 rfl (q_box rfl (CellsOf.agg _)) <| p1 rfl 1 rfl (q_box rfl (CellsOf.agg _)) <| ak rfl <| nt <| W.seq <| W.seq ?_
 refine W.jn1 (Γ := Unit) (fun (_ : Unit) (x21 : Bool) => [(2, PtrA [SlcA kNodeType a0.fNodes, SlcA kEdgeType a0.fEdges]), (3, PtrA [SlcA kInt a1.fGraph.fNodes, SlcA kEdge a1.fGraph.fEdges, SlcA (kSl kInt) a1.fValues]), (21, bA x21)]) (fun (_ : Unit) (_ : Bool) => []) h (fun _ x21 h => ?_) (fun j104 Kj104 h => ?_)
 ·refine QN.then_ ?_
  refine W.condP h rfl (fun hb105 h => ?_) (fun hb105 h => ?_)
  ·refine sr ?_
   obtain ⟨t106, ht106, h⟩ := bind_s h
   refine WL.p rfl rfl rfl .nil (q_call (f := 11) (A := bA t106) (xs := []) («as» := []) rfl ca11 (law15_awake.con k  t106 ht106) rfl) <| av rfl rfl <| nt <| W.ret <| QR.then_ ?_
   cases h
   exact QR.f1 rfl rfl (.t rfl) (.id _)
  ·refine W.skip <| QN.then_ <| W.seq <| W.drawK [(0, false), (1, false), (2, false), (3, false), (4, false), (5, false), (6, false), (7, false), (8, false)] [] (bm [0, 0, 2, 7, 15, 31, 31, 63, 255]) mx (by kernel_rfl) <| DK.cons rfl rfl (.p rfl (.s 2 rfl .nil) rfl (q_loadS rfl sh25 (leB rfl) rfl)) <| DK.cons rfl rfl (.p rfl (.s 3 rfl .nil) rfl (q_loadS rfl sh32 (leB rfl) rfl)) ?_
   obtain ⟨t111, ht111, h⟩ := bind_s h
   refine DK.cons rfl rfl (.p rfl (.s 25 rfl .nil) rfl (q_call (f := 14) (A := AggA [SlcA kInt t111.fGraph.fNodes, SlcA kEdge t111.fGraph.fEdges, SlcA (kSl kInt) t111.fValues]) (xs := [.tmp 25]) («as» := [AggA [SlcA kInt a1.fGraph.fNodes, SlcA kEdge a1.fGraph.fEdges, SlcA (kSl kInt) a1.fValues]]) rfl ca14 (Con.lend (ref15_Copied.con k a1 t111 ht111) (by rintro _ _ _ ⟨_, rfl, rfl⟩; exact .agg (.cons (.id _) (.cons (.id _) (.cons (.tab 0 rfl) .nil))))) rfl)) ?_
   obtain ⟨t112, ht112, h⟩ := bind_s h
   refine DK.cons rfl rfl (.p rfl (.s 24 rfl (.s 26 rfl .nil)) rfl (q_call (f := 13) (A := TupA [iA t112.1, iA t112.2]) (xs := [.tmp 24, .tmp 26]) («as» := [AggA [SlcA kNodeType a0.fNodes, SlcA kEdgeType a0.fEdges], AggA [SlcA kInt t111.fGraph.fNodes, SlcA kEdge t111.fGraph.fEdges, SlcA (kSl kInt) t111.fValues]]) rfl ca13 (host_Valid.con k a0 t111 t112 ht112) rfl)) <| dm rfl rfl rfl <| DK.cons rfl rfl (.p rfl (.s 23 rfl .nil) rfl (q_extract rfl rfl)) <| DK.cons rfl rfl (.p rfl (.s 23 rfl .nil) rfl (q_extract rfl rfl)) <| DK.cons rfl rfl (.p rfl (.s 28 rfl .nil) rfl (q_assign rfl)) <| DK.cons rfl rfl (.p rfl (.s 29 rfl .nil) rfl (q_assign rfl)) <| DK.nil <| CSteps.nil <| QN.weaken (env' := [(6, _), (5, _), (3, _), (2, _)]) (.o4 rfl (.nil _)) <| QN.then_ <| sr <| lS rfl rfl sh25 rfl rfl ?_
   refine lS rfl rfl sh32 rfl rfl ?_
   obtain ⟨t113, ht113, h⟩ := bind_s h
   refine p2 rfl 31 rfl 32 rfl (q_call (f := 15) (A := TupA [iA t113.1, iA t113.2]) (xs := [.tmp 31, .tmp 32]) («as» := [AggA [SlcA kNodeType a0.fNodes, SlcA kEdgeType a0.fEdges], AggA [SlcA kInt a1.fGraph.fNodes, SlcA kEdge a1.fGraph.fEdges, SlcA (kSl kInt) a1.fValues]]) rfl ca15 (ref15_Valid.con k a0 a1 t113 ht113) rfl) <| mv rfl rfl <| p1 rfl 30 rfl (q_extract rfl rfl) <| p1 rfl 30 rfl (q_extract rfl rfl) <| av rfl rfl <| av rfl rfl <| nt <| W.seq <| W.drawK [(0, false), (1, false), (2, false), (3, false), (4, false), (5, false), (6, false), (7, false), (8, false)] [] (bm [0, 0, 2, 7, 15, 31, 31, 63, 255]) mx (by kernel_rfl) <| DK.cons rfl rfl (.p rfl (.s 2 rfl .nil) rfl (q_loadS rfl sh25 (leB rfl) rfl)) <| DK.cons rfl rfl (.p rfl (.s 3 rfl .nil) rfl (q_loadS rfl sh32 (leB rfl) rfl)) ?_
   obtain ⟨t118, ht118, h⟩ := bind_s h
   refine DK.cons rfl rfl (.p rfl (.s 38 rfl .nil) rfl (q_call (f := 14) (A := AggA [SlcA kInt t118.fGraph.fNodes, SlcA kEdge t118.fGraph.fEdges, SlcA (kSl kInt) t118.fValues]) (xs := [.tmp 38]) («as» := [AggA [SlcA kInt a1.fGraph.fNodes, SlcA kEdge a1.fGraph.fEdges, SlcA (kSl kInt) a1.fValues]]) rfl ca14 (Con.lend (ref15_Copied.con k a1 t118 ht118) (by rintro _ _ _ ⟨_, rfl, rfl⟩; exact .agg (.cons (.id _) (.cons (.id _) (.cons (.tab 0 rfl) .nil))))) rfl)) ?_
   obtain ⟨t119, ht119, h⟩ := bind_s h
   refine DK.cons rfl rfl (.p rfl (.s 37 rfl (.s 39 rfl .nil)) rfl (q_call (f := 16) (A := TupA [SlcA kExcess t119.1, iA t119.2]) (xs := [.tmp 37, .tmp 39]) («as» := [AggA [SlcA kNodeType a0.fNodes, SlcA kEdgeType a0.fEdges], AggA [SlcA kInt t118.fGraph.fNodes, SlcA kEdge t118.fGraph.fEdges, SlcA (kSl kInt) t118.fValues]]) rfl ca16 (host_Excesses.con k a0 t118 t119 ht119) rfl)) <| dm rfl rfl rfl <| DK.cons rfl rfl (.p rfl (.s 36 rfl .nil) rfl (q_extract rfl rfl)) <| DK.cons rfl rfl (.p rfl (.s 36 rfl .nil) rfl (q_extract rfl rfl)) <| DK.cons rfl rfl (.p rfl (.s 41 rfl .nil) rfl (q_assign rfl)) <| DK.cons rfl rfl (.p rfl (.s 42 rfl .nil) rfl (q_assign rfl)) <| DK.nil <| CSteps.nil <| QN.weaken (env' := [(10, _), (9, _), (8, _), (7, _), (6, _), (5, _), (3, _), (2, _)]) (.o4 rfl (.o4 rfl (.nil _))) <| QN.then_ <| sr <| lS rfl rfl sh25 rfl rfl ?_
   refine lS rfl rfl sh32 rfl rfl ?_
   obtain ⟨t120, ht120, h⟩ := bind_s h
   refine p2 rfl 44 rfl 45 rfl (q_call (f := 17) (A := TupA [SlcA kExcess t120.1, iA t120.2]) (xs := [.tmp 44, .tmp 45]) («as» := [AggA [SlcA kNodeType a0.fNodes, SlcA kEdgeType a0.fEdges], AggA [SlcA kInt a1.fGraph.fNodes, SlcA kEdge a1.fGraph.fEdges, SlcA (kSl kInt) a1.fValues]]) rfl ca17 (ref15_Excesses.con k a0 a1 t120 ht120) rfl) <| mv rfl rfl <| p1 rfl 43 rfl (q_extract rfl rfl) <| p1 rfl 43 rfl (q_extract rfl rfl) <| av rfl rfl <| av rfl rfl <| WL.nil <| QN.weaken (env' := [(12, _), (11, _), (10, _), (9, _), (8, _), (7, _), (6, _), (5, _)]) (.o4 rfl (.o4 rfl (.nil _))) <| QN.then_ <| W.seq ?_
   refine W.jn1 (Γ := Unit) (fun (_ : Unit) (x4 : Bool) => [(4, bA x4)]) (fun (_ : Unit) (_ : Bool) => []) h (fun _ x4 h => ?_) (fun j126 Kj126 h => ?_)
   ·refine QN.then_ <| W.ret ?_
    cases h
    exact QR.f1 rfl rfl (.t rfl) (.id _)
   ·refine W.region <| mv rfl rfl <| mv rfl rfl <| p2 rfl 49 rfl 50 rfl (q_int rfl rfl) <| mv rfl rfl ?_
    rcases bif_s h with ⟨hb127, h⟩ | ⟨hb127, h⟩
    ·refine wm rfl rfl rfl hb127 rfl rfl <| wm rfl rfl rfl hb127 rfl rfl <| wq rfl rfl rfl hb127 (.s 53 rfl (.s 54 rfl .nil)) (q_int rfl rfl).o <| p2 rfl 52 rfl 55 rfl (q_pickT rfl hb127) <| mv rfl rfl ?_
     rcases bif_s h with ⟨hb128, h⟩ | ⟨hb128, h⟩
     ·refine wm rfl rfl rfl hb128 rfl rfl <| wm rfl rfl rfl hb128 rfl rfl ?_
      obtain ⟨t129, ht129, h⟩ := bind_s h
      refine wq rfl rfl rfl hb128 (.s 58 rfl (.s 59 rfl .nil)) (q_call (f := 18) (A := bA t129) (xs := [.tmp 58, .tmp 59]) («as» := [SlcA kExcess t119.1, SlcA kExcess t120.1]) rfl ca18 (slices_Equal_Excess.con k t119.1 t120.1 t129 ht129) rfl).o <| p2 rfl 57 rfl 60 rfl (q_pickT rfl hb128) <| mv rfl rfl ?_
      rcases bif_s h with ⟨hb130, h⟩ | ⟨hb130, h⟩
      ·refine wm rfl rfl rfl hb130 rfl rfl <| wm rfl rfl rfl hb130 rfl rfl <| wq rfl rfl rfl hb130 (.s 63 rfl (.s 64 rfl .nil)) (q_int rfl rfl).o <| p2 rfl 62 rfl 65 rfl (q_pickT rfl hb130) <| av rfl rfl <| WL.nil ?_
       exact QN.weaken (.one rfl (.nil _)) (Kj126 () (t119.2 == t120.2) h)
      ·refine sk rfl rfl rfl hb130 <| sk rfl rfl rfl hb130 <| sk rfl rfl rfl hb130 <| pk rfl 62 rfl (q_pickF rfl hb130) <| av rfl rfl <| WL.nil ?_
       exact QN.weaken (.one rfl (.nil _)) (Kj126 () false h)
     ·refine sk rfl rfl rfl hb128 <| sk rfl rfl rfl hb128 <| sk rfl rfl rfl hb128 <| pk rfl 57 rfl (q_pickF rfl hb128) <| mv rfl rfl <| sk rfl rfl rfl rfl <| sk rfl rfl rfl rfl <| sk rfl rfl rfl rfl <| pk rfl 62 rfl (q_pickF rfl rfl) <| av rfl rfl <| WL.nil ?_
      exact QN.weaken (.one rfl (.nil _)) (Kj126 () false h)
    ·refine sk rfl rfl rfl hb127 <| sk rfl rfl rfl hb127 <| sk rfl rfl rfl hb127 <| pk rfl 52 rfl (q_pickF rfl hb127) <| mv rfl rfl <| sk rfl rfl rfl rfl <| sk rfl rfl rfl rfl <| sk rfl rfl rfl rfl <| pk rfl 57 rfl (q_pickF rfl rfl) <| mv rfl rfl <| sk rfl rfl rfl rfl <| sk rfl rfl rfl rfl <| sk rfl rfl rfl rfl ?_
     refine pk rfl 62 rfl (q_pickF rfl rfl) <| av rfl rfl <| WL.nil ?_
     exact QN.weaken (.one rfl (.nil _)) (Kj126 () false h)
 ·refine W.region ?_
  obtain ⟨t131, ht131, h⟩ := bind_s h
  refine WL.p rfl rfl rfl .nil (q_call (f := 11) (A := bA t131) (xs := []) («as» := []) rfl ca11 (law15_awake.con k  t131 ht131) rfl) <| p1 rfl 13 rfl (q_not rfl) <| mv rfl rfl ?_
  rcases bif_s h with ⟨hb132, h⟩ | ⟨hb132, h⟩
  ·refine sk rfl rfl rfl hb132 <| sk rfl rfl rfl hb132 <| sk rfl rfl rfl hb132 <| sk rfl rfl rfl hb132 <| sk rfl rfl rfl hb132 <| pk rfl 15 rfl (q_pickT rfl hb132) <| WL.nil ?_
   exact QN.weaken (.o2 rfl (.one rfl (.nil _))) (Kj104 () true h)
  ·refine wq rfl rfl rfl hb132 (.s 2 rfl .nil) (q_loadS rfl sh25 (leB rfl) rfl).o <| wq rfl rfl rfl hb132 (.s 3 rfl .nil) (q_loadS rfl sh32 (leB rfl) rfl).o <| wq rfl rfl rfl hb132 (.s 17 rfl .nil) (q_lit (kd := kHost) (ps := [(0, .tmp 17)]) (xs := [.tmp 17]) («as» := [AggA [SlcA kInt a1.fGraph.fNodes, SlcA kEdge a1.fGraph.fEdges, SlcA (kSl kInt) a1.fValues]]) (ys := [a1]) rfl rfl el92 rfl gr32 rfl rfl rfl (.cons (CellsOf.agg _) .nil)).o ?_
   obtain ⟨t133, ht133, h⟩ := bind_s h
   refine wq rfl rfl rfl hb132 (.s 16 rfl (.s 18 rfl .nil)) (q_call (f := 12) (A := bA t133) (xs := [.tmp 16, .tmp 18]) («as» := [AggA [SlcA kNodeType a0.fNodes, SlcA kEdgeType a0.fEdges], SlcA kHost [a1]]) rfl ca12 (law15_small.con k a0 [a1] t133 ht133) rfl).o <| wq rfl rfl rfl hb132 (.s 19 rfl .nil) (q_not rfl).o <| p2 rfl 15 rfl 20 rfl (q_pickF rfl hb132) <| WL.nil ?_
   exact QN.weaken (.o2 rfl (.one rfl (.nil _))) (Kj104 () (!t133) h)
end Go.Proofs.YthmdmchmmgmblaaGreat
