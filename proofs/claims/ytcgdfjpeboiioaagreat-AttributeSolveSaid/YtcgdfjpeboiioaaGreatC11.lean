/- The Go functions compute the pure ones. (Printed by gen.py.) -/
import Derived.Test.YtcgdfjpeboiioaaGreatC10
namespace Go.Proofs.YtcgdfjpeboiioaaGreat
open Go Go.Abs
attribute [local irreducible] Tryz.prog
theorem ref21_given.con (k : Nat) (a0 : Types) (a1 : Pattern) (a2 : Host) (r : Int) (h : ref21_given k a0 a1 a2 = some r) : Con Tryz.prog 75 [] [AggA [SlcA kNodeType a0.fNodes, SlcA kEdgeType a0.fEdges], AggA [SlcA kInt a1.fGraph.fNodes, SlcA kEdge a1.fGraph.fEdges, SlcA kSlot a1.fSlots, iA a1.fVars, SlcA kTest a1.fTests], AggA [SlcA kInt a2.fGraph.fNodes, SlcA kEdge a2.fGraph.fEdges, SlcA (kSl kInt) a2.fValues]] (RA (iA r)) := by
 unfold ref21_given at h
 refine Con.of (N := 23) Tryz.func75 rfl rfl rfl fun w0_ fg_ => sr <| p1 rfl 0 rfl (q_box rfl (CellsOf.agg _)) <| p1 rfl 1 rfl (q_box rfl (CellsOf.agg _)) <| p1 rfl 2 rfl (q_box rfl (CellsOf.agg _)) <| ak rfl <| nt <| W.seq <| sr <| lS rfl rfl sh35 rfl rfl ?_
 refine lS rfl rfl sh42 rfl rfl ?_
 obtain ⟨t100, ht100, h⟩ := bind_s h
 refine p2 rfl 10 rfl 11 rfl (q_call (f := 19) (A := iA t100) (xs := [.tmp 10, .tmp 11]) («as» := [AggA [SlcA kNodeType a0.fNodes, SlcA kEdgeType a0.fEdges], AggA [SlcA kInt a1.fGraph.fNodes, SlcA kEdge a1.fGraph.fEdges, SlcA kSlot a1.fSlots, iA a1.fVars, SlcA kTest a1.fTests]]) rfl ca19 (ref21_Valid.con k a0 a1 t100 ht100) rfl) <| av rfl rfl <| WL.nil <| QN.weaken (env' := [(7, _), (5, _), (3, _)]) (.o2 rfl (.one rfl (.nil _))) <| QN.then_ <| sr <| mv rfl rfl <| pk rfl 13 rfl (q_int rfl rfl) <| nt ?_
 refine W.condP h rfl (fun hb101 h => ?_) (fun hb101 h => ?_)
 ·refine sr <| mv rfl rfl <| av rfl rfl <| nt <| W.ret <| QR.then_ ?_
  cases h
  exact QR.f1 rfl rfl (.t rfl) (.id _)
 ·refine W.skip <| QN.then_ <| sr <| lS rfl rfl sh35 rfl rfl <| lS rfl rfl sh60 rfl rfl ?_
  obtain ⟨t102, ht102, h⟩ := bind_s h
  refine p2 rfl 17 rfl 18 rfl (q_call (f := 36) (A := TupA [iA t102.1, iA t102.2]) (xs := [.tmp 17, .tmp 18]) («as» := [AggA [SlcA kNodeType a0.fNodes, SlcA kEdgeType a0.fEdges], AggA [SlcA kInt a2.fGraph.fNodes, SlcA kEdge a2.fGraph.fEdges, SlcA (kSl kInt) a2.fValues]]) rfl ca36 (ref15_Valid.con k a0 a2 t102 ht102) rfl) <| mv rfl rfl <| p1 rfl 16 rfl (q_extract rfl rfl) <| p1 rfl 16 rfl (q_extract rfl rfl) <| av rfl rfl <| av rfl rfl <| WL.nil <| QN.weaken (env' := [(9, _)]) (.one rfl (.nil _)) <| QN.then_ <| sr <| mv rfl rfl <| av rfl rfl ?_
  refine nt <| W.ret ?_
  cases h
  exact QR.f1 rfl rfl (.t rfl) (.id _)
theorem ref17_distinct.con (k : Nat) (a0 : (List Int)) (r : Bool) (h : ref17_distinct k a0 = some r) : Con Tryz.prog 168 [] [SlcA kInt a0] (RA (bA r)) := by
 unfold ref17_distinct at h
 refine Con.of (N := 25) Tryz.func168 rfl rfl rfl fun w0_ fg_ => sr <| ak rfl <| nt <| W.seq <| sr <| ak rfl <| nt <| W.block ?_
 refine W.loop1 (Γ := Unit) (fun (_ : Unit) (x3 : Int) => [(0, SlcA kInt a0), (3, iA x3)]) (fun (_ : Unit) (_ : Int) => []) h () (.o2 rfl (.nil _)) rfl (fun rec0 K0 next0 _ x3 h => ?_)
 unfold ref17_distinct.b0 at h
 refine W.seq <| sr <| mv rfl rfl <| mv rfl rfl <| p1 rfl 6 rfl (q_len rfl elS26) <| p2 rfl 5 rfl 7 rfl (q_int rfl rfl) <| nt ?_
 refine W.condP h rfl (fun hb162 h => ?_) (fun hb162 h => ?_)
 ·refine W.skip <| QN.then_ <| W.seq <| W.block <| sr <| ak rfl <| nt <| W.block ?_
  refine W.loop1 (Γ := Unit) (fun (_ : Unit) (x4 : Int) => [(0, SlcA kInt a0), (3, iA x3), (4, iA x4)]) (fun (_ : Unit) (_ : Int) => []) h () (.o2 rfl (.one rfl (.nil _))) rfl (fun rec1 K1 next1 _ x4 h => ?_)
  unfold ref17_distinct.b1 at h
  refine W.seq <| sr <| mv rfl rfl <| mv rfl rfl <| p2 rfl 11 rfl 12 rfl (q_int rfl rfl) <| nt ?_
  refine W.condP h rfl (fun hb183 h => ?_) (fun hb183 h => ?_)
  ·refine W.skip <| QN.then_ <| W.seq <| W.block <| W.seq <| W.drawK [(0, false), (1, false), (2, false), (3, false), (4, false), (5, false), (6, false), (7, false), (8, false)] [] (bm [0, 0, 3, 7, 0, 0, 48, 112, 255]) mx (by kernel_rfl) <| dm rfl rfl rfl <| dm rfl rfl rfl ?_
   obtain ⟨c188, h⟩ := ite_n h
   refine DK.cons rfl rfl (.p rfl (.s 16 rfl (.s 17 rfl .nil)) rfl (q_index rfl el26 rfl c188.1 c188.2)) <| dl rfl rfl rfl sh3 <| dm rfl rfl rfl <| dm rfl rfl rfl ?_
   obtain ⟨c189, h⟩ := ite_n h
   refine DK.cons rfl rfl (.p rfl (.s 20 rfl (.s 21 rfl .nil)) rfl (q_index rfl el26 rfl c189.1 c189.2)) <| dl rfl rfl rfl sh3 <| DK.cons rfl rfl (.p rfl (.s 19 rfl (.s 23 rfl .nil)) rfl (q_int rfl rfl)) <| DK.nil <| CSteps.nil <| QN.weaken (env' := [(24, _), (4, _), (3, _), (0, _)]) (.o4 rfl (.nil _)) <| QN.then_ ?_
   refine W.condP h rfl (fun hb190 h => ?_) (fun hb190 h => ?_)
   ·refine sr <| ak rfl <| nt <| W.ret <| QR.block <| QR.then_ <| QR.then_ <| QR.block <| QR.block <| QR.then_ <| QR.then_ ?_
    refine QR.block <| QR.then_ ?_
    cases h
    exact QR.f1 rfl rfl (.t rfl) (.id _)
   ·refine W.skip <| QN.block <| QN.then_ <| W.region <| mv rfl rfl ?_
    obtain ⟨c191, h⟩ := ite_n h
    refine pk rfl 14 rfl (q_addR rfl c191) <| av rfl rfl <| WL.nil ?_
    exact next1 () (x4 + 1) _ h (.o2 rfl (.one rfl (.nil _)))
  ·refine W.exit <| QX.then_ <| QX.then_ <| QX.here <| QN.block <| QN.then_ <| W.region <| mv rfl rfl ?_
   obtain ⟨c192, h⟩ := ite_n h
   refine pk rfl 9 rfl (q_addR rfl c192) <| av rfl rfl <| WL.nil ?_
   exact next0 () (x3 + 1) _ h (.o2 rfl (.nil _))
 ·refine W.exit <| QX.then_ <| QX.then_ <| QX.here <| QN.then_ <| sr <| ak rfl <| nt <| W.ret ?_
  cases h
  exact QR.f1 rfl rfl (.t rfl) (.id _)
theorem ref17_match.con (k : Nat) (a0 : Types) (a1 : Graph) (a2 : Graph) (a3 : Morphism) (a4 : Bool) (r : Int) (h : ref17_match k a0 a1 a2 a3 a4 = some r) : Con Tryz.prog 123 [] [AggA [SlcA kNodeType a0.fNodes, SlcA kEdgeType a0.fEdges], AggA [SlcA kInt a1.fNodes, SlcA kEdge a1.fEdges], AggA [SlcA kInt a2.fNodes, SlcA kEdge a2.fEdges], AggA [SlcA kInt a3.fNodes, SlcA kInt a3.fEdges], bA a4] (RA (iA r)) := by
 unfold ref17_match at h
 refine Con.of (N := 148) Tryz.func123 rfl rfl rfl fun w0_ fg_ => sr <| p1 rfl 0 rfl (q_box rfl (CellsOf.agg _)) <| p1 rfl 1 rfl (q_box rfl (CellsOf.agg _)) <| p1 rfl 2 rfl (q_box rfl (CellsOf.agg _)) <| p1 rfl 3 rfl (q_box rfl (CellsOf.agg _)) <| ak rfl <| nt <| W.seq <| W.seq ?_
 refine W.jn1 (Γ := Unit) (fun (_ : Unit) (x30 : Bool) => [(4, bA a4), (5, PtrA [SlcA kNodeType a0.fNodes, SlcA kEdgeType a0.fEdges]), (6, PtrA [SlcA kInt a1.fNodes, SlcA kEdge a1.fEdges]), (7, PtrA [SlcA kInt a2.fNodes, SlcA kEdge a2.fEdges]), (8, PtrA [SlcA kInt a3.fNodes, SlcA kInt a3.fEdges]), (30, bA x30)]) (fun (_ : Unit) (_ : Bool) => []) h (fun _ x30 h => ?_) (fun j102 Kj102 h => ?_)
 ·refine QN.then_ ?_
  refine W.condP h rfl (fun hb103 h => ?_) (fun hb103 h => ?_)
  ·refine sr <| ak rfl <| nt <| W.ret <| QR.then_ ?_
   cases h
   exact QR.f1 rfl rfl (.t rfl) (.id _)
  ·refine W.skip <| QN.then_ <| W.seq <| sr <| ak rfl <| nt <| W.block ?_
   refine W.loop1 (Γ := Unit) (fun (_ : Unit) (x11 : Int) => [(4, bA a4), (5, PtrA [SlcA kNodeType a0.fNodes, SlcA kEdgeType a0.fEdges]), (6, PtrA [SlcA kInt a1.fNodes, SlcA kEdge a1.fEdges]), (7, PtrA [SlcA kInt a2.fNodes, SlcA kEdge a2.fEdges]), (8, PtrA [SlcA kInt a3.fNodes, SlcA kInt a3.fEdges]), (11, iA x11)]) (fun (_ : Unit) (_ : Int) => []) h () (.o4 rfl (.o2 rfl (.nil _))) rfl (fun rec0 K0 next0 _ x11 h => ?_)
   unfold ref17_match.b0 at h
   refine W.seq <| sr <| mv rfl rfl <| fd rfl rfl fo64_0 rfl <| ld rfl rfl sh26 <| p1 rfl 33 rfl (q_len rfl elS26) <| p2 rfl 31 rfl 34 rfl (q_int rfl rfl) <| nt ?_
   refine W.condP h rfl (fun hb488 h => ?_) (fun hb488 h => ?_)
   ·refine W.skip <| QN.then_ <| W.seq <| W.block <| W.seq <| W.seq ?_
    refine W.jn1 (Γ := Unit) (fun (_ : Unit) (x54 : Bool) => [(4, bA a4), (5, PtrA [SlcA kNodeType a0.fNodes, SlcA kEdgeType a0.fEdges]), (6, PtrA [SlcA kInt a1.fNodes, SlcA kEdge a1.fEdges]), (7, PtrA [SlcA kInt a2.fNodes, SlcA kEdge a2.fEdges]), (8, PtrA [SlcA kInt a3.fNodes, SlcA kInt a3.fEdges]), (11, iA x11), (54, bA x54)]) (fun (_ : Unit) (_ : Bool) => []) h (fun _ x54 h => ?_) (fun j496 Kj496 h => ?_)
    ·refine QN.then_ ?_
     refine W.condP h rfl (fun hb497 h => ?_) (fun hb497 h => ?_)
     ·refine sr <| ak rfl <| WL.nil <| QN.weaken (env' := [(10, _)]) (.one rfl (.nil _)) <| QN.then_ <| W.ret <| QR.then_ <| QR.block <| QR.then_ <| QR.then_ <| QR.block <| QR.then_ ?_
      cases h
      exact QR.f1 rfl rfl (.t rfl) (.id _)
     ·refine W.skip <| QN.then_ <| W.seq <| W.drawK [(0, false), (1, false), (2, false), (3, false), (4, false), (5, false), (6, false), (7, false), (8, false), (9, false), (10, false), (11, false), (12, false), (13, false), (14, false), (15, false), (16, false)] [] (bm [0, 0, 2, 0, 8, 0, 56, 120, 254, 510, 0, 1024, 0, 7168, 15360, 32767, 65535]) mx (by kernel_rfl) <| DK.cons rfl rfl (.p rfl (.s 5 rfl .nil) rfl (q_loadS rfl sh35 (leB rfl) rfl)) <| df rfl rfl rfl fo38_0 rfl <| dl rfl rfl rfl sh26 <| df rfl rfl rfl fo64_0 rfl <| dl rfl rfl rfl sh26 <| dm rfl rfl rfl ?_
      obtain ⟨c506, h⟩ := ite_n h
      refine DK.cons rfl rfl (.p rfl (.s 59 rfl (.s 60 rfl .nil)) rfl (q_index rfl el26 rfl c506.1 c506.2)) <| dl rfl rfl rfl sh3 ?_
      obtain ⟨c507, h⟩ := ite_n h
      refine DK.cons rfl rfl (.p rfl (.s 57 rfl (.s 62 rfl .nil)) rfl (q_index rfl el26 rfl c507.1 c507.2)) <| dl rfl rfl rfl sh3 <| df rfl rfl rfl fo38_0 rfl <| dl rfl rfl rfl sh26 <| dm rfl rfl rfl ?_
      obtain ⟨c508, h⟩ := ite_n h
      refine DK.cons rfl rfl (.p rfl (.s 66 rfl (.s 67 rfl .nil)) rfl (q_index rfl el26 rfl c508.1 c508.2)) <| dl rfl rfl rfl sh3 ?_
      obtain ⟨t509, ht509, h⟩ := bind_s h
      refine DK.cons rfl rfl (.p rfl (.s 55 rfl (.s 64 rfl (.s 69 rfl .nil))) rfl (q_call (f := 141) (A := bA t509) (xs := [.tmp 55, .tmp 64, .tmp 69]) («as» := [AggA [SlcA kNodeType a0.fNodes, SlcA kEdgeType a0.fEdges], iA (rd a2.fNodes (rd a3.fNodes x11)), iA (rd a1.fNodes x11)]) rfl ca141 (ref04_Below1.con k a0 (rd a2.fNodes (rd a3.fNodes x11)) (rd a1.fNodes x11) t509 ht509) rfl)) <| DK.cons rfl rfl (.p rfl (.s 70 rfl .nil) rfl (q_not rfl)) <| DK.nil <| CSteps.nil <| QN.weaken (env' := [(71, _), (11, _), (8, _), (7, _), (6, _), (5, _), (4, _)]) (.o4 rfl (.o2 rfl (.one rfl (.nil _)))) <| QN.then_ ?_
      refine W.condP h rfl (fun hb510 h => ?_) (fun hb510 h => ?_)
      ·refine sr <| ak rfl <| WL.nil <| QN.weaken (env' := [(10, _)]) (.one rfl (.nil _)) <| QN.then_ <| W.ret <| QR.block <| QR.then_ <| QR.then_ <| QR.block <| QR.then_ ?_
       cases h
       exact QR.f1 rfl rfl (.t rfl) (.id _)
      ·refine W.skip <| QN.block <| QN.then_ <| W.region <| mv rfl rfl ?_
       obtain ⟨c511, h⟩ := ite_n h
       refine pk rfl 36 rfl (q_addR rfl c511) <| av rfl rfl <| WL.nil ?_
       exact next0 () (x11 + 1) _ h (.o4 rfl (.o2 rfl (.nil _)))
    ·refine W.drawK [(0, false), (1, false), (2, false), (3, false), (4, false), (5, false), (6, false), (7, false), (8, false), (9, false), (10, false), (11, false), (12, false), (13, false), (14, false), (15, false), (16, false)] [] (bm [0, 1, 0, 7, 15, 31, 63, 127, 255, 127, 1023, 2047, 127, 4223, 12415, 32767, 65535]) mx (by kernel_rfl) <| df rfl rfl rfl fo64_0 rfl <| dl rfl rfl rfl sh26 <| dm rfl rfl rfl ?_
     obtain ⟨c512, h⟩ := ite_n h
     refine DK.cons rfl rfl (.p rfl (.s 39 rfl (.s 40 rfl .nil)) rfl (q_index rfl el26 rfl c512.1 c512.2)) <| dl rfl rfl rfl sh3 <| DK.cons rfl rfl (.p rfl (.s 42 rfl (.k .nil)) rfl (q_int rfl rfl)) <| dm rfl rfl rfl ?_
     rcases bif_s h with ⟨hb513, h⟩ | ⟨hb513, h⟩
     ·refine dx rfl rfl rfl hb513 <| dx rfl rfl rfl hb513 <| dx rfl rfl rfl hb513 <| dx rfl rfl rfl hb513 <| dx rfl rfl rfl hb513 <| dx rfl rfl rfl hb513 <| dx rfl rfl rfl hb513 <| dx rfl rfl rfl hb513 <| dx rfl rfl rfl hb513 <| DK.cons rfl rfl (.p rfl (.s 44 rfl (.k .nil)) rfl (q_pickT rfl hb513)) <| DK.nil <| CSteps.nil ?_
      exact QN.weaken (.o4 rfl (.o2 rfl (.one rfl (.nil _)))) (Kj496 () true h)
     ·refine DK.cons rfl rfl (.gp rfl rfl rfl hb513 (.s 8 rfl .nil) rfl (q_field rfl fo64_0 rfl)) <| DK.cons rfl rfl (.gp rfl rfl rfl hb513 (.s 45 rfl .nil) rfl (q_load rfl sh26)) <| DK.cons rfl rfl (.gp rfl rfl rfl hb513 (.s 11 rfl .nil) rfl (q_move rfl)) ?_
      obtain ⟨c514, h⟩ := ite_n h
      refine DK.cons rfl rfl (.gp rfl rfl rfl hb513 (.s 46 rfl (.s 47 rfl .nil)) rfl (q_index rfl el26 rfl c514.1 c514.2)) <| DK.cons rfl rfl (.gp rfl rfl rfl hb513 (.s 48 rfl .nil) rfl (q_load rfl sh3)) <| DK.cons rfl rfl (.gp rfl rfl rfl hb513 (.s 7 rfl .nil) rfl (q_field rfl fo38_0 rfl)) <| DK.cons rfl rfl (.gp rfl rfl rfl hb513 (.s 50 rfl .nil) rfl (q_load rfl sh26)) <| DK.cons rfl rfl (.gp rfl rfl rfl hb513 (.s 51 rfl .nil) rfl (q_len rfl elS26)) <| DK.cons rfl rfl (.gp rfl rfl rfl hb513 (.s 49 rfl (.s 52 rfl .nil)) rfl (q_int rfl rfl)) <| DK.cons rfl rfl (.p rfl (.s 44 rfl (.s 53 rfl .nil)) rfl (q_pickF rfl hb513)) <| DK.nil <| CSteps.nil ?_
      exact QN.weaken (.o4 rfl (.o2 rfl (.one rfl (.nil _)))) (Kj496 () (decide ((rd a3.fNodes x11) ≥ (a2.fNodes.length : Int))) h)
   ·refine W.exit <| QX.then_ <| QX.then_ <| QX.here <| QN.weaken (env' := [(8, _), (7, _), (6, _), (4, _)]) (.o4 rfl (.nil _)) <| QN.then_ <| W.seq <| sr <| ak rfl <| nt <| W.block ?_
    refine W.loop1 (Γ := Unit) (fun (_ : Unit) (x12 : Int) => [(4, bA a4), (6, PtrA [SlcA kInt a1.fNodes, SlcA kEdge a1.fEdges]), (7, PtrA [SlcA kInt a2.fNodes, SlcA kEdge a2.fEdges]), (8, PtrA [SlcA kInt a3.fNodes, SlcA kInt a3.fEdges]), (12, iA x12)]) (fun (_ : Unit) (_ : Int) => []) h () (.o4 rfl (.one rfl (.nil _))) rfl (fun rec1 K1 next1 _ x12 h => ?_)
    unfold ref17_match.b1 at h
    refine W.seq <| sr <| mv rfl rfl <| fd rfl rfl fo64_1 rfl <| ld rfl rfl sh26 <| p1 rfl 74 rfl (q_len rfl elS26) <| p2 rfl 72 rfl 75 rfl (q_int rfl rfl) <| nt ?_
    refine W.condP h rfl (fun hb625 h => ?_) (fun hb625 h => ?_)
    ·refine W.skip <| QN.then_ <| W.seq <| W.block <| W.seq <| W.seq ?_
     refine W.jn1 (Γ := Unit) (fun (_ : Unit) (x95 : Bool) => [(4, bA a4), (6, PtrA [SlcA kInt a1.fNodes, SlcA kEdge a1.fEdges]), (7, PtrA [SlcA kInt a2.fNodes, SlcA kEdge a2.fEdges]), (8, PtrA [SlcA kInt a3.fNodes, SlcA kInt a3.fEdges]), (12, iA x12), (95, bA x95)]) (fun (_ : Unit) (_ : Bool) => []) h (fun _ x95 h => ?_) (fun j633 Kj633 h => ?_)
     ·refine QN.then_ ?_
      refine W.condP h rfl (fun hb634 h => ?_) (fun hb634 h => ?_)
      ·refine sr <| ak rfl <| nt <| W.ret <| QR.then_ <| QR.block <| QR.then_ <| QR.then_ <| QR.block <| QR.then_ ?_
       cases h
       exact QR.f1 rfl rfl (.t rfl) (.id _)
      ·refine W.skip <| QN.then_ <| W.seq ?_
       refine W.jn0 (Γ := Unit) (fun (_ : Unit) => [(4, bA a4), (6, PtrA [SlcA kInt a1.fNodes, SlcA kEdge a1.fEdges]), (7, PtrA [SlcA kInt a2.fNodes, SlcA kEdge a2.fEdges]), (8, PtrA [SlcA kInt a3.fNodes, SlcA kInt a3.fEdges]), (12, iA x12), (13, PtrA [iA ((rd a1.fEdges x12).fType), iA ((rd a1.fEdges x12).fFrom), iA ((rd a1.fEdges x12).fTo)]), (14, PtrA [iA ((rd a2.fEdges (rd a3.fEdges x12)).fType), iA ((rd a2.fEdges (rd a3.fEdges x12)).fFrom), iA ((rd a2.fEdges (rd a3.fEdges x12)).fTo)])]) (fun (_ : Unit) => []) h (fun _ h => ?_) (fun j646 Kj646 h => ?_)
       ·refine QN.then_ <| W.seq <| sr <| fd rfl rfl fo109_0 rfl <| ld rfl rfl sh3 <| fd rfl rfl fo109_0 rfl <| ld rfl rfl sh3 <| p2 rfl 111 rfl 113 rfl (q_int rfl rfl) <| nt ?_
        refine W.condP h rfl (fun hb647 h => ?_) (fun hb647 h => ?_)
        ·refine sr <| ak rfl <| WL.nil <| QN.weaken (env' := [(10, _)]) (.one rfl (.nil _)) <| QN.then_ <| W.ret <| QR.then_ <| QR.block <| QR.then_ <| QR.then_ <| QR.block <| QR.then_ ?_
         cases h
         exact QR.f1 rfl rfl (.t rfl) (.id _)
        ·refine W.skip <| QN.then_ <| W.seq ?_
         refine W.jn1 (Γ := Unit) (fun (_ : Unit) (x134 : Bool) => [(4, bA a4), (6, PtrA [SlcA kInt a1.fNodes, SlcA kEdge a1.fEdges]), (7, PtrA [SlcA kInt a2.fNodes, SlcA kEdge a2.fEdges]), (8, PtrA [SlcA kInt a3.fNodes, SlcA kInt a3.fEdges]), (12, iA x12), (134, bA x134)]) (fun (_ : Unit) (_ : Bool) => []) h (fun _ x134 h => ?_) (fun j655 Kj655 h => ?_)
         ·refine QN.then_ ?_
          refine W.condP h rfl (fun hb656 h => ?_) (fun hb656 h => ?_)
          ·refine sr <| ak rfl <| nt <| W.ret <| QR.block <| QR.then_ <| QR.then_ <| QR.block <| QR.then_ ?_
           cases h
           exact QR.f1 rfl rfl (.t rfl) (.id _)
          ·refine W.skip <| QN.block <| QN.then_ <| W.region <| mv rfl rfl ?_
           obtain ⟨c657, h⟩ := ite_n h
           refine pk rfl 77 rfl (q_addR rfl c657) <| av rfl rfl <| WL.nil ?_
           exact next1 () (x12 + 1) _ h (.o4 rfl (.one rfl (.nil _)))
         ·refine W.drawK [(0, false), (1, false), (2, false), (3, false), (4, false), (5, false), (6, false), (7, false), (8, false), (9, false), (10, false), (11, false), (12, false), (13, false), (14, false), (15, false), (16, false), (17, false), (18, false), (19, false)] [] (bm [0, 1, 0, 4, 15, 31, 0, 64, 255, 511, 1023, 2047, 1023, 5119, 16383, 32767, 1023, 66559, 262143, 524287]) mx (by kernel_rfl) <| df rfl rfl rfl fo64_0 rfl <| dl rfl rfl rfl sh26 <| df rfl rfl rfl fo109_1 rfl <| dl rfl rfl rfl sh3 ?_
          obtain ⟨c658, h⟩ := ite_n h
          refine DK.cons rfl rfl (.p rfl (.s 116 rfl (.s 118 rfl .nil)) rfl (q_index rfl el26 rfl c658.1 c658.2)) <| dl rfl rfl rfl sh3 <| df rfl rfl rfl fo109_1 rfl <| dl rfl rfl rfl sh3 <| DK.cons rfl rfl (.p rfl (.s 120 rfl (.s 122 rfl .nil)) rfl (q_int rfl rfl)) <| dm rfl rfl rfl ?_
          rcases bif_s h with ⟨hb659, h⟩ | ⟨hb659, h⟩
          ·refine dx rfl rfl rfl hb659 <| dx rfl rfl rfl hb659 <| dx rfl rfl rfl hb659 <| dx rfl rfl rfl hb659 <| dx rfl rfl rfl hb659 <| dx rfl rfl rfl hb659 <| dx rfl rfl rfl hb659 <| dx rfl rfl rfl hb659 <| dx rfl rfl rfl hb659 <| DK.cons rfl rfl (.p rfl (.s 124 rfl (.k .nil)) rfl (q_pickT rfl hb659)) <| DK.nil <| CSteps.nil ?_
           exact QN.weaken (.o4 rfl (.o2 rfl (.nil _))) (Kj655 () true h)
          ·refine DK.cons rfl rfl (.gp rfl rfl rfl hb659 (.s 8 rfl .nil) rfl (q_field rfl fo64_0 rfl)) <| DK.cons rfl rfl (.gp rfl rfl rfl hb659 (.s 125 rfl .nil) rfl (q_load rfl sh26)) <| DK.cons rfl rfl (.gp rfl rfl rfl hb659 (.s 13 rfl .nil) rfl (q_field rfl fo109_2 rfl)) <| DK.cons rfl rfl (.gp rfl rfl rfl hb659 (.s 127 rfl .nil) rfl (q_load rfl sh3)) ?_
           obtain ⟨c660, h⟩ := ite_n h
           refine DK.cons rfl rfl (.gp rfl rfl rfl hb659 (.s 126 rfl (.s 128 rfl .nil)) rfl (q_index rfl el26 rfl c660.1 c660.2)) <| DK.cons rfl rfl (.gp rfl rfl rfl hb659 (.s 129 rfl .nil) rfl (q_load rfl sh3)) <| DK.cons rfl rfl (.gp rfl rfl rfl hb659 (.s 14 rfl .nil) rfl (q_field rfl fo109_2 rfl)) <| DK.cons rfl rfl (.gp rfl rfl rfl hb659 (.s 131 rfl .nil) rfl (q_load rfl sh3)) <| DK.cons rfl rfl (.gp rfl rfl rfl hb659 (.s 130 rfl (.s 132 rfl .nil)) rfl (q_int rfl rfl)) <| DK.cons rfl rfl (.p rfl (.s 124 rfl (.s 133 rfl .nil)) rfl (q_pickF rfl hb659)) <| DK.nil <| CSteps.nil ?_
           exact QN.weaken (.o4 rfl (.o2 rfl (.nil _))) (Kj655 () ((rd a3.fNodes ((rd a1.fEdges x12).fTo)) != (rd a2.fEdges (rd a3.fEdges x12)).fTo) h)
       ·refine W.drawKT [(0, false), (1, false), (2, false), (3, false), (4, false), (5, false), (6, false), (7, false), (8, false), (9, false), (10, false), (11, false), (12, false), (13, false)] [14, 15, 16, 17] [14, 15] 4 [[], [0], [], [0, 1, 2], [0, 1, 2, 3], [], [5], [], [7], [], [7, 8, 9], [7, 8, 9, 10], [5, 6, 7, 8, 9, 10, 11], [5, 6, 7, 8, 9, 10, 11, 12], [], [], [0, 1, 2, 3, 4, 14, 15], [0, 1, 2, 3, 4, 5, 6, 7, 8, 9, 10, 11, 12, 13, 14, 15, 16]] mx (by kernel_rfl) <| DKT.cons rfl rfl (.p rfl (.s 6 rfl .nil) rfl (q_field rfl fo38_1 rfl)) <| DKT.cons rfl rfl (.p rfl (.s 96 rfl .nil) rfl (q_load rfl sh36)) <| DKT.cons rfl rfl (.p rfl (.s 12 rfl .nil) rfl (q_move rfl)) ?_
        obtain ⟨c661, h⟩ := ite_n h
        refine DKT.cons rfl rfl (.p rfl (.s 97 rfl (.s 98 rfl .nil)) rfl (q_index rfl el36 rfl c661.1 c661.2)) <| DKT.cons rfl rfl (.p rfl (.s 99 rfl .nil) rfl (q_loadS rfl sh109 (leB rfl) rfl)) <| DKT.cons rfl rfl (.p rfl (.s 7 rfl .nil) rfl (q_field rfl fo38_1 rfl)) <| DKT.cons rfl rfl (.p rfl (.s 101 rfl .nil) rfl (q_load rfl sh36)) <| DKT.cons rfl rfl (.p rfl (.s 8 rfl .nil) rfl (q_field rfl fo64_1 rfl)) <| DKT.cons rfl rfl (.p rfl (.s 103 rfl .nil) rfl (q_load rfl sh26)) <| DKT.cons rfl rfl (.p rfl (.s 12 rfl .nil) rfl (q_move rfl)) ?_
        obtain ⟨c662, h⟩ := ite_n h
        refine DKT.cons rfl rfl (.p rfl (.s 104 rfl (.s 105 rfl .nil)) rfl (q_index rfl el26 rfl c662.1 c662.2)) <| DKT.cons rfl rfl (.p rfl (.s 106 rfl .nil) rfl (q_load rfl sh3)) ?_
        obtain ⟨c663, h⟩ := ite_n h
        refine DKT.cons rfl rfl (.p rfl (.s 102 rfl (.s 107 rfl .nil)) rfl (q_index rfl el36 rfl c663.1 c663.2)) <| DKT.cons rfl rfl (.p rfl (.s 108 rfl .nil) rfl (q_loadS rfl sh109 (leB rfl) rfl)) <| DKT.nil <| CT.step ?_
        refine CTc.yes rfl ?_ ?_
        ·refine CStep1.w [] (fun _ => rfl) rfl rfl rfl rfl .nil rfl (w_alloc rfl z109 (l := [iA 0, iA 0, iA 0]) rfl) ?_
         rintro _ _ ⟨b664, rfl, rfl⟩
         refine CT.list (l' := [15, 16, 17]) rfl <| CT.step ?_
         refine CTc.yes rfl ?_ ?_
         ·refine CStep1.w [] (fun _ => rfl) rfl rfl rfl rfl .nil rfl (w_alloc rfl z109 (l := [iA 0, iA 0, iA 0]) rfl) ?_
          rintro _ _ ⟨b665, rfl, rfl⟩
          refine CT.list (l' := [16, 17]) rfl <| CT.step ?_
          refine CTc.yes rfl ?_ ?_
          ·refine CStep1.w0 [1] (fun h => absurd h (by decide)) rfl rfl rfl (.s 13 rfl (.s 100 rfl .nil)) rfl (w_store (L := [iA ((rd a1.fEdges x12).fType), iA ((rd a1.fEdges x12).fFrom), iA ((rd a1.fEdges x12).fTo)]) rfl sh109 (CellsOf.agg _) rfl rfl (leB rfl) rfl) ?_
           rintro _ _ ⟨rfl, rfl⟩
           refine CT.list (l' := [17]) rfl <| CT.step ?_
           refine CTc.yes rfl ?_ ?_
           ·refine CStep1.w0 [1] (fun h => absurd h (by decide)) rfl rfl rfl (.s 14 rfl (.s 109 rfl .nil)) rfl (w_store (L := [iA ((rd a2.fEdges (rd a3.fEdges x12)).fType), iA ((rd a2.fEdges (rd a3.fEdges x12)).fFrom), iA ((rd a2.fEdges (rd a3.fEdges x12)).fTo)]) rfl sh109 (CellsOf.agg _) rfl rfl (leB rfl) rfl) ?_
            rintro _ _ ⟨rfl, rfl⟩
            refine CT.list (l' := []) rfl <| CT.nil <| QN.to (StTo.still [1] 13 rfl rfl) <| QN.to (StTo.still [0] 14 rfl rfl) ?_
            exact QN.weaken (.o4 rfl (.o2 rfl (.one rfl (.nil _)))) (Kj646 () h)
           exact CTc.end
          refine CTc.no rfl ?_
          exact CTc.end
         refine CTc.no rfl <| CTc.no rfl ?_
         exact CTc.end
        refine CTc.yes rfl ?_ ?_
        ·refine CStep1.w [] (fun _ => rfl) rfl rfl rfl rfl .nil rfl (w_alloc rfl z109 (l := [iA 0, iA 0, iA 0]) rfl) ?_
         rintro _ _ ⟨b665, rfl, rfl⟩
         refine CT.list (l' := [14, 16, 17]) rfl <| CT.step ?_
         refine CTc.yes rfl ?_ ?_
         ·refine CStep1.w [] (fun _ => rfl) rfl rfl rfl rfl .nil rfl (w_alloc rfl z109 (l := [iA 0, iA 0, iA 0]) rfl) ?_
          rintro _ _ ⟨b664, rfl, rfl⟩
          refine CT.list (l' := [16, 17]) rfl <| CT.step ?_
          refine CTc.yes rfl ?_ ?_
          ·refine CStep1.w0 [0] (fun h => absurd h (by decide)) rfl rfl rfl (.s 13 rfl (.s 100 rfl .nil)) rfl (w_store (L := [iA ((rd a1.fEdges x12).fType), iA ((rd a1.fEdges x12).fFrom), iA ((rd a1.fEdges x12).fTo)]) rfl sh109 (CellsOf.agg _) rfl rfl (leB rfl) rfl) ?_
           rintro _ _ ⟨rfl, rfl⟩
           refine CT.list (l' := [17]) rfl <| CT.step ?_
           refine CTc.yes rfl ?_ ?_
           ·refine CStep1.w0 [1] (fun h => absurd h (by decide)) rfl rfl rfl (.s 14 rfl (.s 109 rfl .nil)) rfl (w_store (L := [iA ((rd a2.fEdges (rd a3.fEdges x12)).fType), iA ((rd a2.fEdges (rd a3.fEdges x12)).fFrom), iA ((rd a2.fEdges (rd a3.fEdges x12)).fTo)]) rfl sh109 (CellsOf.agg _) rfl rfl (leB rfl) rfl) ?_
            rintro _ _ ⟨rfl, rfl⟩
            refine CT.list (l' := []) rfl <| CT.nil <| QN.to (StTo.still [1] 13 rfl rfl) <| QN.to (StTo.still [0] 14 rfl rfl) ?_
            exact QN.weaken (.o4 rfl (.o2 rfl (.one rfl (.nil _)))) (Kj646 () h)
           exact CTc.end
          refine CTc.no rfl ?_
          exact CTc.end
         refine CTc.no rfl <| CTc.no rfl ?_
         exact CTc.end
        refine CTc.no rfl <| CTc.no rfl ?_
        exact CTc.end
     ·refine W.drawK [(0, false), (1, false), (2, false), (3, false), (4, false), (5, false), (6, false), (7, false), (8, false), (9, false), (10, false), (11, false), (12, false), (13, false), (14, false), (15, false), (16, false)] [] (bm [0, 1, 0, 7, 15, 31, 63, 127, 255, 127, 1023, 2047, 127, 4223, 12415, 32767, 65535]) mx (by kernel_rfl) <| df rfl rfl rfl fo64_1 rfl <| dl rfl rfl rfl sh26 <| dm rfl rfl rfl ?_
      obtain ⟨c666, h⟩ := ite_n h
      refine DK.cons rfl rfl (.p rfl (.s 80 rfl (.s 81 rfl .nil)) rfl (q_index rfl el26 rfl c666.1 c666.2)) <| dl rfl rfl rfl sh3 <| DK.cons rfl rfl (.p rfl (.s 83 rfl (.k .nil)) rfl (q_int rfl rfl)) <| dm rfl rfl rfl ?_
      rcases bif_s h with ⟨hb667, h⟩ | ⟨hb667, h⟩
      ·refine dx rfl rfl rfl hb667 <| dx rfl rfl rfl hb667 <| dx rfl rfl rfl hb667 <| dx rfl rfl rfl hb667 <| dx rfl rfl rfl hb667 <| dx rfl rfl rfl hb667 <| dx rfl rfl rfl hb667 <| dx rfl rfl rfl hb667 <| dx rfl rfl rfl hb667 <| DK.cons rfl rfl (.p rfl (.s 85 rfl (.k .nil)) rfl (q_pickT rfl hb667)) <| DK.nil <| CSteps.nil ?_
       exact QN.weaken (.o4 rfl (.o2 rfl (.nil _))) (Kj633 () true h)
      ·refine DK.cons rfl rfl (.gp rfl rfl rfl hb667 (.s 8 rfl .nil) rfl (q_field rfl fo64_1 rfl)) <| DK.cons rfl rfl (.gp rfl rfl rfl hb667 (.s 86 rfl .nil) rfl (q_load rfl sh26)) <| DK.cons rfl rfl (.gp rfl rfl rfl hb667 (.s 12 rfl .nil) rfl (q_move rfl)) ?_
       obtain ⟨c668, h⟩ := ite_n h
       refine DK.cons rfl rfl (.gp rfl rfl rfl hb667 (.s 87 rfl (.s 88 rfl .nil)) rfl (q_index rfl el26 rfl c668.1 c668.2)) <| DK.cons rfl rfl (.gp rfl rfl rfl hb667 (.s 89 rfl .nil) rfl (q_load rfl sh3)) <| DK.cons rfl rfl (.gp rfl rfl rfl hb667 (.s 7 rfl .nil) rfl (q_field rfl fo38_1 rfl)) <| DK.cons rfl rfl (.gp rfl rfl rfl hb667 (.s 91 rfl .nil) rfl (q_load rfl sh36)) <| DK.cons rfl rfl (.gp rfl rfl rfl hb667 (.s 92 rfl .nil) rfl (q_len rfl elS36)) <| DK.cons rfl rfl (.gp rfl rfl rfl hb667 (.s 90 rfl (.s 93 rfl .nil)) rfl (q_int rfl rfl)) <| DK.cons rfl rfl (.p rfl (.s 85 rfl (.s 94 rfl .nil)) rfl (q_pickF rfl hb667)) <| DK.nil <| CSteps.nil ?_
       exact QN.weaken (.o4 rfl (.o2 rfl (.nil _))) (Kj633 () (decide ((rd a3.fEdges x12) ≥ (a2.fEdges.length : Int))) h)
    ·refine W.exit <| QX.then_ <| QX.then_ <| QX.here <| QN.weaken (env' := [(8, _), (4, _)]) (.o2 rfl (.nil _)) <| QN.then_ <| W.seq <| W.seq ?_
     refine W.jn1 (Γ := Unit) (fun (_ : Unit) (x147 : Bool) => [(147, bA x147)]) (fun (_ : Unit) (_ : Bool) => []) h (fun _ x147 h => ?_) (fun j674 Kj674 h => ?_)
     ·refine QN.then_ ?_
      refine W.condP h rfl (fun hb675 h => ?_) (fun hb675 h => ?_)
      ·refine sr <| ak rfl <| nt <| W.ret <| QR.then_ ?_
       cases h
       exact QR.f1 rfl rfl (.t rfl) (.id _)
      ·refine W.skip <| QN.then_ <| sr <| ak rfl <| nt <| W.ret ?_
       cases h
       exact QR.f1 rfl rfl (.t rfl) (.id _)
     ·refine W.region <| mv rfl rfl <| mv rfl rfl ?_
      rcases bif_s h with ⟨hb676, h⟩ | ⟨hb676, h⟩
      ·refine wf rfl rfl rfl hb676 rfl rfl fo64_0 rfl <| wl rfl rfl rfl hb676 rfl rfl sh26 ?_
       obtain ⟨t677, ht677, h⟩ := bind_s h
       refine wq rfl rfl rfl hb676 (.s 138 rfl .nil) (q_call (f := 168) (A := bA t677) (xs := [.tmp 138]) («as» := [SlcA kInt a3.fNodes]) rfl ca168 (ref17_distinct.con k a3.fNodes t677 ht677) rfl).o <| wq rfl rfl rfl hb676 (.s 139 rfl .nil) (q_not rfl).o <| wm rfl rfl rfl hb676 rfl rfl ?_
       rcases bif_s h with ⟨hb678, h⟩ | ⟨hb678, h⟩
       ·refine sk rfl rfl rfl hb678 <| sk rfl rfl rfl hb678 <| sk rfl rfl rfl hb678 <| sk rfl rfl rfl hb678 <| wq rfl rfl rfl hb676 (.s 141 rfl (.k .nil)) (q_pickT rfl hb678).o <| p2 rfl 136 rfl 146 rfl (q_pickT rfl hb676) <| WL.nil ?_
        exact QN.weaken (.one rfl (.nil _)) (Kj674 () true h)
       ·refine wf rfl rfl rfl hb678 rfl rfl fo64_1 rfl <| wl rfl rfl rfl hb678 rfl rfl sh26 ?_
        obtain ⟨t679, ht679, h⟩ := bind_s h
        refine wq rfl rfl rfl hb678 (.s 143 rfl .nil) (q_call (f := 168) (A := bA t679) (xs := [.tmp 143]) («as» := [SlcA kInt a3.fEdges]) rfl ca168 (ref17_distinct.con k a3.fEdges t679 ht679) rfl).o <| wq rfl rfl rfl hb678 (.s 144 rfl .nil) (q_not rfl).o <| wq rfl rfl rfl hb676 (.s 141 rfl (.s 145 rfl .nil)) (q_pickF rfl hb678).o <| p2 rfl 136 rfl 146 rfl (q_pickT rfl hb676) <| WL.nil ?_
        exact QN.weaken (.one rfl (.nil _)) (Kj674 () (!t679) h)
      ·refine sk rfl rfl rfl hb676 <| sk rfl rfl rfl hb676 <| sk rfl rfl rfl hb676 <| sk rfl rfl rfl hb676 <| sk rfl rfl rfl hb676 <| su rfl rfl rfl <| su rfl rfl rfl <| su rfl rfl rfl <| su rfl rfl rfl <| sk rfl rfl rfl hb676 <| pk rfl 136 rfl (q_pickF rfl hb676) <| WL.nil ?_
       exact QN.weaken (.one rfl (.nil _)) (Kj674 () false h)
 ·refine W.region <| fd rfl rfl fo64_0 rfl <| ld rfl rfl sh26 <| p1 rfl 16 rfl (q_len rfl elS26) <| fd rfl rfl fo38_0 rfl <| ld rfl rfl sh26 <| p1 rfl 19 rfl (q_len rfl elS26) <| p2 rfl 17 rfl 20 rfl (q_int rfl rfl) <| mv rfl rfl ?_
  rcases bif_s h with ⟨hb680, h⟩ | ⟨hb680, h⟩
  ·refine sk rfl rfl rfl hb680 <| sk rfl rfl rfl hb680 <| sk rfl rfl rfl hb680 <| sk rfl rfl rfl hb680 <| sk rfl rfl rfl hb680 <| sk rfl rfl rfl hb680 <| sk rfl rfl rfl hb680 <| pk rfl 22 rfl (q_pickT rfl hb680) <| WL.nil ?_
   exact QN.weaken (.o4 rfl (.o2 rfl (.nil _))) (Kj102 () true h)
  ·refine wf rfl rfl rfl hb680 rfl rfl fo64_1 rfl <| wl rfl rfl rfl hb680 rfl rfl sh26 <| wq rfl rfl rfl hb680 (.s 24 rfl .nil) (q_len rfl elS26).o <| wf rfl rfl rfl hb680 rfl rfl fo38_1 rfl <| wl rfl rfl rfl hb680 rfl rfl sh36 <| wq rfl rfl rfl hb680 (.s 27 rfl .nil) (q_len rfl elS36).o <| wq rfl rfl rfl hb680 (.s 25 rfl (.s 28 rfl .nil)) (q_int rfl rfl).o <| p2 rfl 22 rfl 29 rfl (q_pickF rfl hb680) <| WL.nil ?_
   exact QN.weaken (.o4 rfl (.o2 rfl (.nil _))) (Kj102 () ((a3.fEdges.length : Int) != (a1.fEdges.length : Int)) h)
theorem ref17_Check.con (k : Nat) (a0 : Types) (a1 : Graph) (a2 : Graph) (a3 : Morphism) (a4 : Bool) (r : Int) (h : ref17_Check k a0 a1 a2 a3 a4 = some r) : Con Tryz.prog 76 [] [AggA [SlcA kNodeType a0.fNodes, SlcA kEdgeType a0.fEdges], AggA [SlcA kInt a1.fNodes, SlcA kEdge a1.fEdges], AggA [SlcA kInt a2.fNodes, SlcA kEdge a2.fEdges], AggA [SlcA kInt a3.fNodes, SlcA kInt a3.fEdges], bA a4] (RA (iA r)) := by
 unfold ref17_Check at h
 refine Con.of (N := 25) Tryz.func76 rfl rfl rfl fun w0_ fg_ => sr <| p1 rfl 0 rfl (q_box rfl (CellsOf.agg _)) <| p1 rfl 1 rfl (q_box rfl (CellsOf.agg _)) <| p1 rfl 2 rfl (q_box rfl (CellsOf.agg _)) <| p1 rfl 3 rfl (q_box rfl (CellsOf.agg _)) <| ak rfl <| nt <| W.seq <| sr ?_
 refine lS rfl rfl sh35 rfl rfl <| lS rfl rfl sh38 rfl rfl <| lS rfl rfl sh38 rfl rfl ?_
 obtain ⟨t100, ht100, h⟩ := bind_s h
 refine WL.p rfl rfl rfl (.s 12 rfl (.s 13 rfl (.s 14 rfl .nil))) (q_call (f := 117) (A := iA t100) (xs := [.tmp 12, .tmp 13, .tmp 14]) («as» := [AggA [SlcA kNodeType a0.fNodes, SlcA kEdgeType a0.fEdges], AggA [SlcA kInt a1.fNodes, SlcA kEdge a1.fEdges], AggA [SlcA kInt a2.fNodes, SlcA kEdge a2.fEdges]]) rfl ca117 (ref17_given.con k a0 a1 a2 t100 ht100) rfl) <| av rfl rfl <| WL.nil <| QN.weaken (env' := [(11, _), (8, _), (7, _), (6, _), (5, _), (4, _)]) (.o4 rfl (.o2 rfl (.nil _))) <| QN.then_ <| sr <| mv rfl rfl <| pk rfl 16 rfl (q_int rfl rfl) <| nt ?_
 refine W.condP h rfl (fun hb101 h => ?_) (fun hb101 h => ?_)
 ·refine sr <| mv rfl rfl <| av rfl rfl <| WL.nil <| QN.weaken (env' := [(10, _)]) (.one rfl (.nil _)) <| QN.then_ <| W.ret <| QR.then_ ?_
  cases h
  exact QR.f1 rfl rfl (.t rfl) (.id _)
 ·refine W.skip <| QN.then_ <| sr <| lS rfl rfl sh35 rfl rfl <| lS rfl rfl sh38 rfl rfl <| lS rfl rfl sh38 rfl rfl <| lS rfl rfl sh64 rfl rfl <| mv rfl rfl ?_
  obtain ⟨t102, ht102, h⟩ := bind_s h
  refine WL.p rfl rfl rfl (.s 19 rfl (.s 20 rfl (.s 21 rfl (.s 22 rfl (.s 23 rfl .nil))))) (q_call (f := 123) (A := iA t102) (xs := [.tmp 19, .tmp 20, .tmp 21, .tmp 22, .tmp 23]) («as» := [AggA [SlcA kNodeType a0.fNodes, SlcA kEdgeType a0.fEdges], AggA [SlcA kInt a1.fNodes, SlcA kEdge a1.fEdges], AggA [SlcA kInt a2.fNodes, SlcA kEdge a2.fEdges], AggA [SlcA kInt a3.fNodes, SlcA kInt a3.fEdges], bA a4]) rfl ca123 (ref17_match.con k a0 a1 a2 a3 a4 t102 ht102) rfl) <| av rfl rfl <| WL.nil <| QN.weaken (env' := [(10, _)]) (.one rfl (.nil _)) <| QN.then_ <| W.ret ?_
  cases h
  exact QR.f1 rfl rfl (.t rfl) (.id _)
theorem ref21_value.con (k : Nat) (a0 : Term) (a1 : (List Int)) (r : Int) (h : ref21_value k a0 a1 = some r) : Con Tryz.prog 42 [] [AggA [iA a0.fVar, iA a0.fAdd], SlcA kInt a1] (RA (iA r)) := by
 unfold ref21_value at h
 refine Con.of (N := 18) Tryz.func42 rfl rfl rfl fun w0_ fg_ => sr <| p1 rfl 0 rfl (q_box rfl (CellsOf.agg _)) <| ak rfl <| nt <| W.seq <| sr <| fd rfl rfl fo23_0 rfl <| ld rfl rfl sh3 <| pk rfl 6 rfl (q_int rfl rfl) ?_
 refine nt ?_
 refine W.condP h rfl (fun hb100 h => ?_) (fun hb100 h => ?_)
 ·refine sr <| fd rfl rfl fo23_1 rfl <| ld rfl rfl sh3 <| av rfl rfl <| WL.nil <| QN.weaken (env' := [(4, _)]) (.one rfl (.nil _)) <| QN.then_ <| W.ret <| QR.then_ ?_
  cases h
  exact QR.f1 rfl rfl (.t rfl) (.id _)
 ·refine W.skip <| QN.then_ <| W.seq <| W.drawK [(0, false), (1, false), (2, false), (3, false), (4, false), (5, false), (6, false), (7, false), (8, false)] [] (bm [0, 0, 2, 7, 15, 0, 32, 127, 255]) mx (by kernel_rfl) <| dm rfl rfl rfl <| df rfl rfl rfl fo23_0 rfl <| dl rfl rfl rfl sh3 ?_
  obtain ⟨c105, h⟩ := ite_n h
  refine DK.cons rfl rfl (.p rfl (.s 10 rfl (.s 12 rfl .nil)) rfl (q_index rfl el26 rfl c105.1 c105.2)) <| dl rfl rfl rfl sh3 <| df rfl rfl rfl fo23_1 rfl <| dl rfl rfl rfl sh3 ?_
  obtain ⟨c106, h⟩ := ite_n h
  refine DK.cons rfl rfl (.p rfl (.s 14 rfl (.s 16 rfl .nil)) rfl (q_addR rfl c106)) <| DK.cons rfl rfl (.p rfl (.s 17 rfl .nil) rfl (q_assign rfl)) <| DK.nil <| CSteps.nil <| QN.weaken (env' := [(4, _)]) (.one rfl (.nil _)) <| QN.then_ <| W.ret ?_
  cases h
  exact QR.f1 rfl rfl (.t rfl) (.id _)
theorem ref03_value.con (k : Nat) (a0 : Term) (a1 : (List Int)) (r : (Int × Bool)) (h : ref03_value k a0 a1 = some r) : Con Tryz.prog 169 [] [AggA [iA a0.fVar, iA a0.fAdd], SlcA kInt a1] (RA (TupA [iA r.1, bA r.2])) := by
 unfold ref03_value at h
 refine Con.of (N := 29) Tryz.func169 rfl rfl rfl fun w0_ fg_ => sr <| p1 rfl 0 rfl (q_box rfl (CellsOf.agg _)) <| ak rfl <| ak rfl <| nt <| W.seq <| sr <| fd rfl rfl fo23_0 rfl <| ld rfl rfl sh3 ?_
 refine pk rfl 7 rfl (q_int rfl rfl) <| nt ?_
 refine W.condP h rfl (fun hb100 h => ?_) (fun hb100 h => ?_)
 ·refine sr <| fd rfl rfl fo23_1 rfl <| ld rfl rfl sh3 <| av rfl rfl <| ak rfl <| WL.nil <| QN.weaken (env' := [(5, _), (4, _)]) (.o2 rfl (.nil _)) <| QN.then_ <| W.ret <| QR.then_ ?_
  cases h
  exact QR.f2 rfl rfl (.t rfl) (.t rfl) (.id _)
 ·refine W.skip <| QN.then_ <| W.seq <| W.seq ?_
  refine W.jn1 (Γ := Unit) (fun (_ : Unit) (x20 : Bool) => [(1, SlcA kInt a1), (2, PtrA [iA a0.fVar, iA a0.fAdd]), (20, bA x20)]) (fun (_ : Unit) (_ : Bool) => []) h (fun _ x20 h => ?_) (fun j103 Kj103 h => ?_)
  ·refine QN.then_ ?_
   refine W.condP h rfl (fun hb104 h => ?_) (fun hb104 h => ?_)
   ·refine sr <| ak rfl <| ak rfl <| nt <| W.ret <| QR.then_ ?_
    cases h
    exact QR.f2 rfl rfl (.t rfl) (.t rfl) (.id _)
   ·refine W.skip <| QN.then_ <| W.seq <| W.drawK [(0, false), (1, false), (2, false), (3, false), (4, false), (5, false), (6, false), (7, false), (8, false), (9, false)] [] (bm [0, 0, 2, 7, 15, 0, 32, 127, 255, 511]) mx (by kernel_rfl) <| dm rfl rfl rfl <| df rfl rfl rfl fo23_0 rfl <| dl rfl rfl rfl sh3 ?_
    obtain ⟨c109, h⟩ := ite_n h
    refine DK.cons rfl rfl (.p rfl (.s 21 rfl (.s 23 rfl .nil)) rfl (q_index rfl el26 rfl c109.1 c109.2)) <| dl rfl rfl rfl sh3 <| df rfl rfl rfl fo23_1 rfl <| dl rfl rfl rfl sh3 ?_
    obtain ⟨c110, h⟩ := ite_n h
    refine DK.cons rfl rfl (.p rfl (.s 25 rfl (.s 27 rfl .nil)) rfl (q_addR rfl c110)) <| DK.cons rfl rfl (.p rfl (.s 28 rfl .nil) rfl (q_assign rfl)) <| DK.cons rfl rfl (.p rfl (.k .nil) rfl (q_assign rfl)) <| DK.nil <| CSteps.nil <| QN.weaken (env' := [(5, _), (4, _)]) (.o2 rfl (.nil _)) <| QN.then_ <| W.ret ?_
    cases h
    exact QR.f2 rfl rfl (.t rfl) (.t rfl) (.id _)
  ·refine W.region <| fd rfl rfl fo23_0 rfl <| ld rfl rfl sh3 <| pk rfl 12 rfl (q_int rfl rfl) <| mv rfl rfl ?_
   rcases bif_s h with ⟨hb111, h⟩ | ⟨hb111, h⟩
   ·refine sk rfl rfl rfl hb111 <| sk rfl rfl rfl hb111 <| sk rfl rfl rfl hb111 <| sk rfl rfl rfl hb111 <| sk rfl rfl rfl hb111 <| pk rfl 14 rfl (q_pickT rfl hb111) <| WL.nil ?_
    exact QN.weaken (.o2 rfl (.one rfl (.nil _))) (Kj103 () true h)
   ·refine wf rfl rfl rfl hb111 rfl rfl fo23_0 rfl <| wl rfl rfl rfl hb111 rfl rfl sh3 <| wm rfl rfl rfl hb111 rfl rfl <| wq rfl rfl rfl hb111 (.s 17 rfl .nil) (q_len rfl elS26).o <| wq rfl rfl rfl hb111 (.s 16 rfl (.s 18 rfl .nil)) (q_int rfl rfl).o <| p2 rfl 14 rfl 19 rfl (q_pickF rfl hb111) <| WL.nil ?_
    exact QN.weaken (.o2 rfl (.one rfl (.nil _))) (Kj103 () (decide (a0.fVar ≥ (a1.length : Int))) h)
theorem ref03_Holds.con (k : Nat) (a0 : Test) (a1 : (List Int)) (r : Bool) (h : ref03_Holds k a0 a1 = some r) : Con Tryz.prog 124 [] [AggA [iA a0.fKind, iA a0.fLeft.fVar, iA a0.fLeft.fAdd, iA a0.fRight.fVar, iA a0.fRight.fAdd], SlcA kInt a1] (RA (bA r)) := by
 unfold ref03_Holds at h
 refine Con.of (N := 47) Tryz.func124 rfl rfl rfl fun w0_ fg_ => sr <| p1 rfl 0 rfl (q_box rfl (CellsOf.agg _)) <| ak rfl <| nx <| fd rfl rfl fo86_1 rfl <| lS rfl rfl sh23 rfl rfl <| mv rfl rfl ?_
 obtain ⟨t100, ht100, h⟩ := bind_s h
 refine p2 rfl 11 rfl 12 rfl (q_call (f := 169) (A := TupA [iA t100.1, bA t100.2]) (xs := [.tmp 11, .tmp 12]) («as» := [AggA [iA a0.fLeft.fVar, iA a0.fLeft.fAdd], SlcA kInt a1]) rfl ca169 (ref03_value.con k a0.fLeft a1 t100 ht100) rfl) <| mv rfl rfl <| p1 rfl 9 rfl (q_extract rfl rfl) <| p1 rfl 9 rfl (q_extract rfl rfl) <| av rfl rfl <| av rfl rfl <| WL.nil <| QN.weaken (env' := [(6, _), (5, _), (2, _), (1, _)]) (.o4 rfl (.nil _)) <| QN.then_ <| sr <| fd rfl rfl fo86_2 rfl <| lS rfl rfl sh23 rfl rfl ?_
 refine mv rfl rfl ?_
 obtain ⟨t101, ht101, h⟩ := bind_s h
 refine p2 rfl 18 rfl 19 rfl (q_call (f := 169) (A := TupA [iA t101.1, bA t101.2]) (xs := [.tmp 18, .tmp 19]) («as» := [AggA [iA a0.fRight.fVar, iA a0.fRight.fAdd], SlcA kInt a1]) rfl ca169 (ref03_value.con k a0.fRight a1 t101 ht101) rfl) <| mv rfl rfl <| p1 rfl 16 rfl (q_extract rfl rfl) <| p1 rfl 16 rfl (q_extract rfl rfl) <| av rfl rfl <| av rfl rfl <| WL.nil <| QN.weaken (env' := [(8, _), (7, _), (6, _), (5, _), (2, _)]) (.o4 rfl (.one rfl (.nil _))) <| QN.then_ <| W.seq <| W.seq ?_
 refine W.jn1 (Γ := Unit) (fun (_ : Unit) (x28 : Bool) => [(2, PtrA [iA a0.fKind, iA a0.fLeft.fVar, iA a0.fLeft.fAdd, iA a0.fRight.fVar, iA a0.fRight.fAdd]), (5, iA t100.1), (7, iA t101.1), (28, bA x28)]) (fun (_ : Unit) (_ : Bool) => []) h (fun _ x28 h => ?_) (fun j104 Kj104 h => ?_)
 ·refine QN.then_ ?_
  refine W.condP h rfl (fun hb105 h => ?_) (fun hb105 h => ?_)
  ·refine sr <| ak rfl <| nt <| W.ret <| QR.then_ ?_
   cases h
   exact QR.f1 rfl rfl (.t rfl) (.id _)
  ·refine W.skip <| QN.then_ <| W.seq ?_
   refine W.jn1 (Γ := Unit) (fun (_ : Unit) (x4 : Bool) => [(4, bA x4)]) (fun (_ : Unit) (_ : Bool) => []) h (fun _ x4 h => ?_) (fun j111 Kj111 h => ?_)
   ·refine QN.then_ <| W.ret ?_
    cases h
    exact QR.f1 rfl rfl (.t rfl) (.id _)
   ·refine W.region <| fd rfl rfl fo86_0 rfl <| ld rfl rfl sh3 <| pk rfl 30 rfl (q_int rfl rfl) <| mv rfl rfl ?_
    rcases bif_s h with ⟨hb112, h⟩ | ⟨hb112, h⟩
    ·refine wm rfl rfl rfl hb112 rfl rfl <| wm rfl rfl rfl hb112 rfl rfl <| wq rfl rfl rfl hb112 (.s 33 rfl (.s 34 rfl .nil)) (q_int rfl rfl).o <| p2 rfl 32 rfl 35 rfl (q_pickT rfl hb112) <| mv rfl rfl ?_
     rcases bif_s h with ⟨hb113, h⟩ | ⟨hb113, h⟩
     ·refine sk rfl rfl rfl hb113 <| sk rfl rfl rfl hb113 <| sk rfl rfl rfl hb113 <| sk rfl rfl rfl hb113 <| su rfl rfl rfl <| su rfl rfl rfl <| su rfl rfl rfl <| sk rfl rfl rfl hb113 <| pk rfl 37 rfl (q_pickT rfl hb113) <| av rfl rfl <| WL.nil ?_
      exact QN.weaken (.one rfl (.nil _)) (Kj111 () true h)
     ·refine wf rfl rfl rfl hb113 rfl rfl fo86_0 rfl <| wl rfl rfl rfl hb113 rfl rfl sh3 <| wq rfl rfl rfl hb113 (.s 39 rfl (.k .nil)) (q_int rfl rfl).o <| wm rfl rfl rfl hb113 rfl rfl ?_
      rcases bif_s h with ⟨hb114, h⟩ | ⟨hb114, h⟩
      ·refine wm rfl rfl rfl hb114 rfl rfl <| wm rfl rfl rfl hb114 rfl rfl <| wq rfl rfl rfl hb114 (.s 42 rfl (.s 43 rfl .nil)) (q_int rfl rfl).o <| wq rfl rfl rfl hb113 (.s 41 rfl (.s 44 rfl .nil)) (q_pickT rfl hb114).o <| p2 rfl 37 rfl 45 rfl (q_pickF rfl hb113) <| av rfl rfl <| WL.nil ?_
       exact QN.weaken (.one rfl (.nil _)) (Kj111 () (t100.1 == t101.1) h)
      ·refine sk rfl rfl rfl hb114 <| sk rfl rfl rfl hb114 <| sk rfl rfl rfl hb114 <| wq rfl rfl rfl hb113 (.s 41 rfl (.k .nil)) (q_pickF rfl hb114).o <| p2 rfl 37 rfl 45 rfl (q_pickF rfl hb113) <| av rfl rfl <| WL.nil ?_
       exact QN.weaken (.one rfl (.nil _)) (Kj111 () false h)
    ·refine sk rfl rfl rfl hb112 <| sk rfl rfl rfl hb112 <| sk rfl rfl rfl hb112 <| pk rfl 32 rfl (q_pickF rfl hb112) <| mv rfl rfl <| wf rfl rfl rfl rfl rfl rfl fo86_0 rfl <| wl rfl rfl rfl rfl rfl rfl sh3 <| wq rfl rfl rfl rfl (.s 39 rfl (.k .nil)) (q_int rfl rfl).o <| wm rfl rfl rfl rfl rfl rfl ?_
     rcases bif_s h with ⟨hb115, h⟩ | ⟨hb115, h⟩
     ·refine wm rfl rfl rfl hb115 rfl rfl <| wm rfl rfl rfl hb115 rfl rfl <| wq rfl rfl rfl hb115 (.s 42 rfl (.s 43 rfl .nil)) (q_int rfl rfl).o <| wq rfl rfl rfl rfl (.s 41 rfl (.s 44 rfl .nil)) (q_pickT rfl hb115).o <| p2 rfl 37 rfl 45 rfl (q_pickF rfl rfl) <| av rfl rfl <| WL.nil ?_
      exact QN.weaken (.one rfl (.nil _)) (Kj111 () (t100.1 == t101.1) h)
     ·refine sk rfl rfl rfl hb115 <| sk rfl rfl rfl hb115 <| sk rfl rfl rfl hb115 <| wq rfl rfl rfl rfl (.s 41 rfl (.k .nil)) (q_pickF rfl hb115).o <| p2 rfl 37 rfl 45 rfl (q_pickF rfl rfl) <| av rfl rfl <| WL.nil ?_
      exact QN.weaken (.one rfl (.nil _)) (Kj111 () false h)
 ·refine W.region <| mv rfl rfl <| p1 rfl 23 rfl (q_not rfl) <| mv rfl rfl ?_
  rcases bif_s h with ⟨hb116, h⟩ | ⟨hb116, h⟩
  ·refine sk rfl rfl rfl hb116 <| sk rfl rfl rfl hb116 <| pk rfl 25 rfl (q_pickT rfl hb116) <| WL.nil ?_
   exact QN.weaken (.o4 rfl (.nil _)) (Kj104 () true h)
  ·refine wm rfl rfl rfl hb116 rfl rfl <| wq rfl rfl rfl hb116 (.s 26 rfl .nil) (q_not rfl).o <| p2 rfl 25 rfl 27 rfl (q_pickF rfl hb116) <| WL.nil ?_
   exact QN.weaken (.o4 rfl (.nil _)) (Kj104 () (!t101.2) h)
theorem ref21_Values.con (k : Nat) (a0 : Pattern) (a1 : Host) (a2 : Morphism) (r : ((List Int) × Int)) (h : ref21_Values k a0 a1 a2 = some r) : Con Tryz.prog 77 [] [AggA [SlcA kInt a0.fGraph.fNodes, SlcA kEdge a0.fGraph.fEdges, SlcA kSlot a0.fSlots, iA a0.fVars, SlcA kTest a0.fTests], AggA [SlcA kInt a1.fGraph.fNodes, SlcA kEdge a1.fGraph.fEdges, SlcA (kSl kInt) a1.fValues], AggA [SlcA kInt a2.fNodes, SlcA kInt a2.fEdges]] (RA (TupA [SlcA kInt r.1, iA r.2])) := by
 unfold ref21_Values at h
 refine Con.of (N := 92) Tryz.func77 rfl rfl rfl fun w0_ fg_ => sr <| p1 rfl 0 rfl (q_box rfl (CellsOf.agg _)) <| p1 rfl 1 rfl (q_box rfl (CellsOf.agg _)) <| p1 rfl 2 rfl (q_box rfl (CellsOf.agg _)) <| ak rfl <| ak rfl <| nx <| fd rfl rfl fo42_2 rfl ?_
 refine ld rfl rfl sh3 ?_
 obtain ⟨c100, h⟩ := ite_n h
 refine WL.w [] rfl (Wanted.plain rfl) rfl rfl (.s 16 rfl (.s 16 rfl .nil)) (w_make (kd := kInt) (z := (0 : Int)) rfl el26 rfl gr3 z3 rfl c100.1 c100.2) ?_
 rintro _ _ ⟨v101, rfl, rfl⟩
 refine av rfl rfl <| WL.nil <| QN.weaken (env' := [(8, _), (5, _), (4, _), (3, _)]) (.o4 rfl (.nil _)) <| QN.then_ <| sr <| fd rfl rfl fo42_2 rfl <| ld rfl rfl sh3 ?_
 obtain ⟨c102, h⟩ := ite_n h
 refine WL.w [] rfl (Wanted.plain rfl) rfl rfl (.s 19 rfl (.s 19 rfl .nil)) (w_make (kd := kBool) (z := false) rfl el111 rfl gr4 z4 rfl c102.1 c102.2) ?_
 rintro _ _ ⟨v103, rfl, rfl⟩
 refine av rfl rfl <| nt <| W.seq <| sr <| ak rfl <| nt <| W.block <| W.order [1, 0] rfl ?_
 refine W.loop3 (Γ := Unit) (fun (_ : Unit) (_ : (List Int)) (_ : (List Bool)) (x10 : Int) => [(3, PtrA [SlcA kInt a0.fGraph.fNodes, SlcA kEdge a0.fGraph.fEdges, SlcA kSlot a0.fSlots, iA a0.fVars, SlcA kTest a0.fTests]), (4, PtrA [SlcA kInt a1.fGraph.fNodes, SlcA kEdge a1.fGraph.fEdges, SlcA (kSl kInt) a1.fValues]), (5, PtrA [SlcA kInt a2.fNodes, SlcA kInt a2.fEdges]), (8, HdA v101), (9, HdA v103), (10, iA x10)]) (fun (_ : Unit) (x8 : (List Int)) (x9 : (List Bool)) (_ : Int) => [SlE 3 v101 kInt x8, SlE 4 v103 kBool x9]) h () (.o4 rfl (.o2 rfl (.nil _))) rfl (fun rec0 K0 next0 _ x8 x9 x10 h => ?_)
 unfold ref21_Values.b0 at h
 refine W.seq <| sr <| mv rfl rfl <| fd rfl rfl fo42_1 rfl <| ld rfl rfl sh39 <| p1 rfl 23 rfl (q_len rfl elS39) <| p2 rfl 21 rfl 24 rfl (q_int rfl rfl) <| nt ?_
 refine W.condP h rfl (fun hb196 h => ?_) (fun hb196 h => ?_)
 ·refine W.skip <| QN.then_ <| W.seq <| W.block <| sr <| fd rfl rfl fo42_1 rfl <| ld rfl rfl sh39 <| mv rfl rfl ?_
  obtain ⟨c197, h⟩ := ite_n h
  refine p2 rfl 29 rfl 30 rfl (q_index rfl el39 rfl c197.1 c197.2) <| lS rfl rfl sh113 rfl rfl <| WL.w [] rfl (Wanted.plain rfl) rfl rfl .nil (w_alloc rfl z113 (l := [iA 0, iA 0, iA 0, iA 0]) rfl) ?_
  rintro _ _ ⟨b198, rfl, rfl⟩
  refine WL.w0 [0] rfl (Wanted.plain rfl) rfl (.s 11 rfl (.s 32 rfl .nil)) (w_store (L := [iA ((rd a0.fSlots x10).fNode), iA ((rd a0.fSlots x10).fAttr), iA ((rd a0.fSlots x10).fTerm.fVar), iA ((rd a0.fSlots x10).fTerm.fAdd)]) rfl sh113 (CellsOf.agg _) rfl rfl (leB rfl) rfl) ?_
  rintro _ _ ⟨rfl, rfl⟩
  refine WL.nil <| QN.to (StTo.still [0] 11 rfl rfl) <| QN.weaken (env' := [(11, _), (10, _), (9, _), (8, _), (5, _), (4, _), (3, _)]) (.o4 rfl (.o2 rfl (.one rfl (.nil _)))) <| QN.then_ <| W.seq <| W.drawK [(0, false), (1, false), (2, false), (3, false), (4, false), (5, false), (6, false), (7, false), (8, false), (9, false), (10, false), (11, false), (12, false), (13, false), (14, false)] [] (bm [0, 1, 0, 4, 0, 16, 60, 124, 255, 511, 0, 1024, 4095, 8191, 16383]) mx (by kernel_rfl) <| df rfl rfl rfl fo60_1 rfl <| dl rfl rfl rfl sh58 <| df rfl rfl rfl fo64_0 rfl <| dl rfl rfl rfl sh26 <| df rfl rfl rfl fo113_0 rfl <| dl rfl rfl rfl sh3 ?_
  obtain ⟨c205, h⟩ := ite_n h
  refine DK.cons rfl rfl (.p rfl (.s 36 rfl (.s 38 rfl .nil)) rfl (q_index rfl el26 rfl c205.1 c205.2)) <| dl rfl rfl rfl sh3 ?_
  obtain ⟨c206, h⟩ := ite_n h
  refine DK.cons rfl rfl (.p rfl (.s 34 rfl (.s 40 rfl .nil)) rfl (q_index rfl el58 rfl c206.1 c206.2)) <| dl rfl rfl rfl sh26 <| df rfl rfl rfl fo113_1 rfl <| dl rfl rfl rfl sh3 ?_
  obtain ⟨c207, h⟩ := ite_n h
  refine DK.cons rfl rfl (.p rfl (.s 42 rfl (.s 44 rfl .nil)) rfl (q_index rfl el26 rfl c207.1 c207.2)) <| dl rfl rfl rfl sh3 <| DK.cons rfl rfl (.p rfl (.s 46 rfl .nil) rfl (q_assign rfl)) <| DK.nil <| CSteps.nil <| QN.weaken (env' := [(12, _), (11, _), (10, _), (9, _), (8, _), (5, _), (4, _), (3, _)]) (.o4 rfl (.o4 rfl (.nil _))) <| QN.then_ <| W.seq <| sr <| fd rfl rfl fo113_2 rfl <| fd rfl rfl fo23_0 rfl <| ld rfl rfl sh3 ?_
  refine av rfl rfl <| nt <| W.seq ?_
  refine W.jn1 (Γ := Unit) (fun (_ : Unit) (x58 : Bool) => [(3, PtrA [SlcA kInt a0.fGraph.fNodes, SlcA kEdge a0.fGraph.fEdges, SlcA kSlot a0.fSlots, iA a0.fVars, SlcA kTest a0.fTests]), (4, PtrA [SlcA kInt a1.fGraph.fNodes, SlcA kEdge a1.fGraph.fEdges, SlcA (kSl kInt) a1.fValues]), (5, PtrA [SlcA kInt a2.fNodes, SlcA kInt a2.fEdges]), (8, HdA v101), (9, HdA v103), (10, iA x10), (11, PtrA [iA ((rd a0.fSlots x10).fNode), iA ((rd a0.fSlots x10).fAttr), iA ((rd a0.fSlots x10).fTerm.fVar), iA ((rd a0.fSlots x10).fTerm.fAdd)]), (12, iA (rd (rd a1.fValues (rd a2.fNodes ((rd a0.fSlots x10).fNode))) ((rd a0.fSlots x10).fAttr))), (13, iA ((rd a0.fSlots x10).fTerm.fVar)), (58, bA x58)]) (fun (_ : Unit) (_ : Bool) => [SlE 3 v101 kInt x8, SlE 4 v103 kBool x9]) h (fun _ x58 h => ?_) (fun j211 Kj211 h => ?_)
  ·refine QN.then_ ?_
   refine W.jn2 (Γ := Unit) (fun (_ : Unit) (_ : (List Int)) (_ : (List Bool)) => [(3, PtrA [SlcA kInt a0.fGraph.fNodes, SlcA kEdge a0.fGraph.fEdges, SlcA kSlot a0.fSlots, iA a0.fVars, SlcA kTest a0.fTests]), (4, PtrA [SlcA kInt a1.fGraph.fNodes, SlcA kEdge a1.fGraph.fEdges, SlcA (kSl kInt) a1.fValues]), (5, PtrA [SlcA kInt a2.fNodes, SlcA kInt a2.fEdges]), (8, HdA v101), (9, HdA v103), (10, iA x10), (11, PtrA [iA ((rd a0.fSlots x10).fNode), iA ((rd a0.fSlots x10).fAttr), iA ((rd a0.fSlots x10).fTerm.fVar), iA ((rd a0.fSlots x10).fTerm.fAdd)]), (12, iA (rd (rd a1.fValues (rd a2.fNodes ((rd a0.fSlots x10).fNode))) ((rd a0.fSlots x10).fAttr)))]) (fun (_ : Unit) (x8' : (List Int)) (x9' : (List Bool)) => [SlE 3 v101 kInt x8', SlE 4 v103 kBool x9']) h (fun _ x8' x9' h => ?_) (fun j217 Kj217 h => ?_)
   ·refine QN.then_ <| sr <| fd rfl rfl fo113_2 rfl <| lS rfl rfl sh23 rfl rfl <| mv rfl rfl ?_
    obtain ⟨t218, ht218, h⟩ := bind_s h
    refine WL.q (Wanted.plain rfl) rfl rfl (.s 71 rfl (.s 72 rfl .nil)) (q_lend (f := 42) (A := iA t218) (xs := [.tmp 71, .tmp 72]) («as» := [AggA [iA ((rd a0.fSlots x10).fTerm.fVar), iA ((rd a0.fSlots x10).fTerm.fAdd)], HdA v101]) rfl ca42 (ref21_value.con k ((rd a0.fSlots x10).fTerm) x8' t218 ht218) rfl (.cons (.id _) (.cons (.slc 0 rfl) .nil)) (Flat.eq _)) <| mv rfl rfl <| p2 rfl 73 rfl 74 rfl (q_int rfl rfl) <| WL.nil <| QN.weaken (env' := [(75, _), (10, _), (9, _), (8, _), (5, _), (4, _), (3, _)]) (.o4 rfl (.o2 rfl (.one rfl (.nil _)))) <| QN.then_ ?_
    refine W.condP h rfl (fun hb219 h => ?_) (fun hb219 h => ?_)
    ·refine sr <| ak rfl <| ak rfl <| WL.nil <| QN.weaken (env' := [(7, _), (6, _)]) (.o2 rfl (.nil _)) <| QN.then_ <| W.ret <| QR.block <| QR.then_ <| QR.then_ <| QR.block <| QR.then_ ?_
     cases h
     exact QR.f2 rfl rfl (.t rfl) (.t rfl) (.imp (Imp.tup (.cons (Imp.nil kInt) (.cons (Imp.id _) .nil))))
    ·refine W.skip <| QN.block <| QN.then_ <| W.region <| mv rfl rfl ?_
     obtain ⟨c220, h⟩ := ite_n h
     refine pk rfl 26 rfl (q_addR rfl c220) <| av rfl rfl <| WL.nil ?_
     exact next0 () x8' x9' (x10 + 1) _ h (.o4 rfl (.o2 rfl (.nil _)))
   ·refine W.condP h rfl (fun hb221 h => ?_) (fun hb221 h => ?_)
    ·refine sr <| mv rfl rfl <| mv rfl rfl ?_
     obtain ⟨c222, h⟩ := ite_n h
     refine WL.q (Wanted.plain rfl) rfl rfl (.s 59 rfl (.s 60 rfl .nil)) (q_indexO rfl el111 (j := 1) rfl c222.1 c222.2) <| WL.w0 [1] rfl (Wanted.plain rfl) rfl (.s 61 rfl (.k .nil)) (w_storeEl (kd := kBool) (z := true) rfl sh4 (CellsOf.one rfl) rfl rfl rfl c222.1 c222.2 rfl rfl) ?_
     rintro _ _ ⟨rfl, rfl⟩
     refine nt <| W.region <| mv rfl rfl <| mv rfl rfl <| mv rfl rfl <| fd rfl rfl fo113_2 rfl <| fd rfl rfl fo23_1 rfl <| ld rfl rfl sh3 ?_
     obtain ⟨c223, h⟩ := ite_n h
     refine p2 rfl 64 rfl 67 rfl (q_subR rfl c223) ?_
     obtain ⟨c224, h⟩ := ite_n h
     refine WL.q (Wanted.plain rfl) rfl rfl (.s 62 rfl (.s 63 rfl .nil)) (q_indexO rfl el26 (j := 1) rfl c224.1 c224.2) <| WL.w0 [1] rfl (Wanted.plain rfl) rfl (.s 69 rfl (.s 68 rfl .nil)) (w_storeEl (kd := kInt) (z := ((rd (rd a1.fValues (rd a2.fNodes ((rd a0.fSlots x10).fNode))) ((rd a0.fSlots x10).fAttr)) - (rd a0.fSlots x10).fTerm.fAdd)) rfl sh3 (CellsOf.one rfl) rfl rfl rfl c224.1 c224.2 rfl rfl) ?_
     rintro _ _ ⟨rfl, rfl⟩
     refine WL.nil ?_
     exact QN.weaken (.o4 rfl (.o4 rfl (.nil _))) (Kj217 () (x8.set ((rd a0.fSlots x10).fTerm.fVar : Int).toNat ((rd (rd a1.fValues (rd a2.fNodes ((rd a0.fSlots x10).fNode))) ((rd a0.fSlots x10).fAttr)) - (rd a0.fSlots x10).fTerm.fAdd)) (x9.set ((rd a0.fSlots x10).fTerm.fVar : Int).toNat true) h)
    ·refine W.skip ?_
     exact QN.weaken (.o4 rfl (.o4 rfl (.nil _))) (Kj217 () x8 x9 h)
  ·refine W.region <| mv rfl rfl <| pk rfl 50 rfl (q_int rfl rfl) <| mv rfl rfl ?_
   rcases bif_s h with ⟨hb225, h⟩ | ⟨hb225, h⟩
   ·refine wm rfl rfl rfl hb225 rfl rfl <| wm rfl rfl rfl hb225 rfl rfl ?_
    obtain ⟨c226, h⟩ := ite_n h
    refine wq rfl rfl rfl hb225 (.s 53 rfl (.s 54 rfl .nil)) (q_indexO rfl el111 (j := 1) rfl c226.1 c226.2) <| wq rfl rfl rfl hb225 (.s 55 rfl .nil) (q_loadEl rfl sh4 (j := 1) rfl rfl c226.1 c226.2 rfl) <| wq rfl rfl rfl hb225 (.s 56 rfl .nil) (q_not rfl).o <| p2 rfl 52 rfl 57 rfl (q_pickT rfl hb225) <| WL.nil ?_
    exact QN.weaken (.o4 rfl (.o4 rfl (.o2 rfl (.nil _)))) (Kj211 () (!(rd x9 ((rd a0.fSlots x10).fTerm.fVar))) h)
   ·refine sk rfl rfl rfl hb225 <| sk rfl rfl rfl hb225 <| sk rfl rfl rfl hb225 <| sk rfl rfl rfl hb225 <| sk rfl rfl rfl hb225 <| pk rfl 52 rfl (q_pickF rfl hb225) <| WL.nil ?_
    exact QN.weaken (.o4 rfl (.o4 rfl (.o2 rfl (.nil _)))) (Kj211 () false h)
 ·refine W.exit <| QX.then_ <| QX.then_ <| QX.here <| QN.weaken (env' := [(8, _), (3, _)]) (.o2 rfl (.nil _)) <| QN.then_ <| W.seq <| sr <| ak rfl <| nt <| W.block ?_
  refine W.drop [1] rfl ?_
  refine W.loop1 (Γ := Unit) (fun (_ : Unit) (x14 : Int) => [(3, PtrA [SlcA kInt a0.fGraph.fNodes, SlcA kEdge a0.fGraph.fEdges, SlcA kSlot a0.fSlots, iA a0.fVars, SlcA kTest a0.fTests]), (8, HdA v101), (14, iA x14)]) (fun (_ : Unit) (_ : Int) => [SlE 3 v101 kInt x8]) h () (.o2 rfl (.one rfl (.nil _))) rfl (fun rec1 K1 next1 _ x14 h => ?_)
  unfold ref21_Values.b1 at h
  refine W.seq <| sr <| mv rfl rfl <| fd rfl rfl fo42_3 rfl <| ld rfl rfl sh40 <| p1 rfl 78 rfl (q_len rfl elS40) <| p2 rfl 76 rfl 79 rfl (q_int rfl rfl) <| nt ?_
  refine W.condP h rfl (fun hb237 h => ?_) (fun hb237 h => ?_)
  ·refine W.skip <| QN.then_ <| W.seq <| W.block <| sr <| fd rfl rfl fo42_3 rfl <| ld rfl rfl sh40 <| mv rfl rfl ?_
   obtain ⟨c238, h⟩ := ite_n h
   refine p2 rfl 84 rfl 85 rfl (q_index rfl el40 rfl c238.1 c238.2) <| lS rfl rfl sh86 rfl rfl <| mv rfl rfl ?_
   obtain ⟨t239, ht239, h⟩ := bind_s h
   refine WL.q (Wanted.plain rfl) rfl rfl (.s 87 rfl (.s 88 rfl .nil)) (q_lend (f := 124) (A := bA t239) (xs := [.tmp 87, .tmp 88]) («as» := [AggA [iA ((rd a0.fTests x14).fKind), iA ((rd a0.fTests x14).fLeft.fVar), iA ((rd a0.fTests x14).fLeft.fAdd), iA ((rd a0.fTests x14).fRight.fVar), iA ((rd a0.fTests x14).fRight.fAdd)], HdA v101]) rfl ca124 (ref03_Holds.con k (rd a0.fTests x14) x8 t239 ht239) rfl (.cons (.id _) (.cons (.slc 0 rfl) .nil)) (Flat.eq _)) <| p1 rfl 89 rfl (q_not rfl) <| WL.nil <| QN.weaken (env' := [(90, _), (14, _), (8, _), (3, _)]) (.o4 rfl (.nil _)) <| QN.then_ ?_
   refine W.condP h rfl (fun hb240 h => ?_) (fun hb240 h => ?_)
   ·refine sr <| ak rfl <| ak rfl <| nt <| W.ret <| QR.block <| QR.then_ <| QR.then_ <| QR.block <| QR.then_ ?_
    cases h
    exact QR.f2 rfl rfl (.t rfl) (.t rfl) (.imp (Imp.tup (.cons (Imp.nil kInt) (.cons (Imp.id _) .nil))))
   ·refine W.skip <| QN.block <| QN.then_ <| W.region <| mv rfl rfl ?_
    obtain ⟨c241, h⟩ := ite_n h
    refine pk rfl 81 rfl (q_addR rfl c241) <| av rfl rfl <| WL.nil ?_
    exact next1 () (x14 + 1) _ h (.o2 rfl (.one rfl (.nil _)))
  ·refine W.exit <| QX.then_ <| QX.then_ <| QX.here <| QN.weaken (env' := [(8, _)]) (.one rfl (.nil _)) <| QN.then_ <| sr <| mv rfl rfl <| av rfl rfl <| ak rfl <| nt ?_
   refine W.ret ?_
   cases h
   exact QR.f2 rfl rfl (.t rfl) (.t rfl) (.tup (.cons (.slc 0 rfl) (.cons (.id _) .nil)))
theorem ref21_Solve.con (k : Nat) (a0 : Types) (a1 : Pattern) (a2 : Host) (a3 : Morphism) (r : ((List Int) × Int)) (h : ref21_Solve k a0 a1 a2 a3 = some r) : Con Tryz.prog 27 [] [AggA [SlcA kNodeType a0.fNodes, SlcA kEdgeType a0.fEdges], AggA [SlcA kInt a1.fGraph.fNodes, SlcA kEdge a1.fGraph.fEdges, SlcA kSlot a1.fSlots, iA a1.fVars, SlcA kTest a1.fTests], AggA [SlcA kInt a2.fGraph.fNodes, SlcA kEdge a2.fGraph.fEdges, SlcA (kSl kInt) a2.fValues], AggA [SlcA kInt a3.fNodes, SlcA kInt a3.fEdges]] (RA (TupA [SlcA kInt r.1, iA r.2])) := by
 unfold ref21_Solve at h
 refine Con.of (N := 35) Tryz.func27 rfl rfl rfl fun w0_ fg_ => sr <| p1 rfl 0 rfl (q_box rfl (CellsOf.agg _)) <| p1 rfl 1 rfl (q_box rfl (CellsOf.agg _)) <| p1 rfl 2 rfl (q_box rfl (CellsOf.agg _)) <| p1 rfl 3 rfl (q_box rfl (CellsOf.agg _)) <| ak rfl <| ak rfl <| nt <| W.seq <| W.seq ?_
 refine W.region <| lS rfl rfl sh35 rfl rfl <| lS rfl rfl sh42 rfl rfl <| lS rfl rfl sh60 rfl rfl ?_
 obtain ⟨t100, ht100, h⟩ := bind_s h
 refine WL.p rfl rfl rfl (.s 12 rfl (.s 13 rfl (.s 14 rfl .nil))) (q_call (f := 75) (A := iA t100) (xs := [.tmp 12, .tmp 13, .tmp 14]) («as» := [AggA [SlcA kNodeType a0.fNodes, SlcA kEdgeType a0.fEdges], AggA [SlcA kInt a1.fGraph.fNodes, SlcA kEdge a1.fGraph.fEdges, SlcA kSlot a1.fSlots, iA a1.fVars, SlcA kTest a1.fTests], AggA [SlcA kInt a2.fGraph.fNodes, SlcA kEdge a2.fGraph.fEdges, SlcA (kSl kInt) a2.fValues]]) rfl ca75 (ref21_given.con k a0 a1 a2 t100 ht100) rfl) <| av rfl rfl <| WL.nil <| QN.weaken (env' := [(10, _), (7, _), (6, _), (5, _), (4, _)]) (.o4 rfl (.one rfl (.nil _))) <| QN.then_ <| sr <| mv rfl rfl <| pk rfl 16 rfl (q_int rfl rfl) <| nt ?_
 refine W.condP h rfl (fun hb101 h => ?_) (fun hb101 h => ?_)
 ·refine sr <| mv rfl rfl <| ak rfl <| av rfl rfl <| WL.nil <| QN.weaken (env' := [(9, _), (8, _)]) (.o2 rfl (.nil _)) <| QN.then_ <| W.ret <| QR.then_ ?_
  cases h
  exact QR.f2 rfl rfl (.t rfl) (.t rfl) (.imp (Imp.tup (.cons (Imp.nil kInt) (.cons (Imp.id _) .nil))))
 ·refine W.skip <| QN.then_ <| W.seq <| sr <| lS rfl rfl sh35 rfl rfl <| fd rfl rfl fo42_0 rfl <| lS rfl rfl sh38 rfl rfl <| fd rfl rfl fo60_0 rfl <| lS rfl rfl sh38 rfl rfl <| lS rfl rfl sh64 rfl rfl ?_
  obtain ⟨t102, ht102, h⟩ := bind_s h
  refine WL.p rfl rfl rfl (.s 19 rfl (.s 21 rfl (.s 23 rfl (.s 24 rfl (.k .nil))))) (q_call (f := 76) (A := iA t102) (xs := [.tmp 19, .tmp 21, .tmp 23, .tmp 24, .const (.bool false)]) («as» := [AggA [SlcA kNodeType a0.fNodes, SlcA kEdgeType a0.fEdges], AggA [SlcA kInt a1.fGraph.fNodes, SlcA kEdge a1.fGraph.fEdges], AggA [SlcA kInt a2.fGraph.fNodes, SlcA kEdge a2.fGraph.fEdges], AggA [SlcA kInt a3.fNodes, SlcA kInt a3.fEdges], bA false]) rfl ca76 (ref17_Check.con k a0 a1.fGraph a2.fGraph a3 false t102 ht102) rfl) <| av rfl rfl <| WL.nil <| QN.weaken (env' := [(11, _), (7, _), (6, _), (5, _)]) (.o4 rfl (.nil _)) <| QN.then_ <| sr <| mv rfl rfl <| pk rfl 26 rfl (q_int rfl rfl) <| nt ?_
  refine W.condP h rfl (fun hb103 h => ?_) (fun hb103 h => ?_)
  ·refine sr <| mv rfl rfl <| ak rfl <| av rfl rfl <| WL.nil <| QN.weaken (env' := [(9, _), (8, _)]) (.o2 rfl (.nil _)) <| QN.then_ <| W.ret <| QR.then_ ?_
   cases h
   exact QR.f2 rfl rfl (.t rfl) (.t rfl) (.imp (Imp.tup (.cons (Imp.nil kInt) (.cons (Imp.id _) .nil))))
  ·refine W.skip <| QN.then_ <| sr <| lS rfl rfl sh42 rfl rfl <| lS rfl rfl sh60 rfl rfl <| lS rfl rfl sh64 rfl rfl ?_
   obtain ⟨t104, ht104, h⟩ := bind_s h
   refine WL.p rfl rfl rfl (.s 29 rfl (.s 30 rfl (.s 31 rfl .nil))) (q_call (f := 77) (A := TupA [SlcA kInt t104.1, iA t104.2]) (xs := [.tmp 29, .tmp 30, .tmp 31]) («as» := [AggA [SlcA kInt a1.fGraph.fNodes, SlcA kEdge a1.fGraph.fEdges, SlcA kSlot a1.fSlots, iA a1.fVars, SlcA kTest a1.fTests], AggA [SlcA kInt a2.fGraph.fNodes, SlcA kEdge a2.fGraph.fEdges, SlcA (kSl kInt) a2.fValues], AggA [SlcA kInt a3.fNodes, SlcA kInt a3.fEdges]]) rfl ca77 (ref21_Values.con k a1 a2 a3 t104 ht104) rfl) <| p1 rfl 32 rfl (q_extract rfl rfl) <| p1 rfl 32 rfl (q_extract rfl rfl) <| av rfl rfl <| av rfl rfl <| WL.nil <| QN.weaken (env' := [(9, _), (8, _)]) (.o2 rfl (.nil _)) <| QN.then_ <| W.ret ?_
   cases h
   exact QR.f2 rfl rfl (.t rfl) (.t rfl) (.id _)
theorem slices_Equal_int.con (k : Nat) (a0 : (List Int)) (a1 : (List Int)) (r : Bool) (h : slices_Equal_int k a0 a1 = some r) : Con Tryz.prog 28 [] [SlcA kInt a0, SlcA kInt a1] (RA (bA r)) := by
 unfold slices_Equal_int at h
 refine Con.of (N := 26) Tryz.func28 rfl rfl rfl fun w0_ fg_ => sr <| ak rfl <| nt <| W.seq <| sr <| mv rfl rfl <| p1 rfl 6 rfl (q_len rfl elS26) <| mv rfl rfl <| p1 rfl 8 rfl (q_len rfl elS26) ?_
 refine p2 rfl 7 rfl 9 rfl (q_int rfl rfl) <| nt ?_
 refine W.condP h rfl (fun hb100 h => ?_) (fun hb100 h => ?_)
 ·refine sr <| ak rfl <| WL.nil <| QN.weaken (env' := [(4, _)]) (.one rfl (.nil _)) <| QN.then_ <| W.ret <| QR.then_ ?_
  cases h
  exact QR.f1 rfl rfl (.t rfl) (.id _)
 ·refine W.skip <| QN.then_ <| W.seq <| sr <| mv rfl rfl <| p1 rfl 11 rfl (q_len rfl elS26) <| mk_ rfl <| WL.nil <| QN.weaken (env' := [(13, _), (12, _), (1, _), (0, _)]) (.o4 rfl (.nil _)) <| QN.then_ <| W.block ?_
  refine W.loop1 (Γ := Unit) (fun (_ : Unit) (x13 : Int) => [(0, SlcA kInt a0), (1, SlcA kInt a1), (12, iA (a0.length : Int)), (13, iA x13)]) (fun (_ : Unit) (_ : Int) => []) h () (.o4 rfl (.nil _)) rfl (fun rec0 K0 next0 _ x13 h => ?_)
  unfold slices_Equal_int.b0 at h
  refine sr <| p2 rfl 13 rfl 12 rfl (q_int rfl rfl) <| nt <| W.seq ?_
  refine W.condP h rfl (fun hb119 h => ?_) (fun hb119 h => ?_)
  ·refine W.skip <| QN.then_ <| W.seq <| W.block <| sr <| mv rfl rfl <| av rfl rfl <| nt <| W.seq <| W.drawK [(0, false), (1, false), (2, false), (3, false), (4, false), (5, false), (6, false), (7, false), (8, false)] [] (bm [0, 0, 3, 7, 0, 0, 48, 112, 255]) mx (by kernel_rfl) <| dm rfl rfl rfl ?_
   refine dm rfl rfl rfl ?_
   obtain ⟨c124, h⟩ := ite_n h
   refine DK.cons rfl rfl (.p rfl (.s 16 rfl (.s 17 rfl .nil)) rfl (q_index rfl el26 rfl c124.1 c124.2)) <| dl rfl rfl rfl sh3 <| dm rfl rfl rfl <| dm rfl rfl rfl ?_
   obtain ⟨c125, h⟩ := ite_n h
   refine DK.cons rfl rfl (.p rfl (.s 20 rfl (.s 21 rfl .nil)) rfl (q_index rfl el26 rfl c125.1 c125.2)) <| dl rfl rfl rfl sh3 <| DK.cons rfl rfl (.p rfl (.s 19 rfl (.s 23 rfl .nil)) rfl (q_int rfl rfl)) <| DK.nil <| CSteps.nil <| QN.weaken (env' := [(24, _), (13, _), (12, _), (1, _), (0, _)]) (.o4 rfl (.one rfl (.nil _))) <| QN.then_ ?_
   refine W.condP h rfl (fun hb126 h => ?_) (fun hb126 h => ?_)
   ·refine sr <| ak rfl <| nt <| W.ret <| QR.block <| QR.then_ <| QR.then_ <| QR.block <| QR.then_ ?_
    cases h
    exact QR.f1 rfl rfl (.t rfl) (.id _)
   ·refine W.skip <| QN.block <| QN.then_ <| W.region ?_
    obtain ⟨c127, h⟩ := ite_n h
    refine pk rfl 13 rfl (q_addR rfl c127) <| mv rfl rfl <| WL.nil ?_
    exact next0 () (x13 + 1) _ h (.o4 rfl (.nil _))
  ·refine W.exit <| QX.then_ <| QX.then_ <| QX.here <| QN.then_ <| sr <| ak rfl <| nt <| W.ret ?_
   cases h
   exact QR.f1 rfl rfl (.t rfl) (.id _)
end Go.Proofs.YtcgdfjpeboiioaaGreat
