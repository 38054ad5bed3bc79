/- The Go functions compute the pure ones. (Printed by gen.py.) -/
import Derived.Test.YtcgdfjpeboiioaaGreatC11
namespace Go.Proofs.YtcgdfjpeboiioaaGreat
open Go Go.Abs
attribute [local irreducible] Tryz.prog
theorem law21_AttributeSolve.con (k : Nat) (a0 : Case) (a1 : Morphism) (r : Bool) (h : law21_AttributeSolve k a0 a1 = some r) : Con Tryz.prog 6 [] [AggA [SlcA kNodeType a0.fT.fNodes, SlcA kEdgeType a0.fT.fEdges, SlcA kInt a0.fP.fGraph.fNodes, SlcA kEdge a0.fP.fGraph.fEdges, SlcA kSlot a0.fP.fSlots, iA a0.fP.fVars, SlcA kTest a0.fP.fTests, SlcA kInt a0.fH.fGraph.fNodes, SlcA kEdge a0.fH.fGraph.fEdges, SlcA (kSl kInt) a0.fH.fValues], AggA [SlcA kInt a1.fNodes, SlcA kInt a1.fEdges]] (RA (bA r)) := by
 unfold law21_AttributeSolve at h
 refine Con.of (N := 66) Tryz.func6 rfl rfl rfl fun w0_ fg_ => sr <| p1 rfl 0 rfl (q_box rfl (CellsOf.agg _)) <| p1 rfl 1 rfl (q_box rfl (CellsOf.agg _)) <| ak rfl <| nt <| W.seq <| W.seq ?_
 refine W.jn1 (Γ := Unit) (fun (_ : Unit) (x32 : Bool) => [(2, PtrA [SlcA kNodeType a0.fT.fNodes, SlcA kEdgeType a0.fT.fEdges, SlcA kInt a0.fP.fGraph.fNodes, SlcA kEdge a0.fP.fGraph.fEdges, SlcA kSlot a0.fP.fSlots, iA a0.fP.fVars, SlcA kTest a0.fP.fTests, SlcA kInt a0.fH.fGraph.fNodes, SlcA kEdge a0.fH.fGraph.fEdges, SlcA (kSl kInt) a0.fH.fValues]), (3, PtrA [SlcA kInt a1.fNodes, SlcA kInt a1.fEdges]), (32, bA x32)]) (fun (_ : Unit) (_ : Bool) => []) h (fun _ x32 h => ?_) (fun j106 Kj106 h => ?_)
 ·refine QN.then_ ?_
  refine W.condP h rfl (fun hb107 h => ?_) (fun hb107 h => ?_)
  ·refine sr ?_
   obtain ⟨t108, ht108, h⟩ := bind_s h
   refine WL.p rfl rfl rfl .nil (q_call (f := 9) (A := bA t108) (xs := []) («as» := []) rfl ca9 (law21_awake.con k  t108 ht108) rfl) <| av rfl rfl <| nt <| W.ret <| QR.then_ ?_
   cases h
   exact QR.f1 rfl rfl (.t rfl) (.id _)
  ·refine W.skip <| QN.then_ <| W.seq <| W.drawK [(0, false), (1, false), (2, false), (3, false), (4, false), (5, false), (6, false), (7, false), (8, false), (9, false), (10, false), (11, false), (12, false), (13, false), (14, false)] [] (bm [0, 1, 0, 4, 12, 0, 32, 124, 0, 511, 1023, 2047, 2047, 4095, 16383]) mx (by kernel_rfl) <| df rfl rfl rfl fo62_0 rfl <| DK.cons rfl rfl (.p rfl (.s 35 rfl .nil) rfl (q_loadS rfl sh35 (leB rfl) rfl)) <| df rfl rfl rfl fo62_1 rfl <| DK.cons rfl rfl (.p rfl (.s 37 rfl .nil) rfl (q_loadS rfl sh42 (leB rfl) rfl)) ?_
   obtain ⟨t115, ht115, h⟩ := bind_s h
   refine DK.cons rfl rfl (.p rfl (.s 38 rfl .nil) rfl (q_call (f := 16) (A := AggA [SlcA kInt t115.fGraph.fNodes, SlcA kEdge t115.fGraph.fEdges, SlcA kSlot t115.fSlots, iA t115.fVars, SlcA kTest t115.fTests]) (xs := [.tmp 38]) («as» := [AggA [SlcA kInt a0.fP.fGraph.fNodes, SlcA kEdge a0.fP.fGraph.fEdges, SlcA kSlot a0.fP.fSlots, iA a0.fP.fVars, SlcA kTest a0.fP.fTests]]) rfl ca16 (ref21_Copied.con k a0.fP t115 ht115) rfl)) <| df rfl rfl rfl fo62_2 rfl <| DK.cons rfl rfl (.p rfl (.s 40 rfl .nil) rfl (q_loadS rfl sh60 (leB rfl) rfl)) ?_
   obtain ⟨t116, ht116, h⟩ := bind_s h
   refine DK.cons rfl rfl (.p rfl (.s 41 rfl .nil) rfl (q_call (f := 26) (A := AggA [SlcA kInt t116.fGraph.fNodes, SlcA kEdge t116.fGraph.fEdges, SlcA (kSl kInt) t116.fValues]) (xs := [.tmp 41]) («as» := [AggA [SlcA kInt a0.fH.fGraph.fNodes, SlcA kEdge a0.fH.fGraph.fEdges, SlcA (kSl kInt) a0.fH.fValues]]) rfl ca26 (ref15_Copied.con k a0.fH t116 ht116) rfl)) <| DK.cons rfl rfl (.p rfl (.s 3 rfl .nil) rfl (q_loadS rfl sh64 (leB rfl) rfl)) ?_
   obtain ⟨t117, ht117, h⟩ := bind_s h
   refine DK.cons rfl rfl (.p rfl (.s 36 rfl (.s 39 rfl (.s 42 rfl (.s 43 rfl .nil)))) rfl (q_call (f := 25) (A := TupA [SlcA kInt t117.1, iA t117.2]) (xs := [.tmp 36, .tmp 39, .tmp 42, .tmp 43]) («as» := [AggA [SlcA kNodeType a0.fT.fNodes, SlcA kEdgeType a0.fT.fEdges], AggA [SlcA kInt t115.fGraph.fNodes, SlcA kEdge t115.fGraph.fEdges, SlcA kSlot t115.fSlots, iA t115.fVars, SlcA kTest t115.fTests], AggA [SlcA kInt t116.fGraph.fNodes, SlcA kEdge t116.fGraph.fEdges, SlcA (kSl kInt) t116.fValues], AggA [SlcA kInt a1.fNodes, SlcA kInt a1.fEdges]]) rfl ca25 (attribute_Solve.con k a0.fT t115 t116 a1 t117 ht117) rfl)) <| dm rfl rfl rfl <| DK.cons rfl rfl (.p rfl (.s 34 rfl .nil) rfl (q_extract rfl rfl)) <| DK.cons rfl rfl (.p rfl (.s 34 rfl .nil) rfl (q_extract rfl rfl)) <| DK.cons rfl rfl (.p rfl (.s 45 rfl .nil) rfl (q_assign rfl)) <| DK.cons rfl rfl (.p rfl (.s 46 rfl .nil) rfl (q_assign rfl)) <| DK.nil <| CSteps.nil <| QN.weaken (env' := [(6, _), (5, _), (3, _), (2, _)]) (.o4 rfl (.nil _)) <| QN.then_ <| sr <| fd rfl rfl fo62_0 rfl ?_
   refine lS rfl rfl sh35 rfl rfl <| fd rfl rfl fo62_1 rfl <| lS rfl rfl sh42 rfl rfl <| fd rfl rfl fo62_2 rfl <| lS rfl rfl sh60 rfl rfl <| lS rfl rfl sh64 rfl rfl ?_
   obtain ⟨t118, ht118, h⟩ := bind_s h
   refine WL.p rfl rfl rfl (.s 49 rfl (.s 51 rfl (.s 53 rfl (.s 54 rfl .nil)))) (q_call (f := 27) (A := TupA [SlcA kInt t118.1, iA t118.2]) (xs := [.tmp 49, .tmp 51, .tmp 53, .tmp 54]) («as» := [AggA [SlcA kNodeType a0.fT.fNodes, SlcA kEdgeType a0.fT.fEdges], AggA [SlcA kInt a0.fP.fGraph.fNodes, SlcA kEdge a0.fP.fGraph.fEdges, SlcA kSlot a0.fP.fSlots, iA a0.fP.fVars, SlcA kTest a0.fP.fTests], AggA [SlcA kInt a0.fH.fGraph.fNodes, SlcA kEdge a0.fH.fGraph.fEdges, SlcA (kSl kInt) a0.fH.fValues], AggA [SlcA kInt a1.fNodes, SlcA kInt a1.fEdges]]) rfl ca27 (ref21_Solve.con k a0.fT a0.fP a0.fH a1 t118 ht118) rfl) <| mv rfl rfl <| p1 rfl 47 rfl (q_extract rfl rfl) <| p1 rfl 47 rfl (q_extract rfl rfl) <| av rfl rfl <| av rfl rfl <| WL.nil <| QN.weaken (env' := [(8, _), (7, _), (6, _), (5, _)]) (.o4 rfl (.nil _)) <| QN.then_ <| W.seq ?_
   refine W.jn1 (Γ := Unit) (fun (_ : Unit) (x4 : Bool) => [(4, bA x4)]) (fun (_ : Unit) (_ : Bool) => []) h (fun _ x4 h => ?_) (fun j122 Kj122 h => ?_)
   ·refine QN.then_ <| W.ret ?_
    cases h
    exact QR.f1 rfl rfl (.t rfl) (.id _)
   ·refine W.region <| mv rfl rfl <| mv rfl rfl <| p2 rfl 58 rfl 59 rfl (q_int rfl rfl) <| mv rfl rfl ?_
    rcases bif_s h with ⟨hb123, h⟩ | ⟨hb123, h⟩
    ·refine wm rfl rfl rfl hb123 rfl rfl <| wm rfl rfl rfl hb123 rfl rfl ?_
     obtain ⟨t124, ht124, h⟩ := bind_s h
     refine wq rfl rfl rfl hb123 (.s 62 rfl (.s 63 rfl .nil)) (q_call (f := 28) (A := bA t124) (xs := [.tmp 62, .tmp 63]) («as» := [SlcA kInt t117.1, SlcA kInt t118.1]) rfl ca28 (slices_Equal_int.con k t117.1 t118.1 t124 ht124) rfl).o <| p2 rfl 61 rfl 64 rfl (q_pickT rfl hb123) <| av rfl rfl <| WL.nil ?_
     exact QN.weaken (.one rfl (.nil _)) (Kj122 () t124 h)
    ·refine sk rfl rfl rfl hb123 <| sk rfl rfl rfl hb123 <| sk rfl rfl rfl hb123 <| pk rfl 61 rfl (q_pickF rfl hb123) <| av rfl rfl <| WL.nil ?_
     exact QN.weaken (.one rfl (.nil _)) (Kj122 () false h)
 ·refine W.region ?_
  obtain ⟨t125, ht125, h⟩ := bind_s h
  refine WL.p rfl rfl rfl .nil (q_call (f := 9) (A := bA t125) (xs := []) («as» := []) rfl ca9 (law21_awake.con k  t125 ht125) rfl) <| p1 rfl 9 rfl (q_not rfl) <| mv rfl rfl ?_
  rcases bif_s h with ⟨hb126, h⟩ | ⟨hb126, h⟩
  ·refine sk rfl rfl rfl hb126 <| sk rfl rfl rfl hb126 <| sk rfl rfl rfl hb126 <| sk rfl rfl rfl hb126 <| sk rfl rfl rfl hb126 <| sk rfl rfl rfl hb126 <| sk rfl rfl rfl hb126 <| sk rfl rfl rfl hb126 <| pk rfl 11 rfl (q_pickT rfl hb126) <| mv rfl rfl <| sk rfl rfl rfl rfl <| sk rfl rfl rfl rfl <| sk rfl rfl rfl rfl ?_
   refine sk rfl rfl rfl rfl <| pk rfl 21 rfl (q_pickT rfl rfl) <| mv rfl rfl <| sk rfl rfl rfl rfl <| sk rfl rfl rfl rfl <| sk rfl rfl rfl rfl <| sk rfl rfl rfl rfl <| pk rfl 27 rfl (q_pickT rfl rfl) <| WL.nil ?_
   exact QN.weaken (.o2 rfl (.one rfl (.nil _))) (Kj106 () true h)
  ·refine wf rfl rfl rfl hb126 rfl rfl fo62_0 rfl <| wq rfl rfl rfl hb126 (.s 12 rfl .nil) (q_loadS rfl sh35 (leB rfl) rfl).o <| wf rfl rfl rfl hb126 rfl rfl fo62_1 rfl <| wq rfl rfl rfl hb126 (.s 14 rfl .nil) (q_loadS rfl sh42 (leB rfl) rfl).o <| wf rfl rfl rfl hb126 rfl rfl fo62_2 rfl <| wq rfl rfl rfl hb126 (.s 16 rfl .nil) (q_loadS rfl sh60 (leB rfl) rfl).o ?_
   obtain ⟨t127, ht127, h⟩ := bind_s h
   refine wq rfl rfl rfl hb126 (.s 13 rfl (.s 15 rfl (.s 17 rfl .nil))) (q_call (f := 24) (A := bA t127) (xs := [.tmp 13, .tmp 15, .tmp 17]) («as» := [AggA [SlcA kNodeType a0.fT.fNodes, SlcA kEdgeType a0.fT.fEdges], AggA [SlcA kInt a0.fP.fGraph.fNodes, SlcA kEdge a0.fP.fGraph.fEdges, SlcA kSlot a0.fP.fSlots, iA a0.fP.fVars, SlcA kTest a0.fP.fTests], AggA [SlcA kInt a0.fH.fGraph.fNodes, SlcA kEdge a0.fH.fGraph.fEdges, SlcA (kSl kInt) a0.fH.fValues]]) rfl ca24 (ref21_Light.con k a0.fT a0.fP a0.fH t127 ht127) rfl).o <| wq rfl rfl rfl hb126 (.s 18 rfl .nil) (q_not rfl).o <| p2 rfl 11 rfl 19 rfl (q_pickF rfl hb126) <| mv rfl rfl ?_
   rcases bif_s h with ⟨hb128, h⟩ | ⟨hb128, h⟩
   ·refine sk rfl rfl rfl hb128 <| sk rfl rfl rfl hb128 <| sk rfl rfl rfl hb128 <| sk rfl rfl rfl hb128 <| pk rfl 21 rfl (q_pickT rfl hb128) <| mv rfl rfl <| sk rfl rfl rfl rfl <| sk rfl rfl rfl rfl <| sk rfl rfl rfl rfl <| sk rfl rfl rfl rfl <| pk rfl 27 rfl (q_pickT rfl rfl) <| WL.nil ?_
    exact QN.weaken (.o2 rfl (.one rfl (.nil _))) (Kj106 () true h)
   ·refine wf rfl rfl rfl hb128 rfl rfl fo64_0 rfl <| wl rfl rfl rfl hb128 rfl rfl sh26 <| wq rfl rfl rfl hb128 (.s 23 rfl .nil) (q_len rfl elS26).o <| wq rfl rfl rfl hb128 (.s 24 rfl (.k .nil)) (q_int rfl rfl).o <| p2 rfl 21 rfl 25 rfl (q_pickF rfl hb128) <| mv rfl rfl ?_
    rcases bif_s h with ⟨hb129, h⟩ | ⟨hb129, h⟩
    ·refine sk rfl rfl rfl hb129 <| sk rfl rfl rfl hb129 <| sk rfl rfl rfl hb129 <| sk rfl rfl rfl hb129 <| pk rfl 27 rfl (q_pickT rfl hb129) <| WL.nil ?_
     exact QN.weaken (.o2 rfl (.one rfl (.nil _))) (Kj106 () true h)
    ·refine wf rfl rfl rfl hb129 rfl rfl fo64_1 rfl <| wl rfl rfl rfl hb129 rfl rfl sh26 <| wq rfl rfl rfl hb129 (.s 29 rfl .nil) (q_len rfl elS26).o <| wq rfl rfl rfl hb129 (.s 30 rfl (.k .nil)) (q_int rfl rfl).o <| p2 rfl 27 rfl 31 rfl (q_pickF rfl hb129) <| WL.nil ?_
     exact QN.weaken (.o2 rfl (.one rfl (.nil _))) (Kj106 () (decide ((a1.fEdges.length : Int) > 100)) h)
end Go.Proofs.YtcgdfjpeboiioaaGreat
