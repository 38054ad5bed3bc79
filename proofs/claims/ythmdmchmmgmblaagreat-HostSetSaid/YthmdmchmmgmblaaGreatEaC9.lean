/- The Go functions compute the pure ones. (Printed by gen.py.) -/
import Derived.Test.YthmdmchmmgmblaaGreatEaC8
namespace Go.Proofs.YthmdmchmmgmblaaGreat
open Go Go.Abs
attribute [local irreducible] Tryz.prog
theorem law15_HostSet.con (k : Nat) (a0 : Types) (a1 : Host) (a2 : Place) (r : Bool) (h : law15_HostSet k a0 a1 a2 = some r) : Con Tryz.prog 7 [] [AggA [SlcA kNodeType a0.fNodes, SlcA kEdgeType a0.fEdges], AggA [SlcA kInt a1.fGraph.fNodes, SlcA kEdge a1.fGraph.fEdges, SlcA (kSl kInt) a1.fValues], AggA [iA a2.fNode, iA a2.fAttr, iA a2.fValue]] (RA (bA r)) := by
 unfold law15_HostSet at h
 refine Con.of (N := 125) Tryz.func7 rfl rfl rfl fun w0_ fg_ => sr <| p1 rfl 0 rfl (q_box rfl (CellsOf.agg _)) <| p1 rfl 1 rfl (q_box rfl (CellsOf.agg _)) <| p1 rfl 2 rfl (q_box rfl (CellsOf.agg _)) <| ak rfl <| nt <| W.seq <| W.seq ?_
 refine W.jn1 (Γ := Unit) (fun (_ : Unit) (x25 : Bool) => [(3, PtrA [SlcA kNodeType a0.fNodes, SlcA kEdgeType a0.fEdges]), (4, PtrA [SlcA kInt a1.fGraph.fNodes, SlcA kEdge a1.fGraph.fEdges, SlcA (kSl kInt) a1.fValues]), (5, PtrA [iA a2.fNode, iA a2.fAttr, iA a2.fValue]), (25, bA x25)]) (fun (_ : Unit) (_ : Bool) => []) h (fun _ x25 h => ?_) (fun j104 Kj104 h => ?_)
 ·refine QN.then_ ?_
  refine W.condP h rfl (fun hb105 h => ?_) (fun hb105 h => ?_)
  ·refine sr ?_
   obtain ⟨t106, ht106, h⟩ := bind_s h
   refine WL.p rfl rfl rfl .nil (q_call (f := 11) (A := bA t106) (xs := []) («as» := []) rfl ca11 (law15_awake.con k  t106 ht106) rfl) <| av rfl rfl <| nt <| W.ret <| QR.then_ ?_
   cases h
   exact QR.f1 rfl rfl (.t rfl) (.id _)
  ·refine W.skip <| QN.then_ <| W.seq <| W.drawK [(0, false), (1, false), (2, false), (3, false), (4, false), (5, false), (6, false), (7, false), (8, false), (9, false), (10, false), (11, false), (12, false)] [13, 14, 15] (bm [0, 0, 2, 0, 8, 0, 32, 0, 128, 511, 1023, 2047, 2047, 0, 12287, 32767]) mx (by kernel_rfl) <| DK.cons rfl rfl (.p rfl (.s 3 rfl .nil) rfl (q_loadS rfl sh25 (leB rfl) rfl)) <| DK.cons rfl rfl (.p rfl (.s 4 rfl .nil) rfl (q_loadS rfl sh32 (leB rfl) rfl)) ?_
   obtain ⟨t113, ht113, h⟩ := bind_s h
   refine DK.cons rfl rfl (.p rfl (.s 29 rfl .nil) rfl (q_call (f := 14) (A := AggA [SlcA kInt t113.fGraph.fNodes, SlcA kEdge t113.fGraph.fEdges, SlcA (kSl kInt) t113.fValues]) (xs := [.tmp 29]) («as» := [AggA [SlcA kInt a1.fGraph.fNodes, SlcA kEdge a1.fGraph.fEdges, SlcA (kSl kInt) a1.fValues]]) rfl ca14 (Con.lend (ref15_Copied.con k a1 t113 ht113) (by rintro _ _ _ ⟨_, rfl, rfl⟩; exact .agg (.cons (.id _) (.cons (.id _) (.cons (.tab 0 rfl) .nil))))) rfl)) <| df rfl rfl rfl fo71_0 rfl <| dl rfl rfl rfl sh3 <| df rfl rfl rfl fo71_1 rfl <| dl rfl rfl rfl sh3 <| df rfl rfl rfl fo71_2 rfl <| dl rfl rfl rfl sh3 ?_
   obtain ⟨t114, ht114, h⟩ := bind_s h
   refine DK.cons rfl rfl (.p rfl (.s 28 rfl (.s 30 rfl (.s 32 rfl (.s 34 rfl (.s 36 rfl .nil))))) rfl (q_call (f := 30) (A := TupA [AggA [SlcA kInt t114.1.fGraph.fNodes, SlcA kEdge t114.1.fGraph.fEdges, SlcA (kSl kInt) t114.1.fValues], iA t114.2]) (xs := [.tmp 28, .tmp 30, .tmp 32, .tmp 34, .tmp 36]) («as» := [AggA [SlcA kNodeType a0.fNodes, SlcA kEdgeType a0.fEdges], AggA [SlcA kInt t113.fGraph.fNodes, SlcA kEdge t113.fGraph.fEdges, SlcA (kSl kInt) t113.fValues], iA a2.fNode, iA a2.fAttr, iA a2.fValue]) rfl ca30 (host_Set.con k a0 t113 a2.fNode a2.fAttr a2.fValue t114 ht114) rfl)) <| dm rfl rfl rfl <| DK.cons rfl rfl (.p rfl (.s 27 rfl .nil) rfl (q_extract rfl rfl)) <| DK.cons rfl rfl (.p rfl (.s 27 rfl .nil) rfl (q_extract rfl rfl)) <| DK.nil <| CSteps.w [] rfl rfl rfl rfl .nil rfl (w_alloc rfl z32 (l := [EqA (.slice none 0 0), EqA (.slice none 0 0), EqA (.slice none 0 0)]) rfl) ?_
   rintro _ _ ⟨b115, rfl, rfl⟩
   refine CSteps.w0 [0] rfl rfl rfl (.s 7 rfl (.s 38 rfl .nil)) rfl (w_store (L := [SlcA kInt t114.1.fGraph.fNodes, SlcA kEdge t114.1.fGraph.fEdges, SlcA (kSl kInt) t114.1.fValues]) rfl sh32 (CellsOf.agg _) rfl rfl (leB rfl) rfl) ?_
   rintro _ _ ⟨rfl, rfl⟩
   refine CSteps.p rfl rfl rfl (.s 39 rfl .nil) rfl (q_assign rfl) <| CSteps.nil <| QN.to (StTo.still [0] 7 rfl rfl) <| QN.weaken (env' := [(8, _), (7, _), (5, _), (4, _), (3, _)]) (.o4 rfl (.one rfl (.nil _))) <| QN.then_ <| sr <| lS rfl rfl sh25 rfl rfl <| lS rfl rfl sh32 rfl rfl <| fd rfl rfl fo71_0 rfl <| ld rfl rfl sh3 <| fd rfl rfl fo71_1 rfl <| ld rfl rfl sh3 ?_
   refine fd rfl rfl fo71_2 rfl <| ld rfl rfl sh3 ?_
   obtain ⟨t116, ht116, h⟩ := bind_s h
   refine WL.p rfl rfl rfl (.s 41 rfl (.s 42 rfl (.s 44 rfl (.s 46 rfl (.s 48 rfl .nil))))) (q_call (f := 31) (A := TupA [AggA [SlcA kInt t116.1.fGraph.fNodes, SlcA kEdge t116.1.fGraph.fEdges, SlcA (kSl kInt) t116.1.fValues], iA t116.2]) (xs := [.tmp 41, .tmp 42, .tmp 44, .tmp 46, .tmp 48]) («as» := [AggA [SlcA kNodeType a0.fNodes, SlcA kEdgeType a0.fEdges], AggA [SlcA kInt a1.fGraph.fNodes, SlcA kEdge a1.fGraph.fEdges, SlcA (kSl kInt) a1.fValues], iA a2.fNode, iA a2.fAttr, iA a2.fValue]) rfl ca31 (ref15_Set.con k a0 a1 a2.fNode a2.fAttr a2.fValue t116 ht116) rfl) <| mv rfl rfl <| p1 rfl 40 rfl (q_extract rfl rfl) <| p1 rfl 40 rfl (q_extract rfl rfl) <| WL.w [] rfl (Wanted.plain rfl) rfl rfl .nil (w_alloc rfl z32 (l := [EqA (.slice none 0 0), EqA (.slice none 0 0), EqA (.slice none 0 0)]) rfl) ?_
   rintro _ _ ⟨b117, rfl, rfl⟩
   refine WL.w0 [0] rfl (Wanted.plain rfl) rfl (.s 9 rfl (.s 50 rfl .nil)) (w_store (L := [SlcA kInt t116.1.fGraph.fNodes, SlcA kEdge t116.1.fGraph.fEdges, SlcA (kSl kInt) t116.1.fValues]) rfl sh32 (CellsOf.agg _) rfl rfl (leB rfl) rfl) ?_
   rintro _ _ ⟨rfl, rfl⟩
   refine av rfl rfl <| WL.nil <| QN.to (StTo.still [0] 9 rfl rfl) <| QN.weaken (env' := [(10, _), (9, _), (8, _), (7, _), (5, _), (4, _), (3, _)]) (.o4 rfl (.o2 rfl (.one rfl (.nil _)))) <| QN.then_ <| W.seq <| W.seq ?_
   refine W.jn1 (Γ := Unit) (fun (_ : Unit) (x64 : Bool) => [(3, PtrA [SlcA kNodeType a0.fNodes, SlcA kEdgeType a0.fEdges]), (4, PtrA [SlcA kInt a1.fGraph.fNodes, SlcA kEdge a1.fGraph.fEdges, SlcA (kSl kInt) a1.fValues]), (5, PtrA [iA a2.fNode, iA a2.fAttr, iA a2.fValue]), (7, PtrA [SlcA kInt t114.1.fGraph.fNodes, SlcA kEdge t114.1.fGraph.fEdges, SlcA (kSl kInt) t114.1.fValues]), (8, iA t114.2), (9, PtrA [SlcA kInt t116.1.fGraph.fNodes, SlcA kEdge t116.1.fGraph.fEdges, SlcA (kSl kInt) t116.1.fValues]), (10, iA t116.2), (64, bA x64)]) (fun (_ : Unit) (_ : Bool) => []) h (fun _ x64 h => ?_) (fun j122 Kj122 h => ?_)
   ·refine QN.then_ ?_
    refine W.condP h rfl (fun hb123 h => ?_) (fun hb123 h => ?_)
    ·refine W.seq ?_
     refine W.jn1 (Γ := Unit) (fun (_ : Unit) (x6 : Bool) => [(6, bA x6)]) (fun (_ : Unit) (_ : Bool) => []) h (fun _ x6 h => ?_) (fun j127 Kj127 h => ?_)
     ·refine QN.then_ <| W.ret <| QR.then_ ?_
      cases h
      exact QR.f1 rfl rfl (.t rfl) (.id _)
     ·refine W.region <| lS rfl rfl sh32 rfl rfl <| lS rfl rfl sh32 rfl rfl ?_
      obtain ⟨t128, ht128, h⟩ := bind_s h
      refine p2 rfl 65 rfl 66 rfl (q_call (f := 22) (A := bA t128) (xs := [.tmp 65, .tmp 66]) («as» := [AggA [SlcA kInt t114.1.fGraph.fNodes, SlcA kEdge t114.1.fGraph.fEdges, SlcA (kSl kInt) t114.1.fValues], AggA [SlcA kInt t116.1.fGraph.fNodes, SlcA kEdge t116.1.fGraph.fEdges, SlcA (kSl kInt) t116.1.fValues]]) rfl ca22 (ref15_Same.con k t114.1 t116.1 t128 ht128) rfl) <| mv rfl rfl ?_
      rcases bif_s h with ⟨hb129, h⟩ | ⟨hb129, h⟩
      ·refine wm rfl rfl rfl hb129 rfl rfl <| wm rfl rfl rfl hb129 rfl rfl <| wq rfl rfl rfl hb129 (.s 69 rfl (.s 70 rfl .nil)) (q_int rfl rfl).o <| p2 rfl 68 rfl 71 rfl (q_pickT rfl hb129) <| av rfl rfl <| WL.nil ?_
       exact QN.weaken (.one rfl (.nil _)) (Kj127 () (t114.2 == t116.2) h)
      ·refine sk rfl rfl rfl hb129 <| sk rfl rfl rfl hb129 <| sk rfl rfl rfl hb129 <| pk rfl 68 rfl (q_pickF rfl hb129) <| av rfl rfl <| WL.nil ?_
       exact QN.weaken (.one rfl (.nil _)) (Kj127 () false h)
    ·refine W.skip <| QN.then_ <| W.seq <| W.drawK [(0, false), (1, false), (2, false), (3, false), (4, false), (5, false), (6, false), (7, false), (8, false), (9, false), (10, false), (11, false), (12, false), (13, false), (14, false), (15, false), (16, false), (17, false), (18, false), (19, false)] [20, 21, 22] (bm [0, 0, 0, 4, 0, 16, 0, 64, 0, 256, 960, 1984, 0, 4096, 16320, 32704, 65535, 131071, 262143, 262143, 0, 1572863, 4194303]) mx (by kernel_rfl) <| DK.cons rfl rfl (.p rfl (.s 3 rfl .nil) rfl (q_loadS rfl sh25 (leB rfl) rfl)) <| DK.cons rfl rfl (.p rfl (.s 7 rfl .nil) rfl (q_loadS rfl sh32 (leB rfl) rfl)) <| df rfl rfl rfl fo71_0 rfl <| dl rfl rfl rfl sh3 <| df rfl rfl rfl fo71_1 rfl <| dl rfl rfl rfl sh3 <| df rfl rfl rfl fo32_1 rfl <| dl rfl rfl rfl sh30 <| df rfl rfl rfl fo71_0 rfl ?_
     refine dl rfl rfl rfl sh3 ?_
     obtain ⟨c138, h⟩ := ite_n h
     refine DK.cons rfl rfl (.p rfl (.s 81 rfl (.s 83 rfl .nil)) rfl (q_index rfl el30 rfl c138.1 c138.2)) <| dl rfl rfl rfl sh26 <| df rfl rfl rfl fo71_1 rfl <| dl rfl rfl rfl sh3 ?_
     obtain ⟨c139, h⟩ := ite_n h
     refine DK.cons rfl rfl (.p rfl (.s 85 rfl (.s 87 rfl .nil)) rfl (q_index rfl el26 rfl c139.1 c139.2)) <| dl rfl rfl rfl sh3 ?_
     obtain ⟨t140, ht140, h⟩ := bind_s h
     refine DK.cons rfl rfl (.p rfl (.s 74 rfl (.s 75 rfl (.s 77 rfl (.s 79 rfl (.s 89 rfl .nil))))) rfl (q_call (f := 30) (A := TupA [AggA [SlcA kInt t140.1.fGraph.fNodes, SlcA kEdge t140.1.fGraph.fEdges, SlcA (kSl kInt) t140.1.fValues], iA t140.2]) (xs := [.tmp 74, .tmp 75, .tmp 77, .tmp 79, .tmp 89]) («as» := [AggA [SlcA kNodeType a0.fNodes, SlcA kEdgeType a0.fEdges], AggA [SlcA kInt t114.1.fGraph.fNodes, SlcA kEdge t114.1.fGraph.fEdges, SlcA (kSl kInt) t114.1.fValues], iA a2.fNode, iA a2.fAttr, iA (rd (rd a1.fValues a2.fNode) a2.fAttr)]) rfl ca30 (host_Set.con k a0 t114.1 a2.fNode a2.fAttr (rd (rd a1.fValues a2.fNode) a2.fAttr) t140 ht140) rfl)) <| dm rfl rfl rfl <| DK.cons rfl rfl (.p rfl (.s 73 rfl .nil) rfl (q_extract rfl rfl)) <| DK.cons rfl rfl (.p rfl (.s 73 rfl .nil) rfl (q_extract rfl rfl)) <| DK.nil <| CSteps.w [] rfl rfl rfl rfl .nil rfl (w_alloc rfl z32 (l := [EqA (.slice none 0 0), EqA (.slice none 0 0), EqA (.slice none 0 0)]) rfl) ?_
     rintro _ _ ⟨b141, rfl, rfl⟩
     refine CSteps.w0 [0] rfl rfl rfl (.s 11 rfl (.s 91 rfl .nil)) rfl (w_store (L := [SlcA kInt t140.1.fGraph.fNodes, SlcA kEdge t140.1.fGraph.fEdges, SlcA (kSl kInt) t140.1.fValues]) rfl sh32 (CellsOf.agg _) rfl rfl (leB rfl) rfl) ?_
     rintro _ _ ⟨rfl, rfl⟩
     refine CSteps.p rfl rfl rfl (.s 92 rfl .nil) rfl (q_assign rfl) <| CSteps.nil <| QN.to (StTo.still [0] 11 rfl rfl) <| QN.weaken (env' := [(12, _), (11, _), (7, _), (4, _), (3, _)]) (.o4 rfl (.one rfl (.nil _))) <| QN.then_ <| sr <| lS rfl rfl sh25 rfl rfl <| lS rfl rfl sh32 rfl rfl ?_
     obtain ⟨t142, ht142, h⟩ := bind_s h
     refine p2 rfl 94 rfl 95 rfl (q_call (f := 16) (A := TupA [SlcA kExcess t142.1, iA t142.2]) (xs := [.tmp 94, .tmp 95]) («as» := [AggA [SlcA kNodeType a0.fNodes, SlcA kEdgeType a0.fEdges], AggA [SlcA kInt t114.1.fGraph.fNodes, SlcA kEdge t114.1.fGraph.fEdges, SlcA (kSl kInt) t114.1.fValues]]) rfl ca16 (host_Excesses.con k a0 t114.1 t142 ht142) rfl) <| mv rfl rfl <| p1 rfl 93 rfl (q_extract rfl rfl) <| p1 rfl 93 rfl (q_extract rfl rfl) <| av rfl rfl <| av rfl rfl <| WL.nil <| QN.weaken (env' := [(14, _), (13, _), (12, _), (11, _), (4, _), (3, _)]) (.o4 rfl (.o2 rfl (.nil _))) <| QN.then_ <| sr <| lS rfl rfl sh25 rfl rfl <| lS rfl rfl sh32 rfl rfl ?_
     obtain ⟨t143, ht143, h⟩ := bind_s h
     refine p2 rfl 100 rfl 101 rfl (q_call (f := 16) (A := TupA [SlcA kExcess t143.1, iA t143.2]) (xs := [.tmp 100, .tmp 101]) («as» := [AggA [SlcA kNodeType a0.fNodes, SlcA kEdgeType a0.fEdges], AggA [SlcA kInt a1.fGraph.fNodes, SlcA kEdge a1.fGraph.fEdges, SlcA (kSl kInt) a1.fValues]]) rfl ca16 (host_Excesses.con k a0 a1 t143 ht143) rfl) <| mv rfl rfl <| p1 rfl 99 rfl (q_extract rfl rfl) <| p1 rfl 99 rfl (q_extract rfl rfl) <| av rfl rfl <| av rfl rfl <| WL.nil <| QN.weaken (env' := [(16, _), (15, _), (14, _), (13, _), (12, _), (11, _), (4, _)]) (.o4 rfl (.o2 rfl (.one rfl (.nil _)))) <| QN.then_ <| W.seq ?_
     refine W.jn1 (Γ := Unit) (fun (_ : Unit) (x6 : Bool) => [(6, bA x6)]) (fun (_ : Unit) (_ : Bool) => []) h (fun _ x6 h => ?_) (fun j151 Kj151 h => ?_)
     ·refine QN.then_ <| W.ret ?_
      cases h
      exact QR.f1 rfl rfl (.t rfl) (.id _)
     ·refine W.region <| mv rfl rfl <| pk rfl 105 rfl (q_int rfl rfl) <| mv rfl rfl ?_
      rcases bif_s h with ⟨hb152, h⟩ | ⟨hb152, h⟩
      ·refine wm rfl rfl rfl hb152 rfl rfl <| wq rfl rfl rfl hb152 (.s 108 rfl (.k .nil)) (q_int rfl rfl).o <| p2 rfl 107 rfl 109 rfl (q_pickT rfl hb152) <| mv rfl rfl ?_
       rcases bif_s h with ⟨hb153, h⟩ | ⟨hb153, h⟩
       ·refine wm rfl rfl rfl hb153 rfl rfl <| wq rfl rfl rfl hb153 (.s 112 rfl (.k .nil)) (q_int rfl rfl).o <| p2 rfl 111 rfl 113 rfl (q_pickT rfl hb153) <| mv rfl rfl ?_
        rcases bif_s h with ⟨hb154, h⟩ | ⟨hb154, h⟩
        ·refine wq rfl rfl rfl hb154 (.s 11 rfl .nil) (q_loadS rfl sh32 (leB rfl) rfl).o <| wq rfl rfl rfl hb154 (.s 4 rfl .nil) (q_loadS rfl sh32 (leB rfl) rfl).o ?_
         obtain ⟨t155, ht155, h⟩ := bind_s h
         refine wq rfl rfl rfl hb154 (.s 116 rfl (.s 117 rfl .nil)) (q_call (f := 22) (A := bA t155) (xs := [.tmp 116, .tmp 117]) («as» := [AggA [SlcA kInt t140.1.fGraph.fNodes, SlcA kEdge t140.1.fGraph.fEdges, SlcA (kSl kInt) t140.1.fValues], AggA [SlcA kInt a1.fGraph.fNodes, SlcA kEdge a1.fGraph.fEdges, SlcA (kSl kInt) a1.fValues]]) rfl ca22 (ref15_Same.con k t140.1 a1 t155 ht155) rfl).o <| p2 rfl 115 rfl 118 rfl (q_pickT rfl hb154) <| mv rfl rfl ?_
         rcases bif_s h with ⟨hb156, h⟩ | ⟨hb156, h⟩
         ·refine wm rfl rfl rfl hb156 rfl rfl <| wm rfl rfl rfl hb156 rfl rfl ?_
          obtain ⟨t157, ht157, h⟩ := bind_s h
          refine wq rfl rfl rfl hb156 (.s 121 rfl (.s 122 rfl .nil)) (q_call (f := 18) (A := bA t157) (xs := [.tmp 121, .tmp 122]) («as» := [SlcA kExcess t142.1, SlcA kExcess t143.1]) rfl ca18 (slices_Equal_Excess.con k t142.1 t143.1 t157 ht157) rfl).o <| p2 rfl 120 rfl 123 rfl (q_pickT rfl hb156) <| av rfl rfl <| WL.nil ?_
          exact QN.weaken (.one rfl (.nil _)) (Kj151 () t157 h)
         ·refine sk rfl rfl rfl hb156 <| sk rfl rfl rfl hb156 <| sk rfl rfl rfl hb156 <| pk rfl 120 rfl (q_pickF rfl hb156) <| av rfl rfl <| WL.nil ?_
          exact QN.weaken (.one rfl (.nil _)) (Kj151 () false h)
        ·refine sk rfl rfl rfl hb154 <| sk rfl rfl rfl hb154 <| sk rfl rfl rfl hb154 <| pk rfl 115 rfl (q_pickF rfl hb154) <| mv rfl rfl <| sk rfl rfl rfl rfl <| sk rfl rfl rfl rfl <| sk rfl rfl rfl rfl <| pk rfl 120 rfl (q_pickF rfl rfl) <| av rfl rfl <| WL.nil ?_
         exact QN.weaken (.one rfl (.nil _)) (Kj151 () false h)
       ·refine sk rfl rfl rfl hb153 <| sk rfl rfl rfl hb153 <| pk rfl 111 rfl (q_pickF rfl hb153) <| mv rfl rfl <| sk rfl rfl rfl rfl <| sk rfl rfl rfl rfl <| sk rfl rfl rfl rfl <| pk rfl 115 rfl (q_pickF rfl rfl) <| mv rfl rfl <| sk rfl rfl rfl rfl <| sk rfl rfl rfl rfl <| sk rfl rfl rfl rfl <| pk rfl 120 rfl (q_pickF rfl rfl) ?_
        refine av rfl rfl <| WL.nil ?_
        exact QN.weaken (.one rfl (.nil _)) (Kj151 () false h)
      ·refine sk rfl rfl rfl hb152 <| sk rfl rfl rfl hb152 <| pk rfl 107 rfl (q_pickF rfl hb152) <| mv rfl rfl <| sk rfl rfl rfl rfl <| sk rfl rfl rfl rfl <| pk rfl 111 rfl (q_pickF rfl rfl) <| mv rfl rfl <| sk rfl rfl rfl rfl <| sk rfl rfl rfl rfl <| sk rfl rfl rfl rfl <| pk rfl 115 rfl (q_pickF rfl rfl) <| mv rfl rfl ?_
       refine sk rfl rfl rfl rfl <| sk rfl rfl rfl rfl <| sk rfl rfl rfl rfl <| pk rfl 120 rfl (q_pickF rfl rfl) <| av rfl rfl <| WL.nil ?_
       exact QN.weaken (.one rfl (.nil _)) (Kj151 () false h)
   ·refine W.region <| lS rfl rfl sh32 rfl rfl <| lS rfl rfl sh32 rfl rfl ?_
    obtain ⟨t158, ht158, h⟩ := bind_s h
    refine p2 rfl 52 rfl 53 rfl (q_call (f := 22) (A := bA t158) (xs := [.tmp 52, .tmp 53]) («as» := [AggA [SlcA kInt t114.1.fGraph.fNodes, SlcA kEdge t114.1.fGraph.fEdges, SlcA (kSl kInt) t114.1.fValues], AggA [SlcA kInt t116.1.fGraph.fNodes, SlcA kEdge t116.1.fGraph.fEdges, SlcA (kSl kInt) t116.1.fValues]]) rfl ca22 (ref15_Same.con k t114.1 t116.1 t158 ht158) rfl) <| p1 rfl 54 rfl (q_not rfl) <| mv rfl rfl ?_
    rcases bif_s h with ⟨hb159, h⟩ | ⟨hb159, h⟩
    ·refine sk rfl rfl rfl hb159 <| sk rfl rfl rfl hb159 <| sk rfl rfl rfl hb159 <| pk rfl 56 rfl (q_pickT rfl hb159) <| mv rfl rfl <| sk rfl rfl rfl rfl <| sk rfl rfl rfl rfl <| pk rfl 61 rfl (q_pickT rfl rfl) <| WL.nil ?_
     exact QN.weaken (.o4 rfl (.o4 rfl (.nil _))) (Kj122 () true h)
    ·refine wm rfl rfl rfl hb159 rfl rfl <| wm rfl rfl rfl hb159 rfl rfl <| wq rfl rfl rfl hb159 (.s 57 rfl (.s 58 rfl .nil)) (q_int rfl rfl).o <| p2 rfl 56 rfl 59 rfl (q_pickF rfl hb159) <| mv rfl rfl ?_
     rcases bif_s h with ⟨hb160, h⟩ | ⟨hb160, h⟩
     ·refine sk rfl rfl rfl hb160 <| sk rfl rfl rfl hb160 <| pk rfl 61 rfl (q_pickT rfl hb160) <| WL.nil ?_
      exact QN.weaken (.o4 rfl (.o4 rfl (.nil _))) (Kj122 () true h)
     ·refine wm rfl rfl rfl hb160 rfl rfl <| wq rfl rfl rfl hb160 (.s 62 rfl (.k .nil)) (q_int rfl rfl).o <| p2 rfl 61 rfl 63 rfl (q_pickF rfl hb160) <| WL.nil ?_
      exact QN.weaken (.o4 rfl (.o4 rfl (.nil _))) (Kj122 () (t114.2 != 0) h)
 ·refine W.region ?_
  obtain ⟨t161, ht161, h⟩ := bind_s h
  refine WL.p rfl rfl rfl .nil (q_call (f := 11) (A := bA t161) (xs := []) («as» := []) rfl ca11 (law15_awake.con k  t161 ht161) rfl) <| p1 rfl 17 rfl (q_not rfl) <| mv rfl rfl ?_
  rcases bif_s h with ⟨hb162, h⟩ | ⟨hb162, h⟩
  ·refine sk rfl rfl rfl hb162 <| sk rfl rfl rfl hb162 <| sk rfl rfl rfl hb162 <| sk rfl rfl rfl hb162 <| sk rfl rfl rfl hb162 <| pk rfl 19 rfl (q_pickT rfl hb162) <| WL.nil ?_
   exact QN.weaken (.o4 rfl (.nil _)) (Kj104 () true h)
  ·refine wq rfl rfl rfl hb162 (.s 3 rfl .nil) (q_loadS rfl sh25 (leB rfl) rfl).o <| wq rfl rfl rfl hb162 (.s 4 rfl .nil) (q_loadS rfl sh32 (leB rfl) rfl).o <| wq rfl rfl rfl hb162 (.s 21 rfl .nil) (q_lit (kd := kHost) (ps := [(0, .tmp 21)]) (xs := [.tmp 21]) («as» := [AggA [SlcA kInt a1.fGraph.fNodes, SlcA kEdge a1.fGraph.fEdges, SlcA (kSl kInt) a1.fValues]]) (ys := [a1]) rfl rfl el92 rfl gr32 rfl rfl rfl (.cons (CellsOf.agg _) .nil)).o ?_
   obtain ⟨t163, ht163, h⟩ := bind_s h
   refine wq rfl rfl rfl hb162 (.s 20 rfl (.s 22 rfl .nil)) (q_call (f := 12) (A := bA t163) (xs := [.tmp 20, .tmp 22]) («as» := [AggA [SlcA kNodeType a0.fNodes, SlcA kEdgeType a0.fEdges], SlcA kHost [a1]]) rfl ca12 (law15_small.con k a0 [a1] t163 ht163) rfl).o <| wq rfl rfl rfl hb162 (.s 23 rfl .nil) (q_not rfl).o <| p2 rfl 19 rfl 24 rfl (q_pickF rfl hb162) <| WL.nil ?_
   exact QN.weaken (.o4 rfl (.nil _)) (Kj104 () (!t163) h)
end Go.Proofs.YthmdmchmmgmblaaGreat
