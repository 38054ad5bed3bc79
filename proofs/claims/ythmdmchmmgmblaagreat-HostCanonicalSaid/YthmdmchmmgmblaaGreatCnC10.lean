/- The Go functions compute the pure ones. (Printed by gen.py.) -/
import Derived.Test.YthmdmchmmgmblaaGreatCnC9
namespace Go.Proofs.YthmdmchmmgmblaaGreat
open Go Go.Abs
attribute [local irreducible] Tryz.prog
theorem ref06_Same.con (k : Nat) (a0 : Morphism) (a1 : Morphism) (r : Bool) (h : ref06_Same k a0 a1 = some r) : Con Tryz.prog 23 [] [AggA [SlcA kInt a0.fNodes, SlcA kInt a0.fEdges], AggA [SlcA kInt a1.fNodes, SlcA kInt a1.fEdges]] (RA (bA r)) := by
 unfold ref06_Same at h
 refine Con.of (N := 17) Tryz.func23 rfl rfl rfl fun w0_ fg_ => sr <| p1 rfl 0 rfl (q_box rfl (CellsOf.agg _)) <| p1 rfl 1 rfl (q_box rfl (CellsOf.agg _)) <| ak rfl <| nt <| W.seq ?_
 refine W.jn1 (Γ := Unit) (fun (_ : Unit) (x4 : Bool) => [(4, bA x4)]) (fun (_ : Unit) (_ : Bool) => []) h (fun _ x4 h => ?_) (fun j104 Kj104 h => ?_)
 ·refine QN.then_ <| W.ret ?_
  cases h
  exact QR.f1 rfl rfl (.t rfl) (.id _)
 ·refine W.region <| fd rfl rfl fo47_0 rfl <| ld rfl rfl sh26 <| fd rfl rfl fo47_0 rfl <| ld rfl rfl sh26 ?_
  obtain ⟨t105, ht105, h⟩ := bind_s h
  refine p2 rfl 6 rfl 8 rfl (q_call (f := 66) (A := bA t105) (xs := [.tmp 6, .tmp 8]) («as» := [SlcA kInt a0.fNodes, SlcA kInt a1.fNodes]) rfl ca66 (ref02_SameInts.con k a0.fNodes a1.fNodes t105 ht105) rfl) <| mv rfl rfl ?_
  rcases bif_s h with ⟨hb106, h⟩ | ⟨hb106, h⟩
  ·refine wf rfl rfl rfl hb106 rfl rfl fo47_1 rfl <| wl rfl rfl rfl hb106 rfl rfl sh26 <| wf rfl rfl rfl hb106 rfl rfl fo47_1 rfl <| wl rfl rfl rfl hb106 rfl rfl sh26 ?_
   obtain ⟨t107, ht107, h⟩ := bind_s h
   refine wq rfl rfl rfl hb106 (.s 12 rfl (.s 14 rfl .nil)) (q_call (f := 66) (A := bA t107) (xs := [.tmp 12, .tmp 14]) («as» := [SlcA kInt a0.fEdges, SlcA kInt a1.fEdges]) rfl ca66 (ref02_SameInts.con k a0.fEdges a1.fEdges t107 ht107) rfl).o <| p2 rfl 10 rfl 15 rfl (q_pickT rfl hb106) <| av rfl rfl <| WL.nil ?_
   exact QN.weaken (.one rfl (.nil _)) (Kj104 () t107 h)
  ·refine sk rfl rfl rfl hb106 <| sk rfl rfl rfl hb106 <| sk rfl rfl rfl hb106 <| sk rfl rfl rfl hb106 <| sk rfl rfl rfl hb106 <| pk rfl 10 rfl (q_pickF rfl hb106) <| av rfl rfl <| WL.nil ?_
   exact QN.weaken (.one rfl (.nil _)) (Kj104 () false h)
theorem law15_HostCanonical.con (k : Nat) (a0 : Types) (a1 : Host) (r : Bool) (h : law15_HostCanonical k a0 a1 = some r) : Con Tryz.prog 4 [] [AggA [SlcA kNodeType a0.fNodes, SlcA kEdgeType a0.fEdges], AggA [SlcA kInt a1.fGraph.fNodes, SlcA kEdge a1.fGraph.fEdges, SlcA (kSl kInt) a1.fValues]] (RA (bA r)) := by
 unfold law15_HostCanonical at h
 refine Con.of (N := 84) Tryz.func4 rfl rfl rfl fun w0_ fg_ => sr <| p1 rfl 0 rfl (q_box rfl (CellsOf.agg _)) <| p1 rfl 1 rfl (q_box rfl (CellsOf.agg _)) <| ak rfl <| nt <| W.seq <| W.seq ?_
 refine W.jn1 (Γ := Unit) (fun (_ : Unit) (x21 : Bool) => [(2, PtrA [SlcA kNodeType a0.fNodes, SlcA kEdgeType a0.fEdges]), (3, PtrA [SlcA kInt a1.fGraph.fNodes, SlcA kEdge a1.fGraph.fEdges, SlcA (kSl kInt) a1.fValues]), (21, bA x21)]) (fun (_ : Unit) (_ : Bool) => []) h (fun _ x21 h => ?_) (fun j104 Kj104 h => ?_)
 ·refine QN.then_ ?_
  refine W.condP h rfl (fun hb105 h => ?_) (fun hb105 h => ?_)
  ·refine sr ?_
   obtain ⟨t106, ht106, h⟩ := bind_s h
   refine WL.p rfl rfl rfl .nil (q_call (f := 11) (A := bA t106) (xs := []) («as» := []) rfl ca11 (law15_awake.con k  t106 ht106) rfl) <| av rfl rfl <| nt <| W.ret <| QR.then_ ?_
   cases h
   exact QR.f1 rfl rfl (.t rfl) (.id _)
  ·refine W.skip <| QN.then_ <| W.seq ?_
   refine W.jn6 (Γ := Unit) (fun (_ : Unit) (x5_0 : (List Int)) (x5_1 : (List Edge)) (x5_2 : (List (List Int))) (x6_0 : (List Int)) (x6_1 : (List Int)) (x7 : Int) => [(2, PtrA [SlcA kNodeType a0.fNodes, SlcA kEdgeType a0.fEdges]), (3, PtrA [SlcA kInt a1.fGraph.fNodes, SlcA kEdge a1.fGraph.fEdges, SlcA (kSl kInt) a1.fValues]), (5, PtrA [SlcA kInt x5_0, SlcA kEdge x5_1, SlcA (kSl kInt) x5_2]), (6, PtrA [SlcA kInt x6_0, SlcA kInt x6_1]), (7, iA x7)]) (fun (_ : Unit) (_ : (List Int)) (_ : (List Edge)) (_ : (List (List Int))) (_ : (List Int)) (_ : (List Int)) (_ : Int) => []) h (fun _ x5_0 x5_1 x5_2 x6_0 x6_1 x7 h => ?_) (fun j116 Kj116 h => ?_)
   ·refine QN.then_ <| sr <| lS rfl rfl sh25 rfl rfl <| lS rfl rfl sh32 rfl rfl ?_
    obtain ⟨t117, ht117, h⟩ := bind_s h
    refine p2 rfl 32 rfl 33 rfl (q_call (f := 21) (A := TupA [AggA [SlcA kInt t117.1.fGraph.fNodes, SlcA kEdge t117.1.fGraph.fEdges, SlcA (kSl kInt) t117.1.fValues], AggA [SlcA kInt t117.2.1.fNodes, SlcA kInt t117.2.1.fEdges], iA t117.2.2]) (xs := [.tmp 32, .tmp 33]) («as» := [AggA [SlcA kNodeType a0.fNodes, SlcA kEdgeType a0.fEdges], AggA [SlcA kInt a1.fGraph.fNodes, SlcA kEdge a1.fGraph.fEdges, SlcA (kSl kInt) a1.fValues]]) rfl ca21 (ref15_Canonical.con k a0 a1 t117 ht117) rfl) <| mv rfl rfl <| p1 rfl 31 rfl (q_extract rfl rfl) <| p1 rfl 31 rfl (q_extract rfl rfl) <| p1 rfl 31 rfl (q_extract rfl rfl) <| WL.w [] rfl (Wanted.plain rfl) rfl rfl .nil (w_alloc rfl z32 (l := [EqA (.slice none 0 0), EqA (.slice none 0 0), EqA (.slice none 0 0)]) rfl) ?_
    rintro _ _ ⟨b118, rfl, rfl⟩
    refine WL.w [] rfl (Wanted.plain rfl) rfl rfl .nil (w_alloc rfl z47 (l := [EqA (.slice none 0 0), EqA (.slice none 0 0)]) rfl) ?_
    rintro _ _ ⟨b119, rfl, rfl⟩
    refine WL.w0 [1] rfl (Wanted.plain rfl) rfl (.s 8 rfl (.s 35 rfl .nil)) (w_store (L := [SlcA kInt t117.1.fGraph.fNodes, SlcA kEdge t117.1.fGraph.fEdges, SlcA (kSl kInt) t117.1.fValues]) rfl sh32 (CellsOf.agg _) rfl rfl (leB rfl) rfl) ?_
    rintro _ _ ⟨rfl, rfl⟩
    refine WL.w0 [1] rfl (Wanted.plain rfl) rfl (.s 9 rfl (.s 36 rfl .nil)) (w_store (L := [SlcA kInt t117.2.1.fNodes, SlcA kInt t117.2.1.fEdges]) rfl sh47 (CellsOf.agg _) rfl rfl (leB rfl) rfl) ?_
    rintro _ _ ⟨rfl, rfl⟩
    refine av rfl rfl <| WL.nil <| QN.to (StTo.still [1] 8 rfl rfl) <| QN.to (StTo.still [0] 9 rfl rfl) <| QN.weaken (env' := [(10, _), (9, _), (8, _), (7, _), (6, _), (5, _), (2, _)]) (.o4 rfl (.o2 rfl (.one rfl (.nil _)))) <| QN.then_ <| W.seq <| W.seq ?_
    refine W.jn1 (Γ := Unit) (fun (_ : Unit) (x56 : Bool) => [(2, PtrA [SlcA kNodeType a0.fNodes, SlcA kEdgeType a0.fEdges]), (5, PtrA [SlcA kInt x5_0, SlcA kEdge x5_1, SlcA (kSl kInt) x5_2]), (6, PtrA [SlcA kInt x6_0, SlcA kInt x6_1]), (7, iA x7), (8, PtrA [SlcA kInt t117.1.fGraph.fNodes, SlcA kEdge t117.1.fGraph.fEdges, SlcA (kSl kInt) t117.1.fValues]), (9, PtrA [SlcA kInt t117.2.1.fNodes, SlcA kInt t117.2.1.fEdges]), (10, iA t117.2.2), (56, bA x56)]) (fun (_ : Unit) (_ : Bool) => []) h (fun _ x56 h => ?_) (fun j126 Kj126 h => ?_)
    ·refine QN.then_ ?_
     refine W.condP h rfl (fun hb127 h => ?_) (fun hb127 h => ?_)
     ·refine W.seq ?_
      refine W.jn1 (Γ := Unit) (fun (_ : Unit) (x4 : Bool) => [(4, bA x4)]) (fun (_ : Unit) (_ : Bool) => []) h (fun _ x4 h => ?_) (fun j133 Kj133 h => ?_)
      ·refine QN.then_ <| W.ret <| QR.then_ ?_
       cases h
       exact QR.f1 rfl rfl (.t rfl) (.id _)
      ·refine W.region <| lS rfl rfl sh32 rfl rfl <| lS rfl rfl sh32 rfl rfl ?_
       obtain ⟨t134, ht134, h⟩ := bind_s h
       refine p2 rfl 57 rfl 58 rfl (q_call (f := 22) (A := bA t134) (xs := [.tmp 57, .tmp 58]) («as» := [AggA [SlcA kInt x5_0, SlcA kEdge x5_1, SlcA (kSl kInt) x5_2], AggA [SlcA kInt t117.1.fGraph.fNodes, SlcA kEdge t117.1.fGraph.fEdges, SlcA (kSl kInt) t117.1.fValues]]) rfl ca22 (ref15_Same.con k (Host.mk (Graph.mk x5_0 x5_1) x5_2) t117.1 t134 ht134) rfl) <| mv rfl rfl ?_
       rcases bif_s h with ⟨hb135, h⟩ | ⟨hb135, h⟩
       ·refine wq rfl rfl rfl hb135 (.s 6 rfl .nil) (q_loadS rfl sh47 (leB rfl) rfl).o <| wq rfl rfl rfl hb135 (.s 9 rfl .nil) (q_loadS rfl sh47 (leB rfl) rfl).o ?_
        obtain ⟨t136, ht136, h⟩ := bind_s h
        refine wq rfl rfl rfl hb135 (.s 61 rfl (.s 62 rfl .nil)) (q_call (f := 23) (A := bA t136) (xs := [.tmp 61, .tmp 62]) («as» := [AggA [SlcA kInt x6_0, SlcA kInt x6_1], AggA [SlcA kInt t117.2.1.fNodes, SlcA kInt t117.2.1.fEdges]]) rfl ca23 (ref06_Same.con k (Morphism.mk x6_0 x6_1) t117.2.1 t136 ht136) rfl).o <| p2 rfl 60 rfl 63 rfl (q_pickT rfl hb135) <| mv rfl rfl ?_
        rcases bif_s h with ⟨hb137, h⟩ | ⟨hb137, h⟩
        ·refine wm rfl rfl rfl hb137 rfl rfl <| wm rfl rfl rfl hb137 rfl rfl <| wq rfl rfl rfl hb137 (.s 66 rfl (.s 67 rfl .nil)) (q_int rfl rfl).o <| p2 rfl 65 rfl 68 rfl (q_pickT rfl hb137) <| av rfl rfl <| WL.nil ?_
         exact QN.weaken (.one rfl (.nil _)) (Kj133 () (x7 == t117.2.2) h)
        ·refine sk rfl rfl rfl hb137 <| sk rfl rfl rfl hb137 <| sk rfl rfl rfl hb137 <| pk rfl 65 rfl (q_pickF rfl hb137) <| av rfl rfl <| WL.nil ?_
         exact QN.weaken (.one rfl (.nil _)) (Kj133 () false h)
       ·refine sk rfl rfl rfl hb135 <| sk rfl rfl rfl hb135 <| sk rfl rfl rfl hb135 <| pk rfl 60 rfl (q_pickF rfl hb135) <| mv rfl rfl <| sk rfl rfl rfl rfl <| sk rfl rfl rfl rfl <| sk rfl rfl rfl rfl <| pk rfl 65 rfl (q_pickF rfl rfl) <| av rfl rfl <| WL.nil ?_
        exact QN.weaken (.one rfl (.nil _)) (Kj133 () false h)
     ·refine W.skip <| QN.then_ <| sr <| lS rfl rfl sh25 rfl rfl <| lS rfl rfl sh32 rfl rfl ?_
      obtain ⟨t138, ht138, h⟩ := bind_s h
      refine p2 rfl 71 rfl 72 rfl (q_call (f := 20) (A := TupA [AggA [SlcA kInt t138.1.fGraph.fNodes, SlcA kEdge t138.1.fGraph.fEdges, SlcA (kSl kInt) t138.1.fValues], AggA [SlcA kInt t138.2.1.fNodes, SlcA kInt t138.2.1.fEdges], iA t138.2.2]) (xs := [.tmp 71, .tmp 72]) («as» := [AggA [SlcA kNodeType a0.fNodes, SlcA kEdgeType a0.fEdges], AggA [SlcA kInt x5_0, SlcA kEdge x5_1, SlcA (kSl kInt) x5_2]]) rfl ca20 (host_Canonical.con k a0 (Host.mk (Graph.mk x5_0 x5_1) x5_2) t138 ht138) rfl) <| mv rfl rfl <| p1 rfl 70 rfl (q_extract rfl rfl) <| p1 rfl 70 rfl (q_extract rfl rfl) <| p1 rfl 70 rfl (q_extract rfl rfl) <| WL.w [] rfl (Wanted.plain rfl) rfl rfl .nil (w_alloc rfl z32 (l := [EqA (.slice none 0 0), EqA (.slice none 0 0), EqA (.slice none 0 0)]) rfl) ?_
      rintro _ _ ⟨b139, rfl, rfl⟩
      refine WL.w [] rfl (Wanted.plain rfl) rfl rfl .nil (w_alloc rfl z47 (l := [EqA (.slice none 0 0), EqA (.slice none 0 0)]) rfl) ?_
      rintro _ _ ⟨b140, rfl, rfl⟩
      refine WL.w0 [1] rfl (Wanted.plain rfl) rfl (.s 11 rfl (.s 74 rfl .nil)) (w_store (L := [SlcA kInt t138.1.fGraph.fNodes, SlcA kEdge t138.1.fGraph.fEdges, SlcA (kSl kInt) t138.1.fValues]) rfl sh32 (CellsOf.agg _) rfl rfl (leB rfl) rfl) ?_
      rintro _ _ ⟨rfl, rfl⟩
      refine WL.w0 [1] rfl (Wanted.plain rfl) rfl (.s 12 rfl (.s 75 rfl .nil)) (w_store (L := [SlcA kInt t138.2.1.fNodes, SlcA kInt t138.2.1.fEdges]) rfl sh47 (CellsOf.agg _) rfl rfl (leB rfl) rfl) ?_
      rintro _ _ ⟨rfl, rfl⟩
      refine av rfl rfl <| WL.nil <| QN.to (StTo.still [1] 11 rfl rfl) <| QN.to (StTo.still [0] 12 rfl rfl) <| QN.weaken (env' := [(13, _), (11, _), (5, _)]) (.o2 rfl (.one rfl (.nil _))) <| QN.then_ <| W.seq ?_
      refine W.jn1 (Γ := Unit) (fun (_ : Unit) (x4 : Bool) => [(4, bA x4)]) (fun (_ : Unit) (_ : Bool) => []) h (fun _ x4 h => ?_) (fun j144 Kj144 h => ?_)
      ·refine QN.then_ <| W.ret ?_
       cases h
       exact QR.f1 rfl rfl (.t rfl) (.id _)
      ·refine W.region <| mv rfl rfl <| pk rfl 77 rfl (q_int rfl rfl) <| mv rfl rfl ?_
       rcases bif_s h with ⟨hb145, h⟩ | ⟨hb145, h⟩
       ·refine wq rfl rfl rfl hb145 (.s 5 rfl .nil) (q_loadS rfl sh32 (leB rfl) rfl).o <| wq rfl rfl rfl hb145 (.s 11 rfl .nil) (q_loadS rfl sh32 (leB rfl) rfl).o ?_
        obtain ⟨t146, ht146, h⟩ := bind_s h
        refine wq rfl rfl rfl hb145 (.s 80 rfl (.s 81 rfl .nil)) (q_call (f := 22) (A := bA t146) (xs := [.tmp 80, .tmp 81]) («as» := [AggA [SlcA kInt x5_0, SlcA kEdge x5_1, SlcA (kSl kInt) x5_2], AggA [SlcA kInt t138.1.fGraph.fNodes, SlcA kEdge t138.1.fGraph.fEdges, SlcA (kSl kInt) t138.1.fValues]]) rfl ca22 (ref15_Same.con k (Host.mk (Graph.mk x5_0 x5_1) x5_2) t138.1 t146 ht146) rfl).o <| p2 rfl 79 rfl 82 rfl (q_pickT rfl hb145) <| av rfl rfl <| WL.nil ?_
        exact QN.weaken (.one rfl (.nil _)) (Kj144 () t146 h)
       ·refine sk rfl rfl rfl hb145 <| sk rfl rfl rfl hb145 <| sk rfl rfl rfl hb145 <| pk rfl 79 rfl (q_pickF rfl hb145) <| av rfl rfl <| WL.nil ?_
        exact QN.weaken (.one rfl (.nil _)) (Kj144 () false h)
    ·refine W.region <| lS rfl rfl sh32 rfl rfl <| lS rfl rfl sh32 rfl rfl ?_
     obtain ⟨t147, ht147, h⟩ := bind_s h
     refine p2 rfl 38 rfl 39 rfl (q_call (f := 22) (A := bA t147) (xs := [.tmp 38, .tmp 39]) («as» := [AggA [SlcA kInt x5_0, SlcA kEdge x5_1, SlcA (kSl kInt) x5_2], AggA [SlcA kInt t117.1.fGraph.fNodes, SlcA kEdge t117.1.fGraph.fEdges, SlcA (kSl kInt) t117.1.fValues]]) rfl ca22 (ref15_Same.con k (Host.mk (Graph.mk x5_0 x5_1) x5_2) t117.1 t147 ht147) rfl) <| p1 rfl 40 rfl (q_not rfl) <| mv rfl rfl ?_
     rcases bif_s h with ⟨hb148, h⟩ | ⟨hb148, h⟩
     ·refine sk rfl rfl rfl hb148 <| sk rfl rfl rfl hb148 <| sk rfl rfl rfl hb148 <| sk rfl rfl rfl hb148 <| pk rfl 42 rfl (q_pickT rfl hb148) <| mv rfl rfl <| sk rfl rfl rfl rfl <| sk rfl rfl rfl rfl <| sk rfl rfl rfl rfl <| pk rfl 48 rfl (q_pickT rfl rfl) <| mv rfl rfl <| sk rfl rfl rfl rfl <| sk rfl rfl rfl rfl ?_
      refine pk rfl 53 rfl (q_pickT rfl rfl) <| WL.nil ?_
      exact QN.weaken (.o4 rfl (.o4 rfl (.nil _))) (Kj126 () true h)
     ·refine wq rfl rfl rfl hb148 (.s 6 rfl .nil) (q_loadS rfl sh47 (leB rfl) rfl).o <| wq rfl rfl rfl hb148 (.s 9 rfl .nil) (q_loadS rfl sh47 (leB rfl) rfl).o ?_
      obtain ⟨t149, ht149, h⟩ := bind_s h
      refine wq rfl rfl rfl hb148 (.s 43 rfl (.s 44 rfl .nil)) (q_call (f := 23) (A := bA t149) (xs := [.tmp 43, .tmp 44]) («as» := [AggA [SlcA kInt x6_0, SlcA kInt x6_1], AggA [SlcA kInt t117.2.1.fNodes, SlcA kInt t117.2.1.fEdges]]) rfl ca23 (ref06_Same.con k (Morphism.mk x6_0 x6_1) t117.2.1 t149 ht149) rfl).o <| wq rfl rfl rfl hb148 (.s 45 rfl .nil) (q_not rfl).o <| p2 rfl 42 rfl 46 rfl (q_pickF rfl hb148) <| mv rfl rfl ?_
      rcases bif_s h with ⟨hb150, h⟩ | ⟨hb150, h⟩
      ·refine sk rfl rfl rfl hb150 <| sk rfl rfl rfl hb150 <| sk rfl rfl rfl hb150 <| pk rfl 48 rfl (q_pickT rfl hb150) <| mv rfl rfl <| sk rfl rfl rfl rfl <| sk rfl rfl rfl rfl <| pk rfl 53 rfl (q_pickT rfl rfl) <| WL.nil ?_
       exact QN.weaken (.o4 rfl (.o4 rfl (.nil _))) (Kj126 () true h)
      ·refine wm rfl rfl rfl hb150 rfl rfl <| wm rfl rfl rfl hb150 rfl rfl <| wq rfl rfl rfl hb150 (.s 49 rfl (.s 50 rfl .nil)) (q_int rfl rfl).o <| p2 rfl 48 rfl 51 rfl (q_pickF rfl hb150) <| mv rfl rfl ?_
       rcases bif_s h with ⟨hb151, h⟩ | ⟨hb151, h⟩
       ·refine sk rfl rfl rfl hb151 <| sk rfl rfl rfl hb151 <| pk rfl 53 rfl (q_pickT rfl hb151) <| WL.nil ?_
        exact QN.weaken (.o4 rfl (.o4 rfl (.nil _))) (Kj126 () true h)
       ·refine wm rfl rfl rfl hb151 rfl rfl <| wq rfl rfl rfl hb151 (.s 54 rfl (.k .nil)) (q_int rfl rfl).o <| p2 rfl 53 rfl 55 rfl (q_pickF rfl hb151) <| WL.nil ?_
        exact QN.weaken (.o4 rfl (.o4 rfl (.nil _))) (Kj126 () (x7 != 0) h)
   ·refine W.drawKT [(0, false), (1, false), (2, false), (3, false), (4, false), (5, false), (6, false), (7, false)] [8, 9, 10, 11, 12] [8, 9, 12] 5 [[], [], [1], [0, 1, 2], [0, 1, 2, 3], [0, 1, 2, 3, 4], [0, 1, 2, 3, 4], [0, 1, 2, 3, 4], [], [], [0, 1, 2, 3, 4, 5, 8, 9], [0, 1, 2, 3, 4, 5, 6, 8, 9, 10], [0, 1, 2, 3, 4, 5, 6, 7, 8, 9, 10, 11]] mx (by kernel_rfl) <| DKT.cons rfl rfl (.p rfl (.s 2 rfl .nil) rfl (q_loadS rfl sh25 (leB rfl) rfl)) <| DKT.cons rfl rfl (.p rfl (.s 3 rfl .nil) rfl (q_loadS rfl sh32 (leB rfl) rfl)) ?_
    obtain ⟨t152, ht152, h⟩ := bind_s h
    refine DKT.cons rfl rfl (.p rfl (.s 25 rfl .nil) rfl (q_call (f := 14) (A := AggA [SlcA kInt t152.fGraph.fNodes, SlcA kEdge t152.fGraph.fEdges, SlcA (kSl kInt) t152.fValues]) (xs := [.tmp 25]) («as» := [AggA [SlcA kInt a1.fGraph.fNodes, SlcA kEdge a1.fGraph.fEdges, SlcA (kSl kInt) a1.fValues]]) rfl ca14 (Con.lend (ref15_Copied.con k a1 t152 ht152) (by rintro _ _ _ ⟨_, rfl, rfl⟩; exact .agg (.cons (.id _) (.cons (.id _) (.cons (.tab 0 rfl) .nil))))) rfl)) ?_
    obtain ⟨t153, ht153, h⟩ := bind_s h
    refine DKT.cons rfl rfl (.p rfl (.s 24 rfl (.s 26 rfl .nil)) rfl (q_call (f := 20) (A := TupA [AggA [SlcA kInt t153.1.fGraph.fNodes, SlcA kEdge t153.1.fGraph.fEdges, SlcA (kSl kInt) t153.1.fValues], AggA [SlcA kInt t153.2.1.fNodes, SlcA kInt t153.2.1.fEdges], iA t153.2.2]) (xs := [.tmp 24, .tmp 26]) («as» := [AggA [SlcA kNodeType a0.fNodes, SlcA kEdgeType a0.fEdges], AggA [SlcA kInt t152.fGraph.fNodes, SlcA kEdge t152.fGraph.fEdges, SlcA (kSl kInt) t152.fValues]]) rfl ca20 (host_Canonical.con k a0 t152 t153 ht153) rfl)) <| DKT.cons rfl rfl (.p rfl (.s 27 rfl .nil) rfl (q_move rfl)) <| DKT.cons rfl rfl (.p rfl (.s 23 rfl .nil) rfl (q_extract rfl rfl)) <| DKT.cons rfl rfl (.p rfl (.s 23 rfl .nil) rfl (q_extract rfl rfl)) <| DKT.cons rfl rfl (.p rfl (.s 23 rfl .nil) rfl (q_extract rfl rfl)) <| DKT.nil <| CT.step ?_
    refine CTc.yes rfl ?_ ?_
    ·refine CStep1.w [] (fun _ => rfl) rfl rfl rfl rfl .nil rfl (w_alloc rfl z32 (l := [EqA (.slice none 0 0), EqA (.slice none 0 0), EqA (.slice none 0 0)]) rfl) ?_
     rintro _ _ ⟨b154, rfl, rfl⟩
     refine CT.list (l' := [9, 10, 11, 12]) rfl <| CT.step ?_
     refine CTc.yes rfl ?_ ?_
     ·refine CStep1.w [] (fun _ => rfl) rfl rfl rfl rfl .nil rfl (w_alloc rfl z47 (l := [EqA (.slice none 0 0), EqA (.slice none 0 0)]) rfl) ?_
      rintro _ _ ⟨b155, rfl, rfl⟩
      refine CT.list (l' := [10, 11, 12]) rfl <| CT.step ?_
      refine CTc.yes rfl ?_ ?_
      ·refine CStep1.w0 [1] (fun h => absurd h (by decide)) rfl rfl rfl (.s 5 rfl (.s 28 rfl .nil)) rfl (w_store (L := [SlcA kInt t153.1.fGraph.fNodes, SlcA kEdge t153.1.fGraph.fEdges, SlcA (kSl kInt) t153.1.fValues]) rfl sh32 (CellsOf.agg _) rfl rfl (leB rfl) rfl) ?_
       rintro _ _ ⟨rfl, rfl⟩
       refine CT.list (l' := [11, 12]) rfl <| CT.step ?_
       refine CTc.yes rfl ?_ ?_
       ·refine CStep1.w0 [1] (fun h => absurd h (by decide)) rfl rfl rfl (.s 6 rfl (.s 29 rfl .nil)) rfl (w_store (L := [SlcA kInt t153.2.1.fNodes, SlcA kInt t153.2.1.fEdges]) rfl sh47 (CellsOf.agg _) rfl rfl (leB rfl) rfl) ?_
        rintro _ _ ⟨rfl, rfl⟩
        refine CT.list (l' := [12]) rfl <| CT.step ?_
        refine CTc.yes rfl ?_ ?_
        ·refine CStep1.p rfl rfl rfl (.s 30 rfl .nil) rfl (q_assign rfl) <| CT.list (l' := []) rfl <| CT.nil <| QN.to (StTo.still [1] 5 rfl rfl) <| QN.to (StTo.still [0] 6 rfl rfl) ?_
         exact QN.weaken (.o4 rfl (.one rfl (.nil _))) (Kj116 () t153.1.fGraph.fNodes t153.1.fGraph.fEdges t153.1.fValues t153.2.1.fNodes t153.2.1.fEdges t153.2.2 h)
        exact CTc.end
       refine CTc.no rfl ?_
       exact CTc.end
      refine CTc.no rfl <| CTc.no rfl ?_
      exact CTc.end
     refine CTc.no rfl <| CTc.no rfl <| CTc.no rfl ?_
     exact CTc.end
    refine CTc.yes rfl ?_ ?_
    ·refine CStep1.w [] (fun _ => rfl) rfl rfl rfl rfl .nil rfl (w_alloc rfl z47 (l := [EqA (.slice none 0 0), EqA (.slice none 0 0)]) rfl) ?_
     rintro _ _ ⟨b155, rfl, rfl⟩
     refine CT.list (l' := [8, 10, 11, 12]) rfl <| CT.step ?_
     refine CTc.yes rfl ?_ ?_
     ·refine CStep1.w [] (fun _ => rfl) rfl rfl rfl rfl .nil rfl (w_alloc rfl z32 (l := [EqA (.slice none 0 0), EqA (.slice none 0 0), EqA (.slice none 0 0)]) rfl) ?_
      rintro _ _ ⟨b154, rfl, rfl⟩
      refine CT.list (l' := [10, 11, 12]) rfl <| CT.step ?_
      refine CTc.yes rfl ?_ ?_
      ·refine CStep1.w0 [0] (fun h => absurd h (by decide)) rfl rfl rfl (.s 5 rfl (.s 28 rfl .nil)) rfl (w_store (L := [SlcA kInt t153.1.fGraph.fNodes, SlcA kEdge t153.1.fGraph.fEdges, SlcA (kSl kInt) t153.1.fValues]) rfl sh32 (CellsOf.agg _) rfl rfl (leB rfl) rfl) ?_
       rintro _ _ ⟨rfl, rfl⟩
       refine CT.list (l' := [11, 12]) rfl <| CT.step ?_
       refine CTc.yes rfl ?_ ?_
       ·refine CStep1.w0 [1] (fun h => absurd h (by decide)) rfl rfl rfl (.s 6 rfl (.s 29 rfl .nil)) rfl (w_store (L := [SlcA kInt t153.2.1.fNodes, SlcA kInt t153.2.1.fEdges]) rfl sh47 (CellsOf.agg _) rfl rfl (leB rfl) rfl) ?_
        rintro _ _ ⟨rfl, rfl⟩
        refine CT.list (l' := [12]) rfl <| CT.step ?_
        refine CTc.yes rfl ?_ ?_
        ·refine CStep1.p rfl rfl rfl (.s 30 rfl .nil) rfl (q_assign rfl) <| CT.list (l' := []) rfl <| CT.nil <| QN.to (StTo.still [1] 5 rfl rfl) <| QN.to (StTo.still [0] 6 rfl rfl) ?_
         exact QN.weaken (.o4 rfl (.one rfl (.nil _))) (Kj116 () t153.1.fGraph.fNodes t153.1.fGraph.fEdges t153.1.fValues t153.2.1.fNodes t153.2.1.fEdges t153.2.2 h)
        exact CTc.end
       refine CTc.no rfl ?_
       exact CTc.end
      refine CTc.no rfl <| CTc.no rfl ?_
      exact CTc.end
     refine CTc.no rfl <| CTc.no rfl <| CTc.no rfl ?_
     exact CTc.end
    refine CTc.no rfl <| CTc.no rfl <| CTc.no rfl ?_
    exact CTc.end
 ·refine W.region ?_
  obtain ⟨t156, ht156, h⟩ := bind_s h
  refine WL.p rfl rfl rfl .nil (q_call (f := 11) (A := bA t156) (xs := []) («as» := []) rfl ca11 (law15_awake.con k  t156 ht156) rfl) <| p1 rfl 14 rfl (q_not rfl) <| mv rfl rfl ?_
  rcases bif_s h with ⟨hb157, h⟩ | ⟨hb157, h⟩
  ·refine sk rfl rfl rfl hb157 <| sk rfl rfl rfl hb157 <| sk rfl rfl rfl hb157 <| sk rfl rfl rfl hb157 <| pk rfl 16 rfl (q_pickT rfl hb157) <| WL.nil ?_
   exact QN.weaken (.o2 rfl (.one rfl (.nil _))) (Kj104 () true h)
  ·refine wq rfl rfl rfl hb157 (.s 2 rfl .nil) (q_loadS rfl sh25 (leB rfl) rfl).o <| wq rfl rfl rfl hb157 (.s 3 rfl .nil) (q_loadS rfl sh32 (leB rfl) rfl).o ?_
   obtain ⟨t158, ht158, h⟩ := bind_s h
   refine wq rfl rfl rfl hb157 (.s 17 rfl (.s 18 rfl .nil)) (q_call (f := 19) (A := bA t158) (xs := [.tmp 17, .tmp 18]) («as» := [AggA [SlcA kNodeType a0.fNodes, SlcA kEdgeType a0.fEdges], AggA [SlcA kInt a1.fGraph.fNodes, SlcA kEdge a1.fGraph.fEdges, SlcA (kSl kInt) a1.fValues]]) rfl ca19 (law15_light.con k a0 a1 t158 ht158) rfl).o <| wq rfl rfl rfl hb157 (.s 19 rfl .nil) (q_not rfl).o <| p2 rfl 16 rfl 20 rfl (q_pickF rfl hb157) <| WL.nil ?_
   exact QN.weaken (.o2 rfl (.one rfl (.nil _))) (Kj104 () (!t158) h)
end Go.Proofs.YthmdmchmmgmblaaGreat
