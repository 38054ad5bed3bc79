/- The Go functions compute the pure ones. (Printed by gen.py.) -/
import Derived.Test.YtcgdfjpeboiioaaGreatC8
namespace Go.Proofs.YtcgdfjpeboiioaaGreat
open Go Go.Abs
attribute [local irreducible] Tryz.prog
theorem ref17_given.con (k : Nat) (a0 : Types) (a1 : Graph) (a2 : Graph) (r : Int) (h : ref17_given k a0 a1 a2 = some r) : Con Tryz.prog 117 [] [AggA [SlcA kNodeType a0.fNodes, SlcA kEdgeType a0.fEdges], AggA [SlcA kInt a1.fNodes, SlcA kEdge a1.fEdges], AggA [SlcA kInt a2.fNodes, SlcA kEdge a2.fEdges]] (RA (iA r)) := by
 unfold ref17_given at h
 refine Con.of (N := 39) Tryz.func117 rfl rfl rfl fun w0_ fg_ => sr <| p1 rfl 0 rfl (q_box rfl (CellsOf.agg _)) <| p1 rfl 1 rfl (q_box rfl (CellsOf.agg _)) <| p1 rfl 2 rfl (q_box rfl (CellsOf.agg _)) <| ak rfl <| nt <| W.seq <| sr <| lS rfl rfl sh35 rfl rfl ?_
 obtain ⟨t100, ht100, h⟩ := bind_s h
 refine p1 rfl 12 rfl (q_call (f := 58) (A := TupA [EqA (strV t100.1), iA t100.2]) (xs := [.tmp 12]) («as» := [AggA [SlcA kNodeType a0.fNodes, SlcA kEdgeType a0.fEdges]]) rfl ca58 (ref04_Valid.con k a0 t100 ht100) rfl) <| mv rfl rfl <| p1 rfl 11 rfl (q_extract rfl rfl) <| p1 rfl 11 rfl (q_extract rfl rfl) <| av rfl rfl <| av rfl rfl <| WL.nil <| QN.weaken (env' := [(8, _), (5, _), (4, _), (3, _)]) (.o4 rfl (.nil _)) <| QN.then_ <| sr <| mv rfl rfl <| pk rfl 16 rfl (q_int rfl rfl) ?_
 refine nt ?_
 refine W.condP h rfl (fun hb101 h => ?_) (fun hb101 h => ?_)
 ·refine sr <| mv rfl rfl <| av rfl rfl <| WL.nil <| QN.weaken (env' := [(6, _)]) (.one rfl (.nil _)) <| QN.then_ <| W.ret <| QR.then_ ?_
  cases h
  exact QR.f1 rfl rfl (.t rfl) (.id _)
 ·refine W.skip <| QN.then_ <| W.seq <| sr <| lS rfl rfl sh38 rfl rfl ?_
  obtain ⟨t102, ht102, h⟩ := bind_s h
  refine p1 rfl 19 rfl (q_call (f := 59) (A := iA t102) (xs := [.tmp 19]) («as» := [AggA [SlcA kInt a1.fNodes, SlcA kEdge a1.fEdges]]) rfl ca59 (ref05_Valid.con k a1 t102 ht102) rfl) <| av rfl rfl <| nx <| mv rfl rfl <| pk rfl 21 rfl (q_int rfl rfl) <| nt ?_
  refine W.condP h rfl (fun hb103 h => ?_) (fun hb103 h => ?_)
  ·refine sr <| mv rfl rfl <| av rfl rfl <| WL.nil <| QN.weaken (env' := [(6, _)]) (.one rfl (.nil _)) <| QN.then_ <| W.ret <| QR.then_ ?_
   cases h
   exact QR.f1 rfl rfl (.t rfl) (.id _)
  ·refine W.skip <| QN.weaken (env' := [(5, _), (4, _), (3, _)]) (.o2 rfl (.one rfl (.nil _))) <| QN.then_ <| W.seq <| sr <| lS rfl rfl sh38 rfl rfl ?_
   obtain ⟨t104, ht104, h⟩ := bind_s h
   refine p1 rfl 24 rfl (q_call (f := 59) (A := iA t104) (xs := [.tmp 24]) («as» := [AggA [SlcA kInt a2.fNodes, SlcA kEdge a2.fEdges]]) rfl ca59 (ref05_Valid.con k a2 t104 ht104) rfl) <| av rfl rfl <| nx <| mv rfl rfl <| pk rfl 26 rfl (q_int rfl rfl) <| nt ?_
   refine W.condP h rfl (fun hb105 h => ?_) (fun hb105 h => ?_)
   ·refine sr <| mv rfl rfl <| av rfl rfl <| WL.nil <| QN.weaken (env' := [(6, _)]) (.one rfl (.nil _)) <| QN.then_ <| W.ret <| QR.then_ ?_
    cases h
    exact QR.f1 rfl rfl (.t rfl) (.id _)
   ·refine W.skip <| QN.then_ <| W.seq <| W.seq ?_
    refine W.jn1 (Γ := Unit) (fun (_ : Unit) (x38 : Bool) => [(38, bA x38)]) (fun (_ : Unit) (_ : Bool) => []) h (fun _ x38 h => ?_) (fun j110 Kj110 h => ?_)
    ·refine QN.then_ ?_
     refine W.condP h rfl (fun hb111 h => ?_) (fun hb111 h => ?_)
     ·refine sr <| ak rfl <| nt <| W.ret <| QR.then_ ?_
      cases h
      exact QR.f1 rfl rfl (.t rfl) (.id _)
     ·refine W.skip <| QN.then_ <| sr <| ak rfl <| nt <| W.ret ?_
      cases h
      exact QR.f1 rfl rfl (.t rfl) (.id _)
    ·refine W.region <| lS rfl rfl sh35 rfl rfl <| lS rfl rfl sh38 rfl rfl ?_
     obtain ⟨t112, ht112, h⟩ := bind_s h
     refine p2 rfl 29 rfl 30 rfl (q_call (f := 60) (A := bA t112) (xs := [.tmp 29, .tmp 30]) («as» := [AggA [SlcA kNodeType a0.fNodes, SlcA kEdgeType a0.fEdges], AggA [SlcA kInt a1.fNodes, SlcA kEdge a1.fEdges]]) rfl ca60 (ref17_Typed.con k a0 a1 t112 ht112) rfl) <| p1 rfl 31 rfl (q_not rfl) <| mv rfl rfl ?_
     rcases bif_s h with ⟨hb113, h⟩ | ⟨hb113, h⟩
     ·refine sk rfl rfl rfl hb113 <| sk rfl rfl rfl hb113 <| sk rfl rfl rfl hb113 <| sk rfl rfl rfl hb113 <| pk rfl 33 rfl (q_pickT rfl hb113) <| WL.nil ?_
      exact QN.weaken (.one rfl (.nil _)) (Kj110 () true h)
     ·refine wq rfl rfl rfl hb113 (.s 3 rfl .nil) (q_loadS rfl sh35 (leB rfl) rfl).o <| wq rfl rfl rfl hb113 (.s 5 rfl .nil) (q_loadS rfl sh38 (leB rfl) rfl).o ?_
      obtain ⟨t114, ht114, h⟩ := bind_s h
      refine wq rfl rfl rfl hb113 (.s 34 rfl (.s 35 rfl .nil)) (q_call (f := 60) (A := bA t114) (xs := [.tmp 34, .tmp 35]) («as» := [AggA [SlcA kNodeType a0.fNodes, SlcA kEdgeType a0.fEdges], AggA [SlcA kInt a2.fNodes, SlcA kEdge a2.fEdges]]) rfl ca60 (ref17_Typed.con k a0 a2 t114 ht114) rfl).o <| wq rfl rfl rfl hb113 (.s 36 rfl .nil) (q_not rfl).o <| p2 rfl 33 rfl 37 rfl (q_pickF rfl hb113) <| WL.nil ?_
      exact QN.weaken (.one rfl (.nil _)) (Kj110 () (!t114) h)
theorem ref17_Light.con (k : Nat) (a0 : Types) (a1 : Graph) (a2 : Graph) (r : Bool) (h : ref17_Light k a0 a1 a2 = some r) : Con Tryz.prog 71 [] [AggA [SlcA kNodeType a0.fNodes, SlcA kEdgeType a0.fEdges], AggA [SlcA kInt a1.fNodes, SlcA kEdge a1.fEdges], AggA [SlcA kInt a2.fNodes, SlcA kEdge a2.fEdges]] (RA (bA r)) := by
 unfold ref17_Light at h
 refine Con.of (N := 46) Tryz.func71 rfl rfl rfl fun w0_ fg_ => sr <| p1 rfl 0 rfl (q_box rfl (CellsOf.agg _)) <| p1 rfl 1 rfl (q_box rfl (CellsOf.agg _)) <| p1 rfl 2 rfl (q_box rfl (CellsOf.agg _)) <| ak rfl <| nt <| W.seq ?_
 refine W.jn1 (Γ := Unit) (fun (_ : Unit) (x6 : Bool) => [(6, bA x6)]) (fun (_ : Unit) (_ : Bool) => []) h (fun _ x6 h => ?_) (fun j112 Kj112 h => ?_)
 ·refine QN.then_ <| W.ret ?_
  cases h
  exact QR.f1 rfl rfl (.t rfl) (.id _)
 ·refine W.region <| lS rfl rfl sh35 rfl rfl ?_
  obtain ⟨t113, ht113, h⟩ := bind_s h
  refine p1 rfl 7 rfl (q_call (f := 13) (A := bA t113) (xs := [.tmp 7]) («as» := [AggA [SlcA kNodeType a0.fNodes, SlcA kEdgeType a0.fEdges]]) rfl ca13 (ref04_Few.con k a0 t113 ht113) rfl) <| mv rfl rfl ?_
  rcases bif_s h with ⟨hb114, h⟩ | ⟨hb114, h⟩
  ·refine wq rfl rfl rfl hb114 (.s 4 rfl .nil) (q_loadS rfl sh38 (leB rfl) rfl).o ?_
   obtain ⟨t115, ht115, h⟩ := bind_s h
   refine wq rfl rfl rfl hb114 (.s 10 rfl .nil) (q_call (f := 43) (A := bA t115) (xs := [.tmp 10]) («as» := [AggA [SlcA kInt a1.fNodes, SlcA kEdge a1.fEdges]]) rfl ca43 (ref05_Few.con k a1 t115 ht115) rfl).o <| p2 rfl 9 rfl 11 rfl (q_pickT rfl hb114) <| mv rfl rfl ?_
   rcases bif_s h with ⟨hb116, h⟩ | ⟨hb116, h⟩
   ·refine wq rfl rfl rfl hb116 (.s 5 rfl .nil) (q_loadS rfl sh38 (leB rfl) rfl).o ?_
    obtain ⟨t117, ht117, h⟩ := bind_s h
    refine wq rfl rfl rfl hb116 (.s 14 rfl .nil) (q_call (f := 43) (A := bA t117) (xs := [.tmp 14]) («as» := [AggA [SlcA kInt a2.fNodes, SlcA kEdge a2.fEdges]]) rfl ca43 (ref05_Few.con k a2 t117 ht117) rfl).o <| p2 rfl 13 rfl 15 rfl (q_pickT rfl hb116) <| mv rfl rfl ?_
    rcases bif_s h with ⟨hb118, h⟩ | ⟨hb118, h⟩
    ·refine wq rfl rfl rfl hb118 (.s 3 rfl .nil) (q_loadS rfl sh35 (leB rfl) rfl).o <| wq rfl rfl rfl hb118 (.s 4 rfl .nil) (q_loadS rfl sh38 (leB rfl) rfl).o <| wq rfl rfl rfl hb118 (.s 5 rfl .nil) (q_loadS rfl sh38 (leB rfl) rfl).o ?_
     obtain ⟨t119, ht119, h⟩ := bind_s h
     refine wq rfl rfl rfl hb118 (.s 18 rfl (.s 19 rfl (.s 20 rfl .nil))) (q_call (f := 117) (A := iA t119) (xs := [.tmp 18, .tmp 19, .tmp 20]) («as» := [AggA [SlcA kNodeType a0.fNodes, SlcA kEdgeType a0.fEdges], AggA [SlcA kInt a1.fNodes, SlcA kEdge a1.fEdges], AggA [SlcA kInt a2.fNodes, SlcA kEdge a2.fEdges]]) rfl ca117 (ref17_given.con k a0 a1 a2 t119 ht119) rfl).o <| wq rfl rfl rfl hb118 (.s 21 rfl (.k .nil)) (q_int rfl rfl).o <| wm rfl rfl rfl hb118 rfl rfl ?_
     rcases bif_s h with ⟨hb120, h⟩ | ⟨hb120, h⟩
     ·refine sk rfl rfl rfl hb120 <| sk rfl rfl rfl hb120 <| sk rfl rfl rfl hb120 <| sk rfl rfl rfl hb120 <| sk rfl rfl rfl hb120 <| sk rfl rfl rfl hb120 <| sk rfl rfl rfl hb120 <| sk rfl rfl rfl hb120 <| sk rfl rfl rfl hb120 <| su rfl rfl rfl <| su rfl rfl rfl <| su rfl rfl rfl <| su rfl rfl rfl ?_
      refine sk rfl rfl rfl hb120 <| sk rfl rfl rfl hb120 <| su rfl rfl rfl <| su rfl rfl rfl <| su rfl rfl rfl <| su rfl rfl rfl <| sk rfl rfl rfl hb120 <| wq rfl rfl rfl hb118 (.s 23 rfl (.k .nil)) (q_pickT rfl hb120).o <| p2 rfl 17 rfl 44 rfl (q_pickT rfl hb118) <| av rfl rfl <| WL.nil ?_
      exact QN.weaken (.one rfl (.nil _)) (Kj112 () true h)
     ·refine wf rfl rfl rfl hb120 rfl rfl fo38_0 rfl <| wl rfl rfl rfl hb120 rfl rfl sh26 <| wq rfl rfl rfl hb120 (.s 25 rfl .nil) (q_len rfl elS26).o <| wf rfl rfl rfl hb120 rfl rfl fo38_1 rfl <| wl rfl rfl rfl hb120 rfl rfl sh36 <| wq rfl rfl rfl hb120 (.s 28 rfl .nil) (q_len rfl elS36).o ?_
      obtain ⟨c121, h⟩ := ite_n h
      refine wq rfl rfl rfl hb120 (.s 26 rfl (.s 29 rfl .nil)) (q_addR rfl c121).o <| wq rfl rfl rfl hb120 (.s 30 rfl (.k .nil)) (q_int rfl rfl).o <| wm rfl rfl rfl hb120 rfl rfl ?_
      rcases bif_s h with ⟨hb122, h⟩ | ⟨hb122, h⟩
      ·refine wf rfl rfl rfl hb122 rfl rfl fo38_0 rfl <| wl rfl rfl rfl hb122 rfl rfl sh26 <| wq rfl rfl rfl hb122 (.s 34 rfl .nil) (q_len rfl elS26).o <| wq rfl rfl rfl hb122 (.s 35 rfl (.k .nil)) (q_int rfl rfl).o <| wq rfl rfl rfl hb120 (.s 32 rfl (.s 36 rfl .nil)) (q_pickT rfl hb122).o <| wm rfl rfl rfl hb120 rfl rfl ?_
       rcases bif_s h with ⟨hb123, h⟩ | ⟨hb123, h⟩
       ·refine wf rfl rfl rfl hb123 rfl rfl fo38_1 rfl <| wl rfl rfl rfl hb123 rfl rfl sh36 <| wq rfl rfl rfl hb123 (.s 40 rfl .nil) (q_len rfl elS36).o <| wq rfl rfl rfl hb123 (.s 41 rfl (.k .nil)) (q_int rfl rfl).o <| wq rfl rfl rfl hb120 (.s 38 rfl (.s 42 rfl .nil)) (q_pickT rfl hb123).o <| wq rfl rfl rfl hb118 (.s 23 rfl (.s 43 rfl .nil)) (q_pickF rfl hb120).o <| p2 rfl 17 rfl 44 rfl (q_pickT rfl hb118) <| av rfl rfl <| WL.nil ?_
        exact QN.weaken (.one rfl (.nil _)) (Kj112 () (decide ((a2.fEdges.length : Int) ≤ 12)) h)
       ·refine sk rfl rfl rfl hb123 <| sk rfl rfl rfl hb123 <| sk rfl rfl rfl hb123 <| sk rfl rfl rfl hb123 <| wq rfl rfl rfl hb120 (.s 38 rfl (.k .nil)) (q_pickF rfl hb123).o <| wq rfl rfl rfl hb118 (.s 23 rfl (.s 43 rfl .nil)) (q_pickF rfl hb120).o <| p2 rfl 17 rfl 44 rfl (q_pickT rfl hb118) <| av rfl rfl <| WL.nil ?_
        exact QN.weaken (.one rfl (.nil _)) (Kj112 () false h)
      ·refine sk rfl rfl rfl hb122 <| sk rfl rfl rfl hb122 <| sk rfl rfl rfl hb122 <| sk rfl rfl rfl hb122 <| wq rfl rfl rfl hb120 (.s 32 rfl (.k .nil)) (q_pickF rfl hb122).o <| wm rfl rfl rfl hb120 rfl rfl <| sk rfl rfl rfl rfl <| sk rfl rfl rfl rfl <| sk rfl rfl rfl rfl <| sk rfl rfl rfl rfl <| wq rfl rfl rfl hb120 (.s 38 rfl (.k .nil)) (q_pickF rfl rfl).o <| wq rfl rfl rfl hb118 (.s 23 rfl (.s 43 rfl .nil)) (q_pickF rfl hb120).o <| p2 rfl 17 rfl 44 rfl (q_pickT rfl hb118) ?_
       refine av rfl rfl <| WL.nil ?_
       exact QN.weaken (.one rfl (.nil _)) (Kj112 () false h)
    ·refine sk rfl rfl rfl hb118 <| sk rfl rfl rfl hb118 <| sk rfl rfl rfl hb118 <| sk rfl rfl rfl hb118 <| sk rfl rfl rfl hb118 <| sk rfl rfl rfl hb118 <| su rfl rfl rfl <| su rfl rfl rfl <| su rfl rfl rfl <| su rfl rfl rfl <| su rfl rfl rfl <| su rfl rfl rfl <| su rfl rfl rfl ?_
     refine su rfl rfl rfl <| su rfl rfl rfl <| su rfl rfl rfl <| su rfl rfl rfl <| su rfl rfl rfl <| su rfl rfl rfl <| su rfl rfl rfl <| su rfl rfl rfl <| su rfl rfl rfl <| su rfl rfl rfl <| su rfl rfl rfl <| su rfl rfl rfl <| su rfl rfl rfl ?_
     refine sk rfl rfl rfl hb118 <| pk rfl 17 rfl (q_pickF rfl hb118) <| av rfl rfl <| WL.nil ?_
     exact QN.weaken (.one rfl (.nil _)) (Kj112 () false h)
   ·refine sk rfl rfl rfl hb116 <| sk rfl rfl rfl hb116 <| pk rfl 13 rfl (q_pickF rfl hb116) <| mv rfl rfl <| sk rfl rfl rfl rfl <| sk rfl rfl rfl rfl <| sk rfl rfl rfl rfl <| sk rfl rfl rfl rfl <| sk rfl rfl rfl rfl <| sk rfl rfl rfl rfl <| su rfl rfl rfl <| su rfl rfl rfl <| su rfl rfl rfl ?_
    refine su rfl rfl rfl <| su rfl rfl rfl <| su rfl rfl rfl <| su rfl rfl rfl <| su rfl rfl rfl <| su rfl rfl rfl <| su rfl rfl rfl <| su rfl rfl rfl <| su rfl rfl rfl <| su rfl rfl rfl <| su rfl rfl rfl <| su rfl rfl rfl <| su rfl rfl rfl ?_
    refine su rfl rfl rfl <| su rfl rfl rfl <| su rfl rfl rfl <| su rfl rfl rfl <| sk rfl rfl rfl rfl <| pk rfl 17 rfl (q_pickF rfl rfl) <| av rfl rfl <| WL.nil ?_
    exact QN.weaken (.one rfl (.nil _)) (Kj112 () false h)
  ·refine sk rfl rfl rfl hb114 <| sk rfl rfl rfl hb114 <| pk rfl 9 rfl (q_pickF rfl hb114) <| mv rfl rfl <| sk rfl rfl rfl rfl <| sk rfl rfl rfl rfl <| pk rfl 13 rfl (q_pickF rfl rfl) <| mv rfl rfl <| sk rfl rfl rfl rfl <| sk rfl rfl rfl rfl <| sk rfl rfl rfl rfl <| sk rfl rfl rfl rfl <| sk rfl rfl rfl rfl ?_
   refine sk rfl rfl rfl rfl <| su rfl rfl rfl <| su rfl rfl rfl <| su rfl rfl rfl <| su rfl rfl rfl <| su rfl rfl rfl <| su rfl rfl rfl <| su rfl rfl rfl <| su rfl rfl rfl <| su rfl rfl rfl <| su rfl rfl rfl <| su rfl rfl rfl <| su rfl rfl rfl ?_
   refine su rfl rfl rfl <| su rfl rfl rfl <| su rfl rfl rfl <| su rfl rfl rfl <| su rfl rfl rfl <| su rfl rfl rfl <| su rfl rfl rfl <| su rfl rfl rfl <| sk rfl rfl rfl rfl <| pk rfl 17 rfl (q_pickF rfl rfl) <| av rfl rfl <| WL.nil ?_
   exact QN.weaken (.one rfl (.nil _)) (Kj112 () false h)
theorem ref21_Light.con (k : Nat) (a0 : Types) (a1 : Pattern) (a2 : Host) (r : Bool) (h : ref21_Light k a0 a1 a2 = some r) : Con Tryz.prog 24 [] [AggA [SlcA kNodeType a0.fNodes, SlcA kEdgeType a0.fEdges], AggA [SlcA kInt a1.fGraph.fNodes, SlcA kEdge a1.fGraph.fEdges, SlcA kSlot a1.fSlots, iA a1.fVars, SlcA kTest a1.fTests], AggA [SlcA kInt a2.fGraph.fNodes, SlcA kEdge a2.fGraph.fEdges, SlcA (kSl kInt) a2.fValues]] (RA (bA r)) := by
 unfold ref21_Light at h
 refine Con.of (N := 21) Tryz.func24 rfl rfl rfl fun w0_ fg_ => sr <| p1 rfl 0 rfl (q_box rfl (CellsOf.agg _)) <| p1 rfl 1 rfl (q_box rfl (CellsOf.agg _)) <| p1 rfl 2 rfl (q_box rfl (CellsOf.agg _)) <| ak rfl <| nt <| W.seq ?_
 refine W.jn1 (Γ := Unit) (fun (_ : Unit) (x6 : Bool) => [(6, bA x6)]) (fun (_ : Unit) (_ : Bool) => []) h (fun _ x6 h => ?_) (fun j106 Kj106 h => ?_)
 ·refine QN.then_ <| W.ret ?_
  cases h
  exact QR.f1 rfl rfl (.t rfl) (.id _)
 ·refine W.region <| lS rfl rfl sh42 rfl rfl ?_
  obtain ⟨t107, ht107, h⟩ := bind_s h
  refine p1 rfl 7 rfl (q_call (f := 14) (A := bA t107) (xs := [.tmp 7]) («as» := [AggA [SlcA kInt a1.fGraph.fNodes, SlcA kEdge a1.fGraph.fEdges, SlcA kSlot a1.fSlots, iA a1.fVars, SlcA kTest a1.fTests]]) rfl ca14 (ref21_Few.con k a1 t107 ht107) rfl) <| mv rfl rfl ?_
  rcases bif_s h with ⟨hb108, h⟩ | ⟨hb108, h⟩
  ·refine wq rfl rfl rfl hb108 (.s 5 rfl .nil) (q_loadS rfl sh60 (leB rfl) rfl).o ?_
   obtain ⟨t109, ht109, h⟩ := bind_s h
   refine wq rfl rfl rfl hb108 (.s 10 rfl .nil) (q_call (f := 70) (A := bA t109) (xs := [.tmp 10]) («as» := [AggA [SlcA kInt a2.fGraph.fNodes, SlcA kEdge a2.fGraph.fEdges, SlcA (kSl kInt) a2.fValues]]) rfl ca70 (ref15_Few.con k a2 t109 ht109) rfl).o <| p2 rfl 9 rfl 11 rfl (q_pickT rfl hb108) <| mv rfl rfl ?_
   rcases bif_s h with ⟨hb110, h⟩ | ⟨hb110, h⟩
   ·refine wq rfl rfl rfl hb110 (.s 3 rfl .nil) (q_loadS rfl sh35 (leB rfl) rfl).o <| wf rfl rfl rfl hb110 rfl rfl fo42_0 rfl <| wq rfl rfl rfl hb110 (.s 15 rfl .nil) (q_loadS rfl sh38 (leB rfl) rfl).o <| wf rfl rfl rfl hb110 rfl rfl fo60_0 rfl <| wq rfl rfl rfl hb110 (.s 17 rfl .nil) (q_loadS rfl sh38 (leB rfl) rfl).o ?_
    obtain ⟨t111, ht111, h⟩ := bind_s h
    refine wq rfl rfl rfl hb110 (.s 14 rfl (.s 16 rfl (.s 18 rfl .nil))) (q_call (f := 71) (A := bA t111) (xs := [.tmp 14, .tmp 16, .tmp 18]) («as» := [AggA [SlcA kNodeType a0.fNodes, SlcA kEdgeType a0.fEdges], AggA [SlcA kInt a1.fGraph.fNodes, SlcA kEdge a1.fGraph.fEdges], AggA [SlcA kInt a2.fGraph.fNodes, SlcA kEdge a2.fGraph.fEdges]]) rfl ca71 (ref17_Light.con k a0 a1.fGraph a2.fGraph t111 ht111) rfl).o <| p2 rfl 13 rfl 19 rfl (q_pickT rfl hb110) <| av rfl rfl <| WL.nil ?_
    exact QN.weaken (.one rfl (.nil _)) (Kj106 () t111 h)
   ·refine sk rfl rfl rfl hb110 <| sk rfl rfl rfl hb110 <| sk rfl rfl rfl hb110 <| sk rfl rfl rfl hb110 <| sk rfl rfl rfl hb110 <| sk rfl rfl rfl hb110 <| pk rfl 13 rfl (q_pickF rfl hb110) <| av rfl rfl <| WL.nil ?_
    exact QN.weaken (.one rfl (.nil _)) (Kj106 () false h)
  ·refine sk rfl rfl rfl hb108 <| sk rfl rfl rfl hb108 <| pk rfl 9 rfl (q_pickF rfl hb108) <| mv rfl rfl <| sk rfl rfl rfl rfl <| sk rfl rfl rfl rfl <| sk rfl rfl rfl rfl <| sk rfl rfl rfl rfl <| sk rfl rfl rfl rfl <| sk rfl rfl rfl rfl <| pk rfl 13 rfl (q_pickF rfl rfl) <| av rfl rfl <| WL.nil ?_
   exact QN.weaken (.one rfl (.nil _)) (Kj106 () false h)
theorem ref05_Copied.con (k : Nat) (a0 : Graph) (r : Graph) (h : ref05_Copied k a0 = some r) : Con Tryz.prog 46 [] [AggA [SlcA kInt a0.fNodes, SlcA kEdge a0.fEdges]] (fun O' A => ∃ u0 u1, O' = [SlE 3 u0 kInt r.fNodes, SlE 109 u1 kEdge r.fEdges] ∧ A = AggA [HdA u0, HdA u1]) := by
 unfold ref05_Copied at h
 refine Con.of (N := 12) Tryz.func46 rfl rfl rfl fun w0_ fg_ => sr <| p1 rfl 0 rfl (q_box rfl (CellsOf.agg _)) <| WL.w [] rfl (Wanted.plain rfl) rfl rfl .nil (w_alloc rfl z38 (l := [EqA (.slice none 0 0), EqA (.slice none 0 0)]) rfl) ?_
 rintro _ _ ⟨b100, rfl, rfl⟩
 refine nt <| W.seq <| W.drawK [(0, false), (1, false), (2, false), (4, false), (5, false), (6, false)] [3, 7, 8, 9] (bm [0, 0, 2, 7, 0, 0, 32, 127, 255, 511]) mx (by kernel_rfl) <| DK.cons rfl rfl (.p rfl .nil rfl (q_lit0 rfl el26 gr3)) <| df rfl rfl rfl fo38_0 rfl <| dl rfl rfl rfl sh26 ?_
 obtain ⟨c109, h⟩ := ite_n h
 refine DK.cons rfl rfl (.p rfl .nil rfl (q_lit0 rfl el36 gr109)) <| df rfl rfl rfl fo38_1 rfl <| dl rfl rfl rfl sh36 ?_
 obtain ⟨c111, h⟩ := ite_n h
 refine DK.nil <| CSteps.w [] rfl rfl rfl rfl (.s 3 rfl (.s 5 rfl .nil)) rfl (w_appendZ (kd := kInt) rfl el26 rfl gr3 c109) ?_
 rintro _ _ ⟨v110, rfl, rfl⟩
 refine CSteps.w [] rfl rfl rfl rfl (.s 7 rfl (.s 9 rfl .nil)) rfl (w_appendZ (kd := kEdge) rfl el36 rfl gr109 c111) ?_
 rintro _ _ ⟨v112, rfl, rfl⟩
 refine CSteps.p rfl rfl rfl (.s 6 rfl (.s 10 rfl .nil)) rfl (q_build (is := [0, 1]) (xs := [.tmp 6, .tmp 10]) (L := [HdA v110, HdA v112]) rfl rfl z38 pl38 rfl rfl (.cons (CellsOf.one rfl) (.cons (CellsOf.one rfl) .nil)) rfl) <| CSteps.w0 [2] rfl rfl rfl (.s 2 rfl (.s 11 rfl .nil)) rfl (w_store (L := [HdA v110, HdA v112]) rfl sh38 (CellsOf.agg _) rfl rfl (leB rfl) rfl) ?_
 rintro _ _ ⟨rfl, rfl⟩
 refine CSteps.nil <| QN.to (StTo.still [0] 2 rfl rfl) <| QN.weaken (env' := [(2, _)]) (.one rfl (.nil _)) <| QN.then_ <| W.ret ?_
 cases h
 refine QR.order [1, 0] rfl ?_
 exact QR.r1 rfl rfl (.ps rfl sh38 rfl) ⟨v110, v112, rfl, rfl⟩
theorem ref21_Copied.con (k : Nat) (a0 : Pattern) (r : Pattern) (h : ref21_Copied k a0 = some r) : Con Tryz.prog 16 [] [AggA [SlcA kInt a0.fGraph.fNodes, SlcA kEdge a0.fGraph.fEdges, SlcA kSlot a0.fSlots, iA a0.fVars, SlcA kTest a0.fTests]] (RA (AggA [SlcA kInt r.fGraph.fNodes, SlcA kEdge r.fGraph.fEdges, SlcA kSlot r.fSlots, iA r.fVars, SlcA kTest r.fTests])) := by
 unfold ref21_Copied at h
 refine Con.of (N := 17) Tryz.func16 rfl rfl rfl fun w0_ fg_ => sr <| p1 rfl 0 rfl (q_box rfl (CellsOf.agg _)) <| WL.w [] rfl (Wanted.plain rfl) rfl rfl .nil (w_alloc rfl z42 (l := [EqA (.slice none 0 0), EqA (.slice none 0 0), EqA (.slice none 0 0), iA 0, EqA (.slice none 0 0)]) rfl) ?_
 rintro _ _ ⟨b100, rfl, rfl⟩
 refine nt <| W.seq <| W.drawK [(0, false), (1, false), (3, false), (4, false), (5, false), (7, false), (8, false), (9, false), (10, false), (11, false)] [2, 6, 12, 13, 14] (bm [0, 1, 3, 0, 0, 16, 63, 0, 128, 0, 0, 1024, 3711, 8191, 16383]) mx (by kernel_rfl) <| df rfl rfl rfl fo42_0 rfl <| DK.cons rfl rfl (.p rfl (.s 3 rfl .nil) rfl (q_loadS rfl sh38 (leB rfl) rfl)) ?_
 obtain ⟨t111, ht111, h⟩ := bind_s h
 refine DK.cons rfl rfl (.p rfl .nil rfl (q_lit0 rfl el39 gr113)) <| df rfl rfl rfl fo42_1 rfl <| dl rfl rfl rfl sh39 ?_
 obtain ⟨c114, h⟩ := ite_n h
 refine df rfl rfl rfl fo42_2 rfl <| dl rfl rfl rfl sh3 <| DK.cons rfl rfl (.p rfl .nil rfl (q_lit0 rfl el40 gr86)) <| df rfl rfl rfl fo42_3 rfl <| dl rfl rfl rfl sh40 ?_
 obtain ⟨c115, h⟩ := ite_n h
 refine DK.nil <| CSteps.w [] rfl rfl rfl rfl (.s 4 rfl .nil) rfl (w_callI (f := 46) (xs := [.tmp 4]) («as» := [AggA [SlcA kInt a0.fGraph.fNodes, SlcA kEdge a0.fGraph.fEdges]]) rfl ca46 (ref05_Copied.con k a0.fGraph t111 ht111) rfl (.cons (Imp.id _) .nil)) ?_
 rintro _ _ ⟨v112, v113, rfl, rfl⟩
 refine CSteps.p rfl rfl rfl (.s 6 rfl (.s 8 rfl .nil)) rfl (QS.of_new (w_appendZ (kd := kSlot) rfl el39 rfl gr113 c114)) <| CSteps.p rfl rfl rfl (.s 12 rfl (.s 14 rfl .nil)) rfl (QS.of_new (w_appendZ (kd := kTest) rfl el40 rfl gr86 c115)) <| CSteps.p rfl rfl rfl (.s 5 rfl (.s 9 rfl (.s 11 rfl (.s 15 rfl .nil)))) rfl (q_build (is := [0, 1, 2, 3]) (xs := [.tmp 5, .tmp 9, .tmp 11, .tmp 15]) (L := [HdA v112, HdA v113, SlcA kSlot a0.fSlots, iA a0.fVars, SlcA kTest a0.fTests]) rfl rfl z42 pl42 rfl rfl (.cons (CellsOf.agg _) (.cons (CellsOf.one rfl) (.cons (CellsOf.one rfl) (.cons (CellsOf.one rfl) .nil)))) rfl) <| CSteps.w0 [2] rfl rfl rfl (.s 2 rfl (.s 16 rfl .nil)) rfl (w_store (L := [HdA v112, HdA v113, SlcA kSlot a0.fSlots, iA a0.fVars, SlcA kTest a0.fTests]) rfl sh42 (CellsOf.agg _) rfl rfl (leB rfl) rfl) ?_
 rintro _ _ ⟨rfl, rfl⟩
 refine CSteps.nil <| QN.to (StTo.still [0] 2 rfl rfl) <| QN.weaken (env' := [(2, _)]) (.one rfl (.nil _)) <| QN.then_ <| W.ret ?_
 cases h
 exact QR.f1 rfl rfl (.ps rfl sh42 rfl) (.agg (.cons (.slc 0 rfl) (.cons (.slc 1 rfl) (.cons (.id _) (.cons (.id _) (.cons (.id _) .nil))))))
theorem ref15_Copied.con (k : Nat) (a0 : Host) (r : Host) (h : ref15_Copied k a0 = some r) : Con Tryz.prog 26 [] [AggA [SlcA kInt a0.fGraph.fNodes, SlcA kEdge a0.fGraph.fEdges, SlcA (kSl kInt) a0.fValues]] (RA (AggA [SlcA kInt r.fGraph.fNodes, SlcA kEdge r.fGraph.fEdges, SlcA (kSl kInt) r.fValues])) := by
 unfold ref15_Copied at h
 refine Con.of (N := 29) Tryz.func26 rfl rfl rfl fun w0_ fg_ => sr <| p1 rfl 0 rfl (q_box rfl (CellsOf.agg _)) <| WL.w [] rfl (Wanted.plain rfl) rfl rfl .nil (w_alloc rfl z60 (l := [EqA (.slice none 0 0), EqA (.slice none 0 0), EqA (.slice none 0 0)]) rfl) ?_
 rintro _ _ ⟨b100, rfl, rfl⟩
 refine nx <| fd rfl rfl fo60_0 rfl <| lS rfl rfl sh38 rfl rfl ?_
 obtain ⟨t101, ht101, h⟩ := bind_s h
 refine WL.w [] rfl (Wanted.plain rfl) rfl rfl (.s 6 rfl .nil) (w_callI (f := 46) (xs := [.tmp 6]) («as» := [AggA [SlcA kInt a0.fGraph.fNodes, SlcA kEdge a0.fGraph.fEdges]]) rfl ca46 (ref05_Copied.con k a0.fGraph t101 ht101) rfl (.cons (Imp.id _) .nil)) ?_
 rintro _ _ ⟨v102, v103, rfl, rfl⟩
 refine p1 rfl 7 rfl (q_build (is := [0]) (xs := [.tmp 7]) (L := [HdA v102, HdA v103, EqA (.slice none 0 0)]) rfl rfl z60 pl60 rfl rfl (.cons (CellsOf.agg _) .nil) rfl) <| WL.w [] rfl (Wanted.plain rfl) rfl rfl .nil (w_alloc rfl z60 (l := [EqA (.slice none 0 0), EqA (.slice none 0 0), EqA (.slice none 0 0)]) rfl) ?_
 rintro _ _ ⟨b104, rfl, rfl⟩
 refine WL.w0 [0] rfl (Wanted.plain rfl) rfl (.s 3 rfl (.s 8 rfl .nil)) (w_store (L := [HdA v102, HdA v103, EqA (.slice none 0 0)]) rfl sh60 (CellsOf.agg _) rfl rfl (leB rfl) rfl) ?_
 rintro _ _ ⟨rfl, rfl⟩
 refine nt <| W.seq <| sr <| ak rfl <| nt <| W.block <| W.to (StTo.boxImp [0] rfl (.cons (Imp.id _) (.cons (Imp.id _) (.cons Imp.nilHd .nil)))) <| W.to (StTo.newNil 26 (kSl kInt)) <| W.order [4, 1, 1, 1, 0] rfl ?_
 refine W.loop2 (Γ := Value) (fun (_ : Value) (_ : (List (List Int))) (x4 : Int) => [(1, PtrA [SlcA kInt a0.fGraph.fNodes, SlcA kEdge a0.fGraph.fEdges, SlcA (kSl kInt) a0.fValues]), (2, EqA (.pointer (some ⟨b100, 0, none⟩))), (3, EqA (.pointer (some ⟨b104, 0, none⟩))), (4, iA x4)]) (fun (g0 : Value) (y2 : (List (List Int))) (_ : Int) => [BoxE b100 [EqA (.slice none 0 0), EqA (.slice none 0 0), EqA (.slice none 0 0)], BoxE b104 [HdA v102, HdA v103, HdA g0], SlE 3 v102 kInt t101.fNodes, SlE 109 v103 kEdge t101.fEdges, SlE 26 g0 (kSl kInt) y2]) h (.slice none 0 0) (.o4 rfl (.nil _)) rfl (fun rec0 K0 next0 g0 y2 x4 h => ?_)
 unfold ref15_Copied.b0 at h
 refine W.seq <| sr <| mv rfl rfl <| fd rfl rfl fo60_1 rfl <| ld rfl rfl sh58 <| p1 rfl 11 rfl (q_len rfl elS58) <| p2 rfl 9 rfl 12 rfl (q_int rfl rfl) <| nt ?_
 refine W.condP h rfl (fun hb140 h => ?_) (fun hb140 h => ?_)
 ·refine W.skip <| QN.then_ <| W.seq <| W.block <| W.drawK [(0, false), (1, true), (2, false), (3, false), (4, false), (5, false), (6, false), (7, false), (8, false), (9, false)] [10, 11, 12] (bm [0, 1, 0, 0, 8, 0, 56, 120, 252, 508, 1023, 2047, 4095]) mx (by kernel_rfl) <| DK.cons rfl rfl (.p rfl (.s 3 rfl .nil) rfl (q_fieldP rfl fo60_1)) <| DK.cons rfl rfl (.o rfl (.s 16 rfl .nil) rfl (q_loadB rfl sh58 (i := 1) rfl rfl)) <| DK.cons rfl rfl (.p rfl .nil rfl (q_lit0 rfl el26 gr3)) <| df rfl rfl rfl fo60_1 rfl <| dl rfl rfl rfl sh58 <| dm rfl rfl rfl ?_
  obtain ⟨c149, h⟩ := ite_n h
  refine DK.cons rfl rfl (.p rfl (.s 20 rfl (.s 21 rfl .nil)) rfl (q_index rfl el58 rfl c149.1 c149.2)) <| dl rfl rfl rfl sh26 ?_
  obtain ⟨c150, h⟩ := ite_n h
  refine DK.cons rfl rfl (.p rfl (.s 18 rfl (.s 23 rfl .nil)) rfl (QS.of_new (w_appendZ (kd := kInt) rfl el26 rfl gr3 c150))) <| DK.cons rfl rfl (.p rfl (.s 24 rfl .nil) rfl (q_lit (kd := (kSl kInt)) (ps := [(0, .tmp 24)]) (xs := [.tmp 24]) («as» := [SlcA kInt (rd a0.fValues x4)]) (ys := [(rd a0.fValues x4)]) rfl rfl el58 rfl gr26 rfl rfl rfl (.cons (CellsOf.one rfl) .nil))) ?_
  obtain ⟨c151, h⟩ := ite_n h
  refine DK.nil <| CSteps.w [4] rfl rfl rfl rfl (.s 17 rfl (.s 25 rfl .nil)) rfl (w_append (kd := (kSl kInt)) rfl el58 rfl gr26 c151) ?_
  rintro _ _ ⟨v152, rfl, rfl⟩
  refine CSteps.p rfl rfl rfl (.s 3 rfl .nil) rfl (q_fieldP rfl fo60_1) <| CSteps.w0 [2] rfl rfl rfl (.s 27 rfl (.s 26 rfl .nil)) rfl (w_store (L := [HdA v102, HdA v103, HdA v152]) rfl sh58 (CellsOf.one rfl) rfl rfl (leB rfl) rfl) ?_
  rintro _ _ ⟨rfl, rfl⟩
  refine CSteps.nil <| QN.block <| QN.weaken (env' := [(4, _), (3, _), (2, _), (1, _)]) (.o4 rfl (.nil _)) <| QN.then_ <| W.region <| mv rfl rfl ?_
  obtain ⟨c153, h⟩ := ite_n h
  refine pk rfl 14 rfl (q_addR rfl c153) <| av rfl rfl <| WL.nil <| QN.order [2, 0, 1, 1, 0] rfl ?_
  exact next0 v152 (y2 ++ [(rd a0.fValues x4)]) (x4 + 1) _ h (.o4 rfl (.nil _))
 ·refine W.exit <| QX.then_ <| QX.then_ <| QX.here <| QN.weaken (env' := [(3, _), (2, _)]) (.o2 rfl (.nil _)) <| QN.then_ <| sr <| WL.q (Wanted.plain rfl) rfl rfl (.s 3 rfl .nil) (q_loadBS (l' := [HdA v102, HdA v103, HdA g0]) rfl sh60 (i := 1) rfl rfl rfl) <| WL.w0 [0] rfl (Wanted.plain rfl) rfl (.s 2 rfl (.s 28 rfl .nil)) (w_store (L := [HdA v102, HdA v103, HdA g0]) rfl sh60 (CellsOf.agg _) rfl rfl (leB rfl) rfl) ?_
  rintro _ _ ⟨rfl, rfl⟩
  refine WL.nil <| QN.to (StTo.still [0] 2 rfl rfl) <| QN.then_ <| W.ret ?_
  cases h
  exact QR.f1 rfl rfl (.ps rfl sh60 rfl) (.agg (.cons (.slc 1 rfl) (.cons (.slc 2 rfl) (.cons (.slc 3 rfl) .nil))))
theorem search_shape.con (k : Nat) (a0 : Types) (a1 : Graph) (a2 : Graph) (a3 : Morphism) (r : Int) (h : search_shape k a0 a1 a2 a3 = some r) : Con Tryz.prog 120 [] [AggA [SlcA kNodeType a0.fNodes, SlcA kEdgeType a0.fEdges], AggA [SlcA kInt a1.fNodes, SlcA kEdge a1.fEdges], AggA [SlcA kInt a2.fNodes, SlcA kEdge a2.fEdges], AggA [SlcA kInt a3.fNodes, SlcA kInt a3.fEdges]] (RA (iA r)) := by
 unfold search_shape at h
 refine Con.of (N := 121) Tryz.func120 rfl rfl rfl fun w0_ fg_ => sr <| p1 rfl 0 rfl (q_box rfl (CellsOf.agg _)) <| p1 rfl 1 rfl (q_box rfl (CellsOf.agg _)) <| p1 rfl 2 rfl (q_box rfl (CellsOf.agg _)) <| p1 rfl 3 rfl (q_box rfl (CellsOf.agg _)) <| ak rfl <| nt <| W.seq <| W.seq ?_
 refine W.jn1 (Γ := Unit) (fun (_ : Unit) (x31 : Bool) => [(4, PtrA [SlcA kNodeType a0.fNodes, SlcA kEdgeType a0.fEdges]), (5, PtrA [SlcA kInt a1.fNodes, SlcA kEdge a1.fEdges]), (6, PtrA [SlcA kInt a2.fNodes, SlcA kEdge a2.fEdges]), (7, PtrA [SlcA kInt a3.fNodes, SlcA kInt a3.fEdges]), (31, bA x31)]) (fun (_ : Unit) (_ : Bool) => []) h (fun _ x31 h => ?_) (fun j102 Kj102 h => ?_)
 ·refine QN.then_ ?_
  refine W.condP h rfl (fun hb103 h => ?_) (fun hb103 h => ?_)
  ·refine sr <| ak rfl <| nt <| W.ret <| QR.then_ ?_
   cases h
   exact QR.f1 rfl rfl (.t rfl) (.id _)
  ·refine W.skip <| QN.then_ <| sr <| lS rfl rfl sh35 rfl rfl ?_
   obtain ⟨t104, ht104, h⟩ := bind_s h
   refine p1 rfl 32 rfl (q_call (f := 159) (A := SlcA (kSl kBool) t104) (xs := [.tmp 32]) («as» := [AggA [SlcA kNodeType a0.fNodes, SlcA kEdgeType a0.fEdges]]) rfl ca159 (search_below.con k a0 t104 ht104) rfl) <| av rfl rfl <| nt <| W.seq <| sr <| fd rfl rfl fo64_0 rfl <| ld rfl rfl sh26 <| p1 rfl 35 rfl (q_len rfl elS26) <| mk_ rfl <| nt ?_
   refine W.block ?_
   refine W.loop1 (Γ := Unit) (fun (_ : Unit) (x37 : Int) => [(5, PtrA [SlcA kInt a1.fNodes, SlcA kEdge a1.fEdges]), (6, PtrA [SlcA kInt a2.fNodes, SlcA kEdge a2.fEdges]), (7, PtrA [SlcA kInt a3.fNodes, SlcA kInt a3.fEdges]), (9, SlcA (kSl kBool) t104), (35, SlcA kInt a3.fNodes), (36, iA (a3.fNodes.length : Int)), (37, iA x37)]) (fun (_ : Unit) (_ : Int) => []) h () (.o4 rfl (.o2 rfl (.one rfl (.nil _)))) rfl (fun rec0 K0 next0 _ x37 h => ?_)
   unfold search_shape.b0 at h
   refine sr <| p2 rfl 37 rfl 36 rfl (q_int rfl rfl) <| nt <| W.seq ?_
   refine W.condP h rfl (fun hb357 h => ?_) (fun hb357 h => ?_)
   ·refine W.skip <| QN.then_ <| W.seq <| W.block <| sr <| mv rfl rfl ?_
    obtain ⟨c358, h⟩ := ite_n h
    refine p2 rfl 35 rfl 37 rfl (q_index rfl el26 rfl c358.1 c358.2) <| ld rfl rfl sh3 <| av rfl rfl <| av rfl rfl <| nt <| W.seq <| W.seq ?_
    refine W.jn1 (Γ := Unit) (fun (_ : Unit) (x50 : Bool) => [(5, PtrA [SlcA kInt a1.fNodes, SlcA kEdge a1.fEdges]), (6, PtrA [SlcA kInt a2.fNodes, SlcA kEdge a2.fEdges]), (7, PtrA [SlcA kInt a3.fNodes, SlcA kInt a3.fEdges]), (9, SlcA (kSl kBool) t104), (35, SlcA kInt a3.fNodes), (36, iA (a3.fNodes.length : Int)), (37, iA x37), (10, iA x37), (11, iA (rd a3.fNodes x37)), (50, bA x50)]) (fun (_ : Unit) (_ : Bool) => []) h (fun _ x50 h => ?_) (fun j361 Kj361 h => ?_)
    ·refine QN.then_ ?_
     refine W.condP h rfl (fun hb362 h => ?_) (fun hb362 h => ?_)
     ·refine sr <| ak rfl <| WL.nil <| QN.weaken (env' := [(8, _)]) (.one rfl (.nil _)) <| QN.then_ <| W.ret <| QR.then_ <| QR.block <| QR.then_ <| QR.then_ <| QR.block <| QR.then_ ?_
      cases h
      exact QR.f1 rfl rfl (.t rfl) (.id _)
     ·refine W.skip <| QN.then_ <| W.seq <| W.drawK [(0, false), (1, false), (2, false), (3, false), (4, false), (5, false), (6, false), (7, false), (8, false), (9, false), (10, false), (11, false), (12, false), (13, false), (14, false), (15, false)] [] (bm [0, 0, 2, 0, 14, 30, 63, 127, 0, 256, 0, 1792, 3840, 8191, 16383, 32767]) mx (by kernel_rfl) <| dm rfl rfl rfl <| df rfl rfl rfl fo38_0 rfl <| dl rfl rfl rfl sh26 <| dm rfl rfl rfl ?_
      obtain ⟨c371, h⟩ := ite_n h
      refine DK.cons rfl rfl (.p rfl (.s 53 rfl (.s 54 rfl .nil)) rfl (q_index rfl el26 rfl c371.1 c371.2)) <| dl rfl rfl rfl sh3 ?_
      obtain ⟨c372, h⟩ := ite_n h
      refine DK.cons rfl rfl (.p rfl (.s 51 rfl (.s 56 rfl .nil)) rfl (q_index rfl el200 rfl c372.1 c372.2)) <| dl rfl rfl rfl sh111 <| df rfl rfl rfl fo38_0 rfl <| dl rfl rfl rfl sh26 <| dm rfl rfl rfl ?_
      obtain ⟨c373, h⟩ := ite_n h
      refine DK.cons rfl rfl (.p rfl (.s 60 rfl (.s 61 rfl .nil)) rfl (q_index rfl el26 rfl c373.1 c373.2)) <| dl rfl rfl rfl sh3 ?_
      obtain ⟨c374, h⟩ := ite_n h
      refine DK.cons rfl rfl (.p rfl (.s 58 rfl (.s 63 rfl .nil)) rfl (q_index rfl el111 rfl c374.1 c374.2)) <| dl rfl rfl rfl sh4 <| DK.cons rfl rfl (.p rfl (.s 65 rfl .nil) rfl (q_not rfl)) <| DK.nil <| CSteps.nil <| QN.weaken (env' := [(66, _), (37, _), (36, _), (35, _), (9, _), (7, _), (6, _), (5, _)]) (.o4 rfl (.o4 rfl (.nil _))) <| QN.then_ ?_
      refine W.condP h rfl (fun hb375 h => ?_) (fun hb375 h => ?_)
      ·refine sr <| ak rfl <| WL.nil <| QN.weaken (env' := [(8, _)]) (.one rfl (.nil _)) <| QN.then_ <| W.ret <| QR.block <| QR.then_ <| QR.then_ <| QR.block <| QR.then_ ?_
       cases h
       exact QR.f1 rfl rfl (.t rfl) (.id _)
      ·refine W.skip <| QN.block <| QN.then_ <| W.region ?_
       obtain ⟨c376, h⟩ := ite_n h
       refine pk rfl 37 rfl (q_addR rfl c376) <| mv rfl rfl <| WL.nil ?_
       exact next0 () (x37 + 1) _ h (.o4 rfl (.o2 rfl (.one rfl (.nil _))))
    ·refine W.region <| mv rfl rfl <| pk rfl 42 rfl (q_int rfl rfl) <| mv rfl rfl ?_
     rcases bif_s h with ⟨hb377, h⟩ | ⟨hb377, h⟩
     ·refine sk rfl rfl rfl hb377 <| sk rfl rfl rfl hb377 <| sk rfl rfl rfl hb377 <| sk rfl rfl rfl hb377 <| sk rfl rfl rfl hb377 <| pk rfl 44 rfl (q_pickT rfl hb377) <| WL.nil ?_
      exact QN.weaken (.o4 rfl (.o4 rfl (.o2 rfl (.nil _)))) (Kj361 () true h)
     ·refine wm rfl rfl rfl hb377 rfl rfl <| wf rfl rfl rfl hb377 rfl rfl fo38_0 rfl <| wl rfl rfl rfl hb377 rfl rfl sh26 <| wq rfl rfl rfl hb377 (.s 47 rfl .nil) (q_len rfl elS26).o <| wq rfl rfl rfl hb377 (.s 45 rfl (.s 48 rfl .nil)) (q_int rfl rfl).o <| p2 rfl 44 rfl 49 rfl (q_pickF rfl hb377) <| WL.nil ?_
      exact QN.weaken (.o4 rfl (.o4 rfl (.o2 rfl (.nil _)))) (Kj361 () (decide ((rd a3.fNodes x37) ≥ (a2.fNodes.length : Int))) h)
   ·refine W.exit <| QX.then_ <| QX.then_ <| QX.here <| QN.then_ <| W.seq <| sr <| fd rfl rfl fo64_1 rfl <| ld rfl rfl sh26 <| p1 rfl 69 rfl (q_len rfl elS26) <| mk_ rfl <| WL.nil ?_
    refine QN.then_ <| W.block ?_
    refine W.loop1 (Γ := Unit) (fun (_ : Unit) (x71 : Int) => [(5, PtrA [SlcA kInt a1.fNodes, SlcA kEdge a1.fEdges]), (6, PtrA [SlcA kInt a2.fNodes, SlcA kEdge a2.fEdges]), (7, PtrA [SlcA kInt a3.fNodes, SlcA kInt a3.fEdges]), (69, SlcA kInt a3.fEdges), (70, iA (a3.fEdges.length : Int)), (71, iA x71)]) (fun (_ : Unit) (_ : Int) => []) h () (.o4 rfl (.o2 rfl (.nil _))) rfl (fun rec1 K1 next1 _ x71 h => ?_)
    unfold search_shape.b1 at h
    refine sr <| p2 rfl 71 rfl 70 rfl (q_int rfl rfl) <| nt <| W.seq ?_
    refine W.condP h rfl (fun hb448 h => ?_) (fun hb448 h => ?_)
    ·refine W.skip <| QN.then_ <| W.seq <| W.block <| sr <| mv rfl rfl ?_
     obtain ⟨c449, h⟩ := ite_n h
     refine p2 rfl 69 rfl 71 rfl (q_index rfl el26 rfl c449.1 c449.2) <| ld rfl rfl sh3 <| av rfl rfl <| av rfl rfl <| nt <| W.seq <| W.seq ?_
     refine W.jn1 (Γ := Unit) (fun (_ : Unit) (x84 : Bool) => [(5, PtrA [SlcA kInt a1.fNodes, SlcA kEdge a1.fEdges]), (6, PtrA [SlcA kInt a2.fNodes, SlcA kEdge a2.fEdges]), (7, PtrA [SlcA kInt a3.fNodes, SlcA kInt a3.fEdges]), (69, SlcA kInt a3.fEdges), (70, iA (a3.fEdges.length : Int)), (71, iA x71), (12, iA x71), (13, iA (rd a3.fEdges x71)), (84, bA x84)]) (fun (_ : Unit) (_ : Bool) => []) h (fun _ x84 h => ?_) (fun j452 Kj452 h => ?_)
     ·refine QN.then_ ?_
      refine W.condP h rfl (fun hb453 h => ?_) (fun hb453 h => ?_)
      ·refine sr <| ak rfl <| WL.nil <| QN.weaken (env' := [(8, _)]) (.one rfl (.nil _)) <| QN.then_ <| W.ret <| QR.then_ <| QR.block <| QR.then_ <| QR.then_ <| QR.block <| QR.then_ ?_
       cases h
       exact QR.f1 rfl rfl (.t rfl) (.id _)
      ·refine W.skip <| QN.then_ <| W.seq ?_
       refine W.jn0 (Γ := Unit) (fun (_ : Unit) => [(5, PtrA [SlcA kInt a1.fNodes, SlcA kEdge a1.fEdges]), (6, PtrA [SlcA kInt a2.fNodes, SlcA kEdge a2.fEdges]), (7, PtrA [SlcA kInt a3.fNodes, SlcA kInt a3.fEdges]), (69, SlcA kInt a3.fEdges), (70, iA (a3.fEdges.length : Int)), (71, iA x71), (14, PtrA [iA ((rd a1.fEdges x71).fType), iA ((rd a1.fEdges x71).fFrom), iA ((rd a1.fEdges x71).fTo)]), (15, PtrA [iA ((rd a2.fEdges (rd a3.fEdges x71)).fType), iA ((rd a2.fEdges (rd a3.fEdges x71)).fFrom), iA ((rd a2.fEdges (rd a3.fEdges x71)).fTo)])]) (fun (_ : Unit) => []) h (fun _ h => ?_) (fun j463 Kj463 h => ?_)
       ·refine QN.then_ <| W.seq <| sr <| fd rfl rfl fo109_0 rfl <| ld rfl rfl sh3 <| fd rfl rfl fo109_0 rfl <| ld rfl rfl sh3 <| p2 rfl 96 rfl 98 rfl (q_int rfl rfl) <| nt ?_
        refine W.condP h rfl (fun hb464 h => ?_) (fun hb464 h => ?_)
        ·refine sr <| ak rfl <| WL.nil <| QN.weaken (env' := [(8, _)]) (.one rfl (.nil _)) <| QN.then_ <| W.ret <| QR.then_ <| QR.block <| QR.then_ <| QR.then_ <| QR.block <| QR.then_ ?_
         cases h
         exact QR.f1 rfl rfl (.t rfl) (.id _)
        ·refine W.skip <| QN.then_ <| W.seq ?_
         refine W.jn1 (Γ := Unit) (fun (_ : Unit) (x119 : Bool) => [(5, PtrA [SlcA kInt a1.fNodes, SlcA kEdge a1.fEdges]), (6, PtrA [SlcA kInt a2.fNodes, SlcA kEdge a2.fEdges]), (7, PtrA [SlcA kInt a3.fNodes, SlcA kInt a3.fEdges]), (69, SlcA kInt a3.fEdges), (70, iA (a3.fEdges.length : Int)), (71, iA x71), (119, bA x119)]) (fun (_ : Unit) (_ : Bool) => []) h (fun _ x119 h => ?_) (fun j472 Kj472 h => ?_)
         ·refine QN.then_ ?_
          refine W.condP h rfl (fun hb473 h => ?_) (fun hb473 h => ?_)
          ·refine sr <| ak rfl <| WL.nil <| QN.weaken (env' := [(8, _)]) (.one rfl (.nil _)) <| QN.then_ <| W.ret <| QR.block <| QR.then_ <| QR.then_ <| QR.block <| QR.then_ ?_
           cases h
           exact QR.f1 rfl rfl (.t rfl) (.id _)
          ·refine W.skip <| QN.block <| QN.then_ <| W.region ?_
           obtain ⟨c474, h⟩ := ite_n h
           refine pk rfl 71 rfl (q_addR rfl c474) <| mv rfl rfl <| WL.nil ?_
           exact next1 () (x71 + 1) _ h (.o4 rfl (.o2 rfl (.nil _)))
         ·refine W.drawK [(0, false), (1, false), (2, false), (3, false), (4, false), (5, false), (6, false), (7, false), (8, false), (9, false), (10, false), (11, false), (12, false), (13, false), (14, false), (15, false), (16, false), (17, false), (18, false), (19, false)] [] (bm [0, 1, 0, 4, 15, 31, 0, 64, 255, 511, 1023, 2047, 1023, 5119, 16383, 32767, 1023, 66559, 262143, 524287]) mx (by kernel_rfl) <| df rfl rfl rfl fo64_0 rfl <| dl rfl rfl rfl sh26 <| df rfl rfl rfl fo109_1 rfl <| dl rfl rfl rfl sh3 ?_
          obtain ⟨c475, h⟩ := ite_n h
          refine DK.cons rfl rfl (.p rfl (.s 101 rfl (.s 103 rfl .nil)) rfl (q_index rfl el26 rfl c475.1 c475.2)) <| dl rfl rfl rfl sh3 <| df rfl rfl rfl fo109_1 rfl <| dl rfl rfl rfl sh3 <| DK.cons rfl rfl (.p rfl (.s 105 rfl (.s 107 rfl .nil)) rfl (q_int rfl rfl)) <| dm rfl rfl rfl ?_
          rcases bif_s h with ⟨hb476, h⟩ | ⟨hb476, h⟩
          ·refine dx rfl rfl rfl hb476 <| dx rfl rfl rfl hb476 <| dx rfl rfl rfl hb476 <| dx rfl rfl rfl hb476 <| dx rfl rfl rfl hb476 <| dx rfl rfl rfl hb476 <| dx rfl rfl rfl hb476 <| dx rfl rfl rfl hb476 <| dx rfl rfl rfl hb476 <| DK.cons rfl rfl (.p rfl (.s 109 rfl (.k .nil)) rfl (q_pickT rfl hb476)) <| DK.nil <| CSteps.nil ?_
           exact QN.weaken (.o4 rfl (.o2 rfl (.one rfl (.nil _)))) (Kj472 () true h)
          ·refine DK.cons rfl rfl (.gp rfl rfl rfl hb476 (.s 7 rfl .nil) rfl (q_field rfl fo64_0 rfl)) <| DK.cons rfl rfl (.gp rfl rfl rfl hb476 (.s 110 rfl .nil) rfl (q_load rfl sh26)) <| DK.cons rfl rfl (.gp rfl rfl rfl hb476 (.s 14 rfl .nil) rfl (q_field rfl fo109_2 rfl)) <| DK.cons rfl rfl (.gp rfl rfl rfl hb476 (.s 112 rfl .nil) rfl (q_load rfl sh3)) ?_
           obtain ⟨c477, h⟩ := ite_n h
           refine DK.cons rfl rfl (.gp rfl rfl rfl hb476 (.s 111 rfl (.s 113 rfl .nil)) rfl (q_index rfl el26 rfl c477.1 c477.2)) <| DK.cons rfl rfl (.gp rfl rfl rfl hb476 (.s 114 rfl .nil) rfl (q_load rfl sh3)) <| DK.cons rfl rfl (.gp rfl rfl rfl hb476 (.s 15 rfl .nil) rfl (q_field rfl fo109_2 rfl)) <| DK.cons rfl rfl (.gp rfl rfl rfl hb476 (.s 116 rfl .nil) rfl (q_load rfl sh3)) <| DK.cons rfl rfl (.gp rfl rfl rfl hb476 (.s 115 rfl (.s 117 rfl .nil)) rfl (q_int rfl rfl)) <| DK.cons rfl rfl (.p rfl (.s 109 rfl (.s 118 rfl .nil)) rfl (q_pickF rfl hb476)) <| DK.nil <| CSteps.nil ?_
           exact QN.weaken (.o4 rfl (.o2 rfl (.one rfl (.nil _)))) (Kj472 () ((rd a3.fNodes ((rd a1.fEdges x71).fTo)) != (rd a2.fEdges (rd a3.fEdges x71)).fTo) h)
       ·refine W.drawKT [(0, false), (1, false), (2, false), (3, false), (4, false), (5, false), (6, false), (7, false), (8, false), (9, false)] [10, 11, 12, 13] [10, 11] 4 [[], [0], [], [0, 1, 2], [0, 1, 2, 3], [], [5], [], [5, 6, 7], [5, 6, 7, 8], [], [], [0, 1, 2, 3, 4, 10, 11], [0, 1, 2, 3, 4, 5, 6, 7, 8, 9, 10, 11, 12]] mx (by kernel_rfl) <| DKT.cons rfl rfl (.p rfl (.s 5 rfl .nil) rfl (q_field rfl fo38_1 rfl)) <| DKT.cons rfl rfl (.p rfl (.s 85 rfl .nil) rfl (q_load rfl sh36)) <| DKT.cons rfl rfl (.p rfl (.s 12 rfl .nil) rfl (q_move rfl)) ?_
        obtain ⟨c478, h⟩ := ite_n h
        refine DKT.cons rfl rfl (.p rfl (.s 86 rfl (.s 87 rfl .nil)) rfl (q_index rfl el36 rfl c478.1 c478.2)) <| DKT.cons rfl rfl (.p rfl (.s 88 rfl .nil) rfl (q_loadS rfl sh109 (leB rfl) rfl)) <| DKT.cons rfl rfl (.p rfl (.s 6 rfl .nil) rfl (q_field rfl fo38_1 rfl)) <| DKT.cons rfl rfl (.p rfl (.s 90 rfl .nil) rfl (q_load rfl sh36)) <| DKT.cons rfl rfl (.p rfl (.s 13 rfl .nil) rfl (q_move rfl)) ?_
        obtain ⟨c479, h⟩ := ite_n h
        refine DKT.cons rfl rfl (.p rfl (.s 91 rfl (.s 92 rfl .nil)) rfl (q_index rfl el36 rfl c479.1 c479.2)) <| DKT.cons rfl rfl (.p rfl (.s 93 rfl .nil) rfl (q_loadS rfl sh109 (leB rfl) rfl)) <| DKT.nil <| CT.step ?_
        refine CTc.yes rfl ?_ ?_
        ·refine CStep1.w [] (fun _ => rfl) rfl rfl rfl rfl .nil rfl (w_alloc rfl z109 (l := [iA 0, iA 0, iA 0]) rfl) ?_
         rintro _ _ ⟨b480, rfl, rfl⟩
         refine CT.list (l' := [11, 12, 13]) rfl <| CT.step ?_
         refine CTc.yes rfl ?_ ?_
         ·refine CStep1.w [] (fun _ => rfl) rfl rfl rfl rfl .nil rfl (w_alloc rfl z109 (l := [iA 0, iA 0, iA 0]) rfl) ?_
          rintro _ _ ⟨b481, rfl, rfl⟩
          refine CT.list (l' := [12, 13]) rfl <| CT.step ?_
          refine CTc.yes rfl ?_ ?_
          ·refine CStep1.w0 [1] (fun h => absurd h (by decide)) rfl rfl rfl (.s 14 rfl (.s 89 rfl .nil)) rfl (w_store (L := [iA ((rd a1.fEdges x71).fType), iA ((rd a1.fEdges x71).fFrom), iA ((rd a1.fEdges x71).fTo)]) rfl sh109 (CellsOf.agg _) rfl rfl (leB rfl) rfl) ?_
           rintro _ _ ⟨rfl, rfl⟩
           refine CT.list (l' := [13]) rfl <| CT.step ?_
           refine CTc.yes rfl ?_ ?_
           ·refine CStep1.w0 [1] (fun h => absurd h (by decide)) rfl rfl rfl (.s 15 rfl (.s 94 rfl .nil)) rfl (w_store (L := [iA ((rd a2.fEdges (rd a3.fEdges x71)).fType), iA ((rd a2.fEdges (rd a3.fEdges x71)).fFrom), iA ((rd a2.fEdges (rd a3.fEdges x71)).fTo)]) rfl sh109 (CellsOf.agg _) rfl rfl (leB rfl) rfl) ?_
            rintro _ _ ⟨rfl, rfl⟩
            refine CT.list (l' := []) rfl <| CT.nil <| QN.to (StTo.still [1] 14 rfl rfl) <| QN.to (StTo.still [0] 15 rfl rfl) ?_
            exact QN.weaken (.o4 rfl (.o4 rfl (.nil _))) (Kj463 () h)
           exact CTc.end
          refine CTc.no rfl ?_
          exact CTc.end
         refine CTc.no rfl <| CTc.no rfl ?_
         exact CTc.end
        refine CTc.yes rfl ?_ ?_
        ·refine CStep1.w [] (fun _ => rfl) rfl rfl rfl rfl .nil rfl (w_alloc rfl z109 (l := [iA 0, iA 0, iA 0]) rfl) ?_
         rintro _ _ ⟨b481, rfl, rfl⟩
         refine CT.list (l' := [10, 12, 13]) rfl <| CT.step ?_
         refine CTc.yes rfl ?_ ?_
         ·refine CStep1.w [] (fun _ => rfl) rfl rfl rfl rfl .nil rfl (w_alloc rfl z109 (l := [iA 0, iA 0, iA 0]) rfl) ?_
          rintro _ _ ⟨b480, rfl, rfl⟩
          refine CT.list (l' := [12, 13]) rfl <| CT.step ?_
          refine CTc.yes rfl ?_ ?_
          ·refine CStep1.w0 [0] (fun h => absurd h (by decide)) rfl rfl rfl (.s 14 rfl (.s 89 rfl .nil)) rfl (w_store (L := [iA ((rd a1.fEdges x71).fType), iA ((rd a1.fEdges x71).fFrom), iA ((rd a1.fEdges x71).fTo)]) rfl sh109 (CellsOf.agg _) rfl rfl (leB rfl) rfl) ?_
           rintro _ _ ⟨rfl, rfl⟩
           refine CT.list (l' := [13]) rfl <| CT.step ?_
           refine CTc.yes rfl ?_ ?_
           ·refine CStep1.w0 [1] (fun h => absurd h (by decide)) rfl rfl rfl (.s 15 rfl (.s 94 rfl .nil)) rfl (w_store (L := [iA ((rd a2.fEdges (rd a3.fEdges x71)).fType), iA ((rd a2.fEdges (rd a3.fEdges x71)).fFrom), iA ((rd a2.fEdges (rd a3.fEdges x71)).fTo)]) rfl sh109 (CellsOf.agg _) rfl rfl (leB rfl) rfl) ?_
            rintro _ _ ⟨rfl, rfl⟩
            refine CT.list (l' := []) rfl <| CT.nil <| QN.to (StTo.still [1] 14 rfl rfl) <| QN.to (StTo.still [0] 15 rfl rfl) ?_
            exact QN.weaken (.o4 rfl (.o4 rfl (.nil _))) (Kj463 () h)
           exact CTc.end
          refine CTc.no rfl ?_
          exact CTc.end
         refine CTc.no rfl <| CTc.no rfl ?_
         exact CTc.end
        refine CTc.no rfl <| CTc.no rfl ?_
        exact CTc.end
     ·refine W.region <| mv rfl rfl <| pk rfl 76 rfl (q_int rfl rfl) <| mv rfl rfl ?_
      rcases bif_s h with ⟨hb482, h⟩ | ⟨hb482, h⟩
      ·refine sk rfl rfl rfl hb482 <| sk rfl rfl rfl hb482 <| sk rfl rfl rfl hb482 <| sk rfl rfl rfl hb482 <| sk rfl rfl rfl hb482 <| pk rfl 78 rfl (q_pickT rfl hb482) <| WL.nil ?_
       exact QN.weaken (.o4 rfl (.o4 rfl (.one rfl (.nil _)))) (Kj452 () true h)
      ·refine wm rfl rfl rfl hb482 rfl rfl <| wf rfl rfl rfl hb482 rfl rfl fo38_1 rfl <| wl rfl rfl rfl hb482 rfl rfl sh36 <| wq rfl rfl rfl hb482 (.s 81 rfl .nil) (q_len rfl elS36).o <| wq rfl rfl rfl hb482 (.s 79 rfl (.s 82 rfl .nil)) (q_int rfl rfl).o <| p2 rfl 78 rfl 83 rfl (q_pickF rfl hb482) <| WL.nil ?_
       exact QN.weaken (.o4 rfl (.o4 rfl (.one rfl (.nil _)))) (Kj452 () (decide ((rd a3.fEdges x71) ≥ (a2.fEdges.length : Int))) h)
    ·refine W.exit <| QX.then_ <| QX.then_ <| QX.here <| QN.weaken (env' := []) (.nil _) <| QN.then_ <| sr <| ak rfl <| nt <| W.ret ?_
     cases h
     exact QR.f1 rfl rfl (.t rfl) (.id _)
 ·refine W.region <| fd rfl rfl fo64_0 rfl <| ld rfl rfl sh26 <| p1 rfl 17 rfl (q_len rfl elS26) <| fd rfl rfl fo38_0 rfl <| ld rfl rfl sh26 <| p1 rfl 20 rfl (q_len rfl elS26) <| p2 rfl 18 rfl 21 rfl (q_int rfl rfl) <| mv rfl rfl ?_
  rcases bif_s h with ⟨hb483, h⟩ | ⟨hb483, h⟩
  ·refine sk rfl rfl rfl hb483 <| sk rfl rfl rfl hb483 <| sk rfl rfl rfl hb483 <| sk rfl rfl rfl hb483 <| sk rfl rfl rfl hb483 <| sk rfl rfl rfl hb483 <| sk rfl rfl rfl hb483 <| pk rfl 23 rfl (q_pickT rfl hb483) <| WL.nil ?_
   exact QN.weaken (.o4 rfl (.one rfl (.nil _))) (Kj102 () true h)
  ·refine wf rfl rfl rfl hb483 rfl rfl fo64_1 rfl <| wl rfl rfl rfl hb483 rfl rfl sh26 <| wq rfl rfl rfl hb483 (.s 25 rfl .nil) (q_len rfl elS26).o <| wf rfl rfl rfl hb483 rfl rfl fo38_1 rfl <| wl rfl rfl rfl hb483 rfl rfl sh36 <| wq rfl rfl rfl hb483 (.s 28 rfl .nil) (q_len rfl elS36).o <| wq rfl rfl rfl hb483 (.s 26 rfl (.s 29 rfl .nil)) (q_int rfl rfl).o <| p2 rfl 23 rfl 30 rfl (q_pickF rfl hb483) <| WL.nil ?_
   exact QN.weaken (.o4 rfl (.one rfl (.nil _))) (Kj102 () ((a3.fEdges.length : Int) != (a1.fEdges.length : Int)) h)

theorem search_Check.con (k : Nat) (a0 : Types) (a1 : Graph) (a2 : Graph) (a3 : Morphism) (a4 : Bool) (r : Int) (h : search_Check k a0 a1 a2 a3 a4 = some r) : Con Tryz.prog 73 [] [AggA [SlcA kNodeType a0.fNodes, SlcA kEdgeType a0.fEdges], AggA [SlcA kInt a1.fNodes, SlcA kEdge a1.fEdges], AggA [SlcA kInt a2.fNodes, SlcA kEdge a2.fEdges], AggA [SlcA kInt a3.fNodes, SlcA kInt a3.fEdges], bA a4] (RA (iA r)) := by
 unfold search_Check at h
 refine Con.of (N := 39) Tryz.func73 rfl rfl rfl fun w0_ fg_ => sr <| p1 rfl 0 rfl (q_box rfl (CellsOf.agg _)) <| p1 rfl 1 rfl (q_box rfl (CellsOf.agg _)) <| p1 rfl 2 rfl (q_box rfl (CellsOf.agg _)) <| p1 rfl 3 rfl (q_box rfl (CellsOf.agg _)) <| ak rfl <| nt <| W.seq <| sr ?_
 refine lS rfl rfl sh35 rfl rfl <| lS rfl rfl sh38 rfl rfl <| lS rfl rfl sh38 rfl rfl ?_
 obtain ⟨t100, ht100, h⟩ := bind_s h
 refine WL.p rfl rfl rfl (.s 13 rfl (.s 14 rfl (.s 15 rfl .nil))) (q_call (f := 119) (A := iA t100) (xs := [.tmp 13, .tmp 14, .tmp 15]) («as» := [AggA [SlcA kNodeType a0.fNodes, SlcA kEdgeType a0.fEdges], AggA [SlcA kInt a1.fNodes, SlcA kEdge a1.fEdges], AggA [SlcA kInt a2.fNodes, SlcA kEdge a2.fEdges]]) rfl ca119 (search_valid.con k a0 a1 a2 t100 ht100) rfl) <| av rfl rfl <| WL.nil <| QN.weaken (env' := [(11, _), (8, _), (7, _), (6, _), (5, _), (4, _)]) (.o4 rfl (.o2 rfl (.nil _))) <| QN.then_ <| sr <| mv rfl rfl <| pk rfl 17 rfl (q_int rfl rfl) <| nt ?_
 refine W.condP h rfl (fun hb101 h => ?_) (fun hb101 h => ?_)
 ·refine sr <| mv rfl rfl <| av rfl rfl <| WL.nil <| QN.weaken (env' := [(10, _)]) (.one rfl (.nil _)) <| QN.then_ <| W.ret <| QR.then_ ?_
  cases h
  exact QR.f1 rfl rfl (.t rfl) (.id _)
 ·refine W.skip <| QN.then_ <| W.seq <| sr <| lS rfl rfl sh35 rfl rfl <| lS rfl rfl sh38 rfl rfl <| lS rfl rfl sh38 rfl rfl <| lS rfl rfl sh64 rfl rfl ?_
  obtain ⟨t102, ht102, h⟩ := bind_s h
  refine WL.p rfl rfl rfl (.s 20 rfl (.s 21 rfl (.s 22 rfl (.s 23 rfl .nil)))) (q_call (f := 120) (A := iA t102) (xs := [.tmp 20, .tmp 21, .tmp 22, .tmp 23]) («as» := [AggA [SlcA kNodeType a0.fNodes, SlcA kEdgeType a0.fEdges], AggA [SlcA kInt a1.fNodes, SlcA kEdge a1.fEdges], AggA [SlcA kInt a2.fNodes, SlcA kEdge a2.fEdges], AggA [SlcA kInt a3.fNodes, SlcA kInt a3.fEdges]]) rfl ca120 (search_shape.con k a0 a1 a2 a3 t102 ht102) rfl) <| av rfl rfl <| WL.nil <| QN.weaken (env' := [(12, _), (8, _), (4, _)]) (.o2 rfl (.one rfl (.nil _))) <| QN.then_ <| sr <| mv rfl rfl <| pk rfl 25 rfl (q_int rfl rfl) <| nt ?_
  refine W.condP h rfl (fun hb103 h => ?_) (fun hb103 h => ?_)
  ·refine sr <| mv rfl rfl <| av rfl rfl <| nt <| W.ret <| QR.then_ ?_
   cases h
   exact QR.f1 rfl rfl (.t rfl) (.id _)
  ·refine W.skip <| QN.then_ <| W.seq <| W.seq ?_
   refine W.jn1 (Γ := Unit) (fun (_ : Unit) (x38 : Bool) => [(38, bA x38)]) (fun (_ : Unit) (_ : Bool) => []) h (fun _ x38 h => ?_) (fun j109 Kj109 h => ?_)
   ·refine QN.then_ ?_
    refine W.condP h rfl (fun hb110 h => ?_) (fun hb110 h => ?_)
    ·refine sr <| ak rfl <| nt <| W.ret <| QR.then_ ?_
     cases h
     exact QR.f1 rfl rfl (.t rfl) (.id _)
    ·refine W.skip <| QN.then_ <| sr <| ak rfl <| nt <| W.ret ?_
     cases h
     exact QR.f1 rfl rfl (.t rfl) (.id _)
   ·refine W.region <| mv rfl rfl <| mv rfl rfl ?_
    rcases bif_s h with ⟨hb111, h⟩ | ⟨hb111, h⟩
    ·refine wf rfl rfl rfl hb111 rfl rfl fo64_0 rfl <| wl rfl rfl rfl hb111 rfl rfl sh26 ?_
     obtain ⟨t112, ht112, h⟩ := bind_s h
     refine wq rfl rfl rfl hb111 (.s 31 rfl .nil) (q_call (f := 121) (A := bA t112) (xs := [.tmp 31]) («as» := [SlcA kInt a3.fNodes]) rfl ca121 (search_twice.con k a3.fNodes t112 ht112) rfl).o <| wm rfl rfl rfl hb111 rfl rfl ?_
     rcases bif_s h with ⟨hb113, h⟩ | ⟨hb113, h⟩
     ·refine sk rfl rfl rfl hb113 <| sk rfl rfl rfl hb113 <| sk rfl rfl rfl hb113 <| wq rfl rfl rfl hb111 (.s 33 rfl (.k .nil)) (q_pickT rfl hb113).o <| p2 rfl 29 rfl 37 rfl (q_pickT rfl hb111) <| WL.nil ?_
      exact QN.weaken (.one rfl (.nil _)) (Kj109 () true h)
     ·refine wf rfl rfl rfl hb113 rfl rfl fo64_1 rfl <| wl rfl rfl rfl hb113 rfl rfl sh26 ?_
      obtain ⟨t114, ht114, h⟩ := bind_s h
      refine wq rfl rfl rfl hb113 (.s 35 rfl .nil) (q_call (f := 121) (A := bA t114) (xs := [.tmp 35]) («as» := [SlcA kInt a3.fEdges]) rfl ca121 (search_twice.con k a3.fEdges t114 ht114) rfl).o <| wq rfl rfl rfl hb111 (.s 33 rfl (.s 36 rfl .nil)) (q_pickF rfl hb113).o <| p2 rfl 29 rfl 37 rfl (q_pickT rfl hb111) <| WL.nil ?_
      exact QN.weaken (.one rfl (.nil _)) (Kj109 () t114 h)
    ·refine sk rfl rfl rfl hb111 <| sk rfl rfl rfl hb111 <| sk rfl rfl rfl hb111 <| sk rfl rfl rfl hb111 <| su rfl rfl rfl <| su rfl rfl rfl <| su rfl rfl rfl <| sk rfl rfl rfl hb111 <| pk rfl 29 rfl (q_pickF rfl hb111) <| WL.nil ?_
     exact QN.weaken (.one rfl (.nil _)) (Kj109 () false h)
theorem attribute_Solve.con (k : Nat) (a0 : Types) (a1 : Pattern) (a2 : Host) (a3 : Morphism) (r : ((List Int) × Int)) (h : attribute_Solve k a0 a1 a2 a3 = some r) : Con Tryz.prog 25 [] [AggA [SlcA kNodeType a0.fNodes, SlcA kEdgeType a0.fEdges], AggA [SlcA kInt a1.fGraph.fNodes, SlcA kEdge a1.fGraph.fEdges, SlcA kSlot a1.fSlots, iA a1.fVars, SlcA kTest a1.fTests], AggA [SlcA kInt a2.fGraph.fNodes, SlcA kEdge a2.fGraph.fEdges, SlcA (kSl kInt) a2.fValues], AggA [SlcA kInt a3.fNodes, SlcA kInt a3.fEdges]] (RA (TupA [SlcA kInt r.1, iA r.2])) := by
 unfold attribute_Solve at h
 refine Con.of (N := 35) Tryz.func25 rfl rfl rfl fun w0_ fg_ => sr <| p1 rfl 0 rfl (q_box rfl (CellsOf.agg _)) <| p1 rfl 1 rfl (q_box rfl (CellsOf.agg _)) <| p1 rfl 2 rfl (q_box rfl (CellsOf.agg _)) <| p1 rfl 3 rfl (q_box rfl (CellsOf.agg _)) <| ak rfl <| ak rfl <| nt <| W.seq <| W.seq ?_
 refine W.region <| lS rfl rfl sh35 rfl rfl <| lS rfl rfl sh42 rfl rfl <| lS rfl rfl sh60 rfl rfl ?_
 obtain ⟨t100, ht100, h⟩ := bind_s h
 refine WL.p rfl rfl rfl (.s 12 rfl (.s 13 rfl (.s 14 rfl .nil))) (q_call (f := 72) (A := iA t100) (xs := [.tmp 12, .tmp 13, .tmp 14]) («as» := [AggA [SlcA kNodeType a0.fNodes, SlcA kEdgeType a0.fEdges], AggA [SlcA kInt a1.fGraph.fNodes, SlcA kEdge a1.fGraph.fEdges, SlcA kSlot a1.fSlots, iA a1.fVars, SlcA kTest a1.fTests], AggA [SlcA kInt a2.fGraph.fNodes, SlcA kEdge a2.fGraph.fEdges, SlcA (kSl kInt) a2.fValues]]) rfl ca72 (attribute_given.con k a0 a1 a2 t100 ht100) rfl) <| av rfl rfl <| WL.nil <| QN.weaken (env' := [(10, _), (7, _), (6, _), (5, _), (4, _)]) (.o4 rfl (.one rfl (.nil _))) <| QN.then_ <| sr <| mv rfl rfl <| pk rfl 16 rfl (q_int rfl rfl) <| nt ?_
 refine W.condP h rfl (fun hb101 h => ?_) (fun hb101 h => ?_)
 ·refine sr <| mv rfl rfl <| ak rfl <| av rfl rfl <| WL.nil <| QN.weaken (env' := [(9, _), (8, _)]) (.o2 rfl (.nil _)) <| QN.then_ <| W.ret <| QR.then_ ?_
  cases h
  exact QR.f2 rfl rfl (.t rfl) (.t rfl) (.imp (Imp.tup (.cons (Imp.nil kInt) (.cons (Imp.id _) .nil))))
 ·refine W.skip <| QN.then_ <| W.seq <| sr <| lS rfl rfl sh35 rfl rfl <| fd rfl rfl fo42_0 rfl <| lS rfl rfl sh38 rfl rfl <| fd rfl rfl fo60_0 rfl <| lS rfl rfl sh38 rfl rfl <| lS rfl rfl sh64 rfl rfl ?_
  obtain ⟨t102, ht102, h⟩ := bind_s h
  refine WL.p rfl rfl rfl (.s 19 rfl (.s 21 rfl (.s 23 rfl (.s 24 rfl (.k .nil))))) (q_call (f := 73) (A := iA t102) (xs := [.tmp 19, .tmp 21, .tmp 23, .tmp 24, .const (.bool false)]) («as» := [AggA [SlcA kNodeType a0.fNodes, SlcA kEdgeType a0.fEdges], AggA [SlcA kInt a1.fGraph.fNodes, SlcA kEdge a1.fGraph.fEdges], AggA [SlcA kInt a2.fGraph.fNodes, SlcA kEdge a2.fGraph.fEdges], AggA [SlcA kInt a3.fNodes, SlcA kInt a3.fEdges], bA false]) rfl ca73 (search_Check.con k a0 a1.fGraph a2.fGraph a3 false t102 ht102) rfl) <| av rfl rfl <| WL.nil <| QN.weaken (env' := [(11, _), (7, _), (6, _), (5, _)]) (.o4 rfl (.nil _)) <| QN.then_ <| sr <| mv rfl rfl <| pk rfl 26 rfl (q_int rfl rfl) <| nt ?_
  refine W.condP h rfl (fun hb103 h => ?_) (fun hb103 h => ?_)
  ·refine sr <| mv rfl rfl <| ak rfl <| av rfl rfl <| WL.nil <| QN.weaken (env' := [(9, _), (8, _)]) (.o2 rfl (.nil _)) <| QN.then_ <| W.ret <| QR.then_ ?_
   cases h
   exact QR.f2 rfl rfl (.t rfl) (.t rfl) (.imp (Imp.tup (.cons (Imp.nil kInt) (.cons (Imp.id _) .nil))))
  ·refine W.skip <| QN.then_ <| sr <| lS rfl rfl sh42 rfl rfl <| lS rfl rfl sh60 rfl rfl <| lS rfl rfl sh64 rfl rfl ?_
   obtain ⟨t104, ht104, h⟩ := bind_s h
   refine WL.p rfl rfl rfl (.s 29 rfl (.s 30 rfl (.s 31 rfl .nil))) (q_call (f := 74) (A := TupA [SlcA kInt t104.1, iA t104.2]) (xs := [.tmp 29, .tmp 30, .tmp 31]) («as» := [AggA [SlcA kInt a1.fGraph.fNodes, SlcA kEdge a1.fGraph.fEdges, SlcA kSlot a1.fSlots, iA a1.fVars, SlcA kTest a1.fTests], AggA [SlcA kInt a2.fGraph.fNodes, SlcA kEdge a2.fGraph.fEdges, SlcA (kSl kInt) a2.fValues], AggA [SlcA kInt a3.fNodes, SlcA kInt a3.fEdges]]) rfl ca74 (attribute_solve.con k a1 a2 a3 t104 ht104) rfl) <| p1 rfl 32 rfl (q_extract rfl rfl) <| p1 rfl 32 rfl (q_extract rfl rfl) <| av rfl rfl <| av rfl rfl <| WL.nil <| QN.weaken (env' := [(9, _), (8, _)]) (.o2 rfl (.nil _)) <| QN.then_ <| W.ret ?_
   cases h
   exact QR.f2 rfl rfl (.t rfl) (.t rfl) (.id _)
theorem ref04_given.con (k : Nat) (a0 : Types) (a1 : Int) (a2 : Int) (r : Int) (h : ref04_given k a0 a1 a2 = some r) : Con Tryz.prog 138 [] [AggA [SlcA kNodeType a0.fNodes, SlcA kEdgeType a0.fEdges], iA a1, iA a2] (RA (iA r)) := by
 unfold ref04_given at h
 refine Con.of (N := 33) Tryz.func138 rfl rfl rfl fun w0_ fg_ => sr <| p1 rfl 0 rfl (q_box rfl (CellsOf.agg _)) <| ak rfl <| nt <| W.seq <| sr <| lS rfl rfl sh35 rfl rfl ?_
 obtain ⟨t100, ht100, h⟩ := bind_s h
 refine p1 rfl 10 rfl (q_call (f := 58) (A := TupA [EqA (strV t100.1), iA t100.2]) (xs := [.tmp 10]) («as» := [AggA [SlcA kNodeType a0.fNodes, SlcA kEdgeType a0.fEdges]]) rfl ca58 (ref04_Valid.con k a0 t100 ht100) rfl) <| mv rfl rfl <| p1 rfl 9 rfl (q_extract rfl rfl) <| p1 rfl 9 rfl (q_extract rfl rfl) <| av rfl rfl <| av rfl rfl <| WL.nil <| QN.weaken (env' := [(8, _), (3, _), (2, _), (1, _)]) (.o4 rfl (.nil _)) <| QN.then_ <| sr <| mv rfl rfl <| pk rfl 14 rfl (q_int rfl rfl) ?_
 refine nt ?_
 refine W.condP h rfl (fun hb101 h => ?_) (fun hb101 h => ?_)
 ·refine sr <| mv rfl rfl <| av rfl rfl <| WL.nil <| QN.weaken (env' := [(6, _)]) (.one rfl (.nil _)) <| QN.then_ <| W.ret <| QR.then_ ?_
  cases h
  exact QR.f1 rfl rfl (.t rfl) (.id _)
 ·refine W.skip <| QN.then_ <| W.seq <| W.seq ?_
  refine W.jn1 (Γ := Unit) (fun (_ : Unit) (x32 : Bool) => [(32, bA x32)]) (fun (_ : Unit) (_ : Bool) => []) h (fun _ x32 h => ?_) (fun j108 Kj108 h => ?_)
  ·refine QN.then_ ?_
   refine W.condP h rfl (fun hb109 h => ?_) (fun hb109 h => ?_)
   ·refine sr <| ak rfl <| nt <| W.ret <| QR.then_ ?_
    cases h
    exact QR.f1 rfl rfl (.t rfl) (.id _)
   ·refine W.skip <| QN.then_ <| sr <| ak rfl <| nt <| W.ret ?_
    cases h
    exact QR.f1 rfl rfl (.t rfl) (.id _)
  ·refine W.region <| mv rfl rfl <| fd rfl rfl fo35_0 rfl <| ld rfl rfl sh32 <| p1 rfl 19 rfl (q_len rfl elS32) ?_
   obtain ⟨c110, h⟩ := ite_n h
   refine pk rfl 20 rfl (q_subR rfl c110) ?_
   obtain ⟨t111, ht111, h⟩ := bind_s h
   refine WL.p rfl rfl rfl (.s 17 rfl (.k (.s 21 rfl .nil))) (q_call (f := 140) (A := bA t111) (xs := [.tmp 17, .const (.int .i64 0), .tmp 21]) («as» := [iA a1, iA 0, iA ((a0.fNodes.length : Int) - 1)]) rfl ca140 (ref04_in.con k a1 0 ((a0.fNodes.length : Int) - 1) t111 ht111) rfl) <| p1 rfl 22 rfl (q_not rfl) <| mv rfl rfl ?_
   rcases bif_s h with ⟨hb112, h⟩ | ⟨hb112, h⟩
   ·refine sk rfl rfl rfl hb112 <| sk rfl rfl rfl hb112 <| sk rfl rfl rfl hb112 <| sk rfl rfl rfl hb112 <| sk rfl rfl rfl hb112 <| sk rfl rfl rfl hb112 <| sk rfl rfl rfl hb112 <| pk rfl 24 rfl (q_pickT rfl hb112) <| WL.nil ?_
    exact QN.weaken (.one rfl (.nil _)) (Kj108 () true h)
   ·refine wm rfl rfl rfl hb112 rfl rfl <| wf rfl rfl rfl hb112 rfl rfl fo35_0 rfl <| wl rfl rfl rfl hb112 rfl rfl sh32 <| wq rfl rfl rfl hb112 (.s 27 rfl .nil) (q_len rfl elS32).o ?_
    obtain ⟨c113, h⟩ := ite_n h
    refine wq rfl rfl rfl hb112 (.s 28 rfl (.k .nil)) (q_subR rfl c113).o ?_
    obtain ⟨t114, ht114, h⟩ := bind_s h
    refine wq rfl rfl rfl hb112 (.s 25 rfl (.k (.s 29 rfl .nil))) (q_call (f := 140) (A := bA t114) (xs := [.tmp 25, .const (.int .i64 0), .tmp 29]) («as» := [iA a2, iA 0, iA ((a0.fNodes.length : Int) - 1)]) rfl ca140 (ref04_in.con k a2 0 ((a0.fNodes.length : Int) - 1) t114 ht114) rfl).o <| wq rfl rfl rfl hb112 (.s 30 rfl .nil) (q_not rfl).o <| p2 rfl 24 rfl 31 rfl (q_pickF rfl hb112) <| WL.nil ?_
    exact QN.weaken (.one rfl (.nil _)) (Kj108 () (!t114) h)
theorem ref04_Attrs.con (k : Nat) (a0 : Types) (a1 : Int) (r : ((List Attr) × Int)) (h : ref04_Attrs k a0 a1 = some r) : Con Tryz.prog 86 [] [AggA [SlcA kNodeType a0.fNodes, SlcA kEdgeType a0.fEdges], iA a1] (RA (TupA [SlcA kAttr r.1, iA r.2])) := by
 unfold ref04_Attrs at h
 refine Con.of (N := 41) Tryz.func86 rfl rfl rfl fun w0_ fg_ => sr <| p1 rfl 0 rfl (q_box rfl (CellsOf.agg _)) <| ak rfl <| ak rfl <| nt <| W.seq <| sr <| lS rfl rfl sh35 rfl rfl <| mv rfl rfl ?_
 refine mv rfl rfl ?_
 obtain ⟨t100, ht100, h⟩ := bind_s h
 refine WL.p rfl rfl rfl (.s 11 rfl (.s 12 rfl (.s 13 rfl .nil))) (q_call (f := 138) (A := iA t100) (xs := [.tmp 11, .tmp 12, .tmp 13]) («as» := [AggA [SlcA kNodeType a0.fNodes, SlcA kEdgeType a0.fEdges], iA a1, iA a1]) rfl ca138 (ref04_given.con k a0 a1 a1 t100 ht100) rfl) <| av rfl rfl <| WL.nil <| QN.weaken (env' := [(6, _), (2, _), (1, _)]) (.o2 rfl (.one rfl (.nil _))) <| QN.then_ <| sr <| mv rfl rfl <| pk rfl 15 rfl (q_int rfl rfl) <| nt ?_
 refine W.condP h rfl (fun hb101 h => ?_) (fun hb101 h => ?_)
 ·refine sr <| mv rfl rfl <| ak rfl <| av rfl rfl <| nt <| W.ret <| QR.then_ ?_
  cases h
  exact QR.f2 rfl rfl (.t rfl) (.t rfl) (.imp (Imp.tup (.cons (Imp.nil kAttr) (.cons (Imp.id _) .nil))))
 ·refine W.skip <| QN.then_ <| sr <| ak rfl <| nx <| lS rfl rfl sh35 rfl rfl <| mv rfl rfl ?_
  obtain ⟨t102, ht102, h⟩ := bind_s h
  refine p2 rfl 18 rfl 19 rfl (q_call (f := 139) (A := SlcA kAttr t102) (xs := [.tmp 18, .tmp 19]) («as» := [AggA [SlcA kNodeType a0.fNodes, SlcA kEdgeType a0.fEdges], iA a1]) rfl ca139 (ref04_attrs.con k a0 a1 t102 ht102) rfl) <| av rfl rfl <| WL.nil <| QN.weaken (env' := [(8, _), (7, _)]) (.o2 rfl (.nil _)) <| QN.then_ <| W.seq <| sr <| ak rfl <| nt <| W.block <| W.to (StTo.newNil 95 kAttr) ?_
  refine W.to (StTo.as 7 rfl Imp.nilHd) ?_
  refine W.loop2 (Γ := Value) (fun (g0 : Value) (_ : (List Attr)) (x9 : Int) => [(7, HdA g0), (8, SlcA kAttr t102), (9, iA x9)]) (fun (g0 : Value) (x7 : (List Attr)) (_ : Int) => [SlE 95 g0 kAttr x7]) h (.slice none 0 0) (.o2 rfl (.one rfl (.nil _))) rfl (fun rec0 K0 next0 g0 x7 x9 h => ?_)
  unfold ref04_Attrs.b0 at h
  refine W.seq <| sr <| mv rfl rfl <| mv rfl rfl <| p1 rfl 22 rfl (q_len rfl elS90) <| p2 rfl 21 rfl 23 rfl (q_int rfl rfl) <| nt ?_
  refine W.condP h rfl (fun hb124 h => ?_) (fun hb124 h => ?_)
  ·refine W.skip <| QN.then_ <| W.seq <| W.block <| sr <| mv rfl rfl <| mv rfl rfl ?_
   obtain ⟨c125, h⟩ := ite_n h
   refine p2 rfl 27 rfl 28 rfl (q_index rfl el90 rfl c125.1 c125.2) <| lS rfl rfl sh95 rfl rfl <| WL.w [] rfl (Wanted.plain rfl) rfl rfl .nil (w_alloc rfl z95 (l := [EqA (strV ([] : Str)), iA 0, iA 0, EqA (.slice none 0 0)]) rfl) ?_
   rintro _ _ ⟨b126, rfl, rfl⟩
   refine WL.w0 [0] rfl (Wanted.plain rfl) rfl (.s 10 rfl (.s 30 rfl .nil)) (w_store (L := [EqA (strV ((rd t102 x9).fName)), iA ((rd t102 x9).fLow), iA ((rd t102 x9).fHigh), SlcA kStr ((rd t102 x9).fNames)]) rfl sh95 (CellsOf.agg _) rfl rfl (leB rfl) rfl) ?_
   rintro _ _ ⟨rfl, rfl⟩
   refine WL.nil <| QN.weaken (env' := [(10, _), (9, _), (8, _), (7, _)]) (.o4 rfl (.nil _)) <| QN.then_ <| sr <| WL.p rfl rfl rfl .nil (q_lit0 rfl el93 gr9) <| p1 rfl 10 rfl (q_fieldP rfl fo95_3) <| WL.q (Wanted.plain rfl) rfl rfl (.s 32 rfl .nil) (q_loadB rfl sh93 (i := 0) rfl rfl) ?_
   obtain ⟨c127, h⟩ := ite_n h
   refine p2 rfl 31 rfl 33 rfl (QS.of_new (w_appendZ (kd := kStr) rfl el93 rfl gr9 c127)) <| p1 rfl 10 rfl (q_fieldP rfl fo95_3) <| WL.w0 [0] rfl (Wanted.plain rfl) rfl (.s 35 rfl (.s 34 rfl .nil)) (w_store (L := [EqA (strV ((rd t102 x9).fName)), iA ((rd t102 x9).fLow), iA ((rd t102 x9).fHigh), SlcA kStr ((rd t102 x9).fNames)]) rfl sh93 (CellsOf.one rfl) rfl rfl (leB rfl) rfl) ?_
   rintro _ _ ⟨rfl, rfl⟩
   refine nt <| W.region <| mv rfl rfl <| WL.q (Wanted.plain rfl) rfl rfl (.s 10 rfl .nil) (q_loadBS (l' := [EqA (strV ((rd t102 x9).fName)), iA ((rd t102 x9).fLow), iA ((rd t102 x9).fHigh), SlcA kStr ((rd t102 x9).fNames)]) rfl sh95 (i := 0) rfl rfl rfl) <| p1 rfl 37 rfl (q_lit (kd := kAttr) (ps := [(0, .tmp 37)]) (xs := [.tmp 37]) («as» := [AggA [EqA (strV ((rd t102 x9).fName)), iA ((rd t102 x9).fLow), iA ((rd t102 x9).fHigh), SlcA kStr ((rd t102 x9).fNames)]]) (ys := [(rd t102 x9)]) rfl rfl el90 rfl gr95 rfl rfl rfl (.cons (CellsOf.agg _) .nil)) ?_
   obtain ⟨c128, h⟩ := ite_n h
   refine WL.w [1] rfl (Wanted.plain rfl) rfl rfl (.s 36 rfl (.s 38 rfl .nil)) (w_append (kd := kAttr) rfl el90 rfl gr95 c128) ?_
   rintro _ _ ⟨v129, rfl, rfl⟩
   refine av rfl rfl <| WL.nil <| QN.block <| QN.weaken (env' := [(7, _), (9, _), (8, _)]) (.o2 rfl (.one rfl (.nil _))) <| QN.then_ <| W.region <| mv rfl rfl ?_
   obtain ⟨c130, h⟩ := ite_n h
   refine pk rfl 25 rfl (q_addR rfl c130) <| av rfl rfl <| WL.nil <| QN.drop [1] rfl ?_
   exact next0 v129 (x7 ++ [(rd t102 x9)]) (x9 + 1) _ h (.o2 rfl (.one rfl (.nil _)))
  ·refine W.exit <| QX.then_ <| QX.then_ <| QX.here <| QN.then_ <| sr <| mv rfl rfl <| av rfl rfl <| ak rfl <| WL.nil <| QN.weaken (env' := [(5, _), (4, _)]) (.o2 rfl (.nil _)) <| QN.then_ ?_
   refine W.ret ?_
   cases h
   exact QR.f2 rfl rfl (.t rfl) (.t rfl) (.tup (.cons (.slc 0 rfl) (.cons (.id _) .nil)))
end Go.Proofs.YtcgdfjpeboiioaaGreat
