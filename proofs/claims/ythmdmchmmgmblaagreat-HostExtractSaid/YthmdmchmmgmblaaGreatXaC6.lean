/- The Go functions compute the pure ones. (Printed by gen.py.) -/
import Derived.Test.YthmdmchmmgmblaaGreatXaC5
namespace Go.Proofs.YthmdmchmmgmblaaGreat
open Go Go.Abs
attribute [local irreducible] Tryz.prog
theorem ref04_Few.con (k : Nat) (a0 : Types) (r : Bool) (h : ref04_Few k a0 = some r) : Con Tryz.prog 42 [] [AggA [SlcA kNodeType a0.fNodes, SlcA kEdgeType a0.fEdges]] (RA (bA r)) := by
 unfold ref04_Few at h
 refine Con.of (N := 106) Tryz.func42 rfl rfl rfl fun w0_ fg_ => sr <| p1 rfl 0 rfl (q_box rfl (CellsOf.agg _)) <| ak rfl <| nt <| W.seq <| W.seq ?_
 refine W.jn1 (Γ := Unit) (fun (_ : Unit) (x18 : Bool) => [(1, PtrA [SlcA kNodeType a0.fNodes, SlcA kEdgeType a0.fEdges]), (18, bA x18)]) (fun (_ : Unit) (_ : Bool) => []) h (fun _ x18 h => ?_) (fun j102 Kj102 h => ?_)
 ·refine QN.then_ ?_
  refine W.condP h rfl (fun hb103 h => ?_) (fun hb103 h => ?_)
  ·refine sr <| ak rfl <| nt <| W.ret <| QR.then_ ?_
   cases h
   exact QR.f1 rfl rfl (.t rfl) (.id _)
  ·refine W.skip <| QN.then_ <| sr <| ak rfl <| nt <| W.seq <| sr <| ak rfl <| nt ?_
   refine W.block ?_
   refine W.loop2 (Γ := Unit) (fun (_ : Unit) (x3 : Int) (x4 : Int) => [(1, PtrA [SlcA kNodeType a0.fNodes, SlcA kEdgeType a0.fEdges]), (3, iA x3), (4, iA x4)]) (fun (_ : Unit) (_ : Int) (_ : Int) => []) h () (.o2 rfl (.one rfl (.nil _))) rfl (fun rec0 K0 next0 _ x3 x4 h => ?_)
   unfold ref04_Few.b0 at h
   refine W.seq <| sr <| mv rfl rfl <| fd rfl rfl fo25_0 rfl <| ld rfl rfl sh22 <| p1 rfl 21 rfl (q_len rfl elS22) <| p2 rfl 19 rfl 22 rfl (q_int rfl rfl) <| nt ?_
   refine W.condP h rfl (fun hb304 h => ?_) (fun hb304 h => ?_)
   ·refine W.skip <| QN.then_ <| W.seq <| W.block <| sr <| mv rfl rfl <| fd rfl rfl fo25_0 rfl <| ld rfl rfl sh22 <| mv rfl rfl ?_
    obtain ⟨c305, h⟩ := ite_n h
    refine p2 rfl 28 rfl 29 rfl (q_index rfl el22 rfl c305.1 c305.2) <| fd rfl rfl fo120_3 rfl <| ld rfl rfl sh118 <| p1 rfl 32 rfl (q_len rfl elS118) ?_
    obtain ⟨c306, h⟩ := ite_n h
    refine p2 rfl 26 rfl 33 rfl (q_addR rfl c306) <| av rfl rfl <| WL.nil <| QN.weaken (env' := [(3, _), (4, _), (1, _)]) (.o2 rfl (.one rfl (.nil _))) <| QN.then_ <| W.seq <| W.seq ?_
    refine W.jn1 (Γ := Unit) (fun (_ : Unit) (x46 : Bool) => [(1, PtrA [SlcA kNodeType a0.fNodes, SlcA kEdgeType a0.fEdges]), (4, iA x4), (3, iA (x3 + (((rd a0.fNodes x4).fAttrs).length : Int))), (46, bA x46)]) (fun (_ : Unit) (_ : Bool) => []) h (fun _ x46 h => ?_) (fun j310 Kj310 h => ?_)
    ·refine QN.then_ ?_
     refine W.condP h rfl (fun hb311 h => ?_) (fun hb311 h => ?_)
     ·refine sr <| ak rfl <| nt <| W.ret <| QR.then_ <| QR.block <| QR.then_ <| QR.then_ <| QR.block <| QR.then_ ?_
      cases h
      exact QR.f1 rfl rfl (.t rfl) (.id _)
     ·refine W.skip <| QN.then_ <| sr <| ak rfl <| nt <| W.block ?_
      refine W.loop1 (Γ := Unit) (fun (_ : Unit) (x5 : Int) => [(1, PtrA [SlcA kNodeType a0.fNodes, SlcA kEdgeType a0.fEdges]), (4, iA x4), (3, iA (x3 + (((rd a0.fNodes x4).fAttrs).length : Int))), (5, iA x5)]) (fun (_ : Unit) (_ : Int) => []) h () (.o4 rfl (.nil _)) rfl (fun rec1 K1 next1 _ x5 h => ?_)
      unfold ref04_Few.b1 at h
      refine W.seq <| sr <| mv rfl rfl <| fd rfl rfl fo25_0 rfl <| ld rfl rfl sh22 <| mv rfl rfl ?_
      obtain ⟨c364, h⟩ := ite_n h
      refine p2 rfl 49 rfl 50 rfl (q_index rfl el22 rfl c364.1 c364.2) <| fd rfl rfl fo120_3 rfl <| ld rfl rfl sh118 <| p1 rfl 53 rfl (q_len rfl elS118) <| p2 rfl 47 rfl 54 rfl (q_int rfl rfl) <| WL.nil <| QN.weaken (env' := [(55, _), (5, _), (3, _), (4, _), (1, _)]) (.o4 rfl (.one rfl (.nil _))) <| QN.then_ ?_
      refine W.condP h rfl (fun hb365 h => ?_) (fun hb365 h => ?_)
      ·refine W.skip <| QN.then_ <| W.seq <| W.block <| sr <| fd rfl rfl fo25_0 rfl <| ld rfl rfl sh22 <| mv rfl rfl ?_
       obtain ⟨c366, h⟩ := ite_n h
       refine p2 rfl 59 rfl 60 rfl (q_index rfl el22 rfl c366.1 c366.2) <| fd rfl rfl fo120_3 rfl <| ld rfl rfl sh118 <| mv rfl rfl ?_
       obtain ⟨c367, h⟩ := ite_n h
       refine p2 rfl 63 rfl 64 rfl (q_index rfl el118 rfl c367.1 c367.2) <| lS rfl rfl sh117 rfl rfl <| WL.w [] rfl (Wanted.plain rfl) rfl rfl .nil (w_alloc rfl z117 (l := [EqA (strV ([] : Str)), iA 0, iA 0, EqA (.slice none 0 0)]) rfl) ?_
       rintro _ _ ⟨b368, rfl, rfl⟩
       refine WL.w0 [0] rfl (Wanted.plain rfl) rfl (.s 6 rfl (.s 66 rfl .nil)) (w_store (L := [EqA (strV ((rd ((rd a0.fNodes x4).fAttrs) x5).fName)), iA ((rd ((rd a0.fNodes x4).fAttrs) x5).fLow), iA ((rd ((rd a0.fNodes x4).fAttrs) x5).fHigh), SlcA kStr ((rd ((rd a0.fNodes x4).fAttrs) x5).fNames)]) rfl sh117 (CellsOf.agg _) rfl rfl (leB rfl) rfl) ?_
       rintro _ _ ⟨rfl, rfl⟩
       refine WL.nil <| QN.to (StTo.still [0] 6 rfl rfl) <| QN.weaken (env' := [(6, _), (5, _), (3, _), (4, _), (1, _)]) (.o4 rfl (.one rfl (.nil _))) <| QN.then_ <| W.seq <| W.seq ?_
       refine W.jn1 (Γ := Unit) (fun (_ : Unit) (x76 : Bool) => [(1, PtrA [SlcA kNodeType a0.fNodes, SlcA kEdgeType a0.fEdges]), (4, iA x4), (3, iA (x3 + (((rd a0.fNodes x4).fAttrs).length : Int))), (5, iA x5), (6, PtrA [EqA (strV ((rd ((rd a0.fNodes x4).fAttrs) x5).fName)), iA ((rd ((rd a0.fNodes x4).fAttrs) x5).fLow), iA ((rd ((rd a0.fNodes x4).fAttrs) x5).fHigh), SlcA kStr ((rd ((rd a0.fNodes x4).fAttrs) x5).fNames)]), (76, bA x76)]) (fun (_ : Unit) (_ : Bool) => []) h (fun _ x76 h => ?_) (fun j371 Kj371 h => ?_)
       ·refine QN.then_ ?_
        refine W.condP h rfl (fun hb372 h => ?_) (fun hb372 h => ?_)
        ·refine sr <| ak rfl <| nt <| W.ret <| QR.then_ <| QR.block <| QR.then_ <| QR.then_ <| QR.block <| QR.block <| QR.then_ ?_
         refine QR.then_ <| QR.block <| QR.then_ ?_
         cases h
         exact QR.f1 rfl rfl (.t rfl) (.id _)
        ·refine W.skip <| QN.then_ <| sr <| ak rfl <| nt <| W.block ?_
         refine W.loop1 (Γ := Unit) (fun (_ : Unit) (x7 : Int) => [(1, PtrA [SlcA kNodeType a0.fNodes, SlcA kEdgeType a0.fEdges]), (4, iA x4), (3, iA (x3 + (((rd a0.fNodes x4).fAttrs).length : Int))), (5, iA x5), (6, PtrA [EqA (strV ((rd ((rd a0.fNodes x4).fAttrs) x5).fName)), iA ((rd ((rd a0.fNodes x4).fAttrs) x5).fLow), iA ((rd ((rd a0.fNodes x4).fAttrs) x5).fHigh), SlcA kStr ((rd ((rd a0.fNodes x4).fAttrs) x5).fNames)]), (7, iA x7)]) (fun (_ : Unit) (_ : Int) => []) h () (.o4 rfl (.o2 rfl (.nil _))) rfl (fun rec2 K2 next2 _ x7 h => ?_)
         unfold ref04_Few.b2 at h
         refine W.seq <| sr <| mv rfl rfl <| fd rfl rfl fo117_3 rfl <| ld rfl rfl sh115 <| p1 rfl 79 rfl (q_len rfl elS115) <| p2 rfl 77 rfl 80 rfl (q_int rfl rfl) <| nt ?_
         refine W.condP h rfl (fun hb383 h => ?_) (fun hb383 h => ?_)
         ·refine W.skip <| QN.then_ <| W.seq <| W.block <| sr <| fd rfl rfl fo117_3 rfl <| ld rfl rfl sh115 <| mv rfl rfl ?_
          obtain ⟨c384, h⟩ := ite_n h
          refine p2 rfl 85 rfl 86 rfl (q_index rfl el115 rfl c384.1 c384.2) <| ld rfl rfl sh9 <| p1 rfl 88 rfl (q_slen (s := (rd ((rd ((rd a0.fNodes x4).fAttrs) x5).fNames) x7)) rfl iss9) <| pk rfl 89 rfl (q_int rfl rfl) <| WL.nil <| QN.weaken (env' := [(90, _), (7, _), (6, _), (5, _), (3, _), (4, _), (1, _)]) (.o4 rfl (.o2 rfl (.one rfl (.nil _)))) <| QN.then_ ?_
          refine W.condP h rfl (fun hb385 h => ?_) (fun hb385 h => ?_)
          ·refine sr <| ak rfl <| WL.nil <| QN.weaken (env' := [(2, _)]) (.one rfl (.nil _)) <| QN.then_ <| W.ret <| QR.block <| QR.then_ <| QR.then_ <| QR.block <| QR.block <| QR.then_ ?_
           refine QR.then_ <| QR.block <| QR.block <| QR.then_ <| QR.then_ <| QR.block <| QR.then_ ?_
           cases h
           exact QR.f1 rfl rfl (.t rfl) (.id _)
          ·refine W.skip <| QN.block <| QN.then_ <| W.region <| mv rfl rfl ?_
           obtain ⟨c386, h⟩ := ite_n h
           refine pk rfl 82 rfl (q_addR rfl c386) <| av rfl rfl <| WL.nil ?_
           exact next2 () (x7 + 1) _ h (.o4 rfl (.o2 rfl (.nil _)))
         ·refine W.exit <| QX.then_ <| QX.then_ <| QX.here <| QN.block <| QN.weaken (env' := [(5, _), (3, _), (4, _), (1, _)]) (.o4 rfl (.nil _)) <| QN.then_ <| W.region <| mv rfl rfl ?_
          obtain ⟨c387, h⟩ := ite_n h
          refine pk rfl 56 rfl (q_addR rfl c387) <| av rfl rfl <| WL.nil ?_
          exact next1 () (x5 + 1) _ h (.o4 rfl (.nil _))
       ·refine W.region <| fd rfl rfl fo117_0 rfl <| ld rfl rfl sh9 <| p1 rfl 68 rfl (q_slen (s := (rd ((rd a0.fNodes x4).fAttrs) x5).fName) rfl iss9) <| pk rfl 69 rfl (q_int rfl rfl) <| mv rfl rfl ?_
        rcases bif_s h with ⟨hb388, h⟩ | ⟨hb388, h⟩
        ·refine sk rfl rfl rfl hb388 <| sk rfl rfl rfl hb388 <| sk rfl rfl rfl hb388 <| sk rfl rfl rfl hb388 <| pk rfl 71 rfl (q_pickT rfl hb388) <| WL.nil ?_
         exact QN.weaken (.o4 rfl (.o2 rfl (.nil _))) (Kj371 () true h)
        ·refine wf rfl rfl rfl hb388 rfl rfl fo117_3 rfl <| wl rfl rfl rfl hb388 rfl rfl sh115 <| wq rfl rfl rfl hb388 (.s 73 rfl .nil) (q_len rfl elS115).o <| wq rfl rfl rfl hb388 (.s 74 rfl (.k .nil)) (q_int rfl rfl).o <| p2 rfl 71 rfl 75 rfl (q_pickF rfl hb388) <| WL.nil ?_
         exact QN.weaken (.o4 rfl (.o2 rfl (.nil _))) (Kj371 () (decide ((((rd ((rd a0.fNodes x4).fAttrs) x5).fNames).length : Int) > 25)) h)
      ·refine W.exit <| QX.then_ <| QX.then_ <| QX.here <| QN.block <| QN.then_ <| W.region <| mv rfl rfl ?_
       obtain ⟨c389, h⟩ := ite_n h
       refine pk rfl 24 rfl (q_addR rfl c389) <| av rfl rfl <| WL.nil ?_
       exact next0 () (x3 + (((rd a0.fNodes x4).fAttrs).length : Int)) (x4 + 1) _ h (.o2 rfl (.one rfl (.nil _)))
    ·refine W.region <| mv rfl rfl <| pk rfl 35 rfl (q_int rfl rfl) <| mv rfl rfl ?_
     rcases bif_s h with ⟨hb390, h⟩ | ⟨hb390, h⟩
     ·refine sk rfl rfl rfl hb390 <| sk rfl rfl rfl hb390 <| sk rfl rfl rfl hb390 <| sk rfl rfl rfl hb390 <| sk rfl rfl rfl hb390 <| sk rfl rfl rfl hb390 <| sk rfl rfl rfl hb390 <| sk rfl rfl rfl hb390 <| pk rfl 37 rfl (q_pickT rfl hb390) <| WL.nil ?_
      exact QN.weaken (.o4 rfl (.nil _)) (Kj310 () true h)
     ·refine wf rfl rfl rfl hb390 rfl rfl fo25_0 rfl <| wl rfl rfl rfl hb390 rfl rfl sh22 <| wm rfl rfl rfl hb390 rfl rfl ?_
      obtain ⟨c391, h⟩ := ite_n h
      refine wq rfl rfl rfl hb390 (.s 39 rfl (.s 40 rfl .nil)) (q_index rfl el22 rfl c391.1 c391.2).o <| wf rfl rfl rfl hb390 rfl rfl fo120_0 rfl <| wl rfl rfl rfl hb390 rfl rfl sh9 <| wq rfl rfl rfl hb390 (.s 43 rfl .nil) (q_slen (s := (rd a0.fNodes x4).fName) rfl iss9).o <| wq rfl rfl rfl hb390 (.s 44 rfl (.k .nil)) (q_int rfl rfl).o <| p2 rfl 37 rfl 45 rfl (q_pickF rfl hb390) <| WL.nil ?_
      exact QN.weaken (.o4 rfl (.nil _)) (Kj310 () (decide ((((rd a0.fNodes x4).fName).length : Int) > 40)) h)
   ·refine W.exit <| QX.then_ <| QX.then_ <| QX.here <| QN.weaken (env' := [(1, _)]) (.one rfl (.nil _)) <| QN.then_ <| W.seq <| sr <| ak rfl <| nt <| W.block ?_
    refine W.loop1 (Γ := Unit) (fun (_ : Unit) (x8 : Int) => [(1, PtrA [SlcA kNodeType a0.fNodes, SlcA kEdgeType a0.fEdges]), (8, iA x8)]) (fun (_ : Unit) (_ : Int) => []) h () (.o2 rfl (.nil _)) rfl (fun rec3 K3 next3 _ x8 h => ?_)
    unfold ref04_Few.b3 at h
    refine W.seq <| sr <| mv rfl rfl <| fd rfl rfl fo25_1 rfl <| ld rfl rfl sh23 <| p1 rfl 93 rfl (q_len rfl elS23) <| p2 rfl 91 rfl 94 rfl (q_int rfl rfl) <| nt ?_
    refine W.condP h rfl (fun hb400 h => ?_) (fun hb400 h => ?_)
    ·refine W.skip <| QN.then_ <| W.seq <| W.block <| sr <| fd rfl rfl fo25_1 rfl <| ld rfl rfl sh23 <| mv rfl rfl ?_
     obtain ⟨c401, h⟩ := ite_n h
     refine p2 rfl 99 rfl 100 rfl (q_index rfl el23 rfl c401.1 c401.2) <| fd rfl rfl fo60_0 rfl <| ld rfl rfl sh9 <| p1 rfl 103 rfl (q_slen (s := (rd a0.fEdges x8).fName) rfl iss9) <| pk rfl 104 rfl (q_int rfl rfl) <| WL.nil <| QN.weaken (env' := [(105, _), (8, _), (1, _)]) (.o2 rfl (.one rfl (.nil _))) <| QN.then_ ?_
     refine W.condP h rfl (fun hb402 h => ?_) (fun hb402 h => ?_)
     ·refine sr <| ak rfl <| nt <| W.ret <| QR.block <| QR.then_ <| QR.then_ <| QR.block <| QR.then_ ?_
      cases h
      exact QR.f1 rfl rfl (.t rfl) (.id _)
     ·refine W.skip <| QN.block <| QN.then_ <| W.region <| mv rfl rfl ?_
      obtain ⟨c403, h⟩ := ite_n h
      refine pk rfl 96 rfl (q_addR rfl c403) <| av rfl rfl <| WL.nil ?_
      exact next3 () (x8 + 1) _ h (.o2 rfl (.nil _))
    ·refine W.exit <| QX.then_ <| QX.then_ <| QX.here <| QN.weaken (env' := []) (.nil _) <| QN.then_ <| sr <| ak rfl <| nt <| W.ret ?_
     cases h
     exact QR.f1 rfl rfl (.t rfl) (.id _)
 ·refine W.region <| fd rfl rfl fo25_0 rfl <| ld rfl rfl sh22 <| p1 rfl 10 rfl (q_len rfl elS22) <| pk rfl 11 rfl (q_int rfl rfl) <| mv rfl rfl ?_
  rcases bif_s h with ⟨hb404, h⟩ | ⟨hb404, h⟩
  ·refine sk rfl rfl rfl hb404 <| sk rfl rfl rfl hb404 <| sk rfl rfl rfl hb404 <| sk rfl rfl rfl hb404 <| pk rfl 13 rfl (q_pickT rfl hb404) <| WL.nil ?_
   exact QN.weaken (.o2 rfl (.nil _)) (Kj102 () true h)
  ·refine wf rfl rfl rfl hb404 rfl rfl fo25_1 rfl <| wl rfl rfl rfl hb404 rfl rfl sh23 <| wq rfl rfl rfl hb404 (.s 15 rfl .nil) (q_len rfl elS23).o <| wq rfl rfl rfl hb404 (.s 16 rfl (.k .nil)) (q_int rfl rfl).o <| p2 rfl 13 rfl 17 rfl (q_pickF rfl hb404) <| WL.nil ?_
   exact QN.weaken (.o2 rfl (.nil _)) (Kj102 () (decide ((a0.fEdges.length : Int) > 30)) h)
theorem slices_IndexFunc_Host.con (k : Nat) (a0 : (List Host)) (a1 : (Host → Option Bool)) (r : Int) (h : slices_IndexFunc_Host k a0 a1 = some r) : Con Tryz.prog 85 [] [SlcA kHost a0, FnA Tryz.prog (fun (x : Host) => [AggA [SlcA kInt x.fGraph.fNodes, SlcA kEdge x.fGraph.fEdges, SlcA (kSl kInt) x.fValues]]) (fun (y : Bool) => bA y) a1] (RA (iA r)) := by
 unfold slices_IndexFunc_Host at h
 refine Con.of (N := 19) Tryz.func85 rfl rfl rfl fun w0_ fg_ => sr <| ak rfl <| nt <| W.seq <| sr <| mv rfl rfl <| p1 rfl 6 rfl (q_len rfl elS92) <| mk_ rfl <| WL.nil ?_
 refine QN.then_ <| W.block ?_
 refine W.loop1 (Γ := Unit) (fun (_ : Unit) (x8 : Int) => [(0, SlcA kHost a0), (1, FnA Tryz.prog (fun (x : Host) => [AggA [SlcA kInt x.fGraph.fNodes, SlcA kEdge x.fGraph.fEdges, SlcA (kSl kInt) x.fValues]]) (fun (y : Bool) => bA y) a1), (7, iA (a0.length : Int)), (8, iA x8)]) (fun (_ : Unit) (_ : Int) => []) h () (.o4 rfl (.nil _)) rfl (fun rec0 K0 next0 _ x8 h => ?_)
 unfold slices_IndexFunc_Host.b0 at h
 refine sr <| p2 rfl 8 rfl 7 rfl (q_int rfl rfl) <| nt <| W.seq ?_
 refine W.condP h rfl (fun hb110 h => ?_) (fun hb110 h => ?_)
 ·refine W.skip <| QN.then_ <| W.seq <| W.block <| sr <| mv rfl rfl <| av rfl rfl <| nx <| mv rfl rfl ?_
  refine mv rfl rfl <| mv rfl rfl ?_
  obtain ⟨c111, h⟩ := ite_n h
  refine p2 rfl 12 rfl 13 rfl (q_index rfl el92 rfl c111.1 c111.2) <| lS rfl rfl sh32 rfl rfl ?_
  obtain ⟨t112, ht112, h⟩ := bind_s h
  refine p2 rfl 11 rfl 15 rfl (q_callV («as» := (fun (x : Host) => [AggA [SlcA kInt x.fGraph.fNodes, SlcA kEdge x.fGraph.fEdges, SlcA (kSl kInt) x.fValues]])) (res := (fun (y : Bool) => bA y)) (x := (rd a0 x8)) (y := t112) (xs := [.tmp 15]) rfl ht112 rfl) <| WL.nil <| QN.weaken (env' := [(16, _), (5, _), (8, _), (7, _), (1, _), (0, _)]) (.o4 rfl (.o2 rfl (.nil _))) <| QN.then_ ?_
  refine W.condP h rfl (fun hb113 h => ?_) (fun hb113 h => ?_)
  ·refine sr <| mv rfl rfl <| av rfl rfl <| WL.nil <| QN.weaken (env' := [(4, _)]) (.one rfl (.nil _)) <| QN.then_ <| W.ret <| QR.block <| QR.then_ <| QR.then_ <| QR.block <| QR.then_ ?_
   cases h
   exact QR.f1 rfl rfl (.t rfl) (.id _)
  ·refine W.skip <| QN.block <| QN.then_ <| W.region ?_
   obtain ⟨c114, h⟩ := ite_n h
   refine pk rfl 8 rfl (q_addR rfl c114) <| mv rfl rfl <| WL.nil ?_
   exact next0 () (x8 + 1) _ h (.o4 rfl (.nil _))
 ·refine W.exit <| QX.then_ <| QX.then_ <| QX.here <| QN.then_ <| sr <| ak rfl <| nt <| W.ret ?_
  cases h
  exact QR.f1 rfl rfl (.t rfl) (.id _)
theorem slices_ContainsFunc_Host.con (k : Nat) (a0 : (List Host)) (a1 : (Host → Option Bool)) (r : Bool) (h : slices_ContainsFunc_Host k a0 a1 = some r) : Con Tryz.prog 43 [] [SlcA kHost a0, FnA Tryz.prog (fun (x : Host) => [AggA [SlcA kInt x.fGraph.fNodes, SlcA kEdge x.fGraph.fEdges, SlcA (kSl kInt) x.fValues]]) (fun (y : Bool) => bA y) a1] (RA (bA r)) := by
 unfold slices_ContainsFunc_Host at h
 refine Con.of (N := 9) Tryz.func43 rfl rfl rfl fun w0_ fg_ => sr <| ak rfl <| nx <| mv rfl rfl <| mv rfl rfl ?_
 obtain ⟨t100, ht100, h⟩ := bind_s h
 refine p2 rfl 5 rfl 6 rfl (q_call (f := 85) (A := iA t100) (xs := [.tmp 5, .tmp 6]) («as» := [SlcA kHost a0, FnA Tryz.prog (fun (x : Host) => [AggA [SlcA kInt x.fGraph.fNodes, SlcA kEdge x.fGraph.fEdges, SlcA (kSl kInt) x.fValues]]) (fun (y : Bool) => bA y) a1]) rfl ca85 (slices_IndexFunc_Host.con k a0 a1 t100 ht100) rfl) <| pk rfl 7 rfl (q_int rfl rfl) <| av rfl rfl <| nt <| W.ret ?_
 cases h
 exact QR.f1 rfl rfl (.t rfl) (.id _)
theorem ref05_Few.con (k : Nat) (a0 : Graph) (r : Bool) (h : ref05_Few k a0 = some r) : Con Tryz.prog 71 [] [AggA [SlcA kInt a0.fNodes, SlcA kEdge a0.fEdges]] (RA (bA r)) := by
 unfold ref05_Few at h
 refine Con.of (N := 13) Tryz.func71 rfl rfl rfl fun w0_ fg_ => sr <| p1 rfl 0 rfl (q_box rfl (CellsOf.agg _)) <| ak rfl <| nt <| W.seq ?_
 refine W.jn1 (Γ := Unit) (fun (_ : Unit) (x2 : Bool) => [(2, bA x2)]) (fun (_ : Unit) (_ : Bool) => []) h (fun _ x2 h => ?_) (fun j102 Kj102 h => ?_)
 ·refine QN.then_ <| W.ret ?_
  cases h
  exact QR.f1 rfl rfl (.t rfl) (.id _)
 ·refine W.region <| fd rfl rfl fo29_0 rfl <| ld rfl rfl sh26 <| p1 rfl 4 rfl (q_len rfl elS26) <| pk rfl 5 rfl (q_int rfl rfl) <| mv rfl rfl ?_
  rcases bif_s h with ⟨hb103, h⟩ | ⟨hb103, h⟩
  ·refine wf rfl rfl rfl hb103 rfl rfl fo29_1 rfl <| wl rfl rfl rfl hb103 rfl rfl sh27 <| wq rfl rfl rfl hb103 (.s 9 rfl .nil) (q_len rfl elS27).o <| wq rfl rfl rfl hb103 (.s 10 rfl (.k .nil)) (q_int rfl rfl).o <| p2 rfl 7 rfl 11 rfl (q_pickT rfl hb103) <| av rfl rfl <| WL.nil ?_
   exact QN.weaken (.one rfl (.nil _)) (Kj102 () (decide ((a0.fEdges.length : Int) ≤ 90)) h)
  ·refine sk rfl rfl rfl hb103 <| sk rfl rfl rfl hb103 <| sk rfl rfl rfl hb103 <| sk rfl rfl rfl hb103 <| pk rfl 7 rfl (q_pickF rfl hb103) <| av rfl rfl <| WL.nil ?_
   exact QN.weaken (.one rfl (.nil _)) (Kj102 () false h)
theorem ref15_Few.con (k : Nat) (a0 : Host) (r : Bool) (h : ref15_Few k a0 = some r) : Con Tryz.prog 28 [] [AggA [SlcA kInt a0.fGraph.fNodes, SlcA kEdge a0.fGraph.fEdges, SlcA (kSl kInt) a0.fValues]] (RA (bA r)) := by
 unfold ref15_Few at h
 refine Con.of (N := 28) Tryz.func28 rfl rfl rfl fun w0_ fg_ => sr <| p1 rfl 0 rfl (q_box rfl (CellsOf.agg _)) <| ak rfl <| nt <| W.seq <| W.seq ?_
 refine W.jn1 (Γ := Unit) (fun (_ : Unit) (x13 : Bool) => [(1, PtrA [SlcA kInt a0.fGraph.fNodes, SlcA kEdge a0.fGraph.fEdges, SlcA (kSl kInt) a0.fValues]), (13, bA x13)]) (fun (_ : Unit) (_ : Bool) => []) h (fun _ x13 h => ?_) (fun j103 Kj103 h => ?_)
 ·refine QN.then_ ?_
  refine W.condP h rfl (fun hb104 h => ?_) (fun hb104 h => ?_)
  ·refine sr <| ak rfl <| nt <| W.ret <| QR.then_ ?_
   cases h
   exact QR.f1 rfl rfl (.t rfl) (.id _)
  ·refine W.skip <| QN.then_ <| W.seq <| sr <| ak rfl <| nt <| W.block ?_
   refine W.loop1 (Γ := Unit) (fun (_ : Unit) (x3 : Int) => [(1, PtrA [SlcA kInt a0.fGraph.fNodes, SlcA kEdge a0.fGraph.fEdges, SlcA (kSl kInt) a0.fValues]), (3, iA x3)]) (fun (_ : Unit) (_ : Int) => []) h () (.o2 rfl (.nil _)) rfl (fun rec0 K0 next0 _ x3 h => ?_)
   unfold ref15_Few.b0 at h
   refine W.seq <| sr <| mv rfl rfl <| fd rfl rfl fo32_1 rfl <| ld rfl rfl sh30 <| p1 rfl 16 rfl (q_len rfl elS30) <| p2 rfl 14 rfl 17 rfl (q_int rfl rfl) <| nt ?_
   refine W.condP h rfl (fun hb113 h => ?_) (fun hb113 h => ?_)
   ·refine W.skip <| QN.then_ <| W.seq <| W.block <| sr <| fd rfl rfl fo32_1 rfl <| ld rfl rfl sh30 <| mv rfl rfl ?_
    obtain ⟨c114, h⟩ := ite_n h
    refine p2 rfl 22 rfl 23 rfl (q_index rfl el30 rfl c114.1 c114.2) <| ld rfl rfl sh26 <| p1 rfl 25 rfl (q_len rfl elS26) <| pk rfl 26 rfl (q_int rfl rfl) <| WL.nil <| QN.weaken (env' := [(27, _), (3, _), (1, _)]) (.o2 rfl (.one rfl (.nil _))) <| QN.then_ ?_
    refine W.condP h rfl (fun hb115 h => ?_) (fun hb115 h => ?_)
    ·refine sr <| ak rfl <| nt <| W.ret <| QR.block <| QR.then_ <| QR.then_ <| QR.block <| QR.then_ ?_
     cases h
     exact QR.f1 rfl rfl (.t rfl) (.id _)
    ·refine W.skip <| QN.block <| QN.then_ <| W.region <| mv rfl rfl ?_
     obtain ⟨c116, h⟩ := ite_n h
     refine pk rfl 19 rfl (q_addR rfl c116) <| av rfl rfl <| WL.nil ?_
     exact next0 () (x3 + 1) _ h (.o2 rfl (.nil _))
   ·refine W.exit <| QX.then_ <| QX.then_ <| QX.here <| QN.weaken (env' := []) (.nil _) <| QN.then_ <| sr <| ak rfl <| nt <| W.ret ?_
    cases h
    exact QR.f1 rfl rfl (.t rfl) (.id _)
 ·refine W.region <| fd rfl rfl fo32_0 rfl <| lS rfl rfl sh29 rfl rfl ?_
  obtain ⟨t117, ht117, h⟩ := bind_s h
  refine p1 rfl 5 rfl (q_call (f := 71) (A := bA t117) (xs := [.tmp 5]) («as» := [AggA [SlcA kInt a0.fGraph.fNodes, SlcA kEdge a0.fGraph.fEdges]]) rfl ca71 (ref05_Few.con k a0.fGraph t117 ht117) rfl) <| p1 rfl 6 rfl (q_not rfl) <| mv rfl rfl ?_
  rcases bif_s h with ⟨hb118, h⟩ | ⟨hb118, h⟩
  ·refine sk rfl rfl rfl hb118 <| sk rfl rfl rfl hb118 <| sk rfl rfl rfl hb118 <| sk rfl rfl rfl hb118 <| pk rfl 8 rfl (q_pickT rfl hb118) <| WL.nil ?_
   exact QN.weaken (.o2 rfl (.nil _)) (Kj103 () true h)
  ·refine wf rfl rfl rfl hb118 rfl rfl fo32_1 rfl <| wl rfl rfl rfl hb118 rfl rfl sh30 <| wq rfl rfl rfl hb118 (.s 10 rfl .nil) (q_len rfl elS30).o <| wq rfl rfl rfl hb118 (.s 11 rfl (.k .nil)) (q_int rfl rfl).o <| p2 rfl 8 rfl 12 rfl (q_pickF rfl hb118) <| WL.nil ?_
   exact QN.weaken (.o2 rfl (.nil _)) (Kj103 () (decide ((a0.fValues.length : Int) > 45)) h)
theorem law15_small_1.con (k : Nat) (a0 : Host) (r : Bool) (h : law15_small_1 k a0 = some r) : Con Tryz.prog 44 [] [AggA [SlcA kInt a0.fGraph.fNodes, SlcA kEdge a0.fGraph.fEdges, SlcA (kSl kInt) a0.fValues]] (RA (bA r)) := by
 unfold law15_small_1 at h
 refine Con.of (N := 6) Tryz.func44 rfl rfl rfl fun w0_ fg_ => sr <| p1 rfl 0 rfl (q_box rfl (CellsOf.agg _)) <| ak rfl <| nx <| lS rfl rfl sh32 rfl rfl ?_
 obtain ⟨t100, ht100, h⟩ := bind_s h
 refine p1 rfl 3 rfl (q_call (f := 28) (A := bA t100) (xs := [.tmp 3]) («as» := [AggA [SlcA kInt a0.fGraph.fNodes, SlcA kEdge a0.fGraph.fEdges, SlcA (kSl kInt) a0.fValues]]) rfl ca28 (ref15_Few.con k a0 t100 ht100) rfl) <| p1 rfl 4 rfl (q_not rfl) <| av rfl rfl <| nt <| W.ret ?_
 cases h
 exact QR.f1 rfl rfl (.t rfl) (.id _)
theorem law15_small.con (k : Nat) (a0 : Types) (a1 : (List Host)) (r : Bool) (h : law15_small k a0 a1 = some r) : Con Tryz.prog 12 [] [AggA [SlcA kNodeType a0.fNodes, SlcA kEdgeType a0.fEdges], SlcA kHost a1] (RA (bA r)) := by
 unfold law15_small at h
 refine Con.of (N := 12) Tryz.func12 rfl rfl rfl fun w0_ fg_ => sr <| p1 rfl 0 rfl (q_box rfl (CellsOf.agg _)) <| ak rfl <| nt <| W.seq ?_
 refine W.jn1 (Γ := Unit) (fun (_ : Unit) (x4 : Bool) => [(4, bA x4)]) (fun (_ : Unit) (_ : Bool) => []) h (fun _ x4 h => ?_) (fun j104 Kj104 h => ?_)
 ·refine QN.then_ <| W.ret ?_
  cases h
  exact QR.f1 rfl rfl (.t rfl) (.id _)
 ·refine W.region <| lS rfl rfl sh25 rfl rfl ?_
  obtain ⟨t105, ht105, h⟩ := bind_s h
  refine p1 rfl 5 rfl (q_call (f := 42) (A := bA t105) (xs := [.tmp 5]) («as» := [AggA [SlcA kNodeType a0.fNodes, SlcA kEdgeType a0.fEdges]]) rfl ca42 (ref04_Few.con k a0 t105 ht105) rfl) <| mv rfl rfl ?_
  rcases bif_s h with ⟨hb106, h⟩ | ⟨hb106, h⟩
  ·refine wm rfl rfl rfl hb106 rfl rfl ?_
   obtain ⟨t107, ht107, h⟩ := bind_s h
   refine wq rfl rfl rfl hb106 (.s 8 rfl (.f («as» := (fun (x : Host) => [AggA [SlcA kInt x.fGraph.fNodes, SlcA kEdge x.fGraph.fEdges, SlcA (kSl kInt) x.fValues]])) (res := (fun (y : Bool) => bA y)) (p := fun x => law15_small_1 k x) ca44 (fun x y hp => law15_small_1.con k x y hp) .nil)) (q_call (f := 43) (A := bA t107) (xs := [.tmp 8, .func 44]) («as» := [SlcA kHost a1, FnA Tryz.prog (fun (x : Host) => [AggA [SlcA kInt x.fGraph.fNodes, SlcA kEdge x.fGraph.fEdges, SlcA (kSl kInt) x.fValues]]) (fun (y : Bool) => bA y) (fun x => law15_small_1 k x)]) rfl ca43 (slices_ContainsFunc_Host.con k a1 (fun x => law15_small_1 k x) t107 ht107) rfl).o <| wq rfl rfl rfl hb106 (.s 9 rfl .nil) (q_not rfl).o <| p2 rfl 7 rfl 10 rfl (q_pickT rfl hb106) <| av rfl rfl <| WL.nil ?_
   exact QN.weaken (.one rfl (.nil _)) (Kj104 () (!t107) h)
  ·refine sk rfl rfl rfl hb106 <| sk rfl rfl rfl hb106 <| sk rfl rfl rfl hb106 <| pk rfl 7 rfl (q_pickF rfl hb106) <| av rfl rfl <| WL.nil ?_
   exact QN.weaken (.one rfl (.nil _)) (Kj104 () false h)
theorem ref07_Few.con (k : Nat) (a0 : Part) (a1 : Int) (r : Bool) (h : ref07_Few k a0 a1 = some r) : Con Tryz.prog 38 [] [AggA [SlcA kInt a0.fNodes, SlcA kInt a0.fEdges], iA a1] (RA (bA r)) := by
 unfold ref07_Few at h
 refine Con.of (N := 14) Tryz.func38 rfl rfl rfl fun w0_ fg_ => sr <| p1 rfl 0 rfl (q_box rfl (CellsOf.agg _)) <| ak rfl <| nx <| fd rfl rfl fo87_0 rfl <| ld rfl rfl sh26 <| p1 rfl 6 rfl (q_len rfl elS26) <| fd rfl rfl fo87_1 rfl ?_
 refine ld rfl rfl sh26 <| p1 rfl 9 rfl (q_len rfl elS26) ?_
 obtain ⟨c100, h⟩ := ite_n h
 refine p2 rfl 7 rfl 10 rfl (q_addR rfl c100) <| mv rfl rfl <| p2 rfl 11 rfl 12 rfl (q_int rfl rfl) <| av rfl rfl <| WL.nil <| QN.weaken (env' := [(4, _)]) (.one rfl (.nil _)) <| QN.then_ <| W.ret ?_
 cases h
 exact QR.f1 rfl rfl (.t rfl) (.id _)
theorem ref05_Copied.con (k : Nat) (a0 : Graph) (r : Graph) (h : ref05_Copied k a0 = some r) : Con Tryz.prog 49 [] [AggA [SlcA kInt a0.fNodes, SlcA kEdge a0.fEdges]] (fun O' A => ∃ u0 u1, O' = [SlE 3 u0 kInt r.fNodes, SlE 63 u1 kEdge r.fEdges] ∧ A = AggA [HdA u0, HdA u1]) := by
 unfold ref05_Copied at h
 refine Con.of (N := 12) Tryz.func49 rfl rfl rfl fun w0_ fg_ => sr <| p1 rfl 0 rfl (q_box rfl (CellsOf.agg _)) <| WL.w [] rfl (Wanted.plain rfl) rfl rfl .nil (w_alloc rfl z29 (l := [EqA (.slice none 0 0), EqA (.slice none 0 0)]) rfl) ?_
 rintro _ _ ⟨b100, rfl, rfl⟩
 refine nt <| W.seq <| W.drawK [(0, false), (1, false), (2, false), (4, false), (5, false), (6, false)] [3, 7, 8, 9] (bm [0, 0, 2, 7, 0, 0, 32, 127, 255, 511]) mx (by kernel_rfl) <| DK.cons rfl rfl (.p rfl .nil rfl (q_lit0 rfl el26 gr3)) <| df rfl rfl rfl fo29_0 rfl <| dl rfl rfl rfl sh26 ?_
 obtain ⟨c109, h⟩ := ite_n h
 refine DK.cons rfl rfl (.p rfl .nil rfl (q_lit0 rfl el27 gr63)) <| df rfl rfl rfl fo29_1 rfl <| dl rfl rfl rfl sh27 ?_
 obtain ⟨c111, h⟩ := ite_n h
 refine DK.nil <| CSteps.w [] rfl rfl rfl rfl (.s 3 rfl (.s 5 rfl .nil)) rfl (w_appendZ (kd := kInt) rfl el26 rfl gr3 c109) ?_
 rintro _ _ ⟨v110, rfl, rfl⟩
 refine CSteps.w [] rfl rfl rfl rfl (.s 7 rfl (.s 9 rfl .nil)) rfl (w_appendZ (kd := kEdge) rfl el27 rfl gr63 c111) ?_
 rintro _ _ ⟨v112, rfl, rfl⟩
 refine CSteps.p rfl rfl rfl (.s 6 rfl (.s 10 rfl .nil)) rfl (q_build (is := [0, 1]) (xs := [.tmp 6, .tmp 10]) (L := [HdA v110, HdA v112]) rfl rfl z29 pl29 rfl rfl (.cons (CellsOf.one rfl) (.cons (CellsOf.one rfl) .nil)) rfl) <| CSteps.w0 [2] rfl rfl rfl (.s 2 rfl (.s 11 rfl .nil)) rfl (w_store (L := [HdA v110, HdA v112]) rfl sh29 (CellsOf.agg _) rfl rfl (leB rfl) rfl) ?_
 rintro _ _ ⟨rfl, rfl⟩
 refine CSteps.nil <| QN.to (StTo.still [0] 2 rfl rfl) <| QN.weaken (env' := [(2, _)]) (.one rfl (.nil _)) <| QN.then_ <| W.ret ?_
 cases h
 refine QR.order [1, 0] rfl ?_
 exact QR.r1 rfl rfl (.ps rfl sh29 rfl) ⟨v110, v112, rfl, rfl⟩
theorem ref15_Copied.con (k : Nat) (a0 : Host) (r : Host) (h : ref15_Copied k a0 = some r) : Con Tryz.prog 14 [] [AggA [SlcA kInt a0.fGraph.fNodes, SlcA kEdge a0.fGraph.fEdges, SlcA (kSl kInt) a0.fValues]] (fun O' A => ∃ (u0 : Value × List Value), O' = [TbE 26 3 u0.1 kInt u0.2 r.fValues] ∧ A = AggA [SlcA kInt r.fGraph.fNodes, SlcA kEdge r.fGraph.fEdges, HdA u0.1]) := by
 unfold ref15_Copied at h
 refine Con.of (N := 29) Tryz.func14 rfl rfl rfl fun w0_ fg_ => sr <| p1 rfl 0 rfl (q_box rfl (CellsOf.agg _)) <| WL.w [] rfl (Wanted.plain rfl) rfl rfl .nil (w_alloc rfl z32 (l := [EqA (.slice none 0 0), EqA (.slice none 0 0), EqA (.slice none 0 0)]) rfl) ?_
 rintro _ _ ⟨b100, rfl, rfl⟩
 refine nx <| fd rfl rfl fo32_0 rfl <| lS rfl rfl sh29 rfl rfl ?_
 obtain ⟨t101, ht101, h⟩ := bind_s h
 refine WL.w [] rfl (Wanted.plain rfl) rfl rfl (.s 6 rfl .nil) (w_callI (f := 49) (xs := [.tmp 6]) («as» := [AggA [SlcA kInt a0.fGraph.fNodes, SlcA kEdge a0.fGraph.fEdges]]) rfl ca49 (ref05_Copied.con k a0.fGraph t101 ht101) rfl (.cons (Imp.id _) .nil)) ?_
 rintro _ _ ⟨v102, v103, rfl, rfl⟩
 refine p1 rfl 7 rfl (q_build (is := [0]) (xs := [.tmp 7]) (L := [HdA v102, HdA v103, EqA (.slice none 0 0)]) rfl rfl z32 pl32 rfl rfl (.cons (CellsOf.agg _) .nil) rfl) <| WL.w [] rfl (Wanted.plain rfl) rfl rfl .nil (w_alloc rfl z32 (l := [EqA (.slice none 0 0), EqA (.slice none 0 0), EqA (.slice none 0 0)]) rfl) ?_
 rintro _ _ ⟨b104, rfl, rfl⟩
 refine WL.w0 [0] rfl (Wanted.plain rfl) rfl (.s 3 rfl (.s 8 rfl .nil)) (w_store (L := [HdA v102, HdA v103, EqA (.slice none 0 0)]) rfl sh32 (CellsOf.agg _) rfl rfl (leB rfl) rfl) ?_
 rintro _ _ ⟨rfl, rfl⟩
 refine nt <| W.seq <| sr <| ak rfl <| nt <| W.block <| W.to (StTo.boxImp [0] rfl (.cons (Imp.id _) (.cons (Imp.id _) (.cons Imp.nilHd .nil)))) <| W.to (StTo.newNilT 26 3 kInt) <| W.order [4, 1, 1, 1, 0] rfl ?_
 refine W.loop2 (Γ := (Value × (List Value))) (fun (_ : (Value × (List Value))) (_ : (List (List Int))) (x4 : Int) => [(1, PtrA [SlcA kInt a0.fGraph.fNodes, SlcA kEdge a0.fGraph.fEdges, SlcA (kSl kInt) a0.fValues]), (2, EqA (.pointer (some ⟨b100, 0, none⟩))), (3, EqA (.pointer (some ⟨b104, 0, none⟩))), (4, iA x4)]) (fun (g0 : (Value × (List Value))) (y2 : (List (List Int))) (_ : Int) => [BoxE b100 [EqA (.slice none 0 0), EqA (.slice none 0 0), EqA (.slice none 0 0)], BoxE b104 [HdA v102, HdA v103, HdA g0.1], SlE 3 v102 kInt t101.fNodes, SlE 63 v103 kEdge t101.fEdges, TbE 26 3 g0.1 kInt g0.2 y2]) h ((.slice none 0 0), []) (.o4 rfl (.nil _)) rfl (fun rec0 K0 next0 g0 y2 x4 h => ?_)
 unfold ref15_Copied.b0 at h
 refine W.seq <| sr <| mv rfl rfl <| fd rfl rfl fo32_1 rfl <| ld rfl rfl sh30 <| p1 rfl 11 rfl (q_len rfl elS30) <| p2 rfl 9 rfl 12 rfl (q_int rfl rfl) <| nt ?_
 refine W.condP h rfl (fun hb156 h => ?_) (fun hb156 h => ?_)
 ·refine W.skip <| QN.then_ <| W.seq <| W.block <| W.drawKT [(0, false), (1, true), (2, false), (3, false), (4, false), (5, false), (6, false), (7, false)] [8, 9, 10, 11, 12] [8, 9, 11] 5 [[], [0], [], [], [3], [], [3, 4, 5], [3, 4, 5, 6], [2, 3, 4, 5, 6, 7], [2, 3, 4, 5, 6, 7, 8], [0, 1, 2, 3, 4, 5, 6, 7, 8, 9], [0, 1, 2, 3, 4, 5, 6, 7, 8, 9, 10], [0, 1, 2, 3, 4, 5, 6, 7, 8, 9, 10, 11]] mx (by kernel_rfl) <| DKT.cons rfl rfl (.p rfl (.s 3 rfl .nil) rfl (q_fieldP rfl fo32_1)) <| DKT.cons rfl rfl (.o rfl (.s 16 rfl .nil) rfl (fun _ => (q_loadB rfl sh30 (i := 1) rfl rfl))) <| DKT.cons rfl rfl (.p rfl .nil rfl (q_lit0 rfl el26 gr3)) <| DKT.cons rfl rfl (.p rfl (.s 1 rfl .nil) rfl (q_field rfl fo32_1 rfl)) <| DKT.cons rfl rfl (.p rfl (.s 19 rfl .nil) rfl (q_load rfl sh30)) <| DKT.cons rfl rfl (.p rfl (.s 4 rfl .nil) rfl (q_move rfl)) ?_
  obtain ⟨c169, h⟩ := ite_n h
  refine DKT.cons rfl rfl (.p rfl (.s 20 rfl (.s 21 rfl .nil)) rfl (q_index rfl el30 rfl c169.1 c169.2)) <| DKT.cons rfl rfl (.p rfl (.s 22 rfl .nil) rfl (q_load rfl sh26)) ?_
  obtain ⟨c170, h⟩ := ite_n h
  obtain ⟨c172, h⟩ := ite_n h
  refine DKT.nil <| CT.step ?_
  refine CTc.yes rfl ?_ ?_
  ·refine CStep1.w [] (fun _ => rfl) rfl rfl rfl rfl (.s 18 rfl (.s 23 rfl .nil)) rfl (w_appendZ (kd := kInt) rfl el26 rfl gr3 c170) ?_
   rintro _ _ ⟨v171, rfl, rfl⟩
   refine CT.list (l' := [9, 10, 11, 12]) rfl <| CT.step ?_
   refine CTc.yes rfl ?_ ?_
   ·refine CStep1.p rfl rfl rfl (.s 24 rfl .nil) rfl (q_lit (kd := kVal) (ps := [(0, .tmp 24)]) (xs := [.tmp 24]) («as» := [HdA v171]) (ys := [v171]) rfl rfl el30 rfl gr26 rfl rfl rfl (.cons (CellsOf.one rfl) .nil)) <| CT.list (l' := [10, 11, 12]) rfl <| CT.step ?_
    refine CTc.yes rfl ?_ ?_
    ·refine CStep1.w [5, 0] (fun h => absurd h (by decide)) rfl rfl rfl rfl (.s 17 rfl (.s 25 rfl .nil)) rfl (w_appendT (kd := kInt) rfl el30 gr26 c172) ?_
     rintro _ _ ⟨g173, rfl, rfl⟩
     refine CT.list (l' := [11, 12]) rfl <| CT.step ?_
     refine CTc.yes rfl ?_ ?_
     ·refine CStep1.p rfl rfl rfl (.s 3 rfl .nil) rfl (q_fieldP rfl fo32_1) <| CT.list (l' := [12]) rfl <| CT.step ?_
      refine CTc.yes rfl ?_ ?_
      ·refine CStep1.w0 [2] (fun h => absurd h (by decide)) rfl rfl rfl (.s 27 rfl (.s 26 rfl .nil)) rfl (w_store (L := [HdA v102, HdA v103, HdA g173.1]) rfl sh30 (CellsOf.one rfl) rfl rfl (leB rfl) rfl) ?_
       rintro _ _ ⟨rfl, rfl⟩
       refine CT.list (l' := []) rfl <| CT.nil <| QN.block <| QN.weaken (env' := [(4, _), (3, _), (2, _), (1, _)]) (.o4 rfl (.nil _)) <| QN.then_ <| W.region <| mv rfl rfl ?_
       obtain ⟨c175, h⟩ := ite_n h
       refine pk rfl 14 rfl (q_addR rfl c175) <| av rfl rfl <| WL.nil <| QN.order [2, 0, 1, 1, 0] rfl ?_
       exact next0 (g173.1, g173.2) (y2 ++ [(rd a0.fValues x4)]) (x4 + 1) _ h (.o4 rfl (.nil _))
      exact CTc.end
     refine CTc.no rfl ?_
     exact CTc.end
    refine CTc.no rfl <| CTc.no rfl ?_
    exact CTc.end
   refine CTc.no rfl <| CTc.no rfl <| CTc.no rfl ?_
   exact CTc.end
  refine CTc.no rfl <| CTc.no rfl <| CTc.no rfl <| CTc.no rfl ?_
  exact CTc.end
 ·refine W.exit <| QX.then_ <| QX.then_ <| QX.here <| QN.weaken (env' := [(3, _), (2, _)]) (.o2 rfl (.nil _)) <| QN.then_ <| sr <| WL.q (Wanted.plain rfl) rfl rfl (.s 3 rfl .nil) (q_loadBS (l' := [HdA v102, HdA v103, HdA g0.1]) rfl sh32 (i := 1) rfl rfl rfl) <| WL.w0 [0] rfl (Wanted.plain rfl) rfl (.s 2 rfl (.s 28 rfl .nil)) (w_store (L := [HdA v102, HdA v103, HdA g0.1]) rfl sh32 (CellsOf.agg _) rfl rfl (leB rfl) rfl) ?_
  rintro _ _ ⟨rfl, rfl⟩
  refine WL.nil <| QN.to (StTo.still [0] 2 rfl rfl) <| QN.then_ <| W.ret ?_
  cases h
  refine QR.to (StTo.ptrFreeze [1] 2 0 rfl rfl rfl) <| QR.to (StTo.ptrFreeze [1] 2 1 rfl rfl rfl) <| QR.drop [0] rfl ?_
  exact QR.r1 rfl rfl (.ps rfl sh32 rfl) ⟨(g0.1, g0.2), rfl, rfl⟩
theorem subgraph_list.con (k : Nat) (a0 : (List Int)) (a1 : Int) (r : Int) (h : subgraph_list k a0 a1 = some r) : Con Tryz.prog 162 [] [SlcA kInt a0, iA a1] (RA (iA r)) := by
 unfold subgraph_list at h
 refine Con.of (N := 33) Tryz.func162 rfl rfl rfl fun w0_ fg_ => sr <| ak rfl <| nt <| W.seq <| sr <| mv rfl rfl <| p1 rfl 7 rfl (q_len rfl elS26) <| mk_ rfl <| WL.nil ?_
 refine QN.then_ <| W.block ?_
 refine W.loop1 (Γ := Unit) (fun (_ : Unit) (x9 : Int) => [(0, SlcA kInt a0), (1, iA a1), (7, SlcA kInt a0), (8, iA (a0.length : Int)), (9, iA x9)]) (fun (_ : Unit) (_ : Int) => []) h () (.o4 rfl (.one rfl (.nil _))) rfl (fun rec0 K0 next0 _ x9 h => ?_)
 unfold subgraph_list.b0 at h
 refine sr <| p2 rfl 9 rfl 8 rfl (q_int rfl rfl) <| nt <| W.seq ?_
 refine W.condP h rfl (fun hb134 h => ?_) (fun hb134 h => ?_)
 ·refine W.skip <| QN.then_ <| W.seq <| W.block <| sr <| mv rfl rfl ?_
  obtain ⟨c135, h⟩ := ite_n h
  refine p2 rfl 7 rfl 9 rfl (q_index rfl el26 rfl c135.1 c135.2) <| ld rfl rfl sh3 <| av rfl rfl <| av rfl rfl <| nt <| W.seq <| W.seq ?_
  refine W.jn1 (Γ := Unit) (fun (_ : Unit) (x20 : Bool) => [(0, SlcA kInt a0), (1, iA a1), (7, SlcA kInt a0), (8, iA (a0.length : Int)), (9, iA x9), (5, iA x9), (6, iA (rd a0 x9)), (20, bA x20)]) (fun (_ : Unit) (_ : Bool) => []) h (fun _ x20 h => ?_) (fun j138 Kj138 h => ?_)
  ·refine QN.then_ ?_
   refine W.condP h rfl (fun hb139 h => ?_) (fun hb139 h => ?_)
   ·refine sr <| ak rfl <| WL.nil <| QN.weaken (env' := [(4, _)]) (.one rfl (.nil _)) <| QN.then_ <| W.ret <| QR.then_ <| QR.block <| QR.then_ <| QR.then_ <| QR.block <| QR.then_ ?_
    cases h
    exact QR.f1 rfl rfl (.t rfl) (.id _)
   ·refine W.skip <| QN.then_ <| W.seq ?_
    refine W.jn1 (Γ := Unit) (fun (_ : Unit) (x31 : Bool) => [(0, SlcA kInt a0), (1, iA a1), (7, SlcA kInt a0), (8, iA (a0.length : Int)), (9, iA x9), (31, bA x31)]) (fun (_ : Unit) (_ : Bool) => []) h (fun _ x31 h => ?_) (fun j144 Kj144 h => ?_)
    ·refine QN.then_ ?_
     refine W.condP h rfl (fun hb145 h => ?_) (fun hb145 h => ?_)
     ·refine sr <| ak rfl <| nt <| W.ret <| QR.block <| QR.then_ <| QR.then_ <| QR.block <| QR.then_ ?_
      cases h
      exact QR.f1 rfl rfl (.t rfl) (.id _)
     ·refine W.skip <| QN.block <| QN.then_ <| W.region ?_
      obtain ⟨c146, h⟩ := ite_n h
      refine pk rfl 9 rfl (q_addR rfl c146) <| mv rfl rfl <| WL.nil ?_
      exact next0 () (x9 + 1) _ h (.o4 rfl (.one rfl (.nil _)))
    ·refine W.region <| mv rfl rfl <| pk rfl 21 rfl (q_int rfl rfl) <| mv rfl rfl ?_
     rcases bif_s h with ⟨hb147, h⟩ | ⟨hb147, h⟩
     ·refine wm rfl rfl rfl hb147 rfl rfl <| wm rfl rfl rfl hb147 rfl rfl <| wm rfl rfl rfl hb147 rfl rfl ?_
      obtain ⟨c148, h⟩ := ite_n h
      refine wq rfl rfl rfl hb147 (.s 26 rfl (.k .nil)) (q_subR rfl c148).o ?_
      obtain ⟨c149, h⟩ := ite_n h
      refine wq rfl rfl rfl hb147 (.s 25 rfl (.s 27 rfl .nil)) (q_index rfl el26 rfl c149.1 c149.2).o <| wl rfl rfl rfl hb147 rfl rfl sh3 <| wq rfl rfl rfl hb147 (.s 24 rfl (.s 29 rfl .nil)) (q_int rfl rfl).o <| p2 rfl 23 rfl 30 rfl (q_pickT rfl hb147) <| WL.nil ?_
      exact QN.weaken (.o4 rfl (.o2 rfl (.nil _))) (Kj144 () (decide ((rd a0 x9) ≤ (rd a0 (x9 - 1)))) h)
     ·refine sk rfl rfl rfl hb147 <| sk rfl rfl rfl hb147 <| sk rfl rfl rfl hb147 <| sk rfl rfl rfl hb147 <| sk rfl rfl rfl hb147 <| sk rfl rfl rfl hb147 <| sk rfl rfl rfl hb147 <| pk rfl 23 rfl (q_pickF rfl hb147) <| WL.nil ?_
      exact QN.weaken (.o4 rfl (.o2 rfl (.nil _))) (Kj144 () false h)
  ·refine W.region <| mv rfl rfl <| pk rfl 14 rfl (q_int rfl rfl) <| mv rfl rfl ?_
   rcases bif_s h with ⟨hb150, h⟩ | ⟨hb150, h⟩
   ·refine sk rfl rfl rfl hb150 <| sk rfl rfl rfl hb150 <| sk rfl rfl rfl hb150 <| pk rfl 16 rfl (q_pickT rfl hb150) <| WL.nil ?_
    exact QN.weaken (.o4 rfl (.o4 rfl (.nil _))) (Kj138 () true h)
   ·refine wm rfl rfl rfl hb150 rfl rfl <| wm rfl rfl rfl hb150 rfl rfl <| wq rfl rfl rfl hb150 (.s 17 rfl (.s 18 rfl .nil)) (q_int rfl rfl).o <| p2 rfl 16 rfl 19 rfl (q_pickF rfl hb150) <| WL.nil ?_
    exact QN.weaken (.o4 rfl (.o4 rfl (.nil _))) (Kj138 () (decide ((rd a0 x9) ≥ a1)) h)
 ·refine W.exit <| QX.then_ <| QX.then_ <| QX.here <| QN.then_ <| sr <| ak rfl <| nt <| W.ret ?_
  cases h
  exact QR.f1 rfl rfl (.t rfl) (.id _)
theorem cmp_Less_int.con (k : Nat) (a0 : Int) (a1 : Int) (r : Bool) (h : cmp_Less_int k a0 a1 = some r) : Con Tryz.prog 146 [] [iA a0, iA a1] (RA (bA r)) := by
 unfold cmp_Less_int at h
 refine Con.of (N := 17) Tryz.func146 rfl rfl rfl fun w0_ fg_ => sr <| ak rfl <| nt <| W.seq ?_
 refine W.jn1 (Γ := Unit) (fun (_ : Unit) (x4 : Bool) => [(4, bA x4)]) (fun (_ : Unit) (_ : Bool) => []) h (fun _ x4 h => ?_) (fun j105 Kj105 h => ?_)
 ·refine QN.then_ <| W.ret ?_
  cases h
  exact QR.f1 rfl rfl (.t rfl) (.id _)
 ·refine W.region <| mv rfl rfl ?_
  obtain ⟨t106, ht106, h⟩ := bind_s h
  refine p1 rfl 5 rfl (q_call (f := 143) (A := bA t106) (xs := [.tmp 5]) («as» := [iA a0]) rfl ca143 (cmp_isNaN_int.con k a0 t106 ht106) rfl) <| mv rfl rfl ?_
  rcases bif_s h with ⟨hb107, h⟩ | ⟨hb107, h⟩
  ·refine wm rfl rfl rfl hb107 rfl rfl ?_
   obtain ⟨t108, ht108, h⟩ := bind_s h
   refine wq rfl rfl rfl hb107 (.s 8 rfl .nil) (q_call (f := 143) (A := bA t108) (xs := [.tmp 8]) («as» := [iA a1]) rfl ca143 (cmp_isNaN_int.con k a1 t108 ht108) rfl).o <| wq rfl rfl rfl hb107 (.s 9 rfl .nil) (q_not rfl).o <| p2 rfl 7 rfl 10 rfl (q_pickT rfl hb107) <| mv rfl rfl ?_
   rcases bif_s h with ⟨hb109, h⟩ | ⟨hb109, h⟩
   ·refine sk rfl rfl rfl hb109 <| sk rfl rfl rfl hb109 <| sk rfl rfl rfl hb109 <| pk rfl 12 rfl (q_pickT rfl hb109) <| av rfl rfl <| WL.nil ?_
    exact QN.weaken (.one rfl (.nil _)) (Kj105 () true h)
   ·refine wm rfl rfl rfl hb109 rfl rfl <| wm rfl rfl rfl hb109 rfl rfl <| wq rfl rfl rfl hb109 (.s 13 rfl (.s 14 rfl .nil)) (q_int rfl rfl).o <| p2 rfl 12 rfl 15 rfl (q_pickF rfl hb109) <| av rfl rfl <| WL.nil ?_
    exact QN.weaken (.one rfl (.nil _)) (Kj105 () (decide (a0 < a1)) h)
  ·refine sk rfl rfl rfl hb107 <| sk rfl rfl rfl hb107 <| sk rfl rfl rfl hb107 <| pk rfl 7 rfl (q_pickF rfl hb107) <| mv rfl rfl <| wm rfl rfl rfl rfl rfl rfl <| wm rfl rfl rfl rfl rfl rfl <| wq rfl rfl rfl rfl (.s 13 rfl (.s 14 rfl .nil)) (q_int rfl rfl).o <| p2 rfl 12 rfl 15 rfl (q_pickF rfl rfl) <| av rfl rfl <| WL.nil ?_
   exact QN.weaken (.one rfl (.nil _)) (Kj105 () (decide (a0 < a1)) h)
theorem slices_isNaN_int.con (k : Nat) (a0 : Int) (r : Bool) (h : slices_isNaN_int k a0 = some r) : Con Tryz.prog 147 [] [iA a0] (RA (bA r)) := by
 unfold slices_isNaN_int at h
 refine Con.of (N := 6) Tryz.func147 rfl rfl rfl fun w0_ fg_ => sr <| ak rfl <| nx <| mv rfl rfl <| mv rfl rfl <| p2 rfl 3 rfl 4 rfl (q_int rfl rfl) <| av rfl rfl <| WL.nil ?_
 refine QN.then_ <| W.ret ?_
 cases h
 exact QR.f1 rfl rfl (.t rfl) (.id _)
theorem slices_BinarySearch_int.con (k : Nat) (a0 : (List Int)) (a1 : Int) (r : (Int × Bool)) (h : slices_BinarySearch_int k a0 a1 = some r) : Con Tryz.prog 122 [] [SlcA kInt a0, iA a1] (RA (TupA [iA r.1, bA r.2])) := by
 unfold slices_BinarySearch_int at h
 refine Con.of (N := 54) Tryz.func122 rfl rfl rfl fun w0_ fg_ => sr <| ak rfl <| ak rfl <| nx <| mv rfl rfl <| p1 rfl 10 rfl (q_len rfl elS26) <| av rfl rfl <| WL.nil ?_
 refine QN.then_ <| sr <| mv rfl rfl <| ak rfl <| av rfl rfl <| nt <| W.seq <| W.block ?_
 refine W.loop2 (Γ := Unit) (fun (_ : Unit) (x7 : Int) (x8 : Int) => [(0, SlcA kInt a0), (1, iA a1), (6, iA (a0.length : Int)), (7, iA x7), (8, iA x8)]) (fun (_ : Unit) (_ : Int) (_ : Int) => []) h () (.o4 rfl (.one rfl (.nil _))) rfl (fun rec0 K0 next0 _ x7 x8 h => ?_)
 unfold slices_BinarySearch_int.b0 at h
 refine W.seq <| sr <| mv rfl rfl <| mv rfl rfl <| p2 rfl 13 rfl 14 rfl (q_int rfl rfl) <| nt ?_
 refine W.condP h rfl (fun hb132 h => ?_) (fun hb132 h => ?_)
 ·refine W.skip <| QN.then_ <| W.block <| sr <| mv rfl rfl <| mv rfl rfl ?_
  obtain ⟨c133, h⟩ := ite_n h
  refine p2 rfl 16 rfl 17 rfl (q_addR rfl c133) <| p1 rfl 18 rfl (q_conv rfl cv181 cvS3) <| pk rfl 19 rfl (q_shrN rfl (by decide)) <| p1 rfl 20 rfl (q_conv rfl cv3 cvS181) <| av rfl rfl <| WL.nil <| QN.weaken (env' := [(9, _), (8, _), (7, _), (6, _), (1, _), (0, _)]) (.o4 rfl (.o2 rfl (.nil _))) <| QN.then_ <| sr <| mv rfl rfl <| mv rfl rfl ?_
  obtain ⟨c134, h⟩ := ite_n h
  refine p2 rfl 22 rfl 23 rfl (q_index rfl el26 rfl c134.1 c134.2) <| ld rfl rfl sh3 <| mv rfl rfl ?_
  obtain ⟨t135, ht135, h⟩ := bind_s h
  refine p2 rfl 25 rfl 26 rfl (q_call (f := 146) (A := bA t135) (xs := [.tmp 25, .tmp 26]) («as» := [iA (rd a0 (IntKind.i64.wrap (shR .u64 (IntKind.u64.wrap (x7 + x8)) 1))), iA a1]) rfl ca146 (cmp_Less_int.con k (rd a0 (IntKind.i64.wrap (shR .u64 (IntKind.u64.wrap (x7 + x8)) 1))) a1 t135 ht135) rfl) <| nt ?_
  refine W.condP h rfl (fun hb138 h => ?_) (fun hb138 h => ?_)
  ·refine W.region <| mv rfl rfl ?_
   obtain ⟨c139, h⟩ := ite_n h
   refine pk rfl 28 rfl (q_addR rfl c139) <| av rfl rfl <| WL.nil <| QN.block ?_
   exact next0 () ((IntKind.i64.wrap (shR .u64 (IntKind.u64.wrap (x7 + x8)) 1)) + 1) x8 _ h (.o4 rfl (.one rfl (.nil _)))
  ·refine W.region <| mv rfl rfl <| av rfl rfl <| WL.nil <| QN.block ?_
   exact next0 () x7 (IntKind.i64.wrap (shR .u64 (IntKind.u64.wrap (x7 + x8)) 1)) _ h (.o4 rfl (.one rfl (.nil _)))
 ·refine W.exit <| QX.then_ <| QX.then_ <| QX.here <| QN.then_ <| W.seq ?_
  refine W.jn1 (Γ := Unit) (fun (_ : Unit) (x5 : Bool) => [(4, iA x7), (5, bA x5)]) (fun (_ : Unit) (_ : Bool) => []) h (fun _ x5 h => ?_) (fun j148 Kj148 h => ?_)
  ·refine QN.then_ <| W.ret ?_
   cases h
   exact QR.f2 rfl rfl (.t rfl) (.t rfl) (.id _)
  ·refine W.region <| mv rfl rfl <| mv rfl rfl <| mv rfl rfl <| p2 rfl 32 rfl 33 rfl (q_int rfl rfl) <| mv rfl rfl ?_
   rcases bif_s h with ⟨hb149, h⟩ | ⟨hb149, h⟩
   ·refine wm rfl rfl rfl hb149 rfl rfl <| wm rfl rfl rfl hb149 rfl rfl ?_
    obtain ⟨c150, h⟩ := ite_n h
    refine wq rfl rfl rfl hb149 (.s 36 rfl (.s 37 rfl .nil)) (q_index rfl el26 rfl c150.1 c150.2).o <| wl rfl rfl rfl hb149 rfl rfl sh3 <| wm rfl rfl rfl hb149 rfl rfl <| wq rfl rfl rfl hb149 (.s 39 rfl (.s 40 rfl .nil)) (q_int rfl rfl).o <| wm rfl rfl rfl hb149 rfl rfl ?_
    rcases bif_s h with ⟨hb151, h⟩ | ⟨hb151, h⟩
    ·refine sk rfl rfl rfl hb151 <| sk rfl rfl rfl hb151 <| sk rfl rfl rfl hb151 <| sk rfl rfl rfl hb151 <| sk rfl rfl rfl hb151 <| sk rfl rfl rfl hb151 <| su rfl rfl rfl <| su rfl rfl rfl <| sk rfl rfl rfl hb151 <| wq rfl rfl rfl hb149 (.s 42 rfl (.k .nil)) (q_pickT rfl hb151).o <| p2 rfl 35 rfl 52 rfl (q_pickT rfl hb149) <| av rfl rfl <| av rfl rfl ?_
     refine WL.nil ?_
     exact QN.weaken (.o2 rfl (.nil _)) (Kj148 () true h)
    ·refine wm rfl rfl rfl hb151 rfl rfl <| wm rfl rfl rfl hb151 rfl rfl ?_
     obtain ⟨c152, h⟩ := ite_n h
     refine wq rfl rfl rfl hb151 (.s 43 rfl (.s 44 rfl .nil)) (q_index rfl el26 rfl c152.1 c152.2).o <| wl rfl rfl rfl hb151 rfl rfl sh3 ?_
     obtain ⟨t153, ht153, h⟩ := bind_s h
     refine wq rfl rfl rfl hb151 (.s 46 rfl .nil) (q_call (f := 147) (A := bA t153) (xs := [.tmp 46]) («as» := [iA (rd a0 x7)]) rfl ca147 (slices_isNaN_int.con k (rd a0 x7) t153 ht153) rfl).o <| wm rfl rfl rfl hb151 rfl rfl ?_
     rcases bif_s h with ⟨hb154, h⟩ | ⟨hb154, h⟩
     ·refine wm rfl rfl rfl hb154 rfl rfl ?_
      obtain ⟨t155, ht155, h⟩ := bind_s h
      refine wq rfl rfl rfl hb154 (.s 49 rfl .nil) (q_call (f := 147) (A := bA t155) (xs := [.tmp 49]) («as» := [iA a1]) rfl ca147 (slices_isNaN_int.con k a1 t155 ht155) rfl).o <| wq rfl rfl rfl hb151 (.s 48 rfl (.s 50 rfl .nil)) (q_pickT rfl hb154).o <| wq rfl rfl rfl hb149 (.s 42 rfl (.s 51 rfl .nil)) (q_pickF rfl hb151).o <| p2 rfl 35 rfl 52 rfl (q_pickT rfl hb149) <| av rfl rfl <| av rfl rfl <| WL.nil ?_
      exact QN.weaken (.o2 rfl (.nil _)) (Kj148 () t155 h)
     ·refine sk rfl rfl rfl hb154 <| sk rfl rfl rfl hb154 <| wq rfl rfl rfl hb151 (.s 48 rfl (.k .nil)) (q_pickF rfl hb154).o <| wq rfl rfl rfl hb149 (.s 42 rfl (.s 51 rfl .nil)) (q_pickF rfl hb151).o <| p2 rfl 35 rfl 52 rfl (q_pickT rfl hb149) <| av rfl rfl <| av rfl rfl <| WL.nil ?_
      exact QN.weaken (.o2 rfl (.nil _)) (Kj148 () false h)
   ·refine sk rfl rfl rfl hb149 <| sk rfl rfl rfl hb149 <| sk rfl rfl rfl hb149 <| sk rfl rfl rfl hb149 <| sk rfl rfl rfl hb149 <| sk rfl rfl rfl hb149 <| sk rfl rfl rfl hb149 <| su rfl rfl rfl <| su rfl rfl rfl <| su rfl rfl rfl <| su rfl rfl rfl <| su rfl rfl rfl <| su rfl rfl rfl ?_
    refine su rfl rfl rfl <| su rfl rfl rfl <| su rfl rfl rfl <| sk rfl rfl rfl hb149 <| pk rfl 35 rfl (q_pickF rfl hb149) <| av rfl rfl <| av rfl rfl <| WL.nil ?_
    exact QN.weaken (.o2 rfl (.nil _)) (Kj148 () false h)
theorem subgraph_has.con (k : Nat) (a0 : (List Int)) (a1 : Int) (r : Bool) (h : subgraph_has k a0 a1 = some r) : Con Tryz.prog 163 [] [SlcA kInt a0, iA a1] (RA (bA r)) := by
 unfold subgraph_has at h
 refine Con.of (N := 14) Tryz.func163 rfl rfl rfl fun w0_ fg_ => sr <| ak rfl <| nx <| mv rfl rfl <| mv rfl rfl ?_
 obtain ⟨t100, ht100, h⟩ := bind_s h
 refine p2 rfl 8 rfl 9 rfl (q_call (f := 122) (A := TupA [iA t100.1, bA t100.2]) (xs := [.tmp 8, .tmp 9]) («as» := [SlcA kInt a0, iA a1]) rfl ca122 (slices_BinarySearch_int.con k a0 a1 t100 ht100) rfl) <| mv rfl rfl <| p1 rfl 7 rfl (q_extract rfl rfl) <| p1 rfl 7 rfl (q_extract rfl rfl) <| av rfl rfl <| av rfl rfl <| WL.nil <| QN.weaken (env' := [(6, _)]) (.one rfl (.nil _)) <| QN.then_ <| sr <| mv rfl rfl <| av rfl rfl ?_
 refine nt <| W.ret ?_
 cases h
 exact QR.f1 rfl rfl (.t rfl) (.id _)
theorem subgraph_part.con (k : Nat) (a0 : Graph) (a1 : Part) (r : Int) (h : subgraph_part k a0 a1 = some r) : Con Tryz.prog 145 [] [AggA [SlcA kInt a0.fNodes, SlcA kEdge a0.fEdges], AggA [SlcA kInt a1.fNodes, SlcA kInt a1.fEdges]] (RA (iA r)) := by
 unfold subgraph_part at h
 refine Con.of (N := 57) Tryz.func145 rfl rfl rfl fun w0_ fg_ => sr <| p1 rfl 0 rfl (q_box rfl (CellsOf.agg _)) <| p1 rfl 1 rfl (q_box rfl (CellsOf.agg _)) <| ak rfl <| nt <| W.seq <| sr <| fd rfl rfl fo87_0 rfl <| ld rfl rfl sh26 ?_
 refine fd rfl rfl fo29_0 rfl <| ld rfl rfl sh26 <| p1 rfl 12 rfl (q_len rfl elS26) ?_
 obtain ⟨t100, ht100, h⟩ := bind_s h
 refine p2 rfl 10 rfl 13 rfl (q_call (f := 162) (A := iA t100) (xs := [.tmp 10, .tmp 13]) («as» := [SlcA kInt a1.fNodes, iA (a0.fNodes.length : Int)]) rfl ca162 (subgraph_list.con k a1.fNodes (a0.fNodes.length : Int) t100 ht100) rfl) <| av rfl rfl <| WL.nil <| QN.weaken (env' := [(5, _), (3, _), (2, _)]) (.o2 rfl (.one rfl (.nil _))) <| QN.then_ <| sr <| mv rfl rfl <| pk rfl 15 rfl (q_int rfl rfl) <| nt ?_
 refine W.condP h rfl (fun hb101 h => ?_) (fun hb101 h => ?_)
 ·refine sr <| mv rfl rfl <| av rfl rfl <| nt <| W.ret <| QR.then_ ?_
  cases h
  exact QR.f1 rfl rfl (.t rfl) (.id _)
 ·refine W.skip <| QN.then_ <| W.seq <| sr <| fd rfl rfl fo87_1 rfl <| ld rfl rfl sh26 <| fd rfl rfl fo29_1 rfl <| ld rfl rfl sh27 <| p1 rfl 21 rfl (q_len rfl elS27) ?_
  obtain ⟨t102, ht102, h⟩ := bind_s h
  refine p2 rfl 19 rfl 22 rfl (q_call (f := 162) (A := iA t102) (xs := [.tmp 19, .tmp 22]) («as» := [SlcA kInt a1.fEdges, iA (a0.fEdges.length : Int)]) rfl ca162 (subgraph_list.con k a1.fEdges (a0.fEdges.length : Int) t102 ht102) rfl) <| av rfl rfl <| WL.nil <| QN.weaken (env' := [(6, _), (3, _), (2, _)]) (.o2 rfl (.one rfl (.nil _))) <| QN.then_ <| sr <| mv rfl rfl <| pk rfl 24 rfl (q_int rfl rfl) <| nt ?_
  refine W.condP h rfl (fun hb103 h => ?_) (fun hb103 h => ?_)
  ·refine sr <| mv rfl rfl <| av rfl rfl <| nt <| W.ret <| QR.then_ ?_
   cases h
   exact QR.f1 rfl rfl (.t rfl) (.id _)
  ·refine W.skip <| QN.then_ <| W.seq <| sr <| fd rfl rfl fo87_1 rfl <| ld rfl rfl sh26 <| p1 rfl 28 rfl (q_len rfl elS26) <| mk_ rfl <| nt <| W.block ?_
   refine W.loop1 (Γ := Unit) (fun (_ : Unit) (x30 : Int) => [(2, PtrA [SlcA kInt a0.fNodes, SlcA kEdge a0.fEdges]), (3, PtrA [SlcA kInt a1.fNodes, SlcA kInt a1.fEdges]), (28, SlcA kInt a1.fEdges), (29, iA (a1.fEdges.length : Int)), (30, iA x30)]) (fun (_ : Unit) (_ : Int) => []) h () (.o4 rfl (.one rfl (.nil _))) rfl (fun rec0 K0 next0 _ x30 h => ?_)
   unfold subgraph_part.b0 at h
   refine sr <| p2 rfl 30 rfl 29 rfl (q_int rfl rfl) <| nt <| W.seq ?_
   refine W.condP h rfl (fun hb146 h => ?_) (fun hb146 h => ?_)
   ·refine W.skip <| QN.then_ <| W.seq <| W.block <| sr ?_
    obtain ⟨c147, h⟩ := ite_n h
    refine p2 rfl 28 rfl 30 rfl (q_index rfl el26 rfl c147.1 c147.2) <| ld rfl rfl sh3 <| av rfl rfl <| nt <| W.seq ?_
    refine W.jn1 (Γ := Unit) (fun (_ : Unit) (x55 : Bool) => [(2, PtrA [SlcA kInt a0.fNodes, SlcA kEdge a0.fEdges]), (3, PtrA [SlcA kInt a1.fNodes, SlcA kInt a1.fEdges]), (28, SlcA kInt a1.fEdges), (29, iA (a1.fEdges.length : Int)), (30, iA x30), (55, bA x55)]) (fun (_ : Unit) (_ : Bool) => []) h (fun _ x55 h => ?_) (fun j159 Kj159 h => ?_)
    ·refine QN.then_ ?_
     refine W.condP h rfl (fun hb160 h => ?_) (fun hb160 h => ?_)
     ·refine sr <| ak rfl <| nt <| W.ret <| QR.block <| QR.then_ <| QR.then_ <| QR.block <| QR.then_ ?_
      cases h
      exact QR.f1 rfl rfl (.t rfl) (.id _)
     ·refine W.skip <| QN.block <| QN.then_ <| W.region ?_
      obtain ⟨c161, h⟩ := ite_n h
      refine pk rfl 30 rfl (q_addR rfl c161) <| mv rfl rfl <| WL.nil ?_
      exact next0 () (x30 + 1) _ h (.o4 rfl (.one rfl (.nil _)))
    ·refine W.drawK [(0, false), (1, false), (2, false), (3, false), (4, false), (5, false), (6, false), (7, false), (8, false), (9, false), (10, false), (11, false), (12, false), (13, false), (14, false), (15, false), (16, false), (17, false), (18, false), (19, false), (20, false), (21, false)] [] (bm [0, 1, 0, 4, 0, 28, 60, 124, 255, 511, 1023, 2047, 4095, 2047, 10239, 2047, 59391, 124927, 255999, 524287, 1048575, 2097151]) mx (by kernel_rfl) <| df rfl rfl rfl fo87_0 rfl <| dl rfl rfl rfl sh26 <| df rfl rfl rfl fo29_1 rfl <| dl rfl rfl rfl sh27 <| dm rfl rfl rfl ?_
     obtain ⟨c162, h⟩ := ite_n h
     refine DK.cons rfl rfl (.p rfl (.s 37 rfl (.s 38 rfl .nil)) rfl (q_index rfl el27 rfl c162.1 c162.2)) <| df rfl rfl rfl fo63_1 rfl <| dl rfl rfl rfl sh3 ?_
     obtain ⟨t163, ht163, h⟩ := bind_s h
     refine DK.cons rfl rfl (.p rfl (.s 35 rfl (.s 41 rfl .nil)) rfl (q_call (f := 163) (A := bA t163) (xs := [.tmp 35, .tmp 41]) («as» := [SlcA kInt a1.fNodes, iA ((rd a0.fEdges (rd a1.fEdges x30)).fFrom)]) rfl ca163 (subgraph_has.con k a1.fNodes ((rd a0.fEdges (rd a1.fEdges x30)).fFrom) t163 ht163) rfl)) <| DK.cons rfl rfl (.p rfl (.s 42 rfl .nil) rfl (q_not rfl)) <| dm rfl rfl rfl ?_
     rcases bif_s h with ⟨hb164, h⟩ | ⟨hb164, h⟩
     ·refine dx rfl rfl rfl hb164 <| dx rfl rfl rfl hb164 <| dx rfl rfl rfl hb164 <| dx rfl rfl rfl hb164 <| dx rfl rfl rfl hb164 <| dx rfl rfl rfl hb164 <| dx rfl rfl rfl hb164 <| dx rfl rfl rfl hb164 <| dx rfl rfl rfl hb164 <| dx rfl rfl rfl hb164 <| DK.cons rfl rfl (.p rfl (.s 44 rfl (.k .nil)) rfl (q_pickT rfl hb164)) <| DK.nil <| CSteps.nil ?_
      exact QN.weaken (.o4 rfl (.o2 rfl (.nil _))) (Kj159 () true h)
     ·refine DK.cons rfl rfl (.gp rfl rfl rfl hb164 (.s 3 rfl .nil) rfl (q_field rfl fo87_0 rfl)) <| DK.cons rfl rfl (.gp rfl rfl rfl hb164 (.s 45 rfl .nil) rfl (q_load rfl sh26)) <| DK.cons rfl rfl (.gp rfl rfl rfl hb164 (.s 2 rfl .nil) rfl (q_field rfl fo29_1 rfl)) <| DK.cons rfl rfl (.gp rfl rfl rfl hb164 (.s 47 rfl .nil) rfl (q_load rfl sh27)) <| DK.cons rfl rfl (.gp rfl rfl rfl hb164 (.s 8 rfl .nil) rfl (q_move rfl)) ?_
      obtain ⟨c165, h⟩ := ite_n h
      refine DK.cons rfl rfl (.gp rfl rfl rfl hb164 (.s 48 rfl (.s 49 rfl .nil)) rfl (q_index rfl el27 rfl c165.1 c165.2)) <| DK.cons rfl rfl (.gp rfl rfl rfl hb164 (.s 50 rfl .nil) rfl (q_field rfl fo63_2 rfl)) <| DK.cons rfl rfl (.gp rfl rfl rfl hb164 (.s 51 rfl .nil) rfl (q_load rfl sh3)) ?_
      obtain ⟨t166, ht166, h⟩ := bind_s h
      refine DK.cons rfl rfl (.gp rfl rfl rfl hb164 (.s 46 rfl (.s 52 rfl .nil)) rfl (q_call (f := 163) (A := bA t166) (xs := [.tmp 46, .tmp 52]) («as» := [SlcA kInt a1.fNodes, iA ((rd a0.fEdges (rd a1.fEdges x30)).fTo)]) rfl ca163 (subgraph_has.con k a1.fNodes ((rd a0.fEdges (rd a1.fEdges x30)).fTo) t166 ht166) rfl)) <| DK.cons rfl rfl (.gp rfl rfl rfl hb164 (.s 53 rfl .nil) rfl (q_not rfl)) <| DK.cons rfl rfl (.p rfl (.s 44 rfl (.s 54 rfl .nil)) rfl (q_pickF rfl hb164)) <| DK.nil <| CSteps.nil ?_
      exact QN.weaken (.o4 rfl (.o2 rfl (.nil _))) (Kj159 () (!t166) h)
   ·refine W.exit <| QX.then_ <| QX.then_ <| QX.here <| QN.then_ <| sr <| ak rfl <| nt <| W.ret ?_
    cases h
    exact QR.f1 rfl rfl (.t rfl) (.id _)
theorem subgraph_Valid.con (k : Nat) (a0 : Graph) (a1 : Part) (r : Int) (h : subgraph_Valid k a0 a1 = some r) : Con Tryz.prog 121 [] [AggA [SlcA kInt a0.fNodes, SlcA kEdge a0.fEdges], AggA [SlcA kInt a1.fNodes, SlcA kInt a1.fEdges]] (RA (iA r)) := by
 unfold subgraph_Valid at h
 refine Con.of (N := 14) Tryz.func121 rfl rfl rfl fun w0_ fg_ => sr <| p1 rfl 0 rfl (q_box rfl (CellsOf.agg _)) <| p1 rfl 1 rfl (q_box rfl (CellsOf.agg _)) <| ak rfl <| nt <| W.seq <| sr <| lS rfl rfl sh29 rfl rfl ?_
 obtain ⟨t100, ht100, h⟩ := bind_s h
 refine p1 rfl 6 rfl (q_call (f := 46) (A := iA t100) (xs := [.tmp 6]) («as» := [AggA [SlcA kInt a0.fNodes, SlcA kEdge a0.fEdges]]) rfl ca46 (graph_Valid.con k a0 t100 ht100) rfl) <| av rfl rfl <| nx <| mv rfl rfl <| pk rfl 8 rfl (q_int rfl rfl) <| nt ?_
 refine W.condP h rfl (fun hb101 h => ?_) (fun hb101 h => ?_)
 ·refine sr <| mv rfl rfl <| av rfl rfl <| WL.nil <| QN.weaken (env' := [(4, _)]) (.one rfl (.nil _)) <| QN.then_ <| W.ret <| QR.then_ ?_
  cases h
  exact QR.f1 rfl rfl (.t rfl) (.id _)
 ·refine W.skip <| QN.weaken (env' := [(3, _), (2, _)]) (.o2 rfl (.nil _)) <| QN.then_ <| sr <| lS rfl rfl sh29 rfl rfl <| lS rfl rfl sh87 rfl rfl ?_
  obtain ⟨t102, ht102, h⟩ := bind_s h
  refine p2 rfl 11 rfl 12 rfl (q_call (f := 145) (A := iA t102) (xs := [.tmp 11, .tmp 12]) («as» := [AggA [SlcA kInt a0.fNodes, SlcA kEdge a0.fEdges], AggA [SlcA kInt a1.fNodes, SlcA kInt a1.fEdges]]) rfl ca145 (subgraph_part.con k a0 a1 t102 ht102) rfl) <| av rfl rfl <| nt <| W.ret ?_
  cases h
  exact QR.f1 rfl rfl (.t rfl) (.id _)
theorem subgraph_Extract.con (k : Nat) (a0 : Graph) (a1 : Part) (r : (Graph × Morphism × Int)) (h : subgraph_Extract k a0 a1 = some r) : Con Tryz.prog 83 [] [AggA [SlcA kInt a0.fNodes, SlcA kEdge a0.fEdges], AggA [SlcA kInt a1.fNodes, SlcA kInt a1.fEdges]] (RA (TupA [AggA [SlcA kInt r.1.fNodes, SlcA kEdge r.1.fEdges], AggA [SlcA kInt r.2.1.fNodes, SlcA kInt r.2.1.fEdges], iA r.2.2])) := by
 unfold subgraph_Extract at h
 refine Con.of (N := 85) Tryz.func83 rfl rfl rfl fun w0_ fg_ => sr <| p1 rfl 0 rfl (q_box rfl (CellsOf.agg _)) <| p1 rfl 1 rfl (q_box rfl (CellsOf.agg _)) <| WL.w [] rfl (Wanted.plain rfl) rfl rfl .nil (w_alloc rfl z29 (l := [EqA (.slice none 0 0), EqA (.slice none 0 0)]) rfl) ?_
 rintro _ _ ⟨b100, rfl, rfl⟩
 refine WL.w [] rfl (Wanted.plain rfl) rfl rfl .nil (w_alloc rfl z47 (l := [EqA (.slice none 0 0), EqA (.slice none 0 0)]) rfl) ?_
 rintro _ _ ⟨b101, rfl, rfl⟩
 refine ak rfl <| nt <| W.seq <| sr <| lS rfl rfl sh29 rfl rfl <| lS rfl rfl sh87 rfl rfl ?_
 obtain ⟨t102, ht102, h⟩ := bind_s h
 refine p2 rfl 14 rfl 15 rfl (q_call (f := 121) (A := iA t102) (xs := [.tmp 14, .tmp 15]) («as» := [AggA [SlcA kInt a0.fNodes, SlcA kEdge a0.fEdges], AggA [SlcA kInt a1.fNodes, SlcA kInt a1.fEdges]]) rfl ca121 (subgraph_Valid.con k a0 a1 t102 ht102) rfl) <| av rfl rfl <| nx <| mv rfl rfl <| pk rfl 17 rfl (q_int rfl rfl) <| WL.nil <| QN.weaken (env' := [(18, _), (7, _), (5, _), (4, _), (3, _), (2, _)]) (.o4 rfl (.o2 rfl (.nil _))) <| QN.then_ ?_
 refine W.condP h rfl (fun hb103 h => ?_) (fun hb103 h => ?_)
 ·refine sr <| WL.p rfl rfl rfl .nil (q_build (is := []) (xs := []) (L := [EqA (.slice none 0 0), EqA (.slice none 0 0)]) rfl rfl z29 pl29 rfl rfl .nil rfl) <| WL.p rfl rfl rfl .nil (q_build (is := []) (xs := []) (L := [EqA (.slice none 0 0), EqA (.slice none 0 0)]) rfl rfl z47 pl47 rfl rfl .nil rfl) <| mv rfl rfl <| WL.w0 [1] rfl (Wanted.plain rfl) rfl (.s 4 rfl (.s 19 rfl .nil)) (w_store (L := [EqA (.slice none 0 0), EqA (.slice none 0 0)]) rfl sh29 (CellsOf.agg _) rfl rfl (leB rfl) rfl) ?_
  rintro _ _ ⟨rfl, rfl⟩
  refine WL.w0 [1] rfl (Wanted.plain rfl) rfl (.s 5 rfl (.s 20 rfl .nil)) (w_store (L := [EqA (.slice none 0 0), EqA (.slice none 0 0)]) rfl sh47 (CellsOf.agg _) rfl rfl (leB rfl) rfl) ?_
  rintro _ _ ⟨rfl, rfl⟩
  refine av rfl rfl <| WL.nil <| QN.weaken (env' := [(6, _), (5, _), (4, _)]) (.o2 rfl (.one rfl (.nil _))) <| QN.then_ <| W.ret <| QR.then_ ?_
  cases h
  exact QR.f3 rfl rfl (.cs (i := 1) rfl sh29 rfl rfl) (.cs (i := 0) rfl sh47 rfl rfl) (.t rfl) (.imp (Imp.tup (.cons (Imp.agg (.cons (Imp.nil kInt) (.cons (Imp.nil kEdge) .nil))) (.cons (Imp.agg (.cons (Imp.nil kInt) (.cons (Imp.nil kInt) .nil))) (.cons (Imp.id _) .nil)))))
 ·refine W.skip <| QN.then_ <| sr <| WL.w [] rfl (Wanted.plain rfl) rfl rfl .nil (w_alloc rfl z29 (l := [EqA (.slice none 0 0), EqA (.slice none 0 0)]) rfl) ?_
  rintro _ _ ⟨b104, rfl, rfl⟩
  refine nt <| W.seq <| sr <| fd rfl rfl fo87_0 rfl <| ld rfl rfl sh26 <| p1 rfl 23 rfl (q_len rfl elS26) <| mk_ rfl <| nt <| W.block <| W.to (StTo.boxImp [0] rfl (.cons Imp.nilHd (.cons (Imp.id _) .nil))) ?_
  refine W.to (StTo.newNil 3 kInt) <| W.order [3, 2, 1, 0] rfl ?_
  refine W.loop2 (Γ := Value) (fun (_ : Value) (_ : (List Int)) (x25 : Int) => [(2, PtrA [SlcA kInt a0.fNodes, SlcA kEdge a0.fEdges]), (3, PtrA [SlcA kInt a1.fNodes, SlcA kInt a1.fEdges]), (4, EqA (.pointer (some ⟨b100, 0, none⟩))), (5, EqA (.pointer (some ⟨b101, 0, none⟩))), (8, EqA (.pointer (some ⟨b104, 0, none⟩))), (23, SlcA kInt a1.fNodes), (24, iA (a1.fNodes.length : Int)), (25, iA x25)]) (fun (g0 : Value) (y0 : (List Int)) (_ : Int) => [BoxE b100 [EqA (.slice none 0 0), EqA (.slice none 0 0)], BoxE b101 [EqA (.slice none 0 0), EqA (.slice none 0 0)], BoxE b104 [HdA g0, EqA (.slice none 0 0)], SlE 3 g0 kInt y0]) h (.slice none 0 0) (.o4 rfl (.o4 rfl (.nil _))) rfl (fun rec0 K0 next0 g0 y0 x25 h => ?_)
  unfold subgraph_Extract.b0 at h
  refine sr <| p2 rfl 25 rfl 24 rfl (q_int rfl rfl) <| nt <| W.seq ?_
  refine W.condP h rfl (fun hb240 h => ?_) (fun hb240 h => ?_)
  ·refine W.skip <| QN.then_ <| W.seq <| W.block <| sr ?_
   obtain ⟨c241, h⟩ := ite_n h
   refine p2 rfl 23 rfl 25 rfl (q_index rfl el26 rfl c241.1 c241.2) <| ld rfl rfl sh3 <| av rfl rfl <| nt <| W.drawK [(0, false), (1, true), (2, false), (3, false), (4, false), (5, false), (6, false), (7, false)] [8, 9, 10] (bm [0, 1, 0, 4, 0, 28, 60, 124, 255, 511, 1023]) mx (by kernel_rfl) <| DK.cons rfl rfl (.p rfl (.s 8 rfl .nil) rfl (q_fieldP rfl fo29_0)) <| DK.cons rfl rfl (.o rfl (.s 29 rfl .nil) rfl (q_loadB rfl sh26 (i := 2) rfl rfl)) <| df rfl rfl rfl fo29_0 rfl <| dl rfl rfl rfl sh26 <| dm rfl rfl rfl ?_
   obtain ⟨c248, h⟩ := ite_n h
   refine DK.cons rfl rfl (.p rfl (.s 32 rfl (.s 33 rfl .nil)) rfl (q_index rfl el26 rfl c248.1 c248.2)) <| dl rfl rfl rfl sh3 <| DK.cons rfl rfl (.p rfl (.s 35 rfl .nil) rfl (q_lit (kd := kInt) (ps := [(0, .tmp 35)]) (xs := [.tmp 35]) («as» := [iA (rd a0.fNodes (rd a1.fNodes x25))]) (ys := [(rd a0.fNodes (rd a1.fNodes x25))]) rfl rfl el26 rfl gr3 rfl rfl rfl (.cons (CellsOf.one rfl) .nil))) ?_
   obtain ⟨c249, h⟩ := ite_n h
   refine DK.nil <| CSteps.w [3] rfl rfl rfl rfl (.s 30 rfl (.s 36 rfl .nil)) rfl (w_append (kd := kInt) rfl el26 rfl gr3 c249) ?_
   rintro _ _ ⟨v250, rfl, rfl⟩
   refine CSteps.p rfl rfl rfl (.s 8 rfl .nil) rfl (q_fieldP rfl fo29_0) <| CSteps.w0 [3] rfl rfl rfl (.s 38 rfl (.s 37 rfl .nil)) rfl (w_store (L := [HdA v250, EqA (.slice none 0 0)]) rfl sh26 (CellsOf.one rfl) rfl rfl (leB rfl) rfl) ?_
   rintro _ _ ⟨rfl, rfl⟩
   refine CSteps.nil <| QN.block <| QN.weaken (env' := [(25, _), (24, _), (23, _), (8, _), (5, _), (4, _), (3, _), (2, _)]) (.o4 rfl (.o4 rfl (.nil _))) <| QN.then_ <| W.region ?_
   obtain ⟨c251, h⟩ := ite_n h
   refine pk rfl 25 rfl (q_addR rfl c251) <| mv rfl rfl <| WL.nil <| QN.order [2, 2, 0, 0] rfl ?_
   exact next0 v250 (y0 ++ [(rd a0.fNodes (rd a1.fNodes x25))]) (x25 + 1) _ h (.o4 rfl (.o4 rfl (.nil _)))
  ·refine W.exit <| QX.then_ <| QX.then_ <| QX.here <| QN.then_ <| W.seq <| sr <| fd rfl rfl fo87_1 rfl <| ld rfl rfl sh26 <| p1 rfl 41 rfl (q_len rfl elS26) <| mk_ rfl <| WL.nil ?_
   refine QN.then_ <| W.block <| W.to (StTo.boxImp [2] rfl (.cons (Imp.id _) (.cons Imp.nilHd .nil))) <| W.to (StTo.newNil 63 kEdge) <| W.order [2, 2, 1, 1, 0] rfl ?_
   refine W.loop2 (Γ := Value) (fun (_ : Value) (_ : (List Edge)) (x43 : Int) => [(2, PtrA [SlcA kInt a0.fNodes, SlcA kEdge a0.fEdges]), (3, PtrA [SlcA kInt a1.fNodes, SlcA kInt a1.fEdges]), (4, EqA (.pointer (some ⟨b100, 0, none⟩))), (5, EqA (.pointer (some ⟨b101, 0, none⟩))), (8, EqA (.pointer (some ⟨b104, 0, none⟩))), (41, SlcA kInt a1.fEdges), (42, iA (a1.fEdges.length : Int)), (43, iA x43)]) (fun (g1 : Value) (y1 : (List Edge)) (_ : Int) => [BoxE b100 [EqA (.slice none 0 0), EqA (.slice none 0 0)], BoxE b101 [EqA (.slice none 0 0), EqA (.slice none 0 0)], BoxE b104 [HdA g0, HdA g1], SlE 3 g0 kInt y0, SlE 63 g1 kEdge y1]) h (.slice none 0 0) (.o4 rfl (.o4 rfl (.nil _))) rfl (fun rec1 K1 next1 g1 y1 x43 h => ?_)
   unfold subgraph_Extract.b1 at h
   refine sr <| p2 rfl 43 rfl 42 rfl (q_int rfl rfl) <| nt <| W.seq ?_
   refine W.condP h rfl (fun hb289 h => ?_) (fun hb289 h => ?_)
   ·refine W.skip <| QN.then_ <| W.seq <| W.block <| sr ?_
    obtain ⟨c290, h⟩ := ite_n h
    refine p2 rfl 41 rfl 43 rfl (q_index rfl el26 rfl c290.1 c290.2) <| ld rfl rfl sh3 <| av rfl rfl <| nx <| fd rfl rfl fo29_1 rfl <| ld rfl rfl sh27 <| mv rfl rfl ?_
    obtain ⟨c291, h⟩ := ite_n h
    refine p2 rfl 48 rfl 49 rfl (q_index rfl el27 rfl c291.1 c291.2) <| lS rfl rfl sh63 rfl rfl <| WL.w [] rfl (Wanted.plain rfl) rfl rfl .nil (w_alloc rfl z63 (l := [iA 0, iA 0, iA 0]) rfl) ?_
    rintro _ _ ⟨b292, rfl, rfl⟩
    refine WL.w0 [0] rfl (Wanted.plain rfl) rfl (.s 13 rfl (.s 51 rfl .nil)) (w_store (L := [iA ((rd a0.fEdges (rd a1.fEdges x43)).fType), iA ((rd a0.fEdges (rd a1.fEdges x43)).fFrom), iA ((rd a0.fEdges (rd a1.fEdges x43)).fTo)]) rfl sh63 (CellsOf.agg _) rfl rfl (leB rfl) rfl) ?_
    rintro _ _ ⟨rfl, rfl⟩
    refine WL.nil <| QN.weaken (env' := [(13, _), (43, _), (42, _), (41, _), (8, _), (5, _), (4, _), (3, _), (2, _)]) (.o4 rfl (.o4 rfl (.one rfl (.nil _)))) <| QN.then_ <| sr <| fd rfl rfl fo87_0 rfl <| ld rfl rfl sh26 <| p1 rfl 13 rfl (q_fieldP rfl fo63_1) <| WL.q (Wanted.plain rfl) rfl rfl (.s 55 rfl .nil) (q_loadB rfl sh3 (i := 0) rfl rfl) ?_
    obtain ⟨t293, ht293, h⟩ := bind_s h
    refine p2 rfl 54 rfl 56 rfl (q_call (f := 122) (A := TupA [iA t293.1, bA t293.2]) (xs := [.tmp 54, .tmp 56]) («as» := [SlcA kInt a1.fNodes, iA ((rd a0.fEdges (rd a1.fEdges x43)).fFrom)]) rfl ca122 (slices_BinarySearch_int.con k a1.fNodes ((rd a0.fEdges (rd a1.fEdges x43)).fFrom) t293 ht293) rfl) <| mv rfl rfl <| p1 rfl 52 rfl (q_extract rfl rfl) <| p1 rfl 52 rfl (q_extract rfl rfl) <| p1 rfl 13 rfl (q_fieldP rfl fo63_1) <| WL.w0 [0] rfl (Wanted.plain rfl) rfl (.s 60 rfl (.s 58 rfl .nil)) (w_store (L := [iA ((rd a0.fEdges (rd a1.fEdges x43)).fType), iA t293.1, iA ((rd a0.fEdges (rd a1.fEdges x43)).fTo)]) rfl sh3 (CellsOf.one rfl) rfl rfl (leB rfl) rfl) ?_
    rintro _ _ ⟨rfl, rfl⟩
    refine WL.nil <| QN.weaken (env' := [(13, _), (43, _), (42, _), (41, _), (8, _), (5, _), (4, _), (3, _), (2, _)]) (.o4 rfl (.o4 rfl (.one rfl (.nil _)))) <| QN.then_ <| sr <| fd rfl rfl fo87_0 rfl <| ld rfl rfl sh26 <| p1 rfl 13 rfl (q_fieldP rfl fo63_2) <| WL.q (Wanted.plain rfl) rfl rfl (.s 64 rfl .nil) (q_loadB rfl sh3 (i := 0) rfl rfl) ?_
    obtain ⟨t294, ht294, h⟩ := bind_s h
    refine p2 rfl 63 rfl 65 rfl (q_call (f := 122) (A := TupA [iA t294.1, bA t294.2]) (xs := [.tmp 63, .tmp 65]) («as» := [SlcA kInt a1.fNodes, iA ((rd a0.fEdges (rd a1.fEdges x43)).fTo)]) rfl ca122 (slices_BinarySearch_int.con k a1.fNodes ((rd a0.fEdges (rd a1.fEdges x43)).fTo) t294 ht294) rfl) <| mv rfl rfl <| p1 rfl 61 rfl (q_extract rfl rfl) <| p1 rfl 61 rfl (q_extract rfl rfl) <| p1 rfl 13 rfl (q_fieldP rfl fo63_2) <| WL.w0 [0] rfl (Wanted.plain rfl) rfl (.s 69 rfl (.s 67 rfl .nil)) (w_store (L := [iA ((rd a0.fEdges (rd a1.fEdges x43)).fType), iA t293.1, iA t294.1]) rfl sh3 (CellsOf.one rfl) rfl rfl (leB rfl) rfl) ?_
    rintro _ _ ⟨rfl, rfl⟩
    refine WL.nil <| QN.weaken (env' := [(13, _), (43, _), (42, _), (41, _), (8, _), (5, _), (4, _), (3, _), (2, _)]) (.o4 rfl (.o4 rfl (.one rfl (.nil _)))) <| QN.then_ <| W.region <| p1 rfl 8 rfl (q_fieldP rfl fo29_1) <| WL.q (Wanted.plain rfl) rfl rfl (.s 70 rfl .nil) (q_loadB rfl sh27 (i := 3) rfl rfl) <| WL.q (Wanted.plain rfl) rfl rfl (.s 13 rfl .nil) (q_loadBS (l' := [iA ((rd a0.fEdges (rd a1.fEdges x43)).fType), iA t293.1, iA t294.1]) rfl sh63 (i := 0) rfl rfl rfl) <| p1 rfl 72 rfl (q_lit (kd := kEdge) (ps := [(0, .tmp 72)]) (xs := [.tmp 72]) («as» := [AggA [iA ((rd a0.fEdges (rd a1.fEdges x43)).fType), iA t293.1, iA t294.1]]) (ys := [(Edge.mk ((rd a0.fEdges (rd a1.fEdges x43)).fType) t293.1 t294.1)]) rfl rfl el27 rfl gr63 rfl rfl rfl (.cons (CellsOf.agg _) .nil)) ?_
    obtain ⟨c295, h⟩ := ite_n h
    refine WL.w [5] rfl (Wanted.plain rfl) rfl rfl (.s 71 rfl (.s 73 rfl .nil)) (w_append (kd := kEdge) rfl el27 rfl gr63 c295) ?_
    rintro _ _ ⟨v296, rfl, rfl⟩
    refine p1 rfl 8 rfl (q_fieldP rfl fo29_1) <| WL.w0 [4] rfl (Wanted.plain rfl) rfl (.s 75 rfl (.s 74 rfl .nil)) (w_store (L := [HdA g0, HdA v296]) rfl sh27 (CellsOf.one rfl) rfl rfl (leB rfl) rfl) ?_
    rintro _ _ ⟨rfl, rfl⟩
    refine WL.nil <| QN.block <| QN.weaken (env' := [(43, _), (42, _), (41, _), (8, _), (5, _), (4, _), (3, _), (2, _)]) (.o4 rfl (.o4 rfl (.nil _))) <| QN.then_ <| W.region ?_
    obtain ⟨c297, h⟩ := ite_n h
    refine pk rfl 43 rfl (q_addR rfl c297) <| mv rfl rfl <| WL.nil <| QN.drop [2] rfl <| QN.order [2, 2, 0, 1, 0] rfl ?_
    exact next1 v296 (y1 ++ [(Edge.mk ((rd a0.fEdges (rd a1.fEdges x43)).fType) t293.1 t294.1)]) (x43 + 1) _ h (.o4 rfl (.o4 rfl (.nil _)))
   ·refine W.exit <| QX.then_ <| QX.then_ <| QX.here <| QN.then_ <| W.seq <| W.drawK [(0, true), (1, false), (2, false), (3, false), (4, false), (5, false), (6, false), (7, false)] [8, 9, 10] (bm [0, 0, 2, 6, 0, 16, 62, 126, 127, 511, 1023]) mx (by kernel_rfl) <| DK.cons rfl rfl (.o rfl (.s 8 rfl .nil) rfl (q_loadBS (l' := [HdA g0, HdA g1]) rfl sh29 (i := 2) rfl rfl rfl)) <| df rfl rfl rfl fo87_0 rfl <| dl rfl rfl rfl sh26 ?_
    obtain ⟨t302, ht302, h⟩ := bind_s h
    refine DK.cons rfl rfl (.p rfl (.s 79 rfl .nil) rfl (q_call (f := 59) (A := SlcA kInt t302) (xs := [.tmp 79]) («as» := [SlcA kInt a1.fNodes]) rfl ca59 (slices_Clone_int.con k a1.fNodes t302 ht302) rfl)) <| df rfl rfl rfl fo87_1 rfl <| dl rfl rfl rfl sh26 ?_
    obtain ⟨t303, ht303, h⟩ := bind_s h
    refine DK.cons rfl rfl (.p rfl (.s 82 rfl .nil) rfl (q_call (f := 59) (A := SlcA kInt t303) (xs := [.tmp 82]) («as» := [SlcA kInt a1.fEdges]) rfl ca59 (slices_Clone_int.con k a1.fEdges t303 ht303) rfl)) <| DK.cons rfl rfl (.p rfl (.s 80 rfl (.s 83 rfl .nil)) rfl (q_build (is := [0, 1]) (xs := [.tmp 80, .tmp 83]) (L := [SlcA kInt t302, SlcA kInt t303]) rfl rfl z47 pl47 rfl rfl (.cons (CellsOf.one rfl) (.cons (CellsOf.one rfl) .nil)) rfl)) <| DK.nil <| CSteps.w0 [0] rfl rfl rfl (.s 4 rfl (.s 77 rfl .nil)) rfl (w_store (L := [HdA g0, HdA g1]) rfl sh29 (CellsOf.agg _) rfl rfl (leB rfl) rfl) ?_
    rintro _ _ ⟨rfl, rfl⟩
    refine CSteps.w0 [1] rfl rfl rfl (.s 5 rfl (.s 84 rfl .nil)) rfl (w_store (L := [SlcA kInt t302, SlcA kInt t303]) rfl sh47 (CellsOf.agg _) rfl rfl (leB rfl) rfl) ?_
    rintro _ _ ⟨rfl, rfl⟩
    refine CSteps.p rfl rfl rfl (.k .nil) rfl (q_assign rfl) <| CSteps.nil <| QN.weaken (env' := [(6, _), (5, _), (4, _)]) (.o2 rfl (.one rfl (.nil _))) <| QN.then_ <| W.ret ?_
    cases h
    exact QR.f3 rfl rfl (.cs (i := 1) rfl sh29 rfl rfl) (.cs (i := 0) rfl sh47 rfl rfl) (.t rfl) (.tup (.cons (.agg (.cons (.slc 3 rfl) (.cons (.slc 4 rfl) .nil))) (.cons (.id _) (.cons (.id _) .nil))))
end Go.Proofs.YthmdmchmmgmblaaGreat
