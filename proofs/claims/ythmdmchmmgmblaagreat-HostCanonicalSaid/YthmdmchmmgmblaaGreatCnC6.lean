/- The Go functions compute the pure ones. (Printed by gen.py.) -/
import Derived.Test.YthmdmchmmgmblaaGreatCnC5
namespace Go.Proofs.YthmdmchmmgmblaaGreat
open Go Go.Abs
attribute [local irreducible] Tryz.prog
theorem ref04_Few.con (k : Nat) (a0 : Types) (r : Bool) (h : ref04_Few k a0 = some r) : Con Tryz.prog 42 [] [AggA [SlcA kNodeType a0.fNodes, SlcA kEdgeType a0.fEdges]] (RA (bA r)) := by
 unfold ref04_Few at h
 refine Con.of (N := 106) Tryz.func42 rfl rfl rfl fun w0_ fg_ => sr <| p1 rfl 0 rfl (q_box rfl (CellsOf.agg _)) <| ak rfl <| nt <| W.seq <| W.seq ?_
 refine W.jn1 (Γ := Unit) (fun (_ : Unit) (x18 : Bool) => [(1, PtrA [SlcA kNodeType a0.fNodes, SlcA kEdgeType a0.fEdges]), (18, bA x18)]) (fun (_ : Unit) (_ : Bool) => []) h (fun _ x18 h => ?_) (fun j102 Kj102 h => ?_)
 ·refine QN.then_ ?_
  refine W.condP h rfl (fun hb103 h => ?_) (fun hb103 h => ?_)
  ·refine sr <| ak rfl <| nt <| W.ret <| QR.then_ ?_
   cases h
   exact QR.f1 rfl rfl (.t rfl) (.id _)
  ·refine W.skip <| QN.then_ <| sr <| ak rfl <| nt <| W.seq <| sr <| ak rfl <| nt ?_
   refine W.block ?_
   refine W.loop2 (Γ := Unit) (fun (_ : Unit) (x3 : Int) (x4 : Int) => [(1, PtrA [SlcA kNodeType a0.fNodes, SlcA kEdgeType a0.fEdges]), (3, iA x3), (4, iA x4)]) (fun (_ : Unit) (_ : Int) (_ : Int) => []) h () (.o2 rfl (.one rfl (.nil _))) rfl (fun rec0 K0 next0 _ x3 x4 h => ?_)
   unfold ref04_Few.b0 at h
   refine W.seq <| sr <| mv rfl rfl <| fd rfl rfl fo25_0 rfl <| ld rfl rfl sh22 <| p1 rfl 21 rfl (q_len rfl elS22) <| p2 rfl 19 rfl 22 rfl (q_int rfl rfl) <| nt ?_
   refine W.condP h rfl (fun hb304 h => ?_) (fun hb304 h => ?_)
   ·refine W.skip <| QN.then_ <| W.seq <| W.block <| sr <| mv rfl rfl <| fd rfl rfl fo25_0 rfl <| ld rfl rfl sh22 <| mv rfl rfl ?_
    obtain ⟨c305, h⟩ := ite_n h
    refine p2 rfl 28 rfl 29 rfl (q_index rfl el22 rfl c305.1 c305.2) <| fd rfl rfl fo120_3 rfl <| ld rfl rfl sh118 <| p1 rfl 32 rfl (q_len rfl elS118) ?_
    obtain ⟨c306, h⟩ := ite_n h
    refine p2 rfl 26 rfl 33 rfl (q_addR rfl c306) <| av rfl rfl <| WL.nil <| QN.weaken (env' := [(3, _), (4, _), (1, _)]) (.o2 rfl (.one rfl (.nil _))) <| QN.then_ <| W.seq <| W.seq ?_
    refine W.jn1 (Γ := Unit) (fun (_ : Unit) (x46 : Bool) => [(1, PtrA [SlcA kNodeType a0.fNodes, SlcA kEdgeType a0.fEdges]), (4, iA x4), (3, iA (x3 + (((rd a0.fNodes x4).fAttrs).length : Int))), (46, bA x46)]) (fun (_ : Unit) (_ : Bool) => []) h (fun _ x46 h => ?_) (fun j310 Kj310 h => ?_)
    ·refine QN.then_ ?_
     refine W.condP h rfl (fun hb311 h => ?_) (fun hb311 h => ?_)
     ·refine sr <| ak rfl <| nt <| W.ret <| QR.then_ <| QR.block <| QR.then_ <| QR.then_ <| QR.block <| QR.then_ ?_
      cases h
      exact QR.f1 rfl rfl (.t rfl) (.id _)
     ·refine W.skip <| QN.then_ <| sr <| ak rfl <| nt <| W.block ?_
      refine W.loop1 (Γ := Unit) (fun (_ : Unit) (x5 : Int) => [(1, PtrA [SlcA kNodeType a0.fNodes, SlcA kEdgeType a0.fEdges]), (4, iA x4), (3, iA (x3 + (((rd a0.fNodes x4).fAttrs).length : Int))), (5, iA x5)]) (fun (_ : Unit) (_ : Int) => []) h () (.o4 rfl (.nil _)) rfl (fun rec1 K1 next1 _ x5 h => ?_)
      unfold ref04_Few.b1 at h
      refine W.seq <| sr <| mv rfl rfl <| fd rfl rfl fo25_0 rfl <| ld rfl rfl sh22 <| mv rfl rfl ?_
      obtain ⟨c364, h⟩ := ite_n h
      refine p2 rfl 49 rfl 50 rfl (q_index rfl el22 rfl c364.1 c364.2) <| fd rfl rfl fo120_3 rfl <| ld rfl rfl sh118 <| p1 rfl 53 rfl (q_len rfl elS118) <| p2 rfl 47 rfl 54 rfl (q_int rfl rfl) <| WL.nil <| QN.weaken (env' := [(55, _), (5, _), (3, _), (4, _), (1, _)]) (.o4 rfl (.one rfl (.nil _))) <| QN.then_ ?_
      refine W.condP h rfl (fun hb365 h => ?_) (fun hb365 h => ?_)
      ·refine W.skip <| QN.then_ <| W.seq <| W.block <| sr <| fd rfl rfl fo25_0 rfl <| ld rfl rfl sh22 <| mv rfl rfl ?_
       obtain ⟨c366, h⟩ := ite_n h
       refine p2 rfl 59 rfl 60 rfl (q_index rfl el22 rfl c366.1 c366.2) <| fd rfl rfl fo120_3 rfl <| ld rfl rfl sh118 <| mv rfl rfl ?_
       obtain ⟨c367, h⟩ := ite_n h
       refine p2 rfl 63 rfl 64 rfl (q_index rfl el118 rfl c367.1 c367.2) <| lS rfl rfl sh117 rfl rfl <| WL.w [] rfl (Wanted.plain rfl) rfl rfl .nil (w_alloc rfl z117 (l := [EqA (strV ([] : Str)), iA 0, iA 0, EqA (.slice none 0 0)]) rfl) ?_
       rintro _ _ ⟨b368, rfl, rfl⟩
       refine WL.w0 [0] rfl (Wanted.plain rfl) rfl (.s 6 rfl (.s 66 rfl .nil)) (w_store (L := [EqA (strV ((rd ((rd a0.fNodes x4).fAttrs) x5).fName)), iA ((rd ((rd a0.fNodes x4).fAttrs) x5).fLow), iA ((rd ((rd a0.fNodes x4).fAttrs) x5).fHigh), SlcA kStr ((rd ((rd a0.fNodes x4).fAttrs) x5).fNames)]) rfl sh117 (CellsOf.agg _) rfl rfl (leB rfl) rfl) ?_
       rintro _ _ ⟨rfl, rfl⟩
       refine WL.nil <| QN.to (StTo.still [0] 6 rfl rfl) <| QN.weaken (env' := [(6, _), (5, _), (3, _), (4, _), (1, _)]) (.o4 rfl (.one rfl (.nil _))) <| QN.then_ <| W.seq <| W.seq ?_
       refine W.jn1 (Γ := Unit) (fun (_ : Unit) (x76 : Bool) => [(1, PtrA [SlcA kNodeType a0.fNodes, SlcA kEdgeType a0.fEdges]), (4, iA x4), (3, iA (x3 + (((rd a0.fNodes x4).fAttrs).length : Int))), (5, iA x5), (6, PtrA [EqA (strV ((rd ((rd a0.fNodes x4).fAttrs) x5).fName)), iA ((rd ((rd a0.fNodes x4).fAttrs) x5).fLow), iA ((rd ((rd a0.fNodes x4).fAttrs) x5).fHigh), SlcA kStr ((rd ((rd a0.fNodes x4).fAttrs) x5).fNames)]), (76, bA x76)]) (fun (_ : Unit) (_ : Bool) => []) h (fun _ x76 h => ?_) (fun j371 Kj371 h => ?_)
       ·refine QN.then_ ?_
        refine W.condP h rfl (fun hb372 h => ?_) (fun hb372 h => ?_)
        ·refine sr <| ak rfl <| nt <| W.ret <| QR.then_ <| QR.block <| QR.then_ <| QR.then_ <| QR.block <| QR.block <| QR.then_ ?_
         refine QR.then_ <| QR.block <| QR.then_ ?_
         cases h
         exact QR.f1 rfl rfl (.t rfl) (.id _)
        ·refine W.skip <| QN.then_ <| sr <| ak rfl <| nt <| W.block ?_
         refine W.loop1 (Γ := Unit) (fun (_ : Unit) (x7 : Int) => [(1, PtrA [SlcA kNodeType a0.fNodes, SlcA kEdgeType a0.fEdges]), (4, iA x4), (3, iA (x3 + (((rd a0.fNodes x4).fAttrs).length : Int))), (5, iA x5), (6, PtrA [EqA (strV ((rd ((rd a0.fNodes x4).fAttrs) x5).fName)), iA ((rd ((rd a0.fNodes x4).fAttrs) x5).fLow), iA ((rd ((rd a0.fNodes x4).fAttrs) x5).fHigh), SlcA kStr ((rd ((rd a0.fNodes x4).fAttrs) x5).fNames)]), (7, iA x7)]) (fun (_ : Unit) (_ : Int) => []) h () (.o4 rfl (.o2 rfl (.nil _))) rfl (fun rec2 K2 next2 _ x7 h => ?_)
         unfold ref04_Few.b2 at h
         refine W.seq <| sr <| mv rfl rfl <| fd rfl rfl fo117_3 rfl <| ld rfl rfl sh115 <| p1 rfl 79 rfl (q_len rfl elS115) <| p2 rfl 77 rfl 80 rfl (q_int rfl rfl) <| nt ?_
         refine W.condP h rfl (fun hb383 h => ?_) (fun hb383 h => ?_)
         ·refine W.skip <| QN.then_ <| W.seq <| W.block <| sr <| fd rfl rfl fo117_3 rfl <| ld rfl rfl sh115 <| mv rfl rfl ?_
          obtain ⟨c384, h⟩ := ite_n h
          refine p2 rfl 85 rfl 86 rfl (q_index rfl el115 rfl c384.1 c384.2) <| ld rfl rfl sh9 <| p1 rfl 88 rfl (q_slen (s := (rd ((rd ((rd a0.fNodes x4).fAttrs) x5).fNames) x7)) rfl iss9) <| pk rfl 89 rfl (q_int rfl rfl) <| WL.nil <| QN.weaken (env' := [(90, _), (7, _), (6, _), (5, _), (3, _), (4, _), (1, _)]) (.o4 rfl (.o2 rfl (.one rfl (.nil _)))) <| QN.then_ ?_
          refine W.condP h rfl (fun hb385 h => ?_) (fun hb385 h => ?_)
          ·refine sr <| ak rfl <| WL.nil <| QN.weaken (env' := [(2, _)]) (.one rfl (.nil _)) <| QN.then_ <| W.ret <| QR.block <| QR.then_ <| QR.then_ <| QR.block <| QR.block <| QR.then_ ?_
           refine QR.then_ <| QR.block <| QR.block <| QR.then_ <| QR.then_ <| QR.block <| QR.then_ ?_
           cases h
           exact QR.f1 rfl rfl (.t rfl) (.id _)
          ·refine W.skip <| QN.block <| QN.then_ <| W.region <| mv rfl rfl ?_
           obtain ⟨c386, h⟩ := ite_n h
           refine pk rfl 82 rfl (q_addR rfl c386) <| av rfl rfl <| WL.nil ?_
           exact next2 () (x7 + 1) _ h (.o4 rfl (.o2 rfl (.nil _)))
         ·refine W.exit <| QX.then_ <| QX.then_ <| QX.here <| QN.block <| QN.weaken (env' := [(5, _), (3, _), (4, _), (1, _)]) (.o4 rfl (.nil _)) <| QN.then_ <| W.region <| mv rfl rfl ?_
          obtain ⟨c387, h⟩ := ite_n h
          refine pk rfl 56 rfl (q_addR rfl c387) <| av rfl rfl <| WL.nil ?_
          exact next1 () (x5 + 1) _ h (.o4 rfl (.nil _))
       ·refine W.region <| fd rfl rfl fo117_0 rfl <| ld rfl rfl sh9 <| p1 rfl 68 rfl (q_slen (s := (rd ((rd a0.fNodes x4).fAttrs) x5).fName) rfl iss9) <| pk rfl 69 rfl (q_int rfl rfl) <| mv rfl rfl ?_
        rcases bif_s h with ⟨hb388, h⟩ | ⟨hb388, h⟩
        ·refine sk rfl rfl rfl hb388 <| sk rfl rfl rfl hb388 <| sk rfl rfl rfl hb388 <| sk rfl rfl rfl hb388 <| pk rfl 71 rfl (q_pickT rfl hb388) <| WL.nil ?_
         exact QN.weaken (.o4 rfl (.o2 rfl (.nil _))) (Kj371 () true h)
        ·refine wf rfl rfl rfl hb388 rfl rfl fo117_3 rfl <| wl rfl rfl rfl hb388 rfl rfl sh115 <| wq rfl rfl rfl hb388 (.s 73 rfl .nil) (q_len rfl elS115).o <| wq rfl rfl rfl hb388 (.s 74 rfl (.k .nil)) (q_int rfl rfl).o <| p2 rfl 71 rfl 75 rfl (q_pickF rfl hb388) <| WL.nil ?_
         exact QN.weaken (.o4 rfl (.o2 rfl (.nil _))) (Kj371 () (decide ((((rd ((rd a0.fNodes x4).fAttrs) x5).fNames).length : Int) > 25)) h)
      ·refine W.exit <| QX.then_ <| QX.then_ <| QX.here <| QN.block <| QN.then_ <| W.region <| mv rfl rfl ?_
       obtain ⟨c389, h⟩ := ite_n h
       refine pk rfl 24 rfl (q_addR rfl c389) <| av rfl rfl <| WL.nil ?_
       exact next0 () (x3 + (((rd a0.fNodes x4).fAttrs).length : Int)) (x4 + 1) _ h (.o2 rfl (.one rfl (.nil _)))
    ·refine W.region <| mv rfl rfl <| pk rfl 35 rfl (q_int rfl rfl) <| mv rfl rfl ?_
     rcases bif_s h with ⟨hb390, h⟩ | ⟨hb390, h⟩
     ·refine sk rfl rfl rfl hb390 <| sk rfl rfl rfl hb390 <| sk rfl rfl rfl hb390 <| sk rfl rfl rfl hb390 <| sk rfl rfl rfl hb390 <| sk rfl rfl rfl hb390 <| sk rfl rfl rfl hb390 <| sk rfl rfl rfl hb390 <| pk rfl 37 rfl (q_pickT rfl hb390) <| WL.nil ?_
      exact QN.weaken (.o4 rfl (.nil _)) (Kj310 () true h)
     ·refine wf rfl rfl rfl hb390 rfl rfl fo25_0 rfl <| wl rfl rfl rfl hb390 rfl rfl sh22 <| wm rfl rfl rfl hb390 rfl rfl ?_
      obtain ⟨c391, h⟩ := ite_n h
      refine wq rfl rfl rfl hb390 (.s 39 rfl (.s 40 rfl .nil)) (q_index rfl el22 rfl c391.1 c391.2).o <| wf rfl rfl rfl hb390 rfl rfl fo120_0 rfl <| wl rfl rfl rfl hb390 rfl rfl sh9 <| wq rfl rfl rfl hb390 (.s 43 rfl .nil) (q_slen (s := (rd a0.fNodes x4).fName) rfl iss9).o <| wq rfl rfl rfl hb390 (.s 44 rfl (.k .nil)) (q_int rfl rfl).o <| p2 rfl 37 rfl 45 rfl (q_pickF rfl hb390) <| WL.nil ?_
      exact QN.weaken (.o4 rfl (.nil _)) (Kj310 () (decide ((((rd a0.fNodes x4).fName).length : Int) > 40)) h)
   ·refine W.exit <| QX.then_ <| QX.then_ <| QX.here <| QN.weaken (env' := [(1, _)]) (.one rfl (.nil _)) <| QN.then_ <| W.seq <| sr <| ak rfl <| nt <| W.block ?_
    refine W.loop1 (Γ := Unit) (fun (_ : Unit) (x8 : Int) => [(1, PtrA [SlcA kNodeType a0.fNodes, SlcA kEdgeType a0.fEdges]), (8, iA x8)]) (fun (_ : Unit) (_ : Int) => []) h () (.o2 rfl (.nil _)) rfl (fun rec3 K3 next3 _ x8 h => ?_)
    unfold ref04_Few.b3 at h
    refine W.seq <| sr <| mv rfl rfl <| fd rfl rfl fo25_1 rfl <| ld rfl rfl sh23 <| p1 rfl 93 rfl (q_len rfl elS23) <| p2 rfl 91 rfl 94 rfl (q_int rfl rfl) <| nt ?_
    refine W.condP h rfl (fun hb400 h => ?_) (fun hb400 h => ?_)
    ·refine W.skip <| QN.then_ <| W.seq <| W.block <| sr <| fd rfl rfl fo25_1 rfl <| ld rfl rfl sh23 <| mv rfl rfl ?_
     obtain ⟨c401, h⟩ := ite_n h
     refine p2 rfl 99 rfl 100 rfl (q_index rfl el23 rfl c401.1 c401.2) <| fd rfl rfl fo60_0 rfl <| ld rfl rfl sh9 <| p1 rfl 103 rfl (q_slen (s := (rd a0.fEdges x8).fName) rfl iss9) <| pk rfl 104 rfl (q_int rfl rfl) <| WL.nil <| QN.weaken (env' := [(105, _), (8, _), (1, _)]) (.o2 rfl (.one rfl (.nil _))) <| QN.then_ ?_
     refine W.condP h rfl (fun hb402 h => ?_) (fun hb402 h => ?_)
     ·refine sr <| ak rfl <| nt <| W.ret <| QR.block <| QR.then_ <| QR.then_ <| QR.block <| QR.then_ ?_
      cases h
      exact QR.f1 rfl rfl (.t rfl) (.id _)
     ·refine W.skip <| QN.block <| QN.then_ <| W.region <| mv rfl rfl ?_
      obtain ⟨c403, h⟩ := ite_n h
      refine pk rfl 96 rfl (q_addR rfl c403) <| av rfl rfl <| WL.nil ?_
      exact next3 () (x8 + 1) _ h (.o2 rfl (.nil _))
    ·refine W.exit <| QX.then_ <| QX.then_ <| QX.here <| QN.weaken (env' := []) (.nil _) <| QN.then_ <| sr <| ak rfl <| nt <| W.ret ?_
     cases h
     exact QR.f1 rfl rfl (.t rfl) (.id _)
 ·refine W.region <| fd rfl rfl fo25_0 rfl <| ld rfl rfl sh22 <| p1 rfl 10 rfl (q_len rfl elS22) <| pk rfl 11 rfl (q_int rfl rfl) <| mv rfl rfl ?_
  rcases bif_s h with ⟨hb404, h⟩ | ⟨hb404, h⟩
  ·refine sk rfl rfl rfl hb404 <| sk rfl rfl rfl hb404 <| sk rfl rfl rfl hb404 <| sk rfl rfl rfl hb404 <| pk rfl 13 rfl (q_pickT rfl hb404) <| WL.nil ?_
   exact QN.weaken (.o2 rfl (.nil _)) (Kj102 () true h)
  ·refine wf rfl rfl rfl hb404 rfl rfl fo25_1 rfl <| wl rfl rfl rfl hb404 rfl rfl sh23 <| wq rfl rfl rfl hb404 (.s 15 rfl .nil) (q_len rfl elS23).o <| wq rfl rfl rfl hb404 (.s 16 rfl (.k .nil)) (q_int rfl rfl).o <| p2 rfl 13 rfl 17 rfl (q_pickF rfl hb404) <| WL.nil ?_
   exact QN.weaken (.o2 rfl (.nil _)) (Kj102 () (decide ((a0.fEdges.length : Int) > 30)) h)
theorem slices_IndexFunc_Host.con (k : Nat) (a0 : (List Host)) (a1 : (Host → Option Bool)) (r : Int) (h : slices_IndexFunc_Host k a0 a1 = some r) : Con Tryz.prog 85 [] [SlcA kHost a0, FnA Tryz.prog (fun (x : Host) => [AggA [SlcA kInt x.fGraph.fNodes, SlcA kEdge x.fGraph.fEdges, SlcA (kSl kInt) x.fValues]]) (fun (y : Bool) => bA y) a1] (RA (iA r)) := by
 unfold slices_IndexFunc_Host at h
 refine Con.of (N := 19) Tryz.func85 rfl rfl rfl fun w0_ fg_ => sr <| ak rfl <| nt <| W.seq <| sr <| mv rfl rfl <| p1 rfl 6 rfl (q_len rfl elS92) <| mk_ rfl <| WL.nil ?_
 refine QN.then_ <| W.block ?_
 refine W.loop1 (Γ := Unit) (fun (_ : Unit) (x8 : Int) => [(0, SlcA kHost a0), (1, FnA Tryz.prog (fun (x : Host) => [AggA [SlcA kInt x.fGraph.fNodes, SlcA kEdge x.fGraph.fEdges, SlcA (kSl kInt) x.fValues]]) (fun (y : Bool) => bA y) a1), (7, iA (a0.length : Int)), (8, iA x8)]) (fun (_ : Unit) (_ : Int) => []) h () (.o4 rfl (.nil _)) rfl (fun rec0 K0 next0 _ x8 h => ?_)
 unfold slices_IndexFunc_Host.b0 at h
 refine sr <| p2 rfl 8 rfl 7 rfl (q_int rfl rfl) <| nt <| W.seq ?_
 refine W.condP h rfl (fun hb110 h => ?_) (fun hb110 h => ?_)
 ·refine W.skip <| QN.then_ <| W.seq <| W.block <| sr <| mv rfl rfl <| av rfl rfl <| nx <| mv rfl rfl ?_
  refine mv rfl rfl <| mv rfl rfl ?_
  obtain ⟨c111, h⟩ := ite_n h
  refine p2 rfl 12 rfl 13 rfl (q_index rfl el92 rfl c111.1 c111.2) <| lS rfl rfl sh32 rfl rfl ?_
  obtain ⟨t112, ht112, h⟩ := bind_s h
  refine p2 rfl 11 rfl 15 rfl (q_callV («as» := (fun (x : Host) => [AggA [SlcA kInt x.fGraph.fNodes, SlcA kEdge x.fGraph.fEdges, SlcA (kSl kInt) x.fValues]])) (res := (fun (y : Bool) => bA y)) (x := (rd a0 x8)) (y := t112) (xs := [.tmp 15]) rfl ht112 rfl) <| WL.nil <| QN.weaken (env' := [(16, _), (5, _), (8, _), (7, _), (1, _), (0, _)]) (.o4 rfl (.o2 rfl (.nil _))) <| QN.then_ ?_
  refine W.condP h rfl (fun hb113 h => ?_) (fun hb113 h => ?_)
  ·refine sr <| mv rfl rfl <| av rfl rfl <| WL.nil <| QN.weaken (env' := [(4, _)]) (.one rfl (.nil _)) <| QN.then_ <| W.ret <| QR.block <| QR.then_ <| QR.then_ <| QR.block <| QR.then_ ?_
   cases h
   exact QR.f1 rfl rfl (.t rfl) (.id _)
  ·refine W.skip <| QN.block <| QN.then_ <| W.region ?_
   obtain ⟨c114, h⟩ := ite_n h
   refine pk rfl 8 rfl (q_addR rfl c114) <| mv rfl rfl <| WL.nil ?_
   exact next0 () (x8 + 1) _ h (.o4 rfl (.nil _))
 ·refine W.exit <| QX.then_ <| QX.then_ <| QX.here <| QN.then_ <| sr <| ak rfl <| nt <| W.ret ?_
  cases h
  exact QR.f1 rfl rfl (.t rfl) (.id _)
theorem slices_ContainsFunc_Host.con (k : Nat) (a0 : (List Host)) (a1 : (Host → Option Bool)) (r : Bool) (h : slices_ContainsFunc_Host k a0 a1 = some r) : Con Tryz.prog 43 [] [SlcA kHost a0, FnA Tryz.prog (fun (x : Host) => [AggA [SlcA kInt x.fGraph.fNodes, SlcA kEdge x.fGraph.fEdges, SlcA (kSl kInt) x.fValues]]) (fun (y : Bool) => bA y) a1] (RA (bA r)) := by
 unfold slices_ContainsFunc_Host at h
 refine Con.of (N := 9) Tryz.func43 rfl rfl rfl fun w0_ fg_ => sr <| ak rfl <| nx <| mv rfl rfl <| mv rfl rfl ?_
 obtain ⟨t100, ht100, h⟩ := bind_s h
 refine p2 rfl 5 rfl 6 rfl (q_call (f := 85) (A := iA t100) (xs := [.tmp 5, .tmp 6]) («as» := [SlcA kHost a0, FnA Tryz.prog (fun (x : Host) => [AggA [SlcA kInt x.fGraph.fNodes, SlcA kEdge x.fGraph.fEdges, SlcA (kSl kInt) x.fValues]]) (fun (y : Bool) => bA y) a1]) rfl ca85 (slices_IndexFunc_Host.con k a0 a1 t100 ht100) rfl) <| pk rfl 7 rfl (q_int rfl rfl) <| av rfl rfl <| nt <| W.ret ?_
 cases h
 exact QR.f1 rfl rfl (.t rfl) (.id _)
theorem ref05_Few.con (k : Nat) (a0 : Graph) (r : Bool) (h : ref05_Few k a0 = some r) : Con Tryz.prog 71 [] [AggA [SlcA kInt a0.fNodes, SlcA kEdge a0.fEdges]] (RA (bA r)) := by
 unfold ref05_Few at h
 refine Con.of (N := 13) Tryz.func71 rfl rfl rfl fun w0_ fg_ => sr <| p1 rfl 0 rfl (q_box rfl (CellsOf.agg _)) <| ak rfl <| nt <| W.seq ?_
 refine W.jn1 (Γ := Unit) (fun (_ : Unit) (x2 : Bool) => [(2, bA x2)]) (fun (_ : Unit) (_ : Bool) => []) h (fun _ x2 h => ?_) (fun j102 Kj102 h => ?_)
 ·refine QN.then_ <| W.ret ?_
  cases h
  exact QR.f1 rfl rfl (.t rfl) (.id _)
 ·refine W.region <| fd rfl rfl fo29_0 rfl <| ld rfl rfl sh26 <| p1 rfl 4 rfl (q_len rfl elS26) <| pk rfl 5 rfl (q_int rfl rfl) <| mv rfl rfl ?_
  rcases bif_s h with ⟨hb103, h⟩ | ⟨hb103, h⟩
  ·refine wf rfl rfl rfl hb103 rfl rfl fo29_1 rfl <| wl rfl rfl rfl hb103 rfl rfl sh27 <| wq rfl rfl rfl hb103 (.s 9 rfl .nil) (q_len rfl elS27).o <| wq rfl rfl rfl hb103 (.s 10 rfl (.k .nil)) (q_int rfl rfl).o <| p2 rfl 7 rfl 11 rfl (q_pickT rfl hb103) <| av rfl rfl <| WL.nil ?_
   exact QN.weaken (.one rfl (.nil _)) (Kj102 () (decide ((a0.fEdges.length : Int) ≤ 90)) h)
  ·refine sk rfl rfl rfl hb103 <| sk rfl rfl rfl hb103 <| sk rfl rfl rfl hb103 <| sk rfl rfl rfl hb103 <| pk rfl 7 rfl (q_pickF rfl hb103) <| av rfl rfl <| WL.nil ?_
   exact QN.weaken (.one rfl (.nil _)) (Kj102 () false h)
theorem ref15_Few.con (k : Nat) (a0 : Host) (r : Bool) (h : ref15_Few k a0 = some r) : Con Tryz.prog 28 [] [AggA [SlcA kInt a0.fGraph.fNodes, SlcA kEdge a0.fGraph.fEdges, SlcA (kSl kInt) a0.fValues]] (RA (bA r)) := by
 unfold ref15_Few at h
 refine Con.of (N := 28) Tryz.func28 rfl rfl rfl fun w0_ fg_ => sr <| p1 rfl 0 rfl (q_box rfl (CellsOf.agg _)) <| ak rfl <| nt <| W.seq <| W.seq ?_
 refine W.jn1 (Γ := Unit) (fun (_ : Unit) (x13 : Bool) => [(1, PtrA [SlcA kInt a0.fGraph.fNodes, SlcA kEdge a0.fGraph.fEdges, SlcA (kSl kInt) a0.fValues]), (13, bA x13)]) (fun (_ : Unit) (_ : Bool) => []) h (fun _ x13 h => ?_) (fun j103 Kj103 h => ?_)
 ·refine QN.then_ ?_
  refine W.condP h rfl (fun hb104 h => ?_) (fun hb104 h => ?_)
  ·refine sr <| ak rfl <| nt <| W.ret <| QR.then_ ?_
   cases h
   exact QR.f1 rfl rfl (.t rfl) (.id _)
  ·refine W.skip <| QN.then_ <| W.seq <| sr <| ak rfl <| nt <| W.block ?_
   refine W.loop1 (Γ := Unit) (fun (_ : Unit) (x3 : Int) => [(1, PtrA [SlcA kInt a0.fGraph.fNodes, SlcA kEdge a0.fGraph.fEdges, SlcA (kSl kInt) a0.fValues]), (3, iA x3)]) (fun (_ : Unit) (_ : Int) => []) h () (.o2 rfl (.nil _)) rfl (fun rec0 K0 next0 _ x3 h => ?_)
   unfold ref15_Few.b0 at h
   refine W.seq <| sr <| mv rfl rfl <| fd rfl rfl fo32_1 rfl <| ld rfl rfl sh30 <| p1 rfl 16 rfl (q_len rfl elS30) <| p2 rfl 14 rfl 17 rfl (q_int rfl rfl) <| nt ?_
   refine W.condP h rfl (fun hb113 h => ?_) (fun hb113 h => ?_)
   ·refine W.skip <| QN.then_ <| W.seq <| W.block <| sr <| fd rfl rfl fo32_1 rfl <| ld rfl rfl sh30 <| mv rfl rfl ?_
    obtain ⟨c114, h⟩ := ite_n h
    refine p2 rfl 22 rfl 23 rfl (q_index rfl el30 rfl c114.1 c114.2) <| ld rfl rfl sh26 <| p1 rfl 25 rfl (q_len rfl elS26) <| pk rfl 26 rfl (q_int rfl rfl) <| WL.nil <| QN.weaken (env' := [(27, _), (3, _), (1, _)]) (.o2 rfl (.one rfl (.nil _))) <| QN.then_ ?_
    refine W.condP h rfl (fun hb115 h => ?_) (fun hb115 h => ?_)
    ·refine sr <| ak rfl <| nt <| W.ret <| QR.block <| QR.then_ <| QR.then_ <| QR.block <| QR.then_ ?_
     cases h
     exact QR.f1 rfl rfl (.t rfl) (.id _)
    ·refine W.skip <| QN.block <| QN.then_ <| W.region <| mv rfl rfl ?_
     obtain ⟨c116, h⟩ := ite_n h
     refine pk rfl 19 rfl (q_addR rfl c116) <| av rfl rfl <| WL.nil ?_
     exact next0 () (x3 + 1) _ h (.o2 rfl (.nil _))
   ·refine W.exit <| QX.then_ <| QX.then_ <| QX.here <| QN.weaken (env' := []) (.nil _) <| QN.then_ <| sr <| ak rfl <| nt <| W.ret ?_
    cases h
    exact QR.f1 rfl rfl (.t rfl) (.id _)
 ·refine W.region <| fd rfl rfl fo32_0 rfl <| lS rfl rfl sh29 rfl rfl ?_
  obtain ⟨t117, ht117, h⟩ := bind_s h
  refine p1 rfl 5 rfl (q_call (f := 71) (A := bA t117) (xs := [.tmp 5]) («as» := [AggA [SlcA kInt a0.fGraph.fNodes, SlcA kEdge a0.fGraph.fEdges]]) rfl ca71 (ref05_Few.con k a0.fGraph t117 ht117) rfl) <| p1 rfl 6 rfl (q_not rfl) <| mv rfl rfl ?_
  rcases bif_s h with ⟨hb118, h⟩ | ⟨hb118, h⟩
  ·refine sk rfl rfl rfl hb118 <| sk rfl rfl rfl hb118 <| sk rfl rfl rfl hb118 <| sk rfl rfl rfl hb118 <| pk rfl 8 rfl (q_pickT rfl hb118) <| WL.nil ?_
   exact QN.weaken (.o2 rfl (.nil _)) (Kj103 () true h)
  ·refine wf rfl rfl rfl hb118 rfl rfl fo32_1 rfl <| wl rfl rfl rfl hb118 rfl rfl sh30 <| wq rfl rfl rfl hb118 (.s 10 rfl .nil) (q_len rfl elS30).o <| wq rfl rfl rfl hb118 (.s 11 rfl (.k .nil)) (q_int rfl rfl).o <| p2 rfl 8 rfl 12 rfl (q_pickF rfl hb118) <| WL.nil ?_
   exact QN.weaken (.o2 rfl (.nil _)) (Kj103 () (decide ((a0.fValues.length : Int) > 45)) h)
theorem law15_small_1.con (k : Nat) (a0 : Host) (r : Bool) (h : law15_small_1 k a0 = some r) : Con Tryz.prog 44 [] [AggA [SlcA kInt a0.fGraph.fNodes, SlcA kEdge a0.fGraph.fEdges, SlcA (kSl kInt) a0.fValues]] (RA (bA r)) := by
 unfold law15_small_1 at h
 refine Con.of (N := 6) Tryz.func44 rfl rfl rfl fun w0_ fg_ => sr <| p1 rfl 0 rfl (q_box rfl (CellsOf.agg _)) <| ak rfl <| nx <| lS rfl rfl sh32 rfl rfl ?_
 obtain ⟨t100, ht100, h⟩ := bind_s h
 refine p1 rfl 3 rfl (q_call (f := 28) (A := bA t100) (xs := [.tmp 3]) («as» := [AggA [SlcA kInt a0.fGraph.fNodes, SlcA kEdge a0.fGraph.fEdges, SlcA (kSl kInt) a0.fValues]]) rfl ca28 (ref15_Few.con k a0 t100 ht100) rfl) <| p1 rfl 4 rfl (q_not rfl) <| av rfl rfl <| nt <| W.ret ?_
 cases h
 exact QR.f1 rfl rfl (.t rfl) (.id _)
theorem law15_small.con (k : Nat) (a0 : Types) (a1 : (List Host)) (r : Bool) (h : law15_small k a0 a1 = some r) : Con Tryz.prog 12 [] [AggA [SlcA kNodeType a0.fNodes, SlcA kEdgeType a0.fEdges], SlcA kHost a1] (RA (bA r)) := by
 unfold law15_small at h
 refine Con.of (N := 12) Tryz.func12 rfl rfl rfl fun w0_ fg_ => sr <| p1 rfl 0 rfl (q_box rfl (CellsOf.agg _)) <| ak rfl <| nt <| W.seq ?_
 refine W.jn1 (Γ := Unit) (fun (_ : Unit) (x4 : Bool) => [(4, bA x4)]) (fun (_ : Unit) (_ : Bool) => []) h (fun _ x4 h => ?_) (fun j104 Kj104 h => ?_)
 ·refine QN.then_ <| W.ret ?_
  cases h
  exact QR.f1 rfl rfl (.t rfl) (.id _)
 ·refine W.region <| lS rfl rfl sh25 rfl rfl ?_
  obtain ⟨t105, ht105, h⟩ := bind_s h
  refine p1 rfl 5 rfl (q_call (f := 42) (A := bA t105) (xs := [.tmp 5]) («as» := [AggA [SlcA kNodeType a0.fNodes, SlcA kEdgeType a0.fEdges]]) rfl ca42 (ref04_Few.con k a0 t105 ht105) rfl) <| mv rfl rfl ?_
  rcases bif_s h with ⟨hb106, h⟩ | ⟨hb106, h⟩
  ·refine wm rfl rfl rfl hb106 rfl rfl ?_
   obtain ⟨t107, ht107, h⟩ := bind_s h
   refine wq rfl rfl rfl hb106 (.s 8 rfl (.f («as» := (fun (x : Host) => [AggA [SlcA kInt x.fGraph.fNodes, SlcA kEdge x.fGraph.fEdges, SlcA (kSl kInt) x.fValues]])) (res := (fun (y : Bool) => bA y)) (p := fun x => law15_small_1 k x) ca44 (fun x y hp => law15_small_1.con k x y hp) .nil)) (q_call (f := 43) (A := bA t107) (xs := [.tmp 8, .func 44]) («as» := [SlcA kHost a1, FnA Tryz.prog (fun (x : Host) => [AggA [SlcA kInt x.fGraph.fNodes, SlcA kEdge x.fGraph.fEdges, SlcA (kSl kInt) x.fValues]]) (fun (y : Bool) => bA y) (fun x => law15_small_1 k x)]) rfl ca43 (slices_ContainsFunc_Host.con k a1 (fun x => law15_small_1 k x) t107 ht107) rfl).o <| wq rfl rfl rfl hb106 (.s 9 rfl .nil) (q_not rfl).o <| p2 rfl 7 rfl 10 rfl (q_pickT rfl hb106) <| av rfl rfl <| WL.nil ?_
   exact QN.weaken (.one rfl (.nil _)) (Kj104 () (!t107) h)
  ·refine sk rfl rfl rfl hb106 <| sk rfl rfl rfl hb106 <| sk rfl rfl rfl hb106 <| pk rfl 7 rfl (q_pickF rfl hb106) <| av rfl rfl <| WL.nil ?_
   exact QN.weaken (.one rfl (.nil _)) (Kj104 () false h)
theorem law15_light.con (k : Nat) (a0 : Types) (a1 : Host) (r : Bool) (h : law15_light k a0 a1 = some r) : Con Tryz.prog 19 [] [AggA [SlcA kNodeType a0.fNodes, SlcA kEdgeType a0.fEdges], AggA [SlcA kInt a1.fGraph.fNodes, SlcA kEdge a1.fGraph.fEdges, SlcA (kSl kInt) a1.fValues]] (RA (bA r)) := by
 unfold law15_light at h
 refine Con.of (N := 29) Tryz.func19 rfl rfl rfl fun w0_ fg_ => sr <| p1 rfl 0 rfl (q_box rfl (CellsOf.agg _)) <| p1 rfl 1 rfl (q_box rfl (CellsOf.agg _)) <| ak rfl <| nx <| fd rfl rfl fo32_0 rfl <| fd rfl rfl fo29_0 rfl <| ld rfl rfl sh26 ?_
 refine p1 rfl 8 rfl (q_len rfl elS26) <| av rfl rfl <| WL.nil <| QN.weaken (env' := [(5, _), (3, _), (2, _)]) (.o2 rfl (.one rfl (.nil _))) <| QN.then_ <| W.seq ?_
 refine W.jn1 (Γ := Unit) (fun (_ : Unit) (x4 : Bool) => [(4, bA x4)]) (fun (_ : Unit) (_ : Bool) => []) h (fun _ x4 h => ?_) (fun j105 Kj105 h => ?_)
 ·refine QN.then_ <| W.ret ?_
  cases h
  exact QR.f1 rfl rfl (.t rfl) (.id _)
 ·refine W.region <| lS rfl rfl sh25 rfl rfl <| lS rfl rfl sh32 rfl rfl <| p1 rfl 11 rfl (q_lit (kd := kHost) (ps := [(0, .tmp 11)]) (xs := [.tmp 11]) («as» := [AggA [SlcA kInt a1.fGraph.fNodes, SlcA kEdge a1.fGraph.fEdges, SlcA (kSl kInt) a1.fValues]]) (ys := [a1]) rfl rfl el92 rfl gr32 rfl rfl rfl (.cons (CellsOf.agg _) .nil)) ?_
  obtain ⟨t106, ht106, h⟩ := bind_s h
  refine p2 rfl 10 rfl 12 rfl (q_call (f := 12) (A := bA t106) (xs := [.tmp 10, .tmp 12]) («as» := [AggA [SlcA kNodeType a0.fNodes, SlcA kEdgeType a0.fEdges], SlcA kHost [a1]]) rfl ca12 (law15_small.con k a0 [a1] t106 ht106) rfl) <| mv rfl rfl ?_
  rcases bif_s h with ⟨hb107, h⟩ | ⟨hb107, h⟩
  ·refine wm rfl rfl rfl hb107 rfl rfl <| wq rfl rfl rfl hb107 (.s 15 rfl (.k .nil)) (q_int rfl rfl).o <| wm rfl rfl rfl hb107 rfl rfl ?_
   rcases bif_s h with ⟨hb108, h⟩ | ⟨hb108, h⟩
   ·refine sk rfl rfl rfl hb108 <| sk rfl rfl rfl hb108 <| wq rfl rfl rfl hb107 (.s 17 rfl (.k .nil)) (q_pickT rfl hb108).o <| p2 rfl 14 rfl 20 rfl (q_pickT rfl hb107) <| mv rfl rfl <| wf rfl rfl rfl rfl rfl rfl fo32_0 rfl <| wf rfl rfl rfl rfl rfl rfl fo29_1 rfl <| wl rfl rfl rfl rfl rfl rfl sh27 <| wq rfl rfl rfl rfl (.s 25 rfl .nil) (q_len rfl elS27).o <| wq rfl rfl rfl rfl (.s 26 rfl (.k .nil)) (q_int rfl rfl).o <| p2 rfl 22 rfl 27 rfl (q_pickT rfl rfl) <| av rfl rfl <| WL.nil ?_
    exact QN.weaken (.one rfl (.nil _)) (Kj105 () (decide ((a1.fGraph.fEdges.length : Int) ≤ 20)) h)
   ·refine wm rfl rfl rfl hb108 rfl rfl <| wq rfl rfl rfl hb108 (.s 18 rfl (.k .nil)) (q_int rfl rfl).o <| wq rfl rfl rfl hb107 (.s 17 rfl (.s 19 rfl .nil)) (q_pickF rfl hb108).o <| p2 rfl 14 rfl 20 rfl (q_pickT rfl hb107) <| mv rfl rfl ?_
    rcases bif_s h with ⟨hb109, h⟩ | ⟨hb109, h⟩
    ·refine wf rfl rfl rfl hb109 rfl rfl fo32_0 rfl <| wf rfl rfl rfl hb109 rfl rfl fo29_1 rfl <| wl rfl rfl rfl hb109 rfl rfl sh27 <| wq rfl rfl rfl hb109 (.s 25 rfl .nil) (q_len rfl elS27).o <| wq rfl rfl rfl hb109 (.s 26 rfl (.k .nil)) (q_int rfl rfl).o <| p2 rfl 22 rfl 27 rfl (q_pickT rfl hb109) <| av rfl rfl <| WL.nil ?_
     exact QN.weaken (.one rfl (.nil _)) (Kj105 () (decide ((a1.fGraph.fEdges.length : Int) ≤ 20)) h)
    ·refine sk rfl rfl rfl hb109 <| sk rfl rfl rfl hb109 <| sk rfl rfl rfl hb109 <| sk rfl rfl rfl hb109 <| sk rfl rfl rfl hb109 <| pk rfl 22 rfl (q_pickF rfl hb109) <| av rfl rfl <| WL.nil ?_
     exact QN.weaken (.one rfl (.nil _)) (Kj105 () false h)
  ·refine sk rfl rfl rfl hb107 <| sk rfl rfl rfl hb107 <| sk rfl rfl rfl hb107 <| su rfl rfl rfl <| su rfl rfl rfl <| sk rfl rfl rfl hb107 <| pk rfl 14 rfl (q_pickF rfl hb107) <| mv rfl rfl <| sk rfl rfl rfl rfl <| sk rfl rfl rfl rfl <| sk rfl rfl rfl rfl <| sk rfl rfl rfl rfl <| sk rfl rfl rfl rfl ?_
   refine pk rfl 22 rfl (q_pickF rfl rfl) <| av rfl rfl <| WL.nil ?_
   exact QN.weaken (.one rfl (.nil _)) (Kj105 () false h)
theorem ref05_Copied.con (k : Nat) (a0 : Graph) (r : Graph) (h : ref05_Copied k a0 = some r) : Con Tryz.prog 49 [] [AggA [SlcA kInt a0.fNodes, SlcA kEdge a0.fEdges]] (fun O' A => ∃ u0 u1, O' = [SlE 3 u0 kInt r.fNodes, SlE 63 u1 kEdge r.fEdges] ∧ A = AggA [HdA u0, HdA u1]) := by
 unfold ref05_Copied at h
 refine Con.of (N := 12) Tryz.func49 rfl rfl rfl fun w0_ fg_ => sr <| p1 rfl 0 rfl (q_box rfl (CellsOf.agg _)) <| WL.w [] rfl (Wanted.plain rfl) rfl rfl .nil (w_alloc rfl z29 (l := [EqA (.slice none 0 0), EqA (.slice none 0 0)]) rfl) ?_
 rintro _ _ ⟨b100, rfl, rfl⟩
 refine nt <| W.seq <| W.drawK [(0, false), (1, false), (2, false), (4, false), (5, false), (6, false)] [3, 7, 8, 9] (bm [0, 0, 2, 7, 0, 0, 32, 127, 255, 511]) mx (by kernel_rfl) <| DK.cons rfl rfl (.p rfl .nil rfl (q_lit0 rfl el26 gr3)) <| df rfl rfl rfl fo29_0 rfl <| dl rfl rfl rfl sh26 ?_
 obtain ⟨c109, h⟩ := ite_n h
 refine DK.cons rfl rfl (.p rfl .nil rfl (q_lit0 rfl el27 gr63)) <| df rfl rfl rfl fo29_1 rfl <| dl rfl rfl rfl sh27 ?_
 obtain ⟨c111, h⟩ := ite_n h
 refine DK.nil <| CSteps.w [] rfl rfl rfl rfl (.s 3 rfl (.s 5 rfl .nil)) rfl (w_appendZ (kd := kInt) rfl el26 rfl gr3 c109) ?_
 rintro _ _ ⟨v110, rfl, rfl⟩
 refine CSteps.w [] rfl rfl rfl rfl (.s 7 rfl (.s 9 rfl .nil)) rfl (w_appendZ (kd := kEdge) rfl el27 rfl gr63 c111) ?_
 rintro _ _ ⟨v112, rfl, rfl⟩
 refine CSteps.p rfl rfl rfl (.s 6 rfl (.s 10 rfl .nil)) rfl (q_build (is := [0, 1]) (xs := [.tmp 6, .tmp 10]) (L := [HdA v110, HdA v112]) rfl rfl z29 pl29 rfl rfl (.cons (CellsOf.one rfl) (.cons (CellsOf.one rfl) .nil)) rfl) <| CSteps.w0 [2] rfl rfl rfl (.s 2 rfl (.s 11 rfl .nil)) rfl (w_store (L := [HdA v110, HdA v112]) rfl sh29 (CellsOf.agg _) rfl rfl (leB rfl) rfl) ?_
 rintro _ _ ⟨rfl, rfl⟩
 refine CSteps.nil <| QN.to (StTo.still [0] 2 rfl rfl) <| QN.weaken (env' := [(2, _)]) (.one rfl (.nil _)) <| QN.then_ <| W.ret ?_
 cases h
 refine QR.order [1, 0] rfl ?_
 exact QR.r1 rfl rfl (.ps rfl sh29 rfl) ⟨v110, v112, rfl, rfl⟩
theorem ref15_Copied.con (k : Nat) (a0 : Host) (r : Host) (h : ref15_Copied k a0 = some r) : Con Tryz.prog 14 [] [AggA [SlcA kInt a0.fGraph.fNodes, SlcA kEdge a0.fGraph.fEdges, SlcA (kSl kInt) a0.fValues]] (fun O' A => ∃ (u0 : Value × List Value), O' = [TbE 26 3 u0.1 kInt u0.2 r.fValues] ∧ A = AggA [SlcA kInt r.fGraph.fNodes, SlcA kEdge r.fGraph.fEdges, HdA u0.1]) := by
 unfold ref15_Copied at h
 refine Con.of (N := 29) Tryz.func14 rfl rfl rfl fun w0_ fg_ => sr <| p1 rfl 0 rfl (q_box rfl (CellsOf.agg _)) <| WL.w [] rfl (Wanted.plain rfl) rfl rfl .nil (w_alloc rfl z32 (l := [EqA (.slice none 0 0), EqA (.slice none 0 0), EqA (.slice none 0 0)]) rfl) ?_
 rintro _ _ ⟨b100, rfl, rfl⟩
 refine nx <| fd rfl rfl fo32_0 rfl <| lS rfl rfl sh29 rfl rfl ?_
 obtain ⟨t101, ht101, h⟩ := bind_s h
 refine WL.w [] rfl (Wanted.plain rfl) rfl rfl (.s 6 rfl .nil) (w_callI (f := 49) (xs := [.tmp 6]) («as» := [AggA [SlcA kInt a0.fGraph.fNodes, SlcA kEdge a0.fGraph.fEdges]]) rfl ca49 (ref05_Copied.con k a0.fGraph t101 ht101) rfl (.cons (Imp.id _) .nil)) ?_
 rintro _ _ ⟨v102, v103, rfl, rfl⟩
 refine p1 rfl 7 rfl (q_build (is := [0]) (xs := [.tmp 7]) (L := [HdA v102, HdA v103, EqA (.slice none 0 0)]) rfl rfl z32 pl32 rfl rfl (.cons (CellsOf.agg _) .nil) rfl) <| WL.w [] rfl (Wanted.plain rfl) rfl rfl .nil (w_alloc rfl z32 (l := [EqA (.slice none 0 0), EqA (.slice none 0 0), EqA (.slice none 0 0)]) rfl) ?_
 rintro _ _ ⟨b104, rfl, rfl⟩
 refine WL.w0 [0] rfl (Wanted.plain rfl) rfl (.s 3 rfl (.s 8 rfl .nil)) (w_store (L := [HdA v102, HdA v103, EqA (.slice none 0 0)]) rfl sh32 (CellsOf.agg _) rfl rfl (leB rfl) rfl) ?_
 rintro _ _ ⟨rfl, rfl⟩
 refine nt <| W.seq <| sr <| ak rfl <| nt <| W.block <| W.to (StTo.boxImp [0] rfl (.cons (Imp.id _) (.cons (Imp.id _) (.cons Imp.nilHd .nil)))) <| W.to (StTo.newNilT 26 3 kInt) <| W.order [4, 1, 1, 1, 0] rfl ?_
 refine W.loop2 (Γ := (Value × (List Value))) (fun (_ : (Value × (List Value))) (_ : (List (List Int))) (x4 : Int) => [(1, PtrA [SlcA kInt a0.fGraph.fNodes, SlcA kEdge a0.fGraph.fEdges, SlcA (kSl kInt) a0.fValues]), (2, EqA (.pointer (some ⟨b100, 0, none⟩))), (3, EqA (.pointer (some ⟨b104, 0, none⟩))), (4, iA x4)]) (fun (g0 : (Value × (List Value))) (y2 : (List (List Int))) (_ : Int) => [BoxE b100 [EqA (.slice none 0 0), EqA (.slice none 0 0), EqA (.slice none 0 0)], BoxE b104 [HdA v102, HdA v103, HdA g0.1], SlE 3 v102 kInt t101.fNodes, SlE 63 v103 kEdge t101.fEdges, TbE 26 3 g0.1 kInt g0.2 y2]) h ((.slice none 0 0), []) (.o4 rfl (.nil _)) rfl (fun rec0 K0 next0 g0 y2 x4 h => ?_)
 unfold ref15_Copied.b0 at h
 refine W.seq <| sr <| mv rfl rfl <| fd rfl rfl fo32_1 rfl <| ld rfl rfl sh30 <| p1 rfl 11 rfl (q_len rfl elS30) <| p2 rfl 9 rfl 12 rfl (q_int rfl rfl) <| nt ?_
 refine W.condP h rfl (fun hb156 h => ?_) (fun hb156 h => ?_)
 ·refine W.skip <| QN.then_ <| W.seq <| W.block <| W.drawKT [(0, false), (1, true), (2, false), (3, false), (4, false), (5, false), (6, false), (7, false)] [8, 9, 10, 11, 12] [8, 9, 11] 5 [[], [0], [], [], [3], [], [3, 4, 5], [3, 4, 5, 6], [2, 3, 4, 5, 6, 7], [2, 3, 4, 5, 6, 7, 8], [0, 1, 2, 3, 4, 5, 6, 7, 8, 9], [0, 1, 2, 3, 4, 5, 6, 7, 8, 9, 10], [0, 1, 2, 3, 4, 5, 6, 7, 8, 9, 10, 11]] mx (by kernel_rfl) <| DKT.cons rfl rfl (.p rfl (.s 3 rfl .nil) rfl (q_fieldP rfl fo32_1)) <| DKT.cons rfl rfl (.o rfl (.s 16 rfl .nil) rfl (fun _ => (q_loadB rfl sh30 (i := 1) rfl rfl))) <| DKT.cons rfl rfl (.p rfl .nil rfl (q_lit0 rfl el26 gr3)) <| DKT.cons rfl rfl (.p rfl (.s 1 rfl .nil) rfl (q_field rfl fo32_1 rfl)) <| DKT.cons rfl rfl (.p rfl (.s 19 rfl .nil) rfl (q_load rfl sh30)) <| DKT.cons rfl rfl (.p rfl (.s 4 rfl .nil) rfl (q_move rfl)) ?_
  obtain ⟨c169, h⟩ := ite_n h
  refine DKT.cons rfl rfl (.p rfl (.s 20 rfl (.s 21 rfl .nil)) rfl (q_index rfl el30 rfl c169.1 c169.2)) <| DKT.cons rfl rfl (.p rfl (.s 22 rfl .nil) rfl (q_load rfl sh26)) ?_
  obtain ⟨c170, h⟩ := ite_n h
  obtain ⟨c172, h⟩ := ite_n h
  refine DKT.nil <| CT.step ?_
  refine CTc.yes rfl ?_ ?_
  ·refine CStep1.w [] (fun _ => rfl) rfl rfl rfl rfl (.s 18 rfl (.s 23 rfl .nil)) rfl (w_appendZ (kd := kInt) rfl el26 rfl gr3 c170) ?_
   rintro _ _ ⟨v171, rfl, rfl⟩
   refine CT.list (l' := [9, 10, 11, 12]) rfl <| CT.step ?_
   refine CTc.yes rfl ?_ ?_
   ·refine CStep1.p rfl rfl rfl (.s 24 rfl .nil) rfl (q_lit (kd := kVal) (ps := [(0, .tmp 24)]) (xs := [.tmp 24]) («as» := [HdA v171]) (ys := [v171]) rfl rfl el30 rfl gr26 rfl rfl rfl (.cons (CellsOf.one rfl) .nil)) <| CT.list (l' := [10, 11, 12]) rfl <| CT.step ?_
    refine CTc.yes rfl ?_ ?_
    ·refine CStep1.w [5, 0] (fun h => absurd h (by decide)) rfl rfl rfl rfl (.s 17 rfl (.s 25 rfl .nil)) rfl (w_appendT (kd := kInt) rfl el30 gr26 c172) ?_
     rintro _ _ ⟨g173, rfl, rfl⟩
     refine CT.list (l' := [11, 12]) rfl <| CT.step ?_
     refine CTc.yes rfl ?_ ?_
     ·refine CStep1.p rfl rfl rfl (.s 3 rfl .nil) rfl (q_fieldP rfl fo32_1) <| CT.list (l' := [12]) rfl <| CT.step ?_
      refine CTc.yes rfl ?_ ?_
      ·refine CStep1.w0 [2] (fun h => absurd h (by decide)) rfl rfl rfl (.s 27 rfl (.s 26 rfl .nil)) rfl (w_store (L := [HdA v102, HdA v103, HdA g173.1]) rfl sh30 (CellsOf.one rfl) rfl rfl (leB rfl) rfl) ?_
       rintro _ _ ⟨rfl, rfl⟩
       refine CT.list (l' := []) rfl <| CT.nil <| QN.block <| QN.weaken (env' := [(4, _), (3, _), (2, _), (1, _)]) (.o4 rfl (.nil _)) <| QN.then_ <| W.region <| mv rfl rfl ?_
       obtain ⟨c175, h⟩ := ite_n h
       refine pk rfl 14 rfl (q_addR rfl c175) <| av rfl rfl <| WL.nil <| QN.order [2, 0, 1, 1, 0] rfl ?_
       exact next0 (g173.1, g173.2) (y2 ++ [(rd a0.fValues x4)]) (x4 + 1) _ h (.o4 rfl (.nil _))
      exact CTc.end
     refine CTc.no rfl ?_
     exact CTc.end
    refine CTc.no rfl <| CTc.no rfl ?_
    exact CTc.end
   refine CTc.no rfl <| CTc.no rfl <| CTc.no rfl ?_
   exact CTc.end
  refine CTc.no rfl <| CTc.no rfl <| CTc.no rfl <| CTc.no rfl ?_
  exact CTc.end
 ·refine W.exit <| QX.then_ <| QX.then_ <| QX.here <| QN.weaken (env' := [(3, _), (2, _)]) (.o2 rfl (.nil _)) <| QN.then_ <| sr <| WL.q (Wanted.plain rfl) rfl rfl (.s 3 rfl .nil) (q_loadBS (l' := [HdA v102, HdA v103, HdA g0.1]) rfl sh32 (i := 1) rfl rfl rfl) <| WL.w0 [0] rfl (Wanted.plain rfl) rfl (.s 2 rfl (.s 28 rfl .nil)) (w_store (L := [HdA v102, HdA v103, HdA g0.1]) rfl sh32 (CellsOf.agg _) rfl rfl (leB rfl) rfl) ?_
  rintro _ _ ⟨rfl, rfl⟩
  refine WL.nil <| QN.to (StTo.still [0] 2 rfl rfl) <| QN.then_ <| W.ret ?_
  cases h
  refine QR.to (StTo.ptrFreeze [1] 2 0 rfl rfl rfl) <| QR.to (StTo.ptrFreeze [1] 2 1 rfl rfl rfl) <| QR.drop [0] rfl ?_
  exact QR.r1 rfl rfl (.ps rfl sh32 rfl) ⟨(g0.1, g0.2), rfl, rfl⟩
theorem ref01_text.con (k : Nat) (a0 : Token) (r : Str) (h : ref01_text k a0 = some r) : Con Tryz.prog 169 [] [AggA [iA a0.fKind, EqA (strV a0.fText), iA a0.fLine]] (RA (EqA (strV r))) := by
 unfold ref01_text at h
 refine Con.of (N := 12) Tryz.func169 rfl rfl rfl fun w0_ fg_ => sr <| p1 rfl 0 rfl (q_box rfl (CellsOf.agg _)) <| ak rfl <| nt <| W.seq <| sr <| fd rfl rfl fo185_0 rfl <| ld rfl rfl sh3 <| pk rfl 4 rfl (q_int rfl rfl) ?_
 refine nt ?_
 refine W.condP h rfl (fun hb100 h => ?_) (fun hb100 h => ?_)
 ·refine sr <| fd rfl rfl fo185_1 rfl <| ld rfl rfl sh9 ?_
  obtain ⟨c101, h⟩ := ite_n h
  refine WL.p rfl rfl rfl (.k (.s 7 rfl .nil)) (q_sadd (s := ([34] : Str)) (t := a0.fText) rfl c101) ?_
  obtain ⟨c102, h⟩ := ite_n h
  refine pk rfl 8 rfl (q_sadd (s := (([34] : Str) ++ a0.fText)) (t := ([34] : Str)) rfl c102) <| av rfl rfl <| WL.nil <| QN.weaken (env' := [(2, _)]) (.one rfl (.nil _)) <| QN.then_ <| W.ret <| QR.then_ ?_
  cases h
  exact QR.f1 rfl rfl (.t rfl) (.id _)
 ·refine W.skip <| QN.then_ <| sr <| fd rfl rfl fo185_1 rfl <| ld rfl rfl sh9 <| av rfl rfl <| WL.nil <| QN.weaken (env' := [(2, _)]) (.one rfl (.nil _)) <| QN.then_ <| W.ret ?_
  cases h
  exact QR.f1 rfl rfl (.t rfl) (.id _)
theorem ref01_letter.con (k : Nat) (a0 : Int) (r : Bool) (h : ref01_letter k a0 = some r) : Con Tryz.prog 182 [] [EqA (.int .u8 a0)] (RA (bA r)) := by
 unfold ref01_letter at h
 refine Con.of (N := 17) Tryz.func182 rfl rfl rfl fun w0_ fg_ => sr <| ak rfl <| nt <| W.seq ?_
 refine W.jn1 (Γ := Unit) (fun (_ : Unit) (x2 : Bool) => [(2, bA x2)]) (fun (_ : Unit) (_ : Bool) => []) h (fun _ x2 h => ?_) (fun j105 Kj105 h => ?_)
 ·refine QN.then_ <| W.ret ?_
  cases h
  exact QR.f1 rfl rfl (.t rfl) (.id _)
 ·refine W.region <| mv rfl rfl <| pk rfl 3 rfl (q_int rfl rfl) <| mv rfl rfl ?_
  rcases bif_s h with ⟨hb106, h⟩ | ⟨hb106, h⟩
  ·refine wm rfl rfl rfl hb106 rfl rfl <| wq rfl rfl rfl hb106 (.s 6 rfl (.k .nil)) (q_int rfl rfl).o <| p2 rfl 5 rfl 7 rfl (q_pickT rfl hb106) <| mv rfl rfl ?_
   rcases bif_s h with ⟨hb107, h⟩ | ⟨hb107, h⟩
   ·refine sk rfl rfl rfl hb107 <| sk rfl rfl rfl hb107 <| sk rfl rfl rfl hb107 <| su rfl rfl rfl <| su rfl rfl rfl <| sk rfl rfl rfl hb107 <| pk rfl 9 rfl (q_pickT rfl hb107) <| av rfl rfl <| WL.nil ?_
    exact QN.weaken (.one rfl (.nil _)) (Kj105 () true h)
   ·refine wm rfl rfl rfl hb107 rfl rfl <| wq rfl rfl rfl hb107 (.s 10 rfl (.k .nil)) (q_int rfl rfl).o <| wm rfl rfl rfl hb107 rfl rfl ?_
    rcases bif_s h with ⟨hb108, h⟩ | ⟨hb108, h⟩
    ·refine wm rfl rfl rfl hb108 rfl rfl <| wq rfl rfl rfl hb108 (.s 13 rfl (.k .nil)) (q_int rfl rfl).o <| wq rfl rfl rfl hb107 (.s 12 rfl (.s 14 rfl .nil)) (q_pickT rfl hb108).o <| p2 rfl 9 rfl 15 rfl (q_pickF rfl hb107) <| av rfl rfl <| WL.nil ?_
     exact QN.weaken (.one rfl (.nil _)) (Kj105 () (decide (a0 ≤ 90)) h)
    ·refine sk rfl rfl rfl hb108 <| sk rfl rfl rfl hb108 <| wq rfl rfl rfl hb107 (.s 12 rfl (.k .nil)) (q_pickF rfl hb108).o <| p2 rfl 9 rfl 15 rfl (q_pickF rfl hb107) <| av rfl rfl <| WL.nil ?_
     exact QN.weaken (.one rfl (.nil _)) (Kj105 () false h)
  ·refine sk rfl rfl rfl hb106 <| sk rfl rfl rfl hb106 <| pk rfl 5 rfl (q_pickF rfl hb106) <| mv rfl rfl <| wm rfl rfl rfl rfl rfl rfl <| wq rfl rfl rfl rfl (.s 10 rfl (.k .nil)) (q_int rfl rfl).o <| wm rfl rfl rfl rfl rfl rfl ?_
   rcases bif_s h with ⟨hb109, h⟩ | ⟨hb109, h⟩
   ·refine wm rfl rfl rfl hb109 rfl rfl <| wq rfl rfl rfl hb109 (.s 13 rfl (.k .nil)) (q_int rfl rfl).o <| wq rfl rfl rfl rfl (.s 12 rfl (.s 14 rfl .nil)) (q_pickT rfl hb109).o <| p2 rfl 9 rfl 15 rfl (q_pickF rfl rfl) <| av rfl rfl <| WL.nil ?_
    exact QN.weaken (.one rfl (.nil _)) (Kj105 () (decide (a0 ≤ 90)) h)
   ·refine sk rfl rfl rfl hb109 <| sk rfl rfl rfl hb109 <| wq rfl rfl rfl rfl (.s 12 rfl (.k .nil)) (q_pickF rfl hb109).o <| p2 rfl 9 rfl 15 rfl (q_pickF rfl rfl) <| av rfl rfl <| WL.nil ?_
    exact QN.weaken (.one rfl (.nil _)) (Kj105 () false h)
theorem ref01_digit.con (k : Nat) (a0 : Int) (r : Bool) (h : ref01_digit k a0 = some r) : Con Tryz.prog 183 [] [EqA (.int .u8 a0)] (RA (bA r)) := by
 unfold ref01_digit at h
 refine Con.of (N := 9) Tryz.func183 rfl rfl rfl fun w0_ fg_ => sr <| ak rfl <| nt <| W.seq ?_
 refine W.jn1 (Γ := Unit) (fun (_ : Unit) (x2 : Bool) => [(2, bA x2)]) (fun (_ : Unit) (_ : Bool) => []) h (fun _ x2 h => ?_) (fun j102 Kj102 h => ?_)
 ·refine QN.then_ <| W.ret ?_
  cases h
  exact QR.f1 rfl rfl (.t rfl) (.id _)
 ·refine W.region <| mv rfl rfl <| pk rfl 3 rfl (q_int rfl rfl) <| mv rfl rfl ?_
  rcases bif_s h with ⟨hb103, h⟩ | ⟨hb103, h⟩
  ·refine wm rfl rfl rfl hb103 rfl rfl <| wq rfl rfl rfl hb103 (.s 6 rfl (.k .nil)) (q_int rfl rfl).o <| p2 rfl 5 rfl 7 rfl (q_pickT rfl hb103) <| av rfl rfl <| WL.nil ?_
   exact QN.weaken (.one rfl (.nil _)) (Kj102 () (decide (a0 ≤ 57)) h)
  ·refine sk rfl rfl rfl hb103 <| sk rfl rfl rfl hb103 <| pk rfl 5 rfl (q_pickF rfl hb103) <| av rfl rfl <| WL.nil ?_
   exact QN.weaken (.one rfl (.nil _)) (Kj102 () false h)
theorem ref01_run.con (k : Nat) (a0 : Str) (a1 : Int) (a2 : Bool) (r : Int) (h : ref01_run k a0 a1 a2 = some r) : Con Tryz.prog 184 [] [EqA (strV a0), iA a1, bA a2] (RA (iA r)) := by
 unfold ref01_run at h
 refine Con.of (N := 45) Tryz.func184 rfl rfl rfl fun w0_ fg_ => sr <| ak rfl <| nx <| ak rfl <| nt <| W.seq <| W.block ?_
 refine W.loop1 (Γ := Unit) (fun (_ : Unit) (x7 : Int) => [(0, EqA (strV a0)), (1, iA a1), (2, bA a2), (7, iA x7)]) (fun (_ : Unit) (_ : Int) => []) h () (.o4 rfl (.nil _)) rfl (fun rec0 K0 next0 _ x7 h => ?_)
 unfold ref01_run.b0 at h
 refine W.seq <| W.seq ?_
 refine W.jn1 (Γ := Unit) (fun (_ : Unit) (x41 : Bool) => [(0, EqA (strV a0)), (1, iA a1), (2, bA a2), (7, iA x7), (41, bA x41)]) (fun (_ : Unit) (_ : Bool) => []) h (fun _ x41 h => ?_) (fun j174 Kj174 h => ?_)
 ·refine QN.then_ ?_
  refine W.condP h rfl (fun hb175 h => ?_) (fun hb175 h => ?_)
  ·refine W.skip <| QN.then_ <| W.block <| W.region <| mv rfl rfl ?_
   obtain ⟨c176, h⟩ := ite_n h
   refine pk rfl 42 rfl (q_addR rfl c176) <| av rfl rfl <| WL.nil <| QN.block ?_
   exact next0 () (x7 + 1) _ h (.o4 rfl (.nil _))
  ·refine W.exit <| QX.then_ <| QX.then_ <| QX.here <| QN.then_ <| sr <| mv rfl rfl <| av rfl rfl <| nt <| W.ret ?_
   cases h
   exact QR.f1 rfl rfl (.t rfl) (.id _)
 ·refine W.region <| mv rfl rfl <| mv rfl rfl ?_
  obtain ⟨c177, h⟩ := ite_n h
  refine p2 rfl 8 rfl 9 rfl (q_addR rfl c177) <| mv rfl rfl <| p1 rfl 11 rfl (q_slen (s := a0) rfl iss9) <| p2 rfl 10 rfl 12 rfl (q_int rfl rfl) <| mv rfl rfl ?_
  rcases bif_s h with ⟨hb178, h⟩ | ⟨hb178, h⟩
  ·refine wm rfl rfl rfl hb178 rfl rfl <| wm rfl rfl rfl hb178 rfl rfl <| wm rfl rfl rfl hb178 rfl rfl ?_
   obtain ⟨c179, h⟩ := ite_n h
   refine wq rfl rfl rfl hb178 (.s 16 rfl (.s 17 rfl .nil)) (q_addR rfl c179).o ?_
   obtain ⟨c180, h⟩ := ite_n h
   refine wq rfl rfl rfl hb178 (.s 15 rfl (.s 18 rfl .nil)) (q_sindex rfl iss9 c180.1 c180.2).o ?_
   obtain ⟨t181, ht181, h⟩ := bind_s h
   refine wq rfl rfl rfl hb178 (.s 19 rfl .nil) (q_call (f := 183) (A := bA t181) (xs := [.tmp 19]) («as» := [EqA (.int .u8 (bt a0 (a1 + x7)))]) rfl ca183 (ref01_digit.con k (bt a0 (a1 + x7)) t181 ht181) rfl).o <| wm rfl rfl rfl hb178 rfl rfl ?_
   rcases bif_s h with ⟨hb182, h⟩ | ⟨hb182, h⟩
   ·refine sk rfl rfl rfl hb182 <| sk rfl rfl rfl hb182 <| sk rfl rfl rfl hb182 <| su rfl rfl rfl <| su rfl rfl rfl <| su rfl rfl rfl <| su rfl rfl rfl <| su rfl rfl rfl <| su rfl rfl rfl <| su rfl rfl rfl <| su rfl rfl rfl <| su rfl rfl rfl <| su rfl rfl rfl ?_
    refine su rfl rfl rfl <| su rfl rfl rfl <| su rfl rfl rfl <| su rfl rfl rfl <| sk rfl rfl rfl hb182 <| wq rfl rfl rfl hb178 (.s 21 rfl (.k .nil)) (q_pickT rfl hb182).o <| p2 rfl 14 rfl 40 rfl (q_pickT rfl hb178) <| WL.nil ?_
    exact QN.weaken (.o4 rfl (.one rfl (.nil _))) (Kj174 () true h)
   ·refine wm rfl rfl rfl hb182 rfl rfl <| wq rfl rfl rfl hb182 (.s 22 rfl .nil) (q_not rfl).o <| wm rfl rfl rfl hb182 rfl rfl ?_
    rcases bif_s h with ⟨hb183, h⟩ | ⟨hb183, h⟩
    ·refine wm rfl rfl rfl hb183 rfl rfl <| wm rfl rfl rfl hb183 rfl rfl <| wm rfl rfl rfl hb183 rfl rfl ?_
     obtain ⟨c184, h⟩ := ite_n h
     refine wq rfl rfl rfl hb183 (.s 26 rfl (.s 27 rfl .nil)) (q_addR rfl c184).o ?_
     obtain ⟨c185, h⟩ := ite_n h
     refine wq rfl rfl rfl hb183 (.s 25 rfl (.s 28 rfl .nil)) (q_sindex rfl iss9 c185.1 c185.2).o ?_
     obtain ⟨t186, ht186, h⟩ := bind_s h
     refine wq rfl rfl rfl hb183 (.s 29 rfl .nil) (q_call (f := 182) (A := bA t186) (xs := [.tmp 29]) («as» := [EqA (.int .u8 (bt a0 (a1 + x7)))]) rfl ca182 (ref01_letter.con k (bt a0 (a1 + x7)) t186 ht186) rfl).o <| wm rfl rfl rfl hb183 rfl rfl ?_
     rcases bif_s h with ⟨hb187, h⟩ | ⟨hb187, h⟩
     ·refine sk rfl rfl rfl hb187 <| sk rfl rfl rfl hb187 <| sk rfl rfl rfl hb187 <| sk rfl rfl rfl hb187 <| sk rfl rfl rfl hb187 <| sk rfl rfl rfl hb187 <| wq rfl rfl rfl hb183 (.s 31 rfl (.k .nil)) (q_pickT rfl hb187).o <| wq rfl rfl rfl hb182 (.s 24 rfl (.s 38 rfl .nil)) (q_pickT rfl hb183).o <| wq rfl rfl rfl hb178 (.s 21 rfl (.s 39 rfl .nil)) (q_pickF rfl hb182).o <| p2 rfl 14 rfl 40 rfl (q_pickT rfl hb178) <| WL.nil ?_
      exact QN.weaken (.o4 rfl (.one rfl (.nil _))) (Kj174 () true h)
     ·refine wm rfl rfl rfl hb187 rfl rfl <| wm rfl rfl rfl hb187 rfl rfl <| wm rfl rfl rfl hb187 rfl rfl ?_
      obtain ⟨c188, h⟩ := ite_n h
      refine wq rfl rfl rfl hb187 (.s 33 rfl (.s 34 rfl .nil)) (q_addR rfl c188).o ?_
      obtain ⟨c189, h⟩ := ite_n h
      refine wq rfl rfl rfl hb187 (.s 32 rfl (.s 35 rfl .nil)) (q_sindex rfl iss9 c189.1 c189.2).o <| wq rfl rfl rfl hb187 (.s 36 rfl (.k .nil)) (q_int rfl rfl).o <| wq rfl rfl rfl hb183 (.s 31 rfl (.s 37 rfl .nil)) (q_pickF rfl hb187).o <| wq rfl rfl rfl hb182 (.s 24 rfl (.s 38 rfl .nil)) (q_pickT rfl hb183).o <| wq rfl rfl rfl hb178 (.s 21 rfl (.s 39 rfl .nil)) (q_pickF rfl hb182).o <| p2 rfl 14 rfl 40 rfl (q_pickT rfl hb178) <| WL.nil ?_
      exact QN.weaken (.o4 rfl (.one rfl (.nil _))) (Kj174 () ((bt a0 (a1 + x7)) == 95) h)
    ·refine sk rfl rfl rfl hb183 <| sk rfl rfl rfl hb183 <| sk rfl rfl rfl hb183 <| sk rfl rfl rfl hb183 <| sk rfl rfl rfl hb183 <| sk rfl rfl rfl hb183 <| sk rfl rfl rfl hb183 <| su rfl rfl rfl <| su rfl rfl rfl <| su rfl rfl rfl <| su rfl rfl rfl <| su rfl rfl rfl <| su rfl rfl rfl ?_
     refine sk rfl rfl rfl hb183 <| wq rfl rfl rfl hb182 (.s 24 rfl (.k .nil)) (q_pickF rfl hb183).o <| wq rfl rfl rfl hb178 (.s 21 rfl (.s 39 rfl .nil)) (q_pickF rfl hb182).o <| p2 rfl 14 rfl 40 rfl (q_pickT rfl hb178) <| WL.nil ?_
     exact QN.weaken (.o4 rfl (.one rfl (.nil _))) (Kj174 () false h)
  ·refine sk rfl rfl rfl hb178 <| sk rfl rfl rfl hb178 <| sk rfl rfl rfl hb178 <| sk rfl rfl rfl hb178 <| sk rfl rfl rfl hb178 <| sk rfl rfl rfl hb178 <| sk rfl rfl rfl hb178 <| su rfl rfl rfl <| su rfl rfl rfl <| su rfl rfl rfl <| su rfl rfl rfl <| su rfl rfl rfl <| su rfl rfl rfl ?_
   refine su rfl rfl rfl <| su rfl rfl rfl <| su rfl rfl rfl <| su rfl rfl rfl <| su rfl rfl rfl <| su rfl rfl rfl <| su rfl rfl rfl <| su rfl rfl rfl <| su rfl rfl rfl <| su rfl rfl rfl <| su rfl rfl rfl <| su rfl rfl rfl <| sk rfl rfl rfl hb178 ?_
   refine pk rfl 14 rfl (q_pickF rfl hb178) <| WL.nil ?_
   exact QN.weaken (.o4 rfl (.one rfl (.nil _))) (Kj174 () false h)
theorem ref01_quoted.con (k : Nat) (a0 : Str) (a1 : Int) (r : Int) (h : ref01_quoted k a0 a1 = some r) : Con Tryz.prog 185 [] [EqA (strV a0), iA a1] (RA (iA r)) := by
 unfold ref01_quoted at h
 refine Con.of (N := 30) Tryz.func185 rfl rfl rfl fun w0_ fg_ => sr <| ak rfl <| nt <| W.seq <| sr <| ak rfl <| nt <| W.block ?_
 refine W.loop1 (Γ := Unit) (fun (_ : Unit) (x5 : Int) => [(0, EqA (strV a0)), (1, iA a1), (5, iA x5)]) (fun (_ : Unit) (_ : Int) => []) h () (.o2 rfl (.one rfl (.nil _))) rfl (fun rec0 K0 next0 _ x5 h => ?_)
 unfold ref01_quoted.b0 at h
 refine W.seq <| sr <| mv rfl rfl <| mv rfl rfl ?_
 obtain ⟨c124, h⟩ := ite_n h
 refine p2 rfl 7 rfl 8 rfl (q_addR rfl c124) <| mv rfl rfl <| p1 rfl 10 rfl (q_slen (s := a0) rfl iss9) <| p2 rfl 9 rfl 11 rfl (q_int rfl rfl) <| nt ?_
 refine W.condP h rfl (fun hb125 h => ?_) (fun hb125 h => ?_)
 ·refine W.skip <| QN.then_ <| W.seq <| W.block <| sr <| mv rfl rfl <| mv rfl rfl <| mv rfl rfl ?_
  obtain ⟨c126, h⟩ := ite_n h
  refine p2 rfl 16 rfl 17 rfl (q_addR rfl c126) ?_
  obtain ⟨c127, h⟩ := ite_n h
  refine p2 rfl 15 rfl 18 rfl (q_sindex rfl iss9 c127.1 c127.2) <| av rfl rfl <| WL.nil <| QN.weaken (env' := [(6, _), (5, _), (1, _), (0, _)]) (.o4 rfl (.nil _)) <| QN.then_ <| W.seq <| sr <| mv rfl rfl <| pk rfl 20 rfl (q_int rfl rfl) <| nt ?_
  refine W.condP h rfl (fun hb128 h => ?_) (fun hb128 h => ?_)
  ·refine sr <| mv rfl rfl ?_
   obtain ⟨c129, h⟩ := ite_n h
   refine pk rfl 22 rfl (q_addR rfl c129) <| av rfl rfl <| WL.nil <| QN.weaken (env' := [(4, _)]) (.one rfl (.nil _)) <| QN.then_ <| W.ret <| QR.then_ <| QR.block <| QR.then_ <| QR.then_ <| QR.block <| QR.then_ ?_
   cases h
   exact QR.f1 rfl rfl (.t rfl) (.id _)
  ·refine W.skip <| QN.then_ <| W.seq ?_
   refine W.jn1 (Γ := Unit) (fun (_ : Unit) (x29 : Bool) => [(0, EqA (strV a0)), (1, iA a1), (5, iA x5), (29, bA x29)]) (fun (_ : Unit) (_ : Bool) => []) h (fun _ x29 h => ?_) (fun j132 Kj132 h => ?_)
   ·refine QN.then_ ?_
    refine W.condP h rfl (fun hb133 h => ?_) (fun hb133 h => ?_)
    ·refine sr <| ak rfl <| nt <| W.ret <| QR.block <| QR.then_ <| QR.then_ <| QR.block <| QR.then_ ?_
     cases h
     exact QR.f1 rfl rfl (.t rfl) (.id _)
    ·refine W.skip <| QN.block <| QN.then_ <| W.region <| mv rfl rfl ?_
     obtain ⟨c134, h⟩ := ite_n h
     refine pk rfl 13 rfl (q_addR rfl c134) <| av rfl rfl <| WL.nil ?_
     exact next0 () (x5 + 1) _ h (.o2 rfl (.one rfl (.nil _)))
   ·refine W.region <| mv rfl rfl <| pk rfl 24 rfl (q_int rfl rfl) <| mv rfl rfl ?_
    rcases bif_s h with ⟨hb135, h⟩ | ⟨hb135, h⟩
    ·refine sk rfl rfl rfl hb135 <| sk rfl rfl rfl hb135 <| pk rfl 26 rfl (q_pickT rfl hb135) <| WL.nil ?_
     exact QN.weaken (.o4 rfl (.nil _)) (Kj132 () true h)
    ·refine wm rfl rfl rfl hb135 rfl rfl <| wq rfl rfl rfl hb135 (.s 27 rfl (.k .nil)) (q_int rfl rfl).o <| p2 rfl 26 rfl 28 rfl (q_pickF rfl hb135) <| WL.nil ?_
     exact QN.weaken (.o4 rfl (.nil _)) (Kj132 () (decide ((bt a0 (a1 + x5)) > 126)) h)
 ·refine W.exit <| QX.then_ <| QX.then_ <| QX.here <| QN.weaken (env' := []) (.nil _) <| QN.then_ <| sr <| ak rfl <| nt <| W.ret ?_
  cases h
  exact QR.f1 rfl rfl (.t rfl) (.id _)
theorem ref01_signs.con (k : Nat) (r : (List Str)) (h : ref01_signs k = some r) : Con Tryz.prog 186 [] [] (RA (SlcA kStr r)) := by
 unfold ref01_signs at h
 refine Con.of (N := 2) Tryz.func186 rfl rfl rfl fun w0_ fg_ => sr <| ak rfl <| nx <| WL.p rfl rfl rfl (.k (.k (.k (.k (.k (.k (.k (.k (.k (.k (.k (.k (.k (.k (.k (.k (.k (.k (.k (.k (.k (.k (.k (.k (.k .nil))))))))))))))))))))))))) (q_lit (kd := kStr) (ps := [(0, .const (.string ⟨#[45, 62]⟩)), (1, .const (.string ⟨#[60, 61]⟩)), (2, .const (.string ⟨#[62, 61]⟩)), (3, .const (.string ⟨#[61, 61]⟩)), (4, .const (.string ⟨#[33, 61]⟩)), (5, .const (.string ⟨#[123]⟩)), (6, .const (.string ⟨#[125]⟩)), (7, .const (.string ⟨#[40]⟩)), (8, .const (.string ⟨#[41]⟩)), (9, .const (.string ⟨#[91]⟩)), (10, .const (.string ⟨#[93]⟩)), (11, .const (.string ⟨#[44]⟩)), (12, .const (.string ⟨#[59]⟩)), (13, .const (.string ⟨#[58]⟩)), (14, .const (.string ⟨#[61]⟩)), (15, .const (.string ⟨#[43]⟩)), (16, .const (.string ⟨#[45]⟩)), (17, .const (.string ⟨#[42]⟩)), (18, .const (.string ⟨#[60]⟩)), (19, .const (.string ⟨#[62]⟩)), (20, .const (.string ⟨#[33]⟩)), (21, .const (.string ⟨#[38]⟩)), (22, .const (.string ⟨#[124]⟩)), (23, .const (.string ⟨#[46]⟩)), (24, .const (.string ⟨#[63]⟩))]) (xs := [.const (.string ⟨#[45, 62]⟩), .const (.string ⟨#[60, 61]⟩), .const (.string ⟨#[62, 61]⟩), .const (.string ⟨#[61, 61]⟩), .const (.string ⟨#[33, 61]⟩), .const (.string ⟨#[123]⟩), .const (.string ⟨#[125]⟩), .const (.string ⟨#[40]⟩), .const (.string ⟨#[41]⟩), .const (.string ⟨#[91]⟩), .const (.string ⟨#[93]⟩), .const (.string ⟨#[44]⟩), .const (.string ⟨#[59]⟩), .const (.string ⟨#[58]⟩), .const (.string ⟨#[61]⟩), .const (.string ⟨#[43]⟩), .const (.string ⟨#[45]⟩), .const (.string ⟨#[42]⟩), .const (.string ⟨#[60]⟩), .const (.string ⟨#[62]⟩), .const (.string ⟨#[33]⟩), .const (.string ⟨#[38]⟩), .const (.string ⟨#[124]⟩), .const (.string ⟨#[46]⟩), .const (.string ⟨#[63]⟩)]) («as» := [EqA (strV ([45, 62] : Str)), EqA (strV ([60, 61] : Str)), EqA (strV ([62, 61] : Str)), EqA (strV ([61, 61] : Str)), EqA (strV ([33, 61] : Str)), EqA (strV ([123] : Str)), EqA (strV ([125] : Str)), EqA (strV ([40] : Str)), EqA (strV ([41] : Str)), EqA (strV ([91] : Str)), EqA (strV ([93] : Str)), EqA (strV ([44] : Str)), EqA (strV ([59] : Str)), EqA (strV ([58] : Str)), EqA (strV ([61] : Str)), EqA (strV ([43] : Str)), EqA (strV ([45] : Str)), EqA (strV ([42] : Str)), EqA (strV ([60] : Str)), EqA (strV ([62] : Str)), EqA (strV ([33] : Str)), EqA (strV ([38] : Str)), EqA (strV ([124] : Str)), EqA (strV ([46] : Str)), EqA (strV ([63] : Str))]) (ys := [([45, 62] : Str), ([60, 61] : Str), ([62, 61] : Str), ([61, 61] : Str), ([33, 61] : Str), ([123] : Str), ([125] : Str), ([40] : Str), ([41] : Str), ([91] : Str), ([93] : Str), ([44] : Str), ([59] : Str), ([58] : Str), ([61] : Str), ([43] : Str), ([45] : Str), ([42] : Str), ([60] : Str), ([62] : Str), ([33] : Str), ([38] : Str), ([124] : Str), ([46] : Str), ([63] : Str)]) rfl rfl el115 rfl gr9 rfl rfl rfl (.cons (CellsOf.one rfl) (.cons (CellsOf.one rfl) (.cons (CellsOf.one rfl) (.cons (CellsOf.one rfl) (.cons (CellsOf.one rfl) (.cons (CellsOf.one rfl) (.cons (CellsOf.one rfl) (.cons (CellsOf.one rfl) (.cons (CellsOf.one rfl) (.cons (CellsOf.one rfl) (.cons (CellsOf.one rfl) (.cons (CellsOf.one rfl) (.cons (CellsOf.one rfl) (.cons (CellsOf.one rfl) (.cons (CellsOf.one rfl) (.cons (CellsOf.one rfl) (.cons (CellsOf.one rfl) (.cons (CellsOf.one rfl) (.cons (CellsOf.one rfl) (.cons (CellsOf.one rfl) (.cons (CellsOf.one rfl) (.cons (CellsOf.one rfl) (.cons (CellsOf.one rfl) (.cons (CellsOf.one rfl) (.cons (CellsOf.one rfl) .nil)))))))))))))))))))))))))) <| av rfl rfl <| nt <| W.ret ?_
 cases h
 exact QR.f1 rfl rfl (.t rfl) (.id _)
theorem ref01_one.con (k : Nat) (a0 : Str) (a1 : Int) (r : (Token × Int × Int)) (h : ref01_one k a0 a1 = some r) : Con Tryz.prog 170 [] [EqA (strV a0), iA a1] (RA (TupA [AggA [iA r.1.fKind, EqA (strV r.1.fText), iA r.1.fLine], iA r.2.1, iA r.2.2])) := by
 unfold ref01_one at h
 refine Con.of (N := 110) Tryz.func170 rfl rfl rfl fun w0_ fg_ => sr <| WL.w [] rfl (Wanted.plain rfl) rfl rfl .nil (w_alloc rfl z185 (l := [iA 0, EqA (strV ([] : Str)), iA 0]) rfl) ?_
 rintro _ _ ⟨b100, rfl, rfl⟩
 refine ak rfl <| ak rfl <| nx <| mv rfl rfl <| mv rfl rfl ?_
 obtain ⟨c101, h⟩ := ite_n h
 refine p2 rfl 14 rfl 15 rfl (q_sindex rfl iss9 c101.1 c101.2) <| av rfl rfl <| nt <| W.seq <| W.seq ?_
 refine W.jn1 (Γ := Unit) (fun (_ : Unit) (x22 : Bool) => [(0, EqA (strV a0)), (1, iA a1), (4, EqA (.pointer (some ⟨b100, 0, none⟩))), (7, EqA (.int .u8 (bt a0 a1))), (22, bA x22)]) (fun (_ : Unit) (_ : Bool) => [BoxE b100 [iA 0, EqA (strV ([] : Str)), iA 0]]) h (fun _ x22 h => ?_) (fun j106 Kj106 h => ?_)
 ·refine QN.then_ ?_
  refine W.condP h rfl (fun hb107 h => ?_) (fun hb107 h => ?_)
  ·refine sr <| mv rfl rfl <| mv rfl rfl <| mv rfl rfl ?_
   obtain ⟨t108, ht108, h⟩ := bind_s h
   refine p1 rfl 25 rfl (q_call (f := 183) (A := bA t108) (xs := [.tmp 25]) («as» := [EqA (.int .u8 (bt a0 a1))]) rfl ca183 (ref01_digit.con k (bt a0 a1) t108 ht108) rfl) ?_
   obtain ⟨t109, ht109, h⟩ := bind_s h
   refine WL.p rfl rfl rfl (.s 23 rfl (.s 24 rfl (.s 26 rfl .nil))) (q_call (f := 184) (A := iA t109) (xs := [.tmp 23, .tmp 24, .tmp 26]) («as» := [EqA (strV a0), iA a1, bA t108]) rfl ca184 (ref01_run.con k a0 a1 t108 t109 ht109) rfl) <| av rfl rfl <| nx <| ak rfl <| ak rfl <| nt <| W.seq <| sr ?_
   refine mv rfl rfl ?_
   obtain ⟨t110, ht110, h⟩ := bind_s h
   refine p1 rfl 28 rfl (q_call (f := 183) (A := bA t110) (xs := [.tmp 28]) («as» := [EqA (.int .u8 (bt a0 a1))]) rfl ca183 (ref01_digit.con k (bt a0 a1) t110 ht110) rfl) <| WL.nil <| QN.weaken (env' := [(29, _), (10, _), (9, _), (8, _), (4, _), (1, _), (0, _)]) (.o4 rfl (.o2 rfl (.one rfl (.nil _)))) <| QN.then_ ?_
   refine W.jn2 (Γ := Unit) (fun (_ : Unit) (x9 : Int) (x10 : Int) => [(0, EqA (strV a0)), (1, iA a1), (4, EqA (.pointer (some ⟨b100, 0, none⟩))), (8, iA t109), (9, iA x9), (10, iA x10)]) (fun (_ : Unit) (_ : Int) (_ : Int) => [BoxE b100 [iA 0, EqA (strV ([] : Str)), iA 0]]) h (fun _ x9 x10 h => ?_) (fun j113 Kj113 h => ?_)
   ·refine QN.then_ <| W.seq <| sr <| mv rfl rfl <| mv rfl rfl <| p2 rfl 30 rfl 31 rfl (q_int rfl rfl) <| nt ?_
    refine W.condP h rfl (fun hb114 h => ?_) (fun hb114 h => ?_)
    ·refine sr <| WL.p rfl rfl rfl .nil (q_build (is := []) (xs := []) (L := [iA 0, EqA (strV ([] : Str)), iA 0]) rfl rfl z185 pl185 rfl rfl .nil rfl) <| WL.w0 [0] rfl (Wanted.plain rfl) rfl (.s 4 rfl (.s 33 rfl .nil)) (w_store (L := [iA 0, EqA (strV ([] : Str)), iA 0]) rfl sh185 (CellsOf.agg _) rfl rfl (leB rfl) rfl) ?_
     rintro _ _ ⟨rfl, rfl⟩
     refine ak rfl <| ak rfl <| WL.nil <| QN.weaken (env' := [(6, _), (5, _), (4, _)]) (.o2 rfl (.one rfl (.nil _))) <| QN.then_ <| W.ret <| QR.then_ <| QR.then_ ?_
     cases h
     exact QR.f3 rfl rfl (.cs (i := 0) rfl sh185 rfl rfl) (.t rfl) (.t rfl) (.id _)
    ·refine W.skip <| QN.then_ <| sr <| mv rfl rfl <| mv rfl rfl <| mv rfl rfl <| mv rfl rfl <| mv rfl rfl ?_
     obtain ⟨c115, h⟩ := ite_n h
     refine p2 rfl 37 rfl 38 rfl (q_addR rfl c115) ?_
     obtain ⟨c116, h⟩ := ite_n h
     refine WL.p rfl rfl rfl (.s 35 rfl (.s 36 rfl (.s 39 rfl .nil))) (q_ssubLH rfl iss9 c116.1 c116.2.1 c116.2.2) <| p2 rfl 34 rfl 40 rfl (q_build (is := [0, 1]) (xs := [.tmp 34, .tmp 40]) (L := [iA x9, EqA (strV ((a0.take ((a1 + t109) : Int).toNat).drop (a1 : Int).toNat)), iA 0]) rfl rfl z185 pl185 rfl rfl (.cons (CellsOf.one rfl) (.cons (CellsOf.one rfl) .nil)) rfl) <| mv rfl rfl <| WL.w0 [0] rfl (Wanted.plain rfl) rfl (.s 4 rfl (.s 41 rfl .nil)) (w_store (L := [iA x9, EqA (strV ((a0.take ((a1 + t109) : Int).toNat).drop (a1 : Int).toNat)), iA 0]) rfl sh185 (CellsOf.agg _) rfl rfl (leB rfl) rfl) ?_
     rintro _ _ ⟨rfl, rfl⟩
     refine av rfl rfl <| ak rfl <| WL.nil <| QN.weaken (env' := [(6, _), (5, _), (4, _)]) (.o2 rfl (.one rfl (.nil _))) <| QN.then_ <| W.ret <| QR.then_ ?_
     cases h
     exact QR.f3 rfl rfl (.cs (i := 0) rfl sh185 rfl rfl) (.t rfl) (.t rfl) (.id _)
   ·refine W.condP h rfl (fun hb117 h => ?_) (fun hb117 h => ?_)
    ·refine W.region <| ak rfl <| ak rfl <| WL.nil ?_
     exact QN.weaken (.o4 rfl (.o2 rfl (.nil _))) (Kj113 () 2 9 h)
    ·refine W.skip ?_
     exact QN.weaken (.o4 rfl (.o2 rfl (.nil _))) (Kj113 () 1 20 h)
  ·refine W.skip <| QN.then_ <| W.seq <| sr <| mv rfl rfl <| pk rfl 43 rfl (q_int rfl rfl) <| nt ?_
   refine W.condP h rfl (fun hb118 h => ?_) (fun hb118 h => ?_)
   ·refine sr <| mv rfl rfl <| mv rfl rfl ?_
    obtain ⟨t119, ht119, h⟩ := bind_s h
    refine p2 rfl 45 rfl 46 rfl (q_call (f := 185) (A := iA t119) (xs := [.tmp 45, .tmp 46]) («as» := [EqA (strV a0), iA a1]) rfl ca185 (ref01_quoted.con k a0 a1 t119 ht119) rfl) <| av rfl rfl <| WL.nil <| QN.weaken (env' := [(11, _), (4, _), (1, _), (0, _)]) (.o4 rfl (.nil _)) <| QN.then_ <| W.seq <| sr <| mv rfl rfl <| pk rfl 48 rfl (q_int rfl rfl) <| nt ?_
    refine W.condP h rfl (fun hb120 h => ?_) (fun hb120 h => ?_)
    ·refine sr <| WL.p rfl rfl rfl .nil (q_build (is := []) (xs := []) (L := [iA 0, EqA (strV ([] : Str)), iA 0]) rfl rfl z185 pl185 rfl rfl .nil rfl) <| WL.w0 [0] rfl (Wanted.plain rfl) rfl (.s 4 rfl (.s 50 rfl .nil)) (w_store (L := [iA 0, EqA (strV ([] : Str)), iA 0]) rfl sh185 (CellsOf.agg _) rfl rfl (leB rfl) rfl) ?_
     rintro _ _ ⟨rfl, rfl⟩
     refine ak rfl <| ak rfl <| nt <| W.ret <| QR.then_ <| QR.then_ ?_
     cases h
     exact QR.f3 rfl rfl (.cs (i := 0) rfl sh185 rfl rfl) (.t rfl) (.t rfl) (.id _)
    ·refine W.skip <| QN.then_ <| W.seq <| sr <| mv rfl rfl ?_
     obtain ⟨c121, h⟩ := ite_n h
     refine pk rfl 51 rfl (q_subR rfl c121) <| pk rfl 52 rfl (q_int rfl rfl) <| nt ?_
     refine W.condP h rfl (fun hb122 h => ?_) (fun hb122 h => ?_)
     ·refine sr <| WL.p rfl rfl rfl .nil (q_build (is := []) (xs := []) (L := [iA 0, EqA (strV ([] : Str)), iA 0]) rfl rfl z185 pl185 rfl rfl .nil rfl) <| WL.w0 [0] rfl (Wanted.plain rfl) rfl (.s 4 rfl (.s 54 rfl .nil)) (w_store (L := [iA 0, EqA (strV ([] : Str)), iA 0]) rfl sh185 (CellsOf.agg _) rfl rfl (leB rfl) rfl) ?_
      rintro _ _ ⟨rfl, rfl⟩
      refine ak rfl <| ak rfl <| WL.nil <| QN.weaken (env' := [(6, _), (5, _), (4, _)]) (.o2 rfl (.one rfl (.nil _))) <| QN.then_ <| W.ret <| QR.then_ <| QR.then_ ?_
      cases h
      exact QR.f3 rfl rfl (.cs (i := 0) rfl sh185 rfl rfl) (.t rfl) (.t rfl) (.id _)
     ·refine W.skip <| QN.then_ <| sr <| mv rfl rfl <| mv rfl rfl ?_
      obtain ⟨c123, h⟩ := ite_n h
      refine pk rfl 56 rfl (q_addR rfl c123) <| mv rfl rfl <| mv rfl rfl ?_
      obtain ⟨c124, h⟩ := ite_n h
      refine p2 rfl 58 rfl 59 rfl (q_addR rfl c124) ?_
      obtain ⟨c125, h⟩ := ite_n h
      refine pk rfl 60 rfl (q_subR rfl c125) ?_
      obtain ⟨c126, h⟩ := ite_n h
      refine WL.p rfl rfl rfl (.s 55 rfl (.s 57 rfl (.s 61 rfl .nil))) (q_ssubLH rfl iss9 c126.1 c126.2.1 c126.2.2) <| WL.p rfl rfl rfl (.k (.s 62 rfl .nil)) (q_build (is := [0, 1]) (xs := [.const (.int .i64 3), .tmp 62]) (L := [iA 3, EqA (strV ((a0.take (((a1 + t119) - 1) : Int).toNat).drop ((a1 + 1) : Int).toNat)), iA 0]) rfl rfl z185 pl185 rfl rfl (.cons (CellsOf.one rfl) (.cons (CellsOf.one rfl) .nil)) rfl) <| mv rfl rfl <| WL.w0 [0] rfl (Wanted.plain rfl) rfl (.s 4 rfl (.s 63 rfl .nil)) (w_store (L := [iA 3, EqA (strV ((a0.take (((a1 + t119) - 1) : Int).toNat).drop ((a1 + 1) : Int).toNat)), iA 0]) rfl sh185 (CellsOf.agg _) rfl rfl (leB rfl) rfl) ?_
      rintro _ _ ⟨rfl, rfl⟩
      refine av rfl rfl <| ak rfl <| WL.nil <| QN.weaken (env' := [(6, _), (5, _), (4, _)]) (.o2 rfl (.one rfl (.nil _))) <| QN.then_ <| W.ret <| QR.then_ ?_
      cases h
      exact QR.f3 rfl rfl (.cs (i := 0) rfl sh185 rfl rfl) (.t rfl) (.t rfl) (.id _)
   ·refine W.skip <| QN.then_ <| sr ?_
    obtain ⟨t127, ht127, h⟩ := bind_s h
    refine WL.p rfl rfl rfl .nil (q_call (f := 186) (A := SlcA kStr t127) (xs := []) («as» := []) rfl ca186 (ref01_signs.con k  t127 ht127) rfl) <| av rfl rfl <| nt <| W.seq <| sr <| ak rfl <| nt <| W.block ?_
    refine W.loop1 (Γ := Unit) (fun (_ : Unit) (x13 : Int) => [(0, EqA (strV a0)), (1, iA a1), (4, EqA (.pointer (some ⟨b100, 0, none⟩))), (12, SlcA kStr t127), (13, iA x13)]) (fun (_ : Unit) (_ : Int) => [BoxE b100 [iA 0, EqA (strV ([] : Str)), iA 0]]) h () (.o4 rfl (.one rfl (.nil _))) rfl (fun rec0 K0 next0 _ x13 h => ?_)
    unfold ref01_one.b0 at h
    refine W.seq <| sr <| mv rfl rfl <| mv rfl rfl <| p1 rfl 67 rfl (q_len rfl elS115) <| p2 rfl 66 rfl 68 rfl (q_int rfl rfl) <| nt ?_
    refine W.condP h rfl (fun hb192 h => ?_) (fun hb192 h => ?_)
    ·refine W.skip <| QN.then_ <| W.seq <| W.block <| W.seq ?_
     refine W.jn1 (Γ := Unit) (fun (_ : Unit) (x98 : Bool) => [(0, EqA (strV a0)), (1, iA a1), (4, EqA (.pointer (some ⟨b100, 0, none⟩))), (12, SlcA kStr t127), (13, iA x13), (98, bA x98)]) (fun (_ : Unit) (_ : Bool) => [BoxE b100 [iA 0, EqA (strV ([] : Str)), iA 0]]) h (fun _ x98 h => ?_) (fun j208 Kj208 h => ?_)
     ·refine QN.then_ ?_
      refine W.condP h rfl (fun hb209 h => ?_) (fun hb209 h => ?_)
      ·refine W.seq <| W.drawK [(0, false), (1, false), (2, false), (3, false), (4, false), (5, false), (6, false), (7, false), (8, false), (9, false)] [10, 11, 12] (bm [0, 0, 3, 7, 15, 0, 0, 96, 224, 480, 31, 2047, 4095]) mx (by kernel_rfl) <| dm rfl rfl rfl <| dm rfl rfl rfl ?_
       obtain ⟨c214, h⟩ := ite_n h
       refine DK.cons rfl rfl (.p rfl (.s 99 rfl (.s 100 rfl .nil)) rfl (q_index rfl el115 rfl c214.1 c214.2)) <| dl rfl rfl rfl sh9 <| DK.cons rfl rfl (.p rfl (.k (.s 102 rfl .nil)) rfl (q_build (is := [0, 1]) (xs := [.const (.int .i64 4), .tmp 102]) (L := [iA 4, EqA (strV (rd t127 x13)), iA 0]) rfl rfl z185 pl185 rfl rfl (.cons (CellsOf.one rfl) (.cons (CellsOf.one rfl) .nil)) rfl)) <| dm rfl rfl rfl <| dm rfl rfl rfl ?_
       obtain ⟨c215, h⟩ := ite_n h
       refine DK.cons rfl rfl (.p rfl (.s 104 rfl (.s 105 rfl .nil)) rfl (q_index rfl el115 rfl c215.1 c215.2)) <| dl rfl rfl rfl sh9 <| DK.cons rfl rfl (.p rfl (.s 107 rfl .nil) rfl (q_slen (s := (rd t127 x13)) rfl iss9)) <| DK.nil <| CSteps.w0 [0] rfl rfl rfl (.s 4 rfl (.s 103 rfl .nil)) rfl (w_store (L := [iA 4, EqA (strV (rd t127 x13)), iA 0]) rfl sh185 (CellsOf.agg _) rfl rfl (leB rfl) rfl) ?_
       rintro _ _ ⟨rfl, rfl⟩
       refine CSteps.p rfl rfl rfl (.s 108 rfl .nil) rfl (q_assign rfl) <| CSteps.p rfl rfl rfl (.k .nil) rfl (q_assign rfl) <| CSteps.nil <| QN.weaken (env' := [(6, _), (5, _), (4, _)]) (.o2 rfl (.one rfl (.nil _))) <| QN.then_ <| W.ret <| QR.block <| QR.then_ <| QR.then_ <| QR.block <| QR.then_ ?_
       cases h
       exact QR.f3 rfl rfl (.cs (i := 0) rfl sh185 rfl rfl) (.t rfl) (.t rfl) (.id _)
      ·refine W.skip <| QN.block <| QN.then_ <| W.region <| mv rfl rfl ?_
       obtain ⟨c216, h⟩ := ite_n h
       refine pk rfl 70 rfl (q_addR rfl c216) <| av rfl rfl <| WL.nil ?_
       exact next0 () (x13 + 1) _ h (.o4 rfl (.one rfl (.nil _)))
     ·refine W.drawK [(0, false), (1, false), (2, false), (3, false), (4, false), (5, false), (6, false), (7, false), (8, false), (9, false), (10, false), (11, false), (12, false), (13, false), (14, false), (15, false), (16, false), (17, false), (18, false), (19, false), (20, false), (21, false), (22, false), (23, false), (24, false), (25, false), (26, false)] [] (bm [0, 0, 0, 6, 14, 30, 63, 0, 128, 511, 1023, 2047, 2047, 2047, 2047, 2047, 51199, 116735, 247807, 518143, 1048575, 2047, 2047, 6293503, 14682111, 33554431, 67108863]) mx (by kernel_rfl) <| dm rfl rfl rfl <| dm rfl rfl rfl <| dm rfl rfl rfl ?_
      obtain ⟨c217, h⟩ := ite_n h
      refine DK.cons rfl rfl (.p rfl (.s 73 rfl (.s 74 rfl .nil)) rfl (q_index rfl el115 rfl c217.1 c217.2)) <| dl rfl rfl rfl sh9 <| DK.cons rfl rfl (.p rfl (.s 76 rfl .nil) rfl (q_slen (s := (rd t127 x13)) rfl iss9)) ?_
      obtain ⟨c218, h⟩ := ite_n h
      refine DK.cons rfl rfl (.p rfl (.s 72 rfl (.s 77 rfl .nil)) rfl (q_addR rfl c218)) <| dm rfl rfl rfl <| DK.cons rfl rfl (.p rfl (.s 79 rfl .nil) rfl (q_slen (s := a0) rfl iss9)) <| DK.cons rfl rfl (.p rfl (.s 78 rfl (.s 80 rfl .nil)) rfl (q_int rfl rfl)) <| dm rfl rfl rfl ?_
      rcases bif_s h with ⟨hb219, h⟩ | ⟨hb219, h⟩
      ·refine DK.cons rfl rfl (.gp rfl rfl rfl hb219 (.s 0 rfl .nil) rfl (q_move rfl)) <| DK.cons rfl rfl (.gp rfl rfl rfl hb219 (.s 1 rfl .nil) rfl (q_move rfl)) <| DK.cons rfl rfl (.gp rfl rfl rfl hb219 (.s 1 rfl .nil) rfl (q_move rfl)) <| DK.cons rfl rfl (.gp rfl rfl rfl hb219 (.s 12 rfl .nil) rfl (q_move rfl)) <| DK.cons rfl rfl (.gp rfl rfl rfl hb219 (.s 13 rfl .nil) rfl (q_move rfl)) ?_
       obtain ⟨c220, h⟩ := ite_n h
       refine DK.cons rfl rfl (.gp rfl rfl rfl hb219 (.s 86 rfl (.s 87 rfl .nil)) rfl (q_index rfl el115 rfl c220.1 c220.2)) <| DK.cons rfl rfl (.gp rfl rfl rfl hb219 (.s 88 rfl .nil) rfl (q_load rfl sh9)) <| DK.cons rfl rfl (.gp rfl rfl rfl hb219 (.s 89 rfl .nil) rfl (q_slen (s := (rd t127 x13)) rfl iss9)) ?_
       obtain ⟨c221, h⟩ := ite_n h
       refine DK.cons rfl rfl (.gp rfl rfl rfl hb219 (.s 85 rfl (.s 90 rfl .nil)) rfl (q_addR rfl c221)) ?_
       obtain ⟨c222, h⟩ := ite_n h
       refine DK.cons rfl rfl (.gp rfl rfl rfl hb219 (.s 83 rfl (.s 84 rfl (.s 91 rfl .nil))) rfl (q_ssubLH rfl iss9 c222.1 c222.2.1 c222.2.2)) <| DK.cons rfl rfl (.gp rfl rfl rfl hb219 (.s 12 rfl .nil) rfl (q_move rfl)) <| DK.cons rfl rfl (.gp rfl rfl rfl hb219 (.s 13 rfl .nil) rfl (q_move rfl)) ?_
       obtain ⟨c223, h⟩ := ite_n h
       refine DK.cons rfl rfl (.gp rfl rfl rfl hb219 (.s 93 rfl (.s 94 rfl .nil)) rfl (q_index rfl el115 rfl c223.1 c223.2)) <| DK.cons rfl rfl (.gp rfl rfl rfl hb219 (.s 95 rfl .nil) rfl (q_load rfl sh9)) <| DK.cons rfl rfl (.gp rfl rfl rfl hb219 (.s 92 rfl (.s 96 rfl .nil)) rfl (q_str (s := ((a0.take ((a1 + ((rd t127 x13).length : Int)) : Int).toNat).drop (a1 : Int).toNat)) (t := (rd t127 x13)) rfl)) <| DK.cons rfl rfl (.p rfl (.s 82 rfl (.s 97 rfl .nil)) rfl (q_pickT rfl hb219)) <| DK.nil <| CSteps.nil ?_
       exact QN.weaken (.o4 rfl (.o2 rfl (.nil _))) (Kj208 () (((a0.take ((a1 + ((rd t127 x13).length : Int)) : Int).toNat).drop (a1 : Int).toNat) == (rd t127 x13)) h)
      ·refine dx rfl rfl rfl hb219 <| dx rfl rfl rfl hb219 <| dx rfl rfl rfl hb219 <| dx rfl rfl rfl hb219 <| dx rfl rfl rfl hb219 <| dx rfl rfl rfl hb219 <| dx rfl rfl rfl hb219 <| dx rfl rfl rfl hb219 <| dx rfl rfl rfl hb219 <| dx rfl rfl rfl hb219 <| dx rfl rfl rfl hb219 <| dx rfl rfl rfl hb219 <| dx rfl rfl rfl hb219 ?_
       refine dx rfl rfl rfl hb219 <| dx rfl rfl rfl hb219 <| DK.cons rfl rfl (.p rfl (.s 82 rfl (.k .nil)) rfl (q_pickF rfl hb219)) <| DK.nil <| CSteps.nil ?_
       exact QN.weaken (.o4 rfl (.o2 rfl (.nil _))) (Kj208 () false h)
    ·refine W.exit <| QX.then_ <| QX.then_ <| QX.here <| QN.weaken (env' := [(4, _)]) (.one rfl (.nil _)) <| QN.then_ <| sr <| WL.p rfl rfl rfl .nil (q_build (is := []) (xs := []) (L := [iA 0, EqA (strV ([] : Str)), iA 0]) rfl rfl z185 pl185 rfl rfl .nil rfl) <| WL.w0 [0] rfl (Wanted.plain rfl) rfl (.s 4 rfl (.s 109 rfl .nil)) (w_store (L := [iA 0, EqA (strV ([] : Str)), iA 0]) rfl sh185 (CellsOf.agg _) rfl rfl (leB rfl) rfl) ?_
     rintro _ _ ⟨rfl, rfl⟩
     refine ak rfl <| ak rfl <| nt <| W.ret ?_
     cases h
     exact QR.f3 rfl rfl (.cs (i := 0) rfl sh185 rfl rfl) (.t rfl) (.t rfl) (.id _)
 ·refine W.region <| mv rfl rfl ?_
  obtain ⟨t224, ht224, h⟩ := bind_s h
  refine p1 rfl 17 rfl (q_call (f := 182) (A := bA t224) (xs := [.tmp 17]) («as» := [EqA (.int .u8 (bt a0 a1))]) rfl ca182 (ref01_letter.con k (bt a0 a1) t224 ht224) rfl) <| mv rfl rfl ?_
  rcases bif_s h with ⟨hb225, h⟩ | ⟨hb225, h⟩
  ·refine sk rfl rfl rfl hb225 <| sk rfl rfl rfl hb225 <| pk rfl 19 rfl (q_pickT rfl hb225) <| WL.nil ?_
   exact QN.weaken (.o4 rfl (.one rfl (.nil _))) (Kj106 () true h)
  ·refine wm rfl rfl rfl hb225 rfl rfl ?_
   obtain ⟨t226, ht226, h⟩ := bind_s h
   refine wq rfl rfl rfl hb225 (.s 20 rfl .nil) (q_call (f := 183) (A := bA t226) (xs := [.tmp 20]) («as» := [EqA (.int .u8 (bt a0 a1))]) rfl ca183 (ref01_digit.con k (bt a0 a1) t226 ht226) rfl).o <| p2 rfl 19 rfl 21 rfl (q_pickF rfl hb225) <| WL.nil ?_
   exact QN.weaken (.o4 rfl (.one rfl (.nil _))) (Kj106 () t226 h)
end Go.Proofs.YthmdmchmmgmblaaGreat
