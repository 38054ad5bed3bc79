/- The Go functions compute the pure ones. (Printed by gen.py.) -/
import Derived.Test.YthmdmchmmgmblaaGreatCaC6
namespace Go.Proofs.YthmdmchmmgmblaaGreat
open Go Go.Abs
attribute [local irreducible] Tryz.prog
theorem ref04_bound.con (k : Nat) (a0 : Int) (a1 : Int) (r : Bool) (h : ref04_bound k a0 a1 = some r) : Con Tryz.prog 139 [] [iA a0, iA a1] (RA (bA r)) := by
 unfold ref04_bound at h
 refine Con.of (N := 16) Tryz.func139 rfl rfl rfl fun w0_ fg_ => sr <| ak rfl <| nt <| W.seq ?_
 refine W.jn1 (Γ := Unit) (fun (_ : Unit) (x4 : Bool) => [(4, bA x4)]) (fun (_ : Unit) (_ : Bool) => []) h (fun _ x4 h => ?_) (fun j105 Kj105 h => ?_)
 ·refine QN.then_ <| W.ret ?_
  cases h
  exact QR.f1 rfl rfl (.t rfl) (.id _)
 ·refine W.region <| mv rfl rfl ?_
  obtain ⟨t106, ht106, h⟩ := bind_s h
  refine WL.p rfl rfl rfl (.s 5 rfl (.k (.k .nil))) (q_call (f := 101) (A := bA t106) (xs := [.tmp 5, .const (.int .i64 0), .const (.int .i64 40)]) («as» := [iA a0, iA 0, iA 40]) rfl ca101 (ref04_in.con k a0 0 40 t106 ht106) rfl) <| mv rfl rfl ?_
  rcases bif_s h with ⟨hb107, h⟩ | ⟨hb107, h⟩
  ·refine wm rfl rfl rfl hb107 rfl rfl <| wq rfl rfl rfl hb107 (.s 8 rfl (.k .nil)) (q_int rfl rfl).o <| wm rfl rfl rfl hb107 rfl rfl ?_
   rcases bif_s h with ⟨hb108, h⟩ | ⟨hb108, h⟩
   ·refine sk rfl rfl rfl hb108 <| sk rfl rfl rfl hb108 <| sk rfl rfl rfl hb108 <| wq rfl rfl rfl hb107 (.s 10 rfl (.k .nil)) (q_pickT rfl hb108).o <| p2 rfl 7 rfl 14 rfl (q_pickT rfl hb107) <| av rfl rfl <| WL.nil ?_
    exact QN.weaken (.one rfl (.nil _)) (Kj105 () true h)
   ·refine wm rfl rfl rfl hb108 rfl rfl <| wm rfl rfl rfl hb108 rfl rfl ?_
    obtain ⟨t109, ht109, h⟩ := bind_s h
    refine wq rfl rfl rfl hb108 (.s 11 rfl (.s 12 rfl (.k .nil))) (q_call (f := 101) (A := bA t109) (xs := [.tmp 11, .tmp 12, .const (.int .i64 40)]) («as» := [iA a1, iA a0, iA 40]) rfl ca101 (ref04_in.con k a1 a0 40 t109 ht109) rfl).o <| wq rfl rfl rfl hb107 (.s 10 rfl (.s 13 rfl .nil)) (q_pickF rfl hb108).o <| p2 rfl 7 rfl 14 rfl (q_pickT rfl hb107) <| av rfl rfl <| WL.nil ?_
    exact QN.weaken (.one rfl (.nil _)) (Kj105 () t109 h)
  ·refine sk rfl rfl rfl hb107 <| sk rfl rfl rfl hb107 <| sk rfl rfl rfl hb107 <| su rfl rfl rfl <| su rfl rfl rfl <| su rfl rfl rfl <| sk rfl rfl rfl hb107 <| pk rfl 7 rfl (q_pickF rfl hb107) <| av rfl rfl <| WL.nil ?_
   exact QN.weaken (.one rfl (.nil _)) (Kj105 () false h)
theorem ref04_edge.con (k : Nat) (a0 : Types) (a1 : Int) (r : Int) (h : ref04_edge k a0 a1 = some r) : Con Tryz.prog 97 [] [AggA [SlcA kNodeType a0.fNodes, SlcA kEdgeType a0.fEdges], iA a1] (RA (iA r)) := by
 unfold ref04_edge at h
 refine Con.of (N := 63) Tryz.func97 rfl rfl rfl fun w0_ fg_ => sr <| p1 rfl 0 rfl (q_box rfl (CellsOf.agg _)) <| ak rfl <| nx <| fd rfl rfl fo25_1 rfl <| ld rfl rfl sh23 <| mv rfl rfl ?_
 obtain ⟨c100, h⟩ := ite_n h
 refine p2 rfl 9 rfl 10 rfl (q_index rfl el23 rfl c100.1 c100.2) <| lS rfl rfl sh60 rfl rfl <| WL.w [] rfl (Wanted.plain rfl) rfl rfl .nil (w_alloc rfl z60 (l := [EqA (strV ([] : Str)), iA 0, iA 0, iA 0, iA 0, iA 0, iA 0]) rfl) ?_
 rintro _ _ ⟨b101, rfl, rfl⟩
 refine WL.w0 [0] rfl (Wanted.plain rfl) rfl (.s 5 rfl (.s 12 rfl .nil)) (w_store (L := [EqA (strV ((rd a0.fEdges a1).fName)), iA ((rd a0.fEdges a1).fFrom), iA ((rd a0.fEdges a1).fTo), iA ((rd a0.fEdges a1).fOutLow), iA ((rd a0.fEdges a1).fOutHigh), iA ((rd a0.fEdges a1).fInLow), iA ((rd a0.fEdges a1).fInHigh)]) rfl sh60 (CellsOf.agg _) rfl rfl (leB rfl) rfl) ?_
 rintro _ _ ⟨rfl, rfl⟩
 refine WL.nil <| QN.to (StTo.still [0] 5 rfl rfl) <| QN.weaken (env' := [(5, _), (2, _), (1, _)]) (.o2 rfl (.one rfl (.nil _))) <| QN.then_ <| W.seq <| sr <| fd rfl rfl fo60_0 rfl <| ld rfl rfl sh9 ?_
 obtain ⟨t102, ht102, h⟩ := bind_s h
 refine p1 rfl 14 rfl (q_call (f := 137) (A := bA t102) (xs := [.tmp 14]) («as» := [EqA (strV ((rd a0.fEdges a1).fName))]) rfl ca137 (ref01_IsName.con k ((rd a0.fEdges a1).fName) t102 ht102) rfl) <| p1 rfl 15 rfl (q_not rfl) <| nt ?_
 refine W.condP h rfl (fun hb103 h => ?_) (fun hb103 h => ?_)
 ·refine sr <| ak rfl <| WL.nil <| QN.weaken (env' := [(4, _)]) (.one rfl (.nil _)) <| QN.then_ <| W.ret <| QR.then_ ?_
  cases h
  exact QR.f1 rfl rfl (.t rfl) (.id _)
 ·refine W.skip <| QN.then_ <| W.seq <| sr <| ak rfl <| nt <| W.block ?_
  refine W.loop1 (Γ := Unit) (fun (_ : Unit) (x6 : Int) => [(1, iA a1), (2, PtrA [SlcA kNodeType a0.fNodes, SlcA kEdgeType a0.fEdges]), (5, PtrA [EqA (strV ((rd a0.fEdges a1).fName)), iA ((rd a0.fEdges a1).fFrom), iA ((rd a0.fEdges a1).fTo), iA ((rd a0.fEdges a1).fOutLow), iA ((rd a0.fEdges a1).fOutHigh), iA ((rd a0.fEdges a1).fInLow), iA ((rd a0.fEdges a1).fInHigh)]), (6, iA x6)]) (fun (_ : Unit) (_ : Int) => []) h () (.o4 rfl (.nil _)) rfl (fun rec0 K0 next0 _ x6 h => ?_)
  unfold ref04_edge.b0 at h
  refine W.seq <| sr <| mv rfl rfl <| mv rfl rfl <| p2 rfl 17 rfl 18 rfl (q_int rfl rfl) <| nt ?_
  refine W.condP h rfl (fun hb152 h => ?_) (fun hb152 h => ?_)
  ·refine W.skip <| QN.then_ <| W.seq <| W.block <| W.seq <| W.drawK [(0, false), (1, false), (2, false), (3, false), (4, false), (5, false), (6, false), (7, false), (8, false)] [] (bm [0, 1, 0, 7, 15, 31, 0, 64, 255]) mx (by kernel_rfl) <| df rfl rfl rfl fo25_1 rfl <| dl rfl rfl rfl sh23 <| dm rfl rfl rfl ?_
   obtain ⟨c155, h⟩ := ite_n h
   refine DK.cons rfl rfl (.p rfl (.s 23 rfl (.s 24 rfl .nil)) rfl (q_index rfl el23 rfl c155.1 c155.2)) <| df rfl rfl rfl fo60_0 rfl <| dl rfl rfl rfl sh9 <| df rfl rfl rfl fo60_0 rfl <| dl rfl rfl rfl sh9 <| DK.cons rfl rfl (.p rfl (.s 27 rfl (.s 29 rfl .nil)) rfl (q_str (s := (rd a0.fEdges x6).fName) (t := (rd a0.fEdges a1).fName) rfl)) <| DK.nil <| CSteps.nil <| QN.weaken (env' := [(30, _), (6, _), (5, _), (2, _), (1, _)]) (.o4 rfl (.one rfl (.nil _))) <| QN.then_ ?_
   refine W.condP h rfl (fun hb156 h => ?_) (fun hb156 h => ?_)
   ·refine sr <| ak rfl <| nt <| W.ret <| QR.block <| QR.then_ <| QR.then_ <| QR.block <| QR.then_ ?_
    cases h
    exact QR.f1 rfl rfl (.t rfl) (.id _)
   ·refine W.skip <| QN.block <| QN.then_ <| W.region <| mv rfl rfl ?_
    obtain ⟨c157, h⟩ := ite_n h
    refine pk rfl 20 rfl (q_addR rfl c157) <| av rfl rfl <| WL.nil ?_
    exact next0 () (x6 + 1) _ h (.o4 rfl (.nil _))
  ·refine W.exit <| QX.then_ <| QX.then_ <| QX.here <| QN.then_ <| sr <| fd rfl rfl fo25_0 rfl <| ld rfl rfl sh22 <| p1 rfl 32 rfl (q_len rfl elS22) ?_
   obtain ⟨c158, h⟩ := ite_n h
   refine pk rfl 33 rfl (q_subR rfl c158) <| av rfl rfl <| WL.nil <| QN.weaken (env' := [(7, _), (5, _)]) (.o2 rfl (.nil _)) <| QN.then_ <| W.seq <| W.seq ?_
   refine W.jn1 (Γ := Unit) (fun (_ : Unit) (x62 : Bool) => [(62, bA x62)]) (fun (_ : Unit) (_ : Bool) => []) h (fun _ x62 h => ?_) (fun j167 Kj167 h => ?_)
   ·refine QN.then_ ?_
    refine W.condP h rfl (fun hb168 h => ?_) (fun hb168 h => ?_)
    ·refine sr <| ak rfl <| nt <| W.ret <| QR.then_ ?_
     cases h
     exact QR.f1 rfl rfl (.t rfl) (.id _)
    ·refine W.skip <| QN.then_ <| sr <| ak rfl <| nt <| W.ret ?_
     cases h
     exact QR.f1 rfl rfl (.t rfl) (.id _)
   ·refine W.region <| fd rfl rfl fo60_1 rfl <| ld rfl rfl sh3 <| mv rfl rfl ?_
    obtain ⟨t169, ht169, h⟩ := bind_s h
    refine WL.p rfl rfl rfl (.s 36 rfl (.k (.s 37 rfl .nil))) (q_call (f := 101) (A := bA t169) (xs := [.tmp 36, .const (.int .i64 0), .tmp 37]) («as» := [iA ((rd a0.fEdges a1).fFrom), iA 0, iA ((a0.fNodes.length : Int) - 1)]) rfl ca101 (ref04_in.con k ((rd a0.fEdges a1).fFrom) 0 ((a0.fNodes.length : Int) - 1) t169 ht169) rfl) <| p1 rfl 38 rfl (q_not rfl) <| mv rfl rfl ?_
    rcases bif_s h with ⟨hb170, h⟩ | ⟨hb170, h⟩
    ·refine sk rfl rfl rfl hb170 <| sk rfl rfl rfl hb170 <| sk rfl rfl rfl hb170 <| sk rfl rfl rfl hb170 <| sk rfl rfl rfl hb170 <| pk rfl 40 rfl (q_pickT rfl hb170) <| mv rfl rfl <| sk rfl rfl rfl rfl <| sk rfl rfl rfl rfl <| sk rfl rfl rfl rfl <| sk rfl rfl rfl rfl <| sk rfl rfl rfl rfl <| sk rfl rfl rfl rfl ?_
     refine pk rfl 47 rfl (q_pickT rfl rfl) <| mv rfl rfl <| sk rfl rfl rfl rfl <| sk rfl rfl rfl rfl <| sk rfl rfl rfl rfl <| sk rfl rfl rfl rfl <| sk rfl rfl rfl rfl <| sk rfl rfl rfl rfl <| pk rfl 55 rfl (q_pickT rfl rfl) <| WL.nil ?_
     exact QN.weaken (.one rfl (.nil _)) (Kj167 () true h)
    ·refine wf rfl rfl rfl hb170 rfl rfl fo60_2 rfl <| wl rfl rfl rfl hb170 rfl rfl sh3 <| wm rfl rfl rfl hb170 rfl rfl ?_
     obtain ⟨t171, ht171, h⟩ := bind_s h
     refine wq rfl rfl rfl hb170 (.s 42 rfl (.k (.s 43 rfl .nil))) (q_call (f := 101) (A := bA t171) (xs := [.tmp 42, .const (.int .i64 0), .tmp 43]) («as» := [iA ((rd a0.fEdges a1).fTo), iA 0, iA ((a0.fNodes.length : Int) - 1)]) rfl ca101 (ref04_in.con k ((rd a0.fEdges a1).fTo) 0 ((a0.fNodes.length : Int) - 1) t171 ht171) rfl).o <| wq rfl rfl rfl hb170 (.s 44 rfl .nil) (q_not rfl).o <| p2 rfl 40 rfl 45 rfl (q_pickF rfl hb170) <| mv rfl rfl ?_
     rcases bif_s h with ⟨hb172, h⟩ | ⟨hb172, h⟩
     ·refine sk rfl rfl rfl hb172 <| sk rfl rfl rfl hb172 <| sk rfl rfl rfl hb172 <| sk rfl rfl rfl hb172 <| sk rfl rfl rfl hb172 <| sk rfl rfl rfl hb172 <| pk rfl 47 rfl (q_pickT rfl hb172) <| mv rfl rfl <| sk rfl rfl rfl rfl <| sk rfl rfl rfl rfl <| sk rfl rfl rfl rfl <| sk rfl rfl rfl rfl <| sk rfl rfl rfl rfl ?_
      refine sk rfl rfl rfl rfl <| pk rfl 55 rfl (q_pickT rfl rfl) <| WL.nil ?_
      exact QN.weaken (.one rfl (.nil _)) (Kj167 () true h)
     ·refine wf rfl rfl rfl hb172 rfl rfl fo60_3 rfl <| wl rfl rfl rfl hb172 rfl rfl sh3 <| wf rfl rfl rfl hb172 rfl rfl fo60_4 rfl <| wl rfl rfl rfl hb172 rfl rfl sh3 ?_
      obtain ⟨t173, ht173, h⟩ := bind_s h
      refine wq rfl rfl rfl hb172 (.s 49 rfl (.s 51 rfl .nil)) (q_call (f := 139) (A := bA t173) (xs := [.tmp 49, .tmp 51]) («as» := [iA ((rd a0.fEdges a1).fOutLow), iA ((rd a0.fEdges a1).fOutHigh)]) rfl ca139 (ref04_bound.con k ((rd a0.fEdges a1).fOutLow) ((rd a0.fEdges a1).fOutHigh) t173 ht173) rfl).o <| wq rfl rfl rfl hb172 (.s 52 rfl .nil) (q_not rfl).o <| p2 rfl 47 rfl 53 rfl (q_pickF rfl hb172) <| mv rfl rfl ?_
      rcases bif_s h with ⟨hb174, h⟩ | ⟨hb174, h⟩
      ·refine sk rfl rfl rfl hb174 <| sk rfl rfl rfl hb174 <| sk rfl rfl rfl hb174 <| sk rfl rfl rfl hb174 <| sk rfl rfl rfl hb174 <| sk rfl rfl rfl hb174 <| pk rfl 55 rfl (q_pickT rfl hb174) <| WL.nil ?_
       exact QN.weaken (.one rfl (.nil _)) (Kj167 () true h)
      ·refine wf rfl rfl rfl hb174 rfl rfl fo60_5 rfl <| wl rfl rfl rfl hb174 rfl rfl sh3 <| wf rfl rfl rfl hb174 rfl rfl fo60_6 rfl <| wl rfl rfl rfl hb174 rfl rfl sh3 ?_
       obtain ⟨t175, ht175, h⟩ := bind_s h
       refine wq rfl rfl rfl hb174 (.s 57 rfl (.s 59 rfl .nil)) (q_call (f := 139) (A := bA t175) (xs := [.tmp 57, .tmp 59]) («as» := [iA ((rd a0.fEdges a1).fInLow), iA ((rd a0.fEdges a1).fInHigh)]) rfl ca139 (ref04_bound.con k ((rd a0.fEdges a1).fInLow) ((rd a0.fEdges a1).fInHigh) t175 ht175) rfl).o <| wq rfl rfl rfl hb174 (.s 60 rfl .nil) (q_not rfl).o <| p2 rfl 55 rfl 61 rfl (q_pickF rfl hb174) <| WL.nil ?_
       exact QN.weaken (.one rfl (.nil _)) (Kj167 () (!t175) h)
theorem ref04_Valid.con (k : Nat) (a0 : Types) (r : (Str × Int)) (h : ref04_Valid k a0 = some r) : Con Tryz.prog 50 [] [AggA [SlcA kNodeType a0.fNodes, SlcA kEdgeType a0.fEdges]] (RA (TupA [EqA (strV r.1), iA r.2])) := by
 unfold ref04_Valid at h
 refine Con.of (N := 60) Tryz.func50 rfl rfl rfl fun w0_ fg_ => sr <| p1 rfl 0 rfl (q_box rfl (CellsOf.agg _)) <| ak rfl <| ak rfl <| nt <| W.seq <| sr <| fd rfl rfl fo25_0 rfl <| ld rfl rfl sh22 ?_
 refine p1 rfl 9 rfl (q_len rfl elS22) <| pk rfl 10 rfl (q_int rfl rfl) <| nt ?_
 refine W.condP h rfl (fun hb100 h => ?_) (fun hb100 h => ?_)
 ·refine sr <| ak rfl <| ak rfl <| nt <| W.ret <| QR.then_ ?_
  cases h
  exact QR.f2 rfl rfl (.t rfl) (.t rfl) (.id _)
 ·refine W.skip <| QN.weaken (env' := [(1, _)]) (.one rfl (.nil _)) <| QN.then_ <| W.seq <| W.seq ?_
  refine W.jn1 (Γ := Unit) (fun (_ : Unit) (x21 : Bool) => [(1, PtrA [SlcA kNodeType a0.fNodes, SlcA kEdgeType a0.fEdges]), (21, bA x21)]) (fun (_ : Unit) (_ : Bool) => []) h (fun _ x21 h => ?_) (fun j103 Kj103 h => ?_)
  ·refine QN.then_ ?_
   refine W.condP h rfl (fun hb104 h => ?_) (fun hb104 h => ?_)
   ·refine sr <| ak rfl <| ak rfl <| nt <| W.ret <| QR.then_ ?_
    cases h
    exact QR.f2 rfl rfl (.t rfl) (.t rfl) (.id _)
   ·refine W.skip <| QN.then_ <| W.seq <| sr <| ak rfl <| nt <| W.block ?_
    refine W.loop1 (Γ := Unit) (fun (_ : Unit) (x4 : Int) => [(1, PtrA [SlcA kNodeType a0.fNodes, SlcA kEdgeType a0.fEdges]), (4, iA x4)]) (fun (_ : Unit) (_ : Int) => []) h () (.o2 rfl (.nil _)) rfl (fun rec0 K0 next0 _ x4 h => ?_)
    unfold ref04_Valid.b0 at h
    refine W.seq <| sr <| mv rfl rfl <| fd rfl rfl fo25_0 rfl <| ld rfl rfl sh22 <| p1 rfl 24 rfl (q_len rfl elS22) <| p2 rfl 22 rfl 25 rfl (q_int rfl rfl) <| nt ?_
    refine W.condP h rfl (fun hb145 h => ?_) (fun hb145 h => ?_)
    ·refine W.skip <| QN.then_ <| W.seq <| W.block <| sr <| lS rfl rfl sh25 rfl rfl <| mv rfl rfl ?_
     obtain ⟨t146, ht146, h⟩ := bind_s h
     refine p2 rfl 29 rfl 30 rfl (q_call (f := 96) (A := iA t146) (xs := [.tmp 29, .tmp 30]) («as» := [AggA [SlcA kNodeType a0.fNodes, SlcA kEdgeType a0.fEdges], iA x4]) rfl ca96 (ref04_node.con k a0 x4 t146 ht146) rfl) <| av rfl rfl <| WL.nil <| QN.weaken (env' := [(5, _), (4, _), (1, _)]) (.o2 rfl (.one rfl (.nil _))) <| QN.then_ <| sr <| mv rfl rfl <| pk rfl 32 rfl (q_int rfl rfl) <| nt ?_
     refine W.condP h rfl (fun hb147 h => ?_) (fun hb147 h => ?_)
     ·refine sr <| fd rfl rfl fo25_0 rfl <| ld rfl rfl sh22 <| mv rfl rfl ?_
      obtain ⟨c148, h⟩ := ite_n h
      refine p2 rfl 35 rfl 36 rfl (q_index rfl el22 rfl c148.1 c148.2) <| fd rfl rfl fo120_0 rfl <| ld rfl rfl sh9 <| mv rfl rfl <| av rfl rfl <| av rfl rfl <| WL.nil <| QN.weaken (env' := [(3, _), (2, _)]) (.o2 rfl (.nil _)) <| QN.then_ <| W.ret <| QR.block <| QR.then_ <| QR.then_ ?_
      refine QR.block <| QR.then_ ?_
      cases h
      exact QR.f2 rfl rfl (.t rfl) (.t rfl) (.id _)
     ·refine W.skip <| QN.block <| QN.then_ <| W.region <| mv rfl rfl ?_
      obtain ⟨c149, h⟩ := ite_n h
      refine pk rfl 27 rfl (q_addR rfl c149) <| av rfl rfl <| WL.nil ?_
      exact next0 () (x4 + 1) _ h (.o2 rfl (.nil _))
    ·refine W.exit <| QX.then_ <| QX.then_ <| QX.here <| QN.then_ <| W.seq <| sr <| ak rfl <| nt <| W.block ?_
     refine W.loop1 (Γ := Unit) (fun (_ : Unit) (x6 : Int) => [(1, PtrA [SlcA kNodeType a0.fNodes, SlcA kEdgeType a0.fEdges]), (6, iA x6)]) (fun (_ : Unit) (_ : Int) => []) h () (.o2 rfl (.nil _)) rfl (fun rec1 K1 next1 _ x6 h => ?_)
     unfold ref04_Valid.b1 at h
     refine W.seq <| sr <| mv rfl rfl <| fd rfl rfl fo25_1 rfl <| ld rfl rfl sh23 <| p1 rfl 43 rfl (q_len rfl elS23) <| p2 rfl 41 rfl 44 rfl (q_int rfl rfl) <| nt ?_
     refine W.condP h rfl (fun hb160 h => ?_) (fun hb160 h => ?_)
     ·refine W.skip <| QN.then_ <| W.seq <| W.block <| sr <| lS rfl rfl sh25 rfl rfl <| mv rfl rfl ?_
      obtain ⟨t161, ht161, h⟩ := bind_s h
      refine p2 rfl 48 rfl 49 rfl (q_call (f := 97) (A := iA t161) (xs := [.tmp 48, .tmp 49]) («as» := [AggA [SlcA kNodeType a0.fNodes, SlcA kEdgeType a0.fEdges], iA x6]) rfl ca97 (ref04_edge.con k a0 x6 t161 ht161) rfl) <| av rfl rfl <| WL.nil <| QN.weaken (env' := [(7, _), (6, _), (1, _)]) (.o2 rfl (.one rfl (.nil _))) <| QN.then_ <| sr <| mv rfl rfl <| pk rfl 51 rfl (q_int rfl rfl) <| nt ?_
      refine W.condP h rfl (fun hb162 h => ?_) (fun hb162 h => ?_)
      ·refine sr <| fd rfl rfl fo25_1 rfl <| ld rfl rfl sh23 <| mv rfl rfl ?_
       obtain ⟨c163, h⟩ := ite_n h
       refine p2 rfl 54 rfl 55 rfl (q_index rfl el23 rfl c163.1 c163.2) <| fd rfl rfl fo60_0 rfl <| ld rfl rfl sh9 <| mv rfl rfl <| av rfl rfl <| av rfl rfl <| WL.nil <| QN.weaken (env' := [(3, _), (2, _)]) (.o2 rfl (.nil _)) <| QN.then_ <| W.ret <| QR.block <| QR.then_ <| QR.then_ ?_
       refine QR.block <| QR.then_ ?_
       cases h
       exact QR.f2 rfl rfl (.t rfl) (.t rfl) (.id _)
      ·refine W.skip <| QN.block <| QN.then_ <| W.region <| mv rfl rfl ?_
       obtain ⟨c164, h⟩ := ite_n h
       refine pk rfl 46 rfl (q_addR rfl c164) <| av rfl rfl <| WL.nil ?_
       exact next1 () (x6 + 1) _ h (.o2 rfl (.nil _))
     ·refine W.exit <| QX.then_ <| QX.then_ <| QX.here <| QN.weaken (env' := []) (.nil _) <| QN.then_ <| sr <| ak rfl <| ak rfl <| nt <| W.ret ?_
      cases h
      exact QR.f2 rfl rfl (.t rfl) (.t rfl) (.id _)
  ·refine W.region <| fd rfl rfl fo25_0 rfl <| ld rfl rfl sh22 <| p1 rfl 13 rfl (q_len rfl elS22) <| pk rfl 14 rfl (q_int rfl rfl) <| mv rfl rfl ?_
   rcases bif_s h with ⟨hb165, h⟩ | ⟨hb165, h⟩
   ·refine sk rfl rfl rfl hb165 <| sk rfl rfl rfl hb165 <| sk rfl rfl rfl hb165 <| sk rfl rfl rfl hb165 <| pk rfl 16 rfl (q_pickT rfl hb165) <| WL.nil ?_
    exact QN.weaken (.o2 rfl (.nil _)) (Kj103 () true h)
   ·refine wf rfl rfl rfl hb165 rfl rfl fo25_1 rfl <| wl rfl rfl rfl hb165 rfl rfl sh23 <| wq rfl rfl rfl hb165 (.s 18 rfl .nil) (q_len rfl elS23).o <| wq rfl rfl rfl hb165 (.s 19 rfl (.k .nil)) (q_int rfl rfl).o <| p2 rfl 16 rfl 20 rfl (q_pickF rfl hb165) <| WL.nil ?_
    exact QN.weaken (.o2 rfl (.nil _)) (Kj103 () (decide ((a0.fEdges.length : Int) > 20)) h)
theorem ref04_given.con (k : Nat) (a0 : Types) (a1 : Int) (a2 : Int) (r : Int) (h : ref04_given k a0 a1 a2 = some r) : Con Tryz.prog 100 [] [AggA [SlcA kNodeType a0.fNodes, SlcA kEdgeType a0.fEdges], iA a1, iA a2] (RA (iA r)) := by
 unfold ref04_given at h
 refine Con.of (N := 33) Tryz.func100 rfl rfl rfl fun w0_ fg_ => sr <| p1 rfl 0 rfl (q_box rfl (CellsOf.agg _)) <| ak rfl <| nt <| W.seq <| sr <| lS rfl rfl sh25 rfl rfl ?_
 obtain ⟨t100, ht100, h⟩ := bind_s h
 refine p1 rfl 10 rfl (q_call (f := 50) (A := TupA [EqA (strV t100.1), iA t100.2]) (xs := [.tmp 10]) («as» := [AggA [SlcA kNodeType a0.fNodes, SlcA kEdgeType a0.fEdges]]) rfl ca50 (ref04_Valid.con k a0 t100 ht100) rfl) <| mv rfl rfl <| p1 rfl 9 rfl (q_extract rfl rfl) <| p1 rfl 9 rfl (q_extract rfl rfl) <| av rfl rfl <| av rfl rfl <| WL.nil <| QN.weaken (env' := [(8, _), (3, _), (2, _), (1, _)]) (.o4 rfl (.nil _)) <| QN.then_ <| sr <| mv rfl rfl <| pk rfl 14 rfl (q_int rfl rfl) ?_
 refine nt ?_
 refine W.condP h rfl (fun hb101 h => ?_) (fun hb101 h => ?_)
 ·refine sr <| mv rfl rfl <| av rfl rfl <| WL.nil <| QN.weaken (env' := [(6, _)]) (.one rfl (.nil _)) <| QN.then_ <| W.ret <| QR.then_ ?_
  cases h
  exact QR.f1 rfl rfl (.t rfl) (.id _)
 ·refine W.skip <| QN.then_ <| W.seq <| W.seq ?_
  refine W.jn1 (Γ := Unit) (fun (_ : Unit) (x32 : Bool) => [(32, bA x32)]) (fun (_ : Unit) (_ : Bool) => []) h (fun _ x32 h => ?_) (fun j108 Kj108 h => ?_)
  ·refine QN.then_ ?_
   refine W.condP h rfl (fun hb109 h => ?_) (fun hb109 h => ?_)
   ·refine sr <| ak rfl <| nt <| W.ret <| QR.then_ ?_
    cases h
    exact QR.f1 rfl rfl (.t rfl) (.id _)
   ·refine W.skip <| QN.then_ <| sr <| ak rfl <| nt <| W.ret ?_
    cases h
    exact QR.f1 rfl rfl (.t rfl) (.id _)
  ·refine W.region <| mv rfl rfl <| fd rfl rfl fo25_0 rfl <| ld rfl rfl sh22 <| p1 rfl 19 rfl (q_len rfl elS22) ?_
   obtain ⟨c110, h⟩ := ite_n h
   refine pk rfl 20 rfl (q_subR rfl c110) ?_
   obtain ⟨t111, ht111, h⟩ := bind_s h
   refine WL.p rfl rfl rfl (.s 17 rfl (.k (.s 21 rfl .nil))) (q_call (f := 101) (A := bA t111) (xs := [.tmp 17, .const (.int .i64 0), .tmp 21]) («as» := [iA a1, iA 0, iA ((a0.fNodes.length : Int) - 1)]) rfl ca101 (ref04_in.con k a1 0 ((a0.fNodes.length : Int) - 1) t111 ht111) rfl) <| p1 rfl 22 rfl (q_not rfl) <| mv rfl rfl ?_
   rcases bif_s h with ⟨hb112, h⟩ | ⟨hb112, h⟩
   ·refine sk rfl rfl rfl hb112 <| sk rfl rfl rfl hb112 <| sk rfl rfl rfl hb112 <| sk rfl rfl rfl hb112 <| sk rfl rfl rfl hb112 <| sk rfl rfl rfl hb112 <| sk rfl rfl rfl hb112 <| pk rfl 24 rfl (q_pickT rfl hb112) <| WL.nil ?_
    exact QN.weaken (.one rfl (.nil _)) (Kj108 () true h)
   ·refine wm rfl rfl rfl hb112 rfl rfl <| wf rfl rfl rfl hb112 rfl rfl fo25_0 rfl <| wl rfl rfl rfl hb112 rfl rfl sh22 <| wq rfl rfl rfl hb112 (.s 27 rfl .nil) (q_len rfl elS22).o ?_
    obtain ⟨c113, h⟩ := ite_n h
    refine wq rfl rfl rfl hb112 (.s 28 rfl (.k .nil)) (q_subR rfl c113).o ?_
    obtain ⟨t114, ht114, h⟩ := bind_s h
    refine wq rfl rfl rfl hb112 (.s 25 rfl (.k (.s 29 rfl .nil))) (q_call (f := 101) (A := bA t114) (xs := [.tmp 25, .const (.int .i64 0), .tmp 29]) («as» := [iA a2, iA 0, iA ((a0.fNodes.length : Int) - 1)]) rfl ca101 (ref04_in.con k a2 0 ((a0.fNodes.length : Int) - 1) t114 ht114) rfl).o <| wq rfl rfl rfl hb112 (.s 30 rfl .nil) (q_not rfl).o <| p2 rfl 24 rfl 31 rfl (q_pickF rfl hb112) <| WL.nil ?_
    exact QN.weaken (.one rfl (.nil _)) (Kj108 () (!t114) h)
theorem ref04_Attrs.con (k : Nat) (a0 : Types) (a1 : Int) (r : ((List Attr) × Int)) (h : ref04_Attrs k a0 a1 = some r) : Con Tryz.prog 68 [] [AggA [SlcA kNodeType a0.fNodes, SlcA kEdgeType a0.fEdges], iA a1] (RA (TupA [SlcA kAttr r.1, iA r.2])) := by
 unfold ref04_Attrs at h
 refine Con.of (N := 41) Tryz.func68 rfl rfl rfl fun w0_ fg_ => sr <| p1 rfl 0 rfl (q_box rfl (CellsOf.agg _)) <| ak rfl <| ak rfl <| nt <| W.seq <| sr <| lS rfl rfl sh25 rfl rfl <| mv rfl rfl ?_
 refine mv rfl rfl ?_
 obtain ⟨t100, ht100, h⟩ := bind_s h
 refine WL.p rfl rfl rfl (.s 11 rfl (.s 12 rfl (.s 13 rfl .nil))) (q_call (f := 100) (A := iA t100) (xs := [.tmp 11, .tmp 12, .tmp 13]) («as» := [AggA [SlcA kNodeType a0.fNodes, SlcA kEdgeType a0.fEdges], iA a1, iA a1]) rfl ca100 (ref04_given.con k a0 a1 a1 t100 ht100) rfl) <| av rfl rfl <| WL.nil <| QN.weaken (env' := [(6, _), (2, _), (1, _)]) (.o2 rfl (.one rfl (.nil _))) <| QN.then_ <| sr <| mv rfl rfl <| pk rfl 15 rfl (q_int rfl rfl) <| nt ?_
 refine W.condP h rfl (fun hb101 h => ?_) (fun hb101 h => ?_)
 ·refine sr <| mv rfl rfl <| ak rfl <| av rfl rfl <| nt <| W.ret <| QR.then_ ?_
  cases h
  exact QR.f2 rfl rfl (.t rfl) (.t rfl) (.imp (Imp.tup (.cons (Imp.nil kAttr) (.cons (Imp.id _) .nil))))
 ·refine W.skip <| QN.then_ <| sr <| ak rfl <| nx <| lS rfl rfl sh25 rfl rfl <| mv rfl rfl ?_
  obtain ⟨t102, ht102, h⟩ := bind_s h
  refine p2 rfl 18 rfl 19 rfl (q_call (f := 113) (A := SlcA kAttr t102) (xs := [.tmp 18, .tmp 19]) («as» := [AggA [SlcA kNodeType a0.fNodes, SlcA kEdgeType a0.fEdges], iA a1]) rfl ca113 (ref04_attrs.con k a0 a1 t102 ht102) rfl) <| av rfl rfl <| WL.nil <| QN.weaken (env' := [(8, _), (7, _)]) (.o2 rfl (.nil _)) <| QN.then_ <| W.seq <| sr <| ak rfl <| nt <| W.block <| W.to (StTo.newNil 117 kAttr) ?_
  refine W.to (StTo.as 7 rfl Imp.nilHd) ?_
  refine W.loop2 (Γ := Value) (fun (g0 : Value) (_ : (List Attr)) (x9 : Int) => [(7, HdA g0), (8, SlcA kAttr t102), (9, iA x9)]) (fun (g0 : Value) (x7 : (List Attr)) (_ : Int) => [SlE 117 g0 kAttr x7]) h (.slice none 0 0) (.o2 rfl (.one rfl (.nil _))) rfl (fun rec0 K0 next0 g0 x7 x9 h => ?_)
  unfold ref04_Attrs.b0 at h
  refine W.seq <| sr <| mv rfl rfl <| mv rfl rfl <| p1 rfl 22 rfl (q_len rfl elS118) <| p2 rfl 21 rfl 23 rfl (q_int rfl rfl) <| nt ?_
  refine W.condP h rfl (fun hb124 h => ?_) (fun hb124 h => ?_)
  ·refine W.skip <| QN.then_ <| W.seq <| W.block <| sr <| mv rfl rfl <| mv rfl rfl ?_
   obtain ⟨c125, h⟩ := ite_n h
   refine p2 rfl 27 rfl 28 rfl (q_index rfl el118 rfl c125.1 c125.2) <| lS rfl rfl sh117 rfl rfl <| WL.w [] rfl (Wanted.plain rfl) rfl rfl .nil (w_alloc rfl z117 (l := [EqA (strV ([] : Str)), iA 0, iA 0, EqA (.slice none 0 0)]) rfl) ?_
   rintro _ _ ⟨b126, rfl, rfl⟩
   refine WL.w0 [0] rfl (Wanted.plain rfl) rfl (.s 10 rfl (.s 30 rfl .nil)) (w_store (L := [EqA (strV ((rd t102 x9).fName)), iA ((rd t102 x9).fLow), iA ((rd t102 x9).fHigh), SlcA kStr ((rd t102 x9).fNames)]) rfl sh117 (CellsOf.agg _) rfl rfl (leB rfl) rfl) ?_
   rintro _ _ ⟨rfl, rfl⟩
   refine WL.nil <| QN.weaken (env' := [(10, _), (9, _), (8, _), (7, _)]) (.o4 rfl (.nil _)) <| QN.then_ <| sr <| WL.p rfl rfl rfl .nil (q_lit0 rfl el115 gr9) <| p1 rfl 10 rfl (q_fieldP rfl fo117_3) <| WL.q (Wanted.plain rfl) rfl rfl (.s 32 rfl .nil) (q_loadB rfl sh115 (i := 0) rfl rfl) ?_
   obtain ⟨c127, h⟩ := ite_n h
   refine p2 rfl 31 rfl 33 rfl (QS.of_new (w_appendZ (kd := kStr) rfl el115 rfl gr9 c127)) <| p1 rfl 10 rfl (q_fieldP rfl fo117_3) <| WL.w0 [0] rfl (Wanted.plain rfl) rfl (.s 35 rfl (.s 34 rfl .nil)) (w_store (L := [EqA (strV ((rd t102 x9).fName)), iA ((rd t102 x9).fLow), iA ((rd t102 x9).fHigh), SlcA kStr ((rd t102 x9).fNames)]) rfl sh115 (CellsOf.one rfl) rfl rfl (leB rfl) rfl) ?_
   rintro _ _ ⟨rfl, rfl⟩
   refine nt <| W.region <| mv rfl rfl <| WL.q (Wanted.plain rfl) rfl rfl (.s 10 rfl .nil) (q_loadBS (l' := [EqA (strV ((rd t102 x9).fName)), iA ((rd t102 x9).fLow), iA ((rd t102 x9).fHigh), SlcA kStr ((rd t102 x9).fNames)]) rfl sh117 (i := 0) rfl rfl rfl) <| p1 rfl 37 rfl (q_lit (kd := kAttr) (ps := [(0, .tmp 37)]) (xs := [.tmp 37]) («as» := [AggA [EqA (strV ((rd t102 x9).fName)), iA ((rd t102 x9).fLow), iA ((rd t102 x9).fHigh), SlcA kStr ((rd t102 x9).fNames)]]) (ys := [(rd t102 x9)]) rfl rfl el118 rfl gr117 rfl rfl rfl (.cons (CellsOf.agg _) .nil)) ?_
   obtain ⟨c128, h⟩ := ite_n h
   refine WL.w [1] rfl (Wanted.plain rfl) rfl rfl (.s 36 rfl (.s 38 rfl .nil)) (w_append (kd := kAttr) rfl el118 rfl gr117 c128) ?_
   rintro _ _ ⟨v129, rfl, rfl⟩
   refine av rfl rfl <| WL.nil <| QN.block <| QN.weaken (env' := [(7, _), (9, _), (8, _)]) (.o2 rfl (.one rfl (.nil _))) <| QN.then_ <| W.region <| mv rfl rfl ?_
   obtain ⟨c130, h⟩ := ite_n h
   refine pk rfl 25 rfl (q_addR rfl c130) <| av rfl rfl <| WL.nil <| QN.drop [1] rfl ?_
   exact next0 v129 (x7 ++ [(rd t102 x9)]) (x9 + 1) _ h (.o2 rfl (.one rfl (.nil _)))
  ·refine W.exit <| QX.then_ <| QX.then_ <| QX.here <| QN.then_ <| sr <| mv rfl rfl <| av rfl rfl <| ak rfl <| WL.nil <| QN.weaken (env' := [(5, _), (4, _)]) (.o2 rfl (.nil _)) <| QN.then_ ?_
   refine W.ret ?_
   cases h
   exact QR.f2 rfl rfl (.t rfl) (.t rfl) (.tup (.cons (.slc 0 rfl) (.cons (.id _) .nil)))
theorem ref04_Below1.con : ∀ (k : Nat) (a0 : Types) (a1 : Int) (a2 : Int) (r : Bool) (_ : ref04_Below1 k a0 a1 a2 = some r), Con Tryz.prog 56 [] [AggA [SlcA kNodeType a0.fNodes, SlcA kEdgeType a0.fEdges], iA a1, iA a2] (RA (bA r)) := by
 intro k
 induction k with
 | zero => intro a0 a1 a2 r h; cases h
 | succ k ih =>
  intro a0 a1 a2 r h
  change ref04_Below1.main (ref04_Below1 k) k a0 a1 a2 = some r at h
  unfold ref04_Below1.main at h
  refine Con.of (N := 25) Tryz.func56 rfl rfl rfl fun w0_ fg_ => sr <| p1 rfl 0 rfl (q_box rfl (CellsOf.agg _)) <| ak rfl <| nt <| W.seq ?_
  refine W.jn1 (Γ := Unit) (fun (_ : Unit) (x6 : Bool) => [(6, bA x6)]) (fun (_ : Unit) (_ : Bool) => []) h (fun _ x6 h => ?_) (fun j109 Kj109 h => ?_)
  ·refine QN.then_ <| W.ret ?_
   cases h
   exact QR.f1 rfl rfl (.t rfl) (.id _)
  ·refine W.drawK [(0, false), (1, false), (2, false), (3, false), (4, false), (5, false), (6, false), (7, false), (8, false), (9, false), (10, false), (11, false), (12, false), (13, false), (14, false), (15, false), (16, false), (17, false), (18, false)] [] (bm [0, 0, 3, 7, 15, 31, 63, 127, 127, 383, 127, 1919, 3967, 8063, 127, 32767, 65535, 131071, 262143]) mx (by kernel_rfl) <| dm rfl rfl rfl <| dm rfl rfl rfl <| DK.cons rfl rfl (.p rfl (.s 7 rfl (.s 8 rfl .nil)) rfl (q_int rfl rfl)) <| dm rfl rfl rfl ?_
   rcases bif_s h with ⟨hb110, h⟩ | ⟨hb110, h⟩
   ·refine dx rfl rfl rfl hb110 <| dx rfl rfl rfl hb110 <| dx rfl rfl rfl hb110 <| DK.cons rfl rfl (.und rfl rfl rfl) <| DK.cons rfl rfl (.und rfl rfl rfl) <| DK.cons rfl rfl (.und rfl rfl rfl) <| DK.cons rfl rfl (.und rfl rfl rfl) <| DK.cons rfl rfl (.und rfl rfl rfl) <| DK.cons rfl rfl (.und rfl rfl rfl) <| DK.cons rfl rfl (.und rfl rfl rfl) <| DK.cons rfl rfl (.und rfl rfl rfl) <| DK.cons rfl rfl (.und rfl rfl rfl) <| dx rfl rfl rfl hb110 ?_
    refine DK.cons rfl rfl (.p rfl (.s 10 rfl (.k .nil)) rfl (q_pickT rfl hb110)) <| DK.cons rfl rfl (.p rfl (.s 24 rfl .nil) rfl (q_assign rfl)) <| DK.nil <| CSteps.nil ?_
    exact QN.weaken (.one rfl (.nil _)) (Kj109 () true h)
   ·refine DK.cons rfl rfl (.gp rfl rfl rfl hb110 (.s 1 rfl .nil) rfl (q_move rfl)) <| DK.cons rfl rfl (.gp rfl rfl rfl hb110 (.s 11 rfl (.k .nil)) rfl (q_int rfl rfl)) <| DK.cons rfl rfl (.gp rfl rfl rfl hb110 (.s 12 rfl .nil) rfl (q_move rfl)) ?_
    rcases bif_s h with ⟨hb111, h⟩ | ⟨hb111, h⟩
    ·refine DK.cons rfl rfl (.gp rfl rfl rfl hb111 (.s 3 rfl .nil) rfl (q_loadS rfl sh25 (leB rfl) rfl)) <| DK.cons rfl rfl (.gp rfl rfl rfl hb111 (.s 3 rfl .nil) rfl (q_field rfl fo25_0 rfl)) <| DK.cons rfl rfl (.gp rfl rfl rfl hb111 (.s 15 rfl .nil) rfl (q_load rfl sh22)) <| DK.cons rfl rfl (.gp rfl rfl rfl hb111 (.s 1 rfl .nil) rfl (q_move rfl)) ?_
     obtain ⟨c112, h⟩ := ite_n h
     refine DK.cons rfl rfl (.gp rfl rfl rfl hb111 (.s 16 rfl (.s 17 rfl .nil)) rfl (q_index rfl el22 rfl c112.1 c112.2)) <| DK.cons rfl rfl (.gp rfl rfl rfl hb111 (.s 18 rfl .nil) rfl (q_field rfl fo120_1 rfl)) <| DK.cons rfl rfl (.gp rfl rfl rfl hb111 (.s 19 rfl .nil) rfl (q_load rfl sh3)) <| DK.cons rfl rfl (.gp rfl rfl rfl hb111 (.s 2 rfl .nil) rfl (q_move rfl)) ?_
     obtain ⟨t113, ht113, h⟩ := bind_s h
     refine DK.cons rfl rfl (.gp rfl rfl rfl hb111 (.s 14 rfl (.s 20 rfl (.s 21 rfl .nil))) rfl (q_call (f := 56) (A := bA t113) (xs := [.tmp 14, .tmp 20, .tmp 21]) («as» := [AggA [SlcA kNodeType a0.fNodes, SlcA kEdgeType a0.fEdges], iA ((rd a0.fNodes a1).fParent), iA a2]) rfl ca56 (ih a0 ((rd a0.fNodes a1).fParent) a2 t113 ht113) rfl)) <| DK.cons rfl rfl (.gp rfl rfl rfl hb110 (.s 13 rfl (.s 22 rfl .nil)) rfl (q_pickT rfl hb111)) <| DK.cons rfl rfl (.p rfl (.s 10 rfl (.s 23 rfl .nil)) rfl (q_pickF rfl hb110)) <| DK.cons rfl rfl (.p rfl (.s 24 rfl .nil) rfl (q_assign rfl)) <| DK.nil <| CSteps.nil ?_
     exact QN.weaken (.one rfl (.nil _)) (Kj109 () t113 h)
    ·refine dx rfl rfl rfl hb111 <| dx rfl rfl rfl hb111 <| dx rfl rfl rfl hb111 <| dx rfl rfl rfl hb111 <| dx rfl rfl rfl hb111 <| dx rfl rfl rfl hb111 <| dx rfl rfl rfl hb111 <| dx rfl rfl rfl hb111 <| dx rfl rfl rfl hb111 <| DK.cons rfl rfl (.gp rfl rfl rfl hb110 (.s 13 rfl (.k .nil)) rfl (q_pickF rfl hb111)) <| DK.cons rfl rfl (.p rfl (.s 10 rfl (.s 23 rfl .nil)) rfl (q_pickF rfl hb110)) <| DK.cons rfl rfl (.p rfl (.s 24 rfl .nil) rfl (q_assign rfl)) <| DK.nil ?_
     refine CSteps.nil ?_
     exact QN.weaken (.one rfl (.nil _)) (Kj109 () false h)
theorem ref04_Fits.con (k : Nat) (a0 : Types) (a1 : Int) (a2 : Int) (a3 : Int) (r : Bool) (h : ref04_Fits k a0 a1 a2 a3 = some r) : Con Tryz.prog 53 [] [AggA [SlcA kNodeType a0.fNodes, SlcA kEdgeType a0.fEdges], iA a1, iA a2, iA a3] (RA (bA r)) := by
 unfold ref04_Fits at h
 refine Con.of (N := 43) Tryz.func53 rfl rfl rfl fun w0_ fg_ => sr <| p1 rfl 0 rfl (q_box rfl (CellsOf.agg _)) <| ak rfl <| nt <| W.seq <| W.seq ?_
 refine W.jn1 (Γ := Unit) (fun (_ : Unit) (x22 : Bool) => [(1, iA a1), (2, iA a2), (3, iA a3), (4, PtrA [SlcA kNodeType a0.fNodes, SlcA kEdgeType a0.fEdges]), (22, bA x22)]) (fun (_ : Unit) (_ : Bool) => []) h (fun _ x22 h => ?_) (fun j105 Kj105 h => ?_)
 ·refine QN.then_ ?_
  refine W.condP h rfl (fun hb106 h => ?_) (fun hb106 h => ?_)
  ·refine sr <| ak rfl <| nt <| W.ret <| QR.then_ ?_
   cases h
   exact QR.f1 rfl rfl (.t rfl) (.id _)
  ·refine W.skip <| QN.then_ <| W.seq ?_
   refine W.jn1 (Γ := Unit) (fun (_ : Unit) (x8 : Bool) => [(8, bA x8)]) (fun (_ : Unit) (_ : Bool) => []) h (fun _ x8 h => ?_) (fun j118 Kj118 h => ?_)
   ·refine QN.then_ <| W.ret ?_
    cases h
    exact QR.f1 rfl rfl (.t rfl) (.id _)
   ·refine W.drawK [(0, false), (1, false), (2, false), (3, false), (4, false), (5, false), (6, false), (7, false), (8, false), (9, false), (10, false), (11, false), (12, false), (13, false), (14, false), (15, false), (16, false), (17, false), (18, false), (19, false), (20, false)] [] (bm [0, 0, 0, 4, 0, 28, 60, 124, 255, 511, 1023, 1023, 1023, 5119, 1023, 29695, 62463, 127999, 262143, 524287, 1048575]) mx (by kernel_rfl) <| DK.cons rfl rfl (.p rfl (.s 4 rfl .nil) rfl (q_loadS rfl sh25 (leB rfl) rfl)) <| dm rfl rfl rfl <| df rfl rfl rfl fo25_1 rfl <| dl rfl rfl rfl sh23 <| dm rfl rfl rfl ?_
    obtain ⟨c119, h⟩ := ite_n h
    refine DK.cons rfl rfl (.p rfl (.s 26 rfl (.s 27 rfl .nil)) rfl (q_index rfl el23 rfl c119.1 c119.2)) <| df rfl rfl rfl fo60_1 rfl <| dl rfl rfl rfl sh3 ?_
    obtain ⟨t120, ht120, h⟩ := bind_s h
    refine DK.cons rfl rfl (.p rfl (.s 23 rfl (.s 24 rfl (.s 30 rfl .nil))) rfl (q_call (f := 56) (A := bA t120) (xs := [.tmp 23, .tmp 24, .tmp 30]) («as» := [AggA [SlcA kNodeType a0.fNodes, SlcA kEdgeType a0.fEdges], iA a2, iA ((rd a0.fEdges a1).fFrom)]) rfl ca56 (ref04_Below1.con k a0 a2 ((rd a0.fEdges a1).fFrom) t120 ht120) rfl)) <| dm rfl rfl rfl ?_
    rcases bif_s h with ⟨hb121, h⟩ | ⟨hb121, h⟩
    ·refine DK.cons rfl rfl (.gp rfl rfl rfl hb121 (.s 4 rfl .nil) rfl (q_loadS rfl sh25 (leB rfl) rfl)) <| DK.cons rfl rfl (.gp rfl rfl rfl hb121 (.s 3 rfl .nil) rfl (q_move rfl)) <| DK.cons rfl rfl (.gp rfl rfl rfl hb121 (.s 4 rfl .nil) rfl (q_field rfl fo25_1 rfl)) <| DK.cons rfl rfl (.gp rfl rfl rfl hb121 (.s 35 rfl .nil) rfl (q_load rfl sh23)) <| DK.cons rfl rfl (.gp rfl rfl rfl hb121 (.s 1 rfl .nil) rfl (q_move rfl)) ?_
     obtain ⟨c122, h⟩ := ite_n h
     refine DK.cons rfl rfl (.gp rfl rfl rfl hb121 (.s 36 rfl (.s 37 rfl .nil)) rfl (q_index rfl el23 rfl c122.1 c122.2)) <| DK.cons rfl rfl (.gp rfl rfl rfl hb121 (.s 38 rfl .nil) rfl (q_field rfl fo60_2 rfl)) <| DK.cons rfl rfl (.gp rfl rfl rfl hb121 (.s 39 rfl .nil) rfl (q_load rfl sh3)) ?_
     obtain ⟨t123, ht123, h⟩ := bind_s h
     refine DK.cons rfl rfl (.gp rfl rfl rfl hb121 (.s 33 rfl (.s 34 rfl (.s 40 rfl .nil))) rfl (q_call (f := 56) (A := bA t123) (xs := [.tmp 33, .tmp 34, .tmp 40]) («as» := [AggA [SlcA kNodeType a0.fNodes, SlcA kEdgeType a0.fEdges], iA a3, iA ((rd a0.fEdges a1).fTo)]) rfl ca56 (ref04_Below1.con k a0 a3 ((rd a0.fEdges a1).fTo) t123 ht123) rfl)) <| DK.cons rfl rfl (.p rfl (.s 32 rfl (.s 41 rfl .nil)) rfl (q_pickT rfl hb121)) <| DK.cons rfl rfl (.p rfl (.s 42 rfl .nil) rfl (q_assign rfl)) <| DK.nil <| CSteps.nil ?_
     exact QN.weaken (.one rfl (.nil _)) (Kj118 () t123 h)
    ·refine dx rfl rfl rfl hb121 <| dx rfl rfl rfl hb121 <| dx rfl rfl rfl hb121 <| dx rfl rfl rfl hb121 <| dx rfl rfl rfl hb121 <| dx rfl rfl rfl hb121 <| dx rfl rfl rfl hb121 <| dx rfl rfl rfl hb121 <| dx rfl rfl rfl hb121 <| DK.cons rfl rfl (.p rfl (.s 32 rfl (.k .nil)) rfl (q_pickF rfl hb121)) <| DK.cons rfl rfl (.p rfl (.s 42 rfl .nil) rfl (q_assign rfl)) <| DK.nil <| CSteps.nil ?_
     exact QN.weaken (.one rfl (.nil _)) (Kj118 () false h)
 ·refine W.region <| lS rfl rfl sh25 rfl rfl <| mv rfl rfl <| mv rfl rfl ?_
  obtain ⟨t124, ht124, h⟩ := bind_s h
  refine WL.p rfl rfl rfl (.s 9 rfl (.s 10 rfl (.s 11 rfl .nil))) (q_call (f := 100) (A := iA t124) (xs := [.tmp 9, .tmp 10, .tmp 11]) («as» := [AggA [SlcA kNodeType a0.fNodes, SlcA kEdgeType a0.fEdges], iA a2, iA a3]) rfl ca100 (ref04_given.con k a0 a2 a3 t124 ht124) rfl) <| pk rfl 12 rfl (q_int rfl rfl) <| mv rfl rfl ?_
  rcases bif_s h with ⟨hb125, h⟩ | ⟨hb125, h⟩
  ·refine sk rfl rfl rfl hb125 <| sk rfl rfl rfl hb125 <| sk rfl rfl rfl hb125 <| sk rfl rfl rfl hb125 <| sk rfl rfl rfl hb125 <| sk rfl rfl rfl hb125 <| sk rfl rfl rfl hb125 <| pk rfl 14 rfl (q_pickT rfl hb125) <| WL.nil ?_
   exact QN.weaken (.o4 rfl (.one rfl (.nil _))) (Kj105 () true h)
  ·refine wm rfl rfl rfl hb125 rfl rfl <| wf rfl rfl rfl hb125 rfl rfl fo25_1 rfl <| wl rfl rfl rfl hb125 rfl rfl sh23 <| wq rfl rfl rfl hb125 (.s 17 rfl .nil) (q_len rfl elS23).o ?_
   obtain ⟨c126, h⟩ := ite_n h
   refine wq rfl rfl rfl hb125 (.s 18 rfl (.k .nil)) (q_subR rfl c126).o ?_
   obtain ⟨t127, ht127, h⟩ := bind_s h
   refine wq rfl rfl rfl hb125 (.s 15 rfl (.k (.s 19 rfl .nil))) (q_call (f := 101) (A := bA t127) (xs := [.tmp 15, .const (.int .i64 0), .tmp 19]) («as» := [iA a1, iA 0, iA ((a0.fEdges.length : Int) - 1)]) rfl ca101 (ref04_in.con k a1 0 ((a0.fEdges.length : Int) - 1) t127 ht127) rfl).o <| wq rfl rfl rfl hb125 (.s 20 rfl .nil) (q_not rfl).o <| p2 rfl 14 rfl 21 rfl (q_pickF rfl hb125) <| WL.nil ?_
   exact QN.weaken (.o4 rfl (.one rfl (.nil _))) (Kj105 () (!t127) h)
theorem ref15_Made.con (k : Nat) (a0 : Types) (a1 : Draft) (r : Host) (h : ref15_Made k a0 a1 = some r) : Con Tryz.prog 25 [] [AggA [SlcA kNodeType a0.fNodes, SlcA kEdgeType a0.fEdges], AggA [SlcA kA2Int a1.fNodes, SlcA kA3Int a1.fEdges]] (RA (AggA [SlcA kInt r.fGraph.fNodes, SlcA kEdge r.fGraph.fEdges, SlcA (kSl kInt) r.fValues])) := by
 unfold ref15_Made at h
 refine Con.of (N := 188) Tryz.func25 rfl rfl rfl fun w0_ fg_ => sr <| p1 rfl 0 rfl (q_box rfl (CellsOf.agg _)) <| p1 rfl 1 rfl (q_box rfl (CellsOf.agg _)) <| WL.w [] rfl (Wanted.plain rfl) rfl rfl .nil (w_alloc rfl z32 (l := [EqA (.slice none 0 0), EqA (.slice none 0 0), EqA (.slice none 0 0)]) rfl) ?_
 rintro _ _ ⟨b100, rfl, rfl⟩
 refine nx <| WL.w [] rfl (Wanted.plain rfl) rfl rfl .nil (w_alloc rfl z32 (l := [EqA (.slice none 0 0), EqA (.slice none 0 0), EqA (.slice none 0 0)]) rfl) ?_
 rintro _ _ ⟨b101, rfl, rfl⟩
 refine nx <| lS rfl rfl sh25 rfl rfl ?_
 obtain ⟨t102, ht102, h⟩ := bind_s h
 refine p1 rfl 16 rfl (q_call (f := 67) (A := SlcA kInt t102) (xs := [.tmp 16]) («as» := [AggA [SlcA kNodeType a0.fNodes, SlcA kEdgeType a0.fEdges]]) rfl ca67 (ref15_concrete.con k a0 t102 ht102) rfl) <| av rfl rfl <| nt <| W.seq <| sr <| ak rfl <| nt <| W.block <| W.to (StTo.boxImp [0] rfl (.cons Imp.nilHd (.cons (Imp.id _) (.cons (Imp.id _) .nil)))) <| W.to (StTo.newNil 3 kInt) ?_
 refine W.to (StTo.boxImp [1] rfl (.cons (Imp.id _) (.cons (Imp.id _) (.cons Imp.nilHd .nil)))) <| W.to (StTo.newNil 26 (kSl kInt)) <| W.order [3, 1, 1, 0] rfl ?_
 refine W.loop3 (Γ := (Value × Value)) (fun (_ : (Value × Value)) (_ : (List Int)) (_ : (List (List Int))) (x7 : Int) => [(2, PtrA [SlcA kNodeType a0.fNodes, SlcA kEdgeType a0.fEdges]), (3, PtrA [SlcA kA2Int a1.fNodes, SlcA kA3Int a1.fEdges]), (4, EqA (.pointer (some ⟨b100, 0, none⟩))), (5, EqA (.pointer (some ⟨b101, 0, none⟩))), (6, SlcA kInt t102), (7, iA x7)]) (fun (g0 : (Value × Value)) (y0 : (List Int)) (y2 : (List (List Int))) (_ : Int) => [BoxE b100 [EqA (.slice none 0 0), EqA (.slice none 0 0), EqA (.slice none 0 0)], BoxE b101 [HdA g0.1, EqA (.slice none 0 0), HdA g0.2], SlE 3 g0.1 kInt y0, SlE 26 g0.2 (kSl kInt) y2]) h ((.slice none 0 0), (.slice none 0 0)) (.o4 rfl (.o2 rfl (.nil _))) rfl (fun rec0 K0 next0 g0 y0 y2 x7 h => ?_)
 unfold ref15_Made.b0 at h
 refine W.seq <| W.seq ?_
 refine W.jn1 (Γ := Unit) (fun (_ : Unit) (x31 : Bool) => [(2, PtrA [SlcA kNodeType a0.fNodes, SlcA kEdgeType a0.fEdges]), (3, PtrA [SlcA kA2Int a1.fNodes, SlcA kA3Int a1.fEdges]), (4, EqA (.pointer (some ⟨b100, 0, none⟩))), (5, EqA (.pointer (some ⟨b101, 0, none⟩))), (6, SlcA kInt t102), (7, iA x7), (31, bA x31)]) (fun (_ : Unit) (_ : Bool) => [BoxE b100 [EqA (.slice none 0 0), EqA (.slice none 0 0), EqA (.slice none 0 0)], BoxE b101 [HdA g0.1, EqA (.slice none 0 0), HdA g0.2], SlE 3 g0.1 kInt y0, SlE 26 g0.2 (kSl kInt) y2]) h (fun _ x31 h => ?_) (fun j805 Kj805 h => ?_)
 ·refine QN.then_ ?_
  refine W.condP h rfl (fun hb806 h => ?_) (fun hb806 h => ?_)
  ·refine W.skip <| QN.then_ <| W.seq <| W.block <| sr <| mv rfl rfl <| fd rfl rfl fo55_0 rfl <| ld rfl rfl sh52 <| mv rfl rfl ?_
   obtain ⟨c807, h⟩ := ite_n h
   refine p2 rfl 36 rfl 37 rfl (q_index rfl el52 rfl c807.1 c807.2) <| pk rfl 38 rfl (q_indexArr (i := 0) rfl ar122_0 rfl rfl) <| ld rfl rfl sh5 <| p1 rfl 40 rfl (q_conv rfl cv3 cvS5) <| mv rfl rfl <| p1 rfl 42 rfl (q_len rfl elS26) ?_
   obtain ⟨c808, h⟩ := ite_n h
   refine p2 rfl 41 rfl 43 rfl (q_rem rfl c808) ?_
   obtain ⟨c809, h⟩ := ite_n h
   refine p2 rfl 34 rfl 44 rfl (q_index rfl el26 rfl c809.1 c809.2) <| ld rfl rfl sh3 <| av rfl rfl <| WL.nil <| QN.weaken (env' := [(8, _), (7, _), (6, _), (5, _), (4, _), (3, _), (2, _)]) (.o4 rfl (.o2 rfl (.one rfl (.nil _)))) <| QN.then_ <| sr <| lS rfl rfl sh25 rfl rfl <| mv rfl rfl ?_
   obtain ⟨t810, ht810, h⟩ := bind_s h
   refine p2 rfl 48 rfl 49 rfl (q_call (f := 68) (A := TupA [SlcA kAttr t810.1, iA t810.2]) (xs := [.tmp 48, .tmp 49]) («as» := [AggA [SlcA kNodeType a0.fNodes, SlcA kEdgeType a0.fEdges], iA (rd t102 ((IntKind.i64.wrap ((rd a1.fNodes x7).e0)).tmod (t102.length : Int)))]) rfl ca68 (ref04_Attrs.con k a0 (rd t102 ((IntKind.i64.wrap ((rd a1.fNodes x7).e0)).tmod (t102.length : Int))) t810 ht810) rfl) <| mv rfl rfl <| p1 rfl 47 rfl (q_extract rfl rfl) <| p1 rfl 47 rfl (q_extract rfl rfl) <| av rfl rfl <| av rfl rfl <| WL.nil <| QN.weaken (env' := [(9, _), (8, _), (7, _), (6, _), (5, _), (4, _), (3, _), (2, _)]) (.o4 rfl (.o4 rfl (.nil _))) <| QN.then_ <| sr <| WL.w [] rfl (Wanted.plain rfl) rfl rfl .nil (w_lit (kd := kInt) (ps := []) (xs := []) («as» := []) (ys := []) rfl rfl el26 rfl gr3 rfl rfl rfl .nil) ?_
   rintro _ _ ⟨v811, rfl, rfl⟩
   refine av rfl rfl <| nt <| W.seq <| sr <| ak rfl <| nt <| W.block <| W.order [1, 1, 1, 1, 0] rfl ?_
   refine W.loop2 (Γ := Value) (fun (g1 : Value) (_ : (List Int)) (x12 : Int) => [(2, PtrA [SlcA kNodeType a0.fNodes, SlcA kEdgeType a0.fEdges]), (3, PtrA [SlcA kA2Int a1.fNodes, SlcA kA3Int a1.fEdges]), (4, EqA (.pointer (some ⟨b100, 0, none⟩))), (5, EqA (.pointer (some ⟨b101, 0, none⟩))), (6, SlcA kInt t102), (7, iA x7), (8, iA (rd t102 ((IntKind.i64.wrap ((rd a1.fNodes x7).e0)).tmod (t102.length : Int)))), (9, SlcA kAttr t810.1), (11, HdA g1), (12, iA x12)]) (fun (g1 : Value) (x11 : (List Int)) (_ : Int) => [BoxE b100 [EqA (.slice none 0 0), EqA (.slice none 0 0), EqA (.slice none 0 0)], BoxE b101 [HdA g0.1, EqA (.slice none 0 0), HdA g0.2], SlE 3 g0.1 kInt y0, SlE 26 g0.2 (kSl kInt) y2, SlE 3 g1 kInt x11]) h v811 (.o4 rfl (.o4 rfl (.o2 rfl (.nil _)))) rfl (fun rec1 K1 next1 g1 x11 x12 h => ?_)
   unfold ref15_Made.b1 at h
   refine W.seq <| sr <| mv rfl rfl <| mv rfl rfl <| p1 rfl 55 rfl (q_len rfl elS118) <| p2 rfl 54 rfl 56 rfl (q_int rfl rfl) <| nt ?_
   refine W.condP h rfl (fun hb934 h => ?_) (fun hb934 h => ?_)
   ·refine W.skip <| QN.then_ <| W.seq <| W.block <| W.drawK [(0, false), (1, false), (2, false), (3, false), (4, false), (5, false), (6, false), (7, false), (8, false), (9, false), (10, false), (11, false), (12, false), (13, false), (14, false), (15, false), (16, false), (17, false), (18, false), (19, false), (20, false), (21, false), (22, false), (23, false), (24, false), (25, false), (26, false), (27, false), (28, false), (29, false), (30, false)] [31, 32] (bm [0, 0, 0, 6, 14, 30, 0, 64, 0, 448, 960, 1984, 4032, 0, 8192, 32704, 0, 0, 196608, 458752, 983040, 0, 0, 6291456, 14680064, 31457280, 67043328, 134152192, 268435392, 536870910, 1073741822, 2147483647, 4294967295]) mx (by kernel_rfl) <| dm rfl rfl rfl <| dm rfl rfl rfl <| dm rfl rfl rfl ?_
    obtain ⟨c959, h⟩ := ite_n h
    refine DK.cons rfl rfl (.p rfl (.s 61 rfl (.s 62 rfl .nil)) rfl (q_index rfl el118 rfl c959.1 c959.2)) <| df rfl rfl rfl fo117_1 rfl <| dl rfl rfl rfl sh3 <| df rfl rfl rfl fo55_0 rfl <| dl rfl rfl rfl sh52 <| dm rfl rfl rfl ?_
    obtain ⟨c960, h⟩ := ite_n h
    refine DK.cons rfl rfl (.p rfl (.s 67 rfl (.s 68 rfl .nil)) rfl (q_index rfl el52 rfl c960.1 c960.2)) <| DK.cons rfl rfl (.p rfl (.s 69 rfl (.k .nil)) rfl (q_indexArr (i := 1) rfl ar122_1 rfl rfl)) <| dl rfl rfl rfl sh5 <| DK.cons rfl rfl (.p rfl (.s 71 rfl .nil) rfl (q_conv rfl cv3 cvS5)) <| dm rfl rfl rfl ?_
    obtain ⟨c961, h⟩ := ite_n h
    refine DK.cons rfl rfl (.p rfl (.k (.s 73 rfl .nil)) rfl (q_mulR rfl c961)) ?_
    obtain ⟨c962, h⟩ := ite_n h
    refine DK.cons rfl rfl (.p rfl (.s 72 rfl (.s 74 rfl .nil)) rfl (q_addR rfl c962)) <| dm rfl rfl rfl <| dm rfl rfl rfl ?_
    obtain ⟨c963, h⟩ := ite_n h
    refine DK.cons rfl rfl (.p rfl (.s 76 rfl (.s 77 rfl .nil)) rfl (q_index rfl el118 rfl c963.1 c963.2)) <| df rfl rfl rfl fo117_2 rfl <| dl rfl rfl rfl sh3 <| dm rfl rfl rfl <| dm rfl rfl rfl ?_
    obtain ⟨c964, h⟩ := ite_n h
    refine DK.cons rfl rfl (.p rfl (.s 81 rfl (.s 82 rfl .nil)) rfl (q_index rfl el118 rfl c964.1 c964.2)) <| df rfl rfl rfl fo117_1 rfl <| dl rfl rfl rfl sh3 ?_
    obtain ⟨c965, h⟩ := ite_n h
    refine DK.cons rfl rfl (.p rfl (.s 80 rfl (.s 85 rfl .nil)) rfl (q_subR rfl c965)) ?_
    obtain ⟨c966, h⟩ := ite_n h
    refine DK.cons rfl rfl (.p rfl (.s 86 rfl (.k .nil)) rfl (q_addR rfl c966)) ?_
    obtain ⟨c967, h⟩ := ite_n h
    refine DK.cons rfl rfl (.p rfl (.s 75 rfl (.s 87 rfl .nil)) rfl (q_rem rfl c967)) ?_
    obtain ⟨c968, h⟩ := ite_n h
    refine DK.cons rfl rfl (.p rfl (.s 65 rfl (.s 88 rfl .nil)) rfl (q_addR rfl c968)) <| DK.cons rfl rfl (.p rfl (.s 89 rfl .nil) rfl (q_lit (kd := kInt) (ps := [(0, .tmp 89)]) (xs := [.tmp 89]) («as» := [iA ((rd t810.1 x12).fLow + (((IntKind.i64.wrap ((rd a1.fNodes x7).e1)) + (7 * x12)).tmod (((rd t810.1 x12).fHigh - (rd t810.1 x12).fLow) + 1)))]) (ys := [((rd t810.1 x12).fLow + (((IntKind.i64.wrap ((rd a1.fNodes x7).e1)) + (7 * x12)).tmod (((rd t810.1 x12).fHigh - (rd t810.1 x12).fLow) + 1)))]) rfl rfl el26 rfl gr3 rfl rfl rfl (.cons (CellsOf.one rfl) .nil))) ?_
    obtain ⟨c969, h⟩ := ite_n h
    refine DK.nil <| CSteps.w [4] rfl rfl rfl rfl (.s 60 rfl (.s 90 rfl .nil)) rfl (w_append (kd := kInt) rfl el26 rfl gr3 c969) ?_
    rintro _ _ ⟨v970, rfl, rfl⟩
    refine CSteps.p rfl rfl rfl (.s 91 rfl .nil) rfl (q_assign rfl) <| CSteps.nil <| QN.block <| QN.weaken (env' := [(11, _), (12, _), (9, _), (8, _), (7, _), (6, _), (5, _), (4, _), (3, _), (2, _)]) (.o4 rfl (.o4 rfl (.o2 rfl (.nil _)))) <| QN.then_ <| W.region <| mv rfl rfl ?_
    obtain ⟨c971, h⟩ := ite_n h
    refine pk rfl 58 rfl (q_addR rfl c971) <| av rfl rfl <| WL.nil <| QN.order [1, 1, 1, 1, 0] rfl ?_
    exact next1 v970 (x11 ++ [((rd t810.1 x12).fLow + (((IntKind.i64.wrap ((rd a1.fNodes x7).e1)) + (7 * x12)).tmod (((rd t810.1 x12).fHigh - (rd t810.1 x12).fLow) + 1)))]) (x12 + 1) _ h (.o4 rfl (.o4 rfl (.o2 rfl (.nil _))))
   ·refine W.exit <| QX.then_ <| QX.then_ <| QX.here <| QN.then_ <| W.to (StTo.freeze [4] 11 rfl rfl) ?_
    refine W.jn0 (Γ := (Value × Value)) (fun (_ : (Value × Value)) => [(2, PtrA [SlcA kNodeType a0.fNodes, SlcA kEdgeType a0.fEdges]), (3, PtrA [SlcA kA2Int a1.fNodes, SlcA kA3Int a1.fEdges]), (4, EqA (.pointer (some ⟨b100, 0, none⟩))), (5, EqA (.pointer (some ⟨b101, 0, none⟩))), (6, SlcA kInt t102), (7, iA x7)]) (fun (g982 : (Value × Value)) => [BoxE b100 [EqA (.slice none 0 0), EqA (.slice none 0 0), EqA (.slice none 0 0)], BoxE b101 [HdA g982.1, EqA (.slice none 0 0), HdA g982.2], SlE 3 g982.1 kInt (y0 ++ [(rd t102 ((IntKind.i64.wrap ((rd a1.fNodes x7).e0)).tmod (t102.length : Int)))]), SlE 26 g982.2 (kSl kInt) (y2 ++ [x11])]) h (fun g982 h => ?_) (fun j987 Kj987 h => ?_)
    ·refine QN.block <| QN.then_ <| W.region <| mv rfl rfl ?_
     obtain ⟨c988, h⟩ := ite_n h
     refine pk rfl 32 rfl (q_addR rfl c988) <| av rfl rfl <| WL.nil ?_
     exact next0 (g982.1, g982.2) (y0 ++ [(rd t102 ((IntKind.i64.wrap ((rd a1.fNodes x7).e0)).tmod (t102.length : Int)))]) (y2 ++ [x11]) (x7 + 1) _ h (.o4 rfl (.o2 rfl (.nil _)))
    ·refine W.drawKT [(0, false), (1, false), (3, false), (4, false), (6, false), (8, false), (9, false)] [2, 5, 7, 10, 11, 12, 13, 14, 15] [11, 12, 14] 9 [[], [0], [0, 1], [], [3], [0, 1, 2, 3, 4], [], [6], [], [8], [0, 1, 2, 3, 4, 5, 6, 7, 8, 9], [0, 1, 2, 3, 4, 5, 6, 7], [0, 1, 2, 3, 4, 5, 6, 7, 11], [0, 1, 2, 3, 4, 5, 6, 7, 8, 9, 10, 11, 12], [0, 1, 2, 3, 4, 5, 6, 7, 8, 9, 10, 11, 12, 13], [0, 1, 2, 3, 4, 5, 6, 7, 8, 9, 10, 11, 12, 13, 14]] mx (by kernel_rfl) <| DKT.cons rfl rfl (.p rfl (.s 5 rfl .nil) rfl (q_fieldP rfl fo32_0)) <| DKT.cons rfl rfl (.p rfl (.s 92 rfl .nil) rfl (q_fieldP rfl fo29_0)) <| DKT.cons rfl rfl (.p rfl (.s 8 rfl .nil) rfl (q_move rfl)) <| DKT.cons rfl rfl (.p rfl (.s 95 rfl .nil) rfl (q_lit (kd := kInt) (ps := [(0, .tmp 95)]) (xs := [.tmp 95]) («as» := [iA (rd t102 ((IntKind.i64.wrap ((rd a1.fNodes x7).e0)).tmod (t102.length : Int)))]) (ys := [(rd t102 ((IntKind.i64.wrap ((rd a1.fNodes x7).e0)).tmod (t102.length : Int)))]) rfl rfl el26 rfl gr3 rfl rfl rfl (.cons (CellsOf.one rfl) .nil))) ?_
     obtain ⟨c989, h⟩ := ite_n h
     refine DKT.cons rfl rfl (.p rfl (.s 5 rfl .nil) rfl (q_fieldP rfl fo32_1)) <| DKT.cons rfl rfl (.p rfl (.s 11 rfl .nil) rfl (q_move rfl)) <| DKT.cons rfl rfl (.p rfl (.s 100 rfl .nil) rfl (q_lit (kd := (kSl kInt)) (ps := [(0, .tmp 100)]) (xs := [.tmp 100]) («as» := [SlcA kInt x11]) (ys := [x11]) rfl rfl el30 rfl gr26 rfl rfl rfl (.cons (CellsOf.one rfl) .nil))) ?_
     obtain ⟨c991, h⟩ := ite_n h
     refine DKT.nil <| CT.step ?_
     refine CTc.yes rfl ?_ ?_
     ·refine CStep1.ro [1] (fun h => absurd h (by decide)) rfl rfl rfl rfl (.s 93 rfl .nil) rfl (fun _ => (q_loadB rfl sh26 (i := 0) rfl rfl)) <| CT.list (l' := [5, 7, 10, 11, 12, 13, 14, 15]) rfl <| CT.step ?_
      refine CTc.yes rfl ?_ ?_
      ·refine CStep1.w [2] (fun h => absurd h (by decide)) rfl rfl rfl rfl (.s 94 rfl (.s 96 rfl .nil)) rfl (w_append (kd := kInt) rfl el26 rfl gr3 c989) ?_
       rintro _ _ ⟨v990, rfl, rfl⟩
       refine CT.list (l' := [7, 10, 11, 12, 13, 14, 15]) rfl <| CT.step ?_
       refine CTc.yes rfl ?_ ?_
       ·refine CStep1.ro [1] (fun h => absurd h (by decide)) rfl rfl rfl rfl (.s 98 rfl .nil) rfl (fun _ => (q_loadB rfl sh30 (i := 0) rfl rfl)) <| CT.list (l' := [10, 11, 12, 13, 14, 15]) rfl <| CT.step ?_
        refine CTc.yes rfl ?_ ?_
        ·refine CStep1.w [3] (fun h => absurd h (by decide)) rfl rfl rfl rfl (.s 99 rfl (.s 101 rfl .nil)) rfl (w_append (kd := (kSl kInt)) rfl el30 rfl gr26 c991) ?_
         rintro _ _ ⟨v992, rfl, rfl⟩
         refine CT.list (l' := [11, 12, 13, 14, 15]) rfl <| CT.step ?_
         refine CTc.yes rfl ?_ ?_
         ·refine CStep1.p rfl rfl rfl (.s 5 rfl .nil) rfl (q_fieldP rfl fo32_0) <| CT.list (l' := [12, 13, 14, 15]) rfl <| CT.step ?_
          refine CTc.yes rfl ?_ ?_
          ·refine CStep1.p rfl rfl rfl (.s 103 rfl .nil) rfl (q_fieldP rfl fo29_0) <| CT.list (l' := [13, 14, 15]) rfl <| CT.step ?_
           refine CTc.yes rfl ?_ ?_
           ·refine CStep1.w0 [1] (fun h => absurd h (by decide)) rfl rfl rfl (.s 104 rfl (.s 97 rfl .nil)) rfl (w_store (L := [HdA v990, EqA (.slice none 0 0), HdA g0.2]) rfl sh26 (CellsOf.one rfl) rfl rfl (leB rfl) rfl) ?_
            rintro _ _ ⟨rfl, rfl⟩
            refine CT.list (l' := [14, 15]) rfl <| CT.step ?_
            refine CTc.yes rfl ?_ ?_
            ·refine CStep1.p rfl rfl rfl (.s 5 rfl .nil) rfl (q_fieldP rfl fo32_1) <| CT.list (l' := [15]) rfl <| CT.step ?_
             refine CTc.yes rfl ?_ ?_
             ·refine CStep1.w0 [0] (fun h => absurd h (by decide)) rfl rfl rfl (.s 105 rfl (.s 102 rfl .nil)) rfl (w_store (L := [HdA v990, EqA (.slice none 0 0), HdA v992]) rfl sh30 (CellsOf.one rfl) rfl rfl (leB rfl) rfl) ?_
              rintro _ _ ⟨rfl, rfl⟩
              refine CT.list (l' := []) rfl <| CT.nil <| QN.order [3, 0, 1, 0] rfl ?_
              exact QN.weaken (.o4 rfl (.o2 rfl (.nil _))) (Kj987 (v990, v992) h)
             exact CTc.end
            refine CTc.no rfl ?_
            exact CTc.end
           refine CTc.no rfl <| CTc.no rfl ?_
           exact CTc.end
          refine CTc.no rfl <| CTc.no rfl <| CTc.no rfl ?_
          exact CTc.end
         refine CTc.no rfl <| CTc.no rfl <| CTc.no rfl <| CTc.no rfl ?_
         exact CTc.end
        refine CTc.yes rfl ?_ ?_
        ·refine CStep1.p rfl rfl rfl (.s 5 rfl .nil) rfl (q_fieldP rfl fo32_0) <| CT.list (l' := [10, 12, 13, 14, 15]) rfl <| CT.step ?_
         refine CTc.yes rfl ?_ ?_
         ·refine CStep1.w [3] (fun h => absurd h (by decide)) rfl rfl rfl rfl (.s 99 rfl (.s 101 rfl .nil)) rfl (w_append (kd := (kSl kInt)) rfl el30 rfl gr26 c991) ?_
          rintro _ _ ⟨v992, rfl, rfl⟩
          refine CT.list (l' := [12, 13, 14, 15]) rfl <| CT.step ?_
          refine CTc.yes rfl ?_ ?_
          ·refine CStep1.p rfl rfl rfl (.s 103 rfl .nil) rfl (q_fieldP rfl fo29_0) <| CT.list (l' := [13, 14, 15]) rfl <| CT.step ?_
           refine CTc.yes rfl ?_ ?_
           ·refine CStep1.w0 [1] (fun h => absurd h (by decide)) rfl rfl rfl (.s 104 rfl (.s 97 rfl .nil)) rfl (w_store (L := [HdA v990, EqA (.slice none 0 0), HdA g0.2]) rfl sh26 (CellsOf.one rfl) rfl rfl (leB rfl) rfl) ?_
            rintro _ _ ⟨rfl, rfl⟩
            refine CT.list (l' := [14, 15]) rfl <| CT.step ?_
            refine CTc.yes rfl ?_ ?_
            ·refine CStep1.p rfl rfl rfl (.s 5 rfl .nil) rfl (q_fieldP rfl fo32_1) <| CT.list (l' := [15]) rfl <| CT.step ?_
             refine CTc.yes rfl ?_ ?_
             ·refine CStep1.w0 [0] (fun h => absurd h (by decide)) rfl rfl rfl (.s 105 rfl (.s 102 rfl .nil)) rfl (w_store (L := [HdA v990, EqA (.slice none 0 0), HdA v992]) rfl sh30 (CellsOf.one rfl) rfl rfl (leB rfl) rfl) ?_
              rintro _ _ ⟨rfl, rfl⟩
              refine CT.list (l' := []) rfl <| CT.nil <| QN.order [3, 0, 1, 0] rfl ?_
              exact QN.weaken (.o4 rfl (.o2 rfl (.nil _))) (Kj987 (v990, v992) h)
             exact CTc.end
            refine CTc.no rfl ?_
            exact CTc.end
           refine CTc.no rfl <| CTc.no rfl ?_
           exact CTc.end
          refine CTc.no rfl <| CTc.no rfl <| CTc.no rfl ?_
          exact CTc.end
         refine CTc.yes rfl ?_ ?_
         ·refine CStep1.p rfl rfl rfl (.s 103 rfl .nil) rfl (q_fieldP rfl fo29_0) <| CT.list (l' := [10, 13, 14, 15]) rfl <| CT.step ?_
          refine CTc.yes rfl ?_ ?_
          ·refine CStep1.w [3] (fun h => absurd h (by decide)) rfl rfl rfl rfl (.s 99 rfl (.s 101 rfl .nil)) rfl (w_append (kd := (kSl kInt)) rfl el30 rfl gr26 c991) ?_
           rintro _ _ ⟨v992, rfl, rfl⟩
           refine CT.list (l' := [13, 14, 15]) rfl <| CT.step ?_
           refine CTc.yes rfl ?_ ?_
           ·refine CStep1.w0 [1] (fun h => absurd h (by decide)) rfl rfl rfl (.s 104 rfl (.s 97 rfl .nil)) rfl (w_store (L := [HdA v990, EqA (.slice none 0 0), HdA g0.2]) rfl sh26 (CellsOf.one rfl) rfl rfl (leB rfl) rfl) ?_
            rintro _ _ ⟨rfl, rfl⟩
            refine CT.list (l' := [14, 15]) rfl <| CT.step ?_
            refine CTc.yes rfl ?_ ?_
            ·refine CStep1.p rfl rfl rfl (.s 5 rfl .nil) rfl (q_fieldP rfl fo32_1) <| CT.list (l' := [15]) rfl <| CT.step ?_
             refine CTc.yes rfl ?_ ?_
             ·refine CStep1.w0 [0] (fun h => absurd h (by decide)) rfl rfl rfl (.s 105 rfl (.s 102 rfl .nil)) rfl (w_store (L := [HdA v990, EqA (.slice none 0 0), HdA v992]) rfl sh30 (CellsOf.one rfl) rfl rfl (leB rfl) rfl) ?_
              rintro _ _ ⟨rfl, rfl⟩
              refine CT.list (l' := []) rfl <| CT.nil <| QN.order [3, 0, 1, 0] rfl ?_
              exact QN.weaken (.o4 rfl (.o2 rfl (.nil _))) (Kj987 (v990, v992) h)
             exact CTc.end
            refine CTc.no rfl ?_
            exact CTc.end
           refine CTc.no rfl <| CTc.no rfl ?_
           exact CTc.end
          refine CTc.no rfl <| CTc.no rfl <| CTc.no rfl ?_
          exact CTc.end
         refine CTc.no rfl <| CTc.no rfl <| CTc.no rfl ?_
         exact CTc.end
        refine CTc.no rfl <| CTc.no rfl <| CTc.no rfl <| CTc.no rfl ?_
        exact CTc.end
       refine CTc.no rfl <| CTc.no rfl <| CTc.no rfl <| CTc.no rfl <| CTc.no rfl <| CTc.no rfl ?_
       exact CTc.end
      refine CTc.yes rfl ?_ ?_
      ·refine CStep1.ro [0] (fun h => absurd h (by decide)) rfl rfl rfl rfl (.s 98 rfl .nil) rfl (fun _ => (q_loadB rfl sh30 (i := 0) rfl rfl)) <| CT.list (l' := [5, 10, 11, 12, 13, 14, 15]) rfl <| CT.step ?_
       refine CTc.yes rfl ?_ ?_
       ·refine CStep1.w [2] (fun h => absurd h (by decide)) rfl rfl rfl rfl (.s 94 rfl (.s 96 rfl .nil)) rfl (w_append (kd := kInt) rfl el26 rfl gr3 c989) ?_
        rintro _ _ ⟨v990, rfl, rfl⟩
        refine CT.list (l' := [10, 11, 12, 13, 14, 15]) rfl <| CT.step ?_
        refine CTc.yes rfl ?_ ?_
        ·refine CStep1.w [3] (fun h => absurd h (by decide)) rfl rfl rfl rfl (.s 99 rfl (.s 101 rfl .nil)) rfl (w_append (kd := (kSl kInt)) rfl el30 rfl gr26 c991) ?_
         rintro _ _ ⟨v992, rfl, rfl⟩
         refine CT.list (l' := [11, 12, 13, 14, 15]) rfl <| CT.step ?_
         refine CTc.yes rfl ?_ ?_
         ·refine CStep1.p rfl rfl rfl (.s 5 rfl .nil) rfl (q_fieldP rfl fo32_0) <| CT.list (l' := [12, 13, 14, 15]) rfl <| CT.step ?_
          refine CTc.yes rfl ?_ ?_
          ·refine CStep1.p rfl rfl rfl (.s 103 rfl .nil) rfl (q_fieldP rfl fo29_0) <| CT.list (l' := [13, 14, 15]) rfl <| CT.step ?_
           refine CTc.yes rfl ?_ ?_
           ·refine CStep1.w0 [2] (fun h => absurd h (by decide)) rfl rfl rfl (.s 104 rfl (.s 97 rfl .nil)) rfl (w_store (L := [HdA v990, EqA (.slice none 0 0), HdA g0.2]) rfl sh26 (CellsOf.one rfl) rfl rfl (leB rfl) rfl) ?_
            rintro _ _ ⟨rfl, rfl⟩
            refine CT.list (l' := [14, 15]) rfl <| CT.step ?_
            refine CTc.yes rfl ?_ ?_
            ·refine CStep1.p rfl rfl rfl (.s 5 rfl .nil) rfl (q_fieldP rfl fo32_1) <| CT.list (l' := [15]) rfl <| CT.step ?_
             refine CTc.yes rfl ?_ ?_
             ·refine CStep1.w0 [0] (fun h => absurd h (by decide)) rfl rfl rfl (.s 105 rfl (.s 102 rfl .nil)) rfl (w_store (L := [HdA v990, EqA (.slice none 0 0), HdA v992]) rfl sh30 (CellsOf.one rfl) rfl rfl (leB rfl) rfl) ?_
              rintro _ _ ⟨rfl, rfl⟩
              refine CT.list (l' := []) rfl <| CT.nil <| QN.order [3, 0, 1, 0] rfl ?_
              exact QN.weaken (.o4 rfl (.o2 rfl (.nil _))) (Kj987 (v990, v992) h)
             exact CTc.end
            refine CTc.no rfl ?_
            exact CTc.end
           refine CTc.no rfl <| CTc.no rfl ?_
           exact CTc.end
          refine CTc.no rfl <| CTc.no rfl <| CTc.no rfl ?_
          exact CTc.end
         refine CTc.no rfl <| CTc.no rfl <| CTc.no rfl <| CTc.no rfl ?_
         exact CTc.end
        refine CTc.yes rfl ?_ ?_
        ·refine CStep1.p rfl rfl rfl (.s 5 rfl .nil) rfl (q_fieldP rfl fo32_0) <| CT.list (l' := [10, 12, 13, 14, 15]) rfl <| CT.step ?_
         refine CTc.yes rfl ?_ ?_
         ·refine CStep1.w [3] (fun h => absurd h (by decide)) rfl rfl rfl rfl (.s 99 rfl (.s 101 rfl .nil)) rfl (w_append (kd := (kSl kInt)) rfl el30 rfl gr26 c991) ?_
          rintro _ _ ⟨v992, rfl, rfl⟩
          refine CT.list (l' := [12, 13, 14, 15]) rfl <| CT.step ?_
          refine CTc.yes rfl ?_ ?_
          ·refine CStep1.p rfl rfl rfl (.s 103 rfl .nil) rfl (q_fieldP rfl fo29_0) <| CT.list (l' := [13, 14, 15]) rfl <| CT.step ?_
           refine CTc.yes rfl ?_ ?_
           ·refine CStep1.w0 [2] (fun h => absurd h (by decide)) rfl rfl rfl (.s 104 rfl (.s 97 rfl .nil)) rfl (w_store (L := [HdA v990, EqA (.slice none 0 0), HdA g0.2]) rfl sh26 (CellsOf.one rfl) rfl rfl (leB rfl) rfl) ?_
            rintro _ _ ⟨rfl, rfl⟩
            refine CT.list (l' := [14, 15]) rfl <| CT.step ?_
            refine CTc.yes rfl ?_ ?_
            ·refine CStep1.p rfl rfl rfl (.s 5 rfl .nil) rfl (q_fieldP rfl fo32_1) <| CT.list (l' := [15]) rfl <| CT.step ?_
             refine CTc.yes rfl ?_ ?_
             ·refine CStep1.w0 [0] (fun h => absurd h (by decide)) rfl rfl rfl (.s 105 rfl (.s 102 rfl .nil)) rfl (w_store (L := [HdA v990, EqA (.slice none 0 0), HdA v992]) rfl sh30 (CellsOf.one rfl) rfl rfl (leB rfl) rfl) ?_
              rintro _ _ ⟨rfl, rfl⟩
              refine CT.list (l' := []) rfl <| CT.nil <| QN.order [3, 0, 1, 0] rfl ?_
              exact QN.weaken (.o4 rfl (.o2 rfl (.nil _))) (Kj987 (v990, v992) h)
             exact CTc.end
            refine CTc.no rfl ?_
            exact CTc.end
           refine CTc.no rfl <| CTc.no rfl ?_
           exact CTc.end
          refine CTc.no rfl <| CTc.no rfl <| CTc.no rfl ?_
          exact CTc.end
         refine CTc.yes rfl ?_ ?_
         ·refine CStep1.p rfl rfl rfl (.s 103 rfl .nil) rfl (q_fieldP rfl fo29_0) <| CT.list (l' := [10, 13, 14, 15]) rfl <| CT.step ?_
          refine CTc.yes rfl ?_ ?_
          ·refine CStep1.w [3] (fun h => absurd h (by decide)) rfl rfl rfl rfl (.s 99 rfl (.s 101 rfl .nil)) rfl (w_append (kd := (kSl kInt)) rfl el30 rfl gr26 c991) ?_
           rintro _ _ ⟨v992, rfl, rfl⟩
           refine CT.list (l' := [13, 14, 15]) rfl <| CT.step ?_
           refine CTc.yes rfl ?_ ?_
           ·refine CStep1.w0 [2] (fun h => absurd h (by decide)) rfl rfl rfl (.s 104 rfl (.s 97 rfl .nil)) rfl (w_store (L := [HdA v990, EqA (.slice none 0 0), HdA g0.2]) rfl sh26 (CellsOf.one rfl) rfl rfl (leB rfl) rfl) ?_
            rintro _ _ ⟨rfl, rfl⟩
            refine CT.list (l' := [14, 15]) rfl <| CT.step ?_
            refine CTc.yes rfl ?_ ?_
            ·refine CStep1.p rfl rfl rfl (.s 5 rfl .nil) rfl (q_fieldP rfl fo32_1) <| CT.list (l' := [15]) rfl <| CT.step ?_
             refine CTc.yes rfl ?_ ?_
             ·refine CStep1.w0 [0] (fun h => absurd h (by decide)) rfl rfl rfl (.s 105 rfl (.s 102 rfl .nil)) rfl (w_store (L := [HdA v990, EqA (.slice none 0 0), HdA v992]) rfl sh30 (CellsOf.one rfl) rfl rfl (leB rfl) rfl) ?_
              rintro _ _ ⟨rfl, rfl⟩
              refine CT.list (l' := []) rfl <| CT.nil <| QN.order [3, 0, 1, 0] rfl ?_
              exact QN.weaken (.o4 rfl (.o2 rfl (.nil _))) (Kj987 (v990, v992) h)
             exact CTc.end
            refine CTc.no rfl ?_
            exact CTc.end
           refine CTc.no rfl <| CTc.no rfl ?_
           exact CTc.end
          refine CTc.no rfl <| CTc.no rfl <| CTc.no rfl ?_
          exact CTc.end
         refine CTc.no rfl <| CTc.no rfl <| CTc.no rfl ?_
         exact CTc.end
        refine CTc.no rfl <| CTc.no rfl <| CTc.no rfl <| CTc.no rfl ?_
        exact CTc.end
       refine CTc.no rfl <| CTc.no rfl <| CTc.no rfl <| CTc.no rfl <| CTc.no rfl <| CTc.no rfl ?_
       exact CTc.end
      refine CTc.no rfl <| CTc.no rfl <| CTc.no rfl <| CTc.no rfl <| CTc.no rfl <| CTc.no rfl ?_
      exact CTc.end
     refine CTc.no rfl ?_
     refine CTc.yes rfl ?_ ?_
     ·refine CStep1.ro [1] (fun h => absurd h (by decide)) rfl rfl rfl rfl (.s 98 rfl .nil) rfl (fun _ => (q_loadB rfl sh30 (i := 0) rfl rfl)) <| CT.list (l' := [2, 5, 10, 11, 12, 13, 14, 15]) rfl <| CT.step ?_
      refine CTc.yes rfl ?_ ?_
      ·refine CStep1.ro [0] (fun h => absurd h (by decide)) rfl rfl rfl rfl (.s 93 rfl .nil) rfl (fun _ => (q_loadB rfl sh26 (i := 0) rfl rfl)) <| CT.list (l' := [5, 10, 11, 12, 13, 14, 15]) rfl <| CT.step ?_
       refine CTc.yes rfl ?_ ?_
       ·refine CStep1.w [2] (fun h => absurd h (by decide)) rfl rfl rfl rfl (.s 94 rfl (.s 96 rfl .nil)) rfl (w_append (kd := kInt) rfl el26 rfl gr3 c989) ?_
        rintro _ _ ⟨v990, rfl, rfl⟩
        refine CT.list (l' := [10, 11, 12, 13, 14, 15]) rfl <| CT.step ?_
        refine CTc.yes rfl ?_ ?_
        ·refine CStep1.w [3] (fun h => absurd h (by decide)) rfl rfl rfl rfl (.s 99 rfl (.s 101 rfl .nil)) rfl (w_append (kd := (kSl kInt)) rfl el30 rfl gr26 c991) ?_
         rintro _ _ ⟨v992, rfl, rfl⟩
         refine CT.list (l' := [11, 12, 13, 14, 15]) rfl <| CT.step ?_
         refine CTc.yes rfl ?_ ?_
         ·refine CStep1.p rfl rfl rfl (.s 5 rfl .nil) rfl (q_fieldP rfl fo32_0) <| CT.list (l' := [12, 13, 14, 15]) rfl <| CT.step ?_
          refine CTc.yes rfl ?_ ?_
          ·refine CStep1.p rfl rfl rfl (.s 103 rfl .nil) rfl (q_fieldP rfl fo29_0) <| CT.list (l' := [13, 14, 15]) rfl <| CT.step ?_
           refine CTc.yes rfl ?_ ?_
           ·refine CStep1.w0 [2] (fun h => absurd h (by decide)) rfl rfl rfl (.s 104 rfl (.s 97 rfl .nil)) rfl (w_store (L := [HdA v990, EqA (.slice none 0 0), HdA g0.2]) rfl sh26 (CellsOf.one rfl) rfl rfl (leB rfl) rfl) ?_
            rintro _ _ ⟨rfl, rfl⟩
            refine CT.list (l' := [14, 15]) rfl <| CT.step ?_
            refine CTc.yes rfl ?_ ?_
            ·refine CStep1.p rfl rfl rfl (.s 5 rfl .nil) rfl (q_fieldP rfl fo32_1) <| CT.list (l' := [15]) rfl <| CT.step ?_
             refine CTc.yes rfl ?_ ?_
             ·refine CStep1.w0 [0] (fun h => absurd h (by decide)) rfl rfl rfl (.s 105 rfl (.s 102 rfl .nil)) rfl (w_store (L := [HdA v990, EqA (.slice none 0 0), HdA v992]) rfl sh30 (CellsOf.one rfl) rfl rfl (leB rfl) rfl) ?_
              rintro _ _ ⟨rfl, rfl⟩
              refine CT.list (l' := []) rfl <| CT.nil <| QN.order [3, 0, 1, 0] rfl ?_
              exact QN.weaken (.o4 rfl (.o2 rfl (.nil _))) (Kj987 (v990, v992) h)
             exact CTc.end
            refine CTc.no rfl ?_
            exact CTc.end
           refine CTc.no rfl <| CTc.no rfl ?_
           exact CTc.end
          refine CTc.no rfl <| CTc.no rfl <| CTc.no rfl ?_
          exact CTc.end
         refine CTc.no rfl <| CTc.no rfl <| CTc.no rfl <| CTc.no rfl ?_
         exact CTc.end
        refine CTc.yes rfl ?_ ?_
        ·refine CStep1.p rfl rfl rfl (.s 5 rfl .nil) rfl (q_fieldP rfl fo32_0) <| CT.list (l' := [10, 12, 13, 14, 15]) rfl <| CT.step ?_
         refine CTc.yes rfl ?_ ?_
         ·refine CStep1.w [3] (fun h => absurd h (by decide)) rfl rfl rfl rfl (.s 99 rfl (.s 101 rfl .nil)) rfl (w_append (kd := (kSl kInt)) rfl el30 rfl gr26 c991) ?_
          rintro _ _ ⟨v992, rfl, rfl⟩
          refine CT.list (l' := [12, 13, 14, 15]) rfl <| CT.step ?_
          refine CTc.yes rfl ?_ ?_
          ·refine CStep1.p rfl rfl rfl (.s 103 rfl .nil) rfl (q_fieldP rfl fo29_0) <| CT.list (l' := [13, 14, 15]) rfl <| CT.step ?_
           refine CTc.yes rfl ?_ ?_
           ·refine CStep1.w0 [2] (fun h => absurd h (by decide)) rfl rfl rfl (.s 104 rfl (.s 97 rfl .nil)) rfl (w_store (L := [HdA v990, EqA (.slice none 0 0), HdA g0.2]) rfl sh26 (CellsOf.one rfl) rfl rfl (leB rfl) rfl) ?_
            rintro _ _ ⟨rfl, rfl⟩
            refine CT.list (l' := [14, 15]) rfl <| CT.step ?_
            refine CTc.yes rfl ?_ ?_
            ·refine CStep1.p rfl rfl rfl (.s 5 rfl .nil) rfl (q_fieldP rfl fo32_1) <| CT.list (l' := [15]) rfl <| CT.step ?_
             refine CTc.yes rfl ?_ ?_
             ·refine CStep1.w0 [0] (fun h => absurd h (by decide)) rfl rfl rfl (.s 105 rfl (.s 102 rfl .nil)) rfl (w_store (L := [HdA v990, EqA (.slice none 0 0), HdA v992]) rfl sh30 (CellsOf.one rfl) rfl rfl (leB rfl) rfl) ?_
              rintro _ _ ⟨rfl, rfl⟩
              refine CT.list (l' := []) rfl <| CT.nil <| QN.order [3, 0, 1, 0] rfl ?_
              exact QN.weaken (.o4 rfl (.o2 rfl (.nil _))) (Kj987 (v990, v992) h)
             exact CTc.end
            refine CTc.no rfl ?_
            exact CTc.end
           refine CTc.no rfl <| CTc.no rfl ?_
           exact CTc.end
          refine CTc.no rfl <| CTc.no rfl <| CTc.no rfl ?_
          exact CTc.end
         refine CTc.yes rfl ?_ ?_
         ·refine CStep1.p rfl rfl rfl (.s 103 rfl .nil) rfl (q_fieldP rfl fo29_0) <| CT.list (l' := [10, 13, 14, 15]) rfl <| CT.step ?_
          refine CTc.yes rfl ?_ ?_
          ·refine CStep1.w [3] (fun h => absurd h (by decide)) rfl rfl rfl rfl (.s 99 rfl (.s 101 rfl .nil)) rfl (w_append (kd := (kSl kInt)) rfl el30 rfl gr26 c991) ?_
           rintro _ _ ⟨v992, rfl, rfl⟩
           refine CT.list (l' := [13, 14, 15]) rfl <| CT.step ?_
           refine CTc.yes rfl ?_ ?_
           ·refine CStep1.w0 [2] (fun h => absurd h (by decide)) rfl rfl rfl (.s 104 rfl (.s 97 rfl .nil)) rfl (w_store (L := [HdA v990, EqA (.slice none 0 0), HdA g0.2]) rfl sh26 (CellsOf.one rfl) rfl rfl (leB rfl) rfl) ?_
            rintro _ _ ⟨rfl, rfl⟩
            refine CT.list (l' := [14, 15]) rfl <| CT.step ?_
            refine CTc.yes rfl ?_ ?_
            ·refine CStep1.p rfl rfl rfl (.s 5 rfl .nil) rfl (q_fieldP rfl fo32_1) <| CT.list (l' := [15]) rfl <| CT.step ?_
             refine CTc.yes rfl ?_ ?_
             ·refine CStep1.w0 [0] (fun h => absurd h (by decide)) rfl rfl rfl (.s 105 rfl (.s 102 rfl .nil)) rfl (w_store (L := [HdA v990, EqA (.slice none 0 0), HdA v992]) rfl sh30 (CellsOf.one rfl) rfl rfl (leB rfl) rfl) ?_
              rintro _ _ ⟨rfl, rfl⟩
              refine CT.list (l' := []) rfl <| CT.nil <| QN.order [3, 0, 1, 0] rfl ?_
              exact QN.weaken (.o4 rfl (.o2 rfl (.nil _))) (Kj987 (v990, v992) h)
             exact CTc.end
            refine CTc.no rfl ?_
            exact CTc.end
           refine CTc.no rfl <| CTc.no rfl ?_
           exact CTc.end
          refine CTc.no rfl <| CTc.no rfl <| CTc.no rfl ?_
          exact CTc.end
         refine CTc.no rfl <| CTc.no rfl <| CTc.no rfl ?_
         exact CTc.end
        refine CTc.no rfl <| CTc.no rfl <| CTc.no rfl <| CTc.no rfl ?_
        exact CTc.end
       refine CTc.no rfl <| CTc.no rfl <| CTc.no rfl <| CTc.no rfl <| CTc.no rfl <| CTc.no rfl ?_
       exact CTc.end
      refine CTc.no rfl <| CTc.no rfl <| CTc.no rfl <| CTc.no rfl <| CTc.no rfl <| CTc.no rfl <| CTc.no rfl ?_
      exact CTc.end
     refine CTc.no rfl <| CTc.no rfl <| CTc.no rfl <| CTc.no rfl <| CTc.no rfl <| CTc.no rfl ?_
     exact CTc.end
  ·refine W.exit <| QX.then_ <| QX.then_ <| QX.here <| QN.then_ <| sr <| p1 rfl 5 rfl (q_fieldP rfl fo32_0) <| p1 rfl 106 rfl (q_fieldP rfl fo29_0) <| WL.q (Wanted.plain rfl) rfl rfl (.s 107 rfl .nil) (q_loadB rfl sh26 (i := 1) rfl rfl) <| WL.q (Wanted.plain rfl) rfl rfl (.s 108 rfl .nil) (q_lenO rfl elS26 (i := 2) rfl) <| av rfl rfl <| WL.nil ?_
   refine QN.weaken (env' := [(13, _), (5, _), (4, _), (3, _), (2, _)]) (.o4 rfl (.one rfl (.nil _))) <| QN.then_ <| W.seq <| sr <| ak rfl <| nt <| W.block <| W.to (StTo.boxImp [1] rfl (.cons (Imp.id _) (.cons Imp.nilHd (.cons (Imp.id _) .nil)))) <| W.to (StTo.newNil 63 kEdge) <| W.order [2, 1, 1, 0, 0] rfl ?_
   refine W.loop2 (Γ := Value) (fun (_ : Value) (_ : (List Edge)) (x14 : Int) => [(2, PtrA [SlcA kNodeType a0.fNodes, SlcA kEdgeType a0.fEdges]), (3, PtrA [SlcA kA2Int a1.fNodes, SlcA kA3Int a1.fEdges]), (4, EqA (.pointer (some ⟨b100, 0, none⟩))), (5, EqA (.pointer (some ⟨b101, 0, none⟩))), (13, iA (y0.length : Int)), (14, iA x14)]) (fun (g2 : Value) (y1 : (List Edge)) (_ : Int) => [BoxE b100 [EqA (.slice none 0 0), EqA (.slice none 0 0), EqA (.slice none 0 0)], BoxE b101 [HdA g0.1, HdA g2, HdA g0.2], SlE 3 g0.1 kInt y0, SlE 63 g2 kEdge y1, SlE 26 g0.2 (kSl kInt) y2]) h (.slice none 0 0) (.o4 rfl (.o2 rfl (.nil _))) rfl (fun rec2 K2 next2 g2 y1 x14 h => ?_)
   unfold ref15_Made.b2 at h
   refine W.seq <| W.seq ?_
   refine W.jn1 (Γ := Unit) (fun (_ : Unit) (x128 : Bool) => [(2, PtrA [SlcA kNodeType a0.fNodes, SlcA kEdgeType a0.fEdges]), (3, PtrA [SlcA kA2Int a1.fNodes, SlcA kA3Int a1.fEdges]), (4, EqA (.pointer (some ⟨b100, 0, none⟩))), (5, EqA (.pointer (some ⟨b101, 0, none⟩))), (13, iA (y0.length : Int)), (14, iA x14), (128, bA x128)]) (fun (_ : Unit) (_ : Bool) => [BoxE b100 [EqA (.slice none 0 0), EqA (.slice none 0 0), EqA (.slice none 0 0)], BoxE b101 [HdA g0.1, HdA g2, HdA g0.2], SlE 3 g0.1 kInt y0, SlE 63 g2 kEdge y1, SlE 26 g0.2 (kSl kInt) y2]) h (fun _ x128 h => ?_) (fun j1099 Kj1099 h => ?_)
   ·refine QN.then_ ?_
    refine W.condP h rfl (fun hb1100 h => ?_) (fun hb1100 h => ?_)
    ·refine W.skip <| QN.then_ <| W.seq <| W.block <| W.seq <| W.drawK [(0, false), (1, false), (2, false), (3, false), (4, false), (5, false), (6, false), (7, false), (8, false), (9, false), (10, false), (11, false), (12, false), (13, false), (14, false), (15, false), (16, false), (17, false), (18, false), (19, false), (20, false), (21, false), (22, false), (23, false), (24, false), (25, false), (26, false), (27, false), (28, false), (29, false)] [30, 31] (bm [0, 1, 0, 7, 15, 31, 63, 0, 128, 384, 1023, 0, 2048, 0, 14336, 30720, 63488, 129024, 0, 522240, 0, 1048576, 0, 7340032, 15728640, 32505856, 66060288, 0, 267386880, 536870911, 0, 2147483647]) mx (by kernel_rfl) <| df rfl rfl rfl fo55_1 rfl <| dl rfl rfl rfl sh53 <| dm rfl rfl rfl ?_
     obtain ⟨c1115, h⟩ := ite_n h
     refine DK.cons rfl rfl (.p rfl (.s 132 rfl (.s 133 rfl .nil)) rfl (q_index rfl el53 rfl c1115.1 c1115.2)) <| DK.cons rfl rfl (.p rfl (.s 134 rfl (.k .nil)) rfl (q_indexArr (i := 0) rfl ar125_0 rfl rfl)) <| dl rfl rfl rfl sh5 <| DK.cons rfl rfl (.p rfl (.s 136 rfl .nil) rfl (q_conv rfl cv3 cvS5)) <| df rfl rfl rfl fo25_1 rfl <| dl rfl rfl rfl sh23 <| DK.cons rfl rfl (.p rfl (.s 139 rfl .nil) rfl (q_len rfl elS23)) ?_
     obtain ⟨c1116, h⟩ := ite_n h
     refine DK.cons rfl rfl (.p rfl (.s 137 rfl (.s 140 rfl .nil)) rfl (q_rem rfl c1116)) <| df rfl rfl rfl fo55_1 rfl <| dl rfl rfl rfl sh53 <| dm rfl rfl rfl ?_
     obtain ⟨c1117, h⟩ := ite_n h
     refine DK.cons rfl rfl (.p rfl (.s 143 rfl (.s 144 rfl .nil)) rfl (q_index rfl el53 rfl c1117.1 c1117.2)) <| DK.cons rfl rfl (.p rfl (.s 145 rfl (.k .nil)) rfl (q_indexArr (i := 1) rfl ar125_1 rfl rfl)) <| dl rfl rfl rfl sh5 <| DK.cons rfl rfl (.p rfl (.s 147 rfl .nil) rfl (q_conv rfl cv3 cvS5)) <| dm rfl rfl rfl ?_
     obtain ⟨c1118, h⟩ := ite_n h
     refine DK.cons rfl rfl (.p rfl (.s 148 rfl (.s 149 rfl .nil)) rfl (q_rem rfl c1118)) <| df rfl rfl rfl fo55_1 rfl <| dl rfl rfl rfl sh53 <| dm rfl rfl rfl ?_
     obtain ⟨c1119, h⟩ := ite_n h
     refine DK.cons rfl rfl (.p rfl (.s 152 rfl (.s 153 rfl .nil)) rfl (q_index rfl el53 rfl c1119.1 c1119.2)) <| DK.cons rfl rfl (.p rfl (.s 154 rfl (.k .nil)) rfl (q_indexArr (i := 2) rfl ar125_2 rfl rfl)) <| dl rfl rfl rfl sh5 <| DK.cons rfl rfl (.p rfl (.s 156 rfl .nil) rfl (q_conv rfl cv3 cvS5)) <| dm rfl rfl rfl ?_
     obtain ⟨c1120, h⟩ := ite_n h
     refine DK.cons rfl rfl (.p rfl (.s 157 rfl (.s 158 rfl .nil)) rfl (q_rem rfl c1120)) <| DK.cons rfl rfl (.p rfl (.s 141 rfl (.s 150 rfl (.s 159 rfl .nil))) rfl (q_build (is := [0, 1, 2]) (xs := [.tmp 141, .tmp 150, .tmp 159]) (L := [iA ((IntKind.i64.wrap ((rd a1.fEdges x14).e0)).tmod (a0.fEdges.length : Int)), iA ((IntKind.i64.wrap ((rd a1.fEdges x14).e1)).tmod (y0.length : Int)), iA ((IntKind.i64.wrap ((rd a1.fEdges x14).e2)).tmod (y0.length : Int))]) rfl rfl z63 pl63 rfl rfl (.cons (CellsOf.one rfl) (.cons (CellsOf.one rfl) (.cons (CellsOf.one rfl) .nil))) rfl)) <| DK.nil <| CSteps.w [] rfl rfl rfl rfl .nil rfl (w_alloc rfl z63 (l := [iA 0, iA 0, iA 0]) rfl) ?_
     rintro _ _ ⟨b1121, rfl, rfl⟩
     refine CSteps.w0 [0] rfl rfl rfl (.s 15 rfl (.s 160 rfl .nil)) rfl (w_store (L := [iA ((IntKind.i64.wrap ((rd a1.fEdges x14).e0)).tmod (a0.fEdges.length : Int)), iA ((IntKind.i64.wrap ((rd a1.fEdges x14).e1)).tmod (y0.length : Int)), iA ((IntKind.i64.wrap ((rd a1.fEdges x14).e2)).tmod (y0.length : Int))]) rfl sh63 (CellsOf.agg _) rfl rfl (leB rfl) rfl) ?_
     rintro _ _ ⟨rfl, rfl⟩
     refine CSteps.nil <| QN.to (StTo.still [0] 15 rfl rfl) <| QN.weaken (env' := [(15, _), (14, _), (13, _), (5, _), (4, _), (3, _), (2, _)]) (.o4 rfl (.o2 rfl (.one rfl (.nil _)))) <| QN.then_ <| W.seq <| W.drawK [(0, false), (1, false), (2, false), (3, false), (4, false), (5, true), (6, false), (7, false), (8, true), (9, true), (10, false), (11, false), (12, true), (13, false), (14, false), (15, true), (16, true), (17, false)] [] (bm [0, 0, 2, 0, 8, 24, 0, 64, 248, 504, 0, 1024, 3072, 0, 8192, 31744, 64512, 131071]) mx (by kernel_rfl) <| DK.cons rfl rfl (.p rfl (.s 2 rfl .nil) rfl (q_loadS rfl sh25 (leB rfl) rfl)) <| df rfl rfl rfl fo63_0 rfl <| dl rfl rfl rfl sh3 <| DK.cons rfl rfl (.p rfl (.s 5 rfl .nil) rfl (q_fieldP rfl fo32_0)) <| DK.cons rfl rfl (.p rfl (.s 164 rfl .nil) rfl (q_fieldP rfl fo29_0)) <| DK.cons rfl rfl (.o rfl (.s 165 rfl .nil) rfl (q_loadB rfl sh26 (i := 1) rfl rfl)) <| df rfl rfl rfl fo63_1 rfl ?_
     refine dl rfl rfl rfl sh3 ?_
     obtain ⟨c1128, h⟩ := ite_n h
     refine DK.cons rfl rfl (.o rfl (.s 166 rfl (.s 168 rfl .nil)) rfl (q_indexO rfl el26 (j := 2) rfl c1128.1 c1128.2)) <| DK.cons rfl rfl (.o rfl (.s 169 rfl .nil) rfl (q_loadEl rfl sh3 (j := 2) rfl rfl c1128.1 c1128.2 rfl)) <| DK.cons rfl rfl (.p rfl (.s 5 rfl .nil) rfl (q_fieldP rfl fo32_0)) <| DK.cons rfl rfl (.p rfl (.s 171 rfl .nil) rfl (q_fieldP rfl fo29_0)) <| DK.cons rfl rfl (.o rfl (.s 172 rfl .nil) rfl (q_loadB rfl sh26 (i := 1) rfl rfl)) <| df rfl rfl rfl fo63_2 rfl <| dl rfl rfl rfl sh3 ?_
     obtain ⟨c1129, h⟩ := ite_n h
     refine DK.cons rfl rfl (.o rfl (.s 173 rfl (.s 175 rfl .nil)) rfl (q_indexO rfl el26 (j := 2) rfl c1129.1 c1129.2)) <| DK.cons rfl rfl (.o rfl (.s 176 rfl .nil) rfl (q_loadEl rfl sh3 (j := 2) rfl rfl c1129.1 c1129.2 rfl)) ?_
     obtain ⟨t1130, ht1130, h⟩ := bind_s h
     refine DK.cons rfl rfl (.p rfl (.s 161 rfl (.s 163 rfl (.s 170 rfl (.s 177 rfl .nil)))) rfl (q_call (f := 53) (A := bA t1130) (xs := [.tmp 161, .tmp 163, .tmp 170, .tmp 177]) («as» := [AggA [SlcA kNodeType a0.fNodes, SlcA kEdgeType a0.fEdges], iA ((IntKind.i64.wrap ((rd a1.fEdges x14).e0)).tmod (a0.fEdges.length : Int)), iA (rd y0 ((IntKind.i64.wrap ((rd a1.fEdges x14).e1)).tmod (y0.length : Int))), iA (rd y0 ((IntKind.i64.wrap ((rd a1.fEdges x14).e2)).tmod (y0.length : Int)))]) rfl ca53 (ref04_Fits.con k a0 ((IntKind.i64.wrap ((rd a1.fEdges x14).e0)).tmod (a0.fEdges.length : Int)) (rd y0 ((IntKind.i64.wrap ((rd a1.fEdges x14).e1)).tmod (y0.length : Int))) (rd y0 ((IntKind.i64.wrap ((rd a1.fEdges x14).e2)).tmod (y0.length : Int))) t1130 ht1130) rfl)) <| DK.nil <| CSteps.nil <| QN.weaken (env' := [(178, _), (15, _), (14, _), (13, _), (5, _), (4, _), (3, _), (2, _)]) (.o4 rfl (.o4 rfl (.nil _))) <| QN.then_ ?_
     refine W.condP h rfl (fun hb1134 h => ?_) (fun hb1134 h => ?_)
     ·refine W.region <| p1 rfl 5 rfl (q_fieldP rfl fo32_0) <| p1 rfl 179 rfl (q_fieldP rfl fo29_1) <| WL.q (Wanted.plain rfl) rfl rfl (.s 180 rfl .nil) (q_loadB rfl sh27 (i := 1) rfl rfl) <| lS rfl rfl sh63 rfl rfl <| p1 rfl 182 rfl (q_lit (kd := kEdge) (ps := [(0, .tmp 182)]) (xs := [.tmp 182]) («as» := [AggA [iA ((IntKind.i64.wrap ((rd a1.fEdges x14).e0)).tmod (a0.fEdges.length : Int)), iA ((IntKind.i64.wrap ((rd a1.fEdges x14).e1)).tmod (y0.length : Int)), iA ((IntKind.i64.wrap ((rd a1.fEdges x14).e2)).tmod (y0.length : Int))]]) (ys := [(Edge.mk ((IntKind.i64.wrap ((rd a1.fEdges x14).e0)).tmod (a0.fEdges.length : Int)) ((IntKind.i64.wrap ((rd a1.fEdges x14).e1)).tmod (y0.length : Int)) ((IntKind.i64.wrap ((rd a1.fEdges x14).e2)).tmod (y0.length : Int)))]) rfl rfl el27 rfl gr63 rfl rfl rfl (.cons (CellsOf.agg _) .nil)) ?_
      obtain ⟨c1135, h⟩ := ite_n h
      refine WL.w [3] rfl (Wanted.plain rfl) rfl rfl (.s 181 rfl (.s 183 rfl .nil)) (w_append (kd := kEdge) rfl el27 rfl gr63 c1135) ?_
      rintro _ _ ⟨v1136, rfl, rfl⟩
      refine p1 rfl 5 rfl (q_fieldP rfl fo32_0) <| p1 rfl 185 rfl (q_fieldP rfl fo29_1) <| WL.w0 [2] rfl (Wanted.plain rfl) rfl (.s 186 rfl (.s 184 rfl .nil)) (w_store (L := [HdA g0.1, HdA v1136, HdA g0.2]) rfl sh27 (CellsOf.one rfl) rfl rfl (leB rfl) rfl) ?_
      rintro _ _ ⟨rfl, rfl⟩
      refine WL.nil <| QN.block <| QN.weaken (env' := [(14, _), (13, _), (5, _), (4, _), (3, _), (2, _)]) (.o4 rfl (.o2 rfl (.nil _))) <| QN.then_ <| W.region <| mv rfl rfl ?_
      obtain ⟨c1137, h⟩ := ite_n h
      refine pk rfl 129 rfl (q_addR rfl c1137) <| av rfl rfl <| WL.nil <| QN.order [2, 0, 1, 0, 0] rfl ?_
      exact next2 v1136 (y1 ++ [(Edge.mk ((IntKind.i64.wrap ((rd a1.fEdges x14).e0)).tmod (a0.fEdges.length : Int)) ((IntKind.i64.wrap ((rd a1.fEdges x14).e1)).tmod (y0.length : Int)) ((IntKind.i64.wrap ((rd a1.fEdges x14).e2)).tmod (y0.length : Int)))]) (x14 + 1) _ h (.o4 rfl (.o2 rfl (.nil _)))
     ·refine W.skip <| QN.block <| QN.then_ <| W.region <| mv rfl rfl ?_
      obtain ⟨c1138, h⟩ := ite_n h
      refine pk rfl 129 rfl (q_addR rfl c1138) <| av rfl rfl <| WL.nil ?_
      exact next2 g2 y1 (x14 + 1) _ h (.o4 rfl (.o2 rfl (.nil _)))
    ·refine W.exit <| QX.then_ <| QX.then_ <| QX.here <| QN.then_ <| sr <| WL.q (Wanted.plain rfl) rfl rfl (.s 5 rfl .nil) (q_loadBS (l' := [HdA g0.1, HdA g2, HdA g0.2]) rfl sh32 (i := 1) rfl rfl rfl) <| WL.w0 [0] rfl (Wanted.plain rfl) rfl (.s 4 rfl (.s 187 rfl .nil)) (w_store (L := [HdA g0.1, HdA g2, HdA g0.2]) rfl sh32 (CellsOf.agg _) rfl rfl (leB rfl) rfl) ?_
     rintro _ _ ⟨rfl, rfl⟩
     refine WL.nil <| QN.to (StTo.still [0] 4 rfl rfl) <| QN.weaken (env' := [(4, _)]) (.one rfl (.nil _)) <| QN.then_ <| W.ret ?_
     cases h
     exact QR.f1 rfl rfl (.ps rfl sh32 rfl) (.agg (.cons (.slc 1 rfl) (.cons (.slc 2 rfl) (.cons (.slc 3 rfl) .nil))))
   ·refine W.region <| mv rfl rfl <| fd rfl rfl fo55_1 rfl <| ld rfl rfl sh53 <| p1 rfl 112 rfl (q_len rfl elS53) <| p2 rfl 110 rfl 113 rfl (q_int rfl rfl) <| mv rfl rfl ?_
    rcases bif_s h with ⟨hb1139, h⟩ | ⟨hb1139, h⟩
    ·refine wm rfl rfl rfl hb1139 rfl rfl <| wq rfl rfl rfl hb1139 (.s 116 rfl (.k .nil)) (q_int rfl rfl).o <| p2 rfl 115 rfl 117 rfl (q_pickT rfl hb1139) <| mv rfl rfl ?_
     rcases bif_s h with ⟨hb1140, h⟩ | ⟨hb1140, h⟩
     ·refine wm rfl rfl rfl hb1140 rfl rfl <| wq rfl rfl rfl hb1140 (.s 120 rfl (.k .nil)) (q_int rfl rfl).o <| p2 rfl 119 rfl 121 rfl (q_pickT rfl hb1140) <| mv rfl rfl ?_
      rcases bif_s h with ⟨hb1141, h⟩ | ⟨hb1141, h⟩
      ·refine wf rfl rfl rfl hb1141 rfl rfl fo25_1 rfl <| wl rfl rfl rfl hb1141 rfl rfl sh23 <| wq rfl rfl rfl hb1141 (.s 125 rfl .nil) (q_len rfl elS23).o <| wq rfl rfl rfl hb1141 (.s 126 rfl (.k .nil)) (q_int rfl rfl).o <| p2 rfl 123 rfl 127 rfl (q_pickT rfl hb1141) <| WL.nil ?_
       exact QN.weaken (.o4 rfl (.o2 rfl (.one rfl (.nil _)))) (Kj1099 () (decide ((a0.fEdges.length : Int) > 0)) h)
      ·refine sk rfl rfl rfl hb1141 <| sk rfl rfl rfl hb1141 <| sk rfl rfl rfl hb1141 <| sk rfl rfl rfl hb1141 <| pk rfl 123 rfl (q_pickF rfl hb1141) <| WL.nil ?_
       exact QN.weaken (.o4 rfl (.o2 rfl (.one rfl (.nil _)))) (Kj1099 () false h)
     ·refine sk rfl rfl rfl hb1140 <| sk rfl rfl rfl hb1140 <| pk rfl 119 rfl (q_pickF rfl hb1140) <| mv rfl rfl <| sk rfl rfl rfl rfl <| sk rfl rfl rfl rfl <| sk rfl rfl rfl rfl <| sk rfl rfl rfl rfl <| pk rfl 123 rfl (q_pickF rfl rfl) <| WL.nil ?_
      exact QN.weaken (.o4 rfl (.o2 rfl (.one rfl (.nil _)))) (Kj1099 () false h)
    ·refine sk rfl rfl rfl hb1139 <| sk rfl rfl rfl hb1139 <| pk rfl 115 rfl (q_pickF rfl hb1139) <| mv rfl rfl <| sk rfl rfl rfl rfl <| sk rfl rfl rfl rfl <| pk rfl 119 rfl (q_pickF rfl rfl) <| mv rfl rfl <| sk rfl rfl rfl rfl <| sk rfl rfl rfl rfl <| sk rfl rfl rfl rfl <| sk rfl rfl rfl rfl <| pk rfl 123 rfl (q_pickF rfl rfl) ?_
     refine WL.nil ?_
     exact QN.weaken (.o4 rfl (.o2 rfl (.one rfl (.nil _)))) (Kj1099 () false h)
 ·refine W.region <| mv rfl rfl <| fd rfl rfl fo55_0 rfl <| ld rfl rfl sh52 <| p1 rfl 20 rfl (q_len rfl elS52) <| p2 rfl 18 rfl 21 rfl (q_int rfl rfl) <| mv rfl rfl ?_
  rcases bif_s h with ⟨hb1142, h⟩ | ⟨hb1142, h⟩
  ·refine wm rfl rfl rfl hb1142 rfl rfl <| wq rfl rfl rfl hb1142 (.s 24 rfl (.k .nil)) (q_int rfl rfl).o <| p2 rfl 23 rfl 25 rfl (q_pickT rfl hb1142) <| mv rfl rfl ?_
   rcases bif_s h with ⟨hb1143, h⟩ | ⟨hb1143, h⟩
   ·refine wm rfl rfl rfl hb1143 rfl rfl <| wq rfl rfl rfl hb1143 (.s 28 rfl .nil) (q_len rfl elS26).o <| wq rfl rfl rfl hb1143 (.s 29 rfl (.k .nil)) (q_int rfl rfl).o <| p2 rfl 27 rfl 30 rfl (q_pickT rfl hb1143) <| WL.nil ?_
    exact QN.weaken (.o4 rfl (.o2 rfl (.one rfl (.nil _)))) (Kj805 () (decide ((t102.length : Int) > 0)) h)
   ·refine sk rfl rfl rfl hb1143 <| sk rfl rfl rfl hb1143 <| sk rfl rfl rfl hb1143 <| pk rfl 27 rfl (q_pickF rfl hb1143) <| WL.nil ?_
    exact QN.weaken (.o4 rfl (.o2 rfl (.one rfl (.nil _)))) (Kj805 () false h)
  ·refine sk rfl rfl rfl hb1142 <| sk rfl rfl rfl hb1142 <| pk rfl 23 rfl (q_pickF rfl hb1142) <| mv rfl rfl <| sk rfl rfl rfl rfl <| sk rfl rfl rfl rfl <| sk rfl rfl rfl rfl <| pk rfl 27 rfl (q_pickF rfl rfl) <| WL.nil ?_
   exact QN.weaken (.o4 rfl (.o2 rfl (.one rfl (.nil _)))) (Kj805 () false h)
end Go.Proofs.YthmdmchmmgmblaaGreat
