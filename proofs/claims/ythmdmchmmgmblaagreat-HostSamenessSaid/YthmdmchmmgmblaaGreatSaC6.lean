/- The Go functions compute the pure ones. (Printed by gen.py.) -/
import Derived.Test.YthmdmchmmgmblaaGreatSaC5
namespace Go.Proofs.YthmdmchmmgmblaaGreat
open Go Go.Abs
attribute [local irreducible] Tryz.prog
theorem ref05_Few.con (k : Nat) (a0 : Graph) (r : Bool) (h : ref05_Few k a0 = some r) : Con Tryz.prog 71 [] [AggA [SlcA kInt a0.fNodes, SlcA kEdge a0.fEdges]] (RA (bA r)) := by
 unfold ref05_Few at h
 refine Con.of (N := 13) Tryz.func71 rfl rfl rfl fun w0_ fg_ => sr <| p1 rfl 0 rfl (q_box rfl (CellsOf.agg _)) <| ak rfl <| nt <| W.seq ?_
 refine W.jn1 (Γ := Unit) (fun (_ : Unit) (x2 : Bool) => [(2, bA x2)]) (fun (_ : Unit) (_ : Bool) => []) h (fun _ x2 h => ?_) (fun j102 Kj102 h => ?_)
 ·refine QN.then_ <| W.ret ?_
  cases h
  exact QR.f1 rfl rfl (.t rfl) (.id _)
 ·refine W.region <| fd rfl rfl fo29_0 rfl <| ld rfl rfl sh26 <| p1 rfl 4 rfl (q_len rfl elS26) <| pk rfl 5 rfl (q_int rfl rfl) <| mv rfl rfl ?_
  rcases bif_s h with ⟨hb103, h⟩ | ⟨hb103, h⟩
  ·refine wf rfl rfl rfl hb103 rfl rfl fo29_1 rfl <| wl rfl rfl rfl hb103 rfl rfl sh27 <| wq rfl rfl rfl hb103 (.s 9 rfl .nil) (q_len rfl elS27).o <| wq rfl rfl rfl hb103 (.s 10 rfl (.k .nil)) (q_int rfl rfl).o <| p2 rfl 7 rfl 11 rfl (q_pickT rfl hb103) <| av rfl rfl <| WL.nil ?_
   exact QN.weaken (.one rfl (.nil _)) (Kj102 () (decide ((a0.fEdges.length : Int) ≤ 90)) h)
  ·refine sk rfl rfl rfl hb103 <| sk rfl rfl rfl hb103 <| sk rfl rfl rfl hb103 <| sk rfl rfl rfl hb103 <| pk rfl 7 rfl (q_pickF rfl hb103) <| av rfl rfl <| WL.nil ?_
   exact QN.weaken (.one rfl (.nil _)) (Kj102 () false h)
theorem ref15_Few.con (k : Nat) (a0 : Host) (r : Bool) (h : ref15_Few k a0 = some r) : Con Tryz.prog 28 [] [AggA [SlcA kInt a0.fGraph.fNodes, SlcA kEdge a0.fGraph.fEdges, SlcA (kSl kInt) a0.fValues]] (RA (bA r)) := by
 unfold ref15_Few at h
 refine Con.of (N := 28) Tryz.func28 rfl rfl rfl fun w0_ fg_ => sr <| p1 rfl 0 rfl (q_box rfl (CellsOf.agg _)) <| ak rfl <| nt <| W.seq <| W.seq ?_
 refine W.jn1 (Γ := Unit) (fun (_ : Unit) (x13 : Bool) => [(1, PtrA [SlcA kInt a0.fGraph.fNodes, SlcA kEdge a0.fGraph.fEdges, SlcA (kSl kInt) a0.fValues]), (13, bA x13)]) (fun (_ : Unit) (_ : Bool) => []) h (fun _ x13 h => ?_) (fun j103 Kj103 h => ?_)
 ·refine QN.then_ ?_
  refine W.condP h rfl (fun hb104 h => ?_) (fun hb104 h => ?_)
  ·refine sr <| ak rfl <| nt <| W.ret <| QR.then_ ?_
   cases h
   exact QR.f1 rfl rfl (.t rfl) (.id _)
  ·refine W.skip <| QN.then_ <| W.seq <| sr <| ak rfl <| nt <| W.block ?_
   refine W.loop1 (Γ := Unit) (fun (_ : Unit) (x3 : Int) => [(1, PtrA [SlcA kInt a0.fGraph.fNodes, SlcA kEdge a0.fGraph.fEdges, SlcA (kSl kInt) a0.fValues]), (3, iA x3)]) (fun (_ : Unit) (_ : Int) => []) h () (.o2 rfl (.nil _)) rfl (fun rec0 K0 next0 _ x3 h => ?_)
   unfold ref15_Few.b0 at h
   refine W.seq <| sr <| mv rfl rfl <| fd rfl rfl fo32_1 rfl <| ld rfl rfl sh30 <| p1 rfl 16 rfl (q_len rfl elS30) <| p2 rfl 14 rfl 17 rfl (q_int rfl rfl) <| nt ?_
   refine W.condP h rfl (fun hb113 h => ?_) (fun hb113 h => ?_)
   ·refine W.skip <| QN.then_ <| W.seq <| W.block <| sr <| fd rfl rfl fo32_1 rfl <| ld rfl rfl sh30 <| mv rfl rfl ?_
    obtain ⟨c114, h⟩ := ite_n h
    refine p2 rfl 22 rfl 23 rfl (q_index rfl el30 rfl c114.1 c114.2) <| ld rfl rfl sh26 <| p1 rfl 25 rfl (q_len rfl elS26) <| pk rfl 26 rfl (q_int rfl rfl) <| WL.nil <| QN.weaken (env' := [(27, _), (3, _), (1, _)]) (.o2 rfl (.one rfl (.nil _))) <| QN.then_ ?_
    refine W.condP h rfl (fun hb115 h => ?_) (fun hb115 h => ?_)
    ·refine sr <| ak rfl <| nt <| W.ret <| QR.block <| QR.then_ <| QR.then_ <| QR.block <| QR.then_ ?_
     cases h
     exact QR.f1 rfl rfl (.t rfl) (.id _)
    ·refine W.skip <| QN.block <| QN.then_ <| W.region <| mv rfl rfl ?_
     obtain ⟨c116, h⟩ := ite_n h
     refine pk rfl 19 rfl (q_addR rfl c116) <| av rfl rfl <| WL.nil ?_
     exact next0 () (x3 + 1) _ h (.o2 rfl (.nil _))
   ·refine W.exit <| QX.then_ <| QX.then_ <| QX.here <| QN.weaken (env' := []) (.nil _) <| QN.then_ <| sr <| ak rfl <| nt <| W.ret ?_
    cases h
    exact QR.f1 rfl rfl (.t rfl) (.id _)
 ·refine W.region <| fd rfl rfl fo32_0 rfl <| lS rfl rfl sh29 rfl rfl ?_
  obtain ⟨t117, ht117, h⟩ := bind_s h
  refine p1 rfl 5 rfl (q_call (f := 71) (A := bA t117) (xs := [.tmp 5]) («as» := [AggA [SlcA kInt a0.fGraph.fNodes, SlcA kEdge a0.fGraph.fEdges]]) rfl ca71 (ref05_Few.con k a0.fGraph t117 ht117) rfl) <| p1 rfl 6 rfl (q_not rfl) <| mv rfl rfl ?_
  rcases bif_s h with ⟨hb118, h⟩ | ⟨hb118, h⟩
  ·refine sk rfl rfl rfl hb118 <| sk rfl rfl rfl hb118 <| sk rfl rfl rfl hb118 <| sk rfl rfl rfl hb118 <| pk rfl 8 rfl (q_pickT rfl hb118) <| WL.nil ?_
   exact QN.weaken (.o2 rfl (.nil _)) (Kj103 () true h)
  ·refine wf rfl rfl rfl hb118 rfl rfl fo32_1 rfl <| wl rfl rfl rfl hb118 rfl rfl sh30 <| wq rfl rfl rfl hb118 (.s 10 rfl .nil) (q_len rfl elS30).o <| wq rfl rfl rfl hb118 (.s 11 rfl (.k .nil)) (q_int rfl rfl).o <| p2 rfl 8 rfl 12 rfl (q_pickF rfl hb118) <| WL.nil ?_
   exact QN.weaken (.o2 rfl (.nil _)) (Kj103 () (decide ((a0.fValues.length : Int) > 45)) h)
theorem ref05_Copied.con (k : Nat) (a0 : Graph) (r : Graph) (h : ref05_Copied k a0 = some r) : Con Tryz.prog 49 [] [AggA [SlcA kInt a0.fNodes, SlcA kEdge a0.fEdges]] (fun O' A => ∃ u0 u1, O' = [SlE 3 u0 kInt r.fNodes, SlE 63 u1 kEdge r.fEdges] ∧ A = AggA [HdA u0, HdA u1]) := by
 unfold ref05_Copied at h
 refine Con.of (N := 12) Tryz.func49 rfl rfl rfl fun w0_ fg_ => sr <| p1 rfl 0 rfl (q_box rfl (CellsOf.agg _)) <| WL.w [] rfl (Wanted.plain rfl) rfl rfl .nil (w_alloc rfl z29 (l := [EqA (.slice none 0 0), EqA (.slice none 0 0)]) rfl) ?_
 rintro _ _ ⟨b100, rfl, rfl⟩
 refine nt <| W.seq <| W.drawK [(0, false), (1, false), (2, false), (4, false), (5, false), (6, false)] [3, 7, 8, 9] (bm [0, 0, 2, 7, 0, 0, 32, 127, 255, 511]) mx (by kernel_rfl) <| DK.cons rfl rfl (.p rfl .nil rfl (q_lit0 rfl el26 gr3)) <| df rfl rfl rfl fo29_0 rfl <| dl rfl rfl rfl sh26 ?_
 obtain ⟨c109, h⟩ := ite_n h
 refine DK.cons rfl rfl (.p rfl .nil rfl (q_lit0 rfl el27 gr63)) <| df rfl rfl rfl fo29_1 rfl <| dl rfl rfl rfl sh27 ?_
 obtain ⟨c111, h⟩ := ite_n h
 refine DK.nil <| CSteps.w [] rfl rfl rfl rfl (.s 3 rfl (.s 5 rfl .nil)) rfl (w_appendZ (kd := kInt) rfl el26 rfl gr3 c109) ?_
 rintro _ _ ⟨v110, rfl, rfl⟩
 refine CSteps.w [] rfl rfl rfl rfl (.s 7 rfl (.s 9 rfl .nil)) rfl (w_appendZ (kd := kEdge) rfl el27 rfl gr63 c111) ?_
 rintro _ _ ⟨v112, rfl, rfl⟩
 refine CSteps.p rfl rfl rfl (.s 6 rfl (.s 10 rfl .nil)) rfl (q_build (is := [0, 1]) (xs := [.tmp 6, .tmp 10]) (L := [HdA v110, HdA v112]) rfl rfl z29 pl29 rfl rfl (.cons (CellsOf.one rfl) (.cons (CellsOf.one rfl) .nil)) rfl) <| CSteps.w0 [2] rfl rfl rfl (.s 2 rfl (.s 11 rfl .nil)) rfl (w_store (L := [HdA v110, HdA v112]) rfl sh29 (CellsOf.agg _) rfl rfl (leB rfl) rfl) ?_
 rintro _ _ ⟨rfl, rfl⟩
 refine CSteps.nil <| QN.to (StTo.still [0] 2 rfl rfl) <| QN.weaken (env' := [(2, _)]) (.one rfl (.nil _)) <| QN.then_ <| W.ret ?_
 cases h
 refine QR.order [1, 0] rfl ?_
 exact QR.r1 rfl rfl (.ps rfl sh29 rfl) ⟨v110, v112, rfl, rfl⟩
theorem ref15_Copied.con (k : Nat) (a0 : Host) (r : Host) (h : ref15_Copied k a0 = some r) : Con Tryz.prog 14 [] [AggA [SlcA kInt a0.fGraph.fNodes, SlcA kEdge a0.fGraph.fEdges, SlcA (kSl kInt) a0.fValues]] (fun O' A => ∃ (u0 : Value × List Value), O' = [TbE 26 3 u0.1 kInt u0.2 r.fValues] ∧ A = AggA [SlcA kInt r.fGraph.fNodes, SlcA kEdge r.fGraph.fEdges, HdA u0.1]) := by
 unfold ref15_Copied at h
 refine Con.of (N := 29) Tryz.func14 rfl rfl rfl fun w0_ fg_ => sr <| p1 rfl 0 rfl (q_box rfl (CellsOf.agg _)) <| WL.w [] rfl (Wanted.plain rfl) rfl rfl .nil (w_alloc rfl z32 (l := [EqA (.slice none 0 0), EqA (.slice none 0 0), EqA (.slice none 0 0)]) rfl) ?_
 rintro _ _ ⟨b100, rfl, rfl⟩
 refine nx <| fd rfl rfl fo32_0 rfl <| lS rfl rfl sh29 rfl rfl ?_
 obtain ⟨t101, ht101, h⟩ := bind_s h
 refine WL.w [] rfl (Wanted.plain rfl) rfl rfl (.s 6 rfl .nil) (w_callI (f := 49) (xs := [.tmp 6]) («as» := [AggA [SlcA kInt a0.fGraph.fNodes, SlcA kEdge a0.fGraph.fEdges]]) rfl ca49 (ref05_Copied.con k a0.fGraph t101 ht101) rfl (.cons (Imp.id _) .nil)) ?_
 rintro _ _ ⟨v102, v103, rfl, rfl⟩
 refine p1 rfl 7 rfl (q_build (is := [0]) (xs := [.tmp 7]) (L := [HdA v102, HdA v103, EqA (.slice none 0 0)]) rfl rfl z32 pl32 rfl rfl (.cons (CellsOf.agg _) .nil) rfl) <| WL.w [] rfl (Wanted.plain rfl) rfl rfl .nil (w_alloc rfl z32 (l := [EqA (.slice none 0 0), EqA (.slice none 0 0), EqA (.slice none 0 0)]) rfl) ?_
 rintro _ _ ⟨b104, rfl, rfl⟩
 refine WL.w0 [0] rfl (Wanted.plain rfl) rfl (.s 3 rfl (.s 8 rfl .nil)) (w_store (L := [HdA v102, HdA v103, EqA (.slice none 0 0)]) rfl sh32 (CellsOf.agg _) rfl rfl (leB rfl) rfl) ?_
 rintro _ _ ⟨rfl, rfl⟩
 refine nt <| W.seq <| sr <| ak rfl <| nt <| W.block <| W.to (StTo.boxImp [0] rfl (.cons (Imp.id _) (.cons (Imp.id _) (.cons Imp.nilHd .nil)))) <| W.to (StTo.newNilT 26 3 kInt) <| W.order [4, 1, 1, 1, 0] rfl ?_
 refine W.loop2 (Γ := (Value × (List Value))) (fun (_ : (Value × (List Value))) (_ : (List (List Int))) (x4 : Int) => [(1, PtrA [SlcA kInt a0.fGraph.fNodes, SlcA kEdge a0.fGraph.fEdges, SlcA (kSl kInt) a0.fValues]), (2, EqA (.pointer (some ⟨b100, 0, none⟩))), (3, EqA (.pointer (some ⟨b104, 0, none⟩))), (4, iA x4)]) (fun (g0 : (Value × (List Value))) (y2 : (List (List Int))) (_ : Int) => [BoxE b100 [EqA (.slice none 0 0), EqA (.slice none 0 0), EqA (.slice none 0 0)], BoxE b104 [HdA v102, HdA v103, HdA g0.1], SlE 3 v102 kInt t101.fNodes, SlE 63 v103 kEdge t101.fEdges, TbE 26 3 g0.1 kInt g0.2 y2]) h ((.slice none 0 0), []) (.o4 rfl (.nil _)) rfl (fun rec0 K0 next0 g0 y2 x4 h => ?_)
 unfold ref15_Copied.b0 at h
 refine W.seq <| sr <| mv rfl rfl <| fd rfl rfl fo32_1 rfl <| ld rfl rfl sh30 <| p1 rfl 11 rfl (q_len rfl elS30) <| p2 rfl 9 rfl 12 rfl (q_int rfl rfl) <| nt ?_
 refine W.condP h rfl (fun hb156 h => ?_) (fun hb156 h => ?_)
 ·refine W.skip <| QN.then_ <| W.seq <| W.block <| W.drawKT [(0, false), (1, true), (2, false), (3, false), (4, false), (5, false), (6, false), (7, false)] [8, 9, 10, 11, 12] [8, 9, 11] 5 [[], [0], [], [], [3], [], [3, 4, 5], [3, 4, 5, 6], [2, 3, 4, 5, 6, 7], [2, 3, 4, 5, 6, 7, 8], [0, 1, 2, 3, 4, 5, 6, 7, 8, 9], [0, 1, 2, 3, 4, 5, 6, 7, 8, 9, 10], [0, 1, 2, 3, 4, 5, 6, 7, 8, 9, 10, 11]] mx (by kernel_rfl) <| DKT.cons rfl rfl (.p rfl (.s 3 rfl .nil) rfl (q_fieldP rfl fo32_1)) <| DKT.cons rfl rfl (.o rfl (.s 16 rfl .nil) rfl (fun _ => (q_loadB rfl sh30 (i := 1) rfl rfl))) <| DKT.cons rfl rfl (.p rfl .nil rfl (q_lit0 rfl el26 gr3)) <| DKT.cons rfl rfl (.p rfl (.s 1 rfl .nil) rfl (q_field rfl fo32_1 rfl)) <| DKT.cons rfl rfl (.p rfl (.s 19 rfl .nil) rfl (q_load rfl sh30)) <| DKT.cons rfl rfl (.p rfl (.s 4 rfl .nil) rfl (q_move rfl)) ?_
  obtain ⟨c169, h⟩ := ite_n h
  refine DKT.cons rfl rfl (.p rfl (.s 20 rfl (.s 21 rfl .nil)) rfl (q_index rfl el30 rfl c169.1 c169.2)) <| DKT.cons rfl rfl (.p rfl (.s 22 rfl .nil) rfl (q_load rfl sh26)) ?_
  obtain ⟨c170, h⟩ := ite_n h
  obtain ⟨c172, h⟩ := ite_n h
  refine DKT.nil <| CT.step ?_
  refine CTc.yes rfl ?_ ?_
  ·refine CStep1.w [] (fun _ => rfl) rfl rfl rfl rfl (.s 18 rfl (.s 23 rfl .nil)) rfl (w_appendZ (kd := kInt) rfl el26 rfl gr3 c170) ?_
   rintro _ _ ⟨v171, rfl, rfl⟩
   refine CT.list (l' := [9, 10, 11, 12]) rfl <| CT.step ?_
   refine CTc.yes rfl ?_ ?_
   ·refine CStep1.p rfl rfl rfl (.s 24 rfl .nil) rfl (q_lit (kd := kVal) (ps := [(0, .tmp 24)]) (xs := [.tmp 24]) («as» := [HdA v171]) (ys := [v171]) rfl rfl el30 rfl gr26 rfl rfl rfl (.cons (CellsOf.one rfl) .nil)) <| CT.list (l' := [10, 11, 12]) rfl <| CT.step ?_
    refine CTc.yes rfl ?_ ?_
    ·refine CStep1.w [5, 0] (fun h => absurd h (by decide)) rfl rfl rfl rfl (.s 17 rfl (.s 25 rfl .nil)) rfl (w_appendT (kd := kInt) rfl el30 gr26 c172) ?_
     rintro _ _ ⟨g173, rfl, rfl⟩
     refine CT.list (l' := [11, 12]) rfl <| CT.step ?_
     refine CTc.yes rfl ?_ ?_
     ·refine CStep1.p rfl rfl rfl (.s 3 rfl .nil) rfl (q_fieldP rfl fo32_1) <| CT.list (l' := [12]) rfl <| CT.step ?_
      refine CTc.yes rfl ?_ ?_
      ·refine CStep1.w0 [2] (fun h => absurd h (by decide)) rfl rfl rfl (.s 27 rfl (.s 26 rfl .nil)) rfl (w_store (L := [HdA v102, HdA v103, HdA g173.1]) rfl sh30 (CellsOf.one rfl) rfl rfl (leB rfl) rfl) ?_
       rintro _ _ ⟨rfl, rfl⟩
       refine CT.list (l' := []) rfl <| CT.nil <| QN.block <| QN.weaken (env' := [(4, _), (3, _), (2, _), (1, _)]) (.o4 rfl (.nil _)) <| QN.then_ <| W.region <| mv rfl rfl ?_
       obtain ⟨c175, h⟩ := ite_n h
       refine pk rfl 14 rfl (q_addR rfl c175) <| av rfl rfl <| WL.nil <| QN.order [2, 0, 1, 1, 0] rfl ?_
       exact next0 (g173.1, g173.2) (y2 ++ [(rd a0.fValues x4)]) (x4 + 1) _ h (.o4 rfl (.nil _))
      exact CTc.end
     refine CTc.no rfl ?_
     exact CTc.end
    refine CTc.no rfl <| CTc.no rfl ?_
    exact CTc.end
   refine CTc.no rfl <| CTc.no rfl <| CTc.no rfl ?_
   exact CTc.end
  refine CTc.no rfl <| CTc.no rfl <| CTc.no rfl <| CTc.no rfl ?_
  exact CTc.end
 ·refine W.exit <| QX.then_ <| QX.then_ <| QX.here <| QN.weaken (env' := [(3, _), (2, _)]) (.o2 rfl (.nil _)) <| QN.then_ <| sr <| WL.q (Wanted.plain rfl) rfl rfl (.s 3 rfl .nil) (q_loadBS (l' := [HdA v102, HdA v103, HdA g0.1]) rfl sh32 (i := 1) rfl rfl rfl) <| WL.w0 [0] rfl (Wanted.plain rfl) rfl (.s 2 rfl (.s 28 rfl .nil)) (w_store (L := [HdA v102, HdA v103, HdA g0.1]) rfl sh32 (CellsOf.agg _) rfl rfl (leB rfl) rfl) ?_
  rintro _ _ ⟨rfl, rfl⟩
  refine WL.nil <| QN.to (StTo.still [0] 2 rfl rfl) <| QN.then_ <| W.ret ?_
  cases h
  refine QR.to (StTo.ptrFreeze [1] 2 0 rfl rfl rfl) <| QR.to (StTo.ptrFreeze [1] 2 1 rfl rfl rfl) <| QR.drop [0] rfl ?_
  exact QR.r1 rfl rfl (.ps rfl sh32 rfl) ⟨(g0.1, g0.2), rfl, rfl⟩
theorem slices_Equal_Edge.con (k : Nat) (a0 : (List Edge)) (a1 : (List Edge)) (r : Bool) (h : slices_Equal_Edge k a0 a1 = some r) : Con Tryz.prog 72 [] [SlcA kEdge a0, SlcA kEdge a1] (RA (bA r)) := by
 unfold slices_Equal_Edge at h
 refine Con.of (N := 26) Tryz.func72 rfl rfl rfl fun w0_ fg_ => sr <| ak rfl <| nt <| W.seq <| sr <| mv rfl rfl <| p1 rfl 6 rfl (q_len rfl elS27) <| mv rfl rfl <| p1 rfl 8 rfl (q_len rfl elS27) ?_
 refine p2 rfl 7 rfl 9 rfl (q_int rfl rfl) <| nt ?_
 refine W.condP h rfl (fun hb100 h => ?_) (fun hb100 h => ?_)
 ·refine sr <| ak rfl <| WL.nil <| QN.weaken (env' := [(4, _)]) (.one rfl (.nil _)) <| QN.then_ <| W.ret <| QR.then_ ?_
  cases h
  exact QR.f1 rfl rfl (.t rfl) (.id _)
 ·refine W.skip <| QN.then_ <| W.seq <| sr <| mv rfl rfl <| p1 rfl 11 rfl (q_len rfl elS27) <| mk_ rfl <| WL.nil <| QN.weaken (env' := [(13, _), (12, _), (1, _), (0, _)]) (.o4 rfl (.nil _)) <| QN.then_ <| W.block ?_
  refine W.loop1 (Γ := Unit) (fun (_ : Unit) (x13 : Int) => [(0, SlcA kEdge a0), (1, SlcA kEdge a1), (12, iA (a0.length : Int)), (13, iA x13)]) (fun (_ : Unit) (_ : Int) => []) h () (.o4 rfl (.nil _)) rfl (fun rec0 K0 next0 _ x13 h => ?_)
  unfold slices_Equal_Edge.b0 at h
  refine sr <| p2 rfl 13 rfl 12 rfl (q_int rfl rfl) <| nt <| W.seq ?_
  refine W.condP h rfl (fun hb119 h => ?_) (fun hb119 h => ?_)
  ·refine W.skip <| QN.then_ <| W.seq <| W.block <| sr <| mv rfl rfl <| av rfl rfl <| nt <| W.seq <| W.drawK [(0, false), (1, false), (2, false), (3, false), (4, false), (5, false), (6, false), (7, false), (8, false)] [] (bm [0, 0, 3, 7, 0, 0, 48, 112, 255]) mx (by kernel_rfl) <| dm rfl rfl rfl ?_
   refine dm rfl rfl rfl ?_
   obtain ⟨c124, h⟩ := ite_n h
   refine DK.cons rfl rfl (.p rfl (.s 16 rfl (.s 17 rfl .nil)) rfl (q_index rfl el27 rfl c124.1 c124.2)) <| DK.cons rfl rfl (.p rfl (.s 18 rfl .nil) rfl (q_loadS rfl sh63 (leB rfl) rfl)) <| dm rfl rfl rfl <| dm rfl rfl rfl ?_
   obtain ⟨c125, h⟩ := ite_n h
   refine DK.cons rfl rfl (.p rfl (.s 20 rfl (.s 21 rfl .nil)) rfl (q_index rfl el27 rfl c125.1 c125.2)) <| DK.cons rfl rfl (.p rfl (.s 22 rfl .nil) rfl (q_loadS rfl sh63 (leB rfl) rfl)) <| DK.cons rfl rfl (.p rfl (.s 19 rfl (.s 23 rfl .nil)) rfl (q_eqIn (ms := [(rd a0 x13).fType, (rd a0 x13).fFrom, (rd a0 x13).fTo]) (ns := [(rd a1 x13).fType, (rd a1 x13).fFrom, (rd a1 x13).fTo]) rfl issI_63)) <| DK.nil <| CSteps.nil <| QN.weaken (env' := [(24, _), (13, _), (12, _), (1, _), (0, _)]) (.o4 rfl (.one rfl (.nil _))) <| QN.then_ ?_
   refine W.condP h rfl (fun hb126 h => ?_) (fun hb126 h => ?_)
   ·refine sr <| ak rfl <| nt <| W.ret <| QR.block <| QR.then_ <| QR.then_ <| QR.block <| QR.then_ ?_
    cases h
    exact QR.f1 rfl rfl (.t rfl) (.id _)
   ·refine W.skip <| QN.block <| QN.then_ <| W.region ?_
    obtain ⟨c127, h⟩ := ite_n h
    refine pk rfl 13 rfl (q_addR rfl c127) <| mv rfl rfl <| WL.nil ?_
    exact next0 () (x13 + 1) _ h (.o4 rfl (.nil _))
  ·refine W.exit <| QX.then_ <| QX.then_ <| QX.here <| QN.then_ <| sr <| ak rfl <| nt <| W.ret ?_
   cases h
   exact QR.f1 rfl rfl (.t rfl) (.id _)
theorem slices_EqualFunc___int.con (k : Nat) (a0 : (List (List Int))) (a1 : (List (List Int))) (a2 : (((List Int) × (List Int)) → Option Bool)) (r : Bool) (h : slices_EqualFunc___int k a0 a1 a2 = some r) : Con Tryz.prog 73 [] [SlcA (kSl kInt) a0, SlcA (kSl kInt) a1, FnA Tryz.prog (fun (x : ((List Int) × (List Int))) => [SlcA kInt x.1, SlcA kInt x.2]) (fun (y : Bool) => bA y) a2] (RA (bA r)) := by
 unfold slices_EqualFunc___int at h
 refine Con.of (N := 32) Tryz.func73 rfl rfl rfl fun w0_ fg_ => sr <| ak rfl <| nt <| W.seq <| sr <| mv rfl rfl <| p1 rfl 10 rfl (q_len rfl elS30) <| mv rfl rfl <| p1 rfl 12 rfl (q_len rfl elS30) ?_
 refine p2 rfl 11 rfl 13 rfl (q_int rfl rfl) <| nt ?_
 refine W.condP h rfl (fun hb100 h => ?_) (fun hb100 h => ?_)
 ·refine sr <| ak rfl <| WL.nil <| QN.weaken (env' := [(6, _)]) (.one rfl (.nil _)) <| QN.then_ <| W.ret <| QR.then_ ?_
  cases h
  exact QR.f1 rfl rfl (.t rfl) (.id _)
 ·refine W.skip <| QN.then_ <| W.seq <| sr <| mv rfl rfl <| p1 rfl 15 rfl (q_len rfl elS30) <| mk_ rfl <| WL.nil <| QN.weaken (env' := [(17, _), (16, _), (15, _), (2, _), (1, _)]) (.o4 rfl (.one rfl (.nil _))) <| QN.then_ <| W.block ?_
  refine W.loop1 (Γ := Unit) (fun (_ : Unit) (x17 : Int) => [(1, SlcA (kSl kInt) a1), (2, FnA Tryz.prog (fun (x : ((List Int) × (List Int))) => [SlcA kInt x.1, SlcA kInt x.2]) (fun (y : Bool) => bA y) a2), (15, SlcA (kSl kInt) a0), (16, iA (a0.length : Int)), (17, iA x17)]) (fun (_ : Unit) (_ : Int) => []) h () (.o4 rfl (.one rfl (.nil _))) rfl (fun rec0 K0 next0 _ x17 h => ?_)
  unfold slices_EqualFunc___int.b0 at h
  refine sr <| p2 rfl 17 rfl 16 rfl (q_int rfl rfl) <| nt <| W.seq ?_
  refine W.condP h rfl (fun hb113 h => ?_) (fun hb113 h => ?_)
  ·refine W.skip <| QN.then_ <| W.seq <| W.block <| sr <| mv rfl rfl ?_
   obtain ⟨c114, h⟩ := ite_n h
   refine p2 rfl 15 rfl 17 rfl (q_index rfl el30 rfl c114.1 c114.2) <| ld rfl rfl sh26 <| av rfl rfl <| av rfl rfl <| nx <| mv rfl rfl <| mv rfl rfl ?_
   obtain ⟨c115, h⟩ := ite_n h
   refine p2 rfl 22 rfl 23 rfl (q_index rfl el30 rfl c115.1 c115.2) <| ld rfl rfl sh26 <| av rfl rfl <| WL.nil <| QN.weaken (env' := [(9, _), (8, _), (17, _), (16, _), (15, _), (2, _), (1, _)]) (.o4 rfl (.o2 rfl (.one rfl (.nil _)))) <| QN.then_ <| sr <| mv rfl rfl <| mv rfl rfl <| mv rfl rfl ?_
   obtain ⟨t116, ht116, h⟩ := bind_s h
   refine WL.p rfl rfl rfl (.s 26 rfl (.s 27 rfl (.s 28 rfl .nil))) (q_callV («as» := (fun (x : ((List Int) × (List Int))) => [SlcA kInt x.1, SlcA kInt x.2])) (res := (fun (y : Bool) => bA y)) (x := ((rd a0 x17), (rd a1 x17))) (y := t116) (xs := [.tmp 27, .tmp 28]) rfl ht116 rfl) <| p1 rfl 29 rfl (q_not rfl) <| nt ?_
   refine W.condP h rfl (fun hb117 h => ?_) (fun hb117 h => ?_)
   ·refine sr <| ak rfl <| WL.nil <| QN.weaken (env' := [(6, _)]) (.one rfl (.nil _)) <| QN.then_ <| W.ret <| QR.block <| QR.then_ <| QR.then_ <| QR.block <| QR.then_ ?_
    cases h
    exact QR.f1 rfl rfl (.t rfl) (.id _)
   ·refine W.skip <| QN.block <| QN.weaken (env' := [(17, _), (16, _), (15, _), (2, _), (1, _)]) (.o4 rfl (.one rfl (.nil _))) <| QN.then_ <| W.region ?_
    obtain ⟨c118, h⟩ := ite_n h
    refine pk rfl 17 rfl (q_addR rfl c118) <| mv rfl rfl <| WL.nil ?_
    exact next0 () (x17 + 1) _ h (.o4 rfl (.one rfl (.nil _)))
  ·refine W.exit <| QX.then_ <| QX.then_ <| QX.here <| QN.then_ <| sr <| ak rfl <| nt <| W.ret ?_
   cases h
   exact QR.f1 rfl rfl (.t rfl) (.id _)
theorem host_Same.con (k : Nat) (a0 : Host) (a1 : Host) (r : Bool) (h : host_Same k a0 a1 = some r) : Con Tryz.prog 29 [] [AggA [SlcA kInt a0.fGraph.fNodes, SlcA kEdge a0.fGraph.fEdges, SlcA (kSl kInt) a0.fValues], AggA [SlcA kInt a1.fGraph.fNodes, SlcA kEdge a1.fGraph.fEdges, SlcA (kSl kInt) a1.fValues]] (RA (bA r)) := by
 unfold host_Same at h
 refine Con.of (N := 28) Tryz.func29 rfl rfl rfl fun w0_ fg_ => sr <| p1 rfl 0 rfl (q_box rfl (CellsOf.agg _)) <| p1 rfl 1 rfl (q_box rfl (CellsOf.agg _)) <| ak rfl <| nt <| W.seq ?_
 refine W.jn1 (Γ := Unit) (fun (_ : Unit) (x4 : Bool) => [(4, bA x4)]) (fun (_ : Unit) (_ : Bool) => []) h (fun _ x4 h => ?_) (fun j106 Kj106 h => ?_)
 ·refine QN.then_ <| W.ret ?_
  cases h
  exact QR.f1 rfl rfl (.t rfl) (.id _)
 ·refine W.region <| fd rfl rfl fo32_0 rfl <| fd rfl rfl fo29_0 rfl <| ld rfl rfl sh26 <| fd rfl rfl fo32_0 rfl <| fd rfl rfl fo29_0 rfl <| ld rfl rfl sh26 ?_
  obtain ⟨t107, ht107, h⟩ := bind_s h
  refine p2 rfl 7 rfl 10 rfl (q_call (f := 37) (A := bA t107) (xs := [.tmp 7, .tmp 10]) («as» := [SlcA kInt a0.fGraph.fNodes, SlcA kInt a1.fGraph.fNodes]) rfl ca37 (slices_Equal_int.con k a0.fGraph.fNodes a1.fGraph.fNodes t107 ht107) rfl) <| mv rfl rfl ?_
  rcases bif_s h with ⟨hb108, h⟩ | ⟨hb108, h⟩
  ·refine wf rfl rfl rfl hb108 rfl rfl fo32_0 rfl <| wf rfl rfl rfl hb108 rfl rfl fo29_1 rfl <| wl rfl rfl rfl hb108 rfl rfl sh27 <| wf rfl rfl rfl hb108 rfl rfl fo32_0 rfl <| wf rfl rfl rfl hb108 rfl rfl fo29_1 rfl <| wl rfl rfl rfl hb108 rfl rfl sh27 ?_
   obtain ⟨t109, ht109, h⟩ := bind_s h
   refine wq rfl rfl rfl hb108 (.s 15 rfl (.s 18 rfl .nil)) (q_call (f := 72) (A := bA t109) (xs := [.tmp 15, .tmp 18]) («as» := [SlcA kEdge a0.fGraph.fEdges, SlcA kEdge a1.fGraph.fEdges]) rfl ca72 (slices_Equal_Edge.con k a0.fGraph.fEdges a1.fGraph.fEdges t109 ht109) rfl).o <| p2 rfl 12 rfl 19 rfl (q_pickT rfl hb108) <| mv rfl rfl ?_
   rcases bif_s h with ⟨hb110, h⟩ | ⟨hb110, h⟩
   ·refine wf rfl rfl rfl hb110 rfl rfl fo32_1 rfl <| wl rfl rfl rfl hb110 rfl rfl sh30 <| wf rfl rfl rfl hb110 rfl rfl fo32_1 rfl <| wl rfl rfl rfl hb110 rfl rfl sh30 ?_
    obtain ⟨t111, ht111, h⟩ := bind_s h
    refine wq rfl rfl rfl hb110 (.s 23 rfl (.s 25 rfl (.f («as» := (fun (x : ((List Int) × (List Int))) => [SlcA kInt x.1, SlcA kInt x.2])) (res := (fun (y : Bool) => bA y)) (p := fun x => slices_Equal_int k x.1 x.2) ca37 (fun x y hp => slices_Equal_int.con k x.1 x.2 y hp) .nil))) (q_call (f := 73) (A := bA t111) (xs := [.tmp 23, .tmp 25, .func 37]) («as» := [SlcA (kSl kInt) a0.fValues, SlcA (kSl kInt) a1.fValues, FnA Tryz.prog (fun (x : ((List Int) × (List Int))) => [SlcA kInt x.1, SlcA kInt x.2]) (fun (y : Bool) => bA y) (fun x => slices_Equal_int k x.1 x.2)]) rfl ca73 (slices_EqualFunc___int.con k a0.fValues a1.fValues (fun x => slices_Equal_int k x.1 x.2) t111 ht111) rfl).o <| p2 rfl 21 rfl 26 rfl (q_pickT rfl hb110) <| av rfl rfl <| WL.nil ?_
    exact QN.weaken (.one rfl (.nil _)) (Kj106 () t111 h)
   ·refine sk rfl rfl rfl hb110 <| sk rfl rfl rfl hb110 <| sk rfl rfl rfl hb110 <| sk rfl rfl rfl hb110 <| sk rfl rfl rfl hb110 <| pk rfl 21 rfl (q_pickF rfl hb110) <| av rfl rfl <| WL.nil ?_
    exact QN.weaken (.one rfl (.nil _)) (Kj106 () false h)
  ·refine sk rfl rfl rfl hb108 <| sk rfl rfl rfl hb108 <| sk rfl rfl rfl hb108 <| sk rfl rfl rfl hb108 <| sk rfl rfl rfl hb108 <| sk rfl rfl rfl hb108 <| sk rfl rfl rfl hb108 <| pk rfl 12 rfl (q_pickF rfl hb108) <| mv rfl rfl <| sk rfl rfl rfl rfl <| sk rfl rfl rfl rfl <| sk rfl rfl rfl rfl <| sk rfl rfl rfl rfl ?_
   refine sk rfl rfl rfl rfl <| pk rfl 21 rfl (q_pickF rfl rfl) <| av rfl rfl <| WL.nil ?_
   exact QN.weaken (.one rfl (.nil _)) (Kj106 () false h)
theorem law15_HostSameness.con (k : Nat) (a0 : Host) (a1 : Host) (r : Bool) (h : law15_HostSameness k a0 a1 = some r) : Con Tryz.prog 6 [] [AggA [SlcA kInt a0.fGraph.fNodes, SlcA kEdge a0.fGraph.fEdges, SlcA (kSl kInt) a0.fValues], AggA [SlcA kInt a1.fGraph.fNodes, SlcA kEdge a1.fGraph.fEdges, SlcA (kSl kInt) a1.fValues]] (RA (bA r)) := by
 unfold law15_HostSameness at h
 refine Con.of (N := 32) Tryz.func6 rfl rfl rfl fun w0_ fg_ => sr <| p1 rfl 0 rfl (q_box rfl (CellsOf.agg _)) <| p1 rfl 1 rfl (q_box rfl (CellsOf.agg _)) <| ak rfl <| nt <| W.seq <| W.seq ?_
 refine W.jn1 (Γ := Unit) (fun (_ : Unit) (x16 : Bool) => [(2, PtrA [SlcA kInt a0.fGraph.fNodes, SlcA kEdge a0.fGraph.fEdges, SlcA (kSl kInt) a0.fValues]), (3, PtrA [SlcA kInt a1.fGraph.fNodes, SlcA kEdge a1.fGraph.fEdges, SlcA (kSl kInt) a1.fValues]), (16, bA x16)]) (fun (_ : Unit) (_ : Bool) => []) h (fun _ x16 h => ?_) (fun j106 Kj106 h => ?_)
 ·refine QN.then_ ?_
  refine W.condP h rfl (fun hb107 h => ?_) (fun hb107 h => ?_)
  ·refine sr ?_
   obtain ⟨t108, ht108, h⟩ := bind_s h
   refine WL.p rfl rfl rfl .nil (q_call (f := 11) (A := bA t108) (xs := []) («as» := []) rfl ca11 (law15_awake.con k  t108 ht108) rfl) <| av rfl rfl <| nt <| W.ret <| QR.then_ ?_
   cases h
   exact QR.f1 rfl rfl (.t rfl) (.id _)
  ·refine W.skip <| QN.then_ <| W.seq ?_
   refine W.jn1 (Γ := Unit) (fun (_ : Unit) (x4 : Bool) => [(4, bA x4)]) (fun (_ : Unit) (_ : Bool) => []) h (fun _ x4 h => ?_) (fun j122 Kj122 h => ?_)
   ·refine QN.then_ <| W.ret ?_
    cases h
    exact QR.f1 rfl rfl (.t rfl) (.id _)
   ·refine W.drawK [(0, false), (1, false), (2, false), (3, false), (4, false), (5, false), (6, false), (7, false), (8, false), (9, false), (10, false), (11, false), (12, false), (13, false), (14, false)] [] (bm [0, 1, 0, 7, 0, 0, 63, 127, 255, 511, 511, 1535, 4095, 8191, 16383]) mx (by kernel_rfl) <| DK.cons rfl rfl (.p rfl (.s 2 rfl .nil) rfl (q_loadS rfl sh32 (leB rfl) rfl)) ?_
    obtain ⟨t123, ht123, h⟩ := bind_s h
    refine DK.cons rfl rfl (.p rfl (.s 18 rfl .nil) rfl (q_call (f := 14) (A := AggA [SlcA kInt t123.fGraph.fNodes, SlcA kEdge t123.fGraph.fEdges, SlcA (kSl kInt) t123.fValues]) (xs := [.tmp 18]) («as» := [AggA [SlcA kInt a0.fGraph.fNodes, SlcA kEdge a0.fGraph.fEdges, SlcA (kSl kInt) a0.fValues]]) rfl ca14 (Con.lend (ref15_Copied.con k a0 t123 ht123) (by rintro _ _ _ ⟨_, rfl, rfl⟩; exact .agg (.cons (.id _) (.cons (.id _) (.cons (.tab 0 rfl) .nil))))) rfl)) <| DK.cons rfl rfl (.p rfl (.s 3 rfl .nil) rfl (q_loadS rfl sh32 (leB rfl) rfl)) ?_
    obtain ⟨t124, ht124, h⟩ := bind_s h
    refine DK.cons rfl rfl (.p rfl (.s 19 rfl (.s 20 rfl .nil)) rfl (q_call (f := 29) (A := bA t124) (xs := [.tmp 19, .tmp 20]) («as» := [AggA [SlcA kInt t123.fGraph.fNodes, SlcA kEdge t123.fGraph.fEdges, SlcA (kSl kInt) t123.fValues], AggA [SlcA kInt a1.fGraph.fNodes, SlcA kEdge a1.fGraph.fEdges, SlcA (kSl kInt) a1.fValues]]) rfl ca29 (host_Same.con k t123 a1 t124 ht124) rfl)) <| DK.cons rfl rfl (.p rfl (.s 2 rfl .nil) rfl (q_loadS rfl sh32 (leB rfl) rfl)) <| DK.cons rfl rfl (.p rfl (.s 3 rfl .nil) rfl (q_loadS rfl sh32 (leB rfl) rfl)) ?_
    obtain ⟨t125, ht125, h⟩ := bind_s h
    refine DK.cons rfl rfl (.p rfl (.s 22 rfl (.s 23 rfl .nil)) rfl (q_call (f := 22) (A := bA t125) (xs := [.tmp 22, .tmp 23]) («as» := [AggA [SlcA kInt a0.fGraph.fNodes, SlcA kEdge a0.fGraph.fEdges, SlcA (kSl kInt) a0.fValues], AggA [SlcA kInt a1.fGraph.fNodes, SlcA kEdge a1.fGraph.fEdges, SlcA (kSl kInt) a1.fValues]]) rfl ca22 (ref15_Same.con k a0 a1 t125 ht125) rfl)) <| DK.cons rfl rfl (.p rfl (.s 21 rfl (.s 24 rfl .nil)) rfl (q_beq rfl isb4)) <| dm rfl rfl rfl ?_
    rcases bif_s h with ⟨hb126, h⟩ | ⟨hb126, h⟩
    ·refine DK.cons rfl rfl (.gp rfl rfl rfl hb126 (.s 2 rfl .nil) rfl (q_loadS rfl sh32 (leB rfl) rfl)) <| DK.cons rfl rfl (.gp rfl rfl rfl hb126 (.s 2 rfl .nil) rfl (q_loadS rfl sh32 (leB rfl) rfl)) ?_
     obtain ⟨t127, ht127, h⟩ := bind_s h
     refine DK.cons rfl rfl (.gp rfl rfl rfl hb126 (.s 28 rfl .nil) rfl (q_call (f := 14) (A := AggA [SlcA kInt t127.fGraph.fNodes, SlcA kEdge t127.fGraph.fEdges, SlcA (kSl kInt) t127.fValues]) (xs := [.tmp 28]) («as» := [AggA [SlcA kInt a0.fGraph.fNodes, SlcA kEdge a0.fGraph.fEdges, SlcA (kSl kInt) a0.fValues]]) rfl ca14 (Con.lend (ref15_Copied.con k a0 t127 ht127) (by rintro _ _ _ ⟨_, rfl, rfl⟩; exact .agg (.cons (.id _) (.cons (.id _) (.cons (.tab 0 rfl) .nil))))) rfl)) ?_
     obtain ⟨t128, ht128, h⟩ := bind_s h
     refine DK.cons rfl rfl (.gp rfl rfl rfl hb126 (.s 27 rfl (.s 29 rfl .nil)) rfl (q_call (f := 29) (A := bA t128) (xs := [.tmp 27, .tmp 29]) («as» := [AggA [SlcA kInt a0.fGraph.fNodes, SlcA kEdge a0.fGraph.fEdges, SlcA (kSl kInt) a0.fValues], AggA [SlcA kInt t127.fGraph.fNodes, SlcA kEdge t127.fGraph.fEdges, SlcA (kSl kInt) t127.fValues]]) rfl ca29 (host_Same.con k a0 t127 t128 ht128) rfl)) <| DK.cons rfl rfl (.p rfl (.s 26 rfl (.s 30 rfl .nil)) rfl (q_pickT rfl hb126)) <| DK.cons rfl rfl (.p rfl (.s 31 rfl .nil) rfl (q_assign rfl)) <| DK.nil <| CSteps.nil ?_
     exact QN.weaken (.one rfl (.nil _)) (Kj122 () t128 h)
    ·refine dx rfl rfl rfl hb126 <| dx rfl rfl rfl hb126 <| dx rfl rfl rfl hb126 <| dx rfl rfl rfl hb126 <| DK.cons rfl rfl (.p rfl (.s 26 rfl (.k .nil)) rfl (q_pickF rfl hb126)) <| DK.cons rfl rfl (.p rfl (.s 31 rfl .nil) rfl (q_assign rfl)) <| DK.nil <| CSteps.nil ?_
     exact QN.weaken (.one rfl (.nil _)) (Kj122 () false h)
 ·refine W.region ?_
  obtain ⟨t129, ht129, h⟩ := bind_s h
  refine WL.p rfl rfl rfl .nil (q_call (f := 11) (A := bA t129) (xs := []) («as» := []) rfl ca11 (law15_awake.con k  t129 ht129) rfl) <| p1 rfl 5 rfl (q_not rfl) <| mv rfl rfl ?_
  rcases bif_s h with ⟨hb130, h⟩ | ⟨hb130, h⟩
  ·refine sk rfl rfl rfl hb130 <| sk rfl rfl rfl hb130 <| sk rfl rfl rfl hb130 <| pk rfl 7 rfl (q_pickT rfl hb130) <| mv rfl rfl <| sk rfl rfl rfl rfl <| sk rfl rfl rfl rfl <| sk rfl rfl rfl rfl <| pk rfl 12 rfl (q_pickT rfl rfl) <| WL.nil ?_
   exact QN.weaken (.o2 rfl (.one rfl (.nil _))) (Kj106 () true h)
  ·refine wq rfl rfl rfl hb130 (.s 2 rfl .nil) (q_loadS rfl sh32 (leB rfl) rfl).o ?_
   obtain ⟨t131, ht131, h⟩ := bind_s h
   refine wq rfl rfl rfl hb130 (.s 8 rfl .nil) (q_call (f := 28) (A := bA t131) (xs := [.tmp 8]) («as» := [AggA [SlcA kInt a0.fGraph.fNodes, SlcA kEdge a0.fGraph.fEdges, SlcA (kSl kInt) a0.fValues]]) rfl ca28 (ref15_Few.con k a0 t131 ht131) rfl).o <| wq rfl rfl rfl hb130 (.s 9 rfl .nil) (q_not rfl).o <| p2 rfl 7 rfl 10 rfl (q_pickF rfl hb130) <| mv rfl rfl ?_
   rcases bif_s h with ⟨hb132, h⟩ | ⟨hb132, h⟩
   ·refine sk rfl rfl rfl hb132 <| sk rfl rfl rfl hb132 <| sk rfl rfl rfl hb132 <| pk rfl 12 rfl (q_pickT rfl hb132) <| WL.nil ?_
    exact QN.weaken (.o2 rfl (.one rfl (.nil _))) (Kj106 () true h)
   ·refine wq rfl rfl rfl hb132 (.s 3 rfl .nil) (q_loadS rfl sh32 (leB rfl) rfl).o ?_
    obtain ⟨t133, ht133, h⟩ := bind_s h
    refine wq rfl rfl rfl hb132 (.s 13 rfl .nil) (q_call (f := 28) (A := bA t133) (xs := [.tmp 13]) («as» := [AggA [SlcA kInt a1.fGraph.fNodes, SlcA kEdge a1.fGraph.fEdges, SlcA (kSl kInt) a1.fValues]]) rfl ca28 (ref15_Few.con k a1 t133 ht133) rfl).o <| wq rfl rfl rfl hb132 (.s 14 rfl .nil) (q_not rfl).o <| p2 rfl 12 rfl 15 rfl (q_pickF rfl hb132) <| WL.nil ?_
    exact QN.weaken (.o2 rfl (.one rfl (.nil _))) (Kj106 () (!t133) h)
end Go.Proofs.YthmdmchmmgmblaaGreat
