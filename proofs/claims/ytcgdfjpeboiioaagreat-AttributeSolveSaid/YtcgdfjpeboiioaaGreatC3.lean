/- The Go functions compute the pure ones. (Printed by gen.py.) -/
import Derived.Test.YtcgdfjpeboiioaaGreatC2
namespace Go.Proofs.YtcgdfjpeboiioaaGreat
open Go Go.Abs
attribute [local irreducible] Tryz.prog
theorem slices_Clone_string.conN (k : Nat) (a0 : (List Str)) (r : (List Str)) (h : slices_Clone_string k a0 = some r) : Con Tryz.prog 135 [] [SlcA kStr a0] (RApp 9 kStr r) := by
  unfold slices_Clone_string at h
  obtain ⟨hl, h⟩ := ite_n h
  cases h
  refine Con.of (N := 8) Tryz.func135 rfl rfl rfl fun w0_ fg_ => ?_
  refine W.seq (W.region (ak rfl (WL.nil (QN.then_ ?_))))
  refine W.seq (W.seq (W.region (mv rfl rfl (p1 rfl 3 rfl (q_nilAny (kd := kStr) (xs := a0) rfl elS93) (WL.nil (QN.then_ ?_))))))
  refine W.condAny rfl (fun hp => ?_) (fun _ => ?_)
  · have hn := hp rfl
    subst hn
    refine W.seq (W.region (ak rfl (WL.nil (QN.then_ ?_))))
    refine W.ret (QR.then_ ?_)
    refine QR.to (StTo.newNil 9 kStr) ?_
    refine QR.to (StTo.as 2 rfl Imp.nilHd) ?_
    exact QR.tmp rfl rfl ⟨_, rfl, rfl⟩
  · refine W.skip (QN.then_ ?_)
    refine W.seq (W.region ?_)
    refine WL.p rfl rfl rfl .nil (q_lit0 rfl el93 gr9) ?_
    refine mv rfl rfl ?_
    refine WL.w [] rfl (Wanted.plain rfl) rfl rfl (.s 5 rfl (.s 6 rfl .nil)) (w_appendZ (kd := kStr) rfl el93 rfl gr9 hl) ?_
    rintro _ _ ⟨v, rfl, rfl⟩
    refine av rfl rfl ?_
    refine WL.nil (QN.then_ ?_)
    refine W.ret ?_
    exact QR.tmp rfl rfl ⟨_, rfl, rfl⟩
theorem slices_Clone_string.con (k : Nat) (a0 : (List Str)) (r : (List Str)) (h : slices_Clone_string k a0 = some r) : Con Tryz.prog 135 [] [SlcA kStr a0] (RA (SlcA kStr r)) := Con.free (slices_Clone_string.conN k a0 r h)
theorem types_Attrs.con (k : Nat) (a0 : Types) (a1 : Int) (r : ((List Attr) × Int)) (h : types_Attrs k a0 a1 = some r) : Con Tryz.prog 82 [] [AggA [SlcA kNodeType a0.fNodes, SlcA kEdgeType a0.fEdges], iA a1] (RA (TupA [SlcA kAttr r.1, iA r.2])) := by
 unfold types_Attrs at h
 refine Con.of (N := 36) Tryz.func82 rfl rfl rfl fun w0_ fg_ => sr <| p1 rfl 0 rfl (q_box rfl (CellsOf.agg _)) <| ak rfl <| ak rfl <| nt <| W.seq <| sr <| lS rfl rfl sh35 rfl rfl <| mv rfl rfl ?_
 refine p1 rfl 10 rfl (q_lit (kd := kInt) (ps := [(0, .tmp 10)]) (xs := [.tmp 10]) («as» := [iA a1]) (ys := [a1]) rfl rfl el26 rfl gr3 rfl rfl rfl (.cons (CellsOf.one rfl) .nil)) ?_
 obtain ⟨t100, ht100, h⟩ := bind_s h
 refine p2 rfl 9 rfl 11 rfl (q_call (f := 133) (A := iA t100) (xs := [.tmp 9, .tmp 11]) («as» := [AggA [SlcA kNodeType a0.fNodes, SlcA kEdgeType a0.fEdges], SlcA kInt [a1]]) rfl ca133 (types_given.con k a0 [a1] t100 ht100) rfl) <| av rfl rfl <| WL.nil <| QN.weaken (env' := [(6, _), (2, _), (1, _)]) (.o2 rfl (.one rfl (.nil _))) <| QN.then_ <| sr <| mv rfl rfl <| pk rfl 13 rfl (q_int rfl rfl) <| nt ?_
 refine W.condP h rfl (fun hb101 h => ?_) (fun hb101 h => ?_)
 ·refine sr <| mv rfl rfl <| ak rfl <| av rfl rfl <| nt <| W.ret <| QR.then_ ?_
  cases h
  exact QR.f2 rfl rfl (.t rfl) (.t rfl) (.imp (Imp.tup (.cons (Imp.nil kAttr) (.cons (Imp.id _) .nil))))
 ·refine W.skip <| QN.then_ <| sr <| lS rfl rfl sh35 rfl rfl <| mv rfl rfl ?_
  obtain ⟨t102, ht102, h⟩ := bind_s h
  refine WL.w [] rfl (Wanted.plain rfl) rfl rfl (.s 16 rfl (.s 17 rfl .nil)) (w_callI (f := 134) (xs := [.tmp 16, .tmp 17]) («as» := [AggA [SlcA kNodeType a0.fNodes, SlcA kEdgeType a0.fEdges], iA a1]) rfl ca134 (types_attrs.con k a0 a1 t102 ht102) rfl (.cons (Imp.id _) (.cons (Imp.id _) .nil))) ?_
  rintro _ _ ⟨v103, rfl, rfl⟩
  refine av rfl rfl <| WL.nil <| QN.weaken (env' := [(7, _)]) (.one rfl (.nil _)) <| QN.then_ <| W.seq <| sr <| mv rfl rfl <| WL.q (Wanted.plain rfl) rfl rfl (.s 19 rfl .nil) (q_lenO rfl elS90 (i := 0) rfl) <| mk_ rfl <| nt <| W.block ?_
  refine W.loop2 (Γ := Unit) (fun (_ : Unit) (_ : (List Attr)) (x21 : Int) => [(7, HdA v103), (20, iA (t102.length : Int)), (21, iA x21)]) (fun (_ : Unit) (x7 : (List Attr)) (_ : Int) => [SlE 95 v103 kAttr x7]) h () (.o2 rfl (.one rfl (.nil _))) rfl (fun rec0 K0 next0 _ x7 x21 h => ?_)
  unfold types_Attrs.b0 at h
  refine sr <| p2 rfl 21 rfl 20 rfl (q_int rfl rfl) <| nt <| W.seq ?_
  refine W.condP h rfl (fun hb114 h => ?_) (fun hb114 h => ?_)
  ·refine W.skip <| QN.then_ <| W.seq <| W.block <| sr <| mv rfl rfl <| av rfl rfl <| nt <| W.region <| mv rfl rfl <| mv rfl rfl ?_
   refine mv rfl rfl <| mv rfl rfl ?_
   obtain ⟨c115, h⟩ := ite_n h
   refine WL.q (Wanted.plain rfl) rfl rfl (.s 26 rfl (.s 27 rfl .nil)) (q_indexO rfl el90 (j := 0) rfl c115.1 c115.2) <| p1 rfl 28 rfl (q_fieldE rfl fo95_3) <| WL.q (Wanted.plain rfl) rfl rfl (.s 29 rfl .nil) (q_loadEl rfl sh93 (j := 0) rfl rfl c115.1 c115.2 rfl) ?_
   obtain ⟨t116, ht116, h⟩ := bind_s h
   refine p1 rfl 30 rfl (q_call (f := 135) (A := SlcA kStr t116) (xs := [.tmp 30]) («as» := [SlcA kStr ((rd x7 x21).fNames)]) rfl ca135 (slices_Clone_string.con k ((rd x7 x21).fNames) t116 ht116) rfl) ?_
   obtain ⟨c117, h⟩ := ite_n h
   refine WL.q (Wanted.plain rfl) rfl rfl (.s 24 rfl (.s 25 rfl .nil)) (q_indexO rfl el90 (j := 0) rfl c117.1 c117.2) <| p1 rfl 32 rfl (q_fieldE rfl fo95_3) <| WL.w0 [0] rfl (Wanted.plain rfl) rfl (.s 33 rfl (.s 31 rfl .nil)) (w_storeEl (kd := kAttr) (z := (Attr.mk ((rd x7 x21).fName) ((rd x7 x21).fLow) ((rd x7 x21).fHigh) t116)) rfl sh93 (CellsOf.one rfl) rfl rfl rfl c117.1 c117.2 rfl rfl) ?_
   rintro _ _ ⟨rfl, rfl⟩
   refine WL.nil <| QN.block <| QN.weaken (env' := [(21, _), (20, _), (7, _)]) (.o2 rfl (.one rfl (.nil _))) <| QN.then_ <| W.region ?_
   obtain ⟨c118, h⟩ := ite_n h
   refine pk rfl 21 rfl (q_addR rfl c118) <| mv rfl rfl <| WL.nil ?_
   exact next0 () (x7.set (x21 : Int).toNat (Attr.mk ((rd x7 x21).fName) ((rd x7 x21).fLow) ((rd x7 x21).fHigh) t116)) (x21 + 1) _ h (.o2 rfl (.one rfl (.nil _)))
  ·refine W.exit <| QX.then_ <| QX.then_ <| QX.here <| QN.then_ <| sr <| mv rfl rfl <| av rfl rfl <| ak rfl <| nt <| W.ret ?_
   cases h
   exact QR.f2 rfl rfl (.t rfl) (.t rfl) (.tup (.cons (.slc 0 rfl) (.cons (.id _) .nil)))
theorem attribute_attr.con (k : Nat) (a0 : Types) (a1 : Pattern) (a2 : Slot) (r : (Attr × Bool)) (h : attribute_attr k a0 a1 a2 = some r) : Con Tryz.prog 55 [] [AggA [SlcA kNodeType a0.fNodes, SlcA kEdgeType a0.fEdges], AggA [SlcA kInt a1.fGraph.fNodes, SlcA kEdge a1.fGraph.fEdges, SlcA kSlot a1.fSlots, iA a1.fVars, SlcA kTest a1.fTests], AggA [iA a2.fNode, iA a2.fAttr, iA a2.fTerm.fVar, iA a2.fTerm.fAdd]] (RA (TupA [AggA [EqA (strV r.1.fName), iA r.1.fLow, iA r.1.fHigh, SlcA kStr r.1.fNames], bA r.2])) := by
 unfold attribute_attr at h
 refine Con.of (N := 45) Tryz.func55 rfl rfl rfl fun w0_ fg_ => sr <| p1 rfl 0 rfl (q_box rfl (CellsOf.agg _)) <| p1 rfl 1 rfl (q_box rfl (CellsOf.agg _)) <| p1 rfl 2 rfl (q_box rfl (CellsOf.agg _)) <| WL.w [] rfl (Wanted.plain rfl) rfl rfl .nil (w_alloc rfl z95 (l := [EqA (strV ([] : Str)), iA 0, iA 0, EqA (.slice none 0 0)]) rfl) ?_
 rintro _ _ ⟨b100, rfl, rfl⟩
 refine ak rfl <| nt <| W.seq <| sr <| fd rfl rfl fo113_0 rfl <| ld rfl rfl sh3 <| fd rfl rfl fo42_0 rfl <| fd rfl rfl fo38_0 rfl <| ld rfl rfl sh26 <| p1 rfl 14 rfl (q_len rfl elS26) ?_
 obtain ⟨c101, h⟩ := ite_n h
 refine pk rfl 15 rfl (q_subR rfl c101) ?_
 obtain ⟨t102, ht102, h⟩ := bind_s h
 refine WL.p rfl rfl rfl (.s 11 rfl (.k (.s 16 rfl .nil))) (q_call (f := 40) (A := bA t102) (xs := [.tmp 11, .const (.int .i64 0), .tmp 16]) («as» := [iA a2.fNode, iA 0, iA ((a1.fGraph.fNodes.length : Int) - 1)]) rfl ca40 (attribute_within.con k a2.fNode 0 ((a1.fGraph.fNodes.length : Int) - 1) t102 ht102) rfl) <| p1 rfl 17 rfl (q_not rfl) <| WL.nil <| QN.weaken (env' := [(18, _), (6, _), (5, _), (4, _), (3, _)]) (.o4 rfl (.one rfl (.nil _))) <| QN.then_ ?_
 refine W.condP h rfl (fun hb103 h => ?_) (fun hb103 h => ?_)
 ·refine sr <| WL.p rfl rfl rfl .nil (q_build (is := []) (xs := []) (L := [EqA (strV ([] : Str)), iA 0, iA 0, EqA (.slice none 0 0)]) rfl rfl z95 pl95 rfl rfl .nil rfl) <| WL.w0 [0] rfl (Wanted.plain rfl) rfl (.s 6 rfl (.s 19 rfl .nil)) (w_store (L := [EqA (strV ([] : Str)), iA 0, iA 0, EqA (.slice none 0 0)]) rfl sh95 (CellsOf.agg _) rfl rfl (leB rfl) rfl) ?_
  rintro _ _ ⟨rfl, rfl⟩
  refine ak rfl <| nt <| W.ret <| QR.then_ ?_
  cases h
  exact QR.f2 rfl rfl (.cs (i := 0) rfl sh95 rfl rfl) (.t rfl) (.imp (Imp.tup (.cons (Imp.agg (.cons (Imp.id _) (.cons (Imp.id _) (.cons (Imp.id _) (.cons (Imp.nil kStr) .nil))))) (.cons (Imp.id _) .nil))))
 ·refine W.skip <| QN.then_ <| W.seq <| W.drawK [(0, false), (1, false), (2, false), (3, false), (4, false), (5, false), (6, false), (7, false), (8, false), (9, false), (10, false), (11, false), (12, false), (13, false)] [] (bm [0, 0, 2, 6, 0, 16, 62, 126, 255, 511, 1023, 1023, 2047, 8191]) mx (by kernel_rfl) <| DK.cons rfl rfl (.p rfl (.s 3 rfl .nil) rfl (q_loadS rfl sh35 (leB rfl) rfl)) <| df rfl rfl rfl fo42_0 rfl <| df rfl rfl rfl fo38_0 rfl <| dl rfl rfl rfl sh26 <| df rfl rfl rfl fo113_0 rfl <| dl rfl rfl rfl sh3 ?_
  obtain ⟨c108, h⟩ := ite_n h
  refine DK.cons rfl rfl (.p rfl (.s 24 rfl (.s 26 rfl .nil)) rfl (q_index rfl el26 rfl c108.1 c108.2)) <| dl rfl rfl rfl sh3 ?_
  obtain ⟨t109, ht109, h⟩ := bind_s h
  refine DK.cons rfl rfl (.p rfl (.s 21 rfl (.s 28 rfl .nil)) rfl (q_call (f := 82) (A := TupA [SlcA kAttr t109.1, iA t109.2]) (xs := [.tmp 21, .tmp 28]) («as» := [AggA [SlcA kNodeType a0.fNodes, SlcA kEdgeType a0.fEdges], iA (rd a1.fGraph.fNodes a2.fNode)]) rfl ca82 (types_Attrs.con k a0 (rd a1.fGraph.fNodes a2.fNode) t109 ht109) rfl)) <| dm rfl rfl rfl <| DK.cons rfl rfl (.p rfl (.s 20 rfl .nil) rfl (q_extract rfl rfl)) <| DK.cons rfl rfl (.p rfl (.s 20 rfl .nil) rfl (q_extract rfl rfl)) <| DK.cons rfl rfl (.p rfl (.s 30 rfl .nil) rfl (q_assign rfl)) <| DK.cons rfl rfl (.p rfl (.s 31 rfl .nil) rfl (q_assign rfl)) <| DK.nil <| CSteps.nil <| QN.weaken (env' := [(8, _), (6, _), (5, _)]) (.o2 rfl (.one rfl (.nil _))) <| QN.then_ <| W.seq <| sr ?_
  refine fd rfl rfl fo113_1 rfl <| ld rfl rfl sh3 <| mv rfl rfl <| p1 rfl 34 rfl (q_len rfl elS90) ?_
  obtain ⟨c110, h⟩ := ite_n h
  refine pk rfl 35 rfl (q_subR rfl c110) ?_
  obtain ⟨t111, ht111, h⟩ := bind_s h
  refine WL.p rfl rfl rfl (.s 33 rfl (.k (.s 36 rfl .nil))) (q_call (f := 40) (A := bA t111) (xs := [.tmp 33, .const (.int .i64 0), .tmp 36]) («as» := [iA a2.fAttr, iA 0, iA ((t109.1.length : Int) - 1)]) rfl ca40 (attribute_within.con k a2.fAttr 0 ((t109.1.length : Int) - 1) t111 ht111) rfl) <| p1 rfl 37 rfl (q_not rfl) <| nt ?_
  refine W.condP h rfl (fun hb112 h => ?_) (fun hb112 h => ?_)
  ·refine sr <| WL.p rfl rfl rfl .nil (q_build (is := []) (xs := []) (L := [EqA (strV ([] : Str)), iA 0, iA 0, EqA (.slice none 0 0)]) rfl rfl z95 pl95 rfl rfl .nil rfl) <| WL.w0 [0] rfl (Wanted.plain rfl) rfl (.s 6 rfl (.s 39 rfl .nil)) (w_store (L := [EqA (strV ([] : Str)), iA 0, iA 0, EqA (.slice none 0 0)]) rfl sh95 (CellsOf.agg _) rfl rfl (leB rfl) rfl) ?_
   rintro _ _ ⟨rfl, rfl⟩
   refine ak rfl <| WL.nil <| QN.weaken (env' := [(7, _), (6, _)]) (.o2 rfl (.nil _)) <| QN.then_ <| W.ret <| QR.then_ ?_
   cases h
   exact QR.f2 rfl rfl (.cs (i := 0) rfl sh95 rfl rfl) (.t rfl) (.imp (Imp.tup (.cons (Imp.agg (.cons (Imp.id _) (.cons (Imp.id _) (.cons (Imp.id _) (.cons (Imp.nil kStr) .nil))))) (.cons (Imp.id _) .nil))))
  ·refine W.skip <| QN.weaken (env' := [(8, _), (6, _), (5, _)]) (.o2 rfl (.one rfl (.nil _))) <| QN.then_ <| sr <| mv rfl rfl <| fd rfl rfl fo113_1 rfl <| ld rfl rfl sh3 ?_
   obtain ⟨c113, h⟩ := ite_n h
   refine p2 rfl 40 rfl 42 rfl (q_index rfl el90 rfl c113.1 c113.2) <| lS rfl rfl sh95 rfl rfl <| WL.w0 [0] rfl (Wanted.plain rfl) rfl (.s 6 rfl (.s 44 rfl .nil)) (w_store (L := [EqA (strV ((rd t109.1 a2.fAttr).fName)), iA ((rd t109.1 a2.fAttr).fLow), iA ((rd t109.1 a2.fAttr).fHigh), SlcA kStr ((rd t109.1 a2.fAttr).fNames)]) rfl sh95 (CellsOf.agg _) rfl rfl (leB rfl) rfl) ?_
   rintro _ _ ⟨rfl, rfl⟩
   refine ak rfl <| WL.nil <| QN.weaken (env' := [(7, _), (6, _)]) (.o2 rfl (.nil _)) <| QN.then_ <| W.ret ?_
   cases h
   exact QR.f2 rfl rfl (.cs (i := 0) rfl sh95 rfl rfl) (.t rfl) (.id _)
theorem difference_term.con (k : Nat) (a0 : Int) (a1 : Term) (r : Bool) (h : difference_term k a0 a1 = some r) : Con Tryz.prog 151 [] [iA a0, AggA [iA a1.fVar, iA a1.fAdd]] (RA (bA r)) := by
 unfold difference_term at h
 refine Con.of (N := 24) Tryz.func151 rfl rfl rfl fun w0_ fg_ => sr <| p1 rfl 1 rfl (q_box rfl (CellsOf.agg _)) <| ak rfl <| nt <| W.seq ?_
 refine W.jn1 (Γ := Unit) (fun (_ : Unit) (x4 : Bool) => [(4, bA x4)]) (fun (_ : Unit) (_ : Bool) => []) h (fun _ x4 h => ?_) (fun j104 Kj104 h => ?_)
 ·refine QN.then_ <| W.ret ?_
  cases h
  exact QR.f1 rfl rfl (.t rfl) (.id _)
 ·refine W.region <| fd rfl rfl fo23_0 rfl <| ld rfl rfl sh3 <| pk rfl 6 rfl (q_int rfl rfl) <| mv rfl rfl ?_
  rcases bif_s h with ⟨hb105, h⟩ | ⟨hb105, h⟩
  ·refine wf rfl rfl rfl hb105 rfl rfl fo23_0 rfl <| wl rfl rfl rfl hb105 rfl rfl sh3 <| wm rfl rfl rfl hb105 rfl rfl <| wq rfl rfl rfl hb105 (.s 10 rfl (.s 11 rfl .nil)) (q_int rfl rfl).o <| p2 rfl 8 rfl 12 rfl (q_pickT rfl hb105) <| mv rfl rfl ?_
   rcases bif_s h with ⟨hb106, h⟩ | ⟨hb106, h⟩
   ·refine wf rfl rfl rfl hb106 rfl rfl fo23_1 rfl <| wl rfl rfl rfl hb106 rfl rfl sh3 <| wq rfl rfl rfl hb106 (.s 16 rfl (.k .nil)) (q_int rfl rfl).o <| p2 rfl 14 rfl 17 rfl (q_pickT rfl hb106) <| mv rfl rfl ?_
    rcases bif_s h with ⟨hb107, h⟩ | ⟨hb107, h⟩
    ·refine wf rfl rfl rfl hb107 rfl rfl fo23_1 rfl <| wl rfl rfl rfl hb107 rfl rfl sh3 <| wq rfl rfl rfl hb107 (.s 21 rfl (.k .nil)) (q_int rfl rfl).o <| p2 rfl 19 rfl 22 rfl (q_pickT rfl hb107) <| av rfl rfl <| WL.nil ?_
     exact QN.weaken (.one rfl (.nil _)) (Kj104 () (decide (a1.fAdd ≤ 1000000)) h)
    ·refine sk rfl rfl rfl hb107 <| sk rfl rfl rfl hb107 <| sk rfl rfl rfl hb107 <| pk rfl 19 rfl (q_pickF rfl hb107) <| av rfl rfl <| WL.nil ?_
     exact QN.weaken (.one rfl (.nil _)) (Kj104 () false h)
   ·refine sk rfl rfl rfl hb106 <| sk rfl rfl rfl hb106 <| sk rfl rfl rfl hb106 <| pk rfl 14 rfl (q_pickF rfl hb106) <| mv rfl rfl <| sk rfl rfl rfl rfl <| sk rfl rfl rfl rfl <| sk rfl rfl rfl rfl <| pk rfl 19 rfl (q_pickF rfl rfl) <| av rfl rfl <| WL.nil ?_
    exact QN.weaken (.one rfl (.nil _)) (Kj104 () false h)
  ·refine sk rfl rfl rfl hb105 <| sk rfl rfl rfl hb105 <| sk rfl rfl rfl hb105 <| sk rfl rfl rfl hb105 <| pk rfl 8 rfl (q_pickF rfl hb105) <| mv rfl rfl <| sk rfl rfl rfl rfl <| sk rfl rfl rfl rfl <| sk rfl rfl rfl rfl <| pk rfl 14 rfl (q_pickF rfl rfl) <| mv rfl rfl <| sk rfl rfl rfl rfl <| sk rfl rfl rfl rfl ?_
   refine sk rfl rfl rfl rfl <| pk rfl 19 rfl (q_pickF rfl rfl) <| av rfl rfl <| WL.nil ?_
   exact QN.weaken (.one rfl (.nil _)) (Kj104 () false h)
theorem difference_one.con (k : Nat) (a0 : Int) (a1 : Test) (r : Int) (h : difference_one k a0 a1 = some r) : Con Tryz.prog 109 [] [iA a0, AggA [iA a1.fKind, iA a1.fLeft.fVar, iA a1.fLeft.fAdd, iA a1.fRight.fVar, iA a1.fRight.fAdd]] (RA (iA r)) := by
 unfold difference_one at h
 refine Con.of (N := 27) Tryz.func109 rfl rfl rfl fun w0_ fg_ => sr <| p1 rfl 1 rfl (q_box rfl (CellsOf.agg _)) <| ak rfl <| nt <| W.seq <| W.block <| W.seq ?_
 refine W.jn1 (Γ := Unit) (fun (_ : Unit) (x5 : Bool) => [(0, iA a0), (3, PtrA [iA a1.fKind, iA a1.fLeft.fVar, iA a1.fLeft.fAdd, iA a1.fRight.fVar, iA a1.fRight.fAdd]), (5, bA x5)]) (fun (_ : Unit) (_ : Bool) => []) h (fun _ x5 h => ?_) (fun j102 Kj102 h => ?_)
 ·refine QN.then_ ?_
  refine W.condP h rfl (fun hb103 h => ?_) (fun hb103 h => ?_)
  ·refine sr <| ak rfl <| nt <| W.ret <| QR.block <| QR.then_ ?_
   cases h
   exact QR.f1 rfl rfl (.t rfl) (.id _)
  ·refine W.seq ?_
   refine W.jn1 (Γ := Unit) (fun (_ : Unit) (x14 : Bool) => [(14, bA x14)]) (fun (_ : Unit) (_ : Bool) => []) h (fun _ x14 h => ?_) (fun j108 Kj108 h => ?_)
   ·refine QN.then_ ?_
    refine W.condP h rfl (fun hb109 h => ?_) (fun hb109 h => ?_)
    ·refine sr <| ak rfl <| nt <| W.ret <| QR.block <| QR.then_ ?_
     cases h
     exact QR.f1 rfl rfl (.t rfl) (.id _)
    ·refine W.skip <| QN.block <| QN.then_ <| sr <| ak rfl <| nt <| W.ret ?_
     cases h
     exact QR.f1 rfl rfl (.t rfl) (.id _)
   ·refine W.region <| mv rfl rfl <| fd rfl rfl fo86_1 rfl <| lS rfl rfl sh23 rfl rfl ?_
    obtain ⟨t110, ht110, h⟩ := bind_s h
    refine p2 rfl 15 rfl 17 rfl (q_call (f := 151) (A := bA t110) (xs := [.tmp 15, .tmp 17]) («as» := [iA a0, AggA [iA a1.fLeft.fVar, iA a1.fLeft.fAdd]]) rfl ca151 (difference_term.con k a0 a1.fLeft t110 ht110) rfl) <| p1 rfl 18 rfl (q_not rfl) <| mv rfl rfl ?_
    rcases bif_s h with ⟨hb111, h⟩ | ⟨hb111, h⟩
    ·refine sk rfl rfl rfl hb111 <| sk rfl rfl rfl hb111 <| sk rfl rfl rfl hb111 <| sk rfl rfl rfl hb111 <| sk rfl rfl rfl hb111 <| pk rfl 20 rfl (q_pickT rfl hb111) <| av rfl rfl <| WL.nil ?_
     exact QN.weaken (.one rfl (.nil _)) (Kj108 () true h)
    ·refine wm rfl rfl rfl hb111 rfl rfl <| wf rfl rfl rfl hb111 rfl rfl fo86_2 rfl <| wq rfl rfl rfl hb111 (.s 22 rfl .nil) (q_loadS rfl sh23 (leB rfl) rfl).o ?_
     obtain ⟨t112, ht112, h⟩ := bind_s h
     refine wq rfl rfl rfl hb111 (.s 21 rfl (.s 23 rfl .nil)) (q_call (f := 151) (A := bA t112) (xs := [.tmp 21, .tmp 23]) («as» := [iA a0, AggA [iA a1.fRight.fVar, iA a1.fRight.fAdd]]) rfl ca151 (difference_term.con k a0 a1.fRight t112 ht112) rfl).o <| wq rfl rfl rfl hb111 (.s 24 rfl .nil) (q_not rfl).o <| p2 rfl 20 rfl 25 rfl (q_pickF rfl hb111) <| av rfl rfl <| WL.nil ?_
     exact QN.weaken (.one rfl (.nil _)) (Kj108 () (!t112) h)
 ·refine W.region <| fd rfl rfl fo86_0 rfl <| ld rfl rfl sh3 <| pk rfl 7 rfl (q_int rfl rfl) <| mv rfl rfl ?_
  rcases bif_s h with ⟨hb113, h⟩ | ⟨hb113, h⟩
  ·refine wf rfl rfl rfl hb113 rfl rfl fo86_0 rfl <| wl rfl rfl rfl hb113 rfl rfl sh3 <| wq rfl rfl rfl hb113 (.s 11 rfl (.k .nil)) (q_int rfl rfl).o <| p2 rfl 9 rfl 12 rfl (q_pickT rfl hb113) <| av rfl rfl <| WL.nil ?_
   exact QN.weaken (.o2 rfl (.one rfl (.nil _))) (Kj102 () (a1.fKind != 2) h)
  ·refine sk rfl rfl rfl hb113 <| sk rfl rfl rfl hb113 <| sk rfl rfl rfl hb113 <| pk rfl 9 rfl (q_pickF rfl hb113) <| av rfl rfl <| WL.nil ?_
   exact QN.weaken (.o2 rfl (.one rfl (.nil _))) (Kj102 () false h)
theorem difference_Valid.con (k : Nat) (a0 : Int) (a1 : (List Test)) (r : Int) (h : difference_Valid k a0 a1 = some r) : Con Tryz.prog 56 [] [iA a0, SlcA kTest a1] (RA (iA r)) := by
 unfold difference_Valid at h
 refine Con.of (N := 30) Tryz.func56 rfl rfl rfl fun w0_ fg_ => sr <| ak rfl <| nt <| W.seq <| W.seq ?_
 refine W.jn1 (Γ := Unit) (fun (_ : Unit) (x13 : Bool) => [(0, iA a0), (1, SlcA kTest a1), (13, bA x13)]) (fun (_ : Unit) (_ : Bool) => []) h (fun _ x13 h => ?_) (fun j102 Kj102 h => ?_)
 ·refine QN.then_ ?_
  refine W.condP h rfl (fun hb103 h => ?_) (fun hb103 h => ?_)
  ·refine sr <| ak rfl <| nt <| W.ret <| QR.then_ ?_
   cases h
   exact QR.f1 rfl rfl (.t rfl) (.id _)
  ·refine W.skip <| QN.then_ <| W.seq <| sr <| mv rfl rfl <| p1 rfl 14 rfl (q_len rfl elS40) <| pk rfl 15 rfl (q_int rfl rfl) <| nt ?_
   refine W.condP h rfl (fun hb104 h => ?_) (fun hb104 h => ?_)
   ·refine sr <| ak rfl <| nt <| W.ret <| QR.then_ ?_
    cases h
    exact QR.f1 rfl rfl (.t rfl) (.id _)
   ·refine W.skip <| QN.then_ <| W.seq <| sr <| mv rfl rfl <| p1 rfl 17 rfl (q_len rfl elS40) <| mk_ rfl <| nt <| W.block ?_
    refine W.loop1 (Γ := Unit) (fun (_ : Unit) (x19 : Int) => [(0, iA a0), (17, SlcA kTest a1), (18, iA (a1.length : Int)), (19, iA x19)]) (fun (_ : Unit) (_ : Int) => []) h () (.o4 rfl (.nil _)) rfl (fun rec0 K0 next0 _ x19 h => ?_)
    unfold difference_Valid.b0 at h
    refine sr <| p2 rfl 19 rfl 18 rfl (q_int rfl rfl) <| nt <| W.seq ?_
    refine W.condP h rfl (fun hb117 h => ?_) (fun hb117 h => ?_)
    ·refine W.skip <| QN.then_ <| W.seq <| W.block <| sr ?_
     obtain ⟨c118, h⟩ := ite_n h
     refine p2 rfl 17 rfl 19 rfl (q_index rfl el40 rfl c118.1 c118.2) <| lS rfl rfl sh86 rfl rfl <| WL.w [] rfl (Wanted.plain rfl) rfl rfl .nil (w_alloc rfl z86 (l := [iA 0, iA 0, iA 0, iA 0, iA 0]) rfl) ?_
     rintro _ _ ⟨b119, rfl, rfl⟩
     refine WL.w0 [0] rfl (Wanted.plain rfl) rfl (.s 6 rfl (.s 22 rfl .nil)) (w_store (L := [iA ((rd a1 x19).fKind), iA ((rd a1 x19).fLeft.fVar), iA ((rd a1 x19).fLeft.fAdd), iA ((rd a1 x19).fRight.fVar), iA ((rd a1 x19).fRight.fAdd)]) rfl sh86 (CellsOf.agg _) rfl rfl (leB rfl) rfl) ?_
     rintro _ _ ⟨rfl, rfl⟩
     refine WL.nil <| QN.to (StTo.still [0] 6 rfl rfl) <| QN.then_ <| sr <| mv rfl rfl <| lS rfl rfl sh86 rfl rfl ?_
     obtain ⟨t120, ht120, h⟩ := bind_s h
     refine p2 rfl 23 rfl 24 rfl (q_call (f := 109) (A := iA t120) (xs := [.tmp 23, .tmp 24]) («as» := [iA a0, AggA [iA ((rd a1 x19).fKind), iA ((rd a1 x19).fLeft.fVar), iA ((rd a1 x19).fLeft.fAdd), iA ((rd a1 x19).fRight.fVar), iA ((rd a1 x19).fRight.fAdd)]]) rfl ca109 (difference_one.con k a0 (rd a1 x19) t120 ht120) rfl) <| av rfl rfl <| WL.nil <| QN.weaken (env' := [(7, _), (19, _), (18, _), (17, _), (0, _)]) (.o4 rfl (.one rfl (.nil _))) <| QN.then_ <| sr <| mv rfl rfl <| pk rfl 26 rfl (q_int rfl rfl) <| nt ?_
     refine W.condP h rfl (fun hb121 h => ?_) (fun hb121 h => ?_)
     ·refine sr <| mv rfl rfl <| av rfl rfl <| WL.nil <| QN.weaken (env' := [(4, _)]) (.one rfl (.nil _)) <| QN.then_ <| W.ret <| QR.block <| QR.then_ <| QR.then_ <| QR.block <| QR.then_ ?_
      cases h
      exact QR.f1 rfl rfl (.t rfl) (.id _)
     ·refine W.skip <| QN.block <| QN.then_ <| W.region ?_
      obtain ⟨c122, h⟩ := ite_n h
      refine pk rfl 19 rfl (q_addR rfl c122) <| mv rfl rfl <| WL.nil ?_
      exact next0 () (x19 + 1) _ h (.o4 rfl (.nil _))
    ·refine W.exit <| QX.then_ <| QX.then_ <| QX.here <| QN.then_ <| sr <| ak rfl <| nt <| W.ret ?_
     cases h
     exact QR.f1 rfl rfl (.t rfl) (.id _)
 ·refine W.region <| mv rfl rfl <| pk rfl 8 rfl (q_int rfl rfl) <| mv rfl rfl ?_
  rcases bif_s h with ⟨hb123, h⟩ | ⟨hb123, h⟩
  ·refine sk rfl rfl rfl hb123 <| sk rfl rfl rfl hb123 <| pk rfl 10 rfl (q_pickT rfl hb123) <| WL.nil ?_
   exact QN.weaken (.o2 rfl (.one rfl (.nil _))) (Kj102 () true h)
  ·refine wm rfl rfl rfl hb123 rfl rfl <| wq rfl rfl rfl hb123 (.s 11 rfl (.k .nil)) (q_int rfl rfl).o <| p2 rfl 10 rfl 12 rfl (q_pickF rfl hb123) <| WL.nil ?_
   exact QN.weaken (.o2 rfl (.one rfl (.nil _))) (Kj102 () (decide (a0 > 12)) h)
theorem slices_Index_bool.con (k : Nat) (a0 : (List Bool)) (a1 : Bool) (r : Int) (h : slices_Index_bool k a0 a1 = some r) : Con Tryz.prog 110 [] [SlcA kBool a0, bA a1] (RA (iA r)) := by
 unfold slices_Index_bool at h
 refine Con.of (N := 19) Tryz.func110 rfl rfl rfl fun w0_ fg_ => sr <| ak rfl <| nt <| W.seq <| sr <| mv rfl rfl <| p1 rfl 6 rfl (q_len rfl elS111) <| mk_ rfl <| WL.nil ?_
 refine QN.then_ <| W.block ?_
 refine W.loop1 (Γ := Unit) (fun (_ : Unit) (x8 : Int) => [(0, SlcA kBool a0), (1, bA a1), (7, iA (a0.length : Int)), (8, iA x8)]) (fun (_ : Unit) (_ : Int) => []) h () (.o4 rfl (.nil _)) rfl (fun rec0 K0 next0 _ x8 h => ?_)
 unfold slices_Index_bool.b0 at h
 refine sr <| p2 rfl 8 rfl 7 rfl (q_int rfl rfl) <| nt <| W.seq ?_
 refine W.condP h rfl (fun hb108 h => ?_) (fun hb108 h => ?_)
 ·refine W.skip <| QN.then_ <| W.seq <| W.block <| sr <| mv rfl rfl <| av rfl rfl <| nx <| mv rfl rfl ?_
  refine mv rfl rfl <| mv rfl rfl ?_
  obtain ⟨c109, h⟩ := ite_n h
  refine p2 rfl 12 rfl 13 rfl (q_index rfl el111 rfl c109.1 c109.2) <| ld rfl rfl sh4 <| p2 rfl 11 rfl 15 rfl (q_beq rfl isb4) <| WL.nil <| QN.weaken (env' := [(16, _), (5, _), (8, _), (7, _), (1, _), (0, _)]) (.o4 rfl (.o2 rfl (.nil _))) <| QN.then_ ?_
  refine W.condP h rfl (fun hb110 h => ?_) (fun hb110 h => ?_)
  ·refine sr <| mv rfl rfl <| av rfl rfl <| WL.nil <| QN.weaken (env' := [(4, _)]) (.one rfl (.nil _)) <| QN.then_ <| W.ret <| QR.block <| QR.then_ <| QR.then_ <| QR.block <| QR.then_ ?_
   cases h
   exact QR.f1 rfl rfl (.t rfl) (.id _)
  ·refine W.skip <| QN.block <| QN.then_ <| W.region ?_
   obtain ⟨c111, h⟩ := ite_n h
   refine pk rfl 8 rfl (q_addR rfl c111) <| mv rfl rfl <| WL.nil ?_
   exact next0 () (x8 + 1) _ h (.o4 rfl (.nil _))
 ·refine W.exit <| QX.then_ <| QX.then_ <| QX.here <| QN.then_ <| sr <| ak rfl <| nt <| W.ret ?_
  cases h
  exact QR.f1 rfl rfl (.t rfl) (.id _)
theorem slices_Contains_bool.con (k : Nat) (a0 : (List Bool)) (a1 : Bool) (r : Bool) (h : slices_Contains_bool k a0 a1 = some r) : Con Tryz.prog 57 [] [SlcA kBool a0, bA a1] (RA (bA r)) := by
 unfold slices_Contains_bool at h
 refine Con.of (N := 9) Tryz.func57 rfl rfl rfl fun w0_ fg_ => sr <| ak rfl <| nx <| mv rfl rfl <| mv rfl rfl ?_
 obtain ⟨t100, ht100, h⟩ := bind_s h
 refine p2 rfl 5 rfl 6 rfl (q_call (f := 110) (A := iA t100) (xs := [.tmp 5, .tmp 6]) («as» := [SlcA kBool a0, bA a1]) rfl ca110 (slices_Index_bool.con k a0 a1 t100 ht100) rfl) <| pk rfl 7 rfl (q_int rfl rfl) <| av rfl rfl <| nt <| W.ret ?_
 cases h
 exact QR.f1 rfl rfl (.t rfl) (.id _)
theorem attribute_Valid.con (k : Nat) (a0 : Types) (a1 : Pattern) (r : Int) (h : attribute_Valid k a0 a1 = some r) : Con Tryz.prog 18 [] [AggA [SlcA kNodeType a0.fNodes, SlcA kEdgeType a0.fEdges], AggA [SlcA kInt a1.fGraph.fNodes, SlcA kEdge a1.fGraph.fEdges, SlcA kSlot a1.fSlots, iA a1.fVars, SlcA kTest a1.fTests]] (RA (iA r)) := by
 unfold attribute_Valid at h
 refine Con.of (N := 110) Tryz.func18 rfl rfl rfl fun w0_ fg_ => sr <| p1 rfl 0 rfl (q_box rfl (CellsOf.agg _)) <| p1 rfl 1 rfl (q_box rfl (CellsOf.agg _)) <| ak rfl <| nt <| W.seq <| sr <| lS rfl rfl sh35 rfl rfl ?_
 obtain ⟨t100, ht100, h⟩ := bind_s h
 refine p1 rfl 15 rfl (q_call (f := 49) (A := TupA [EqA (strV t100.1), iA t100.2]) (xs := [.tmp 15]) («as» := [AggA [SlcA kNodeType a0.fNodes, SlcA kEdgeType a0.fEdges]]) rfl ca49 (types_Valid.con k a0 t100 ht100) rfl) <| mv rfl rfl <| p1 rfl 14 rfl (q_extract rfl rfl) <| p1 rfl 14 rfl (q_extract rfl rfl) <| av rfl rfl <| av rfl rfl <| WL.nil <| QN.weaken (env' := [(6, _), (3, _), (2, _)]) (.o2 rfl (.one rfl (.nil _))) <| QN.then_ <| sr <| mv rfl rfl <| pk rfl 19 rfl (q_int rfl rfl) ?_
 refine nt ?_
 refine W.condP h rfl (fun hb101 h => ?_) (fun hb101 h => ?_)
 ·refine sr <| mv rfl rfl <| av rfl rfl <| nt <| W.ret <| QR.then_ ?_
  cases h
  exact QR.f1 rfl rfl (.t rfl) (.id _)
 ·refine W.skip <| QN.then_ <| W.seq <| sr <| fd rfl rfl fo42_0 rfl <| lS rfl rfl sh38 rfl rfl ?_
  obtain ⟨t102, ht102, h⟩ := bind_s h
  refine p1 rfl 23 rfl (q_call (f := 50) (A := iA t102) (xs := [.tmp 23]) («as» := [AggA [SlcA kInt a1.fGraph.fNodes, SlcA kEdge a1.fGraph.fEdges]]) rfl ca50 (graph_Valid.con k a1.fGraph t102 ht102) rfl) <| av rfl rfl <| nx <| mv rfl rfl <| pk rfl 25 rfl (q_int rfl rfl) <| WL.nil <| QN.weaken (env' := [(26, _), (7, _), (3, _), (2, _)]) (.o4 rfl (.nil _)) <| QN.then_ ?_
  refine W.condP h rfl (fun hb103 h => ?_) (fun hb103 h => ?_)
  ·refine sr <| mv rfl rfl <| av rfl rfl <| nt <| W.ret <| QR.then_ ?_
   cases h
   exact QR.f1 rfl rfl (.t rfl) (.id _)
  ·refine W.skip <| QN.then_ <| W.seq <| W.seq ?_
   refine W.jn1 (Γ := Unit) (fun (_ : Unit) (x39 : Bool) => [(2, PtrA [SlcA kNodeType a0.fNodes, SlcA kEdgeType a0.fEdges]), (3, PtrA [SlcA kInt a1.fGraph.fNodes, SlcA kEdge a1.fGraph.fEdges, SlcA kSlot a1.fSlots, iA a1.fVars, SlcA kTest a1.fTests]), (39, bA x39)]) (fun (_ : Unit) (_ : Bool) => []) h (fun _ x39 h => ?_) (fun j108 Kj108 h => ?_)
   ·refine QN.then_ ?_
    refine W.condP h rfl (fun hb109 h => ?_) (fun hb109 h => ?_)
    ·refine sr <| ak rfl <| nt <| W.ret <| QR.then_ ?_
     cases h
     exact QR.f1 rfl rfl (.t rfl) (.id _)
    ·refine W.skip <| QN.then_ <| W.seq <| sr <| fd rfl rfl fo42_2 rfl <| ld rfl rfl sh3 ?_
     obtain ⟨t110, ht110, h⟩ := bind_s h
     refine WL.p rfl rfl rfl (.s 41 rfl (.k (.k .nil))) (q_call (f := 40) (A := bA t110) (xs := [.tmp 41, .const (.int .i64 0), .const (.int .i64 12)]) («as» := [iA a1.fVars, iA 0, iA 12]) rfl ca40 (attribute_within.con k a1.fVars 0 12 t110 ht110) rfl) <| p1 rfl 42 rfl (q_not rfl) <| nt ?_
     refine W.condP h rfl (fun hb111 h => ?_) (fun hb111 h => ?_)
     ·refine sr <| ak rfl <| WL.nil <| QN.weaken (env' := [(4, _)]) (.one rfl (.nil _)) <| QN.then_ <| W.ret <| QR.then_ ?_
      cases h
      exact QR.f1 rfl rfl (.t rfl) (.id _)
     ·refine W.skip <| QN.then_ <| W.seq <| W.seq ?_
      refine W.jn1 (Γ := Unit) (fun (_ : Unit) (x53 : Bool) => [(2, PtrA [SlcA kNodeType a0.fNodes, SlcA kEdgeType a0.fEdges]), (3, PtrA [SlcA kInt a1.fGraph.fNodes, SlcA kEdge a1.fGraph.fEdges, SlcA kSlot a1.fSlots, iA a1.fVars, SlcA kTest a1.fTests]), (53, bA x53)]) (fun (_ : Unit) (_ : Bool) => []) h (fun _ x53 h => ?_) (fun j114 Kj114 h => ?_)
      ·refine QN.then_ ?_
       refine W.condP h rfl (fun hb115 h => ?_) (fun hb115 h => ?_)
       ·refine sr <| ak rfl <| nt <| W.ret <| QR.then_ ?_
        cases h
        exact QR.f1 rfl rfl (.t rfl) (.id _)
       ·refine W.skip <| QN.then_ <| sr <| fd rfl rfl fo42_2 rfl <| ld rfl rfl sh3 ?_
        obtain ⟨c116, h⟩ := ite_n h
        refine WL.w [] rfl (Wanted.plain rfl) rfl rfl (.s 55 rfl (.s 55 rfl .nil)) (w_make (kd := kBool) (z := false) rfl el111 rfl gr4 z4 rfl c116.1 c116.2) ?_
        rintro _ _ ⟨v117, rfl, rfl⟩
        refine av rfl rfl <| nt <| W.seq <| sr <| fd rfl rfl fo42_1 rfl <| ld rfl rfl sh39 <| p1 rfl 58 rfl (q_len rfl elS39) <| mk_ rfl <| nt <| W.block ?_
        refine W.loop2 (Γ := Unit) (fun (_ : Unit) (_ : (List Bool)) (x60 : Int) => [(2, PtrA [SlcA kNodeType a0.fNodes, SlcA kEdgeType a0.fEdges]), (3, PtrA [SlcA kInt a1.fGraph.fNodes, SlcA kEdge a1.fGraph.fEdges, SlcA kSlot a1.fSlots, iA a1.fVars, SlcA kTest a1.fTests]), (8, HdA v117), (58, SlcA kSlot a1.fSlots), (59, iA (a1.fSlots.length : Int)), (60, iA x60)]) (fun (_ : Unit) (x8 : (List Bool)) (_ : Int) => [SlE 4 v117 kBool x8]) h () (.o4 rfl (.o2 rfl (.nil _))) rfl (fun rec0 K0 next0 _ x8 x60 h => ?_)
        unfold attribute_Valid.b0 at h
        refine sr <| p2 rfl 60 rfl 59 rfl (q_int rfl rfl) <| nt <| W.seq ?_
        refine W.condP h rfl (fun hb174 h => ?_) (fun hb174 h => ?_)
        ·refine W.skip <| QN.then_ <| W.seq <| W.block <| sr ?_
         obtain ⟨c175, h⟩ := ite_n h
         refine p2 rfl 58 rfl 60 rfl (q_index rfl el39 rfl c175.1 c175.2) <| lS rfl rfl sh113 rfl rfl <| WL.w [] rfl (Wanted.plain rfl) rfl rfl .nil (w_alloc rfl z113 (l := [iA 0, iA 0, iA 0, iA 0]) rfl) ?_
         rintro _ _ ⟨b176, rfl, rfl⟩
         refine WL.w0 [0] rfl (Wanted.plain rfl) rfl (.s 10 rfl (.s 63 rfl .nil)) (w_store (L := [iA ((rd a1.fSlots x60).fNode), iA ((rd a1.fSlots x60).fAttr), iA ((rd a1.fSlots x60).fTerm.fVar), iA ((rd a1.fSlots x60).fTerm.fAdd)]) rfl sh113 (CellsOf.agg _) rfl rfl (leB rfl) rfl) ?_
         rintro _ _ ⟨rfl, rfl⟩
         refine WL.nil <| QN.to (StTo.still [0] 10 rfl rfl) <| QN.then_ <| W.seq <| sr <| lS rfl rfl sh35 rfl rfl <| lS rfl rfl sh42 rfl rfl <| lS rfl rfl sh113 rfl rfl ?_
         obtain ⟨t177, ht177, h⟩ := bind_s h
         refine WL.p rfl rfl rfl (.s 65 rfl (.s 66 rfl (.s 67 rfl .nil))) (q_call (f := 55) (A := TupA [AggA [EqA (strV t177.1.fName), iA t177.1.fLow, iA t177.1.fHigh, SlcA kStr t177.1.fNames], bA t177.2]) (xs := [.tmp 65, .tmp 66, .tmp 67]) («as» := [AggA [SlcA kNodeType a0.fNodes, SlcA kEdgeType a0.fEdges], AggA [SlcA kInt a1.fGraph.fNodes, SlcA kEdge a1.fGraph.fEdges, SlcA kSlot a1.fSlots, iA a1.fVars, SlcA kTest a1.fTests], AggA [iA ((rd a1.fSlots x60).fNode), iA ((rd a1.fSlots x60).fAttr), iA ((rd a1.fSlots x60).fTerm.fVar), iA ((rd a1.fSlots x60).fTerm.fAdd)]]) rfl ca55 (attribute_attr.con k a0 a1 (rd a1.fSlots x60) t177 ht177) rfl) <| mv rfl rfl <| p1 rfl 64 rfl (q_extract rfl rfl) <| p1 rfl 64 rfl (q_extract rfl rfl) <| WL.w [] rfl (Wanted.plain rfl) rfl rfl .nil (w_alloc rfl z95 (l := [EqA (strV ([] : Str)), iA 0, iA 0, EqA (.slice none 0 0)]) rfl) ?_
         rintro _ _ ⟨b178, rfl, rfl⟩
         refine WL.w0 [0] rfl (Wanted.plain rfl) rfl (.s 11 rfl (.s 69 rfl .nil)) (w_store (L := [EqA (strV t177.1.fName), iA t177.1.fLow, iA t177.1.fHigh, SlcA kStr t177.1.fNames]) rfl sh95 (CellsOf.agg _) rfl rfl (leB rfl) rfl) ?_
         rintro _ _ ⟨rfl, rfl⟩
         refine av rfl rfl <| WL.nil <| QN.to (StTo.still [0] 11 rfl rfl) <| QN.weaken (env' := [(12, _), (10, _), (60, _), (59, _), (58, _), (8, _), (3, _), (2, _)]) (.o4 rfl (.o4 rfl (.nil _))) <| QN.then_ <| W.seq ?_
         refine W.jn1 (Γ := Unit) (fun (_ : Unit) (x89 : Bool) => [(2, PtrA [SlcA kNodeType a0.fNodes, SlcA kEdgeType a0.fEdges]), (3, PtrA [SlcA kInt a1.fGraph.fNodes, SlcA kEdge a1.fGraph.fEdges, SlcA kSlot a1.fSlots, iA a1.fVars, SlcA kTest a1.fTests]), (8, HdA v117), (58, SlcA kSlot a1.fSlots), (59, iA (a1.fSlots.length : Int)), (60, iA x60), (10, PtrA [iA ((rd a1.fSlots x60).fNode), iA ((rd a1.fSlots x60).fAttr), iA ((rd a1.fSlots x60).fTerm.fVar), iA ((rd a1.fSlots x60).fTerm.fAdd)]), (89, bA x89)]) (fun (_ : Unit) (_ : Bool) => [SlE 4 v117 kBool x8]) h (fun _ x89 h => ?_) (fun j185 Kj185 h => ?_)
         ·refine QN.then_ ?_
          refine W.condP h rfl (fun hb186 h => ?_) (fun hb186 h => ?_)
          ·refine sr <| ak rfl <| WL.nil <| QN.weaken (env' := [(4, _)]) (.one rfl (.nil _)) <| QN.then_ <| W.ret <| QR.then_ <| QR.block <| QR.then_ <| QR.then_ <| QR.block <| QR.then_ ?_
           cases h
           exact QR.f1 rfl rfl (.t rfl) (.id _)
          ·refine W.skip <| QN.then_ <| sr <| fd rfl rfl fo113_2 rfl <| fd rfl rfl fo23_0 rfl <| ld rfl rfl sh3 <| pk rfl 92 rfl (q_int rfl rfl) <| nt ?_
           refine W.condP h rfl (fun hb189 h => ?_) (fun hb189 h => ?_)
           ·refine W.region <| mv rfl rfl <| fd rfl rfl fo113_2 rfl <| fd rfl rfl fo23_0 rfl <| ld rfl rfl sh3 ?_
            obtain ⟨c190, h⟩ := ite_n h
            refine WL.q (Wanted.plain rfl) rfl rfl (.s 94 rfl (.s 97 rfl .nil)) (q_indexO rfl el111 (j := 0) rfl c190.1 c190.2) <| WL.w0 [0] rfl (Wanted.plain rfl) rfl (.s 98 rfl (.k .nil)) (w_storeEl (kd := kBool) (z := true) rfl sh4 (CellsOf.one rfl) rfl rfl rfl c190.1 c190.2 rfl rfl) ?_
            rintro _ _ ⟨rfl, rfl⟩
            refine WL.nil <| QN.block <| QN.weaken (env' := [(60, _), (59, _), (58, _), (8, _), (3, _), (2, _)]) (.o4 rfl (.o2 rfl (.nil _))) <| QN.then_ <| W.region ?_
            obtain ⟨c191, h⟩ := ite_n h
            refine pk rfl 60 rfl (q_addR rfl c191) <| mv rfl rfl <| WL.nil ?_
            exact next0 () (x8.set ((rd a1.fSlots x60).fTerm.fVar : Int).toNat true) (x60 + 1) _ h (.o4 rfl (.o2 rfl (.nil _)))
           ·refine W.skip <| QN.block <| QN.then_ <| W.region ?_
            obtain ⟨c192, h⟩ := ite_n h
            refine pk rfl 60 rfl (q_addR rfl c192) <| mv rfl rfl <| WL.nil ?_
            exact next0 () x8 (x60 + 1) _ h (.o4 rfl (.o2 rfl (.nil _)))
         ·refine W.region <| mv rfl rfl <| p1 rfl 71 rfl (q_not rfl) <| mv rfl rfl ?_
          rcases bif_s h with ⟨hb193, h⟩ | ⟨hb193, h⟩
          ·refine sk rfl rfl rfl hb193 <| sk rfl rfl rfl hb193 <| sk rfl rfl rfl hb193 <| sk rfl rfl rfl hb193 <| sk rfl rfl rfl hb193 <| sk rfl rfl rfl hb193 <| sk rfl rfl rfl hb193 <| sk rfl rfl rfl hb193 <| pk rfl 73 rfl (q_pickT rfl hb193) <| mv rfl rfl <| sk rfl rfl rfl rfl <| sk rfl rfl rfl rfl <| sk rfl rfl rfl rfl ?_
           refine sk rfl rfl rfl rfl <| sk rfl rfl rfl rfl <| pk rfl 83 rfl (q_pickT rfl rfl) <| WL.nil ?_
           exact QN.weaken (.o4 rfl (.o4 rfl (.nil _))) (Kj185 () true h)
          ·refine wf rfl rfl rfl hb193 rfl rfl fo113_2 rfl <| wf rfl rfl rfl hb193 rfl rfl fo23_0 rfl <| wl rfl rfl rfl hb193 rfl rfl sh3 <| wf rfl rfl rfl hb193 rfl rfl fo42_2 rfl <| wl rfl rfl rfl hb193 rfl rfl sh3 ?_
           obtain ⟨c194, h⟩ := ite_n h
           refine wq rfl rfl rfl hb193 (.s 78 rfl (.k .nil)) (q_subR rfl c194).o ?_
           obtain ⟨t195, ht195, h⟩ := bind_s h
           refine wq rfl rfl rfl hb193 (.s 76 rfl (.k (.s 79 rfl .nil))) (q_call (f := 40) (A := bA t195) (xs := [.tmp 76, .const (.int .i64 (-1)), .tmp 79]) («as» := [iA ((rd a1.fSlots x60).fTerm.fVar), iA (-1), iA (a1.fVars - 1)]) rfl ca40 (attribute_within.con k ((rd a1.fSlots x60).fTerm.fVar) (-1) (a1.fVars - 1) t195 ht195) rfl).o <| wq rfl rfl rfl hb193 (.s 80 rfl .nil) (q_not rfl).o <| p2 rfl 73 rfl 81 rfl (q_pickF rfl hb193) <| mv rfl rfl ?_
           rcases bif_s h with ⟨hb196, h⟩ | ⟨hb196, h⟩
           ·refine sk rfl rfl rfl hb196 <| sk rfl rfl rfl hb196 <| sk rfl rfl rfl hb196 <| sk rfl rfl rfl hb196 <| sk rfl rfl rfl hb196 <| pk rfl 83 rfl (q_pickT rfl hb196) <| WL.nil ?_
            exact QN.weaken (.o4 rfl (.o4 rfl (.nil _))) (Kj185 () true h)
           ·refine wf rfl rfl rfl hb196 rfl rfl fo113_2 rfl <| wf rfl rfl rfl hb196 rfl rfl fo23_1 rfl <| wl rfl rfl rfl hb196 rfl rfl sh3 ?_
            obtain ⟨t197, ht197, h⟩ := bind_s h
            refine wq rfl rfl rfl hb196 (.s 86 rfl (.k (.k .nil))) (q_call (f := 40) (A := bA t197) (xs := [.tmp 86, .const (.int .i64 (-1000000)), .const (.int .i64 1000000)]) («as» := [iA ((rd a1.fSlots x60).fTerm.fAdd), iA (-1000000), iA 1000000]) rfl ca40 (attribute_within.con k ((rd a1.fSlots x60).fTerm.fAdd) (-1000000) 1000000 t197 ht197) rfl).o <| wq rfl rfl rfl hb196 (.s 87 rfl .nil) (q_not rfl).o <| p2 rfl 83 rfl 88 rfl (q_pickF rfl hb196) <| WL.nil ?_
            exact QN.weaken (.o4 rfl (.o4 rfl (.nil _))) (Kj185 () (!t197) h)
        ·refine W.exit <| QX.then_ <| QX.then_ <| QX.here <| QN.then_ <| W.seq <| sr <| fd rfl rfl fo42_2 rfl <| ld rfl rfl sh3 <| fd rfl rfl fo42_3 rfl <| ld rfl rfl sh40 ?_
         obtain ⟨t198, ht198, h⟩ := bind_s h
         refine p2 rfl 101 rfl 103 rfl (q_call (f := 56) (A := iA t198) (xs := [.tmp 101, .tmp 103]) («as» := [iA a1.fVars, SlcA kTest a1.fTests]) rfl ca56 (difference_Valid.con k a1.fVars a1.fTests t198 ht198) rfl) <| av rfl rfl <| WL.nil <| QN.weaken (env' := [(13, _), (8, _)]) (.o2 rfl (.nil _)) <| QN.then_ <| sr <| mv rfl rfl <| pk rfl 105 rfl (q_int rfl rfl) <| nt ?_
         refine W.condP h rfl (fun hb199 h => ?_) (fun hb199 h => ?_)
         ·refine sr <| mv rfl rfl <| av rfl rfl <| nt <| W.ret <| QR.then_ ?_
          cases h
          exact QR.f1 rfl rfl (.t rfl) (.id _)
         ·refine W.skip <| QN.then_ <| W.seq <| sr <| mv rfl rfl ?_
          obtain ⟨t200, ht200, h⟩ := bind_s h
          refine WL.q (Wanted.plain rfl) rfl rfl (.s 108 rfl (.k .nil)) (q_lend (f := 57) (A := bA t200) (xs := [.tmp 108, .const (.bool false)]) («as» := [HdA v117, bA false]) rfl ca57 (slices_Contains_bool.con k x8 false t200 ht200) rfl (.cons (.slc 0 rfl) (.cons (.id _) .nil)) (Flat.eq _)) <| nt ?_
          refine W.condP h rfl (fun hb201 h => ?_) (fun hb201 h => ?_)
          ·refine sr <| ak rfl <| nt <| W.ret <| QR.then_ ?_
           cases h
           exact QR.f1 rfl rfl (.t rfl) (.id _)
          ·refine W.skip <| QN.then_ <| sr <| ak rfl <| nt <| W.ret ?_
           cases h
           exact QR.f1 rfl rfl (.t rfl) (.id _)
      ·refine W.region <| fd rfl rfl fo42_1 rfl <| ld rfl rfl sh39 <| p1 rfl 45 rfl (q_len rfl elS39) <| pk rfl 46 rfl (q_int rfl rfl) <| mv rfl rfl ?_
       rcases bif_s h with ⟨hb202, h⟩ | ⟨hb202, h⟩
       ·refine sk rfl rfl rfl hb202 <| sk rfl rfl rfl hb202 <| sk rfl rfl rfl hb202 <| sk rfl rfl rfl hb202 <| pk rfl 48 rfl (q_pickT rfl hb202) <| WL.nil ?_
        exact QN.weaken (.o2 rfl (.one rfl (.nil _))) (Kj114 () true h)
       ·refine wf rfl rfl rfl hb202 rfl rfl fo42_3 rfl <| wl rfl rfl rfl hb202 rfl rfl sh40 <| wq rfl rfl rfl hb202 (.s 50 rfl .nil) (q_len rfl elS40).o <| wq rfl rfl rfl hb202 (.s 51 rfl (.k .nil)) (q_int rfl rfl).o <| p2 rfl 48 rfl 52 rfl (q_pickF rfl hb202) <| WL.nil ?_
        exact QN.weaken (.o2 rfl (.one rfl (.nil _))) (Kj114 () (decide ((a1.fTests.length : Int) > 10)) h)
   ·refine W.region <| fd rfl rfl fo42_0 rfl <| fd rfl rfl fo38_0 rfl <| ld rfl rfl sh26 <| p1 rfl 2 rfl (q_makeFunc (xs := [.tmp 2]) (L := [PtrA [SlcA kNodeType a0.fNodes, SlcA kEdgeType a0.fEdges]]) («as» := (fun (x : Int) => [iA x])) (res := (fun (y : Bool) => bA y)) (p := (fun x => attribute_Valid_1 k x a0)) rfl ca52 rfl (fun x y hp => (attribute_Valid_1.con k x a0 y hp))) ?_
    obtain ⟨t203, ht203, h⟩ := bind_s h
    refine p2 rfl 30 rfl 31 rfl (q_call (f := 51) (A := bA t203) (xs := [.tmp 30, .tmp 31]) («as» := [SlcA kInt a1.fGraph.fNodes, FnA Tryz.prog (fun (x : Int) => [iA x]) (fun (y : Bool) => bA y) (fun x => attribute_Valid_1 k x a0)]) rfl ca51 (slices_ContainsFunc_int.con k a1.fGraph.fNodes (fun x => attribute_Valid_1 k x a0) t203 ht203) rfl) <| mv rfl rfl ?_
    rcases bif_s h with ⟨hb204, h⟩ | ⟨hb204, h⟩
    ·refine sk rfl rfl rfl hb204 <| sk rfl rfl rfl hb204 <| sk rfl rfl rfl hb204 <| sk rfl rfl rfl hb204 <| sk rfl rfl rfl hb204 <| pk rfl 33 rfl (q_pickT rfl hb204) <| WL.nil ?_
     exact QN.weaken (.o2 rfl (.one rfl (.nil _))) (Kj108 () true h)
    ·refine wf rfl rfl rfl hb204 rfl rfl fo42_0 rfl <| wf rfl rfl rfl hb204 rfl rfl fo38_1 rfl <| wl rfl rfl rfl hb204 rfl rfl sh36 <| wq rfl rfl rfl hb204 (.s 2 rfl .nil) (q_makeFunc (xs := [.tmp 2]) (L := [PtrA [SlcA kNodeType a0.fNodes, SlcA kEdgeType a0.fEdges]]) («as» := (fun (x : Edge) => [AggA [iA x.fType, iA x.fFrom, iA x.fTo]])) (res := (fun (y : Bool) => bA y)) (p := (fun x => attribute_Valid_2 k x a0)) rfl ca54 rfl (fun x y hp => (attribute_Valid_2.con k x a0 y hp))).o ?_
     obtain ⟨t205, ht205, h⟩ := bind_s h
     refine wq rfl rfl rfl hb204 (.s 36 rfl (.s 37 rfl .nil)) (q_call (f := 53) (A := bA t205) (xs := [.tmp 36, .tmp 37]) («as» := [SlcA kEdge a1.fGraph.fEdges, FnA Tryz.prog (fun (x : Edge) => [AggA [iA x.fType, iA x.fFrom, iA x.fTo]]) (fun (y : Bool) => bA y) (fun x => attribute_Valid_2 k x a0)]) rfl ca53 (slices_ContainsFunc_Edge.con k a1.fGraph.fEdges (fun x => attribute_Valid_2 k x a0) t205 ht205) rfl).o <| p2 rfl 33 rfl 38 rfl (q_pickF rfl hb204) <| WL.nil ?_
     exact QN.weaken (.o2 rfl (.one rfl (.nil _))) (Kj108 () t205 h)
theorem host_node.con (k : Nat) (a0 : Types) (a1 : Int) (a2 : (List Int)) (r : Int) (h : host_node k a0 a1 a2 = some r) : Con Tryz.prog 156 [] [AggA [SlcA kNodeType a0.fNodes, SlcA kEdgeType a0.fEdges], iA a1, SlcA kInt a2] (RA (iA r)) := by
 unfold host_node at h
 refine Con.of (N := 57) Tryz.func156 rfl rfl rfl fun w0_ fg_ => sr <| p1 rfl 0 rfl (q_box rfl (CellsOf.agg _)) <| ak rfl <| nt <| W.seq <| sr <| mv rfl rfl <| fd rfl rfl fo35_0 rfl <| ld rfl rfl sh32 ?_
 refine p1 rfl 13 rfl (q_len rfl elS32) <| p2 rfl 11 rfl 14 rfl (q_int rfl rfl) <| nt ?_
 refine W.condP h rfl (fun hb100 h => ?_) (fun hb100 h => ?_)
 ·refine sr <| ak rfl <| WL.nil <| QN.weaken (env' := [(6, _)]) (.one rfl (.nil _)) <| QN.then_ <| W.ret <| QR.then_ ?_
  cases h
  exact QR.f1 rfl rfl (.t rfl) (.id _)
 ·refine W.skip <| QN.weaken (env' := [(3, _), (2, _), (1, _)]) (.o2 rfl (.one rfl (.nil _))) <| QN.then_ <| W.seq <| sr <| fd rfl rfl fo35_0 rfl <| ld rfl rfl sh32 <| mv rfl rfl ?_
  obtain ⟨c101, h⟩ := ite_n h
  refine p2 rfl 17 rfl 18 rfl (q_index rfl el32 rfl c101.1 c101.2) <| fd rfl rfl fo92_2 rfl <| ld rfl rfl sh4 <| nt ?_
  refine W.condP h rfl (fun hb102 h => ?_) (fun hb102 h => ?_)
  ·refine sr <| ak rfl <| WL.nil <| QN.weaken (env' := [(6, _)]) (.one rfl (.nil _)) <| QN.then_ <| W.ret <| QR.then_ ?_
   cases h
   exact QR.f1 rfl rfl (.t rfl) (.id _)
  ·refine W.skip <| QN.then_ <| sr <| lS rfl rfl sh35 rfl rfl <| mv rfl rfl ?_
   obtain ⟨t103, ht103, h⟩ := bind_s h
   refine p2 rfl 23 rfl 24 rfl (q_call (f := 82) (A := TupA [SlcA kAttr t103.1, iA t103.2]) (xs := [.tmp 23, .tmp 24]) («as» := [AggA [SlcA kNodeType a0.fNodes, SlcA kEdgeType a0.fEdges], iA a1]) rfl ca82 (types_Attrs.con k a0 a1 t103 ht103) rfl) <| mv rfl rfl <| p1 rfl 22 rfl (q_extract rfl rfl) <| p1 rfl 22 rfl (q_extract rfl rfl) <| av rfl rfl <| av rfl rfl <| WL.nil <| QN.weaken (env' := [(7, _), (2, _)]) (.o2 rfl (.nil _)) <| QN.then_ <| W.seq <| sr <| mv rfl rfl ?_
   refine p1 rfl 28 rfl (q_len rfl elS26) <| mv rfl rfl <| p1 rfl 30 rfl (q_len rfl elS90) <| p2 rfl 29 rfl 31 rfl (q_int rfl rfl) <| nt ?_
   refine W.condP h rfl (fun hb104 h => ?_) (fun hb104 h => ?_)
   ·refine sr <| ak rfl <| WL.nil <| QN.weaken (env' := [(6, _)]) (.one rfl (.nil _)) <| QN.then_ <| W.ret <| QR.then_ ?_
    cases h
    exact QR.f1 rfl rfl (.t rfl) (.id _)
   ·refine W.skip <| QN.then_ <| W.seq <| sr <| mv rfl rfl <| p1 rfl 33 rfl (q_len rfl elS90) <| mk_ rfl <| nt <| W.block ?_
    refine W.loop1 (Γ := Unit) (fun (_ : Unit) (x35 : Int) => [(2, SlcA kInt a2), (33, SlcA kAttr t103.1), (34, iA (t103.1.length : Int)), (35, iA x35)]) (fun (_ : Unit) (_ : Int) => []) h () (.o4 rfl (.nil _)) rfl (fun rec0 K0 next0 _ x35 h => ?_)
    unfold host_node.b0 at h
    refine sr <| p2 rfl 35 rfl 34 rfl (q_int rfl rfl) <| nt <| W.seq ?_
    refine W.condP h rfl (fun hb137 h => ?_) (fun hb137 h => ?_)
    ·refine W.skip <| QN.then_ <| W.seq <| W.block <| sr <| mv rfl rfl ?_
     obtain ⟨c138, h⟩ := ite_n h
     refine p2 rfl 33 rfl 35 rfl (q_index rfl el90 rfl c138.1 c138.2) <| lS rfl rfl sh95 rfl rfl <| WL.w [] rfl (Wanted.plain rfl) rfl rfl .nil (w_alloc rfl z95 (l := [EqA (strV ([] : Str)), iA 0, iA 0, EqA (.slice none 0 0)]) rfl) ?_
     rintro _ _ ⟨b139, rfl, rfl⟩
     refine av rfl rfl <| WL.w0 [0] rfl (Wanted.plain rfl) rfl (.s 10 rfl (.s 39 rfl .nil)) (w_store (L := [EqA (strV ((rd t103.1 x35).fName)), iA ((rd t103.1 x35).fLow), iA ((rd t103.1 x35).fHigh), SlcA kStr ((rd t103.1 x35).fNames)]) rfl sh95 (CellsOf.agg _) rfl rfl (leB rfl) rfl) ?_
     rintro _ _ ⟨rfl, rfl⟩
     refine WL.nil <| QN.to (StTo.still [0] 10 rfl rfl) <| QN.then_ <| W.seq ?_
     refine W.jn1 (Γ := Unit) (fun (_ : Unit) (x55 : Bool) => [(2, SlcA kInt a2), (33, SlcA kAttr t103.1), (34, iA (t103.1.length : Int)), (35, iA x35), (55, bA x55)]) (fun (_ : Unit) (_ : Bool) => []) h (fun _ x55 h => ?_) (fun j147 Kj147 h => ?_)
     ·refine QN.then_ ?_
      refine W.condP h rfl (fun hb148 h => ?_) (fun hb148 h => ?_)
      ·refine sr <| ak rfl <| nt <| W.ret <| QR.block <| QR.then_ <| QR.then_ <| QR.block <| QR.then_ ?_
       cases h
       exact QR.f1 rfl rfl (.t rfl) (.id _)
      ·refine W.skip <| QN.block <| QN.then_ <| W.region ?_
       obtain ⟨c149, h⟩ := ite_n h
       refine pk rfl 35 rfl (q_addR rfl c149) <| mv rfl rfl <| WL.nil ?_
       exact next0 () (x35 + 1) _ h (.o4 rfl (.nil _))
     ·refine W.drawK [(0, false), (1, false), (2, false), (3, false), (4, false), (5, false), (6, false), (7, false), (8, false), (9, false), (10, false), (11, false), (12, false), (13, false), (14, false), (15, false)] [] (bm [0, 0, 3, 7, 0, 16, 63, 127, 255, 255, 1023, 2047, 255, 4351, 16383, 32767]) mx (by kernel_rfl) <| dm rfl rfl rfl <| dm rfl rfl rfl ?_
      obtain ⟨c150, h⟩ := ite_n h
      refine DK.cons rfl rfl (.p rfl (.s 40 rfl (.s 41 rfl .nil)) rfl (q_index rfl el26 rfl c150.1 c150.2)) <| dl rfl rfl rfl sh3 <| df rfl rfl rfl fo95_1 rfl <| dl rfl rfl rfl sh3 <| DK.cons rfl rfl (.p rfl (.s 43 rfl (.s 45 rfl .nil)) rfl (q_int rfl rfl)) <| dm rfl rfl rfl ?_
      rcases bif_s h with ⟨hb151, h⟩ | ⟨hb151, h⟩
      ·refine dx rfl rfl rfl hb151 <| dx rfl rfl rfl hb151 <| dx rfl rfl rfl hb151 <| dx rfl rfl rfl hb151 <| dx rfl rfl rfl hb151 <| dx rfl rfl rfl hb151 <| dx rfl rfl rfl hb151 <| DK.cons rfl rfl (.p rfl (.s 47 rfl (.k .nil)) rfl (q_pickT rfl hb151)) <| DK.nil <| CSteps.nil ?_
       exact QN.weaken (.o4 rfl (.one rfl (.nil _))) (Kj147 () true h)
      ·refine DK.cons rfl rfl (.gp rfl rfl rfl hb151 (.s 2 rfl .nil) rfl (q_move rfl)) <| DK.cons rfl rfl (.gp rfl rfl rfl hb151 (.s 9 rfl .nil) rfl (q_move rfl)) ?_
       obtain ⟨c152, h⟩ := ite_n h
       refine DK.cons rfl rfl (.gp rfl rfl rfl hb151 (.s 48 rfl (.s 49 rfl .nil)) rfl (q_index rfl el26 rfl c152.1 c152.2)) <| DK.cons rfl rfl (.gp rfl rfl rfl hb151 (.s 50 rfl .nil) rfl (q_load rfl sh3)) <| DK.cons rfl rfl (.gp rfl rfl rfl hb151 (.s 10 rfl .nil) rfl (q_field rfl fo95_2 rfl)) <| DK.cons rfl rfl (.gp rfl rfl rfl hb151 (.s 52 rfl .nil) rfl (q_load rfl sh3)) <| DK.cons rfl rfl (.gp rfl rfl rfl hb151 (.s 51 rfl (.s 53 rfl .nil)) rfl (q_int rfl rfl)) <| DK.cons rfl rfl (.p rfl (.s 47 rfl (.s 54 rfl .nil)) rfl (q_pickF rfl hb151)) <| DK.nil <| CSteps.nil ?_
       exact QN.weaken (.o4 rfl (.one rfl (.nil _))) (Kj147 () (decide ((rd a2 x35) > (rd t103.1 x35).fHigh)) h)
    ·refine W.exit <| QX.then_ <| QX.then_ <| QX.here <| QN.then_ <| sr <| ak rfl <| nt <| W.ret ?_
     cases h
     exact QR.f1 rfl rfl (.t rfl) (.id _)
theorem slices_Reverse_int.con (k : Nat) (w0 : Value) (a0 : (List Int)) (r : (List Int)) (h : slices_Reverse_int k a0 = some r) : Con Tryz.prog 211 [SlE 3 w0 kInt a0] [HdA w0] (fun O' A => O' = [SlE 3 w0 kInt r] ∧ A = TupA []) := by
 unfold slices_Reverse_int at h
 refine Con.of (N := 28) Tryz.func211 rfl rfl rfl fun w0_ fg_ => sr <| mv rfl rfl <| WL.q (Wanted.plain rfl) rfl rfl (.s 4 rfl .nil) (q_lenO rfl elS26 (i := 0) rfl) ?_
 obtain ⟨c100, h⟩ := ite_n h
 refine pk rfl 5 rfl (q_subR rfl c100) <| ak rfl <| av rfl rfl <| nt <| W.block ?_
 refine W.loop3 (Γ := Unit) (fun (_ : Unit) (_ : (List Int)) (x2 : Int) (x3 : Int) => [(0, HdA w0), (2, iA x2), (3, iA x3)]) (fun (_ : Unit) (x0 : (List Int)) (_ : Int) (_ : Int) => [SlE 3 w0 kInt x0]) h () (.o2 rfl (.one rfl (.nil _))) rfl (fun rec0 K0 next0 _ x0 x2 x3 h => ?_)
 unfold slices_Reverse_int.b0 at h
 refine W.seq <| sr <| mv rfl rfl <| mv rfl rfl <| p2 rfl 7 rfl 8 rfl (q_int rfl rfl) <| nt ?_
 refine W.condP h rfl (fun hb131 h => ?_) (fun hb131 h => ?_)
 ·refine W.skip <| QN.then_ <| W.seq <| W.block <| W.drawK [(0, false), (1, false), (2, false), (3, false), (4, false), (5, false), (6, true), (7, true), (8, false), (9, false), (10, true), (11, true), (12, true)] [13, 14, 15] (bm [0, 0, 0, 0, 0, 0, 48, 112, 0, 0, 768, 1792, 4083, 8179, 16383, 32767]) mx (by kernel_rfl) <| dm rfl rfl rfl <| dm rfl rfl rfl <| dm rfl rfl rfl <| dm rfl rfl rfl <| dm rfl rfl rfl <| dm rfl rfl rfl ?_
  obtain ⟨c140, h⟩ := ite_n h
  refine DK.cons rfl rfl (.o rfl (.s 18 rfl (.s 19 rfl .nil)) rfl (q_indexO rfl el26 (j := 0) rfl c140.1 c140.2)) <| DK.cons rfl rfl (.o rfl (.s 20 rfl .nil) rfl (q_loadEl rfl sh3 (j := 0) rfl rfl c140.1 c140.2 rfl)) <| dm rfl rfl rfl <| dm rfl rfl rfl ?_
  obtain ⟨c141, h⟩ := ite_n h
  refine DK.cons rfl rfl (.o rfl (.s 22 rfl (.s 23 rfl .nil)) rfl (q_indexO rfl el26 (j := 0) rfl c141.1 c141.2)) <| DK.cons rfl rfl (.o rfl (.s 24 rfl .nil) rfl (q_loadEl rfl sh3 (j := 0) rfl rfl c141.1 c141.2 rfl)) ?_
  obtain ⟨c142, h⟩ := ite_n h
  refine DK.cons rfl rfl (.o rfl (.s 14 rfl (.s 15 rfl .nil)) rfl (q_indexO rfl el26 (j := 0) rfl c142.1 c142.2)) ?_
  obtain ⟨c143, h⟩ := ite_n h
  refine DK.nil <| CSteps.w0 [0] rfl rfl rfl (.s 26 rfl (.s 21 rfl .nil)) rfl (w_storeEl (kd := kInt) (z := (rd x0 x3)) rfl sh3 (CellsOf.one rfl) rfl rfl rfl c142.1 c142.2 rfl rfl) ?_
  rintro _ _ ⟨rfl, rfl⟩
  refine CSteps.ro [0] rfl rfl rfl rfl (.s 16 rfl (.s 17 rfl .nil)) rfl (fun _ => (q_indexO rfl el26 (j := 0) rfl c143.1 c143.2)) <| CSteps.w0 [0] rfl rfl rfl (.s 27 rfl (.s 25 rfl .nil)) rfl (w_storeEl (kd := kInt) (z := (rd x0 x2)) rfl sh3 (CellsOf.one rfl) rfl rfl rfl c143.1 c143.2 rfl rfl) ?_
  rintro _ _ ⟨rfl, rfl⟩
  refine CSteps.nil <| QN.block <| QN.weaken (env' := [(3, _), (2, _), (0, _)]) (.o2 rfl (.one rfl (.nil _))) <| QN.then_ <| W.region <| mv rfl rfl ?_
  obtain ⟨c144, h⟩ := ite_n h
  refine pk rfl 10 rfl (q_addR rfl c144) <| mv rfl rfl ?_
  obtain ⟨c145, h⟩ := ite_n h
  refine pk rfl 12 rfl (q_subR rfl c145) <| av rfl rfl <| av rfl rfl <| WL.nil ?_
  exact next0 () ((x0.set (x2 : Int).toNat (rd x0 x3)).set (x3 : Int).toNat (rd x0 x2)) (x2 + 1) (x3 - 1) _ h (.o2 rfl (.one rfl (.nil _)))
 ·refine W.exit <| QX.then_ <| QX.then_ <| QX.here ?_
  cases h
  exact QN.f0 rfl rfl ⟨rfl, rfl⟩
theorem types_line.con (k : Nat) (a0 : Types) (a1 : Int) (r : (List Int)) (h : types_line k a0 a1 = some r) : Con Tryz.prog 196 [] [AggA [SlcA kNodeType a0.fNodes, SlcA kEdgeType a0.fEdges], iA a1] (RA (SlcA kInt r)) := by
 unfold types_line at h
 refine Con.of (N := 21) Tryz.func196 rfl rfl rfl fun w0_ fg_ => sr <| p1 rfl 0 rfl (q_box rfl (CellsOf.agg _)) <| ak rfl <| nx <| ak rfl <| nt <| W.seq ?_
 refine W.block <| W.to (StTo.newNil 3 kInt) <| W.to (StTo.as 5 rfl Imp.nilHd) ?_
 refine W.loop2 (Γ := Value) (fun (g0 : Value) (x1 : Int) (_ : (List Int)) => [(1, iA x1), (2, PtrA [SlcA kNodeType a0.fNodes, SlcA kEdgeType a0.fEdges]), (5, HdA g0)]) (fun (g0 : Value) (_ : Int) (x5 : (List Int)) => [SlE 3 g0 kInt x5]) h (.slice none 0 0) (.o2 rfl (.one rfl (.nil _))) rfl (fun rec0 K0 next0 g0 x1 x5 h => ?_)
 unfold types_line.b0 at h
 refine W.seq <| sr <| mv rfl rfl <| pk rfl 6 rfl (q_int rfl rfl) <| nt ?_
 refine W.condP h rfl (fun hb118 h => ?_) (fun hb118 h => ?_)
 ·refine W.skip <| QN.then_ <| W.seq <| W.block <| W.region <| mv rfl rfl <| mv rfl rfl <| p1 rfl 15 rfl (q_lit (kd := kInt) (ps := [(0, .tmp 15)]) (xs := [.tmp 15]) («as» := [iA x1]) (ys := [x1]) rfl rfl el26 rfl gr3 rfl rfl rfl (.cons (CellsOf.one rfl) .nil)) ?_
  obtain ⟨c119, h⟩ := ite_n h
  refine WL.w [0] rfl (Wanted.plain rfl) rfl rfl (.s 14 rfl (.s 16 rfl .nil)) (w_append (kd := kInt) rfl el26 rfl gr3 c119) ?_
  rintro _ _ ⟨v120, rfl, rfl⟩
  refine av rfl rfl <| WL.nil <| QN.block <| QN.then_ <| W.region <| fd rfl rfl fo35_0 rfl <| ld rfl rfl sh32 <| mv rfl rfl ?_
  obtain ⟨c121, h⟩ := ite_n h
  refine p2 rfl 9 rfl 10 rfl (q_index rfl el32 rfl c121.1 c121.2) <| fd rfl rfl fo92_1 rfl <| ld rfl rfl sh3 <| av rfl rfl <| WL.nil ?_
  exact next0 v120 ((rd a0.fNodes x1).fParent) (x5 ++ [x1]) _ h (.o2 rfl (.one rfl (.nil _)))
 ·refine W.exit <| QX.then_ <| QX.then_ <| QX.here <| QN.then_ <| sr <| mv rfl rfl ?_
  obtain ⟨t122, ht122, h⟩ := bind_s h
  refine WL.w [0] rfl (Wanted.plain rfl) rfl rfl (.s 18 rfl .nil) (w_callI (f := 211) (xs := [.tmp 18]) («as» := [HdA g0]) rfl ca211 (slices_Reverse_int.con k g0 x5 t122 ht122) rfl (.cons (Imp.id _) .nil)) ?_
  rintro _ _ ⟨rfl, rfl⟩
  refine nx <| mv rfl rfl <| av rfl rfl <| WL.nil <| QN.weaken (env' := [(4, _)]) (.one rfl (.nil _)) <| QN.then_ <| W.ret ?_
  cases h
  exact QR.f1 rfl rfl (.t rfl) (.slc 0 rfl)
theorem slices_Index_int.con (k : Nat) (a0 : (List Int)) (a1 : Int) (r : Int) (h : slices_Index_int k a0 a1 = some r) : Con Tryz.prog 210 [] [SlcA kInt a0, iA a1] (RA (iA r)) := by
 unfold slices_Index_int at h
 refine Con.of (N := 19) Tryz.func210 rfl rfl rfl fun w0_ fg_ => sr <| ak rfl <| nt <| W.seq <| sr <| mv rfl rfl <| p1 rfl 6 rfl (q_len rfl elS26) <| mk_ rfl <| WL.nil ?_
 refine QN.then_ <| W.block ?_
 refine W.loop1 (Γ := Unit) (fun (_ : Unit) (x8 : Int) => [(0, SlcA kInt a0), (1, iA a1), (7, iA (a0.length : Int)), (8, iA x8)]) (fun (_ : Unit) (_ : Int) => []) h () (.o4 rfl (.nil _)) rfl (fun rec0 K0 next0 _ x8 h => ?_)
 unfold slices_Index_int.b0 at h
 refine sr <| p2 rfl 8 rfl 7 rfl (q_int rfl rfl) <| nt <| W.seq ?_
 refine W.condP h rfl (fun hb108 h => ?_) (fun hb108 h => ?_)
 ·refine W.skip <| QN.then_ <| W.seq <| W.block <| sr <| mv rfl rfl <| av rfl rfl <| nx <| mv rfl rfl ?_
  refine mv rfl rfl <| mv rfl rfl ?_
  obtain ⟨c109, h⟩ := ite_n h
  refine p2 rfl 12 rfl 13 rfl (q_index rfl el26 rfl c109.1 c109.2) <| ld rfl rfl sh3 <| p2 rfl 11 rfl 15 rfl (q_int rfl rfl) <| WL.nil <| QN.weaken (env' := [(16, _), (5, _), (8, _), (7, _), (1, _), (0, _)]) (.o4 rfl (.o2 rfl (.nil _))) <| QN.then_ ?_
  refine W.condP h rfl (fun hb110 h => ?_) (fun hb110 h => ?_)
  ·refine sr <| mv rfl rfl <| av rfl rfl <| WL.nil <| QN.weaken (env' := [(4, _)]) (.one rfl (.nil _)) <| QN.then_ <| W.ret <| QR.block <| QR.then_ <| QR.then_ <| QR.block <| QR.then_ ?_
   cases h
   exact QR.f1 rfl rfl (.t rfl) (.id _)
  ·refine W.skip <| QN.block <| QN.then_ <| W.region ?_
   obtain ⟨c111, h⟩ := ite_n h
   refine pk rfl 8 rfl (q_addR rfl c111) <| mv rfl rfl <| WL.nil ?_
   exact next0 () (x8 + 1) _ h (.o4 rfl (.nil _))
 ·refine W.exit <| QX.then_ <| QX.then_ <| QX.here <| QN.then_ <| sr <| ak rfl <| nt <| W.ret ?_
  cases h
  exact QR.f1 rfl rfl (.t rfl) (.id _)
theorem slices_Contains_int.con (k : Nat) (a0 : (List Int)) (a1 : Int) (r : Bool) (h : slices_Contains_int k a0 a1 = some r) : Con Tryz.prog 195 [] [SlcA kInt a0, iA a1] (RA (bA r)) := by
 unfold slices_Contains_int at h
 refine Con.of (N := 9) Tryz.func195 rfl rfl rfl fun w0_ fg_ => sr <| ak rfl <| nx <| mv rfl rfl <| mv rfl rfl ?_
 obtain ⟨t100, ht100, h⟩ := bind_s h
 refine p2 rfl 5 rfl 6 rfl (q_call (f := 210) (A := iA t100) (xs := [.tmp 5, .tmp 6]) («as» := [SlcA kInt a0, iA a1]) rfl ca210 (slices_Index_int.con k a0 a1 t100 ht100) rfl) <| pk rfl 7 rfl (q_int rfl rfl) <| av rfl rfl <| nt <| W.ret ?_
 cases h
 exact QR.f1 rfl rfl (.t rfl) (.id _)
theorem types_is.con (k : Nat) (a0 : Types) (a1 : Int) (a2 : Int) (r : Bool) (h : types_is k a0 a1 a2 = some r) : Con Tryz.prog 172 [] [AggA [SlcA kNodeType a0.fNodes, SlcA kEdgeType a0.fEdges], iA a1, iA a2] (RA (bA r)) := by
 unfold types_is at h
 refine Con.of (N := 12) Tryz.func172 rfl rfl rfl fun w0_ fg_ => sr <| p1 rfl 0 rfl (q_box rfl (CellsOf.agg _)) <| ak rfl <| nx <| lS rfl rfl sh35 rfl rfl <| mv rfl rfl ?_
 obtain ⟨t100, ht100, h⟩ := bind_s h
 refine p2 rfl 7 rfl 8 rfl (q_call (f := 196) (A := SlcA kInt t100) (xs := [.tmp 7, .tmp 8]) («as» := [AggA [SlcA kNodeType a0.fNodes, SlcA kEdgeType a0.fEdges], iA a1]) rfl ca196 (types_line.con k a0 a1 t100 ht100) rfl) <| mv rfl rfl ?_
 obtain ⟨t101, ht101, h⟩ := bind_s h
 refine p2 rfl 9 rfl 10 rfl (q_call (f := 195) (A := bA t101) (xs := [.tmp 9, .tmp 10]) («as» := [SlcA kInt t100, iA a2]) rfl ca195 (slices_Contains_int.con k t100 a2 t101 ht101) rfl) <| av rfl rfl <| WL.nil <| QN.weaken (env' := [(6, _)]) (.one rfl (.nil _)) <| QN.then_ <| W.ret ?_
 cases h
 exact QR.f1 rfl rfl (.t rfl) (.id _)
theorem types_Fits.con (k : Nat) (a0 : Types) (a1 : Int) (a2 : Int) (a3 : Int) (r : Bool) (h : types_Fits k a0 a1 a2 a3 = some r) : Con Tryz.prog 157 [] [AggA [SlcA kNodeType a0.fNodes, SlcA kEdgeType a0.fEdges], iA a1, iA a2, iA a3] (RA (bA r)) := by
 unfold types_Fits at h
 refine Con.of (N := 46) Tryz.func157 rfl rfl rfl fun w0_ fg_ => sr <| p1 rfl 0 rfl (q_box rfl (CellsOf.agg _)) <| ak rfl <| nt <| W.seq <| W.seq ?_
 refine W.jn1 (Γ := Unit) (fun (_ : Unit) (x25 : Bool) => [(1, iA a1), (2, iA a2), (3, iA a3), (4, PtrA [SlcA kNodeType a0.fNodes, SlcA kEdgeType a0.fEdges]), (25, bA x25)]) (fun (_ : Unit) (_ : Bool) => []) h (fun _ x25 h => ?_) (fun j104 Kj104 h => ?_)
 ·refine QN.then_ ?_
  refine W.condP h rfl (fun hb105 h => ?_) (fun hb105 h => ?_)
  ·refine sr <| ak rfl <| nt <| W.ret <| QR.then_ ?_
   cases h
   exact QR.f1 rfl rfl (.t rfl) (.id _)
  ·refine W.skip <| QN.then_ <| W.seq ?_
   refine W.jn1 (Γ := Unit) (fun (_ : Unit) (x8 : Bool) => [(8, bA x8)]) (fun (_ : Unit) (_ : Bool) => []) h (fun _ x8 h => ?_) (fun j117 Kj117 h => ?_)
   ·refine QN.then_ <| W.ret ?_
    cases h
    exact QR.f1 rfl rfl (.t rfl) (.id _)
   ·refine W.drawK [(0, false), (1, false), (2, false), (3, false), (4, false), (5, false), (6, false), (7, false), (8, false), (9, false), (10, false), (11, false), (12, false), (13, false), (14, false), (15, false), (16, false), (17, false), (18, false), (19, false), (20, false)] [] (bm [0, 0, 0, 4, 0, 28, 60, 124, 255, 511, 1023, 1023, 1023, 5119, 1023, 29695, 62463, 127999, 262143, 524287, 1048575]) mx (by kernel_rfl) <| DK.cons rfl rfl (.p rfl (.s 4 rfl .nil) rfl (q_loadS rfl sh35 (leB rfl) rfl)) <| dm rfl rfl rfl <| df rfl rfl rfl fo35_1 rfl <| dl rfl rfl rfl sh33 <| dm rfl rfl rfl ?_
    obtain ⟨c118, h⟩ := ite_n h
    refine DK.cons rfl rfl (.p rfl (.s 29 rfl (.s 30 rfl .nil)) rfl (q_index rfl el33 rfl c118.1 c118.2)) <| df rfl rfl rfl fo97_1 rfl <| dl rfl rfl rfl sh3 ?_
    obtain ⟨t119, ht119, h⟩ := bind_s h
    refine DK.cons rfl rfl (.p rfl (.s 26 rfl (.s 27 rfl (.s 33 rfl .nil))) rfl (q_call (f := 172) (A := bA t119) (xs := [.tmp 26, .tmp 27, .tmp 33]) («as» := [AggA [SlcA kNodeType a0.fNodes, SlcA kEdgeType a0.fEdges], iA a2, iA ((rd a0.fEdges a1).fFrom)]) rfl ca172 (types_is.con k a0 a2 ((rd a0.fEdges a1).fFrom) t119 ht119) rfl)) <| dm rfl rfl rfl ?_
    rcases bif_s h with ⟨hb120, h⟩ | ⟨hb120, h⟩
    ·refine DK.cons rfl rfl (.gp rfl rfl rfl hb120 (.s 4 rfl .nil) rfl (q_loadS rfl sh35 (leB rfl) rfl)) <| DK.cons rfl rfl (.gp rfl rfl rfl hb120 (.s 3 rfl .nil) rfl (q_move rfl)) <| DK.cons rfl rfl (.gp rfl rfl rfl hb120 (.s 4 rfl .nil) rfl (q_field rfl fo35_1 rfl)) <| DK.cons rfl rfl (.gp rfl rfl rfl hb120 (.s 38 rfl .nil) rfl (q_load rfl sh33)) <| DK.cons rfl rfl (.gp rfl rfl rfl hb120 (.s 1 rfl .nil) rfl (q_move rfl)) ?_
     obtain ⟨c121, h⟩ := ite_n h
     refine DK.cons rfl rfl (.gp rfl rfl rfl hb120 (.s 39 rfl (.s 40 rfl .nil)) rfl (q_index rfl el33 rfl c121.1 c121.2)) <| DK.cons rfl rfl (.gp rfl rfl rfl hb120 (.s 41 rfl .nil) rfl (q_field rfl fo97_2 rfl)) <| DK.cons rfl rfl (.gp rfl rfl rfl hb120 (.s 42 rfl .nil) rfl (q_load rfl sh3)) ?_
     obtain ⟨t122, ht122, h⟩ := bind_s h
     refine DK.cons rfl rfl (.gp rfl rfl rfl hb120 (.s 36 rfl (.s 37 rfl (.s 43 rfl .nil))) rfl (q_call (f := 172) (A := bA t122) (xs := [.tmp 36, .tmp 37, .tmp 43]) («as» := [AggA [SlcA kNodeType a0.fNodes, SlcA kEdgeType a0.fEdges], iA a3, iA ((rd a0.fEdges a1).fTo)]) rfl ca172 (types_is.con k a0 a3 ((rd a0.fEdges a1).fTo) t122 ht122) rfl)) <| DK.cons rfl rfl (.p rfl (.s 35 rfl (.s 44 rfl .nil)) rfl (q_pickT rfl hb120)) <| DK.cons rfl rfl (.p rfl (.s 45 rfl .nil) rfl (q_assign rfl)) <| DK.nil <| CSteps.nil ?_
     exact QN.weaken (.one rfl (.nil _)) (Kj117 () t122 h)
    ·refine dx rfl rfl rfl hb120 <| dx rfl rfl rfl hb120 <| dx rfl rfl rfl hb120 <| dx rfl rfl rfl hb120 <| dx rfl rfl rfl hb120 <| dx rfl rfl rfl hb120 <| dx rfl rfl rfl hb120 <| dx rfl rfl rfl hb120 <| dx rfl rfl rfl hb120 <| DK.cons rfl rfl (.p rfl (.s 35 rfl (.k .nil)) rfl (q_pickF rfl hb120)) <| DK.cons rfl rfl (.p rfl (.s 45 rfl .nil) rfl (q_assign rfl)) <| DK.nil <| CSteps.nil ?_
     exact QN.weaken (.one rfl (.nil _)) (Kj117 () false h)
 ·refine W.region <| lS rfl rfl sh35 rfl rfl <| mv rfl rfl <| mv rfl rfl <| p2 rfl 10 rfl 11 rfl (q_lit (kd := kInt) (ps := [(0, .tmp 10), (1, .tmp 11)]) (xs := [.tmp 10, .tmp 11]) («as» := [iA a2, iA a3]) (ys := [a2, a3]) rfl rfl el26 rfl gr3 rfl rfl rfl (.cons (CellsOf.one rfl) (.cons (CellsOf.one rfl) .nil))) ?_
  obtain ⟨t123, ht123, h⟩ := bind_s h
  refine p2 rfl 9 rfl 12 rfl (q_call (f := 133) (A := iA t123) (xs := [.tmp 9, .tmp 12]) («as» := [AggA [SlcA kNodeType a0.fNodes, SlcA kEdgeType a0.fEdges], SlcA kInt [a2, a3]]) rfl ca133 (types_given.con k a0 [a2, a3] t123 ht123) rfl) <| pk rfl 13 rfl (q_int rfl rfl) <| mv rfl rfl ?_
  rcases bif_s h with ⟨hb124, h⟩ | ⟨hb124, h⟩
  ·refine sk rfl rfl rfl hb124 <| sk rfl rfl rfl hb124 <| pk rfl 15 rfl (q_pickT rfl hb124) <| mv rfl rfl <| sk rfl rfl rfl rfl <| sk rfl rfl rfl rfl <| sk rfl rfl rfl rfl <| sk rfl rfl rfl rfl <| sk rfl rfl rfl rfl <| pk rfl 19 rfl (q_pickT rfl rfl) <| WL.nil ?_
   exact QN.weaken (.o4 rfl (.one rfl (.nil _))) (Kj104 () true h)
  ·refine wm rfl rfl rfl hb124 rfl rfl <| wq rfl rfl rfl hb124 (.s 16 rfl (.k .nil)) (q_int rfl rfl).o <| p2 rfl 15 rfl 17 rfl (q_pickF rfl hb124) <| mv rfl rfl ?_
   rcases bif_s h with ⟨hb125, h⟩ | ⟨hb125, h⟩
   ·refine sk rfl rfl rfl hb125 <| sk rfl rfl rfl hb125 <| sk rfl rfl rfl hb125 <| sk rfl rfl rfl hb125 <| sk rfl rfl rfl hb125 <| pk rfl 19 rfl (q_pickT rfl hb125) <| WL.nil ?_
    exact QN.weaken (.o4 rfl (.one rfl (.nil _))) (Kj104 () true h)
   ·refine wm rfl rfl rfl hb125 rfl rfl <| wf rfl rfl rfl hb125 rfl rfl fo35_1 rfl <| wl rfl rfl rfl hb125 rfl rfl sh33 <| wq rfl rfl rfl hb125 (.s 22 rfl .nil) (q_len rfl elS33).o <| wq rfl rfl rfl hb125 (.s 20 rfl (.s 23 rfl .nil)) (q_int rfl rfl).o <| p2 rfl 19 rfl 24 rfl (q_pickF rfl hb125) <| WL.nil ?_
    exact QN.weaken (.o4 rfl (.one rfl (.nil _))) (Kj104 () (decide (a1 ≥ (a0.fEdges.length : Int))) h)
end Go.Proofs.YtcgdfjpeboiioaaGreat
