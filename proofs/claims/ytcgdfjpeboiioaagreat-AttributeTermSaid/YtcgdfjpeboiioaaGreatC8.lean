/- The Go functions compute the pure ones. (Printed by gen.py.) -/
import Derived.Test.YtcgdfjpeboiioaaGreatC7
namespace Go.Proofs.YtcgdfjpeboiioaaGreat
open Go Go.Abs
attribute [local irreducible] Tryz.prog
theorem slices_Clone_Test.conN (k : Nat) (a0 : (List Test)) (r : (List Test)) (h : slices_Clone_Test k a0 = some r) : Con Tryz.prog 95 [] [SlcA kTest a0] (RApp 86 kTest r) := by
  unfold slices_Clone_Test at h
  obtain ⟨hl, h⟩ := ite_n h
  cases h
  refine Con.of (N := 8) Tryz.func95 rfl rfl rfl fun w0_ fg_ => ?_
  refine W.seq (W.region (WL.p rfl rfl rfl (.k .nil) (q_assign rfl) (WL.nil (QN.then_ ?_))))
  refine W.seq (W.seq (W.region (WL.p rfl rfl rfl (.s 0 rfl .nil) (q_move rfl) (WL.p rfl rfl rfl (.s 3 rfl .nil) (q_nilAny (kd := kTest) (xs := a0) rfl elS40) (WL.nil (QN.then_ ?_))))))
  refine W.condAny rfl (fun hp => ?_) (fun _ => ?_)
  · have hn := hp rfl
    subst hn
    refine W.seq (W.region (WL.p rfl rfl rfl (.k .nil) (q_assign rfl) (WL.nil (QN.then_ ?_))))
    refine W.ret (QR.then_ ?_)
    refine QR.to (StTo.newNil 86 kTest) ?_
    refine QR.to (StTo.as 2 rfl Imp.nilHd) ?_
    exact QR.tmp rfl rfl ⟨_, rfl, rfl⟩
  · refine W.skip (QN.then_ ?_)
    refine W.seq (W.region ?_)
    refine WL.p rfl rfl rfl .nil (q_lit0 rfl el40 gr86) ?_
    refine WL.p rfl rfl rfl (.s 0 rfl .nil) (q_move rfl) ?_
    refine WL.w [] rfl (Wanted.plain rfl) rfl rfl (.s 5 rfl (.s 6 rfl .nil)) (w_appendZ (kd := kTest) rfl el40 rfl gr86 hl) ?_
    rintro _ _ ⟨v, rfl, rfl⟩
    refine WL.p rfl rfl rfl (.s 7 rfl .nil) (q_assign rfl) ?_
    refine WL.nil (QN.then_ ?_)
    refine W.ret ?_
    exact QR.tmp rfl rfl ⟨_, rfl, rfl⟩
theorem slices_Clone_Test.con (k : Nat) (a0 : (List Test)) (r : (List Test)) (h : slices_Clone_Test k a0 = some r) : Con Tryz.prog 95 [] [SlcA kTest a0] (RA (SlcA kTest r)) := Con.free (slices_Clone_Test.conN k a0 r h)
theorem attribute_system_1.con (k : Nat) (a0 : Int) (r : Term) (h : attribute_system_1 k a0 = some r) : Con Tryz.prog 96 [] [EqA (.int .i64 a0)] (RA (AggA [EqA (.int .i64 r.fVar), EqA (.int .i64 r.fAdd)])) := by
 unfold attribute_system_1 at h
 refine Con.of (N := 5) Tryz.func96 rfl rfl rfl fun w0_ fg_ => W.seq <| W.region <| WL.w [] rfl (Wanted.plain rfl) rfl rfl .nil (w_alloc rfl z23 (l := [EqA (.int .i64 0), EqA (.int .i64 0)]) rfl) ?_
 rintro _ _ ⟨b4686, rfl, rfl⟩
 refine WL.nil <| QN.then_ <| W.seq <| W.region <| WL.p rfl rfl rfl (.s 0 rfl .nil) (q_move rfl) <| WL.p rfl rfl rfl (.k (.s 3 rfl .nil)) (q_build (is := [0, 1]) (xs := [.const (.int .i64 (-1)), .tmp 3]) (L := [EqA (.int .i64 (-1)), EqA (.int .i64 a0)]) rfl rfl z23 pl23 rfl rfl (.cons (CellsOf.one rfl) (.cons (CellsOf.one rfl) .nil)) rfl) <| WL.w0 [0] rfl (Wanted.plain rfl) rfl (.s 2 rfl (.s 4 rfl .nil)) (w_store (L := [EqA (.int .i64 (-1)), EqA (.int .i64 a0)]) rfl sh23 (CellsOf.agg _) rfl rfl (leB rfl) rfl) ?_
 rintro _ _ ⟨rfl, rfl⟩
 refine WL.nil <| QN.to (StTo.still [0] 2 rfl rfl) <| QN.then_ <| W.ret ?_
 cases h
 exact QR.f1 rfl rfl (.ps rfl sh23 rfl) (.id _)
theorem attribute_system.con (k : Nat) (a0 : Types) (a1 : Pattern) (r : (List Test)) (h : attribute_system k a0 a1 = some r) : Con Tryz.prog 45 [] [AggA [SlcA kNodeType a0.fNodes, SlcA kEdgeType a0.fEdges], AggA [SlcA kInt a1.fGraph.fNodes, SlcA kEdge a1.fGraph.fEdges, SlcA kSlot a1.fSlots, EqA (.int .i64 a1.fVars), SlcA kTest a1.fTests]] (RA (SlcA kTest r)) := by
 unfold attribute_system at h
 refine Con.of (N := 81) Tryz.func45 rfl rfl rfl fun w0_ fg_ => W.seq <| W.region <| WL.p rfl rfl rfl (.s 0 rfl .nil) (q_box rfl (CellsOf.agg _)) <| WL.p rfl rfl rfl (.s 1 rfl .nil) (q_box rfl (CellsOf.agg _)) <| WL.p rfl rfl rfl (.k .nil) (q_assign rfl) <| WL.nil <| QN.then_ <| W.seq <| W.region <| WL.p rfl rfl rfl (.s 3 rfl .nil) (q_field rfl fo42_3 rfl) <| WL.p rfl rfl rfl (.s 13 rfl .nil) (q_load rfl sh40) ?_
 obtain ⟨t4687, ht4687, h⟩ := bind_s h
 refine WL.w [] rfl (Wanted.plain rfl) rfl rfl (.s 14 rfl .nil) (w_callI (f := 95) (xs := [.tmp 14]) («as» := [SlcA kTest a1.fTests]) rfl ca95 (slices_Clone_Test.conN k a1.fTests t4687 ht4687) rfl (.cons (Imp.id _) .nil)) ?_
 rintro _ _ ⟨v4688, rfl, rfl⟩
 refine WL.p rfl rfl rfl (.s 15 rfl .nil) (q_assign rfl) <| WL.nil <| QN.then_ <| W.seq <| W.region <| WL.p rfl rfl rfl (.f («as» := (fun (x : Int) => [EqA (.int .i64 x)])) (res := (fun (y : Term) => AggA [EqA (.int .i64 y.fVar), EqA (.int .i64 y.fAdd)])) (p := fun x => attribute_system_1 k x) ca96 (fun x y hp => attribute_system_1.con k x y hp) .nil) (q_assign rfl) <| WL.nil <| QN.then_ <| W.seq <| W.seq <| W.region <| WL.p rfl rfl rfl (.s 3 rfl .nil) (q_field rfl fo42_1 rfl) <| WL.p rfl rfl rfl (.s 16 rfl .nil) (q_load rfl sh39) ?_
 refine WL.p rfl rfl rfl (.s 17 rfl .nil) (q_len rfl elS39) <| WL.p rfl rfl rfl (.k .nil) (q_move rfl) <| WL.nil <| QN.weaken (env' := [(19, _), (18, _), (17, _), (6, _), (5, _), (3, _), (2, _)]) (.one rfl (.one rfl (.one rfl (.one rfl (.one rfl (.one rfl (.one rfl (.nil _)))))))) <| QN.then_ <| W.block ?_
 refine W.loop2 (Γ := Value) (fun (g0 : Value) (_ : (List Test)) (x19 : Int) => [(2, PtrA [SlcA kNodeType a0.fNodes, SlcA kEdgeType a0.fEdges]), (3, PtrA [SlcA kInt a1.fGraph.fNodes, SlcA kEdge a1.fGraph.fEdges, SlcA kSlot a1.fSlots, EqA (.int .i64 a1.fVars), SlcA kTest a1.fTests]), (5, HdA g0), (6, FnA Tryz.prog (fun (x : Int) => [EqA (.int .i64 x)]) (fun (y : Term) => AggA [EqA (.int .i64 y.fVar), EqA (.int .i64 y.fAdd)]) (fun x => attribute_system_1 k x)), (17, SlcA kSlot a1.fSlots), (18, EqA (.int .i64 (a1.fSlots.length : Int))), (19, EqA (.int .i64 x19))]) (fun (g0 : Value) (x5 : (List Test)) (_ : Int) => [SlE 86 g0 kTest x5]) h v4688 (.one rfl (.one rfl (.one rfl (.one rfl (.one rfl (.one rfl (.one rfl (.nil _)))))))) rfl (fun rec0 K0 next0 g0 x5 x19 h => ?_)
 unfold attribute_system.b0 at h
 refine W.seq <| W.region <| WL.p rfl rfl rfl (.s 19 rfl (.s 18 rfl .nil)) (q_int rfl rfl) <| WL.nil <| QN.then_ <| W.seq ?_
 refine W.condP h rfl (fun hb4873 h => ?_) (fun hb4873 h => ?_)
 ·refine W.skip <| QN.then_ <| W.seq <| W.block <| W.seq <| W.region <| WL.p rfl rfl rfl (.s 19 rfl .nil) (q_move rfl) ?_
  obtain ⟨c4874, h⟩ := ite_n h
  refine WL.p rfl rfl rfl (.s 17 rfl (.s 19 rfl .nil)) (q_index rfl el39 rfl c4874.1 c4874.2) <| WL.p rfl rfl rfl (.s 22 rfl .nil) (q_loadS rfl sh113 (leB rfl) rfl) <| WL.w [] rfl (Wanted.plain rfl) rfl rfl .nil (w_alloc rfl z113 (l := [EqA (.int .i64 0), EqA (.int .i64 0), EqA (.int .i64 0), EqA (.int .i64 0)]) rfl) ?_
  rintro _ _ ⟨b4875, rfl, rfl⟩
  refine WL.p rfl rfl rfl (.s 21 rfl .nil) (q_assign rfl) <| WL.w0 [0] rfl (Wanted.plain rfl) rfl (.s 8 rfl (.s 23 rfl .nil)) (w_store (L := [EqA (.int .i64 ((rd a1.fSlots x19).fNode)), EqA (.int .i64 ((rd a1.fSlots x19).fAttr)), EqA (.int .i64 ((rd a1.fSlots x19).fTerm.fVar)), EqA (.int .i64 ((rd a1.fSlots x19).fTerm.fAdd))]) rfl sh113 (CellsOf.agg _) rfl rfl (leB rfl) rfl) ?_
  rintro _ _ ⟨rfl, rfl⟩
  refine WL.nil <| QN.to (StTo.still [0] 8 rfl rfl) <| QN.then_ <| W.seq <| W.region <| WL.p rfl rfl rfl (.s 2 rfl .nil) (q_loadS rfl sh35 (leB rfl) rfl) <| WL.p rfl rfl rfl (.s 3 rfl .nil) (q_loadS rfl sh42 (leB rfl) rfl) <| WL.p rfl rfl rfl (.s 8 rfl .nil) (q_loadS rfl sh113 (leB rfl) rfl) ?_
  obtain ⟨t4876, ht4876, h⟩ := bind_s h
  refine WL.p rfl rfl rfl (.s 25 rfl (.s 26 rfl (.s 27 rfl .nil))) (q_call (f := 55) (A := TupA [AggA [EqA (strV t4876.1.fName), EqA (.int .i64 t4876.1.fLow), EqA (.int .i64 t4876.1.fHigh), SlcA kStr t4876.1.fNames], EqA (.bool t4876.2)]) (xs := [.tmp 25, .tmp 26, .tmp 27]) («as» := [AggA [SlcA kNodeType a0.fNodes, SlcA kEdgeType a0.fEdges], AggA [SlcA kInt a1.fGraph.fNodes, SlcA kEdge a1.fGraph.fEdges, SlcA kSlot a1.fSlots, EqA (.int .i64 a1.fVars), SlcA kTest a1.fTests], AggA [EqA (.int .i64 ((rd a1.fSlots x19).fNode)), EqA (.int .i64 ((rd a1.fSlots x19).fAttr)), EqA (.int .i64 ((rd a1.fSlots x19).fTerm.fVar)), EqA (.int .i64 ((rd a1.fSlots x19).fTerm.fAdd))]]) rfl ca55 (attribute_attr.con k a0 a1 (rd a1.fSlots x19) t4876 ht4876) rfl) <| WL.p rfl rfl rfl (.s 28 rfl .nil) (q_move rfl) <| WL.p rfl rfl rfl (.s 24 rfl .nil) (q_extract rfl rfl) <| WL.p rfl rfl rfl (.s 24 rfl .nil) (q_extract rfl rfl) <| WL.w [] rfl (Wanted.plain rfl) rfl rfl .nil (w_alloc rfl z95 (l := [EqA (strV ([] : Str)), EqA (.int .i64 0), EqA (.int .i64 0), EqA (.slice none 0 0)]) rfl) ?_
  rintro _ _ ⟨b4877, rfl, rfl⟩
  refine WL.w0 [0] rfl (Wanted.plain rfl) rfl (.s 9 rfl (.s 29 rfl .nil)) (w_store (L := [EqA (strV t4876.1.fName), EqA (.int .i64 t4876.1.fLow), EqA (.int .i64 t4876.1.fHigh), SlcA kStr t4876.1.fNames]) rfl sh95 (CellsOf.agg _) rfl rfl (leB rfl) rfl) ?_
  rintro _ _ ⟨rfl, rfl⟩
  refine WL.p rfl rfl rfl (.s 30 rfl .nil) (q_assign rfl) <| WL.nil <| QN.to (StTo.still [0] 9 rfl rfl) <| QN.weaken (env' := [(9, _), (7, _), (8, _), (19, _), (18, _), (17, _), (6, _), (5, _), (3, _), (2, _)]) (.one rfl (.one rfl (.one rfl (.one rfl (.one rfl (.one rfl (.one rfl (.one rfl (.one rfl (.one rfl (.nil _))))))))))) <| QN.then_ <| W.seq <| W.drawK [(0, false), (1, false), (2, false), (3, false), (4, false), (5, false), (6, false), (7, false), (8, false), (9, false), (10, false), (11, false), (12, false), (13, false), (14, false), (15, false)] [16, 17] [[], [], [], [2], [1, 2, 3], [], [5], [1, 2, 3, 4, 5, 6], [], [8], [], [], [11], [1, 2, 3, 4, 10, 11, 12], [1, 2, 3, 4, 8, 9, 10, 11, 12, 13], [1, 2, 3, 4, 5, 6, 7, 8, 9, 10, 11, 12, 13, 14], [0, 1, 2, 3, 4, 5, 6, 7, 8, 9, 10, 11, 12, 13, 14, 15], [0, 1, 2, 3, 4, 5, 6, 7, 8, 9, 10, 11, 12, 13, 14, 15, 16]] mx (by kernel_rfl) <| DK.cons rfl rfl (.p rfl (.s 5 rfl .nil) rfl (q_move rfl)) <| DK.cons rfl rfl (.p rfl (.s 6 rfl .nil) rfl (q_move rfl)) <| DK.cons rfl rfl (.p rfl (.s 9 rfl .nil) rfl (q_field rfl fo95_1 rfl)) <| DK.cons rfl rfl (.p rfl (.s 33 rfl .nil) rfl (q_load rfl sh3)) ?_
  obtain ⟨t4886, ht4886, h⟩ := bind_s h
  refine DK.cons rfl rfl (.p rfl (.s 32 rfl (.s 34 rfl .nil)) rfl (q_callV («as» := (fun (x : Int) => [EqA (.int .i64 x)])) (res := (fun (y : Term) => AggA [EqA (.int .i64 y.fVar), EqA (.int .i64 y.fAdd)])) (x := t4876.1.fLow) (y := t4886) (xs := [.tmp 34]) rfl ht4886 rfl)) <| DK.cons rfl rfl (.p rfl (.s 8 rfl .nil) rfl (q_field rfl fo113_2 rfl)) <| DK.cons rfl rfl (.p rfl (.s 36 rfl .nil) rfl (q_loadS rfl sh23 (leB rfl) rfl)) <| DK.cons rfl rfl (.p rfl (.k (.s 35 rfl (.s 37 rfl .nil))) rfl (q_build (is := [0, 1, 2]) (xs := [.const (.int .i64 1), .tmp 35, .tmp 37]) (L := [EqA (.int .i64 1), EqA (.int .i64 t4886.fVar), EqA (.int .i64 t4886.fAdd), EqA (.int .i64 ((rd a1.fSlots x19).fTerm.fVar)), EqA (.int .i64 ((rd a1.fSlots x19).fTerm.fAdd))]) rfl rfl z86 pl86 rfl rfl (.cons (CellsOf.one rfl) (.cons (CellsOf.agg _) (.cons (CellsOf.agg _) .nil))) rfl)) <| DK.cons rfl rfl (.p rfl (.s 8 rfl .nil) rfl (q_field rfl fo113_2 rfl)) <| DK.cons rfl rfl (.p rfl (.s 39 rfl .nil) rfl (q_loadS rfl sh23 (leB rfl) rfl)) <| DK.cons rfl rfl (.p rfl (.s 6 rfl .nil) rfl (q_move rfl)) <| DK.cons rfl rfl (.p rfl (.s 9 rfl .nil) rfl (q_field rfl fo95_2 rfl)) <| DK.cons rfl rfl (.p rfl (.s 42 rfl .nil) rfl (q_load rfl sh3)) ?_
  obtain ⟨t4887, ht4887, h⟩ := bind_s h
  refine DK.cons rfl rfl (.p rfl (.s 41 rfl (.s 43 rfl .nil)) rfl (q_callV («as» := (fun (x : Int) => [EqA (.int .i64 x)])) (res := (fun (y : Term) => AggA [EqA (.int .i64 y.fVar), EqA (.int .i64 y.fAdd)])) (x := t4876.1.fHigh) (y := t4887) (xs := [.tmp 43]) rfl ht4887 rfl)) <| DK.cons rfl rfl (.p rfl (.k (.s 40 rfl (.s 44 rfl .nil))) rfl (q_build (is := [0, 1, 2]) (xs := [.const (.int .i64 1), .tmp 40, .tmp 44]) (L := [EqA (.int .i64 1), EqA (.int .i64 ((rd a1.fSlots x19).fTerm.fVar)), EqA (.int .i64 ((rd a1.fSlots x19).fTerm.fAdd)), EqA (.int .i64 t4887.fVar), EqA (.int .i64 t4887.fAdd)]) rfl rfl z86 pl86 rfl rfl (.cons (CellsOf.one rfl) (.cons (CellsOf.agg _) (.cons (CellsOf.agg _) .nil))) rfl)) <| DK.cons rfl rfl (.p rfl (.s 38 rfl (.s 45 rfl .nil)) rfl (q_lit (kd := kTest) (ps := [(0, .tmp 38), (1, .tmp 45)]) (xs := [.tmp 38, .tmp 45]) («as» := [AggA [EqA (.int .i64 1), EqA (.int .i64 t4886.fVar), EqA (.int .i64 t4886.fAdd), EqA (.int .i64 ((rd a1.fSlots x19).fTerm.fVar)), EqA (.int .i64 ((rd a1.fSlots x19).fTerm.fAdd))], AggA [EqA (.int .i64 1), EqA (.int .i64 ((rd a1.fSlots x19).fTerm.fVar)), EqA (.int .i64 ((rd a1.fSlots x19).fTerm.fAdd)), EqA (.int .i64 t4887.fVar), EqA (.int .i64 t4887.fAdd)]]) (ys := [(Test.mk 1 t4886 ((rd a1.fSlots x19).fTerm)), (Test.mk 1 ((rd a1.fSlots x19).fTerm) t4887)]) rfl rfl el40 rfl gr86 rfl rfl rfl (.cons (CellsOf.agg _) (.cons (CellsOf.agg _) .nil)))) ?_
  obtain ⟨c4888, h⟩ := ite_n h
  refine DK.nil <| CSteps.w [0] rfl rfl rfl rfl (.s 31 rfl (.s 46 rfl .nil)) rfl (w_append (kd := kTest) rfl el40 rfl gr86 c4888) ?_
  rintro _ _ ⟨v4889, rfl, rfl⟩
  refine CSteps.p rfl rfl rfl (.s 47 rfl .nil) rfl (q_assign rfl) <| CSteps.nil <| QN.weaken (env' := [(5, _), (7, _), (8, _), (19, _), (18, _), (17, _), (6, _), (3, _), (2, _)]) (.one rfl (.one rfl (.one rfl (.one rfl (.one rfl (.one rfl (.one rfl (.one rfl (.one rfl (.nil _)))))))))) <| QN.then_ <| W.seq <| W.region <| WL.p rfl rfl rfl (.s 7 rfl .nil) (q_move rfl) ?_
  obtain ⟨c4890, h⟩ := ite_n h
  refine WL.p rfl rfl rfl (.s 48 rfl (.k .nil)) (q_subR rfl c4890) <| WL.p rfl rfl rfl (.s 49 rfl .nil) (q_assign rfl) <| WL.nil <| QN.then_ <| W.block ?_
  refine W.loop1 (Γ := Unit) (fun (_ : Unit) (x11 : Int) => [(2, PtrA [SlcA kNodeType a0.fNodes, SlcA kEdgeType a0.fEdges]), (3, PtrA [SlcA kInt a1.fGraph.fNodes, SlcA kEdge a1.fGraph.fEdges, SlcA kSlot a1.fSlots, EqA (.int .i64 a1.fVars), SlcA kTest a1.fTests]), (6, FnA Tryz.prog (fun (x : Int) => [EqA (.int .i64 x)]) (fun (y : Term) => AggA [EqA (.int .i64 y.fVar), EqA (.int .i64 y.fAdd)]) (fun x => attribute_system_1 k x)), (17, SlcA kSlot a1.fSlots), (18, EqA (.int .i64 (a1.fSlots.length : Int))), (19, EqA (.int .i64 x19)), (8, PtrA [EqA (.int .i64 ((rd a1.fSlots x19).fNode)), EqA (.int .i64 ((rd a1.fSlots x19).fAttr)), EqA (.int .i64 ((rd a1.fSlots x19).fTerm.fVar)), EqA (.int .i64 ((rd a1.fSlots x19).fTerm.fAdd))]), (5, HdA v4889), (11, EqA (.int .i64 x11))]) (fun (_ : Unit) (_ : Int) => [SlE 86 v4889 kTest (x5 ++ [(Test.mk 1 t4886 ((rd a1.fSlots x19).fTerm)), (Test.mk 1 ((rd a1.fSlots x19).fTerm) t4887)])]) h () (.one rfl (.one rfl (.one rfl (.one rfl (.one rfl (.one rfl (.one rfl (.one rfl (.one rfl (.nil _)))))))))) rfl (fun rec1 K1 next1 _ x11 h => ?_)
  unfold attribute_system.b1 at h
  refine W.seq <| W.seq <| W.region <| WL.p rfl rfl rfl (.s 11 rfl .nil) (q_move rfl) <| WL.p rfl rfl rfl (.s 50 rfl (.k .nil)) (q_int rfl rfl) <| WL.nil <| QN.then_ ?_
  refine W.condP h rfl (fun hb4950 h => ?_) (fun hb4950 h => ?_)
  ·refine W.skip <| QN.then_ <| W.seq <| W.block <| W.seq <| W.region <| WL.p rfl rfl rfl (.s 3 rfl .nil) (q_field rfl fo42_1 rfl) <| WL.p rfl rfl rfl (.s 54 rfl .nil) (q_load rfl sh39) <| WL.p rfl rfl rfl (.s 11 rfl .nil) (q_move rfl) ?_
   obtain ⟨c4951, h⟩ := ite_n h
   refine WL.p rfl rfl rfl (.s 55 rfl (.s 56 rfl .nil)) (q_index rfl el39 rfl c4951.1 c4951.2) <| WL.p rfl rfl rfl (.s 57 rfl .nil) (q_loadS rfl sh113 (leB rfl) rfl) <| WL.w [] rfl (Wanted.plain rfl) rfl rfl .nil (w_alloc rfl z113 (l := [EqA (.int .i64 0), EqA (.int .i64 0), EqA (.int .i64 0), EqA (.int .i64 0)]) rfl) ?_
   rintro _ _ ⟨b4952, rfl, rfl⟩
   refine WL.w0 [0] rfl (Wanted.plain rfl) rfl (.s 12 rfl (.s 58 rfl .nil)) (w_store (L := [EqA (.int .i64 ((rd a1.fSlots x11).fNode)), EqA (.int .i64 ((rd a1.fSlots x11).fAttr)), EqA (.int .i64 ((rd a1.fSlots x11).fTerm.fVar)), EqA (.int .i64 ((rd a1.fSlots x11).fTerm.fAdd))]) rfl sh113 (CellsOf.agg _) rfl rfl (leB rfl) rfl) ?_
   rintro _ _ ⟨rfl, rfl⟩
   refine WL.nil <| QN.to (StTo.still [0] 12 rfl rfl) <| QN.weaken (env' := [(12, _), (11, _), (5, _), (8, _), (19, _), (18, _), (17, _), (6, _), (3, _), (2, _)]) (.one rfl (.one rfl (.one rfl (.one rfl (.one rfl (.one rfl (.one rfl (.one rfl (.one rfl (.one rfl (.nil _))))))))))) <| QN.then_ <| W.seq ?_
   refine W.jn1 (Γ := Unit) (fun (_ : Unit) (x70 : Bool) => [(2, PtrA [SlcA kNodeType a0.fNodes, SlcA kEdgeType a0.fEdges]), (3, PtrA [SlcA kInt a1.fGraph.fNodes, SlcA kEdge a1.fGraph.fEdges, SlcA kSlot a1.fSlots, EqA (.int .i64 a1.fVars), SlcA kTest a1.fTests]), (6, FnA Tryz.prog (fun (x : Int) => [EqA (.int .i64 x)]) (fun (y : Term) => AggA [EqA (.int .i64 y.fVar), EqA (.int .i64 y.fAdd)]) (fun x => attribute_system_1 k x)), (17, SlcA kSlot a1.fSlots), (18, EqA (.int .i64 (a1.fSlots.length : Int))), (19, EqA (.int .i64 x19)), (8, PtrA [EqA (.int .i64 ((rd a1.fSlots x19).fNode)), EqA (.int .i64 ((rd a1.fSlots x19).fAttr)), EqA (.int .i64 ((rd a1.fSlots x19).fTerm.fVar)), EqA (.int .i64 ((rd a1.fSlots x19).fTerm.fAdd))]), (5, HdA v4889), (11, EqA (.int .i64 x11)), (12, PtrA [EqA (.int .i64 ((rd a1.fSlots x11).fNode)), EqA (.int .i64 ((rd a1.fSlots x11).fAttr)), EqA (.int .i64 ((rd a1.fSlots x11).fTerm.fVar)), EqA (.int .i64 ((rd a1.fSlots x11).fTerm.fAdd))]), (70, EqA (.bool x70))]) (fun (_ : Unit) (_ : Bool) => [SlE 86 v4889 kTest (x5 ++ [(Test.mk 1 t4886 ((rd a1.fSlots x19).fTerm)), (Test.mk 1 ((rd a1.fSlots x19).fTerm) t4887)])]) h (fun _ x70 h => ?_) (fun j4955 Kj4955 h => ?_)
   ·refine QN.then_ ?_
    refine W.condP h rfl (fun hb4956 h => ?_) (fun hb4956 h => ?_)
    ·refine W.seq <| W.region <| WL.p rfl rfl rfl (.s 5 rfl .nil) (q_move rfl) <| WL.p rfl rfl rfl (.s 12 rfl .nil) (q_field rfl fo113_2 rfl) <| WL.p rfl rfl rfl (.s 72 rfl .nil) (q_loadS rfl sh23 (leB rfl) rfl) <| WL.p rfl rfl rfl (.s 8 rfl .nil) (q_field rfl fo113_2 rfl) <| WL.p rfl rfl rfl (.s 74 rfl .nil) (q_loadS rfl sh23 (leB rfl) rfl) <| WL.p rfl rfl rfl (.k (.s 73 rfl (.s 75 rfl .nil))) (q_build (is := [0, 1, 2]) (xs := [.const (.int .i64 2), .tmp 73, .tmp 75]) (L := [EqA (.int .i64 2), EqA (.int .i64 ((rd a1.fSlots x11).fTerm.fVar)), EqA (.int .i64 ((rd a1.fSlots x11).fTerm.fAdd)), EqA (.int .i64 ((rd a1.fSlots x19).fTerm.fVar)), EqA (.int .i64 ((rd a1.fSlots x19).fTerm.fAdd))]) rfl rfl z86 pl86 rfl rfl (.cons (CellsOf.one rfl) (.cons (CellsOf.agg _) (.cons (CellsOf.agg _) .nil))) rfl) <| WL.p rfl rfl rfl (.s 76 rfl .nil) (q_lit (kd := kTest) (ps := [(0, .tmp 76)]) (xs := [.tmp 76]) («as» := [AggA [EqA (.int .i64 2), EqA (.int .i64 ((rd a1.fSlots x11).fTerm.fVar)), EqA (.int .i64 ((rd a1.fSlots x11).fTerm.fAdd)), EqA (.int .i64 ((rd a1.fSlots x19).fTerm.fVar)), EqA (.int .i64 ((rd a1.fSlots x19).fTerm.fAdd))]]) (ys := [(Test.mk 2 ((rd a1.fSlots x11).fTerm) ((rd a1.fSlots x19).fTerm))]) rfl rfl el40 rfl gr86 rfl rfl rfl (.cons (CellsOf.agg _) .nil)) ?_
     obtain ⟨c4957, h⟩ := ite_n h
     refine WL.w [0] rfl (Wanted.plain rfl) rfl rfl (.s 71 rfl (.s 77 rfl .nil)) (w_append (kd := kTest) rfl el40 rfl gr86 c4957) ?_
     rintro _ _ ⟨v4958, rfl, rfl⟩
     refine WL.p rfl rfl rfl (.s 78 rfl .nil) (q_assign rfl) <| WL.nil <| QN.weaken (env' := [(5, _), (19, _), (18, _), (17, _), (6, _), (3, _), (2, _)]) (.one rfl (.one rfl (.one rfl (.one rfl (.one rfl (.one rfl (.one rfl (.nil _)))))))) <| QN.then_ <| W.exit <| QX.there rfl <| QX.then_ <| QX.then_ <| QX.here <| QN.block <| QN.then_ <| W.region ?_
     obtain ⟨c4959, h⟩ := ite_n h
     refine WL.p rfl rfl rfl (.s 19 rfl (.k .nil)) (q_addR rfl c4959) <| WL.p rfl rfl rfl (.s 79 rfl .nil) (q_move rfl) <| WL.nil ?_
     exact next0 v4958 ((x5 ++ [(Test.mk 1 t4886 ((rd a1.fSlots x19).fTerm)), (Test.mk 1 ((rd a1.fSlots x19).fTerm) t4887)]) ++ [(Test.mk 2 ((rd a1.fSlots x11).fTerm) ((rd a1.fSlots x19).fTerm))]) (x19 + 1) _ h (.one rfl (.one rfl (.one rfl (.one rfl (.one rfl (.one rfl (.one rfl (.nil _))))))))
    ·refine W.skip <| QN.block <| QN.then_ <| W.region <| WL.p rfl rfl rfl (.s 11 rfl .nil) (q_move rfl) ?_
     obtain ⟨c4960, h⟩ := ite_n h
     refine WL.p rfl rfl rfl (.s 52 rfl (.k .nil)) (q_subR rfl c4960) <| WL.p rfl rfl rfl (.s 53 rfl .nil) (q_assign rfl) <| WL.nil ?_
     exact next1 () (x11 - 1) _ h (.one rfl (.one rfl (.one rfl (.one rfl (.one rfl (.one rfl (.one rfl (.one rfl (.one rfl (.nil _))))))))))
   ·refine W.region <| WL.p rfl rfl rfl (.s 12 rfl .nil) (q_field rfl fo113_0 rfl) <| WL.p rfl rfl rfl (.s 59 rfl .nil) (q_load rfl sh3) <| WL.p rfl rfl rfl (.s 8 rfl .nil) (q_field rfl fo113_0 rfl) <| WL.p rfl rfl rfl (.s 61 rfl .nil) (q_load rfl sh3) <| WL.p rfl rfl rfl (.s 60 rfl (.s 62 rfl .nil)) (q_int rfl rfl) <| WL.p rfl rfl rfl (.s 63 rfl .nil) (q_move rfl) ?_
    rcases bif_s h with ⟨hb4961, h⟩ | ⟨hb4961, h⟩
    ·refine WL.q (Wanted.on rfl rfl rfl hb4961) rfl rfl (.s 12 rfl .nil) (q_field rfl fo113_1 rfl).o <| WL.q (Wanted.on rfl rfl rfl hb4961) rfl rfl (.s 65 rfl .nil) (q_load rfl sh3).o <| WL.q (Wanted.on rfl rfl rfl hb4961) rfl rfl (.s 8 rfl .nil) (q_field rfl fo113_1 rfl).o <| WL.q (Wanted.on rfl rfl rfl hb4961) rfl rfl (.s 67 rfl .nil) (q_load rfl sh3).o <| WL.q (Wanted.on rfl rfl rfl hb4961) rfl rfl (.s 66 rfl (.s 68 rfl .nil)) (q_int rfl rfl).o <| WL.p rfl rfl rfl (.s 64 rfl (.s 69 rfl .nil)) (q_pickT rfl hb4961) <| WL.nil ?_
     exact QN.weaken (.one rfl (.one rfl (.one rfl (.one rfl (.one rfl (.one rfl (.one rfl (.one rfl (.one rfl (.one rfl (.one rfl (.nil _)))))))))))) (Kj4955 () ((rd a1.fSlots x11).fAttr == (rd a1.fSlots x19).fAttr) h)
    ·refine WL.skip (Unwanted.on rfl rfl rfl hb4961) rfl rfl <| WL.skip (Unwanted.on rfl rfl rfl hb4961) rfl rfl <| WL.skip (Unwanted.on rfl rfl rfl hb4961) rfl rfl <| WL.skip (Unwanted.on rfl rfl rfl hb4961) rfl rfl <| WL.skip (Unwanted.on rfl rfl rfl hb4961) rfl rfl <| WL.p rfl rfl rfl (.s 64 rfl (.k .nil)) (q_pickF rfl hb4961) <| WL.nil ?_
     exact QN.weaken (.one rfl (.one rfl (.one rfl (.one rfl (.one rfl (.one rfl (.one rfl (.one rfl (.one rfl (.one rfl (.one rfl (.nil _)))))))))))) (Kj4955 () false h)
  ·refine W.exit <| QX.then_ <| QX.then_ <| QX.here <| QN.block <| QN.then_ <| W.region ?_
   obtain ⟨c4962, h⟩ := ite_n h
   refine WL.p rfl rfl rfl (.s 19 rfl (.k .nil)) (q_addR rfl c4962) <| WL.p rfl rfl rfl (.s 79 rfl .nil) (q_move rfl) <| WL.nil ?_
   exact next0 v4889 (x5 ++ [(Test.mk 1 t4886 ((rd a1.fSlots x19).fTerm)), (Test.mk 1 ((rd a1.fSlots x19).fTerm) t4887)]) (x19 + 1) _ h (.one rfl (.one rfl (.one rfl (.one rfl (.one rfl (.one rfl (.one rfl (.nil _))))))))
 ·refine W.exit <| QX.then_ <| QX.then_ <| QX.here <| QN.weaken (env' := [(5, _)]) (.one rfl (.nil _)) <| QN.then_ <| W.seq <| W.region <| WL.p rfl rfl rfl (.s 5 rfl .nil) (q_move rfl) <| WL.p rfl rfl rfl (.s 80 rfl .nil) (q_assign rfl) <| WL.nil <| QN.then_ <| W.ret ?_
  cases h
  exact QR.f1 rfl rfl (.t rfl) (.slc 0 rfl)
theorem difference_arcs.con (k : Nat) (a0 : (List Test)) (r : (List Arc)) (h : difference_arcs k a0 = some r) : Con Tryz.prog 90 [] [SlcA kTest a0] (RA (SlcA kArc r)) := by
 unfold difference_arcs at h
 refine Con.of (N := 54) Tryz.func90 rfl rfl rfl fun w0_ fg_ => W.seq <| W.region <| WL.p rfl rfl rfl (.k .nil) (q_assign rfl) <| WL.nil <| QN.then_ <| W.seq <| W.region <| WL.p rfl rfl rfl (.k .nil) (q_assign rfl) <| WL.nil <| QN.then_ <| W.seq <| W.seq ?_
 refine W.region <| WL.p rfl rfl rfl (.s 0 rfl .nil) (q_move rfl) <| WL.p rfl rfl rfl (.s 7 rfl .nil) (q_len rfl elS40) <| WL.p rfl rfl rfl (.k .nil) (q_move rfl) <| WL.nil <| QN.then_ <| W.block <| W.to (StTo.newNil 155 kArc) <| W.to (StTo.as 3 rfl Imp.nilHd) ?_
 refine W.loop2 (Γ := Value) (fun (g0 : Value) (_ : (List Arc)) (x9 : Int) => [(3, HdA g0), (7, SlcA kTest a0), (8, EqA (.int .i64 (a0.length : Int))), (9, EqA (.int .i64 x9))]) (fun (g0 : Value) (x3 : (List Arc)) (_ : Int) => [SlE 155 g0 kArc x3]) h (.slice none 0 0) (.one rfl (.one rfl (.one rfl (.one rfl (.nil _))))) rfl (fun rec0 K0 next0 g0 x3 x9 h => ?_)
 unfold difference_arcs.b0 at h
 refine W.seq <| W.region <| WL.p rfl rfl rfl (.s 9 rfl (.s 8 rfl .nil)) (q_int rfl rfl) <| WL.nil <| QN.then_ <| W.seq ?_
 refine W.condP h rfl (fun hb5008 h => ?_) (fun hb5008 h => ?_)
 ·refine W.skip <| QN.then_ <| W.seq <| W.block <| W.seq <| W.region <| WL.p rfl rfl rfl (.s 9 rfl .nil) (q_move rfl) ?_
  obtain ⟨c5009, h⟩ := ite_n h
  refine WL.p rfl rfl rfl (.s 7 rfl (.s 9 rfl .nil)) (q_index rfl el40 rfl c5009.1 c5009.2) <| WL.p rfl rfl rfl (.s 12 rfl .nil) (q_loadS rfl sh86 (leB rfl) rfl) <| WL.w [] rfl (Wanted.plain rfl) rfl rfl .nil (w_alloc rfl z86 (l := [EqA (.int .i64 0), EqA (.int .i64 0), EqA (.int .i64 0), EqA (.int .i64 0), EqA (.int .i64 0)]) rfl) ?_
  rintro _ _ ⟨b5010, rfl, rfl⟩
  refine WL.p rfl rfl rfl (.s 11 rfl .nil) (q_assign rfl) <| WL.w0 [0] rfl (Wanted.plain rfl) rfl (.s 5 rfl (.s 13 rfl .nil)) (w_store (L := [EqA (.int .i64 ((rd a0 x9).fKind)), EqA (.int .i64 ((rd a0 x9).fLeft.fVar)), EqA (.int .i64 ((rd a0 x9).fLeft.fAdd)), EqA (.int .i64 ((rd a0 x9).fRight.fVar)), EqA (.int .i64 ((rd a0 x9).fRight.fAdd))]) rfl sh86 (CellsOf.agg _) rfl rfl (leB rfl) rfl) ?_
  rintro _ _ ⟨rfl, rfl⟩
  refine WL.nil <| QN.to (StTo.still [0] 5 rfl rfl) <| QN.then_ <| W.seq <| W.region <| WL.p rfl rfl rfl (.s 4 rfl .nil) (q_move rfl) <| WL.p rfl rfl rfl (.s 14 rfl (.k .nil)) (q_build (is := [0, 1]) (xs := [.tmp 14, .const (.int .i64 1)]) (L := [EqA (.int .i64 x9), EqA (.int .i64 1)]) rfl rfl z52 pl52 rfl rfl (.cons (CellsOf.one rfl) (.cons (CellsOf.one rfl) .nil)) rfl) <| WL.p rfl rfl rfl (.s 5 rfl .nil) (q_field rfl fo86_1 rfl) <| WL.p rfl rfl rfl (.s 16 rfl .nil) (q_field rfl fo23_0 rfl) <| WL.p rfl rfl rfl (.s 17 rfl .nil) (q_load rfl sh3) ?_
  obtain ⟨c5011, h⟩ := ite_n h
  refine WL.p rfl rfl rfl (.s 18 rfl (.k .nil)) (q_addR rfl c5011) <| WL.p rfl rfl rfl (.s 5 rfl .nil) (q_field rfl fo86_2 rfl) <| WL.p rfl rfl rfl (.s 20 rfl .nil) (q_field rfl fo23_0 rfl) <| WL.p rfl rfl rfl (.s 21 rfl .nil) (q_load rfl sh3) ?_
  obtain ⟨c5012, h⟩ := ite_n h
  refine WL.p rfl rfl rfl (.s 22 rfl (.k .nil)) (q_addR rfl c5012) <| WL.p rfl rfl rfl (.s 5 rfl .nil) (q_field rfl fo86_2 rfl) <| WL.p rfl rfl rfl (.s 24 rfl .nil) (q_field rfl fo23_1 rfl) <| WL.p rfl rfl rfl (.s 25 rfl .nil) (q_load rfl sh3) <| WL.p rfl rfl rfl (.s 5 rfl .nil) (q_field rfl fo86_1 rfl) <| WL.p rfl rfl rfl (.s 27 rfl .nil) (q_field rfl fo23_1 rfl) <| WL.p rfl rfl rfl (.s 28 rfl .nil) (q_load rfl sh3) ?_
  obtain ⟨c5013, h⟩ := ite_n h
  refine WL.p rfl rfl rfl (.s 26 rfl (.s 29 rfl .nil)) (q_subR rfl c5013) <| WL.p rfl rfl rfl (.s 15 rfl (.s 19 rfl (.s 23 rfl (.s 30 rfl .nil)))) (q_build (is := [0, 1, 2, 3]) (xs := [.tmp 15, .tmp 19, .tmp 23, .tmp 30]) (L := [EqA (.int .i64 x9), EqA (.int .i64 1), EqA (.int .i64 ((rd a0 x9).fLeft.fVar + 1)), EqA (.int .i64 ((rd a0 x9).fRight.fVar + 1)), EqA (.int .i64 ((rd a0 x9).fRight.fAdd - (rd a0 x9).fLeft.fAdd))]) rfl rfl z155 pl155 rfl rfl (.cons (CellsOf.agg _) (.cons (CellsOf.one rfl) (.cons (CellsOf.one rfl) (.cons (CellsOf.one rfl) .nil)))) rfl) <| WL.w [] rfl (Wanted.plain rfl) rfl rfl .nil (w_alloc rfl z155 (l := [EqA (.int .i64 0), EqA (.int .i64 0), EqA (.int .i64 0), EqA (.int .i64 0), EqA (.int .i64 0)]) rfl) ?_
  rintro _ _ ⟨b5014, rfl, rfl⟩
  refine WL.w0 [0] rfl (Wanted.plain rfl) rfl (.s 6 rfl (.s 31 rfl .nil)) (w_store (L := [EqA (.int .i64 x9), EqA (.int .i64 1), EqA (.int .i64 ((rd a0 x9).fLeft.fVar + 1)), EqA (.int .i64 ((rd a0 x9).fRight.fVar + 1)), EqA (.int .i64 ((rd a0 x9).fRight.fAdd - (rd a0 x9).fLeft.fAdd))]) rfl sh155 (CellsOf.agg _) rfl rfl (leB rfl) rfl) ?_
  rintro _ _ ⟨rfl, rfl⟩
  refine WL.nil <| QN.to (StTo.still [0] 6 rfl rfl) <| QN.weaken (env' := [(6, _), (4, _), (5, _), (9, _), (8, _), (7, _), (3, _)]) (.one rfl (.one rfl (.one rfl (.one rfl (.one rfl (.one rfl (.one rfl (.nil _)))))))) <| QN.then_ <| W.seq <| W.region <| WL.p rfl rfl rfl (.s 3 rfl .nil) (q_move rfl) <| WL.p rfl rfl rfl (.s 6 rfl .nil) (q_loadS rfl sh155 (leB rfl) rfl) <| WL.p rfl rfl rfl (.s 33 rfl .nil) (q_lit (kd := kArc) (ps := [(0, .tmp 33)]) (xs := [.tmp 33]) («as» := [AggA [EqA (.int .i64 x9), EqA (.int .i64 1), EqA (.int .i64 ((rd a0 x9).fLeft.fVar + 1)), EqA (.int .i64 ((rd a0 x9).fRight.fVar + 1)), EqA (.int .i64 ((rd a0 x9).fRight.fAdd - (rd a0 x9).fLeft.fAdd))]]) (ys := [(Arc.mk (Use.mk x9 1) ((rd a0 x9).fLeft.fVar + 1) ((rd a0 x9).fRight.fVar + 1) ((rd a0 x9).fRight.fAdd - (rd a0 x9).fLeft.fAdd))]) rfl rfl el146 rfl gr155 rfl rfl rfl (.cons (CellsOf.agg _) .nil)) ?_
  obtain ⟨c5015, h⟩ := ite_n h
  refine WL.w [0] rfl (Wanted.plain rfl) rfl rfl (.s 32 rfl (.s 34 rfl .nil)) (w_append (kd := kArc) rfl el146 rfl gr155 c5015) ?_
  rintro _ _ ⟨v5016, rfl, rfl⟩
  refine WL.p rfl rfl rfl (.s 35 rfl .nil) (q_assign rfl) <| WL.nil <| QN.then_ <| W.seq <| W.region <| WL.p rfl rfl rfl (.s 5 rfl .nil) (q_field rfl fo86_0 rfl) <| WL.p rfl rfl rfl (.s 36 rfl .nil) (q_load rfl sh3) <| WL.p rfl rfl rfl (.s 37 rfl (.k .nil)) (q_int rfl rfl) <| WL.nil <| QN.weaken (env' := [(38, _), (3, _), (6, _), (4, _), (9, _), (8, _), (7, _)]) (.one rfl (.one rfl (.one rfl (.one rfl (.one rfl (.one rfl (.one rfl (.nil _)))))))) <| QN.then_ ?_
  refine W.condP h rfl (fun hb5021 h => ?_) (fun hb5021 h => ?_)
  ·refine W.region <| WL.p rfl rfl rfl (.s 3 rfl .nil) (q_move rfl) <| WL.p rfl rfl rfl (.s 4 rfl .nil) (q_move rfl) <| WL.p rfl rfl rfl (.s 40 rfl (.k .nil)) (q_build (is := [0, 1]) (xs := [.tmp 40, .const (.int .i64 (-1))]) (L := [EqA (.int .i64 x9), EqA (.int .i64 (-1))]) rfl rfl z52 pl52 rfl rfl (.cons (CellsOf.one rfl) (.cons (CellsOf.one rfl) .nil)) rfl) <| WL.p rfl rfl rfl (.s 6 rfl .nil) (q_field rfl fo155_2 rfl) <| WL.p rfl rfl rfl (.s 42 rfl .nil) (q_load rfl sh3) <| WL.p rfl rfl rfl (.s 6 rfl .nil) (q_field rfl fo155_1 rfl) <| WL.p rfl rfl rfl (.s 44 rfl .nil) (q_load rfl sh3) <| WL.p rfl rfl rfl (.s 6 rfl .nil) (q_field rfl fo155_3 rfl) <| WL.p rfl rfl rfl (.s 46 rfl .nil) (q_load rfl sh3) ?_
   obtain ⟨c5022, h⟩ := ite_n h
   refine WL.p rfl rfl rfl (.s 47 rfl .nil) (q_negR rfl c5022) <| WL.p rfl rfl rfl (.s 41 rfl (.s 43 rfl (.s 45 rfl (.s 48 rfl .nil)))) (q_build (is := [0, 1, 2, 3]) (xs := [.tmp 41, .tmp 43, .tmp 45, .tmp 48]) (L := [EqA (.int .i64 x9), EqA (.int .i64 (-1)), EqA (.int .i64 ((rd a0 x9).fRight.fVar + 1)), EqA (.int .i64 ((rd a0 x9).fLeft.fVar + 1)), EqA (.int .i64 (0 - ((rd a0 x9).fRight.fAdd - (rd a0 x9).fLeft.fAdd)))]) rfl rfl z155 pl155 rfl rfl (.cons (CellsOf.agg _) (.cons (CellsOf.one rfl) (.cons (CellsOf.one rfl) (.cons (CellsOf.one rfl) .nil)))) rfl) <| WL.p rfl rfl rfl (.s 49 rfl .nil) (q_lit (kd := kArc) (ps := [(0, .tmp 49)]) (xs := [.tmp 49]) («as» := [AggA [EqA (.int .i64 x9), EqA (.int .i64 (-1)), EqA (.int .i64 ((rd a0 x9).fRight.fVar + 1)), EqA (.int .i64 ((rd a0 x9).fLeft.fVar + 1)), EqA (.int .i64 (0 - ((rd a0 x9).fRight.fAdd - (rd a0 x9).fLeft.fAdd)))]]) (ys := [(Arc.mk (Use.mk x9 (-1)) ((rd a0 x9).fRight.fVar + 1) ((rd a0 x9).fLeft.fVar + 1) (0 - ((rd a0 x9).fRight.fAdd - (rd a0 x9).fLeft.fAdd)))]) rfl rfl el146 rfl gr155 rfl rfl rfl (.cons (CellsOf.agg _) .nil)) ?_
   obtain ⟨c5023, h⟩ := ite_n h
   refine WL.w [0] rfl (Wanted.plain rfl) rfl rfl (.s 39 rfl (.s 50 rfl .nil)) (w_append (kd := kArc) rfl el146 rfl gr155 c5023) ?_
   rintro _ _ ⟨v5024, rfl, rfl⟩
   refine WL.p rfl rfl rfl (.s 51 rfl .nil) (q_assign rfl) <| WL.nil <| QN.block <| QN.weaken (env' := [(3, _), (9, _), (8, _), (7, _)]) (.one rfl (.one rfl (.one rfl (.one rfl (.nil _))))) <| QN.then_ <| W.region ?_
   obtain ⟨c5025, h⟩ := ite_n h
   refine WL.p rfl rfl rfl (.s 9 rfl (.k .nil)) (q_addR rfl c5025) <| WL.p rfl rfl rfl (.s 52 rfl .nil) (q_move rfl) <| WL.nil ?_
   exact next0 v5024 ((x3 ++ [(Arc.mk (Use.mk x9 1) ((rd a0 x9).fLeft.fVar + 1) ((rd a0 x9).fRight.fVar + 1) ((rd a0 x9).fRight.fAdd - (rd a0 x9).fLeft.fAdd))]) ++ [(Arc.mk (Use.mk x9 (-1)) ((rd a0 x9).fRight.fVar + 1) ((rd a0 x9).fLeft.fVar + 1) (0 - ((rd a0 x9).fRight.fAdd - (rd a0 x9).fLeft.fAdd)))]) (x9 + 1) _ h (.one rfl (.one rfl (.one rfl (.one rfl (.nil _)))))
  ·refine W.skip <| QN.block <| QN.then_ <| W.region ?_
   obtain ⟨c5026, h⟩ := ite_n h
   refine WL.p rfl rfl rfl (.s 9 rfl (.k .nil)) (q_addR rfl c5026) <| WL.p rfl rfl rfl (.s 52 rfl .nil) (q_move rfl) <| WL.nil ?_
   exact next0 v5016 (x3 ++ [(Arc.mk (Use.mk x9 1) ((rd a0 x9).fLeft.fVar + 1) ((rd a0 x9).fRight.fVar + 1) ((rd a0 x9).fRight.fAdd - (rd a0 x9).fLeft.fAdd))]) (x9 + 1) _ h (.one rfl (.one rfl (.one rfl (.one rfl (.nil _)))))
 ·refine W.exit <| QX.then_ <| QX.then_ <| QX.here <| QN.then_ <| W.seq <| W.region <| WL.p rfl rfl rfl (.s 3 rfl .nil) (q_move rfl) <| WL.p rfl rfl rfl (.s 53 rfl .nil) (q_assign rfl) <| WL.nil <| QN.then_ <| W.ret ?_
  cases h
  exact QR.f1 rfl rfl (.t rfl) (.slc 0 rfl)
theorem difference_distances.con (k : Nat) (a0 : Int) (a1 : (List Arc)) (r : ((List Int) × Bool)) (h : difference_distances k a0 a1 = some r) : Con Tryz.prog 91 [] [EqA (.int .i64 a0), SlcA kArc a1] (RA (TupA [SlcA kInt r.1, EqA (.bool r.2)])) := by
 unfold difference_distances at h
 refine Con.of (N := 49) Tryz.func91 rfl rfl rfl fun w0_ fg_ => W.seq <| W.region <| WL.p rfl rfl rfl (.k .nil) (q_assign rfl) <| WL.p rfl rfl rfl (.k .nil) (q_assign rfl) <| WL.nil <| QN.then_ <| W.seq <| W.region <| WL.p rfl rfl rfl (.s 0 rfl .nil) (q_move rfl) ?_
 obtain ⟨c5027, h⟩ := ite_n h
 refine WL.p rfl rfl rfl (.s 11 rfl (.k .nil)) (q_addR rfl c5027) ?_
 obtain ⟨c5028, h⟩ := ite_n h
 refine WL.w [] rfl (Wanted.plain rfl) rfl rfl (.s 12 rfl (.s 12 rfl .nil)) (w_make (kd := kInt) (z := (0 : Int)) rfl el26 rfl gr3 z3 rfl c5028.1 c5028.2) ?_
 rintro _ _ ⟨v5029, rfl, rfl⟩
 refine WL.p rfl rfl rfl (.s 13 rfl .nil) (q_assign rfl) <| WL.nil <| QN.then_ <| W.seq <| W.seq <| W.region <| WL.p rfl rfl rfl (.s 0 rfl .nil) (q_move rfl) ?_
 obtain ⟨c5030, h⟩ := ite_n h
 refine WL.p rfl rfl rfl (.s 14 rfl (.k .nil)) (q_addR rfl c5030) <| WL.p rfl rfl rfl (.k .nil) (q_move rfl) <| WL.nil <| QN.weaken (env' := [(16, _), (15, _), (6, _), (1, _)]) (.one rfl (.one rfl (.one rfl (.one rfl (.nil _))))) <| QN.then_ <| W.block ?_
 refine W.loop2 (Γ := Unit) (fun (_ : Unit) (_ : (List Int)) (x16 : Int) => [(1, SlcA kArc a1), (6, HdA v5029), (15, EqA (.int .i64 (a0 + 2))), (16, EqA (.int .i64 x16))]) (fun (_ : Unit) (x6 : (List Int)) (_ : Int) => [SlE 3 v5029 kInt x6]) h () (.one rfl (.one rfl (.one rfl (.one rfl (.nil _))))) rfl (fun rec0 K0 next0 _ x6 x16 h => ?_)
 unfold difference_distances.b0 at h
 refine W.seq <| W.region <| WL.p rfl rfl rfl (.s 16 rfl (.s 15 rfl .nil)) (q_int rfl rfl) <| WL.nil <| QN.then_ <| W.seq ?_
 refine W.condP h rfl (fun hb5137 h => ?_) (fun hb5137 h => ?_)
 ·refine W.skip <| QN.then_ <| W.seq <| W.block <| W.seq <| W.region <| WL.p rfl rfl rfl (.k .nil) (q_assign rfl) <| WL.nil <| QN.then_ <| W.seq <| W.seq <| W.region <| WL.p rfl rfl rfl (.s 1 rfl .nil) (q_move rfl) ?_
  refine WL.p rfl rfl rfl (.s 18 rfl .nil) (q_len rfl elS146) <| WL.p rfl rfl rfl (.k .nil) (q_move rfl) <| WL.nil <| QN.then_ <| W.block ?_
  refine W.loop3 (Γ := Unit) (fun (_ : Unit) (_ : (List Int)) (x7 : Bool) (x20 : Int) => [(1, SlcA kArc a1), (6, HdA v5029), (15, EqA (.int .i64 (a0 + 2))), (16, EqA (.int .i64 x16)), (7, EqA (.bool x7)), (18, SlcA kArc a1), (19, EqA (.int .i64 (a1.length : Int))), (20, EqA (.int .i64 x20))]) (fun (_ : Unit) (x6' : (List Int)) (_ : Bool) (_ : Int) => [SlE 3 v5029 kInt x6']) h () (.one rfl (.one rfl (.one rfl (.one rfl (.one rfl (.one rfl (.one rfl (.one rfl (.nil _))))))))) rfl (fun rec1 K1 next1 _ x6' x7 x20 h => ?_)
  unfold difference_distances.b1 at h
  refine W.seq <| W.region <| WL.p rfl rfl rfl (.s 20 rfl (.s 19 rfl .nil)) (q_int rfl rfl) <| WL.nil <| QN.then_ <| W.seq ?_
  refine W.condP h rfl (fun hb5172 h => ?_) (fun hb5172 h => ?_)
  ·refine W.skip <| QN.then_ <| W.seq <| W.block <| W.seq <| W.region ?_
   obtain ⟨c5173, h⟩ := ite_n h
   refine WL.p rfl rfl rfl (.s 18 rfl (.s 20 rfl .nil)) (q_index rfl el146 rfl c5173.1 c5173.2) <| WL.p rfl rfl rfl (.s 22 rfl .nil) (q_loadS rfl sh155 (leB rfl) rfl) <| WL.w [] rfl (Wanted.plain rfl) rfl rfl .nil (w_alloc rfl z155 (l := [EqA (.int .i64 0), EqA (.int .i64 0), EqA (.int .i64 0), EqA (.int .i64 0), EqA (.int .i64 0)]) rfl) ?_
   rintro _ _ ⟨b5174, rfl, rfl⟩
   refine WL.w0 [0] rfl (Wanted.plain rfl) rfl (.s 9 rfl (.s 23 rfl .nil)) (w_store (L := [EqA (.int .i64 ((rd a1 x20).fuse.fTest)), EqA (.int .i64 ((rd a1 x20).fuse.fSign)), EqA (.int .i64 ((rd a1 x20).ffrom)), EqA (.int .i64 ((rd a1 x20).fto)), EqA (.int .i64 ((rd a1 x20).fmost))]) rfl sh155 (CellsOf.agg _) rfl rfl (leB rfl) rfl) ?_
   rintro _ _ ⟨rfl, rfl⟩
   refine WL.nil <| QN.to (StTo.still [0] 9 rfl rfl) <| QN.then_ <| W.seq <| W.drawK [(0, false), (1, false), (2, false), (3, true), (4, true), (5, false), (6, false), (7, false), (8, false)] [] [[], [], [1], [0, 1, 2], [0, 1, 2, 3], [], [5], [0, 1, 2, 3, 4, 5, 6], [0, 1, 2, 3, 4, 5, 6, 7]] mx (by kernel_rfl) <| DK.cons rfl rfl (.p rfl (.s 6 rfl .nil) rfl (q_move rfl)) <| DK.cons rfl rfl (.p rfl (.s 9 rfl .nil) rfl (q_field rfl fo155_2 rfl)) <| DK.cons rfl rfl (.p rfl (.s 25 rfl .nil) rfl (q_load rfl sh3)) ?_
   obtain ⟨c5179, h⟩ := ite_n h
   refine DK.cons rfl rfl (.o rfl (.s 24 rfl (.s 26 rfl .nil)) rfl (q_indexO rfl el26 (j := 0) rfl c5179.1 c5179.2)) <| DK.cons rfl rfl (.o rfl (.s 27 rfl .nil) rfl (q_loadEl rfl sh3 (j := 0) rfl rfl c5179.1 c5179.2 rfl)) <| DK.cons rfl rfl (.p rfl (.s 9 rfl .nil) rfl (q_field rfl fo155_3 rfl)) <| DK.cons rfl rfl (.p rfl (.s 29 rfl .nil) rfl (q_load rfl sh3)) ?_
   obtain ⟨c5180, h⟩ := ite_n h
   refine DK.cons rfl rfl (.p rfl (.s 28 rfl (.s 30 rfl .nil)) rfl (q_addR rfl c5180)) <| DK.cons rfl rfl (.p rfl (.s 31 rfl .nil) rfl (q_assign rfl)) <| DK.nil <| CSteps.nil <| QN.weaken (env' := [(10, _), (9, _), (20, _), (19, _), (18, _), (7, _), (16, _), (15, _), (6, _), (1, _)]) (.one rfl (.one rfl (.one rfl (.one rfl (.one rfl (.one rfl (.one rfl (.one rfl (.one rfl (.one rfl (.nil _))))))))))) <| QN.then_ <| W.seq <| W.region <| WL.p rfl rfl rfl (.s 10 rfl .nil) (q_move rfl) <| WL.p rfl rfl rfl (.s 6 rfl .nil) (q_move rfl) <| WL.p rfl rfl rfl (.s 9 rfl .nil) (q_field rfl fo155_1 rfl) <| WL.p rfl rfl rfl (.s 34 rfl .nil) (q_load rfl sh3) ?_
   obtain ⟨c5181, h⟩ := ite_n h
   refine WL.q (Wanted.plain rfl) rfl rfl (.s 33 rfl (.s 35 rfl .nil)) (q_indexO rfl el26 (j := 0) rfl c5181.1 c5181.2) <| WL.q (Wanted.plain rfl) rfl rfl (.s 36 rfl .nil) (q_loadEl rfl sh3 (j := 0) rfl rfl c5181.1 c5181.2 rfl) <| WL.p rfl rfl rfl (.s 32 rfl (.s 37 rfl .nil)) (q_int rfl rfl) <| WL.nil <| QN.then_ ?_
   refine W.condP h rfl (fun hb5184 h => ?_) (fun hb5184 h => ?_)
   ·refine W.region <| WL.p rfl rfl rfl (.s 6 rfl .nil) (q_move rfl) <| WL.p rfl rfl rfl (.s 9 rfl .nil) (q_field rfl fo155_1 rfl) <| WL.p rfl rfl rfl (.s 40 rfl .nil) (q_load rfl sh3) <| WL.p rfl rfl rfl (.s 10 rfl .nil) (q_move rfl) ?_
    obtain ⟨c5185, h⟩ := ite_n h
    refine WL.q (Wanted.plain rfl) rfl rfl (.s 39 rfl (.s 41 rfl .nil)) (q_indexO rfl el26 (j := 0) rfl c5185.1 c5185.2) <| WL.w0 [0] rfl (Wanted.plain rfl) rfl (.s 43 rfl (.s 42 rfl .nil)) (w_storeEl (kd := kInt) (z := ((rd x6' ((rd a1 x20).fto)) + (rd a1 x20).fmost)) rfl sh3 (CellsOf.one rfl) rfl rfl rfl c5185.1 c5185.2 rfl rfl) ?_
    rintro _ _ ⟨rfl, rfl⟩
    refine WL.p rfl rfl rfl (.k .nil) (q_assign rfl) <| WL.nil <| QN.block <| QN.weaken (env' := [(7, _), (20, _), (19, _), (18, _), (16, _), (15, _), (6, _), (1, _)]) (.one rfl (.one rfl (.one rfl (.one rfl (.one rfl (.one rfl (.one rfl (.one rfl (.nil _))))))))) <| QN.then_ <| W.region ?_
    obtain ⟨c5186, h⟩ := ite_n h
    refine WL.p rfl rfl rfl (.s 20 rfl (.k .nil)) (q_addR rfl c5186) <| WL.p rfl rfl rfl (.s 44 rfl .nil) (q_move rfl) <| WL.nil ?_
    exact next1 () (x6'.set ((rd a1 x20).ffrom : Int).toNat ((rd x6' ((rd a1 x20).fto)) + (rd a1 x20).fmost)) true (x20 + 1) _ h (.one rfl (.one rfl (.one rfl (.one rfl (.one rfl (.one rfl (.one rfl (.one rfl (.nil _)))))))))
   ·refine W.skip <| QN.block <| QN.weaken (env' := [(20, _), (19, _), (18, _), (7, _), (16, _), (15, _), (6, _), (1, _)]) (.one rfl (.one rfl (.one rfl (.one rfl (.one rfl (.one rfl (.one rfl (.one rfl (.nil _))))))))) <| QN.then_ <| W.region ?_
    obtain ⟨c5187, h⟩ := ite_n h
    refine WL.p rfl rfl rfl (.s 20 rfl (.k .nil)) (q_addR rfl c5187) <| WL.p rfl rfl rfl (.s 44 rfl .nil) (q_move rfl) <| WL.nil ?_
    exact next1 () x6' x7 (x20 + 1) _ h (.one rfl (.one rfl (.one rfl (.one rfl (.one rfl (.one rfl (.one rfl (.one rfl (.nil _)))))))))
  ·refine W.exit <| QX.then_ <| QX.then_ <| QX.here <| QN.then_ <| W.seq <| W.region <| WL.p rfl rfl rfl (.s 7 rfl .nil) (q_move rfl) <| WL.p rfl rfl rfl (.s 45 rfl .nil) (q_not rfl) <| WL.nil <| QN.then_ ?_
   refine W.condP h rfl (fun hb5188 h => ?_) (fun hb5188 h => ?_)
   ·refine W.seq <| W.region <| WL.p rfl rfl rfl (.s 6 rfl .nil) (q_move rfl) <| WL.p rfl rfl rfl (.s 47 rfl .nil) (q_assign rfl) <| WL.p rfl rfl rfl (.k .nil) (q_assign rfl) <| WL.nil <| QN.weaken (env' := [(5, _), (4, _)]) (.one rfl (.one rfl (.nil _))) <| QN.then_ <| W.ret <| QR.block <| QR.then_ <| QR.then_ <| QR.block ?_
    refine QR.then_ ?_
    cases h
    exact QR.f2 rfl rfl (.t rfl) (.t rfl) (.tup (.cons (.slc 0 rfl) (.cons (.id _) .nil)))
   ·refine W.skip <| QN.block <| QN.weaken (env' := [(16, _), (15, _), (6, _), (1, _)]) (.one rfl (.one rfl (.one rfl (.one rfl (.nil _))))) <| QN.then_ <| W.region ?_
    obtain ⟨c5189, h⟩ := ite_n h
    refine WL.p rfl rfl rfl (.s 16 rfl (.k .nil)) (q_addR rfl c5189) <| WL.p rfl rfl rfl (.s 48 rfl .nil) (q_move rfl) <| WL.nil ?_
    exact next0 () x6' (x16 + 1) _ h (.one rfl (.one rfl (.one rfl (.one rfl (.nil _)))))
 ·refine W.exit <| QX.then_ <| QX.then_ <| QX.here <| QN.then_ <| W.seq <| W.region <| WL.p rfl rfl rfl (.k .nil) (q_assign rfl) <| WL.p rfl rfl rfl (.k .nil) (q_assign rfl) <| WL.nil <| QN.then_ <| W.ret ?_
  cases h
  exact QR.f2 rfl rfl (.t rfl) (.t rfl) (.imp (Imp.tup (.cons (Imp.nil kInt) (.cons (Imp.id _) .nil))))
theorem bits_Mul32.con (k : Nat) (a0 : Int) (a1 : Int) (r : (Int × Int)) (h : bits_Mul32 k a0 a1 = some r) : Con Tryz.prog 197 [] [EqA (.int .u32 a0), EqA (.int .u32 a1)] (RA (TupA [EqA (.int .u32 r.1), EqA (.int .u32 r.2)])) := by
 unfold bits_Mul32 at h
 refine Con.of (N := 17) Tryz.func197 rfl rfl rfl fun w0_ fg_ => W.seq <| W.region <| WL.p rfl rfl rfl (.k .nil) (q_assign rfl) <| WL.p rfl rfl rfl (.k .nil) (q_assign rfl) <| WL.nil <| QN.then_ <| W.seq <| W.region <| WL.p rfl rfl rfl (.s 0 rfl .nil) (q_move rfl) <| WL.p rfl rfl rfl (.s 7 rfl .nil) (q_conv rfl cv206 cvS242) <| WL.p rfl rfl rfl (.s 1 rfl .nil) (q_move rfl) <| WL.p rfl rfl rfl (.s 9 rfl .nil) (q_conv rfl cv206 cvS242) ?_
 refine WL.p rfl rfl rfl (.s 8 rfl (.s 10 rfl .nil)) (q_int rfl rfl) <| WL.p rfl rfl rfl (.s 11 rfl .nil) (q_assign rfl) <| WL.nil <| QN.weaken (env' := [(6, _)]) (.one rfl (.nil _)) <| QN.then_ <| W.seq <| W.region <| WL.p rfl rfl rfl (.s 6 rfl .nil) (q_move rfl) <| WL.p rfl rfl rfl (.s 12 rfl (.k .nil)) (q_shrN rfl (by decide)) <| WL.p rfl rfl rfl (.s 13 rfl .nil) (q_conv rfl cv242 cvS206) <| WL.p rfl rfl rfl (.s 6 rfl .nil) (q_move rfl) <| WL.p rfl rfl rfl (.s 15 rfl .nil) (q_conv rfl cv242 cvS206) <| WL.p rfl rfl rfl (.s 14 rfl .nil) (q_assign rfl) ?_
 refine WL.p rfl rfl rfl (.s 16 rfl .nil) (q_assign rfl) <| WL.nil <| QN.then_ <| W.ret ?_
 cases h
 exact QR.f2 rfl rfl (.t rfl) (.t rfl) (.id _)
theorem bits_Mul64.con (k : Nat) (a0 : Int) (a1 : Int) (r : (Int × Int)) (h : bits_Mul64 k a0 a1 = some r) : Con Tryz.prog 198 [] [EqA (.int .u64 a0), EqA (.int .u64 a1)] (RA (TupA [EqA (.int .u64 r.1), EqA (.int .u64 r.2)])) := by
 unfold bits_Mul64 at h
 refine Con.of (N := 51) Tryz.func198 rfl rfl rfl fun w0_ fg_ => W.seq <| W.region <| WL.p rfl rfl rfl (.k .nil) (q_assign rfl) <| WL.p rfl rfl rfl (.k .nil) (q_assign rfl) <| WL.nil <| QN.then_ <| W.seq <| W.region <| WL.p rfl rfl rfl (.s 0 rfl .nil) (q_move rfl) <| WL.p rfl rfl rfl (.s 14 rfl (.k .nil)) (q_bits rfl rfl) <| WL.p rfl rfl rfl (.s 15 rfl .nil) (q_assign rfl) <| WL.nil ?_
 refine QN.then_ <| W.seq <| W.region <| WL.p rfl rfl rfl (.s 0 rfl .nil) (q_move rfl) <| WL.p rfl rfl rfl (.s 16 rfl (.k .nil)) (q_shrN rfl (by decide)) <| WL.p rfl rfl rfl (.s 17 rfl .nil) (q_assign rfl) <| WL.nil <| QN.then_ <| W.seq <| W.region <| WL.p rfl rfl rfl (.s 1 rfl .nil) (q_move rfl) <| WL.p rfl rfl rfl (.s 18 rfl (.k .nil)) (q_bits rfl rfl) <| WL.p rfl rfl rfl (.s 19 rfl .nil) (q_assign rfl) ?_
 refine WL.nil <| QN.weaken (env' := [(8, _), (7, _), (6, _), (1, _), (0, _)]) (.one rfl (.one rfl (.one rfl (.one rfl (.one rfl (.nil _)))))) <| QN.then_ <| W.seq <| W.region <| WL.p rfl rfl rfl (.s 1 rfl .nil) (q_move rfl) <| WL.p rfl rfl rfl (.s 20 rfl (.k .nil)) (q_shrN rfl (by decide)) <| WL.p rfl rfl rfl (.s 21 rfl .nil) (q_assign rfl) <| WL.nil <| QN.then_ <| W.seq <| W.region <| WL.p rfl rfl rfl (.s 6 rfl .nil) (q_move rfl) ?_
 refine WL.p rfl rfl rfl (.s 8 rfl .nil) (q_move rfl) <| WL.p rfl rfl rfl (.s 22 rfl (.s 23 rfl .nil)) (q_int rfl rfl) <| WL.p rfl rfl rfl (.s 24 rfl .nil) (q_assign rfl) <| WL.nil <| QN.then_ <| W.seq <| W.region <| WL.p rfl rfl rfl (.s 7 rfl .nil) (q_move rfl) <| WL.p rfl rfl rfl (.s 8 rfl .nil) (q_move rfl) <| WL.p rfl rfl rfl (.s 25 rfl (.s 26 rfl .nil)) (q_int rfl rfl) <| WL.p rfl rfl rfl (.s 10 rfl .nil) (q_move rfl) <| WL.p rfl rfl rfl (.s 28 rfl (.k .nil)) (q_shrN rfl (by decide)) <| WL.p rfl rfl rfl (.s 27 rfl (.s 29 rfl .nil)) (q_int rfl rfl) ?_
 refine WL.p rfl rfl rfl (.s 30 rfl .nil) (q_assign rfl) <| WL.nil <| QN.weaken (env' := [(11, _), (9, _), (7, _), (6, _), (1, _), (0, _)]) (.one rfl (.one rfl (.one rfl (.one rfl (.one rfl (.one rfl (.nil _))))))) <| QN.then_ <| W.seq <| W.region <| WL.p rfl rfl rfl (.s 11 rfl .nil) (q_move rfl) <| WL.p rfl rfl rfl (.s 31 rfl (.k .nil)) (q_bits rfl rfl) <| WL.p rfl rfl rfl (.s 32 rfl .nil) (q_assign rfl) <| WL.nil <| QN.then_ <| W.seq <| W.region ?_
 refine WL.p rfl rfl rfl (.s 11 rfl .nil) (q_move rfl) <| WL.p rfl rfl rfl (.s 33 rfl (.k .nil)) (q_shrN rfl (by decide)) <| WL.p rfl rfl rfl (.s 34 rfl .nil) (q_assign rfl) <| WL.nil <| QN.then_ <| W.seq <| W.region <| WL.p rfl rfl rfl (.s 12 rfl .nil) (q_move rfl) <| WL.p rfl rfl rfl (.s 6 rfl .nil) (q_move rfl) <| WL.p rfl rfl rfl (.s 9 rfl .nil) (q_move rfl) <| WL.p rfl rfl rfl (.s 36 rfl (.s 37 rfl .nil)) (q_int rfl rfl) <| WL.p rfl rfl rfl (.s 35 rfl (.s 38 rfl .nil)) (q_int rfl rfl) <| WL.p rfl rfl rfl (.s 39 rfl .nil) (q_assign rfl) ?_
 refine WL.nil <| QN.weaken (env' := [(12, _), (13, _), (9, _), (7, _), (1, _), (0, _)]) (.one rfl (.one rfl (.one rfl (.one rfl (.one rfl (.one rfl (.nil _))))))) <| QN.then_ <| W.seq <| W.region <| WL.p rfl rfl rfl (.s 7 rfl .nil) (q_move rfl) <| WL.p rfl rfl rfl (.s 9 rfl .nil) (q_move rfl) <| WL.p rfl rfl rfl (.s 40 rfl (.s 41 rfl .nil)) (q_int rfl rfl) <| WL.p rfl rfl rfl (.s 13 rfl .nil) (q_move rfl) <| WL.p rfl rfl rfl (.s 42 rfl (.s 43 rfl .nil)) (q_int rfl rfl) <| WL.p rfl rfl rfl (.s 12 rfl .nil) (q_move rfl) <| WL.p rfl rfl rfl (.s 45 rfl (.k .nil)) (q_shrN rfl (by decide)) <| WL.p rfl rfl rfl (.s 44 rfl (.s 46 rfl .nil)) (q_int rfl rfl) ?_
 refine WL.p rfl rfl rfl (.s 47 rfl .nil) (q_assign rfl) <| WL.nil <| QN.weaken (env' := [(4, _), (1, _), (0, _)]) (.one rfl (.one rfl (.one rfl (.nil _)))) <| QN.then_ <| W.seq <| W.region <| WL.p rfl rfl rfl (.s 0 rfl .nil) (q_move rfl) <| WL.p rfl rfl rfl (.s 1 rfl .nil) (q_move rfl) <| WL.p rfl rfl rfl (.s 48 rfl (.s 49 rfl .nil)) (q_int rfl rfl) <| WL.p rfl rfl rfl (.s 50 rfl .nil) (q_assign rfl) <| WL.nil <| QN.then_ <| W.ret ?_
 cases h
 exact QR.f2 rfl rfl (.t rfl) (.t rfl) (.id _)
theorem bits_Mul.con (k : Nat) (a0 : Int) (a1 : Int) (r : (Int × Int)) (h : bits_Mul k a0 a1 = some r) : Con Tryz.prog 174 [] [EqA (.int .u64 a0), EqA (.int .u64 a1)] (RA (TupA [EqA (.int .u64 r.1), EqA (.int .u64 r.2)])) := by
 unfold bits_Mul at h
 refine Con.of (N := 30) Tryz.func174 rfl rfl rfl fun w0_ fg_ => W.seq <| W.region <| WL.p rfl rfl rfl (.k .nil) (q_assign rfl) <| WL.p rfl rfl rfl (.k .nil) (q_assign rfl) <| WL.nil <| QN.then_ <| W.seq <| W.condKF <| W.skip <| QN.then_ <| W.seq <| W.region ?_
 refine WL.p rfl rfl rfl (.s 0 rfl .nil) (q_move rfl) <| WL.p rfl rfl rfl (.s 1 rfl .nil) (q_move rfl) ?_
 obtain ⟨t5190, ht5190, h⟩ := bind_s h
 refine WL.p rfl rfl rfl (.s 23 rfl (.s 24 rfl .nil)) (q_call (f := 198) (A := TupA [EqA (.int .u64 t5190.1), EqA (.int .u64 t5190.2)]) (xs := [.tmp 23, .tmp 24]) («as» := [EqA (.int .u64 a0), EqA (.int .u64 a1)]) rfl ca198 (bits_Mul64.con k a0 a1 t5190 ht5190) rfl) <| WL.p rfl rfl rfl (.s 25 rfl .nil) (q_move rfl) <| WL.p rfl rfl rfl (.s 22 rfl .nil) (q_extract rfl rfl) <| WL.p rfl rfl rfl (.s 22 rfl .nil) (q_extract rfl rfl) <| WL.p rfl rfl rfl (.s 26 rfl .nil) (q_assign rfl) <| WL.p rfl rfl rfl (.s 27 rfl .nil) (q_assign rfl) <| WL.nil <| QN.weaken (env' := [(9, _), (8, _)]) (.one rfl (.one rfl (.nil _))) <| QN.then_ <| W.seq <| W.region <| WL.p rfl rfl rfl (.s 8 rfl .nil) (q_move rfl) <| WL.p rfl rfl rfl (.s 9 rfl .nil) (q_move rfl) ?_
 refine WL.p rfl rfl rfl (.s 28 rfl .nil) (q_assign rfl) <| WL.p rfl rfl rfl (.s 29 rfl .nil) (q_assign rfl) <| WL.nil <| QN.then_ <| W.ret ?_
 cases h
 exact QR.f2 rfl rfl (.t rfl) (.t rfl) (.id _)
theorem slices_Repeat_int.con (k : Nat) (a0 : (List Int)) (a1 : Int) (r : (List Int)) (h : slices_Repeat_int k a0 a1 = some r) : Con Tryz.prog 142 [] [SlcA kInt a0, EqA (.int .i64 a1)] (RApp 3 kInt r) := by
 unfold slices_Repeat_int at h
 refine Con.of (N := 48) Tryz.func142 rfl rfl rfl fun w0_ fg_ => W.seq <| W.region <| WL.p rfl rfl rfl (.k .nil) (q_assign rfl) <| WL.nil <| QN.then_ <| W.seq <| W.seq <| W.region <| WL.p rfl rfl rfl (.s 1 rfl .nil) (q_move rfl) <| WL.p rfl rfl rfl (.s 9 rfl (.k .nil)) (q_int rfl rfl) <| WL.nil <| QN.then_ ?_
 refine W.condP h rfl (fun hb5192 h => ?_) (fun hb5192 h => ?_)
 ·cases h
 ·refine W.skip <| QN.then_ <| W.seq <| W.region <| WL.p rfl rfl rfl (.s 0 rfl .nil) (q_move rfl) <| WL.p rfl rfl rfl (.s 13 rfl .nil) (q_len rfl elS26) <| WL.p rfl rfl rfl (.s 14 rfl .nil) (q_conv rfl cv220 cvS3) <| WL.p rfl rfl rfl (.s 1 rfl .nil) (q_move rfl) <| WL.p rfl rfl rfl (.s 16 rfl .nil) (q_conv rfl cv220 cvS3) ?_
  obtain ⟨t5193, ht5193, h⟩ := bind_s h
  refine WL.p rfl rfl rfl (.s 15 rfl (.s 17 rfl .nil)) (q_call (f := 174) (A := TupA [EqA (.int .u64 t5193.1), EqA (.int .u64 t5193.2)]) (xs := [.tmp 15, .tmp 17]) («as» := [EqA (.int .u64 (IntKind.u64.wrap (a0.length : Int))), EqA (.int .u64 (IntKind.u64.wrap a1))]) rfl ca174 (bits_Mul.con k (IntKind.u64.wrap (a0.length : Int)) (IntKind.u64.wrap a1) t5193 ht5193) rfl) <| WL.p rfl rfl rfl (.s 18 rfl .nil) (q_move rfl) <| WL.p rfl rfl rfl (.s 12 rfl .nil) (q_extract rfl rfl) <| WL.p rfl rfl rfl (.s 12 rfl .nil) (q_extract rfl rfl) <| WL.p rfl rfl rfl (.s 19 rfl .nil) (q_assign rfl) <| WL.p rfl rfl rfl (.s 20 rfl .nil) (q_assign rfl) <| WL.nil <| QN.weaken (env' := [(6, _), (5, _), (0, _)]) (.one rfl (.one rfl (.one rfl (.nil _)))) <| QN.then_ <| W.seq <| W.seq ?_
  refine W.jn1 (Γ := Unit) (fun (_ : Unit) (x26 : Bool) => [(0, SlcA kInt a0), (6, EqA (.int .u64 t5193.2)), (26, EqA (.bool x26))]) (fun (_ : Unit) (_ : Bool) => []) h (fun _ x26 h => ?_) (fun j5196 Kj5196 h => ?_)
  ·refine QN.then_ ?_
   refine W.condP h rfl (fun hb5198 h => ?_) (fun hb5198 h => ?_)
   ·cases h
   ·refine W.skip <| QN.then_ <| W.seq <| W.region <| WL.p rfl rfl rfl (.s 6 rfl .nil) (q_move rfl) <| WL.p rfl rfl rfl (.s 28 rfl .nil) (q_conv rfl cv3 cvS220) ?_
    obtain ⟨c5199, h⟩ := ite_n h
    refine WL.w [] rfl (Wanted.plain rfl) rfl rfl (.s 29 rfl (.s 29 rfl .nil)) (w_make (kd := kInt) (z := (0 : Int)) rfl el26 rfl gr3 z3 rfl c5199.1 c5199.2) ?_
    rintro _ _ ⟨v5200, rfl, rfl⟩
    refine WL.p rfl rfl rfl (.s 30 rfl .nil) (q_assign rfl) <| WL.nil <| QN.then_ <| W.seq <| W.region <| WL.p rfl rfl rfl (.s 7 rfl .nil) (q_move rfl) <| WL.p rfl rfl rfl (.s 0 rfl .nil) (q_move rfl) ?_
    obtain ⟨c5201, h⟩ := ite_n h
    refine WL.w [0] rfl (Wanted.plain rfl) rfl rfl (.s 31 rfl (.s 32 rfl .nil)) (w_copyO rfl el26 rfl c5201.1 c5201.2) ?_
    rintro _ _ ⟨rfl, rfl⟩
    refine WL.p rfl rfl rfl (.s 33 rfl .nil) (q_assign rfl) <| WL.nil <| QN.weaken (env' := [(8, _), (7, _)]) (.one rfl (.one rfl (.nil _))) <| QN.then_ <| W.seq <| W.block ?_
    refine W.loop2 (Γ := Unit) (fun (_ : Unit) (_ : (List Int)) (x8 : Int) => [(7, HdA v5200), (8, EqA (.int .i64 x8))]) (fun (_ : Unit) (x7 : (List Int)) (_ : Int) => [SlE 3 v5200 kInt x7]) h () (.one rfl (.one rfl (.nil _))) rfl (fun rec0 K0 next0 _ x7 x8 h => ?_)
    unfold slices_Repeat_int.b0 at h
    refine W.seq <| W.seq <| W.region <| WL.p rfl rfl rfl (.s 8 rfl .nil) (q_move rfl) <| WL.p rfl rfl rfl (.s 7 rfl .nil) (q_move rfl) <| WL.q (Wanted.plain rfl) rfl rfl (.s 35 rfl .nil) (q_lenO rfl elS26 (i := 0) rfl) <| WL.p rfl rfl rfl (.s 34 rfl (.s 36 rfl .nil)) (q_int rfl rfl) <| WL.nil <| QN.then_ ?_
    refine W.condP h rfl (fun hb5228 h => ?_) (fun hb5228 h => ?_)
    ·refine W.skip <| QN.then_ <| W.block <| W.drawK [(0, false), (1, false), (2, false), (3, true), (4, false), (5, false), (6, true)] [7, 8, 9] [[], [], [], [1, 2], [], [], [4, 5], [1, 2, 3, 4, 5, 6], [0, 1, 2, 3, 4, 5, 6, 7], [0, 1, 2, 3, 4, 5, 6, 7, 8]] mx (by kernel_rfl) <| DK.cons rfl rfl (.p rfl (.s 8 rfl .nil) rfl (q_move rfl)) <| DK.cons rfl rfl (.p rfl (.s 7 rfl .nil) rfl (q_move rfl)) <| DK.cons rfl rfl (.p rfl (.s 8 rfl .nil) rfl (q_move rfl)) ?_
     obtain ⟨c5237, h⟩ := ite_n h
     refine DK.cons rfl rfl (.o rfl (.s 39 rfl (.s 40 rfl .nil)) rfl (q_loO rfl el26 (j := 0) rfl c5237.1 c5237.2)) <| DK.cons rfl rfl (.p rfl (.s 7 rfl .nil) rfl (q_move rfl)) <| DK.cons rfl rfl (.p rfl (.s 8 rfl .nil) rfl (q_move rfl)) ?_
     obtain ⟨c5238, h⟩ := ite_n h
     refine DK.cons rfl rfl (.o rfl (.s 42 rfl (.s 43 rfl .nil)) rfl (q_hiO rfl el26 (j := 0) rfl c5238.1 c5238.2)) ?_
     obtain ⟨c5239, h⟩ := ite_n h
     obtain ⟨c5240, h⟩ := ite_n h
     refine DK.nil <| CSteps.w [0] rfl rfl rfl rfl (.s 41 rfl (.s 44 rfl .nil)) rfl (w_copyP rfl el26 rfl c5239.1 c5239.2) ?_
     rintro _ _ ⟨rfl, rfl⟩
     refine CSteps.p rfl rfl rfl (.s 38 rfl (.s 45 rfl .nil)) rfl (q_addR rfl c5240) <| CSteps.p rfl rfl rfl (.s 46 rfl .nil) rfl (q_assign rfl) <| CSteps.nil <| QN.block ?_
     exact next0 () (cpy x7 (x8 : Int).toNat (x7.take (min (x8 : Int).toNat (x7.length - (x8 : Int).toNat)))) (x8 + ((min (x8 : Int).toNat (x7.length - (x8 : Int).toNat)) : Nat)) _ h (.one rfl (.one rfl (.nil _)))
    ·refine W.exit <| QX.then_ <| QX.then_ <| QX.here <| QN.then_ <| W.seq <| W.region <| WL.p rfl rfl rfl (.s 7 rfl .nil) (q_move rfl) <| WL.p rfl rfl rfl (.s 47 rfl .nil) (q_assign rfl) <| WL.nil <| QN.weaken (env' := [(4, _)]) (.one rfl (.nil _)) <| QN.then_ <| W.ret ?_
     cases h
     exact QR.r1 rfl rfl (.t rfl) ⟨_, rfl, rfl⟩
  ·refine W.region <| WL.p rfl rfl rfl (.s 5 rfl .nil) (q_move rfl) <| WL.p rfl rfl rfl (.s 21 rfl (.k .nil)) (q_int rfl rfl) <| WL.p rfl rfl rfl (.s 22 rfl .nil) (q_move rfl) ?_
   rcases bif_s h with ⟨hb5241, h⟩ | ⟨hb5241, h⟩
   ·refine WL.skip (Unwanted.on rfl rfl rfl hb5241) rfl rfl <| WL.skip (Unwanted.on rfl rfl rfl hb5241) rfl rfl <| WL.p rfl rfl rfl (.s 23 rfl (.k .nil)) (q_pickT rfl hb5241) <| WL.nil ?_
    exact QN.weaken (.one rfl (.one rfl (.one rfl (.nil _)))) (Kj5196 () true h)
   ·refine WL.q (Wanted.on rfl rfl rfl hb5241) rfl rfl (.s 6 rfl .nil) (q_move rfl).o <| WL.q (Wanted.on rfl rfl rfl hb5241) rfl rfl (.s 24 rfl (.k .nil)) (q_int rfl rfl).o <| WL.p rfl rfl rfl (.s 23 rfl (.s 25 rfl .nil)) (q_pickF rfl hb5241) <| WL.nil ?_
    exact QN.weaken (.one rfl (.one rfl (.one rfl (.nil _)))) (Kj5196 () (decide (t5193.2 > 9223372036854775807)) h)
theorem difference_fresh.con (k : Nat) (a0 : Int) (r : (List (List Int))) (h : difference_fresh k a0 = some r) : Con Tryz.prog 92 [] [EqA (.int .i64 a0)] (RA (SlcA (kSl kInt) r)) := by
 unfold difference_fresh at h
 refine Con.of (N := 24) Tryz.func92 rfl rfl rfl fun w0_ fg_ => W.seq <| W.region <| WL.p rfl rfl rfl (.k .nil) (q_assign rfl) <| WL.nil <| QN.then_ <| W.seq <| W.region <| WL.p rfl rfl rfl (.k .nil) (q_assign rfl) <| WL.nil <| QN.then_ <| W.seq <| W.seq ?_
 refine W.region <| WL.p rfl rfl rfl (.s 0 rfl .nil) (q_move rfl) ?_
 obtain ⟨c5247, h⟩ := ite_n h
 refine WL.p rfl rfl rfl (.s 6 rfl (.k .nil)) (q_addR rfl c5247) <| WL.p rfl rfl rfl (.k .nil) (q_move rfl) <| WL.nil <| QN.then_ <| W.block <| W.to (StTo.newNil 26 (kSl kInt)) <| W.to (StTo.as 3 rfl Imp.nilHd) ?_
 refine W.loop2 (Γ := Value) (fun (g0 : Value) (_ : (List (List Int))) (x8 : Int) => [(0, EqA (.int .i64 a0)), (3, HdA g0), (7, EqA (.int .i64 (a0 + 1))), (8, EqA (.int .i64 x8))]) (fun (g0 : Value) (x3 : (List (List Int))) (_ : Int) => [SlE 26 g0 (kSl kInt) x3]) h (.slice none 0 0) (.one rfl (.one rfl (.one rfl (.one rfl (.nil _))))) rfl (fun rec0 K0 next0 g0 x3 x8 h => ?_)
 unfold difference_fresh.b0 at h
 refine W.seq <| W.region <| WL.p rfl rfl rfl (.s 8 rfl (.s 7 rfl .nil)) (q_int rfl rfl) <| WL.nil <| QN.then_ <| W.seq ?_
 refine W.condP h rfl (fun hb5271 h => ?_) (fun hb5271 h => ?_)
 ·refine W.skip <| QN.then_ <| W.seq <| W.block <| W.seq <| W.region <| WL.p rfl rfl rfl (.s 8 rfl .nil) (q_move rfl) <| WL.p rfl rfl rfl (.s 10 rfl .nil) (q_assign rfl) <| WL.nil <| QN.then_ <| W.seq <| W.region <| WL.p rfl rfl rfl (.k .nil) (q_lit (kd := kInt) (ps := [(0, .const (.int .i64 1125899906842624))]) (xs := [.const (.int .i64 1125899906842624)]) («as» := [EqA (.int .i64 1125899906842624)]) (ys := [1125899906842624]) rfl rfl el26 rfl gr3 rfl rfl rfl (.cons (CellsOf.one rfl) .nil)) ?_
  refine WL.p rfl rfl rfl (.s 0 rfl .nil) (q_move rfl) ?_
  obtain ⟨c5272, h⟩ := ite_n h
  refine WL.p rfl rfl rfl (.s 12 rfl (.k .nil)) (q_addR rfl c5272) ?_
  obtain ⟨t5273, ht5273, h⟩ := bind_s h
  refine WL.w [] rfl (Wanted.plain rfl) rfl rfl (.s 11 rfl (.s 13 rfl .nil)) (w_callI (f := 142) (xs := [.tmp 11, .tmp 13]) («as» := [SlcA kInt [1125899906842624], EqA (.int .i64 (a0 + 1))]) rfl ca142 (slices_Repeat_int.con k [1125899906842624] (a0 + 1) t5273 ht5273) rfl (.cons (Imp.id _) (.cons (Imp.id _) .nil))) ?_
  rintro _ _ ⟨v5274, rfl, rfl⟩
  refine WL.p rfl rfl rfl (.s 14 rfl .nil) (q_assign rfl) <| WL.nil <| QN.then_ <| W.seq <| W.region <| WL.p rfl rfl rfl (.s 5 rfl .nil) (q_move rfl) <| WL.p rfl rfl rfl (.s 4 rfl .nil) (q_move rfl) ?_
  obtain ⟨c5275, h⟩ := ite_n h
  refine WL.q (Wanted.plain rfl) rfl rfl (.s 15 rfl (.s 16 rfl .nil)) (q_indexO rfl el26 (j := 0) rfl c5275.1 c5275.2) <| WL.w0 [0] rfl (Wanted.plain rfl) rfl (.s 17 rfl (.k .nil)) (w_storeEl (kd := kInt) (z := 0) rfl sh3 (CellsOf.one rfl) rfl rfl rfl c5275.1 c5275.2 rfl rfl) ?_
  rintro _ _ ⟨rfl, rfl⟩
  refine WL.nil <| QN.weaken (env' := [(5, _), (8, _), (7, _), (3, _), (0, _)]) (.one rfl (.one rfl (.one rfl (.one rfl (.one rfl (.nil _)))))) <| QN.then_ <| W.region <| WL.p rfl rfl rfl (.s 3 rfl .nil) (q_move rfl) <| WL.p rfl rfl rfl (.s 5 rfl .nil) (q_move rfl) <| WL.to (StTo.freeze [0] 19 rfl rfl) <| WL.p rfl rfl rfl (.s 19 rfl .nil) (q_lit (kd := (kSl kInt)) (ps := [(0, .tmp 19)]) (xs := [.tmp 19]) («as» := [SlcA kInt (t5273.set (x8 : Int).toNat 0)]) (ys := [(t5273.set (x8 : Int).toNat 0)]) rfl rfl el149 rfl gr26 rfl rfl rfl (.cons (CellsOf.one rfl) .nil)) ?_
  obtain ⟨c5276, h⟩ := ite_n h
  refine WL.w [0] rfl (Wanted.plain rfl) rfl rfl (.s 18 rfl (.s 20 rfl .nil)) (w_append (kd := (kSl kInt)) rfl el149 rfl gr26 c5276) ?_
  rintro _ _ ⟨v5277, rfl, rfl⟩
  refine WL.p rfl rfl rfl (.s 21 rfl .nil) (q_assign rfl) <| WL.nil <| QN.block <| QN.then_ <| W.region ?_
  obtain ⟨c5278, h⟩ := ite_n h
  refine WL.p rfl rfl rfl (.s 8 rfl (.k .nil)) (q_addR rfl c5278) <| WL.p rfl rfl rfl (.s 22 rfl .nil) (q_move rfl) <| WL.nil ?_
  exact next0 v5277 (x3 ++ [(t5273.set (x8 : Int).toNat 0)]) (x8 + 1) _ h (.one rfl (.one rfl (.one rfl (.one rfl (.nil _)))))
 ·refine W.exit <| QX.then_ <| QX.then_ <| QX.here <| QN.then_ <| W.seq <| W.region <| WL.p rfl rfl rfl (.s 3 rfl .nil) (q_move rfl) <| WL.p rfl rfl rfl (.s 23 rfl .nil) (q_assign rfl) <| WL.nil <| QN.then_ <| W.ret ?_
  cases h
  exact QR.f1 rfl rfl (.t rfl) (.slc 0 rfl)
theorem difference_closed.con (k : Nat) (a0 : (List (List Int))) (r : Bool) (h : difference_closed k a0 = some r) : Con Tryz.prog 93 [] [SlcA (kSl kInt) a0] (RA (EqA (.bool r))) := by
 unfold difference_closed at h
 refine Con.of (N := 18) Tryz.func93 rfl rfl rfl fun w0_ fg_ => W.seq <| W.region <| WL.p rfl rfl rfl (.k .nil) (q_assign rfl) <| WL.nil <| QN.then_ <| W.seq <| W.seq <| W.region <| WL.p rfl rfl rfl (.s 0 rfl .nil) (q_move rfl) <| WL.p rfl rfl rfl (.s 4 rfl .nil) (q_len rfl elS149) <| WL.p rfl rfl rfl (.k .nil) (q_move rfl) <| WL.nil ?_
 refine QN.then_ <| W.block ?_
 refine W.loop1 (Γ := Unit) (fun (_ : Unit) (x6 : Int) => [(0, SlcA (kSl kInt) a0), (5, EqA (.int .i64 (a0.length : Int))), (6, EqA (.int .i64 x6))]) (fun (_ : Unit) (_ : Int) => []) h () (.one rfl (.one rfl (.one rfl (.nil _)))) rfl (fun rec0 K0 next0 _ x6 h => ?_)
 unfold difference_closed.b0 at h
 refine W.seq <| W.region <| WL.p rfl rfl rfl (.s 6 rfl (.s 5 rfl .nil)) (q_int rfl rfl) <| WL.nil <| QN.then_ <| W.seq ?_
 refine W.condP h rfl (fun hb5289 h => ?_) (fun hb5289 h => ?_)
 ·refine W.skip <| QN.then_ <| W.seq <| W.block <| W.seq <| W.region <| WL.p rfl rfl rfl (.s 6 rfl .nil) (q_move rfl) <| WL.p rfl rfl rfl (.s 8 rfl .nil) (q_assign rfl) <| WL.nil <| QN.then_ <| W.seq <| W.region <| WL.p rfl rfl rfl (.s 0 rfl .nil) (q_move rfl) ?_
  refine WL.p rfl rfl rfl (.s 3 rfl .nil) (q_move rfl) ?_
  obtain ⟨c5290, h⟩ := ite_n h
  refine WL.p rfl rfl rfl (.s 9 rfl (.s 10 rfl .nil)) (q_index rfl el149 rfl c5290.1 c5290.2) <| WL.p rfl rfl rfl (.s 11 rfl .nil) (q_load rfl sh26) <| WL.p rfl rfl rfl (.s 3 rfl .nil) (q_move rfl) ?_
  obtain ⟨c5291, h⟩ := ite_n h
  refine WL.p rfl rfl rfl (.s 12 rfl (.s 13 rfl .nil)) (q_index rfl el26 rfl c5291.1 c5291.2) <| WL.p rfl rfl rfl (.s 14 rfl .nil) (q_load rfl sh3) <| WL.p rfl rfl rfl (.s 15 rfl (.k .nil)) (q_int rfl rfl) <| WL.nil <| QN.weaken (env' := [(16, _), (6, _), (5, _), (0, _)]) (.one rfl (.one rfl (.one rfl (.one rfl (.nil _))))) <| QN.then_ ?_
  refine W.condP h rfl (fun hb5292 h => ?_) (fun hb5292 h => ?_)
  ·refine W.seq <| W.region <| WL.p rfl rfl rfl (.k .nil) (q_assign rfl) <| WL.nil <| QN.then_ <| W.ret <| QR.block <| QR.then_ <| QR.then_ <| QR.block <| QR.then_ ?_
   cases h
   exact QR.f1 rfl rfl (.t rfl) (.id _)
  ·refine W.skip <| QN.block <| QN.then_ <| W.region ?_
   obtain ⟨c5293, h⟩ := ite_n h
   refine WL.p rfl rfl rfl (.s 6 rfl (.k .nil)) (q_addR rfl c5293) <| WL.p rfl rfl rfl (.s 17 rfl .nil) (q_move rfl) <| WL.nil ?_
   exact next0 () (x6 + 1) _ h (.one rfl (.one rfl (.one rfl (.nil _))))
 ·refine W.exit <| QX.then_ <| QX.then_ <| QX.here <| QN.then_ <| W.seq <| W.region <| WL.p rfl rfl rfl (.k .nil) (q_assign rfl) <| WL.nil <| QN.then_ <| W.ret ?_
  cases h
  exact QR.f1 rfl rfl (.t rfl) (.id _)
end Go.Proofs.YtcgdfjpeboiioaaGreat
