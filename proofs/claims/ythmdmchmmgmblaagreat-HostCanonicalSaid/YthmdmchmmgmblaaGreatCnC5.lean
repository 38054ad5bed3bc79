/- The Go functions compute the pure ones. (Printed by gen.py.) -/
import Derived.Test.YthmdmchmmgmblaaGreatCnC4
namespace Go.Proofs.YthmdmchmmgmblaaGreat
open Go Go.Abs
attribute [local irreducible] Tryz.prog
theorem host_Canonical.con (k : Nat) (a0 : Types) (a1 : Host) (r : (Host × Morphism × Int)) (h : host_Canonical k a0 a1 = some r) : Con Tryz.prog 20 [] [AggA [SlcA kNodeType a0.fNodes, SlcA kEdgeType a0.fEdges], AggA [SlcA kInt a1.fGraph.fNodes, SlcA kEdge a1.fGraph.fEdges, SlcA (kSl kInt) a1.fValues]] (RA (TupA [AggA [SlcA kInt r.1.fGraph.fNodes, SlcA kEdge r.1.fGraph.fEdges, SlcA (kSl kInt) r.1.fValues], AggA [SlcA kInt r.2.1.fNodes, SlcA kInt r.2.1.fEdges], iA r.2.2])) := by
 unfold host_Canonical at h
 refine Con.of (N := 135) Tryz.func20 rfl rfl rfl fun w0_ fg_ => sr <| p1 rfl 0 rfl (q_box rfl (CellsOf.agg _)) <| p1 rfl 1 rfl (q_box rfl (CellsOf.agg _)) <| WL.w [] rfl (Wanted.plain rfl) rfl rfl .nil (w_alloc rfl z32 (l := [EqA (.slice none 0 0), EqA (.slice none 0 0), EqA (.slice none 0 0)]) rfl) ?_
 rintro _ _ ⟨b100, rfl, rfl⟩
 refine WL.w [] rfl (Wanted.plain rfl) rfl rfl .nil (w_alloc rfl z47 (l := [EqA (.slice none 0 0), EqA (.slice none 0 0)]) rfl) ?_
 rintro _ _ ⟨b101, rfl, rfl⟩
 refine ak rfl <| nt <| W.seq <| sr <| lS rfl rfl sh25 rfl rfl <| lS rfl rfl sh32 rfl rfl ?_
 obtain ⟨t102, ht102, h⟩ := bind_s h
 refine p2 rfl 16 rfl 17 rfl (q_call (f := 54) (A := iA t102) (xs := [.tmp 16, .tmp 17]) («as» := [AggA [SlcA kNodeType a0.fNodes, SlcA kEdgeType a0.fEdges], AggA [SlcA kInt a1.fGraph.fNodes, SlcA kEdge a1.fGraph.fEdges, SlcA (kSl kInt) a1.fValues]]) rfl ca54 (host_valid.con k a0 a1 t102 ht102) rfl) <| av rfl rfl <| WL.nil <| QN.weaken (env' := [(7, _), (5, _), (4, _), (3, _)]) (.o4 rfl (.nil _)) <| QN.then_ <| sr <| mv rfl rfl <| pk rfl 19 rfl (q_int rfl rfl) <| nt ?_
 refine W.condP h rfl (fun hb103 h => ?_) (fun hb103 h => ?_)
 ·refine sr <| WL.p rfl rfl rfl .nil (q_build (is := []) (xs := []) (L := [EqA (.slice none 0 0), EqA (.slice none 0 0), EqA (.slice none 0 0)]) rfl rfl z32 pl32 rfl rfl .nil rfl) <| WL.p rfl rfl rfl .nil (q_build (is := []) (xs := []) (L := [EqA (.slice none 0 0), EqA (.slice none 0 0)]) rfl rfl z47 pl47 rfl rfl .nil rfl) <| mv rfl rfl <| WL.w0 [1] rfl (Wanted.plain rfl) rfl (.s 4 rfl (.s 21 rfl .nil)) (w_store (L := [EqA (.slice none 0 0), EqA (.slice none 0 0), EqA (.slice none 0 0)]) rfl sh32 (CellsOf.agg _) rfl rfl (leB rfl) rfl) ?_
  rintro _ _ ⟨rfl, rfl⟩
  refine WL.w0 [1] rfl (Wanted.plain rfl) rfl (.s 5 rfl (.s 22 rfl .nil)) (w_store (L := [EqA (.slice none 0 0), EqA (.slice none 0 0)]) rfl sh47 (CellsOf.agg _) rfl rfl (leB rfl) rfl) ?_
  rintro _ _ ⟨rfl, rfl⟩
  refine av rfl rfl <| WL.nil <| QN.weaken (env' := [(6, _), (5, _), (4, _)]) (.o2 rfl (.one rfl (.nil _))) <| QN.then_ <| W.ret <| QR.then_ ?_
  cases h
  exact QR.f3 rfl rfl (.cs (i := 1) rfl sh32 rfl rfl) (.cs (i := 0) rfl sh47 rfl rfl) (.t rfl) (.imp (Imp.tup (.cons (Imp.agg (.cons (Imp.nil kInt) (.cons (Imp.nil kEdge) (.cons (Imp.nil (kSl kInt)) .nil)))) (.cons (Imp.agg (.cons (Imp.nil kInt) (.cons (Imp.nil kInt) .nil))) (.cons (Imp.id _) .nil)))))
 ·refine W.skip <| QN.then_ <| W.seq <| sr <| fd rfl rfl fo32_0 rfl <| fd rfl rfl fo29_0 rfl <| ld rfl rfl sh26 <| p1 rfl 26 rfl (q_len rfl elS26) <| pk rfl 27 rfl (q_int rfl rfl) <| WL.nil <| QN.weaken (env' := [(28, _), (5, _), (4, _), (3, _)]) (.o4 rfl (.nil _)) <| QN.then_ ?_
  refine W.condP h rfl (fun hb104 h => ?_) (fun hb104 h => ?_)
  ·refine sr <| WL.p rfl rfl rfl .nil (q_build (is := []) (xs := []) (L := [EqA (.slice none 0 0), EqA (.slice none 0 0), EqA (.slice none 0 0)]) rfl rfl z32 pl32 rfl rfl .nil rfl) <| WL.p rfl rfl rfl .nil (q_build (is := []) (xs := []) (L := [EqA (.slice none 0 0), EqA (.slice none 0 0)]) rfl rfl z47 pl47 rfl rfl .nil rfl) <| WL.w0 [1] rfl (Wanted.plain rfl) rfl (.s 4 rfl (.s 29 rfl .nil)) (w_store (L := [EqA (.slice none 0 0), EqA (.slice none 0 0), EqA (.slice none 0 0)]) rfl sh32 (CellsOf.agg _) rfl rfl (leB rfl) rfl) ?_
   rintro _ _ ⟨rfl, rfl⟩
   refine WL.w0 [1] rfl (Wanted.plain rfl) rfl (.s 5 rfl (.s 30 rfl .nil)) (w_store (L := [EqA (.slice none 0 0), EqA (.slice none 0 0)]) rfl sh47 (CellsOf.agg _) rfl rfl (leB rfl) rfl) ?_
   rintro _ _ ⟨rfl, rfl⟩
   refine ak rfl <| nt <| W.ret <| QR.then_ ?_
   cases h
   exact QR.f3 rfl rfl (.cs (i := 1) rfl sh32 rfl rfl) (.cs (i := 0) rfl sh47 rfl rfl) (.t rfl) (.imp (Imp.tup (.cons (Imp.agg (.cons (Imp.nil kInt) (.cons (Imp.nil kEdge) (.cons (Imp.nil (kSl kInt)) .nil)))) (.cons (Imp.agg (.cons (Imp.nil kInt) (.cons (Imp.nil kInt) .nil))) (.cons (Imp.id _) .nil)))))
  ·refine W.skip <| QN.then_ <| sr <| lS rfl rfl sh32 rfl rfl <| p1 rfl 31 rfl (q_build (is := [0]) (xs := [.tmp 31]) (L := [SlcA kInt a1.fGraph.fNodes, SlcA kEdge a1.fGraph.fEdges, SlcA (kSl kInt) a1.fValues, EqA (.slice none 0 0), EqA (.slice none 0 0), EqA (.slice none 0 0), EqA (.slice none 0 0), bA false]) rfl rfl z107 pl107 rfl rfl (.cons (CellsOf.agg _) .nil) rfl) <| WL.w [] rfl (Wanted.plain rfl) rfl rfl (.s 32 rfl .nil) (w_box rfl (CellsOf.agg _)) ?_
   rintro _ _ ⟨b105, rfl, rfl⟩
   refine av rfl rfl <| nx <| mv rfl rfl ?_
   obtain ⟨t106, ht106, h⟩ := bind_s h
   refine WL.to (StTo.boxImp [0] rfl (.cons (Imp.id _) (.cons (Imp.id _) (.cons (Imp.id _) (.cons (Imp.nil kInt) (.cons (Imp.nil kInt) (.cons (Imp.nil kInt) (.cons (Imp.nil kInt) (.cons (Imp.id _) .nil))))))))) <| WL.w [0] rfl (Wanted.plain rfl) rfl rfl (.s 34 rfl .nil) (w_callI (f := 58) (xs := [.tmp 34]) («as» := [EqA (.pointer (some ⟨b105, 0, none⟩))]) rfl ca58 (host_canon_search.con k b105 (Canon.mk a1 [] [] [] [] false) t106 ht106) rfl (.cons (Imp.id _) .nil)) ?_
   rintro _ _ ⟨rfl, rfl⟩
   refine nx <| WL.w [] rfl (Wanted.plain rfl) rfl rfl .nil (w_alloc rfl z32 (l := [EqA (.slice none 0 0), EqA (.slice none 0 0), EqA (.slice none 0 0)]) rfl) ?_
   rintro _ _ ⟨b107, rfl, rfl⟩
   refine nt <| W.seq ?_
   refine W.jn0 (Γ := (Value × Value)) (fun (g118 : (Value × Value)) => [(3, PtrA [SlcA kInt a1.fGraph.fNodes, SlcA kEdge a1.fGraph.fEdges, SlcA (kSl kInt) a1.fValues]), (4, EqA (.pointer (some ⟨b100, 0, none⟩))), (5, EqA (.pointer (some ⟨b101, 0, none⟩))), (8, EqA (.pointer (some ⟨b105, 0, none⟩))), (9, EqA (.pointer (some ⟨b107, 0, none⟩))), (10, PtrA [HdA g118.1, HdA g118.2])]) (fun (g118 : (Value × Value)) => [BoxE b100 [EqA (.slice none 0 0), EqA (.slice none 0 0), EqA (.slice none 0 0)], BoxE b101 [EqA (.slice none 0 0), EqA (.slice none 0 0)], BoxE b105 [SlcA kInt a1.fGraph.fNodes, SlcA kEdge a1.fGraph.fEdges, SlcA (kSl kInt) a1.fValues, SlcA kInt t106.1, SlcA kInt t106.2.1, SlcA kInt t106.2.2.1, SlcA kInt t106.2.2.2.1, bA t106.2.2.2.2], BoxE b107 [EqA (.slice none 0 0), EqA (.slice none 0 0), EqA (.slice none 0 0)], SlE 3 g118.1 kInt (List.replicate ((t106.2.2.1.length : Int) : Int).toNat (0 : Int)), SlE 3 g118.2 kInt (List.replicate ((a1.fGraph.fEdges.length : Int) : Int).toNat (0 : Int))]) h (fun g118 h => ?_) (fun j123 Kj123 h => ?_)
   ·refine QN.then_ <| W.seq <| sr <| mv rfl rfl <| p1 rfl 48 rfl (q_nilCheckP rfl) <| p1 rfl 49 rfl (q_fieldP rfl fo107_3) <| WL.q (Wanted.plain rfl) rfl rfl (.s 50 rfl .nil) (q_loadB rfl sh26 (i := 2) rfl rfl) <| p1 rfl 51 rfl (q_len rfl elS26) <| mk_ rfl <| nt <| W.block ?_
    refine W.to (StTo.boxImp [3] rfl (.cons Imp.nilHd (.cons (Imp.id _) (.cons (Imp.id _) .nil)))) <| W.to (StTo.newNil 3 kInt) <| W.to (StTo.boxImp [1] rfl (.cons (Imp.id _) (.cons (Imp.id _) (.cons Imp.nilHd .nil)))) <| W.to (StTo.newNil 26 (kSl kInt)) <| W.drop [5] rfl <| W.order [3, 3, 1, 1, 0, 0, 0] rfl ?_
    refine W.loop4 (Γ := (Value × Value)) (fun (_ : (Value × Value)) (_ : (List Int)) (_ : (List (List Int))) (_ : (List Int)) (x53 : Int) => [(3, PtrA [SlcA kInt a1.fGraph.fNodes, SlcA kEdge a1.fGraph.fEdges, SlcA (kSl kInt) a1.fValues]), (4, EqA (.pointer (some ⟨b100, 0, none⟩))), (5, EqA (.pointer (some ⟨b101, 0, none⟩))), (9, EqA (.pointer (some ⟨b107, 0, none⟩))), (10, PtrA [HdA g118.1, HdA g118.2]), (51, SlcA kInt t106.2.2.1), (52, iA (t106.2.2.1.length : Int)), (53, iA x53)]) (fun (g0 : (Value × Value)) (y0 : (List Int)) (y2 : (List (List Int))) (x10_0 : (List Int)) (_ : Int) => [BoxE b100 [EqA (.slice none 0 0), EqA (.slice none 0 0), EqA (.slice none 0 0)], BoxE b101 [EqA (.slice none 0 0), EqA (.slice none 0 0)], BoxE b107 [HdA g0.1, EqA (.slice none 0 0), HdA g0.2], SlE 3 g0.1 kInt y0, SlE 26 g0.2 (kSl kInt) y2, SlE 3 g118.1 kInt x10_0, SlE 3 g118.2 kInt (List.replicate ((a1.fGraph.fEdges.length : Int) : Int).toNat (0 : Int))]) h ((.slice none 0 0), (.slice none 0 0)) (.o4 rfl (.o4 rfl (.nil _))) rfl (fun rec0 K0 next0 g0 y0 y2 x10_0 x53 h => ?_)
    unfold host_Canonical.b0 at h
    refine sr <| p2 rfl 53 rfl 52 rfl (q_int rfl rfl) <| nt <| W.seq ?_
    refine W.condP h rfl (fun hb313 h => ?_) (fun hb313 h => ?_)
    ·refine W.skip <| QN.then_ <| W.seq <| W.block <| sr <| mv rfl rfl ?_
     obtain ⟨c314, h⟩ := ite_n h
     refine p2 rfl 51 rfl 53 rfl (q_index rfl el26 rfl c314.1 c314.2) <| ld rfl rfl sh3 <| av rfl rfl <| av rfl rfl <| nx <| fd rfl rfl fo47_0 rfl <| ld rfl rfl sh26 <| mv rfl rfl <| mv rfl rfl ?_
     obtain ⟨c315, h⟩ := ite_n h
     refine WL.q (Wanted.plain rfl) rfl rfl (.s 59 rfl (.s 60 rfl .nil)) (q_indexO rfl el26 (j := 5) rfl c315.1 c315.2) <| WL.w0 [5] rfl (Wanted.plain rfl) rfl (.s 62 rfl (.s 61 rfl .nil)) (w_storeEl (kd := kInt) (z := x53) rfl sh3 (CellsOf.one rfl) rfl rfl rfl c315.1 c315.2 rfl rfl) ?_
     rintro _ _ ⟨rfl, rfl⟩
     refine WL.nil <| QN.weaken (env' := [(12, _), (53, _), (52, _), (51, _), (10, _), (9, _), (5, _), (4, _), (3, _)]) (.o4 rfl (.o4 rfl (.one rfl (.nil _)))) <| QN.then_ <| W.seq <| W.drawK [(0, false), (1, false), (2, true), (3, false), (4, false), (5, false), (6, false), (7, false), (8, false), (9, false)] [10, 11, 12, 13] (bm [0, 1, 3, 0, 8, 24, 0, 120, 248, 504, 1023, 2047, 4095, 8191]) mx (by kernel_rfl) <| DK.cons rfl rfl (.p rfl (.s 9 rfl .nil) rfl (q_fieldP rfl fo32_0)) <| DK.cons rfl rfl (.p rfl (.s 63 rfl .nil) rfl (q_fieldP rfl fo29_0)) <| DK.cons rfl rfl (.o rfl (.s 64 rfl .nil) rfl (q_loadB rfl sh26 (i := 3) rfl rfl)) <| df rfl rfl rfl fo32_0 rfl <| df rfl rfl rfl fo29_0 rfl <| dl rfl rfl rfl sh26 <| dm rfl rfl rfl ?_
     obtain ⟨c322, h⟩ := ite_n h
     refine DK.cons rfl rfl (.p rfl (.s 68 rfl (.s 69 rfl .nil)) rfl (q_index rfl el26 rfl c322.1 c322.2)) <| dl rfl rfl rfl sh3 <| DK.cons rfl rfl (.p rfl (.s 71 rfl .nil) rfl (q_lit (kd := kInt) (ps := [(0, .tmp 71)]) (xs := [.tmp 71]) («as» := [iA (rd a1.fGraph.fNodes (rd t106.2.2.1 x53))]) (ys := [(rd a1.fGraph.fNodes (rd t106.2.2.1 x53))]) rfl rfl el26 rfl gr3 rfl rfl rfl (.cons (CellsOf.one rfl) .nil))) ?_
     obtain ⟨c323, h⟩ := ite_n h
     refine DK.nil <| CSteps.w [4] rfl rfl rfl rfl (.s 65 rfl (.s 72 rfl .nil)) rfl (w_append (kd := kInt) rfl el26 rfl gr3 c323) ?_
     rintro _ _ ⟨v324, rfl, rfl⟩
     refine CSteps.p rfl rfl rfl (.s 9 rfl .nil) rfl (q_fieldP rfl fo32_0) <| CSteps.p rfl rfl rfl (.s 74 rfl .nil) rfl (q_fieldP rfl fo29_0) <| CSteps.w0 [4] rfl rfl rfl (.s 75 rfl (.s 73 rfl .nil)) rfl (w_store (L := [HdA v324, EqA (.slice none 0 0), HdA g0.2]) rfl sh26 (CellsOf.one rfl) rfl rfl (leB rfl) rfl) ?_
     rintro _ _ ⟨rfl, rfl⟩
     refine CSteps.nil <| QN.weaken (env' := [(12, _), (53, _), (52, _), (51, _), (10, _), (9, _), (5, _), (4, _), (3, _)]) (.o4 rfl (.o4 rfl (.one rfl (.nil _)))) <| QN.then_ <| W.drawK [(0, false), (1, true), (2, false), (3, false), (4, false), (5, false), (6, false), (7, false), (8, false)] [9, 10, 11] (bm [0, 1, 0, 4, 0, 28, 60, 124, 252, 511, 1023, 2047]) mx (by kernel_rfl) <| DK.cons rfl rfl (.p rfl (.s 9 rfl .nil) rfl (q_fieldP rfl fo32_1)) <| DK.cons rfl rfl (.o rfl (.s 76 rfl .nil) rfl (q_loadB rfl sh30 (i := 0) rfl rfl)) <| df rfl rfl rfl fo32_1 rfl <| dl rfl rfl rfl sh30 <| dm rfl rfl rfl ?_
     obtain ⟨c333, h⟩ := ite_n h
     refine DK.cons rfl rfl (.p rfl (.s 79 rfl (.s 80 rfl .nil)) rfl (q_index rfl el30 rfl c333.1 c333.2)) <| dl rfl rfl rfl sh26 ?_
     obtain ⟨t334, ht334, h⟩ := bind_s h
     refine DK.cons rfl rfl (.p rfl (.s 82 rfl .nil) rfl (q_call (f := 59) (A := SlcA kInt t334) (xs := [.tmp 82]) («as» := [SlcA kInt (rd a1.fValues (rd t106.2.2.1 x53))]) rfl ca59 (slices_Clone_int.con k (rd a1.fValues (rd t106.2.2.1 x53)) t334 ht334) rfl)) <| DK.cons rfl rfl (.p rfl (.s 83 rfl .nil) rfl (q_lit (kd := (kSl kInt)) (ps := [(0, .tmp 83)]) (xs := [.tmp 83]) («as» := [SlcA kInt t334]) (ys := [t334]) rfl rfl el30 rfl gr26 rfl rfl rfl (.cons (CellsOf.one rfl) .nil))) ?_
     obtain ⟨c335, h⟩ := ite_n h
     refine DK.nil <| CSteps.w [5] rfl rfl rfl rfl (.s 77 rfl (.s 84 rfl .nil)) rfl (w_append (kd := (kSl kInt)) rfl el30 rfl gr26 c335) ?_
     rintro _ _ ⟨v336, rfl, rfl⟩
     refine CSteps.p rfl rfl rfl (.s 9 rfl .nil) rfl (q_fieldP rfl fo32_1) <| CSteps.w0 [1] rfl rfl rfl (.s 86 rfl (.s 85 rfl .nil)) rfl (w_store (L := [HdA v324, EqA (.slice none 0 0), HdA v336]) rfl sh30 (CellsOf.one rfl) rfl rfl (leB rfl) rfl) ?_
     rintro _ _ ⟨rfl, rfl⟩
     refine CSteps.nil <| QN.block <| QN.weaken (env' := [(53, _), (52, _), (51, _), (10, _), (9, _), (5, _), (4, _), (3, _)]) (.o4 rfl (.o4 rfl (.nil _))) <| QN.then_ <| W.region ?_
     obtain ⟨c337, h⟩ := ite_n h
     refine pk rfl 53 rfl (q_addR rfl c337) <| mv rfl rfl <| WL.nil <| QN.order [4, 4, 0, 1, 0, 0, 0] rfl ?_
     exact next0 (v324, v336) (y0 ++ [(rd a1.fGraph.fNodes (rd t106.2.2.1 x53))]) (y2 ++ [t334]) (x10_0.set ((rd t106.2.2.1 x53) : Int).toNat x53) (x53 + 1) _ h (.o4 rfl (.o4 rfl (.nil _)))
    ·refine W.exit <| QX.then_ <| QX.then_ <| QX.here <| QN.then_ <| W.seq <| sr <| fd rfl rfl fo32_0 rfl <| lS rfl rfl sh29 rfl rfl <| fd rfl rfl fo47_0 rfl <| ld rfl rfl sh26 ?_
     obtain ⟨t338, ht338, h⟩ := bind_s h
     refine WL.q (Wanted.plain rfl) rfl rfl (.s 89 rfl (.s 91 rfl .nil)) (q_lendNew (f := 60) (xs := [.tmp 89, .tmp 91]) («as» := [AggA [SlcA kInt a1.fGraph.fNodes, SlcA kEdge a1.fGraph.fEdges], HdA g118.1]) rfl ca60 (host_listedEdges.con k a1.fGraph x10_0 t338 ht338) rfl (.cons (.id _) (.cons (.slc 5 rfl) .nil)) kIntFlat) <| p1 rfl 92 rfl (q_len rfl elS26) <| mk_ rfl <| WL.nil <| QN.weaken (env' := [(94, _), (93, _), (92, _), (10, _), (9, _), (5, _), (4, _), (3, _)]) (.o4 rfl (.o4 rfl (.nil _))) <| QN.then_ <| W.block <| W.to (StTo.boxImp [2] rfl (.cons (Imp.id _) (.cons Imp.nilHd (.cons (Imp.id _) .nil)))) <| W.to (StTo.newNil 63 kEdge) <| W.order [2, 2, 1, 1, 0, 0, 0, 0] rfl ?_
     refine W.loop3 (Γ := Value) (fun (_ : Value) (_ : (List Edge)) (_ : (List Int)) (x94 : Int) => [(3, PtrA [SlcA kInt a1.fGraph.fNodes, SlcA kEdge a1.fGraph.fEdges, SlcA (kSl kInt) a1.fValues]), (4, EqA (.pointer (some ⟨b100, 0, none⟩))), (5, EqA (.pointer (some ⟨b101, 0, none⟩))), (9, EqA (.pointer (some ⟨b107, 0, none⟩))), (10, PtrA [HdA g118.1, HdA g118.2]), (92, SlcA kInt t338), (93, iA (t338.length : Int)), (94, iA x94)]) (fun (g1 : Value) (y1 : (List Edge)) (x10_1 : (List Int)) (_ : Int) => [BoxE b100 [EqA (.slice none 0 0), EqA (.slice none 0 0), EqA (.slice none 0 0)], BoxE b101 [EqA (.slice none 0 0), EqA (.slice none 0 0)], BoxE b107 [HdA g0.1, HdA g1, HdA g0.2], SlE 3 g0.1 kInt y0, SlE 63 g1 kEdge y1, SlE 26 g0.2 (kSl kInt) y2, SlE 3 g118.1 kInt x10_0, SlE 3 g118.2 kInt x10_1]) h (.slice none 0 0) (.o4 rfl (.o4 rfl (.nil _))) rfl (fun rec1 K1 next1 g1 y1 x10_1 x94 h => ?_)
     unfold host_Canonical.b1 at h
     refine sr <| p2 rfl 94 rfl 93 rfl (q_int rfl rfl) <| nt <| W.seq ?_
     refine W.condP h rfl (fun hb382 h => ?_) (fun hb382 h => ?_)
     ·refine W.skip <| QN.then_ <| W.seq <| W.block <| sr <| mv rfl rfl ?_
      obtain ⟨c383, h⟩ := ite_n h
      refine p2 rfl 92 rfl 94 rfl (q_index rfl el26 rfl c383.1 c383.2) <| ld rfl rfl sh3 <| av rfl rfl <| av rfl rfl <| nx <| fd rfl rfl fo32_0 rfl <| fd rfl rfl fo29_1 rfl <| ld rfl rfl sh27 <| mv rfl rfl ?_
      obtain ⟨c384, h⟩ := ite_n h
      refine p2 rfl 101 rfl 102 rfl (q_index rfl el27 rfl c384.1 c384.2) <| lS rfl rfl sh63 rfl rfl <| WL.w [] rfl (Wanted.plain rfl) rfl rfl .nil (w_alloc rfl z63 (l := [iA 0, iA 0, iA 0]) rfl) ?_
      rintro _ _ ⟨b385, rfl, rfl⟩
      refine WL.w0 [0] rfl (Wanted.plain rfl) rfl (.s 15 rfl (.s 104 rfl .nil)) (w_store (L := [iA ((rd a1.fGraph.fEdges (rd t338 x94)).fType), iA ((rd a1.fGraph.fEdges (rd t338 x94)).fFrom), iA ((rd a1.fGraph.fEdges (rd t338 x94)).fTo)]) rfl sh63 (CellsOf.agg _) rfl rfl (leB rfl) rfl) ?_
      rintro _ _ ⟨rfl, rfl⟩
      refine WL.nil <| QN.to (StTo.still [0] 15 rfl rfl) <| QN.weaken (env' := [(15, _), (14, _), (13, _), (94, _), (93, _), (92, _), (10, _), (9, _), (5, _), (4, _), (3, _)]) (.o4 rfl (.o4 rfl (.o2 rfl (.one rfl (.nil _))))) <| QN.then_ <| sr <| fd rfl rfl fo47_1 rfl <| ld rfl rfl sh26 <| mv rfl rfl <| mv rfl rfl ?_
      obtain ⟨c386, h⟩ := ite_n h
      refine WL.q (Wanted.plain rfl) rfl rfl (.s 106 rfl (.s 107 rfl .nil)) (q_indexO rfl el26 (j := 7) rfl c386.1 c386.2) <| WL.w0 [7] rfl (Wanted.plain rfl) rfl (.s 109 rfl (.s 108 rfl .nil)) (w_storeEl (kd := kInt) (z := x94) rfl sh3 (CellsOf.one rfl) rfl rfl rfl c386.1 c386.2 rfl rfl) ?_
      rintro _ _ ⟨rfl, rfl⟩
      refine WL.nil <| QN.weaken (env' := [(15, _), (94, _), (93, _), (92, _), (10, _), (9, _), (5, _), (4, _), (3, _)]) (.o4 rfl (.o4 rfl (.one rfl (.nil _)))) <| QN.then_ <| W.drawK [(0, false), (1, false), (2, true), (3, false), (4, false), (5, false), (6, false), (7, false), (8, false), (9, true), (10, true), (11, false), (12, false), (13, false), (14, false), (15, true), (16, true), (17, false), (18, false)] [19, 20, 21, 22] (bm [0, 1, 3, 0, 8, 0, 32, 0, 128, 480, 992, 0, 2048, 0, 8192, 30720, 63488, 131064, 262136, 524287, 1048575, 2097151, 4194303]) mx (by kernel_rfl) <| DK.cons rfl rfl (.p rfl (.s 9 rfl .nil) rfl (q_fieldP rfl fo32_0)) <| DK.cons rfl rfl (.p rfl (.s 110 rfl .nil) rfl (q_fieldP rfl fo29_1)) <| DK.cons rfl rfl (.o rfl (.s 111 rfl .nil) rfl (q_loadB rfl sh27 (i := 3) rfl rfl)) <| df rfl rfl rfl fo63_0 rfl <| dl rfl rfl rfl sh3 <| df rfl rfl rfl fo47_0 rfl <| dl rfl rfl rfl sh26 <| df rfl rfl rfl fo63_1 rfl <| dl rfl rfl rfl sh3 ?_
      obtain ⟨c395, h⟩ := ite_n h
      refine DK.cons rfl rfl (.o rfl (.s 116 rfl (.s 118 rfl .nil)) rfl (q_indexO rfl el26 (j := 7) rfl c395.1 c395.2)) <| DK.cons rfl rfl (.o rfl (.s 119 rfl .nil) rfl (q_loadEl rfl sh3 (j := 7) rfl rfl c395.1 c395.2 rfl)) <| df rfl rfl rfl fo47_0 rfl <| dl rfl rfl rfl sh26 <| df rfl rfl rfl fo63_2 rfl <| dl rfl rfl rfl sh3 ?_
      obtain ⟨c396, h⟩ := ite_n h
      refine DK.cons rfl rfl (.o rfl (.s 122 rfl (.s 124 rfl .nil)) rfl (q_indexO rfl el26 (j := 7) rfl c396.1 c396.2)) <| DK.cons rfl rfl (.o rfl (.s 125 rfl .nil) rfl (q_loadEl rfl sh3 (j := 7) rfl rfl c396.1 c396.2 rfl)) <| DK.cons rfl rfl (.p rfl (.s 114 rfl (.s 120 rfl (.s 126 rfl .nil))) rfl (q_build (is := [0, 1, 2]) (xs := [.tmp 114, .tmp 120, .tmp 126]) (L := [iA ((rd a1.fGraph.fEdges (rd t338 x94)).fType), iA (rd x10_0 ((rd a1.fGraph.fEdges (rd t338 x94)).fFrom)), iA (rd x10_0 ((rd a1.fGraph.fEdges (rd t338 x94)).fTo))]) rfl rfl z63 pl63 rfl rfl (.cons (CellsOf.one rfl) (.cons (CellsOf.one rfl) (.cons (CellsOf.one rfl) .nil))) rfl)) <| DK.cons rfl rfl (.p rfl (.s 127 rfl .nil) rfl (q_lit (kd := kEdge) (ps := [(0, .tmp 127)]) (xs := [.tmp 127]) («as» := [AggA [iA ((rd a1.fGraph.fEdges (rd t338 x94)).fType), iA (rd x10_0 ((rd a1.fGraph.fEdges (rd t338 x94)).fFrom)), iA (rd x10_0 ((rd a1.fGraph.fEdges (rd t338 x94)).fTo))]]) (ys := [(Edge.mk ((rd a1.fGraph.fEdges (rd t338 x94)).fType) (rd x10_0 ((rd a1.fGraph.fEdges (rd t338 x94)).fFrom)) (rd x10_0 ((rd a1.fGraph.fEdges (rd t338 x94)).fTo)))]) rfl rfl el27 rfl gr63 rfl rfl rfl (.cons (CellsOf.agg _) .nil))) ?_
      obtain ⟨c397, h⟩ := ite_n h
      refine DK.nil <| CSteps.w [5] rfl rfl rfl rfl (.s 112 rfl (.s 128 rfl .nil)) rfl (w_append (kd := kEdge) rfl el27 rfl gr63 c397) ?_
      rintro _ _ ⟨v398, rfl, rfl⟩
      refine CSteps.p rfl rfl rfl (.s 9 rfl .nil) rfl (q_fieldP rfl fo32_0) <| CSteps.p rfl rfl rfl (.s 130 rfl .nil) rfl (q_fieldP rfl fo29_1) <| CSteps.w0 [4] rfl rfl rfl (.s 131 rfl (.s 129 rfl .nil)) rfl (w_store (L := [HdA g0.1, HdA v398, HdA g0.2]) rfl sh27 (CellsOf.one rfl) rfl rfl (leB rfl) rfl) ?_
      rintro _ _ ⟨rfl, rfl⟩
      refine CSteps.nil <| QN.block <| QN.weaken (env' := [(94, _), (93, _), (92, _), (10, _), (9, _), (5, _), (4, _), (3, _)]) (.o4 rfl (.o4 rfl (.nil _))) <| QN.then_ <| W.region ?_
      obtain ⟨c399, h⟩ := ite_n h
      refine pk rfl 94 rfl (q_addR rfl c399) <| mv rfl rfl <| WL.nil <| QN.order [3, 3, 0, 2, 0, 1, 1, 0] rfl ?_
      exact next1 v398 (y1 ++ [(Edge.mk ((rd a1.fGraph.fEdges (rd t338 x94)).fType) (rd x10_0 ((rd a1.fGraph.fEdges (rd t338 x94)).fFrom)) (rd x10_0 ((rd a1.fGraph.fEdges (rd t338 x94)).fTo)))]) (x10_1.set ((rd t338 x94) : Int).toNat x94) (x94 + 1) _ h (.o4 rfl (.o4 rfl (.nil _)))
     ·refine W.exit <| QX.then_ <| QX.then_ <| QX.here <| QN.then_ <| W.seq <| W.drawK [(0, true), (1, false)] [2, 3, 4] (bm [0, 0, 1, 7, 15]) mx (by kernel_rfl) <| DK.cons rfl rfl (.o rfl (.s 9 rfl .nil) rfl (q_loadBS (l' := [HdA g0.1, HdA g1, HdA g0.2]) rfl sh32 (i := 2) rfl rfl rfl)) <| DK.cons rfl rfl (.p rfl (.s 10 rfl .nil) rfl (q_loadS rfl sh47 (leB rfl) rfl)) <| DK.nil <| CSteps.w0 [0] rfl rfl rfl (.s 4 rfl (.s 133 rfl .nil)) rfl (w_store (L := [HdA g0.1, HdA g1, HdA g0.2]) rfl sh32 (CellsOf.agg _) rfl rfl (leB rfl) rfl) ?_
      rintro _ _ ⟨rfl, rfl⟩
      refine CSteps.w0 [1] rfl rfl rfl (.s 5 rfl (.s 134 rfl .nil)) rfl (w_store (L := [HdA g118.1, HdA g118.2]) rfl sh47 (CellsOf.agg _) rfl rfl (leB rfl) rfl) ?_
      rintro _ _ ⟨rfl, rfl⟩
      refine CSteps.p rfl rfl rfl (.k .nil) rfl (q_assign rfl) <| CSteps.nil <| QN.weaken (env' := [(6, _), (5, _), (4, _)]) (.o2 rfl (.one rfl (.nil _))) <| QN.then_ <| W.ret ?_
      cases h
      exact QR.f3 rfl rfl (.cs (i := 1) rfl sh32 rfl rfl) (.cs (i := 0) rfl sh47 rfl rfl) (.t rfl) (.tup (.cons (.agg (.cons (.slc 3 rfl) (.cons (.slc 4 rfl) (.cons (.slc 5 rfl) .nil)))) (.cons (.agg (.cons (.slc 6 rfl) (.cons (.slc 7 rfl) .nil))) (.cons (.id _) .nil))))
   ·refine W.drawKT [(0, false), (1, false), (2, false), (3, true), (4, false), (6, false), (7, false), (8, false), (9, false)] [5, 10, 11, 12, 13] [5, 10, 11, 12] 5 [[], [0], [0, 1], [0, 1, 2], [0, 1, 2, 3], [0, 1, 2, 3, 4], [], [6], [6, 7], [6, 7, 8], [6, 7, 8, 9], [0, 1, 2, 3, 4, 5, 6, 7, 8, 9, 10], [], [0, 1, 2, 3, 4, 5, 6, 7, 8, 9, 10, 11, 12]] mx (by kernel_rfl) <| DKT.cons rfl rfl (.p rfl (.s 8 rfl .nil) rfl (q_move rfl)) <| DKT.cons rfl rfl (.p rfl (.s 36 rfl .nil) rfl (q_nilCheckP rfl)) <| DKT.cons rfl rfl (.p rfl (.s 37 rfl .nil) rfl (q_fieldP rfl fo107_3)) <| DKT.cons rfl rfl (.o rfl (.s 38 rfl .nil) rfl (fun _ => (q_loadB rfl sh26 (i := 1) rfl rfl))) <| DKT.cons rfl rfl (.p rfl (.s 39 rfl .nil) rfl (q_len rfl elS26)) ?_
    obtain ⟨c400, h⟩ := ite_n h
    refine DKT.cons rfl rfl (.p rfl (.s 3 rfl .nil) rfl (q_field rfl fo32_0 rfl)) <| DKT.cons rfl rfl (.p rfl (.s 42 rfl .nil) rfl (q_field rfl fo29_1 rfl)) <| DKT.cons rfl rfl (.p rfl (.s 43 rfl .nil) rfl (q_load rfl sh27)) <| DKT.cons rfl rfl (.p rfl (.s 44 rfl .nil) rfl (q_len rfl elS27)) ?_
    obtain ⟨c402, h⟩ := ite_n h
    refine DKT.nil <| CT.step ?_
    refine CTc.yes rfl ?_ ?_
    ·refine CStep1.w [] (fun _ => rfl) rfl rfl rfl rfl (.s 40 rfl (.s 40 rfl .nil)) rfl (w_make (kd := kInt) (z := (0 : Int)) rfl el26 rfl gr3 z3 rfl c400.1 c400.2) ?_
     rintro _ _ ⟨v401, rfl, rfl⟩
     refine CT.list (l' := [10, 11, 12, 13]) rfl <| CT.step ?_
     refine CTc.yes rfl ?_ ?_
     ·refine CStep1.w [] (fun _ => rfl) rfl rfl rfl rfl (.s 45 rfl (.s 45 rfl .nil)) rfl (w_make (kd := kInt) (z := (0 : Int)) rfl el26 rfl gr3 z3 rfl c402.1 c402.2) ?_
      rintro _ _ ⟨v403, rfl, rfl⟩
      refine CT.list (l' := [11, 12, 13]) rfl <| CT.step ?_
      refine CTc.yes rfl ?_ ?_
      ·refine CStep1.p rfl rfl rfl (.s 41 rfl (.s 46 rfl .nil)) rfl (q_build (is := [0, 1]) (xs := [.tmp 41, .tmp 46]) (L := [HdA v401, HdA v403]) rfl rfl z47 pl47 rfl rfl (.cons (CellsOf.one rfl) (.cons (CellsOf.one rfl) .nil)) rfl) <| CT.list (l' := [12, 13]) rfl <| CT.step ?_
       refine CTc.yes rfl ?_ ?_
       ·refine CStep1.w [] (fun _ => rfl) rfl rfl rfl rfl .nil rfl (w_alloc rfl z47 (l := [EqA (.slice none 0 0), EqA (.slice none 0 0)]) rfl) ?_
        rintro _ _ ⟨b404, rfl, rfl⟩
        refine CT.list (l' := [13]) rfl <| CT.step ?_
        refine CTc.yes rfl ?_ ?_
        ·refine CStep1.w0 [0] (fun h => absurd h (by decide)) rfl rfl rfl (.s 10 rfl (.s 47 rfl .nil)) rfl (w_store (L := [HdA v401, HdA v403]) rfl sh47 (CellsOf.agg _) rfl rfl (leB rfl) rfl) ?_
         rintro _ _ ⟨rfl, rfl⟩
         refine CT.list (l' := []) rfl <| CT.nil <| QN.to (StTo.still [0] 10 rfl rfl) <| QN.order [5, 4, 3, 2, 1, 0] rfl ?_
         exact QN.weaken (.o4 rfl (.o2 rfl (.nil _))) (Kj123 (v401, v403) h)
        exact CTc.end
       refine CTc.no rfl ?_
       exact CTc.end
      refine CTc.yes rfl ?_ ?_
      ·refine CStep1.w [] (fun _ => rfl) rfl rfl rfl rfl .nil rfl (w_alloc rfl z47 (l := [EqA (.slice none 0 0), EqA (.slice none 0 0)]) rfl) ?_
       rintro _ _ ⟨b404, rfl, rfl⟩
       refine CT.list (l' := [11, 13]) rfl <| CT.step ?_
       refine CTc.yes rfl ?_ ?_
       ·refine CStep1.p rfl rfl rfl (.s 41 rfl (.s 46 rfl .nil)) rfl (q_build (is := [0, 1]) (xs := [.tmp 41, .tmp 46]) (L := [HdA v401, HdA v403]) rfl rfl z47 pl47 rfl rfl (.cons (CellsOf.one rfl) (.cons (CellsOf.one rfl) .nil)) rfl) <| CT.list (l' := [13]) rfl <| CT.step ?_
        refine CTc.yes rfl ?_ ?_
        ·refine CStep1.w0 [0] (fun h => absurd h (by decide)) rfl rfl rfl (.s 10 rfl (.s 47 rfl .nil)) rfl (w_store (L := [HdA v401, HdA v403]) rfl sh47 (CellsOf.agg _) rfl rfl (leB rfl) rfl) ?_
         rintro _ _ ⟨rfl, rfl⟩
         refine CT.list (l' := []) rfl <| CT.nil <| QN.to (StTo.still [0] 10 rfl rfl) <| QN.order [5, 4, 3, 2, 1, 0] rfl ?_
         exact QN.weaken (.o4 rfl (.o2 rfl (.nil _))) (Kj123 (v401, v403) h)
        exact CTc.end
       refine CTc.no rfl ?_
       exact CTc.end
      refine CTc.no rfl ?_
      exact CTc.end
     refine CTc.no rfl ?_
     refine CTc.yes rfl ?_ ?_
     ·refine CStep1.w [] (fun _ => rfl) rfl rfl rfl rfl .nil rfl (w_alloc rfl z47 (l := [EqA (.slice none 0 0), EqA (.slice none 0 0)]) rfl) ?_
      rintro _ _ ⟨b404, rfl, rfl⟩
      refine CT.list (l' := [10, 11, 13]) rfl <| CT.step ?_
      refine CTc.yes rfl ?_ ?_
      ·refine CStep1.w [] (fun _ => rfl) rfl rfl rfl rfl (.s 45 rfl (.s 45 rfl .nil)) rfl (w_make (kd := kInt) (z := (0 : Int)) rfl el26 rfl gr3 z3 rfl c402.1 c402.2) ?_
       rintro _ _ ⟨v403, rfl, rfl⟩
       refine CT.list (l' := [11, 13]) rfl <| CT.step ?_
       refine CTc.yes rfl ?_ ?_
       ·refine CStep1.p rfl rfl rfl (.s 41 rfl (.s 46 rfl .nil)) rfl (q_build (is := [0, 1]) (xs := [.tmp 41, .tmp 46]) (L := [HdA v401, HdA v403]) rfl rfl z47 pl47 rfl rfl (.cons (CellsOf.one rfl) (.cons (CellsOf.one rfl) .nil)) rfl) <| CT.list (l' := [13]) rfl <| CT.step ?_
        refine CTc.yes rfl ?_ ?_
        ·refine CStep1.w0 [1] (fun h => absurd h (by decide)) rfl rfl rfl (.s 10 rfl (.s 47 rfl .nil)) rfl (w_store (L := [HdA v401, HdA v403]) rfl sh47 (CellsOf.agg _) rfl rfl (leB rfl) rfl) ?_
         rintro _ _ ⟨rfl, rfl⟩
         refine CT.list (l' := []) rfl <| CT.nil <| QN.to (StTo.still [0] 10 rfl rfl) <| QN.order [5, 4, 3, 2, 1, 0] rfl ?_
         exact QN.weaken (.o4 rfl (.o2 rfl (.nil _))) (Kj123 (v401, v403) h)
        exact CTc.end
       refine CTc.no rfl ?_
       exact CTc.end
      refine CTc.no rfl <| CTc.no rfl ?_
      exact CTc.end
     refine CTc.no rfl ?_
     exact CTc.end
    refine CTc.yes rfl ?_ ?_
    ·refine CStep1.w [] (fun _ => rfl) rfl rfl rfl rfl (.s 45 rfl (.s 45 rfl .nil)) rfl (w_make (kd := kInt) (z := (0 : Int)) rfl el26 rfl gr3 z3 rfl c402.1 c402.2) ?_
     rintro _ _ ⟨v403, rfl, rfl⟩
     refine CT.list (l' := [5, 11, 12, 13]) rfl <| CT.step ?_
     refine CTc.yes rfl ?_ ?_
     ·refine CStep1.w [] (fun _ => rfl) rfl rfl rfl rfl (.s 40 rfl (.s 40 rfl .nil)) rfl (w_make (kd := kInt) (z := (0 : Int)) rfl el26 rfl gr3 z3 rfl c400.1 c400.2) ?_
      rintro _ _ ⟨v401, rfl, rfl⟩
      refine CT.list (l' := [11, 12, 13]) rfl <| CT.step ?_
      refine CTc.yes rfl ?_ ?_
      ·refine CStep1.p rfl rfl rfl (.s 41 rfl (.s 46 rfl .nil)) rfl (q_build (is := [0, 1]) (xs := [.tmp 41, .tmp 46]) (L := [HdA v401, HdA v403]) rfl rfl z47 pl47 rfl rfl (.cons (CellsOf.one rfl) (.cons (CellsOf.one rfl) .nil)) rfl) <| CT.list (l' := [12, 13]) rfl <| CT.step ?_
       refine CTc.yes rfl ?_ ?_
       ·refine CStep1.w [] (fun _ => rfl) rfl rfl rfl rfl .nil rfl (w_alloc rfl z47 (l := [EqA (.slice none 0 0), EqA (.slice none 0 0)]) rfl) ?_
        rintro _ _ ⟨b404, rfl, rfl⟩
        refine CT.list (l' := [13]) rfl <| CT.step ?_
        refine CTc.yes rfl ?_ ?_
        ·refine CStep1.w0 [0] (fun h => absurd h (by decide)) rfl rfl rfl (.s 10 rfl (.s 47 rfl .nil)) rfl (w_store (L := [HdA v401, HdA v403]) rfl sh47 (CellsOf.agg _) rfl rfl (leB rfl) rfl) ?_
         rintro _ _ ⟨rfl, rfl⟩
         refine CT.list (l' := []) rfl <| CT.nil <| QN.to (StTo.still [0] 10 rfl rfl) <| QN.order [5, 4, 3, 2, 0, 0] rfl ?_
         exact QN.weaken (.o4 rfl (.o2 rfl (.nil _))) (Kj123 (v401, v403) h)
        exact CTc.end
       refine CTc.no rfl ?_
       exact CTc.end
      refine CTc.yes rfl ?_ ?_
      ·refine CStep1.w [] (fun _ => rfl) rfl rfl rfl rfl .nil rfl (w_alloc rfl z47 (l := [EqA (.slice none 0 0), EqA (.slice none 0 0)]) rfl) ?_
       rintro _ _ ⟨b404, rfl, rfl⟩
       refine CT.list (l' := [11, 13]) rfl <| CT.step ?_
       refine CTc.yes rfl ?_ ?_
       ·refine CStep1.p rfl rfl rfl (.s 41 rfl (.s 46 rfl .nil)) rfl (q_build (is := [0, 1]) (xs := [.tmp 41, .tmp 46]) (L := [HdA v401, HdA v403]) rfl rfl z47 pl47 rfl rfl (.cons (CellsOf.one rfl) (.cons (CellsOf.one rfl) .nil)) rfl) <| CT.list (l' := [13]) rfl <| CT.step ?_
        refine CTc.yes rfl ?_ ?_
        ·refine CStep1.w0 [0] (fun h => absurd h (by decide)) rfl rfl rfl (.s 10 rfl (.s 47 rfl .nil)) rfl (w_store (L := [HdA v401, HdA v403]) rfl sh47 (CellsOf.agg _) rfl rfl (leB rfl) rfl) ?_
         rintro _ _ ⟨rfl, rfl⟩
         refine CT.list (l' := []) rfl <| CT.nil <| QN.to (StTo.still [0] 10 rfl rfl) <| QN.order [5, 4, 3, 2, 0, 0] rfl ?_
         exact QN.weaken (.o4 rfl (.o2 rfl (.nil _))) (Kj123 (v401, v403) h)
        exact CTc.end
       refine CTc.no rfl ?_
       exact CTc.end
      refine CTc.no rfl ?_
      exact CTc.end
     refine CTc.no rfl ?_
     refine CTc.yes rfl ?_ ?_
     ·refine CStep1.w [] (fun _ => rfl) rfl rfl rfl rfl .nil rfl (w_alloc rfl z47 (l := [EqA (.slice none 0 0), EqA (.slice none 0 0)]) rfl) ?_
      rintro _ _ ⟨b404, rfl, rfl⟩
      refine CT.list (l' := [5, 11, 13]) rfl <| CT.step ?_
      refine CTc.yes rfl ?_ ?_
      ·refine CStep1.w [] (fun _ => rfl) rfl rfl rfl rfl (.s 40 rfl (.s 40 rfl .nil)) rfl (w_make (kd := kInt) (z := (0 : Int)) rfl el26 rfl gr3 z3 rfl c400.1 c400.2) ?_
       rintro _ _ ⟨v401, rfl, rfl⟩
       refine CT.list (l' := [11, 13]) rfl <| CT.step ?_
       refine CTc.yes rfl ?_ ?_
       ·refine CStep1.p rfl rfl rfl (.s 41 rfl (.s 46 rfl .nil)) rfl (q_build (is := [0, 1]) (xs := [.tmp 41, .tmp 46]) (L := [HdA v401, HdA v403]) rfl rfl z47 pl47 rfl rfl (.cons (CellsOf.one rfl) (.cons (CellsOf.one rfl) .nil)) rfl) <| CT.list (l' := [13]) rfl <| CT.step ?_
        refine CTc.yes rfl ?_ ?_
        ·refine CStep1.w0 [1] (fun h => absurd h (by decide)) rfl rfl rfl (.s 10 rfl (.s 47 rfl .nil)) rfl (w_store (L := [HdA v401, HdA v403]) rfl sh47 (CellsOf.agg _) rfl rfl (leB rfl) rfl) ?_
         rintro _ _ ⟨rfl, rfl⟩
         refine CT.list (l' := []) rfl <| CT.nil <| QN.to (StTo.still [0] 10 rfl rfl) <| QN.order [5, 4, 3, 2, 0, 0] rfl ?_
         exact QN.weaken (.o4 rfl (.o2 rfl (.nil _))) (Kj123 (v401, v403) h)
        exact CTc.end
       refine CTc.no rfl ?_
       exact CTc.end
      refine CTc.no rfl <| CTc.no rfl ?_
      exact CTc.end
     refine CTc.no rfl ?_
     exact CTc.end
    refine CTc.no rfl ?_
    refine CTc.yes rfl ?_ ?_
    ·refine CStep1.w [] (fun _ => rfl) rfl rfl rfl rfl .nil rfl (w_alloc rfl z47 (l := [EqA (.slice none 0 0), EqA (.slice none 0 0)]) rfl) ?_
     rintro _ _ ⟨b404, rfl, rfl⟩
     refine CT.list (l' := [5, 10, 11, 13]) rfl <| CT.step ?_
     refine CTc.yes rfl ?_ ?_
     ·refine CStep1.w [] (fun _ => rfl) rfl rfl rfl rfl (.s 40 rfl (.s 40 rfl .nil)) rfl (w_make (kd := kInt) (z := (0 : Int)) rfl el26 rfl gr3 z3 rfl c400.1 c400.2) ?_
      rintro _ _ ⟨v401, rfl, rfl⟩
      refine CT.list (l' := [10, 11, 13]) rfl <| CT.step ?_
      refine CTc.yes rfl ?_ ?_
      ·refine CStep1.w [] (fun _ => rfl) rfl rfl rfl rfl (.s 45 rfl (.s 45 rfl .nil)) rfl (w_make (kd := kInt) (z := (0 : Int)) rfl el26 rfl gr3 z3 rfl c402.1 c402.2) ?_
       rintro _ _ ⟨v403, rfl, rfl⟩
       refine CT.list (l' := [11, 13]) rfl <| CT.step ?_
       refine CTc.yes rfl ?_ ?_
       ·refine CStep1.p rfl rfl rfl (.s 41 rfl (.s 46 rfl .nil)) rfl (q_build (is := [0, 1]) (xs := [.tmp 41, .tmp 46]) (L := [HdA v401, HdA v403]) rfl rfl z47 pl47 rfl rfl (.cons (CellsOf.one rfl) (.cons (CellsOf.one rfl) .nil)) rfl) <| CT.list (l' := [13]) rfl <| CT.step ?_
        refine CTc.yes rfl ?_ ?_
        ·refine CStep1.w0 [2] (fun h => absurd h (by decide)) rfl rfl rfl (.s 10 rfl (.s 47 rfl .nil)) rfl (w_store (L := [HdA v401, HdA v403]) rfl sh47 (CellsOf.agg _) rfl rfl (leB rfl) rfl) ?_
         rintro _ _ ⟨rfl, rfl⟩
         refine CT.list (l' := []) rfl <| CT.nil <| QN.to (StTo.still [0] 10 rfl rfl) <| QN.order [5, 4, 3, 2, 1, 0] rfl ?_
         exact QN.weaken (.o4 rfl (.o2 rfl (.nil _))) (Kj123 (v401, v403) h)
        exact CTc.end
       refine CTc.no rfl ?_
       exact CTc.end
      refine CTc.no rfl <| CTc.no rfl ?_
      exact CTc.end
     refine CTc.yes rfl ?_ ?_
     ·refine CStep1.w [] (fun _ => rfl) rfl rfl rfl rfl (.s 45 rfl (.s 45 rfl .nil)) rfl (w_make (kd := kInt) (z := (0 : Int)) rfl el26 rfl gr3 z3 rfl c402.1 c402.2) ?_
      rintro _ _ ⟨v403, rfl, rfl⟩
      refine CT.list (l' := [5, 11, 13]) rfl <| CT.step ?_
      refine CTc.yes rfl ?_ ?_
      ·refine CStep1.w [] (fun _ => rfl) rfl rfl rfl rfl (.s 40 rfl (.s 40 rfl .nil)) rfl (w_make (kd := kInt) (z := (0 : Int)) rfl el26 rfl gr3 z3 rfl c400.1 c400.2) ?_
       rintro _ _ ⟨v401, rfl, rfl⟩
       refine CT.list (l' := [11, 13]) rfl <| CT.step ?_
       refine CTc.yes rfl ?_ ?_
       ·refine CStep1.p rfl rfl rfl (.s 41 rfl (.s 46 rfl .nil)) rfl (q_build (is := [0, 1]) (xs := [.tmp 41, .tmp 46]) (L := [HdA v401, HdA v403]) rfl rfl z47 pl47 rfl rfl (.cons (CellsOf.one rfl) (.cons (CellsOf.one rfl) .nil)) rfl) <| CT.list (l' := [13]) rfl <| CT.step ?_
        refine CTc.yes rfl ?_ ?_
        ·refine CStep1.w0 [2] (fun h => absurd h (by decide)) rfl rfl rfl (.s 10 rfl (.s 47 rfl .nil)) rfl (w_store (L := [HdA v401, HdA v403]) rfl sh47 (CellsOf.agg _) rfl rfl (leB rfl) rfl) ?_
         rintro _ _ ⟨rfl, rfl⟩
         refine CT.list (l' := []) rfl <| CT.nil <| QN.to (StTo.still [0] 10 rfl rfl) <| QN.order [5, 4, 3, 2, 0, 0] rfl ?_
         exact QN.weaken (.o4 rfl (.o2 rfl (.nil _))) (Kj123 (v401, v403) h)
        exact CTc.end
       refine CTc.no rfl ?_
       exact CTc.end
      refine CTc.no rfl <| CTc.no rfl ?_
      exact CTc.end
     refine CTc.no rfl <| CTc.no rfl ?_
     exact CTc.end
    refine CTc.no rfl ?_
    exact CTc.end
theorem ref05_SameInts.con (k : Nat) (a0 : (List Int)) (a1 : (List Int)) (r : Bool) (h : ref05_SameInts k a0 a1 = some r) : Con Tryz.prog 112 [] [SlcA kInt a0, SlcA kInt a1] (RA (bA r)) := by
 unfold ref05_SameInts at h
 refine Con.of (N := 26) Tryz.func112 rfl rfl rfl fun w0_ fg_ => sr <| ak rfl <| nt <| W.seq <| sr <| mv rfl rfl <| p1 rfl 6 rfl (q_len rfl elS26) <| mv rfl rfl <| p1 rfl 8 rfl (q_len rfl elS26) ?_
 refine p2 rfl 7 rfl 9 rfl (q_int rfl rfl) <| nt ?_
 refine W.condP h rfl (fun hb100 h => ?_) (fun hb100 h => ?_)
 ·refine sr <| ak rfl <| WL.nil <| QN.weaken (env' := [(4, _)]) (.one rfl (.nil _)) <| QN.then_ <| W.ret <| QR.then_ ?_
  cases h
  exact QR.f1 rfl rfl (.t rfl) (.id _)
 ·refine W.skip <| QN.then_ <| W.seq <| sr <| ak rfl <| nt <| W.block ?_
  refine W.loop1 (Γ := Unit) (fun (_ : Unit) (x5 : Int) => [(0, SlcA kInt a0), (1, SlcA kInt a1), (5, iA x5)]) (fun (_ : Unit) (_ : Int) => []) h () (.o2 rfl (.one rfl (.nil _))) rfl (fun rec0 K0 next0 _ x5 h => ?_)
  unfold ref05_SameInts.b0 at h
  refine W.seq <| sr <| mv rfl rfl <| mv rfl rfl <| p1 rfl 12 rfl (q_len rfl elS26) <| p2 rfl 11 rfl 13 rfl (q_int rfl rfl) <| nt ?_
  refine W.condP h rfl (fun hb119 h => ?_) (fun hb119 h => ?_)
  ·refine W.skip <| QN.then_ <| W.seq <| W.block <| W.seq <| W.drawK [(0, false), (1, false), (2, false), (3, false), (4, false), (5, false), (6, false), (7, false), (8, false)] [] (bm [0, 0, 3, 7, 0, 0, 48, 112, 255]) mx (by kernel_rfl) <| dm rfl rfl rfl <| dm rfl rfl rfl ?_
   obtain ⟨c124, h⟩ := ite_n h
   refine DK.cons rfl rfl (.p rfl (.s 17 rfl (.s 18 rfl .nil)) rfl (q_index rfl el26 rfl c124.1 c124.2)) <| dl rfl rfl rfl sh3 <| dm rfl rfl rfl <| dm rfl rfl rfl ?_
   obtain ⟨c125, h⟩ := ite_n h
   refine DK.cons rfl rfl (.p rfl (.s 21 rfl (.s 22 rfl .nil)) rfl (q_index rfl el26 rfl c125.1 c125.2)) <| dl rfl rfl rfl sh3 <| DK.cons rfl rfl (.p rfl (.s 20 rfl (.s 24 rfl .nil)) rfl (q_int rfl rfl)) <| DK.nil <| CSteps.nil <| QN.weaken (env' := [(25, _), (5, _), (1, _), (0, _)]) (.o4 rfl (.nil _)) <| QN.then_ ?_
   refine W.condP h rfl (fun hb126 h => ?_) (fun hb126 h => ?_)
   ·refine sr <| ak rfl <| nt <| W.ret <| QR.block <| QR.then_ <| QR.then_ <| QR.block <| QR.then_ ?_
    cases h
    exact QR.f1 rfl rfl (.t rfl) (.id _)
   ·refine W.skip <| QN.block <| QN.then_ <| W.region <| mv rfl rfl ?_
    obtain ⟨c127, h⟩ := ite_n h
    refine pk rfl 15 rfl (q_addR rfl c127) <| av rfl rfl <| WL.nil ?_
    exact next0 () (x5 + 1) _ h (.o2 rfl (.one rfl (.nil _)))
  ·refine W.exit <| QX.then_ <| QX.then_ <| QX.here <| QN.weaken (env' := []) (.nil _) <| QN.then_ <| sr <| ak rfl <| nt <| W.ret ?_
   cases h
   exact QR.f1 rfl rfl (.t rfl) (.id _)
theorem ref05_Same.con (k : Nat) (a0 : Graph) (a1 : Graph) (r : Bool) (h : ref05_Same k a0 a1 = some r) : Con Tryz.prog 64 [] [AggA [SlcA kInt a0.fNodes, SlcA kEdge a0.fEdges], AggA [SlcA kInt a1.fNodes, SlcA kEdge a1.fEdges]] (RA (bA r)) := by
 unfold ref05_Same at h
 refine Con.of (N := 39) Tryz.func64 rfl rfl rfl fun w0_ fg_ => sr <| p1 rfl 0 rfl (q_box rfl (CellsOf.agg _)) <| p1 rfl 1 rfl (q_box rfl (CellsOf.agg _)) <| ak rfl <| nt <| W.seq <| W.seq ?_
 refine W.jn1 (Γ := Unit) (fun (_ : Unit) (x20 : Bool) => [(2, PtrA [SlcA kInt a0.fNodes, SlcA kEdge a0.fEdges]), (3, PtrA [SlcA kInt a1.fNodes, SlcA kEdge a1.fEdges]), (20, bA x20)]) (fun (_ : Unit) (_ : Bool) => []) h (fun _ x20 h => ?_) (fun j103 Kj103 h => ?_)
 ·refine QN.then_ ?_
  refine W.condP h rfl (fun hb104 h => ?_) (fun hb104 h => ?_)
  ·refine sr <| ak rfl <| nt <| W.ret <| QR.then_ ?_
   cases h
   exact QR.f1 rfl rfl (.t rfl) (.id _)
  ·refine W.skip <| QN.then_ <| W.seq <| sr <| ak rfl <| nt <| W.block ?_
   refine W.loop1 (Γ := Unit) (fun (_ : Unit) (x5 : Int) => [(2, PtrA [SlcA kInt a0.fNodes, SlcA kEdge a0.fEdges]), (3, PtrA [SlcA kInt a1.fNodes, SlcA kEdge a1.fEdges]), (5, iA x5)]) (fun (_ : Unit) (_ : Int) => []) h () (.o2 rfl (.one rfl (.nil _))) rfl (fun rec0 K0 next0 _ x5 h => ?_)
   unfold ref05_Same.b0 at h
   refine W.seq <| sr <| mv rfl rfl <| fd rfl rfl fo29_1 rfl <| ld rfl rfl sh27 <| p1 rfl 23 rfl (q_len rfl elS27) <| p2 rfl 21 rfl 24 rfl (q_int rfl rfl) <| nt ?_
   refine W.condP h rfl (fun hb123 h => ?_) (fun hb123 h => ?_)
   ·refine W.skip <| QN.then_ <| W.seq <| W.block <| W.seq <| W.drawK [(0, false), (1, false), (2, false), (3, false), (4, false), (5, false), (6, false), (7, false), (8, false), (9, false), (10, false)] [] (bm [0, 1, 0, 7, 15, 0, 32, 0, 224, 480, 1023]) mx (by kernel_rfl) <| df rfl rfl rfl fo29_1 rfl <| dl rfl rfl rfl sh27 <| dm rfl rfl rfl ?_
    obtain ⟨c128, h⟩ := ite_n h
    refine DK.cons rfl rfl (.p rfl (.s 29 rfl (.s 30 rfl .nil)) rfl (q_index rfl el27 rfl c128.1 c128.2)) <| DK.cons rfl rfl (.p rfl (.s 31 rfl .nil) rfl (q_loadS rfl sh63 (leB rfl) rfl)) <| df rfl rfl rfl fo29_1 rfl <| dl rfl rfl rfl sh27 <| dm rfl rfl rfl ?_
    obtain ⟨c129, h⟩ := ite_n h
    refine DK.cons rfl rfl (.p rfl (.s 34 rfl (.s 35 rfl .nil)) rfl (q_index rfl el27 rfl c129.1 c129.2)) <| DK.cons rfl rfl (.p rfl (.s 36 rfl .nil) rfl (q_loadS rfl sh63 (leB rfl) rfl)) <| DK.cons rfl rfl (.p rfl (.s 32 rfl (.s 37 rfl .nil)) rfl (q_eqIn (ms := [(rd a0.fEdges x5).fType, (rd a0.fEdges x5).fFrom, (rd a0.fEdges x5).fTo]) (ns := [(rd a1.fEdges x5).fType, (rd a1.fEdges x5).fFrom, (rd a1.fEdges x5).fTo]) rfl issI_63)) <| DK.nil <| CSteps.nil <| QN.weaken (env' := [(38, _), (5, _), (3, _), (2, _)]) (.o4 rfl (.nil _)) <| QN.then_ ?_
    refine W.condP h rfl (fun hb130 h => ?_) (fun hb130 h => ?_)
    ·refine sr <| ak rfl <| nt <| W.ret <| QR.block <| QR.then_ <| QR.then_ <| QR.block <| QR.then_ ?_
     cases h
     exact QR.f1 rfl rfl (.t rfl) (.id _)
    ·refine W.skip <| QN.block <| QN.then_ <| W.region <| mv rfl rfl ?_
     obtain ⟨c131, h⟩ := ite_n h
     refine pk rfl 26 rfl (q_addR rfl c131) <| av rfl rfl <| WL.nil ?_
     exact next0 () (x5 + 1) _ h (.o2 rfl (.one rfl (.nil _)))
   ·refine W.exit <| QX.then_ <| QX.then_ <| QX.here <| QN.weaken (env' := []) (.nil _) <| QN.then_ <| sr <| ak rfl <| nt <| W.ret ?_
    cases h
    exact QR.f1 rfl rfl (.t rfl) (.id _)
 ·refine W.region <| fd rfl rfl fo29_0 rfl <| ld rfl rfl sh26 <| fd rfl rfl fo29_0 rfl <| ld rfl rfl sh26 ?_
  obtain ⟨t132, ht132, h⟩ := bind_s h
  refine p2 rfl 7 rfl 9 rfl (q_call (f := 112) (A := bA t132) (xs := [.tmp 7, .tmp 9]) («as» := [SlcA kInt a0.fNodes, SlcA kInt a1.fNodes]) rfl ca112 (ref05_SameInts.con k a0.fNodes a1.fNodes t132 ht132) rfl) <| p1 rfl 10 rfl (q_not rfl) <| mv rfl rfl ?_
  rcases bif_s h with ⟨hb133, h⟩ | ⟨hb133, h⟩
  ·refine sk rfl rfl rfl hb133 <| sk rfl rfl rfl hb133 <| sk rfl rfl rfl hb133 <| sk rfl rfl rfl hb133 <| sk rfl rfl rfl hb133 <| sk rfl rfl rfl hb133 <| sk rfl rfl rfl hb133 <| pk rfl 12 rfl (q_pickT rfl hb133) <| WL.nil ?_
   exact QN.weaken (.o2 rfl (.one rfl (.nil _))) (Kj103 () true h)
  ·refine wf rfl rfl rfl hb133 rfl rfl fo29_1 rfl <| wl rfl rfl rfl hb133 rfl rfl sh27 <| wq rfl rfl rfl hb133 (.s 14 rfl .nil) (q_len rfl elS27).o <| wf rfl rfl rfl hb133 rfl rfl fo29_1 rfl <| wl rfl rfl rfl hb133 rfl rfl sh27 <| wq rfl rfl rfl hb133 (.s 17 rfl .nil) (q_len rfl elS27).o <| wq rfl rfl rfl hb133 (.s 15 rfl (.s 18 rfl .nil)) (q_int rfl rfl).o <| p2 rfl 12 rfl 19 rfl (q_pickF rfl hb133) <| WL.nil ?_
   exact QN.weaken (.o2 rfl (.one rfl (.nil _))) (Kj103 () ((a0.fEdges.length : Int) != (a1.fEdges.length : Int)) h)
theorem ref15_compare.con (k : Nat) (a0 : (List Int)) (a1 : (List Int)) (r : Int) (h : ref15_compare k a0 a1 = some r) : Con Tryz.prog 65 [] [SlcA kInt a0, SlcA kInt a1] (RA (iA r)) := by
 unfold ref15_compare at h
 refine Con.of (N := 41) Tryz.func65 rfl rfl rfl fun w0_ fg_ => sr <| ak rfl <| nt <| W.seq <| sr <| ak rfl <| nt <| W.block ?_
 refine W.loop1 (Γ := Unit) (fun (_ : Unit) (x5 : Int) => [(0, SlcA kInt a0), (1, SlcA kInt a1), (5, iA x5)]) (fun (_ : Unit) (_ : Int) => []) h () (.o2 rfl (.one rfl (.nil _))) rfl (fun rec0 K0 next0 _ x5 h => ?_)
 unfold ref15_compare.b0 at h
 refine W.seq <| W.seq ?_
 refine W.jn1 (Γ := Unit) (fun (_ : Unit) (x15 : Bool) => [(0, SlcA kInt a0), (1, SlcA kInt a1), (5, iA x5), (15, bA x15)]) (fun (_ : Unit) (_ : Bool) => []) h (fun _ x15 h => ?_) (fun j140 Kj140 h => ?_)
 ·refine QN.then_ ?_
  refine W.condP h rfl (fun hb141 h => ?_) (fun hb141 h => ?_)
  ·refine W.skip <| QN.then_ <| W.seq <| W.block <| W.seq <| W.drawK [(0, false), (1, false), (2, false), (3, false), (4, false), (5, false), (6, false), (7, false), (8, false)] [] (bm [0, 0, 3, 7, 0, 0, 48, 112, 255]) mx (by kernel_rfl) <| dm rfl rfl rfl <| dm rfl rfl rfl ?_
   obtain ⟨c146, h⟩ := ite_n h
   refine DK.cons rfl rfl (.p rfl (.s 18 rfl (.s 19 rfl .nil)) rfl (q_index rfl el26 rfl c146.1 c146.2)) <| dl rfl rfl rfl sh3 <| dm rfl rfl rfl <| dm rfl rfl rfl ?_
   obtain ⟨c147, h⟩ := ite_n h
   refine DK.cons rfl rfl (.p rfl (.s 22 rfl (.s 23 rfl .nil)) rfl (q_index rfl el26 rfl c147.1 c147.2)) <| dl rfl rfl rfl sh3 <| DK.cons rfl rfl (.p rfl (.s 21 rfl (.s 25 rfl .nil)) rfl (q_int rfl rfl)) <| DK.nil <| CSteps.nil <| QN.weaken (env' := [(26, _), (5, _), (1, _), (0, _)]) (.o4 rfl (.nil _)) <| QN.then_ ?_
   refine W.condP h rfl (fun hb148 h => ?_) (fun hb148 h => ?_)
   ·refine W.seq <| W.drawK [(0, false), (1, false), (2, false), (3, false), (4, false), (5, false), (6, false), (7, false), (8, false), (9, false)] [] (bm [0, 0, 3, 7, 0, 0, 48, 112, 255, 511]) mx (by kernel_rfl) <| dm rfl rfl rfl <| dm rfl rfl rfl ?_
    obtain ⟨c153, h⟩ := ite_n h
    refine DK.cons rfl rfl (.p rfl (.s 27 rfl (.s 28 rfl .nil)) rfl (q_index rfl el26 rfl c153.1 c153.2)) <| dl rfl rfl rfl sh3 <| dm rfl rfl rfl <| dm rfl rfl rfl ?_
    obtain ⟨c154, h⟩ := ite_n h
    refine DK.cons rfl rfl (.p rfl (.s 31 rfl (.s 32 rfl .nil)) rfl (q_index rfl el26 rfl c154.1 c154.2)) <| dl rfl rfl rfl sh3 <| DK.cons rfl rfl (.p rfl (.s 30 rfl (.s 34 rfl .nil)) rfl (q_int rfl rfl)) <| DK.cons rfl rfl (.p rfl (.s 35 rfl .nil) rfl (q_assign rfl)) <| DK.nil <| CSteps.nil <| QN.weaken (env' := [(4, _)]) (.one rfl (.nil _)) <| QN.then_ <| W.ret <| QR.block <| QR.then_ <| QR.then_ <| QR.block ?_
    refine QR.then_ ?_
    cases h
    exact QR.f1 rfl rfl (.t rfl) (.id _)
   ·refine W.skip <| QN.block <| QN.then_ <| W.region <| mv rfl rfl ?_
    obtain ⟨c155, h⟩ := ite_n h
    refine pk rfl 16 rfl (q_addR rfl c155) <| av rfl rfl <| WL.nil ?_
    exact next0 () (x5 + 1) _ h (.o2 rfl (.one rfl (.nil _)))
  ·refine W.exit <| QX.then_ <| QX.then_ <| QX.here <| QN.then_ <| sr <| mv rfl rfl <| p1 rfl 36 rfl (q_len rfl elS26) <| mv rfl rfl <| p1 rfl 38 rfl (q_len rfl elS26) <| p2 rfl 37 rfl 39 rfl (q_int rfl rfl) <| av rfl rfl ?_
   refine WL.nil <| QN.weaken (env' := [(4, _)]) (.one rfl (.nil _)) <| QN.then_ <| W.ret ?_
   cases h
   exact QR.f1 rfl rfl (.t rfl) (.id _)
 ·refine W.region <| mv rfl rfl <| mv rfl rfl <| p1 rfl 7 rfl (q_len rfl elS26) <| p2 rfl 6 rfl 8 rfl (q_int rfl rfl) <| mv rfl rfl ?_
  rcases bif_s h with ⟨hb156, h⟩ | ⟨hb156, h⟩
  ·refine wm rfl rfl rfl hb156 rfl rfl <| wm rfl rfl rfl hb156 rfl rfl <| wq rfl rfl rfl hb156 (.s 12 rfl .nil) (q_len rfl elS26).o <| wq rfl rfl rfl hb156 (.s 11 rfl (.s 13 rfl .nil)) (q_int rfl rfl).o <| p2 rfl 10 rfl 14 rfl (q_pickT rfl hb156) <| WL.nil ?_
   exact QN.weaken (.o4 rfl (.nil _)) (Kj140 () (decide (x5 < (a1.length : Int))) h)
  ·refine sk rfl rfl rfl hb156 <| sk rfl rfl rfl hb156 <| sk rfl rfl rfl hb156 <| sk rfl rfl rfl hb156 <| pk rfl 10 rfl (q_pickF rfl hb156) <| WL.nil ?_
   exact QN.weaken (.o4 rfl (.nil _)) (Kj140 () false h)
theorem ref15_Same.con (k : Nat) (a0 : Host) (a1 : Host) (r : Bool) (h : ref15_Same k a0 a1 = some r) : Con Tryz.prog 22 [] [AggA [SlcA kInt a0.fGraph.fNodes, SlcA kEdge a0.fGraph.fEdges, SlcA (kSl kInt) a0.fValues], AggA [SlcA kInt a1.fGraph.fNodes, SlcA kEdge a1.fGraph.fEdges, SlcA (kSl kInt) a1.fValues]] (RA (bA r)) := by
 unfold ref15_Same at h
 refine Con.of (N := 40) Tryz.func22 rfl rfl rfl fun w0_ fg_ => sr <| p1 rfl 0 rfl (q_box rfl (CellsOf.agg _)) <| p1 rfl 1 rfl (q_box rfl (CellsOf.agg _)) <| ak rfl <| nt <| W.seq <| W.seq ?_
 refine W.jn1 (Γ := Unit) (fun (_ : Unit) (x20 : Bool) => [(2, PtrA [SlcA kInt a0.fGraph.fNodes, SlcA kEdge a0.fGraph.fEdges, SlcA (kSl kInt) a0.fValues]), (3, PtrA [SlcA kInt a1.fGraph.fNodes, SlcA kEdge a1.fGraph.fEdges, SlcA (kSl kInt) a1.fValues]), (20, bA x20)]) (fun (_ : Unit) (_ : Bool) => []) h (fun _ x20 h => ?_) (fun j103 Kj103 h => ?_)
 ·refine QN.then_ ?_
  refine W.condP h rfl (fun hb104 h => ?_) (fun hb104 h => ?_)
  ·refine sr <| ak rfl <| nt <| W.ret <| QR.then_ ?_
   cases h
   exact QR.f1 rfl rfl (.t rfl) (.id _)
  ·refine W.skip <| QN.then_ <| W.seq <| sr <| ak rfl <| nt <| W.block ?_
   refine W.loop1 (Γ := Unit) (fun (_ : Unit) (x5 : Int) => [(2, PtrA [SlcA kInt a0.fGraph.fNodes, SlcA kEdge a0.fGraph.fEdges, SlcA (kSl kInt) a0.fValues]), (3, PtrA [SlcA kInt a1.fGraph.fNodes, SlcA kEdge a1.fGraph.fEdges, SlcA (kSl kInt) a1.fValues]), (5, iA x5)]) (fun (_ : Unit) (_ : Int) => []) h () (.o2 rfl (.one rfl (.nil _))) rfl (fun rec0 K0 next0 _ x5 h => ?_)
   unfold ref15_Same.b0 at h
   refine W.seq <| sr <| mv rfl rfl <| fd rfl rfl fo32_1 rfl <| ld rfl rfl sh30 <| p1 rfl 23 rfl (q_len rfl elS30) <| p2 rfl 21 rfl 24 rfl (q_int rfl rfl) <| nt ?_
   refine W.condP h rfl (fun hb129 h => ?_) (fun hb129 h => ?_)
   ·refine W.skip <| QN.then_ <| W.seq <| W.block <| W.seq <| W.drawK [(0, false), (1, false), (2, false), (3, false), (4, false), (5, false), (6, false), (7, false), (8, false), (9, false), (10, false), (11, false)] [] (bm [0, 1, 0, 7, 15, 0, 32, 0, 224, 480, 1023, 2047]) mx (by kernel_rfl) <| df rfl rfl rfl fo32_1 rfl <| dl rfl rfl rfl sh30 <| dm rfl rfl rfl ?_
    obtain ⟨c136, h⟩ := ite_n h
    refine DK.cons rfl rfl (.p rfl (.s 29 rfl (.s 30 rfl .nil)) rfl (q_index rfl el30 rfl c136.1 c136.2)) <| dl rfl rfl rfl sh26 <| df rfl rfl rfl fo32_1 rfl <| dl rfl rfl rfl sh30 <| dm rfl rfl rfl ?_
    obtain ⟨c137, h⟩ := ite_n h
    refine DK.cons rfl rfl (.p rfl (.s 34 rfl (.s 35 rfl .nil)) rfl (q_index rfl el30 rfl c137.1 c137.2)) <| dl rfl rfl rfl sh26 ?_
    obtain ⟨t138, ht138, h⟩ := bind_s h
    refine DK.cons rfl rfl (.p rfl (.s 32 rfl (.s 37 rfl .nil)) rfl (q_call (f := 65) (A := iA t138) (xs := [.tmp 32, .tmp 37]) («as» := [SlcA kInt (rd a0.fValues x5), SlcA kInt (rd a1.fValues x5)]) rfl ca65 (ref15_compare.con k (rd a0.fValues x5) (rd a1.fValues x5) t138 ht138) rfl)) <| DK.cons rfl rfl (.p rfl (.s 38 rfl (.k .nil)) rfl (q_int rfl rfl)) <| DK.nil <| CSteps.nil <| QN.weaken (env' := [(39, _), (5, _), (3, _), (2, _)]) (.o4 rfl (.nil _)) <| QN.then_ ?_
    refine W.condP h rfl (fun hb139 h => ?_) (fun hb139 h => ?_)
    ·refine sr <| ak rfl <| nt <| W.ret <| QR.block <| QR.then_ <| QR.then_ <| QR.block <| QR.then_ ?_
     cases h
     exact QR.f1 rfl rfl (.t rfl) (.id _)
    ·refine W.skip <| QN.block <| QN.then_ <| W.region <| mv rfl rfl ?_
     obtain ⟨c140, h⟩ := ite_n h
     refine pk rfl 26 rfl (q_addR rfl c140) <| av rfl rfl <| WL.nil ?_
     exact next0 () (x5 + 1) _ h (.o2 rfl (.one rfl (.nil _)))
   ·refine W.exit <| QX.then_ <| QX.then_ <| QX.here <| QN.weaken (env' := []) (.nil _) <| QN.then_ <| sr <| ak rfl <| nt <| W.ret ?_
    cases h
    exact QR.f1 rfl rfl (.t rfl) (.id _)
 ·refine W.region <| fd rfl rfl fo32_0 rfl <| lS rfl rfl sh29 rfl rfl <| fd rfl rfl fo32_0 rfl <| lS rfl rfl sh29 rfl rfl ?_
  obtain ⟨t141, ht141, h⟩ := bind_s h
  refine p2 rfl 7 rfl 9 rfl (q_call (f := 64) (A := bA t141) (xs := [.tmp 7, .tmp 9]) («as» := [AggA [SlcA kInt a0.fGraph.fNodes, SlcA kEdge a0.fGraph.fEdges], AggA [SlcA kInt a1.fGraph.fNodes, SlcA kEdge a1.fGraph.fEdges]]) rfl ca64 (ref05_Same.con k a0.fGraph a1.fGraph t141 ht141) rfl) <| p1 rfl 10 rfl (q_not rfl) <| mv rfl rfl ?_
  rcases bif_s h with ⟨hb142, h⟩ | ⟨hb142, h⟩
  ·refine sk rfl rfl rfl hb142 <| sk rfl rfl rfl hb142 <| sk rfl rfl rfl hb142 <| sk rfl rfl rfl hb142 <| sk rfl rfl rfl hb142 <| sk rfl rfl rfl hb142 <| sk rfl rfl rfl hb142 <| pk rfl 12 rfl (q_pickT rfl hb142) <| WL.nil ?_
   exact QN.weaken (.o2 rfl (.one rfl (.nil _))) (Kj103 () true h)
  ·refine wf rfl rfl rfl hb142 rfl rfl fo32_1 rfl <| wl rfl rfl rfl hb142 rfl rfl sh30 <| wq rfl rfl rfl hb142 (.s 14 rfl .nil) (q_len rfl elS30).o <| wf rfl rfl rfl hb142 rfl rfl fo32_1 rfl <| wl rfl rfl rfl hb142 rfl rfl sh30 <| wq rfl rfl rfl hb142 (.s 17 rfl .nil) (q_len rfl elS30).o <| wq rfl rfl rfl hb142 (.s 15 rfl (.s 18 rfl .nil)) (q_int rfl rfl).o <| p2 rfl 12 rfl 19 rfl (q_pickF rfl hb142) <| WL.nil ?_
   exact QN.weaken (.o2 rfl (.one rfl (.nil _))) (Kj103 () ((a0.fValues.length : Int) != (a1.fValues.length : Int)) h)
theorem slices_Equal_int.con (k : Nat) (a0 : (List Int)) (a1 : (List Int)) (r : Bool) (h : slices_Equal_int k a0 a1 = some r) : Con Tryz.prog 37 [] [SlcA kInt a0, SlcA kInt a1] (RA (bA r)) := by
 unfold slices_Equal_int at h
 refine Con.of (N := 26) Tryz.func37 rfl rfl rfl fun w0_ fg_ => sr <| ak rfl <| nt <| W.seq <| sr <| mv rfl rfl <| p1 rfl 6 rfl (q_len rfl elS26) <| mv rfl rfl <| p1 rfl 8 rfl (q_len rfl elS26) ?_
 refine p2 rfl 7 rfl 9 rfl (q_int rfl rfl) <| nt ?_
 refine W.condP h rfl (fun hb100 h => ?_) (fun hb100 h => ?_)
 ·refine sr <| ak rfl <| WL.nil <| QN.weaken (env' := [(4, _)]) (.one rfl (.nil _)) <| QN.then_ <| W.ret <| QR.then_ ?_
  cases h
  exact QR.f1 rfl rfl (.t rfl) (.id _)
 ·refine W.skip <| QN.then_ <| W.seq <| sr <| mv rfl rfl <| p1 rfl 11 rfl (q_len rfl elS26) <| mk_ rfl <| WL.nil <| QN.weaken (env' := [(13, _), (12, _), (1, _), (0, _)]) (.o4 rfl (.nil _)) <| QN.then_ <| W.block ?_
  refine W.loop1 (Γ := Unit) (fun (_ : Unit) (x13 : Int) => [(0, SlcA kInt a0), (1, SlcA kInt a1), (12, iA (a0.length : Int)), (13, iA x13)]) (fun (_ : Unit) (_ : Int) => []) h () (.o4 rfl (.nil _)) rfl (fun rec0 K0 next0 _ x13 h => ?_)
  unfold slices_Equal_int.b0 at h
  refine sr <| p2 rfl 13 rfl 12 rfl (q_int rfl rfl) <| nt <| W.seq ?_
  refine W.condP h rfl (fun hb119 h => ?_) (fun hb119 h => ?_)
  ·refine W.skip <| QN.then_ <| W.seq <| W.block <| sr <| mv rfl rfl <| av rfl rfl <| nt <| W.seq <| W.drawK [(0, false), (1, false), (2, false), (3, false), (4, false), (5, false), (6, false), (7, false), (8, false)] [] (bm [0, 0, 3, 7, 0, 0, 48, 112, 255]) mx (by kernel_rfl) <| dm rfl rfl rfl ?_
   refine dm rfl rfl rfl ?_
   obtain ⟨c124, h⟩ := ite_n h
   refine DK.cons rfl rfl (.p rfl (.s 16 rfl (.s 17 rfl .nil)) rfl (q_index rfl el26 rfl c124.1 c124.2)) <| dl rfl rfl rfl sh3 <| dm rfl rfl rfl <| dm rfl rfl rfl ?_
   obtain ⟨c125, h⟩ := ite_n h
   refine DK.cons rfl rfl (.p rfl (.s 20 rfl (.s 21 rfl .nil)) rfl (q_index rfl el26 rfl c125.1 c125.2)) <| dl rfl rfl rfl sh3 <| DK.cons rfl rfl (.p rfl (.s 19 rfl (.s 23 rfl .nil)) rfl (q_int rfl rfl)) <| DK.nil <| CSteps.nil <| QN.weaken (env' := [(24, _), (13, _), (12, _), (1, _), (0, _)]) (.o4 rfl (.one rfl (.nil _))) <| QN.then_ ?_
   refine W.condP h rfl (fun hb126 h => ?_) (fun hb126 h => ?_)
   ·refine sr <| ak rfl <| nt <| W.ret <| QR.block <| QR.then_ <| QR.then_ <| QR.block <| QR.then_ ?_
    cases h
    exact QR.f1 rfl rfl (.t rfl) (.id _)
   ·refine W.skip <| QN.block <| QN.then_ <| W.region ?_
    obtain ⟨c127, h⟩ := ite_n h
    refine pk rfl 13 rfl (q_addR rfl c127) <| mv rfl rfl <| WL.nil ?_
    exact next0 () (x13 + 1) _ h (.o4 rfl (.nil _))
  ·refine W.exit <| QX.then_ <| QX.then_ <| QX.here <| QN.then_ <| sr <| ak rfl <| nt <| W.ret ?_
   cases h
   exact QR.f1 rfl rfl (.t rfl) (.id _)
theorem slices_Equal_Excess.con (k : Nat) (a0 : (List Excess)) (a1 : (List Excess)) (r : Bool) (h : slices_Equal_Excess k a0 a1 = some r) : Con Tryz.prog 18 [] [SlcA kExcess a0, SlcA kExcess a1] (RA (bA r)) := by
 unfold slices_Equal_Excess at h
 refine Con.of (N := 26) Tryz.func18 rfl rfl rfl fun w0_ fg_ => sr <| ak rfl <| nt <| W.seq <| sr <| mv rfl rfl <| p1 rfl 6 rfl (q_len rfl elS39) <| mv rfl rfl <| p1 rfl 8 rfl (q_len rfl elS39) ?_
 refine p2 rfl 7 rfl 9 rfl (q_int rfl rfl) <| nt ?_
 refine W.condP h rfl (fun hb100 h => ?_) (fun hb100 h => ?_)
 ·refine sr <| ak rfl <| WL.nil <| QN.weaken (env' := [(4, _)]) (.one rfl (.nil _)) <| QN.then_ <| W.ret <| QR.then_ ?_
  cases h
  exact QR.f1 rfl rfl (.t rfl) (.id _)
 ·refine W.skip <| QN.then_ <| W.seq <| sr <| mv rfl rfl <| p1 rfl 11 rfl (q_len rfl elS39) <| mk_ rfl <| WL.nil <| QN.weaken (env' := [(13, _), (12, _), (1, _), (0, _)]) (.o4 rfl (.nil _)) <| QN.then_ <| W.block ?_
  refine W.loop1 (Γ := Unit) (fun (_ : Unit) (x13 : Int) => [(0, SlcA kExcess a0), (1, SlcA kExcess a1), (12, iA (a0.length : Int)), (13, iA x13)]) (fun (_ : Unit) (_ : Int) => []) h () (.o4 rfl (.nil _)) rfl (fun rec0 K0 next0 _ x13 h => ?_)
  unfold slices_Equal_Excess.b0 at h
  refine sr <| p2 rfl 13 rfl 12 rfl (q_int rfl rfl) <| nt <| W.seq ?_
  refine W.condP h rfl (fun hb119 h => ?_) (fun hb119 h => ?_)
  ·refine W.skip <| QN.then_ <| W.seq <| W.block <| sr <| mv rfl rfl <| av rfl rfl <| nt <| W.seq <| W.drawK [(0, false), (1, false), (2, false), (3, false), (4, false), (5, false), (6, false), (7, false), (8, false)] [] (bm [0, 0, 3, 7, 0, 0, 48, 112, 255]) mx (by kernel_rfl) <| dm rfl rfl rfl ?_
   refine dm rfl rfl rfl ?_
   obtain ⟨c124, h⟩ := ite_n h
   refine DK.cons rfl rfl (.p rfl (.s 16 rfl (.s 17 rfl .nil)) rfl (q_index rfl el39 rfl c124.1 c124.2)) <| DK.cons rfl rfl (.p rfl (.s 18 rfl .nil) rfl (q_loadS rfl sh44 (leB rfl) rfl)) <| dm rfl rfl rfl <| dm rfl rfl rfl ?_
   obtain ⟨c125, h⟩ := ite_n h
   refine DK.cons rfl rfl (.p rfl (.s 20 rfl (.s 21 rfl .nil)) rfl (q_index rfl el39 rfl c125.1 c125.2)) <| DK.cons rfl rfl (.p rfl (.s 22 rfl .nil) rfl (q_loadS rfl sh44 (leB rfl) rfl)) <| DK.cons rfl rfl (.p rfl (.s 19 rfl (.s 23 rfl .nil)) rfl (q_eqFn (ms := [Lf.i ((rd a0 x13).fEdge), Lf.i ((rd a0 x13).fNode), Lf.i ((rd a0 x13).fCount), Lf.b ((rd a0 x13).fOut)]) (ns := [Lf.i ((rd a1 x13).fEdge), Lf.i ((rd a1 x13).fNode), Lf.i ((rd a1 x13).fCount), Lf.b ((rd a1 x13).fOut)]) rfl fst44)) <| DK.nil <| CSteps.nil <| QN.weaken (env' := [(24, _), (13, _), (12, _), (1, _), (0, _)]) (.o4 rfl (.one rfl (.nil _))) <| QN.then_ ?_
   refine W.condP h rfl (fun hb126 h => ?_) (fun hb126 h => ?_)
   ·refine sr <| ak rfl <| nt <| W.ret <| QR.block <| QR.then_ <| QR.then_ <| QR.block <| QR.then_ ?_
    cases h
    exact QR.f1 rfl rfl (.t rfl) (.id _)
   ·refine W.skip <| QN.block <| QN.then_ <| W.region ?_
    obtain ⟨c127, h⟩ := ite_n h
    refine pk rfl 13 rfl (q_addR rfl c127) <| mv rfl rfl <| WL.nil ?_
    exact next0 () (x13 + 1) _ h (.o4 rfl (.nil _))
  ·refine W.exit <| QX.then_ <| QX.then_ <| QX.here <| QN.then_ <| sr <| ak rfl <| nt <| W.ret ?_
   cases h
   exact QR.f1 rfl rfl (.t rfl) (.id _)
theorem law15_awake.con (k : Nat) (r : Bool) (h : law15_awake k = some r) : Con Tryz.prog 11 [] [] (RA (bA r)) := by
 unfold law15_awake at h
 refine Con.of (N := 95) Tryz.func11 rfl rfl rfl fun w0_ fg_ => sr <| ak rfl <| nx ?_
 obtain ⟨t100, ht100, h⟩ := bind_s h
 refine WL.p rfl rfl rfl .nil (q_call (f := 24) (A := AggA [SlcA kNodeType t100.fNodes, SlcA kEdgeType t100.fEdges]) (xs := []) («as» := []) rfl ca24 (ref04_Example.con k  t100 ht100) rfl) ?_
 obtain ⟨t101, ht101, h⟩ := bind_s h
 refine WL.p rfl rfl rfl .nil (q_call (f := 41) (A := AggA [SlcA kInt t101.fGraph.fNodes, SlcA kEdge t101.fGraph.fEdges, SlcA (kSl kInt) t101.fValues]) (xs := []) («as» := []) rfl ca41 (law15_example.con k  t101 ht101) rfl) <| WL.w [] rfl (Wanted.plain rfl) rfl rfl .nil (w_alloc rfl z25 (l := [EqA (.slice none 0 0), EqA (.slice none 0 0)]) rfl) ?_
 rintro _ _ ⟨b102, rfl, rfl⟩
 refine WL.w [] rfl (Wanted.plain rfl) rfl rfl .nil (w_alloc rfl z32 (l := [EqA (.slice none 0 0), EqA (.slice none 0 0), EqA (.slice none 0 0)]) rfl) ?_
 rintro _ _ ⟨b103, rfl, rfl⟩
 refine WL.w0 [1] rfl (Wanted.plain rfl) rfl (.s 1 rfl (.s 13 rfl .nil)) (w_store (L := [SlcA kNodeType t100.fNodes, SlcA kEdgeType t100.fEdges]) rfl sh25 (CellsOf.agg _) rfl rfl (leB rfl) rfl) ?_
 rintro _ _ ⟨rfl, rfl⟩
 refine WL.w0 [1] rfl (Wanted.plain rfl) rfl (.s 2 rfl (.s 14 rfl .nil)) (w_store (L := [SlcA kInt t101.fGraph.fNodes, SlcA kEdge t101.fGraph.fEdges, SlcA (kSl kInt) t101.fValues]) rfl sh32 (CellsOf.agg _) rfl rfl (leB rfl) rfl) ?_
 rintro _ _ ⟨rfl, rfl⟩
 refine WL.nil <| QN.to (StTo.still [1] 1 rfl rfl) <| QN.then_ <| sr <| lS rfl rfl sh25 rfl rfl <| WL.q (Wanted.plain rfl) rfl rfl (.s 2 rfl .nil) (q_loadBS (l' := [SlcA kInt t101.fGraph.fNodes, SlcA kEdge t101.fGraph.fEdges, SlcA (kSl kInt) t101.fValues]) rfl sh32 (i := 0) rfl rfl rfl) ?_
 obtain ⟨t104, ht104, h⟩ := bind_s h
 refine p2 rfl 16 rfl 17 rfl (q_call (f := 13) (A := TupA [iA t104.1, iA t104.2]) (xs := [.tmp 16, .tmp 17]) («as» := [AggA [SlcA kNodeType t100.fNodes, SlcA kEdgeType t100.fEdges], AggA [SlcA kInt t101.fGraph.fNodes, SlcA kEdge t101.fGraph.fEdges, SlcA (kSl kInt) t101.fValues]]) rfl ca13 (host_Valid.con k t100 t101 t104 ht104) rfl) <| mv rfl rfl <| p1 rfl 15 rfl (q_extract rfl rfl) <| p1 rfl 15 rfl (q_extract rfl rfl) <| av rfl rfl <| av rfl rfl <| WL.nil <| QN.weaken (env' := [(4, _), (3, _), (2, _), (1, _)]) (.o4 rfl (.nil _)) <| QN.then_ <| sr <| lS rfl rfl sh25 rfl rfl <| WL.q (Wanted.plain rfl) rfl rfl (.s 2 rfl .nil) (q_loadBS (l' := [SlcA kInt t101.fGraph.fNodes, SlcA kEdge t101.fGraph.fEdges, SlcA (kSl kInt) t101.fValues]) rfl sh32 (i := 0) rfl rfl rfl) ?_
 obtain ⟨t105, ht105, h⟩ := bind_s h
 refine p2 rfl 22 rfl 23 rfl (q_call (f := 16) (A := TupA [SlcA kExcess t105.1, iA t105.2]) (xs := [.tmp 22, .tmp 23]) («as» := [AggA [SlcA kNodeType t100.fNodes, SlcA kEdgeType t100.fEdges], AggA [SlcA kInt t101.fGraph.fNodes, SlcA kEdge t101.fGraph.fEdges, SlcA (kSl kInt) t101.fValues]]) rfl ca16 (host_Excesses.con k t100 t101 t105 ht105) rfl) <| mv rfl rfl <| p1 rfl 21 rfl (q_extract rfl rfl) <| p1 rfl 21 rfl (q_extract rfl rfl) <| av rfl rfl <| av rfl rfl <| nx <| lS rfl rfl sh25 rfl rfl <| WL.q (Wanted.plain rfl) rfl rfl (.s 2 rfl .nil) (q_loadBS (l' := [SlcA kInt t101.fGraph.fNodes, SlcA kEdge t101.fGraph.fEdges, SlcA (kSl kInt) t101.fValues]) rfl sh32 (i := 0) rfl rfl rfl) ?_
 obtain ⟨t106, ht106, h⟩ := bind_s h
 refine p2 rfl 28 rfl 29 rfl (q_call (f := 20) (A := TupA [AggA [SlcA kInt t106.1.fGraph.fNodes, SlcA kEdge t106.1.fGraph.fEdges, SlcA (kSl kInt) t106.1.fValues], AggA [SlcA kInt t106.2.1.fNodes, SlcA kInt t106.2.1.fEdges], iA t106.2.2]) (xs := [.tmp 28, .tmp 29]) («as» := [AggA [SlcA kNodeType t100.fNodes, SlcA kEdgeType t100.fEdges], AggA [SlcA kInt t101.fGraph.fNodes, SlcA kEdge t101.fGraph.fEdges, SlcA (kSl kInt) t101.fValues]]) rfl ca20 (host_Canonical.con k t100 t101 t106 ht106) rfl) <| mv rfl rfl <| p1 rfl 27 rfl (q_extract rfl rfl) <| p1 rfl 27 rfl (q_extract rfl rfl) <| p1 rfl 27 rfl (q_extract rfl rfl) <| WL.w [] rfl (Wanted.plain rfl) rfl rfl .nil (w_alloc rfl z32 (l := [EqA (.slice none 0 0), EqA (.slice none 0 0), EqA (.slice none 0 0)]) rfl) ?_
 rintro _ _ ⟨b107, rfl, rfl⟩
 refine WL.w [] rfl (Wanted.plain rfl) rfl rfl .nil (w_alloc rfl z47 (l := [EqA (.slice none 0 0), EqA (.slice none 0 0)]) rfl) ?_
 rintro _ _ ⟨b108, rfl, rfl⟩
 refine WL.w0 [1] rfl (Wanted.plain rfl) rfl (.s 7 rfl (.s 31 rfl .nil)) (w_store (L := [SlcA kInt t106.1.fGraph.fNodes, SlcA kEdge t106.1.fGraph.fEdges, SlcA (kSl kInt) t106.1.fValues]) rfl sh32 (CellsOf.agg _) rfl rfl (leB rfl) rfl) ?_
 rintro _ _ ⟨rfl, rfl⟩
 refine WL.w0 [1] rfl (Wanted.plain rfl) rfl (.s 8 rfl (.s 32 rfl .nil)) (w_store (L := [SlcA kInt t106.2.1.fNodes, SlcA kInt t106.2.1.fEdges]) rfl sh47 (CellsOf.agg _) rfl rfl (leB rfl) rfl) ?_
 rintro _ _ ⟨rfl, rfl⟩
 refine av rfl rfl <| WL.nil <| QN.to (StTo.still [1] 7 rfl rfl) <| QN.to (StTo.still [0] 8 rfl rfl) <| QN.weaken (env' := [(9, _), (8, _), (7, _), (6, _), (5, _), (4, _), (3, _), (2, _), (1, _)]) (.o4 rfl (.o4 rfl (.one rfl (.nil _)))) <| QN.then_ <| sr <| p1 rfl 2 rfl (q_fieldP rfl fo32_0) <| p1 rfl 34 rfl (q_fieldP rfl fo29_1) <| WL.q (Wanted.plain rfl) rfl rfl (.s 35 rfl .nil) (q_loadB rfl sh27 (i := 0) rfl rfl) ?_
 obtain ⟨c109, h⟩ := ite_n h
 refine pk rfl 36 rfl (q_subH rfl el27 rfl c109.1 c109.2) <| p1 rfl 2 rfl (q_fieldP rfl fo32_0) <| p1 rfl 38 rfl (q_fieldP rfl fo29_1) <| WL.w0 [0] rfl (Wanted.plain rfl) rfl (.s 39 rfl (.s 37 rfl .nil)) (w_store (L := [SlcA kInt t101.fGraph.fNodes, SlcA kEdge (t101.fGraph.fEdges.take (1 : Int).toNat), SlcA (kSl kInt) t101.fValues]) rfl sh27 (CellsOf.one rfl) rfl rfl (leB rfl) rfl) ?_
 rintro _ _ ⟨rfl, rfl⟩
 refine nx <| lS rfl rfl sh25 rfl rfl <| WL.q (Wanted.plain rfl) rfl rfl (.s 2 rfl .nil) (q_loadBS (l' := [SlcA kInt t101.fGraph.fNodes, SlcA kEdge (t101.fGraph.fEdges.take (1 : Int).toNat), SlcA (kSl kInt) t101.fValues]) rfl sh32 (i := 0) rfl rfl rfl) ?_
 obtain ⟨t110, ht110, h⟩ := bind_s h
 refine p2 rfl 41 rfl 42 rfl (q_call (f := 16) (A := TupA [SlcA kExcess t110.1, iA t110.2]) (xs := [.tmp 41, .tmp 42]) («as» := [AggA [SlcA kNodeType t100.fNodes, SlcA kEdgeType t100.fEdges], AggA [SlcA kInt t101.fGraph.fNodes, SlcA kEdge (t101.fGraph.fEdges.take (1 : Int).toNat), SlcA (kSl kInt) t101.fValues]]) rfl ca16 (host_Excesses.con k t100 (Host.mk (Graph.mk t101.fGraph.fNodes (t101.fGraph.fEdges.take (1 : Int).toNat)) t101.fValues) t110 ht110) rfl) <| mv rfl rfl <| p1 rfl 40 rfl (q_extract rfl rfl) <| p1 rfl 40 rfl (q_extract rfl rfl) <| av rfl rfl <| av rfl rfl <| WL.nil <| QN.weaken (env' := [(11, _), (10, _), (9, _), (8, _), (7, _), (6, _), (5, _), (4, _), (3, _)]) (.o4 rfl (.o4 rfl (.one rfl (.nil _)))) <| QN.then_ <| sr <| WL.p rfl rfl rfl (.k (.k (.k .nil))) (q_lit (kd := kInt) (ps := [(0, .const (.int .i64 1)), (1, .const (.int .i64 1)), (2, .const (.int .i64 3))]) (xs := [.const (.int .i64 1), .const (.int .i64 1), .const (.int .i64 3)]) («as» := [iA 1, iA 1, iA 3]) (ys := [1, 1, 3]) rfl rfl el26 rfl gr3 rfl rfl rfl (.cons (CellsOf.one rfl) (.cons (CellsOf.one rfl) (.cons (CellsOf.one rfl) .nil)))) <| WL.p rfl rfl rfl (.k (.k (.k .nil))) (q_build (is := [0, 1, 2]) (xs := [.const (.int .i64 0), .const (.int .i64 2), .const (.int .i64 0)]) (L := [iA 0, iA 2, iA 0]) rfl rfl z63 pl63 rfl rfl (.cons (CellsOf.one rfl) (.cons (CellsOf.one rfl) (.cons (CellsOf.one rfl) .nil))) rfl) ?_
 refine WL.p rfl rfl rfl (.k (.k (.k .nil))) (q_build (is := [0, 1, 2]) (xs := [.const (.int .i64 0), .const (.int .i64 2), .const (.int .i64 1)]) (L := [iA 0, iA 2, iA 1]) rfl rfl z63 pl63 rfl rfl (.cons (CellsOf.one rfl) (.cons (CellsOf.one rfl) (.cons (CellsOf.one rfl) .nil))) rfl) <| p2 rfl 47 rfl 48 rfl (q_lit (kd := kEdge) (ps := [(0, .tmp 47), (1, .tmp 48)]) (xs := [.tmp 47, .tmp 48]) («as» := [AggA [iA 0, iA 2, iA 0], AggA [iA 0, iA 2, iA 1]]) (ys := [(Edge.mk 0 2 0), (Edge.mk 0 2 1)]) rfl rfl el27 rfl gr63 rfl rfl rfl (.cons (CellsOf.agg _) (.cons (CellsOf.agg _) .nil))) <| p2 rfl 46 rfl 49 rfl (q_build (is := [0, 1]) (xs := [.tmp 46, .tmp 49]) (L := [SlcA kInt [1, 1, 3], SlcA kEdge [(Edge.mk 0 2 0), (Edge.mk 0 2 1)]]) rfl rfl z29 pl29 rfl rfl (.cons (CellsOf.one rfl) (.cons (CellsOf.one rfl) .nil)) rfl) <| WL.p rfl rfl rfl (.k .nil) (q_lit (kd := kInt) (ps := [(0, .const (.int .i64 5))]) (xs := [.const (.int .i64 5)]) («as» := [iA 5]) (ys := [5]) rfl rfl el26 rfl gr3 rfl rfl rfl (.cons (CellsOf.one rfl) .nil)) <| WL.p rfl rfl rfl (.k .nil) (q_lit (kd := kInt) (ps := [(0, .const (.int .i64 10))]) (xs := [.const (.int .i64 10)]) («as» := [iA 10]) (ys := [10]) rfl rfl el26 rfl gr3 rfl rfl rfl (.cons (CellsOf.one rfl) .nil)) <| WL.p rfl rfl rfl (.s 51 rfl (.s 52 rfl (.k .nil))) (QS.args (q_lit (kd := (kSl kInt)) (ps := [(0, .tmp 51), (1, .tmp 52), (2, .const (.slice none 0 0))]) (xs := [.tmp 51, .tmp 52, .const (.slice none 0 0)]) («as» := [SlcA kInt [5], SlcA kInt [10], SlcA kInt []]) (ys := [[5], [10], []]) rfl rfl el30 rfl gr26 rfl rfl rfl (.cons (CellsOf.one rfl) (.cons (CellsOf.one rfl) (.cons (CellsOf.one rfl) .nil)))) (.cons (Imp.id _) (.cons (Imp.id _) (.cons (Imp.nil kInt) .nil)))) <| p2 rfl 50 rfl 53 rfl (q_build (is := [0, 1]) (xs := [.tmp 50, .tmp 53]) (L := [SlcA kInt [1, 1, 3], SlcA kEdge [(Edge.mk 0 2 0), (Edge.mk 0 2 1)], SlcA (kSl kInt) ([[5], [10], []])]) rfl rfl z32 pl32 rfl rfl (.cons (CellsOf.agg _) (.cons (CellsOf.one rfl) .nil)) rfl) <| WL.w [] rfl (Wanted.plain rfl) rfl rfl .nil (w_alloc rfl z32 (l := [EqA (.slice none 0 0), EqA (.slice none 0 0), EqA (.slice none 0 0)]) rfl) ?_
 rintro _ _ ⟨b111, rfl, rfl⟩
 refine WL.w0 [0] rfl (Wanted.plain rfl) rfl (.s 12 rfl (.s 54 rfl .nil)) (w_store (L := [SlcA kInt [1, 1, 3], SlcA kEdge [(Edge.mk 0 2 0), (Edge.mk 0 2 1)], SlcA (kSl kInt) ([[5], [10], []])]) rfl sh32 (CellsOf.agg _) rfl rfl (leB rfl) rfl) ?_
 rintro _ _ ⟨rfl, rfl⟩
 refine WL.nil <| QN.to (StTo.still [0] 12 rfl rfl) <| QN.weaken (env' := [(12, _), (11, _), (10, _), (9, _), (8, _), (7, _), (6, _), (5, _), (4, _), (3, _)]) (.o4 rfl (.o4 rfl (.o2 rfl (.nil _)))) <| QN.then_ <| W.seq ?_
 refine W.jn1 (Γ := Unit) (fun (_ : Unit) (x0 : Bool) => [(0, bA x0)]) (fun (_ : Unit) (_ : Bool) => []) h (fun _ x0 h => ?_) (fun j124 Kj124 h => ?_)
 ·refine QN.then_ <| W.ret ?_
  cases h
  exact QR.f1 rfl rfl (.t rfl) (.id _)
 ·refine W.region <| mv rfl rfl <| pk rfl 55 rfl (q_int rfl rfl) <| mv rfl rfl ?_
  rcases bif_s h with ⟨hb125, h⟩ | ⟨hb125, h⟩
  ·refine wm rfl rfl rfl hb125 rfl rfl <| wq rfl rfl rfl hb125 (.s 58 rfl (.k .nil)) (q_int rfl rfl).o <| p2 rfl 57 rfl 59 rfl (q_pickT rfl hb125) <| mv rfl rfl ?_
   rcases bif_s h with ⟨hb126, h⟩ | ⟨hb126, h⟩
   ·refine wm rfl rfl rfl hb126 rfl rfl <| wq rfl rfl rfl hb126 (.s 62 rfl (.k .nil)) (q_int rfl rfl).o <| p2 rfl 61 rfl 63 rfl (q_pickT rfl hb126) <| mv rfl rfl ?_
    rcases bif_s h with ⟨hb127, h⟩ | ⟨hb127, h⟩
    ·refine wm rfl rfl rfl hb127 rfl rfl <| wq rfl rfl rfl hb127 (.s 66 rfl (.k .nil)) (q_int rfl rfl).o <| p2 rfl 65 rfl 67 rfl (q_pickT rfl hb127) <| mv rfl rfl ?_
     rcases bif_s h with ⟨hb128, h⟩ | ⟨hb128, h⟩
     ·refine wm rfl rfl rfl hb128 rfl rfl <| wq rfl rfl rfl hb128 (.s 70 rfl (.k .nil)) (q_int rfl rfl).o <| p2 rfl 69 rfl 71 rfl (q_pickT rfl hb128) <| mv rfl rfl ?_
      rcases bif_s h with ⟨hb129, h⟩ | ⟨hb129, h⟩
      ·refine wm rfl rfl rfl hb129 rfl rfl <| wq rfl rfl rfl hb129 (.s 74 rfl .nil) (q_len rfl elS39).o <| wq rfl rfl rfl hb129 (.s 75 rfl (.k .nil)) (q_int rfl rfl).o <| p2 rfl 73 rfl 76 rfl (q_pickT rfl hb129) <| mv rfl rfl ?_
       rcases bif_s h with ⟨hb130, h⟩ | ⟨hb130, h⟩
       ·refine wq rfl rfl rfl hb130 (.s 7 rfl .nil) (q_loadS rfl sh32 (leB rfl) rfl).o <| wq rfl rfl rfl hb130 (.s 12 rfl .nil) (q_loadS rfl sh32 (leB rfl) rfl).o ?_
        obtain ⟨t131, ht131, h⟩ := bind_s h
        refine wq rfl rfl rfl hb130 (.s 79 rfl (.s 80 rfl .nil)) (q_call (f := 22) (A := bA t131) (xs := [.tmp 79, .tmp 80]) («as» := [AggA [SlcA kInt t106.1.fGraph.fNodes, SlcA kEdge t106.1.fGraph.fEdges, SlcA (kSl kInt) t106.1.fValues], AggA [SlcA kInt [1, 1, 3], SlcA kEdge [(Edge.mk 0 2 0), (Edge.mk 0 2 1)], SlcA (kSl kInt) ([[5], [10], []])]]) rfl ca22 (ref15_Same.con k t106.1 (Host.mk (Graph.mk [1, 1, 3] [(Edge.mk 0 2 0), (Edge.mk 0 2 1)]) ([[5], [10], []])) t131 ht131) rfl).o <| p2 rfl 78 rfl 81 rfl (q_pickT rfl hb130) <| mv rfl rfl ?_
        rcases bif_s h with ⟨hb132, h⟩ | ⟨hb132, h⟩
        ·refine wf rfl rfl rfl hb132 rfl rfl fo47_0 rfl <| wl rfl rfl rfl hb132 rfl rfl sh26 <| wq rfl rfl rfl hb132 (.k (.k (.k .nil))) (q_lit (kd := kInt) (ps := [(0, .const (.int .i64 2)), (1, .const (.int .i64 1)), (2, .const (.int .i64 0))]) (xs := [.const (.int .i64 2), .const (.int .i64 1), .const (.int .i64 0)]) («as» := [iA 2, iA 1, iA 0]) (ys := [2, 1, 0]) rfl rfl el26 rfl gr3 rfl rfl rfl (.cons (CellsOf.one rfl) (.cons (CellsOf.one rfl) (.cons (CellsOf.one rfl) .nil)))).o ?_
         obtain ⟨t133, ht133, h⟩ := bind_s h
         refine wq rfl rfl rfl hb132 (.s 85 rfl (.s 86 rfl .nil)) (q_call (f := 37) (A := bA t133) (xs := [.tmp 85, .tmp 86]) («as» := [SlcA kInt t106.2.1.fNodes, SlcA kInt [2, 1, 0]]) rfl ca37 (slices_Equal_int.con k t106.2.1.fNodes [2, 1, 0] t133 ht133) rfl).o <| p2 rfl 83 rfl 87 rfl (q_pickT rfl hb132) <| mv rfl rfl ?_
         rcases bif_s h with ⟨hb134, h⟩ | ⟨hb134, h⟩
         ·refine wm rfl rfl rfl hb134 rfl rfl <| wq rfl rfl rfl hb134 (.k (.k (.k (.k .nil)))) (q_build (is := [0, 1, 2, 3]) (xs := [.const (.int .i64 0), .const (.int .i64 2), .const (.int .i64 0), .const (.bool false)]) (L := [iA 0, iA 2, iA 0, bA false]) rfl rfl z44 pl44 rfl rfl (.cons (CellsOf.one rfl) (.cons (CellsOf.one rfl) (.cons (CellsOf.one rfl) (.cons (CellsOf.one rfl) .nil)))) rfl).o <| wq rfl rfl rfl hb134 (.s 91 rfl .nil) (q_lit (kd := kExcess) (ps := [(0, .tmp 91)]) (xs := [.tmp 91]) («as» := [AggA [iA 0, iA 2, iA 0, bA false]]) (ys := [(Excess.mk 0 2 0 false)]) rfl rfl el39 rfl gr44 rfl rfl rfl (.cons (CellsOf.agg _) .nil)).o ?_
          obtain ⟨t135, ht135, h⟩ := bind_s h
          refine wq rfl rfl rfl hb134 (.s 90 rfl (.s 92 rfl .nil)) (q_call (f := 18) (A := bA t135) (xs := [.tmp 90, .tmp 92]) («as» := [SlcA kExcess t110.1, SlcA kExcess [(Excess.mk 0 2 0 false)]]) rfl ca18 (slices_Equal_Excess.con k t110.1 [(Excess.mk 0 2 0 false)] t135 ht135) rfl).o <| p2 rfl 89 rfl 93 rfl (q_pickT rfl hb134) <| av rfl rfl <| WL.nil <| QN.drop [0] rfl ?_
          exact QN.weaken (.one rfl (.nil _)) (Kj124 () t135 h)
         ·refine sk rfl rfl rfl hb134 <| sk rfl rfl rfl hb134 <| sk rfl rfl rfl hb134 <| sk rfl rfl rfl hb134 <| pk rfl 89 rfl (q_pickF rfl hb134) <| av rfl rfl <| WL.nil <| QN.drop [0] rfl ?_
          exact QN.weaken (.one rfl (.nil _)) (Kj124 () false h)
        ·refine sk rfl rfl rfl hb132 <| sk rfl rfl rfl hb132 <| sk rfl rfl rfl hb132 <| sk rfl rfl rfl hb132 <| pk rfl 83 rfl (q_pickF rfl hb132) <| mv rfl rfl <| sk rfl rfl rfl rfl <| sk rfl rfl rfl rfl <| sk rfl rfl rfl rfl <| sk rfl rfl rfl rfl <| pk rfl 89 rfl (q_pickF rfl rfl) <| av rfl rfl <| WL.nil ?_
         refine QN.drop [0] rfl ?_
         exact QN.weaken (.one rfl (.nil _)) (Kj124 () false h)
       ·refine sk rfl rfl rfl hb130 <| sk rfl rfl rfl hb130 <| sk rfl rfl rfl hb130 <| pk rfl 78 rfl (q_pickF rfl hb130) <| mv rfl rfl <| sk rfl rfl rfl rfl <| sk rfl rfl rfl rfl <| sk rfl rfl rfl rfl <| sk rfl rfl rfl rfl <| pk rfl 83 rfl (q_pickF rfl rfl) <| mv rfl rfl <| sk rfl rfl rfl rfl <| sk rfl rfl rfl rfl ?_
        refine sk rfl rfl rfl rfl <| sk rfl rfl rfl rfl <| pk rfl 89 rfl (q_pickF rfl rfl) <| av rfl rfl <| WL.nil <| QN.drop [0] rfl ?_
        exact QN.weaken (.one rfl (.nil _)) (Kj124 () false h)
      ·refine sk rfl rfl rfl hb129 <| sk rfl rfl rfl hb129 <| sk rfl rfl rfl hb129 <| pk rfl 73 rfl (q_pickF rfl hb129) <| mv rfl rfl <| sk rfl rfl rfl rfl <| sk rfl rfl rfl rfl <| sk rfl rfl rfl rfl <| pk rfl 78 rfl (q_pickF rfl rfl) <| mv rfl rfl <| sk rfl rfl rfl rfl <| sk rfl rfl rfl rfl <| sk rfl rfl rfl rfl ?_
       refine sk rfl rfl rfl rfl <| pk rfl 83 rfl (q_pickF rfl rfl) <| mv rfl rfl <| sk rfl rfl rfl rfl <| sk rfl rfl rfl rfl <| sk rfl rfl rfl rfl <| sk rfl rfl rfl rfl <| pk rfl 89 rfl (q_pickF rfl rfl) <| av rfl rfl <| WL.nil <| QN.drop [0] rfl ?_
       exact QN.weaken (.one rfl (.nil _)) (Kj124 () false h)
     ·refine sk rfl rfl rfl hb128 <| sk rfl rfl rfl hb128 <| pk rfl 69 rfl (q_pickF rfl hb128) <| mv rfl rfl <| sk rfl rfl rfl rfl <| sk rfl rfl rfl rfl <| sk rfl rfl rfl rfl <| pk rfl 73 rfl (q_pickF rfl rfl) <| mv rfl rfl <| sk rfl rfl rfl rfl <| sk rfl rfl rfl rfl <| sk rfl rfl rfl rfl <| pk rfl 78 rfl (q_pickF rfl rfl) ?_
      refine mv rfl rfl <| sk rfl rfl rfl rfl <| sk rfl rfl rfl rfl <| sk rfl rfl rfl rfl <| sk rfl rfl rfl rfl <| pk rfl 83 rfl (q_pickF rfl rfl) <| mv rfl rfl <| sk rfl rfl rfl rfl <| sk rfl rfl rfl rfl <| sk rfl rfl rfl rfl <| sk rfl rfl rfl rfl <| pk rfl 89 rfl (q_pickF rfl rfl) <| av rfl rfl ?_
      refine WL.nil <| QN.drop [0] rfl ?_
      exact QN.weaken (.one rfl (.nil _)) (Kj124 () false h)
    ·refine sk rfl rfl rfl hb127 <| sk rfl rfl rfl hb127 <| pk rfl 65 rfl (q_pickF rfl hb127) <| mv rfl rfl <| sk rfl rfl rfl rfl <| sk rfl rfl rfl rfl <| pk rfl 69 rfl (q_pickF rfl rfl) <| mv rfl rfl <| sk rfl rfl rfl rfl <| sk rfl rfl rfl rfl <| sk rfl rfl rfl rfl <| pk rfl 73 rfl (q_pickF rfl rfl) <| mv rfl rfl ?_
     refine sk rfl rfl rfl rfl <| sk rfl rfl rfl rfl <| sk rfl rfl rfl rfl <| pk rfl 78 rfl (q_pickF rfl rfl) <| mv rfl rfl <| sk rfl rfl rfl rfl <| sk rfl rfl rfl rfl <| sk rfl rfl rfl rfl <| sk rfl rfl rfl rfl <| pk rfl 83 rfl (q_pickF rfl rfl) <| mv rfl rfl <| sk rfl rfl rfl rfl <| sk rfl rfl rfl rfl ?_
     refine sk rfl rfl rfl rfl <| sk rfl rfl rfl rfl <| pk rfl 89 rfl (q_pickF rfl rfl) <| av rfl rfl <| WL.nil <| QN.drop [0] rfl ?_
     exact QN.weaken (.one rfl (.nil _)) (Kj124 () false h)
   ·refine sk rfl rfl rfl hb126 <| sk rfl rfl rfl hb126 <| pk rfl 61 rfl (q_pickF rfl hb126) <| mv rfl rfl <| sk rfl rfl rfl rfl <| sk rfl rfl rfl rfl <| pk rfl 65 rfl (q_pickF rfl rfl) <| mv rfl rfl <| sk rfl rfl rfl rfl <| sk rfl rfl rfl rfl <| pk rfl 69 rfl (q_pickF rfl rfl) <| mv rfl rfl <| sk rfl rfl rfl rfl ?_
    refine sk rfl rfl rfl rfl <| sk rfl rfl rfl rfl <| pk rfl 73 rfl (q_pickF rfl rfl) <| mv rfl rfl <| sk rfl rfl rfl rfl <| sk rfl rfl rfl rfl <| sk rfl rfl rfl rfl <| pk rfl 78 rfl (q_pickF rfl rfl) <| mv rfl rfl <| sk rfl rfl rfl rfl <| sk rfl rfl rfl rfl <| sk rfl rfl rfl rfl <| sk rfl rfl rfl rfl ?_
    refine pk rfl 83 rfl (q_pickF rfl rfl) <| mv rfl rfl <| sk rfl rfl rfl rfl <| sk rfl rfl rfl rfl <| sk rfl rfl rfl rfl <| sk rfl rfl rfl rfl <| pk rfl 89 rfl (q_pickF rfl rfl) <| av rfl rfl <| WL.nil <| QN.drop [0] rfl ?_
    exact QN.weaken (.one rfl (.nil _)) (Kj124 () false h)
  ·refine sk rfl rfl rfl hb125 <| sk rfl rfl rfl hb125 <| pk rfl 57 rfl (q_pickF rfl hb125) <| mv rfl rfl <| sk rfl rfl rfl rfl <| sk rfl rfl rfl rfl <| pk rfl 61 rfl (q_pickF rfl rfl) <| mv rfl rfl <| sk rfl rfl rfl rfl <| sk rfl rfl rfl rfl <| pk rfl 65 rfl (q_pickF rfl rfl) <| mv rfl rfl <| sk rfl rfl rfl rfl ?_
   refine sk rfl rfl rfl rfl <| pk rfl 69 rfl (q_pickF rfl rfl) <| mv rfl rfl <| sk rfl rfl rfl rfl <| sk rfl rfl rfl rfl <| sk rfl rfl rfl rfl <| pk rfl 73 rfl (q_pickF rfl rfl) <| mv rfl rfl <| sk rfl rfl rfl rfl <| sk rfl rfl rfl rfl <| sk rfl rfl rfl rfl <| pk rfl 78 rfl (q_pickF rfl rfl) <| mv rfl rfl ?_
   refine sk rfl rfl rfl rfl <| sk rfl rfl rfl rfl <| sk rfl rfl rfl rfl <| sk rfl rfl rfl rfl <| pk rfl 83 rfl (q_pickF rfl rfl) <| mv rfl rfl <| sk rfl rfl rfl rfl <| sk rfl rfl rfl rfl <| sk rfl rfl rfl rfl <| sk rfl rfl rfl rfl <| pk rfl 89 rfl (q_pickF rfl rfl) <| av rfl rfl <| WL.nil ?_
   refine QN.drop [0] rfl ?_
   exact QN.weaken (.one rfl (.nil _)) (Kj124 () false h)
end Go.Proofs.YthmdmchmmgmblaaGreat
