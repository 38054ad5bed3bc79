/- The Go functions compute the pure ones. (Printed by gen.py.) -/
import Derived.Test.YtcgdfjpeboiioaaGreatC4
namespace Go.Proofs.YtcgdfjpeboiioaaGreat
open Go Go.Abs
attribute [local irreducible] Tryz.prog
theorem search_found.con (k : Nat) (a0 : Types) (a1 : Graph) (a2 : Graph) (a3 : OMorphism) (a4 : Bool) (a5 : Int) (r : (List Morphism)) (h : search_found k a0 a1 a2 a3 a4 a5 = some r) : Con Tryz.prog 170 [] [AggA [SlcA kNodeType a0.fNodes, SlcA kEdgeType a0.fEdges], AggA [SlcA kInt a1.fNodes, SlcA kEdge a1.fEdges], AggA [SlcA kInt a2.fNodes, SlcA kEdge a2.fEdges], AggA [OptA kInt a3.fNodes, OptA kInt a3.fEdges], bA a4, iA a5] (RA (SlcA kMorphism r)) := by
 unfold search_found at h
 refine Con.of (N := 29) Tryz.func170 rfl rfl rfl fun w0_ fg_ => sr <| p1 rfl 0 rfl (q_box rfl (CellsOf.agg _)) <| p1 rfl 1 rfl (q_box rfl (CellsOf.agg _)) <| p1 rfl 2 rfl (q_box rfl (CellsOf.agg _)) <| p1 rfl 3 rfl (q_box rfl (CellsOf.agg _)) <| ak rfl <| nt <| W.seq <| W.drawK [(0, false), (1, false), (2, false), (3, false), (4, false), (5, false), (6, false), (7, false)] [8, 9] (bm [0, 0, 0, 4, 0, 0, 0, 127, 255, 511]) mx (by kernel_rfl) <| DK.cons rfl rfl (.p rfl (.s 7 rfl .nil) rfl (q_loadS rfl sh38 (leB rfl) rfl)) ?_
 refine DK.cons rfl rfl (.p rfl (.s 8 rfl .nil) rfl (q_loadS rfl sh38 (leB rfl) rfl)) <| DK.cons rfl rfl (.p rfl (.s 6 rfl .nil) rfl (q_loadS rfl sh35 (leB rfl) rfl)) ?_
 obtain ⟨t104, ht104, h⟩ := bind_s h
 refine DK.cons rfl rfl (.p rfl (.s 16 rfl .nil) rfl (q_call (f := 159) (A := SlcA (kSl kBool) t104) (xs := [.tmp 16]) («as» := [AggA [SlcA kNodeType a0.fNodes, SlcA kEdgeType a0.fEdges]]) rfl ca159 (search_below.con k a0 t104 ht104) rfl)) <| DK.cons rfl rfl (.p rfl (.s 9 rfl .nil) rfl (q_loadS rfl sh64 (leB rfl) rfl)) <| dm rfl rfl rfl <| dm rfl rfl rfl <| DK.cons rfl rfl (.p rfl (.s 14 rfl (.s 15 rfl (.s 17 rfl (.s 18 rfl (.s 19 rfl (.s 20 rfl .nil)))))) rfl (q_build (is := [0, 1, 2, 3, 4, 5]) (xs := [.tmp 14, .tmp 15, .tmp 17, .tmp 18, .tmp 19, .tmp 20]) (L := [SlcA kInt a1.fNodes, SlcA kEdge a1.fEdges, SlcA kInt a2.fNodes, SlcA kEdge a2.fEdges, SlcA (kSl kBool) t104, OptA kInt a3.fNodes, OptA kInt a3.fEdges, bA a4, iA a5, EqA (.slice none 0 0), EqA (.slice none 0 0), EqA (.slice none 0 0)]) rfl rfl z238 pl238 rfl rfl (.cons (CellsOf.agg _) (.cons (CellsOf.agg _) (.cons (CellsOf.one rfl) (.cons (CellsOf.agg _) (.cons (CellsOf.one rfl) (.cons (CellsOf.one rfl) .nil)))))) rfl)) <| DK.nil <| CSteps.w [] rfl rfl rfl rfl (.s 21 rfl .nil) rfl (w_box rfl (CellsOf.agg _)) ?_
 rintro _ _ ⟨b105, rfl, rfl⟩
 refine CSteps.p rfl rfl rfl (.s 22 rfl .nil) rfl (q_assign rfl) <| CSteps.nil <| QN.weaken (env' := [(13, _)]) (.one rfl (.nil _)) <| QN.then_ <| sr <| mv rfl rfl ?_
 obtain ⟨t109, ht109, h⟩ := bind_s h
 refine WL.to (StTo.boxImp [0] rfl (.cons (Imp.id _) (.cons (Imp.id _) (.cons (Imp.id _) (.cons (Imp.id _) (.cons (Imp.id _) (.cons (Imp.id _) (.cons (Imp.id _) (.cons (Imp.id _) (.cons (Imp.id _) (.cons Imp.nilHd (.cons Imp.nilHd (.cons Imp.nilHd .nil))))))))))))) <| WL.to (StTo.newNil 3 kInt) <| WL.to (StTo.newNil 3 kInt) <| WL.to (StTo.newNil 64 kMorphism) <| WL.w [3, 2, 1, 0] rfl (Wanted.plain rfl) rfl rfl (.s 23 rfl .nil) (w_callI (f := 191) (xs := [.tmp 23]) («as» := [EqA (.pointer (some ⟨b105, 0, none⟩))]) rfl ca191 (search_finder_find.con k b105 (.slice none 0 0) (.slice none 0 0) (.slice none 0 0) (Finder.mk a1 a2 t104 a3 a4 a5 [] [] []) t109 ht109) rfl (.cons (Imp.id _) .nil)) ?_
 rintro _ _ ⟨v110, v111, v112, rfl, rfl⟩
 refine nx <| mv rfl rfl <| p1 rfl 25 rfl (q_nilCheckP rfl) <| p1 rfl 26 rfl (q_fieldP rfl fo238_8) <| WL.q (Wanted.plain rfl) rfl rfl (.s 27 rfl .nil) (q_loadB rfl sh133 (i := 0) rfl rfl) <| av rfl rfl <| WL.nil <| QN.weaken (env' := [(12, _)]) (.one rfl (.nil _)) <| QN.then_ <| W.ret ?_
 cases h
 exact QR.f1 rfl rfl (.t rfl) (.slc 3 rfl)
theorem search_all.con (k : Nat) (a0 : Types) (a1 : Graph) (a2 : Graph) (a3 : OMorphism) (a4 : Bool) (r : ((List Morphism) × Int)) (h : search_all k a0 a1 a2 a3 a4 = some r) : Con Tryz.prog 125 [] [AggA [SlcA kNodeType a0.fNodes, SlcA kEdgeType a0.fEdges], AggA [SlcA kInt a1.fNodes, SlcA kEdge a1.fEdges], AggA [SlcA kInt a2.fNodes, SlcA kEdge a2.fEdges], AggA [OptA kInt a3.fNodes, OptA kInt a3.fEdges], bA a4] (RA (TupA [SlcA kMorphism r.1, iA r.2])) := by
 unfold search_all at h
 refine Con.of (N := 23) Tryz.func125 rfl rfl rfl fun w0_ fg_ => sr <| p1 rfl 0 rfl (q_box rfl (CellsOf.agg _)) <| p1 rfl 1 rfl (q_box rfl (CellsOf.agg _)) <| p1 rfl 2 rfl (q_box rfl (CellsOf.agg _)) <| p1 rfl 3 rfl (q_box rfl (CellsOf.agg _)) <| ak rfl <| ak rfl <| nx ?_
 refine lS rfl rfl sh35 rfl rfl <| lS rfl rfl sh38 rfl rfl <| lS rfl rfl sh38 rfl rfl <| lS rfl rfl sh64 rfl rfl <| mv rfl rfl ?_
 obtain ⟨t100, ht100, h⟩ := bind_s h
 refine WL.p rfl rfl rfl (.s 13 rfl (.s 14 rfl (.s 15 rfl (.s 16 rfl (.s 17 rfl (.k .nil)))))) (q_call (f := 170) (A := SlcA kMorphism t100) (xs := [.tmp 13, .tmp 14, .tmp 15, .tmp 16, .tmp 17, .const (.int .i64 5001)]) («as» := [AggA [SlcA kNodeType a0.fNodes, SlcA kEdgeType a0.fEdges], AggA [SlcA kInt a1.fNodes, SlcA kEdge a1.fEdges], AggA [SlcA kInt a2.fNodes, SlcA kEdge a2.fEdges], AggA [OptA kInt a3.fNodes, OptA kInt a3.fEdges], bA a4, iA 5001]) rfl ca170 (search_found.con k a0 a1 a2 a3 a4 5001 t100 ht100) rfl) <| av rfl rfl <| WL.nil <| QN.weaken (env' := [(12, _)]) (.one rfl (.nil _)) <| QN.then_ <| W.seq <| sr <| mv rfl rfl <| p1 rfl 19 rfl (q_len rfl elS133) <| pk rfl 20 rfl (q_int rfl rfl) <| nt ?_
 refine W.condP h rfl (fun hb101 h => ?_) (fun hb101 h => ?_)
 ·refine sr <| ak rfl <| ak rfl <| nt <| W.ret <| QR.then_ ?_
  cases h
  exact QR.f2 rfl rfl (.t rfl) (.t rfl) (.imp (Imp.tup (.cons (Imp.nil kMorphism) (.cons (Imp.id _) .nil))))
 ·refine W.skip <| QN.then_ <| sr <| mv rfl rfl <| av rfl rfl <| ak rfl <| nt <| W.ret ?_
  cases h
  exact QR.f2 rfl rfl (.t rfl) (.t rfl) (.id _)
theorem search_All.con (k : Nat) (a0 : Types) (a1 : Graph) (a2 : Graph) (a3 : Bool) (r : ((List Morphism) × Int)) (h : search_All k a0 a1 a2 a3 = some r) : Con Tryz.prog 78 [] [AggA [SlcA kNodeType a0.fNodes, SlcA kEdgeType a0.fEdges], AggA [SlcA kInt a1.fNodes, SlcA kEdge a1.fEdges], AggA [SlcA kInt a2.fNodes, SlcA kEdge a2.fEdges], bA a3] (RA (TupA [SlcA kMorphism r.1, iA r.2])) := by
 unfold search_All at h
 refine Con.of (N := 26) Tryz.func78 rfl rfl rfl fun w0_ fg_ => sr <| p1 rfl 0 rfl (q_box rfl (CellsOf.agg _)) <| p1 rfl 1 rfl (q_box rfl (CellsOf.agg _)) <| p1 rfl 2 rfl (q_box rfl (CellsOf.agg _)) <| ak rfl <| ak rfl <| nt <| W.seq <| sr ?_
 refine lS rfl rfl sh35 rfl rfl <| lS rfl rfl sh38 rfl rfl <| lS rfl rfl sh38 rfl rfl ?_
 obtain ⟨t100, ht100, h⟩ := bind_s h
 refine WL.p rfl rfl rfl (.s 11 rfl (.s 12 rfl (.s 13 rfl .nil))) (q_call (f := 119) (A := iA t100) (xs := [.tmp 11, .tmp 12, .tmp 13]) («as» := [AggA [SlcA kNodeType a0.fNodes, SlcA kEdgeType a0.fEdges], AggA [SlcA kInt a1.fNodes, SlcA kEdge a1.fEdges], AggA [SlcA kInt a2.fNodes, SlcA kEdge a2.fEdges]]) rfl ca119 (search_valid.con k a0 a1 a2 t100 ht100) rfl) <| av rfl rfl <| WL.nil <| QN.weaken (env' := [(10, _), (6, _), (5, _), (4, _), (3, _)]) (.o4 rfl (.one rfl (.nil _))) <| QN.then_ <| sr <| mv rfl rfl <| pk rfl 15 rfl (q_int rfl rfl) <| nt ?_
 refine W.condP h rfl (fun hb101 h => ?_) (fun hb101 h => ?_)
 ·refine sr <| mv rfl rfl <| ak rfl <| av rfl rfl <| WL.nil <| QN.weaken (env' := [(9, _), (8, _)]) (.o2 rfl (.nil _)) <| QN.then_ <| W.ret <| QR.then_ ?_
  cases h
  exact QR.f2 rfl rfl (.t rfl) (.t rfl) (.imp (Imp.tup (.cons (Imp.nil kMorphism) (.cons (Imp.id _) .nil))))
 ·refine W.skip <| QN.then_ <| sr <| lS rfl rfl sh35 rfl rfl <| lS rfl rfl sh38 rfl rfl <| lS rfl rfl sh38 rfl rfl <| WL.p rfl rfl rfl .nil (q_build (is := []) (xs := []) (L := [EqA (.slice none 0 0), EqA (.slice none 0 0)]) rfl rfl z64 pl64 rfl rfl .nil rfl) <| mv rfl rfl ?_
  obtain ⟨t102, ht102, h⟩ := bind_s h
  refine WL.p rfl rfl rfl (.s 18 rfl (.s 19 rfl (.s 20 rfl (.s 21 rfl (.s 22 rfl .nil))))) (q_callI (f := 125) (A := TupA [SlcA kMorphism t102.1, iA t102.2]) (xs := [.tmp 18, .tmp 19, .tmp 20, .tmp 21, .tmp 22]) («as» := [AggA [SlcA kNodeType a0.fNodes, SlcA kEdgeType a0.fEdges], AggA [SlcA kInt a1.fNodes, SlcA kEdge a1.fEdges], AggA [SlcA kInt a2.fNodes, SlcA kEdge a2.fEdges], AggA [EqA (.slice none 0 0), EqA (.slice none 0 0)], bA a3]) rfl ca125 (search_all.con k a0 a1 a2 (OMorphism.mk none none) a3 t102 ht102) rfl (.cons (Imp.id _) (.cons (Imp.id _) (.cons (Imp.id _) (.cons (Imp.agg (.cons (Imp.optN kInt) (.cons (Imp.optN kInt) .nil))) (.cons (Imp.id _) .nil)))))) <| p1 rfl 23 rfl (q_extract rfl rfl) <| p1 rfl 23 rfl (q_extract rfl rfl) <| av rfl rfl <| av rfl rfl <| WL.nil <| QN.weaken (env' := [(9, _), (8, _)]) (.o2 rfl (.nil _)) <| QN.then_ <| W.ret ?_
  cases h
  exact QR.f2 rfl rfl (.t rfl) (.t rfl) (.id _)
theorem attribute_value.con (k : Nat) (a0 : Term) (a1 : (List Int)) (r : Int) (h : attribute_value k a0 a1 = some r) : Con Tryz.prog 41 [] [AggA [iA a0.fVar, iA a0.fAdd], SlcA kInt a1] (RA (iA r)) := by
 unfold attribute_value at h
 refine Con.of (N := 18) Tryz.func41 rfl rfl rfl fun w0_ fg_ => sr <| p1 rfl 0 rfl (q_box rfl (CellsOf.agg _)) <| ak rfl <| nt <| W.seq <| sr <| fd rfl rfl fo23_0 rfl <| ld rfl rfl sh3 <| pk rfl 6 rfl (q_int rfl rfl) ?_
 refine nt ?_
 refine W.condP h rfl (fun hb100 h => ?_) (fun hb100 h => ?_)
 ·refine sr <| fd rfl rfl fo23_1 rfl <| ld rfl rfl sh3 <| av rfl rfl <| WL.nil <| QN.weaken (env' := [(4, _)]) (.one rfl (.nil _)) <| QN.then_ <| W.ret <| QR.then_ ?_
  cases h
  exact QR.f1 rfl rfl (.t rfl) (.id _)
 ·refine W.skip <| QN.then_ <| W.seq <| W.drawK [(0, false), (1, false), (2, false), (3, false), (4, false), (5, false), (6, false), (7, false), (8, false)] [] (bm [0, 0, 2, 7, 15, 0, 32, 127, 255]) mx (by kernel_rfl) <| dm rfl rfl rfl <| df rfl rfl rfl fo23_0 rfl <| dl rfl rfl rfl sh3 ?_
  obtain ⟨c105, h⟩ := ite_n h
  refine DK.cons rfl rfl (.p rfl (.s 10 rfl (.s 12 rfl .nil)) rfl (q_index rfl el26 rfl c105.1 c105.2)) <| dl rfl rfl rfl sh3 <| df rfl rfl rfl fo23_1 rfl <| dl rfl rfl rfl sh3 ?_
  obtain ⟨c106, h⟩ := ite_n h
  refine DK.cons rfl rfl (.p rfl (.s 14 rfl (.s 16 rfl .nil)) rfl (q_addR rfl c106)) <| DK.cons rfl rfl (.p rfl (.s 17 rfl .nil) rfl (q_assign rfl)) <| DK.nil <| CSteps.nil <| QN.weaken (env' := [(4, _)]) (.one rfl (.nil _)) <| QN.then_ <| W.ret ?_
  cases h
  exact QR.f1 rfl rfl (.t rfl) (.id _)
theorem difference_wide.con (k : Nat) (a0 : Int) (a1 : Int) (r : (Int × Int)) (h : difference_wide k a0 a1 = some r) : Con Tryz.prog 164 [] [iA a0, iA a1] (RA (TupA [iA r.1, EqA (.int .u64 r.2)])) := by
 unfold difference_wide at h
 refine Con.of (N := 25) Tryz.func164 rfl rfl rfl fun w0_ fg_ => sr <| ak rfl <| ak rfl <| nx <| mv rfl rfl <| p1 rfl 9 rfl (q_conv rfl cv206 cvS3) <| mv rfl rfl <| p1 rfl 11 rfl (q_conv rfl cv206 cvS3) ?_
 obtain ⟨c100, h⟩ := ite_n h
 refine WL.p rfl rfl rfl (.s 10 rfl (.s 12 rfl (.k .nil))) (q_add64 (f := 188) rfl Tryz.func188 (by kernel_rfl) rfl (by kernel_rfl) ad188 c100.1 c100.2.1 c100.2.2.1 c100.2.2.2) <| mv rfl rfl <| p1 rfl 8 rfl (q_extract rfl rfl) <| p1 rfl 8 rfl (q_extract rfl rfl) <| av rfl rfl <| av rfl rfl <| WL.nil <| QN.weaken (env' := [(7, _), (6, _), (1, _), (0, _)]) (.o4 rfl (.nil _)) <| QN.then_ <| sr <| mv rfl rfl <| pk rfl 16 rfl (q_shrN rfl (by decide)) ?_
 refine mv rfl rfl <| pk rfl 18 rfl (q_shrN rfl (by decide)) ?_
 obtain ⟨c101, h⟩ := ite_n h
 refine p2 rfl 17 rfl 19 rfl (q_addR rfl c101) <| mv rfl rfl <| p1 rfl 21 rfl (q_conv rfl cv3 cvS206) ?_
 obtain ⟨c102, h⟩ := ite_n h
 refine p2 rfl 20 rfl 22 rfl (q_addR rfl c102) <| mv rfl rfl <| av rfl rfl <| av rfl rfl <| WL.nil <| QN.weaken (env' := [(5, _), (4, _)]) (.o2 rfl (.nil _)) <| QN.then_ <| W.ret ?_
 cases h
 exact QR.f2 rfl rfl (.t rfl) (.t rfl) (.id _)
theorem difference_Holds_1.con (k : Nat) (a0 : Term) (a1 : (List Int)) (r : (Int × Int × Bool)) (h : difference_Holds_1 k a0 a1 = some r) : Con Tryz.prog 163 [] [AggA [iA a0.fVar, iA a0.fAdd], PtrA [SlcA kInt a1]] (RA (TupA [iA r.1, EqA (.int .u64 r.2.1), bA r.2.2])) := by
 unfold difference_Holds_1 at h
 refine Con.of (N := 46) Tryz.func163 rfl rfl rfl fun w0_ fg_ => sr <| p1 rfl 0 rfl (q_box rfl (CellsOf.agg _)) <| ak rfl <| ak rfl <| ak rfl <| nt <| W.seq <| W.block <| sr ?_
 refine fd rfl rfl fo23_0 rfl <| ld rfl rfl sh3 <| pk rfl 12 rfl (q_int rfl rfl) <| av rfl rfl <| WL.nil <| QN.weaken (env' := [(10, _), (2, _), (1, _)]) (.o2 rfl (.one rfl (.nil _))) <| QN.then_ ?_
 refine W.condP h rfl (fun hb100 h => ?_) (fun hb100 h => ?_)
 ·refine sr <| fd rfl rfl fo23_1 rfl <| ld rfl rfl sh3 ?_
  obtain ⟨t101, ht101, h⟩ := bind_s h
  refine WL.p rfl rfl rfl (.k (.s 16 rfl .nil)) (q_call (f := 164) (A := TupA [iA t101.1, EqA (.int .u64 t101.2)]) (xs := [.const (.int .i64 0), .tmp 16]) («as» := [iA 0, iA a0.fAdd]) rfl ca164 (difference_wide.con k 0 a0.fAdd t101 ht101) rfl) <| mv rfl rfl <| p1 rfl 14 rfl (q_extract rfl rfl) <| p1 rfl 14 rfl (q_extract rfl rfl) <| av rfl rfl <| av rfl rfl <| WL.nil <| QN.weaken (env' := [(7, _), (6, _)]) (.o2 rfl (.nil _)) <| QN.then_ <| sr <| mv rfl rfl <| mv rfl rfl ?_
  refine av rfl rfl <| av rfl rfl <| ak rfl <| nt <| W.ret <| QR.block <| QR.then_ ?_
  cases h
  exact QR.f3 rfl rfl (.t rfl) (.t rfl) (.t rfl) (.id _)
 ·refine W.seq ?_
  refine W.jn1 (Γ := Unit) (fun (_ : Unit) (x22 : Bool) => [(1, PtrA [SlcA kInt a1]), (2, PtrA [iA a0.fVar, iA a0.fAdd]), (22, bA x22)]) (fun (_ : Unit) (_ : Bool) => []) h (fun _ x22 h => ?_) (fun j104 Kj104 h => ?_)
  ·refine QN.then_ ?_
   refine W.condP h rfl (fun hb105 h => ?_) (fun hb105 h => ?_)
   ·refine sr <| ak rfl <| ak rfl <| ak rfl <| nt <| W.ret <| QR.block <| QR.then_ ?_
    cases h
    exact QR.f3 rfl rfl (.t rfl) (.t rfl) (.t rfl) (.id _)
   ·refine W.skip <| QN.block <| QN.then_ <| W.seq <| W.drawK [(0, false), (1, false), (2, false), (3, false), (4, false), (5, false), (6, false), (7, false), (8, false), (9, false), (10, false), (11, false), (12, false)] [] (bm [0, 0, 2, 7, 15, 0, 32, 127, 255, 511, 511, 1023, 4095]) mx (by kernel_rfl) <| dl rfl rfl rfl sh26 <| df rfl rfl rfl fo23_0 rfl <| dl rfl rfl rfl sh3 ?_
    obtain ⟨c110, h⟩ := ite_n h
    refine DK.cons rfl rfl (.p rfl (.s 34 rfl (.s 36 rfl .nil)) rfl (q_index rfl el26 rfl c110.1 c110.2)) <| dl rfl rfl rfl sh3 <| df rfl rfl rfl fo23_1 rfl <| dl rfl rfl rfl sh3 ?_
    obtain ⟨t111, ht111, h⟩ := bind_s h
    refine DK.cons rfl rfl (.p rfl (.s 38 rfl (.s 40 rfl .nil)) rfl (q_call (f := 164) (A := TupA [iA t111.1, EqA (.int .u64 t111.2)]) (xs := [.tmp 38, .tmp 40]) («as» := [iA (rd a1 a0.fVar), iA a0.fAdd]) rfl ca164 (difference_wide.con k (rd a1 a0.fVar) a0.fAdd t111 ht111) rfl)) <| dm rfl rfl rfl <| DK.cons rfl rfl (.p rfl (.s 33 rfl .nil) rfl (q_extract rfl rfl)) <| DK.cons rfl rfl (.p rfl (.s 33 rfl .nil) rfl (q_extract rfl rfl)) <| DK.cons rfl rfl (.p rfl (.s 42 rfl .nil) rfl (q_assign rfl)) <| DK.cons rfl rfl (.p rfl (.s 43 rfl .nil) rfl (q_assign rfl)) <| DK.nil <| CSteps.nil <| QN.weaken (env' := [(9, _), (8, _)]) (.o2 rfl (.nil _)) <| QN.then_ <| sr <| mv rfl rfl ?_
    refine mv rfl rfl <| av rfl rfl <| av rfl rfl <| ak rfl <| nt <| W.ret ?_
    cases h
    exact QR.f3 rfl rfl (.t rfl) (.t rfl) (.t rfl) (.id _)
  ·refine W.region <| fd rfl rfl fo23_0 rfl <| ld rfl rfl sh3 <| pk rfl 24 rfl (q_int rfl rfl) <| mv rfl rfl ?_
   rcases bif_s h with ⟨hb112, h⟩ | ⟨hb112, h⟩
   ·refine sk rfl rfl rfl hb112 <| sk rfl rfl rfl hb112 <| sk rfl rfl rfl hb112 <| sk rfl rfl rfl hb112 <| sk rfl rfl rfl hb112 <| pk rfl 26 rfl (q_pickT rfl hb112) <| av rfl rfl <| WL.nil ?_
    exact QN.weaken (.o2 rfl (.one rfl (.nil _))) (Kj104 () true h)
   ·refine wf rfl rfl rfl hb112 rfl rfl fo23_0 rfl <| wl rfl rfl rfl hb112 rfl rfl sh3 <| wl rfl rfl rfl hb112 rfl rfl sh26 <| wq rfl rfl rfl hb112 (.s 29 rfl .nil) (q_len rfl elS26).o <| wq rfl rfl rfl hb112 (.s 28 rfl (.s 30 rfl .nil)) (q_int rfl rfl).o <| p2 rfl 26 rfl 31 rfl (q_pickF rfl hb112) <| av rfl rfl <| WL.nil ?_
    exact QN.weaken (.o2 rfl (.one rfl (.nil _))) (Kj104 () (decide (a0.fVar ≥ (a1.length : Int))) h)
theorem cmp_isNaN_int.con (k : Nat) (a0 : Int) (r : Bool) (h : cmp_isNaN_int k a0 = some r) : Con Tryz.prog 189 [] [iA a0] (RA (bA r)) := by
 unfold cmp_isNaN_int at h
 refine Con.of (N := 6) Tryz.func189 rfl rfl rfl fun w0_ fg_ => sr <| ak rfl <| nx <| mv rfl rfl <| mv rfl rfl <| p2 rfl 3 rfl 4 rfl (q_int rfl rfl) <| av rfl rfl <| WL.nil ?_
 refine QN.then_ <| W.ret ?_
 cases h
 exact QR.f1 rfl rfl (.t rfl) (.id _)
theorem cmp_Compare_int.con (k : Nat) (a0 : Int) (a1 : Int) (r : Int) (h : cmp_Compare_int k a0 a1 = some r) : Con Tryz.prog 166 [] [iA a0, iA a1] (RA (iA r)) := by
 unfold cmp_Compare_int at h
 refine Con.of (N := 20) Tryz.func166 rfl rfl rfl fun w0_ fg_ => sr <| ak rfl <| nx <| mv rfl rfl ?_
 obtain ⟨t100, ht100, h⟩ := bind_s h
 refine p1 rfl 7 rfl (q_call (f := 189) (A := bA t100) (xs := [.tmp 7]) («as» := [iA a0]) rfl ca189 (cmp_isNaN_int.con k a0 t100 ht100) rfl) <| av rfl rfl <| nx <| mv rfl rfl ?_
 obtain ⟨t101, ht101, h⟩ := bind_s h
 refine p1 rfl 9 rfl (q_call (f := 189) (A := bA t101) (xs := [.tmp 9]) («as» := [iA a1]) rfl ca189 (cmp_isNaN_int.con k a1 t101 ht101) rfl) <| av rfl rfl <| nt <| W.seq <| sr <| mv rfl rfl <| nt ?_
 refine W.condP h rfl (fun hb102 h => ?_) (fun hb102 h => ?_)
 ·refine W.seq <| sr <| mv rfl rfl <| WL.nil <| QN.weaken (env' := [(12, _)]) (.one rfl (.nil _)) <| QN.then_ ?_
  refine W.condP h rfl (fun hb103 h => ?_) (fun hb103 h => ?_)
  ·refine sr <| ak rfl <| nt <| W.ret <| QR.then_ <| QR.then_ ?_
   cases h
   exact QR.f1 rfl rfl (.t rfl) (.id _)
  ·refine W.skip <| QN.then_ <| sr <| ak rfl <| nt <| W.ret <| QR.then_ ?_
   cases h
   exact QR.f1 rfl rfl (.t rfl) (.id _)
 ·refine W.skip <| QN.weaken (env' := [(6, _), (1, _), (0, _)]) (.o2 rfl (.one rfl (.nil _))) <| QN.then_ <| W.seq <| sr <| mv rfl rfl <| nt ?_
  refine W.condP h rfl (fun hb104 h => ?_) (fun hb104 h => ?_)
  ·refine sr <| ak rfl <| nt <| W.ret <| QR.then_ ?_
   cases h
   exact QR.f1 rfl rfl (.t rfl) (.id _)
  ·refine W.skip <| QN.then_ <| W.seq <| sr <| mv rfl rfl <| mv rfl rfl <| p2 rfl 14 rfl 15 rfl (q_int rfl rfl) <| nt ?_
   refine W.condP h rfl (fun hb105 h => ?_) (fun hb105 h => ?_)
   ·refine sr <| ak rfl <| WL.nil <| QN.weaken (env' := [(4, _)]) (.one rfl (.nil _)) <| QN.then_ <| W.ret <| QR.then_ ?_
    cases h
    exact QR.f1 rfl rfl (.t rfl) (.id _)
   ·refine W.skip <| QN.then_ <| W.seq <| sr <| mv rfl rfl <| mv rfl rfl <| p2 rfl 17 rfl 18 rfl (q_int rfl rfl) <| WL.nil <| QN.weaken (env' := [(19, _)]) (.one rfl (.nil _)) <| QN.then_ ?_
    refine W.condP h rfl (fun hb106 h => ?_) (fun hb106 h => ?_)
    ·refine sr <| ak rfl <| nt <| W.ret <| QR.then_ ?_
     cases h
     exact QR.f1 rfl rfl (.t rfl) (.id _)
    ·refine W.skip <| QN.then_ <| sr <| ak rfl <| nt <| W.ret ?_
     cases h
     exact QR.f1 rfl rfl (.t rfl) (.id _)
theorem cmp_isNaN_uint64.con (k : Nat) (a0 : Int) (r : Bool) (h : cmp_isNaN_uint64 k a0 = some r) : Con Tryz.prog 190 [] [EqA (.int .u64 a0)] (RA (bA r)) := by
 unfold cmp_isNaN_uint64 at h
 refine Con.of (N := 6) Tryz.func190 rfl rfl rfl fun w0_ fg_ => sr <| ak rfl <| nx <| mv rfl rfl <| mv rfl rfl <| p2 rfl 3 rfl 4 rfl (q_int rfl rfl) <| av rfl rfl <| WL.nil ?_
 refine QN.then_ <| W.ret ?_
 cases h
 exact QR.f1 rfl rfl (.t rfl) (.id _)
theorem cmp_Compare_uint64.con (k : Nat) (a0 : Int) (a1 : Int) (r : Int) (h : cmp_Compare_uint64 k a0 a1 = some r) : Con Tryz.prog 167 [] [EqA (.int .u64 a0), EqA (.int .u64 a1)] (RA (iA r)) := by
 unfold cmp_Compare_uint64 at h
 refine Con.of (N := 20) Tryz.func167 rfl rfl rfl fun w0_ fg_ => sr <| ak rfl <| nx <| mv rfl rfl ?_
 obtain ⟨t100, ht100, h⟩ := bind_s h
 refine p1 rfl 7 rfl (q_call (f := 190) (A := bA t100) (xs := [.tmp 7]) («as» := [EqA (.int .u64 a0)]) rfl ca190 (cmp_isNaN_uint64.con k a0 t100 ht100) rfl) <| av rfl rfl <| nx <| mv rfl rfl ?_
 obtain ⟨t101, ht101, h⟩ := bind_s h
 refine p1 rfl 9 rfl (q_call (f := 190) (A := bA t101) (xs := [.tmp 9]) («as» := [EqA (.int .u64 a1)]) rfl ca190 (cmp_isNaN_uint64.con k a1 t101 ht101) rfl) <| av rfl rfl <| nt <| W.seq <| sr <| mv rfl rfl <| nt ?_
 refine W.condP h rfl (fun hb102 h => ?_) (fun hb102 h => ?_)
 ·refine W.seq <| sr <| mv rfl rfl <| WL.nil <| QN.weaken (env' := [(12, _)]) (.one rfl (.nil _)) <| QN.then_ ?_
  refine W.condP h rfl (fun hb103 h => ?_) (fun hb103 h => ?_)
  ·refine sr <| ak rfl <| nt <| W.ret <| QR.then_ <| QR.then_ ?_
   cases h
   exact QR.f1 rfl rfl (.t rfl) (.id _)
  ·refine W.skip <| QN.then_ <| sr <| ak rfl <| nt <| W.ret <| QR.then_ ?_
   cases h
   exact QR.f1 rfl rfl (.t rfl) (.id _)
 ·refine W.skip <| QN.weaken (env' := [(6, _), (1, _), (0, _)]) (.o2 rfl (.one rfl (.nil _))) <| QN.then_ <| W.seq <| sr <| mv rfl rfl <| nt ?_
  refine W.condP h rfl (fun hb104 h => ?_) (fun hb104 h => ?_)
  ·refine sr <| ak rfl <| nt <| W.ret <| QR.then_ ?_
   cases h
   exact QR.f1 rfl rfl (.t rfl) (.id _)
  ·refine W.skip <| QN.then_ <| W.seq <| sr <| mv rfl rfl <| mv rfl rfl <| p2 rfl 14 rfl 15 rfl (q_int rfl rfl) <| nt ?_
   refine W.condP h rfl (fun hb105 h => ?_) (fun hb105 h => ?_)
   ·refine sr <| ak rfl <| WL.nil <| QN.weaken (env' := [(4, _)]) (.one rfl (.nil _)) <| QN.then_ <| W.ret <| QR.then_ ?_
    cases h
    exact QR.f1 rfl rfl (.t rfl) (.id _)
   ·refine W.skip <| QN.then_ <| W.seq <| sr <| mv rfl rfl <| mv rfl rfl <| p2 rfl 17 rfl 18 rfl (q_int rfl rfl) <| WL.nil <| QN.weaken (env' := [(19, _)]) (.one rfl (.nil _)) <| QN.then_ ?_
    refine W.condP h rfl (fun hb106 h => ?_) (fun hb106 h => ?_)
    ·refine sr <| ak rfl <| nt <| W.ret <| QR.then_ ?_
     cases h
     exact QR.f1 rfl rfl (.t rfl) (.id _)
    ·refine W.skip <| QN.then_ <| sr <| ak rfl <| nt <| W.ret ?_
     cases h
     exact QR.f1 rfl rfl (.t rfl) (.id _)
theorem cmp_Or_int.con (k : Nat) (a0 : (List Int)) (r : Int) (h : cmp_Or_int k a0 = some r) : Con Tryz.prog 165 [] [SlcA kInt a0] (RA (iA r)) := by
 unfold cmp_Or_int at h
 refine Con.of (N := 18) Tryz.func165 rfl rfl rfl fun w0_ fg_ => sr <| ak rfl <| nx <| ak rfl <| nt <| W.seq <| W.seq ?_
 refine W.region <| mv rfl rfl <| p1 rfl 6 rfl (q_len rfl elS26) <| mk_ rfl <| nt <| W.block ?_
 refine W.loop1 (Γ := Unit) (fun (_ : Unit) (x8 : Int) => [(3, iA 0), (6, SlcA kInt a0), (7, iA (a0.length : Int)), (8, iA x8)]) (fun (_ : Unit) (_ : Int) => []) h () (.o4 rfl (.nil _)) rfl (fun rec0 K0 next0 _ x8 h => ?_)
 unfold cmp_Or_int.b0 at h
 refine sr <| p2 rfl 8 rfl 7 rfl (q_int rfl rfl) <| nt <| W.seq ?_
 refine W.condP h rfl (fun hb108 h => ?_) (fun hb108 h => ?_)
 ·refine W.skip <| QN.then_ <| W.seq <| W.block <| sr ?_
  obtain ⟨c109, h⟩ := ite_n h
  refine p2 rfl 6 rfl 8 rfl (q_index rfl el26 rfl c109.1 c109.2) <| ld rfl rfl sh3 <| av rfl rfl <| nx <| mv rfl rfl <| mv rfl rfl <| p2 rfl 12 rfl 13 rfl (q_int rfl rfl) <| nt ?_
  refine W.condP h rfl (fun hb110 h => ?_) (fun hb110 h => ?_)
  ·refine sr <| mv rfl rfl <| av rfl rfl <| WL.nil <| QN.weaken (env' := [(2, _)]) (.one rfl (.nil _)) <| QN.then_ <| W.ret <| QR.block <| QR.then_ <| QR.then_ <| QR.block <| QR.then_ ?_
   cases h
   exact QR.f1 rfl rfl (.t rfl) (.id _)
  ·refine W.skip <| QN.block <| QN.weaken (env' := [(8, _), (7, _), (6, _), (3, _)]) (.o4 rfl (.nil _)) <| QN.then_ <| W.region ?_
   obtain ⟨c111, h⟩ := ite_n h
   refine pk rfl 8 rfl (q_addR rfl c111) <| mv rfl rfl <| WL.nil ?_
   exact next0 () (x8 + 1) _ h (.o4 rfl (.nil _))
 ·refine W.exit <| QX.then_ <| QX.then_ <| QX.here <| QN.then_ <| sr <| mv rfl rfl <| av rfl rfl <| nt <| W.ret ?_
  cases h
  exact QR.f1 rfl rfl (.t rfl) (.id _)
theorem difference_Holds.con (k : Nat) (a0 : Test) (a1 : (List Int)) (r : Bool) (h : difference_Holds k a0 a1 = some r) : Con Tryz.prog 122 [] [AggA [iA a0.fKind, iA a0.fLeft.fVar, iA a0.fLeft.fAdd, iA a0.fRight.fVar, iA a0.fRight.fAdd], SlcA kInt a1] (RA (bA r)) := by
 unfold difference_Holds at h
 refine Con.of (N := 60) Tryz.func122 rfl rfl rfl fun w0_ fg_ => sr <| p1 rfl 0 rfl (q_box rfl (CellsOf.agg _)) <| p1 rfl 1 rfl (q_box rfl (CellsOf.one rfl)) <| ak rfl <| nx <| p1 rfl 3 rfl (q_makeFunc (xs := [.tmp 3]) (L := [PtrA [SlcA kInt a1]]) («as» := (fun (x : Term) => [AggA [iA x.fVar, iA x.fAdd]])) (res := (fun (y : (Int × Int × Bool)) => TupA [iA y.1, EqA (.int .u64 y.2.1), bA y.2.2])) (p := (fun x => difference_Holds_1 k x a1)) rfl ca163 rfl (fun x y hp => (difference_Holds_1.con k x a1 y hp))) <| av rfl rfl <| WL.nil ?_
 refine QN.then_ <| sr <| mv rfl rfl <| fd rfl rfl fo86_1 rfl <| lS rfl rfl sh23 rfl rfl ?_
 obtain ⟨t100, ht100, h⟩ := bind_s h
 refine p2 rfl 15 rfl 17 rfl (q_callV («as» := (fun (x : Term) => [AggA [iA x.fVar, iA x.fAdd]])) (res := (fun (y : (Int × Int × Bool)) => TupA [iA y.1, EqA (.int .u64 y.2.1), bA y.2.2])) (x := a0.fLeft) (y := t100) (xs := [.tmp 17]) rfl ht100 rfl) <| mv rfl rfl <| p1 rfl 14 rfl (q_extract rfl rfl) <| p1 rfl 14 rfl (q_extract rfl rfl) <| p1 rfl 14 rfl (q_extract rfl rfl) <| av rfl rfl <| av rfl rfl <| av rfl rfl <| WL.nil <| QN.weaken (env' := [(8, _), (7, _), (6, _), (5, _), (2, _)]) (.o4 rfl (.one rfl (.nil _))) <| QN.then_ <| sr ?_
 refine mv rfl rfl <| fd rfl rfl fo86_2 rfl <| lS rfl rfl sh23 rfl rfl ?_
 obtain ⟨t101, ht101, h⟩ := bind_s h
 refine p2 rfl 23 rfl 25 rfl (q_callV («as» := (fun (x : Term) => [AggA [iA x.fVar, iA x.fAdd]])) (res := (fun (y : (Int × Int × Bool)) => TupA [iA y.1, EqA (.int .u64 y.2.1), bA y.2.2])) (x := a0.fRight) (y := t101) (xs := [.tmp 25]) rfl ht101 rfl) <| mv rfl rfl <| p1 rfl 22 rfl (q_extract rfl rfl) <| p1 rfl 22 rfl (q_extract rfl rfl) <| p1 rfl 22 rfl (q_extract rfl rfl) <| av rfl rfl <| av rfl rfl <| av rfl rfl <| WL.nil <| QN.weaken (env' := [(11, _), (10, _), (9, _), (8, _), (7, _), (6, _), (2, _)]) (.o4 rfl (.o2 rfl (.one rfl (.nil _)))) <| QN.then_ <| W.seq <| W.seq ?_
 refine W.jn1 (Γ := Unit) (fun (_ : Unit) (x35 : Bool) => [(2, PtrA [iA a0.fKind, iA a0.fLeft.fVar, iA a0.fLeft.fAdd, iA a0.fRight.fVar, iA a0.fRight.fAdd]), (6, iA t100.1), (7, EqA (.int .u64 t100.2.1)), (9, iA t101.1), (10, EqA (.int .u64 t101.2.1)), (35, bA x35)]) (fun (_ : Unit) (_ : Bool) => []) h (fun _ x35 h => ?_) (fun j104 Kj104 h => ?_)
 ·refine QN.then_ ?_
  refine W.condP h rfl (fun hb105 h => ?_) (fun hb105 h => ?_)
  ·refine sr <| ak rfl <| nt <| W.ret <| QR.then_ ?_
   cases h
   exact QR.f1 rfl rfl (.t rfl) (.id _)
  ·refine W.skip <| QN.then_ <| sr <| mv rfl rfl <| mv rfl rfl ?_
   obtain ⟨t106, ht106, h⟩ := bind_s h
   refine p2 rfl 36 rfl 37 rfl (q_call (f := 166) (A := iA t106) (xs := [.tmp 36, .tmp 37]) («as» := [iA t100.1, iA t101.1]) rfl ca166 (cmp_Compare_int.con k t100.1 t101.1 t106 ht106) rfl) <| mv rfl rfl <| mv rfl rfl ?_
   obtain ⟨t107, ht107, h⟩ := bind_s h
   refine p2 rfl 39 rfl 40 rfl (q_call (f := 167) (A := iA t107) (xs := [.tmp 39, .tmp 40]) («as» := [EqA (.int .u64 t100.2.1), EqA (.int .u64 t101.2.1)]) rfl ca167 (cmp_Compare_uint64.con k t100.2.1 t101.2.1 t107 ht107) rfl) <| p2 rfl 38 rfl 41 rfl (q_lit (kd := kInt) (ps := [(0, .tmp 38), (1, .tmp 41)]) (xs := [.tmp 38, .tmp 41]) («as» := [iA t106, iA t107]) (ys := [t106, t107]) rfl rfl el26 rfl gr3 rfl rfl rfl (.cons (CellsOf.one rfl) (.cons (CellsOf.one rfl) .nil))) ?_
   obtain ⟨t108, ht108, h⟩ := bind_s h
   refine p1 rfl 42 rfl (q_call (f := 165) (A := iA t108) (xs := [.tmp 42]) («as» := [SlcA kInt [t106, t107]]) rfl ca165 (cmp_Or_int.con k [t106, t107] t108 ht108) rfl) <| av rfl rfl <| WL.nil <| QN.weaken (env' := [(12, _), (2, _)]) (.o2 rfl (.nil _)) <| QN.then_ <| W.seq ?_
   refine W.jn1 (Γ := Unit) (fun (_ : Unit) (x4 : Bool) => [(4, bA x4)]) (fun (_ : Unit) (_ : Bool) => []) h (fun _ x4 h => ?_) (fun j114 Kj114 h => ?_)
   ·refine QN.then_ <| W.ret ?_
    cases h
    exact QR.f1 rfl rfl (.t rfl) (.id _)
   ·refine W.region <| fd rfl rfl fo86_0 rfl <| ld rfl rfl sh3 <| pk rfl 45 rfl (q_int rfl rfl) <| mv rfl rfl ?_
    rcases bif_s h with ⟨hb115, h⟩ | ⟨hb115, h⟩
    ·refine wm rfl rfl rfl hb115 rfl rfl <| wq rfl rfl rfl hb115 (.s 48 rfl (.k .nil)) (q_int rfl rfl).o <| p2 rfl 47 rfl 49 rfl (q_pickT rfl hb115) <| mv rfl rfl ?_
     rcases bif_s h with ⟨hb116, h⟩ | ⟨hb116, h⟩
     ·refine sk rfl rfl rfl hb116 <| sk rfl rfl rfl hb116 <| sk rfl rfl rfl hb116 <| sk rfl rfl rfl hb116 <| su rfl rfl rfl <| su rfl rfl rfl <| sk rfl rfl rfl hb116 <| pk rfl 51 rfl (q_pickT rfl hb116) <| av rfl rfl <| WL.nil ?_
      exact QN.weaken (.one rfl (.nil _)) (Kj114 () true h)
     ·refine wf rfl rfl rfl hb116 rfl rfl fo86_0 rfl <| wl rfl rfl rfl hb116 rfl rfl sh3 <| wq rfl rfl rfl hb116 (.s 53 rfl (.k .nil)) (q_int rfl rfl).o <| wm rfl rfl rfl hb116 rfl rfl ?_
      rcases bif_s h with ⟨hb117, h⟩ | ⟨hb117, h⟩
      ·refine wm rfl rfl rfl hb117 rfl rfl <| wq rfl rfl rfl hb117 (.s 56 rfl (.k .nil)) (q_int rfl rfl).o <| wq rfl rfl rfl hb116 (.s 55 rfl (.s 57 rfl .nil)) (q_pickT rfl hb117).o <| p2 rfl 51 rfl 58 rfl (q_pickF rfl hb116) <| av rfl rfl <| WL.nil ?_
       exact QN.weaken (.one rfl (.nil _)) (Kj114 () (t108 == 0) h)
      ·refine sk rfl rfl rfl hb117 <| sk rfl rfl rfl hb117 <| wq rfl rfl rfl hb116 (.s 55 rfl (.k .nil)) (q_pickF rfl hb117).o <| p2 rfl 51 rfl 58 rfl (q_pickF rfl hb116) <| av rfl rfl <| WL.nil ?_
       exact QN.weaken (.one rfl (.nil _)) (Kj114 () false h)
    ·refine sk rfl rfl rfl hb115 <| sk rfl rfl rfl hb115 <| pk rfl 47 rfl (q_pickF rfl hb115) <| mv rfl rfl <| wf rfl rfl rfl rfl rfl rfl fo86_0 rfl <| wl rfl rfl rfl rfl rfl rfl sh3 <| wq rfl rfl rfl rfl (.s 53 rfl (.k .nil)) (q_int rfl rfl).o <| wm rfl rfl rfl rfl rfl rfl ?_
     rcases bif_s h with ⟨hb118, h⟩ | ⟨hb118, h⟩
     ·refine wm rfl rfl rfl hb118 rfl rfl <| wq rfl rfl rfl hb118 (.s 56 rfl (.k .nil)) (q_int rfl rfl).o <| wq rfl rfl rfl rfl (.s 55 rfl (.s 57 rfl .nil)) (q_pickT rfl hb118).o <| p2 rfl 51 rfl 58 rfl (q_pickF rfl rfl) <| av rfl rfl <| WL.nil ?_
      exact QN.weaken (.one rfl (.nil _)) (Kj114 () (t108 == 0) h)
     ·refine sk rfl rfl rfl hb118 <| sk rfl rfl rfl hb118 <| wq rfl rfl rfl rfl (.s 55 rfl (.k .nil)) (q_pickF rfl hb118).o <| p2 rfl 51 rfl 58 rfl (q_pickF rfl rfl) <| av rfl rfl <| WL.nil ?_
      exact QN.weaken (.one rfl (.nil _)) (Kj114 () false h)
 ·refine W.region <| mv rfl rfl <| p1 rfl 30 rfl (q_not rfl) <| mv rfl rfl ?_
  rcases bif_s h with ⟨hb119, h⟩ | ⟨hb119, h⟩
  ·refine sk rfl rfl rfl hb119 <| sk rfl rfl rfl hb119 <| pk rfl 32 rfl (q_pickT rfl hb119) <| WL.nil ?_
   exact QN.weaken (.o4 rfl (.o2 rfl (.nil _))) (Kj104 () true h)
  ·refine wm rfl rfl rfl hb119 rfl rfl <| wq rfl rfl rfl hb119 (.s 33 rfl .nil) (q_not rfl).o <| p2 rfl 32 rfl 34 rfl (q_pickF rfl hb119) <| WL.nil ?_
   exact QN.weaken (.o4 rfl (.o2 rfl (.nil _))) (Kj104 () (!t101.2.2) h)
theorem attribute_solve.con (k : Nat) (a0 : Pattern) (a1 : Host) (a2 : Morphism) (r : ((List Int) × Int)) (h : attribute_solve k a0 a1 a2 = some r) : Con Tryz.prog 74 [] [AggA [SlcA kInt a0.fGraph.fNodes, SlcA kEdge a0.fGraph.fEdges, SlcA kSlot a0.fSlots, iA a0.fVars, SlcA kTest a0.fTests], AggA [SlcA kInt a1.fGraph.fNodes, SlcA kEdge a1.fGraph.fEdges, SlcA (kSl kInt) a1.fValues], AggA [SlcA kInt a2.fNodes, SlcA kInt a2.fEdges]] (RA (TupA [SlcA kInt r.1, iA r.2])) := by
 unfold attribute_solve at h
 refine Con.of (N := 86) Tryz.func74 rfl rfl rfl fun w0_ fg_ => sr <| p1 rfl 0 rfl (q_box rfl (CellsOf.agg _)) <| p1 rfl 1 rfl (q_box rfl (CellsOf.agg _)) <| p1 rfl 2 rfl (q_box rfl (CellsOf.agg _)) <| ak rfl <| ak rfl <| nt <| W.seq ?_
 refine W.jn0 (Γ := (Value × Value)) (fun (g108 : (Value × Value)) => [(3, PtrA [SlcA kInt a0.fGraph.fNodes, SlcA kEdge a0.fGraph.fEdges, SlcA kSlot a0.fSlots, iA a0.fVars, SlcA kTest a0.fTests]), (4, PtrA [SlcA kInt a1.fGraph.fNodes, SlcA kEdge a1.fGraph.fEdges, SlcA (kSl kInt) a1.fValues]), (5, PtrA [SlcA kInt a2.fNodes, SlcA kInt a2.fEdges]), (8, HdA g108.1), (9, HdA g108.2)]) (fun (g108 : (Value × Value)) => [SlE 3 g108.1 kInt (List.replicate (a0.fVars : Int).toNat (0 : Int)), SlE 4 g108.2 kBool (List.replicate (a0.fVars : Int).toNat false)]) h (fun g108 h => ?_) (fun j113 Kj113 h => ?_)
 ·refine QN.then_ <| W.seq <| sr <| fd rfl rfl fo42_1 rfl <| ld rfl rfl sh39 <| p1 rfl 23 rfl (q_len rfl elS39) <| mk_ rfl <| nt <| W.block ?_
  refine W.loop3 (Γ := Unit) (fun (_ : Unit) (_ : (List Int)) (_ : (List Bool)) (x25 : Int) => [(3, PtrA [SlcA kInt a0.fGraph.fNodes, SlcA kEdge a0.fGraph.fEdges, SlcA kSlot a0.fSlots, iA a0.fVars, SlcA kTest a0.fTests]), (4, PtrA [SlcA kInt a1.fGraph.fNodes, SlcA kEdge a1.fGraph.fEdges, SlcA (kSl kInt) a1.fValues]), (5, PtrA [SlcA kInt a2.fNodes, SlcA kInt a2.fEdges]), (8, HdA g108.1), (9, HdA g108.2), (23, SlcA kSlot a0.fSlots), (24, iA (a0.fSlots.length : Int)), (25, iA x25)]) (fun (_ : Unit) (x8 : (List Int)) (x9 : (List Bool)) (_ : Int) => [SlE 3 g108.1 kInt x8, SlE 4 g108.2 kBool x9]) h () (.o4 rfl (.o4 rfl (.nil _))) rfl (fun rec0 K0 next0 _ x8 x9 x25 h => ?_)
  unfold attribute_solve.b0 at h
  refine sr <| p2 rfl 25 rfl 24 rfl (q_int rfl rfl) <| nt <| W.seq ?_
  refine W.condP h rfl (fun hb212 h => ?_) (fun hb212 h => ?_)
  ·refine W.skip <| QN.then_ <| W.seq <| W.block <| sr ?_
   obtain ⟨c213, h⟩ := ite_n h
   refine p2 rfl 23 rfl 25 rfl (q_index rfl el39 rfl c213.1 c213.2) <| lS rfl rfl sh113 rfl rfl <| WL.w [] rfl (Wanted.plain rfl) rfl rfl .nil (w_alloc rfl z113 (l := [iA 0, iA 0, iA 0, iA 0]) rfl) ?_
   rintro _ _ ⟨b214, rfl, rfl⟩
   refine WL.w0 [0] rfl (Wanted.plain rfl) rfl (.s 11 rfl (.s 28 rfl .nil)) (w_store (L := [iA ((rd a0.fSlots x25).fNode), iA ((rd a0.fSlots x25).fAttr), iA ((rd a0.fSlots x25).fTerm.fVar), iA ((rd a0.fSlots x25).fTerm.fAdd)]) rfl sh113 (CellsOf.agg _) rfl rfl (leB rfl) rfl) ?_
   rintro _ _ ⟨rfl, rfl⟩
   refine WL.nil <| QN.to (StTo.still [0] 11 rfl rfl) <| QN.then_ <| W.seq <| W.drawK [(0, false), (1, false), (2, false), (3, false), (4, false), (5, false), (6, false), (7, false), (8, false), (9, false), (10, false), (11, false), (12, false), (13, false), (14, false)] [] (bm [0, 1, 0, 4, 0, 16, 60, 124, 255, 511, 0, 1024, 4095, 8191, 16383]) mx (by kernel_rfl) <| df rfl rfl rfl fo60_1 rfl <| dl rfl rfl rfl sh58 <| df rfl rfl rfl fo64_0 rfl <| dl rfl rfl rfl sh26 <| df rfl rfl rfl fo113_0 rfl <| dl rfl rfl rfl sh3 ?_
   obtain ⟨c221, h⟩ := ite_n h
   refine DK.cons rfl rfl (.p rfl (.s 32 rfl (.s 34 rfl .nil)) rfl (q_index rfl el26 rfl c221.1 c221.2)) <| dl rfl rfl rfl sh3 ?_
   obtain ⟨c222, h⟩ := ite_n h
   refine DK.cons rfl rfl (.p rfl (.s 30 rfl (.s 36 rfl .nil)) rfl (q_index rfl el58 rfl c222.1 c222.2)) <| dl rfl rfl rfl sh26 <| df rfl rfl rfl fo113_1 rfl <| dl rfl rfl rfl sh3 ?_
   obtain ⟨c223, h⟩ := ite_n h
   refine DK.cons rfl rfl (.p rfl (.s 38 rfl (.s 40 rfl .nil)) rfl (q_index rfl el26 rfl c223.1 c223.2)) <| dl rfl rfl rfl sh3 <| DK.cons rfl rfl (.p rfl (.s 42 rfl .nil) rfl (q_assign rfl)) <| DK.nil <| CSteps.nil <| QN.weaken (env' := [(12, _), (11, _), (25, _), (24, _), (23, _), (9, _), (8, _), (5, _), (4, _), (3, _)]) (.o4 rfl (.o4 rfl (.o2 rfl (.nil _)))) <| QN.then_ <| W.seq <| sr <| fd rfl rfl fo113_2 rfl <| fd rfl rfl fo23_0 rfl <| ld rfl rfl sh3 ?_
   refine av rfl rfl <| nt <| W.seq ?_
   refine W.jn1 (Γ := Unit) (fun (_ : Unit) (x54 : Bool) => [(3, PtrA [SlcA kInt a0.fGraph.fNodes, SlcA kEdge a0.fGraph.fEdges, SlcA kSlot a0.fSlots, iA a0.fVars, SlcA kTest a0.fTests]), (4, PtrA [SlcA kInt a1.fGraph.fNodes, SlcA kEdge a1.fGraph.fEdges, SlcA (kSl kInt) a1.fValues]), (5, PtrA [SlcA kInt a2.fNodes, SlcA kInt a2.fEdges]), (8, HdA g108.1), (9, HdA g108.2), (23, SlcA kSlot a0.fSlots), (24, iA (a0.fSlots.length : Int)), (25, iA x25), (11, PtrA [iA ((rd a0.fSlots x25).fNode), iA ((rd a0.fSlots x25).fAttr), iA ((rd a0.fSlots x25).fTerm.fVar), iA ((rd a0.fSlots x25).fTerm.fAdd)]), (12, iA (rd (rd a1.fValues (rd a2.fNodes ((rd a0.fSlots x25).fNode))) ((rd a0.fSlots x25).fAttr))), (13, iA ((rd a0.fSlots x25).fTerm.fVar)), (54, bA x54)]) (fun (_ : Unit) (_ : Bool) => [SlE 3 g108.1 kInt x8, SlE 4 g108.2 kBool x9]) h (fun _ x54 h => ?_) (fun j227 Kj227 h => ?_)
   ·refine QN.then_ ?_
    refine W.jn2 (Γ := Unit) (fun (_ : Unit) (_ : (List Int)) (_ : (List Bool)) => [(3, PtrA [SlcA kInt a0.fGraph.fNodes, SlcA kEdge a0.fGraph.fEdges, SlcA kSlot a0.fSlots, iA a0.fVars, SlcA kTest a0.fTests]), (4, PtrA [SlcA kInt a1.fGraph.fNodes, SlcA kEdge a1.fGraph.fEdges, SlcA (kSl kInt) a1.fValues]), (5, PtrA [SlcA kInt a2.fNodes, SlcA kInt a2.fEdges]), (8, HdA g108.1), (9, HdA g108.2), (23, SlcA kSlot a0.fSlots), (24, iA (a0.fSlots.length : Int)), (25, iA x25), (11, PtrA [iA ((rd a0.fSlots x25).fNode), iA ((rd a0.fSlots x25).fAttr), iA ((rd a0.fSlots x25).fTerm.fVar), iA ((rd a0.fSlots x25).fTerm.fAdd)]), (12, iA (rd (rd a1.fValues (rd a2.fNodes ((rd a0.fSlots x25).fNode))) ((rd a0.fSlots x25).fAttr)))]) (fun (_ : Unit) (x8' : (List Int)) (x9' : (List Bool)) => [SlE 3 g108.1 kInt x8', SlE 4 g108.2 kBool x9']) h (fun _ x8' x9' h => ?_) (fun j233 Kj233 h => ?_)
    ·refine QN.then_ <| sr <| fd rfl rfl fo113_2 rfl <| lS rfl rfl sh23 rfl rfl <| mv rfl rfl ?_
     obtain ⟨t234, ht234, h⟩ := bind_s h
     refine WL.q (Wanted.plain rfl) rfl rfl (.s 67 rfl (.s 68 rfl .nil)) (q_lend (f := 41) (A := iA t234) (xs := [.tmp 67, .tmp 68]) («as» := [AggA [iA ((rd a0.fSlots x25).fTerm.fVar), iA ((rd a0.fSlots x25).fTerm.fAdd)], HdA g108.1]) rfl ca41 (attribute_value.con k ((rd a0.fSlots x25).fTerm) x8' t234 ht234) rfl (.cons (.id _) (.cons (.slc 0 rfl) .nil)) (Flat.eq _)) <| mv rfl rfl <| p2 rfl 69 rfl 70 rfl (q_int rfl rfl) <| WL.nil <| QN.weaken (env' := [(71, _), (25, _), (24, _), (23, _), (9, _), (8, _), (5, _), (4, _), (3, _)]) (.o4 rfl (.o4 rfl (.one rfl (.nil _)))) <| QN.then_ ?_
     refine W.condP h rfl (fun hb235 h => ?_) (fun hb235 h => ?_)
     ·refine sr <| ak rfl <| ak rfl <| WL.nil <| QN.weaken (env' := [(7, _), (6, _)]) (.o2 rfl (.nil _)) <| QN.then_ <| W.ret <| QR.block <| QR.then_ <| QR.then_ <| QR.block <| QR.then_ ?_
      cases h
      exact QR.f2 rfl rfl (.t rfl) (.t rfl) (.imp (Imp.tup (.cons (Imp.nil kInt) (.cons (Imp.id _) .nil))))
     ·refine W.skip <| QN.block <| QN.then_ <| W.region ?_
      obtain ⟨c236, h⟩ := ite_n h
      refine pk rfl 25 rfl (q_addR rfl c236) <| mv rfl rfl <| WL.nil ?_
      exact next0 () x8' x9' (x25 + 1) _ h (.o4 rfl (.o4 rfl (.nil _)))
    ·refine W.condP h rfl (fun hb237 h => ?_) (fun hb237 h => ?_)
     ·refine W.region <| mv rfl rfl <| mv rfl rfl <| mv rfl rfl <| mv rfl rfl <| mv rfl rfl <| fd rfl rfl fo113_2 rfl <| fd rfl rfl fo23_1 rfl <| ld rfl rfl sh3 ?_
      obtain ⟨c238, h⟩ := ite_n h
      refine p2 rfl 59 rfl 62 rfl (q_subR rfl c238) ?_
      obtain ⟨c239, h⟩ := ite_n h
      refine WL.q (Wanted.plain rfl) rfl rfl (.s 55 rfl (.s 56 rfl .nil)) (q_indexO rfl el26 (j := 0) rfl c239.1 c239.2) <| WL.w0 [0] rfl (Wanted.plain rfl) rfl (.s 64 rfl (.s 63 rfl .nil)) (w_storeEl (kd := kInt) (z := ((rd (rd a1.fValues (rd a2.fNodes ((rd a0.fSlots x25).fNode))) ((rd a0.fSlots x25).fAttr)) - (rd a0.fSlots x25).fTerm.fAdd)) rfl sh3 (CellsOf.one rfl) rfl rfl rfl c239.1 c239.2 rfl rfl) ?_
      rintro _ _ ⟨rfl, rfl⟩
      obtain ⟨c240, h⟩ := ite_n h
      refine WL.q (Wanted.plain rfl) rfl rfl (.s 57 rfl (.s 58 rfl .nil)) (q_indexO rfl el111 (j := 1) rfl c240.1 c240.2) <| WL.w0 [1] rfl (Wanted.plain rfl) rfl (.s 65 rfl (.k .nil)) (w_storeEl (kd := kBool) (z := true) rfl sh4 (CellsOf.one rfl) rfl rfl rfl c240.1 c240.2 rfl rfl) ?_
      rintro _ _ ⟨rfl, rfl⟩
      refine WL.nil <| QN.order [1, 0] rfl ?_
      exact QN.weaken (.o4 rfl (.o4 rfl (.o2 rfl (.nil _)))) (Kj233 () (x8.set ((rd a0.fSlots x25).fTerm.fVar : Int).toNat ((rd (rd a1.fValues (rd a2.fNodes ((rd a0.fSlots x25).fNode))) ((rd a0.fSlots x25).fAttr)) - (rd a0.fSlots x25).fTerm.fAdd)) (x9.set ((rd a0.fSlots x25).fTerm.fVar : Int).toNat true) h)
     ·refine W.skip ?_
      exact QN.weaken (.o4 rfl (.o4 rfl (.o2 rfl (.nil _)))) (Kj233 () x8 x9 h)
   ·refine W.region <| mv rfl rfl <| pk rfl 46 rfl (q_int rfl rfl) <| mv rfl rfl ?_
    rcases bif_s h with ⟨hb241, h⟩ | ⟨hb241, h⟩
    ·refine wm rfl rfl rfl hb241 rfl rfl <| wm rfl rfl rfl hb241 rfl rfl ?_
     obtain ⟨c242, h⟩ := ite_n h
     refine wq rfl rfl rfl hb241 (.s 49 rfl (.s 50 rfl .nil)) (q_indexO rfl el111 (j := 1) rfl c242.1 c242.2) <| wq rfl rfl rfl hb241 (.s 51 rfl .nil) (q_loadEl rfl sh4 (j := 1) rfl rfl c242.1 c242.2 rfl) <| wq rfl rfl rfl hb241 (.s 52 rfl .nil) (q_not rfl).o <| p2 rfl 48 rfl 53 rfl (q_pickT rfl hb241) <| WL.nil ?_
     exact QN.weaken (.o4 rfl (.o4 rfl (.o4 rfl (.nil _)))) (Kj227 () (!(rd x9 ((rd a0.fSlots x25).fTerm.fVar))) h)
    ·refine sk rfl rfl rfl hb241 <| sk rfl rfl rfl hb241 <| sk rfl rfl rfl hb241 <| sk rfl rfl rfl hb241 <| sk rfl rfl rfl hb241 <| pk rfl 48 rfl (q_pickF rfl hb241) <| WL.nil ?_
     exact QN.weaken (.o4 rfl (.o4 rfl (.o4 rfl (.nil _)))) (Kj227 () false h)
  ·refine W.exit <| QX.then_ <| QX.then_ <| QX.here <| QN.weaken (env' := [(8, _), (3, _)]) (.o2 rfl (.nil _)) <| QN.then_ <| W.seq <| sr <| fd rfl rfl fo42_3 rfl <| ld rfl rfl sh40 <| p1 rfl 74 rfl (q_len rfl elS40) <| mk_ rfl ?_
   refine nt <| W.block <| W.drop [1] rfl ?_
   refine W.loop1 (Γ := Unit) (fun (_ : Unit) (x76 : Int) => [(8, HdA g108.1), (74, SlcA kTest a0.fTests), (75, iA (a0.fTests.length : Int)), (76, iA x76)]) (fun (_ : Unit) (_ : Int) => [SlE 3 g108.1 kInt x8]) h () (.o4 rfl (.nil _)) rfl (fun rec1 K1 next1 _ x76 h => ?_)
   unfold attribute_solve.b1 at h
   refine sr <| p2 rfl 76 rfl 75 rfl (q_int rfl rfl) <| nt <| W.seq ?_
   refine W.condP h rfl (fun hb255 h => ?_) (fun hb255 h => ?_)
   ·refine W.skip <| QN.then_ <| W.seq <| W.block <| sr ?_
    obtain ⟨c256, h⟩ := ite_n h
    refine p2 rfl 74 rfl 76 rfl (q_index rfl el40 rfl c256.1 c256.2) <| lS rfl rfl sh86 rfl rfl <| WL.w [] rfl (Wanted.plain rfl) rfl rfl .nil (w_alloc rfl z86 (l := [iA 0, iA 0, iA 0, iA 0, iA 0]) rfl) ?_
    rintro _ _ ⟨b257, rfl, rfl⟩
    refine WL.w0 [0] rfl (Wanted.plain rfl) rfl (.s 15 rfl (.s 79 rfl .nil)) (w_store (L := [iA ((rd a0.fTests x76).fKind), iA ((rd a0.fTests x76).fLeft.fVar), iA ((rd a0.fTests x76).fLeft.fAdd), iA ((rd a0.fTests x76).fRight.fVar), iA ((rd a0.fTests x76).fRight.fAdd)]) rfl sh86 (CellsOf.agg _) rfl rfl (leB rfl) rfl) ?_
    rintro _ _ ⟨rfl, rfl⟩
    refine WL.nil <| QN.to (StTo.still [0] 15 rfl rfl) <| QN.then_ <| sr <| lS rfl rfl sh86 rfl rfl <| mv rfl rfl ?_
    obtain ⟨t258, ht258, h⟩ := bind_s h
    refine WL.q (Wanted.plain rfl) rfl rfl (.s 80 rfl (.s 81 rfl .nil)) (q_lend (f := 122) (A := bA t258) (xs := [.tmp 80, .tmp 81]) («as» := [AggA [iA ((rd a0.fTests x76).fKind), iA ((rd a0.fTests x76).fLeft.fVar), iA ((rd a0.fTests x76).fLeft.fAdd), iA ((rd a0.fTests x76).fRight.fVar), iA ((rd a0.fTests x76).fRight.fAdd)], HdA g108.1]) rfl ca122 (difference_Holds.con k (rd a0.fTests x76) x8 t258 ht258) rfl (.cons (.id _) (.cons (.slc 0 rfl) .nil)) (Flat.eq _)) <| p1 rfl 82 rfl (q_not rfl) <| WL.nil <| QN.weaken (env' := [(83, _), (76, _), (75, _), (74, _), (8, _)]) (.o4 rfl (.one rfl (.nil _))) <| QN.then_ ?_
    refine W.condP h rfl (fun hb259 h => ?_) (fun hb259 h => ?_)
    ·refine sr <| ak rfl <| ak rfl <| nt <| W.ret <| QR.block <| QR.then_ <| QR.then_ <| QR.block <| QR.then_ ?_
     cases h
     exact QR.f2 rfl rfl (.t rfl) (.t rfl) (.imp (Imp.tup (.cons (Imp.nil kInt) (.cons (Imp.id _) .nil))))
    ·refine W.skip <| QN.block <| QN.then_ <| W.region ?_
     obtain ⟨c260, h⟩ := ite_n h
     refine pk rfl 76 rfl (q_addR rfl c260) <| mv rfl rfl <| WL.nil ?_
     exact next1 () (x76 + 1) _ h (.o4 rfl (.nil _))
   ·refine W.exit <| QX.then_ <| QX.then_ <| QX.here <| QN.then_ <| sr <| mv rfl rfl <| av rfl rfl <| ak rfl <| nt <| W.ret ?_
    cases h
    exact QR.f2 rfl rfl (.t rfl) (.t rfl) (.tup (.cons (.slc 0 rfl) (.cons (.id _) .nil)))
 ·refine W.drawKT [(0, false), (1, false), (3, false), (4, false)] [2, 5, 6, 7] [2, 5, 6, 7] 4 [[], [0], [0, 1], [], [3], [3, 4], [0, 1, 2], [0, 1, 2, 3, 4, 5, 6]] mx (by kernel_rfl) <| DKT.cons rfl rfl (.p rfl (.s 3 rfl .nil) rfl (q_field rfl fo42_2 rfl)) <| DKT.cons rfl rfl (.p rfl (.s 16 rfl .nil) rfl (q_load rfl sh3)) ?_
  obtain ⟨c261, h⟩ := ite_n h
  refine DKT.cons rfl rfl (.p rfl (.s 3 rfl .nil) rfl (q_field rfl fo42_2 rfl)) <| DKT.cons rfl rfl (.p rfl (.s 19 rfl .nil) rfl (q_load rfl sh3)) ?_
  obtain ⟨c263, h⟩ := ite_n h
  refine DKT.nil <| CT.step ?_
  refine CTc.yes rfl ?_ ?_
  ·refine CStep1.w [] (fun _ => rfl) rfl rfl rfl rfl (.s 17 rfl (.s 17 rfl .nil)) rfl (w_make (kd := kInt) (z := (0 : Int)) rfl el26 rfl gr3 z3 rfl c261.1 c261.2) ?_
   rintro _ _ ⟨v262, rfl, rfl⟩
   refine CT.list (l' := [5, 6, 7]) rfl <| CT.step ?_
   refine CTc.yes rfl ?_ ?_
   ·refine CStep1.w [] (fun _ => rfl) rfl rfl rfl rfl (.s 20 rfl (.s 20 rfl .nil)) rfl (w_make (kd := kBool) (z := false) rfl el111 rfl gr4 z4 rfl c263.1 c263.2) ?_
    rintro _ _ ⟨v264, rfl, rfl⟩
    refine CT.list (l' := [6, 7]) rfl <| CT.step ?_
    refine CTc.yes rfl ?_ ?_
    ·refine CStep1.p rfl rfl rfl (.s 18 rfl .nil) rfl (q_assign rfl) <| CT.list (l' := [7]) rfl <| CT.step ?_
     refine CTc.yes rfl ?_ ?_
     ·refine CStep1.p rfl rfl rfl (.s 21 rfl .nil) rfl (q_assign rfl) <| CT.list (l' := []) rfl <| CT.nil <| QN.order [1, 0] rfl ?_
      exact QN.weaken (.o4 rfl (.one rfl (.nil _))) (Kj113 (v262, v264) h)
     exact CTc.end
    refine CTc.no rfl ?_
    exact CTc.end
   refine CTc.yes rfl ?_ ?_
   ·refine CStep1.p rfl rfl rfl (.s 18 rfl .nil) rfl (q_assign rfl) <| CT.list (l' := [5, 7]) rfl <| CT.step ?_
    refine CTc.yes rfl ?_ ?_
    ·refine CStep1.w [] (fun _ => rfl) rfl rfl rfl rfl (.s 20 rfl (.s 20 rfl .nil)) rfl (w_make (kd := kBool) (z := false) rfl el111 rfl gr4 z4 rfl c263.1 c263.2) ?_
     rintro _ _ ⟨v264, rfl, rfl⟩
     refine CT.list (l' := [7]) rfl <| CT.step ?_
     refine CTc.yes rfl ?_ ?_
     ·refine CStep1.p rfl rfl rfl (.s 21 rfl .nil) rfl (q_assign rfl) <| CT.list (l' := []) rfl <| CT.nil <| QN.order [1, 0] rfl ?_
      exact QN.weaken (.o4 rfl (.one rfl (.nil _))) (Kj113 (v262, v264) h)
     exact CTc.end
    refine CTc.no rfl ?_
    exact CTc.end
   refine CTc.no rfl ?_
   exact CTc.end
  refine CTc.yes rfl ?_ ?_
  ·refine CStep1.w [] (fun _ => rfl) rfl rfl rfl rfl (.s 20 rfl (.s 20 rfl .nil)) rfl (w_make (kd := kBool) (z := false) rfl el111 rfl gr4 z4 rfl c263.1 c263.2) ?_
   rintro _ _ ⟨v264, rfl, rfl⟩
   refine CT.list (l' := [2, 6, 7]) rfl <| CT.step ?_
   refine CTc.yes rfl ?_ ?_
   ·refine CStep1.w [] (fun _ => rfl) rfl rfl rfl rfl (.s 17 rfl (.s 17 rfl .nil)) rfl (w_make (kd := kInt) (z := (0 : Int)) rfl el26 rfl gr3 z3 rfl c261.1 c261.2) ?_
    rintro _ _ ⟨v262, rfl, rfl⟩
    refine CT.list (l' := [6, 7]) rfl <| CT.step ?_
    refine CTc.yes rfl ?_ ?_
    ·refine CStep1.p rfl rfl rfl (.s 18 rfl .nil) rfl (q_assign rfl) <| CT.list (l' := [7]) rfl <| CT.step ?_
     refine CTc.yes rfl ?_ ?_
     ·refine CStep1.p rfl rfl rfl (.s 21 rfl .nil) rfl (q_assign rfl) <| CT.list (l' := []) rfl <| CT.nil ?_
      exact QN.weaken (.o4 rfl (.one rfl (.nil _))) (Kj113 (v262, v264) h)
     exact CTc.end
    refine CTc.no rfl ?_
    exact CTc.end
   refine CTc.no rfl <| CTc.no rfl ?_
   exact CTc.end
  refine CTc.no rfl <| CTc.no rfl ?_
  exact CTc.end
theorem attribute_Matches.con (k : Nat) (a0 : Types) (a1 : Pattern) (a2 : Host) (a3 : Bool) (r : ((List Match) × Int)) (h : attribute_Matches k a0 a1 a2 a3 = some r) : Con Tryz.prog 29 [] [AggA [SlcA kNodeType a0.fNodes, SlcA kEdgeType a0.fEdges], AggA [SlcA kInt a1.fGraph.fNodes, SlcA kEdge a1.fGraph.fEdges, SlcA kSlot a1.fSlots, iA a1.fVars, SlcA kTest a1.fTests], AggA [SlcA kInt a2.fGraph.fNodes, SlcA kEdge a2.fGraph.fEdges, SlcA (kSl kInt) a2.fValues], bA a3] (RA (TupA [SlcA kMatch r.1, iA r.2])) := by
 unfold attribute_Matches at h
 refine Con.of (N := 61) Tryz.func29 rfl rfl rfl fun w0_ fg_ => sr <| p1 rfl 0 rfl (q_box rfl (CellsOf.agg _)) <| p1 rfl 1 rfl (q_box rfl (CellsOf.agg _)) <| p1 rfl 2 rfl (q_box rfl (CellsOf.agg _)) <| ak rfl <| ak rfl <| nt <| W.seq <| sr ?_
 refine lS rfl rfl sh35 rfl rfl <| lS rfl rfl sh42 rfl rfl <| lS rfl rfl sh60 rfl rfl ?_
 obtain ⟨t100, ht100, h⟩ := bind_s h
 refine WL.p rfl rfl rfl (.s 18 rfl (.s 19 rfl (.s 20 rfl .nil))) (q_call (f := 72) (A := iA t100) (xs := [.tmp 18, .tmp 19, .tmp 20]) («as» := [AggA [SlcA kNodeType a0.fNodes, SlcA kEdgeType a0.fEdges], AggA [SlcA kInt a1.fGraph.fNodes, SlcA kEdge a1.fGraph.fEdges, SlcA kSlot a1.fSlots, iA a1.fVars, SlcA kTest a1.fTests], AggA [SlcA kInt a2.fGraph.fNodes, SlcA kEdge a2.fGraph.fEdges, SlcA (kSl kInt) a2.fValues]]) rfl ca72 (attribute_given.con k a0 a1 a2 t100 ht100) rfl) <| av rfl rfl <| WL.nil <| QN.weaken (env' := [(10, _), (6, _), (5, _), (4, _), (3, _)]) (.o4 rfl (.one rfl (.nil _))) <| QN.then_ <| sr <| mv rfl rfl <| pk rfl 22 rfl (q_int rfl rfl) <| nt ?_
 refine W.condP h rfl (fun hb101 h => ?_) (fun hb101 h => ?_)
 ·refine sr <| mv rfl rfl <| ak rfl <| av rfl rfl <| WL.nil <| QN.weaken (env' := [(9, _), (8, _)]) (.o2 rfl (.nil _)) <| QN.then_ <| W.ret <| QR.then_ ?_
  cases h
  exact QR.f2 rfl rfl (.t rfl) (.t rfl) (.imp (Imp.tup (.cons (Imp.nil kMatch) (.cons (Imp.id _) .nil))))
 ·refine W.skip <| QN.then_ <| sr <| lS rfl rfl sh35 rfl rfl <| fd rfl rfl fo42_0 rfl <| lS rfl rfl sh38 rfl rfl <| fd rfl rfl fo60_0 rfl <| lS rfl rfl sh38 rfl rfl <| mv rfl rfl ?_
  obtain ⟨t102, ht102, h⟩ := bind_s h
  refine WL.p rfl rfl rfl (.s 26 rfl (.s 28 rfl (.s 30 rfl (.s 31 rfl .nil)))) (q_call (f := 78) (A := TupA [SlcA kMorphism t102.1, iA t102.2]) (xs := [.tmp 26, .tmp 28, .tmp 30, .tmp 31]) («as» := [AggA [SlcA kNodeType a0.fNodes, SlcA kEdgeType a0.fEdges], AggA [SlcA kInt a1.fGraph.fNodes, SlcA kEdge a1.fGraph.fEdges], AggA [SlcA kInt a2.fGraph.fNodes, SlcA kEdge a2.fGraph.fEdges], bA a3]) rfl ca78 (search_All.con k a0 a1.fGraph a2.fGraph a3 t102 ht102) rfl) <| mv rfl rfl <| p1 rfl 25 rfl (q_extract rfl rfl) <| p1 rfl 25 rfl (q_extract rfl rfl) <| av rfl rfl <| av rfl rfl <| WL.nil <| QN.weaken (env' := [(12, _), (11, _), (6, _), (5, _)]) (.o4 rfl (.nil _)) <| QN.then_ <| W.seq <| sr <| mv rfl rfl ?_
  refine pk rfl 35 rfl (q_int rfl rfl) <| nt ?_
  refine W.condP h rfl (fun hb103 h => ?_) (fun hb103 h => ?_)
  ·refine sr <| mv rfl rfl <| ak rfl <| av rfl rfl <| WL.nil <| QN.weaken (env' := [(9, _), (8, _)]) (.o2 rfl (.nil _)) <| QN.then_ <| W.ret <| QR.then_ ?_
   cases h
   exact QR.f2 rfl rfl (.t rfl) (.t rfl) (.imp (Imp.tup (.cons (Imp.nil kMatch) (.cons (Imp.id _) .nil))))
  ·refine W.skip <| QN.then_ <| sr <| ak rfl <| nt <| W.seq <| sr <| mv rfl rfl <| p1 rfl 38 rfl (q_len rfl elS133) <| mk_ rfl ?_
   refine nt <| W.block <| W.to (StTo.newNil 76 kMatch) <| W.to (StTo.as 13 rfl Imp.nilHd) ?_
   refine W.loop2 (Γ := Value) (fun (g0 : Value) (_ : (List Match)) (x40 : Int) => [(5, PtrA [SlcA kInt a1.fGraph.fNodes, SlcA kEdge a1.fGraph.fEdges, SlcA kSlot a1.fSlots, iA a1.fVars, SlcA kTest a1.fTests]), (6, PtrA [SlcA kInt a2.fGraph.fNodes, SlcA kEdge a2.fGraph.fEdges, SlcA (kSl kInt) a2.fValues]), (13, HdA g0), (38, SlcA kMorphism t102.1), (39, iA (t102.1.length : Int)), (40, iA x40)]) (fun (g0 : Value) (x13 : (List Match)) (_ : Int) => [SlE 76 g0 kMatch x13]) h (.slice none 0 0) (.o4 rfl (.o2 rfl (.nil _))) rfl (fun rec0 K0 next0 g0 x13 x40 h => ?_)
   unfold attribute_Matches.b0 at h
   refine sr <| p2 rfl 40 rfl 39 rfl (q_int rfl rfl) <| nt <| W.seq ?_
   refine W.condP h rfl (fun hb136 h => ?_) (fun hb136 h => ?_)
   ·refine W.skip <| QN.then_ <| W.seq <| W.block <| sr ?_
    obtain ⟨c137, h⟩ := ite_n h
    refine p2 rfl 38 rfl 40 rfl (q_index rfl el133 rfl c137.1 c137.2) <| lS rfl rfl sh64 rfl rfl <| WL.w [] rfl (Wanted.plain rfl) rfl rfl .nil (w_alloc rfl z64 (l := [EqA (.slice none 0 0), EqA (.slice none 0 0)]) rfl) ?_
    rintro _ _ ⟨b138, rfl, rfl⟩
    refine WL.w0 [0] rfl (Wanted.plain rfl) rfl (.s 15 rfl (.s 43 rfl .nil)) (w_store (L := [SlcA kInt ((rd t102.1 x40).fNodes), SlcA kInt ((rd t102.1 x40).fEdges)]) rfl sh64 (CellsOf.agg _) rfl rfl (leB rfl) rfl) ?_
    rintro _ _ ⟨rfl, rfl⟩
    refine WL.nil <| QN.to (StTo.still [0] 15 rfl rfl) <| QN.then_ <| sr <| lS rfl rfl sh42 rfl rfl <| lS rfl rfl sh60 rfl rfl <| lS rfl rfl sh64 rfl rfl ?_
    obtain ⟨t139, ht139, h⟩ := bind_s h
    refine WL.p rfl rfl rfl (.s 45 rfl (.s 46 rfl (.s 47 rfl .nil))) (q_call (f := 74) (A := TupA [SlcA kInt t139.1, iA t139.2]) (xs := [.tmp 45, .tmp 46, .tmp 47]) («as» := [AggA [SlcA kInt a1.fGraph.fNodes, SlcA kEdge a1.fGraph.fEdges, SlcA kSlot a1.fSlots, iA a1.fVars, SlcA kTest a1.fTests], AggA [SlcA kInt a2.fGraph.fNodes, SlcA kEdge a2.fGraph.fEdges, SlcA (kSl kInt) a2.fValues], AggA [SlcA kInt ((rd t102.1 x40).fNodes), SlcA kInt ((rd t102.1 x40).fEdges)]]) rfl ca74 (attribute_solve.con k a1 a2 (rd t102.1 x40) t139 ht139) rfl) <| mv rfl rfl <| p1 rfl 44 rfl (q_extract rfl rfl) <| p1 rfl 44 rfl (q_extract rfl rfl) <| av rfl rfl <| av rfl rfl <| WL.nil <| QN.weaken (env' := [(17, _), (16, _), (15, _), (40, _), (39, _), (38, _), (13, _), (6, _), (5, _)]) (.o4 rfl (.o4 rfl (.one rfl (.nil _)))) <| QN.then_ <| sr <| mv rfl rfl <| pk rfl 51 rfl (q_int rfl rfl) ?_
    refine nt ?_
    refine W.condP h rfl (fun hb143 h => ?_) (fun hb143 h => ?_)
    ·refine W.region <| mv rfl rfl <| lS rfl rfl sh64 rfl rfl <| mv rfl rfl <| p2 rfl 54 rfl 55 rfl (q_build (is := [0, 1]) (xs := [.tmp 54, .tmp 55]) (L := [SlcA kInt ((rd t102.1 x40).fNodes), SlcA kInt ((rd t102.1 x40).fEdges), SlcA kInt t139.1]) rfl rfl z76 pl76 rfl rfl (.cons (CellsOf.agg _) (.cons (CellsOf.one rfl) .nil)) rfl) <| p1 rfl 56 rfl (q_lit (kd := kMatch) (ps := [(0, .tmp 56)]) (xs := [.tmp 56]) («as» := [AggA [SlcA kInt ((rd t102.1 x40).fNodes), SlcA kInt ((rd t102.1 x40).fEdges), SlcA kInt t139.1]]) (ys := [(Match.mk (rd t102.1 x40) t139.1)]) rfl rfl el71 rfl gr76 rfl rfl rfl (.cons (CellsOf.agg _) .nil)) ?_
     obtain ⟨c144, h⟩ := ite_n h
     refine WL.w [0] rfl (Wanted.plain rfl) rfl rfl (.s 53 rfl (.s 57 rfl .nil)) (w_append (kd := kMatch) rfl el71 rfl gr76 c144) ?_
     rintro _ _ ⟨v145, rfl, rfl⟩
     refine av rfl rfl <| WL.nil <| QN.block <| QN.weaken (env' := [(13, _), (40, _), (39, _), (38, _), (6, _), (5, _)]) (.o4 rfl (.o2 rfl (.nil _))) <| QN.then_ <| W.region ?_
     obtain ⟨c146, h⟩ := ite_n h
     refine pk rfl 40 rfl (q_addR rfl c146) <| mv rfl rfl <| WL.nil ?_
     exact next0 v145 (x13 ++ [(Match.mk (rd t102.1 x40) t139.1)]) (x40 + 1) _ h (.o4 rfl (.o2 rfl (.nil _)))
    ·refine W.skip <| QN.block <| QN.then_ <| W.region ?_
     obtain ⟨c147, h⟩ := ite_n h
     refine pk rfl 40 rfl (q_addR rfl c147) <| mv rfl rfl <| WL.nil ?_
     exact next0 g0 x13 (x40 + 1) _ h (.o4 rfl (.o2 rfl (.nil _)))
   ·refine W.exit <| QX.then_ <| QX.then_ <| QX.here <| QN.then_ <| sr <| mv rfl rfl <| av rfl rfl <| ak rfl <| WL.nil <| QN.weaken (env' := [(9, _), (8, _)]) (.o2 rfl (.nil _)) <| QN.then_ ?_
    refine W.ret ?_
    cases h
    exact QR.f2 rfl rfl (.t rfl) (.t rfl) (.tup (.cons (.slc 0 rfl) (.cons (.id _) .nil)))
theorem slices_Clone_Test.conN (k : Nat) (a0 : (List Test)) (r : (List Test)) (h : slices_Clone_Test k a0 = some r) : Con Tryz.prog 95 [] [SlcA kTest a0] (RApp 86 kTest r) := by
  unfold slices_Clone_Test at h
  obtain ⟨hl, h⟩ := ite_n h
  cases h
  refine Con.of (N := 8) Tryz.func95 rfl rfl rfl fun w0_ fg_ => ?_
  refine W.seq (W.region (ak rfl (WL.nil (QN.then_ ?_))))
  refine W.seq (W.seq (W.region (mv rfl rfl (p1 rfl 3 rfl (q_nilAny (kd := kTest) (xs := a0) rfl elS40) (WL.nil (QN.then_ ?_))))))
  refine W.condAny rfl (fun hp => ?_) (fun _ => ?_)
  · have hn := hp rfl
    subst hn
    refine W.seq (W.region (ak rfl (WL.nil (QN.then_ ?_))))
    refine W.ret (QR.then_ ?_)
    refine QR.to (StTo.newNil 86 kTest) ?_
    refine QR.to (StTo.as 2 rfl Imp.nilHd) ?_
    exact QR.tmp rfl rfl ⟨_, rfl, rfl⟩
  · refine W.skip (QN.then_ ?_)
    refine W.seq (W.region ?_)
    refine WL.p rfl rfl rfl .nil (q_lit0 rfl el40 gr86) ?_
    refine mv rfl rfl ?_
    refine WL.w [] rfl (Wanted.plain rfl) rfl rfl (.s 5 rfl (.s 6 rfl .nil)) (w_appendZ (kd := kTest) rfl el40 rfl gr86 hl) ?_
    rintro _ _ ⟨v, rfl, rfl⟩
    refine av rfl rfl ?_
    refine WL.nil (QN.then_ ?_)
    refine W.ret ?_
    exact QR.tmp rfl rfl ⟨_, rfl, rfl⟩
theorem slices_Clone_Test.con (k : Nat) (a0 : (List Test)) (r : (List Test)) (h : slices_Clone_Test k a0 = some r) : Con Tryz.prog 95 [] [SlcA kTest a0] (RA (SlcA kTest r)) := Con.free (slices_Clone_Test.conN k a0 r h)
theorem attribute_system_1.con (k : Nat) (a0 : Int) (r : Term) (h : attribute_system_1 k a0 = some r) : Con Tryz.prog 96 [] [iA a0] (RA (AggA [iA r.fVar, iA r.fAdd])) := by
 unfold attribute_system_1 at h
 refine Con.of (N := 5) Tryz.func96 rfl rfl rfl fun w0_ fg_ => sr <| WL.w [] rfl (Wanted.plain rfl) rfl rfl .nil (w_alloc rfl z23 (l := [iA 0, iA 0]) rfl) ?_
 rintro _ _ ⟨b100, rfl, rfl⟩
 refine nx <| mv rfl rfl <| WL.p rfl rfl rfl (.k (.s 3 rfl .nil)) (q_build (is := [0, 1]) (xs := [.const (.int .i64 (-1)), .tmp 3]) (L := [iA (-1), iA a0]) rfl rfl z23 pl23 rfl rfl (.cons (CellsOf.one rfl) (.cons (CellsOf.one rfl) .nil)) rfl) <| WL.w0 [0] rfl (Wanted.plain rfl) rfl (.s 2 rfl (.s 4 rfl .nil)) (w_store (L := [iA (-1), iA a0]) rfl sh23 (CellsOf.agg _) rfl rfl (leB rfl) rfl) ?_
 rintro _ _ ⟨rfl, rfl⟩
 refine WL.nil <| QN.to (StTo.still [0] 2 rfl rfl) <| QN.then_ <| W.ret ?_
 cases h
 exact QR.f1 rfl rfl (.ps rfl sh23 rfl) (.id _)
theorem attribute_system.con (k : Nat) (a0 : Types) (a1 : Pattern) (r : (List Test)) (h : attribute_system k a0 a1 = some r) : Con Tryz.prog 45 [] [AggA [SlcA kNodeType a0.fNodes, SlcA kEdgeType a0.fEdges], AggA [SlcA kInt a1.fGraph.fNodes, SlcA kEdge a1.fGraph.fEdges, SlcA kSlot a1.fSlots, iA a1.fVars, SlcA kTest a1.fTests]] (RA (SlcA kTest r)) := by
 unfold attribute_system at h
 refine Con.of (N := 81) Tryz.func45 rfl rfl rfl fun w0_ fg_ => sr <| p1 rfl 0 rfl (q_box rfl (CellsOf.agg _)) <| p1 rfl 1 rfl (q_box rfl (CellsOf.agg _)) <| ak rfl <| nx <| fd rfl rfl fo42_3 rfl <| ld rfl rfl sh40 ?_
 obtain ⟨t100, ht100, h⟩ := bind_s h
 refine WL.w [] rfl (Wanted.plain rfl) rfl rfl (.s 14 rfl .nil) (w_callI (f := 95) (xs := [.tmp 14]) («as» := [SlcA kTest a1.fTests]) rfl ca95 (slices_Clone_Test.conN k a1.fTests t100 ht100) rfl (.cons (Imp.id _) .nil)) ?_
 rintro _ _ ⟨v101, rfl, rfl⟩
 refine av rfl rfl <| nx <| WL.p rfl rfl rfl (.f («as» := (fun (x : Int) => [iA x])) (res := (fun (y : Term) => AggA [iA y.fVar, iA y.fAdd])) (p := fun x => attribute_system_1 k x) ca96 (fun x y hp => attribute_system_1.con k x y hp) .nil) (q_assign rfl) <| nt <| W.seq <| sr <| fd rfl rfl fo42_1 rfl <| ld rfl rfl sh39 ?_
 refine p1 rfl 17 rfl (q_len rfl elS39) <| mk_ rfl <| WL.nil <| QN.weaken (env' := [(19, _), (18, _), (17, _), (6, _), (5, _), (3, _), (2, _)]) (.o4 rfl (.o2 rfl (.one rfl (.nil _)))) <| QN.then_ <| W.block ?_
 refine W.loop2 (Γ := Value) (fun (g0 : Value) (_ : (List Test)) (x19 : Int) => [(2, PtrA [SlcA kNodeType a0.fNodes, SlcA kEdgeType a0.fEdges]), (3, PtrA [SlcA kInt a1.fGraph.fNodes, SlcA kEdge a1.fGraph.fEdges, SlcA kSlot a1.fSlots, iA a1.fVars, SlcA kTest a1.fTests]), (5, HdA g0), (6, FnA Tryz.prog (fun (x : Int) => [iA x]) (fun (y : Term) => AggA [iA y.fVar, iA y.fAdd]) (fun x => attribute_system_1 k x)), (17, SlcA kSlot a1.fSlots), (18, iA (a1.fSlots.length : Int)), (19, iA x19)]) (fun (g0 : Value) (x5 : (List Test)) (_ : Int) => [SlE 86 g0 kTest x5]) h v101 (.o4 rfl (.o2 rfl (.one rfl (.nil _)))) rfl (fun rec0 K0 next0 g0 x5 x19 h => ?_)
 unfold attribute_system.b0 at h
 refine sr <| p2 rfl 19 rfl 18 rfl (q_int rfl rfl) <| nt <| W.seq ?_
 refine W.condP h rfl (fun hb286 h => ?_) (fun hb286 h => ?_)
 ·refine W.skip <| QN.then_ <| W.seq <| W.block <| sr <| mv rfl rfl ?_
  obtain ⟨c287, h⟩ := ite_n h
  refine p2 rfl 17 rfl 19 rfl (q_index rfl el39 rfl c287.1 c287.2) <| lS rfl rfl sh113 rfl rfl <| WL.w [] rfl (Wanted.plain rfl) rfl rfl .nil (w_alloc rfl z113 (l := [iA 0, iA 0, iA 0, iA 0]) rfl) ?_
  rintro _ _ ⟨b288, rfl, rfl⟩
  refine av rfl rfl <| WL.w0 [0] rfl (Wanted.plain rfl) rfl (.s 8 rfl (.s 23 rfl .nil)) (w_store (L := [iA ((rd a1.fSlots x19).fNode), iA ((rd a1.fSlots x19).fAttr), iA ((rd a1.fSlots x19).fTerm.fVar), iA ((rd a1.fSlots x19).fTerm.fAdd)]) rfl sh113 (CellsOf.agg _) rfl rfl (leB rfl) rfl) ?_
  rintro _ _ ⟨rfl, rfl⟩
  refine WL.nil <| QN.to (StTo.still [0] 8 rfl rfl) <| QN.then_ <| sr <| lS rfl rfl sh35 rfl rfl <| lS rfl rfl sh42 rfl rfl <| lS rfl rfl sh113 rfl rfl ?_
  obtain ⟨t289, ht289, h⟩ := bind_s h
  refine WL.p rfl rfl rfl (.s 25 rfl (.s 26 rfl (.s 27 rfl .nil))) (q_call (f := 55) (A := TupA [AggA [EqA (strV t289.1.fName), iA t289.1.fLow, iA t289.1.fHigh, SlcA kStr t289.1.fNames], bA t289.2]) (xs := [.tmp 25, .tmp 26, .tmp 27]) («as» := [AggA [SlcA kNodeType a0.fNodes, SlcA kEdgeType a0.fEdges], AggA [SlcA kInt a1.fGraph.fNodes, SlcA kEdge a1.fGraph.fEdges, SlcA kSlot a1.fSlots, iA a1.fVars, SlcA kTest a1.fTests], AggA [iA ((rd a1.fSlots x19).fNode), iA ((rd a1.fSlots x19).fAttr), iA ((rd a1.fSlots x19).fTerm.fVar), iA ((rd a1.fSlots x19).fTerm.fAdd)]]) rfl ca55 (attribute_attr.con k a0 a1 (rd a1.fSlots x19) t289 ht289) rfl) <| mv rfl rfl <| p1 rfl 24 rfl (q_extract rfl rfl) <| p1 rfl 24 rfl (q_extract rfl rfl) <| WL.w [] rfl (Wanted.plain rfl) rfl rfl .nil (w_alloc rfl z95 (l := [EqA (strV ([] : Str)), iA 0, iA 0, EqA (.slice none 0 0)]) rfl) ?_
  rintro _ _ ⟨b290, rfl, rfl⟩
  refine WL.w0 [0] rfl (Wanted.plain rfl) rfl (.s 9 rfl (.s 29 rfl .nil)) (w_store (L := [EqA (strV t289.1.fName), iA t289.1.fLow, iA t289.1.fHigh, SlcA kStr t289.1.fNames]) rfl sh95 (CellsOf.agg _) rfl rfl (leB rfl) rfl) ?_
  rintro _ _ ⟨rfl, rfl⟩
  refine av rfl rfl <| WL.nil <| QN.to (StTo.still [0] 9 rfl rfl) <| QN.weaken (env' := [(9, _), (7, _), (8, _), (19, _), (18, _), (17, _), (6, _), (5, _), (3, _), (2, _)]) (.o4 rfl (.o4 rfl (.o2 rfl (.nil _)))) <| QN.then_ <| W.seq <| W.drawK [(0, false), (1, false), (2, false), (3, false), (4, false), (5, false), (6, false), (7, false), (8, false), (9, false), (10, false), (11, false), (12, false), (13, false), (14, false), (15, false)] [16, 17] (bm [0, 0, 0, 4, 14, 0, 32, 126, 0, 256, 0, 0, 2048, 7198, 16158, 32766, 65535, 131071]) mx (by kernel_rfl) <| dm rfl rfl rfl <| dm rfl rfl rfl <| df rfl rfl rfl fo95_1 rfl <| dl rfl rfl rfl sh3 ?_
  obtain ⟨t299, ht299, h⟩ := bind_s h
  refine DK.cons rfl rfl (.p rfl (.s 32 rfl (.s 34 rfl .nil)) rfl (q_callV («as» := (fun (x : Int) => [iA x])) (res := (fun (y : Term) => AggA [iA y.fVar, iA y.fAdd])) (x := t289.1.fLow) (y := t299) (xs := [.tmp 34]) rfl ht299 rfl)) <| df rfl rfl rfl fo113_2 rfl <| DK.cons rfl rfl (.p rfl (.s 36 rfl .nil) rfl (q_loadS rfl sh23 (leB rfl) rfl)) <| DK.cons rfl rfl (.p rfl (.k (.s 35 rfl (.s 37 rfl .nil))) rfl (q_build (is := [0, 1, 2]) (xs := [.const (.int .i64 1), .tmp 35, .tmp 37]) (L := [iA 1, iA t299.fVar, iA t299.fAdd, iA ((rd a1.fSlots x19).fTerm.fVar), iA ((rd a1.fSlots x19).fTerm.fAdd)]) rfl rfl z86 pl86 rfl rfl (.cons (CellsOf.one rfl) (.cons (CellsOf.agg _) (.cons (CellsOf.agg _) .nil))) rfl)) <| df rfl rfl rfl fo113_2 rfl <| DK.cons rfl rfl (.p rfl (.s 39 rfl .nil) rfl (q_loadS rfl sh23 (leB rfl) rfl)) <| dm rfl rfl rfl <| df rfl rfl rfl fo95_2 rfl <| dl rfl rfl rfl sh3 ?_
  obtain ⟨t300, ht300, h⟩ := bind_s h
  refine DK.cons rfl rfl (.p rfl (.s 41 rfl (.s 43 rfl .nil)) rfl (q_callV («as» := (fun (x : Int) => [iA x])) (res := (fun (y : Term) => AggA [iA y.fVar, iA y.fAdd])) (x := t289.1.fHigh) (y := t300) (xs := [.tmp 43]) rfl ht300 rfl)) <| DK.cons rfl rfl (.p rfl (.k (.s 40 rfl (.s 44 rfl .nil))) rfl (q_build (is := [0, 1, 2]) (xs := [.const (.int .i64 1), .tmp 40, .tmp 44]) (L := [iA 1, iA ((rd a1.fSlots x19).fTerm.fVar), iA ((rd a1.fSlots x19).fTerm.fAdd), iA t300.fVar, iA t300.fAdd]) rfl rfl z86 pl86 rfl rfl (.cons (CellsOf.one rfl) (.cons (CellsOf.agg _) (.cons (CellsOf.agg _) .nil))) rfl)) <| DK.cons rfl rfl (.p rfl (.s 38 rfl (.s 45 rfl .nil)) rfl (q_lit (kd := kTest) (ps := [(0, .tmp 38), (1, .tmp 45)]) (xs := [.tmp 38, .tmp 45]) («as» := [AggA [iA 1, iA t299.fVar, iA t299.fAdd, iA ((rd a1.fSlots x19).fTerm.fVar), iA ((rd a1.fSlots x19).fTerm.fAdd)], AggA [iA 1, iA ((rd a1.fSlots x19).fTerm.fVar), iA ((rd a1.fSlots x19).fTerm.fAdd), iA t300.fVar, iA t300.fAdd]]) (ys := [(Test.mk 1 t299 ((rd a1.fSlots x19).fTerm)), (Test.mk 1 ((rd a1.fSlots x19).fTerm) t300)]) rfl rfl el40 rfl gr86 rfl rfl rfl (.cons (CellsOf.agg _) (.cons (CellsOf.agg _) .nil)))) ?_
  obtain ⟨c301, h⟩ := ite_n h
  refine DK.nil <| CSteps.w [0] rfl rfl rfl rfl (.s 31 rfl (.s 46 rfl .nil)) rfl (w_append (kd := kTest) rfl el40 rfl gr86 c301) ?_
  rintro _ _ ⟨v302, rfl, rfl⟩
  refine CSteps.p rfl rfl rfl (.s 47 rfl .nil) rfl (q_assign rfl) <| CSteps.nil <| QN.weaken (env' := [(5, _), (7, _), (8, _), (19, _), (18, _), (17, _), (6, _), (3, _), (2, _)]) (.o4 rfl (.o4 rfl (.one rfl (.nil _)))) <| QN.then_ <| sr <| mv rfl rfl ?_
  obtain ⟨c303, h⟩ := ite_n h
  refine pk rfl 48 rfl (q_subR rfl c303) <| av rfl rfl <| nt <| W.block ?_
  refine W.loop1 (Γ := Unit) (fun (_ : Unit) (x11 : Int) => [(2, PtrA [SlcA kNodeType a0.fNodes, SlcA kEdgeType a0.fEdges]), (3, PtrA [SlcA kInt a1.fGraph.fNodes, SlcA kEdge a1.fGraph.fEdges, SlcA kSlot a1.fSlots, iA a1.fVars, SlcA kTest a1.fTests]), (6, FnA Tryz.prog (fun (x : Int) => [iA x]) (fun (y : Term) => AggA [iA y.fVar, iA y.fAdd]) (fun x => attribute_system_1 k x)), (17, SlcA kSlot a1.fSlots), (18, iA (a1.fSlots.length : Int)), (19, iA x19), (8, PtrA [iA ((rd a1.fSlots x19).fNode), iA ((rd a1.fSlots x19).fAttr), iA ((rd a1.fSlots x19).fTerm.fVar), iA ((rd a1.fSlots x19).fTerm.fAdd)]), (5, HdA v302), (11, iA x11)]) (fun (_ : Unit) (_ : Int) => [SlE 86 v302 kTest (x5 ++ [(Test.mk 1 t299 ((rd a1.fSlots x19).fTerm)), (Test.mk 1 ((rd a1.fSlots x19).fTerm) t300)])]) h () (.o4 rfl (.o4 rfl (.one rfl (.nil _)))) rfl (fun rec1 K1 next1 _ x11 h => ?_)
  unfold attribute_system.b1 at h
  refine W.seq <| sr <| mv rfl rfl <| pk rfl 50 rfl (q_int rfl rfl) <| nt ?_
  refine W.condP h rfl (fun hb363 h => ?_) (fun hb363 h => ?_)
  ·refine W.skip <| QN.then_ <| W.seq <| W.block <| sr <| fd rfl rfl fo42_1 rfl <| ld rfl rfl sh39 <| mv rfl rfl ?_
   obtain ⟨c364, h⟩ := ite_n h
   refine p2 rfl 55 rfl 56 rfl (q_index rfl el39 rfl c364.1 c364.2) <| lS rfl rfl sh113 rfl rfl <| WL.w [] rfl (Wanted.plain rfl) rfl rfl .nil (w_alloc rfl z113 (l := [iA 0, iA 0, iA 0, iA 0]) rfl) ?_
   rintro _ _ ⟨b365, rfl, rfl⟩
   refine WL.w0 [0] rfl (Wanted.plain rfl) rfl (.s 12 rfl (.s 58 rfl .nil)) (w_store (L := [iA ((rd a1.fSlots x11).fNode), iA ((rd a1.fSlots x11).fAttr), iA ((rd a1.fSlots x11).fTerm.fVar), iA ((rd a1.fSlots x11).fTerm.fAdd)]) rfl sh113 (CellsOf.agg _) rfl rfl (leB rfl) rfl) ?_
   rintro _ _ ⟨rfl, rfl⟩
   refine WL.nil <| QN.to (StTo.still [0] 12 rfl rfl) <| QN.weaken (env' := [(12, _), (11, _), (5, _), (8, _), (19, _), (18, _), (17, _), (6, _), (3, _), (2, _)]) (.o4 rfl (.o4 rfl (.o2 rfl (.nil _)))) <| QN.then_ <| W.seq ?_
   refine W.jn1 (Γ := Unit) (fun (_ : Unit) (x70 : Bool) => [(2, PtrA [SlcA kNodeType a0.fNodes, SlcA kEdgeType a0.fEdges]), (3, PtrA [SlcA kInt a1.fGraph.fNodes, SlcA kEdge a1.fGraph.fEdges, SlcA kSlot a1.fSlots, iA a1.fVars, SlcA kTest a1.fTests]), (6, FnA Tryz.prog (fun (x : Int) => [iA x]) (fun (y : Term) => AggA [iA y.fVar, iA y.fAdd]) (fun x => attribute_system_1 k x)), (17, SlcA kSlot a1.fSlots), (18, iA (a1.fSlots.length : Int)), (19, iA x19), (8, PtrA [iA ((rd a1.fSlots x19).fNode), iA ((rd a1.fSlots x19).fAttr), iA ((rd a1.fSlots x19).fTerm.fVar), iA ((rd a1.fSlots x19).fTerm.fAdd)]), (5, HdA v302), (11, iA x11), (12, PtrA [iA ((rd a1.fSlots x11).fNode), iA ((rd a1.fSlots x11).fAttr), iA ((rd a1.fSlots x11).fTerm.fVar), iA ((rd a1.fSlots x11).fTerm.fAdd)]), (70, bA x70)]) (fun (_ : Unit) (_ : Bool) => [SlE 86 v302 kTest (x5 ++ [(Test.mk 1 t299 ((rd a1.fSlots x19).fTerm)), (Test.mk 1 ((rd a1.fSlots x19).fTerm) t300)])]) h (fun _ x70 h => ?_) (fun j368 Kj368 h => ?_)
   ·refine QN.then_ ?_
    refine W.condP h rfl (fun hb369 h => ?_) (fun hb369 h => ?_)
    ·refine sr <| mv rfl rfl <| fd rfl rfl fo113_2 rfl <| lS rfl rfl sh23 rfl rfl <| fd rfl rfl fo113_2 rfl <| lS rfl rfl sh23 rfl rfl <| WL.p rfl rfl rfl (.k (.s 73 rfl (.s 75 rfl .nil))) (q_build (is := [0, 1, 2]) (xs := [.const (.int .i64 2), .tmp 73, .tmp 75]) (L := [iA 2, iA ((rd a1.fSlots x11).fTerm.fVar), iA ((rd a1.fSlots x11).fTerm.fAdd), iA ((rd a1.fSlots x19).fTerm.fVar), iA ((rd a1.fSlots x19).fTerm.fAdd)]) rfl rfl z86 pl86 rfl rfl (.cons (CellsOf.one rfl) (.cons (CellsOf.agg _) (.cons (CellsOf.agg _) .nil))) rfl) <| p1 rfl 76 rfl (q_lit (kd := kTest) (ps := [(0, .tmp 76)]) (xs := [.tmp 76]) («as» := [AggA [iA 2, iA ((rd a1.fSlots x11).fTerm.fVar), iA ((rd a1.fSlots x11).fTerm.fAdd), iA ((rd a1.fSlots x19).fTerm.fVar), iA ((rd a1.fSlots x19).fTerm.fAdd)]]) (ys := [(Test.mk 2 ((rd a1.fSlots x11).fTerm) ((rd a1.fSlots x19).fTerm))]) rfl rfl el40 rfl gr86 rfl rfl rfl (.cons (CellsOf.agg _) .nil)) ?_
     obtain ⟨c370, h⟩ := ite_n h
     refine WL.w [0] rfl (Wanted.plain rfl) rfl rfl (.s 71 rfl (.s 77 rfl .nil)) (w_append (kd := kTest) rfl el40 rfl gr86 c370) ?_
     rintro _ _ ⟨v371, rfl, rfl⟩
     refine av rfl rfl <| WL.nil <| QN.weaken (env' := [(5, _), (19, _), (18, _), (17, _), (6, _), (3, _), (2, _)]) (.o4 rfl (.o2 rfl (.one rfl (.nil _)))) <| QN.then_ <| W.exit <| QX.there rfl <| QX.then_ <| QX.then_ <| QX.here <| QN.block <| QN.then_ <| W.region ?_
     obtain ⟨c372, h⟩ := ite_n h
     refine pk rfl 19 rfl (q_addR rfl c372) <| mv rfl rfl <| WL.nil ?_
     exact next0 v371 ((x5 ++ [(Test.mk 1 t299 ((rd a1.fSlots x19).fTerm)), (Test.mk 1 ((rd a1.fSlots x19).fTerm) t300)]) ++ [(Test.mk 2 ((rd a1.fSlots x11).fTerm) ((rd a1.fSlots x19).fTerm))]) (x19 + 1) _ h (.o4 rfl (.o2 rfl (.one rfl (.nil _))))
    ·refine W.skip <| QN.block <| QN.then_ <| W.region <| mv rfl rfl ?_
     obtain ⟨c373, h⟩ := ite_n h
     refine pk rfl 52 rfl (q_subR rfl c373) <| av rfl rfl <| WL.nil ?_
     exact next1 () (x11 - 1) _ h (.o4 rfl (.o4 rfl (.one rfl (.nil _))))
   ·refine W.region <| fd rfl rfl fo113_0 rfl <| ld rfl rfl sh3 <| fd rfl rfl fo113_0 rfl <| ld rfl rfl sh3 <| p2 rfl 60 rfl 62 rfl (q_int rfl rfl) <| mv rfl rfl ?_
    rcases bif_s h with ⟨hb374, h⟩ | ⟨hb374, h⟩
    ·refine wf rfl rfl rfl hb374 rfl rfl fo113_1 rfl <| wl rfl rfl rfl hb374 rfl rfl sh3 <| wf rfl rfl rfl hb374 rfl rfl fo113_1 rfl <| wl rfl rfl rfl hb374 rfl rfl sh3 <| wq rfl rfl rfl hb374 (.s 66 rfl (.s 68 rfl .nil)) (q_int rfl rfl).o <| p2 rfl 64 rfl 69 rfl (q_pickT rfl hb374) <| WL.nil ?_
     exact QN.weaken (.o4 rfl (.o4 rfl (.o2 rfl (.one rfl (.nil _))))) (Kj368 () ((rd a1.fSlots x11).fAttr == (rd a1.fSlots x19).fAttr) h)
    ·refine sk rfl rfl rfl hb374 <| sk rfl rfl rfl hb374 <| sk rfl rfl rfl hb374 <| sk rfl rfl rfl hb374 <| sk rfl rfl rfl hb374 <| pk rfl 64 rfl (q_pickF rfl hb374) <| WL.nil ?_
     exact QN.weaken (.o4 rfl (.o4 rfl (.o2 rfl (.one rfl (.nil _))))) (Kj368 () false h)
  ·refine W.exit <| QX.then_ <| QX.then_ <| QX.here <| QN.block <| QN.then_ <| W.region ?_
   obtain ⟨c375, h⟩ := ite_n h
   refine pk rfl 19 rfl (q_addR rfl c375) <| mv rfl rfl <| WL.nil ?_
   exact next0 v302 (x5 ++ [(Test.mk 1 t299 ((rd a1.fSlots x19).fTerm)), (Test.mk 1 ((rd a1.fSlots x19).fTerm) t300)]) (x19 + 1) _ h (.o4 rfl (.o2 rfl (.one rfl (.nil _))))
 ·refine W.exit <| QX.then_ <| QX.then_ <| QX.here <| QN.weaken (env' := [(5, _)]) (.one rfl (.nil _)) <| QN.then_ <| sr <| mv rfl rfl <| av rfl rfl <| nt <| W.ret ?_
  cases h
  exact QR.f1 rfl rfl (.t rfl) (.slc 0 rfl)
end Go.Proofs.YtcgdfjpeboiioaaGreat
