/- The Go functions compute the pure ones. (Printed by gen.py.) -/
import Derived.Test.YthmdmchmmgmblaaGreatCnC3
namespace Go.Proofs.YthmdmchmmgmblaaGreat
open Go Go.Abs
attribute [local irreducible] Tryz.prog
theorem host_listed.con (k : Nat) (a0 : (List Int)) (r : (List Int)) (h : host_listed k a0 = some r) : Con Tryz.prog 140 [] [SlcA kInt a0] (RA (SlcA kInt r)) := by
 unfold host_listed at h
 refine Con.of (N := 8) Tryz.func140 rfl rfl rfl fun w0_ fg_ => sr <| ak rfl <| nx <| mv rfl rfl <| p1 rfl 3 rfl (q_len rfl elS26) <| WL.w [] rfl (Wanted.plain rfl) rfl rfl (.s 4 rfl .nil) (w_lit (kd := kInt) (ps := [(0, .tmp 4)]) (xs := [.tmp 4]) («as» := [iA (a0.length : Int)]) (ys := [(a0.length : Int)]) rfl rfl el26 rfl gr3 rfl rfl rfl (.cons (CellsOf.one rfl) .nil)) ?_
 rintro _ _ ⟨v100, rfl, rfl⟩
 refine mv rfl rfl ?_
 obtain ⟨c101, h⟩ := ite_n h
 refine WL.w [0] rfl (Wanted.plain rfl) rfl rfl (.s 5 rfl (.s 6 rfl .nil)) (w_append (kd := kInt) rfl el26 rfl gr3 c101) ?_
 rintro _ _ ⟨v102, rfl, rfl⟩
 refine av rfl rfl <| nt <| W.ret ?_
 cases h
 exact QR.f1 rfl rfl (.t rfl) (.slc 0 rfl)
theorem host_place.con (k : Nat) (a0 : Host) (a1 : (List Int)) (r : (List Int)) (h : host_place k a0 a1 = some r) : Con Tryz.prog 104 [] [AggA [SlcA kInt a0.fGraph.fNodes, SlcA kEdge a0.fGraph.fEdges, SlcA (kSl kInt) a0.fValues], SlcA kInt a1] (RA (SlcA kInt r)) := by
 unfold host_place at h
 refine Con.of (N := 63) Tryz.func104 rfl rfl rfl fun w0_ fg_ => sr <| p1 rfl 0 rfl (q_box rfl (CellsOf.agg _)) <| ak rfl <| nx <| mv rfl rfl <| mv rfl rfl <| p1 rfl 10 rfl (q_len rfl elS26) ?_
 obtain ⟨c100, h⟩ := ite_n h
 refine pk rfl 11 rfl (q_subR rfl c100) ?_
 obtain ⟨c101, h⟩ := ite_n h
 refine p2 rfl 9 rfl 12 rfl (q_index rfl el26 rfl c101.1 c101.2) <| ld rfl rfl sh3 <| av rfl rfl <| WL.nil <| QN.weaken (env' := [(5, _), (2, _), (1, _)]) (.o2 rfl (.one rfl (.nil _))) <| QN.then_ <| W.seq <| W.drawK [(0, false), (1, false), (2, false), (3, false), (4, false), (5, false), (7, false), (8, false), (9, false), (10, false), (11, false)] [6, 12, 13] (bm [0, 1, 3, 0, 15, 31, 63, 0, 128, 0, 896, 1920, 4095, 8191]) mx (by kernel_rfl) <| df rfl rfl rfl fo32_0 rfl <| df rfl rfl rfl fo29_0 rfl <| dl rfl rfl rfl sh26 <| dm rfl rfl rfl ?_
 obtain ⟨c112, h⟩ := ite_n h
 refine DK.cons rfl rfl (.p rfl (.s 17 rfl (.s 18 rfl .nil)) rfl (q_index rfl el26 rfl c112.1 c112.2)) <| dl rfl rfl rfl sh3 <| df rfl rfl rfl fo32_1 rfl <| dl rfl rfl rfl sh30 <| dm rfl rfl rfl ?_
 obtain ⟨c114, h⟩ := ite_n h
 refine DK.cons rfl rfl (.p rfl (.s 23 rfl (.s 24 rfl .nil)) rfl (q_index rfl el30 rfl c114.1 c114.2)) <| dl rfl rfl rfl sh26 ?_
 obtain ⟨c115, h⟩ := ite_n h
 refine DK.nil <| CSteps.w [] rfl rfl rfl rfl (.s 20 rfl .nil) rfl (w_lit (kd := kInt) (ps := [(0, .tmp 20)]) (xs := [.tmp 20]) («as» := [iA (rd a0.fGraph.fNodes (rd a1 ((a1.length : Int) - 1)))]) (ys := [(rd a0.fGraph.fNodes (rd a1 ((a1.length : Int) - 1)))]) rfl rfl el26 rfl gr3 rfl rfl rfl (.cons (CellsOf.one rfl) .nil)) ?_
 rintro _ _ ⟨v113, rfl, rfl⟩
 refine CSteps.w [0] rfl rfl rfl rfl (.s 21 rfl (.s 26 rfl .nil)) rfl (w_append (kd := kInt) rfl el26 rfl gr3 c115) ?_
 rintro _ _ ⟨v116, rfl, rfl⟩
 refine CSteps.p rfl rfl rfl (.s 27 rfl .nil) rfl (q_assign rfl) <| CSteps.nil <| QN.weaken (env' := [(6, _), (5, _), (2, _), (1, _)]) (.o4 rfl (.nil _)) <| QN.then_ <| W.seq <| sr <| mv rfl rfl <| mv rfl rfl <| p1 rfl 29 rfl (q_len rfl elS26) ?_
 obtain ⟨c117, h⟩ := ite_n h
 refine pk rfl 30 rfl (q_subR rfl c117) ?_
 obtain ⟨c118, h⟩ := ite_n h
 refine p2 rfl 28 rfl 31 rfl (q_subH rfl el26 rfl c118.1 c118.2) <| p1 rfl 32 rfl (q_len rfl elS26) <| mk_ rfl <| nt <| W.block ?_
 refine W.loop2 (Γ := Value) (fun (g0 : Value) (_ : (List Int)) (x34 : Int) => [(2, PtrA [SlcA kInt a0.fGraph.fNodes, SlcA kEdge a0.fGraph.fEdges, SlcA (kSl kInt) a0.fValues]), (5, iA (rd a1 ((a1.length : Int) - 1))), (6, HdA g0), (32, SlcA kInt (a1.take (((a1.length : Int) - 1) : Int).toNat)), (33, iA ((a1.take (((a1.length : Int) - 1) : Int).toNat).length : Int)), (34, iA x34)]) (fun (g0 : Value) (x6 : (List Int)) (_ : Int) => [SlE 3 g0 kInt x6]) h v116 (.o4 rfl (.o2 rfl (.nil _))) rfl (fun rec0 K0 next0 g0 x6 x34 h => ?_)
 unfold host_place.b0 at h
 refine sr <| p2 rfl 34 rfl 33 rfl (q_int rfl rfl) <| nt <| W.seq ?_
 refine W.condP h rfl (fun hb153 h => ?_) (fun hb153 h => ?_)
 ·refine W.skip <| QN.then_ <| W.seq <| W.block <| sr ?_
  obtain ⟨c154, h⟩ := ite_n h
  refine p2 rfl 32 rfl 34 rfl (q_index rfl el26 rfl c154.1 c154.2) <| ld rfl rfl sh3 <| av rfl rfl <| nx <| mv rfl rfl <| fd rfl rfl fo32_0 rfl <| lS rfl rfl sh29 rfl rfl <| mv rfl rfl <| mv rfl rfl ?_
  obtain ⟨t155, ht155, h⟩ := bind_s h
  refine WL.p rfl rfl rfl (.s 40 rfl (.s 41 rfl (.s 42 rfl .nil))) (q_call (f := 141) (A := SlcA kInt t155) (xs := [.tmp 40, .tmp 41, .tmp 42]) («as» := [AggA [SlcA kInt a0.fGraph.fNodes, SlcA kEdge a0.fGraph.fEdges], iA (rd (a1.take (((a1.length : Int) - 1) : Int).toNat) x34), iA (rd a1 ((a1.length : Int) - 1))]) rfl ca141 (host_between.con k a0.fGraph (rd (a1.take (((a1.length : Int) - 1) : Int).toNat) x34) (rd a1 ((a1.length : Int) - 1)) t155 ht155) rfl) ?_
  obtain ⟨t156, ht156, h⟩ := bind_s h
  refine p1 rfl 43 rfl (q_call (f := 140) (A := SlcA kInt t156) (xs := [.tmp 43]) («as» := [SlcA kInt t155]) rfl ca140 (host_listed.con k t155 t156 ht156) rfl) ?_
  obtain ⟨c157, h⟩ := ite_n h
  refine WL.w [0] rfl (Wanted.plain rfl) rfl rfl (.s 38 rfl (.s 44 rfl .nil)) (w_append (kd := kInt) rfl el26 rfl gr3 c157) ?_
  rintro _ _ ⟨v158, rfl, rfl⟩
  refine av rfl rfl <| WL.nil <| QN.weaken (env' := [(6, _), (8, _), (34, _), (33, _), (32, _), (5, _), (2, _)]) (.o4 rfl (.o2 rfl (.one rfl (.nil _)))) <| QN.then_ <| W.region <| mv rfl rfl <| fd rfl rfl fo32_0 rfl <| lS rfl rfl sh29 rfl rfl <| mv rfl rfl <| mv rfl rfl ?_
  obtain ⟨t159, ht159, h⟩ := bind_s h
  refine WL.p rfl rfl rfl (.s 48 rfl (.s 49 rfl (.s 50 rfl .nil))) (q_call (f := 141) (A := SlcA kInt t159) (xs := [.tmp 48, .tmp 49, .tmp 50]) («as» := [AggA [SlcA kInt a0.fGraph.fNodes, SlcA kEdge a0.fGraph.fEdges], iA (rd a1 ((a1.length : Int) - 1)), iA (rd (a1.take (((a1.length : Int) - 1) : Int).toNat) x34)]) rfl ca141 (host_between.con k a0.fGraph (rd a1 ((a1.length : Int) - 1)) (rd (a1.take (((a1.length : Int) - 1) : Int).toNat) x34) t159 ht159) rfl) ?_
  obtain ⟨t160, ht160, h⟩ := bind_s h
  refine p1 rfl 51 rfl (q_call (f := 140) (A := SlcA kInt t160) (xs := [.tmp 51]) («as» := [SlcA kInt t159]) rfl ca140 (host_listed.con k t159 t160 ht160) rfl) ?_
  obtain ⟨c161, h⟩ := ite_n h
  refine WL.w [0] rfl (Wanted.plain rfl) rfl rfl (.s 46 rfl (.s 52 rfl .nil)) (w_append (kd := kInt) rfl el26 rfl gr3 c161) ?_
  rintro _ _ ⟨v162, rfl, rfl⟩
  refine av rfl rfl <| WL.nil <| QN.block <| QN.weaken (env' := [(6, _), (34, _), (33, _), (32, _), (5, _), (2, _)]) (.o4 rfl (.o2 rfl (.nil _))) <| QN.then_ <| W.region ?_
  obtain ⟨c163, h⟩ := ite_n h
  refine pk rfl 34 rfl (q_addR rfl c163) <| mv rfl rfl <| WL.nil ?_
  exact next0 v162 ((x6 ++ t156) ++ t160) (x34 + 1) _ h (.o4 rfl (.o2 rfl (.nil _)))
 ·refine W.exit <| QX.then_ <| QX.then_ <| QX.here <| QN.then_ <| sr <| mv rfl rfl <| fd rfl rfl fo32_0 rfl <| lS rfl rfl sh29 rfl rfl <| mv rfl rfl <| mv rfl rfl ?_
  obtain ⟨t164, ht164, h⟩ := bind_s h
  refine WL.p rfl rfl rfl (.s 57 rfl (.s 58 rfl (.s 59 rfl .nil))) (q_call (f := 141) (A := SlcA kInt t164) (xs := [.tmp 57, .tmp 58, .tmp 59]) («as» := [AggA [SlcA kInt a0.fGraph.fNodes, SlcA kEdge a0.fGraph.fEdges], iA (rd a1 ((a1.length : Int) - 1)), iA (rd a1 ((a1.length : Int) - 1))]) rfl ca141 (host_between.con k a0.fGraph (rd a1 ((a1.length : Int) - 1)) (rd a1 ((a1.length : Int) - 1)) t164 ht164) rfl) ?_
  obtain ⟨t165, ht165, h⟩ := bind_s h
  refine p1 rfl 60 rfl (q_call (f := 140) (A := SlcA kInt t165) (xs := [.tmp 60]) («as» := [SlcA kInt t164]) rfl ca140 (host_listed.con k t164 t165 ht165) rfl) ?_
  obtain ⟨c166, h⟩ := ite_n h
  refine WL.w [0] rfl (Wanted.plain rfl) rfl rfl (.s 55 rfl (.s 61 rfl .nil)) (w_append (kd := kInt) rfl el26 rfl gr3 c166) ?_
  rintro _ _ ⟨v167, rfl, rfl⟩
  refine av rfl rfl <| WL.nil <| QN.weaken (env' := [(4, _)]) (.one rfl (.nil _)) <| QN.then_ <| W.ret ?_
  cases h
  exact QR.f1 rfl rfl (.t rfl) (.slc 0 rfl)
theorem host_canon_search.con : ∀ (k : Nat) (b : Nat) (a0 : Canon) (r : ((List Int) × (List Int) × (List Int) × (List Int) × Bool)) (_ : host_canon_search k a0 = some r), Con Tryz.prog 58 [BoxE b [SlcA kInt a0.fh.fGraph.fNodes, SlcA kEdge a0.fh.fGraph.fEdges, SlcA (kSl kInt) a0.fh.fValues, SlcA kInt a0.forder, SlcA kInt a0.fcode, SlcA kInt a0.fbest, SlcA kInt a0.fleast, bA a0.ffound]] [EqA (.pointer (some ⟨b, 0, none⟩))] (fun O' A => O' = [BoxE b [SlcA kInt a0.fh.fGraph.fNodes, SlcA kEdge a0.fh.fGraph.fEdges, SlcA (kSl kInt) a0.fh.fValues, SlcA kInt r.1, SlcA kInt r.2.1, SlcA kInt r.2.2.1, SlcA kInt r.2.2.2.1, bA r.2.2.2.2]] ∧ A = TupA []) := by
 intro k
 induction k with
 | zero => intro b a0 r h; cases h
 | succ k ih =>
  intro b a0 r h
  change host_canon_search.main (host_canon_search k) k a0 = some r at h
  unfold host_canon_search.main at h
  refine Con.of (N := 141) Tryz.func58 rfl rfl rfl fun w0_ fg_ => W.seq <| W.seq <| W.drawK [(0, false), (1, false), (2, false), (3, true), (4, false), (5, false), (6, false), (7, false), (8, false), (9, false), (10, true), (11, false), (12, false)] [] (bm [0, 1, 3, 7, 15, 0, 32, 96, 224, 480, 992, 2016, 4095]) mx (by kernel_rfl) <| dm rfl rfl rfl <| DK.cons rfl rfl (.p rfl (.s 5 rfl .nil) rfl (q_nilCheckP rfl)) <| DK.cons rfl rfl (.p rfl (.s 6 rfl .nil) rfl (q_fieldP rfl fo107_1)) <| DK.cons rfl rfl (.o rfl (.s 7 rfl .nil) rfl (q_loadB rfl sh26 (i := 0) rfl rfl)) <| DK.cons rfl rfl (.p rfl (.s 8 rfl .nil) rfl (q_len rfl elS26)) <| dm rfl rfl rfl <| DK.cons rfl rfl (.p rfl (.s 10 rfl .nil) rfl (q_nilCheckP rfl)) <| DK.cons rfl rfl (.p rfl (.s 11 rfl .nil) rfl (q_fieldP rfl fo107_0)) <| DK.cons rfl rfl (.p rfl (.s 12 rfl .nil) rfl (q_fieldP rfl fo32_0)) ?_
  refine DK.cons rfl rfl (.p rfl (.s 13 rfl .nil) rfl (q_fieldP rfl fo29_0)) <| DK.cons rfl rfl (.o rfl (.s 14 rfl .nil) rfl (q_loadB rfl sh26 (i := 0) rfl rfl)) <| DK.cons rfl rfl (.p rfl (.s 15 rfl .nil) rfl (q_len rfl elS26)) <| DK.cons rfl rfl (.p rfl (.s 9 rfl (.s 16 rfl .nil)) rfl (q_int rfl rfl)) <| DK.nil <| CSteps.nil <| QN.weaken (env' := [(17, _), (0, _)]) (.o2 rfl (.nil _)) <| QN.then_ ?_
  refine W.condP h rfl (fun hb100 h => ?_) (fun hb100 h => ?_)
  ·refine W.seq <| W.seq ?_
   refine W.jn1 (Γ := Unit) (fun (_ : Unit) (x34 : Bool) => [(0, EqA (.pointer (some ⟨b, 0, none⟩))), (34, bA x34)]) (fun (_ : Unit) (_ : Bool) => [BoxE b [SlcA kInt a0.fh.fGraph.fNodes, SlcA kEdge a0.fh.fGraph.fEdges, SlcA (kSl kInt) a0.fh.fValues, SlcA kInt a0.forder, SlcA kInt a0.fcode, SlcA kInt a0.fbest, SlcA kInt a0.fleast, bA a0.ffound]]) h (fun _ x34 h => ?_) (fun j106 Kj106 h => ?_)
   ·refine QN.then_ ?_
    refine W.condP h rfl (fun hb114 h => ?_) (fun hb114 h => ?_)
    ·refine W.drawK [(0, false), (1, false), (2, false), (3, false), (4, false), (5, false), (6, true), (7, false), (8, false), (9, false), (10, false), (11, true), (12, false), (13, false), (14, false)] [15, 16, 17, 18, 19, 20, 21] (bm [0, 0, 0, 0, 8, 24, 56, 120, 0, 256, 768, 1792, 4088, 8185, 16377, 32761, 65531, 131067, 262139, 524287, 1048575, 2097151]) mx (by kernel_rfl) <| dm rfl rfl rfl <| dm rfl rfl rfl <| dm rfl rfl rfl <| dm rfl rfl rfl <| DK.cons rfl rfl (.p rfl (.s 38 rfl .nil) rfl (q_nilCheckP rfl)) <| DK.cons rfl rfl (.p rfl (.s 39 rfl .nil) rfl (q_fieldP rfl fo107_1)) <| DK.cons rfl rfl (.o rfl (.s 40 rfl .nil) rfl (q_loadB rfl sh26 (i := 0) rfl rfl)) ?_
     obtain ⟨t119, ht119, h⟩ := bind_s h
     refine DK.cons rfl rfl (.p rfl (.s 41 rfl .nil) rfl (q_call (f := 59) (A := SlcA kInt t119) (xs := [.tmp 41]) («as» := [SlcA kInt a0.forder]) rfl ca59 (slices_Clone_int.con k a0.forder t119 ht119) rfl)) <| dm rfl rfl rfl <| DK.cons rfl rfl (.p rfl (.s 43 rfl .nil) rfl (q_nilCheckP rfl)) <| DK.cons rfl rfl (.p rfl (.s 44 rfl .nil) rfl (q_fieldP rfl fo107_2)) <| DK.cons rfl rfl (.o rfl (.s 45 rfl .nil) rfl (q_loadB rfl sh26 (i := 0) rfl rfl)) ?_
     obtain ⟨t120, ht120, h⟩ := bind_s h
     refine DK.cons rfl rfl (.p rfl (.s 46 rfl .nil) rfl (q_call (f := 59) (A := SlcA kInt t120) (xs := [.tmp 46]) («as» := [SlcA kInt a0.fcode]) rfl ca59 (slices_Clone_int.con k a0.fcode t120 ht120) rfl)) <| DK.cons rfl rfl (.p rfl (.s 35 rfl .nil) rfl (q_nilCheckP rfl)) <| DK.cons rfl rfl (.p rfl (.s 48 rfl .nil) rfl (q_fieldP rfl fo107_3)) <| DK.nil <| CSteps.w0 [0] rfl rfl rfl (.s 49 rfl (.s 42 rfl .nil)) rfl (w_store (L := [SlcA kInt a0.fh.fGraph.fNodes, SlcA kEdge a0.fh.fGraph.fEdges, SlcA (kSl kInt) a0.fh.fValues, SlcA kInt a0.forder, SlcA kInt a0.fcode, SlcA kInt t119, SlcA kInt a0.fleast, bA a0.ffound]) rfl sh26 (CellsOf.one rfl) rfl rfl (leB rfl) rfl) ?_
     rintro _ _ ⟨rfl, rfl⟩
     refine CSteps.p rfl rfl rfl (.s 36 rfl .nil) rfl (q_nilCheckP rfl) <| CSteps.p rfl rfl rfl (.s 50 rfl .nil) rfl (q_fieldP rfl fo107_4) <| CSteps.w0 [0] rfl rfl rfl (.s 51 rfl (.s 47 rfl .nil)) rfl (w_store (L := [SlcA kInt a0.fh.fGraph.fNodes, SlcA kEdge a0.fh.fGraph.fEdges, SlcA (kSl kInt) a0.fh.fValues, SlcA kInt a0.forder, SlcA kInt a0.fcode, SlcA kInt t119, SlcA kInt t120, bA a0.ffound]) rfl sh26 (CellsOf.one rfl) rfl rfl (leB rfl) rfl) ?_
     rintro _ _ ⟨rfl, rfl⟩
     refine CSteps.p rfl rfl rfl (.s 37 rfl .nil) rfl (q_nilCheckP rfl) <| CSteps.p rfl rfl rfl (.s 52 rfl .nil) rfl (q_fieldP rfl fo107_5) <| CSteps.w0 [0] rfl rfl rfl (.s 53 rfl (.k .nil)) rfl (w_store (L := [SlcA kInt a0.fh.fGraph.fNodes, SlcA kEdge a0.fh.fGraph.fEdges, SlcA (kSl kInt) a0.fh.fValues, SlcA kInt a0.forder, SlcA kInt a0.fcode, SlcA kInt t119, SlcA kInt t120, bA true]) rfl sh4 (CellsOf.one rfl) rfl rfl (leB rfl) rfl) ?_
     rintro _ _ ⟨rfl, rfl⟩
     refine CSteps.nil <| QN.weaken (env' := [(0, _)]) (.one rfl (.nil _)) <| QN.then_ <| W.ret <| QR.then_ ?_
     cases h
     exact QR.f0 rfl ⟨rfl, rfl⟩
    ·refine W.skip <| QN.then_ <| W.ret <| QR.then_ ?_
     cases h
     exact QR.f0 rfl ⟨rfl, rfl⟩
   ·refine W.drawK [(0, false), (1, false), (2, false), (3, true), (4, false), (5, false), (6, false), (7, false), (8, false), (9, true), (10, false), (11, false), (12, false), (13, true), (14, false), (15, false), (16, false)] [] (bm [0, 1, 3, 7, 15, 31, 63, 127, 255, 511, 63, 1087, 3135, 7231, 16383, 32767, 65535]) mx (by kernel_rfl) <| dm rfl rfl rfl <| DK.cons rfl rfl (.p rfl (.s 18 rfl .nil) rfl (q_nilCheckP rfl)) <| DK.cons rfl rfl (.p rfl (.s 19 rfl .nil) rfl (q_fieldP rfl fo107_5)) <| DK.cons rfl rfl (.o rfl (.s 20 rfl .nil) rfl (q_loadB rfl sh4 (i := 0) rfl rfl)) <| DK.cons rfl rfl (.p rfl (.s 21 rfl .nil) rfl (q_not rfl)) <| dm rfl rfl rfl ?_
    rcases bif_s h with ⟨hb121, h⟩ | ⟨hb121, h⟩
    ·refine dx rfl rfl rfl hb121 <| dx rfl rfl rfl hb121 <| dx rfl rfl rfl hb121 <| dx rfl rfl rfl hb121 <| dx rfl rfl rfl hb121 <| dx rfl rfl rfl hb121 <| dx rfl rfl rfl hb121 <| dx rfl rfl rfl hb121 <| dx rfl rfl rfl hb121 <| dx rfl rfl rfl hb121 <| DK.cons rfl rfl (.p rfl (.s 23 rfl (.k .nil)) rfl (q_pickT rfl hb121)) <| DK.nil <| CSteps.nil ?_
     exact QN.weaken (.o2 rfl (.nil _)) (Kj106 () true h)
    ·refine DK.cons rfl rfl (.gp rfl rfl rfl hb121 (.s 0 rfl .nil) rfl (q_move rfl)) <| DK.cons rfl rfl (.gp rfl rfl rfl hb121 (.s 24 rfl .nil) rfl (q_nilCheckP rfl)) <| DK.cons rfl rfl (.gp rfl rfl rfl hb121 (.s 25 rfl .nil) rfl (q_fieldP rfl fo107_2)) <| DK.cons rfl rfl (.go rfl rfl rfl hb121 (.s 26 rfl .nil) rfl (q_loadB rfl sh26 (i := 0) rfl rfl)) <| DK.cons rfl rfl (.gp rfl rfl rfl hb121 (.s 0 rfl .nil) rfl (q_move rfl)) <| DK.cons rfl rfl (.gp rfl rfl rfl hb121 (.s 28 rfl .nil) rfl (q_nilCheckP rfl)) <| DK.cons rfl rfl (.gp rfl rfl rfl hb121 (.s 29 rfl .nil) rfl (q_fieldP rfl fo107_4)) <| DK.cons rfl rfl (.go rfl rfl rfl hb121 (.s 30 rfl .nil) rfl (q_loadB rfl sh26 (i := 0) rfl rfl)) ?_
     obtain ⟨t122, ht122, h⟩ := bind_s h
     refine DK.cons rfl rfl (.gp rfl rfl rfl hb121 (.s 27 rfl (.s 31 rfl .nil)) rfl (q_call (f := 103) (A := iA t122) (xs := [.tmp 27, .tmp 31]) («as» := [SlcA kInt a0.fcode, SlcA kInt a0.fleast]) rfl ca103 (slices_Compare_int.con k a0.fcode a0.fleast t122 ht122) rfl)) <| DK.cons rfl rfl (.gp rfl rfl rfl hb121 (.s 32 rfl (.k .nil)) rfl (q_int rfl rfl)) <| DK.cons rfl rfl (.p rfl (.s 23 rfl (.s 33 rfl .nil)) rfl (q_pickF rfl hb121)) <| DK.nil <| CSteps.nil ?_
     exact QN.weaken (.o2 rfl (.nil _)) (Kj106 () (decide (t122 < 0)) h)
  ·refine W.skip <| QN.then_ <| sr <| mv rfl rfl <| p1 rfl 54 rfl (q_nilCheckP rfl) <| p1 rfl 55 rfl (q_fieldP rfl fo107_0) <| p1 rfl 56 rfl (q_fieldP rfl fo32_0) <| p1 rfl 57 rfl (q_fieldP rfl fo29_0) <| WL.q (Wanted.plain rfl) rfl rfl (.s 58 rfl .nil) (q_loadB rfl sh26 (i := 0) rfl rfl) <| p1 rfl 59 rfl (q_len rfl elS26) <| mk_ rfl <| WL.nil ?_
   refine QN.weaken (env' := [(61, _), (60, _), (0, _)]) (.o2 rfl (.one rfl (.nil _))) <| QN.then_ <| W.block ?_
   refine W.loop4 (Γ := Unit) (fun (_ : Unit) (_ : (List Int)) (_ : (List Int)) (_ : Bool) (x61 : Int) => [(0, EqA (.pointer (some ⟨b, 0, none⟩))), (60, iA (a0.fh.fGraph.fNodes.length : Int)), (61, iA x61)]) (fun (_ : Unit) (y5 : (List Int)) (y6 : (List Int)) (y7 : Bool) (_ : Int) => [BoxE b [SlcA kInt a0.fh.fGraph.fNodes, SlcA kEdge a0.fh.fGraph.fEdges, SlcA (kSl kInt) a0.fh.fValues, SlcA kInt a0.forder, SlcA kInt a0.fcode, SlcA kInt y5, SlcA kInt y6, bA y7]]) h () (.o2 rfl (.one rfl (.nil _))) rfl (fun rec0 K0 next0 _ y5 y6 y7 x61 h => ?_)
   unfold host_canon_search.b0 at h
   refine sr <| p2 rfl 61 rfl 60 rfl (q_int rfl rfl) <| nt <| W.seq ?_
   refine W.condP h rfl (fun hb281 h => ?_) (fun hb281 h => ?_)
   ·refine W.skip <| QN.then_ <| W.seq <| W.block <| sr <| mv rfl rfl <| av rfl rfl <| nt <| W.seq <| sr ?_
    refine mv rfl rfl <| p1 rfl 64 rfl (q_nilCheckP rfl) <| p1 rfl 65 rfl (q_fieldP rfl fo107_1) <| WL.q (Wanted.plain rfl) rfl rfl (.s 66 rfl .nil) (q_loadB rfl sh26 (i := 0) rfl rfl) <| mv rfl rfl ?_
    obtain ⟨t320, ht320, h⟩ := bind_s h
    refine p2 rfl 67 rfl 68 rfl (q_call (f := 77) (A := bA t320) (xs := [.tmp 67, .tmp 68]) («as» := [SlcA kInt a0.forder, iA x61]) rfl ca77 (slices_Contains_int.con k a0.forder x61 t320 ht320) rfl) <| WL.nil <| QN.weaken (env' := [(69, _), (2, _), (61, _), (60, _), (0, _)]) (.o4 rfl (.one rfl (.nil _))) <| QN.then_ ?_
    refine W.condP h rfl (fun hb321 h => ?_) (fun hb321 h => ?_)
    ·refine W.exit <| QX.then_ <| QX.here <| QN.then_ <| W.region ?_
     obtain ⟨c322, h⟩ := ite_n h
     refine pk rfl 61 rfl (q_addR rfl c322) <| mv rfl rfl <| WL.nil ?_
     exact next0 () y5 y6 y7 (x61 + 1) _ h (.o2 rfl (.one rfl (.nil _)))
    ·refine W.skip <| QN.then_ <| W.seq <| W.drawK [(0, false), (1, false), (2, false), (3, true), (4, false), (5, false), (6, false), (7, true), (8, false), (9, false)] [] (bm [0, 1, 3, 7, 0, 16, 48, 112, 15, 511]) mx (by kernel_rfl) <| dm rfl rfl rfl <| DK.cons rfl rfl (.p rfl (.s 70 rfl .nil) rfl (q_nilCheckP rfl)) <| DK.cons rfl rfl (.p rfl (.s 71 rfl .nil) rfl (q_fieldP rfl fo107_1)) <| DK.cons rfl rfl (.o rfl (.s 72 rfl .nil) rfl (q_loadB rfl sh26 (i := 0) rfl rfl)) <| dm rfl rfl rfl <| DK.cons rfl rfl (.p rfl (.s 74 rfl .nil) rfl (q_nilCheckP rfl)) <| DK.cons rfl rfl (.p rfl (.s 75 rfl .nil) rfl (q_fieldP rfl fo107_2)) <| DK.cons rfl rfl (.o rfl (.s 76 rfl .nil) rfl (q_loadB rfl sh26 (i := 0) rfl rfl)) <| DK.cons rfl rfl (.p rfl (.s 73 rfl .nil) rfl (q_assign rfl)) ?_
     refine DK.cons rfl rfl (.p rfl (.s 77 rfl .nil) rfl (q_assign rfl)) <| DK.nil <| CSteps.nil <| QN.weaken (env' := [(4, _), (3, _), (2, _), (61, _), (60, _), (0, _)]) (.o4 rfl (.o2 rfl (.nil _))) <| QN.then_ <| sr <| mv rfl rfl <| mv rfl rfl ?_
     obtain ⟨t323, ht323, h⟩ := bind_s h
     refine WL.w [] rfl (Wanted.plain rfl) rfl rfl (.s 79 rfl .nil) (w_callI (f := 59) (xs := [.tmp 79]) («as» := [SlcA kInt a0.forder]) rfl ca59 (slices_Clone_int.conN k a0.forder t323 ht323) rfl (.cons (Imp.id _) .nil)) ?_
     rintro _ _ ⟨v324, rfl, rfl⟩
     refine mv rfl rfl <| p1 rfl 81 rfl (q_lit (kd := kInt) (ps := [(0, .tmp 81)]) (xs := [.tmp 81]) («as» := [iA x61]) (ys := [x61]) rfl rfl el26 rfl gr3 rfl rfl rfl (.cons (CellsOf.one rfl) .nil)) ?_
     obtain ⟨c325, h⟩ := ite_n h
     refine WL.w [0] rfl (Wanted.plain rfl) rfl rfl (.s 80 rfl (.s 82 rfl .nil)) (WS.free (w_append (kd := kInt) rfl el26 rfl gr3 c325)) ?_
     rintro _ _ ⟨rfl, rfl⟩
     refine p1 rfl 78 rfl (q_nilCheckP rfl) <| p1 rfl 84 rfl (q_fieldP rfl fo107_1) <| WL.w0 [0] rfl (Wanted.plain rfl) rfl (.s 85 rfl (.s 83 rfl .nil)) (w_store (L := [SlcA kInt a0.fh.fGraph.fNodes, SlcA kEdge a0.fh.fGraph.fEdges, SlcA (kSl kInt) a0.fh.fValues, SlcA kInt (t323 ++ [x61]), SlcA kInt a0.fcode, SlcA kInt y5, SlcA kInt y6, bA y7]) rfl sh26 (CellsOf.one rfl) rfl rfl (leB rfl) rfl) ?_
     rintro _ _ ⟨rfl, rfl⟩
     refine WL.nil <| QN.weaken (env' := [(4, _), (3, _), (61, _), (60, _), (0, _)]) (.o4 rfl (.one rfl (.nil _))) <| QN.then_ <| W.seq <| W.drawKT [(0, false), (1, false), (3, false), (4, false), (5, false), (6, true), (7, false), (8, false), (9, false), (10, true)] [2, 11, 12, 13, 14, 15] [2, 11, 13, 14] 6 [[], [], [1], [], [3], [3, 4], [3, 4, 5], [], [7], [7, 8], [7, 8, 9], [1, 2, 3, 4, 5, 6, 7, 8, 9, 10], [1, 2, 3, 4, 5, 6, 7, 8, 9, 10, 11], [0, 1, 2, 3, 4, 5, 6, 7, 8, 9, 10, 11, 12], [0, 1, 2, 3, 4, 5, 6, 7, 8, 9, 10, 11, 12, 13], [0, 1, 2, 3, 4, 5, 6, 7, 8, 9, 10, 11, 12, 13, 14]] mx (by kernel_rfl) <| DKT.cons rfl rfl (.p rfl (.s 0 rfl .nil) rfl (q_move rfl)) <| DKT.cons rfl rfl (.p rfl (.s 4 rfl .nil) rfl (q_move rfl)) ?_
     obtain ⟨t337, ht337, h⟩ := bind_s h
     refine DKT.cons rfl rfl (.p rfl (.s 0 rfl .nil) rfl (q_move rfl)) <| DKT.cons rfl rfl (.p rfl (.s 89 rfl .nil) rfl (q_nilCheckP rfl)) <| DKT.cons rfl rfl (.p rfl (.s 90 rfl .nil) rfl (q_fieldP rfl fo107_0)) <| DKT.cons rfl rfl (.o rfl (.s 91 rfl .nil) rfl (fun _ => (q_loadBS (l' := [SlcA kInt a0.fh.fGraph.fNodes, SlcA kEdge a0.fh.fGraph.fEdges, SlcA (kSl kInt) a0.fh.fValues]) rfl sh32 (i := 0) rfl rfl rfl))) <| DKT.cons rfl rfl (.p rfl (.s 0 rfl .nil) rfl (q_move rfl)) <| DKT.cons rfl rfl (.p rfl (.s 93 rfl .nil) rfl (q_nilCheckP rfl)) <| DKT.cons rfl rfl (.p rfl (.s 94 rfl .nil) rfl (q_fieldP rfl fo107_1)) <| DKT.cons rfl rfl (.o rfl (.s 95 rfl .nil) rfl (fun _ => (q_loadB rfl sh26 (i := 0) rfl rfl))) ?_
     obtain ⟨t339, ht339, h⟩ := bind_s h
     obtain ⟨c340, h⟩ := ite_n h
     refine DKT.nil <| CT.step ?_
     refine CTc.yes rfl ?_ ?_
     ·refine CStep1.w [] (fun _ => rfl) rfl rfl rfl rfl (.s 87 rfl .nil) rfl (w_callI (f := 59) (xs := [.tmp 87]) («as» := [SlcA kInt a0.fcode]) rfl ca59 (slices_Clone_int.conN k a0.fcode t337 ht337) rfl (.cons (Imp.id _) .nil)) ?_
      rintro _ _ ⟨v338, rfl, rfl⟩
      refine CT.list (l' := [11, 12, 13, 14, 15]) rfl <| CT.step ?_
      refine CTc.yes rfl ?_ ?_
      ·refine CStep1.p rfl rfl rfl (.s 92 rfl (.s 96 rfl .nil)) rfl (q_call (f := 104) (A := SlcA kInt t339) (xs := [.tmp 92, .tmp 96]) («as» := [AggA [SlcA kInt a0.fh.fGraph.fNodes, SlcA kEdge a0.fh.fGraph.fEdges, SlcA (kSl kInt) a0.fh.fValues], SlcA kInt (t323 ++ [x61])]) rfl ca104 (host_place.con k a0.fh (t323 ++ [x61]) t339 ht339) rfl) <| CT.list (l' := [12, 13, 14, 15]) rfl <| CT.step ?_
       refine CTc.yes rfl ?_ ?_
       ·refine CStep1.w [0] (fun h => absurd h (by decide)) rfl rfl rfl rfl (.s 88 rfl (.s 97 rfl .nil)) rfl (WS.free (w_append (kd := kInt) rfl el26 rfl gr3 c340)) ?_
        rintro _ _ ⟨rfl, rfl⟩
        refine CT.list (l' := [13, 14, 15]) rfl <| CT.step ?_
        refine CTc.yes rfl ?_ ?_
        ·refine CStep1.p rfl rfl rfl (.s 86 rfl .nil) rfl (q_nilCheckP rfl) <| CT.list (l' := [14, 15]) rfl <| CT.step ?_
         refine CTc.yes rfl ?_ ?_
         ·refine CStep1.p rfl rfl rfl (.s 99 rfl .nil) rfl (q_fieldP rfl fo107_2) <| CT.list (l' := [15]) rfl <| CT.step ?_
          refine CTc.yes rfl ?_ ?_
          ·refine CStep1.w0 [0] (fun h => absurd h (by decide)) rfl rfl rfl (.s 100 rfl (.s 98 rfl .nil)) rfl (w_store (L := [SlcA kInt a0.fh.fGraph.fNodes, SlcA kEdge a0.fh.fGraph.fEdges, SlcA (kSl kInt) a0.fh.fValues, SlcA kInt (t323 ++ [x61]), SlcA kInt (t337 ++ t339), SlcA kInt y5, SlcA kInt y6, bA y7]) rfl sh26 (CellsOf.one rfl) rfl rfl (leB rfl) rfl) ?_
           rintro _ _ ⟨rfl, rfl⟩
           refine CT.list (l' := []) rfl <| CT.nil <| QN.weaken (env' := [(4, _), (3, _), (61, _), (60, _), (0, _)]) (.o4 rfl (.one rfl (.nil _))) <| QN.then_ <| W.seq <| W.seq ?_
           refine W.jn1 (Γ := Unit) (fun (_ : Unit) (x129 : Bool) => [(0, EqA (.pointer (some ⟨b, 0, none⟩))), (60, iA (a0.fh.fGraph.fNodes.length : Int)), (61, iA x61), (3, SlcA kInt a0.forder), (4, SlcA kInt a0.fcode), (129, bA x129)]) (fun (_ : Unit) (_ : Bool) => [BoxE b [SlcA kInt a0.fh.fGraph.fNodes, SlcA kEdge a0.fh.fGraph.fEdges, SlcA (kSl kInt) a0.fh.fValues, SlcA kInt (t323 ++ [x61]), SlcA kInt (t337 ++ t339), SlcA kInt y5, SlcA kInt y6, bA y7]]) h (fun _ x129 h => ?_) (fun j349 Kj349 h => ?_)
           ·refine QN.then_ ?_
            refine W.jn5 (Γ := Unit) (fun (_ : Unit) (_ : (List Int)) (_ : (List Int)) (_ : (List Int)) (_ : (List Int)) (_ : Bool) => [(0, EqA (.pointer (some ⟨b, 0, none⟩))), (60, iA (a0.fh.fGraph.fNodes.length : Int)), (61, iA x61), (3, SlcA kInt a0.forder), (4, SlcA kInt a0.fcode)]) (fun (_ : Unit) (y3 : (List Int)) (y4 : (List Int)) (y5' : (List Int)) (y6' : (List Int)) (y7' : Bool) => [BoxE b [SlcA kInt a0.fh.fGraph.fNodes, SlcA kEdge a0.fh.fGraph.fEdges, SlcA (kSl kInt) a0.fh.fValues, SlcA kInt y3, SlcA kInt y4, SlcA kInt y5', SlcA kInt y6', bA y7']]) h (fun _ y3 y4 y5' y6' y7' h => ?_) (fun j353 Kj353 h => ?_)
            ·refine QN.then_ <| W.region <| mv rfl rfl <| mv rfl rfl <| mv rfl rfl <| mv rfl rfl <| p1 rfl 132 rfl (q_nilCheckP rfl) <| p1 rfl 136 rfl (q_fieldP rfl fo107_1) <| WL.w0 [0] rfl (Wanted.plain rfl) rfl (.s 137 rfl (.s 134 rfl .nil)) (w_store (L := [SlcA kInt a0.fh.fGraph.fNodes, SlcA kEdge a0.fh.fGraph.fEdges, SlcA (kSl kInt) a0.fh.fValues, SlcA kInt a0.forder, SlcA kInt y4, SlcA kInt y5', SlcA kInt y6', bA y7']) rfl sh26 (CellsOf.one rfl) rfl rfl (leB rfl) rfl) ?_
             rintro _ _ ⟨rfl, rfl⟩
             refine p1 rfl 133 rfl (q_nilCheckP rfl) <| p1 rfl 138 rfl (q_fieldP rfl fo107_2) <| WL.w0 [0] rfl (Wanted.plain rfl) rfl (.s 139 rfl (.s 135 rfl .nil)) (w_store (L := [SlcA kInt a0.fh.fGraph.fNodes, SlcA kEdge a0.fh.fGraph.fEdges, SlcA (kSl kInt) a0.fh.fValues, SlcA kInt a0.forder, SlcA kInt a0.fcode, SlcA kInt y5', SlcA kInt y6', bA y7']) rfl sh26 (CellsOf.one rfl) rfl rfl (leB rfl) rfl) ?_
             rintro _ _ ⟨rfl, rfl⟩
             refine WL.nil <| QN.block <| QN.weaken (env' := [(61, _), (60, _), (0, _)]) (.o2 rfl (.one rfl (.nil _))) <| QN.then_ <| W.region ?_
             obtain ⟨c354, h⟩ := ite_n h
             refine pk rfl 61 rfl (q_addR rfl c354) <| mv rfl rfl <| WL.nil ?_
             exact next0 () y5' y6' y7' (x61 + 1) _ h (.o2 rfl (.one rfl (.nil _)))
            ·refine W.condP h rfl (fun hb355 h => ?_) (fun hb355 h => ?_)
             ·refine W.region <| mv rfl rfl ?_
              obtain ⟨t356, ht356, h⟩ := bind_s h
              refine WL.w [0] rfl (Wanted.plain rfl) rfl rfl (.s 130 rfl .nil) (w_callI (f := 58) (xs := [.tmp 130]) («as» := [EqA (.pointer (some ⟨b, 0, none⟩))]) rfl ca58 (ih b (Canon.mk a0.fh (t323 ++ [x61]) (t337 ++ t339) y5 y6 y7) t356 ht356) rfl (.cons (Imp.id _) .nil)) ?_
              rintro _ _ ⟨rfl, rfl⟩
              refine WL.nil ?_
              exact QN.weaken (.o4 rfl (.one rfl (.nil _))) (Kj353 () t356.1 t356.2.1 t356.2.2.1 t356.2.2.2.1 t356.2.2.2.2 h)
             ·refine W.skip ?_
              exact QN.weaken (.o4 rfl (.one rfl (.nil _))) (Kj353 () (t323 ++ [x61]) (t337 ++ t339) y5 y6 y7 h)
           ·refine W.drawK [(0, false), (1, false), (2, false), (3, true), (4, false), (5, false), (6, false), (7, false), (8, false), (9, true), (10, false), (11, false), (12, false), (13, true), (14, false), (15, false), (16, false), (17, true), (18, false), (19, false), (20, false), (21, false), (22, true), (23, false), (24, false), (25, false), (26, false), (27, false), (28, false)] [] (bm [0, 1, 3, 7, 15, 31, 63, 127, 255, 511, 63, 1087, 3135, 7231, 63, 16447, 49215, 114751, 245823, 63, 524351, 1572927, 3670079, 7864383, 16760895, 33553471, 67108863, 134217727, 268435455]) mx (by kernel_rfl) <| dm rfl rfl rfl <| DK.cons rfl rfl (.p rfl (.s 101 rfl .nil) rfl (q_nilCheckP rfl)) <| DK.cons rfl rfl (.p rfl (.s 102 rfl .nil) rfl (q_fieldP rfl fo107_5)) <| DK.cons rfl rfl (.o rfl (.s 103 rfl .nil) rfl (q_loadB rfl sh4 (i := 0) rfl rfl)) <| DK.cons rfl rfl (.p rfl (.s 104 rfl .nil) rfl (q_not rfl)) <| dm rfl rfl rfl ?_
            rcases bif_s h with ⟨hb357, h⟩ | ⟨hb357, h⟩
            ·refine dx rfl rfl rfl hb357 <| dx rfl rfl rfl hb357 <| dx rfl rfl rfl hb357 <| dx rfl rfl rfl hb357 <| dx rfl rfl rfl hb357 <| dx rfl rfl rfl hb357 <| dx rfl rfl rfl hb357 <| dx rfl rfl rfl hb357 <| dx rfl rfl rfl hb357 <| dx rfl rfl rfl hb357 <| dx rfl rfl rfl hb357 <| dx rfl rfl rfl hb357 <| dx rfl rfl rfl hb357 ?_
             refine dx rfl rfl rfl hb357 <| dx rfl rfl rfl hb357 <| dx rfl rfl rfl hb357 <| dx rfl rfl rfl hb357 <| dx rfl rfl rfl hb357 <| dx rfl rfl rfl hb357 <| dx rfl rfl rfl hb357 <| dx rfl rfl rfl hb357 <| dx rfl rfl rfl hb357 <| DK.cons rfl rfl (.p rfl (.s 106 rfl (.k .nil)) rfl (q_pickT rfl hb357)) <| DK.nil <| CSteps.nil ?_
             exact QN.weaken (.o4 rfl (.o2 rfl (.nil _))) (Kj349 () true h)
            ·refine DK.cons rfl rfl (.gp rfl rfl rfl hb357 (.s 0 rfl .nil) rfl (q_move rfl)) <| DK.cons rfl rfl (.gp rfl rfl rfl hb357 (.s 107 rfl .nil) rfl (q_nilCheckP rfl)) <| DK.cons rfl rfl (.gp rfl rfl rfl hb357 (.s 108 rfl .nil) rfl (q_fieldP rfl fo107_2)) <| DK.cons rfl rfl (.go rfl rfl rfl hb357 (.s 109 rfl .nil) rfl (q_loadB rfl sh26 (i := 0) rfl rfl)) <| DK.cons rfl rfl (.gp rfl rfl rfl hb357 (.s 0 rfl .nil) rfl (q_move rfl)) <| DK.cons rfl rfl (.gp rfl rfl rfl hb357 (.s 111 rfl .nil) rfl (q_nilCheckP rfl)) <| DK.cons rfl rfl (.gp rfl rfl rfl hb357 (.s 112 rfl .nil) rfl (q_fieldP rfl fo107_4)) <| DK.cons rfl rfl (.go rfl rfl rfl hb357 (.s 113 rfl .nil) rfl (q_loadB rfl sh26 (i := 0) rfl rfl)) <| DK.cons rfl rfl (.gp rfl rfl rfl hb357 (.s 0 rfl .nil) rfl (q_move rfl)) <| DK.cons rfl rfl (.gp rfl rfl rfl hb357 (.s 115 rfl .nil) rfl (q_nilCheckP rfl)) <| DK.cons rfl rfl (.gp rfl rfl rfl hb357 (.s 116 rfl .nil) rfl (q_fieldP rfl fo107_2)) <| DK.cons rfl rfl (.go rfl rfl rfl hb357 (.s 117 rfl .nil) rfl (q_loadB rfl sh26 (i := 0) rfl rfl)) <| DK.cons rfl rfl (.gp rfl rfl rfl hb357 (.s 118 rfl .nil) rfl (q_len rfl elS26)) ?_
             refine DK.cons rfl rfl (.gp rfl rfl rfl hb357 (.s 0 rfl .nil) rfl (q_move rfl)) <| DK.cons rfl rfl (.gp rfl rfl rfl hb357 (.s 120 rfl .nil) rfl (q_nilCheckP rfl)) <| DK.cons rfl rfl (.gp rfl rfl rfl hb357 (.s 121 rfl .nil) rfl (q_fieldP rfl fo107_4)) <| DK.cons rfl rfl (.go rfl rfl rfl hb357 (.s 122 rfl .nil) rfl (q_loadB rfl sh26 (i := 0) rfl rfl)) <| DK.cons rfl rfl (.gp rfl rfl rfl hb357 (.s 123 rfl .nil) rfl (q_len rfl elS26)) <| DK.cons rfl rfl (.gp rfl rfl rfl hb357 (.s 119 rfl (.s 124 rfl .nil)) rfl (q_min rfl)) ?_
             obtain ⟨c358, h⟩ := ite_n h
             refine DK.cons rfl rfl (.gp rfl rfl rfl hb357 (.s 114 rfl (.s 125 rfl .nil)) rfl (q_subH rfl el26 rfl c358.1 c358.2)) ?_
             obtain ⟨t359, ht359, h⟩ := bind_s h
             refine DK.cons rfl rfl (.gp rfl rfl rfl hb357 (.s 110 rfl (.s 126 rfl .nil)) rfl (q_call (f := 103) (A := iA t359) (xs := [.tmp 110, .tmp 126]) («as» := [SlcA kInt (t337 ++ t339), SlcA kInt (y6.take ((minI ((t337 ++ t339).length : Int) (y6.length : Int)) : Int).toNat)]) rfl ca103 (slices_Compare_int.con k (t337 ++ t339) (y6.take ((minI ((t337 ++ t339).length : Int) (y6.length : Int)) : Int).toNat) t359 ht359) rfl)) <| DK.cons rfl rfl (.gp rfl rfl rfl hb357 (.s 127 rfl (.k .nil)) rfl (q_int rfl rfl)) <| DK.cons rfl rfl (.p rfl (.s 106 rfl (.s 128 rfl .nil)) rfl (q_pickF rfl hb357)) <| DK.nil <| CSteps.nil ?_
             exact QN.weaken (.o4 rfl (.o2 rfl (.nil _))) (Kj349 () (decide (t359 ≤ 0)) h)
          exact CTc.end
         refine CTc.no rfl ?_
         exact CTc.end
        refine CTc.no rfl <| CTc.no rfl ?_
        exact CTc.end
       refine CTc.no rfl <| CTc.no rfl <| CTc.no rfl ?_
       exact CTc.end
      refine CTc.no rfl <| CTc.no rfl <| CTc.no rfl <| CTc.no rfl ?_
      exact CTc.end
     refine CTc.no rfl <| CTc.no rfl <| CTc.no rfl <| CTc.no rfl <| CTc.no rfl ?_
     exact CTc.end
   ·refine W.exit <| QX.then_ <| QX.then_ <| QX.here ?_
    cases h
    exact QN.f0 rfl rfl ⟨rfl, rfl⟩
theorem host_listedEdges_1.con (k : Nat) (a0 : Int) (a1 : Graph) (a2 : (List Int)) (r : (Int × Int × Int × Int)) (h : host_listedEdges_1 k a0 a1 a2 = some r) : Con Tryz.prog 105 [] [iA a0, PtrA [SlcA kInt a1.fNodes, SlcA kEdge a1.fEdges], PtrA [SlcA kInt a2]] (RA (TupA [iA r.1, iA r.2.1, iA r.2.2.1, iA r.2.2.2])) := by
 unfold host_listedEdges_1 at h
 refine Con.of (N := 45) Tryz.func105 rfl rfl rfl fun w0_ fg_ => sr <| ak rfl <| ak rfl <| ak rfl <| ak rfl <| nx <| fd rfl rfl fo29_1 rfl <| ld rfl rfl sh27 ?_
 refine mv rfl rfl ?_
 obtain ⟨c100, h⟩ := ite_n h
 refine p2 rfl 12 rfl 13 rfl (q_index rfl el27 rfl c100.1 c100.2) <| lS rfl rfl sh63 rfl rfl <| WL.w [] rfl (Wanted.plain rfl) rfl rfl .nil (w_alloc rfl z63 (l := [iA 0, iA 0, iA 0]) rfl) ?_
 rintro _ _ ⟨b101, rfl, rfl⟩
 refine WL.w0 [0] rfl (Wanted.plain rfl) rfl (.s 8 rfl (.s 15 rfl .nil)) (w_store (L := [iA ((rd a1.fEdges a0).fType), iA ((rd a1.fEdges a0).fFrom), iA ((rd a1.fEdges a0).fTo)]) rfl sh63 (CellsOf.agg _) rfl rfl (leB rfl) rfl) ?_
 rintro _ _ ⟨rfl, rfl⟩
 refine WL.nil <| QN.to (StTo.still [0] 8 rfl rfl) <| QN.weaken (env' := [(8, _), (2, _)]) (.o2 rfl (.nil _)) <| QN.then_ <| W.seq <| W.drawK [(0, false), (1, false), (2, false), (3, false), (4, false), (5, false), (6, false), (7, false), (8, false), (9, false), (10, false), (11, false)] [] (bm [0, 0, 2, 7, 15, 0, 0, 64, 224, 480, 31, 2047]) mx (by kernel_rfl) <| dl rfl rfl rfl sh26 <| df rfl rfl rfl fo63_1 rfl <| dl rfl rfl rfl sh3 ?_
 obtain ⟨c106, h⟩ := ite_n h
 refine DK.cons rfl rfl (.p rfl (.s 16 rfl (.s 18 rfl .nil)) rfl (q_index rfl el26 rfl c106.1 c106.2)) <| dl rfl rfl rfl sh3 <| dl rfl rfl rfl sh26 <| df rfl rfl rfl fo63_2 rfl <| dl rfl rfl rfl sh3 ?_
 obtain ⟨c107, h⟩ := ite_n h
 refine DK.cons rfl rfl (.p rfl (.s 21 rfl (.s 23 rfl .nil)) rfl (q_index rfl el26 rfl c107.1 c107.2)) <| dl rfl rfl rfl sh3 <| DK.cons rfl rfl (.p rfl (.s 20 rfl .nil) rfl (q_assign rfl)) <| DK.cons rfl rfl (.p rfl (.s 25 rfl .nil) rfl (q_assign rfl)) <| DK.nil <| CSteps.nil <| QN.weaken (env' := [(10, _), (9, _), (8, _)]) (.o2 rfl (.one rfl (.nil _))) <| QN.then_ <| W.seq <| W.block <| sr <| mv rfl rfl ?_
 refine mv rfl rfl <| p2 rfl 27 rfl 28 rfl (q_int rfl rfl) <| av rfl rfl <| nt ?_
 refine W.condP h rfl (fun hb108 h => ?_) (fun hb108 h => ?_)
 ·refine W.seq <| W.drawK [(0, false), (1, false), (2, false), (3, false), (4, false), (5, false), (6, false), (7, false)] [] (bm [0, 0, 0, 4, 1, 19, 51, 127]) mx (by kernel_rfl) <| dm rfl rfl rfl <| dm rfl rfl rfl <| df rfl rfl rfl fo63_0 rfl <| dl rfl rfl rfl sh3 <| DK.cons rfl rfl (.p rfl (.s 30 rfl .nil) rfl (q_assign rfl)) <| DK.cons rfl rfl (.p rfl (.s 31 rfl .nil) rfl (q_assign rfl)) <| DK.cons rfl rfl (.p rfl (.k .nil) rfl (q_assign rfl)) <| DK.cons rfl rfl (.p rfl (.s 33 rfl .nil) rfl (q_assign rfl)) <| DK.nil <| CSteps.nil <| QN.weaken (env' := [(7, _), (6, _), (5, _), (4, _)]) (.o4 rfl (.nil _)) ?_
  refine QN.then_ <| W.ret <| QR.block <| QR.then_ ?_
  cases h
  exact QR.f4 rfl rfl (.t rfl) (.t rfl) (.t rfl) (.t rfl) (.id _)
 ·refine sr <| mv rfl rfl <| mv rfl rfl <| p2 rfl 35 rfl 36 rfl (q_int rfl rfl) <| av rfl rfl <| WL.nil <| QN.weaken (env' := [(34, _), (10, _), (9, _), (8, _)]) (.o4 rfl (.nil _)) <| QN.then_ ?_
  refine W.condP h rfl (fun hb109 h => ?_) (fun hb109 h => ?_)
  ·refine W.seq <| W.drawK [(0, false), (1, false), (2, false), (3, false), (4, false), (5, false), (6, false), (7, false)] [] (bm [0, 0, 0, 4, 1, 19, 51, 127]) mx (by kernel_rfl) <| dm rfl rfl rfl <| dm rfl rfl rfl <| df rfl rfl rfl fo63_0 rfl <| dl rfl rfl rfl sh3 <| DK.cons rfl rfl (.p rfl (.s 38 rfl .nil) rfl (q_assign rfl)) <| DK.cons rfl rfl (.p rfl (.s 39 rfl .nil) rfl (q_assign rfl)) <| DK.cons rfl rfl (.p rfl (.k .nil) rfl (q_assign rfl)) <| DK.cons rfl rfl (.p rfl (.s 41 rfl .nil) rfl (q_assign rfl)) <| DK.nil <| CSteps.nil <| QN.weaken (env' := [(7, _), (6, _), (5, _), (4, _)]) (.o4 rfl (.nil _)) ?_
   refine QN.then_ <| W.ret <| QR.block <| QR.then_ ?_
   cases h
   exact QR.f4 rfl rfl (.t rfl) (.t rfl) (.t rfl) (.t rfl) (.id _)
  ·refine W.skip <| QN.block <| QN.then_ <| W.seq <| W.drawK [(0, false), (1, false), (2, false), (3, false), (4, false), (5, false), (6, false)] [] (bm [0, 0, 2, 1, 9, 25, 63]) mx (by kernel_rfl) <| dm rfl rfl rfl <| df rfl rfl rfl fo63_0 rfl <| dl rfl rfl rfl sh3 <| DK.cons rfl rfl (.p rfl (.s 42 rfl .nil) rfl (q_assign rfl)) <| DK.cons rfl rfl (.p rfl (.k .nil) rfl (q_assign rfl)) <| DK.cons rfl rfl (.p rfl (.k .nil) rfl (q_assign rfl)) <| DK.cons rfl rfl (.p rfl (.s 44 rfl .nil) rfl (q_assign rfl)) <| DK.nil ?_
   refine CSteps.nil <| QN.weaken (env' := [(7, _), (6, _), (5, _), (4, _)]) (.o4 rfl (.nil _)) <| QN.then_ <| W.ret ?_
   cases h
   exact QR.f4 rfl rfl (.t rfl) (.t rfl) (.t rfl) (.t rfl) (.id _)
theorem cmp_Or_int.con (k : Nat) (a0 : (List Int)) (r : Int) (h : cmp_Or_int k a0 = some r) : Con Tryz.prog 108 [] [SlcA kInt a0] (RA (iA r)) := by
 unfold cmp_Or_int at h
 refine Con.of (N := 18) Tryz.func108 rfl rfl rfl fun w0_ fg_ => sr <| ak rfl <| nx <| ak rfl <| nt <| W.seq <| W.seq ?_
 refine W.region <| mv rfl rfl <| p1 rfl 6 rfl (q_len rfl elS26) <| mk_ rfl <| nt <| W.block ?_
 refine W.loop1 (Γ := Unit) (fun (_ : Unit) (x8 : Int) => [(3, iA 0), (6, SlcA kInt a0), (7, iA (a0.length : Int)), (8, iA x8)]) (fun (_ : Unit) (_ : Int) => []) h () (.o4 rfl (.nil _)) rfl (fun rec0 K0 next0 _ x8 h => ?_)
 unfold cmp_Or_int.b0 at h
 refine sr <| p2 rfl 8 rfl 7 rfl (q_int rfl rfl) <| nt <| W.seq ?_
 refine W.condP h rfl (fun hb108 h => ?_) (fun hb108 h => ?_)
 ·refine W.skip <| QN.then_ <| W.seq <| W.block <| sr ?_
  obtain ⟨c109, h⟩ := ite_n h
  refine p2 rfl 6 rfl 8 rfl (q_index rfl el26 rfl c109.1 c109.2) <| ld rfl rfl sh3 <| av rfl rfl <| nx <| mv rfl rfl <| mv rfl rfl <| p2 rfl 12 rfl 13 rfl (q_int rfl rfl) <| nt ?_
  refine W.condP h rfl (fun hb110 h => ?_) (fun hb110 h => ?_)
  ·refine sr <| mv rfl rfl <| av rfl rfl <| WL.nil <| QN.weaken (env' := [(2, _)]) (.one rfl (.nil _)) <| QN.then_ <| W.ret <| QR.block <| QR.then_ <| QR.then_ <| QR.block <| QR.then_ ?_
   cases h
   exact QR.f1 rfl rfl (.t rfl) (.id _)
  ·refine W.skip <| QN.block <| QN.weaken (env' := [(8, _), (7, _), (6, _), (3, _)]) (.o4 rfl (.nil _)) <| QN.then_ <| W.region ?_
   obtain ⟨c111, h⟩ := ite_n h
   refine pk rfl 8 rfl (q_addR rfl c111) <| mv rfl rfl <| WL.nil ?_
   exact next0 () (x8 + 1) _ h (.o4 rfl (.nil _))
 ·refine W.exit <| QX.then_ <| QX.then_ <| QX.here <| QN.then_ <| sr <| mv rfl rfl <| av rfl rfl <| nt <| W.ret ?_
  cases h
  exact QR.f1 rfl rfl (.t rfl) (.id _)
theorem host_listedEdges_2.con (k : Nat) (a0 : Int) (a1 : Int) (a2 : (Int → Option (Int × Int × Int × Int))) (r : Int) (h : host_listedEdges_2 k a0 a1 a2 = some r) : Con Tryz.prog 107 [] [iA a0, iA a1, PtrA [FnA Tryz.prog (fun (x : Int) => [iA x]) (fun (y : (Int × Int × Int × Int)) => TupA [iA y.1, iA y.2.1, iA y.2.2.1, iA y.2.2.2]) a2]] (RA (iA r)) := by
 unfold host_listedEdges_2 at h
 refine Con.of (N := 44) Tryz.func107 rfl rfl rfl fun w0_ fg_ => sr <| ak rfl <| nx <| ld rfl rfl sh156 <| mv rfl rfl ?_
 obtain ⟨t100, ht100, h⟩ := bind_s h
 refine p2 rfl 15 rfl 16 rfl (q_callV («as» := (fun (x : Int) => [iA x])) (res := (fun (y : (Int × Int × Int × Int)) => TupA [iA y.1, iA y.2.1, iA y.2.2.1, iA y.2.2.2])) (x := a0) (y := t100) (xs := [.tmp 16]) rfl ht100 rfl) <| mv rfl rfl <| p1 rfl 14 rfl (q_extract rfl rfl) <| p1 rfl 14 rfl (q_extract rfl rfl) <| p1 rfl 14 rfl (q_extract rfl rfl) <| p1 rfl 14 rfl (q_extract rfl rfl) <| av rfl rfl <| av rfl rfl <| av rfl rfl <| av rfl rfl <| WL.nil <| QN.weaken (env' := [(9, _), (8, _), (7, _), (6, _), (2, _), (1, _)]) (.o4 rfl (.o2 rfl (.nil _))) <| QN.then_ ?_
 refine sr <| ld rfl rfl sh156 <| mv rfl rfl ?_
 obtain ⟨t101, ht101, h⟩ := bind_s h
 refine p2 rfl 23 rfl 24 rfl (q_callV («as» := (fun (x : Int) => [iA x])) (res := (fun (y : (Int × Int × Int × Int)) => TupA [iA y.1, iA y.2.1, iA y.2.2.1, iA y.2.2.2])) (x := a1) (y := t101) (xs := [.tmp 24]) rfl ht101 rfl) <| mv rfl rfl <| p1 rfl 22 rfl (q_extract rfl rfl) <| p1 rfl 22 rfl (q_extract rfl rfl) <| p1 rfl 22 rfl (q_extract rfl rfl) <| p1 rfl 22 rfl (q_extract rfl rfl) <| av rfl rfl <| av rfl rfl <| av rfl rfl <| av rfl rfl <| WL.nil <| QN.weaken (env' := [(13, _), (12, _), (11, _), (10, _), (9, _), (8, _), (7, _), (6, _)]) (.o4 rfl (.o4 rfl (.nil _))) <| QN.then_ ?_
 refine sr <| mv rfl rfl <| mv rfl rfl ?_
 obtain ⟨t102, ht102, h⟩ := bind_s h
 refine p2 rfl 30 rfl 31 rfl (q_call (f := 109) (A := iA t102) (xs := [.tmp 30, .tmp 31]) («as» := [iA t100.1, iA t101.1]) rfl ca109 (cmp_Compare_int.con k t100.1 t101.1 t102 ht102) rfl) <| mv rfl rfl <| mv rfl rfl ?_
 obtain ⟨t103, ht103, h⟩ := bind_s h
 refine p2 rfl 33 rfl 34 rfl (q_call (f := 109) (A := iA t103) (xs := [.tmp 33, .tmp 34]) («as» := [iA t100.2.1, iA t101.2.1]) rfl ca109 (cmp_Compare_int.con k t100.2.1 t101.2.1 t103 ht103) rfl) <| mv rfl rfl <| mv rfl rfl ?_
 obtain ⟨t104, ht104, h⟩ := bind_s h
 refine p2 rfl 36 rfl 37 rfl (q_call (f := 109) (A := iA t104) (xs := [.tmp 36, .tmp 37]) («as» := [iA t100.2.2.1, iA t101.2.2.1]) rfl ca109 (cmp_Compare_int.con k t100.2.2.1 t101.2.2.1 t104 ht104) rfl) <| mv rfl rfl <| mv rfl rfl ?_
 obtain ⟨t105, ht105, h⟩ := bind_s h
 refine p2 rfl 39 rfl 40 rfl (q_call (f := 109) (A := iA t105) (xs := [.tmp 39, .tmp 40]) («as» := [iA t100.2.2.2, iA t101.2.2.2]) rfl ca109 (cmp_Compare_int.con k t100.2.2.2 t101.2.2.2 t105 ht105) rfl) <| WL.p rfl rfl rfl (.s 32 rfl (.s 35 rfl (.s 38 rfl (.s 41 rfl .nil)))) (q_lit (kd := kInt) (ps := [(0, .tmp 32), (1, .tmp 35), (2, .tmp 38), (3, .tmp 41)]) (xs := [.tmp 32, .tmp 35, .tmp 38, .tmp 41]) («as» := [iA t102, iA t103, iA t104, iA t105]) (ys := [t102, t103, t104, t105]) rfl rfl el26 rfl gr3 rfl rfl rfl (.cons (CellsOf.one rfl) (.cons (CellsOf.one rfl) (.cons (CellsOf.one rfl) (.cons (CellsOf.one rfl) .nil))))) ?_
 obtain ⟨t106, ht106, h⟩ := bind_s h
 refine p1 rfl 42 rfl (q_call (f := 108) (A := iA t106) (xs := [.tmp 42]) («as» := [SlcA kInt [t102, t103, t104, t105]]) rfl ca108 (cmp_Or_int.con k [t102, t103, t104, t105] t106 ht106) rfl) <| av rfl rfl <| WL.nil <| QN.weaken (env' := [(5, _)]) (.one rfl (.nil _)) <| QN.then_ <| W.ret ?_
 cases h
 exact QR.f1 rfl rfl (.t rfl) (.id _)
theorem slices_insertionSortCmpFunc_int.con (k : Nat) (w0 : Value) (a0 : (List Int)) (a1 : Int) (a2 : Int) (a3 : ((Int × Int) → Option Int)) (r : (List Int)) (h : slices_insertionSortCmpFunc_int k a0 a1 a2 a3 = some r) : Con Tryz.prog 159 [SlE 3 w0 kInt a0] [HdA w0, iA a1, iA a2, FnA Tryz.prog (fun (x : (Int × Int)) => [iA x.1, iA x.2]) (fun (y : Int) => iA y) a3] (fun O' A => O' = [SlE 3 w0 kInt r] ∧ A = TupA []) := by
 unfold slices_insertionSortCmpFunc_int at h
 refine Con.of (N := 53) Tryz.func159 rfl rfl rfl fun w0_ fg_ => sr <| mv rfl rfl ?_
 obtain ⟨c100, h⟩ := ite_n h
 refine pk rfl 10 rfl (q_addR rfl c100) <| av rfl rfl <| nt <| W.block ?_
 refine W.loop2 (Γ := Unit) (fun (_ : Unit) (_ : (List Int)) (x8 : Int) => [(0, HdA w0), (1, iA a1), (2, iA a2), (3, FnA Tryz.prog (fun (x : (Int × Int)) => [iA x.1, iA x.2]) (fun (y : Int) => iA y) a3), (8, iA x8)]) (fun (_ : Unit) (x0 : (List Int)) (_ : Int) => [SlE 3 w0 kInt x0]) h () (.o4 rfl (.one rfl (.nil _))) rfl (fun rec0 K0 next0 _ x0 x8 h => ?_)
 unfold slices_insertionSortCmpFunc_int.b0 at h
 refine W.seq <| sr <| mv rfl rfl <| mv rfl rfl <| p2 rfl 12 rfl 13 rfl (q_int rfl rfl) <| nt ?_
 refine W.condP h rfl (fun hb331 h => ?_) (fun hb331 h => ?_)
 ·refine W.skip <| QN.then_ <| W.seq <| W.block <| sr <| mv rfl rfl <| av rfl rfl <| nt <| W.block ?_
  refine W.loop2 (Γ := Unit) (fun (_ : Unit) (_ : (List Int)) (x9 : Int) => [(0, HdA w0), (1, iA a1), (2, iA a2), (3, FnA Tryz.prog (fun (x : (Int × Int)) => [iA x.1, iA x.2]) (fun (y : Int) => iA y) a3), (8, iA x8), (9, iA x9)]) (fun (_ : Unit) (x0' : (List Int)) (_ : Int) => [SlE 3 w0 kInt x0']) h () (.o4 rfl (.o2 rfl (.nil _))) rfl (fun rec1 K1 next1 _ x0' x9 h => ?_)
  unfold slices_insertionSortCmpFunc_int.b1 at h
  refine W.seq <| W.seq ?_
  refine W.jn1 (Γ := Unit) (fun (_ : Unit) (x34 : Bool) => [(0, HdA w0), (1, iA a1), (2, iA a2), (3, FnA Tryz.prog (fun (x : (Int × Int)) => [iA x.1, iA x.2]) (fun (y : Int) => iA y) a3), (8, iA x8), (9, iA x9), (34, bA x34)]) (fun (_ : Unit) (_ : Bool) => [SlE 3 w0 kInt x0']) h (fun _ x34 h => ?_) (fun j419 Kj419 h => ?_)
  ·refine QN.then_ ?_
   refine W.condP h rfl (fun hb420 h => ?_) (fun hb420 h => ?_)
   ·refine W.skip <| QN.then_ <| W.seq <| W.block <| W.drawK [(0, false), (1, false), (2, false), (3, false), (4, false), (5, false), (6, false), (7, false), (8, true), (9, true), (10, false), (11, false), (12, true), (13, true), (14, true)] [15, 16, 17] (bm [0, 0, 0, 0, 8, 0, 0, 64, 224, 480, 0, 0, 3072, 7168, 16355, 32739, 65535, 131071]) mx (by kernel_rfl) <| dm rfl rfl rfl <| dm rfl rfl rfl <| dm rfl rfl rfl <| dm rfl rfl rfl ?_
    obtain ⟨c433, h⟩ := ite_n h
    refine DK.cons rfl rfl (.p rfl (.s 40 rfl (.k .nil)) rfl (q_subR rfl c433)) <| dm rfl rfl rfl <| dm rfl rfl rfl ?_
    obtain ⟨c434, h⟩ := ite_n h
    refine DK.cons rfl rfl (.p rfl (.s 43 rfl (.k .nil)) rfl (q_subR rfl c434)) ?_
    obtain ⟨c435, h⟩ := ite_n h
    refine DK.cons rfl rfl (.o rfl (.s 42 rfl (.s 44 rfl .nil)) rfl (q_indexO rfl el26 (j := 0) rfl c435.1 c435.2)) <| DK.cons rfl rfl (.o rfl (.s 45 rfl .nil) rfl (q_loadEl rfl sh3 (j := 0) rfl rfl c435.1 c435.2 rfl)) <| dm rfl rfl rfl <| dm rfl rfl rfl ?_
    obtain ⟨c436, h⟩ := ite_n h
    refine DK.cons rfl rfl (.o rfl (.s 47 rfl (.s 48 rfl .nil)) rfl (q_indexO rfl el26 (j := 0) rfl c436.1 c436.2)) <| DK.cons rfl rfl (.o rfl (.s 49 rfl .nil) rfl (q_loadEl rfl sh3 (j := 0) rfl rfl c436.1 c436.2 rfl)) ?_
    obtain ⟨c437, h⟩ := ite_n h
    refine DK.cons rfl rfl (.o rfl (.s 37 rfl (.s 38 rfl .nil)) rfl (q_indexO rfl el26 (j := 0) rfl c437.1 c437.2)) ?_
    obtain ⟨c438, h⟩ := ite_n h
    refine DK.nil <| CSteps.w0 [0] rfl rfl rfl (.s 51 rfl (.s 46 rfl .nil)) rfl (w_storeEl (kd := kInt) (z := (rd x0' (x9 - 1))) rfl sh3 (CellsOf.one rfl) rfl rfl rfl c437.1 c437.2 rfl rfl) ?_
    rintro _ _ ⟨rfl, rfl⟩
    refine CSteps.ro [0] rfl rfl rfl rfl (.s 39 rfl (.s 41 rfl .nil)) rfl (fun _ => (q_indexO rfl el26 (j := 0) rfl c438.1 c438.2)) <| CSteps.w0 [0] rfl rfl rfl (.s 52 rfl (.s 50 rfl .nil)) rfl (w_storeEl (kd := kInt) (z := (rd x0' x9)) rfl sh3 (CellsOf.one rfl) rfl rfl rfl c438.1 c438.2 rfl rfl) ?_
    rintro _ _ ⟨rfl, rfl⟩
    refine CSteps.nil <| QN.block <| QN.weaken (env' := [(9, _), (8, _), (3, _), (2, _), (1, _), (0, _)]) (.o4 rfl (.o2 rfl (.nil _))) <| QN.then_ <| W.region <| mv rfl rfl ?_
    obtain ⟨c439, h⟩ := ite_n h
    refine pk rfl 35 rfl (q_subR rfl c439) <| av rfl rfl <| WL.nil ?_
    exact next1 () ((x0'.set (x9 : Int).toNat (rd x0' (x9 - 1))).set ((x9 - 1) : Int).toNat (rd x0' x9)) (x9 - 1) _ h (.o4 rfl (.o2 rfl (.nil _)))
   ·refine W.exit <| QX.then_ <| QX.then_ <| QX.here <| QN.block <| QN.then_ <| W.region <| mv rfl rfl ?_
    obtain ⟨c440, h⟩ := ite_n h
    refine pk rfl 15 rfl (q_addR rfl c440) <| av rfl rfl <| WL.nil ?_
    exact next0 () x0' (x8 + 1) _ h (.o4 rfl (.one rfl (.nil _)))
  ·refine W.drawK [(0, false), (1, false), (2, false), (3, false), (4, false), (5, false), (6, false), (7, true), (8, true), (9, false), (10, false), (11, false), (12, true), (13, true), (14, false), (15, false), (16, false)] [] (bm [0, 0, 3, 7, 15, 15, 15, 111, 239, 15, 15, 1039, 3599, 7695, 16383, 32767, 65535]) mx (by kernel_rfl) <| dm rfl rfl rfl <| dm rfl rfl rfl <| DK.cons rfl rfl (.p rfl (.s 18 rfl (.s 19 rfl .nil)) rfl (q_int rfl rfl)) <| dm rfl rfl rfl ?_
   rcases bif_s h with ⟨hb441, h⟩ | ⟨hb441, h⟩
   ·refine DK.cons rfl rfl (.gp rfl rfl rfl hb441 (.s 3 rfl .nil) rfl (q_move rfl)) <| DK.cons rfl rfl (.gp rfl rfl rfl hb441 (.s 0 rfl .nil) rfl (q_move rfl)) <| DK.cons rfl rfl (.gp rfl rfl rfl hb441 (.s 9 rfl .nil) rfl (q_move rfl)) ?_
    obtain ⟨c442, h⟩ := ite_n h
    refine DK.cons rfl rfl (.go rfl rfl rfl hb441 (.s 23 rfl (.s 24 rfl .nil)) rfl (q_indexO rfl el26 (j := 0) rfl c442.1 c442.2)) <| DK.cons rfl rfl (.go rfl rfl rfl hb441 (.s 25 rfl .nil) rfl (q_loadEl rfl sh3 (j := 0) rfl rfl c442.1 c442.2 rfl)) <| DK.cons rfl rfl (.gp rfl rfl rfl hb441 (.s 0 rfl .nil) rfl (q_move rfl)) <| DK.cons rfl rfl (.gp rfl rfl rfl hb441 (.s 9 rfl .nil) rfl (q_move rfl)) ?_
    obtain ⟨c443, h⟩ := ite_n h
    refine DK.cons rfl rfl (.gp rfl rfl rfl hb441 (.s 28 rfl (.k .nil)) rfl (q_subR rfl c443)) ?_
    obtain ⟨c444, h⟩ := ite_n h
    refine DK.cons rfl rfl (.go rfl rfl rfl hb441 (.s 27 rfl (.s 29 rfl .nil)) rfl (q_indexO rfl el26 (j := 0) rfl c444.1 c444.2)) <| DK.cons rfl rfl (.go rfl rfl rfl hb441 (.s 30 rfl .nil) rfl (q_loadEl rfl sh3 (j := 0) rfl rfl c444.1 c444.2 rfl)) ?_
    obtain ⟨t445, ht445, h⟩ := bind_s h
    refine DK.cons rfl rfl (.gp rfl rfl rfl hb441 (.s 22 rfl (.s 26 rfl (.s 31 rfl .nil))) rfl (q_callV («as» := (fun (x : (Int × Int)) => [iA x.1, iA x.2])) (res := (fun (y : Int) => iA y)) (x := ((rd x0' x9), (rd x0' (x9 - 1)))) (y := t445) (xs := [.tmp 26, .tmp 31]) rfl ht445 rfl)) <| DK.cons rfl rfl (.gp rfl rfl rfl hb441 (.s 32 rfl (.k .nil)) rfl (q_int rfl rfl)) <| DK.cons rfl rfl (.p rfl (.s 21 rfl (.s 33 rfl .nil)) rfl (q_pickT rfl hb441)) <| DK.nil <| CSteps.nil ?_
    exact QN.weaken (.o4 rfl (.o2 rfl (.one rfl (.nil _)))) (Kj419 () (decide (t445 < 0)) h)
   ·refine dx rfl rfl rfl hb441 <| dx rfl rfl rfl hb441 <| dx rfl rfl rfl hb441 <| dx rfl rfl rfl hb441 <| dx rfl rfl rfl hb441 <| dx rfl rfl rfl hb441 <| dx rfl rfl rfl hb441 <| dx rfl rfl rfl hb441 <| dx rfl rfl rfl hb441 <| dx rfl rfl rfl hb441 <| dx rfl rfl rfl hb441 <| dx rfl rfl rfl hb441 <| DK.cons rfl rfl (.p rfl (.s 21 rfl (.k .nil)) rfl (q_pickF rfl hb441)) ?_
    refine DK.nil <| CSteps.nil ?_
    exact QN.weaken (.o4 rfl (.o2 rfl (.one rfl (.nil _)))) (Kj419 () false h)
 ·refine W.exit <| QX.then_ <| QX.then_ <| QX.here ?_
  cases h
  exact QN.f0 rfl rfl ⟨rfl, rfl⟩
theorem slices_stableCmpFunc_int.con (k : Nat) (w0 : Value) (a0 : (List Int)) (a1 : Int) (a2 : ((Int × Int) → Option Int)) (r : (List Int)) (h : slices_stableCmpFunc_int k a0 a1 a2 = some r) : Con Tryz.prog 142 [SlE 3 w0 kInt a0] [HdA w0, iA a1, FnA Tryz.prog (fun (x : (Int × Int)) => [iA x.1, iA x.2]) (fun (y : Int) => iA y) a2] (fun O' A => O' = [SlE 3 w0 kInt r] ∧ A = TupA []) := by
 unfold slices_stableCmpFunc_int at h
 refine Con.of (N := 63) Tryz.func142 rfl rfl rfl fun w0_ fg_ => sr <| ak rfl <| nx <| mv rfl rfl <| ak rfl <| av rfl rfl <| nt ?_
 refine W.seq <| W.block ?_
 refine W.loop3 (Γ := Unit) (fun (_ : Unit) (_ : (List Int)) (x7 : Int) (x8 : Int) => [(0, HdA w0), (1, iA a1), (2, FnA Tryz.prog (fun (x : (Int × Int)) => [iA x.1, iA x.2]) (fun (y : Int) => iA y) a2), (6, iA 20), (7, iA x7), (8, iA x8)]) (fun (_ : Unit) (x0 : (List Int)) (_ : Int) (_ : Int) => [SlE 3 w0 kInt x0]) h () (.o4 rfl (.o2 rfl (.nil _))) rfl (fun rec0 K0 next0 _ x0 x7 x8 h => ?_)
 unfold slices_stableCmpFunc_int.b0 at h
 refine W.seq <| sr <| mv rfl rfl <| mv rfl rfl <| p2 rfl 11 rfl 12 rfl (q_int rfl rfl) <| nt ?_
 refine W.condP h rfl (fun hb180 h => ?_) (fun hb180 h => ?_)
 ·refine W.skip <| QN.then_ <| W.block <| sr <| mv rfl rfl <| mv rfl rfl <| mv rfl rfl <| mv rfl rfl ?_
  obtain ⟨t181, ht181, h⟩ := bind_s h
  refine WL.w [0] rfl (Wanted.plain rfl) rfl rfl (.s 14 rfl (.s 15 rfl (.s 16 rfl (.s 17 rfl .nil)))) (w_callI (f := 159) (xs := [.tmp 14, .tmp 15, .tmp 16, .tmp 17]) («as» := [HdA w0, iA x7, iA x8, FnA Tryz.prog (fun (x : (Int × Int)) => [iA x.1, iA x.2]) (fun (y : Int) => iA y) a2]) rfl ca159 (slices_insertionSortCmpFunc_int.con k w0 x0 x7 x8 a2 t181 ht181) rfl (.cons (Imp.id _) (.cons (Imp.id _) (.cons (Imp.id _) (.cons (Imp.id _) .nil))))) ?_
  rintro _ _ ⟨rfl, rfl⟩
  refine WL.nil <| QN.weaken (env' := [(8, _), (6, _), (2, _), (1, _), (0, _)]) (.o4 rfl (.one rfl (.nil _))) <| QN.then_ <| sr <| mv rfl rfl <| av rfl rfl <| nt <| W.region <| mv rfl rfl <| mv rfl rfl ?_
  obtain ⟨c182, h⟩ := ite_n h
  refine p2 rfl 20 rfl 21 rfl (q_addR rfl c182) <| av rfl rfl <| WL.nil <| QN.block ?_
  exact next0 () t181 x8 (x8 + 20) _ h (.o4 rfl (.o2 rfl (.nil _)))
 ·refine W.exit <| QX.then_ <| QX.then_ <| QX.here <| QN.then_ <| sr <| mv rfl rfl <| mv rfl rfl <| mv rfl rfl <| mv rfl rfl ?_
  obtain ⟨t183, ht183, h⟩ := bind_s h
  refine WL.w [0] rfl (Wanted.plain rfl) rfl rfl (.s 23 rfl (.s 24 rfl (.s 25 rfl (.s 26 rfl .nil)))) (w_callI (f := 159) (xs := [.tmp 23, .tmp 24, .tmp 25, .tmp 26]) («as» := [HdA w0, iA x7, iA a1, FnA Tryz.prog (fun (x : (Int × Int)) => [iA x.1, iA x.2]) (fun (y : Int) => iA y) a2]) rfl ca159 (slices_insertionSortCmpFunc_int.con k w0 x0 x7 a1 a2 t183 ht183) rfl (.cons (Imp.id _) (.cons (Imp.id _) (.cons (Imp.id _) (.cons (Imp.id _) .nil))))) ?_
  rintro _ _ ⟨rfl, rfl⟩
  refine WL.nil <| QN.weaken (env' := [(6, _), (2, _), (1, _), (0, _)]) (.o4 rfl (.nil _)) <| QN.then_ <| W.block ?_
  refine W.loop1 (Γ := Unit) (fun (_ : Unit) (x6 : Int) => [(0, HdA w0), (1, iA a1), (2, FnA Tryz.prog (fun (x : (Int × Int)) => [iA x.1, iA x.2]) (fun (y : Int) => iA y) a2), (6, iA x6)]) (fun (_ : Unit) (_ : Int) => [SlE 3 w0 kInt t183]) h () (.o4 rfl (.nil _)) rfl (fun rec1 K1 next1 _ x6 h => ?_)
  unfold slices_stableCmpFunc_int.b1 at h
  refine W.seq <| sr <| mv rfl rfl <| mv rfl rfl <| p2 rfl 28 rfl 29 rfl (q_int rfl rfl) <| nt ?_
  refine W.condP h rfl (fun hb208 h => ?_) (fun hb208 h => ?_)
  ·refine W.skip <| QN.then_ <| W.block <| sr <| mv rfl rfl ?_
   obtain ⟨c209, h⟩ := ite_n h
   refine WL.p rfl rfl rfl (.k (.s 31 rfl .nil)) (q_mulR rfl c209) <| ak rfl <| av rfl rfl <| nt <| W.seq <| W.block ?_
   refine W.loop0 (Γ := Unit) (fun (_ : Unit) => [(0, HdA w0), (1, iA a1), (2, FnA Tryz.prog (fun (x : (Int × Int)) => [iA x.1, iA x.2]) (fun (y : Int) => iA y) a2), (6, iA x6), (7, iA 0), (8, iA (2 * x6))]) (fun (_ : Unit) => [SlE 3 w0 kInt t183]) h () (.o4 rfl (.o2 rfl (.nil _))) rfl (fun rec2 K2 next2 _ h => ?_)
   unfold slices_stableCmpFunc_int.b2 at h
   refine W.seq <| sr <| mv rfl rfl <| mv rfl rfl <| p2 rfl 33 rfl 34 rfl (q_int rfl rfl) <| nt ?_
   refine W.condP h rfl (fun hb215 h => ?_) (fun hb215 h => ?_)
   ·refine W.skip <| QN.then_ <| W.block <| W.seq ?_
    cases h
   ·refine W.exit <| QX.then_ <| QX.then_ <| QX.here <| QN.then_ <| W.seq <| sr <| mv rfl rfl <| mv rfl rfl ?_
    obtain ⟨c216, h⟩ := ite_n h
    refine p2 rfl 49 rfl 50 rfl (q_addR rfl c216) <| av rfl rfl <| WL.nil <| QN.weaken (env' := [(9, _), (7, _), (6, _), (2, _), (1, _), (0, _)]) (.o4 rfl (.o2 rfl (.nil _))) <| QN.then_ <| sr <| mv rfl rfl <| mv rfl rfl <| p2 rfl 52 rfl 53 rfl (q_int rfl rfl) <| nt ?_
    refine W.condP h rfl (fun hb218 h => ?_) (fun hb218 h => ?_)
    ·cases h
    ·refine W.skip <| QN.then_ <| W.region <| mv rfl rfl ?_
     obtain ⟨c219, h⟩ := ite_n h
     refine pk rfl 61 rfl (q_mulR rfl c219) <| av rfl rfl <| WL.nil <| QN.block ?_
     exact next1 () (x6 * 2) _ h (.o4 rfl (.nil _))
  ·refine W.exit <| QX.then_ <| QX.then_ <| QX.here ?_
   cases h
   exact QN.f0 rfl rfl ⟨rfl, rfl⟩
theorem slices_SortStableFunc_int.con (k : Nat) (w0 : Value) (a0 : (List Int)) (a1 : ((Int × Int) → Option Int)) (r : (List Int)) (h : slices_SortStableFunc_int k a0 a1 = some r) : Con Tryz.prog 106 [SlE 3 w0 kInt a0] [HdA w0, FnA Tryz.prog (fun (x : (Int × Int)) => [iA x.1, iA x.2]) (fun (y : Int) => iA y) a1] (fun O' A => O' = [SlE 3 w0 kInt r] ∧ A = TupA []) := by
 unfold slices_SortStableFunc_int at h
 refine Con.of (N := 9) Tryz.func106 rfl rfl rfl fun w0_ fg_ => W.region <| mv rfl rfl <| mv rfl rfl <| WL.q (Wanted.plain rfl) rfl rfl (.s 5 rfl .nil) (q_lenO rfl elS26 (i := 0) rfl) <| mv rfl rfl ?_
 obtain ⟨t100, ht100, h⟩ := bind_s h
 refine WL.w [0] rfl (Wanted.plain rfl) rfl rfl (.s 4 rfl (.s 6 rfl (.s 7 rfl .nil))) (w_callI (f := 142) (xs := [.tmp 4, .tmp 6, .tmp 7]) («as» := [HdA w0, iA (a0.length : Int), FnA Tryz.prog (fun (x : (Int × Int)) => [iA x.1, iA x.2]) (fun (y : Int) => iA y) a1]) rfl ca142 (slices_stableCmpFunc_int.con k w0 a0 (a0.length : Int) a1 t100 ht100) rfl (.cons (Imp.id _) (.cons (Imp.id _) (.cons (Imp.id _) .nil)))) ?_
 rintro _ _ ⟨rfl, rfl⟩
 refine WL.nil ?_
 cases h
 exact QN.f0 rfl rfl ⟨rfl, rfl⟩
theorem host_listedEdges.con (k : Nat) (a0 : Graph) (a1 : (List Int)) (r : (List Int)) (h : host_listedEdges k a0 a1 = some r) : Con Tryz.prog 60 [] [AggA [SlcA kInt a0.fNodes, SlcA kEdge a0.fEdges], SlcA kInt a1] (RApp 3 kInt r) := by
 unfold host_listedEdges at h
 refine Con.of (N := 24) Tryz.func60 rfl rfl rfl fun w0_ fg_ => sr <| p1 rfl 0 rfl (q_box rfl (CellsOf.agg _)) <| p1 rfl 1 rfl (q_box rfl (CellsOf.one rfl)) <| ak rfl <| nx <| ak rfl <| nt ?_
 refine W.seq <| sr <| fd rfl rfl fo29_1 rfl <| ld rfl rfl sh27 <| p1 rfl 9 rfl (q_len rfl elS27) <| mk_ rfl <| nt <| W.block <| W.to (StTo.newNil 3 kInt) <| W.to (StTo.as 5 rfl Imp.nilHd) ?_
 refine W.loop2 (Γ := Value) (fun (g0 : Value) (_ : (List Int)) (x11 : Int) => [(2, PtrA [SlcA kInt a0.fNodes, SlcA kEdge a0.fEdges]), (3, PtrA [SlcA kInt a1]), (5, HdA g0), (10, iA (a0.fEdges.length : Int)), (11, iA x11)]) (fun (g0 : Value) (x5 : (List Int)) (_ : Int) => [SlE 3 g0 kInt x5]) h (.slice none 0 0) (.o4 rfl (.one rfl (.nil _))) rfl (fun rec0 K0 next0 g0 x5 x11 h => ?_)
 unfold host_listedEdges.b0 at h
 refine sr <| p2 rfl 11 rfl 10 rfl (q_int rfl rfl) <| nt <| W.seq ?_
 refine W.condP h rfl (fun hb120 h => ?_) (fun hb120 h => ?_)
 ·refine W.skip <| QN.then_ <| W.seq <| W.block <| sr <| mv rfl rfl <| av rfl rfl <| nt <| W.region <| mv rfl rfl <| mv rfl rfl ?_
  refine p1 rfl 15 rfl (q_lit (kd := kInt) (ps := [(0, .tmp 15)]) (xs := [.tmp 15]) («as» := [iA x11]) (ys := [x11]) rfl rfl el26 rfl gr3 rfl rfl rfl (.cons (CellsOf.one rfl) .nil)) ?_
  obtain ⟨c121, h⟩ := ite_n h
  refine WL.w [0] rfl (Wanted.plain rfl) rfl rfl (.s 14 rfl (.s 16 rfl .nil)) (w_append (kd := kInt) rfl el26 rfl gr3 c121) ?_
  rintro _ _ ⟨v122, rfl, rfl⟩
  refine av rfl rfl <| WL.nil <| QN.block <| QN.weaken (env' := [(5, _), (11, _), (10, _), (3, _), (2, _)]) (.o4 rfl (.one rfl (.nil _))) <| QN.then_ <| W.region ?_
  obtain ⟨c123, h⟩ := ite_n h
  refine pk rfl 11 rfl (q_addR rfl c123) <| mv rfl rfl <| WL.nil ?_
  exact next0 v122 (x5 ++ [x11]) (x11 + 1) _ h (.o4 rfl (.one rfl (.nil _)))
 ·refine W.exit <| QX.then_ <| QX.then_ <| QX.here <| QN.then_ <| sr <| p2 rfl 2 rfl 3 rfl (q_makeFunc (xs := [.tmp 2, .tmp 3]) (L := [PtrA [SlcA kInt a0.fNodes, SlcA kEdge a0.fEdges], PtrA [SlcA kInt a1]]) («as» := (fun (x : Int) => [iA x])) (res := (fun (y : (Int × Int × Int × Int)) => TupA [iA y.1, iA y.2.1, iA y.2.2.1, iA y.2.2.2])) (p := (fun x => host_listedEdges_1 k x a0 a1)) rfl ca105 rfl (fun x y hp => (host_listedEdges_1.con k x a0 a1 y hp))) <| WL.w [] rfl (Wanted.plain rfl) rfl rfl .nil (w_alloc rfl z156 (l := [EqA .nilFunc]) rfl) ?_
  rintro _ _ ⟨b124, rfl, rfl⟩
  refine WL.w0 [0] rfl (Wanted.plain rfl) rfl (.s 7 rfl (.s 19 rfl .nil)) (w_store (L := [FnA Tryz.prog (fun (x : Int) => [iA x]) (fun (y : (Int × Int × Int × Int)) => TupA [iA y.1, iA y.2.1, iA y.2.2.1, iA y.2.2.2]) (fun x => host_listedEdges_1 k x a0 a1)]) rfl sh156 (CellsOf.one rfl) rfl rfl (leB rfl) rfl) ?_
  rintro _ _ ⟨rfl, rfl⟩
  refine WL.nil <| QN.to (StTo.still [0] 7 rfl rfl) <| QN.then_ <| sr <| mv rfl rfl <| p1 rfl 7 rfl (q_makeFunc (xs := [.tmp 7]) (L := [PtrA [FnA Tryz.prog (fun (x : Int) => [iA x]) (fun (y : (Int × Int × Int × Int)) => TupA [iA y.1, iA y.2.1, iA y.2.2.1, iA y.2.2.2]) (fun x => host_listedEdges_1 k x a0 a1)]]) («as» := (fun (x : (Int × Int)) => [iA x.1, iA x.2])) (res := (fun (y : Int) => iA y)) (p := (fun x => host_listedEdges_2 k x.1 x.2 (fun x => host_listedEdges_1 k x a0 a1))) rfl ca107 rfl (fun x y hp => (host_listedEdges_2.con k x.1 x.2 (fun x => host_listedEdges_1 k x a0 a1) y hp))) ?_
  obtain ⟨t125, ht125, h⟩ := bind_s h
  refine WL.w [0] rfl (Wanted.plain rfl) rfl rfl (.s 20 rfl (.s 21 rfl .nil)) (w_callI (f := 106) (xs := [.tmp 20, .tmp 21]) («as» := [HdA g0, FnA Tryz.prog (fun (x : (Int × Int)) => [iA x.1, iA x.2]) (fun (y : Int) => iA y) (fun x => host_listedEdges_2 k x.1 x.2 (fun x => host_listedEdges_1 k x a0 a1))]) rfl ca106 (slices_SortStableFunc_int.con k g0 x5 (fun x => host_listedEdges_2 k x.1 x.2 (fun x => host_listedEdges_1 k x a0 a1)) t125 ht125) rfl (.cons (Imp.id _) (.cons (Imp.id _) .nil))) ?_
  rintro _ _ ⟨rfl, rfl⟩
  refine WL.nil <| QN.weaken (env' := [(5, _)]) (.one rfl (.nil _)) <| QN.then_ <| sr <| mv rfl rfl <| av rfl rfl <| nt <| W.ret ?_
  cases h
  exact QR.r1 rfl rfl (.t rfl) ⟨_, rfl, rfl⟩
end Go.Proofs.YthmdmchmmgmblaaGreat
