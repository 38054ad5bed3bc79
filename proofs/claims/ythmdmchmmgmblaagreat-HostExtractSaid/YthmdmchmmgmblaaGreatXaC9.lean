/- The Go functions compute the pure ones. (Printed by gen.py.) -/
import Derived.Test.YthmdmchmmgmblaaGreatXaC8
namespace Go.Proofs.YthmdmchmmgmblaaGreat
open Go Go.Abs
attribute [local irreducible] Tryz.prog
theorem ref15_Valid.con (k : Nat) (a0 : Types) (a1 : Host) (r : (Int × Int)) (h : ref15_Valid k a0 a1 = some r) : Con Tryz.prog 15 [] [AggA [SlcA kNodeType a0.fNodes, SlcA kEdgeType a0.fEdges], AggA [SlcA kInt a1.fGraph.fNodes, SlcA kEdge a1.fGraph.fEdges, SlcA (kSl kInt) a1.fValues]] (RA (TupA [iA r.1, iA r.2])) := by
 unfold ref15_Valid at h
 refine Con.of (N := 101) Tryz.func15 rfl rfl rfl fun w0_ fg_ => sr <| p1 rfl 0 rfl (q_box rfl (CellsOf.agg _)) <| p1 rfl 1 rfl (q_box rfl (CellsOf.agg _)) <| ak rfl <| ak rfl <| nt <| W.seq <| sr <| lS rfl rfl sh25 rfl rfl ?_
 obtain ⟨t100, ht100, h⟩ := bind_s h
 refine p1 rfl 14 rfl (q_call (f := 50) (A := TupA [EqA (strV t100.1), iA t100.2]) (xs := [.tmp 14]) («as» := [AggA [SlcA kNodeType a0.fNodes, SlcA kEdgeType a0.fEdges]]) rfl ca50 (ref04_Valid.con k a0 t100 ht100) rfl) <| mv rfl rfl <| p1 rfl 13 rfl (q_extract rfl rfl) <| p1 rfl 13 rfl (q_extract rfl rfl) <| av rfl rfl <| av rfl rfl <| WL.nil <| QN.weaken (env' := [(7, _), (3, _), (2, _)]) (.o2 rfl (.one rfl (.nil _))) <| QN.then_ <| sr <| mv rfl rfl <| pk rfl 18 rfl (q_int rfl rfl) ?_
 refine nt ?_
 refine W.condP h rfl (fun hb101 h => ?_) (fun hb101 h => ?_)
 ·refine sr <| mv rfl rfl <| ak rfl <| av rfl rfl <| nt <| W.ret <| QR.then_ ?_
  cases h
  exact QR.f2 rfl rfl (.t rfl) (.t rfl) (.id _)
 ·refine W.skip <| QN.then_ <| W.seq <| sr <| fd rfl rfl fo32_0 rfl <| lS rfl rfl sh29 rfl rfl ?_
  obtain ⟨t102, ht102, h⟩ := bind_s h
  refine p1 rfl 22 rfl (q_call (f := 51) (A := iA t102) (xs := [.tmp 22]) («as» := [AggA [SlcA kInt a1.fGraph.fNodes, SlcA kEdge a1.fGraph.fEdges]]) rfl ca51 (ref05_Valid.con k a1.fGraph t102 ht102) rfl) <| av rfl rfl <| nx <| mv rfl rfl <| pk rfl 24 rfl (q_int rfl rfl) <| WL.nil <| QN.weaken (env' := [(25, _), (8, _), (3, _), (2, _)]) (.o4 rfl (.nil _)) <| QN.then_ ?_
  refine W.condP h rfl (fun hb103 h => ?_) (fun hb103 h => ?_)
  ·refine sr <| mv rfl rfl <| ak rfl <| av rfl rfl <| nt <| W.ret <| QR.then_ ?_
   cases h
   exact QR.f2 rfl rfl (.t rfl) (.t rfl) (.id _)
  ·refine W.skip <| QN.then_ <| W.seq <| sr <| fd rfl rfl fo32_1 rfl <| ld rfl rfl sh30 <| p1 rfl 28 rfl (q_len rfl elS30) <| fd rfl rfl fo32_0 rfl <| fd rfl rfl fo29_0 rfl <| ld rfl rfl sh26 <| p1 rfl 32 rfl (q_len rfl elS26) <| p2 rfl 29 rfl 33 rfl (q_int rfl rfl) ?_
   refine WL.nil <| QN.weaken (env' := [(34, _), (3, _), (2, _)]) (.o2 rfl (.one rfl (.nil _))) <| QN.then_ ?_
   refine W.condP h rfl (fun hb104 h => ?_) (fun hb104 h => ?_)
   ·refine sr <| ak rfl <| ak rfl <| nt <| W.ret <| QR.then_ ?_
    cases h
    exact QR.f2 rfl rfl (.t rfl) (.t rfl) (.id _)
   ·refine W.skip <| QN.then_ <| W.seq <| sr <| ak rfl <| nt <| W.block ?_
    refine W.loop1 (Γ := Unit) (fun (_ : Unit) (x9 : Int) => [(2, PtrA [SlcA kNodeType a0.fNodes, SlcA kEdgeType a0.fEdges]), (3, PtrA [SlcA kInt a1.fGraph.fNodes, SlcA kEdge a1.fGraph.fEdges, SlcA (kSl kInt) a1.fValues]), (9, iA x9)]) (fun (_ : Unit) (_ : Int) => []) h () (.o2 rfl (.one rfl (.nil _))) rfl (fun rec0 K0 next0 _ x9 h => ?_)
    unfold ref15_Valid.b0 at h
    refine W.seq <| sr <| mv rfl rfl <| fd rfl rfl fo32_0 rfl <| fd rfl rfl fo29_0 rfl <| ld rfl rfl sh26 <| p1 rfl 38 rfl (q_len rfl elS26) <| p2 rfl 35 rfl 39 rfl (q_int rfl rfl) <| nt ?_
    refine W.condP h rfl (fun hb219 h => ?_) (fun hb219 h => ?_)
    ·refine W.skip <| QN.then_ <| W.seq <| W.block <| W.seq <| W.drawK [(0, false), (1, false), (2, false), (3, false), (4, false), (5, false), (6, false), (7, false), (8, false), (9, false), (10, false), (11, false), (12, false), (13, false)] [] (bm [0, 0, 2, 6, 0, 30, 62, 0, 128, 0, 896, 1920, 4095, 8191]) mx (by kernel_rfl) <| DK.cons rfl rfl (.p rfl (.s 2 rfl .nil) rfl (q_loadS rfl sh25 (leB rfl) rfl)) <| df rfl rfl rfl fo32_0 rfl <| df rfl rfl rfl fo29_0 rfl <| dl rfl rfl rfl sh26 <| dm rfl rfl rfl ?_
     obtain ⟨c226, h⟩ := ite_n h
     refine DK.cons rfl rfl (.p rfl (.s 46 rfl (.s 47 rfl .nil)) rfl (q_index rfl el26 rfl c226.1 c226.2)) <| dl rfl rfl rfl sh3 <| df rfl rfl rfl fo32_1 rfl <| dl rfl rfl rfl sh30 <| dm rfl rfl rfl ?_
     obtain ⟨c227, h⟩ := ite_n h
     refine DK.cons rfl rfl (.p rfl (.s 51 rfl (.s 52 rfl .nil)) rfl (q_index rfl el30 rfl c227.1 c227.2)) <| dl rfl rfl rfl sh26 ?_
     obtain ⟨t228, ht228, h⟩ := bind_s h
     refine DK.cons rfl rfl (.p rfl (.s 43 rfl (.s 49 rfl (.s 54 rfl .nil))) rfl (q_call (f := 52) (A := iA t228) (xs := [.tmp 43, .tmp 49, .tmp 54]) («as» := [AggA [SlcA kNodeType a0.fNodes, SlcA kEdgeType a0.fEdges], iA (rd a1.fGraph.fNodes x9), SlcA kInt (rd a1.fValues x9)]) rfl ca52 (ref15_node.con k a0 (rd a1.fGraph.fNodes x9) (rd a1.fValues x9) t228 ht228) rfl)) <| DK.cons rfl rfl (.p rfl (.s 55 rfl .nil) rfl (q_assign rfl)) <| DK.nil <| CSteps.nil <| QN.weaken (env' := [(10, _), (9, _), (3, _), (2, _)]) (.o4 rfl (.nil _)) <| QN.then_ <| sr <| mv rfl rfl <| pk rfl 56 rfl (q_int rfl rfl) <| nt ?_
     refine W.condP h rfl (fun hb229 h => ?_) (fun hb229 h => ?_)
     ·refine sr <| mv rfl rfl <| mv rfl rfl <| av rfl rfl <| av rfl rfl <| WL.nil <| QN.weaken (env' := [(5, _), (4, _)]) (.o2 rfl (.nil _)) <| QN.then_ <| W.ret <| QR.block <| QR.then_ <| QR.then_ ?_
      refine QR.block <| QR.then_ ?_
      cases h
      exact QR.f2 rfl rfl (.t rfl) (.t rfl) (.id _)
     ·refine W.skip <| QN.block <| QN.then_ <| W.region <| mv rfl rfl ?_
      obtain ⟨c230, h⟩ := ite_n h
      refine pk rfl 41 rfl (q_addR rfl c230) <| av rfl rfl <| WL.nil ?_
      exact next0 () (x9 + 1) _ h (.o2 rfl (.one rfl (.nil _)))
    ·refine W.exit <| QX.then_ <| QX.then_ <| QX.here <| QN.weaken (env' := [(3, _), (2, _)]) (.o2 rfl (.nil _)) <| QN.then_ <| W.seq <| sr <| ak rfl <| nt <| W.block ?_
     refine W.loop1 (Γ := Unit) (fun (_ : Unit) (x11 : Int) => [(2, PtrA [SlcA kNodeType a0.fNodes, SlcA kEdgeType a0.fEdges]), (3, PtrA [SlcA kInt a1.fGraph.fNodes, SlcA kEdge a1.fGraph.fEdges, SlcA (kSl kInt) a1.fValues]), (11, iA x11)]) (fun (_ : Unit) (_ : Int) => []) h () (.o2 rfl (.one rfl (.nil _))) rfl (fun rec1 K1 next1 _ x11 h => ?_)
     unfold ref15_Valid.b1 at h
     refine W.seq <| sr <| mv rfl rfl <| fd rfl rfl fo32_0 rfl <| fd rfl rfl fo29_1 rfl <| ld rfl rfl sh27 <| p1 rfl 63 rfl (q_len rfl elS27) <| p2 rfl 60 rfl 64 rfl (q_int rfl rfl) <| nt ?_
     refine W.condP h rfl (fun hb261 h => ?_) (fun hb261 h => ?_)
     ·refine W.skip <| QN.then_ <| W.seq <| W.block <| sr <| fd rfl rfl fo32_0 rfl <| fd rfl rfl fo29_1 rfl <| ld rfl rfl sh27 <| mv rfl rfl ?_
      obtain ⟨c262, h⟩ := ite_n h
      refine p2 rfl 70 rfl 71 rfl (q_index rfl el27 rfl c262.1 c262.2) <| lS rfl rfl sh63 rfl rfl <| WL.w [] rfl (Wanted.plain rfl) rfl rfl .nil (w_alloc rfl z63 (l := [iA 0, iA 0, iA 0]) rfl) ?_
      rintro _ _ ⟨b263, rfl, rfl⟩
      refine WL.w0 [0] rfl (Wanted.plain rfl) rfl (.s 12 rfl (.s 73 rfl .nil)) (w_store (L := [iA ((rd a1.fGraph.fEdges x11).fType), iA ((rd a1.fGraph.fEdges x11).fFrom), iA ((rd a1.fGraph.fEdges x11).fTo)]) rfl sh63 (CellsOf.agg _) rfl rfl (leB rfl) rfl) ?_
      rintro _ _ ⟨rfl, rfl⟩
      refine WL.nil <| QN.to (StTo.still [0] 12 rfl rfl) <| QN.weaken (env' := [(12, _), (11, _), (3, _), (2, _)]) (.o4 rfl (.nil _)) <| QN.then_ <| W.seq <| sr <| fd rfl rfl fo63_0 rfl <| ld rfl rfl sh3 <| fd rfl rfl fo25_1 rfl <| ld rfl rfl sh23 <| p1 rfl 77 rfl (q_len rfl elS23) <| p2 rfl 75 rfl 78 rfl (q_int rfl rfl) ?_
      refine nt ?_
      refine W.condP h rfl (fun hb264 h => ?_) (fun hb264 h => ?_)
      ·refine sr <| mv rfl rfl <| av rfl rfl <| ak rfl <| WL.nil <| QN.weaken (env' := [(5, _), (4, _)]) (.o2 rfl (.nil _)) <| QN.then_ <| W.ret <| QR.then_ <| QR.block <| QR.then_ <| QR.then_ ?_
       refine QR.block <| QR.then_ ?_
       cases h
       exact QR.f2 rfl rfl (.t rfl) (.t rfl) (.id _)
      ·refine W.skip <| QN.then_ <| W.seq <| W.drawK [(0, false), (1, false), (2, false), (3, false), (4, false), (5, false), (6, false), (7, false), (8, false), (9, false), (10, false), (11, false), (12, false), (13, false), (14, false), (15, false), (16, false), (17, false), (18, false)] [] (bm [0, 0, 2, 0, 8, 24, 0, 64, 248, 504, 0, 1024, 3072, 0, 8192, 31744, 64512, 131071, 262143]) mx (by kernel_rfl) <| DK.cons rfl rfl (.p rfl (.s 2 rfl .nil) rfl (q_loadS rfl sh25 (leB rfl) rfl)) <| df rfl rfl rfl fo63_0 rfl <| dl rfl rfl rfl sh3 <| df rfl rfl rfl fo32_0 rfl <| df rfl rfl rfl fo29_0 rfl <| dl rfl rfl rfl sh26 <| df rfl rfl rfl fo63_1 rfl <| dl rfl rfl rfl sh3 ?_
       obtain ⟨c271, h⟩ := ite_n h
       refine DK.cons rfl rfl (.p rfl (.s 86 rfl (.s 88 rfl .nil)) rfl (q_index rfl el26 rfl c271.1 c271.2)) <| dl rfl rfl rfl sh3 <| df rfl rfl rfl fo32_0 rfl <| df rfl rfl rfl fo29_0 rfl <| dl rfl rfl rfl sh26 <| df rfl rfl rfl fo63_2 rfl <| dl rfl rfl rfl sh3 ?_
       obtain ⟨c272, h⟩ := ite_n h
       refine DK.cons rfl rfl (.p rfl (.s 93 rfl (.s 95 rfl .nil)) rfl (q_index rfl el26 rfl c272.1 c272.2)) <| dl rfl rfl rfl sh3 ?_
       obtain ⟨t273, ht273, h⟩ := bind_s h
       refine DK.cons rfl rfl (.p rfl (.s 81 rfl (.s 83 rfl (.s 90 rfl (.s 97 rfl .nil)))) rfl (q_call (f := 53) (A := bA t273) (xs := [.tmp 81, .tmp 83, .tmp 90, .tmp 97]) («as» := [AggA [SlcA kNodeType a0.fNodes, SlcA kEdgeType a0.fEdges], iA ((rd a1.fGraph.fEdges x11).fType), iA (rd a1.fGraph.fNodes ((rd a1.fGraph.fEdges x11).fFrom)), iA (rd a1.fGraph.fNodes ((rd a1.fGraph.fEdges x11).fTo))]) rfl ca53 (ref04_Fits.con k a0 ((rd a1.fGraph.fEdges x11).fType) (rd a1.fGraph.fNodes ((rd a1.fGraph.fEdges x11).fFrom)) (rd a1.fGraph.fNodes ((rd a1.fGraph.fEdges x11).fTo)) t273 ht273) rfl)) <| DK.cons rfl rfl (.p rfl (.s 98 rfl .nil) rfl (q_not rfl)) <| DK.nil <| CSteps.nil <| QN.weaken (env' := [(99, _), (11, _), (3, _), (2, _)]) (.o4 rfl (.nil _)) <| QN.then_ ?_
       refine W.condP h rfl (fun hb274 h => ?_) (fun hb274 h => ?_)
       ·refine sr <| mv rfl rfl <| av rfl rfl <| ak rfl <| nt <| W.ret <| QR.block <| QR.then_ <| QR.then_ <| QR.block <| QR.then_ ?_
        cases h
        exact QR.f2 rfl rfl (.t rfl) (.t rfl) (.id _)
       ·refine W.skip <| QN.block <| QN.then_ <| W.region <| mv rfl rfl ?_
        obtain ⟨c275, h⟩ := ite_n h
        refine pk rfl 66 rfl (q_addR rfl c275) <| av rfl rfl <| WL.nil ?_
        exact next1 () (x11 + 1) _ h (.o2 rfl (.one rfl (.nil _)))
     ·refine W.exit <| QX.then_ <| QX.then_ <| QX.here <| QN.weaken (env' := []) (.nil _) <| QN.then_ <| sr <| ak rfl <| ak rfl <| nt <| W.ret ?_
      cases h
      exact QR.f2 rfl rfl (.t rfl) (.t rfl) (.id _)
theorem ref07_ascending.con (k : Nat) (a0 : (List Int)) (a1 : Int) (r : Int) (h : ref07_ascending k a0 a1 = some r) : Con Tryz.prog 164 [] [SlcA kInt a0, iA a1] (RA (iA r)) := by
 unfold ref07_ascending at h
 refine Con.of (N := 39) Tryz.func164 rfl rfl rfl fun w0_ fg_ => sr <| ak rfl <| nt <| W.seq <| sr <| ak rfl <| nt <| W.block ?_
 refine W.loop1 (Γ := Unit) (fun (_ : Unit) (x5 : Int) => [(0, SlcA kInt a0), (1, iA a1), (5, iA x5)]) (fun (_ : Unit) (_ : Int) => []) h () (.o2 rfl (.one rfl (.nil _))) rfl (fun rec0 K0 next0 _ x5 h => ?_)
 unfold ref07_ascending.b0 at h
 refine W.seq <| sr <| mv rfl rfl <| mv rfl rfl <| p1 rfl 7 rfl (q_len rfl elS26) <| p2 rfl 6 rfl 8 rfl (q_int rfl rfl) <| nt ?_
 refine W.condP h rfl (fun hb152 h => ?_) (fun hb152 h => ?_)
 ·refine W.skip <| QN.then_ <| W.seq <| W.block <| W.seq <| W.seq ?_
  refine W.jn1 (Γ := Unit) (fun (_ : Unit) (x24 : Bool) => [(0, SlcA kInt a0), (1, iA a1), (5, iA x5), (24, bA x24)]) (fun (_ : Unit) (_ : Bool) => []) h (fun _ x24 h => ?_) (fun j157 Kj157 h => ?_)
  ·refine QN.then_ ?_
   refine W.condP h rfl (fun hb158 h => ?_) (fun hb158 h => ?_)
   ·refine sr <| ak rfl <| nt <| W.ret <| QR.then_ <| QR.block <| QR.then_ <| QR.then_ <| QR.block <| QR.then_ ?_
    cases h
    exact QR.f1 rfl rfl (.t rfl) (.id _)
   ·refine W.skip <| QN.then_ <| W.seq ?_
    refine W.jn1 (Γ := Unit) (fun (_ : Unit) (x38 : Bool) => [(0, SlcA kInt a0), (1, iA a1), (5, iA x5), (38, bA x38)]) (fun (_ : Unit) (_ : Bool) => []) h (fun _ x38 h => ?_) (fun j168 Kj168 h => ?_)
    ·refine QN.then_ ?_
     refine W.condP h rfl (fun hb169 h => ?_) (fun hb169 h => ?_)
     ·refine sr <| ak rfl <| nt <| W.ret <| QR.block <| QR.then_ <| QR.then_ <| QR.block <| QR.then_ ?_
      cases h
      exact QR.f1 rfl rfl (.t rfl) (.id _)
     ·refine W.skip <| QN.block <| QN.then_ <| W.region <| mv rfl rfl ?_
      obtain ⟨c170, h⟩ := ite_n h
      refine pk rfl 10 rfl (q_addR rfl c170) <| av rfl rfl <| WL.nil ?_
      exact next0 () (x5 + 1) _ h (.o2 rfl (.one rfl (.nil _)))
    ·refine W.drawK [(0, false), (1, false), (2, false), (3, false), (4, false), (5, false), (6, false), (7, false), (8, false), (9, false), (10, false), (11, false), (12, false), (13, false)] [] (bm [0, 1, 3, 7, 7, 31, 63, 7, 7, 263, 903, 1927, 4095, 8191]) mx (by kernel_rfl) <| dm rfl rfl rfl <| DK.cons rfl rfl (.p rfl (.s 25 rfl (.k .nil)) rfl (q_int rfl rfl)) <| dm rfl rfl rfl ?_
     rcases bif_s h with ⟨hb171, h⟩ | ⟨hb171, h⟩
     ·refine DK.cons rfl rfl (.gp rfl rfl rfl hb171 (.s 0 rfl .nil) rfl (q_move rfl)) <| DK.cons rfl rfl (.gp rfl rfl rfl hb171 (.s 5 rfl .nil) rfl (q_move rfl)) ?_
      obtain ⟨c172, h⟩ := ite_n h
      refine DK.cons rfl rfl (.gp rfl rfl rfl hb171 (.s 28 rfl (.s 29 rfl .nil)) rfl (q_index rfl el26 rfl c172.1 c172.2)) <| DK.cons rfl rfl (.gp rfl rfl rfl hb171 (.s 30 rfl .nil) rfl (q_load rfl sh3)) <| DK.cons rfl rfl (.gp rfl rfl rfl hb171 (.s 0 rfl .nil) rfl (q_move rfl)) <| DK.cons rfl rfl (.gp rfl rfl rfl hb171 (.s 5 rfl .nil) rfl (q_move rfl)) ?_
      obtain ⟨c173, h⟩ := ite_n h
      refine DK.cons rfl rfl (.gp rfl rfl rfl hb171 (.s 33 rfl (.k .nil)) rfl (q_subR rfl c173)) ?_
      obtain ⟨c174, h⟩ := ite_n h
      refine DK.cons rfl rfl (.gp rfl rfl rfl hb171 (.s 32 rfl (.s 34 rfl .nil)) rfl (q_index rfl el26 rfl c174.1 c174.2)) <| DK.cons rfl rfl (.gp rfl rfl rfl hb171 (.s 35 rfl .nil) rfl (q_load rfl sh3)) <| DK.cons rfl rfl (.gp rfl rfl rfl hb171 (.s 31 rfl (.s 36 rfl .nil)) rfl (q_int rfl rfl)) <| DK.cons rfl rfl (.p rfl (.s 27 rfl (.s 37 rfl .nil)) rfl (q_pickT rfl hb171)) <| DK.nil <| CSteps.nil ?_
      exact QN.weaken (.o4 rfl (.nil _)) (Kj168 () (decide ((rd a0 x5) ≤ (rd a0 (x5 - 1)))) h)
     ·refine dx rfl rfl rfl hb171 <| dx rfl rfl rfl hb171 <| dx rfl rfl rfl hb171 <| dx rfl rfl rfl hb171 <| dx rfl rfl rfl hb171 <| dx rfl rfl rfl hb171 <| dx rfl rfl rfl hb171 <| dx rfl rfl rfl hb171 <| dx rfl rfl rfl hb171 <| dx rfl rfl rfl hb171 <| DK.cons rfl rfl (.p rfl (.s 27 rfl (.k .nil)) rfl (q_pickF rfl hb171)) <| DK.nil <| CSteps.nil ?_
      exact QN.weaken (.o4 rfl (.nil _)) (Kj168 () false h)
  ·refine W.region <| mv rfl rfl <| mv rfl rfl ?_
   obtain ⟨c175, h⟩ := ite_n h
   refine p2 rfl 12 rfl 13 rfl (q_index rfl el26 rfl c175.1 c175.2) <| ld rfl rfl sh3 <| pk rfl 15 rfl (q_int rfl rfl) <| mv rfl rfl ?_
   rcases bif_s h with ⟨hb176, h⟩ | ⟨hb176, h⟩
   ·refine sk rfl rfl rfl hb176 <| sk rfl rfl rfl hb176 <| sk rfl rfl rfl hb176 <| sk rfl rfl rfl hb176 <| sk rfl rfl rfl hb176 <| sk rfl rfl rfl hb176 <| pk rfl 17 rfl (q_pickT rfl hb176) <| WL.nil ?_
    exact QN.weaken (.o4 rfl (.nil _)) (Kj157 () true h)
   ·refine wm rfl rfl rfl hb176 rfl rfl <| wm rfl rfl rfl hb176 rfl rfl ?_
    obtain ⟨c177, h⟩ := ite_n h
    refine wq rfl rfl rfl hb176 (.s 18 rfl (.s 19 rfl .nil)) (q_index rfl el26 rfl c177.1 c177.2).o <| wl rfl rfl rfl hb176 rfl rfl sh3 <| wm rfl rfl rfl hb176 rfl rfl <| wq rfl rfl rfl hb176 (.s 21 rfl (.s 22 rfl .nil)) (q_int rfl rfl).o <| p2 rfl 17 rfl 23 rfl (q_pickF rfl hb176) <| WL.nil ?_
    exact QN.weaken (.o4 rfl (.nil _)) (Kj157 () (decide ((rd a0 x5) ≥ a1)) h)
 ·refine W.exit <| QX.then_ <| QX.then_ <| QX.here <| QN.weaken (env' := []) (.nil _) <| QN.then_ <| sr <| ak rfl <| nt <| W.ret ?_
  cases h
  exact QR.f1 rfl rfl (.t rfl) (.id _)
theorem ref07_has.con (k : Nat) (a0 : (List Int)) (a1 : Int) (r : Bool) (h : ref07_has k a0 a1 = some r) : Con Tryz.prog 165 [] [SlcA kInt a0, iA a1] (RA (bA r)) := by
 unfold ref07_has at h
 refine Con.of (N := 18) Tryz.func165 rfl rfl rfl fun w0_ fg_ => sr <| ak rfl <| nt <| W.seq <| sr <| ak rfl <| nt <| W.block ?_
 refine W.loop1 (Γ := Unit) (fun (_ : Unit) (x5 : Int) => [(0, SlcA kInt a0), (1, iA a1), (5, iA x5)]) (fun (_ : Unit) (_ : Int) => []) h () (.o2 rfl (.one rfl (.nil _))) rfl (fun rec0 K0 next0 _ x5 h => ?_)
 unfold ref07_has.b0 at h
 refine W.seq <| sr <| mv rfl rfl <| mv rfl rfl <| p1 rfl 7 rfl (q_len rfl elS26) <| p2 rfl 6 rfl 8 rfl (q_int rfl rfl) <| nt ?_
 refine W.condP h rfl (fun hb108 h => ?_) (fun hb108 h => ?_)
 ·refine W.skip <| QN.then_ <| W.seq <| W.block <| sr <| mv rfl rfl <| mv rfl rfl ?_
  obtain ⟨c109, h⟩ := ite_n h
  refine p2 rfl 12 rfl 13 rfl (q_index rfl el26 rfl c109.1 c109.2) <| ld rfl rfl sh3 <| mv rfl rfl <| p2 rfl 15 rfl 16 rfl (q_int rfl rfl) <| WL.nil <| QN.weaken (env' := [(17, _), (5, _), (1, _), (0, _)]) (.o4 rfl (.nil _)) <| QN.then_ ?_
  refine W.condP h rfl (fun hb110 h => ?_) (fun hb110 h => ?_)
  ·refine sr <| ak rfl <| nt <| W.ret <| QR.block <| QR.then_ <| QR.then_ <| QR.block <| QR.then_ ?_
   cases h
   exact QR.f1 rfl rfl (.t rfl) (.id _)
  ·refine W.skip <| QN.block <| QN.then_ <| W.region <| mv rfl rfl ?_
   obtain ⟨c111, h⟩ := ite_n h
   refine pk rfl 10 rfl (q_addR rfl c111) <| av rfl rfl <| WL.nil ?_
   exact next0 () (x5 + 1) _ h (.o2 rfl (.one rfl (.nil _)))
 ·refine W.exit <| QX.then_ <| QX.then_ <| QX.here <| QN.weaken (env' := []) (.nil _) <| QN.then_ <| sr <| ak rfl <| nt <| W.ret ?_
  cases h
  exact QR.f1 rfl rfl (.t rfl) (.id _)
theorem ref07_Right.con (k : Nat) (a0 : Graph) (a1 : Part) (r : Int) (h : ref07_Right k a0 a1 = some r) : Con Tryz.prog 148 [] [AggA [SlcA kInt a0.fNodes, SlcA kEdge a0.fEdges], AggA [SlcA kInt a1.fNodes, SlcA kInt a1.fEdges]] (RA (iA r)) := by
 unfold ref07_Right at h
 refine Con.of (N := 57) Tryz.func148 rfl rfl rfl fun w0_ fg_ => sr <| p1 rfl 0 rfl (q_box rfl (CellsOf.agg _)) <| p1 rfl 1 rfl (q_box rfl (CellsOf.agg _)) <| ak rfl <| nt <| W.seq <| sr <| fd rfl rfl fo87_0 rfl <| ld rfl rfl sh26 ?_
 refine fd rfl rfl fo29_0 rfl <| ld rfl rfl sh26 <| p1 rfl 12 rfl (q_len rfl elS26) ?_
 obtain ⟨t100, ht100, h⟩ := bind_s h
 refine p2 rfl 10 rfl 13 rfl (q_call (f := 164) (A := iA t100) (xs := [.tmp 10, .tmp 13]) («as» := [SlcA kInt a1.fNodes, iA (a0.fNodes.length : Int)]) rfl ca164 (ref07_ascending.con k a1.fNodes (a0.fNodes.length : Int) t100 ht100) rfl) <| av rfl rfl <| WL.nil <| QN.weaken (env' := [(5, _), (3, _), (2, _)]) (.o2 rfl (.one rfl (.nil _))) <| QN.then_ <| sr <| mv rfl rfl <| pk rfl 15 rfl (q_int rfl rfl) <| nt ?_
 refine W.condP h rfl (fun hb101 h => ?_) (fun hb101 h => ?_)
 ·refine sr <| mv rfl rfl <| av rfl rfl <| nt <| W.ret <| QR.then_ ?_
  cases h
  exact QR.f1 rfl rfl (.t rfl) (.id _)
 ·refine W.skip <| QN.then_ <| W.seq <| sr <| fd rfl rfl fo87_1 rfl <| ld rfl rfl sh26 <| fd rfl rfl fo29_1 rfl <| ld rfl rfl sh27 <| p1 rfl 21 rfl (q_len rfl elS27) ?_
  obtain ⟨t102, ht102, h⟩ := bind_s h
  refine p2 rfl 19 rfl 22 rfl (q_call (f := 164) (A := iA t102) (xs := [.tmp 19, .tmp 22]) («as» := [SlcA kInt a1.fEdges, iA (a0.fEdges.length : Int)]) rfl ca164 (ref07_ascending.con k a1.fEdges (a0.fEdges.length : Int) t102 ht102) rfl) <| av rfl rfl <| WL.nil <| QN.weaken (env' := [(6, _), (3, _), (2, _)]) (.o2 rfl (.one rfl (.nil _))) <| QN.then_ <| sr <| mv rfl rfl <| pk rfl 24 rfl (q_int rfl rfl) <| nt ?_
  refine W.condP h rfl (fun hb103 h => ?_) (fun hb103 h => ?_)
  ·refine sr <| mv rfl rfl <| av rfl rfl <| nt <| W.ret <| QR.then_ ?_
   cases h
   exact QR.f1 rfl rfl (.t rfl) (.id _)
  ·refine W.skip <| QN.then_ <| W.seq <| sr <| ak rfl <| nt <| W.block ?_
   refine W.loop1 (Γ := Unit) (fun (_ : Unit) (x7 : Int) => [(2, PtrA [SlcA kInt a0.fNodes, SlcA kEdge a0.fEdges]), (3, PtrA [SlcA kInt a1.fNodes, SlcA kInt a1.fEdges]), (7, iA x7)]) (fun (_ : Unit) (_ : Int) => []) h () (.o2 rfl (.one rfl (.nil _))) rfl (fun rec0 K0 next0 _ x7 h => ?_)
   unfold ref07_Right.b0 at h
   refine W.seq <| sr <| mv rfl rfl <| fd rfl rfl fo87_1 rfl <| ld rfl rfl sh26 <| p1 rfl 29 rfl (q_len rfl elS26) <| p2 rfl 27 rfl 30 rfl (q_int rfl rfl) <| nt ?_
   refine W.condP h rfl (fun hb144 h => ?_) (fun hb144 h => ?_)
   ·refine W.skip <| QN.then_ <| W.seq <| W.block <| W.seq <| W.drawK [(0, false), (1, false), (2, false), (3, false), (4, false), (5, false), (6, false), (7, false), (8, false)] [9, 10] (bm [0, 1, 0, 4, 0, 28, 60, 127, 255, 0, 1023]) mx (by kernel_rfl) <| df rfl rfl rfl fo29_1 rfl <| dl rfl rfl rfl sh27 <| df rfl rfl rfl fo87_1 rfl <| dl rfl rfl rfl sh26 <| dm rfl rfl rfl ?_
    obtain ⟨c151, h⟩ := ite_n h
    refine DK.cons rfl rfl (.p rfl (.s 37 rfl (.s 38 rfl .nil)) rfl (q_index rfl el26 rfl c151.1 c151.2)) <| dl rfl rfl rfl sh3 ?_
    obtain ⟨c152, h⟩ := ite_n h
    refine DK.cons rfl rfl (.p rfl (.s 35 rfl (.s 40 rfl .nil)) rfl (q_index rfl el27 rfl c152.1 c152.2)) <| DK.cons rfl rfl (.p rfl (.s 41 rfl .nil) rfl (q_loadS rfl sh63 (leB rfl) rfl)) <| DK.nil <| CSteps.w [] rfl rfl rfl rfl .nil rfl (w_alloc rfl z63 (l := [iA 0, iA 0, iA 0]) rfl) ?_
    rintro _ _ ⟨b153, rfl, rfl⟩
    refine CSteps.w0 [0] rfl rfl rfl (.s 8 rfl (.s 42 rfl .nil)) rfl (w_store (L := [iA ((rd a0.fEdges (rd a1.fEdges x7)).fType), iA ((rd a0.fEdges (rd a1.fEdges x7)).fFrom), iA ((rd a0.fEdges (rd a1.fEdges x7)).fTo)]) rfl sh63 (CellsOf.agg _) rfl rfl (leB rfl) rfl) ?_
    rintro _ _ ⟨rfl, rfl⟩
    refine CSteps.nil <| QN.to (StTo.still [0] 8 rfl rfl) <| QN.weaken (env' := [(8, _), (7, _), (3, _), (2, _)]) (.o4 rfl (.nil _)) <| QN.then_ <| W.seq ?_
    refine W.jn1 (Γ := Unit) (fun (_ : Unit) (x56 : Bool) => [(2, PtrA [SlcA kInt a0.fNodes, SlcA kEdge a0.fEdges]), (3, PtrA [SlcA kInt a1.fNodes, SlcA kInt a1.fEdges]), (7, iA x7), (56, bA x56)]) (fun (_ : Unit) (_ : Bool) => []) h (fun _ x56 h => ?_) (fun j158 Kj158 h => ?_)
    ·refine QN.then_ ?_
     refine W.condP h rfl (fun hb159 h => ?_) (fun hb159 h => ?_)
     ·refine sr <| ak rfl <| nt <| W.ret <| QR.block <| QR.then_ <| QR.then_ <| QR.block <| QR.then_ ?_
      cases h
      exact QR.f1 rfl rfl (.t rfl) (.id _)
     ·refine W.skip <| QN.block <| QN.then_ <| W.region <| mv rfl rfl ?_
      obtain ⟨c160, h⟩ := ite_n h
      refine pk rfl 32 rfl (q_addR rfl c160) <| av rfl rfl <| WL.nil ?_
      exact next0 () (x7 + 1) _ h (.o2 rfl (.one rfl (.nil _)))
    ·refine W.region <| fd rfl rfl fo87_0 rfl <| ld rfl rfl sh26 <| fd rfl rfl fo63_1 rfl <| ld rfl rfl sh3 ?_
     obtain ⟨t161, ht161, h⟩ := bind_s h
     refine p2 rfl 44 rfl 46 rfl (q_call (f := 165) (A := bA t161) (xs := [.tmp 44, .tmp 46]) («as» := [SlcA kInt a1.fNodes, iA ((rd a0.fEdges (rd a1.fEdges x7)).fFrom)]) rfl ca165 (ref07_has.con k a1.fNodes ((rd a0.fEdges (rd a1.fEdges x7)).fFrom) t161 ht161) rfl) <| p1 rfl 47 rfl (q_not rfl) <| mv rfl rfl ?_
     rcases bif_s h with ⟨hb162, h⟩ | ⟨hb162, h⟩
     ·refine sk rfl rfl rfl hb162 <| sk rfl rfl rfl hb162 <| sk rfl rfl rfl hb162 <| sk rfl rfl rfl hb162 <| sk rfl rfl rfl hb162 <| sk rfl rfl rfl hb162 <| pk rfl 49 rfl (q_pickT rfl hb162) <| WL.nil ?_
      exact QN.weaken (.o4 rfl (.nil _)) (Kj158 () true h)
     ·refine wf rfl rfl rfl hb162 rfl rfl fo87_0 rfl <| wl rfl rfl rfl hb162 rfl rfl sh26 <| wf rfl rfl rfl hb162 rfl rfl fo63_2 rfl <| wl rfl rfl rfl hb162 rfl rfl sh3 ?_
      obtain ⟨t163, ht163, h⟩ := bind_s h
      refine wq rfl rfl rfl hb162 (.s 51 rfl (.s 53 rfl .nil)) (q_call (f := 165) (A := bA t163) (xs := [.tmp 51, .tmp 53]) («as» := [SlcA kInt a1.fNodes, iA ((rd a0.fEdges (rd a1.fEdges x7)).fTo)]) rfl ca165 (ref07_has.con k a1.fNodes ((rd a0.fEdges (rd a1.fEdges x7)).fTo) t163 ht163) rfl).o <| wq rfl rfl rfl hb162 (.s 54 rfl .nil) (q_not rfl).o <| p2 rfl 49 rfl 55 rfl (q_pickF rfl hb162) <| WL.nil ?_
      exact QN.weaken (.o4 rfl (.nil _)) (Kj158 () (!t163) h)
   ·refine W.exit <| QX.then_ <| QX.then_ <| QX.here <| QN.weaken (env' := []) (.nil _) <| QN.then_ <| sr <| ak rfl <| nt <| W.ret ?_
    cases h
    exact QR.f1 rfl rfl (.t rfl) (.id _)
theorem ref07_Valid.con (k : Nat) (a0 : Graph) (a1 : Part) (r : Int) (h : ref07_Valid k a0 a1 = some r) : Con Tryz.prog 123 [] [AggA [SlcA kInt a0.fNodes, SlcA kEdge a0.fEdges], AggA [SlcA kInt a1.fNodes, SlcA kInt a1.fEdges]] (RA (iA r)) := by
 unfold ref07_Valid at h
 refine Con.of (N := 14) Tryz.func123 rfl rfl rfl fun w0_ fg_ => sr <| p1 rfl 0 rfl (q_box rfl (CellsOf.agg _)) <| p1 rfl 1 rfl (q_box rfl (CellsOf.agg _)) <| ak rfl <| nt <| W.seq <| sr <| lS rfl rfl sh29 rfl rfl ?_
 obtain ⟨t100, ht100, h⟩ := bind_s h
 refine p1 rfl 6 rfl (q_call (f := 51) (A := iA t100) (xs := [.tmp 6]) («as» := [AggA [SlcA kInt a0.fNodes, SlcA kEdge a0.fEdges]]) rfl ca51 (ref05_Valid.con k a0 t100 ht100) rfl) <| av rfl rfl <| nx <| mv rfl rfl <| pk rfl 8 rfl (q_int rfl rfl) <| nt ?_
 refine W.condP h rfl (fun hb101 h => ?_) (fun hb101 h => ?_)
 ·refine sr <| mv rfl rfl <| av rfl rfl <| WL.nil <| QN.weaken (env' := [(4, _)]) (.one rfl (.nil _)) <| QN.then_ <| W.ret <| QR.then_ ?_
  cases h
  exact QR.f1 rfl rfl (.t rfl) (.id _)
 ·refine W.skip <| QN.weaken (env' := [(3, _), (2, _)]) (.o2 rfl (.nil _)) <| QN.then_ <| sr <| lS rfl rfl sh29 rfl rfl <| lS rfl rfl sh87 rfl rfl ?_
  obtain ⟨t102, ht102, h⟩ := bind_s h
  refine p2 rfl 11 rfl 12 rfl (q_call (f := 148) (A := iA t102) (xs := [.tmp 11, .tmp 12]) («as» := [AggA [SlcA kInt a0.fNodes, SlcA kEdge a0.fEdges], AggA [SlcA kInt a1.fNodes, SlcA kInt a1.fEdges]]) rfl ca148 (ref07_Right.con k a0 a1 t102 ht102) rfl) <| av rfl rfl <| nt <| W.ret ?_
  cases h
  exact QR.f1 rfl rfl (.t rfl) (.id _)
theorem ref07_index.con (k : Nat) (a0 : (List Int)) (a1 : Int) (r : Int) (h : ref07_index k a0 a1 = some r) : Con Tryz.prog 124 [] [SlcA kInt a0, iA a1] (RA (iA r)) := by
 unfold ref07_index at h
 refine Con.of (N := 19) Tryz.func124 rfl rfl rfl fun w0_ fg_ => sr <| ak rfl <| nt <| W.seq <| sr <| ak rfl <| nt <| W.block ?_
 refine W.loop1 (Γ := Unit) (fun (_ : Unit) (x5 : Int) => [(0, SlcA kInt a0), (1, iA a1), (5, iA x5)]) (fun (_ : Unit) (_ : Int) => []) h () (.o2 rfl (.one rfl (.nil _))) rfl (fun rec0 K0 next0 _ x5 h => ?_)
 unfold ref07_index.b0 at h
 refine W.seq <| sr <| mv rfl rfl <| mv rfl rfl <| p1 rfl 7 rfl (q_len rfl elS26) <| p2 rfl 6 rfl 8 rfl (q_int rfl rfl) <| nt ?_
 refine W.condP h rfl (fun hb108 h => ?_) (fun hb108 h => ?_)
 ·refine W.skip <| QN.then_ <| W.seq <| W.block <| sr <| mv rfl rfl <| mv rfl rfl ?_
  obtain ⟨c109, h⟩ := ite_n h
  refine p2 rfl 12 rfl 13 rfl (q_index rfl el26 rfl c109.1 c109.2) <| ld rfl rfl sh3 <| mv rfl rfl <| p2 rfl 15 rfl 16 rfl (q_int rfl rfl) <| WL.nil <| QN.weaken (env' := [(17, _), (5, _), (1, _), (0, _)]) (.o4 rfl (.nil _)) <| QN.then_ ?_
  refine W.condP h rfl (fun hb110 h => ?_) (fun hb110 h => ?_)
  ·refine sr <| mv rfl rfl <| av rfl rfl <| nt <| W.ret <| QR.block <| QR.then_ <| QR.then_ <| QR.block <| QR.then_ ?_
   cases h
   exact QR.f1 rfl rfl (.t rfl) (.id _)
  ·refine W.skip <| QN.block <| QN.then_ <| W.region <| mv rfl rfl ?_
   obtain ⟨c111, h⟩ := ite_n h
   refine pk rfl 10 rfl (q_addR rfl c111) <| av rfl rfl <| WL.nil ?_
   exact next0 () (x5 + 1) _ h (.o2 rfl (.one rfl (.nil _)))
 ·refine W.exit <| QX.then_ <| QX.then_ <| QX.here <| QN.weaken (env' := []) (.nil _) <| QN.then_ <| sr <| ak rfl <| nt <| W.ret ?_
  cases h
  exact QR.f1 rfl rfl (.t rfl) (.id _)
theorem ref07_Extract.con (k : Nat) (a0 : Graph) (a1 : Part) (r : (Graph × Morphism × Int)) (h : ref07_Extract k a0 a1 = some r) : Con Tryz.prog 84 [] [AggA [SlcA kInt a0.fNodes, SlcA kEdge a0.fEdges], AggA [SlcA kInt a1.fNodes, SlcA kInt a1.fEdges]] (RA (TupA [AggA [SlcA kInt r.1.fNodes, SlcA kEdge r.1.fEdges], AggA [SlcA kInt r.2.1.fNodes, SlcA kInt r.2.1.fEdges], iA r.2.2])) := by
 unfold ref07_Extract at h
 refine Con.of (N := 85) Tryz.func84 rfl rfl rfl fun w0_ fg_ => sr <| p1 rfl 0 rfl (q_box rfl (CellsOf.agg _)) <| p1 rfl 1 rfl (q_box rfl (CellsOf.agg _)) <| WL.w [] rfl (Wanted.plain rfl) rfl rfl .nil (w_alloc rfl z29 (l := [EqA (.slice none 0 0), EqA (.slice none 0 0)]) rfl) ?_
 rintro _ _ ⟨b100, rfl, rfl⟩
 refine WL.w [] rfl (Wanted.plain rfl) rfl rfl .nil (w_alloc rfl z47 (l := [EqA (.slice none 0 0), EqA (.slice none 0 0)]) rfl) ?_
 rintro _ _ ⟨b101, rfl, rfl⟩
 refine ak rfl <| nt <| W.seq <| sr <| lS rfl rfl sh29 rfl rfl <| lS rfl rfl sh87 rfl rfl ?_
 obtain ⟨t102, ht102, h⟩ := bind_s h
 refine p2 rfl 12 rfl 13 rfl (q_call (f := 123) (A := iA t102) (xs := [.tmp 12, .tmp 13]) («as» := [AggA [SlcA kInt a0.fNodes, SlcA kEdge a0.fEdges], AggA [SlcA kInt a1.fNodes, SlcA kInt a1.fEdges]]) rfl ca123 (ref07_Valid.con k a0 a1 t102 ht102) rfl) <| av rfl rfl <| nx <| mv rfl rfl <| pk rfl 15 rfl (q_int rfl rfl) <| WL.nil <| QN.weaken (env' := [(16, _), (7, _), (5, _), (4, _), (3, _), (2, _)]) (.o4 rfl (.o2 rfl (.nil _))) <| QN.then_ ?_
 refine W.condP h rfl (fun hb103 h => ?_) (fun hb103 h => ?_)
 ·refine sr <| WL.p rfl rfl rfl .nil (q_build (is := []) (xs := []) (L := [EqA (.slice none 0 0), EqA (.slice none 0 0)]) rfl rfl z29 pl29 rfl rfl .nil rfl) <| WL.p rfl rfl rfl .nil (q_build (is := []) (xs := []) (L := [EqA (.slice none 0 0), EqA (.slice none 0 0)]) rfl rfl z47 pl47 rfl rfl .nil rfl) <| mv rfl rfl <| WL.w0 [1] rfl (Wanted.plain rfl) rfl (.s 4 rfl (.s 17 rfl .nil)) (w_store (L := [EqA (.slice none 0 0), EqA (.slice none 0 0)]) rfl sh29 (CellsOf.agg _) rfl rfl (leB rfl) rfl) ?_
  rintro _ _ ⟨rfl, rfl⟩
  refine WL.w0 [1] rfl (Wanted.plain rfl) rfl (.s 5 rfl (.s 18 rfl .nil)) (w_store (L := [EqA (.slice none 0 0), EqA (.slice none 0 0)]) rfl sh47 (CellsOf.agg _) rfl rfl (leB rfl) rfl) ?_
  rintro _ _ ⟨rfl, rfl⟩
  refine av rfl rfl <| WL.nil <| QN.weaken (env' := [(6, _), (5, _), (4, _)]) (.o2 rfl (.one rfl (.nil _))) <| QN.then_ <| W.ret <| QR.then_ ?_
  cases h
  exact QR.f3 rfl rfl (.cs (i := 1) rfl sh29 rfl rfl) (.cs (i := 0) rfl sh47 rfl rfl) (.t rfl) (.imp (Imp.tup (.cons (Imp.agg (.cons (Imp.nil kInt) (.cons (Imp.nil kEdge) .nil))) (.cons (Imp.agg (.cons (Imp.nil kInt) (.cons (Imp.nil kInt) .nil))) (.cons (Imp.id _) .nil)))))
 ·refine W.skip <| QN.then_ <| sr <| WL.w [] rfl (Wanted.plain rfl) rfl rfl .nil (w_alloc rfl z29 (l := [EqA (.slice none 0 0), EqA (.slice none 0 0)]) rfl) ?_
  rintro _ _ ⟨b104, rfl, rfl⟩
  refine nt <| W.seq <| sr <| ak rfl <| nt <| W.block <| W.to (StTo.boxImp [0] rfl (.cons Imp.nilHd (.cons (Imp.id _) .nil))) <| W.to (StTo.newNil 3 kInt) <| W.order [3, 2, 1, 0] rfl ?_
  refine W.loop2 (Γ := Value) (fun (_ : Value) (_ : (List Int)) (x9 : Int) => [(2, PtrA [SlcA kInt a0.fNodes, SlcA kEdge a0.fEdges]), (3, PtrA [SlcA kInt a1.fNodes, SlcA kInt a1.fEdges]), (4, EqA (.pointer (some ⟨b100, 0, none⟩))), (5, EqA (.pointer (some ⟨b101, 0, none⟩))), (8, EqA (.pointer (some ⟨b104, 0, none⟩))), (9, iA x9)]) (fun (g0 : Value) (y0 : (List Int)) (_ : Int) => [BoxE b100 [EqA (.slice none 0 0), EqA (.slice none 0 0)], BoxE b101 [EqA (.slice none 0 0), EqA (.slice none 0 0)], BoxE b104 [HdA g0, EqA (.slice none 0 0)], SlE 3 g0 kInt y0]) h (.slice none 0 0) (.o4 rfl (.o2 rfl (.nil _))) rfl (fun rec0 K0 next0 g0 y0 x9 h => ?_)
  unfold ref07_Extract.b0 at h
  refine W.seq <| sr <| mv rfl rfl <| fd rfl rfl fo87_0 rfl <| ld rfl rfl sh26 <| p1 rfl 22 rfl (q_len rfl elS26) <| p2 rfl 20 rfl 23 rfl (q_int rfl rfl) <| nt ?_
  refine W.condP h rfl (fun hb328 h => ?_) (fun hb328 h => ?_)
  ·refine W.skip <| QN.then_ <| W.seq <| W.block <| W.drawK [(0, false), (1, true), (2, false), (3, false), (4, false), (5, false), (6, false), (7, false), (8, false), (9, false), (10, false), (11, false)] [12, 13, 14] (bm [0, 1, 0, 4, 0, 16, 0, 112, 240, 508, 1020, 2044, 4095, 8191, 16383]) mx (by kernel_rfl) <| DK.cons rfl rfl (.p rfl (.s 8 rfl .nil) rfl (q_fieldP rfl fo29_0)) <| DK.cons rfl rfl (.o rfl (.s 27 rfl .nil) rfl (q_loadB rfl sh26 (i := 2) rfl rfl)) <| df rfl rfl rfl fo29_0 rfl <| dl rfl rfl rfl sh26 <| df rfl rfl rfl fo87_0 rfl <| dl rfl rfl rfl sh26 <| dm rfl rfl rfl ?_
   obtain ⟨c337, h⟩ := ite_n h
   refine DK.cons rfl rfl (.p rfl (.s 32 rfl (.s 33 rfl .nil)) rfl (q_index rfl el26 rfl c337.1 c337.2)) <| dl rfl rfl rfl sh3 ?_
   obtain ⟨c338, h⟩ := ite_n h
   refine DK.cons rfl rfl (.p rfl (.s 30 rfl (.s 35 rfl .nil)) rfl (q_index rfl el26 rfl c338.1 c338.2)) <| dl rfl rfl rfl sh3 <| DK.cons rfl rfl (.p rfl (.s 37 rfl .nil) rfl (q_lit (kd := kInt) (ps := [(0, .tmp 37)]) (xs := [.tmp 37]) («as» := [iA (rd a0.fNodes (rd a1.fNodes x9))]) (ys := [(rd a0.fNodes (rd a1.fNodes x9))]) rfl rfl el26 rfl gr3 rfl rfl rfl (.cons (CellsOf.one rfl) .nil))) ?_
   obtain ⟨c339, h⟩ := ite_n h
   refine DK.nil <| CSteps.w [3] rfl rfl rfl rfl (.s 28 rfl (.s 38 rfl .nil)) rfl (w_append (kd := kInt) rfl el26 rfl gr3 c339) ?_
   rintro _ _ ⟨v340, rfl, rfl⟩
   refine CSteps.p rfl rfl rfl (.s 8 rfl .nil) rfl (q_fieldP rfl fo29_0) <| CSteps.w0 [3] rfl rfl rfl (.s 40 rfl (.s 39 rfl .nil)) rfl (w_store (L := [HdA v340, EqA (.slice none 0 0)]) rfl sh26 (CellsOf.one rfl) rfl rfl (leB rfl) rfl) ?_
   rintro _ _ ⟨rfl, rfl⟩
   refine CSteps.nil <| QN.block <| QN.weaken (env' := [(9, _), (8, _), (5, _), (4, _), (3, _), (2, _)]) (.o4 rfl (.o2 rfl (.nil _))) <| QN.then_ <| W.region <| mv rfl rfl ?_
   obtain ⟨c341, h⟩ := ite_n h
   refine pk rfl 25 rfl (q_addR rfl c341) <| av rfl rfl <| WL.nil <| QN.order [2, 2, 0, 0] rfl ?_
   exact next0 v340 (y0 ++ [(rd a0.fNodes (rd a1.fNodes x9))]) (x9 + 1) _ h (.o4 rfl (.o2 rfl (.nil _)))
  ·refine W.exit <| QX.then_ <| QX.then_ <| QX.here <| QN.then_ <| W.seq <| sr <| ak rfl <| nt <| W.block <| W.to (StTo.boxImp [2] rfl (.cons (Imp.id _) (.cons Imp.nilHd .nil))) ?_
   refine W.to (StTo.newNil 63 kEdge) <| W.order [2, 2, 1, 1, 0] rfl ?_
   refine W.loop2 (Γ := Value) (fun (_ : Value) (_ : (List Edge)) (x10 : Int) => [(2, PtrA [SlcA kInt a0.fNodes, SlcA kEdge a0.fEdges]), (3, PtrA [SlcA kInt a1.fNodes, SlcA kInt a1.fEdges]), (4, EqA (.pointer (some ⟨b100, 0, none⟩))), (5, EqA (.pointer (some ⟨b101, 0, none⟩))), (8, EqA (.pointer (some ⟨b104, 0, none⟩))), (10, iA x10)]) (fun (g1 : Value) (y1 : (List Edge)) (_ : Int) => [BoxE b100 [EqA (.slice none 0 0), EqA (.slice none 0 0)], BoxE b101 [EqA (.slice none 0 0), EqA (.slice none 0 0)], BoxE b104 [HdA g0, HdA g1], SlE 3 g0 kInt y0, SlE 63 g1 kEdge y1]) h (.slice none 0 0) (.o4 rfl (.o2 rfl (.nil _))) rfl (fun rec1 K1 next1 g1 y1 x10 h => ?_)
   unfold ref07_Extract.b1 at h
   refine W.seq <| sr <| mv rfl rfl <| fd rfl rfl fo87_1 rfl <| ld rfl rfl sh26 <| p1 rfl 43 rfl (q_len rfl elS26) <| p2 rfl 41 rfl 44 rfl (q_int rfl rfl) <| nt ?_
   refine W.condP h rfl (fun hb407 h => ?_) (fun hb407 h => ?_)
   ·refine W.skip <| QN.then_ <| W.seq <| W.block <| W.seq <| W.drawK [(0, false), (1, false), (2, false), (3, false), (4, false), (5, false), (6, false), (7, false), (8, false)] [9, 10] (bm [0, 1, 0, 4, 0, 28, 60, 127, 255, 0, 1023]) mx (by kernel_rfl) <| df rfl rfl rfl fo29_1 rfl <| dl rfl rfl rfl sh27 <| df rfl rfl rfl fo87_1 rfl <| dl rfl rfl rfl sh26 <| dm rfl rfl rfl ?_
    obtain ⟨c414, h⟩ := ite_n h
    refine DK.cons rfl rfl (.p rfl (.s 51 rfl (.s 52 rfl .nil)) rfl (q_index rfl el26 rfl c414.1 c414.2)) <| dl rfl rfl rfl sh3 ?_
    obtain ⟨c415, h⟩ := ite_n h
    refine DK.cons rfl rfl (.p rfl (.s 49 rfl (.s 54 rfl .nil)) rfl (q_index rfl el27 rfl c415.1 c415.2)) <| DK.cons rfl rfl (.p rfl (.s 55 rfl .nil) rfl (q_loadS rfl sh63 (leB rfl) rfl)) <| DK.nil <| CSteps.w [] rfl rfl rfl rfl .nil rfl (w_alloc rfl z63 (l := [iA 0, iA 0, iA 0]) rfl) ?_
    rintro _ _ ⟨b416, rfl, rfl⟩
    refine CSteps.w0 [0] rfl rfl rfl (.s 11 rfl (.s 56 rfl .nil)) rfl (w_store (L := [iA ((rd a0.fEdges (rd a1.fEdges x10)).fType), iA ((rd a0.fEdges (rd a1.fEdges x10)).fFrom), iA ((rd a0.fEdges (rd a1.fEdges x10)).fTo)]) rfl sh63 (CellsOf.agg _) rfl rfl (leB rfl) rfl) ?_
    rintro _ _ ⟨rfl, rfl⟩
    refine CSteps.nil <| QN.to (StTo.still [0] 11 rfl rfl) <| QN.weaken (env' := [(11, _), (10, _), (8, _), (5, _), (4, _), (3, _), (2, _)]) (.o4 rfl (.o2 rfl (.one rfl (.nil _)))) <| QN.then_ <| W.drawK [(0, false), (1, true), (2, false), (3, false), (4, false), (5, false), (6, false), (7, false), (8, false), (9, false), (10, false), (11, false), (12, false), (13, false), (14, false), (15, false)] [16, 17, 18] (bm [0, 1, 0, 4, 0, 16, 0, 64, 240, 0, 512, 0, 2048, 8176, 16380, 32764, 65535, 131071, 262143]) mx (by kernel_rfl) <| DK.cons rfl rfl (.p rfl (.s 8 rfl .nil) rfl (q_fieldP rfl fo29_1)) <| DK.cons rfl rfl (.o rfl (.s 57 rfl .nil) rfl (q_loadB rfl sh27 (i := 2) rfl rfl)) <| df rfl rfl rfl fo63_0 rfl <| dl rfl rfl rfl sh3 <| df rfl rfl rfl fo87_0 rfl <| dl rfl rfl rfl sh26 <| df rfl rfl rfl fo63_1 rfl <| dl rfl rfl rfl sh3 ?_
    obtain ⟨t425, ht425, h⟩ := bind_s h
    refine DK.cons rfl rfl (.p rfl (.s 62 rfl (.s 64 rfl .nil)) rfl (q_call (f := 124) (A := iA t425) (xs := [.tmp 62, .tmp 64]) («as» := [SlcA kInt a1.fNodes, iA ((rd a0.fEdges (rd a1.fEdges x10)).fFrom)]) rfl ca124 (ref07_index.con k a1.fNodes ((rd a0.fEdges (rd a1.fEdges x10)).fFrom) t425 ht425) rfl)) <| df rfl rfl rfl fo87_0 rfl <| dl rfl rfl rfl sh26 <| df rfl rfl rfl fo63_2 rfl <| dl rfl rfl rfl sh3 ?_
    obtain ⟨t426, ht426, h⟩ := bind_s h
    refine DK.cons rfl rfl (.p rfl (.s 67 rfl (.s 69 rfl .nil)) rfl (q_call (f := 124) (A := iA t426) (xs := [.tmp 67, .tmp 69]) («as» := [SlcA kInt a1.fNodes, iA ((rd a0.fEdges (rd a1.fEdges x10)).fTo)]) rfl ca124 (ref07_index.con k a1.fNodes ((rd a0.fEdges (rd a1.fEdges x10)).fTo) t426 ht426) rfl)) <| DK.cons rfl rfl (.p rfl (.s 60 rfl (.s 65 rfl (.s 70 rfl .nil))) rfl (q_build (is := [0, 1, 2]) (xs := [.tmp 60, .tmp 65, .tmp 70]) (L := [iA ((rd a0.fEdges (rd a1.fEdges x10)).fType), iA t425, iA t426]) rfl rfl z63 pl63 rfl rfl (.cons (CellsOf.one rfl) (.cons (CellsOf.one rfl) (.cons (CellsOf.one rfl) .nil))) rfl)) <| DK.cons rfl rfl (.p rfl (.s 71 rfl .nil) rfl (q_lit (kd := kEdge) (ps := [(0, .tmp 71)]) (xs := [.tmp 71]) («as» := [AggA [iA ((rd a0.fEdges (rd a1.fEdges x10)).fType), iA t425, iA t426]]) (ys := [(Edge.mk ((rd a0.fEdges (rd a1.fEdges x10)).fType) t425 t426)]) rfl rfl el27 rfl gr63 rfl rfl rfl (.cons (CellsOf.agg _) .nil))) ?_
    obtain ⟨c427, h⟩ := ite_n h
    refine DK.nil <| CSteps.w [4] rfl rfl rfl rfl (.s 58 rfl (.s 72 rfl .nil)) rfl (w_append (kd := kEdge) rfl el27 rfl gr63 c427) ?_
    rintro _ _ ⟨v428, rfl, rfl⟩
    refine CSteps.p rfl rfl rfl (.s 8 rfl .nil) rfl (q_fieldP rfl fo29_1) <| CSteps.w0 [3] rfl rfl rfl (.s 74 rfl (.s 73 rfl .nil)) rfl (w_store (L := [HdA g0, HdA v428]) rfl sh27 (CellsOf.one rfl) rfl rfl (leB rfl) rfl) ?_
    rintro _ _ ⟨rfl, rfl⟩
    refine CSteps.nil <| QN.block <| QN.weaken (env' := [(10, _), (8, _), (5, _), (4, _), (3, _), (2, _)]) (.o4 rfl (.o2 rfl (.nil _))) <| QN.then_ <| W.region <| mv rfl rfl ?_
    obtain ⟨c429, h⟩ := ite_n h
    refine pk rfl 46 rfl (q_addR rfl c429) <| av rfl rfl <| WL.nil <| QN.order [2, 2, 0, 1, 0] rfl ?_
    exact next1 v428 (y1 ++ [(Edge.mk ((rd a0.fEdges (rd a1.fEdges x10)).fType) t425 t426)]) (x10 + 1) _ h (.o4 rfl (.o2 rfl (.nil _)))
   ·refine W.exit <| QX.then_ <| QX.then_ <| QX.here <| QN.weaken (env' := [(8, _), (5, _), (4, _), (3, _)]) (.o4 rfl (.nil _)) <| QN.then_ <| W.seq <| W.drawK [(0, true), (1, false), (2, false), (3, false), (4, false), (5, false), (6, false), (7, false), (8, false), (9, false)] [10, 11, 12] (bm [0, 0, 0, 4, 14, 0, 0, 64, 254, 510, 511, 2047, 4095]) mx (by kernel_rfl) <| DK.cons rfl rfl (.o rfl (.s 8 rfl .nil) rfl (q_loadBS (l' := [HdA g0, HdA g1]) rfl sh29 (i := 2) rfl rfl rfl)) <| DK.cons rfl rfl (.p rfl .nil rfl (q_lit0 rfl el26 gr3)) <| df rfl rfl rfl fo87_0 rfl <| dl rfl rfl rfl sh26 ?_
    obtain ⟨c434, h⟩ := ite_n h
    refine DK.cons rfl rfl (.p rfl (.s 76 rfl (.s 78 rfl .nil)) rfl (QS.of_new (w_appendZ (kd := kInt) rfl el26 rfl gr3 c434))) <| DK.cons rfl rfl (.p rfl .nil rfl (q_lit0 rfl el26 gr3)) <| df rfl rfl rfl fo87_1 rfl <| dl rfl rfl rfl sh26 ?_
    obtain ⟨c435, h⟩ := ite_n h
    refine DK.cons rfl rfl (.p rfl (.s 80 rfl (.s 82 rfl .nil)) rfl (QS.of_new (w_appendZ (kd := kInt) rfl el26 rfl gr3 c435))) <| DK.cons rfl rfl (.p rfl (.s 79 rfl (.s 83 rfl .nil)) rfl (q_build (is := [0, 1]) (xs := [.tmp 79, .tmp 83]) (L := [SlcA kInt a1.fNodes, SlcA kInt a1.fEdges]) rfl rfl z47 pl47 rfl rfl (.cons (CellsOf.one rfl) (.cons (CellsOf.one rfl) .nil)) rfl)) <| DK.nil <| CSteps.w0 [0] rfl rfl rfl (.s 4 rfl (.s 75 rfl .nil)) rfl (w_store (L := [HdA g0, HdA g1]) rfl sh29 (CellsOf.agg _) rfl rfl (leB rfl) rfl) ?_
    rintro _ _ ⟨rfl, rfl⟩
    refine CSteps.w0 [1] rfl rfl rfl (.s 5 rfl (.s 84 rfl .nil)) rfl (w_store (L := [SlcA kInt a1.fNodes, SlcA kInt a1.fEdges]) rfl sh47 (CellsOf.agg _) rfl rfl (leB rfl) rfl) ?_
    rintro _ _ ⟨rfl, rfl⟩
    refine CSteps.p rfl rfl rfl (.k .nil) rfl (q_assign rfl) <| CSteps.nil <| QN.weaken (env' := [(6, _), (5, _), (4, _)]) (.o2 rfl (.one rfl (.nil _))) <| QN.then_ <| W.ret ?_
    cases h
    exact QR.f3 rfl rfl (.cs (i := 1) rfl sh29 rfl rfl) (.cs (i := 0) rfl sh47 rfl rfl) (.t rfl) (.tup (.cons (.agg (.cons (.slc 3 rfl) (.cons (.slc 4 rfl) .nil))) (.cons (.id _) (.cons (.id _) .nil))))
theorem ref15_Extract.con (k : Nat) (a0 : Types) (a1 : Host) (a2 : Part) (r : (Host × Int)) (h : ref15_Extract k a0 a1 a2 = some r) : Con Tryz.prog 40 [] [AggA [SlcA kNodeType a0.fNodes, SlcA kEdgeType a0.fEdges], AggA [SlcA kInt a1.fGraph.fNodes, SlcA kEdge a1.fGraph.fEdges, SlcA (kSl kInt) a1.fValues], AggA [SlcA kInt a2.fNodes, SlcA kInt a2.fEdges]] (RA (TupA [AggA [SlcA kInt r.1.fGraph.fNodes, SlcA kEdge r.1.fGraph.fEdges, SlcA (kSl kInt) r.1.fValues], iA r.2])) := by
 unfold ref15_Extract at h
 refine Con.of (N := 63) Tryz.func40 rfl rfl rfl fun w0_ fg_ => sr <| p1 rfl 0 rfl (q_box rfl (CellsOf.agg _)) <| p1 rfl 1 rfl (q_box rfl (CellsOf.agg _)) <| p1 rfl 2 rfl (q_box rfl (CellsOf.agg _)) <| WL.w [] rfl (Wanted.plain rfl) rfl rfl .nil (w_alloc rfl z32 (l := [EqA (.slice none 0 0), EqA (.slice none 0 0), EqA (.slice none 0 0)]) rfl) ?_
 rintro _ _ ⟨b100, rfl, rfl⟩
 refine ak rfl <| nt <| W.seq <| sr <| lS rfl rfl sh25 rfl rfl <| lS rfl rfl sh32 rfl rfl ?_
 obtain ⟨t101, ht101, h⟩ := bind_s h
 refine p2 rfl 16 rfl 17 rfl (q_call (f := 15) (A := TupA [iA t101.1, iA t101.2]) (xs := [.tmp 16, .tmp 17]) («as» := [AggA [SlcA kNodeType a0.fNodes, SlcA kEdgeType a0.fEdges], AggA [SlcA kInt a1.fGraph.fNodes, SlcA kEdge a1.fGraph.fEdges, SlcA (kSl kInt) a1.fValues]]) rfl ca15 (ref15_Valid.con k a0 a1 t101 ht101) rfl) <| mv rfl rfl <| p1 rfl 15 rfl (q_extract rfl rfl) <| p1 rfl 15 rfl (q_extract rfl rfl) <| av rfl rfl <| av rfl rfl <| WL.nil <| QN.weaken (env' := [(9, _), (6, _), (5, _), (4, _)]) (.o4 rfl (.nil _)) <| QN.then_ <| sr <| mv rfl rfl <| pk rfl 21 rfl (q_int rfl rfl) ?_
 refine nt ?_
 refine W.condP h rfl (fun hb102 h => ?_) (fun hb102 h => ?_)
 ·refine sr <| WL.p rfl rfl rfl .nil (q_build (is := []) (xs := []) (L := [EqA (.slice none 0 0), EqA (.slice none 0 0), EqA (.slice none 0 0)]) rfl rfl z32 pl32 rfl rfl .nil rfl) <| mv rfl rfl <| WL.w0 [0] rfl (Wanted.plain rfl) rfl (.s 6 rfl (.s 23 rfl .nil)) (w_store (L := [EqA (.slice none 0 0), EqA (.slice none 0 0), EqA (.slice none 0 0)]) rfl sh32 (CellsOf.agg _) rfl rfl (leB rfl) rfl) ?_
  rintro _ _ ⟨rfl, rfl⟩
  refine av rfl rfl <| WL.nil <| QN.weaken (env' := [(7, _), (6, _)]) (.o2 rfl (.nil _)) <| QN.then_ <| W.ret <| QR.then_ ?_
  cases h
  exact QR.f2 rfl rfl (.cs (i := 0) rfl sh32 rfl rfl) (.t rfl) (.imp (Imp.tup (.cons (Imp.agg (.cons (Imp.nil kInt) (.cons (Imp.nil kEdge) (.cons (Imp.nil (kSl kInt)) .nil)))) (.cons (Imp.id _) .nil))))
 ·refine W.skip <| QN.then_ <| sr <| fd rfl rfl fo32_0 rfl <| lS rfl rfl sh29 rfl rfl <| lS rfl rfl sh87 rfl rfl ?_
  obtain ⟨t103, ht103, h⟩ := bind_s h
  refine p2 rfl 27 rfl 28 rfl (q_call (f := 84) (A := TupA [AggA [SlcA kInt t103.1.fNodes, SlcA kEdge t103.1.fEdges], AggA [SlcA kInt t103.2.1.fNodes, SlcA kInt t103.2.1.fEdges], iA t103.2.2]) (xs := [.tmp 27, .tmp 28]) («as» := [AggA [SlcA kInt a1.fGraph.fNodes, SlcA kEdge a1.fGraph.fEdges], AggA [SlcA kInt a2.fNodes, SlcA kInt a2.fEdges]]) rfl ca84 (ref07_Extract.con k a1.fGraph a2 t103 ht103) rfl) <| mv rfl rfl <| p1 rfl 25 rfl (q_extract rfl rfl) <| p1 rfl 25 rfl (q_extract rfl rfl) <| p1 rfl 25 rfl (q_extract rfl rfl) <| WL.w [] rfl (Wanted.plain rfl) rfl rfl .nil (w_alloc rfl z29 (l := [EqA (.slice none 0 0), EqA (.slice none 0 0)]) rfl) ?_
  rintro _ _ ⟨b104, rfl, rfl⟩
  refine WL.w [] rfl (Wanted.plain rfl) rfl rfl .nil (w_alloc rfl z47 (l := [EqA (.slice none 0 0), EqA (.slice none 0 0)]) rfl) ?_
  rintro _ _ ⟨b105, rfl, rfl⟩
  refine WL.w0 [1] rfl (Wanted.plain rfl) rfl (.s 10 rfl (.s 30 rfl .nil)) (w_store (L := [SlcA kInt t103.1.fNodes, SlcA kEdge t103.1.fEdges]) rfl sh29 (CellsOf.agg _) rfl rfl (leB rfl) rfl) ?_
  rintro _ _ ⟨rfl, rfl⟩
  refine WL.w0 [1] rfl (Wanted.plain rfl) rfl (.s 11 rfl (.s 31 rfl .nil)) (w_store (L := [SlcA kInt t103.2.1.fNodes, SlcA kInt t103.2.1.fEdges]) rfl sh47 (CellsOf.agg _) rfl rfl (leB rfl) rfl) ?_
  rintro _ _ ⟨rfl, rfl⟩
  refine av rfl rfl <| WL.nil <| QN.to (StTo.still [1] 10 rfl rfl) <| QN.to (StTo.still [0] 11 rfl rfl) <| QN.weaken (env' := [(12, _), (11, _), (10, _), (6, _), (4, _)]) (.o4 rfl (.one rfl (.nil _))) <| QN.then_ <| W.seq <| sr <| mv rfl rfl <| pk rfl 33 rfl (q_int rfl rfl) <| nt ?_
  refine W.condP h rfl (fun hb106 h => ?_) (fun hb106 h => ?_)
  ·refine sr <| WL.p rfl rfl rfl .nil (q_build (is := []) (xs := []) (L := [EqA (.slice none 0 0), EqA (.slice none 0 0), EqA (.slice none 0 0)]) rfl rfl z32 pl32 rfl rfl .nil rfl) <| mv rfl rfl <| WL.w0 [0] rfl (Wanted.plain rfl) rfl (.s 6 rfl (.s 35 rfl .nil)) (w_store (L := [EqA (.slice none 0 0), EqA (.slice none 0 0), EqA (.slice none 0 0)]) rfl sh32 (CellsOf.agg _) rfl rfl (leB rfl) rfl) ?_
   rintro _ _ ⟨rfl, rfl⟩
   refine av rfl rfl <| WL.nil <| QN.weaken (env' := [(7, _), (6, _)]) (.o2 rfl (.nil _)) <| QN.then_ <| W.ret <| QR.then_ ?_
   cases h
   exact QR.f2 rfl rfl (.cs (i := 0) rfl sh32 rfl rfl) (.t rfl) (.imp (Imp.tup (.cons (Imp.agg (.cons (Imp.nil kInt) (.cons (Imp.nil kEdge) (.cons (Imp.nil (kSl kInt)) .nil)))) (.cons (Imp.id _) .nil))))
  ·refine W.skip <| QN.then_ <| sr <| lS rfl rfl sh29 rfl rfl <| p1 rfl 37 rfl (q_build (is := [0]) (xs := [.tmp 37]) (L := [SlcA kInt t103.1.fNodes, SlcA kEdge t103.1.fEdges, EqA (.slice none 0 0)]) rfl rfl z32 pl32 rfl rfl (.cons (CellsOf.agg _) .nil) rfl) <| WL.w [] rfl (Wanted.plain rfl) rfl rfl .nil (w_alloc rfl z32 (l := [EqA (.slice none 0 0), EqA (.slice none 0 0), EqA (.slice none 0 0)]) rfl) ?_
   rintro _ _ ⟨b107, rfl, rfl⟩
   refine WL.w0 [0] rfl (Wanted.plain rfl) rfl (.s 13 rfl (.s 38 rfl .nil)) (w_store (L := [SlcA kInt t103.1.fNodes, SlcA kEdge t103.1.fEdges, EqA (.slice none 0 0)]) rfl sh32 (CellsOf.agg _) rfl rfl (leB rfl) rfl) ?_
   rintro _ _ ⟨rfl, rfl⟩
   refine nt <| W.seq <| sr <| ak rfl <| nt <| W.block <| W.to (StTo.boxImp [0] rfl (.cons (Imp.id _) (.cons (Imp.id _) (.cons Imp.nilHd .nil)))) <| W.to (StTo.newNil 26 (kSl kInt)) <| W.order [2, 1, 0] rfl ?_
   refine W.loop2 (Γ := Value) (fun (_ : Value) (_ : (List (List Int))) (x14 : Int) => [(4, PtrA [SlcA kInt a1.fGraph.fNodes, SlcA kEdge a1.fGraph.fEdges, SlcA (kSl kInt) a1.fValues]), (6, EqA (.pointer (some ⟨b100, 0, none⟩))), (11, PtrA [SlcA kInt t103.2.1.fNodes, SlcA kInt t103.2.1.fEdges]), (13, EqA (.pointer (some ⟨b107, 0, none⟩))), (14, iA x14)]) (fun (g0 : Value) (y2 : (List (List Int))) (_ : Int) => [BoxE b100 [EqA (.slice none 0 0), EqA (.slice none 0 0), EqA (.slice none 0 0)], BoxE b107 [SlcA kInt t103.1.fNodes, SlcA kEdge t103.1.fEdges, HdA g0], SlE 26 g0 (kSl kInt) y2]) h (.slice none 0 0) (.o4 rfl (.one rfl (.nil _))) rfl (fun rec0 K0 next0 g0 y2 x14 h => ?_)
   unfold ref15_Extract.b0 at h
   refine W.seq <| sr <| mv rfl rfl <| fd rfl rfl fo47_0 rfl <| ld rfl rfl sh26 <| p1 rfl 41 rfl (q_len rfl elS26) <| p2 rfl 39 rfl 42 rfl (q_int rfl rfl) <| nt ?_
   refine W.condP h rfl (fun hb149 h => ?_) (fun hb149 h => ?_)
   ·refine W.skip <| QN.then_ <| W.seq <| W.block <| W.drawK [(0, false), (1, true), (2, false), (3, false), (4, false), (5, false), (6, false), (7, false), (8, false), (9, false), (10, false), (11, false), (12, false), (13, false)] [14, 15, 16] (bm [0, 1, 0, 0, 8, 0, 32, 0, 224, 480, 1016, 2040, 4092, 8188, 16383, 32767, 65535]) mx (by kernel_rfl) <| DK.cons rfl rfl (.p rfl (.s 13 rfl .nil) rfl (q_fieldP rfl fo32_1)) <| DK.cons rfl rfl (.o rfl (.s 46 rfl .nil) rfl (q_loadB rfl sh30 (i := 1) rfl rfl)) <| DK.cons rfl rfl (.p rfl .nil rfl (q_lit0 rfl el26 gr3)) <| df rfl rfl rfl fo32_1 rfl <| dl rfl rfl rfl sh30 <| df rfl rfl rfl fo47_0 rfl <| dl rfl rfl rfl sh26 <| dm rfl rfl rfl ?_
    obtain ⟨c160, h⟩ := ite_n h
    refine DK.cons rfl rfl (.p rfl (.s 52 rfl (.s 53 rfl .nil)) rfl (q_index rfl el26 rfl c160.1 c160.2)) <| dl rfl rfl rfl sh3 ?_
    obtain ⟨c161, h⟩ := ite_n h
    refine DK.cons rfl rfl (.p rfl (.s 50 rfl (.s 55 rfl .nil)) rfl (q_index rfl el30 rfl c161.1 c161.2)) <| dl rfl rfl rfl sh26 ?_
    obtain ⟨c162, h⟩ := ite_n h
    refine DK.cons rfl rfl (.p rfl (.s 48 rfl (.s 57 rfl .nil)) rfl (QS.of_new (w_appendZ (kd := kInt) rfl el26 rfl gr3 c162))) <| DK.cons rfl rfl (.p rfl (.s 58 rfl .nil) rfl (q_lit (kd := (kSl kInt)) (ps := [(0, .tmp 58)]) (xs := [.tmp 58]) («as» := [SlcA kInt (rd a1.fValues (rd t103.2.1.fNodes x14))]) (ys := [(rd a1.fValues (rd t103.2.1.fNodes x14))]) rfl rfl el30 rfl gr26 rfl rfl rfl (.cons (CellsOf.one rfl) .nil))) ?_
    obtain ⟨c163, h⟩ := ite_n h
    refine DK.nil <| CSteps.w [2] rfl rfl rfl rfl (.s 47 rfl (.s 59 rfl .nil)) rfl (w_append (kd := (kSl kInt)) rfl el30 rfl gr26 c163) ?_
    rintro _ _ ⟨v164, rfl, rfl⟩
    refine CSteps.p rfl rfl rfl (.s 13 rfl .nil) rfl (q_fieldP rfl fo32_1) <| CSteps.w0 [2] rfl rfl rfl (.s 61 rfl (.s 60 rfl .nil)) rfl (w_store (L := [SlcA kInt t103.1.fNodes, SlcA kEdge t103.1.fEdges, HdA v164]) rfl sh30 (CellsOf.one rfl) rfl rfl (leB rfl) rfl) ?_
    rintro _ _ ⟨rfl, rfl⟩
    refine CSteps.nil <| QN.block <| QN.weaken (env' := [(14, _), (13, _), (11, _), (6, _), (4, _)]) (.o4 rfl (.one rfl (.nil _))) <| QN.then_ <| W.region <| mv rfl rfl ?_
    obtain ⟨c165, h⟩ := ite_n h
    refine pk rfl 44 rfl (q_addR rfl c165) <| av rfl rfl <| WL.nil <| QN.order [2, 0, 0] rfl ?_
    exact next0 v164 (y2 ++ [(rd a1.fValues (rd t103.2.1.fNodes x14))]) (x14 + 1) _ h (.o4 rfl (.one rfl (.nil _)))
   ·refine W.exit <| QX.then_ <| QX.then_ <| QX.here <| QN.weaken (env' := [(13, _), (6, _)]) (.o2 rfl (.nil _)) <| QN.then_ <| sr <| WL.q (Wanted.plain rfl) rfl rfl (.s 13 rfl .nil) (q_loadBS (l' := [SlcA kInt t103.1.fNodes, SlcA kEdge t103.1.fEdges, HdA g0]) rfl sh32 (i := 1) rfl rfl rfl) <| WL.w0 [0] rfl (Wanted.plain rfl) rfl (.s 6 rfl (.s 62 rfl .nil)) (w_store (L := [SlcA kInt t103.1.fNodes, SlcA kEdge t103.1.fEdges, HdA g0]) rfl sh32 (CellsOf.agg _) rfl rfl (leB rfl) rfl) ?_
    rintro _ _ ⟨rfl, rfl⟩
    refine ak rfl <| nt <| W.ret ?_
    cases h
    exact QR.f2 rfl rfl (.cs (i := 0) rfl sh32 rfl rfl) (.t rfl) (.tup (.cons (.agg (.cons (.id _) (.cons (.id _) (.cons (.slc 2 rfl) .nil)))) (.cons (.id _) .nil)))
theorem law15_HostExtract.con (k : Nat) (a0 : Types) (a1 : Host) (a2 : Part) (r : Bool) (h : law15_HostExtract k a0 a1 a2 = some r) : Con Tryz.prog 10 [] [AggA [SlcA kNodeType a0.fNodes, SlcA kEdgeType a0.fEdges], AggA [SlcA kInt a1.fGraph.fNodes, SlcA kEdge a1.fGraph.fEdges, SlcA (kSl kInt) a1.fValues], AggA [SlcA kInt a2.fNodes, SlcA kInt a2.fEdges]] (RA (bA r)) := by
 unfold law15_HostExtract at h
 refine Con.of (N := 76) Tryz.func10 rfl rfl rfl fun w0_ fg_ => sr <| p1 rfl 0 rfl (q_box rfl (CellsOf.agg _)) <| p1 rfl 1 rfl (q_box rfl (CellsOf.agg _)) <| p1 rfl 2 rfl (q_box rfl (CellsOf.agg _)) <| ak rfl <| nt <| W.seq <| W.seq ?_
 refine W.jn1 (Γ := Unit) (fun (_ : Unit) (x26 : Bool) => [(3, PtrA [SlcA kNodeType a0.fNodes, SlcA kEdgeType a0.fEdges]), (4, PtrA [SlcA kInt a1.fGraph.fNodes, SlcA kEdge a1.fGraph.fEdges, SlcA (kSl kInt) a1.fValues]), (5, PtrA [SlcA kInt a2.fNodes, SlcA kInt a2.fEdges]), (26, bA x26)]) (fun (_ : Unit) (_ : Bool) => []) h (fun _ x26 h => ?_) (fun j106 Kj106 h => ?_)
 ·refine QN.then_ ?_
  refine W.condP h rfl (fun hb107 h => ?_) (fun hb107 h => ?_)
  ·refine sr ?_
   obtain ⟨t108, ht108, h⟩ := bind_s h
   refine WL.p rfl rfl rfl .nil (q_call (f := 11) (A := bA t108) (xs := []) («as» := []) rfl ca11 (law15_awake.con k  t108 ht108) rfl) <| av rfl rfl <| nt <| W.ret <| QR.then_ ?_
   cases h
   exact QR.f1 rfl rfl (.t rfl) (.id _)
  ·refine W.skip <| QN.then_ <| W.seq <| W.drawK [(0, false), (1, false), (2, false), (3, false), (4, false), (5, false), (6, false), (7, false)] [8, 9, 10] (bm [0, 0, 2, 0, 15, 31, 63, 63, 0, 383, 1023]) mx (by kernel_rfl) <| DK.cons rfl rfl (.p rfl (.s 3 rfl .nil) rfl (q_loadS rfl sh25 (leB rfl) rfl)) <| DK.cons rfl rfl (.p rfl (.s 4 rfl .nil) rfl (q_loadS rfl sh32 (leB rfl) rfl)) ?_
   obtain ⟨t115, ht115, h⟩ := bind_s h
   refine DK.cons rfl rfl (.p rfl (.s 30 rfl .nil) rfl (q_call (f := 14) (A := AggA [SlcA kInt t115.fGraph.fNodes, SlcA kEdge t115.fGraph.fEdges, SlcA (kSl kInt) t115.fValues]) (xs := [.tmp 30]) («as» := [AggA [SlcA kInt a1.fGraph.fNodes, SlcA kEdge a1.fGraph.fEdges, SlcA (kSl kInt) a1.fValues]]) rfl ca14 (Con.lend (ref15_Copied.con k a1 t115 ht115) (by rintro _ _ _ ⟨_, rfl, rfl⟩; exact .agg (.cons (.id _) (.cons (.id _) (.cons (.tab 0 rfl) .nil))))) rfl)) <| DK.cons rfl rfl (.p rfl (.s 5 rfl .nil) rfl (q_loadS rfl sh87 (leB rfl) rfl)) ?_
   obtain ⟨t116, ht116, h⟩ := bind_s h
   refine DK.cons rfl rfl (.p rfl (.s 29 rfl (.s 31 rfl (.s 32 rfl .nil))) rfl (q_call (f := 39) (A := TupA [AggA [SlcA kInt t116.1.fGraph.fNodes, SlcA kEdge t116.1.fGraph.fEdges, SlcA (kSl kInt) t116.1.fValues], iA t116.2]) (xs := [.tmp 29, .tmp 31, .tmp 32]) («as» := [AggA [SlcA kNodeType a0.fNodes, SlcA kEdgeType a0.fEdges], AggA [SlcA kInt t115.fGraph.fNodes, SlcA kEdge t115.fGraph.fEdges, SlcA (kSl kInt) t115.fValues], AggA [SlcA kInt a2.fNodes, SlcA kInt a2.fEdges]]) rfl ca39 (host_Extract.con k a0 t115 a2 t116 ht116) rfl)) <| dm rfl rfl rfl <| DK.cons rfl rfl (.p rfl (.s 28 rfl .nil) rfl (q_extract rfl rfl)) <| DK.cons rfl rfl (.p rfl (.s 28 rfl .nil) rfl (q_extract rfl rfl)) <| DK.nil <| CSteps.w [] rfl rfl rfl rfl .nil rfl (w_alloc rfl z32 (l := [EqA (.slice none 0 0), EqA (.slice none 0 0), EqA (.slice none 0 0)]) rfl) ?_
   rintro _ _ ⟨b117, rfl, rfl⟩
   refine CSteps.w0 [0] rfl rfl rfl (.s 7 rfl (.s 34 rfl .nil)) rfl (w_store (L := [SlcA kInt t116.1.fGraph.fNodes, SlcA kEdge t116.1.fGraph.fEdges, SlcA (kSl kInt) t116.1.fValues]) rfl sh32 (CellsOf.agg _) rfl rfl (leB rfl) rfl) ?_
   rintro _ _ ⟨rfl, rfl⟩
   refine CSteps.p rfl rfl rfl (.s 35 rfl .nil) rfl (q_assign rfl) <| CSteps.nil <| QN.to (StTo.still [0] 7 rfl rfl) <| QN.weaken (env' := [(8, _), (7, _), (5, _), (4, _), (3, _)]) (.o4 rfl (.one rfl (.nil _))) <| QN.then_ <| sr <| lS rfl rfl sh25 rfl rfl <| lS rfl rfl sh32 rfl rfl <| lS rfl rfl sh87 rfl rfl ?_
   obtain ⟨t118, ht118, h⟩ := bind_s h
   refine WL.p rfl rfl rfl (.s 37 rfl (.s 38 rfl (.s 39 rfl .nil))) (q_call (f := 40) (A := TupA [AggA [SlcA kInt t118.1.fGraph.fNodes, SlcA kEdge t118.1.fGraph.fEdges, SlcA (kSl kInt) t118.1.fValues], iA t118.2]) (xs := [.tmp 37, .tmp 38, .tmp 39]) («as» := [AggA [SlcA kNodeType a0.fNodes, SlcA kEdgeType a0.fEdges], AggA [SlcA kInt a1.fGraph.fNodes, SlcA kEdge a1.fGraph.fEdges, SlcA (kSl kInt) a1.fValues], AggA [SlcA kInt a2.fNodes, SlcA kInt a2.fEdges]]) rfl ca40 (ref15_Extract.con k a0 a1 a2 t118 ht118) rfl) <| mv rfl rfl <| p1 rfl 36 rfl (q_extract rfl rfl) <| p1 rfl 36 rfl (q_extract rfl rfl) <| WL.w [] rfl (Wanted.plain rfl) rfl rfl .nil (w_alloc rfl z32 (l := [EqA (.slice none 0 0), EqA (.slice none 0 0), EqA (.slice none 0 0)]) rfl) ?_
   rintro _ _ ⟨b119, rfl, rfl⟩
   refine WL.w0 [0] rfl (Wanted.plain rfl) rfl (.s 9 rfl (.s 41 rfl .nil)) (w_store (L := [SlcA kInt t118.1.fGraph.fNodes, SlcA kEdge t118.1.fGraph.fEdges, SlcA (kSl kInt) t118.1.fValues]) rfl sh32 (CellsOf.agg _) rfl rfl (leB rfl) rfl) ?_
   rintro _ _ ⟨rfl, rfl⟩
   refine av rfl rfl <| WL.nil <| QN.to (StTo.still [0] 9 rfl rfl) <| QN.weaken (env' := [(10, _), (9, _), (8, _), (7, _), (3, _)]) (.o4 rfl (.one rfl (.nil _))) <| QN.then_ <| W.seq <| W.seq ?_
   refine W.jn1 (Γ := Unit) (fun (_ : Unit) (x55 : Bool) => [(3, PtrA [SlcA kNodeType a0.fNodes, SlcA kEdgeType a0.fEdges]), (7, PtrA [SlcA kInt t116.1.fGraph.fNodes, SlcA kEdge t116.1.fGraph.fEdges, SlcA (kSl kInt) t116.1.fValues]), (8, iA t116.2), (9, PtrA [SlcA kInt t118.1.fGraph.fNodes, SlcA kEdge t118.1.fGraph.fEdges, SlcA (kSl kInt) t118.1.fValues]), (10, iA t118.2), (55, bA x55)]) (fun (_ : Unit) (_ : Bool) => []) h (fun _ x55 h => ?_) (fun j124 Kj124 h => ?_)
   ·refine QN.then_ ?_
    refine W.condP h rfl (fun hb125 h => ?_) (fun hb125 h => ?_)
    ·refine W.seq ?_
     refine W.jn1 (Γ := Unit) (fun (_ : Unit) (x6 : Bool) => [(6, bA x6)]) (fun (_ : Unit) (_ : Bool) => []) h (fun _ x6 h => ?_) (fun j129 Kj129 h => ?_)
     ·refine QN.then_ <| W.ret <| QR.then_ ?_
      cases h
      exact QR.f1 rfl rfl (.t rfl) (.id _)
     ·refine W.region <| lS rfl rfl sh32 rfl rfl <| lS rfl rfl sh32 rfl rfl ?_
      obtain ⟨t130, ht130, h⟩ := bind_s h
      refine p2 rfl 56 rfl 57 rfl (q_call (f := 22) (A := bA t130) (xs := [.tmp 56, .tmp 57]) («as» := [AggA [SlcA kInt t116.1.fGraph.fNodes, SlcA kEdge t116.1.fGraph.fEdges, SlcA (kSl kInt) t116.1.fValues], AggA [SlcA kInt t118.1.fGraph.fNodes, SlcA kEdge t118.1.fGraph.fEdges, SlcA (kSl kInt) t118.1.fValues]]) rfl ca22 (ref15_Same.con k t116.1 t118.1 t130 ht130) rfl) <| mv rfl rfl ?_
      rcases bif_s h with ⟨hb131, h⟩ | ⟨hb131, h⟩
      ·refine wm rfl rfl rfl hb131 rfl rfl <| wm rfl rfl rfl hb131 rfl rfl <| wq rfl rfl rfl hb131 (.s 60 rfl (.s 61 rfl .nil)) (q_int rfl rfl).o <| p2 rfl 59 rfl 62 rfl (q_pickT rfl hb131) <| av rfl rfl <| WL.nil ?_
       exact QN.weaken (.one rfl (.nil _)) (Kj129 () (t116.2 == t118.2) h)
      ·refine sk rfl rfl rfl hb131 <| sk rfl rfl rfl hb131 <| sk rfl rfl rfl hb131 <| pk rfl 59 rfl (q_pickF rfl hb131) <| av rfl rfl <| WL.nil ?_
       exact QN.weaken (.one rfl (.nil _)) (Kj129 () false h)
    ·refine W.skip <| QN.then_ <| sr <| lS rfl rfl sh25 rfl rfl <| lS rfl rfl sh32 rfl rfl ?_
     obtain ⟨t132, ht132, h⟩ := bind_s h
     refine p2 rfl 65 rfl 66 rfl (q_call (f := 13) (A := TupA [iA t132.1, iA t132.2]) (xs := [.tmp 65, .tmp 66]) («as» := [AggA [SlcA kNodeType a0.fNodes, SlcA kEdgeType a0.fEdges], AggA [SlcA kInt t116.1.fGraph.fNodes, SlcA kEdge t116.1.fGraph.fEdges, SlcA (kSl kInt) t116.1.fValues]]) rfl ca13 (host_Valid.con k a0 t116.1 t132 ht132) rfl) <| mv rfl rfl <| p1 rfl 64 rfl (q_extract rfl rfl) <| p1 rfl 64 rfl (q_extract rfl rfl) <| av rfl rfl <| av rfl rfl <| WL.nil <| QN.weaken (env' := [(12, _), (11, _)]) (.o2 rfl (.nil _)) <| QN.then_ <| W.seq ?_
     refine W.jn1 (Γ := Unit) (fun (_ : Unit) (x6 : Bool) => [(6, bA x6)]) (fun (_ : Unit) (_ : Bool) => []) h (fun _ x6 h => ?_) (fun j135 Kj135 h => ?_)
     ·refine QN.then_ <| W.ret ?_
      cases h
      exact QR.f1 rfl rfl (.t rfl) (.id _)
     ·refine W.region <| mv rfl rfl <| pk rfl 70 rfl (q_int rfl rfl) <| mv rfl rfl ?_
      rcases bif_s h with ⟨hb136, h⟩ | ⟨hb136, h⟩
      ·refine wm rfl rfl rfl hb136 rfl rfl <| wq rfl rfl rfl hb136 (.s 73 rfl (.k .nil)) (q_int rfl rfl).o <| p2 rfl 72 rfl 74 rfl (q_pickT rfl hb136) <| av rfl rfl <| WL.nil ?_
       exact QN.weaken (.one rfl (.nil _)) (Kj135 () (t132.2 == 0) h)
      ·refine sk rfl rfl rfl hb136 <| sk rfl rfl rfl hb136 <| pk rfl 72 rfl (q_pickF rfl hb136) <| av rfl rfl <| WL.nil ?_
       exact QN.weaken (.one rfl (.nil _)) (Kj135 () false h)
   ·refine W.region <| lS rfl rfl sh32 rfl rfl <| lS rfl rfl sh32 rfl rfl ?_
    obtain ⟨t137, ht137, h⟩ := bind_s h
    refine p2 rfl 43 rfl 44 rfl (q_call (f := 22) (A := bA t137) (xs := [.tmp 43, .tmp 44]) («as» := [AggA [SlcA kInt t116.1.fGraph.fNodes, SlcA kEdge t116.1.fGraph.fEdges, SlcA (kSl kInt) t116.1.fValues], AggA [SlcA kInt t118.1.fGraph.fNodes, SlcA kEdge t118.1.fGraph.fEdges, SlcA (kSl kInt) t118.1.fValues]]) rfl ca22 (ref15_Same.con k t116.1 t118.1 t137 ht137) rfl) <| p1 rfl 45 rfl (q_not rfl) <| mv rfl rfl ?_
    rcases bif_s h with ⟨hb138, h⟩ | ⟨hb138, h⟩
    ·refine sk rfl rfl rfl hb138 <| sk rfl rfl rfl hb138 <| sk rfl rfl rfl hb138 <| pk rfl 47 rfl (q_pickT rfl hb138) <| mv rfl rfl <| sk rfl rfl rfl rfl <| sk rfl rfl rfl rfl <| pk rfl 52 rfl (q_pickT rfl rfl) <| WL.nil ?_
     exact QN.weaken (.o4 rfl (.o2 rfl (.nil _))) (Kj124 () true h)
    ·refine wm rfl rfl rfl hb138 rfl rfl <| wm rfl rfl rfl hb138 rfl rfl <| wq rfl rfl rfl hb138 (.s 48 rfl (.s 49 rfl .nil)) (q_int rfl rfl).o <| p2 rfl 47 rfl 50 rfl (q_pickF rfl hb138) <| mv rfl rfl ?_
     rcases bif_s h with ⟨hb139, h⟩ | ⟨hb139, h⟩
     ·refine sk rfl rfl rfl hb139 <| sk rfl rfl rfl hb139 <| pk rfl 52 rfl (q_pickT rfl hb139) <| WL.nil ?_
      exact QN.weaken (.o4 rfl (.o2 rfl (.nil _))) (Kj124 () true h)
     ·refine wm rfl rfl rfl hb139 rfl rfl <| wq rfl rfl rfl hb139 (.s 53 rfl (.k .nil)) (q_int rfl rfl).o <| p2 rfl 52 rfl 54 rfl (q_pickF rfl hb139) <| WL.nil ?_
      exact QN.weaken (.o4 rfl (.o2 rfl (.nil _))) (Kj124 () (t116.2 != 0) h)
 ·refine W.region ?_
  obtain ⟨t140, ht140, h⟩ := bind_s h
  refine WL.p rfl rfl rfl .nil (q_call (f := 11) (A := bA t140) (xs := []) («as» := []) rfl ca11 (law15_awake.con k  t140 ht140) rfl) <| p1 rfl 13 rfl (q_not rfl) <| mv rfl rfl ?_
  rcases bif_s h with ⟨hb141, h⟩ | ⟨hb141, h⟩
  ·refine sk rfl rfl rfl hb141 <| sk rfl rfl rfl hb141 <| sk rfl rfl rfl hb141 <| sk rfl rfl rfl hb141 <| sk rfl rfl rfl hb141 <| pk rfl 15 rfl (q_pickT rfl hb141) <| mv rfl rfl <| sk rfl rfl rfl rfl <| sk rfl rfl rfl rfl <| sk rfl rfl rfl rfl <| pk rfl 22 rfl (q_pickT rfl rfl) <| WL.nil ?_
   exact QN.weaken (.o4 rfl (.nil _)) (Kj106 () true h)
  ·refine wq rfl rfl rfl hb141 (.s 3 rfl .nil) (q_loadS rfl sh25 (leB rfl) rfl).o <| wq rfl rfl rfl hb141 (.s 4 rfl .nil) (q_loadS rfl sh32 (leB rfl) rfl).o <| wq rfl rfl rfl hb141 (.s 17 rfl .nil) (q_lit (kd := kHost) (ps := [(0, .tmp 17)]) (xs := [.tmp 17]) («as» := [AggA [SlcA kInt a1.fGraph.fNodes, SlcA kEdge a1.fGraph.fEdges, SlcA (kSl kInt) a1.fValues]]) (ys := [a1]) rfl rfl el92 rfl gr32 rfl rfl rfl (.cons (CellsOf.agg _) .nil)).o ?_
   obtain ⟨t142, ht142, h⟩ := bind_s h
   refine wq rfl rfl rfl hb141 (.s 16 rfl (.s 18 rfl .nil)) (q_call (f := 12) (A := bA t142) (xs := [.tmp 16, .tmp 18]) («as» := [AggA [SlcA kNodeType a0.fNodes, SlcA kEdgeType a0.fEdges], SlcA kHost [a1]]) rfl ca12 (law15_small.con k a0 [a1] t142 ht142) rfl).o <| wq rfl rfl rfl hb141 (.s 19 rfl .nil) (q_not rfl).o <| p2 rfl 15 rfl 20 rfl (q_pickF rfl hb141) <| mv rfl rfl ?_
   rcases bif_s h with ⟨hb143, h⟩ | ⟨hb143, h⟩
   ·refine sk rfl rfl rfl hb143 <| sk rfl rfl rfl hb143 <| sk rfl rfl rfl hb143 <| pk rfl 22 rfl (q_pickT rfl hb143) <| WL.nil ?_
    exact QN.weaken (.o4 rfl (.nil _)) (Kj106 () true h)
   ·refine wq rfl rfl rfl hb143 (.s 5 rfl .nil) (q_loadS rfl sh87 (leB rfl) rfl).o ?_
    obtain ⟨t144, ht144, h⟩ := bind_s h
    refine wq rfl rfl rfl hb143 (.s 23 rfl (.k .nil)) (q_call (f := 38) (A := bA t144) (xs := [.tmp 23, .const (.int .i64 150)]) («as» := [AggA [SlcA kInt a2.fNodes, SlcA kInt a2.fEdges], iA 150]) rfl ca38 (ref07_Few.con k a2 150 t144 ht144) rfl).o <| wq rfl rfl rfl hb143 (.s 24 rfl .nil) (q_not rfl).o <| p2 rfl 22 rfl 25 rfl (q_pickF rfl hb143) <| WL.nil ?_
    exact QN.weaken (.o4 rfl (.nil _)) (Kj106 () (!t144) h)
end Go.Proofs.YthmdmchmmgmblaaGreat
