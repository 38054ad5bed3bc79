/- The Go functions compute the pure ones. (Printed by gen.py.) -/
import Derived.Test.YtelpgjfojhcjcaaGreatC2
namespace Go.Proofs.YtelpgjfojhcjcaaGreat
open Go Go.Abs
attribute [local irreducible] Tryz.prog
theorem types_Valid.con (k : Nat) (a0 : Types) (r : (Str × Int)) (h : types_Valid k a0 = some r) : Con Tryz.prog 57 [] [AggA [SlcA kNodeType a0.fNodes, SlcA kEdgeType a0.fEdges]] (RA (TupA [EqA (strV r.1), EqA (.int .i64 r.2)])) := by
 unfold types_Valid at h
 refine Con.of (N := 60) Tryz.func57 rfl rfl rfl fun w0_ fg_ => W.seq <| W.region <| WL.p rfl rfl rfl (.s 0 rfl .nil) (q_box rfl (CellsOf.agg _)) <| WL.p rfl rfl rfl (.k .nil) (q_assign rfl) <| WL.p rfl rfl rfl (.k .nil) (q_assign rfl) <| WL.nil <| QN.then_ <| W.seq <| W.block <| W.seq <| W.region <| WL.p rfl rfl rfl (.s 1 rfl .nil) (q_field rfl fo25_0 rfl) ?_
 refine WL.p rfl rfl rfl (.s 11 rfl .nil) (q_load rfl sh22) <| WL.p rfl rfl rfl (.s 12 rfl .nil) (q_len rfl elS22) <| WL.p rfl rfl rfl (.s 13 rfl (.k .nil)) (q_int rfl rfl) <| WL.p rfl rfl rfl (.s 14 rfl .nil) (q_assign rfl) <| WL.nil <| QN.weaken (env' := [(10, _), (1, _)]) (.one rfl (.one rfl (.nil _))) <| QN.then_ ?_
 refine W.condP h rfl (fun hb349 h => ?_) (fun hb349 h => ?_)
 ·refine W.seq <| W.region <| WL.p rfl rfl rfl (.k .nil) (q_assign rfl) <| WL.p rfl rfl rfl (.k .nil) (q_assign rfl) <| WL.nil <| QN.then_ <| W.ret <| QR.block <| QR.then_ ?_
  cases h
  exact QR.f2 rfl rfl (.t rfl) (.t rfl) (.id _)
 ·refine W.seq ?_
  refine W.jn1 (Γ := Unit) (fun (_ : Unit) (x15 : Bool) => [(1, PtrA [SlcA kNodeType a0.fNodes, SlcA kEdgeType a0.fEdges]), (15, EqA (.bool x15))]) (fun (_ : Unit) (_ : Bool) => []) h (fun _ x15 h => ?_) (fun j352 Kj352 h => ?_)
  ·refine QN.then_ ?_
   refine W.condP h rfl (fun hb353 h => ?_) (fun hb353 h => ?_)
   ·refine W.seq <| W.region <| WL.p rfl rfl rfl (.k .nil) (q_assign rfl) <| WL.p rfl rfl rfl (.k .nil) (q_assign rfl) <| WL.nil <| QN.then_ <| W.ret <| QR.block <| QR.then_ ?_
    cases h
    exact QR.f2 rfl rfl (.t rfl) (.t rfl) (.id _)
   ·refine W.skip <| QN.block <| QN.then_ <| W.seq <| W.seq <| W.region <| WL.p rfl rfl rfl (.s 1 rfl .nil) (q_field rfl fo25_0 rfl) <| WL.p rfl rfl rfl (.s 26 rfl .nil) (q_load rfl sh22) <| WL.p rfl rfl rfl (.s 27 rfl .nil) (q_len rfl elS22) <| WL.p rfl rfl rfl (.k .nil) (q_move rfl) <| WL.nil <| QN.then_ <| W.block ?_
    refine W.loop1 (Γ := Unit) (fun (_ : Unit) (x29 : Int) => [(1, PtrA [SlcA kNodeType a0.fNodes, SlcA kEdgeType a0.fEdges]), (27, SlcA kNodeType a0.fNodes), (28, EqA (.int .i64 (a0.fNodes.length : Int))), (29, EqA (.int .i64 x29))]) (fun (_ : Unit) (_ : Int) => []) h () (.one rfl (.one rfl (.one rfl (.one rfl (.nil _))))) rfl (fun rec0 K0 next0 _ x29 h => ?_)
    unfold types_Valid.b0 at h
    refine W.seq <| W.region <| WL.p rfl rfl rfl (.s 29 rfl (.s 28 rfl .nil)) (q_int rfl rfl) <| WL.nil <| QN.then_ <| W.seq ?_
    refine W.condP h rfl (fun hb402 h => ?_) (fun hb402 h => ?_)
    ·refine W.skip <| QN.then_ <| W.seq <| W.block <| W.seq <| W.region <| WL.p rfl rfl rfl (.s 29 rfl .nil) (q_move rfl) ?_
     obtain ⟨c403, h⟩ := ite_n h
     refine WL.p rfl rfl rfl (.s 27 rfl (.s 29 rfl .nil)) (q_index rfl el22 rfl c403.1 c403.2) <| WL.p rfl rfl rfl (.s 32 rfl .nil) (q_loadS rfl sh94 (leB rfl) rfl) <| WL.w [] rfl (Wanted.plain rfl) rfl rfl .nil (w_alloc rfl z94 (l := [EqA (strV ([] : Str)), EqA (.int .i64 0), EqA (.bool false), EqA (.slice none 0 0)]) rfl) ?_
     rintro _ _ ⟨b404, rfl, rfl⟩
     refine WL.p rfl rfl rfl (.s 31 rfl .nil) (q_assign rfl) <| WL.w0 [0] rfl (Wanted.plain rfl) rfl (.s 5 rfl (.s 33 rfl .nil)) (w_store (L := [EqA (strV ((rd a0.fNodes x29).fName)), EqA (.int .i64 ((rd a0.fNodes x29).fParent)), EqA (.bool ((rd a0.fNodes x29).fAbstract)), SlcA kAttr ((rd a0.fNodes x29).fAttrs)]) rfl sh94 (CellsOf.agg _) rfl rfl (leB rfl) rfl) ?_
     rintro _ _ ⟨rfl, rfl⟩
     refine WL.nil <| QN.to (StTo.still [0] 5 rfl rfl) <| QN.then_ <| W.seq <| W.region <| WL.p rfl rfl rfl (.s 1 rfl .nil) (q_loadS rfl sh25 (leB rfl) rfl) <| WL.p rfl rfl rfl (.s 4 rfl .nil) (q_move rfl) ?_
     obtain ⟨t405, ht405, h⟩ := bind_s h
     refine WL.p rfl rfl rfl (.s 34 rfl (.s 35 rfl .nil)) (q_call (f := 76) (A := EqA (.int .i64 t405)) (xs := [.tmp 34, .tmp 35]) («as» := [AggA [SlcA kNodeType a0.fNodes, SlcA kEdgeType a0.fEdges], EqA (.int .i64 x29)]) rfl ca76 (types_node.con k a0 x29 t405 ht405) rfl) <| WL.p rfl rfl rfl (.s 36 rfl .nil) (q_assign rfl) <| WL.nil <| QN.weaken (env' := [(6, _), (5, _), (29, _), (28, _), (27, _), (1, _)]) (.one rfl (.one rfl (.one rfl (.one rfl (.one rfl (.one rfl (.nil _))))))) <| QN.then_ <| W.seq <| W.region <| WL.p rfl rfl rfl (.s 6 rfl .nil) (q_move rfl) <| WL.p rfl rfl rfl (.s 37 rfl (.k .nil)) (q_int rfl rfl) <| WL.nil <| QN.then_ ?_
     refine W.condP h rfl (fun hb406 h => ?_) (fun hb406 h => ?_)
     ·refine W.seq <| W.region <| WL.p rfl rfl rfl (.s 5 rfl .nil) (q_field rfl fo94_0 rfl) <| WL.p rfl rfl rfl (.s 39 rfl .nil) (q_load rfl sh9) <| WL.p rfl rfl rfl (.s 6 rfl .nil) (q_move rfl) <| WL.p rfl rfl rfl (.s 40 rfl .nil) (q_assign rfl) <| WL.p rfl rfl rfl (.s 41 rfl .nil) (q_assign rfl) <| WL.nil <| QN.weaken (env' := [(3, _), (2, _)]) (.one rfl (.one rfl (.nil _))) <| QN.then_ <| W.ret <| QR.block <| QR.then_ ?_
      refine QR.then_ <| QR.block <| QR.then_ ?_
      cases h
      exact QR.f2 rfl rfl (.t rfl) (.t rfl) (.id _)
     ·refine W.skip <| QN.block <| QN.then_ <| W.region ?_
      obtain ⟨c407, h⟩ := ite_n h
      refine WL.p rfl rfl rfl (.s 29 rfl (.k .nil)) (q_addR rfl c407) <| WL.p rfl rfl rfl (.s 42 rfl .nil) (q_move rfl) <| WL.nil ?_
      exact next0 () (x29 + 1) _ h (.one rfl (.one rfl (.one rfl (.one rfl (.nil _)))))
    ·refine W.exit <| QX.then_ <| QX.then_ <| QX.here <| QN.then_ <| W.seq <| W.seq <| W.region <| WL.p rfl rfl rfl (.s 1 rfl .nil) (q_field rfl fo25_1 rfl) <| WL.p rfl rfl rfl (.s 43 rfl .nil) (q_load rfl sh23) <| WL.p rfl rfl rfl (.s 44 rfl .nil) (q_len rfl elS23) <| WL.p rfl rfl rfl (.k .nil) (q_move rfl) <| WL.nil ?_
     refine QN.then_ <| W.block ?_
     refine W.loop1 (Γ := Unit) (fun (_ : Unit) (x46 : Int) => [(1, PtrA [SlcA kNodeType a0.fNodes, SlcA kEdgeType a0.fEdges]), (44, SlcA kEdgeType a0.fEdges), (45, EqA (.int .i64 (a0.fEdges.length : Int))), (46, EqA (.int .i64 x46))]) (fun (_ : Unit) (_ : Int) => []) h () (.one rfl (.one rfl (.one rfl (.one rfl (.nil _))))) rfl (fun rec1 K1 next1 _ x46 h => ?_)
     unfold types_Valid.b1 at h
     refine W.seq <| W.region <| WL.p rfl rfl rfl (.s 46 rfl (.s 45 rfl .nil)) (q_int rfl rfl) <| WL.nil <| QN.then_ <| W.seq ?_
     refine W.condP h rfl (fun hb420 h => ?_) (fun hb420 h => ?_)
     ·refine W.skip <| QN.then_ <| W.seq <| W.block <| W.seq <| W.region <| WL.p rfl rfl rfl (.s 46 rfl .nil) (q_move rfl) ?_
      obtain ⟨c421, h⟩ := ite_n h
      refine WL.p rfl rfl rfl (.s 44 rfl (.s 46 rfl .nil)) (q_index rfl el23 rfl c421.1 c421.2) <| WL.p rfl rfl rfl (.s 49 rfl .nil) (q_loadS rfl sh96 (leB rfl) rfl) <| WL.w [] rfl (Wanted.plain rfl) rfl rfl .nil (w_alloc rfl z96 (l := [EqA (strV ([] : Str)), EqA (.int .i64 0), EqA (.int .i64 0), EqA (.int .i64 0), EqA (.int .i64 0), EqA (.int .i64 0), EqA (.int .i64 0)]) rfl) ?_
      rintro _ _ ⟨b422, rfl, rfl⟩
      refine WL.p rfl rfl rfl (.s 48 rfl .nil) (q_assign rfl) <| WL.w0 [0] rfl (Wanted.plain rfl) rfl (.s 8 rfl (.s 50 rfl .nil)) (w_store (L := [EqA (strV ((rd a0.fEdges x46).fName)), EqA (.int .i64 ((rd a0.fEdges x46).fFrom)), EqA (.int .i64 ((rd a0.fEdges x46).fTo)), EqA (.int .i64 ((rd a0.fEdges x46).fOutLow)), EqA (.int .i64 ((rd a0.fEdges x46).fOutHigh)), EqA (.int .i64 ((rd a0.fEdges x46).fInLow)), EqA (.int .i64 ((rd a0.fEdges x46).fInHigh))]) rfl sh96 (CellsOf.agg _) rfl rfl (leB rfl) rfl) ?_
      rintro _ _ ⟨rfl, rfl⟩
      refine WL.nil <| QN.to (StTo.still [0] 8 rfl rfl) <| QN.then_ <| W.seq <| W.region <| WL.p rfl rfl rfl (.s 1 rfl .nil) (q_loadS rfl sh25 (leB rfl) rfl) <| WL.p rfl rfl rfl (.s 7 rfl .nil) (q_move rfl) ?_
      obtain ⟨t423, ht423, h⟩ := bind_s h
      refine WL.p rfl rfl rfl (.s 51 rfl (.s 52 rfl .nil)) (q_call (f := 77) (A := EqA (.int .i64 t423)) (xs := [.tmp 51, .tmp 52]) («as» := [AggA [SlcA kNodeType a0.fNodes, SlcA kEdgeType a0.fEdges], EqA (.int .i64 x46)]) rfl ca77 (types_edge.con k a0 x46 t423 ht423) rfl) <| WL.p rfl rfl rfl (.s 53 rfl .nil) (q_assign rfl) <| WL.nil <| QN.weaken (env' := [(9, _), (8, _), (46, _), (45, _), (44, _), (1, _)]) (.one rfl (.one rfl (.one rfl (.one rfl (.one rfl (.one rfl (.nil _))))))) <| QN.then_ <| W.seq <| W.region <| WL.p rfl rfl rfl (.s 9 rfl .nil) (q_move rfl) <| WL.p rfl rfl rfl (.s 54 rfl (.k .nil)) (q_int rfl rfl) <| WL.nil <| QN.then_ ?_
      refine W.condP h rfl (fun hb424 h => ?_) (fun hb424 h => ?_)
      ·refine W.seq <| W.region <| WL.p rfl rfl rfl (.s 8 rfl .nil) (q_field rfl fo96_0 rfl) <| WL.p rfl rfl rfl (.s 56 rfl .nil) (q_load rfl sh9) <| WL.p rfl rfl rfl (.s 9 rfl .nil) (q_move rfl) <| WL.p rfl rfl rfl (.s 57 rfl .nil) (q_assign rfl) <| WL.p rfl rfl rfl (.s 58 rfl .nil) (q_assign rfl) <| WL.nil <| QN.weaken (env' := [(3, _), (2, _)]) (.one rfl (.one rfl (.nil _))) <| QN.then_ <| W.ret <| QR.block <| QR.then_ ?_
       refine QR.then_ <| QR.block <| QR.then_ ?_
       cases h
       exact QR.f2 rfl rfl (.t rfl) (.t rfl) (.id _)
      ·refine W.skip <| QN.block <| QN.then_ <| W.region ?_
       obtain ⟨c425, h⟩ := ite_n h
       refine WL.p rfl rfl rfl (.s 46 rfl (.k .nil)) (q_addR rfl c425) <| WL.p rfl rfl rfl (.s 59 rfl .nil) (q_move rfl) <| WL.nil ?_
       exact next1 () (x46 + 1) _ h (.one rfl (.one rfl (.one rfl (.one rfl (.nil _)))))
     ·refine W.exit <| QX.then_ <| QX.then_ <| QX.here <| QN.then_ <| W.seq <| W.region <| WL.p rfl rfl rfl (.k .nil) (q_assign rfl) <| WL.p rfl rfl rfl (.k .nil) (q_assign rfl) <| WL.nil <| QN.then_ <| W.ret ?_
      cases h
      exact QR.f2 rfl rfl (.t rfl) (.t rfl) (.id _)
  ·refine W.region <| WL.p rfl rfl rfl (.s 1 rfl .nil) (q_field rfl fo25_0 rfl) <| WL.p rfl rfl rfl (.s 16 rfl .nil) (q_load rfl sh22) <| WL.p rfl rfl rfl (.s 17 rfl .nil) (q_len rfl elS22) <| WL.p rfl rfl rfl (.s 18 rfl (.k .nil)) (q_int rfl rfl) <| WL.p rfl rfl rfl (.s 19 rfl .nil) (q_move rfl) ?_
   rcases bif_s h with ⟨hb426, h⟩ | ⟨hb426, h⟩
   ·refine WL.skip (Unwanted.on rfl rfl rfl hb426) rfl rfl <| WL.skip (Unwanted.on rfl rfl rfl hb426) rfl rfl <| WL.skip (Unwanted.on rfl rfl rfl hb426) rfl rfl <| WL.skip (Unwanted.on rfl rfl rfl hb426) rfl rfl <| WL.p rfl rfl rfl (.s 20 rfl (.k .nil)) (q_pickT rfl hb426) <| WL.p rfl rfl rfl (.s 25 rfl .nil) (q_assign rfl) <| WL.nil ?_
    exact QN.weaken (.one rfl (.one rfl (.nil _))) (Kj352 () true h)
   ·refine WL.q (Wanted.on rfl rfl rfl hb426) rfl rfl (.s 1 rfl .nil) (q_field rfl fo25_1 rfl).o <| WL.q (Wanted.on rfl rfl rfl hb426) rfl rfl (.s 21 rfl .nil) (q_load rfl sh23).o <| WL.q (Wanted.on rfl rfl rfl hb426) rfl rfl (.s 22 rfl .nil) (q_len rfl elS23).o <| WL.q (Wanted.on rfl rfl rfl hb426) rfl rfl (.s 23 rfl (.k .nil)) (q_int rfl rfl).o <| WL.p rfl rfl rfl (.s 20 rfl (.s 24 rfl .nil)) (q_pickF rfl hb426) <| WL.p rfl rfl rfl (.s 25 rfl .nil) (q_assign rfl) <| WL.nil ?_
    exact QN.weaken (.one rfl (.one rfl (.nil _))) (Kj352 () (decide ((a0.fEdges.length : Int) > 20)) h)
theorem slices_IndexFunc_int.con (k : Nat) (a0 : (List Int)) (a1 : (Int → Option Bool)) (r : Int) (h : slices_IndexFunc_int k a0 a1 = some r) : Con Tryz.prog 94 [] [SlcA kInt a0, FnA Tryz.prog (fun (x : Int) => [EqA (.int .i64 x)]) (fun (y : Bool) => EqA (.bool y)) a1] (RA (EqA (.int .i64 r))) := by
 unfold slices_IndexFunc_int at h
 refine Con.of (N := 19) Tryz.func94 rfl rfl rfl fun w0_ fg_ => W.seq <| W.region <| WL.p rfl rfl rfl (.k .nil) (q_assign rfl) <| WL.nil <| QN.then_ <| W.seq <| W.seq <| W.region <| WL.p rfl rfl rfl (.s 0 rfl .nil) (q_move rfl) <| WL.p rfl rfl rfl (.s 6 rfl .nil) (q_len rfl elS26) <| WL.p rfl rfl rfl (.k .nil) (q_move rfl) <| WL.nil ?_
 refine QN.then_ <| W.block ?_
 refine W.loop1 (Γ := Unit) (fun (_ : Unit) (x8 : Int) => [(0, SlcA kInt a0), (1, FnA Tryz.prog (fun (x : Int) => [EqA (.int .i64 x)]) (fun (y : Bool) => EqA (.bool y)) a1), (7, EqA (.int .i64 (a0.length : Int))), (8, EqA (.int .i64 x8))]) (fun (_ : Unit) (_ : Int) => []) h () (.one rfl (.one rfl (.one rfl (.one rfl (.nil _))))) rfl (fun rec0 K0 next0 _ x8 h => ?_)
 unfold slices_IndexFunc_int.b0 at h
 refine W.seq <| W.region <| WL.p rfl rfl rfl (.s 8 rfl (.s 7 rfl .nil)) (q_int rfl rfl) <| WL.nil <| QN.then_ <| W.seq ?_
 refine W.condP h rfl (fun hb437 h => ?_) (fun hb437 h => ?_)
 ·refine W.skip <| QN.then_ <| W.seq <| W.block <| W.seq <| W.region <| WL.p rfl rfl rfl (.s 8 rfl .nil) (q_move rfl) <| WL.p rfl rfl rfl (.s 10 rfl .nil) (q_assign rfl) <| WL.nil <| QN.then_ <| W.seq <| W.region <| WL.p rfl rfl rfl (.s 1 rfl .nil) (q_move rfl) ?_
  refine WL.p rfl rfl rfl (.s 0 rfl .nil) (q_move rfl) <| WL.p rfl rfl rfl (.s 5 rfl .nil) (q_move rfl) ?_
  obtain ⟨c438, h⟩ := ite_n h
  refine WL.p rfl rfl rfl (.s 12 rfl (.s 13 rfl .nil)) (q_index rfl el26 rfl c438.1 c438.2) <| WL.p rfl rfl rfl (.s 14 rfl .nil) (q_load rfl sh3) ?_
  obtain ⟨t439, ht439, h⟩ := bind_s h
  refine WL.p rfl rfl rfl (.s 11 rfl (.s 15 rfl .nil)) (q_callV («as» := fun (x : Int) => [EqA (.int .i64 x)]) (res := fun (y : Bool) => EqA (.bool y)) (x := (rd a0 x8)) (y := t439) (xs := [.tmp 15]) rfl ht439 rfl) <| WL.nil <| QN.weaken (env' := [(16, _), (5, _), (8, _), (7, _), (1, _), (0, _)]) (.one rfl (.one rfl (.one rfl (.one rfl (.one rfl (.one rfl (.nil _))))))) <| QN.then_ ?_
  refine W.condP h rfl (fun hb440 h => ?_) (fun hb440 h => ?_)
  ·refine W.seq <| W.region <| WL.p rfl rfl rfl (.s 5 rfl .nil) (q_move rfl) <| WL.p rfl rfl rfl (.s 17 rfl .nil) (q_assign rfl) <| WL.nil <| QN.weaken (env' := [(4, _)]) (.one rfl (.nil _)) <| QN.then_ <| W.ret <| QR.block <| QR.then_ <| QR.then_ <| QR.block <| QR.then_ ?_
   cases h
   exact QR.f1 rfl rfl (.t rfl) (.id _)
  ·refine W.skip <| QN.block <| QN.then_ <| W.region ?_
   obtain ⟨c441, h⟩ := ite_n h
   refine WL.p rfl rfl rfl (.s 8 rfl (.k .nil)) (q_addR rfl c441) <| WL.p rfl rfl rfl (.s 18 rfl .nil) (q_move rfl) <| WL.nil ?_
   exact next0 () (x8 + 1) _ h (.one rfl (.one rfl (.one rfl (.one rfl (.nil _)))))
 ·refine W.exit <| QX.then_ <| QX.then_ <| QX.here <| QN.then_ <| W.seq <| W.region <| WL.p rfl rfl rfl (.k .nil) (q_assign rfl) <| WL.nil <| QN.then_ <| W.ret ?_
  cases h
  exact QR.f1 rfl rfl (.t rfl) (.id _)
theorem slices_ContainsFunc_int.con (k : Nat) (a0 : (List Int)) (a1 : (Int → Option Bool)) (r : Bool) (h : slices_ContainsFunc_int k a0 a1 = some r) : Con Tryz.prog 65 [] [SlcA kInt a0, FnA Tryz.prog (fun (x : Int) => [EqA (.int .i64 x)]) (fun (y : Bool) => EqA (.bool y)) a1] (RA (EqA (.bool r))) := by
 unfold slices_ContainsFunc_int at h
 refine Con.of (N := 9) Tryz.func65 rfl rfl rfl fun w0_ fg_ => W.seq <| W.region <| WL.p rfl rfl rfl (.k .nil) (q_assign rfl) <| WL.nil <| QN.then_ <| W.seq <| W.region <| WL.p rfl rfl rfl (.s 0 rfl .nil) (q_move rfl) <| WL.p rfl rfl rfl (.s 1 rfl .nil) (q_move rfl) ?_
 obtain ⟨t442, ht442, h⟩ := bind_s h
 refine WL.p rfl rfl rfl (.s 5 rfl (.s 6 rfl .nil)) (q_call (f := 94) (A := EqA (.int .i64 t442)) (xs := [.tmp 5, .tmp 6]) («as» := [SlcA kInt a0, FnA Tryz.prog (fun (x : Int) => [EqA (.int .i64 x)]) (fun (y : Bool) => EqA (.bool y)) a1]) rfl ca94 (slices_IndexFunc_int.con k a0 a1 t442 ht442) rfl) <| WL.p rfl rfl rfl (.s 7 rfl (.k .nil)) (q_int rfl rfl) <| WL.p rfl rfl rfl (.s 8 rfl .nil) (q_assign rfl) <| WL.nil <| QN.then_ <| W.ret ?_
 cases h
 exact QR.f1 rfl rfl (.t rfl) (.id _)
theorem graph_within.con (k : Nat) (a0 : Int) (a1 : Int) (r : Bool) (h : graph_within k a0 a1 = some r) : Con Tryz.prog 79 [] [EqA (.int .i64 a0), EqA (.int .i64 a1)] (RA (EqA (.bool r))) := by
 unfold graph_within at h
 refine Con.of (N := 12) Tryz.func79 rfl rfl rfl fun w0_ fg_ => W.seq <| W.region <| WL.p rfl rfl rfl (.k .nil) (q_assign rfl) <| WL.nil <| QN.then_ <| W.seq ?_
 refine W.jn1 (Γ := Unit) (fun (_ : Unit) (x4 : Bool) => [(4, EqA (.bool x4))]) (fun (_ : Unit) (_ : Bool) => []) h (fun _ x4 h => ?_) (fun j445 Kj445 h => ?_)
 ·refine QN.then_ <| W.ret ?_
  cases h
  exact QR.f1 rfl rfl (.t rfl) (.id _)
 ·refine W.region <| WL.p rfl rfl rfl (.s 0 rfl .nil) (q_move rfl) <| WL.p rfl rfl rfl (.s 5 rfl (.k .nil)) (q_int rfl rfl) <| WL.p rfl rfl rfl (.s 6 rfl .nil) (q_move rfl) ?_
  rcases bif_s h with ⟨hb446, h⟩ | ⟨hb446, h⟩
  ·refine WL.q (Wanted.on rfl rfl rfl hb446) rfl rfl (.s 0 rfl .nil) (q_move rfl).o <| WL.q (Wanted.on rfl rfl rfl hb446) rfl rfl (.s 1 rfl .nil) (q_move rfl).o <| WL.q (Wanted.on rfl rfl rfl hb446) rfl rfl (.s 8 rfl (.s 9 rfl .nil)) (q_int rfl rfl).o <| WL.p rfl rfl rfl (.s 7 rfl (.s 10 rfl .nil)) (q_pickT rfl hb446) <| WL.p rfl rfl rfl (.s 11 rfl .nil) (q_assign rfl) <| WL.nil ?_
   exact QN.weaken (.one rfl (.nil _)) (Kj445 () (decide (a0 ≤ a1)) h)
  ·refine WL.skip (Unwanted.on rfl rfl rfl hb446) rfl rfl <| WL.skip (Unwanted.on rfl rfl rfl hb446) rfl rfl <| WL.skip (Unwanted.on rfl rfl rfl hb446) rfl rfl <| WL.p rfl rfl rfl (.s 7 rfl (.k .nil)) (q_pickF rfl hb446) <| WL.p rfl rfl rfl (.s 11 rfl .nil) (q_assign rfl) <| WL.nil ?_
   exact QN.weaken (.one rfl (.nil _)) (Kj445 () false h)
theorem graph_Valid_1.con (k : Nat) (a0 : Int) (r : Bool) (h : graph_Valid_1 k a0 = some r) : Con Tryz.prog 78 [] [EqA (.int .i64 a0)] (RA (EqA (.bool r))) := by
 unfold graph_Valid_1 at h
 refine Con.of (N := 6) Tryz.func78 rfl rfl rfl fun w0_ fg_ => W.seq <| W.region <| WL.p rfl rfl rfl (.k .nil) (q_assign rfl) <| WL.nil <| QN.then_ <| W.seq <| W.region <| WL.p rfl rfl rfl (.s 0 rfl .nil) (q_move rfl) ?_
 obtain ⟨t447, ht447, h⟩ := bind_s h
 refine WL.p rfl rfl rfl (.s 3 rfl (.k .nil)) (q_call (f := 79) (A := EqA (.bool t447)) (xs := [.tmp 3, .const (.int .i64 99)]) («as» := [EqA (.int .i64 a0), EqA (.int .i64 99)]) rfl ca79 (graph_within.con k a0 99 t447 ht447) rfl) <| WL.p rfl rfl rfl (.s 4 rfl .nil) (q_not rfl) <| WL.p rfl rfl rfl (.s 5 rfl .nil) (q_assign rfl) <| WL.nil <| QN.then_ <| W.ret ?_
 cases h
 exact QR.f1 rfl rfl (.t rfl) (.id _)
theorem graph_fits.con (k : Nat) (a0 : Edge) (a1 : Int) (r : Bool) (h : graph_fits k a0 a1 = some r) : Con Tryz.prog 82 [] [AggA [EqA (.int .i64 a0.fType), EqA (.int .i64 a0.fFrom), EqA (.int .i64 a0.fTo)], EqA (.int .i64 a1)] (RA (EqA (.bool r))) := by
 unfold graph_fits at h
 refine Con.of (N := 22) Tryz.func82 rfl rfl rfl fun w0_ fg_ => W.seq <| W.region <| WL.p rfl rfl rfl (.s 0 rfl .nil) (q_box rfl (CellsOf.agg _)) <| WL.p rfl rfl rfl (.k .nil) (q_assign rfl) <| WL.nil <| QN.then_ <| W.seq ?_
 refine W.jn1 (Γ := Unit) (fun (_ : Unit) (x4 : Bool) => [(4, EqA (.bool x4))]) (fun (_ : Unit) (_ : Bool) => []) h (fun _ x4 h => ?_) (fun j456 Kj456 h => ?_)
 ·refine QN.then_ <| W.ret ?_
  cases h
  exact QR.f1 rfl rfl (.t rfl) (.id _)
 ·refine W.region <| WL.p rfl rfl rfl (.s 2 rfl .nil) (q_field rfl fo77_0 rfl) <| WL.p rfl rfl rfl (.s 5 rfl .nil) (q_load rfl sh3) ?_
  obtain ⟨t457, ht457, h⟩ := bind_s h
  refine WL.p rfl rfl rfl (.s 6 rfl (.k .nil)) (q_call (f := 79) (A := EqA (.bool t457)) (xs := [.tmp 6, .const (.int .i64 99)]) («as» := [EqA (.int .i64 a0.fType), EqA (.int .i64 99)]) rfl ca79 (graph_within.con k a0.fType 99 t457 ht457) rfl) <| WL.p rfl rfl rfl (.s 7 rfl .nil) (q_move rfl) ?_
  rcases bif_s h with ⟨hb458, h⟩ | ⟨hb458, h⟩
  ·refine WL.q (Wanted.on rfl rfl rfl hb458) rfl rfl (.s 2 rfl .nil) (q_field rfl fo77_1 rfl).o <| WL.q (Wanted.on rfl rfl rfl hb458) rfl rfl (.s 9 rfl .nil) (q_load rfl sh3).o <| WL.q (Wanted.on rfl rfl rfl hb458) rfl rfl (.s 1 rfl .nil) (q_move rfl).o ?_
   obtain ⟨c459, h⟩ := ite_n h
   refine WL.q (Wanted.on rfl rfl rfl hb458) rfl rfl (.s 11 rfl (.k .nil)) (q_subR rfl c459).o ?_
   obtain ⟨t460, ht460, h⟩ := bind_s h
   refine WL.q (Wanted.on rfl rfl rfl hb458) rfl rfl (.s 10 rfl (.s 12 rfl .nil)) (q_call (f := 79) (A := EqA (.bool t460)) (xs := [.tmp 10, .tmp 12]) («as» := [EqA (.int .i64 a0.fFrom), EqA (.int .i64 (a1 - 1))]) rfl ca79 (graph_within.con k a0.fFrom (a1 - 1) t460 ht460) rfl).o <| WL.p rfl rfl rfl (.s 8 rfl (.s 13 rfl .nil)) (q_pickT rfl hb458) <| WL.p rfl rfl rfl (.s 14 rfl .nil) (q_move rfl) ?_
   rcases bif_s h with ⟨hb461, h⟩ | ⟨hb461, h⟩
   ·refine WL.q (Wanted.on rfl rfl rfl hb461) rfl rfl (.s 2 rfl .nil) (q_field rfl fo77_2 rfl).o <| WL.q (Wanted.on rfl rfl rfl hb461) rfl rfl (.s 16 rfl .nil) (q_load rfl sh3).o <| WL.q (Wanted.on rfl rfl rfl hb461) rfl rfl (.s 1 rfl .nil) (q_move rfl).o ?_
    obtain ⟨c462, h⟩ := ite_n h
    refine WL.q (Wanted.on rfl rfl rfl hb461) rfl rfl (.s 18 rfl (.k .nil)) (q_subR rfl c462).o ?_
    obtain ⟨t463, ht463, h⟩ := bind_s h
    refine WL.q (Wanted.on rfl rfl rfl hb461) rfl rfl (.s 17 rfl (.s 19 rfl .nil)) (q_call (f := 79) (A := EqA (.bool t463)) (xs := [.tmp 17, .tmp 19]) («as» := [EqA (.int .i64 a0.fTo), EqA (.int .i64 (a1 - 1))]) rfl ca79 (graph_within.con k a0.fTo (a1 - 1) t463 ht463) rfl).o <| WL.p rfl rfl rfl (.s 15 rfl (.s 20 rfl .nil)) (q_pickT rfl hb461) <| WL.p rfl rfl rfl (.s 21 rfl .nil) (q_assign rfl) <| WL.nil ?_
    exact QN.weaken (.one rfl (.nil _)) (Kj456 () t463 h)
   ·refine WL.skip (Unwanted.on rfl rfl rfl hb461) rfl rfl <| WL.skip (Unwanted.on rfl rfl rfl hb461) rfl rfl <| WL.skip (Unwanted.on rfl rfl rfl hb461) rfl rfl <| WL.skip (Unwanted.on rfl rfl rfl hb461) rfl rfl <| WL.skip (Unwanted.on rfl rfl rfl hb461) rfl rfl <| WL.p rfl rfl rfl (.s 15 rfl (.k .nil)) (q_pickF rfl hb461) <| WL.p rfl rfl rfl (.s 21 rfl .nil) (q_assign rfl) <| WL.nil ?_
    exact QN.weaken (.one rfl (.nil _)) (Kj456 () false h)
  ·refine WL.skip (Unwanted.on rfl rfl rfl hb458) rfl rfl <| WL.skip (Unwanted.on rfl rfl rfl hb458) rfl rfl <| WL.skip (Unwanted.on rfl rfl rfl hb458) rfl rfl <| WL.skip (Unwanted.on rfl rfl rfl hb458) rfl rfl <| WL.skip (Unwanted.on rfl rfl rfl hb458) rfl rfl <| WL.p rfl rfl rfl (.s 8 rfl (.k .nil)) (q_pickF rfl hb458) <| WL.p rfl rfl rfl (.s 14 rfl .nil) (q_move rfl) <| WL.skip (Unwanted.on rfl rfl rfl rfl) rfl rfl <| WL.skip (Unwanted.on rfl rfl rfl rfl) rfl rfl <| WL.skip (Unwanted.on rfl rfl rfl rfl) rfl rfl <| WL.skip (Unwanted.on rfl rfl rfl rfl) rfl rfl <| WL.skip (Unwanted.on rfl rfl rfl rfl) rfl rfl <| WL.p rfl rfl rfl (.s 15 rfl (.k .nil)) (q_pickF rfl rfl) ?_
   refine WL.p rfl rfl rfl (.s 21 rfl .nil) (q_assign rfl) <| WL.nil ?_
   exact QN.weaken (.one rfl (.nil _)) (Kj456 () false h)
theorem graph_Valid_2.con (k : Nat) (a0 : Edge) (a1 : Graph) (r : Bool) (h : graph_Valid_2 k a0 a1 = some r) : Con Tryz.prog 81 [] [AggA [EqA (.int .i64 a0.fType), EqA (.int .i64 a0.fFrom), EqA (.int .i64 a0.fTo)], PtrA [SlcA kInt a1.fNodes, SlcA kEdge a1.fEdges]] (RA (EqA (.bool r))) := by
 unfold graph_Valid_2 at h
 refine Con.of (N := 10) Tryz.func81 rfl rfl rfl fun w0_ fg_ => W.seq <| W.region <| WL.p rfl rfl rfl (.s 0 rfl .nil) (q_box rfl (CellsOf.agg _)) <| WL.p rfl rfl rfl (.k .nil) (q_assign rfl) <| WL.nil <| QN.then_ <| W.seq <| W.region <| WL.p rfl rfl rfl (.s 2 rfl .nil) (q_loadS rfl sh77 (leB rfl) rfl) <| WL.p rfl rfl rfl (.s 1 rfl .nil) (q_field rfl fo29_0 rfl) <| WL.p rfl rfl rfl (.s 5 rfl .nil) (q_load rfl sh26) <| WL.p rfl rfl rfl (.s 6 rfl .nil) (q_len rfl elS26) ?_
 obtain ⟨t464, ht464, h⟩ := bind_s h
 refine WL.p rfl rfl rfl (.s 4 rfl (.s 7 rfl .nil)) (q_call (f := 82) (A := EqA (.bool t464)) (xs := [.tmp 4, .tmp 7]) («as» := [AggA [EqA (.int .i64 a0.fType), EqA (.int .i64 a0.fFrom), EqA (.int .i64 a0.fTo)], EqA (.int .i64 (a1.fNodes.length : Int))]) rfl ca82 (graph_fits.con k a0 (a1.fNodes.length : Int) t464 ht464) rfl) <| WL.p rfl rfl rfl (.s 8 rfl .nil) (q_not rfl) <| WL.p rfl rfl rfl (.s 9 rfl .nil) (q_assign rfl) <| WL.nil <| QN.weaken (env' := [(3, _)]) (.one rfl (.nil _)) <| QN.then_ <| W.ret ?_
 cases h
 exact QR.f1 rfl rfl (.t rfl) (.id _)
theorem slices_IndexFunc_Edge.con (k : Nat) (a0 : (List Edge)) (a1 : (Edge → Option Bool)) (r : Int) (h : slices_IndexFunc_Edge k a0 a1 = some r) : Con Tryz.prog 112 [] [SlcA kEdge a0, FnA Tryz.prog (fun (x : Edge) => [AggA [EqA (.int .i64 x.fType), EqA (.int .i64 x.fFrom), EqA (.int .i64 x.fTo)]]) (fun (y : Bool) => EqA (.bool y)) a1] (RA (EqA (.int .i64 r))) := by
 unfold slices_IndexFunc_Edge at h
 refine Con.of (N := 19) Tryz.func112 rfl rfl rfl fun w0_ fg_ => W.seq <| W.region <| WL.p rfl rfl rfl (.k .nil) (q_assign rfl) <| WL.nil <| QN.then_ <| W.seq <| W.seq <| W.region <| WL.p rfl rfl rfl (.s 0 rfl .nil) (q_move rfl) <| WL.p rfl rfl rfl (.s 6 rfl .nil) (q_len rfl elS27) <| WL.p rfl rfl rfl (.k .nil) (q_move rfl) <| WL.nil ?_
 refine QN.then_ <| W.block ?_
 refine W.loop1 (Γ := Unit) (fun (_ : Unit) (x8 : Int) => [(0, SlcA kEdge a0), (1, FnA Tryz.prog (fun (x : Edge) => [AggA [EqA (.int .i64 x.fType), EqA (.int .i64 x.fFrom), EqA (.int .i64 x.fTo)]]) (fun (y : Bool) => EqA (.bool y)) a1), (7, EqA (.int .i64 (a0.length : Int))), (8, EqA (.int .i64 x8))]) (fun (_ : Unit) (_ : Int) => []) h () (.one rfl (.one rfl (.one rfl (.one rfl (.nil _))))) rfl (fun rec0 K0 next0 _ x8 h => ?_)
 unfold slices_IndexFunc_Edge.b0 at h
 refine W.seq <| W.region <| WL.p rfl rfl rfl (.s 8 rfl (.s 7 rfl .nil)) (q_int rfl rfl) <| WL.nil <| QN.then_ <| W.seq ?_
 refine W.condP h rfl (fun hb475 h => ?_) (fun hb475 h => ?_)
 ·refine W.skip <| QN.then_ <| W.seq <| W.block <| W.seq <| W.region <| WL.p rfl rfl rfl (.s 8 rfl .nil) (q_move rfl) <| WL.p rfl rfl rfl (.s 10 rfl .nil) (q_assign rfl) <| WL.nil <| QN.then_ <| W.seq <| W.region <| WL.p rfl rfl rfl (.s 1 rfl .nil) (q_move rfl) ?_
  refine WL.p rfl rfl rfl (.s 0 rfl .nil) (q_move rfl) <| WL.p rfl rfl rfl (.s 5 rfl .nil) (q_move rfl) ?_
  obtain ⟨c476, h⟩ := ite_n h
  refine WL.p rfl rfl rfl (.s 12 rfl (.s 13 rfl .nil)) (q_index rfl el27 rfl c476.1 c476.2) <| WL.p rfl rfl rfl (.s 14 rfl .nil) (q_loadS rfl sh77 (leB rfl) rfl) ?_
  obtain ⟨t477, ht477, h⟩ := bind_s h
  refine WL.p rfl rfl rfl (.s 11 rfl (.s 15 rfl .nil)) (q_callV («as» := fun (x : Edge) => [AggA [EqA (.int .i64 x.fType), EqA (.int .i64 x.fFrom), EqA (.int .i64 x.fTo)]]) (res := fun (y : Bool) => EqA (.bool y)) (x := (rd a0 x8)) (y := t477) (xs := [.tmp 15]) rfl ht477 rfl) <| WL.nil <| QN.weaken (env' := [(16, _), (5, _), (8, _), (7, _), (1, _), (0, _)]) (.one rfl (.one rfl (.one rfl (.one rfl (.one rfl (.one rfl (.nil _))))))) <| QN.then_ ?_
  refine W.condP h rfl (fun hb478 h => ?_) (fun hb478 h => ?_)
  ·refine W.seq <| W.region <| WL.p rfl rfl rfl (.s 5 rfl .nil) (q_move rfl) <| WL.p rfl rfl rfl (.s 17 rfl .nil) (q_assign rfl) <| WL.nil <| QN.weaken (env' := [(4, _)]) (.one rfl (.nil _)) <| QN.then_ <| W.ret <| QR.block <| QR.then_ <| QR.then_ <| QR.block <| QR.then_ ?_
   cases h
   exact QR.f1 rfl rfl (.t rfl) (.id _)
  ·refine W.skip <| QN.block <| QN.then_ <| W.region ?_
   obtain ⟨c479, h⟩ := ite_n h
   refine WL.p rfl rfl rfl (.s 8 rfl (.k .nil)) (q_addR rfl c479) <| WL.p rfl rfl rfl (.s 18 rfl .nil) (q_move rfl) <| WL.nil ?_
   exact next0 () (x8 + 1) _ h (.one rfl (.one rfl (.one rfl (.one rfl (.nil _)))))
 ·refine W.exit <| QX.then_ <| QX.then_ <| QX.here <| QN.then_ <| W.seq <| W.region <| WL.p rfl rfl rfl (.k .nil) (q_assign rfl) <| WL.nil <| QN.then_ <| W.ret ?_
  cases h
  exact QR.f1 rfl rfl (.t rfl) (.id _)
theorem slices_ContainsFunc_Edge.con (k : Nat) (a0 : (List Edge)) (a1 : (Edge → Option Bool)) (r : Bool) (h : slices_ContainsFunc_Edge k a0 a1 = some r) : Con Tryz.prog 80 [] [SlcA kEdge a0, FnA Tryz.prog (fun (x : Edge) => [AggA [EqA (.int .i64 x.fType), EqA (.int .i64 x.fFrom), EqA (.int .i64 x.fTo)]]) (fun (y : Bool) => EqA (.bool y)) a1] (RA (EqA (.bool r))) := by
 unfold slices_ContainsFunc_Edge at h
 refine Con.of (N := 9) Tryz.func80 rfl rfl rfl fun w0_ fg_ => W.seq <| W.region <| WL.p rfl rfl rfl (.k .nil) (q_assign rfl) <| WL.nil <| QN.then_ <| W.seq <| W.region <| WL.p rfl rfl rfl (.s 0 rfl .nil) (q_move rfl) <| WL.p rfl rfl rfl (.s 1 rfl .nil) (q_move rfl) ?_
 obtain ⟨t480, ht480, h⟩ := bind_s h
 refine WL.p rfl rfl rfl (.s 5 rfl (.s 6 rfl .nil)) (q_call (f := 112) (A := EqA (.int .i64 t480)) (xs := [.tmp 5, .tmp 6]) («as» := [SlcA kEdge a0, FnA Tryz.prog (fun (x : Edge) => [AggA [EqA (.int .i64 x.fType), EqA (.int .i64 x.fFrom), EqA (.int .i64 x.fTo)]]) (fun (y : Bool) => EqA (.bool y)) a1]) rfl ca112 (slices_IndexFunc_Edge.con k a0 a1 t480 ht480) rfl) <| WL.p rfl rfl rfl (.s 7 rfl (.k .nil)) (q_int rfl rfl) <| WL.p rfl rfl rfl (.s 8 rfl .nil) (q_assign rfl) <| WL.nil <| QN.then_ <| W.ret ?_
 cases h
 exact QR.f1 rfl rfl (.t rfl) (.id _)
theorem graph_Valid.con (k : Nat) (a0 : Graph) (r : Int) (h : graph_Valid k a0 = some r) : Con Tryz.prog 58 [] [AggA [SlcA kInt a0.fNodes, SlcA kEdge a0.fEdges]] (RA (EqA (.int .i64 r))) := by
 unfold graph_Valid at h
 refine Con.of (N := 20) Tryz.func58 rfl rfl rfl fun w0_ fg_ => W.seq <| W.region <| WL.p rfl rfl rfl (.s 0 rfl .nil) (q_box rfl (CellsOf.agg _)) <| WL.p rfl rfl rfl (.k .nil) (q_assign rfl) <| WL.nil <| QN.then_ <| W.seq <| W.seq ?_
 refine W.jn1 (Γ := Unit) (fun (_ : Unit) (x12 : Bool) => [(1, PtrA [SlcA kInt a0.fNodes, SlcA kEdge a0.fEdges]), (12, EqA (.bool x12))]) (fun (_ : Unit) (_ : Bool) => []) h (fun _ x12 h => ?_) (fun j483 Kj483 h => ?_)
 ·refine QN.then_ ?_
  refine W.condP h rfl (fun hb484 h => ?_) (fun hb484 h => ?_)
  ·refine W.seq <| W.region <| WL.p rfl rfl rfl (.k .nil) (q_assign rfl) <| WL.nil <| QN.then_ <| W.ret <| QR.then_ ?_
   cases h
   exact QR.f1 rfl rfl (.t rfl) (.id _)
  ·refine W.skip <| QN.then_ <| W.seq <| W.seq <| W.region <| WL.p rfl rfl rfl (.s 1 rfl .nil) (q_field rfl fo29_0 rfl) <| WL.p rfl rfl rfl (.s 13 rfl .nil) (q_load rfl sh26) ?_
   obtain ⟨t485, ht485, h⟩ := bind_s h
   refine WL.p rfl rfl rfl (.s 14 rfl (.f («as» := fun (x : Int) => [EqA (.int .i64 x)]) (res := fun (y : Bool) => EqA (.bool y)) (p := fun x => graph_Valid_1 k x) ca78 (fun x y hp => graph_Valid_1.con k x y hp) .nil)) (q_call (f := 65) (A := EqA (.bool t485)) (xs := [.tmp 14, .func 78]) («as» := [SlcA kInt a0.fNodes, FnA Tryz.prog (fun (x : Int) => [EqA (.int .i64 x)]) (fun (y : Bool) => EqA (.bool y)) (fun x => graph_Valid_1 k x)]) rfl ca65 (slices_ContainsFunc_int.con k a0.fNodes (fun x => graph_Valid_1 k x) t485 ht485) rfl) <| WL.nil <| QN.then_ ?_
   refine W.condP h rfl (fun hb486 h => ?_) (fun hb486 h => ?_)
   ·refine W.seq <| W.region <| WL.p rfl rfl rfl (.k .nil) (q_assign rfl) <| WL.nil <| QN.then_ <| W.ret <| QR.then_ ?_
    cases h
    exact QR.f1 rfl rfl (.t rfl) (.id _)
   ·refine W.skip <| QN.then_ <| W.seq <| W.seq <| W.region <| WL.p rfl rfl rfl (.s 1 rfl .nil) (q_field rfl fo29_1 rfl) <| WL.p rfl rfl rfl (.s 16 rfl .nil) (q_load rfl sh27) <| WL.p rfl rfl rfl (.s 1 rfl .nil) (q_makeFunc (xs := [.tmp 1]) (L := [PtrA [SlcA kInt a0.fNodes, SlcA kEdge a0.fEdges]]) («as» := fun (x : Edge) => [AggA [EqA (.int .i64 x.fType), EqA (.int .i64 x.fFrom), EqA (.int .i64 x.fTo)]]) (res := fun (y : Bool) => EqA (.bool y)) (p := (fun x => graph_Valid_2 k x a0)) rfl ca81 rfl (fun x y hp => (graph_Valid_2.con k x a0 y hp))) ?_
    obtain ⟨t487, ht487, h⟩ := bind_s h
    refine WL.p rfl rfl rfl (.s 17 rfl (.s 18 rfl .nil)) (q_call (f := 80) (A := EqA (.bool t487)) (xs := [.tmp 17, .tmp 18]) («as» := [SlcA kEdge a0.fEdges, FnA Tryz.prog (fun (x : Edge) => [AggA [EqA (.int .i64 x.fType), EqA (.int .i64 x.fFrom), EqA (.int .i64 x.fTo)]]) (fun (y : Bool) => EqA (.bool y)) (fun x => graph_Valid_2 k x a0)]) rfl ca80 (slices_ContainsFunc_Edge.con k a0.fEdges (fun x => graph_Valid_2 k x a0) t487 ht487) rfl) <| WL.nil <| QN.weaken (env' := [(19, _)]) (.one rfl (.nil _)) <| QN.then_ ?_
    refine W.condP h rfl (fun hb488 h => ?_) (fun hb488 h => ?_)
    ·refine W.seq <| W.region <| WL.p rfl rfl rfl (.k .nil) (q_assign rfl) <| WL.nil <| QN.then_ <| W.ret <| QR.then_ ?_
     cases h
     exact QR.f1 rfl rfl (.t rfl) (.id _)
    ·refine W.skip <| QN.then_ <| W.seq <| W.region <| WL.p rfl rfl rfl (.k .nil) (q_assign rfl) <| WL.nil <| QN.then_ <| W.ret ?_
     cases h
     exact QR.f1 rfl rfl (.t rfl) (.id _)
 ·refine W.region <| WL.p rfl rfl rfl (.s 1 rfl .nil) (q_field rfl fo29_0 rfl) <| WL.p rfl rfl rfl (.s 3 rfl .nil) (q_load rfl sh26) <| WL.p rfl rfl rfl (.s 4 rfl .nil) (q_len rfl elS26) <| WL.p rfl rfl rfl (.s 5 rfl (.k .nil)) (q_int rfl rfl) <| WL.p rfl rfl rfl (.s 6 rfl .nil) (q_move rfl) ?_
  rcases bif_s h with ⟨hb489, h⟩ | ⟨hb489, h⟩
  ·refine WL.skip (Unwanted.on rfl rfl rfl hb489) rfl rfl <| WL.skip (Unwanted.on rfl rfl rfl hb489) rfl rfl <| WL.skip (Unwanted.on rfl rfl rfl hb489) rfl rfl <| WL.skip (Unwanted.on rfl rfl rfl hb489) rfl rfl <| WL.p rfl rfl rfl (.s 7 rfl (.k .nil)) (q_pickT rfl hb489) <| WL.nil ?_
   exact QN.weaken (.one rfl (.one rfl (.nil _))) (Kj483 () true h)
  ·refine WL.q (Wanted.on rfl rfl rfl hb489) rfl rfl (.s 1 rfl .nil) (q_field rfl fo29_1 rfl).o <| WL.q (Wanted.on rfl rfl rfl hb489) rfl rfl (.s 8 rfl .nil) (q_load rfl sh27).o <| WL.q (Wanted.on rfl rfl rfl hb489) rfl rfl (.s 9 rfl .nil) (q_len rfl elS27).o <| WL.q (Wanted.on rfl rfl rfl hb489) rfl rfl (.s 10 rfl (.k .nil)) (q_int rfl rfl).o <| WL.p rfl rfl rfl (.s 7 rfl (.s 11 rfl .nil)) (q_pickF rfl hb489) <| WL.nil ?_
   exact QN.weaken (.one rfl (.one rfl (.nil _))) (Kj483 () (decide ((a0.fEdges.length : Int) > 80)) h)
theorem search_within_1.con (k : Nat) (a0 : Int) (a1 : Types) (r : Bool) (h : search_within_1 k a0 a1 = some r) : Con Tryz.prog 83 [] [EqA (.int .i64 a0), PtrA [SlcA kNodeType a1.fNodes, SlcA kEdgeType a1.fEdges]] (RA (EqA (.bool r))) := by
 unfold search_within_1 at h
 refine Con.of (N := 9) Tryz.func83 rfl rfl rfl fun w0_ fg_ => W.seq <| W.region <| WL.p rfl rfl rfl (.k .nil) (q_assign rfl) <| WL.nil <| QN.then_ <| W.seq <| W.region <| WL.p rfl rfl rfl (.s 0 rfl .nil) (q_move rfl) <| WL.p rfl rfl rfl (.s 1 rfl .nil) (q_field rfl fo25_0 rfl) <| WL.p rfl rfl rfl (.s 5 rfl .nil) (q_load rfl sh22) <| WL.p rfl rfl rfl (.s 6 rfl .nil) (q_len rfl elS22) <| WL.p rfl rfl rfl (.s 4 rfl (.s 7 rfl .nil)) (q_int rfl rfl) ?_
 refine WL.p rfl rfl rfl (.s 8 rfl .nil) (q_assign rfl) <| WL.nil <| QN.weaken (env' := [(3, _)]) (.one rfl (.nil _)) <| QN.then_ <| W.ret ?_
 cases h
 exact QR.f1 rfl rfl (.t rfl) (.id _)
theorem search_within_2.con (k : Nat) (a0 : Edge) (a1 : Types) (r : Bool) (h : search_within_2 k a0 a1 = some r) : Con Tryz.prog 84 [] [AggA [EqA (.int .i64 a0.fType), EqA (.int .i64 a0.fFrom), EqA (.int .i64 a0.fTo)], PtrA [SlcA kNodeType a1.fNodes, SlcA kEdgeType a1.fEdges]] (RA (EqA (.bool r))) := by
 unfold search_within_2 at h
 refine Con.of (N := 10) Tryz.func84 rfl rfl rfl fun w0_ fg_ => W.seq <| W.region <| WL.p rfl rfl rfl (.s 0 rfl .nil) (q_box rfl (CellsOf.agg _)) <| WL.p rfl rfl rfl (.k .nil) (q_assign rfl) <| WL.nil <| QN.then_ <| W.seq <| W.region <| WL.p rfl rfl rfl (.s 2 rfl .nil) (q_field rfl fo77_0 rfl) <| WL.p rfl rfl rfl (.s 4 rfl .nil) (q_load rfl sh3) <| WL.p rfl rfl rfl (.s 1 rfl .nil) (q_field rfl fo25_1 rfl) <| WL.p rfl rfl rfl (.s 6 rfl .nil) (q_load rfl sh23) ?_
 refine WL.p rfl rfl rfl (.s 7 rfl .nil) (q_len rfl elS23) <| WL.p rfl rfl rfl (.s 5 rfl (.s 8 rfl .nil)) (q_int rfl rfl) <| WL.p rfl rfl rfl (.s 9 rfl .nil) (q_assign rfl) <| WL.nil <| QN.weaken (env' := [(3, _)]) (.one rfl (.nil _)) <| QN.then_ <| W.ret ?_
 cases h
 exact QR.f1 rfl rfl (.t rfl) (.id _)
theorem search_within.con (k : Nat) (a0 : Types) (a1 : Graph) (r : Bool) (h : search_within k a0 a1 = some r) : Con Tryz.prog 59 [] [AggA [SlcA kNodeType a0.fNodes, SlcA kEdgeType a0.fEdges], AggA [SlcA kInt a1.fNodes, SlcA kEdge a1.fEdges]] (RA (EqA (.bool r))) := by
 unfold search_within at h
 refine Con.of (N := 17) Tryz.func59 rfl rfl rfl fun w0_ fg_ => W.seq <| W.region <| WL.p rfl rfl rfl (.s 0 rfl .nil) (q_box rfl (CellsOf.agg _)) <| WL.p rfl rfl rfl (.s 1 rfl .nil) (q_box rfl (CellsOf.agg _)) <| WL.p rfl rfl rfl (.k .nil) (q_assign rfl) <| WL.nil <| QN.then_ <| W.seq ?_
 refine W.jn1 (Γ := Unit) (fun (_ : Unit) (x4 : Bool) => [(4, EqA (.bool x4))]) (fun (_ : Unit) (_ : Bool) => []) h (fun _ x4 h => ?_) (fun j494 Kj494 h => ?_)
 ·refine QN.then_ <| W.ret ?_
  cases h
  exact QR.f1 rfl rfl (.t rfl) (.id _)
 ·refine W.region <| WL.p rfl rfl rfl (.s 3 rfl .nil) (q_field rfl fo29_0 rfl) <| WL.p rfl rfl rfl (.s 5 rfl .nil) (q_load rfl sh26) <| WL.p rfl rfl rfl (.s 2 rfl .nil) (q_makeFunc (xs := [.tmp 2]) (L := [PtrA [SlcA kNodeType a0.fNodes, SlcA kEdgeType a0.fEdges]]) («as» := fun (x : Int) => [EqA (.int .i64 x)]) (res := fun (y : Bool) => EqA (.bool y)) (p := (fun x => search_within_1 k x a0)) rfl ca83 rfl (fun x y hp => (search_within_1.con k x a0 y hp))) ?_
  obtain ⟨t495, ht495, h⟩ := bind_s h
  refine WL.p rfl rfl rfl (.s 6 rfl (.s 7 rfl .nil)) (q_call (f := 65) (A := EqA (.bool t495)) (xs := [.tmp 6, .tmp 7]) («as» := [SlcA kInt a1.fNodes, FnA Tryz.prog (fun (x : Int) => [EqA (.int .i64 x)]) (fun (y : Bool) => EqA (.bool y)) (fun x => search_within_1 k x a0)]) rfl ca65 (slices_ContainsFunc_int.con k a1.fNodes (fun x => search_within_1 k x a0) t495 ht495) rfl) <| WL.p rfl rfl rfl (.s 8 rfl .nil) (q_not rfl) <| WL.p rfl rfl rfl (.s 9 rfl .nil) (q_move rfl) ?_
  rcases bif_s h with ⟨hb496, h⟩ | ⟨hb496, h⟩
  ·refine WL.q (Wanted.on rfl rfl rfl hb496) rfl rfl (.s 3 rfl .nil) (q_field rfl fo29_1 rfl).o <| WL.q (Wanted.on rfl rfl rfl hb496) rfl rfl (.s 11 rfl .nil) (q_load rfl sh27).o <| WL.q (Wanted.on rfl rfl rfl hb496) rfl rfl (.s 2 rfl .nil) (q_makeFunc (xs := [.tmp 2]) (L := [PtrA [SlcA kNodeType a0.fNodes, SlcA kEdgeType a0.fEdges]]) («as» := fun (x : Edge) => [AggA [EqA (.int .i64 x.fType), EqA (.int .i64 x.fFrom), EqA (.int .i64 x.fTo)]]) (res := fun (y : Bool) => EqA (.bool y)) (p := (fun x => search_within_2 k x a0)) rfl ca84 rfl (fun x y hp => (search_within_2.con k x a0 y hp))).o ?_
   obtain ⟨t497, ht497, h⟩ := bind_s h
   refine WL.q (Wanted.on rfl rfl rfl hb496) rfl rfl (.s 12 rfl (.s 13 rfl .nil)) (q_call (f := 80) (A := EqA (.bool t497)) (xs := [.tmp 12, .tmp 13]) («as» := [SlcA kEdge a1.fEdges, FnA Tryz.prog (fun (x : Edge) => [AggA [EqA (.int .i64 x.fType), EqA (.int .i64 x.fFrom), EqA (.int .i64 x.fTo)]]) (fun (y : Bool) => EqA (.bool y)) (fun x => search_within_2 k x a0)]) rfl ca80 (slices_ContainsFunc_Edge.con k a1.fEdges (fun x => search_within_2 k x a0) t497 ht497) rfl).o <| WL.q (Wanted.on rfl rfl rfl hb496) rfl rfl (.s 14 rfl .nil) (q_not rfl).o <| WL.p rfl rfl rfl (.s 10 rfl (.s 15 rfl .nil)) (q_pickT rfl hb496) <| WL.p rfl rfl rfl (.s 16 rfl .nil) (q_assign rfl) <| WL.nil ?_
   exact QN.weaken (.one rfl (.nil _)) (Kj494 () (!t497) h)
  ·refine WL.skip (Unwanted.on rfl rfl rfl hb496) rfl rfl <| WL.skip (Unwanted.on rfl rfl rfl hb496) rfl rfl <| WL.skip (Unwanted.on rfl rfl rfl hb496) rfl rfl <| WL.skip (Unwanted.on rfl rfl rfl hb496) rfl rfl <| WL.skip (Unwanted.on rfl rfl rfl hb496) rfl rfl <| WL.p rfl rfl rfl (.s 10 rfl (.k .nil)) (q_pickF rfl hb496) <| WL.p rfl rfl rfl (.s 16 rfl .nil) (q_assign rfl) <| WL.nil ?_
   exact QN.weaken (.one rfl (.nil _)) (Kj494 () false h)
theorem search_valid.con (k : Nat) (a0 : Types) (a1 : Graph) (a2 : Graph) (r : Int) (h : search_valid k a0 a1 a2 = some r) : Con Tryz.prog 36 [] [AggA [SlcA kNodeType a0.fNodes, SlcA kEdgeType a0.fEdges], AggA [SlcA kInt a1.fNodes, SlcA kEdge a1.fEdges], AggA [SlcA kInt a2.fNodes, SlcA kEdge a2.fEdges]] (RA (EqA (.int .i64 r))) := by
 unfold search_valid at h
 refine Con.of (N := 44) Tryz.func36 rfl rfl rfl fun w0_ fg_ => W.seq <| W.region <| WL.p rfl rfl rfl (.s 0 rfl .nil) (q_box rfl (CellsOf.agg _)) <| WL.p rfl rfl rfl (.s 1 rfl .nil) (q_box rfl (CellsOf.agg _)) <| WL.p rfl rfl rfl (.s 2 rfl .nil) (q_box rfl (CellsOf.agg _)) <| WL.p rfl rfl rfl (.k .nil) (q_assign rfl) <| WL.nil <| QN.then_ <| W.seq <| W.seq <| W.region <| WL.p rfl rfl rfl (.s 3 rfl .nil) (q_loadS rfl sh25 (leB rfl) rfl) ?_
 obtain ⟨t498, ht498, h⟩ := bind_s h
 refine WL.p rfl rfl rfl (.s 13 rfl .nil) (q_call (f := 57) (A := TupA [EqA (strV t498.1), EqA (.int .i64 t498.2)]) (xs := [.tmp 13]) («as» := [AggA [SlcA kNodeType a0.fNodes, SlcA kEdgeType a0.fEdges]]) rfl ca57 (types_Valid.con k a0 t498 ht498) rfl) <| WL.p rfl rfl rfl (.s 14 rfl .nil) (q_move rfl) <| WL.p rfl rfl rfl (.s 12 rfl .nil) (q_extract rfl rfl) <| WL.p rfl rfl rfl (.s 12 rfl .nil) (q_extract rfl rfl) <| WL.p rfl rfl rfl (.s 15 rfl .nil) (q_assign rfl) <| WL.p rfl rfl rfl (.s 16 rfl .nil) (q_assign rfl) <| WL.nil <| QN.weaken (env' := [(8, _), (5, _), (4, _), (3, _)]) (.one rfl (.one rfl (.one rfl (.one rfl (.nil _))))) <| QN.then_ <| W.seq <| W.region <| WL.p rfl rfl rfl (.s 8 rfl .nil) (q_move rfl) <| WL.p rfl rfl rfl (.s 17 rfl (.k .nil)) (q_int rfl rfl) ?_
 refine WL.nil <| QN.then_ ?_
 refine W.condP h rfl (fun hb499 h => ?_) (fun hb499 h => ?_)
 ·refine W.seq <| W.region <| WL.p rfl rfl rfl (.s 8 rfl .nil) (q_move rfl) <| WL.p rfl rfl rfl (.s 19 rfl .nil) (q_assign rfl) <| WL.nil <| QN.weaken (env' := [(6, _)]) (.one rfl (.nil _)) <| QN.then_ <| W.ret <| QR.then_ ?_
  cases h
  exact QR.f1 rfl rfl (.t rfl) (.id _)
 ·refine W.skip <| QN.then_ <| W.seq <| W.seq <| W.region <| WL.p rfl rfl rfl (.s 4 rfl .nil) (q_loadS rfl sh29 (leB rfl) rfl) <| WL.p rfl rfl rfl (.s 5 rfl .nil) (q_loadS rfl sh29 (leB rfl) rfl) <| WL.p rfl rfl rfl (.s 20 rfl (.s 21 rfl .nil)) (q_lit (kd := kGraph) (ps := [(0, .tmp 20), (1, .tmp 21)]) (xs := [.tmp 20, .tmp 21]) («as» := [AggA [SlcA kInt a1.fNodes, SlcA kEdge a1.fEdges], AggA [SlcA kInt a2.fNodes, SlcA kEdge a2.fEdges]]) (ys := [a1, a2]) rfl rfl el100 rfl gr29 rfl rfl rfl (.cons (CellsOf.agg _) (.cons (CellsOf.agg _) .nil))) <| WL.p rfl rfl rfl (.s 22 rfl .nil) (q_len rfl elS100) <| WL.p rfl rfl rfl (.k .nil) (q_move rfl) <| WL.nil <| QN.then_ <| W.block ?_
  refine W.loop1 (Γ := Unit) (fun (_ : Unit) (x24 : Int) => [(3, PtrA [SlcA kNodeType a0.fNodes, SlcA kEdgeType a0.fEdges]), (4, PtrA [SlcA kInt a1.fNodes, SlcA kEdge a1.fEdges]), (5, PtrA [SlcA kInt a2.fNodes, SlcA kEdge a2.fEdges]), (22, SlcA kGraph [a1, a2]), (23, EqA (.int .i64 ([a1, a2].length : Int))), (24, EqA (.int .i64 x24))]) (fun (_ : Unit) (_ : Int) => []) h () (.one rfl (.one rfl (.one rfl (.one rfl (.one rfl (.one rfl (.nil _))))))) rfl (fun rec0 K0 next0 _ x24 h => ?_)
  unfold search_valid.b0 at h
  refine W.seq <| W.region <| WL.p rfl rfl rfl (.s 24 rfl (.s 23 rfl .nil)) (q_int rfl rfl) <| WL.nil <| QN.then_ <| W.seq ?_
  refine W.condP h rfl (fun hb530 h => ?_) (fun hb530 h => ?_)
  ·refine W.skip <| QN.then_ <| W.seq <| W.block <| W.seq <| W.region ?_
   obtain ⟨c531, h⟩ := ite_n h
   refine WL.p rfl rfl rfl (.s 22 rfl (.s 24 rfl .nil)) (q_index rfl el100 rfl c531.1 c531.2) <| WL.p rfl rfl rfl (.s 26 rfl .nil) (q_loadS rfl sh29 (leB rfl) rfl) <| WL.w [] rfl (Wanted.plain rfl) rfl rfl .nil (w_alloc rfl z29 (l := [EqA (.slice none 0 0), EqA (.slice none 0 0)]) rfl) ?_
   rintro _ _ ⟨b532, rfl, rfl⟩
   refine WL.w0 [0] rfl (Wanted.plain rfl) rfl (.s 10 rfl (.s 27 rfl .nil)) (w_store (L := [SlcA kInt ((rd [a1, a2] x24).fNodes), SlcA kEdge ((rd [a1, a2] x24).fEdges)]) rfl sh29 (CellsOf.agg _) rfl rfl (leB rfl) rfl) ?_
   rintro _ _ ⟨rfl, rfl⟩
   refine WL.nil <| QN.to (StTo.still [0] 10 rfl rfl) <| QN.then_ <| W.seq <| W.region <| WL.p rfl rfl rfl (.s 10 rfl .nil) (q_loadS rfl sh29 (leB rfl) rfl) ?_
   obtain ⟨t533, ht533, h⟩ := bind_s h
   refine WL.p rfl rfl rfl (.s 28 rfl .nil) (q_call (f := 58) (A := EqA (.int .i64 t533)) (xs := [.tmp 28]) («as» := [AggA [SlcA kInt ((rd [a1, a2] x24).fNodes), SlcA kEdge ((rd [a1, a2] x24).fEdges)]]) rfl ca58 (graph_Valid.con k (rd [a1, a2] x24) t533 ht533) rfl) <| WL.p rfl rfl rfl (.s 29 rfl .nil) (q_assign rfl) <| WL.nil <| QN.then_ <| W.seq <| W.region <| WL.p rfl rfl rfl (.s 11 rfl .nil) (q_move rfl) <| WL.p rfl rfl rfl (.s 30 rfl (.k .nil)) (q_int rfl rfl) <| WL.nil <| QN.weaken (env' := [(31, _), (11, _), (24, _), (23, _), (22, _), (5, _), (4, _), (3, _)]) (.one rfl (.one rfl (.one rfl (.one rfl (.one rfl (.one rfl (.one rfl (.one rfl (.nil _))))))))) <| QN.then_ ?_
   refine W.condP h rfl (fun hb534 h => ?_) (fun hb534 h => ?_)
   ·refine W.seq <| W.region <| WL.p rfl rfl rfl (.s 11 rfl .nil) (q_move rfl) <| WL.p rfl rfl rfl (.s 32 rfl .nil) (q_assign rfl) <| WL.nil <| QN.weaken (env' := [(6, _)]) (.one rfl (.nil _)) <| QN.then_ <| W.ret <| QR.block <| QR.then_ <| QR.then_ <| QR.block <| QR.then_ ?_
    cases h
    exact QR.f1 rfl rfl (.t rfl) (.id _)
   ·refine W.skip <| QN.block <| QN.then_ <| W.region ?_
    obtain ⟨c535, h⟩ := ite_n h
    refine WL.p rfl rfl rfl (.s 24 rfl (.k .nil)) (q_addR rfl c535) <| WL.p rfl rfl rfl (.s 33 rfl .nil) (q_move rfl) <| WL.nil ?_
    exact next0 () (x24 + 1) _ h (.one rfl (.one rfl (.one rfl (.one rfl (.one rfl (.one rfl (.nil _)))))))
  ·refine W.exit <| QX.then_ <| QX.then_ <| QX.here <| QN.then_ <| W.seq <| W.seq ?_
   refine W.jn1 (Γ := Unit) (fun (_ : Unit) (x43 : Bool) => [(43, EqA (.bool x43))]) (fun (_ : Unit) (_ : Bool) => []) h (fun _ x43 h => ?_) (fun j540 Kj540 h => ?_)
   ·refine QN.then_ ?_
    refine W.condP h rfl (fun hb541 h => ?_) (fun hb541 h => ?_)
    ·refine W.seq <| W.region <| WL.p rfl rfl rfl (.k .nil) (q_assign rfl) <| WL.nil <| QN.then_ <| W.ret <| QR.then_ ?_
     cases h
     exact QR.f1 rfl rfl (.t rfl) (.id _)
    ·refine W.skip <| QN.then_ <| W.seq <| W.region <| WL.p rfl rfl rfl (.k .nil) (q_assign rfl) <| WL.nil <| QN.then_ <| W.ret ?_
     cases h
     exact QR.f1 rfl rfl (.t rfl) (.id _)
   ·refine W.region <| WL.p rfl rfl rfl (.s 3 rfl .nil) (q_loadS rfl sh25 (leB rfl) rfl) <| WL.p rfl rfl rfl (.s 4 rfl .nil) (q_loadS rfl sh29 (leB rfl) rfl) ?_
    obtain ⟨t542, ht542, h⟩ := bind_s h
    refine WL.p rfl rfl rfl (.s 34 rfl (.s 35 rfl .nil)) (q_call (f := 59) (A := EqA (.bool t542)) (xs := [.tmp 34, .tmp 35]) («as» := [AggA [SlcA kNodeType a0.fNodes, SlcA kEdgeType a0.fEdges], AggA [SlcA kInt a1.fNodes, SlcA kEdge a1.fEdges]]) rfl ca59 (search_within.con k a0 a1 t542 ht542) rfl) <| WL.p rfl rfl rfl (.s 36 rfl .nil) (q_not rfl) <| WL.p rfl rfl rfl (.s 37 rfl .nil) (q_move rfl) ?_
    rcases bif_s h with ⟨hb543, h⟩ | ⟨hb543, h⟩
    ·refine WL.skip (Unwanted.on rfl rfl rfl hb543) rfl rfl <| WL.skip (Unwanted.on rfl rfl rfl hb543) rfl rfl <| WL.skip (Unwanted.on rfl rfl rfl hb543) rfl rfl <| WL.skip (Unwanted.on rfl rfl rfl hb543) rfl rfl <| WL.p rfl rfl rfl (.s 38 rfl (.k .nil)) (q_pickT rfl hb543) <| WL.nil ?_
     exact QN.weaken (.one rfl (.nil _)) (Kj540 () true h)
    ·refine WL.q (Wanted.on rfl rfl rfl hb543) rfl rfl (.s 3 rfl .nil) (q_loadS rfl sh25 (leB rfl) rfl).o <| WL.q (Wanted.on rfl rfl rfl hb543) rfl rfl (.s 5 rfl .nil) (q_loadS rfl sh29 (leB rfl) rfl).o ?_
     obtain ⟨t544, ht544, h⟩ := bind_s h
     refine WL.q (Wanted.on rfl rfl rfl hb543) rfl rfl (.s 39 rfl (.s 40 rfl .nil)) (q_call (f := 59) (A := EqA (.bool t544)) (xs := [.tmp 39, .tmp 40]) («as» := [AggA [SlcA kNodeType a0.fNodes, SlcA kEdgeType a0.fEdges], AggA [SlcA kInt a2.fNodes, SlcA kEdge a2.fEdges]]) rfl ca59 (search_within.con k a0 a2 t544 ht544) rfl).o <| WL.q (Wanted.on rfl rfl rfl hb543) rfl rfl (.s 41 rfl .nil) (q_not rfl).o <| WL.p rfl rfl rfl (.s 38 rfl (.s 42 rfl .nil)) (q_pickF rfl hb543) <| WL.nil ?_
     exact QN.weaken (.one rfl (.nil _)) (Kj540 () (!t544) h)
theorem types_given_1.con (k : Nat) (a0 : Int) (a1 : Types) (r : Bool) (h : types_given_1 k a0 a1 = some r) : Con Tryz.prog 127 [] [EqA (.int .i64 a0), PtrA [SlcA kNodeType a1.fNodes, SlcA kEdgeType a1.fEdges]] (RA (EqA (.bool r))) := by
 unfold types_given_1 at h
 refine Con.of (N := 13) Tryz.func127 rfl rfl rfl fun w0_ fg_ => W.seq <| W.region <| WL.p rfl rfl rfl (.k .nil) (q_assign rfl) <| WL.nil <| QN.then_ <| W.seq ?_
 refine W.jn1 (Γ := Unit) (fun (_ : Unit) (x3 : Bool) => [(3, EqA (.bool x3))]) (fun (_ : Unit) (_ : Bool) => []) h (fun _ x3 h => ?_) (fun j547 Kj547 h => ?_)
 ·refine QN.then_ <| W.ret ?_
  cases h
  exact QR.f1 rfl rfl (.t rfl) (.id _)
 ·refine W.region <| WL.p rfl rfl rfl (.s 0 rfl .nil) (q_move rfl) <| WL.p rfl rfl rfl (.s 4 rfl (.k .nil)) (q_int rfl rfl) <| WL.p rfl rfl rfl (.s 5 rfl .nil) (q_move rfl) ?_
  rcases bif_s h with ⟨hb548, h⟩ | ⟨hb548, h⟩
  ·refine WL.skip (Unwanted.on rfl rfl rfl hb548) rfl rfl <| WL.skip (Unwanted.on rfl rfl rfl hb548) rfl rfl <| WL.skip (Unwanted.on rfl rfl rfl hb548) rfl rfl <| WL.skip (Unwanted.on rfl rfl rfl hb548) rfl rfl <| WL.skip (Unwanted.on rfl rfl rfl hb548) rfl rfl <| WL.p rfl rfl rfl (.s 6 rfl (.k .nil)) (q_pickT rfl hb548) <| WL.p rfl rfl rfl (.s 12 rfl .nil) (q_assign rfl) <| WL.nil ?_
   exact QN.weaken (.one rfl (.nil _)) (Kj547 () true h)
  ·refine WL.q (Wanted.on rfl rfl rfl hb548) rfl rfl (.s 0 rfl .nil) (q_move rfl).o <| WL.q (Wanted.on rfl rfl rfl hb548) rfl rfl (.s 1 rfl .nil) (q_field rfl fo25_0 rfl).o <| WL.q (Wanted.on rfl rfl rfl hb548) rfl rfl (.s 8 rfl .nil) (q_load rfl sh22).o <| WL.q (Wanted.on rfl rfl rfl hb548) rfl rfl (.s 9 rfl .nil) (q_len rfl elS22).o <| WL.q (Wanted.on rfl rfl rfl hb548) rfl rfl (.s 7 rfl (.s 10 rfl .nil)) (q_int rfl rfl).o <| WL.p rfl rfl rfl (.s 6 rfl (.s 11 rfl .nil)) (q_pickF rfl hb548) <| WL.p rfl rfl rfl (.s 12 rfl .nil) (q_assign rfl) <| WL.nil ?_
   exact QN.weaken (.one rfl (.nil _)) (Kj547 () (decide (a0 ≥ (a1.fNodes.length : Int))) h)
theorem types_given.con (k : Nat) (a0 : Types) (a1 : (List Int)) (r : Int) (h : types_given k a0 a1 = some r) : Con Tryz.prog 113 [] [AggA [SlcA kNodeType a0.fNodes, SlcA kEdgeType a0.fEdges], SlcA kInt a1] (RA (EqA (.int .i64 r))) := by
 unfold types_given at h
 refine Con.of (N := 18) Tryz.func113 rfl rfl rfl fun w0_ fg_ => W.seq <| W.region <| WL.p rfl rfl rfl (.s 0 rfl .nil) (q_box rfl (CellsOf.agg _)) <| WL.p rfl rfl rfl (.k .nil) (q_assign rfl) <| WL.nil <| QN.then_ <| W.seq <| W.seq <| W.region <| WL.p rfl rfl rfl (.s 2 rfl .nil) (q_loadS rfl sh25 (leB rfl) rfl) ?_
 obtain ⟨t549, ht549, h⟩ := bind_s h
 refine WL.p rfl rfl rfl (.s 8 rfl .nil) (q_call (f := 57) (A := TupA [EqA (strV t549.1), EqA (.int .i64 t549.2)]) (xs := [.tmp 8]) («as» := [AggA [SlcA kNodeType a0.fNodes, SlcA kEdgeType a0.fEdges]]) rfl ca57 (types_Valid.con k a0 t549 ht549) rfl) <| WL.p rfl rfl rfl (.s 9 rfl .nil) (q_move rfl) <| WL.p rfl rfl rfl (.s 7 rfl .nil) (q_extract rfl rfl) <| WL.p rfl rfl rfl (.s 7 rfl .nil) (q_extract rfl rfl) <| WL.p rfl rfl rfl (.s 10 rfl .nil) (q_assign rfl) <| WL.p rfl rfl rfl (.s 11 rfl .nil) (q_assign rfl) <| WL.nil <| QN.weaken (env' := [(6, _), (2, _), (1, _)]) (.one rfl (.one rfl (.one rfl (.nil _)))) <| QN.then_ <| W.seq <| W.region <| WL.p rfl rfl rfl (.s 6 rfl .nil) (q_move rfl) <| WL.p rfl rfl rfl (.s 12 rfl (.k .nil)) (q_int rfl rfl) ?_
 refine WL.nil <| QN.then_ ?_
 refine W.condP h rfl (fun hb550 h => ?_) (fun hb550 h => ?_)
 ·refine W.seq <| W.region <| WL.p rfl rfl rfl (.s 6 rfl .nil) (q_move rfl) <| WL.p rfl rfl rfl (.s 14 rfl .nil) (q_assign rfl) <| WL.nil <| QN.then_ <| W.ret <| QR.then_ ?_
  cases h
  exact QR.f1 rfl rfl (.t rfl) (.id _)
 ·refine W.skip <| QN.then_ <| W.seq <| W.seq <| W.region <| WL.p rfl rfl rfl (.s 1 rfl .nil) (q_move rfl) <| WL.p rfl rfl rfl (.s 2 rfl .nil) (q_makeFunc (xs := [.tmp 2]) (L := [PtrA [SlcA kNodeType a0.fNodes, SlcA kEdgeType a0.fEdges]]) («as» := fun (x : Int) => [EqA (.int .i64 x)]) (res := fun (y : Bool) => EqA (.bool y)) (p := (fun x => types_given_1 k x a0)) rfl ca127 rfl (fun x y hp => (types_given_1.con k x a0 y hp))) ?_
  obtain ⟨t551, ht551, h⟩ := bind_s h
  refine WL.p rfl rfl rfl (.s 15 rfl (.s 16 rfl .nil)) (q_call (f := 65) (A := EqA (.bool t551)) (xs := [.tmp 15, .tmp 16]) («as» := [SlcA kInt a1, FnA Tryz.prog (fun (x : Int) => [EqA (.int .i64 x)]) (fun (y : Bool) => EqA (.bool y)) (fun x => types_given_1 k x a0)]) rfl ca65 (slices_ContainsFunc_int.con k a1 (fun x => types_given_1 k x a0) t551 ht551) rfl) <| WL.nil <| QN.weaken (env' := [(17, _)]) (.one rfl (.nil _)) <| QN.then_ ?_
  refine W.condP h rfl (fun hb552 h => ?_) (fun hb552 h => ?_)
  ·refine W.seq <| W.region <| WL.p rfl rfl rfl (.k .nil) (q_assign rfl) <| WL.nil <| QN.then_ <| W.ret <| QR.then_ ?_
   cases h
   exact QR.f1 rfl rfl (.t rfl) (.id _)
  ·refine W.skip <| QN.then_ <| W.seq <| W.region <| WL.p rfl rfl rfl (.k .nil) (q_assign rfl) <| WL.nil <| QN.then_ <| W.ret ?_
   cases h
   exact QR.f1 rfl rfl (.t rfl) (.id _)
theorem slices_Reverse_int.con (k : Nat) (w0 : Value) (a0 : (List Int)) (r : (List Int)) (h : slices_Reverse_int k a0 = some r) : Con Tryz.prog 145 [SlE 3 w0 kInt a0] [HdA w0] (fun O' A => O' = [SlE 3 w0 kInt r] ∧ A = TupA []) := by
 unfold slices_Reverse_int at h
 refine Con.of (N := 28) Tryz.func145 rfl rfl rfl fun w0_ fg_ => W.seq <| W.region <| WL.p rfl rfl rfl (.s 0 rfl .nil) (q_move rfl) <| WL.q (Wanted.plain rfl) rfl rfl (.s 4 rfl .nil) (q_lenO rfl elS26 (i := 0) rfl) ?_
 obtain ⟨c553, h⟩ := ite_n h
 refine WL.p rfl rfl rfl (.s 5 rfl (.k .nil)) (q_subR rfl c553) <| WL.p rfl rfl rfl (.k .nil) (q_assign rfl) <| WL.p rfl rfl rfl (.s 6 rfl .nil) (q_assign rfl) <| WL.nil <| QN.then_ <| W.block ?_
 refine W.loop3 (Γ := Unit) (fun (_ : Unit) (_ : (List Int)) (x2 : Int) (x3 : Int) => [(0, HdA w0), (2, EqA (.int .i64 x2)), (3, EqA (.int .i64 x3))]) (fun (_ : Unit) (x0 : (List Int)) (_ : Int) (_ : Int) => [SlE 3 w0 kInt x0]) h () (.one rfl (.one rfl (.one rfl (.nil _)))) rfl (fun rec0 K0 next0 _ x0 x2 x3 h => ?_)
 unfold slices_Reverse_int.b0 at h
 refine W.seq <| W.seq <| W.region <| WL.p rfl rfl rfl (.s 2 rfl .nil) (q_move rfl) <| WL.p rfl rfl rfl (.s 3 rfl .nil) (q_move rfl) <| WL.p rfl rfl rfl (.s 7 rfl (.s 8 rfl .nil)) (q_int rfl rfl) <| WL.nil <| QN.then_ ?_
 refine W.condP h rfl (fun hb584 h => ?_) (fun hb584 h => ?_)
 ·refine W.skip <| QN.then_ <| W.seq <| W.block <| W.drawK [(0, false), (1, false), (2, false), (3, false), (4, false), (5, false), (6, true), (7, true), (8, false), (9, false), (10, true), (11, true), (12, true)] [13, 14, 15] [[], [], [], [], [], [], [4, 5], [4, 5, 6], [], [], [8, 9], [8, 9, 10], [0, 1, 4, 5, 6, 7, 8, 9, 10, 11], [0, 1, 4, 5, 6, 7, 8, 9, 10, 11, 12], [0, 1, 2, 3, 4, 5, 6, 7, 8, 9, 10, 11, 12, 13], [0, 1, 2, 3, 4, 5, 6, 7, 8, 9, 10, 11, 12, 13, 14]] mx (by kernel_rfl) <| DK.cons rfl rfl (.p rfl (.s 0 rfl .nil) rfl (q_move rfl)) <| DK.cons rfl rfl (.p rfl (.s 2 rfl .nil) rfl (q_move rfl)) <| DK.cons rfl rfl (.p rfl (.s 0 rfl .nil) rfl (q_move rfl)) <| DK.cons rfl rfl (.p rfl (.s 3 rfl .nil) rfl (q_move rfl)) <| DK.cons rfl rfl (.p rfl (.s 0 rfl .nil) rfl (q_move rfl)) <| DK.cons rfl rfl (.p rfl (.s 3 rfl .nil) rfl (q_move rfl)) ?_
  obtain ⟨c593, h⟩ := ite_n h
  refine DK.cons rfl rfl (.o rfl (.s 18 rfl (.s 19 rfl .nil)) rfl (q_indexO rfl el26 (j := 0) rfl c593.1 c593.2)) <| DK.cons rfl rfl (.o rfl (.s 20 rfl .nil) rfl (q_loadEl rfl sh3 (j := 0) rfl rfl c593.1 c593.2 rfl)) <| DK.cons rfl rfl (.p rfl (.s 0 rfl .nil) rfl (q_move rfl)) <| DK.cons rfl rfl (.p rfl (.s 2 rfl .nil) rfl (q_move rfl)) ?_
  obtain ⟨c594, h⟩ := ite_n h
  refine DK.cons rfl rfl (.o rfl (.s 22 rfl (.s 23 rfl .nil)) rfl (q_indexO rfl el26 (j := 0) rfl c594.1 c594.2)) <| DK.cons rfl rfl (.o rfl (.s 24 rfl .nil) rfl (q_loadEl rfl sh3 (j := 0) rfl rfl c594.1 c594.2 rfl)) ?_
  obtain ⟨c595, h⟩ := ite_n h
  refine DK.cons rfl rfl (.o rfl (.s 14 rfl (.s 15 rfl .nil)) rfl (q_indexO rfl el26 (j := 0) rfl c595.1 c595.2)) ?_
  obtain ⟨c596, h⟩ := ite_n h
  refine DK.nil <| CSteps.w0 [0] rfl rfl rfl (.s 26 rfl (.s 21 rfl .nil)) rfl (w_storeEl (kd := kInt) (z := (rd x0 x3)) rfl sh3 (CellsOf.one rfl) rfl rfl rfl c595.1 c595.2 rfl rfl) ?_
  rintro _ _ ⟨rfl, rfl⟩
  refine CSteps.ro [0] rfl rfl rfl rfl (.s 16 rfl (.s 17 rfl .nil)) rfl (fun _ => (q_indexO rfl el26 (j := 0) rfl c596.1 c596.2)) <| CSteps.w0 [0] rfl rfl rfl (.s 27 rfl (.s 25 rfl .nil)) rfl (w_storeEl (kd := kInt) (z := (rd x0 x2)) rfl sh3 (CellsOf.one rfl) rfl rfl rfl c596.1 c596.2 rfl rfl) ?_
  rintro _ _ ⟨rfl, rfl⟩
  refine CSteps.nil <| QN.block <| QN.weaken (env' := [(3, _), (2, _), (0, _)]) (.one rfl (.one rfl (.one rfl (.nil _)))) <| QN.then_ <| W.region <| WL.p rfl rfl rfl (.s 2 rfl .nil) (q_move rfl) ?_
  obtain ⟨c597, h⟩ := ite_n h
  refine WL.p rfl rfl rfl (.s 10 rfl (.k .nil)) (q_addR rfl c597) <| WL.p rfl rfl rfl (.s 3 rfl .nil) (q_move rfl) ?_
  obtain ⟨c598, h⟩ := ite_n h
  refine WL.p rfl rfl rfl (.s 12 rfl (.k .nil)) (q_subR rfl c598) <| WL.p rfl rfl rfl (.s 11 rfl .nil) (q_assign rfl) <| WL.p rfl rfl rfl (.s 13 rfl .nil) (q_assign rfl) <| WL.nil ?_
  exact next0 () ((x0.set (x2 : Int).toNat (rd x0 x3)).set (x3 : Int).toNat (rd x0 x2)) (x2 + 1) (x3 - 1) _ h (.one rfl (.one rfl (.one rfl (.nil _))))
 ·refine W.exit <| QX.then_ <| QX.then_ <| QX.here ?_
  cases h
  exact QN.f0 rfl rfl ⟨rfl, rfl⟩
theorem types_line.con (k : Nat) (a0 : Types) (a1 : Int) (r : (List Int)) (h : types_line k a0 a1 = some r) : Con Tryz.prog 128 [] [AggA [SlcA kNodeType a0.fNodes, SlcA kEdgeType a0.fEdges], EqA (.int .i64 a1)] (RA (SlcA kInt r)) := by
 unfold types_line at h
 refine Con.of (N := 21) Tryz.func128 rfl rfl rfl fun w0_ fg_ => W.seq <| W.region <| WL.p rfl rfl rfl (.s 0 rfl .nil) (q_box rfl (CellsOf.agg _)) <| WL.p rfl rfl rfl (.k .nil) (q_assign rfl) <| WL.nil <| QN.then_ <| W.seq <| W.region <| WL.p rfl rfl rfl (.k .nil) (q_assign rfl) <| WL.nil <| QN.then_ <| W.seq ?_
 refine W.block <| W.to (StTo.newNil 3 kInt) <| W.to (StTo.as 5 rfl Imp.nilHd) ?_
 refine W.loop2 (Γ := Value) (fun (g0 : Value) (x1 : Int) (_ : (List Int)) => [(1, EqA (.int .i64 x1)), (2, PtrA [SlcA kNodeType a0.fNodes, SlcA kEdgeType a0.fEdges]), (5, HdA g0)]) (fun (g0 : Value) (_ : Int) (x5 : (List Int)) => [SlE 3 g0 kInt x5]) h (.slice none 0 0) (.one rfl (.one rfl (.one rfl (.nil _)))) rfl (fun rec0 K0 next0 g0 x1 x5 h => ?_)
 unfold types_line.b0 at h
 refine W.seq <| W.seq <| W.region <| WL.p rfl rfl rfl (.s 1 rfl .nil) (q_move rfl) <| WL.p rfl rfl rfl (.s 6 rfl (.k .nil)) (q_int rfl rfl) <| WL.nil <| QN.then_ ?_
 refine W.condP h rfl (fun hb617 h => ?_) (fun hb617 h => ?_)
 ·refine W.skip <| QN.then_ <| W.seq <| W.block <| W.region <| WL.p rfl rfl rfl (.s 5 rfl .nil) (q_move rfl) <| WL.p rfl rfl rfl (.s 1 rfl .nil) (q_move rfl) <| WL.p rfl rfl rfl (.s 15 rfl .nil) (q_lit (kd := kInt) (ps := [(0, .tmp 15)]) (xs := [.tmp 15]) («as» := [EqA (.int .i64 x1)]) (ys := [x1]) rfl rfl el26 rfl gr3 rfl rfl rfl (.cons (CellsOf.one rfl) .nil)) ?_
  obtain ⟨c618, h⟩ := ite_n h
  refine WL.w [0] rfl (Wanted.plain rfl) rfl rfl (.s 14 rfl (.s 16 rfl .nil)) (w_append (kd := kInt) rfl el26 rfl gr3 c618) ?_
  rintro _ _ ⟨v619, rfl, rfl⟩
  refine WL.p rfl rfl rfl (.s 17 rfl .nil) (q_assign rfl) <| WL.nil <| QN.block <| QN.then_ <| W.region <| WL.p rfl rfl rfl (.s 2 rfl .nil) (q_field rfl fo25_0 rfl) <| WL.p rfl rfl rfl (.s 8 rfl .nil) (q_load rfl sh22) <| WL.p rfl rfl rfl (.s 1 rfl .nil) (q_move rfl) ?_
  obtain ⟨c620, h⟩ := ite_n h
  refine WL.p rfl rfl rfl (.s 9 rfl (.s 10 rfl .nil)) (q_index rfl el22 rfl c620.1 c620.2) <| WL.p rfl rfl rfl (.s 11 rfl .nil) (q_field rfl fo94_1 rfl) <| WL.p rfl rfl rfl (.s 12 rfl .nil) (q_load rfl sh3) <| WL.p rfl rfl rfl (.s 13 rfl .nil) (q_assign rfl) <| WL.nil ?_
  exact next0 v619 ((rd a0.fNodes x1).fParent) (x5 ++ [x1]) _ h (.one rfl (.one rfl (.one rfl (.nil _))))
 ·refine W.exit <| QX.then_ <| QX.then_ <| QX.here <| QN.then_ <| W.seq <| W.region <| WL.p rfl rfl rfl (.s 5 rfl .nil) (q_move rfl) ?_
  obtain ⟨t621, ht621, h⟩ := bind_s h
  refine WL.w [0] rfl (Wanted.plain rfl) rfl rfl (.s 18 rfl .nil) (w_callI (f := 145) (xs := [.tmp 18]) («as» := [HdA g0]) rfl ca145 (slices_Reverse_int.con k g0 x5 t621 ht621) rfl (.cons (Imp.id _) .nil)) ?_
  rintro _ _ ⟨rfl, rfl⟩
  refine WL.nil <| QN.then_ <| W.seq <| W.region <| WL.p rfl rfl rfl (.s 5 rfl .nil) (q_move rfl) <| WL.p rfl rfl rfl (.s 20 rfl .nil) (q_assign rfl) <| WL.nil <| QN.weaken (env' := [(4, _)]) (.one rfl (.nil _)) <| QN.then_ <| W.ret ?_
  cases h
  exact QR.f1 rfl rfl (.t rfl) (.slc 0 rfl)
theorem slices_Index_int.con (k : Nat) (a0 : (List Int)) (a1 : Int) (r : Int) (h : slices_Index_int k a0 a1 = some r) : Con Tryz.prog 115 [] [SlcA kInt a0, EqA (.int .i64 a1)] (RA (EqA (.int .i64 r))) := by
 unfold slices_Index_int at h
 refine Con.of (N := 19) Tryz.func115 rfl rfl rfl fun w0_ fg_ => W.seq <| W.region <| WL.p rfl rfl rfl (.k .nil) (q_assign rfl) <| WL.nil <| QN.then_ <| W.seq <| W.seq <| W.region <| WL.p rfl rfl rfl (.s 0 rfl .nil) (q_move rfl) <| WL.p rfl rfl rfl (.s 6 rfl .nil) (q_len rfl elS26) <| WL.p rfl rfl rfl (.k .nil) (q_move rfl) <| WL.nil ?_
 refine QN.then_ <| W.block ?_
 refine W.loop1 (Γ := Unit) (fun (_ : Unit) (x8 : Int) => [(0, SlcA kInt a0), (1, EqA (.int .i64 a1)), (7, EqA (.int .i64 (a0.length : Int))), (8, EqA (.int .i64 x8))]) (fun (_ : Unit) (_ : Int) => []) h () (.one rfl (.one rfl (.one rfl (.one rfl (.nil _))))) rfl (fun rec0 K0 next0 _ x8 h => ?_)
 unfold slices_Index_int.b0 at h
 refine W.seq <| W.region <| WL.p rfl rfl rfl (.s 8 rfl (.s 7 rfl .nil)) (q_int rfl rfl) <| WL.nil <| QN.then_ <| W.seq ?_
 refine W.condP h rfl (fun hb630 h => ?_) (fun hb630 h => ?_)
 ·refine W.skip <| QN.then_ <| W.seq <| W.block <| W.seq <| W.region <| WL.p rfl rfl rfl (.s 8 rfl .nil) (q_move rfl) <| WL.p rfl rfl rfl (.s 10 rfl .nil) (q_assign rfl) <| WL.nil <| QN.then_ <| W.seq <| W.region <| WL.p rfl rfl rfl (.s 1 rfl .nil) (q_move rfl) ?_
  refine WL.p rfl rfl rfl (.s 0 rfl .nil) (q_move rfl) <| WL.p rfl rfl rfl (.s 5 rfl .nil) (q_move rfl) ?_
  obtain ⟨c631, h⟩ := ite_n h
  refine WL.p rfl rfl rfl (.s 12 rfl (.s 13 rfl .nil)) (q_index rfl el26 rfl c631.1 c631.2) <| WL.p rfl rfl rfl (.s 14 rfl .nil) (q_load rfl sh3) <| WL.p rfl rfl rfl (.s 11 rfl (.s 15 rfl .nil)) (q_int rfl rfl) <| WL.nil <| QN.weaken (env' := [(16, _), (5, _), (8, _), (7, _), (1, _), (0, _)]) (.one rfl (.one rfl (.one rfl (.one rfl (.one rfl (.one rfl (.nil _))))))) <| QN.then_ ?_
  refine W.condP h rfl (fun hb632 h => ?_) (fun hb632 h => ?_)
  ·refine W.seq <| W.region <| WL.p rfl rfl rfl (.s 5 rfl .nil) (q_move rfl) <| WL.p rfl rfl rfl (.s 17 rfl .nil) (q_assign rfl) <| WL.nil <| QN.weaken (env' := [(4, _)]) (.one rfl (.nil _)) <| QN.then_ <| W.ret <| QR.block <| QR.then_ <| QR.then_ <| QR.block <| QR.then_ ?_
   cases h
   exact QR.f1 rfl rfl (.t rfl) (.id _)
  ·refine W.skip <| QN.block <| QN.then_ <| W.region ?_
   obtain ⟨c633, h⟩ := ite_n h
   refine WL.p rfl rfl rfl (.s 8 rfl (.k .nil)) (q_addR rfl c633) <| WL.p rfl rfl rfl (.s 18 rfl .nil) (q_move rfl) <| WL.nil ?_
   exact next0 () (x8 + 1) _ h (.one rfl (.one rfl (.one rfl (.one rfl (.nil _)))))
 ·refine W.exit <| QX.then_ <| QX.then_ <| QX.here <| QN.then_ <| W.seq <| W.region <| WL.p rfl rfl rfl (.k .nil) (q_assign rfl) <| WL.nil <| QN.then_ <| W.ret ?_
  cases h
  exact QR.f1 rfl rfl (.t rfl) (.id _)
end Go.Proofs.YtelpgjfojhcjcaaGreat
