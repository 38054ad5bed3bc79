/- The Go functions compute the pure ones. (Printed by gen.py.) -/
import Derived.Test.YtcgdfjpeboiioaaGreatC2
namespace Go.Proofs.YtcgdfjpeboiioaaGreat
open Go Go.Abs
attribute [local irreducible] Tryz.prog
theorem types_Valid.con (k : Nat) (a0 : Types) (r : (Str × Int)) (h : types_Valid k a0 = some r) : Con Tryz.prog 49 [] [AggA [SlcA kNodeType a0.fNodes, SlcA kEdgeType a0.fEdges]] (RA (TupA [EqA (strV r.1), EqA (.int .i64 r.2)])) := by
 unfold types_Valid at h
 refine Con.of (N := 60) Tryz.func49 rfl rfl rfl fun w0_ fg_ => W.seq <| W.region <| WL.p rfl rfl rfl (.s 0 rfl .nil) (q_box rfl (CellsOf.agg _)) <| WL.p rfl rfl rfl (.k .nil) (q_assign rfl) <| WL.p rfl rfl rfl (.k .nil) (q_assign rfl) <| WL.nil <| QN.then_ <| W.seq <| W.block <| W.seq <| W.region <| WL.p rfl rfl rfl (.s 1 rfl .nil) (q_field rfl fo35_0 rfl) ?_
 refine WL.p rfl rfl rfl (.s 11 rfl .nil) (q_load rfl sh32) <| WL.p rfl rfl rfl (.s 12 rfl .nil) (q_len rfl elS32) <| WL.p rfl rfl rfl (.s 13 rfl (.k .nil)) (q_int rfl rfl) <| WL.p rfl rfl rfl (.s 14 rfl .nil) (q_assign rfl) <| WL.nil <| QN.weaken (env' := [(10, _), (1, _)]) (.one rfl (.one rfl (.nil _))) <| QN.then_ ?_
 refine W.condP h rfl (fun hb350 h => ?_) (fun hb350 h => ?_)
 ·refine W.seq <| W.region <| WL.p rfl rfl rfl (.k .nil) (q_assign rfl) <| WL.p rfl rfl rfl (.k .nil) (q_assign rfl) <| WL.nil <| QN.then_ <| W.ret <| QR.block <| QR.then_ ?_
  cases h
  exact QR.f2 rfl rfl (.t rfl) (.t rfl) (.id _)
 ·refine W.seq ?_
  refine W.jn1 (Γ := Unit) (fun (_ : Unit) (x15 : Bool) => [(1, PtrA [SlcA kNodeType a0.fNodes, SlcA kEdgeType a0.fEdges]), (15, EqA (.bool x15))]) (fun (_ : Unit) (_ : Bool) => []) h (fun _ x15 h => ?_) (fun j353 Kj353 h => ?_)
  ·refine QN.then_ ?_
   refine W.condP h rfl (fun hb354 h => ?_) (fun hb354 h => ?_)
   ·refine W.seq <| W.region <| WL.p rfl rfl rfl (.k .nil) (q_assign rfl) <| WL.p rfl rfl rfl (.k .nil) (q_assign rfl) <| WL.nil <| QN.then_ <| W.ret <| QR.block <| QR.then_ ?_
    cases h
    exact QR.f2 rfl rfl (.t rfl) (.t rfl) (.id _)
   ·refine W.skip <| QN.block <| QN.then_ <| W.seq <| W.seq <| W.region <| WL.p rfl rfl rfl (.s 1 rfl .nil) (q_field rfl fo35_0 rfl) <| WL.p rfl rfl rfl (.s 26 rfl .nil) (q_load rfl sh32) <| WL.p rfl rfl rfl (.s 27 rfl .nil) (q_len rfl elS32) <| WL.p rfl rfl rfl (.k .nil) (q_move rfl) <| WL.nil <| QN.then_ <| W.block ?_
    refine W.loop1 (Γ := Unit) (fun (_ : Unit) (x29 : Int) => [(1, PtrA [SlcA kNodeType a0.fNodes, SlcA kEdgeType a0.fEdges]), (27, SlcA kNodeType a0.fNodes), (28, EqA (.int .i64 (a0.fNodes.length : Int))), (29, EqA (.int .i64 x29))]) (fun (_ : Unit) (_ : Int) => []) h () (.one rfl (.one rfl (.one rfl (.one rfl (.nil _))))) rfl (fun rec0 K0 next0 _ x29 h => ?_)
    unfold types_Valid.b0 at h
    refine W.seq <| W.region <| WL.p rfl rfl rfl (.s 29 rfl (.s 28 rfl .nil)) (q_int rfl rfl) <| WL.nil <| QN.then_ <| W.seq ?_
    refine W.condP h rfl (fun hb403 h => ?_) (fun hb403 h => ?_)
    ·refine W.skip <| QN.then_ <| W.seq <| W.block <| W.seq <| W.region <| WL.p rfl rfl rfl (.s 29 rfl .nil) (q_move rfl) ?_
     obtain ⟨c404, h⟩ := ite_n h
     refine WL.p rfl rfl rfl (.s 27 rfl (.s 29 rfl .nil)) (q_index rfl el32 rfl c404.1 c404.2) <| WL.p rfl rfl rfl (.s 32 rfl .nil) (q_loadS rfl sh92 (leB rfl) rfl) <| WL.w [] rfl (Wanted.plain rfl) rfl rfl .nil (w_alloc rfl z92 (l := [EqA (strV ([] : Str)), EqA (.int .i64 0), EqA (.bool false), EqA (.slice none 0 0)]) rfl) ?_
     rintro _ _ ⟨b405, rfl, rfl⟩
     refine WL.p rfl rfl rfl (.s 31 rfl .nil) (q_assign rfl) <| WL.w0 [0] rfl (Wanted.plain rfl) rfl (.s 5 rfl (.s 33 rfl .nil)) (w_store (L := [EqA (strV ((rd a0.fNodes x29).fName)), EqA (.int .i64 ((rd a0.fNodes x29).fParent)), EqA (.bool ((rd a0.fNodes x29).fAbstract)), SlcA kAttr ((rd a0.fNodes x29).fAttrs)]) rfl sh92 (CellsOf.agg _) rfl rfl (leB rfl) rfl) ?_
     rintro _ _ ⟨rfl, rfl⟩
     refine WL.nil <| QN.to (StTo.still [0] 5 rfl rfl) <| QN.then_ <| W.seq <| W.region <| WL.p rfl rfl rfl (.s 1 rfl .nil) (q_loadS rfl sh35 (leB rfl) rfl) <| WL.p rfl rfl rfl (.s 4 rfl .nil) (q_move rfl) ?_
     obtain ⟨t406, ht406, h⟩ := bind_s h
     refine WL.p rfl rfl rfl (.s 34 rfl (.s 35 rfl .nil)) (q_call (f := 101) (A := EqA (.int .i64 t406)) (xs := [.tmp 34, .tmp 35]) («as» := [AggA [SlcA kNodeType a0.fNodes, SlcA kEdgeType a0.fEdges], EqA (.int .i64 x29)]) rfl ca101 (types_node.con k a0 x29 t406 ht406) rfl) <| WL.p rfl rfl rfl (.s 36 rfl .nil) (q_assign rfl) <| WL.nil <| QN.weaken (env' := [(6, _), (5, _), (29, _), (28, _), (27, _), (1, _)]) (.one rfl (.one rfl (.one rfl (.one rfl (.one rfl (.one rfl (.nil _))))))) <| QN.then_ <| W.seq <| W.region <| WL.p rfl rfl rfl (.s 6 rfl .nil) (q_move rfl) <| WL.p rfl rfl rfl (.s 37 rfl (.k .nil)) (q_int rfl rfl) <| WL.nil <| QN.then_ ?_
     refine W.condP h rfl (fun hb407 h => ?_) (fun hb407 h => ?_)
     ·refine W.seq <| W.region <| WL.p rfl rfl rfl (.s 5 rfl .nil) (q_field rfl fo92_0 rfl) <| WL.p rfl rfl rfl (.s 39 rfl .nil) (q_load rfl sh9) <| WL.p rfl rfl rfl (.s 6 rfl .nil) (q_move rfl) <| WL.p rfl rfl rfl (.s 40 rfl .nil) (q_assign rfl) <| WL.p rfl rfl rfl (.s 41 rfl .nil) (q_assign rfl) <| WL.nil <| QN.weaken (env' := [(3, _), (2, _)]) (.one rfl (.one rfl (.nil _))) <| QN.then_ <| W.ret <| QR.block <| QR.then_ ?_
      refine QR.then_ <| QR.block <| QR.then_ ?_
      cases h
      exact QR.f2 rfl rfl (.t rfl) (.t rfl) (.id _)
     ·refine W.skip <| QN.block <| QN.then_ <| W.region ?_
      obtain ⟨c408, h⟩ := ite_n h
      refine WL.p rfl rfl rfl (.s 29 rfl (.k .nil)) (q_addR rfl c408) <| WL.p rfl rfl rfl (.s 42 rfl .nil) (q_move rfl) <| WL.nil ?_
      exact next0 () (x29 + 1) _ h (.one rfl (.one rfl (.one rfl (.one rfl (.nil _)))))
    ·refine W.exit <| QX.then_ <| QX.then_ <| QX.here <| QN.then_ <| W.seq <| W.seq <| W.region <| WL.p rfl rfl rfl (.s 1 rfl .nil) (q_field rfl fo35_1 rfl) <| WL.p rfl rfl rfl (.s 43 rfl .nil) (q_load rfl sh33) <| WL.p rfl rfl rfl (.s 44 rfl .nil) (q_len rfl elS33) <| WL.p rfl rfl rfl (.k .nil) (q_move rfl) <| WL.nil ?_
     refine QN.then_ <| W.block ?_
     refine W.loop1 (Γ := Unit) (fun (_ : Unit) (x46 : Int) => [(1, PtrA [SlcA kNodeType a0.fNodes, SlcA kEdgeType a0.fEdges]), (44, SlcA kEdgeType a0.fEdges), (45, EqA (.int .i64 (a0.fEdges.length : Int))), (46, EqA (.int .i64 x46))]) (fun (_ : Unit) (_ : Int) => []) h () (.one rfl (.one rfl (.one rfl (.one rfl (.nil _))))) rfl (fun rec1 K1 next1 _ x46 h => ?_)
     unfold types_Valid.b1 at h
     refine W.seq <| W.region <| WL.p rfl rfl rfl (.s 46 rfl (.s 45 rfl .nil)) (q_int rfl rfl) <| WL.nil <| QN.then_ <| W.seq ?_
     refine W.condP h rfl (fun hb421 h => ?_) (fun hb421 h => ?_)
     ·refine W.skip <| QN.then_ <| W.seq <| W.block <| W.seq <| W.region <| WL.p rfl rfl rfl (.s 46 rfl .nil) (q_move rfl) ?_
      obtain ⟨c422, h⟩ := ite_n h
      refine WL.p rfl rfl rfl (.s 44 rfl (.s 46 rfl .nil)) (q_index rfl el33 rfl c422.1 c422.2) <| WL.p rfl rfl rfl (.s 49 rfl .nil) (q_loadS rfl sh97 (leB rfl) rfl) <| WL.w [] rfl (Wanted.plain rfl) rfl rfl .nil (w_alloc rfl z97 (l := [EqA (strV ([] : Str)), EqA (.int .i64 0), EqA (.int .i64 0), EqA (.int .i64 0), EqA (.int .i64 0), EqA (.int .i64 0), EqA (.int .i64 0)]) rfl) ?_
      rintro _ _ ⟨b423, rfl, rfl⟩
      refine WL.p rfl rfl rfl (.s 48 rfl .nil) (q_assign rfl) <| WL.w0 [0] rfl (Wanted.plain rfl) rfl (.s 8 rfl (.s 50 rfl .nil)) (w_store (L := [EqA (strV ((rd a0.fEdges x46).fName)), EqA (.int .i64 ((rd a0.fEdges x46).fFrom)), EqA (.int .i64 ((rd a0.fEdges x46).fTo)), EqA (.int .i64 ((rd a0.fEdges x46).fOutLow)), EqA (.int .i64 ((rd a0.fEdges x46).fOutHigh)), EqA (.int .i64 ((rd a0.fEdges x46).fInLow)), EqA (.int .i64 ((rd a0.fEdges x46).fInHigh))]) rfl sh97 (CellsOf.agg _) rfl rfl (leB rfl) rfl) ?_
      rintro _ _ ⟨rfl, rfl⟩
      refine WL.nil <| QN.to (StTo.still [0] 8 rfl rfl) <| QN.then_ <| W.seq <| W.region <| WL.p rfl rfl rfl (.s 1 rfl .nil) (q_loadS rfl sh35 (leB rfl) rfl) <| WL.p rfl rfl rfl (.s 7 rfl .nil) (q_move rfl) ?_
      obtain ⟨t424, ht424, h⟩ := bind_s h
      refine WL.p rfl rfl rfl (.s 51 rfl (.s 52 rfl .nil)) (q_call (f := 102) (A := EqA (.int .i64 t424)) (xs := [.tmp 51, .tmp 52]) («as» := [AggA [SlcA kNodeType a0.fNodes, SlcA kEdgeType a0.fEdges], EqA (.int .i64 x46)]) rfl ca102 (types_edge.con k a0 x46 t424 ht424) rfl) <| WL.p rfl rfl rfl (.s 53 rfl .nil) (q_assign rfl) <| WL.nil <| QN.weaken (env' := [(9, _), (8, _), (46, _), (45, _), (44, _), (1, _)]) (.one rfl (.one rfl (.one rfl (.one rfl (.one rfl (.one rfl (.nil _))))))) <| QN.then_ <| W.seq <| W.region <| WL.p rfl rfl rfl (.s 9 rfl .nil) (q_move rfl) <| WL.p rfl rfl rfl (.s 54 rfl (.k .nil)) (q_int rfl rfl) <| WL.nil <| QN.then_ ?_
      refine W.condP h rfl (fun hb425 h => ?_) (fun hb425 h => ?_)
      ·refine W.seq <| W.region <| WL.p rfl rfl rfl (.s 8 rfl .nil) (q_field rfl fo97_0 rfl) <| WL.p rfl rfl rfl (.s 56 rfl .nil) (q_load rfl sh9) <| WL.p rfl rfl rfl (.s 9 rfl .nil) (q_move rfl) <| WL.p rfl rfl rfl (.s 57 rfl .nil) (q_assign rfl) <| WL.p rfl rfl rfl (.s 58 rfl .nil) (q_assign rfl) <| WL.nil <| QN.weaken (env' := [(3, _), (2, _)]) (.one rfl (.one rfl (.nil _))) <| QN.then_ <| W.ret <| QR.block <| QR.then_ ?_
       refine QR.then_ <| QR.block <| QR.then_ ?_
       cases h
       exact QR.f2 rfl rfl (.t rfl) (.t rfl) (.id _)
      ·refine W.skip <| QN.block <| QN.then_ <| W.region ?_
       obtain ⟨c426, h⟩ := ite_n h
       refine WL.p rfl rfl rfl (.s 46 rfl (.k .nil)) (q_addR rfl c426) <| WL.p rfl rfl rfl (.s 59 rfl .nil) (q_move rfl) <| WL.nil ?_
       exact next1 () (x46 + 1) _ h (.one rfl (.one rfl (.one rfl (.one rfl (.nil _)))))
     ·refine W.exit <| QX.then_ <| QX.then_ <| QX.here <| QN.then_ <| W.seq <| W.region <| WL.p rfl rfl rfl (.k .nil) (q_assign rfl) <| WL.p rfl rfl rfl (.k .nil) (q_assign rfl) <| WL.nil <| QN.then_ <| W.ret ?_
      cases h
      exact QR.f2 rfl rfl (.t rfl) (.t rfl) (.id _)
  ·refine W.region <| WL.p rfl rfl rfl (.s 1 rfl .nil) (q_field rfl fo35_0 rfl) <| WL.p rfl rfl rfl (.s 16 rfl .nil) (q_load rfl sh32) <| WL.p rfl rfl rfl (.s 17 rfl .nil) (q_len rfl elS32) <| WL.p rfl rfl rfl (.s 18 rfl (.k .nil)) (q_int rfl rfl) <| WL.p rfl rfl rfl (.s 19 rfl .nil) (q_move rfl) ?_
   rcases bif_s h with ⟨hb427, h⟩ | ⟨hb427, h⟩
   ·refine WL.skip (Unwanted.on rfl rfl rfl hb427) rfl rfl <| WL.skip (Unwanted.on rfl rfl rfl hb427) rfl rfl <| WL.skip (Unwanted.on rfl rfl rfl hb427) rfl rfl <| WL.skip (Unwanted.on rfl rfl rfl hb427) rfl rfl <| WL.p rfl rfl rfl (.s 20 rfl (.k .nil)) (q_pickT rfl hb427) <| WL.p rfl rfl rfl (.s 25 rfl .nil) (q_assign rfl) <| WL.nil ?_
    exact QN.weaken (.one rfl (.one rfl (.nil _))) (Kj353 () true h)
   ·refine WL.q (Wanted.on rfl rfl rfl hb427) rfl rfl (.s 1 rfl .nil) (q_field rfl fo35_1 rfl).o <| WL.q (Wanted.on rfl rfl rfl hb427) rfl rfl (.s 21 rfl .nil) (q_load rfl sh33).o <| WL.q (Wanted.on rfl rfl rfl hb427) rfl rfl (.s 22 rfl .nil) (q_len rfl elS33).o <| WL.q (Wanted.on rfl rfl rfl hb427) rfl rfl (.s 23 rfl (.k .nil)) (q_int rfl rfl).o <| WL.p rfl rfl rfl (.s 20 rfl (.s 24 rfl .nil)) (q_pickF rfl hb427) <| WL.p rfl rfl rfl (.s 25 rfl .nil) (q_assign rfl) <| WL.nil ?_
    exact QN.weaken (.one rfl (.one rfl (.nil _))) (Kj353 () (decide ((a0.fEdges.length : Int) > 20)) h)
theorem slices_IndexFunc_int.con (k : Nat) (a0 : (List Int)) (a1 : (Int → Option Bool)) (r : Int) (h : slices_IndexFunc_int k a0 a1 = some r) : Con Tryz.prog 107 [] [SlcA kInt a0, FnA Tryz.prog (fun (x : Int) => [EqA (.int .i64 x)]) (fun (y : Bool) => EqA (.bool y)) a1] (RA (EqA (.int .i64 r))) := by
 unfold slices_IndexFunc_int at h
 refine Con.of (N := 19) Tryz.func107 rfl rfl rfl fun w0_ fg_ => W.seq <| W.region <| WL.p rfl rfl rfl (.k .nil) (q_assign rfl) <| WL.nil <| QN.then_ <| W.seq <| W.seq <| W.region <| WL.p rfl rfl rfl (.s 0 rfl .nil) (q_move rfl) <| WL.p rfl rfl rfl (.s 6 rfl .nil) (q_len rfl elS26) <| WL.p rfl rfl rfl (.k .nil) (q_move rfl) <| WL.nil ?_
 refine QN.then_ <| W.block ?_
 refine W.loop1 (Γ := Unit) (fun (_ : Unit) (x8 : Int) => [(0, SlcA kInt a0), (1, FnA Tryz.prog (fun (x : Int) => [EqA (.int .i64 x)]) (fun (y : Bool) => EqA (.bool y)) a1), (7, EqA (.int .i64 (a0.length : Int))), (8, EqA (.int .i64 x8))]) (fun (_ : Unit) (_ : Int) => []) h () (.one rfl (.one rfl (.one rfl (.one rfl (.nil _))))) rfl (fun rec0 K0 next0 _ x8 h => ?_)
 unfold slices_IndexFunc_int.b0 at h
 refine W.seq <| W.region <| WL.p rfl rfl rfl (.s 8 rfl (.s 7 rfl .nil)) (q_int rfl rfl) <| WL.nil <| QN.then_ <| W.seq ?_
 refine W.condP h rfl (fun hb438 h => ?_) (fun hb438 h => ?_)
 ·refine W.skip <| QN.then_ <| W.seq <| W.block <| W.seq <| W.region <| WL.p rfl rfl rfl (.s 8 rfl .nil) (q_move rfl) <| WL.p rfl rfl rfl (.s 10 rfl .nil) (q_assign rfl) <| WL.nil <| QN.then_ <| W.seq <| W.region <| WL.p rfl rfl rfl (.s 1 rfl .nil) (q_move rfl) ?_
  refine WL.p rfl rfl rfl (.s 0 rfl .nil) (q_move rfl) <| WL.p rfl rfl rfl (.s 5 rfl .nil) (q_move rfl) ?_
  obtain ⟨c439, h⟩ := ite_n h
  refine WL.p rfl rfl rfl (.s 12 rfl (.s 13 rfl .nil)) (q_index rfl el26 rfl c439.1 c439.2) <| WL.p rfl rfl rfl (.s 14 rfl .nil) (q_load rfl sh3) ?_
  obtain ⟨t440, ht440, h⟩ := bind_s h
  refine WL.p rfl rfl rfl (.s 11 rfl (.s 15 rfl .nil)) (q_callV («as» := (fun (x : Int) => [EqA (.int .i64 x)])) (res := (fun (y : Bool) => EqA (.bool y))) (x := (rd a0 x8)) (y := t440) (xs := [.tmp 15]) rfl ht440 rfl) <| WL.nil <| QN.weaken (env' := [(16, _), (5, _), (8, _), (7, _), (1, _), (0, _)]) (.one rfl (.one rfl (.one rfl (.one rfl (.one rfl (.one rfl (.nil _))))))) <| QN.then_ ?_
  refine W.condP h rfl (fun hb441 h => ?_) (fun hb441 h => ?_)
  ·refine W.seq <| W.region <| WL.p rfl rfl rfl (.s 5 rfl .nil) (q_move rfl) <| WL.p rfl rfl rfl (.s 17 rfl .nil) (q_assign rfl) <| WL.nil <| QN.weaken (env' := [(4, _)]) (.one rfl (.nil _)) <| QN.then_ <| W.ret <| QR.block <| QR.then_ <| QR.then_ <| QR.block <| QR.then_ ?_
   cases h
   exact QR.f1 rfl rfl (.t rfl) (.id _)
  ·refine W.skip <| QN.block <| QN.then_ <| W.region ?_
   obtain ⟨c442, h⟩ := ite_n h
   refine WL.p rfl rfl rfl (.s 8 rfl (.k .nil)) (q_addR rfl c442) <| WL.p rfl rfl rfl (.s 18 rfl .nil) (q_move rfl) <| WL.nil ?_
   exact next0 () (x8 + 1) _ h (.one rfl (.one rfl (.one rfl (.one rfl (.nil _)))))
 ·refine W.exit <| QX.then_ <| QX.then_ <| QX.here <| QN.then_ <| W.seq <| W.region <| WL.p rfl rfl rfl (.k .nil) (q_assign rfl) <| WL.nil <| QN.then_ <| W.ret ?_
  cases h
  exact QR.f1 rfl rfl (.t rfl) (.id _)
theorem slices_ContainsFunc_int.con (k : Nat) (a0 : (List Int)) (a1 : (Int → Option Bool)) (r : Bool) (h : slices_ContainsFunc_int k a0 a1 = some r) : Con Tryz.prog 51 [] [SlcA kInt a0, FnA Tryz.prog (fun (x : Int) => [EqA (.int .i64 x)]) (fun (y : Bool) => EqA (.bool y)) a1] (RA (EqA (.bool r))) := by
 unfold slices_ContainsFunc_int at h
 refine Con.of (N := 9) Tryz.func51 rfl rfl rfl fun w0_ fg_ => W.seq <| W.region <| WL.p rfl rfl rfl (.k .nil) (q_assign rfl) <| WL.nil <| QN.then_ <| W.seq <| W.region <| WL.p rfl rfl rfl (.s 0 rfl .nil) (q_move rfl) <| WL.p rfl rfl rfl (.s 1 rfl .nil) (q_move rfl) ?_
 obtain ⟨t443, ht443, h⟩ := bind_s h
 refine WL.p rfl rfl rfl (.s 5 rfl (.s 6 rfl .nil)) (q_call (f := 107) (A := EqA (.int .i64 t443)) (xs := [.tmp 5, .tmp 6]) («as» := [SlcA kInt a0, FnA Tryz.prog (fun (x : Int) => [EqA (.int .i64 x)]) (fun (y : Bool) => EqA (.bool y)) a1]) rfl ca107 (slices_IndexFunc_int.con k a0 a1 t443 ht443) rfl) <| WL.p rfl rfl rfl (.s 7 rfl (.k .nil)) (q_int rfl rfl) <| WL.p rfl rfl rfl (.s 8 rfl .nil) (q_assign rfl) <| WL.nil <| QN.then_ <| W.ret ?_
 cases h
 exact QR.f1 rfl rfl (.t rfl) (.id _)
theorem graph_within.con (k : Nat) (a0 : Int) (a1 : Int) (r : Bool) (h : graph_within k a0 a1 = some r) : Con Tryz.prog 104 [] [EqA (.int .i64 a0), EqA (.int .i64 a1)] (RA (EqA (.bool r))) := by
 unfold graph_within at h
 refine Con.of (N := 12) Tryz.func104 rfl rfl rfl fun w0_ fg_ => W.seq <| W.region <| WL.p rfl rfl rfl (.k .nil) (q_assign rfl) <| WL.nil <| QN.then_ <| W.seq ?_
 refine W.jn1 (Γ := Unit) (fun (_ : Unit) (x4 : Bool) => [(4, EqA (.bool x4))]) (fun (_ : Unit) (_ : Bool) => []) h (fun _ x4 h => ?_) (fun j446 Kj446 h => ?_)
 ·refine QN.then_ <| W.ret ?_
  cases h
  exact QR.f1 rfl rfl (.t rfl) (.id _)
 ·refine W.region <| WL.p rfl rfl rfl (.s 0 rfl .nil) (q_move rfl) <| WL.p rfl rfl rfl (.s 5 rfl (.k .nil)) (q_int rfl rfl) <| WL.p rfl rfl rfl (.s 6 rfl .nil) (q_move rfl) ?_
  rcases bif_s h with ⟨hb447, h⟩ | ⟨hb447, h⟩
  ·refine WL.q (Wanted.on rfl rfl rfl hb447) rfl rfl (.s 0 rfl .nil) (q_move rfl).o <| WL.q (Wanted.on rfl rfl rfl hb447) rfl rfl (.s 1 rfl .nil) (q_move rfl).o <| WL.q (Wanted.on rfl rfl rfl hb447) rfl rfl (.s 8 rfl (.s 9 rfl .nil)) (q_int rfl rfl).o <| WL.p rfl rfl rfl (.s 7 rfl (.s 10 rfl .nil)) (q_pickT rfl hb447) <| WL.p rfl rfl rfl (.s 11 rfl .nil) (q_assign rfl) <| WL.nil ?_
   exact QN.weaken (.one rfl (.nil _)) (Kj446 () (decide (a0 ≤ a1)) h)
  ·refine WL.skip (Unwanted.on rfl rfl rfl hb447) rfl rfl <| WL.skip (Unwanted.on rfl rfl rfl hb447) rfl rfl <| WL.skip (Unwanted.on rfl rfl rfl hb447) rfl rfl <| WL.p rfl rfl rfl (.s 7 rfl (.k .nil)) (q_pickF rfl hb447) <| WL.p rfl rfl rfl (.s 11 rfl .nil) (q_assign rfl) <| WL.nil ?_
   exact QN.weaken (.one rfl (.nil _)) (Kj446 () false h)
theorem graph_Valid_1.con (k : Nat) (a0 : Int) (r : Bool) (h : graph_Valid_1 k a0 = some r) : Con Tryz.prog 103 [] [EqA (.int .i64 a0)] (RA (EqA (.bool r))) := by
 unfold graph_Valid_1 at h
 refine Con.of (N := 6) Tryz.func103 rfl rfl rfl fun w0_ fg_ => W.seq <| W.region <| WL.p rfl rfl rfl (.k .nil) (q_assign rfl) <| WL.nil <| QN.then_ <| W.seq <| W.region <| WL.p rfl rfl rfl (.s 0 rfl .nil) (q_move rfl) ?_
 obtain ⟨t448, ht448, h⟩ := bind_s h
 refine WL.p rfl rfl rfl (.s 3 rfl (.k .nil)) (q_call (f := 104) (A := EqA (.bool t448)) (xs := [.tmp 3, .const (.int .i64 99)]) («as» := [EqA (.int .i64 a0), EqA (.int .i64 99)]) rfl ca104 (graph_within.con k a0 99 t448 ht448) rfl) <| WL.p rfl rfl rfl (.s 4 rfl .nil) (q_not rfl) <| WL.p rfl rfl rfl (.s 5 rfl .nil) (q_assign rfl) <| WL.nil <| QN.then_ <| W.ret ?_
 cases h
 exact QR.f1 rfl rfl (.t rfl) (.id _)
theorem graph_fits.con (k : Nat) (a0 : Edge) (a1 : Int) (r : Bool) (h : graph_fits k a0 a1 = some r) : Con Tryz.prog 106 [] [AggA [EqA (.int .i64 a0.fType), EqA (.int .i64 a0.fFrom), EqA (.int .i64 a0.fTo)], EqA (.int .i64 a1)] (RA (EqA (.bool r))) := by
 unfold graph_fits at h
 refine Con.of (N := 22) Tryz.func106 rfl rfl rfl fun w0_ fg_ => W.seq <| W.region <| WL.p rfl rfl rfl (.s 0 rfl .nil) (q_box rfl (CellsOf.agg _)) <| WL.p rfl rfl rfl (.k .nil) (q_assign rfl) <| WL.nil <| QN.then_ <| W.seq ?_
 refine W.jn1 (Γ := Unit) (fun (_ : Unit) (x4 : Bool) => [(4, EqA (.bool x4))]) (fun (_ : Unit) (_ : Bool) => []) h (fun _ x4 h => ?_) (fun j457 Kj457 h => ?_)
 ·refine QN.then_ <| W.ret ?_
  cases h
  exact QR.f1 rfl rfl (.t rfl) (.id _)
 ·refine W.region <| WL.p rfl rfl rfl (.s 2 rfl .nil) (q_field rfl fo109_0 rfl) <| WL.p rfl rfl rfl (.s 5 rfl .nil) (q_load rfl sh3) ?_
  obtain ⟨t458, ht458, h⟩ := bind_s h
  refine WL.p rfl rfl rfl (.s 6 rfl (.k .nil)) (q_call (f := 104) (A := EqA (.bool t458)) (xs := [.tmp 6, .const (.int .i64 99)]) («as» := [EqA (.int .i64 a0.fType), EqA (.int .i64 99)]) rfl ca104 (graph_within.con k a0.fType 99 t458 ht458) rfl) <| WL.p rfl rfl rfl (.s 7 rfl .nil) (q_move rfl) ?_
  rcases bif_s h with ⟨hb459, h⟩ | ⟨hb459, h⟩
  ·refine WL.q (Wanted.on rfl rfl rfl hb459) rfl rfl (.s 2 rfl .nil) (q_field rfl fo109_1 rfl).o <| WL.q (Wanted.on rfl rfl rfl hb459) rfl rfl (.s 9 rfl .nil) (q_load rfl sh3).o <| WL.q (Wanted.on rfl rfl rfl hb459) rfl rfl (.s 1 rfl .nil) (q_move rfl).o ?_
   obtain ⟨c460, h⟩ := ite_n h
   refine WL.q (Wanted.on rfl rfl rfl hb459) rfl rfl (.s 11 rfl (.k .nil)) (q_subR rfl c460).o ?_
   obtain ⟨t461, ht461, h⟩ := bind_s h
   refine WL.q (Wanted.on rfl rfl rfl hb459) rfl rfl (.s 10 rfl (.s 12 rfl .nil)) (q_call (f := 104) (A := EqA (.bool t461)) (xs := [.tmp 10, .tmp 12]) («as» := [EqA (.int .i64 a0.fFrom), EqA (.int .i64 (a1 - 1))]) rfl ca104 (graph_within.con k a0.fFrom (a1 - 1) t461 ht461) rfl).o <| WL.p rfl rfl rfl (.s 8 rfl (.s 13 rfl .nil)) (q_pickT rfl hb459) <| WL.p rfl rfl rfl (.s 14 rfl .nil) (q_move rfl) ?_
   rcases bif_s h with ⟨hb462, h⟩ | ⟨hb462, h⟩
   ·refine WL.q (Wanted.on rfl rfl rfl hb462) rfl rfl (.s 2 rfl .nil) (q_field rfl fo109_2 rfl).o <| WL.q (Wanted.on rfl rfl rfl hb462) rfl rfl (.s 16 rfl .nil) (q_load rfl sh3).o <| WL.q (Wanted.on rfl rfl rfl hb462) rfl rfl (.s 1 rfl .nil) (q_move rfl).o ?_
    obtain ⟨c463, h⟩ := ite_n h
    refine WL.q (Wanted.on rfl rfl rfl hb462) rfl rfl (.s 18 rfl (.k .nil)) (q_subR rfl c463).o ?_
    obtain ⟨t464, ht464, h⟩ := bind_s h
    refine WL.q (Wanted.on rfl rfl rfl hb462) rfl rfl (.s 17 rfl (.s 19 rfl .nil)) (q_call (f := 104) (A := EqA (.bool t464)) (xs := [.tmp 17, .tmp 19]) («as» := [EqA (.int .i64 a0.fTo), EqA (.int .i64 (a1 - 1))]) rfl ca104 (graph_within.con k a0.fTo (a1 - 1) t464 ht464) rfl).o <| WL.p rfl rfl rfl (.s 15 rfl (.s 20 rfl .nil)) (q_pickT rfl hb462) <| WL.p rfl rfl rfl (.s 21 rfl .nil) (q_assign rfl) <| WL.nil ?_
    exact QN.weaken (.one rfl (.nil _)) (Kj457 () t464 h)
   ·refine WL.skip (Unwanted.on rfl rfl rfl hb462) rfl rfl <| WL.skip (Unwanted.on rfl rfl rfl hb462) rfl rfl <| WL.skip (Unwanted.on rfl rfl rfl hb462) rfl rfl <| WL.skip (Unwanted.on rfl rfl rfl hb462) rfl rfl <| WL.skip (Unwanted.on rfl rfl rfl hb462) rfl rfl <| WL.p rfl rfl rfl (.s 15 rfl (.k .nil)) (q_pickF rfl hb462) <| WL.p rfl rfl rfl (.s 21 rfl .nil) (q_assign rfl) <| WL.nil ?_
    exact QN.weaken (.one rfl (.nil _)) (Kj457 () false h)
  ·refine WL.skip (Unwanted.on rfl rfl rfl hb459) rfl rfl <| WL.skip (Unwanted.on rfl rfl rfl hb459) rfl rfl <| WL.skip (Unwanted.on rfl rfl rfl hb459) rfl rfl <| WL.skip (Unwanted.on rfl rfl rfl hb459) rfl rfl <| WL.skip (Unwanted.on rfl rfl rfl hb459) rfl rfl <| WL.p rfl rfl rfl (.s 8 rfl (.k .nil)) (q_pickF rfl hb459) <| WL.p rfl rfl rfl (.s 14 rfl .nil) (q_move rfl) <| WL.skip (Unwanted.on rfl rfl rfl rfl) rfl rfl <| WL.skip (Unwanted.on rfl rfl rfl rfl) rfl rfl <| WL.skip (Unwanted.on rfl rfl rfl rfl) rfl rfl <| WL.skip (Unwanted.on rfl rfl rfl rfl) rfl rfl <| WL.skip (Unwanted.on rfl rfl rfl rfl) rfl rfl <| WL.p rfl rfl rfl (.s 15 rfl (.k .nil)) (q_pickF rfl rfl) ?_
   refine WL.p rfl rfl rfl (.s 21 rfl .nil) (q_assign rfl) <| WL.nil ?_
   exact QN.weaken (.one rfl (.nil _)) (Kj457 () false h)
theorem graph_Valid_2.con (k : Nat) (a0 : Edge) (a1 : Graph) (r : Bool) (h : graph_Valid_2 k a0 a1 = some r) : Con Tryz.prog 105 [] [AggA [EqA (.int .i64 a0.fType), EqA (.int .i64 a0.fFrom), EqA (.int .i64 a0.fTo)], PtrA [SlcA kInt a1.fNodes, SlcA kEdge a1.fEdges]] (RA (EqA (.bool r))) := by
 unfold graph_Valid_2 at h
 refine Con.of (N := 10) Tryz.func105 rfl rfl rfl fun w0_ fg_ => W.seq <| W.region <| WL.p rfl rfl rfl (.s 0 rfl .nil) (q_box rfl (CellsOf.agg _)) <| WL.p rfl rfl rfl (.k .nil) (q_assign rfl) <| WL.nil <| QN.then_ <| W.seq <| W.region <| WL.p rfl rfl rfl (.s 2 rfl .nil) (q_loadS rfl sh109 (leB rfl) rfl) <| WL.p rfl rfl rfl (.s 1 rfl .nil) (q_field rfl fo38_0 rfl) <| WL.p rfl rfl rfl (.s 5 rfl .nil) (q_load rfl sh26) <| WL.p rfl rfl rfl (.s 6 rfl .nil) (q_len rfl elS26) ?_
 obtain ⟨t465, ht465, h⟩ := bind_s h
 refine WL.p rfl rfl rfl (.s 4 rfl (.s 7 rfl .nil)) (q_call (f := 106) (A := EqA (.bool t465)) (xs := [.tmp 4, .tmp 7]) («as» := [AggA [EqA (.int .i64 a0.fType), EqA (.int .i64 a0.fFrom), EqA (.int .i64 a0.fTo)], EqA (.int .i64 (a1.fNodes.length : Int))]) rfl ca106 (graph_fits.con k a0 (a1.fNodes.length : Int) t465 ht465) rfl) <| WL.p rfl rfl rfl (.s 8 rfl .nil) (q_not rfl) <| WL.p rfl rfl rfl (.s 9 rfl .nil) (q_assign rfl) <| WL.nil <| QN.weaken (env' := [(3, _)]) (.one rfl (.nil _)) <| QN.then_ <| W.ret ?_
 cases h
 exact QR.f1 rfl rfl (.t rfl) (.id _)
theorem slices_IndexFunc_Edge.con (k : Nat) (a0 : (List Edge)) (a1 : (Edge → Option Bool)) (r : Int) (h : slices_IndexFunc_Edge k a0 a1 = some r) : Con Tryz.prog 108 [] [SlcA kEdge a0, FnA Tryz.prog (fun (x : Edge) => [AggA [EqA (.int .i64 x.fType), EqA (.int .i64 x.fFrom), EqA (.int .i64 x.fTo)]]) (fun (y : Bool) => EqA (.bool y)) a1] (RA (EqA (.int .i64 r))) := by
 unfold slices_IndexFunc_Edge at h
 refine Con.of (N := 19) Tryz.func108 rfl rfl rfl fun w0_ fg_ => W.seq <| W.region <| WL.p rfl rfl rfl (.k .nil) (q_assign rfl) <| WL.nil <| QN.then_ <| W.seq <| W.seq <| W.region <| WL.p rfl rfl rfl (.s 0 rfl .nil) (q_move rfl) <| WL.p rfl rfl rfl (.s 6 rfl .nil) (q_len rfl elS36) <| WL.p rfl rfl rfl (.k .nil) (q_move rfl) <| WL.nil ?_
 refine QN.then_ <| W.block ?_
 refine W.loop1 (Γ := Unit) (fun (_ : Unit) (x8 : Int) => [(0, SlcA kEdge a0), (1, FnA Tryz.prog (fun (x : Edge) => [AggA [EqA (.int .i64 x.fType), EqA (.int .i64 x.fFrom), EqA (.int .i64 x.fTo)]]) (fun (y : Bool) => EqA (.bool y)) a1), (7, EqA (.int .i64 (a0.length : Int))), (8, EqA (.int .i64 x8))]) (fun (_ : Unit) (_ : Int) => []) h () (.one rfl (.one rfl (.one rfl (.one rfl (.nil _))))) rfl (fun rec0 K0 next0 _ x8 h => ?_)
 unfold slices_IndexFunc_Edge.b0 at h
 refine W.seq <| W.region <| WL.p rfl rfl rfl (.s 8 rfl (.s 7 rfl .nil)) (q_int rfl rfl) <| WL.nil <| QN.then_ <| W.seq ?_
 refine W.condP h rfl (fun hb476 h => ?_) (fun hb476 h => ?_)
 ·refine W.skip <| QN.then_ <| W.seq <| W.block <| W.seq <| W.region <| WL.p rfl rfl rfl (.s 8 rfl .nil) (q_move rfl) <| WL.p rfl rfl rfl (.s 10 rfl .nil) (q_assign rfl) <| WL.nil <| QN.then_ <| W.seq <| W.region <| WL.p rfl rfl rfl (.s 1 rfl .nil) (q_move rfl) ?_
  refine WL.p rfl rfl rfl (.s 0 rfl .nil) (q_move rfl) <| WL.p rfl rfl rfl (.s 5 rfl .nil) (q_move rfl) ?_
  obtain ⟨c477, h⟩ := ite_n h
  refine WL.p rfl rfl rfl (.s 12 rfl (.s 13 rfl .nil)) (q_index rfl el36 rfl c477.1 c477.2) <| WL.p rfl rfl rfl (.s 14 rfl .nil) (q_loadS rfl sh109 (leB rfl) rfl) ?_
  obtain ⟨t478, ht478, h⟩ := bind_s h
  refine WL.p rfl rfl rfl (.s 11 rfl (.s 15 rfl .nil)) (q_callV («as» := (fun (x : Edge) => [AggA [EqA (.int .i64 x.fType), EqA (.int .i64 x.fFrom), EqA (.int .i64 x.fTo)]])) (res := (fun (y : Bool) => EqA (.bool y))) (x := (rd a0 x8)) (y := t478) (xs := [.tmp 15]) rfl ht478 rfl) <| WL.nil <| QN.weaken (env' := [(16, _), (5, _), (8, _), (7, _), (1, _), (0, _)]) (.one rfl (.one rfl (.one rfl (.one rfl (.one rfl (.one rfl (.nil _))))))) <| QN.then_ ?_
  refine W.condP h rfl (fun hb479 h => ?_) (fun hb479 h => ?_)
  ·refine W.seq <| W.region <| WL.p rfl rfl rfl (.s 5 rfl .nil) (q_move rfl) <| WL.p rfl rfl rfl (.s 17 rfl .nil) (q_assign rfl) <| WL.nil <| QN.weaken (env' := [(4, _)]) (.one rfl (.nil _)) <| QN.then_ <| W.ret <| QR.block <| QR.then_ <| QR.then_ <| QR.block <| QR.then_ ?_
   cases h
   exact QR.f1 rfl rfl (.t rfl) (.id _)
  ·refine W.skip <| QN.block <| QN.then_ <| W.region ?_
   obtain ⟨c480, h⟩ := ite_n h
   refine WL.p rfl rfl rfl (.s 8 rfl (.k .nil)) (q_addR rfl c480) <| WL.p rfl rfl rfl (.s 18 rfl .nil) (q_move rfl) <| WL.nil ?_
   exact next0 () (x8 + 1) _ h (.one rfl (.one rfl (.one rfl (.one rfl (.nil _)))))
 ·refine W.exit <| QX.then_ <| QX.then_ <| QX.here <| QN.then_ <| W.seq <| W.region <| WL.p rfl rfl rfl (.k .nil) (q_assign rfl) <| WL.nil <| QN.then_ <| W.ret ?_
  cases h
  exact QR.f1 rfl rfl (.t rfl) (.id _)
theorem slices_ContainsFunc_Edge.con (k : Nat) (a0 : (List Edge)) (a1 : (Edge → Option Bool)) (r : Bool) (h : slices_ContainsFunc_Edge k a0 a1 = some r) : Con Tryz.prog 53 [] [SlcA kEdge a0, FnA Tryz.prog (fun (x : Edge) => [AggA [EqA (.int .i64 x.fType), EqA (.int .i64 x.fFrom), EqA (.int .i64 x.fTo)]]) (fun (y : Bool) => EqA (.bool y)) a1] (RA (EqA (.bool r))) := by
 unfold slices_ContainsFunc_Edge at h
 refine Con.of (N := 9) Tryz.func53 rfl rfl rfl fun w0_ fg_ => W.seq <| W.region <| WL.p rfl rfl rfl (.k .nil) (q_assign rfl) <| WL.nil <| QN.then_ <| W.seq <| W.region <| WL.p rfl rfl rfl (.s 0 rfl .nil) (q_move rfl) <| WL.p rfl rfl rfl (.s 1 rfl .nil) (q_move rfl) ?_
 obtain ⟨t481, ht481, h⟩ := bind_s h
 refine WL.p rfl rfl rfl (.s 5 rfl (.s 6 rfl .nil)) (q_call (f := 108) (A := EqA (.int .i64 t481)) (xs := [.tmp 5, .tmp 6]) («as» := [SlcA kEdge a0, FnA Tryz.prog (fun (x : Edge) => [AggA [EqA (.int .i64 x.fType), EqA (.int .i64 x.fFrom), EqA (.int .i64 x.fTo)]]) (fun (y : Bool) => EqA (.bool y)) a1]) rfl ca108 (slices_IndexFunc_Edge.con k a0 a1 t481 ht481) rfl) <| WL.p rfl rfl rfl (.s 7 rfl (.k .nil)) (q_int rfl rfl) <| WL.p rfl rfl rfl (.s 8 rfl .nil) (q_assign rfl) <| WL.nil <| QN.then_ <| W.ret ?_
 cases h
 exact QR.f1 rfl rfl (.t rfl) (.id _)
theorem graph_Valid.con (k : Nat) (a0 : Graph) (r : Int) (h : graph_Valid k a0 = some r) : Con Tryz.prog 50 [] [AggA [SlcA kInt a0.fNodes, SlcA kEdge a0.fEdges]] (RA (EqA (.int .i64 r))) := by
 unfold graph_Valid at h
 refine Con.of (N := 20) Tryz.func50 rfl rfl rfl fun w0_ fg_ => W.seq <| W.region <| WL.p rfl rfl rfl (.s 0 rfl .nil) (q_box rfl (CellsOf.agg _)) <| WL.p rfl rfl rfl (.k .nil) (q_assign rfl) <| WL.nil <| QN.then_ <| W.seq <| W.seq ?_
 refine W.jn1 (Γ := Unit) (fun (_ : Unit) (x12 : Bool) => [(1, PtrA [SlcA kInt a0.fNodes, SlcA kEdge a0.fEdges]), (12, EqA (.bool x12))]) (fun (_ : Unit) (_ : Bool) => []) h (fun _ x12 h => ?_) (fun j484 Kj484 h => ?_)
 ·refine QN.then_ ?_
  refine W.condP h rfl (fun hb485 h => ?_) (fun hb485 h => ?_)
  ·refine W.seq <| W.region <| WL.p rfl rfl rfl (.k .nil) (q_assign rfl) <| WL.nil <| QN.then_ <| W.ret <| QR.then_ ?_
   cases h
   exact QR.f1 rfl rfl (.t rfl) (.id _)
  ·refine W.skip <| QN.then_ <| W.seq <| W.seq <| W.region <| WL.p rfl rfl rfl (.s 1 rfl .nil) (q_field rfl fo38_0 rfl) <| WL.p rfl rfl rfl (.s 13 rfl .nil) (q_load rfl sh26) ?_
   obtain ⟨t486, ht486, h⟩ := bind_s h
   refine WL.p rfl rfl rfl (.s 14 rfl (.f («as» := (fun (x : Int) => [EqA (.int .i64 x)])) (res := (fun (y : Bool) => EqA (.bool y))) (p := fun x => graph_Valid_1 k x) ca103 (fun x y hp => graph_Valid_1.con k x y hp) .nil)) (q_call (f := 51) (A := EqA (.bool t486)) (xs := [.tmp 14, .func 103]) («as» := [SlcA kInt a0.fNodes, FnA Tryz.prog (fun (x : Int) => [EqA (.int .i64 x)]) (fun (y : Bool) => EqA (.bool y)) (fun x => graph_Valid_1 k x)]) rfl ca51 (slices_ContainsFunc_int.con k a0.fNodes (fun x => graph_Valid_1 k x) t486 ht486) rfl) <| WL.nil <| QN.then_ ?_
   refine W.condP h rfl (fun hb487 h => ?_) (fun hb487 h => ?_)
   ·refine W.seq <| W.region <| WL.p rfl rfl rfl (.k .nil) (q_assign rfl) <| WL.nil <| QN.then_ <| W.ret <| QR.then_ ?_
    cases h
    exact QR.f1 rfl rfl (.t rfl) (.id _)
   ·refine W.skip <| QN.then_ <| W.seq <| W.seq <| W.region <| WL.p rfl rfl rfl (.s 1 rfl .nil) (q_field rfl fo38_1 rfl) <| WL.p rfl rfl rfl (.s 16 rfl .nil) (q_load rfl sh36) <| WL.p rfl rfl rfl (.s 1 rfl .nil) (q_makeFunc (xs := [.tmp 1]) (L := [PtrA [SlcA kInt a0.fNodes, SlcA kEdge a0.fEdges]]) («as» := (fun (x : Edge) => [AggA [EqA (.int .i64 x.fType), EqA (.int .i64 x.fFrom), EqA (.int .i64 x.fTo)]])) (res := (fun (y : Bool) => EqA (.bool y))) (p := (fun x => graph_Valid_2 k x a0)) rfl ca105 rfl (fun x y hp => (graph_Valid_2.con k x a0 y hp))) ?_
    obtain ⟨t488, ht488, h⟩ := bind_s h
    refine WL.p rfl rfl rfl (.s 17 rfl (.s 18 rfl .nil)) (q_call (f := 53) (A := EqA (.bool t488)) (xs := [.tmp 17, .tmp 18]) («as» := [SlcA kEdge a0.fEdges, FnA Tryz.prog (fun (x : Edge) => [AggA [EqA (.int .i64 x.fType), EqA (.int .i64 x.fFrom), EqA (.int .i64 x.fTo)]]) (fun (y : Bool) => EqA (.bool y)) (fun x => graph_Valid_2 k x a0)]) rfl ca53 (slices_ContainsFunc_Edge.con k a0.fEdges (fun x => graph_Valid_2 k x a0) t488 ht488) rfl) <| WL.nil <| QN.weaken (env' := [(19, _)]) (.one rfl (.nil _)) <| QN.then_ ?_
    refine W.condP h rfl (fun hb489 h => ?_) (fun hb489 h => ?_)
    ·refine W.seq <| W.region <| WL.p rfl rfl rfl (.k .nil) (q_assign rfl) <| WL.nil <| QN.then_ <| W.ret <| QR.then_ ?_
     cases h
     exact QR.f1 rfl rfl (.t rfl) (.id _)
    ·refine W.skip <| QN.then_ <| W.seq <| W.region <| WL.p rfl rfl rfl (.k .nil) (q_assign rfl) <| WL.nil <| QN.then_ <| W.ret ?_
     cases h
     exact QR.f1 rfl rfl (.t rfl) (.id _)
 ·refine W.region <| WL.p rfl rfl rfl (.s 1 rfl .nil) (q_field rfl fo38_0 rfl) <| WL.p rfl rfl rfl (.s 3 rfl .nil) (q_load rfl sh26) <| WL.p rfl rfl rfl (.s 4 rfl .nil) (q_len rfl elS26) <| WL.p rfl rfl rfl (.s 5 rfl (.k .nil)) (q_int rfl rfl) <| WL.p rfl rfl rfl (.s 6 rfl .nil) (q_move rfl) ?_
  rcases bif_s h with ⟨hb490, h⟩ | ⟨hb490, h⟩
  ·refine WL.skip (Unwanted.on rfl rfl rfl hb490) rfl rfl <| WL.skip (Unwanted.on rfl rfl rfl hb490) rfl rfl <| WL.skip (Unwanted.on rfl rfl rfl hb490) rfl rfl <| WL.skip (Unwanted.on rfl rfl rfl hb490) rfl rfl <| WL.p rfl rfl rfl (.s 7 rfl (.k .nil)) (q_pickT rfl hb490) <| WL.nil ?_
   exact QN.weaken (.one rfl (.one rfl (.nil _))) (Kj484 () true h)
  ·refine WL.q (Wanted.on rfl rfl rfl hb490) rfl rfl (.s 1 rfl .nil) (q_field rfl fo38_1 rfl).o <| WL.q (Wanted.on rfl rfl rfl hb490) rfl rfl (.s 8 rfl .nil) (q_load rfl sh36).o <| WL.q (Wanted.on rfl rfl rfl hb490) rfl rfl (.s 9 rfl .nil) (q_len rfl elS36).o <| WL.q (Wanted.on rfl rfl rfl hb490) rfl rfl (.s 10 rfl (.k .nil)) (q_int rfl rfl).o <| WL.p rfl rfl rfl (.s 7 rfl (.s 11 rfl .nil)) (q_pickF rfl hb490) <| WL.nil ?_
   exact QN.weaken (.one rfl (.one rfl (.nil _))) (Kj484 () (decide ((a0.fEdges.length : Int) > 80)) h)
theorem attribute_Valid_1.con (k : Nat) (a0 : Int) (a1 : Types) (r : Bool) (h : attribute_Valid_1 k a0 a1 = some r) : Con Tryz.prog 52 [] [EqA (.int .i64 a0), PtrA [SlcA kNodeType a1.fNodes, SlcA kEdgeType a1.fEdges]] (RA (EqA (.bool r))) := by
 unfold attribute_Valid_1 at h
 refine Con.of (N := 9) Tryz.func52 rfl rfl rfl fun w0_ fg_ => W.seq <| W.region <| WL.p rfl rfl rfl (.k .nil) (q_assign rfl) <| WL.nil <| QN.then_ <| W.seq <| W.region <| WL.p rfl rfl rfl (.s 0 rfl .nil) (q_move rfl) <| WL.p rfl rfl rfl (.s 1 rfl .nil) (q_field rfl fo35_0 rfl) <| WL.p rfl rfl rfl (.s 5 rfl .nil) (q_load rfl sh32) <| WL.p rfl rfl rfl (.s 6 rfl .nil) (q_len rfl elS32) <| WL.p rfl rfl rfl (.s 4 rfl (.s 7 rfl .nil)) (q_int rfl rfl) ?_
 refine WL.p rfl rfl rfl (.s 8 rfl .nil) (q_assign rfl) <| WL.nil <| QN.weaken (env' := [(3, _)]) (.one rfl (.nil _)) <| QN.then_ <| W.ret ?_
 cases h
 exact QR.f1 rfl rfl (.t rfl) (.id _)
theorem attribute_Valid_2.con (k : Nat) (a0 : Edge) (a1 : Types) (r : Bool) (h : attribute_Valid_2 k a0 a1 = some r) : Con Tryz.prog 54 [] [AggA [EqA (.int .i64 a0.fType), EqA (.int .i64 a0.fFrom), EqA (.int .i64 a0.fTo)], PtrA [SlcA kNodeType a1.fNodes, SlcA kEdgeType a1.fEdges]] (RA (EqA (.bool r))) := by
 unfold attribute_Valid_2 at h
 refine Con.of (N := 10) Tryz.func54 rfl rfl rfl fun w0_ fg_ => W.seq <| W.region <| WL.p rfl rfl rfl (.s 0 rfl .nil) (q_box rfl (CellsOf.agg _)) <| WL.p rfl rfl rfl (.k .nil) (q_assign rfl) <| WL.nil <| QN.then_ <| W.seq <| W.region <| WL.p rfl rfl rfl (.s 2 rfl .nil) (q_field rfl fo109_0 rfl) <| WL.p rfl rfl rfl (.s 4 rfl .nil) (q_load rfl sh3) <| WL.p rfl rfl rfl (.s 1 rfl .nil) (q_field rfl fo35_1 rfl) <| WL.p rfl rfl rfl (.s 6 rfl .nil) (q_load rfl sh33) ?_
 refine WL.p rfl rfl rfl (.s 7 rfl .nil) (q_len rfl elS33) <| WL.p rfl rfl rfl (.s 5 rfl (.s 8 rfl .nil)) (q_int rfl rfl) <| WL.p rfl rfl rfl (.s 9 rfl .nil) (q_assign rfl) <| WL.nil <| QN.weaken (env' := [(3, _)]) (.one rfl (.nil _)) <| QN.then_ <| W.ret ?_
 cases h
 exact QR.f1 rfl rfl (.t rfl) (.id _)
theorem attribute_within.con (k : Nat) (a0 : Int) (a1 : Int) (a2 : Int) (r : Bool) (h : attribute_within k a0 a1 a2 = some r) : Con Tryz.prog 40 [] [EqA (.int .i64 a0), EqA (.int .i64 a1), EqA (.int .i64 a2)] (RA (EqA (.bool r))) := by
 unfold attribute_within at h
 refine Con.of (N := 15) Tryz.func40 rfl rfl rfl fun w0_ fg_ => W.seq <| W.region <| WL.p rfl rfl rfl (.k .nil) (q_assign rfl) <| WL.nil <| QN.then_ <| W.seq ?_
 refine W.jn1 (Γ := Unit) (fun (_ : Unit) (x6 : Bool) => [(6, EqA (.bool x6))]) (fun (_ : Unit) (_ : Bool) => []) h (fun _ x6 h => ?_) (fun j493 Kj493 h => ?_)
 ·refine QN.then_ <| W.ret ?_
  cases h
  exact QR.f1 rfl rfl (.t rfl) (.id _)
 ·refine W.region <| WL.p rfl rfl rfl (.s 0 rfl .nil) (q_move rfl) <| WL.p rfl rfl rfl (.s 1 rfl .nil) (q_move rfl) <| WL.p rfl rfl rfl (.s 7 rfl (.s 8 rfl .nil)) (q_int rfl rfl) <| WL.p rfl rfl rfl (.s 9 rfl .nil) (q_move rfl) ?_
  rcases bif_s h with ⟨hb494, h⟩ | ⟨hb494, h⟩
  ·refine WL.q (Wanted.on rfl rfl rfl hb494) rfl rfl (.s 0 rfl .nil) (q_move rfl).o <| WL.q (Wanted.on rfl rfl rfl hb494) rfl rfl (.s 2 rfl .nil) (q_move rfl).o <| WL.q (Wanted.on rfl rfl rfl hb494) rfl rfl (.s 11 rfl (.s 12 rfl .nil)) (q_int rfl rfl).o <| WL.p rfl rfl rfl (.s 10 rfl (.s 13 rfl .nil)) (q_pickT rfl hb494) <| WL.p rfl rfl rfl (.s 14 rfl .nil) (q_assign rfl) <| WL.nil ?_
   exact QN.weaken (.one rfl (.nil _)) (Kj493 () (decide (a0 ≤ a2)) h)
  ·refine WL.skip (Unwanted.on rfl rfl rfl hb494) rfl rfl <| WL.skip (Unwanted.on rfl rfl rfl hb494) rfl rfl <| WL.skip (Unwanted.on rfl rfl rfl hb494) rfl rfl <| WL.p rfl rfl rfl (.s 10 rfl (.k .nil)) (q_pickF rfl hb494) <| WL.p rfl rfl rfl (.s 14 rfl .nil) (q_assign rfl) <| WL.nil ?_
   exact QN.weaken (.one rfl (.nil _)) (Kj493 () false h)
theorem types_given_1.con (k : Nat) (a0 : Int) (a1 : Types) (r : Bool) (h : types_given_1 k a0 a1 = some r) : Con Tryz.prog 173 [] [EqA (.int .i64 a0), PtrA [SlcA kNodeType a1.fNodes, SlcA kEdgeType a1.fEdges]] (RA (EqA (.bool r))) := by
 unfold types_given_1 at h
 refine Con.of (N := 13) Tryz.func173 rfl rfl rfl fun w0_ fg_ => W.seq <| W.region <| WL.p rfl rfl rfl (.k .nil) (q_assign rfl) <| WL.nil <| QN.then_ <| W.seq ?_
 refine W.jn1 (Γ := Unit) (fun (_ : Unit) (x3 : Bool) => [(3, EqA (.bool x3))]) (fun (_ : Unit) (_ : Bool) => []) h (fun _ x3 h => ?_) (fun j497 Kj497 h => ?_)
 ·refine QN.then_ <| W.ret ?_
  cases h
  exact QR.f1 rfl rfl (.t rfl) (.id _)
 ·refine W.region <| WL.p rfl rfl rfl (.s 0 rfl .nil) (q_move rfl) <| WL.p rfl rfl rfl (.s 4 rfl (.k .nil)) (q_int rfl rfl) <| WL.p rfl rfl rfl (.s 5 rfl .nil) (q_move rfl) ?_
  rcases bif_s h with ⟨hb498, h⟩ | ⟨hb498, h⟩
  ·refine WL.skip (Unwanted.on rfl rfl rfl hb498) rfl rfl <| WL.skip (Unwanted.on rfl rfl rfl hb498) rfl rfl <| WL.skip (Unwanted.on rfl rfl rfl hb498) rfl rfl <| WL.skip (Unwanted.on rfl rfl rfl hb498) rfl rfl <| WL.skip (Unwanted.on rfl rfl rfl hb498) rfl rfl <| WL.p rfl rfl rfl (.s 6 rfl (.k .nil)) (q_pickT rfl hb498) <| WL.p rfl rfl rfl (.s 12 rfl .nil) (q_assign rfl) <| WL.nil ?_
   exact QN.weaken (.one rfl (.nil _)) (Kj497 () true h)
  ·refine WL.q (Wanted.on rfl rfl rfl hb498) rfl rfl (.s 0 rfl .nil) (q_move rfl).o <| WL.q (Wanted.on rfl rfl rfl hb498) rfl rfl (.s 1 rfl .nil) (q_field rfl fo35_0 rfl).o <| WL.q (Wanted.on rfl rfl rfl hb498) rfl rfl (.s 8 rfl .nil) (q_load rfl sh32).o <| WL.q (Wanted.on rfl rfl rfl hb498) rfl rfl (.s 9 rfl .nil) (q_len rfl elS32).o <| WL.q (Wanted.on rfl rfl rfl hb498) rfl rfl (.s 7 rfl (.s 10 rfl .nil)) (q_int rfl rfl).o <| WL.p rfl rfl rfl (.s 6 rfl (.s 11 rfl .nil)) (q_pickF rfl hb498) <| WL.p rfl rfl rfl (.s 12 rfl .nil) (q_assign rfl) <| WL.nil ?_
   exact QN.weaken (.one rfl (.nil _)) (Kj497 () (decide (a0 ≥ (a1.fNodes.length : Int))) h)
theorem types_given.con (k : Nat) (a0 : Types) (a1 : (List Int)) (r : Int) (h : types_given k a0 a1 = some r) : Con Tryz.prog 133 [] [AggA [SlcA kNodeType a0.fNodes, SlcA kEdgeType a0.fEdges], SlcA kInt a1] (RA (EqA (.int .i64 r))) := by
 unfold types_given at h
 refine Con.of (N := 18) Tryz.func133 rfl rfl rfl fun w0_ fg_ => W.seq <| W.region <| WL.p rfl rfl rfl (.s 0 rfl .nil) (q_box rfl (CellsOf.agg _)) <| WL.p rfl rfl rfl (.k .nil) (q_assign rfl) <| WL.nil <| QN.then_ <| W.seq <| W.seq <| W.region <| WL.p rfl rfl rfl (.s 2 rfl .nil) (q_loadS rfl sh35 (leB rfl) rfl) ?_
 obtain ⟨t499, ht499, h⟩ := bind_s h
 refine WL.p rfl rfl rfl (.s 8 rfl .nil) (q_call (f := 49) (A := TupA [EqA (strV t499.1), EqA (.int .i64 t499.2)]) (xs := [.tmp 8]) («as» := [AggA [SlcA kNodeType a0.fNodes, SlcA kEdgeType a0.fEdges]]) rfl ca49 (types_Valid.con k a0 t499 ht499) rfl) <| WL.p rfl rfl rfl (.s 9 rfl .nil) (q_move rfl) <| WL.p rfl rfl rfl (.s 7 rfl .nil) (q_extract rfl rfl) <| WL.p rfl rfl rfl (.s 7 rfl .nil) (q_extract rfl rfl) <| WL.p rfl rfl rfl (.s 10 rfl .nil) (q_assign rfl) <| WL.p rfl rfl rfl (.s 11 rfl .nil) (q_assign rfl) <| WL.nil <| QN.weaken (env' := [(6, _), (2, _), (1, _)]) (.one rfl (.one rfl (.one rfl (.nil _)))) <| QN.then_ <| W.seq <| W.region <| WL.p rfl rfl rfl (.s 6 rfl .nil) (q_move rfl) <| WL.p rfl rfl rfl (.s 12 rfl (.k .nil)) (q_int rfl rfl) ?_
 refine WL.nil <| QN.then_ ?_
 refine W.condP h rfl (fun hb500 h => ?_) (fun hb500 h => ?_)
 ·refine W.seq <| W.region <| WL.p rfl rfl rfl (.s 6 rfl .nil) (q_move rfl) <| WL.p rfl rfl rfl (.s 14 rfl .nil) (q_assign rfl) <| WL.nil <| QN.then_ <| W.ret <| QR.then_ ?_
  cases h
  exact QR.f1 rfl rfl (.t rfl) (.id _)
 ·refine W.skip <| QN.then_ <| W.seq <| W.seq <| W.region <| WL.p rfl rfl rfl (.s 1 rfl .nil) (q_move rfl) <| WL.p rfl rfl rfl (.s 2 rfl .nil) (q_makeFunc (xs := [.tmp 2]) (L := [PtrA [SlcA kNodeType a0.fNodes, SlcA kEdgeType a0.fEdges]]) («as» := (fun (x : Int) => [EqA (.int .i64 x)])) (res := (fun (y : Bool) => EqA (.bool y))) (p := (fun x => types_given_1 k x a0)) rfl ca173 rfl (fun x y hp => (types_given_1.con k x a0 y hp))) ?_
  obtain ⟨t501, ht501, h⟩ := bind_s h
  refine WL.p rfl rfl rfl (.s 15 rfl (.s 16 rfl .nil)) (q_call (f := 51) (A := EqA (.bool t501)) (xs := [.tmp 15, .tmp 16]) («as» := [SlcA kInt a1, FnA Tryz.prog (fun (x : Int) => [EqA (.int .i64 x)]) (fun (y : Bool) => EqA (.bool y)) (fun x => types_given_1 k x a0)]) rfl ca51 (slices_ContainsFunc_int.con k a1 (fun x => types_given_1 k x a0) t501 ht501) rfl) <| WL.nil <| QN.weaken (env' := [(17, _)]) (.one rfl (.nil _)) <| QN.then_ ?_
  refine W.condP h rfl (fun hb502 h => ?_) (fun hb502 h => ?_)
  ·refine W.seq <| W.region <| WL.p rfl rfl rfl (.k .nil) (q_assign rfl) <| WL.nil <| QN.then_ <| W.ret <| QR.then_ ?_
   cases h
   exact QR.f1 rfl rfl (.t rfl) (.id _)
  ·refine W.skip <| QN.then_ <| W.seq <| W.region <| WL.p rfl rfl rfl (.k .nil) (q_assign rfl) <| WL.nil <| QN.then_ <| W.ret ?_
   cases h
   exact QR.f1 rfl rfl (.t rfl) (.id _)
theorem slices_Clone_string.conN (k : Nat) (a0 : (List Str)) (r : (List Str)) (h : slices_Clone_string k a0 = some r) : Con Tryz.prog 135 [] [SlcA kStr a0] (RApp 9 kStr r) := by
  unfold slices_Clone_string at h
  obtain ⟨hl, h⟩ := ite_n h
  cases h
  refine Con.of (N := 8) Tryz.func135 rfl rfl rfl fun w0_ fg_ => ?_
  refine W.seq (W.region (WL.p rfl rfl rfl (.k .nil) (q_assign rfl) (WL.nil (QN.then_ ?_))))
  refine W.seq (W.seq (W.region (WL.p rfl rfl rfl (.s 0 rfl .nil) (q_move rfl) (WL.p rfl rfl rfl (.s 3 rfl .nil) (q_nilAny (kd := kStr) (xs := a0) rfl elS93) (WL.nil (QN.then_ ?_))))))
  refine W.condAny rfl (fun hp => ?_) (fun _ => ?_)
  · have hn := hp rfl
    subst hn
    refine W.seq (W.region (WL.p rfl rfl rfl (.k .nil) (q_assign rfl) (WL.nil (QN.then_ ?_))))
    refine W.ret (QR.then_ ?_)
    refine QR.to (StTo.newNil 9 kStr) ?_
    refine QR.to (StTo.as 2 rfl Imp.nilHd) ?_
    exact QR.tmp rfl rfl ⟨_, rfl, rfl⟩
  · refine W.skip (QN.then_ ?_)
    refine W.seq (W.region ?_)
    refine WL.p rfl rfl rfl .nil (q_lit0 rfl el93 gr9) ?_
    refine WL.p rfl rfl rfl (.s 0 rfl .nil) (q_move rfl) ?_
    refine WL.w [] rfl (Wanted.plain rfl) rfl rfl (.s 5 rfl (.s 6 rfl .nil)) (w_appendZ (kd := kStr) rfl el93 rfl gr9 hl) ?_
    rintro _ _ ⟨v, rfl, rfl⟩
    refine WL.p rfl rfl rfl (.s 7 rfl .nil) (q_assign rfl) ?_
    refine WL.nil (QN.then_ ?_)
    refine W.ret ?_
    exact QR.tmp rfl rfl ⟨_, rfl, rfl⟩
theorem slices_Clone_string.con (k : Nat) (a0 : (List Str)) (r : (List Str)) (h : slices_Clone_string k a0 = some r) : Con Tryz.prog 135 [] [SlcA kStr a0] (RA (SlcA kStr r)) := Con.free (slices_Clone_string.conN k a0 r h)
theorem types_Attrs.con (k : Nat) (a0 : Types) (a1 : Int) (r : ((List Attr) × Int)) (h : types_Attrs k a0 a1 = some r) : Con Tryz.prog 82 [] [AggA [SlcA kNodeType a0.fNodes, SlcA kEdgeType a0.fEdges], EqA (.int .i64 a1)] (RA (TupA [SlcA kAttr r.1, EqA (.int .i64 r.2)])) := by
 unfold types_Attrs at h
 refine Con.of (N := 36) Tryz.func82 rfl rfl rfl fun w0_ fg_ => W.seq <| W.region <| WL.p rfl rfl rfl (.s 0 rfl .nil) (q_box rfl (CellsOf.agg _)) <| WL.p rfl rfl rfl (.k .nil) (q_assign rfl) <| WL.p rfl rfl rfl (.k .nil) (q_assign rfl) <| WL.nil <| QN.then_ <| W.seq <| W.seq <| W.region <| WL.p rfl rfl rfl (.s 2 rfl .nil) (q_loadS rfl sh35 (leB rfl) rfl) <| WL.p rfl rfl rfl (.s 1 rfl .nil) (q_move rfl) ?_
 refine WL.p rfl rfl rfl (.s 10 rfl .nil) (q_lit (kd := kInt) (ps := [(0, .tmp 10)]) (xs := [.tmp 10]) («as» := [EqA (.int .i64 a1)]) (ys := [a1]) rfl rfl el26 rfl gr3 rfl rfl rfl (.cons (CellsOf.one rfl) .nil)) ?_
 obtain ⟨t510, ht510, h⟩ := bind_s h
 refine WL.p rfl rfl rfl (.s 9 rfl (.s 11 rfl .nil)) (q_call (f := 133) (A := EqA (.int .i64 t510)) (xs := [.tmp 9, .tmp 11]) («as» := [AggA [SlcA kNodeType a0.fNodes, SlcA kEdgeType a0.fEdges], SlcA kInt [a1]]) rfl ca133 (types_given.con k a0 [a1] t510 ht510) rfl) <| WL.p rfl rfl rfl (.s 12 rfl .nil) (q_assign rfl) <| WL.nil <| QN.weaken (env' := [(6, _), (2, _), (1, _)]) (.one rfl (.one rfl (.one rfl (.nil _)))) <| QN.then_ <| W.seq <| W.region <| WL.p rfl rfl rfl (.s 6 rfl .nil) (q_move rfl) <| WL.p rfl rfl rfl (.s 13 rfl (.k .nil)) (q_int rfl rfl) <| WL.nil <| QN.then_ ?_
 refine W.condP h rfl (fun hb511 h => ?_) (fun hb511 h => ?_)
 ·refine W.seq <| W.region <| WL.p rfl rfl rfl (.s 6 rfl .nil) (q_move rfl) <| WL.p rfl rfl rfl (.k .nil) (q_assign rfl) <| WL.p rfl rfl rfl (.s 15 rfl .nil) (q_assign rfl) <| WL.nil <| QN.then_ <| W.ret <| QR.then_ ?_
  cases h
  exact QR.f2 rfl rfl (.t rfl) (.t rfl) (.imp (Imp.tup (.cons (Imp.nil kAttr) (.cons (Imp.id _) .nil))))
 ·refine W.skip <| QN.then_ <| W.seq <| W.region <| WL.p rfl rfl rfl (.s 2 rfl .nil) (q_loadS rfl sh35 (leB rfl) rfl) <| WL.p rfl rfl rfl (.s 1 rfl .nil) (q_move rfl) ?_
  obtain ⟨t512, ht512, h⟩ := bind_s h
  refine WL.w [] rfl (Wanted.plain rfl) rfl rfl (.s 16 rfl (.s 17 rfl .nil)) (w_callI (f := 134) (xs := [.tmp 16, .tmp 17]) («as» := [AggA [SlcA kNodeType a0.fNodes, SlcA kEdgeType a0.fEdges], EqA (.int .i64 a1)]) rfl ca134 (types_attrs.con k a0 a1 t512 ht512) rfl (.cons (Imp.id _) (.cons (Imp.id _) .nil))) ?_
  rintro _ _ ⟨v513, rfl, rfl⟩
  refine WL.p rfl rfl rfl (.s 18 rfl .nil) (q_assign rfl) <| WL.nil <| QN.weaken (env' := [(7, _)]) (.one rfl (.nil _)) <| QN.then_ <| W.seq <| W.seq <| W.region <| WL.p rfl rfl rfl (.s 7 rfl .nil) (q_move rfl) <| WL.q (Wanted.plain rfl) rfl rfl (.s 19 rfl .nil) (q_lenO rfl elS90 (i := 0) rfl) <| WL.p rfl rfl rfl (.k .nil) (q_move rfl) <| WL.nil <| QN.then_ <| W.block ?_
  refine W.loop2 (Γ := Unit) (fun (_ : Unit) (_ : (List Attr)) (x21 : Int) => [(7, HdA v513), (20, EqA (.int .i64 (t512.length : Int))), (21, EqA (.int .i64 x21))]) (fun (_ : Unit) (x7 : (List Attr)) (_ : Int) => [SlE 95 v513 kAttr x7]) h () (.one rfl (.one rfl (.one rfl (.nil _)))) rfl (fun rec0 K0 next0 _ x7 x21 h => ?_)
  unfold types_Attrs.b0 at h
  refine W.seq <| W.region <| WL.p rfl rfl rfl (.s 21 rfl (.s 20 rfl .nil)) (q_int rfl rfl) <| WL.nil <| QN.then_ <| W.seq ?_
  refine W.condP h rfl (fun hb524 h => ?_) (fun hb524 h => ?_)
  ·refine W.skip <| QN.then_ <| W.seq <| W.block <| W.seq <| W.region <| WL.p rfl rfl rfl (.s 21 rfl .nil) (q_move rfl) <| WL.p rfl rfl rfl (.s 23 rfl .nil) (q_assign rfl) <| WL.nil <| QN.then_ <| W.region <| WL.p rfl rfl rfl (.s 7 rfl .nil) (q_move rfl) <| WL.p rfl rfl rfl (.s 8 rfl .nil) (q_move rfl) ?_
   refine WL.p rfl rfl rfl (.s 7 rfl .nil) (q_move rfl) <| WL.p rfl rfl rfl (.s 8 rfl .nil) (q_move rfl) ?_
   obtain ⟨c525, h⟩ := ite_n h
   refine WL.q (Wanted.plain rfl) rfl rfl (.s 26 rfl (.s 27 rfl .nil)) (q_indexO rfl el90 (j := 0) rfl c525.1 c525.2) <| WL.p rfl rfl rfl (.s 28 rfl .nil) (q_fieldE rfl fo95_3) <| WL.q (Wanted.plain rfl) rfl rfl (.s 29 rfl .nil) (q_loadEl rfl sh93 (j := 0) rfl rfl c525.1 c525.2 rfl) ?_
   obtain ⟨t526, ht526, h⟩ := bind_s h
   refine WL.p rfl rfl rfl (.s 30 rfl .nil) (q_call (f := 135) (A := SlcA kStr t526) (xs := [.tmp 30]) («as» := [SlcA kStr ((rd x7 x21).fNames)]) rfl ca135 (slices_Clone_string.con k ((rd x7 x21).fNames) t526 ht526) rfl) ?_
   obtain ⟨c527, h⟩ := ite_n h
   refine WL.q (Wanted.plain rfl) rfl rfl (.s 24 rfl (.s 25 rfl .nil)) (q_indexO rfl el90 (j := 0) rfl c527.1 c527.2) <| WL.p rfl rfl rfl (.s 32 rfl .nil) (q_fieldE rfl fo95_3) <| WL.w0 [0] rfl (Wanted.plain rfl) rfl (.s 33 rfl (.s 31 rfl .nil)) (w_storeEl (kd := kAttr) (z := (Attr.mk ((rd x7 x21).fName) ((rd x7 x21).fLow) ((rd x7 x21).fHigh) t526)) rfl sh93 (CellsOf.one rfl) rfl rfl rfl c527.1 c527.2 rfl rfl) ?_
   rintro _ _ ⟨rfl, rfl⟩
   refine WL.nil <| QN.block <| QN.weaken (env' := [(21, _), (20, _), (7, _)]) (.one rfl (.one rfl (.one rfl (.nil _)))) <| QN.then_ <| W.region ?_
   obtain ⟨c528, h⟩ := ite_n h
   refine WL.p rfl rfl rfl (.s 21 rfl (.k .nil)) (q_addR rfl c528) <| WL.p rfl rfl rfl (.s 34 rfl .nil) (q_move rfl) <| WL.nil ?_
   exact next0 () (x7.set (x21 : Int).toNat (Attr.mk ((rd x7 x21).fName) ((rd x7 x21).fLow) ((rd x7 x21).fHigh) t526)) (x21 + 1) _ h (.one rfl (.one rfl (.one rfl (.nil _))))
  ·refine W.exit <| QX.then_ <| QX.then_ <| QX.here <| QN.then_ <| W.seq <| W.region <| WL.p rfl rfl rfl (.s 7 rfl .nil) (q_move rfl) <| WL.p rfl rfl rfl (.s 35 rfl .nil) (q_assign rfl) <| WL.p rfl rfl rfl (.k .nil) (q_assign rfl) <| WL.nil <| QN.then_ <| W.ret ?_
   cases h
   exact QR.f2 rfl rfl (.t rfl) (.t rfl) (.tup (.cons (.slc 0 rfl) (.cons (.id _) .nil)))
theorem attribute_attr.con (k : Nat) (a0 : Types) (a1 : Pattern) (a2 : Slot) (r : (Attr × Bool)) (h : attribute_attr k a0 a1 a2 = some r) : Con Tryz.prog 55 [] [AggA [SlcA kNodeType a0.fNodes, SlcA kEdgeType a0.fEdges], AggA [SlcA kInt a1.fGraph.fNodes, SlcA kEdge a1.fGraph.fEdges, SlcA kSlot a1.fSlots, EqA (.int .i64 a1.fVars), SlcA kTest a1.fTests], AggA [EqA (.int .i64 a2.fNode), EqA (.int .i64 a2.fAttr), EqA (.int .i64 a2.fTerm.fVar), EqA (.int .i64 a2.fTerm.fAdd)]] (RA (TupA [AggA [EqA (strV r.1.fName), EqA (.int .i64 r.1.fLow), EqA (.int .i64 r.1.fHigh), SlcA kStr r.1.fNames], EqA (.bool r.2)])) := by
 unfold attribute_attr at h
 refine Con.of (N := 45) Tryz.func55 rfl rfl rfl fun w0_ fg_ => W.seq <| W.region <| WL.p rfl rfl rfl (.s 0 rfl .nil) (q_box rfl (CellsOf.agg _)) <| WL.p rfl rfl rfl (.s 1 rfl .nil) (q_box rfl (CellsOf.agg _)) <| WL.p rfl rfl rfl (.s 2 rfl .nil) (q_box rfl (CellsOf.agg _)) <| WL.w [] rfl (Wanted.plain rfl) rfl rfl .nil (w_alloc rfl z95 (l := [EqA (strV ([] : Str)), EqA (.int .i64 0), EqA (.int .i64 0), EqA (.slice none 0 0)]) rfl) ?_
 rintro _ _ ⟨b529, rfl, rfl⟩
 refine WL.p rfl rfl rfl (.k .nil) (q_assign rfl) <| WL.nil <| QN.then_ <| W.seq <| W.seq <| W.region <| WL.p rfl rfl rfl (.s 5 rfl .nil) (q_field rfl fo113_0 rfl) <| WL.p rfl rfl rfl (.s 10 rfl .nil) (q_load rfl sh3) <| WL.p rfl rfl rfl (.s 4 rfl .nil) (q_field rfl fo42_0 rfl) <| WL.p rfl rfl rfl (.s 12 rfl .nil) (q_field rfl fo38_0 rfl) <| WL.p rfl rfl rfl (.s 13 rfl .nil) (q_load rfl sh26) <| WL.p rfl rfl rfl (.s 14 rfl .nil) (q_len rfl elS26) ?_
 obtain ⟨c530, h⟩ := ite_n h
 refine WL.p rfl rfl rfl (.s 15 rfl (.k .nil)) (q_subR rfl c530) ?_
 obtain ⟨t531, ht531, h⟩ := bind_s h
 refine WL.p rfl rfl rfl (.s 11 rfl (.k (.s 16 rfl .nil))) (q_call (f := 40) (A := EqA (.bool t531)) (xs := [.tmp 11, .const (.int .i64 0), .tmp 16]) («as» := [EqA (.int .i64 a2.fNode), EqA (.int .i64 0), EqA (.int .i64 ((a1.fGraph.fNodes.length : Int) - 1))]) rfl ca40 (attribute_within.con k a2.fNode 0 ((a1.fGraph.fNodes.length : Int) - 1) t531 ht531) rfl) <| WL.p rfl rfl rfl (.s 17 rfl .nil) (q_not rfl) <| WL.nil <| QN.weaken (env' := [(18, _), (6, _), (5, _), (4, _), (3, _)]) (.one rfl (.one rfl (.one rfl (.one rfl (.one rfl (.nil _)))))) <| QN.then_ ?_
 refine W.condP h rfl (fun hb532 h => ?_) (fun hb532 h => ?_)
 ·refine W.seq <| W.region <| WL.p rfl rfl rfl .nil (q_build (is := []) (xs := []) (L := [EqA (strV ([] : Str)), EqA (.int .i64 0), EqA (.int .i64 0), EqA (.slice none 0 0)]) rfl rfl z95 pl95 rfl rfl .nil rfl) <| WL.w0 [0] rfl (Wanted.plain rfl) rfl (.s 6 rfl (.s 19 rfl .nil)) (w_store (L := [EqA (strV ([] : Str)), EqA (.int .i64 0), EqA (.int .i64 0), EqA (.slice none 0 0)]) rfl sh95 (CellsOf.agg _) rfl rfl (leB rfl) rfl) ?_
  rintro _ _ ⟨rfl, rfl⟩
  refine WL.p rfl rfl rfl (.k .nil) (q_assign rfl) <| WL.nil <| QN.then_ <| W.ret <| QR.then_ ?_
  cases h
  exact QR.f2 rfl rfl (.cs (i := 0) rfl sh95 rfl rfl) (.t rfl) (.imp (Imp.tup (.cons (Imp.agg (.cons (Imp.id _) (.cons (Imp.id _) (.cons (Imp.id _) (.cons (Imp.nil kStr) .nil))))) (.cons (Imp.id _) .nil))))
 ·refine W.skip <| QN.then_ <| W.seq <| W.drawK [(0, false), (1, false), (2, false), (3, false), (4, false), (5, false), (6, false), (7, false), (8, false), (9, false), (10, false), (11, false), (12, false), (13, false)] [] [[], [], [1], [1, 2], [], [4], [1, 2, 3, 4, 5], [1, 2, 3, 4, 5, 6], [0, 1, 2, 3, 4, 5, 6, 7], [0, 1, 2, 3, 4, 5, 6, 7, 8], [0, 1, 2, 3, 4, 5, 6, 7, 8, 9], [0, 1, 2, 3, 4, 5, 6, 7, 8, 9], [0, 1, 2, 3, 4, 5, 6, 7, 8, 9, 10], [0, 1, 2, 3, 4, 5, 6, 7, 8, 9, 10, 11, 12]] mx (by kernel_rfl) <| DK.cons rfl rfl (.p rfl (.s 3 rfl .nil) rfl (q_loadS rfl sh35 (leB rfl) rfl)) <| DK.cons rfl rfl (.p rfl (.s 4 rfl .nil) rfl (q_field rfl fo42_0 rfl)) <| DK.cons rfl rfl (.p rfl (.s 22 rfl .nil) rfl (q_field rfl fo38_0 rfl)) <| DK.cons rfl rfl (.p rfl (.s 23 rfl .nil) rfl (q_load rfl sh26)) <| DK.cons rfl rfl (.p rfl (.s 5 rfl .nil) rfl (q_field rfl fo113_0 rfl)) <| DK.cons rfl rfl (.p rfl (.s 25 rfl .nil) rfl (q_load rfl sh3)) ?_
  obtain ⟨c537, h⟩ := ite_n h
  refine DK.cons rfl rfl (.p rfl (.s 24 rfl (.s 26 rfl .nil)) rfl (q_index rfl el26 rfl c537.1 c537.2)) <| DK.cons rfl rfl (.p rfl (.s 27 rfl .nil) rfl (q_load rfl sh3)) ?_
  obtain ⟨t538, ht538, h⟩ := bind_s h
  refine DK.cons rfl rfl (.p rfl (.s 21 rfl (.s 28 rfl .nil)) rfl (q_call (f := 82) (A := TupA [SlcA kAttr t538.1, EqA (.int .i64 t538.2)]) (xs := [.tmp 21, .tmp 28]) («as» := [AggA [SlcA kNodeType a0.fNodes, SlcA kEdgeType a0.fEdges], EqA (.int .i64 (rd a1.fGraph.fNodes a2.fNode))]) rfl ca82 (types_Attrs.con k a0 (rd a1.fGraph.fNodes a2.fNode) t538 ht538) rfl)) <| DK.cons rfl rfl (.p rfl (.s 29 rfl .nil) rfl (q_move rfl)) <| DK.cons rfl rfl (.p rfl (.s 20 rfl .nil) rfl (q_extract rfl rfl)) <| DK.cons rfl rfl (.p rfl (.s 20 rfl .nil) rfl (q_extract rfl rfl)) <| DK.cons rfl rfl (.p rfl (.s 30 rfl .nil) rfl (q_assign rfl)) <| DK.cons rfl rfl (.p rfl (.s 31 rfl .nil) rfl (q_assign rfl)) <| DK.nil <| CSteps.nil <| QN.weaken (env' := [(8, _), (6, _), (5, _)]) (.one rfl (.one rfl (.one rfl (.nil _)))) <| QN.then_ <| W.seq <| W.seq <| W.region ?_
  refine WL.p rfl rfl rfl (.s 5 rfl .nil) (q_field rfl fo113_1 rfl) <| WL.p rfl rfl rfl (.s 32 rfl .nil) (q_load rfl sh3) <| WL.p rfl rfl rfl (.s 8 rfl .nil) (q_move rfl) <| WL.p rfl rfl rfl (.s 34 rfl .nil) (q_len rfl elS90) ?_
  obtain ⟨c539, h⟩ := ite_n h
  refine WL.p rfl rfl rfl (.s 35 rfl (.k .nil)) (q_subR rfl c539) ?_
  obtain ⟨t540, ht540, h⟩ := bind_s h
  refine WL.p rfl rfl rfl (.s 33 rfl (.k (.s 36 rfl .nil))) (q_call (f := 40) (A := EqA (.bool t540)) (xs := [.tmp 33, .const (.int .i64 0), .tmp 36]) («as» := [EqA (.int .i64 a2.fAttr), EqA (.int .i64 0), EqA (.int .i64 ((t538.1.length : Int) - 1))]) rfl ca40 (attribute_within.con k a2.fAttr 0 ((t538.1.length : Int) - 1) t540 ht540) rfl) <| WL.p rfl rfl rfl (.s 37 rfl .nil) (q_not rfl) <| WL.nil <| QN.then_ ?_
  refine W.condP h rfl (fun hb541 h => ?_) (fun hb541 h => ?_)
  ·refine W.seq <| W.region <| WL.p rfl rfl rfl .nil (q_build (is := []) (xs := []) (L := [EqA (strV ([] : Str)), EqA (.int .i64 0), EqA (.int .i64 0), EqA (.slice none 0 0)]) rfl rfl z95 pl95 rfl rfl .nil rfl) <| WL.w0 [0] rfl (Wanted.plain rfl) rfl (.s 6 rfl (.s 39 rfl .nil)) (w_store (L := [EqA (strV ([] : Str)), EqA (.int .i64 0), EqA (.int .i64 0), EqA (.slice none 0 0)]) rfl sh95 (CellsOf.agg _) rfl rfl (leB rfl) rfl) ?_
   rintro _ _ ⟨rfl, rfl⟩
   refine WL.p rfl rfl rfl (.k .nil) (q_assign rfl) <| WL.nil <| QN.weaken (env' := [(7, _), (6, _)]) (.one rfl (.one rfl (.nil _))) <| QN.then_ <| W.ret <| QR.then_ ?_
   cases h
   exact QR.f2 rfl rfl (.cs (i := 0) rfl sh95 rfl rfl) (.t rfl) (.imp (Imp.tup (.cons (Imp.agg (.cons (Imp.id _) (.cons (Imp.id _) (.cons (Imp.id _) (.cons (Imp.nil kStr) .nil))))) (.cons (Imp.id _) .nil))))
  ·refine W.skip <| QN.weaken (env' := [(8, _), (6, _), (5, _)]) (.one rfl (.one rfl (.one rfl (.nil _)))) <| QN.then_ <| W.seq <| W.region <| WL.p rfl rfl rfl (.s 8 rfl .nil) (q_move rfl) <| WL.p rfl rfl rfl (.s 5 rfl .nil) (q_field rfl fo113_1 rfl) <| WL.p rfl rfl rfl (.s 41 rfl .nil) (q_load rfl sh3) ?_
   obtain ⟨c542, h⟩ := ite_n h
   refine WL.p rfl rfl rfl (.s 40 rfl (.s 42 rfl .nil)) (q_index rfl el90 rfl c542.1 c542.2) <| WL.p rfl rfl rfl (.s 43 rfl .nil) (q_loadS rfl sh95 (leB rfl) rfl) <| WL.w0 [0] rfl (Wanted.plain rfl) rfl (.s 6 rfl (.s 44 rfl .nil)) (w_store (L := [EqA (strV ((rd t538.1 a2.fAttr).fName)), EqA (.int .i64 ((rd t538.1 a2.fAttr).fLow)), EqA (.int .i64 ((rd t538.1 a2.fAttr).fHigh)), SlcA kStr ((rd t538.1 a2.fAttr).fNames)]) rfl sh95 (CellsOf.agg _) rfl rfl (leB rfl) rfl) ?_
   rintro _ _ ⟨rfl, rfl⟩
   refine WL.p rfl rfl rfl (.k .nil) (q_assign rfl) <| WL.nil <| QN.weaken (env' := [(7, _), (6, _)]) (.one rfl (.one rfl (.nil _))) <| QN.then_ <| W.ret ?_
   cases h
   exact QR.f2 rfl rfl (.cs (i := 0) rfl sh95 rfl rfl) (.t rfl) (.id _)
theorem difference_term.con (k : Nat) (a0 : Int) (a1 : Term) (r : Bool) (h : difference_term k a0 a1 = some r) : Con Tryz.prog 151 [] [EqA (.int .i64 a0), AggA [EqA (.int .i64 a1.fVar), EqA (.int .i64 a1.fAdd)]] (RA (EqA (.bool r))) := by
 unfold difference_term at h
 refine Con.of (N := 24) Tryz.func151 rfl rfl rfl fun w0_ fg_ => W.seq <| W.region <| WL.p rfl rfl rfl (.s 1 rfl .nil) (q_box rfl (CellsOf.agg _)) <| WL.p rfl rfl rfl (.k .nil) (q_assign rfl) <| WL.nil <| QN.then_ <| W.seq ?_
 refine W.jn1 (Γ := Unit) (fun (_ : Unit) (x4 : Bool) => [(4, EqA (.bool x4))]) (fun (_ : Unit) (_ : Bool) => []) h (fun _ x4 h => ?_) (fun j547 Kj547 h => ?_)
 ·refine QN.then_ <| W.ret ?_
  cases h
  exact QR.f1 rfl rfl (.t rfl) (.id _)
 ·refine W.region <| WL.p rfl rfl rfl (.s 3 rfl .nil) (q_field rfl fo23_0 rfl) <| WL.p rfl rfl rfl (.s 5 rfl .nil) (q_load rfl sh3) <| WL.p rfl rfl rfl (.s 6 rfl (.k .nil)) (q_int rfl rfl) <| WL.p rfl rfl rfl (.s 7 rfl .nil) (q_move rfl) ?_
  rcases bif_s h with ⟨hb548, h⟩ | ⟨hb548, h⟩
  ·refine WL.q (Wanted.on rfl rfl rfl hb548) rfl rfl (.s 3 rfl .nil) (q_field rfl fo23_0 rfl).o <| WL.q (Wanted.on rfl rfl rfl hb548) rfl rfl (.s 9 rfl .nil) (q_load rfl sh3).o <| WL.q (Wanted.on rfl rfl rfl hb548) rfl rfl (.s 0 rfl .nil) (q_move rfl).o <| WL.q (Wanted.on rfl rfl rfl hb548) rfl rfl (.s 10 rfl (.s 11 rfl .nil)) (q_int rfl rfl).o <| WL.p rfl rfl rfl (.s 8 rfl (.s 12 rfl .nil)) (q_pickT rfl hb548) <| WL.p rfl rfl rfl (.s 13 rfl .nil) (q_move rfl) ?_
   rcases bif_s h with ⟨hb549, h⟩ | ⟨hb549, h⟩
   ·refine WL.q (Wanted.on rfl rfl rfl hb549) rfl rfl (.s 3 rfl .nil) (q_field rfl fo23_1 rfl).o <| WL.q (Wanted.on rfl rfl rfl hb549) rfl rfl (.s 15 rfl .nil) (q_load rfl sh3).o <| WL.q (Wanted.on rfl rfl rfl hb549) rfl rfl (.s 16 rfl (.k .nil)) (q_int rfl rfl).o <| WL.p rfl rfl rfl (.s 14 rfl (.s 17 rfl .nil)) (q_pickT rfl hb549) <| WL.p rfl rfl rfl (.s 18 rfl .nil) (q_move rfl) ?_
    rcases bif_s h with ⟨hb550, h⟩ | ⟨hb550, h⟩
    ·refine WL.q (Wanted.on rfl rfl rfl hb550) rfl rfl (.s 3 rfl .nil) (q_field rfl fo23_1 rfl).o <| WL.q (Wanted.on rfl rfl rfl hb550) rfl rfl (.s 20 rfl .nil) (q_load rfl sh3).o <| WL.q (Wanted.on rfl rfl rfl hb550) rfl rfl (.s 21 rfl (.k .nil)) (q_int rfl rfl).o <| WL.p rfl rfl rfl (.s 19 rfl (.s 22 rfl .nil)) (q_pickT rfl hb550) <| WL.p rfl rfl rfl (.s 23 rfl .nil) (q_assign rfl) <| WL.nil ?_
     exact QN.weaken (.one rfl (.nil _)) (Kj547 () (decide (a1.fAdd ≤ 1000000)) h)
    ·refine WL.skip (Unwanted.on rfl rfl rfl hb550) rfl rfl <| WL.skip (Unwanted.on rfl rfl rfl hb550) rfl rfl <| WL.skip (Unwanted.on rfl rfl rfl hb550) rfl rfl <| WL.p rfl rfl rfl (.s 19 rfl (.k .nil)) (q_pickF rfl hb550) <| WL.p rfl rfl rfl (.s 23 rfl .nil) (q_assign rfl) <| WL.nil ?_
     exact QN.weaken (.one rfl (.nil _)) (Kj547 () false h)
   ·refine WL.skip (Unwanted.on rfl rfl rfl hb549) rfl rfl <| WL.skip (Unwanted.on rfl rfl rfl hb549) rfl rfl <| WL.skip (Unwanted.on rfl rfl rfl hb549) rfl rfl <| WL.p rfl rfl rfl (.s 14 rfl (.k .nil)) (q_pickF rfl hb549) <| WL.p rfl rfl rfl (.s 18 rfl .nil) (q_move rfl) <| WL.skip (Unwanted.on rfl rfl rfl rfl) rfl rfl <| WL.skip (Unwanted.on rfl rfl rfl rfl) rfl rfl <| WL.skip (Unwanted.on rfl rfl rfl rfl) rfl rfl <| WL.p rfl rfl rfl (.s 19 rfl (.k .nil)) (q_pickF rfl rfl) <| WL.p rfl rfl rfl (.s 23 rfl .nil) (q_assign rfl) <| WL.nil ?_
    exact QN.weaken (.one rfl (.nil _)) (Kj547 () false h)
  ·refine WL.skip (Unwanted.on rfl rfl rfl hb548) rfl rfl <| WL.skip (Unwanted.on rfl rfl rfl hb548) rfl rfl <| WL.skip (Unwanted.on rfl rfl rfl hb548) rfl rfl <| WL.skip (Unwanted.on rfl rfl rfl hb548) rfl rfl <| WL.p rfl rfl rfl (.s 8 rfl (.k .nil)) (q_pickF rfl hb548) <| WL.p rfl rfl rfl (.s 13 rfl .nil) (q_move rfl) <| WL.skip (Unwanted.on rfl rfl rfl rfl) rfl rfl <| WL.skip (Unwanted.on rfl rfl rfl rfl) rfl rfl <| WL.skip (Unwanted.on rfl rfl rfl rfl) rfl rfl <| WL.p rfl rfl rfl (.s 14 rfl (.k .nil)) (q_pickF rfl rfl) <| WL.p rfl rfl rfl (.s 18 rfl .nil) (q_move rfl) <| WL.skip (Unwanted.on rfl rfl rfl rfl) rfl rfl <| WL.skip (Unwanted.on rfl rfl rfl rfl) rfl rfl ?_
   refine WL.skip (Unwanted.on rfl rfl rfl rfl) rfl rfl <| WL.p rfl rfl rfl (.s 19 rfl (.k .nil)) (q_pickF rfl rfl) <| WL.p rfl rfl rfl (.s 23 rfl .nil) (q_assign rfl) <| WL.nil ?_
   exact QN.weaken (.one rfl (.nil _)) (Kj547 () false h)
end Go.Proofs.YtcgdfjpeboiioaaGreat
