/- The Go functions compute the pure ones. (Printed by gen.py.) -/
import Derived.Test.YtcgdfjpeboiioaaGreatC3
namespace Go.Proofs.YtcgdfjpeboiioaaGreat
open Go Go.Abs
attribute [local irreducible] Tryz.prog
theorem difference_one.con (k : Nat) (a0 : Int) (a1 : Test) (r : Int) (h : difference_one k a0 a1 = some r) : Con Tryz.prog 109 [] [EqA (.int .i64 a0), AggA [EqA (.int .i64 a1.fKind), EqA (.int .i64 a1.fLeft.fVar), EqA (.int .i64 a1.fLeft.fAdd), EqA (.int .i64 a1.fRight.fVar), EqA (.int .i64 a1.fRight.fAdd)]] (RA (EqA (.int .i64 r))) := by
 unfold difference_one at h
 refine Con.of (N := 27) Tryz.func109 rfl rfl rfl fun w0_ fg_ => W.seq <| W.region <| WL.p rfl rfl rfl (.s 1 rfl .nil) (q_box rfl (CellsOf.agg _)) <| WL.p rfl rfl rfl (.k .nil) (q_assign rfl) <| WL.nil <| QN.then_ <| W.seq <| W.block <| W.seq ?_
 refine W.jn1 (Γ := Unit) (fun (_ : Unit) (x5 : Bool) => [(0, EqA (.int .i64 a0)), (3, PtrA [EqA (.int .i64 a1.fKind), EqA (.int .i64 a1.fLeft.fVar), EqA (.int .i64 a1.fLeft.fAdd), EqA (.int .i64 a1.fRight.fVar), EqA (.int .i64 a1.fRight.fAdd)]), (5, EqA (.bool x5))]) (fun (_ : Unit) (_ : Bool) => []) h (fun _ x5 h => ?_) (fun j553 Kj553 h => ?_)
 ·refine QN.then_ ?_
  refine W.condP h rfl (fun hb554 h => ?_) (fun hb554 h => ?_)
  ·refine W.seq <| W.region <| WL.p rfl rfl rfl (.k .nil) (q_assign rfl) <| WL.nil <| QN.then_ <| W.ret <| QR.block <| QR.then_ ?_
   cases h
   exact QR.f1 rfl rfl (.t rfl) (.id _)
  ·refine W.seq ?_
   refine W.jn1 (Γ := Unit) (fun (_ : Unit) (x14 : Bool) => [(14, EqA (.bool x14))]) (fun (_ : Unit) (_ : Bool) => []) h (fun _ x14 h => ?_) (fun j559 Kj559 h => ?_)
   ·refine QN.then_ ?_
    refine W.condP h rfl (fun hb560 h => ?_) (fun hb560 h => ?_)
    ·refine W.seq <| W.region <| WL.p rfl rfl rfl (.k .nil) (q_assign rfl) <| WL.nil <| QN.then_ <| W.ret <| QR.block <| QR.then_ ?_
     cases h
     exact QR.f1 rfl rfl (.t rfl) (.id _)
    ·refine W.skip <| QN.block <| QN.then_ <| W.seq <| W.region <| WL.p rfl rfl rfl (.k .nil) (q_assign rfl) <| WL.nil <| QN.then_ <| W.ret ?_
     cases h
     exact QR.f1 rfl rfl (.t rfl) (.id _)
   ·refine W.region <| WL.p rfl rfl rfl (.s 0 rfl .nil) (q_move rfl) <| WL.p rfl rfl rfl (.s 3 rfl .nil) (q_field rfl fo86_1 rfl) <| WL.p rfl rfl rfl (.s 16 rfl .nil) (q_loadS rfl sh23 (leB rfl) rfl) ?_
    obtain ⟨t561, ht561, h⟩ := bind_s h
    refine WL.p rfl rfl rfl (.s 15 rfl (.s 17 rfl .nil)) (q_call (f := 151) (A := EqA (.bool t561)) (xs := [.tmp 15, .tmp 17]) («as» := [EqA (.int .i64 a0), AggA [EqA (.int .i64 a1.fLeft.fVar), EqA (.int .i64 a1.fLeft.fAdd)]]) rfl ca151 (difference_term.con k a0 a1.fLeft t561 ht561) rfl) <| WL.p rfl rfl rfl (.s 18 rfl .nil) (q_not rfl) <| WL.p rfl rfl rfl (.s 19 rfl .nil) (q_move rfl) ?_
    rcases bif_s h with ⟨hb562, h⟩ | ⟨hb562, h⟩
    ·refine WL.skip (Unwanted.on rfl rfl rfl hb562) rfl rfl <| WL.skip (Unwanted.on rfl rfl rfl hb562) rfl rfl <| WL.skip (Unwanted.on rfl rfl rfl hb562) rfl rfl <| WL.skip (Unwanted.on rfl rfl rfl hb562) rfl rfl <| WL.skip (Unwanted.on rfl rfl rfl hb562) rfl rfl <| WL.p rfl rfl rfl (.s 20 rfl (.k .nil)) (q_pickT rfl hb562) <| WL.p rfl rfl rfl (.s 26 rfl .nil) (q_assign rfl) <| WL.nil ?_
     exact QN.weaken (.one rfl (.nil _)) (Kj559 () true h)
    ·refine WL.q (Wanted.on rfl rfl rfl hb562) rfl rfl (.s 0 rfl .nil) (q_move rfl).o <| WL.q (Wanted.on rfl rfl rfl hb562) rfl rfl (.s 3 rfl .nil) (q_field rfl fo86_2 rfl).o <| WL.q (Wanted.on rfl rfl rfl hb562) rfl rfl (.s 22 rfl .nil) (q_loadS rfl sh23 (leB rfl) rfl).o ?_
     obtain ⟨t563, ht563, h⟩ := bind_s h
     refine WL.q (Wanted.on rfl rfl rfl hb562) rfl rfl (.s 21 rfl (.s 23 rfl .nil)) (q_call (f := 151) (A := EqA (.bool t563)) (xs := [.tmp 21, .tmp 23]) («as» := [EqA (.int .i64 a0), AggA [EqA (.int .i64 a1.fRight.fVar), EqA (.int .i64 a1.fRight.fAdd)]]) rfl ca151 (difference_term.con k a0 a1.fRight t563 ht563) rfl).o <| WL.q (Wanted.on rfl rfl rfl hb562) rfl rfl (.s 24 rfl .nil) (q_not rfl).o <| WL.p rfl rfl rfl (.s 20 rfl (.s 25 rfl .nil)) (q_pickF rfl hb562) <| WL.p rfl rfl rfl (.s 26 rfl .nil) (q_assign rfl) <| WL.nil ?_
     exact QN.weaken (.one rfl (.nil _)) (Kj559 () (!t563) h)
 ·refine W.region <| WL.p rfl rfl rfl (.s 3 rfl .nil) (q_field rfl fo86_0 rfl) <| WL.p rfl rfl rfl (.s 6 rfl .nil) (q_load rfl sh3) <| WL.p rfl rfl rfl (.s 7 rfl (.k .nil)) (q_int rfl rfl) <| WL.p rfl rfl rfl (.s 8 rfl .nil) (q_move rfl) ?_
  rcases bif_s h with ⟨hb564, h⟩ | ⟨hb564, h⟩
  ·refine WL.q (Wanted.on rfl rfl rfl hb564) rfl rfl (.s 3 rfl .nil) (q_field rfl fo86_0 rfl).o <| WL.q (Wanted.on rfl rfl rfl hb564) rfl rfl (.s 10 rfl .nil) (q_load rfl sh3).o <| WL.q (Wanted.on rfl rfl rfl hb564) rfl rfl (.s 11 rfl (.k .nil)) (q_int rfl rfl).o <| WL.p rfl rfl rfl (.s 9 rfl (.s 12 rfl .nil)) (q_pickT rfl hb564) <| WL.p rfl rfl rfl (.s 13 rfl .nil) (q_assign rfl) <| WL.nil ?_
   exact QN.weaken (.one rfl (.one rfl (.one rfl (.nil _)))) (Kj553 () (a1.fKind != 2) h)
  ·refine WL.skip (Unwanted.on rfl rfl rfl hb564) rfl rfl <| WL.skip (Unwanted.on rfl rfl rfl hb564) rfl rfl <| WL.skip (Unwanted.on rfl rfl rfl hb564) rfl rfl <| WL.p rfl rfl rfl (.s 9 rfl (.k .nil)) (q_pickF rfl hb564) <| WL.p rfl rfl rfl (.s 13 rfl .nil) (q_assign rfl) <| WL.nil ?_
   exact QN.weaken (.one rfl (.one rfl (.one rfl (.nil _)))) (Kj553 () false h)
theorem difference_Valid.con (k : Nat) (a0 : Int) (a1 : (List Test)) (r : Int) (h : difference_Valid k a0 a1 = some r) : Con Tryz.prog 56 [] [EqA (.int .i64 a0), SlcA kTest a1] (RA (EqA (.int .i64 r))) := by
 unfold difference_Valid at h
 refine Con.of (N := 30) Tryz.func56 rfl rfl rfl fun w0_ fg_ => W.seq <| W.region <| WL.p rfl rfl rfl (.k .nil) (q_assign rfl) <| WL.nil <| QN.then_ <| W.seq <| W.seq ?_
 refine W.jn1 (Γ := Unit) (fun (_ : Unit) (x13 : Bool) => [(0, EqA (.int .i64 a0)), (1, SlcA kTest a1), (13, EqA (.bool x13))]) (fun (_ : Unit) (_ : Bool) => []) h (fun _ x13 h => ?_) (fun j567 Kj567 h => ?_)
 ·refine QN.then_ ?_
  refine W.condP h rfl (fun hb568 h => ?_) (fun hb568 h => ?_)
  ·refine W.seq <| W.region <| WL.p rfl rfl rfl (.k .nil) (q_assign rfl) <| WL.nil <| QN.then_ <| W.ret <| QR.then_ ?_
   cases h
   exact QR.f1 rfl rfl (.t rfl) (.id _)
  ·refine W.skip <| QN.then_ <| W.seq <| W.seq <| W.region <| WL.p rfl rfl rfl (.s 1 rfl .nil) (q_move rfl) <| WL.p rfl rfl rfl (.s 14 rfl .nil) (q_len rfl elS40) <| WL.p rfl rfl rfl (.s 15 rfl (.k .nil)) (q_int rfl rfl) <| WL.nil <| QN.then_ ?_
   refine W.condP h rfl (fun hb569 h => ?_) (fun hb569 h => ?_)
   ·refine W.seq <| W.region <| WL.p rfl rfl rfl (.k .nil) (q_assign rfl) <| WL.nil <| QN.then_ <| W.ret <| QR.then_ ?_
    cases h
    exact QR.f1 rfl rfl (.t rfl) (.id _)
   ·refine W.skip <| QN.then_ <| W.seq <| W.seq <| W.region <| WL.p rfl rfl rfl (.s 1 rfl .nil) (q_move rfl) <| WL.p rfl rfl rfl (.s 17 rfl .nil) (q_len rfl elS40) <| WL.p rfl rfl rfl (.k .nil) (q_move rfl) <| WL.nil <| QN.then_ <| W.block ?_
    refine W.loop1 (Γ := Unit) (fun (_ : Unit) (x19 : Int) => [(0, EqA (.int .i64 a0)), (17, SlcA kTest a1), (18, EqA (.int .i64 (a1.length : Int))), (19, EqA (.int .i64 x19))]) (fun (_ : Unit) (_ : Int) => []) h () (.one rfl (.one rfl (.one rfl (.one rfl (.nil _))))) rfl (fun rec0 K0 next0 _ x19 h => ?_)
    unfold difference_Valid.b0 at h
    refine W.seq <| W.region <| WL.p rfl rfl rfl (.s 19 rfl (.s 18 rfl .nil)) (q_int rfl rfl) <| WL.nil <| QN.then_ <| W.seq ?_
    refine W.condP h rfl (fun hb582 h => ?_) (fun hb582 h => ?_)
    ·refine W.skip <| QN.then_ <| W.seq <| W.block <| W.seq <| W.region ?_
     obtain ⟨c583, h⟩ := ite_n h
     refine WL.p rfl rfl rfl (.s 17 rfl (.s 19 rfl .nil)) (q_index rfl el40 rfl c583.1 c583.2) <| WL.p rfl rfl rfl (.s 21 rfl .nil) (q_loadS rfl sh86 (leB rfl) rfl) <| WL.w [] rfl (Wanted.plain rfl) rfl rfl .nil (w_alloc rfl z86 (l := [EqA (.int .i64 0), EqA (.int .i64 0), EqA (.int .i64 0), EqA (.int .i64 0), EqA (.int .i64 0)]) rfl) ?_
     rintro _ _ ⟨b584, rfl, rfl⟩
     refine WL.w0 [0] rfl (Wanted.plain rfl) rfl (.s 6 rfl (.s 22 rfl .nil)) (w_store (L := [EqA (.int .i64 ((rd a1 x19).fKind)), EqA (.int .i64 ((rd a1 x19).fLeft.fVar)), EqA (.int .i64 ((rd a1 x19).fLeft.fAdd)), EqA (.int .i64 ((rd a1 x19).fRight.fVar)), EqA (.int .i64 ((rd a1 x19).fRight.fAdd))]) rfl sh86 (CellsOf.agg _) rfl rfl (leB rfl) rfl) ?_
     rintro _ _ ⟨rfl, rfl⟩
     refine WL.nil <| QN.to (StTo.still [0] 6 rfl rfl) <| QN.then_ <| W.seq <| W.region <| WL.p rfl rfl rfl (.s 0 rfl .nil) (q_move rfl) <| WL.p rfl rfl rfl (.s 6 rfl .nil) (q_loadS rfl sh86 (leB rfl) rfl) ?_
     obtain ⟨t585, ht585, h⟩ := bind_s h
     refine WL.p rfl rfl rfl (.s 23 rfl (.s 24 rfl .nil)) (q_call (f := 109) (A := EqA (.int .i64 t585)) (xs := [.tmp 23, .tmp 24]) («as» := [EqA (.int .i64 a0), AggA [EqA (.int .i64 ((rd a1 x19).fKind)), EqA (.int .i64 ((rd a1 x19).fLeft.fVar)), EqA (.int .i64 ((rd a1 x19).fLeft.fAdd)), EqA (.int .i64 ((rd a1 x19).fRight.fVar)), EqA (.int .i64 ((rd a1 x19).fRight.fAdd))]]) rfl ca109 (difference_one.con k a0 (rd a1 x19) t585 ht585) rfl) <| WL.p rfl rfl rfl (.s 25 rfl .nil) (q_assign rfl) <| WL.nil <| QN.weaken (env' := [(7, _), (19, _), (18, _), (17, _), (0, _)]) (.one rfl (.one rfl (.one rfl (.one rfl (.one rfl (.nil _)))))) <| QN.then_ <| W.seq <| W.region <| WL.p rfl rfl rfl (.s 7 rfl .nil) (q_move rfl) <| WL.p rfl rfl rfl (.s 26 rfl (.k .nil)) (q_int rfl rfl) <| WL.nil <| QN.then_ ?_
     refine W.condP h rfl (fun hb586 h => ?_) (fun hb586 h => ?_)
     ·refine W.seq <| W.region <| WL.p rfl rfl rfl (.s 7 rfl .nil) (q_move rfl) <| WL.p rfl rfl rfl (.s 28 rfl .nil) (q_assign rfl) <| WL.nil <| QN.weaken (env' := [(4, _)]) (.one rfl (.nil _)) <| QN.then_ <| W.ret <| QR.block <| QR.then_ <| QR.then_ <| QR.block <| QR.then_ ?_
      cases h
      exact QR.f1 rfl rfl (.t rfl) (.id _)
     ·refine W.skip <| QN.block <| QN.then_ <| W.region ?_
      obtain ⟨c587, h⟩ := ite_n h
      refine WL.p rfl rfl rfl (.s 19 rfl (.k .nil)) (q_addR rfl c587) <| WL.p rfl rfl rfl (.s 29 rfl .nil) (q_move rfl) <| WL.nil ?_
      exact next0 () (x19 + 1) _ h (.one rfl (.one rfl (.one rfl (.one rfl (.nil _)))))
    ·refine W.exit <| QX.then_ <| QX.then_ <| QX.here <| QN.then_ <| W.seq <| W.region <| WL.p rfl rfl rfl (.k .nil) (q_assign rfl) <| WL.nil <| QN.then_ <| W.ret ?_
     cases h
     exact QR.f1 rfl rfl (.t rfl) (.id _)
 ·refine W.region <| WL.p rfl rfl rfl (.s 0 rfl .nil) (q_move rfl) <| WL.p rfl rfl rfl (.s 8 rfl (.k .nil)) (q_int rfl rfl) <| WL.p rfl rfl rfl (.s 9 rfl .nil) (q_move rfl) ?_
  rcases bif_s h with ⟨hb588, h⟩ | ⟨hb588, h⟩
  ·refine WL.skip (Unwanted.on rfl rfl rfl hb588) rfl rfl <| WL.skip (Unwanted.on rfl rfl rfl hb588) rfl rfl <| WL.p rfl rfl rfl (.s 10 rfl (.k .nil)) (q_pickT rfl hb588) <| WL.nil ?_
   exact QN.weaken (.one rfl (.one rfl (.one rfl (.nil _)))) (Kj567 () true h)
  ·refine WL.q (Wanted.on rfl rfl rfl hb588) rfl rfl (.s 0 rfl .nil) (q_move rfl).o <| WL.q (Wanted.on rfl rfl rfl hb588) rfl rfl (.s 11 rfl (.k .nil)) (q_int rfl rfl).o <| WL.p rfl rfl rfl (.s 10 rfl (.s 12 rfl .nil)) (q_pickF rfl hb588) <| WL.nil ?_
   exact QN.weaken (.one rfl (.one rfl (.one rfl (.nil _)))) (Kj567 () (decide (a0 > 12)) h)
theorem slices_Index_bool.con (k : Nat) (a0 : (List Bool)) (a1 : Bool) (r : Int) (h : slices_Index_bool k a0 a1 = some r) : Con Tryz.prog 110 [] [SlcA kBool a0, EqA (.bool a1)] (RA (EqA (.int .i64 r))) := by
 unfold slices_Index_bool at h
 refine Con.of (N := 19) Tryz.func110 rfl rfl rfl fun w0_ fg_ => W.seq <| W.region <| WL.p rfl rfl rfl (.k .nil) (q_assign rfl) <| WL.nil <| QN.then_ <| W.seq <| W.seq <| W.region <| WL.p rfl rfl rfl (.s 0 rfl .nil) (q_move rfl) <| WL.p rfl rfl rfl (.s 6 rfl .nil) (q_len rfl elS111) <| WL.p rfl rfl rfl (.k .nil) (q_move rfl) <| WL.nil ?_
 refine QN.then_ <| W.block ?_
 refine W.loop1 (Γ := Unit) (fun (_ : Unit) (x8 : Int) => [(0, SlcA kBool a0), (1, EqA (.bool a1)), (7, EqA (.int .i64 (a0.length : Int))), (8, EqA (.int .i64 x8))]) (fun (_ : Unit) (_ : Int) => []) h () (.one rfl (.one rfl (.one rfl (.one rfl (.nil _))))) rfl (fun rec0 K0 next0 _ x8 h => ?_)
 unfold slices_Index_bool.b0 at h
 refine W.seq <| W.region <| WL.p rfl rfl rfl (.s 8 rfl (.s 7 rfl .nil)) (q_int rfl rfl) <| WL.nil <| QN.then_ <| W.seq ?_
 refine W.condP h rfl (fun hb597 h => ?_) (fun hb597 h => ?_)
 ·refine W.skip <| QN.then_ <| W.seq <| W.block <| W.seq <| W.region <| WL.p rfl rfl rfl (.s 8 rfl .nil) (q_move rfl) <| WL.p rfl rfl rfl (.s 10 rfl .nil) (q_assign rfl) <| WL.nil <| QN.then_ <| W.seq <| W.region <| WL.p rfl rfl rfl (.s 1 rfl .nil) (q_move rfl) ?_
  refine WL.p rfl rfl rfl (.s 0 rfl .nil) (q_move rfl) <| WL.p rfl rfl rfl (.s 5 rfl .nil) (q_move rfl) ?_
  obtain ⟨c598, h⟩ := ite_n h
  refine WL.p rfl rfl rfl (.s 12 rfl (.s 13 rfl .nil)) (q_index rfl el111 rfl c598.1 c598.2) <| WL.p rfl rfl rfl (.s 14 rfl .nil) (q_load rfl sh4) <| WL.p rfl rfl rfl (.s 11 rfl (.s 15 rfl .nil)) (q_beq rfl isb4) <| WL.nil <| QN.weaken (env' := [(16, _), (5, _), (8, _), (7, _), (1, _), (0, _)]) (.one rfl (.one rfl (.one rfl (.one rfl (.one rfl (.one rfl (.nil _))))))) <| QN.then_ ?_
  refine W.condP h rfl (fun hb599 h => ?_) (fun hb599 h => ?_)
  ·refine W.seq <| W.region <| WL.p rfl rfl rfl (.s 5 rfl .nil) (q_move rfl) <| WL.p rfl rfl rfl (.s 17 rfl .nil) (q_assign rfl) <| WL.nil <| QN.weaken (env' := [(4, _)]) (.one rfl (.nil _)) <| QN.then_ <| W.ret <| QR.block <| QR.then_ <| QR.then_ <| QR.block <| QR.then_ ?_
   cases h
   exact QR.f1 rfl rfl (.t rfl) (.id _)
  ·refine W.skip <| QN.block <| QN.then_ <| W.region ?_
   obtain ⟨c600, h⟩ := ite_n h
   refine WL.p rfl rfl rfl (.s 8 rfl (.k .nil)) (q_addR rfl c600) <| WL.p rfl rfl rfl (.s 18 rfl .nil) (q_move rfl) <| WL.nil ?_
   exact next0 () (x8 + 1) _ h (.one rfl (.one rfl (.one rfl (.one rfl (.nil _)))))
 ·refine W.exit <| QX.then_ <| QX.then_ <| QX.here <| QN.then_ <| W.seq <| W.region <| WL.p rfl rfl rfl (.k .nil) (q_assign rfl) <| WL.nil <| QN.then_ <| W.ret ?_
  cases h
  exact QR.f1 rfl rfl (.t rfl) (.id _)
theorem slices_Contains_bool.con (k : Nat) (a0 : (List Bool)) (a1 : Bool) (r : Bool) (h : slices_Contains_bool k a0 a1 = some r) : Con Tryz.prog 57 [] [SlcA kBool a0, EqA (.bool a1)] (RA (EqA (.bool r))) := by
 unfold slices_Contains_bool at h
 refine Con.of (N := 9) Tryz.func57 rfl rfl rfl fun w0_ fg_ => W.seq <| W.region <| WL.p rfl rfl rfl (.k .nil) (q_assign rfl) <| WL.nil <| QN.then_ <| W.seq <| W.region <| WL.p rfl rfl rfl (.s 0 rfl .nil) (q_move rfl) <| WL.p rfl rfl rfl (.s 1 rfl .nil) (q_move rfl) ?_
 obtain ⟨t601, ht601, h⟩ := bind_s h
 refine WL.p rfl rfl rfl (.s 5 rfl (.s 6 rfl .nil)) (q_call (f := 110) (A := EqA (.int .i64 t601)) (xs := [.tmp 5, .tmp 6]) («as» := [SlcA kBool a0, EqA (.bool a1)]) rfl ca110 (slices_Index_bool.con k a0 a1 t601 ht601) rfl) <| WL.p rfl rfl rfl (.s 7 rfl (.k .nil)) (q_int rfl rfl) <| WL.p rfl rfl rfl (.s 8 rfl .nil) (q_assign rfl) <| WL.nil <| QN.then_ <| W.ret ?_
 cases h
 exact QR.f1 rfl rfl (.t rfl) (.id _)
theorem attribute_Valid.con (k : Nat) (a0 : Types) (a1 : Pattern) (r : Int) (h : attribute_Valid k a0 a1 = some r) : Con Tryz.prog 18 [] [AggA [SlcA kNodeType a0.fNodes, SlcA kEdgeType a0.fEdges], AggA [SlcA kInt a1.fGraph.fNodes, SlcA kEdge a1.fGraph.fEdges, SlcA kSlot a1.fSlots, EqA (.int .i64 a1.fVars), SlcA kTest a1.fTests]] (RA (EqA (.int .i64 r))) := by
 unfold attribute_Valid at h
 refine Con.of (N := 110) Tryz.func18 rfl rfl rfl fun w0_ fg_ => W.seq <| W.region <| WL.p rfl rfl rfl (.s 0 rfl .nil) (q_box rfl (CellsOf.agg _)) <| WL.p rfl rfl rfl (.s 1 rfl .nil) (q_box rfl (CellsOf.agg _)) <| WL.p rfl rfl rfl (.k .nil) (q_assign rfl) <| WL.nil <| QN.then_ <| W.seq <| W.seq <| W.region <| WL.p rfl rfl rfl (.s 2 rfl .nil) (q_loadS rfl sh35 (leB rfl) rfl) ?_
 obtain ⟨t602, ht602, h⟩ := bind_s h
 refine WL.p rfl rfl rfl (.s 15 rfl .nil) (q_call (f := 49) (A := TupA [EqA (strV t602.1), EqA (.int .i64 t602.2)]) (xs := [.tmp 15]) («as» := [AggA [SlcA kNodeType a0.fNodes, SlcA kEdgeType a0.fEdges]]) rfl ca49 (types_Valid.con k a0 t602 ht602) rfl) <| WL.p rfl rfl rfl (.s 16 rfl .nil) (q_move rfl) <| WL.p rfl rfl rfl (.s 14 rfl .nil) (q_extract rfl rfl) <| WL.p rfl rfl rfl (.s 14 rfl .nil) (q_extract rfl rfl) <| WL.p rfl rfl rfl (.s 17 rfl .nil) (q_assign rfl) <| WL.p rfl rfl rfl (.s 18 rfl .nil) (q_assign rfl) <| WL.nil <| QN.weaken (env' := [(6, _), (3, _), (2, _)]) (.one rfl (.one rfl (.one rfl (.nil _)))) <| QN.then_ <| W.seq <| W.region <| WL.p rfl rfl rfl (.s 6 rfl .nil) (q_move rfl) <| WL.p rfl rfl rfl (.s 19 rfl (.k .nil)) (q_int rfl rfl) ?_
 refine WL.nil <| QN.then_ ?_
 refine W.condP h rfl (fun hb603 h => ?_) (fun hb603 h => ?_)
 ·refine W.seq <| W.region <| WL.p rfl rfl rfl (.s 6 rfl .nil) (q_move rfl) <| WL.p rfl rfl rfl (.s 21 rfl .nil) (q_assign rfl) <| WL.nil <| QN.then_ <| W.ret <| QR.then_ ?_
  cases h
  exact QR.f1 rfl rfl (.t rfl) (.id _)
 ·refine W.skip <| QN.then_ <| W.seq <| W.seq <| W.region <| WL.p rfl rfl rfl (.s 3 rfl .nil) (q_field rfl fo42_0 rfl) <| WL.p rfl rfl rfl (.s 22 rfl .nil) (q_loadS rfl sh38 (leB rfl) rfl) ?_
  obtain ⟨t604, ht604, h⟩ := bind_s h
  refine WL.p rfl rfl rfl (.s 23 rfl .nil) (q_call (f := 50) (A := EqA (.int .i64 t604)) (xs := [.tmp 23]) («as» := [AggA [SlcA kInt a1.fGraph.fNodes, SlcA kEdge a1.fGraph.fEdges]]) rfl ca50 (graph_Valid.con k a1.fGraph t604 ht604) rfl) <| WL.p rfl rfl rfl (.s 24 rfl .nil) (q_assign rfl) <| WL.nil <| QN.then_ <| W.seq <| W.region <| WL.p rfl rfl rfl (.s 7 rfl .nil) (q_move rfl) <| WL.p rfl rfl rfl (.s 25 rfl (.k .nil)) (q_int rfl rfl) <| WL.nil <| QN.weaken (env' := [(26, _), (7, _), (3, _), (2, _)]) (.one rfl (.one rfl (.one rfl (.one rfl (.nil _))))) <| QN.then_ ?_
  refine W.condP h rfl (fun hb605 h => ?_) (fun hb605 h => ?_)
  ·refine W.seq <| W.region <| WL.p rfl rfl rfl (.s 7 rfl .nil) (q_move rfl) <| WL.p rfl rfl rfl (.s 27 rfl .nil) (q_assign rfl) <| WL.nil <| QN.then_ <| W.ret <| QR.then_ ?_
   cases h
   exact QR.f1 rfl rfl (.t rfl) (.id _)
  ·refine W.skip <| QN.then_ <| W.seq <| W.seq ?_
   refine W.jn1 (Γ := Unit) (fun (_ : Unit) (x39 : Bool) => [(2, PtrA [SlcA kNodeType a0.fNodes, SlcA kEdgeType a0.fEdges]), (3, PtrA [SlcA kInt a1.fGraph.fNodes, SlcA kEdge a1.fGraph.fEdges, SlcA kSlot a1.fSlots, EqA (.int .i64 a1.fVars), SlcA kTest a1.fTests]), (39, EqA (.bool x39))]) (fun (_ : Unit) (_ : Bool) => []) h (fun _ x39 h => ?_) (fun j610 Kj610 h => ?_)
   ·refine QN.then_ ?_
    refine W.condP h rfl (fun hb611 h => ?_) (fun hb611 h => ?_)
    ·refine W.seq <| W.region <| WL.p rfl rfl rfl (.k .nil) (q_assign rfl) <| WL.nil <| QN.then_ <| W.ret <| QR.then_ ?_
     cases h
     exact QR.f1 rfl rfl (.t rfl) (.id _)
    ·refine W.skip <| QN.then_ <| W.seq <| W.seq <| W.region <| WL.p rfl rfl rfl (.s 3 rfl .nil) (q_field rfl fo42_2 rfl) <| WL.p rfl rfl rfl (.s 40 rfl .nil) (q_load rfl sh3) ?_
     obtain ⟨t612, ht612, h⟩ := bind_s h
     refine WL.p rfl rfl rfl (.s 41 rfl (.k (.k .nil))) (q_call (f := 40) (A := EqA (.bool t612)) (xs := [.tmp 41, .const (.int .i64 0), .const (.int .i64 12)]) («as» := [EqA (.int .i64 a1.fVars), EqA (.int .i64 0), EqA (.int .i64 12)]) rfl ca40 (attribute_within.con k a1.fVars 0 12 t612 ht612) rfl) <| WL.p rfl rfl rfl (.s 42 rfl .nil) (q_not rfl) <| WL.nil <| QN.then_ ?_
     refine W.condP h rfl (fun hb613 h => ?_) (fun hb613 h => ?_)
     ·refine W.seq <| W.region <| WL.p rfl rfl rfl (.k .nil) (q_assign rfl) <| WL.nil <| QN.weaken (env' := [(4, _)]) (.one rfl (.nil _)) <| QN.then_ <| W.ret <| QR.then_ ?_
      cases h
      exact QR.f1 rfl rfl (.t rfl) (.id _)
     ·refine W.skip <| QN.then_ <| W.seq <| W.seq ?_
      refine W.jn1 (Γ := Unit) (fun (_ : Unit) (x53 : Bool) => [(2, PtrA [SlcA kNodeType a0.fNodes, SlcA kEdgeType a0.fEdges]), (3, PtrA [SlcA kInt a1.fGraph.fNodes, SlcA kEdge a1.fGraph.fEdges, SlcA kSlot a1.fSlots, EqA (.int .i64 a1.fVars), SlcA kTest a1.fTests]), (53, EqA (.bool x53))]) (fun (_ : Unit) (_ : Bool) => []) h (fun _ x53 h => ?_) (fun j616 Kj616 h => ?_)
      ·refine QN.then_ ?_
       refine W.condP h rfl (fun hb617 h => ?_) (fun hb617 h => ?_)
       ·refine W.seq <| W.region <| WL.p rfl rfl rfl (.k .nil) (q_assign rfl) <| WL.nil <| QN.then_ <| W.ret <| QR.then_ ?_
        cases h
        exact QR.f1 rfl rfl (.t rfl) (.id _)
       ·refine W.skip <| QN.then_ <| W.seq <| W.region <| WL.p rfl rfl rfl (.s 3 rfl .nil) (q_field rfl fo42_2 rfl) <| WL.p rfl rfl rfl (.s 54 rfl .nil) (q_load rfl sh3) ?_
        obtain ⟨c618, h⟩ := ite_n h
        refine WL.w [] rfl (Wanted.plain rfl) rfl rfl (.s 55 rfl (.s 55 rfl .nil)) (w_make (kd := kBool) (z := false) rfl el111 rfl gr4 z4 rfl c618.1 c618.2) ?_
        rintro _ _ ⟨v619, rfl, rfl⟩
        refine WL.p rfl rfl rfl (.s 56 rfl .nil) (q_assign rfl) <| WL.nil <| QN.then_ <| W.seq <| W.seq <| W.region <| WL.p rfl rfl rfl (.s 3 rfl .nil) (q_field rfl fo42_1 rfl) <| WL.p rfl rfl rfl (.s 57 rfl .nil) (q_load rfl sh39) <| WL.p rfl rfl rfl (.s 58 rfl .nil) (q_len rfl elS39) <| WL.p rfl rfl rfl (.k .nil) (q_move rfl) <| WL.nil <| QN.then_ <| W.block ?_
        refine W.loop2 (Γ := Unit) (fun (_ : Unit) (_ : (List Bool)) (x60 : Int) => [(2, PtrA [SlcA kNodeType a0.fNodes, SlcA kEdgeType a0.fEdges]), (3, PtrA [SlcA kInt a1.fGraph.fNodes, SlcA kEdge a1.fGraph.fEdges, SlcA kSlot a1.fSlots, EqA (.int .i64 a1.fVars), SlcA kTest a1.fTests]), (8, HdA v619), (58, SlcA kSlot a1.fSlots), (59, EqA (.int .i64 (a1.fSlots.length : Int))), (60, EqA (.int .i64 x60))]) (fun (_ : Unit) (x8 : (List Bool)) (_ : Int) => [SlE 4 v619 kBool x8]) h () (.one rfl (.one rfl (.one rfl (.one rfl (.one rfl (.one rfl (.nil _))))))) rfl (fun rec0 K0 next0 _ x8 x60 h => ?_)
        unfold attribute_Valid.b0 at h
        refine W.seq <| W.region <| WL.p rfl rfl rfl (.s 60 rfl (.s 59 rfl .nil)) (q_int rfl rfl) <| WL.nil <| QN.then_ <| W.seq ?_
        refine W.condP h rfl (fun hb676 h => ?_) (fun hb676 h => ?_)
        ·refine W.skip <| QN.then_ <| W.seq <| W.block <| W.seq <| W.region ?_
         obtain ⟨c677, h⟩ := ite_n h
         refine WL.p rfl rfl rfl (.s 58 rfl (.s 60 rfl .nil)) (q_index rfl el39 rfl c677.1 c677.2) <| WL.p rfl rfl rfl (.s 62 rfl .nil) (q_loadS rfl sh113 (leB rfl) rfl) <| WL.w [] rfl (Wanted.plain rfl) rfl rfl .nil (w_alloc rfl z113 (l := [EqA (.int .i64 0), EqA (.int .i64 0), EqA (.int .i64 0), EqA (.int .i64 0)]) rfl) ?_
         rintro _ _ ⟨b678, rfl, rfl⟩
         refine WL.w0 [0] rfl (Wanted.plain rfl) rfl (.s 10 rfl (.s 63 rfl .nil)) (w_store (L := [EqA (.int .i64 ((rd a1.fSlots x60).fNode)), EqA (.int .i64 ((rd a1.fSlots x60).fAttr)), EqA (.int .i64 ((rd a1.fSlots x60).fTerm.fVar)), EqA (.int .i64 ((rd a1.fSlots x60).fTerm.fAdd))]) rfl sh113 (CellsOf.agg _) rfl rfl (leB rfl) rfl) ?_
         rintro _ _ ⟨rfl, rfl⟩
         refine WL.nil <| QN.to (StTo.still [0] 10 rfl rfl) <| QN.then_ <| W.seq <| W.seq <| W.region <| WL.p rfl rfl rfl (.s 2 rfl .nil) (q_loadS rfl sh35 (leB rfl) rfl) <| WL.p rfl rfl rfl (.s 3 rfl .nil) (q_loadS rfl sh42 (leB rfl) rfl) <| WL.p rfl rfl rfl (.s 10 rfl .nil) (q_loadS rfl sh113 (leB rfl) rfl) ?_
         obtain ⟨t679, ht679, h⟩ := bind_s h
         refine WL.p rfl rfl rfl (.s 65 rfl (.s 66 rfl (.s 67 rfl .nil))) (q_call (f := 55) (A := TupA [AggA [EqA (strV t679.1.fName), EqA (.int .i64 t679.1.fLow), EqA (.int .i64 t679.1.fHigh), SlcA kStr t679.1.fNames], EqA (.bool t679.2)]) (xs := [.tmp 65, .tmp 66, .tmp 67]) («as» := [AggA [SlcA kNodeType a0.fNodes, SlcA kEdgeType a0.fEdges], AggA [SlcA kInt a1.fGraph.fNodes, SlcA kEdge a1.fGraph.fEdges, SlcA kSlot a1.fSlots, EqA (.int .i64 a1.fVars), SlcA kTest a1.fTests], AggA [EqA (.int .i64 ((rd a1.fSlots x60).fNode)), EqA (.int .i64 ((rd a1.fSlots x60).fAttr)), EqA (.int .i64 ((rd a1.fSlots x60).fTerm.fVar)), EqA (.int .i64 ((rd a1.fSlots x60).fTerm.fAdd))]]) rfl ca55 (attribute_attr.con k a0 a1 (rd a1.fSlots x60) t679 ht679) rfl) <| WL.p rfl rfl rfl (.s 68 rfl .nil) (q_move rfl) <| WL.p rfl rfl rfl (.s 64 rfl .nil) (q_extract rfl rfl) <| WL.p rfl rfl rfl (.s 64 rfl .nil) (q_extract rfl rfl) <| WL.w [] rfl (Wanted.plain rfl) rfl rfl .nil (w_alloc rfl z95 (l := [EqA (strV ([] : Str)), EqA (.int .i64 0), EqA (.int .i64 0), EqA (.slice none 0 0)]) rfl) ?_
         rintro _ _ ⟨b680, rfl, rfl⟩
         refine WL.w0 [0] rfl (Wanted.plain rfl) rfl (.s 11 rfl (.s 69 rfl .nil)) (w_store (L := [EqA (strV t679.1.fName), EqA (.int .i64 t679.1.fLow), EqA (.int .i64 t679.1.fHigh), SlcA kStr t679.1.fNames]) rfl sh95 (CellsOf.agg _) rfl rfl (leB rfl) rfl) ?_
         rintro _ _ ⟨rfl, rfl⟩
         refine WL.p rfl rfl rfl (.s 70 rfl .nil) (q_assign rfl) <| WL.nil <| QN.to (StTo.still [0] 11 rfl rfl) <| QN.weaken (env' := [(12, _), (10, _), (60, _), (59, _), (58, _), (8, _), (3, _), (2, _)]) (.one rfl (.one rfl (.one rfl (.one rfl (.one rfl (.one rfl (.one rfl (.one rfl (.nil _))))))))) <| QN.then_ <| W.seq ?_
         refine W.jn1 (Γ := Unit) (fun (_ : Unit) (x89 : Bool) => [(2, PtrA [SlcA kNodeType a0.fNodes, SlcA kEdgeType a0.fEdges]), (3, PtrA [SlcA kInt a1.fGraph.fNodes, SlcA kEdge a1.fGraph.fEdges, SlcA kSlot a1.fSlots, EqA (.int .i64 a1.fVars), SlcA kTest a1.fTests]), (8, HdA v619), (58, SlcA kSlot a1.fSlots), (59, EqA (.int .i64 (a1.fSlots.length : Int))), (60, EqA (.int .i64 x60)), (10, PtrA [EqA (.int .i64 ((rd a1.fSlots x60).fNode)), EqA (.int .i64 ((rd a1.fSlots x60).fAttr)), EqA (.int .i64 ((rd a1.fSlots x60).fTerm.fVar)), EqA (.int .i64 ((rd a1.fSlots x60).fTerm.fAdd))]), (89, EqA (.bool x89))]) (fun (_ : Unit) (_ : Bool) => [SlE 4 v619 kBool x8]) h (fun _ x89 h => ?_) (fun j687 Kj687 h => ?_)
         ·refine QN.then_ ?_
          refine W.condP h rfl (fun hb688 h => ?_) (fun hb688 h => ?_)
          ·refine W.seq <| W.region <| WL.p rfl rfl rfl (.k .nil) (q_assign rfl) <| WL.nil <| QN.weaken (env' := [(4, _)]) (.one rfl (.nil _)) <| QN.then_ <| W.ret <| QR.then_ <| QR.block <| QR.then_ <| QR.then_ <| QR.block <| QR.then_ ?_
           cases h
           exact QR.f1 rfl rfl (.t rfl) (.id _)
          ·refine W.skip <| QN.then_ <| W.seq <| W.region <| WL.p rfl rfl rfl (.s 10 rfl .nil) (q_field rfl fo113_2 rfl) <| WL.p rfl rfl rfl (.s 90 rfl .nil) (q_field rfl fo23_0 rfl) <| WL.p rfl rfl rfl (.s 91 rfl .nil) (q_load rfl sh3) <| WL.p rfl rfl rfl (.s 92 rfl (.k .nil)) (q_int rfl rfl) <| WL.nil <| QN.then_ ?_
           refine W.condP h rfl (fun hb691 h => ?_) (fun hb691 h => ?_)
           ·refine W.region <| WL.p rfl rfl rfl (.s 8 rfl .nil) (q_move rfl) <| WL.p rfl rfl rfl (.s 10 rfl .nil) (q_field rfl fo113_2 rfl) <| WL.p rfl rfl rfl (.s 95 rfl .nil) (q_field rfl fo23_0 rfl) <| WL.p rfl rfl rfl (.s 96 rfl .nil) (q_load rfl sh3) ?_
            obtain ⟨c692, h⟩ := ite_n h
            refine WL.q (Wanted.plain rfl) rfl rfl (.s 94 rfl (.s 97 rfl .nil)) (q_indexO rfl el111 (j := 0) rfl c692.1 c692.2) <| WL.w0 [0] rfl (Wanted.plain rfl) rfl (.s 98 rfl (.k .nil)) (w_storeEl (kd := kBool) (z := true) rfl sh4 (CellsOf.one rfl) rfl rfl rfl c692.1 c692.2 rfl rfl) ?_
            rintro _ _ ⟨rfl, rfl⟩
            refine WL.nil <| QN.block <| QN.weaken (env' := [(60, _), (59, _), (58, _), (8, _), (3, _), (2, _)]) (.one rfl (.one rfl (.one rfl (.one rfl (.one rfl (.one rfl (.nil _))))))) <| QN.then_ <| W.region ?_
            obtain ⟨c693, h⟩ := ite_n h
            refine WL.p rfl rfl rfl (.s 60 rfl (.k .nil)) (q_addR rfl c693) <| WL.p rfl rfl rfl (.s 99 rfl .nil) (q_move rfl) <| WL.nil ?_
            exact next0 () (x8.set ((rd a1.fSlots x60).fTerm.fVar : Int).toNat true) (x60 + 1) _ h (.one rfl (.one rfl (.one rfl (.one rfl (.one rfl (.one rfl (.nil _)))))))
           ·refine W.skip <| QN.block <| QN.then_ <| W.region ?_
            obtain ⟨c694, h⟩ := ite_n h
            refine WL.p rfl rfl rfl (.s 60 rfl (.k .nil)) (q_addR rfl c694) <| WL.p rfl rfl rfl (.s 99 rfl .nil) (q_move rfl) <| WL.nil ?_
            exact next0 () x8 (x60 + 1) _ h (.one rfl (.one rfl (.one rfl (.one rfl (.one rfl (.one rfl (.nil _)))))))
         ·refine W.region <| WL.p rfl rfl rfl (.s 12 rfl .nil) (q_move rfl) <| WL.p rfl rfl rfl (.s 71 rfl .nil) (q_not rfl) <| WL.p rfl rfl rfl (.s 72 rfl .nil) (q_move rfl) ?_
          rcases bif_s h with ⟨hb695, h⟩ | ⟨hb695, h⟩
          ·refine WL.skip (Unwanted.on rfl rfl rfl hb695) rfl rfl <| WL.skip (Unwanted.on rfl rfl rfl hb695) rfl rfl <| WL.skip (Unwanted.on rfl rfl rfl hb695) rfl rfl <| WL.skip (Unwanted.on rfl rfl rfl hb695) rfl rfl <| WL.skip (Unwanted.on rfl rfl rfl hb695) rfl rfl <| WL.skip (Unwanted.on rfl rfl rfl hb695) rfl rfl <| WL.skip (Unwanted.on rfl rfl rfl hb695) rfl rfl <| WL.skip (Unwanted.on rfl rfl rfl hb695) rfl rfl <| WL.p rfl rfl rfl (.s 73 rfl (.k .nil)) (q_pickT rfl hb695) <| WL.p rfl rfl rfl (.s 82 rfl .nil) (q_move rfl) <| WL.skip (Unwanted.on rfl rfl rfl rfl) rfl rfl <| WL.skip (Unwanted.on rfl rfl rfl rfl) rfl rfl <| WL.skip (Unwanted.on rfl rfl rfl rfl) rfl rfl ?_
           refine WL.skip (Unwanted.on rfl rfl rfl rfl) rfl rfl <| WL.skip (Unwanted.on rfl rfl rfl rfl) rfl rfl <| WL.p rfl rfl rfl (.s 83 rfl (.k .nil)) (q_pickT rfl rfl) <| WL.nil ?_
           exact QN.weaken (.one rfl (.one rfl (.one rfl (.one rfl (.one rfl (.one rfl (.one rfl (.one rfl (.nil _))))))))) (Kj687 () true h)
          ·refine WL.q (Wanted.on rfl rfl rfl hb695) rfl rfl (.s 10 rfl .nil) (q_field rfl fo113_2 rfl).o <| WL.q (Wanted.on rfl rfl rfl hb695) rfl rfl (.s 74 rfl .nil) (q_field rfl fo23_0 rfl).o <| WL.q (Wanted.on rfl rfl rfl hb695) rfl rfl (.s 75 rfl .nil) (q_load rfl sh3).o <| WL.q (Wanted.on rfl rfl rfl hb695) rfl rfl (.s 3 rfl .nil) (q_field rfl fo42_2 rfl).o <| WL.q (Wanted.on rfl rfl rfl hb695) rfl rfl (.s 77 rfl .nil) (q_load rfl sh3).o ?_
           obtain ⟨c696, h⟩ := ite_n h
           refine WL.q (Wanted.on rfl rfl rfl hb695) rfl rfl (.s 78 rfl (.k .nil)) (q_subR rfl c696).o ?_
           obtain ⟨t697, ht697, h⟩ := bind_s h
           refine WL.q (Wanted.on rfl rfl rfl hb695) rfl rfl (.s 76 rfl (.k (.s 79 rfl .nil))) (q_call (f := 40) (A := EqA (.bool t697)) (xs := [.tmp 76, .const (.int .i64 (-1)), .tmp 79]) («as» := [EqA (.int .i64 ((rd a1.fSlots x60).fTerm.fVar)), EqA (.int .i64 (-1)), EqA (.int .i64 (a1.fVars - 1))]) rfl ca40 (attribute_within.con k ((rd a1.fSlots x60).fTerm.fVar) (-1) (a1.fVars - 1) t697 ht697) rfl).o <| WL.q (Wanted.on rfl rfl rfl hb695) rfl rfl (.s 80 rfl .nil) (q_not rfl).o <| WL.p rfl rfl rfl (.s 73 rfl (.s 81 rfl .nil)) (q_pickF rfl hb695) <| WL.p rfl rfl rfl (.s 82 rfl .nil) (q_move rfl) ?_
           rcases bif_s h with ⟨hb698, h⟩ | ⟨hb698, h⟩
           ·refine WL.skip (Unwanted.on rfl rfl rfl hb698) rfl rfl <| WL.skip (Unwanted.on rfl rfl rfl hb698) rfl rfl <| WL.skip (Unwanted.on rfl rfl rfl hb698) rfl rfl <| WL.skip (Unwanted.on rfl rfl rfl hb698) rfl rfl <| WL.skip (Unwanted.on rfl rfl rfl hb698) rfl rfl <| WL.p rfl rfl rfl (.s 83 rfl (.k .nil)) (q_pickT rfl hb698) <| WL.nil ?_
            exact QN.weaken (.one rfl (.one rfl (.one rfl (.one rfl (.one rfl (.one rfl (.one rfl (.one rfl (.nil _))))))))) (Kj687 () true h)
           ·refine WL.q (Wanted.on rfl rfl rfl hb698) rfl rfl (.s 10 rfl .nil) (q_field rfl fo113_2 rfl).o <| WL.q (Wanted.on rfl rfl rfl hb698) rfl rfl (.s 84 rfl .nil) (q_field rfl fo23_1 rfl).o <| WL.q (Wanted.on rfl rfl rfl hb698) rfl rfl (.s 85 rfl .nil) (q_load rfl sh3).o ?_
            obtain ⟨t699, ht699, h⟩ := bind_s h
            refine WL.q (Wanted.on rfl rfl rfl hb698) rfl rfl (.s 86 rfl (.k (.k .nil))) (q_call (f := 40) (A := EqA (.bool t699)) (xs := [.tmp 86, .const (.int .i64 (-1000000)), .const (.int .i64 1000000)]) («as» := [EqA (.int .i64 ((rd a1.fSlots x60).fTerm.fAdd)), EqA (.int .i64 (-1000000)), EqA (.int .i64 1000000)]) rfl ca40 (attribute_within.con k ((rd a1.fSlots x60).fTerm.fAdd) (-1000000) 1000000 t699 ht699) rfl).o <| WL.q (Wanted.on rfl rfl rfl hb698) rfl rfl (.s 87 rfl .nil) (q_not rfl).o <| WL.p rfl rfl rfl (.s 83 rfl (.s 88 rfl .nil)) (q_pickF rfl hb698) <| WL.nil ?_
            exact QN.weaken (.one rfl (.one rfl (.one rfl (.one rfl (.one rfl (.one rfl (.one rfl (.one rfl (.nil _))))))))) (Kj687 () (!t699) h)
        ·refine W.exit <| QX.then_ <| QX.then_ <| QX.here <| QN.then_ <| W.seq <| W.seq <| W.region <| WL.p rfl rfl rfl (.s 3 rfl .nil) (q_field rfl fo42_2 rfl) <| WL.p rfl rfl rfl (.s 100 rfl .nil) (q_load rfl sh3) <| WL.p rfl rfl rfl (.s 3 rfl .nil) (q_field rfl fo42_3 rfl) <| WL.p rfl rfl rfl (.s 102 rfl .nil) (q_load rfl sh40) ?_
         obtain ⟨t700, ht700, h⟩ := bind_s h
         refine WL.p rfl rfl rfl (.s 101 rfl (.s 103 rfl .nil)) (q_call (f := 56) (A := EqA (.int .i64 t700)) (xs := [.tmp 101, .tmp 103]) («as» := [EqA (.int .i64 a1.fVars), SlcA kTest a1.fTests]) rfl ca56 (difference_Valid.con k a1.fVars a1.fTests t700 ht700) rfl) <| WL.p rfl rfl rfl (.s 104 rfl .nil) (q_assign rfl) <| WL.nil <| QN.weaken (env' := [(13, _), (8, _)]) (.one rfl (.one rfl (.nil _))) <| QN.then_ <| W.seq <| W.region <| WL.p rfl rfl rfl (.s 13 rfl .nil) (q_move rfl) <| WL.p rfl rfl rfl (.s 105 rfl (.k .nil)) (q_int rfl rfl) <| WL.nil <| QN.then_ ?_
         refine W.condP h rfl (fun hb701 h => ?_) (fun hb701 h => ?_)
         ·refine W.seq <| W.region <| WL.p rfl rfl rfl (.s 13 rfl .nil) (q_move rfl) <| WL.p rfl rfl rfl (.s 107 rfl .nil) (q_assign rfl) <| WL.nil <| QN.then_ <| W.ret <| QR.then_ ?_
          cases h
          exact QR.f1 rfl rfl (.t rfl) (.id _)
         ·refine W.skip <| QN.then_ <| W.seq <| W.seq <| W.region <| WL.p rfl rfl rfl (.s 8 rfl .nil) (q_move rfl) ?_
          obtain ⟨t702, ht702, h⟩ := bind_s h
          refine WL.q (Wanted.plain rfl) rfl rfl (.s 108 rfl (.k .nil)) (q_lend (f := 57) (A := EqA (.bool t702)) (xs := [.tmp 108, .const (.bool false)]) («as» := [HdA v619, EqA (.bool false)]) rfl ca57 (slices_Contains_bool.con k x8 false t702 ht702) rfl (.cons (.slc 0 rfl) (.cons (.id _) .nil)) (Flat.eq _)) <| WL.nil <| QN.then_ ?_
          refine W.condP h rfl (fun hb703 h => ?_) (fun hb703 h => ?_)
          ·refine W.seq <| W.region <| WL.p rfl rfl rfl (.k .nil) (q_assign rfl) <| WL.nil <| QN.then_ <| W.ret <| QR.then_ ?_
           cases h
           exact QR.f1 rfl rfl (.t rfl) (.id _)
          ·refine W.skip <| QN.then_ <| W.seq <| W.region <| WL.p rfl rfl rfl (.k .nil) (q_assign rfl) <| WL.nil <| QN.then_ <| W.ret ?_
           cases h
           exact QR.f1 rfl rfl (.t rfl) (.id _)
      ·refine W.region <| WL.p rfl rfl rfl (.s 3 rfl .nil) (q_field rfl fo42_1 rfl) <| WL.p rfl rfl rfl (.s 44 rfl .nil) (q_load rfl sh39) <| WL.p rfl rfl rfl (.s 45 rfl .nil) (q_len rfl elS39) <| WL.p rfl rfl rfl (.s 46 rfl (.k .nil)) (q_int rfl rfl) <| WL.p rfl rfl rfl (.s 47 rfl .nil) (q_move rfl) ?_
       rcases bif_s h with ⟨hb704, h⟩ | ⟨hb704, h⟩
       ·refine WL.skip (Unwanted.on rfl rfl rfl hb704) rfl rfl <| WL.skip (Unwanted.on rfl rfl rfl hb704) rfl rfl <| WL.skip (Unwanted.on rfl rfl rfl hb704) rfl rfl <| WL.skip (Unwanted.on rfl rfl rfl hb704) rfl rfl <| WL.p rfl rfl rfl (.s 48 rfl (.k .nil)) (q_pickT rfl hb704) <| WL.nil ?_
        exact QN.weaken (.one rfl (.one rfl (.one rfl (.nil _)))) (Kj616 () true h)
       ·refine WL.q (Wanted.on rfl rfl rfl hb704) rfl rfl (.s 3 rfl .nil) (q_field rfl fo42_3 rfl).o <| WL.q (Wanted.on rfl rfl rfl hb704) rfl rfl (.s 49 rfl .nil) (q_load rfl sh40).o <| WL.q (Wanted.on rfl rfl rfl hb704) rfl rfl (.s 50 rfl .nil) (q_len rfl elS40).o <| WL.q (Wanted.on rfl rfl rfl hb704) rfl rfl (.s 51 rfl (.k .nil)) (q_int rfl rfl).o <| WL.p rfl rfl rfl (.s 48 rfl (.s 52 rfl .nil)) (q_pickF rfl hb704) <| WL.nil ?_
        exact QN.weaken (.one rfl (.one rfl (.one rfl (.nil _)))) (Kj616 () (decide ((a1.fTests.length : Int) > 10)) h)
   ·refine W.region <| WL.p rfl rfl rfl (.s 3 rfl .nil) (q_field rfl fo42_0 rfl) <| WL.p rfl rfl rfl (.s 28 rfl .nil) (q_field rfl fo38_0 rfl) <| WL.p rfl rfl rfl (.s 29 rfl .nil) (q_load rfl sh26) <| WL.p rfl rfl rfl (.s 2 rfl .nil) (q_makeFunc (xs := [.tmp 2]) (L := [PtrA [SlcA kNodeType a0.fNodes, SlcA kEdgeType a0.fEdges]]) («as» := (fun (x : Int) => [EqA (.int .i64 x)])) (res := (fun (y : Bool) => EqA (.bool y))) (p := (fun x => attribute_Valid_1 k x a0)) rfl ca52 rfl (fun x y hp => (attribute_Valid_1.con k x a0 y hp))) ?_
    obtain ⟨t705, ht705, h⟩ := bind_s h
    refine WL.p rfl rfl rfl (.s 30 rfl (.s 31 rfl .nil)) (q_call (f := 51) (A := EqA (.bool t705)) (xs := [.tmp 30, .tmp 31]) («as» := [SlcA kInt a1.fGraph.fNodes, FnA Tryz.prog (fun (x : Int) => [EqA (.int .i64 x)]) (fun (y : Bool) => EqA (.bool y)) (fun x => attribute_Valid_1 k x a0)]) rfl ca51 (slices_ContainsFunc_int.con k a1.fGraph.fNodes (fun x => attribute_Valid_1 k x a0) t705 ht705) rfl) <| WL.p rfl rfl rfl (.s 32 rfl .nil) (q_move rfl) ?_
    rcases bif_s h with ⟨hb706, h⟩ | ⟨hb706, h⟩
    ·refine WL.skip (Unwanted.on rfl rfl rfl hb706) rfl rfl <| WL.skip (Unwanted.on rfl rfl rfl hb706) rfl rfl <| WL.skip (Unwanted.on rfl rfl rfl hb706) rfl rfl <| WL.skip (Unwanted.on rfl rfl rfl hb706) rfl rfl <| WL.skip (Unwanted.on rfl rfl rfl hb706) rfl rfl <| WL.p rfl rfl rfl (.s 33 rfl (.k .nil)) (q_pickT rfl hb706) <| WL.nil ?_
     exact QN.weaken (.one rfl (.one rfl (.one rfl (.nil _)))) (Kj610 () true h)
    ·refine WL.q (Wanted.on rfl rfl rfl hb706) rfl rfl (.s 3 rfl .nil) (q_field rfl fo42_0 rfl).o <| WL.q (Wanted.on rfl rfl rfl hb706) rfl rfl (.s 34 rfl .nil) (q_field rfl fo38_1 rfl).o <| WL.q (Wanted.on rfl rfl rfl hb706) rfl rfl (.s 35 rfl .nil) (q_load rfl sh36).o <| WL.q (Wanted.on rfl rfl rfl hb706) rfl rfl (.s 2 rfl .nil) (q_makeFunc (xs := [.tmp 2]) (L := [PtrA [SlcA kNodeType a0.fNodes, SlcA kEdgeType a0.fEdges]]) («as» := (fun (x : Edge) => [AggA [EqA (.int .i64 x.fType), EqA (.int .i64 x.fFrom), EqA (.int .i64 x.fTo)]])) (res := (fun (y : Bool) => EqA (.bool y))) (p := (fun x => attribute_Valid_2 k x a0)) rfl ca54 rfl (fun x y hp => (attribute_Valid_2.con k x a0 y hp))).o ?_
     obtain ⟨t707, ht707, h⟩ := bind_s h
     refine WL.q (Wanted.on rfl rfl rfl hb706) rfl rfl (.s 36 rfl (.s 37 rfl .nil)) (q_call (f := 53) (A := EqA (.bool t707)) (xs := [.tmp 36, .tmp 37]) («as» := [SlcA kEdge a1.fGraph.fEdges, FnA Tryz.prog (fun (x : Edge) => [AggA [EqA (.int .i64 x.fType), EqA (.int .i64 x.fFrom), EqA (.int .i64 x.fTo)]]) (fun (y : Bool) => EqA (.bool y)) (fun x => attribute_Valid_2 k x a0)]) rfl ca53 (slices_ContainsFunc_Edge.con k a1.fGraph.fEdges (fun x => attribute_Valid_2 k x a0) t707 ht707) rfl).o <| WL.p rfl rfl rfl (.s 33 rfl (.s 38 rfl .nil)) (q_pickF rfl hb706) <| WL.nil ?_
     exact QN.weaken (.one rfl (.one rfl (.one rfl (.nil _)))) (Kj610 () t707 h)
theorem host_node.con (k : Nat) (a0 : Types) (a1 : Int) (a2 : (List Int)) (r : Int) (h : host_node k a0 a1 a2 = some r) : Con Tryz.prog 156 [] [AggA [SlcA kNodeType a0.fNodes, SlcA kEdgeType a0.fEdges], EqA (.int .i64 a1), SlcA kInt a2] (RA (EqA (.int .i64 r))) := by
 unfold host_node at h
 refine Con.of (N := 57) Tryz.func156 rfl rfl rfl fun w0_ fg_ => W.seq <| W.region <| WL.p rfl rfl rfl (.s 0 rfl .nil) (q_box rfl (CellsOf.agg _)) <| WL.p rfl rfl rfl (.k .nil) (q_assign rfl) <| WL.nil <| QN.then_ <| W.seq <| W.seq <| W.region <| WL.p rfl rfl rfl (.s 1 rfl .nil) (q_move rfl) <| WL.p rfl rfl rfl (.s 3 rfl .nil) (q_field rfl fo35_0 rfl) <| WL.p rfl rfl rfl (.s 12 rfl .nil) (q_load rfl sh32) ?_
 refine WL.p rfl rfl rfl (.s 13 rfl .nil) (q_len rfl elS32) <| WL.p rfl rfl rfl (.s 11 rfl (.s 14 rfl .nil)) (q_int rfl rfl) <| WL.nil <| QN.then_ ?_
 refine W.condP h rfl (fun hb708 h => ?_) (fun hb708 h => ?_)
 ·refine W.seq <| W.region <| WL.p rfl rfl rfl (.k .nil) (q_assign rfl) <| WL.nil <| QN.weaken (env' := [(6, _)]) (.one rfl (.nil _)) <| QN.then_ <| W.ret <| QR.then_ ?_
  cases h
  exact QR.f1 rfl rfl (.t rfl) (.id _)
 ·refine W.skip <| QN.weaken (env' := [(3, _), (2, _), (1, _)]) (.one rfl (.one rfl (.one rfl (.nil _)))) <| QN.then_ <| W.seq <| W.seq <| W.region <| WL.p rfl rfl rfl (.s 3 rfl .nil) (q_field rfl fo35_0 rfl) <| WL.p rfl rfl rfl (.s 16 rfl .nil) (q_load rfl sh32) <| WL.p rfl rfl rfl (.s 1 rfl .nil) (q_move rfl) ?_
  obtain ⟨c709, h⟩ := ite_n h
  refine WL.p rfl rfl rfl (.s 17 rfl (.s 18 rfl .nil)) (q_index rfl el32 rfl c709.1 c709.2) <| WL.p rfl rfl rfl (.s 19 rfl .nil) (q_field rfl fo92_2 rfl) <| WL.p rfl rfl rfl (.s 20 rfl .nil) (q_load rfl sh4) <| WL.nil <| QN.then_ ?_
  refine W.condP h rfl (fun hb710 h => ?_) (fun hb710 h => ?_)
  ·refine W.seq <| W.region <| WL.p rfl rfl rfl (.k .nil) (q_assign rfl) <| WL.nil <| QN.weaken (env' := [(6, _)]) (.one rfl (.nil _)) <| QN.then_ <| W.ret <| QR.then_ ?_
   cases h
   exact QR.f1 rfl rfl (.t rfl) (.id _)
  ·refine W.skip <| QN.then_ <| W.seq <| W.region <| WL.p rfl rfl rfl (.s 3 rfl .nil) (q_loadS rfl sh35 (leB rfl) rfl) <| WL.p rfl rfl rfl (.s 1 rfl .nil) (q_move rfl) ?_
   obtain ⟨t711, ht711, h⟩ := bind_s h
   refine WL.p rfl rfl rfl (.s 23 rfl (.s 24 rfl .nil)) (q_call (f := 82) (A := TupA [SlcA kAttr t711.1, EqA (.int .i64 t711.2)]) (xs := [.tmp 23, .tmp 24]) («as» := [AggA [SlcA kNodeType a0.fNodes, SlcA kEdgeType a0.fEdges], EqA (.int .i64 a1)]) rfl ca82 (types_Attrs.con k a0 a1 t711 ht711) rfl) <| WL.p rfl rfl rfl (.s 25 rfl .nil) (q_move rfl) <| WL.p rfl rfl rfl (.s 22 rfl .nil) (q_extract rfl rfl) <| WL.p rfl rfl rfl (.s 22 rfl .nil) (q_extract rfl rfl) <| WL.p rfl rfl rfl (.s 26 rfl .nil) (q_assign rfl) <| WL.p rfl rfl rfl (.s 27 rfl .nil) (q_assign rfl) <| WL.nil <| QN.weaken (env' := [(7, _), (2, _)]) (.one rfl (.one rfl (.nil _))) <| QN.then_ <| W.seq <| W.seq <| W.region <| WL.p rfl rfl rfl (.s 2 rfl .nil) (q_move rfl) ?_
   refine WL.p rfl rfl rfl (.s 28 rfl .nil) (q_len rfl elS26) <| WL.p rfl rfl rfl (.s 7 rfl .nil) (q_move rfl) <| WL.p rfl rfl rfl (.s 30 rfl .nil) (q_len rfl elS90) <| WL.p rfl rfl rfl (.s 29 rfl (.s 31 rfl .nil)) (q_int rfl rfl) <| WL.nil <| QN.then_ ?_
   refine W.condP h rfl (fun hb712 h => ?_) (fun hb712 h => ?_)
   ·refine W.seq <| W.region <| WL.p rfl rfl rfl (.k .nil) (q_assign rfl) <| WL.nil <| QN.weaken (env' := [(6, _)]) (.one rfl (.nil _)) <| QN.then_ <| W.ret <| QR.then_ ?_
    cases h
    exact QR.f1 rfl rfl (.t rfl) (.id _)
   ·refine W.skip <| QN.then_ <| W.seq <| W.seq <| W.region <| WL.p rfl rfl rfl (.s 7 rfl .nil) (q_move rfl) <| WL.p rfl rfl rfl (.s 33 rfl .nil) (q_len rfl elS90) <| WL.p rfl rfl rfl (.k .nil) (q_move rfl) <| WL.nil <| QN.then_ <| W.block ?_
    refine W.loop1 (Γ := Unit) (fun (_ : Unit) (x35 : Int) => [(2, SlcA kInt a2), (33, SlcA kAttr t711.1), (34, EqA (.int .i64 (t711.1.length : Int))), (35, EqA (.int .i64 x35))]) (fun (_ : Unit) (_ : Int) => []) h () (.one rfl (.one rfl (.one rfl (.one rfl (.nil _))))) rfl (fun rec0 K0 next0 _ x35 h => ?_)
    unfold host_node.b0 at h
    refine W.seq <| W.region <| WL.p rfl rfl rfl (.s 35 rfl (.s 34 rfl .nil)) (q_int rfl rfl) <| WL.nil <| QN.then_ <| W.seq ?_
    refine W.condP h rfl (fun hb745 h => ?_) (fun hb745 h => ?_)
    ·refine W.skip <| QN.then_ <| W.seq <| W.block <| W.seq <| W.region <| WL.p rfl rfl rfl (.s 35 rfl .nil) (q_move rfl) ?_
     obtain ⟨c746, h⟩ := ite_n h
     refine WL.p rfl rfl rfl (.s 33 rfl (.s 35 rfl .nil)) (q_index rfl el90 rfl c746.1 c746.2) <| WL.p rfl rfl rfl (.s 38 rfl .nil) (q_loadS rfl sh95 (leB rfl) rfl) <| WL.w [] rfl (Wanted.plain rfl) rfl rfl .nil (w_alloc rfl z95 (l := [EqA (strV ([] : Str)), EqA (.int .i64 0), EqA (.int .i64 0), EqA (.slice none 0 0)]) rfl) ?_
     rintro _ _ ⟨b747, rfl, rfl⟩
     refine WL.p rfl rfl rfl (.s 37 rfl .nil) (q_assign rfl) <| WL.w0 [0] rfl (Wanted.plain rfl) rfl (.s 10 rfl (.s 39 rfl .nil)) (w_store (L := [EqA (strV ((rd t711.1 x35).fName)), EqA (.int .i64 ((rd t711.1 x35).fLow)), EqA (.int .i64 ((rd t711.1 x35).fHigh)), SlcA kStr ((rd t711.1 x35).fNames)]) rfl sh95 (CellsOf.agg _) rfl rfl (leB rfl) rfl) ?_
     rintro _ _ ⟨rfl, rfl⟩
     refine WL.nil <| QN.to (StTo.still [0] 10 rfl rfl) <| QN.then_ <| W.seq ?_
     refine W.jn1 (Γ := Unit) (fun (_ : Unit) (x55 : Bool) => [(2, SlcA kInt a2), (33, SlcA kAttr t711.1), (34, EqA (.int .i64 (t711.1.length : Int))), (35, EqA (.int .i64 x35)), (55, EqA (.bool x55))]) (fun (_ : Unit) (_ : Bool) => []) h (fun _ x55 h => ?_) (fun j755 Kj755 h => ?_)
     ·refine QN.then_ ?_
      refine W.condP h rfl (fun hb756 h => ?_) (fun hb756 h => ?_)
      ·refine W.seq <| W.region <| WL.p rfl rfl rfl (.k .nil) (q_assign rfl) <| WL.nil <| QN.then_ <| W.ret <| QR.block <| QR.then_ <| QR.then_ <| QR.block <| QR.then_ ?_
       cases h
       exact QR.f1 rfl rfl (.t rfl) (.id _)
      ·refine W.skip <| QN.block <| QN.then_ <| W.region ?_
       obtain ⟨c757, h⟩ := ite_n h
       refine WL.p rfl rfl rfl (.s 35 rfl (.k .nil)) (q_addR rfl c757) <| WL.p rfl rfl rfl (.s 56 rfl .nil) (q_move rfl) <| WL.nil ?_
       exact next0 () (x35 + 1) _ h (.one rfl (.one rfl (.one rfl (.one rfl (.nil _)))))
     ·refine W.drawK [(0, false), (1, false), (2, false), (3, false), (4, false), (5, false), (6, false), (7, false), (8, false), (9, false), (10, false), (11, false), (12, false), (13, false), (14, false), (15, false)] [] [[], [], [0, 1], [0, 1, 2], [], [4], [0, 1, 2, 3, 4, 5], [0, 1, 2, 3, 4, 5, 6], [0, 1, 2, 3, 4, 5, 6, 7], [0, 1, 2, 3, 4, 5, 6, 7], [0, 1, 2, 3, 4, 5, 6, 7, 8, 9], [0, 1, 2, 3, 4, 5, 6, 7, 8, 9, 10], [0, 1, 2, 3, 4, 5, 6, 7], [0, 1, 2, 3, 4, 5, 6, 7, 12], [0, 1, 2, 3, 4, 5, 6, 7, 8, 9, 10, 11, 12, 13], [0, 1, 2, 3, 4, 5, 6, 7, 8, 9, 10, 11, 12, 13, 14]] mx (by kernel_rfl) <| DK.cons rfl rfl (.p rfl (.s 2 rfl .nil) rfl (q_move rfl)) <| DK.cons rfl rfl (.p rfl (.s 9 rfl .nil) rfl (q_move rfl)) ?_
      obtain ⟨c758, h⟩ := ite_n h
      refine DK.cons rfl rfl (.p rfl (.s 40 rfl (.s 41 rfl .nil)) rfl (q_index rfl el26 rfl c758.1 c758.2)) <| DK.cons rfl rfl (.p rfl (.s 42 rfl .nil) rfl (q_load rfl sh3)) <| DK.cons rfl rfl (.p rfl (.s 10 rfl .nil) rfl (q_field rfl fo95_1 rfl)) <| DK.cons rfl rfl (.p rfl (.s 44 rfl .nil) rfl (q_load rfl sh3)) <| DK.cons rfl rfl (.p rfl (.s 43 rfl (.s 45 rfl .nil)) rfl (q_int rfl rfl)) <| DK.cons rfl rfl (.p rfl (.s 46 rfl .nil) rfl (q_move rfl)) ?_
      rcases bif_s h with ⟨hb759, h⟩ | ⟨hb759, h⟩
      ·refine DK.cons rfl rfl (.off rfl rfl rfl hb759) <| DK.cons rfl rfl (.off rfl rfl rfl hb759) <| DK.cons rfl rfl (.off rfl rfl rfl hb759) <| DK.cons rfl rfl (.off rfl rfl rfl hb759) <| DK.cons rfl rfl (.off rfl rfl rfl hb759) <| DK.cons rfl rfl (.off rfl rfl rfl hb759) <| DK.cons rfl rfl (.off rfl rfl rfl hb759) <| DK.cons rfl rfl (.p rfl (.s 47 rfl (.k .nil)) rfl (q_pickT rfl hb759)) <| DK.nil <| CSteps.nil ?_
       exact QN.weaken (.one rfl (.one rfl (.one rfl (.one rfl (.one rfl (.nil _)))))) (Kj755 () true h)
      ·refine DK.cons rfl rfl (.gp rfl rfl rfl hb759 (.s 2 rfl .nil) rfl (q_move rfl)) <| DK.cons rfl rfl (.gp rfl rfl rfl hb759 (.s 9 rfl .nil) rfl (q_move rfl)) ?_
       obtain ⟨c760, h⟩ := ite_n h
       refine DK.cons rfl rfl (.gp rfl rfl rfl hb759 (.s 48 rfl (.s 49 rfl .nil)) rfl (q_index rfl el26 rfl c760.1 c760.2)) <| DK.cons rfl rfl (.gp rfl rfl rfl hb759 (.s 50 rfl .nil) rfl (q_load rfl sh3)) <| DK.cons rfl rfl (.gp rfl rfl rfl hb759 (.s 10 rfl .nil) rfl (q_field rfl fo95_2 rfl)) <| DK.cons rfl rfl (.gp rfl rfl rfl hb759 (.s 52 rfl .nil) rfl (q_load rfl sh3)) <| DK.cons rfl rfl (.gp rfl rfl rfl hb759 (.s 51 rfl (.s 53 rfl .nil)) rfl (q_int rfl rfl)) <| DK.cons rfl rfl (.p rfl (.s 47 rfl (.s 54 rfl .nil)) rfl (q_pickF rfl hb759)) <| DK.nil <| CSteps.nil ?_
       exact QN.weaken (.one rfl (.one rfl (.one rfl (.one rfl (.one rfl (.nil _)))))) (Kj755 () (decide ((rd a2 x35) > (rd t711.1 x35).fHigh)) h)
    ·refine W.exit <| QX.then_ <| QX.then_ <| QX.here <| QN.then_ <| W.seq <| W.region <| WL.p rfl rfl rfl (.k .nil) (q_assign rfl) <| WL.nil <| QN.then_ <| W.ret ?_
     cases h
     exact QR.f1 rfl rfl (.t rfl) (.id _)
theorem slices_Reverse_int.con (k : Nat) (w0 : Value) (a0 : (List Int)) (r : (List Int)) (h : slices_Reverse_int k a0 = some r) : Con Tryz.prog 211 [SlE 3 w0 kInt a0] [HdA w0] (fun O' A => O' = [SlE 3 w0 kInt r] ∧ A = TupA []) := by
 unfold slices_Reverse_int at h
 refine Con.of (N := 28) Tryz.func211 rfl rfl rfl fun w0_ fg_ => W.seq <| W.region <| WL.p rfl rfl rfl (.s 0 rfl .nil) (q_move rfl) <| WL.q (Wanted.plain rfl) rfl rfl (.s 4 rfl .nil) (q_lenO rfl elS26 (i := 0) rfl) ?_
 obtain ⟨c761, h⟩ := ite_n h
 refine WL.p rfl rfl rfl (.s 5 rfl (.k .nil)) (q_subR rfl c761) <| WL.p rfl rfl rfl (.k .nil) (q_assign rfl) <| WL.p rfl rfl rfl (.s 6 rfl .nil) (q_assign rfl) <| WL.nil <| QN.then_ <| W.block ?_
 refine W.loop3 (Γ := Unit) (fun (_ : Unit) (_ : (List Int)) (x2 : Int) (x3 : Int) => [(0, HdA w0), (2, EqA (.int .i64 x2)), (3, EqA (.int .i64 x3))]) (fun (_ : Unit) (x0 : (List Int)) (_ : Int) (_ : Int) => [SlE 3 w0 kInt x0]) h () (.one rfl (.one rfl (.one rfl (.nil _)))) rfl (fun rec0 K0 next0 _ x0 x2 x3 h => ?_)
 unfold slices_Reverse_int.b0 at h
 refine W.seq <| W.seq <| W.region <| WL.p rfl rfl rfl (.s 2 rfl .nil) (q_move rfl) <| WL.p rfl rfl rfl (.s 3 rfl .nil) (q_move rfl) <| WL.p rfl rfl rfl (.s 7 rfl (.s 8 rfl .nil)) (q_int rfl rfl) <| WL.nil <| QN.then_ ?_
 refine W.condP h rfl (fun hb792 h => ?_) (fun hb792 h => ?_)
 ·refine W.skip <| QN.then_ <| W.seq <| W.block <| W.drawK [(0, false), (1, false), (2, false), (3, false), (4, false), (5, false), (6, true), (7, true), (8, false), (9, false), (10, true), (11, true), (12, true)] [13, 14, 15] [[], [], [], [], [], [], [4, 5], [4, 5, 6], [], [], [8, 9], [8, 9, 10], [0, 1, 4, 5, 6, 7, 8, 9, 10, 11], [0, 1, 4, 5, 6, 7, 8, 9, 10, 11, 12], [0, 1, 2, 3, 4, 5, 6, 7, 8, 9, 10, 11, 12, 13], [0, 1, 2, 3, 4, 5, 6, 7, 8, 9, 10, 11, 12, 13, 14]] mx (by kernel_rfl) <| DK.cons rfl rfl (.p rfl (.s 0 rfl .nil) rfl (q_move rfl)) <| DK.cons rfl rfl (.p rfl (.s 2 rfl .nil) rfl (q_move rfl)) <| DK.cons rfl rfl (.p rfl (.s 0 rfl .nil) rfl (q_move rfl)) <| DK.cons rfl rfl (.p rfl (.s 3 rfl .nil) rfl (q_move rfl)) <| DK.cons rfl rfl (.p rfl (.s 0 rfl .nil) rfl (q_move rfl)) <| DK.cons rfl rfl (.p rfl (.s 3 rfl .nil) rfl (q_move rfl)) ?_
  obtain ⟨c801, h⟩ := ite_n h
  refine DK.cons rfl rfl (.o rfl (.s 18 rfl (.s 19 rfl .nil)) rfl (q_indexO rfl el26 (j := 0) rfl c801.1 c801.2)) <| DK.cons rfl rfl (.o rfl (.s 20 rfl .nil) rfl (q_loadEl rfl sh3 (j := 0) rfl rfl c801.1 c801.2 rfl)) <| DK.cons rfl rfl (.p rfl (.s 0 rfl .nil) rfl (q_move rfl)) <| DK.cons rfl rfl (.p rfl (.s 2 rfl .nil) rfl (q_move rfl)) ?_
  obtain ⟨c802, h⟩ := ite_n h
  refine DK.cons rfl rfl (.o rfl (.s 22 rfl (.s 23 rfl .nil)) rfl (q_indexO rfl el26 (j := 0) rfl c802.1 c802.2)) <| DK.cons rfl rfl (.o rfl (.s 24 rfl .nil) rfl (q_loadEl rfl sh3 (j := 0) rfl rfl c802.1 c802.2 rfl)) ?_
  obtain ⟨c803, h⟩ := ite_n h
  refine DK.cons rfl rfl (.o rfl (.s 14 rfl (.s 15 rfl .nil)) rfl (q_indexO rfl el26 (j := 0) rfl c803.1 c803.2)) ?_
  obtain ⟨c804, h⟩ := ite_n h
  refine DK.nil <| CSteps.w0 [0] rfl rfl rfl (.s 26 rfl (.s 21 rfl .nil)) rfl (w_storeEl (kd := kInt) (z := (rd x0 x3)) rfl sh3 (CellsOf.one rfl) rfl rfl rfl c803.1 c803.2 rfl rfl) ?_
  rintro _ _ ⟨rfl, rfl⟩
  refine CSteps.ro [0] rfl rfl rfl rfl (.s 16 rfl (.s 17 rfl .nil)) rfl (fun _ => (q_indexO rfl el26 (j := 0) rfl c804.1 c804.2)) <| CSteps.w0 [0] rfl rfl rfl (.s 27 rfl (.s 25 rfl .nil)) rfl (w_storeEl (kd := kInt) (z := (rd x0 x2)) rfl sh3 (CellsOf.one rfl) rfl rfl rfl c804.1 c804.2 rfl rfl) ?_
  rintro _ _ ⟨rfl, rfl⟩
  refine CSteps.nil <| QN.block <| QN.weaken (env' := [(3, _), (2, _), (0, _)]) (.one rfl (.one rfl (.one rfl (.nil _)))) <| QN.then_ <| W.region <| WL.p rfl rfl rfl (.s 2 rfl .nil) (q_move rfl) ?_
  obtain ⟨c805, h⟩ := ite_n h
  refine WL.p rfl rfl rfl (.s 10 rfl (.k .nil)) (q_addR rfl c805) <| WL.p rfl rfl rfl (.s 3 rfl .nil) (q_move rfl) ?_
  obtain ⟨c806, h⟩ := ite_n h
  refine WL.p rfl rfl rfl (.s 12 rfl (.k .nil)) (q_subR rfl c806) <| WL.p rfl rfl rfl (.s 11 rfl .nil) (q_assign rfl) <| WL.p rfl rfl rfl (.s 13 rfl .nil) (q_assign rfl) <| WL.nil ?_
  exact next0 () ((x0.set (x2 : Int).toNat (rd x0 x3)).set (x3 : Int).toNat (rd x0 x2)) (x2 + 1) (x3 - 1) _ h (.one rfl (.one rfl (.one rfl (.nil _))))
 ·refine W.exit <| QX.then_ <| QX.then_ <| QX.here ?_
  cases h
  exact QN.f0 rfl rfl ⟨rfl, rfl⟩
theorem types_line.con (k : Nat) (a0 : Types) (a1 : Int) (r : (List Int)) (h : types_line k a0 a1 = some r) : Con Tryz.prog 196 [] [AggA [SlcA kNodeType a0.fNodes, SlcA kEdgeType a0.fEdges], EqA (.int .i64 a1)] (RA (SlcA kInt r)) := by
 unfold types_line at h
 refine Con.of (N := 21) Tryz.func196 rfl rfl rfl fun w0_ fg_ => W.seq <| W.region <| WL.p rfl rfl rfl (.s 0 rfl .nil) (q_box rfl (CellsOf.agg _)) <| WL.p rfl rfl rfl (.k .nil) (q_assign rfl) <| WL.nil <| QN.then_ <| W.seq <| W.region <| WL.p rfl rfl rfl (.k .nil) (q_assign rfl) <| WL.nil <| QN.then_ <| W.seq ?_
 refine W.block <| W.to (StTo.newNil 3 kInt) <| W.to (StTo.as 5 rfl Imp.nilHd) ?_
 refine W.loop2 (Γ := Value) (fun (g0 : Value) (x1 : Int) (_ : (List Int)) => [(1, EqA (.int .i64 x1)), (2, PtrA [SlcA kNodeType a0.fNodes, SlcA kEdgeType a0.fEdges]), (5, HdA g0)]) (fun (g0 : Value) (_ : Int) (x5 : (List Int)) => [SlE 3 g0 kInt x5]) h (.slice none 0 0) (.one rfl (.one rfl (.one rfl (.nil _)))) rfl (fun rec0 K0 next0 g0 x1 x5 h => ?_)
 unfold types_line.b0 at h
 refine W.seq <| W.seq <| W.region <| WL.p rfl rfl rfl (.s 1 rfl .nil) (q_move rfl) <| WL.p rfl rfl rfl (.s 6 rfl (.k .nil)) (q_int rfl rfl) <| WL.nil <| QN.then_ ?_
 refine W.condP h rfl (fun hb825 h => ?_) (fun hb825 h => ?_)
 ·refine W.skip <| QN.then_ <| W.seq <| W.block <| W.region <| WL.p rfl rfl rfl (.s 5 rfl .nil) (q_move rfl) <| WL.p rfl rfl rfl (.s 1 rfl .nil) (q_move rfl) <| WL.p rfl rfl rfl (.s 15 rfl .nil) (q_lit (kd := kInt) (ps := [(0, .tmp 15)]) (xs := [.tmp 15]) («as» := [EqA (.int .i64 x1)]) (ys := [x1]) rfl rfl el26 rfl gr3 rfl rfl rfl (.cons (CellsOf.one rfl) .nil)) ?_
  obtain ⟨c826, h⟩ := ite_n h
  refine WL.w [0] rfl (Wanted.plain rfl) rfl rfl (.s 14 rfl (.s 16 rfl .nil)) (w_append (kd := kInt) rfl el26 rfl gr3 c826) ?_
  rintro _ _ ⟨v827, rfl, rfl⟩
  refine WL.p rfl rfl rfl (.s 17 rfl .nil) (q_assign rfl) <| WL.nil <| QN.block <| QN.then_ <| W.region <| WL.p rfl rfl rfl (.s 2 rfl .nil) (q_field rfl fo35_0 rfl) <| WL.p rfl rfl rfl (.s 8 rfl .nil) (q_load rfl sh32) <| WL.p rfl rfl rfl (.s 1 rfl .nil) (q_move rfl) ?_
  obtain ⟨c828, h⟩ := ite_n h
  refine WL.p rfl rfl rfl (.s 9 rfl (.s 10 rfl .nil)) (q_index rfl el32 rfl c828.1 c828.2) <| WL.p rfl rfl rfl (.s 11 rfl .nil) (q_field rfl fo92_1 rfl) <| WL.p rfl rfl rfl (.s 12 rfl .nil) (q_load rfl sh3) <| WL.p rfl rfl rfl (.s 13 rfl .nil) (q_assign rfl) <| WL.nil ?_
  exact next0 v827 ((rd a0.fNodes x1).fParent) (x5 ++ [x1]) _ h (.one rfl (.one rfl (.one rfl (.nil _))))
 ·refine W.exit <| QX.then_ <| QX.then_ <| QX.here <| QN.then_ <| W.seq <| W.region <| WL.p rfl rfl rfl (.s 5 rfl .nil) (q_move rfl) ?_
  obtain ⟨t829, ht829, h⟩ := bind_s h
  refine WL.w [0] rfl (Wanted.plain rfl) rfl rfl (.s 18 rfl .nil) (w_callI (f := 211) (xs := [.tmp 18]) («as» := [HdA g0]) rfl ca211 (slices_Reverse_int.con k g0 x5 t829 ht829) rfl (.cons (Imp.id _) .nil)) ?_
  rintro _ _ ⟨rfl, rfl⟩
  refine WL.nil <| QN.then_ <| W.seq <| W.region <| WL.p rfl rfl rfl (.s 5 rfl .nil) (q_move rfl) <| WL.p rfl rfl rfl (.s 20 rfl .nil) (q_assign rfl) <| WL.nil <| QN.weaken (env' := [(4, _)]) (.one rfl (.nil _)) <| QN.then_ <| W.ret ?_
  cases h
  exact QR.f1 rfl rfl (.t rfl) (.slc 0 rfl)
theorem slices_Index_int.con (k : Nat) (a0 : (List Int)) (a1 : Int) (r : Int) (h : slices_Index_int k a0 a1 = some r) : Con Tryz.prog 210 [] [SlcA kInt a0, EqA (.int .i64 a1)] (RA (EqA (.int .i64 r))) := by
 unfold slices_Index_int at h
 refine Con.of (N := 19) Tryz.func210 rfl rfl rfl fun w0_ fg_ => W.seq <| W.region <| WL.p rfl rfl rfl (.k .nil) (q_assign rfl) <| WL.nil <| QN.then_ <| W.seq <| W.seq <| W.region <| WL.p rfl rfl rfl (.s 0 rfl .nil) (q_move rfl) <| WL.p rfl rfl rfl (.s 6 rfl .nil) (q_len rfl elS26) <| WL.p rfl rfl rfl (.k .nil) (q_move rfl) <| WL.nil ?_
 refine QN.then_ <| W.block ?_
 refine W.loop1 (Γ := Unit) (fun (_ : Unit) (x8 : Int) => [(0, SlcA kInt a0), (1, EqA (.int .i64 a1)), (7, EqA (.int .i64 (a0.length : Int))), (8, EqA (.int .i64 x8))]) (fun (_ : Unit) (_ : Int) => []) h () (.one rfl (.one rfl (.one rfl (.one rfl (.nil _))))) rfl (fun rec0 K0 next0 _ x8 h => ?_)
 unfold slices_Index_int.b0 at h
 refine W.seq <| W.region <| WL.p rfl rfl rfl (.s 8 rfl (.s 7 rfl .nil)) (q_int rfl rfl) <| WL.nil <| QN.then_ <| W.seq ?_
 refine W.condP h rfl (fun hb838 h => ?_) (fun hb838 h => ?_)
 ·refine W.skip <| QN.then_ <| W.seq <| W.block <| W.seq <| W.region <| WL.p rfl rfl rfl (.s 8 rfl .nil) (q_move rfl) <| WL.p rfl rfl rfl (.s 10 rfl .nil) (q_assign rfl) <| WL.nil <| QN.then_ <| W.seq <| W.region <| WL.p rfl rfl rfl (.s 1 rfl .nil) (q_move rfl) ?_
  refine WL.p rfl rfl rfl (.s 0 rfl .nil) (q_move rfl) <| WL.p rfl rfl rfl (.s 5 rfl .nil) (q_move rfl) ?_
  obtain ⟨c839, h⟩ := ite_n h
  refine WL.p rfl rfl rfl (.s 12 rfl (.s 13 rfl .nil)) (q_index rfl el26 rfl c839.1 c839.2) <| WL.p rfl rfl rfl (.s 14 rfl .nil) (q_load rfl sh3) <| WL.p rfl rfl rfl (.s 11 rfl (.s 15 rfl .nil)) (q_int rfl rfl) <| WL.nil <| QN.weaken (env' := [(16, _), (5, _), (8, _), (7, _), (1, _), (0, _)]) (.one rfl (.one rfl (.one rfl (.one rfl (.one rfl (.one rfl (.nil _))))))) <| QN.then_ ?_
  refine W.condP h rfl (fun hb840 h => ?_) (fun hb840 h => ?_)
  ·refine W.seq <| W.region <| WL.p rfl rfl rfl (.s 5 rfl .nil) (q_move rfl) <| WL.p rfl rfl rfl (.s 17 rfl .nil) (q_assign rfl) <| WL.nil <| QN.weaken (env' := [(4, _)]) (.one rfl (.nil _)) <| QN.then_ <| W.ret <| QR.block <| QR.then_ <| QR.then_ <| QR.block <| QR.then_ ?_
   cases h
   exact QR.f1 rfl rfl (.t rfl) (.id _)
  ·refine W.skip <| QN.block <| QN.then_ <| W.region ?_
   obtain ⟨c841, h⟩ := ite_n h
   refine WL.p rfl rfl rfl (.s 8 rfl (.k .nil)) (q_addR rfl c841) <| WL.p rfl rfl rfl (.s 18 rfl .nil) (q_move rfl) <| WL.nil ?_
   exact next0 () (x8 + 1) _ h (.one rfl (.one rfl (.one rfl (.one rfl (.nil _)))))
 ·refine W.exit <| QX.then_ <| QX.then_ <| QX.here <| QN.then_ <| W.seq <| W.region <| WL.p rfl rfl rfl (.k .nil) (q_assign rfl) <| WL.nil <| QN.then_ <| W.ret ?_
  cases h
  exact QR.f1 rfl rfl (.t rfl) (.id _)
theorem slices_Contains_int.con (k : Nat) (a0 : (List Int)) (a1 : Int) (r : Bool) (h : slices_Contains_int k a0 a1 = some r) : Con Tryz.prog 195 [] [SlcA kInt a0, EqA (.int .i64 a1)] (RA (EqA (.bool r))) := by
 unfold slices_Contains_int at h
 refine Con.of (N := 9) Tryz.func195 rfl rfl rfl fun w0_ fg_ => W.seq <| W.region <| WL.p rfl rfl rfl (.k .nil) (q_assign rfl) <| WL.nil <| QN.then_ <| W.seq <| W.region <| WL.p rfl rfl rfl (.s 0 rfl .nil) (q_move rfl) <| WL.p rfl rfl rfl (.s 1 rfl .nil) (q_move rfl) ?_
 obtain ⟨t842, ht842, h⟩ := bind_s h
 refine WL.p rfl rfl rfl (.s 5 rfl (.s 6 rfl .nil)) (q_call (f := 210) (A := EqA (.int .i64 t842)) (xs := [.tmp 5, .tmp 6]) («as» := [SlcA kInt a0, EqA (.int .i64 a1)]) rfl ca210 (slices_Index_int.con k a0 a1 t842 ht842) rfl) <| WL.p rfl rfl rfl (.s 7 rfl (.k .nil)) (q_int rfl rfl) <| WL.p rfl rfl rfl (.s 8 rfl .nil) (q_assign rfl) <| WL.nil <| QN.then_ <| W.ret ?_
 cases h
 exact QR.f1 rfl rfl (.t rfl) (.id _)
theorem types_is.con (k : Nat) (a0 : Types) (a1 : Int) (a2 : Int) (r : Bool) (h : types_is k a0 a1 a2 = some r) : Con Tryz.prog 172 [] [AggA [SlcA kNodeType a0.fNodes, SlcA kEdgeType a0.fEdges], EqA (.int .i64 a1), EqA (.int .i64 a2)] (RA (EqA (.bool r))) := by
 unfold types_is at h
 refine Con.of (N := 12) Tryz.func172 rfl rfl rfl fun w0_ fg_ => W.seq <| W.region <| WL.p rfl rfl rfl (.s 0 rfl .nil) (q_box rfl (CellsOf.agg _)) <| WL.p rfl rfl rfl (.k .nil) (q_assign rfl) <| WL.nil <| QN.then_ <| W.seq <| W.region <| WL.p rfl rfl rfl (.s 3 rfl .nil) (q_loadS rfl sh35 (leB rfl) rfl) <| WL.p rfl rfl rfl (.s 1 rfl .nil) (q_move rfl) ?_
 obtain ⟨t843, ht843, h⟩ := bind_s h
 refine WL.p rfl rfl rfl (.s 7 rfl (.s 8 rfl .nil)) (q_call (f := 196) (A := SlcA kInt t843) (xs := [.tmp 7, .tmp 8]) («as» := [AggA [SlcA kNodeType a0.fNodes, SlcA kEdgeType a0.fEdges], EqA (.int .i64 a1)]) rfl ca196 (types_line.con k a0 a1 t843 ht843) rfl) <| WL.p rfl rfl rfl (.s 2 rfl .nil) (q_move rfl) ?_
 obtain ⟨t844, ht844, h⟩ := bind_s h
 refine WL.p rfl rfl rfl (.s 9 rfl (.s 10 rfl .nil)) (q_call (f := 195) (A := EqA (.bool t844)) (xs := [.tmp 9, .tmp 10]) («as» := [SlcA kInt t843, EqA (.int .i64 a2)]) rfl ca195 (slices_Contains_int.con k t843 a2 t844 ht844) rfl) <| WL.p rfl rfl rfl (.s 11 rfl .nil) (q_assign rfl) <| WL.nil <| QN.weaken (env' := [(6, _)]) (.one rfl (.nil _)) <| QN.then_ <| W.ret ?_
 cases h
 exact QR.f1 rfl rfl (.t rfl) (.id _)
theorem types_Fits.con (k : Nat) (a0 : Types) (a1 : Int) (a2 : Int) (a3 : Int) (r : Bool) (h : types_Fits k a0 a1 a2 a3 = some r) : Con Tryz.prog 157 [] [AggA [SlcA kNodeType a0.fNodes, SlcA kEdgeType a0.fEdges], EqA (.int .i64 a1), EqA (.int .i64 a2), EqA (.int .i64 a3)] (RA (EqA (.bool r))) := by
 unfold types_Fits at h
 refine Con.of (N := 46) Tryz.func157 rfl rfl rfl fun w0_ fg_ => W.seq <| W.region <| WL.p rfl rfl rfl (.s 0 rfl .nil) (q_box rfl (CellsOf.agg _)) <| WL.p rfl rfl rfl (.k .nil) (q_assign rfl) <| WL.nil <| QN.then_ <| W.seq <| W.seq ?_
 refine W.jn1 (Γ := Unit) (fun (_ : Unit) (x25 : Bool) => [(1, EqA (.int .i64 a1)), (2, EqA (.int .i64 a2)), (3, EqA (.int .i64 a3)), (4, PtrA [SlcA kNodeType a0.fNodes, SlcA kEdgeType a0.fEdges]), (25, EqA (.bool x25))]) (fun (_ : Unit) (_ : Bool) => []) h (fun _ x25 h => ?_) (fun j849 Kj849 h => ?_)
 ·refine QN.then_ ?_
  refine W.condP h rfl (fun hb850 h => ?_) (fun hb850 h => ?_)
  ·refine W.seq <| W.region <| WL.p rfl rfl rfl (.k .nil) (q_assign rfl) <| WL.nil <| QN.then_ <| W.ret <| QR.then_ ?_
   cases h
   exact QR.f1 rfl rfl (.t rfl) (.id _)
  ·refine W.skip <| QN.then_ <| W.seq ?_
   refine W.jn1 (Γ := Unit) (fun (_ : Unit) (x8 : Bool) => [(8, EqA (.bool x8))]) (fun (_ : Unit) (_ : Bool) => []) h (fun _ x8 h => ?_) (fun j862 Kj862 h => ?_)
   ·refine QN.then_ <| W.ret ?_
    cases h
    exact QR.f1 rfl rfl (.t rfl) (.id _)
   ·refine W.drawK [(0, false), (1, false), (2, false), (3, false), (4, false), (5, false), (6, false), (7, false), (8, false), (9, false), (10, false), (11, false), (12, false), (13, false), (14, false), (15, false), (16, false), (17, false), (18, false), (19, false), (20, false)] [] [[], [], [], [2], [], [2, 3, 4], [2, 3, 4, 5], [2, 3, 4, 5, 6], [0, 1, 2, 3, 4, 5, 6, 7], [0, 1, 2, 3, 4, 5, 6, 7, 8], [0, 1, 2, 3, 4, 5, 6, 7, 8, 9], [0, 1, 2, 3, 4, 5, 6, 7, 8, 9], [0, 1, 2, 3, 4, 5, 6, 7, 8, 9], [0, 1, 2, 3, 4, 5, 6, 7, 8, 9, 12], [0, 1, 2, 3, 4, 5, 6, 7, 8, 9], [0, 1, 2, 3, 4, 5, 6, 7, 8, 9, 12, 13, 14], [0, 1, 2, 3, 4, 5, 6, 7, 8, 9, 12, 13, 14, 15], [0, 1, 2, 3, 4, 5, 6, 7, 8, 9, 12, 13, 14, 15, 16], [0, 1, 2, 3, 4, 5, 6, 7, 8, 9, 10, 11, 12, 13, 14, 15, 16, 17], [0, 1, 2, 3, 4, 5, 6, 7, 8, 9, 10, 11, 12, 13, 14, 15, 16, 17, 18], [0, 1, 2, 3, 4, 5, 6, 7, 8, 9, 10, 11, 12, 13, 14, 15, 16, 17, 18, 19]] mx (by kernel_rfl) <| DK.cons rfl rfl (.p rfl (.s 4 rfl .nil) rfl (q_loadS rfl sh35 (leB rfl) rfl)) <| DK.cons rfl rfl (.p rfl (.s 2 rfl .nil) rfl (q_move rfl)) <| DK.cons rfl rfl (.p rfl (.s 4 rfl .nil) rfl (q_field rfl fo35_1 rfl)) <| DK.cons rfl rfl (.p rfl (.s 28 rfl .nil) rfl (q_load rfl sh33)) <| DK.cons rfl rfl (.p rfl (.s 1 rfl .nil) rfl (q_move rfl)) ?_
    obtain ⟨c863, h⟩ := ite_n h
    refine DK.cons rfl rfl (.p rfl (.s 29 rfl (.s 30 rfl .nil)) rfl (q_index rfl el33 rfl c863.1 c863.2)) <| DK.cons rfl rfl (.p rfl (.s 31 rfl .nil) rfl (q_field rfl fo97_1 rfl)) <| DK.cons rfl rfl (.p rfl (.s 32 rfl .nil) rfl (q_load rfl sh3)) ?_
    obtain ⟨t864, ht864, h⟩ := bind_s h
    refine DK.cons rfl rfl (.p rfl (.s 26 rfl (.s 27 rfl (.s 33 rfl .nil))) rfl (q_call (f := 172) (A := EqA (.bool t864)) (xs := [.tmp 26, .tmp 27, .tmp 33]) («as» := [AggA [SlcA kNodeType a0.fNodes, SlcA kEdgeType a0.fEdges], EqA (.int .i64 a2), EqA (.int .i64 ((rd a0.fEdges a1).fFrom))]) rfl ca172 (types_is.con k a0 a2 ((rd a0.fEdges a1).fFrom) t864 ht864) rfl)) <| DK.cons rfl rfl (.p rfl (.s 34 rfl .nil) rfl (q_move rfl)) ?_
    rcases bif_s h with ⟨hb865, h⟩ | ⟨hb865, h⟩
    ·refine DK.cons rfl rfl (.gp rfl rfl rfl hb865 (.s 4 rfl .nil) rfl (q_loadS rfl sh35 (leB rfl) rfl)) <| DK.cons rfl rfl (.gp rfl rfl rfl hb865 (.s 3 rfl .nil) rfl (q_move rfl)) <| DK.cons rfl rfl (.gp rfl rfl rfl hb865 (.s 4 rfl .nil) rfl (q_field rfl fo35_1 rfl)) <| DK.cons rfl rfl (.gp rfl rfl rfl hb865 (.s 38 rfl .nil) rfl (q_load rfl sh33)) <| DK.cons rfl rfl (.gp rfl rfl rfl hb865 (.s 1 rfl .nil) rfl (q_move rfl)) ?_
     obtain ⟨c866, h⟩ := ite_n h
     refine DK.cons rfl rfl (.gp rfl rfl rfl hb865 (.s 39 rfl (.s 40 rfl .nil)) rfl (q_index rfl el33 rfl c866.1 c866.2)) <| DK.cons rfl rfl (.gp rfl rfl rfl hb865 (.s 41 rfl .nil) rfl (q_field rfl fo97_2 rfl)) <| DK.cons rfl rfl (.gp rfl rfl rfl hb865 (.s 42 rfl .nil) rfl (q_load rfl sh3)) ?_
     obtain ⟨t867, ht867, h⟩ := bind_s h
     refine DK.cons rfl rfl (.gp rfl rfl rfl hb865 (.s 36 rfl (.s 37 rfl (.s 43 rfl .nil))) rfl (q_call (f := 172) (A := EqA (.bool t867)) (xs := [.tmp 36, .tmp 37, .tmp 43]) («as» := [AggA [SlcA kNodeType a0.fNodes, SlcA kEdgeType a0.fEdges], EqA (.int .i64 a3), EqA (.int .i64 ((rd a0.fEdges a1).fTo))]) rfl ca172 (types_is.con k a0 a3 ((rd a0.fEdges a1).fTo) t867 ht867) rfl)) <| DK.cons rfl rfl (.p rfl (.s 35 rfl (.s 44 rfl .nil)) rfl (q_pickT rfl hb865)) <| DK.cons rfl rfl (.p rfl (.s 45 rfl .nil) rfl (q_assign rfl)) <| DK.nil <| CSteps.nil ?_
     exact QN.weaken (.one rfl (.nil _)) (Kj862 () t867 h)
    ·refine DK.cons rfl rfl (.off rfl rfl rfl hb865) <| DK.cons rfl rfl (.off rfl rfl rfl hb865) <| DK.cons rfl rfl (.off rfl rfl rfl hb865) <| DK.cons rfl rfl (.off rfl rfl rfl hb865) <| DK.cons rfl rfl (.off rfl rfl rfl hb865) <| DK.cons rfl rfl (.off rfl rfl rfl hb865) <| DK.cons rfl rfl (.off rfl rfl rfl hb865) <| DK.cons rfl rfl (.off rfl rfl rfl hb865) <| DK.cons rfl rfl (.off rfl rfl rfl hb865) <| DK.cons rfl rfl (.p rfl (.s 35 rfl (.k .nil)) rfl (q_pickF rfl hb865)) <| DK.cons rfl rfl (.p rfl (.s 45 rfl .nil) rfl (q_assign rfl)) <| DK.nil <| CSteps.nil ?_
     exact QN.weaken (.one rfl (.nil _)) (Kj862 () false h)
 ·refine W.region <| WL.p rfl rfl rfl (.s 4 rfl .nil) (q_loadS rfl sh35 (leB rfl) rfl) <| WL.p rfl rfl rfl (.s 2 rfl .nil) (q_move rfl) <| WL.p rfl rfl rfl (.s 3 rfl .nil) (q_move rfl) <| WL.p rfl rfl rfl (.s 10 rfl (.s 11 rfl .nil)) (q_lit (kd := kInt) (ps := [(0, .tmp 10), (1, .tmp 11)]) (xs := [.tmp 10, .tmp 11]) («as» := [EqA (.int .i64 a2), EqA (.int .i64 a3)]) (ys := [a2, a3]) rfl rfl el26 rfl gr3 rfl rfl rfl (.cons (CellsOf.one rfl) (.cons (CellsOf.one rfl) .nil))) ?_
  obtain ⟨t868, ht868, h⟩ := bind_s h
  refine WL.p rfl rfl rfl (.s 9 rfl (.s 12 rfl .nil)) (q_call (f := 133) (A := EqA (.int .i64 t868)) (xs := [.tmp 9, .tmp 12]) («as» := [AggA [SlcA kNodeType a0.fNodes, SlcA kEdgeType a0.fEdges], SlcA kInt [a2, a3]]) rfl ca133 (types_given.con k a0 [a2, a3] t868 ht868) rfl) <| WL.p rfl rfl rfl (.s 13 rfl (.k .nil)) (q_int rfl rfl) <| WL.p rfl rfl rfl (.s 14 rfl .nil) (q_move rfl) ?_
  rcases bif_s h with ⟨hb869, h⟩ | ⟨hb869, h⟩
  ·refine WL.skip (Unwanted.on rfl rfl rfl hb869) rfl rfl <| WL.skip (Unwanted.on rfl rfl rfl hb869) rfl rfl <| WL.p rfl rfl rfl (.s 15 rfl (.k .nil)) (q_pickT rfl hb869) <| WL.p rfl rfl rfl (.s 18 rfl .nil) (q_move rfl) <| WL.skip (Unwanted.on rfl rfl rfl rfl) rfl rfl <| WL.skip (Unwanted.on rfl rfl rfl rfl) rfl rfl <| WL.skip (Unwanted.on rfl rfl rfl rfl) rfl rfl <| WL.skip (Unwanted.on rfl rfl rfl rfl) rfl rfl <| WL.skip (Unwanted.on rfl rfl rfl rfl) rfl rfl <| WL.p rfl rfl rfl (.s 19 rfl (.k .nil)) (q_pickT rfl rfl) <| WL.nil ?_
   exact QN.weaken (.one rfl (.one rfl (.one rfl (.one rfl (.one rfl (.nil _)))))) (Kj849 () true h)
  ·refine WL.q (Wanted.on rfl rfl rfl hb869) rfl rfl (.s 1 rfl .nil) (q_move rfl).o <| WL.q (Wanted.on rfl rfl rfl hb869) rfl rfl (.s 16 rfl (.k .nil)) (q_int rfl rfl).o <| WL.p rfl rfl rfl (.s 15 rfl (.s 17 rfl .nil)) (q_pickF rfl hb869) <| WL.p rfl rfl rfl (.s 18 rfl .nil) (q_move rfl) ?_
   rcases bif_s h with ⟨hb870, h⟩ | ⟨hb870, h⟩
   ·refine WL.skip (Unwanted.on rfl rfl rfl hb870) rfl rfl <| WL.skip (Unwanted.on rfl rfl rfl hb870) rfl rfl <| WL.skip (Unwanted.on rfl rfl rfl hb870) rfl rfl <| WL.skip (Unwanted.on rfl rfl rfl hb870) rfl rfl <| WL.skip (Unwanted.on rfl rfl rfl hb870) rfl rfl <| WL.p rfl rfl rfl (.s 19 rfl (.k .nil)) (q_pickT rfl hb870) <| WL.nil ?_
    exact QN.weaken (.one rfl (.one rfl (.one rfl (.one rfl (.one rfl (.nil _)))))) (Kj849 () true h)
   ·refine WL.q (Wanted.on rfl rfl rfl hb870) rfl rfl (.s 1 rfl .nil) (q_move rfl).o <| WL.q (Wanted.on rfl rfl rfl hb870) rfl rfl (.s 4 rfl .nil) (q_field rfl fo35_1 rfl).o <| WL.q (Wanted.on rfl rfl rfl hb870) rfl rfl (.s 21 rfl .nil) (q_load rfl sh33).o <| WL.q (Wanted.on rfl rfl rfl hb870) rfl rfl (.s 22 rfl .nil) (q_len rfl elS33).o <| WL.q (Wanted.on rfl rfl rfl hb870) rfl rfl (.s 20 rfl (.s 23 rfl .nil)) (q_int rfl rfl).o <| WL.p rfl rfl rfl (.s 19 rfl (.s 24 rfl .nil)) (q_pickF rfl hb870) <| WL.nil ?_
    exact QN.weaken (.one rfl (.one rfl (.one rfl (.one rfl (.one rfl (.nil _)))))) (Kj849 () (decide (a1 ≥ (a0.fEdges.length : Int))) h)
end Go.Proofs.YtcgdfjpeboiioaaGreat
