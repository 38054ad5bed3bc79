/- The Go functions compute the pure ones. (Printed by gen.py.) -/
import Derived.Test.YthmdmchmmgmblaaGreatCnC2
namespace Go.Proofs.YthmdmchmmgmblaaGreat
open Go Go.Abs
attribute [local irreducible] Tryz.prog
theorem slices_Reverse_int.con (k : Nat) (w0 : Value) (a0 : (List Int)) (r : (List Int)) (h : slices_Reverse_int k a0 = some r) : Con Tryz.prog 155 [SlE 3 w0 kInt a0] [HdA w0] (fun O' A => O' = [SlE 3 w0 kInt r] ∧ A = TupA []) := by
 unfold slices_Reverse_int at h
 refine Con.of (N := 28) Tryz.func155 rfl rfl rfl fun w0_ fg_ => sr <| mv rfl rfl <| WL.q (Wanted.plain rfl) rfl rfl (.s 4 rfl .nil) (q_lenO rfl elS26 (i := 0) rfl) ?_
 obtain ⟨c100, h⟩ := ite_n h
 refine pk rfl 5 rfl (q_subR rfl c100) <| ak rfl <| av rfl rfl <| nt <| W.block ?_
 refine W.loop3 (Γ := Unit) (fun (_ : Unit) (_ : (List Int)) (x2 : Int) (x3 : Int) => [(0, HdA w0), (2, iA x2), (3, iA x3)]) (fun (_ : Unit) (x0 : (List Int)) (_ : Int) (_ : Int) => [SlE 3 w0 kInt x0]) h () (.o2 rfl (.one rfl (.nil _))) rfl (fun rec0 K0 next0 _ x0 x2 x3 h => ?_)
 unfold slices_Reverse_int.b0 at h
 refine W.seq <| sr <| mv rfl rfl <| mv rfl rfl <| p2 rfl 7 rfl 8 rfl (q_int rfl rfl) <| nt ?_
 refine W.condP h rfl (fun hb131 h => ?_) (fun hb131 h => ?_)
 ·refine W.skip <| QN.then_ <| W.seq <| W.block <| W.drawK [(0, false), (1, false), (2, false), (3, false), (4, false), (5, false), (6, true), (7, true), (8, false), (9, false), (10, true), (11, true), (12, true)] [13, 14, 15] (bm [0, 0, 0, 0, 0, 0, 48, 112, 0, 0, 768, 1792, 4083, 8179, 16383, 32767]) mx (by kernel_rfl) <| dm rfl rfl rfl <| dm rfl rfl rfl <| dm rfl rfl rfl <| dm rfl rfl rfl <| dm rfl rfl rfl <| dm rfl rfl rfl ?_
  obtain ⟨c140, h⟩ := ite_n h
  refine DK.cons rfl rfl (.o rfl (.s 18 rfl (.s 19 rfl .nil)) rfl (q_indexO rfl el26 (j := 0) rfl c140.1 c140.2)) <| DK.cons rfl rfl (.o rfl (.s 20 rfl .nil) rfl (q_loadEl rfl sh3 (j := 0) rfl rfl c140.1 c140.2 rfl)) <| dm rfl rfl rfl <| dm rfl rfl rfl ?_
  obtain ⟨c141, h⟩ := ite_n h
  refine DK.cons rfl rfl (.o rfl (.s 22 rfl (.s 23 rfl .nil)) rfl (q_indexO rfl el26 (j := 0) rfl c141.1 c141.2)) <| DK.cons rfl rfl (.o rfl (.s 24 rfl .nil) rfl (q_loadEl rfl sh3 (j := 0) rfl rfl c141.1 c141.2 rfl)) ?_
  obtain ⟨c142, h⟩ := ite_n h
  refine DK.cons rfl rfl (.o rfl (.s 14 rfl (.s 15 rfl .nil)) rfl (q_indexO rfl el26 (j := 0) rfl c142.1 c142.2)) ?_
  obtain ⟨c143, h⟩ := ite_n h
  refine DK.nil <| CSteps.w0 [0] rfl rfl rfl (.s 26 rfl (.s 21 rfl .nil)) rfl (w_storeEl (kd := kInt) (z := (rd x0 x3)) rfl sh3 (CellsOf.one rfl) rfl rfl rfl c142.1 c142.2 rfl rfl) ?_
  rintro _ _ ⟨rfl, rfl⟩
  refine CSteps.ro [0] rfl rfl rfl rfl (.s 16 rfl (.s 17 rfl .nil)) rfl (fun _ => (q_indexO rfl el26 (j := 0) rfl c143.1 c143.2)) <| CSteps.w0 [0] rfl rfl rfl (.s 27 rfl (.s 25 rfl .nil)) rfl (w_storeEl (kd := kInt) (z := (rd x0 x2)) rfl sh3 (CellsOf.one rfl) rfl rfl rfl c143.1 c143.2 rfl rfl) ?_
  rintro _ _ ⟨rfl, rfl⟩
  refine CSteps.nil <| QN.block <| QN.weaken (env' := [(3, _), (2, _), (0, _)]) (.o2 rfl (.one rfl (.nil _))) <| QN.then_ <| W.region <| mv rfl rfl ?_
  obtain ⟨c144, h⟩ := ite_n h
  refine pk rfl 10 rfl (q_addR rfl c144) <| mv rfl rfl ?_
  obtain ⟨c145, h⟩ := ite_n h
  refine pk rfl 12 rfl (q_subR rfl c145) <| av rfl rfl <| av rfl rfl <| WL.nil ?_
  exact next0 () ((x0.set (x2 : Int).toNat (rd x0 x3)).set (x3 : Int).toNat (rd x0 x2)) (x2 + 1) (x3 - 1) _ h (.o2 rfl (.one rfl (.nil _)))
 ·refine W.exit <| QX.then_ <| QX.then_ <| QX.here ?_
  cases h
  exact QN.f0 rfl rfl ⟨rfl, rfl⟩
theorem types_line.con (k : Nat) (a0 : Types) (a1 : Int) (r : (List Int)) (h : types_line k a0 a1 = some r) : Con Tryz.prog 136 [] [AggA [SlcA kNodeType a0.fNodes, SlcA kEdgeType a0.fEdges], iA a1] (RA (SlcA kInt r)) := by
 unfold types_line at h
 refine Con.of (N := 21) Tryz.func136 rfl rfl rfl fun w0_ fg_ => sr <| p1 rfl 0 rfl (q_box rfl (CellsOf.agg _)) <| ak rfl <| nx <| ak rfl <| nt <| W.seq ?_
 refine W.block <| W.to (StTo.newNil 3 kInt) <| W.to (StTo.as 5 rfl Imp.nilHd) ?_
 refine W.loop2 (Γ := Value) (fun (g0 : Value) (x1 : Int) (_ : (List Int)) => [(1, iA x1), (2, PtrA [SlcA kNodeType a0.fNodes, SlcA kEdgeType a0.fEdges]), (5, HdA g0)]) (fun (g0 : Value) (_ : Int) (x5 : (List Int)) => [SlE 3 g0 kInt x5]) h (.slice none 0 0) (.o2 rfl (.one rfl (.nil _))) rfl (fun rec0 K0 next0 g0 x1 x5 h => ?_)
 unfold types_line.b0 at h
 refine W.seq <| sr <| mv rfl rfl <| pk rfl 6 rfl (q_int rfl rfl) <| nt ?_
 refine W.condP h rfl (fun hb118 h => ?_) (fun hb118 h => ?_)
 ·refine W.skip <| QN.then_ <| W.seq <| W.block <| W.region <| mv rfl rfl <| mv rfl rfl <| p1 rfl 15 rfl (q_lit (kd := kInt) (ps := [(0, .tmp 15)]) (xs := [.tmp 15]) («as» := [iA x1]) (ys := [x1]) rfl rfl el26 rfl gr3 rfl rfl rfl (.cons (CellsOf.one rfl) .nil)) ?_
  obtain ⟨c119, h⟩ := ite_n h
  refine WL.w [0] rfl (Wanted.plain rfl) rfl rfl (.s 14 rfl (.s 16 rfl .nil)) (w_append (kd := kInt) rfl el26 rfl gr3 c119) ?_
  rintro _ _ ⟨v120, rfl, rfl⟩
  refine av rfl rfl <| WL.nil <| QN.block <| QN.then_ <| W.region <| fd rfl rfl fo25_0 rfl <| ld rfl rfl sh22 <| mv rfl rfl ?_
  obtain ⟨c121, h⟩ := ite_n h
  refine p2 rfl 9 rfl 10 rfl (q_index rfl el22 rfl c121.1 c121.2) <| fd rfl rfl fo120_1 rfl <| ld rfl rfl sh3 <| av rfl rfl <| WL.nil ?_
  exact next0 v120 ((rd a0.fNodes x1).fParent) (x5 ++ [x1]) _ h (.o2 rfl (.one rfl (.nil _)))
 ·refine W.exit <| QX.then_ <| QX.then_ <| QX.here <| QN.then_ <| sr <| mv rfl rfl ?_
  obtain ⟨t122, ht122, h⟩ := bind_s h
  refine WL.w [0] rfl (Wanted.plain rfl) rfl rfl (.s 18 rfl .nil) (w_callI (f := 155) (xs := [.tmp 18]) («as» := [HdA g0]) rfl ca155 (slices_Reverse_int.con k g0 x5 t122 ht122) rfl (.cons (Imp.id _) .nil)) ?_
  rintro _ _ ⟨rfl, rfl⟩
  refine nx <| mv rfl rfl <| av rfl rfl <| WL.nil <| QN.weaken (env' := [(4, _)]) (.one rfl (.nil _)) <| QN.then_ <| W.ret ?_
  cases h
  exact QR.f1 rfl rfl (.t rfl) (.slc 0 rfl)
theorem slices_Index_int.con (k : Nat) (a0 : (List Int)) (a1 : Int) (r : Int) (h : slices_Index_int k a0 a1 = some r) : Con Tryz.prog 118 [] [SlcA kInt a0, iA a1] (RA (iA r)) := by
 unfold slices_Index_int at h
 refine Con.of (N := 19) Tryz.func118 rfl rfl rfl fun w0_ fg_ => sr <| ak rfl <| nt <| W.seq <| sr <| mv rfl rfl <| p1 rfl 6 rfl (q_len rfl elS26) <| mk_ rfl <| WL.nil ?_
 refine QN.then_ <| W.block ?_
 refine W.loop1 (Γ := Unit) (fun (_ : Unit) (x8 : Int) => [(0, SlcA kInt a0), (1, iA a1), (7, iA (a0.length : Int)), (8, iA x8)]) (fun (_ : Unit) (_ : Int) => []) h () (.o4 rfl (.nil _)) rfl (fun rec0 K0 next0 _ x8 h => ?_)
 unfold slices_Index_int.b0 at h
 refine sr <| p2 rfl 8 rfl 7 rfl (q_int rfl rfl) <| nt <| W.seq ?_
 refine W.condP h rfl (fun hb108 h => ?_) (fun hb108 h => ?_)
 ·refine W.skip <| QN.then_ <| W.seq <| W.block <| sr <| mv rfl rfl <| av rfl rfl <| nx <| mv rfl rfl ?_
  refine mv rfl rfl <| mv rfl rfl ?_
  obtain ⟨c109, h⟩ := ite_n h
  refine p2 rfl 12 rfl 13 rfl (q_index rfl el26 rfl c109.1 c109.2) <| ld rfl rfl sh3 <| p2 rfl 11 rfl 15 rfl (q_int rfl rfl) <| WL.nil <| QN.weaken (env' := [(16, _), (5, _), (8, _), (7, _), (1, _), (0, _)]) (.o4 rfl (.o2 rfl (.nil _))) <| QN.then_ ?_
  refine W.condP h rfl (fun hb110 h => ?_) (fun hb110 h => ?_)
  ·refine sr <| mv rfl rfl <| av rfl rfl <| WL.nil <| QN.weaken (env' := [(4, _)]) (.one rfl (.nil _)) <| QN.then_ <| W.ret <| QR.block <| QR.then_ <| QR.then_ <| QR.block <| QR.then_ ?_
   cases h
   exact QR.f1 rfl rfl (.t rfl) (.id _)
  ·refine W.skip <| QN.block <| QN.then_ <| W.region ?_
   obtain ⟨c111, h⟩ := ite_n h
   refine pk rfl 8 rfl (q_addR rfl c111) <| mv rfl rfl <| WL.nil ?_
   exact next0 () (x8 + 1) _ h (.o4 rfl (.nil _))
 ·refine W.exit <| QX.then_ <| QX.then_ <| QX.here <| QN.then_ <| sr <| ak rfl <| nt <| W.ret ?_
  cases h
  exact QR.f1 rfl rfl (.t rfl) (.id _)
theorem slices_Contains_int.con (k : Nat) (a0 : (List Int)) (a1 : Int) (r : Bool) (h : slices_Contains_int k a0 a1 = some r) : Con Tryz.prog 77 [] [SlcA kInt a0, iA a1] (RA (bA r)) := by
 unfold slices_Contains_int at h
 refine Con.of (N := 9) Tryz.func77 rfl rfl rfl fun w0_ fg_ => sr <| ak rfl <| nx <| mv rfl rfl <| mv rfl rfl ?_
 obtain ⟨t100, ht100, h⟩ := bind_s h
 refine p2 rfl 5 rfl 6 rfl (q_call (f := 118) (A := iA t100) (xs := [.tmp 5, .tmp 6]) («as» := [SlcA kInt a0, iA a1]) rfl ca118 (slices_Index_int.con k a0 a1 t100 ht100) rfl) <| pk rfl 7 rfl (q_int rfl rfl) <| av rfl rfl <| nt <| W.ret ?_
 cases h
 exact QR.f1 rfl rfl (.t rfl) (.id _)
theorem types_is.con (k : Nat) (a0 : Types) (a1 : Int) (a2 : Int) (r : Bool) (h : types_is k a0 a1 a2 = some r) : Con Tryz.prog 95 [] [AggA [SlcA kNodeType a0.fNodes, SlcA kEdgeType a0.fEdges], iA a1, iA a2] (RA (bA r)) := by
 unfold types_is at h
 refine Con.of (N := 12) Tryz.func95 rfl rfl rfl fun w0_ fg_ => sr <| p1 rfl 0 rfl (q_box rfl (CellsOf.agg _)) <| ak rfl <| nx <| lS rfl rfl sh25 rfl rfl <| mv rfl rfl ?_
 obtain ⟨t100, ht100, h⟩ := bind_s h
 refine p2 rfl 7 rfl 8 rfl (q_call (f := 136) (A := SlcA kInt t100) (xs := [.tmp 7, .tmp 8]) («as» := [AggA [SlcA kNodeType a0.fNodes, SlcA kEdgeType a0.fEdges], iA a1]) rfl ca136 (types_line.con k a0 a1 t100 ht100) rfl) <| mv rfl rfl ?_
 obtain ⟨t101, ht101, h⟩ := bind_s h
 refine p2 rfl 9 rfl 10 rfl (q_call (f := 77) (A := bA t101) (xs := [.tmp 9, .tmp 10]) («as» := [SlcA kInt t100, iA a2]) rfl ca77 (slices_Contains_int.con k t100 a2 t101 ht101) rfl) <| av rfl rfl <| WL.nil <| QN.weaken (env' := [(6, _)]) (.one rfl (.nil _)) <| QN.then_ <| W.ret ?_
 cases h
 exact QR.f1 rfl rfl (.t rfl) (.id _)
theorem types_Fits.con (k : Nat) (a0 : Types) (a1 : Int) (a2 : Int) (a3 : Int) (r : Bool) (h : types_Fits k a0 a1 a2 a3 = some r) : Con Tryz.prog 48 [] [AggA [SlcA kNodeType a0.fNodes, SlcA kEdgeType a0.fEdges], iA a1, iA a2, iA a3] (RA (bA r)) := by
 unfold types_Fits at h
 refine Con.of (N := 46) Tryz.func48 rfl rfl rfl fun w0_ fg_ => sr <| p1 rfl 0 rfl (q_box rfl (CellsOf.agg _)) <| ak rfl <| nt <| W.seq <| W.seq ?_
 refine W.jn1 (Γ := Unit) (fun (_ : Unit) (x25 : Bool) => [(1, iA a1), (2, iA a2), (3, iA a3), (4, PtrA [SlcA kNodeType a0.fNodes, SlcA kEdgeType a0.fEdges]), (25, bA x25)]) (fun (_ : Unit) (_ : Bool) => []) h (fun _ x25 h => ?_) (fun j104 Kj104 h => ?_)
 ·refine QN.then_ ?_
  refine W.condP h rfl (fun hb105 h => ?_) (fun hb105 h => ?_)
  ·refine sr <| ak rfl <| nt <| W.ret <| QR.then_ ?_
   cases h
   exact QR.f1 rfl rfl (.t rfl) (.id _)
  ·refine W.skip <| QN.then_ <| W.seq ?_
   refine W.jn1 (Γ := Unit) (fun (_ : Unit) (x8 : Bool) => [(8, bA x8)]) (fun (_ : Unit) (_ : Bool) => []) h (fun _ x8 h => ?_) (fun j117 Kj117 h => ?_)
   ·refine QN.then_ <| W.ret ?_
    cases h
    exact QR.f1 rfl rfl (.t rfl) (.id _)
   ·refine W.drawK [(0, false), (1, false), (2, false), (3, false), (4, false), (5, false), (6, false), (7, false), (8, false), (9, false), (10, false), (11, false), (12, false), (13, false), (14, false), (15, false), (16, false), (17, false), (18, false), (19, false), (20, false)] [] (bm [0, 0, 0, 4, 0, 28, 60, 124, 255, 511, 1023, 1023, 1023, 5119, 1023, 29695, 62463, 127999, 262143, 524287, 1048575]) mx (by kernel_rfl) <| DK.cons rfl rfl (.p rfl (.s 4 rfl .nil) rfl (q_loadS rfl sh25 (leB rfl) rfl)) <| dm rfl rfl rfl <| df rfl rfl rfl fo25_1 rfl <| dl rfl rfl rfl sh23 <| dm rfl rfl rfl ?_
    obtain ⟨c118, h⟩ := ite_n h
    refine DK.cons rfl rfl (.p rfl (.s 29 rfl (.s 30 rfl .nil)) rfl (q_index rfl el23 rfl c118.1 c118.2)) <| df rfl rfl rfl fo60_1 rfl <| dl rfl rfl rfl sh3 ?_
    obtain ⟨t119, ht119, h⟩ := bind_s h
    refine DK.cons rfl rfl (.p rfl (.s 26 rfl (.s 27 rfl (.s 33 rfl .nil))) rfl (q_call (f := 95) (A := bA t119) (xs := [.tmp 26, .tmp 27, .tmp 33]) («as» := [AggA [SlcA kNodeType a0.fNodes, SlcA kEdgeType a0.fEdges], iA a2, iA ((rd a0.fEdges a1).fFrom)]) rfl ca95 (types_is.con k a0 a2 ((rd a0.fEdges a1).fFrom) t119 ht119) rfl)) <| dm rfl rfl rfl ?_
    rcases bif_s h with ⟨hb120, h⟩ | ⟨hb120, h⟩
    ·refine DK.cons rfl rfl (.gp rfl rfl rfl hb120 (.s 4 rfl .nil) rfl (q_loadS rfl sh25 (leB rfl) rfl)) <| DK.cons rfl rfl (.gp rfl rfl rfl hb120 (.s 3 rfl .nil) rfl (q_move rfl)) <| DK.cons rfl rfl (.gp rfl rfl rfl hb120 (.s 4 rfl .nil) rfl (q_field rfl fo25_1 rfl)) <| DK.cons rfl rfl (.gp rfl rfl rfl hb120 (.s 38 rfl .nil) rfl (q_load rfl sh23)) <| DK.cons rfl rfl (.gp rfl rfl rfl hb120 (.s 1 rfl .nil) rfl (q_move rfl)) ?_
     obtain ⟨c121, h⟩ := ite_n h
     refine DK.cons rfl rfl (.gp rfl rfl rfl hb120 (.s 39 rfl (.s 40 rfl .nil)) rfl (q_index rfl el23 rfl c121.1 c121.2)) <| DK.cons rfl rfl (.gp rfl rfl rfl hb120 (.s 41 rfl .nil) rfl (q_field rfl fo60_2 rfl)) <| DK.cons rfl rfl (.gp rfl rfl rfl hb120 (.s 42 rfl .nil) rfl (q_load rfl sh3)) ?_
     obtain ⟨t122, ht122, h⟩ := bind_s h
     refine DK.cons rfl rfl (.gp rfl rfl rfl hb120 (.s 36 rfl (.s 37 rfl (.s 43 rfl .nil))) rfl (q_call (f := 95) (A := bA t122) (xs := [.tmp 36, .tmp 37, .tmp 43]) («as» := [AggA [SlcA kNodeType a0.fNodes, SlcA kEdgeType a0.fEdges], iA a3, iA ((rd a0.fEdges a1).fTo)]) rfl ca95 (types_is.con k a0 a3 ((rd a0.fEdges a1).fTo) t122 ht122) rfl)) <| DK.cons rfl rfl (.p rfl (.s 35 rfl (.s 44 rfl .nil)) rfl (q_pickT rfl hb120)) <| DK.cons rfl rfl (.p rfl (.s 45 rfl .nil) rfl (q_assign rfl)) <| DK.nil <| CSteps.nil ?_
     exact QN.weaken (.one rfl (.nil _)) (Kj117 () t122 h)
    ·refine dx rfl rfl rfl hb120 <| dx rfl rfl rfl hb120 <| dx rfl rfl rfl hb120 <| dx rfl rfl rfl hb120 <| dx rfl rfl rfl hb120 <| dx rfl rfl rfl hb120 <| dx rfl rfl rfl hb120 <| dx rfl rfl rfl hb120 <| dx rfl rfl rfl hb120 <| DK.cons rfl rfl (.p rfl (.s 35 rfl (.k .nil)) rfl (q_pickF rfl hb120)) <| DK.cons rfl rfl (.p rfl (.s 45 rfl .nil) rfl (q_assign rfl)) <| DK.nil <| CSteps.nil ?_
     exact QN.weaken (.one rfl (.nil _)) (Kj117 () false h)
 ·refine W.region <| lS rfl rfl sh25 rfl rfl <| mv rfl rfl <| mv rfl rfl <| p2 rfl 10 rfl 11 rfl (q_lit (kd := kInt) (ps := [(0, .tmp 10), (1, .tmp 11)]) (xs := [.tmp 10, .tmp 11]) («as» := [iA a2, iA a3]) (ys := [a2, a3]) rfl rfl el26 rfl gr3 rfl rfl rfl (.cons (CellsOf.one rfl) (.cons (CellsOf.one rfl) .nil))) ?_
  obtain ⟨t123, ht123, h⟩ := bind_s h
  refine p2 rfl 9 rfl 12 rfl (q_call (f := 94) (A := iA t123) (xs := [.tmp 9, .tmp 12]) («as» := [AggA [SlcA kNodeType a0.fNodes, SlcA kEdgeType a0.fEdges], SlcA kInt [a2, a3]]) rfl ca94 (types_given.con k a0 [a2, a3] t123 ht123) rfl) <| pk rfl 13 rfl (q_int rfl rfl) <| mv rfl rfl ?_
  rcases bif_s h with ⟨hb124, h⟩ | ⟨hb124, h⟩
  ·refine sk rfl rfl rfl hb124 <| sk rfl rfl rfl hb124 <| pk rfl 15 rfl (q_pickT rfl hb124) <| mv rfl rfl <| sk rfl rfl rfl rfl <| sk rfl rfl rfl rfl <| sk rfl rfl rfl rfl <| sk rfl rfl rfl rfl <| sk rfl rfl rfl rfl <| pk rfl 19 rfl (q_pickT rfl rfl) <| WL.nil ?_
   exact QN.weaken (.o4 rfl (.one rfl (.nil _))) (Kj104 () true h)
  ·refine wm rfl rfl rfl hb124 rfl rfl <| wq rfl rfl rfl hb124 (.s 16 rfl (.k .nil)) (q_int rfl rfl).o <| p2 rfl 15 rfl 17 rfl (q_pickF rfl hb124) <| mv rfl rfl ?_
   rcases bif_s h with ⟨hb125, h⟩ | ⟨hb125, h⟩
   ·refine sk rfl rfl rfl hb125 <| sk rfl rfl rfl hb125 <| sk rfl rfl rfl hb125 <| sk rfl rfl rfl hb125 <| sk rfl rfl rfl hb125 <| pk rfl 19 rfl (q_pickT rfl hb125) <| WL.nil ?_
    exact QN.weaken (.o4 rfl (.one rfl (.nil _))) (Kj104 () true h)
   ·refine wm rfl rfl rfl hb125 rfl rfl <| wf rfl rfl rfl hb125 rfl rfl fo25_1 rfl <| wl rfl rfl rfl hb125 rfl rfl sh23 <| wq rfl rfl rfl hb125 (.s 22 rfl .nil) (q_len rfl elS23).o <| wq rfl rfl rfl hb125 (.s 20 rfl (.s 23 rfl .nil)) (q_int rfl rfl).o <| p2 rfl 19 rfl 24 rfl (q_pickF rfl hb125) <| WL.nil ?_
    exact QN.weaken (.o4 rfl (.one rfl (.nil _))) (Kj104 () (decide (a1 ≥ (a0.fEdges.length : Int))) h)
theorem host_Valid.con (k : Nat) (a0 : Types) (a1 : Host) (r : (Int × Int)) (h : host_Valid k a0 a1 = some r) : Con Tryz.prog 13 [] [AggA [SlcA kNodeType a0.fNodes, SlcA kEdgeType a0.fEdges], AggA [SlcA kInt a1.fGraph.fNodes, SlcA kEdge a1.fGraph.fEdges, SlcA (kSl kInt) a1.fValues]] (RA (TupA [iA r.1, iA r.2])) := by
 unfold host_Valid at h
 refine Con.of (N := 95) Tryz.func13 rfl rfl rfl fun w0_ fg_ => sr <| p1 rfl 0 rfl (q_box rfl (CellsOf.agg _)) <| p1 rfl 1 rfl (q_box rfl (CellsOf.agg _)) <| ak rfl <| ak rfl <| nt <| W.seq <| sr <| lS rfl rfl sh25 rfl rfl ?_
 obtain ⟨t100, ht100, h⟩ := bind_s h
 refine p1 rfl 15 rfl (q_call (f := 45) (A := TupA [EqA (strV t100.1), iA t100.2]) (xs := [.tmp 15]) («as» := [AggA [SlcA kNodeType a0.fNodes, SlcA kEdgeType a0.fEdges]]) rfl ca45 (types_Valid.con k a0 t100 ht100) rfl) <| mv rfl rfl <| p1 rfl 14 rfl (q_extract rfl rfl) <| p1 rfl 14 rfl (q_extract rfl rfl) <| av rfl rfl <| av rfl rfl <| WL.nil <| QN.weaken (env' := [(7, _), (3, _), (2, _)]) (.o2 rfl (.one rfl (.nil _))) <| QN.then_ <| sr <| mv rfl rfl <| pk rfl 19 rfl (q_int rfl rfl) ?_
 refine nt ?_
 refine W.condP h rfl (fun hb101 h => ?_) (fun hb101 h => ?_)
 ·refine sr <| mv rfl rfl <| ak rfl <| av rfl rfl <| nt <| W.ret <| QR.then_ ?_
  cases h
  exact QR.f2 rfl rfl (.t rfl) (.t rfl) (.id _)
 ·refine W.skip <| QN.then_ <| W.seq <| sr <| fd rfl rfl fo32_0 rfl <| lS rfl rfl sh29 rfl rfl ?_
  obtain ⟨t102, ht102, h⟩ := bind_s h
  refine p1 rfl 23 rfl (q_call (f := 46) (A := iA t102) (xs := [.tmp 23]) («as» := [AggA [SlcA kInt a1.fGraph.fNodes, SlcA kEdge a1.fGraph.fEdges]]) rfl ca46 (graph_Valid.con k a1.fGraph t102 ht102) rfl) <| av rfl rfl <| nx <| mv rfl rfl <| pk rfl 25 rfl (q_int rfl rfl) <| WL.nil <| QN.weaken (env' := [(26, _), (8, _), (3, _), (2, _)]) (.o4 rfl (.nil _)) <| QN.then_ ?_
  refine W.condP h rfl (fun hb103 h => ?_) (fun hb103 h => ?_)
  ·refine sr <| mv rfl rfl <| ak rfl <| av rfl rfl <| nt <| W.ret <| QR.then_ ?_
   cases h
   exact QR.f2 rfl rfl (.t rfl) (.t rfl) (.id _)
  ·refine W.skip <| QN.then_ <| W.seq <| sr <| fd rfl rfl fo32_1 rfl <| ld rfl rfl sh30 <| p1 rfl 29 rfl (q_len rfl elS30) <| fd rfl rfl fo32_0 rfl <| fd rfl rfl fo29_0 rfl <| ld rfl rfl sh26 <| p1 rfl 33 rfl (q_len rfl elS26) <| p2 rfl 30 rfl 34 rfl (q_int rfl rfl) ?_
   refine WL.nil <| QN.weaken (env' := [(35, _), (3, _), (2, _)]) (.o2 rfl (.one rfl (.nil _))) <| QN.then_ ?_
   refine W.condP h rfl (fun hb104 h => ?_) (fun hb104 h => ?_)
   ·refine sr <| ak rfl <| ak rfl <| nt <| W.ret <| QR.then_ ?_
    cases h
    exact QR.f2 rfl rfl (.t rfl) (.t rfl) (.id _)
   ·refine W.skip <| QN.then_ <| W.seq <| sr <| fd rfl rfl fo32_0 rfl <| fd rfl rfl fo29_0 rfl <| ld rfl rfl sh26 <| p1 rfl 38 rfl (q_len rfl elS26) <| mk_ rfl <| nt <| W.block ?_
    refine W.loop1 (Γ := Unit) (fun (_ : Unit) (x40 : Int) => [(2, PtrA [SlcA kNodeType a0.fNodes, SlcA kEdgeType a0.fEdges]), (3, PtrA [SlcA kInt a1.fGraph.fNodes, SlcA kEdge a1.fGraph.fEdges, SlcA (kSl kInt) a1.fValues]), (38, SlcA kInt a1.fGraph.fNodes), (39, iA (a1.fGraph.fNodes.length : Int)), (40, iA x40)]) (fun (_ : Unit) (_ : Int) => []) h () (.o4 rfl (.one rfl (.nil _))) rfl (fun rec0 K0 next0 _ x40 h => ?_)
    unfold host_Valid.b0 at h
    refine sr <| p2 rfl 40 rfl 39 rfl (q_int rfl rfl) <| nt <| W.seq ?_
    refine W.condP h rfl (fun hb215 h => ?_) (fun hb215 h => ?_)
    ·refine W.skip <| QN.then_ <| W.seq <| W.block <| sr <| mv rfl rfl ?_
     obtain ⟨c216, h⟩ := ite_n h
     refine p2 rfl 38 rfl 40 rfl (q_index rfl el26 rfl c216.1 c216.2) <| ld rfl rfl sh3 <| av rfl rfl <| av rfl rfl <| nt <| W.seq <| W.drawK [(0, false), (1, false), (2, false), (3, false), (4, false), (5, false), (6, false), (7, false), (8, false)] [] (bm [0, 0, 0, 4, 0, 28, 60, 127, 255]) mx (by kernel_rfl) <| DK.cons rfl rfl (.p rfl (.s 2 rfl .nil) rfl (q_loadS rfl sh25 (leB rfl) rfl)) <| dm rfl rfl rfl <| df rfl rfl rfl fo32_1 rfl <| dl rfl rfl rfl sh30 <| dm rfl rfl rfl ?_
     obtain ⟨c221, h⟩ := ite_n h
     refine DK.cons rfl rfl (.p rfl (.s 48 rfl (.s 49 rfl .nil)) rfl (q_index rfl el30 rfl c221.1 c221.2)) <| dl rfl rfl rfl sh26 ?_
     obtain ⟨t222, ht222, h⟩ := bind_s h
     refine DK.cons rfl rfl (.p rfl (.s 45 rfl (.s 46 rfl (.s 51 rfl .nil))) rfl (q_call (f := 47) (A := iA t222) (xs := [.tmp 45, .tmp 46, .tmp 51]) («as» := [AggA [SlcA kNodeType a0.fNodes, SlcA kEdgeType a0.fEdges], iA (rd a1.fGraph.fNodes x40), SlcA kInt (rd a1.fValues x40)]) rfl ca47 (host_node.con k a0 (rd a1.fGraph.fNodes x40) (rd a1.fValues x40) t222 ht222) rfl)) <| DK.cons rfl rfl (.p rfl (.s 52 rfl .nil) rfl (q_assign rfl)) <| DK.nil <| CSteps.nil <| QN.weaken (env' := [(11, _), (9, _), (40, _), (39, _), (38, _), (3, _), (2, _)]) (.o4 rfl (.o2 rfl (.one rfl (.nil _)))) <| QN.then_ <| sr <| mv rfl rfl <| pk rfl 53 rfl (q_int rfl rfl) <| nt ?_
     refine W.condP h rfl (fun hb223 h => ?_) (fun hb223 h => ?_)
     ·refine sr <| mv rfl rfl <| mv rfl rfl <| av rfl rfl <| av rfl rfl <| WL.nil <| QN.weaken (env' := [(5, _), (4, _)]) (.o2 rfl (.nil _)) <| QN.then_ <| W.ret <| QR.block <| QR.then_ <| QR.then_ ?_
      refine QR.block <| QR.then_ ?_
      cases h
      exact QR.f2 rfl rfl (.t rfl) (.t rfl) (.id _)
     ·refine W.skip <| QN.block <| QN.then_ <| W.region ?_
      obtain ⟨c224, h⟩ := ite_n h
      refine pk rfl 40 rfl (q_addR rfl c224) <| mv rfl rfl <| WL.nil ?_
      exact next0 () (x40 + 1) _ h (.o4 rfl (.one rfl (.nil _)))
    ·refine W.exit <| QX.then_ <| QX.then_ <| QX.here <| QN.then_ <| W.seq <| sr <| fd rfl rfl fo32_0 rfl <| fd rfl rfl fo29_1 rfl <| ld rfl rfl sh27 <| p1 rfl 60 rfl (q_len rfl elS27) <| mk_ rfl ?_
     refine nt <| W.block ?_
     refine W.loop1 (Γ := Unit) (fun (_ : Unit) (x62 : Int) => [(2, PtrA [SlcA kNodeType a0.fNodes, SlcA kEdgeType a0.fEdges]), (3, PtrA [SlcA kInt a1.fGraph.fNodes, SlcA kEdge a1.fGraph.fEdges, SlcA (kSl kInt) a1.fValues]), (60, SlcA kEdge a1.fGraph.fEdges), (61, iA (a1.fGraph.fEdges.length : Int)), (62, iA x62)]) (fun (_ : Unit) (_ : Int) => []) h () (.o4 rfl (.one rfl (.nil _))) rfl (fun rec1 K1 next1 _ x62 h => ?_)
     unfold host_Valid.b1 at h
     refine sr <| p2 rfl 62 rfl 61 rfl (q_int rfl rfl) <| nt <| W.seq ?_
     refine W.condP h rfl (fun hb255 h => ?_) (fun hb255 h => ?_)
     ·refine W.skip <| QN.then_ <| W.seq <| W.block <| sr <| mv rfl rfl ?_
      obtain ⟨c256, h⟩ := ite_n h
      refine p2 rfl 60 rfl 62 rfl (q_index rfl el27 rfl c256.1 c256.2) <| lS rfl rfl sh63 rfl rfl <| WL.w [] rfl (Wanted.plain rfl) rfl rfl .nil (w_alloc rfl z63 (l := [iA 0, iA 0, iA 0]) rfl) ?_
      rintro _ _ ⟨b257, rfl, rfl⟩
      refine av rfl rfl <| WL.w0 [0] rfl (Wanted.plain rfl) rfl (.s 13 rfl (.s 66 rfl .nil)) (w_store (L := [iA ((rd a1.fGraph.fEdges x62).fType), iA ((rd a1.fGraph.fEdges x62).fFrom), iA ((rd a1.fGraph.fEdges x62).fTo)]) rfl sh63 (CellsOf.agg _) rfl rfl (leB rfl) rfl) ?_
      rintro _ _ ⟨rfl, rfl⟩
      refine WL.nil <| QN.to (StTo.still [0] 13 rfl rfl) <| QN.then_ <| W.seq <| sr <| fd rfl rfl fo63_0 rfl <| ld rfl rfl sh3 <| fd rfl rfl fo25_1 rfl <| ld rfl rfl sh23 <| p1 rfl 70 rfl (q_len rfl elS23) <| p2 rfl 68 rfl 71 rfl (q_int rfl rfl) <| WL.nil ?_
      refine QN.weaken (env' := [(72, _), (12, _), (13, _), (62, _), (61, _), (60, _), (3, _), (2, _)]) (.o4 rfl (.o4 rfl (.nil _))) <| QN.then_ ?_
      refine W.condP h rfl (fun hb258 h => ?_) (fun hb258 h => ?_)
      ·refine sr <| mv rfl rfl <| av rfl rfl <| ak rfl <| WL.nil <| QN.weaken (env' := [(5, _), (4, _)]) (.o2 rfl (.nil _)) <| QN.then_ <| W.ret <| QR.then_ <| QR.block <| QR.then_ <| QR.then_ ?_
       refine QR.block <| QR.then_ ?_
       cases h
       exact QR.f2 rfl rfl (.t rfl) (.t rfl) (.id _)
      ·refine W.skip <| QN.then_ <| W.seq <| W.drawK [(0, false), (1, false), (2, false), (3, false), (4, false), (5, false), (6, false), (7, false), (8, false), (9, false), (10, false), (11, false), (12, false), (13, false), (14, false), (15, false), (16, false), (17, false), (18, false)] [] (bm [0, 0, 2, 0, 8, 24, 0, 64, 248, 504, 0, 1024, 3072, 0, 8192, 31744, 64512, 131071, 262143]) mx (by kernel_rfl) <| DK.cons rfl rfl (.p rfl (.s 2 rfl .nil) rfl (q_loadS rfl sh25 (leB rfl) rfl)) <| df rfl rfl rfl fo63_0 rfl <| dl rfl rfl rfl sh3 <| df rfl rfl rfl fo32_0 rfl <| df rfl rfl rfl fo29_0 rfl <| dl rfl rfl rfl sh26 <| df rfl rfl rfl fo63_1 rfl <| dl rfl rfl rfl sh3 ?_
       obtain ⟨c265, h⟩ := ite_n h
       refine DK.cons rfl rfl (.p rfl (.s 79 rfl (.s 81 rfl .nil)) rfl (q_index rfl el26 rfl c265.1 c265.2)) <| dl rfl rfl rfl sh3 <| df rfl rfl rfl fo32_0 rfl <| df rfl rfl rfl fo29_0 rfl <| dl rfl rfl rfl sh26 <| df rfl rfl rfl fo63_2 rfl <| dl rfl rfl rfl sh3 ?_
       obtain ⟨c266, h⟩ := ite_n h
       refine DK.cons rfl rfl (.p rfl (.s 86 rfl (.s 88 rfl .nil)) rfl (q_index rfl el26 rfl c266.1 c266.2)) <| dl rfl rfl rfl sh3 ?_
       obtain ⟨t267, ht267, h⟩ := bind_s h
       refine DK.cons rfl rfl (.p rfl (.s 74 rfl (.s 76 rfl (.s 83 rfl (.s 90 rfl .nil)))) rfl (q_call (f := 48) (A := bA t267) (xs := [.tmp 74, .tmp 76, .tmp 83, .tmp 90]) («as» := [AggA [SlcA kNodeType a0.fNodes, SlcA kEdgeType a0.fEdges], iA ((rd a1.fGraph.fEdges x62).fType), iA (rd a1.fGraph.fNodes ((rd a1.fGraph.fEdges x62).fFrom)), iA (rd a1.fGraph.fNodes ((rd a1.fGraph.fEdges x62).fTo))]) rfl ca48 (types_Fits.con k a0 ((rd a1.fGraph.fEdges x62).fType) (rd a1.fGraph.fNodes ((rd a1.fGraph.fEdges x62).fFrom)) (rd a1.fGraph.fNodes ((rd a1.fGraph.fEdges x62).fTo)) t267 ht267) rfl)) <| DK.cons rfl rfl (.p rfl (.s 91 rfl .nil) rfl (q_not rfl)) <| DK.nil <| CSteps.nil <| QN.weaken (env' := [(92, _), (12, _), (62, _), (61, _), (60, _), (3, _), (2, _)]) (.o4 rfl (.o2 rfl (.one rfl (.nil _)))) <| QN.then_ ?_
       refine W.condP h rfl (fun hb268 h => ?_) (fun hb268 h => ?_)
       ·refine sr <| mv rfl rfl <| av rfl rfl <| ak rfl <| WL.nil <| QN.weaken (env' := [(5, _), (4, _)]) (.o2 rfl (.nil _)) <| QN.then_ <| W.ret <| QR.block <| QR.then_ <| QR.then_ <| QR.block ?_
        refine QR.then_ ?_
        cases h
        exact QR.f2 rfl rfl (.t rfl) (.t rfl) (.id _)
       ·refine W.skip <| QN.block <| QN.then_ <| W.region ?_
        obtain ⟨c269, h⟩ := ite_n h
        refine pk rfl 62 rfl (q_addR rfl c269) <| mv rfl rfl <| WL.nil ?_
        exact next1 () (x62 + 1) _ h (.o4 rfl (.one rfl (.nil _)))
     ·refine W.exit <| QX.then_ <| QX.then_ <| QX.here <| QN.then_ <| sr <| ak rfl <| ak rfl <| nt <| W.ret ?_
      cases h
      exact QR.f2 rfl rfl (.t rfl) (.t rfl) (.id _)
theorem host_valid.con (k : Nat) (a0 : Types) (a1 : Host) (r : Int) (h : host_valid k a0 a1 = some r) : Con Tryz.prog 54 [] [AggA [SlcA kNodeType a0.fNodes, SlcA kEdgeType a0.fEdges], AggA [SlcA kInt a1.fGraph.fNodes, SlcA kEdge a1.fGraph.fEdges, SlcA (kSl kInt) a1.fValues]] (RA (iA r)) := by
 unfold host_valid at h
 refine Con.of (N := 14) Tryz.func54 rfl rfl rfl fun w0_ fg_ => sr <| p1 rfl 0 rfl (q_box rfl (CellsOf.agg _)) <| p1 rfl 1 rfl (q_box rfl (CellsOf.agg _)) <| ak rfl <| nx <| lS rfl rfl sh25 rfl rfl <| lS rfl rfl sh32 rfl rfl ?_
 obtain ⟨t100, ht100, h⟩ := bind_s h
 refine p2 rfl 8 rfl 9 rfl (q_call (f := 13) (A := TupA [iA t100.1, iA t100.2]) (xs := [.tmp 8, .tmp 9]) («as» := [AggA [SlcA kNodeType a0.fNodes, SlcA kEdgeType a0.fEdges], AggA [SlcA kInt a1.fGraph.fNodes, SlcA kEdge a1.fGraph.fEdges, SlcA (kSl kInt) a1.fValues]]) rfl ca13 (host_Valid.con k a0 a1 t100 ht100) rfl) <| mv rfl rfl <| p1 rfl 7 rfl (q_extract rfl rfl) <| p1 rfl 7 rfl (q_extract rfl rfl) <| av rfl rfl <| av rfl rfl <| WL.nil <| QN.weaken (env' := [(6, _)]) (.one rfl (.nil _)) <| QN.then_ <| sr <| mv rfl rfl <| av rfl rfl ?_
 refine nt <| W.ret ?_
 cases h
 exact QR.f1 rfl rfl (.t rfl) (.id _)
theorem types_Is.con (k : Nat) (a0 : Types) (a1 : Int) (a2 : Int) (r : Bool) (h : types_Is k a0 a1 a2 = some r) : Con Tryz.prog 102 [] [AggA [SlcA kNodeType a0.fNodes, SlcA kEdgeType a0.fEdges], iA a1, iA a2] (RA (bA r)) := by
 unfold types_Is at h
 refine Con.of (N := 19) Tryz.func102 rfl rfl rfl fun w0_ fg_ => sr <| p1 rfl 0 rfl (q_box rfl (CellsOf.agg _)) <| ak rfl <| nt <| W.seq ?_
 refine W.jn1 (Γ := Unit) (fun (_ : Unit) (x6 : Bool) => [(6, bA x6)]) (fun (_ : Unit) (_ : Bool) => []) h (fun _ x6 h => ?_) (fun j104 Kj104 h => ?_)
 ·refine QN.then_ <| W.ret ?_
  cases h
  exact QR.f1 rfl rfl (.t rfl) (.id _)
 ·refine W.region <| lS rfl rfl sh25 rfl rfl <| mv rfl rfl <| mv rfl rfl <| p2 rfl 8 rfl 9 rfl (q_lit (kd := kInt) (ps := [(0, .tmp 8), (1, .tmp 9)]) (xs := [.tmp 8, .tmp 9]) («as» := [iA a1, iA a2]) (ys := [a1, a2]) rfl rfl el26 rfl gr3 rfl rfl rfl (.cons (CellsOf.one rfl) (.cons (CellsOf.one rfl) .nil))) ?_
  obtain ⟨t105, ht105, h⟩ := bind_s h
  refine p2 rfl 7 rfl 10 rfl (q_call (f := 94) (A := iA t105) (xs := [.tmp 7, .tmp 10]) («as» := [AggA [SlcA kNodeType a0.fNodes, SlcA kEdgeType a0.fEdges], SlcA kInt [a1, a2]]) rfl ca94 (types_given.con k a0 [a1, a2] t105 ht105) rfl) <| pk rfl 11 rfl (q_int rfl rfl) <| mv rfl rfl ?_
  rcases bif_s h with ⟨hb106, h⟩ | ⟨hb106, h⟩
  ·refine wq rfl rfl rfl hb106 (.s 3 rfl .nil) (q_loadS rfl sh25 (leB rfl) rfl).o <| wm rfl rfl rfl hb106 rfl rfl <| wm rfl rfl rfl hb106 rfl rfl ?_
   obtain ⟨t107, ht107, h⟩ := bind_s h
   refine wq rfl rfl rfl hb106 (.s 14 rfl (.s 15 rfl (.s 16 rfl .nil))) (q_call (f := 95) (A := bA t107) (xs := [.tmp 14, .tmp 15, .tmp 16]) («as» := [AggA [SlcA kNodeType a0.fNodes, SlcA kEdgeType a0.fEdges], iA a1, iA a2]) rfl ca95 (types_is.con k a0 a1 a2 t107 ht107) rfl).o <| p2 rfl 13 rfl 17 rfl (q_pickT rfl hb106) <| av rfl rfl <| WL.nil ?_
   exact QN.weaken (.one rfl (.nil _)) (Kj104 () t107 h)
  ·refine sk rfl rfl rfl hb106 <| sk rfl rfl rfl hb106 <| sk rfl rfl rfl hb106 <| sk rfl rfl rfl hb106 <| pk rfl 13 rfl (q_pickF rfl hb106) <| av rfl rfl <| WL.nil ?_
   exact QN.weaken (.one rfl (.nil _)) (Kj104 () false h)
theorem host_excesses.con (k : Nat) (a0 : Types) (a1 : Host) (a2 : Int) (a3 : Bool) (a4 : Int) (a5 : Int) (a6 : Int) (r : (List Excess)) (h : host_excesses k a0 a1 a2 a3 a4 a5 a6 = some r) : Con Tryz.prog 55 [] [AggA [SlcA kNodeType a0.fNodes, SlcA kEdgeType a0.fEdges], AggA [SlcA kInt a1.fGraph.fNodes, SlcA kEdge a1.fGraph.fEdges, SlcA (kSl kInt) a1.fValues], iA a2, bA a3, iA a4, iA a5, iA a6] (RA (SlcA kExcess r)) := by
 unfold host_excesses at h
 refine Con.of (N := 91) Tryz.func55 rfl rfl rfl fun w0_ fg_ => sr <| p1 rfl 0 rfl (q_box rfl (CellsOf.agg _)) <| p1 rfl 1 rfl (q_box rfl (CellsOf.agg _)) <| ak rfl <| nx <| ak rfl <| nt ?_
 refine W.seq <| sr <| fd rfl rfl fo32_0 rfl <| fd rfl rfl fo29_0 rfl <| ld rfl rfl sh26 <| p1 rfl 23 rfl (q_len rfl elS26) <| mk_ rfl <| nt <| W.block <| W.to (StTo.newNil 44 kExcess) <| W.to (StTo.as 15 rfl Imp.nilHd) ?_
 refine W.loop2 (Γ := Value) (fun (g0 : Value) (_ : (List Excess)) (x25 : Int) => [(2, iA a2), (3, bA a3), (4, iA a4), (5, iA a5), (6, iA a6), (7, PtrA [SlcA kNodeType a0.fNodes, SlcA kEdgeType a0.fEdges]), (8, PtrA [SlcA kInt a1.fGraph.fNodes, SlcA kEdge a1.fGraph.fEdges, SlcA (kSl kInt) a1.fValues]), (15, HdA g0), (23, SlcA kInt a1.fGraph.fNodes), (24, iA (a1.fGraph.fNodes.length : Int)), (25, iA x25)]) (fun (g0 : Value) (x15 : (List Excess)) (_ : Int) => [SlE 44 g0 kExcess x15]) h (.slice none 0 0) (.o4 rfl (.o4 rfl (.o2 rfl (.one rfl (.nil _))))) rfl (fun rec0 K0 next0 g0 x15 x25 h => ?_)
 unfold host_excesses.b0 at h
 refine sr <| p2 rfl 25 rfl 24 rfl (q_int rfl rfl) <| nt <| W.seq ?_
 refine W.condP h rfl (fun hb535 h => ?_) (fun hb535 h => ?_)
 ·refine W.skip <| QN.then_ <| W.seq ?_
  refine W.jn1 (Γ := Value) (fun (g638 : Value) (_ : (List Excess)) => [(2, iA a2), (3, bA a3), (4, iA a4), (5, iA a5), (6, iA a6), (7, PtrA [SlcA kNodeType a0.fNodes, SlcA kEdgeType a0.fEdges]), (8, PtrA [SlcA kInt a1.fGraph.fNodes, SlcA kEdge a1.fGraph.fEdges, SlcA (kSl kInt) a1.fValues]), (15, HdA g638), (23, SlcA kInt a1.fGraph.fNodes), (24, iA (a1.fGraph.fNodes.length : Int)), (25, iA x25)]) (fun (g638 : Value) (x15' : (List Excess)) => [SlE 44 g638 kExcess x15']) h (fun g638 x15' h => ?_) (fun j641 Kj641 h => ?_)
  ·refine QN.then_ <| W.region ?_
   obtain ⟨c642, h⟩ := ite_n h
   refine pk rfl 25 rfl (q_addR rfl c642) <| mv rfl rfl <| WL.nil ?_
   exact next0 g638 x15' (x25 + 1) _ h (.o4 rfl (.o4 rfl (.o2 rfl (.one rfl (.nil _)))))
  ·refine W.block <| sr <| mv rfl rfl ?_
   obtain ⟨c643, h⟩ := ite_n h
   refine p2 rfl 23 rfl 25 rfl (q_index rfl el26 rfl c643.1 c643.2) <| ld rfl rfl sh3 <| av rfl rfl <| av rfl rfl <| nt <| W.seq <| sr <| lS rfl rfl sh25 rfl rfl <| mv rfl rfl <| mv rfl rfl ?_
   obtain ⟨t644, ht644, h⟩ := bind_s h
   refine WL.p rfl rfl rfl (.s 30 rfl (.s 31 rfl (.s 32 rfl .nil))) (q_call (f := 102) (A := bA t644) (xs := [.tmp 30, .tmp 31, .tmp 32]) («as» := [AggA [SlcA kNodeType a0.fNodes, SlcA kEdgeType a0.fEdges], iA (rd a1.fGraph.fNodes x25), iA a4]) rfl ca102 (types_Is.con k a0 (rd a1.fGraph.fNodes x25) a4 t644 ht644) rfl) <| p1 rfl 33 rfl (q_not rfl) <| WL.nil <| QN.weaken (env' := [(34, _), (16, _), (25, _), (24, _), (23, _), (15, _), (8, _), (7, _), (6, _), (5, _), (4, _), (3, _), (2, _)]) (.o4 rfl (.o4 rfl (.o4 rfl (.one rfl (.nil _))))) <| QN.then_ ?_
   refine W.condP h rfl (fun hb645 h => ?_) (fun hb645 h => ?_)
   ·refine W.exit <| QX.then_ <| QX.here ?_
    exact QN.weaken (.o4 rfl (.o4 rfl (.o2 rfl (.one rfl (.nil _))))) (Kj641 g0 x15 h)
   ·refine W.skip <| QN.then_ <| sr <| ak rfl <| nt <| W.seq <| sr <| fd rfl rfl fo32_0 rfl <| fd rfl rfl fo29_1 rfl <| ld rfl rfl sh27 ?_
    refine p1 rfl 37 rfl (q_len rfl elS27) <| mk_ rfl <| nt <| W.block ?_
    refine W.loop2 (Γ := Unit) (fun (_ : Unit) (x18 : Int) (x39 : Int) => [(2, iA a2), (3, bA a3), (4, iA a4), (5, iA a5), (6, iA a6), (7, PtrA [SlcA kNodeType a0.fNodes, SlcA kEdgeType a0.fEdges]), (8, PtrA [SlcA kInt a1.fGraph.fNodes, SlcA kEdge a1.fGraph.fEdges, SlcA (kSl kInt) a1.fValues]), (15, HdA g0), (23, SlcA kInt a1.fGraph.fNodes), (24, iA (a1.fGraph.fNodes.length : Int)), (25, iA x25), (16, iA x25), (18, iA x18), (37, SlcA kEdge a1.fGraph.fEdges), (38, iA (a1.fGraph.fEdges.length : Int)), (39, iA x39)]) (fun (_ : Unit) (_ : Int) (_ : Int) => [SlE 44 g0 kExcess x15]) h () (.o4 rfl (.o4 rfl (.o4 rfl (.o4 rfl (.nil _))))) rfl (fun rec1 K1 next1 _ x18 x39 h => ?_)
    unfold host_excesses.b1 at h
    refine sr <| p2 rfl 39 rfl 38 rfl (q_int rfl rfl) <| nt <| W.seq ?_
    refine W.condP h rfl (fun hb712 h => ?_) (fun hb712 h => ?_)
    ·refine W.skip <| QN.then_ <| W.seq <| W.block <| sr ?_
     obtain ⟨c713, h⟩ := ite_n h
     refine p2 rfl 37 rfl 39 rfl (q_index rfl el27 rfl c713.1 c713.2) <| lS rfl rfl sh63 rfl rfl <| WL.w [] rfl (Wanted.plain rfl) rfl rfl .nil (w_alloc rfl z63 (l := [iA 0, iA 0, iA 0]) rfl) ?_
     rintro _ _ ⟨b714, rfl, rfl⟩
     refine WL.w0 [0] rfl (Wanted.plain rfl) rfl (.s 20 rfl (.s 42 rfl .nil)) (w_store (L := [iA ((rd a1.fGraph.fEdges x39).fType), iA ((rd a1.fGraph.fEdges x39).fFrom), iA ((rd a1.fGraph.fEdges x39).fTo)]) rfl sh63 (CellsOf.agg _) rfl rfl (leB rfl) rfl) ?_
     rintro _ _ ⟨rfl, rfl⟩
     refine WL.nil <| QN.to (StTo.still [0] 20 rfl rfl) <| QN.then_ <| W.seq ?_
     refine W.jn1 (Γ := Unit) (fun (_ : Unit) (x65 : Bool) => [(2, iA a2), (3, bA a3), (4, iA a4), (5, iA a5), (6, iA a6), (7, PtrA [SlcA kNodeType a0.fNodes, SlcA kEdgeType a0.fEdges]), (8, PtrA [SlcA kInt a1.fGraph.fNodes, SlcA kEdge a1.fGraph.fEdges, SlcA (kSl kInt) a1.fValues]), (15, HdA g0), (23, SlcA kInt a1.fGraph.fNodes), (24, iA (a1.fGraph.fNodes.length : Int)), (25, iA x25), (16, iA x25), (18, iA x18), (37, SlcA kEdge a1.fGraph.fEdges), (38, iA (a1.fGraph.fEdges.length : Int)), (39, iA x39), (65, bA x65)]) (fun (_ : Unit) (_ : Bool) => [SlE 44 g0 kExcess x15]) h (fun _ x65 h => ?_) (fun j721 Kj721 h => ?_)
     ·refine QN.then_ ?_
      refine W.condP h rfl (fun hb724 h => ?_) (fun hb724 h => ?_)
      ·refine W.region <| mv rfl rfl ?_
       obtain ⟨c725, h⟩ := ite_n h
       refine pk rfl 66 rfl (q_addR rfl c725) <| av rfl rfl <| WL.nil <| QN.block <| QN.then_ <| W.region ?_
       obtain ⟨c726, h⟩ := ite_n h
       refine pk rfl 39 rfl (q_addR rfl c726) <| mv rfl rfl <| WL.nil ?_
       exact next1 () (x18 + 1) (x39 + 1) _ h (.o4 rfl (.o4 rfl (.o4 rfl (.o4 rfl (.nil _)))))
      ·refine W.skip <| QN.block <| QN.then_ <| W.region ?_
       obtain ⟨c727, h⟩ := ite_n h
       refine pk rfl 39 rfl (q_addR rfl c727) <| mv rfl rfl <| WL.nil ?_
       exact next1 () x18 (x39 + 1) _ h (.o4 rfl (.o4 rfl (.o4 rfl (.o4 rfl (.nil _)))))
     ·refine W.region <| fd rfl rfl fo63_0 rfl <| ld rfl rfl sh3 <| mv rfl rfl <| p2 rfl 44 rfl 45 rfl (q_int rfl rfl) <| mv rfl rfl ?_
      rcases bif_s h with ⟨hb728, h⟩ | ⟨hb728, h⟩
      ·refine wm rfl rfl rfl hb728 rfl rfl <| wm rfl rfl rfl hb728 rfl rfl ?_
       rcases bif_s h with ⟨hb729, h⟩ | ⟨hb729, h⟩
       ·refine wf rfl rfl rfl hb729 rfl rfl fo63_1 rfl <| wl rfl rfl rfl hb729 rfl rfl sh3 <| wm rfl rfl rfl hb729 rfl rfl <| wq rfl rfl rfl hb729 (.s 51 rfl (.s 52 rfl .nil)) (q_int rfl rfl).o <| wq rfl rfl rfl hb728 (.s 49 rfl (.s 53 rfl .nil)) (q_pickT rfl hb729).o <| wm rfl rfl rfl hb728 rfl rfl ?_
        rcases bif_s h with ⟨hb730, h⟩ | ⟨hb730, h⟩
        ·refine sk rfl rfl rfl hb730 <| sk rfl rfl rfl hb730 <| sk rfl rfl rfl hb730 <| su rfl rfl rfl <| su rfl rfl rfl <| su rfl rfl rfl <| su rfl rfl rfl <| sk rfl rfl rfl hb730 <| wq rfl rfl rfl hb728 (.s 55 rfl (.k .nil)) (q_pickT rfl hb730).o <| p2 rfl 47 rfl 64 rfl (q_pickT rfl hb728) <| WL.nil ?_
         exact QN.weaken (.o4 rfl (.o4 rfl (.o4 rfl (.o4 rfl (.one rfl (.nil _)))))) (Kj721 () true h)
        ·refine wm rfl rfl rfl hb730 rfl rfl <| wq rfl rfl rfl hb730 (.s 56 rfl .nil) (q_not rfl).o <| wm rfl rfl rfl hb730 rfl rfl ?_
         rcases bif_s h with ⟨hb731, h⟩ | ⟨hb731, h⟩
         ·refine wf rfl rfl rfl hb731 rfl rfl fo63_2 rfl <| wl rfl rfl rfl hb731 rfl rfl sh3 <| wm rfl rfl rfl hb731 rfl rfl <| wq rfl rfl rfl hb731 (.s 60 rfl (.s 61 rfl .nil)) (q_int rfl rfl).o <| wq rfl rfl rfl hb730 (.s 58 rfl (.s 62 rfl .nil)) (q_pickT rfl hb731).o <| wq rfl rfl rfl hb728 (.s 55 rfl (.s 63 rfl .nil)) (q_pickF rfl hb730).o <| p2 rfl 47 rfl 64 rfl (q_pickT rfl hb728) <| WL.nil ?_
          exact QN.weaken (.o4 rfl (.o4 rfl (.o4 rfl (.o4 rfl (.one rfl (.nil _)))))) (Kj721 () ((rd a1.fGraph.fEdges x39).fTo == x25) h)
         ·refine sk rfl rfl rfl hb731 <| sk rfl rfl rfl hb731 <| sk rfl rfl rfl hb731 <| sk rfl rfl rfl hb731 <| wq rfl rfl rfl hb730 (.s 58 rfl (.k .nil)) (q_pickF rfl hb731).o <| wq rfl rfl rfl hb728 (.s 55 rfl (.s 63 rfl .nil)) (q_pickF rfl hb730).o <| p2 rfl 47 rfl 64 rfl (q_pickT rfl hb728) <| WL.nil ?_
          exact QN.weaken (.o4 rfl (.o4 rfl (.o4 rfl (.o4 rfl (.one rfl (.nil _)))))) (Kj721 () false h)
       ·refine sk rfl rfl rfl hb729 <| sk rfl rfl rfl hb729 <| sk rfl rfl rfl hb729 <| sk rfl rfl rfl hb729 <| wq rfl rfl rfl hb728 (.s 49 rfl (.k .nil)) (q_pickF rfl hb729).o <| wm rfl rfl rfl hb728 rfl rfl <| wm rfl rfl rfl rfl rfl rfl <| wq rfl rfl rfl rfl (.s 56 rfl .nil) (q_not rfl).o <| wm rfl rfl rfl rfl rfl rfl ?_
        rcases bif_s h with ⟨hb732, h⟩ | ⟨hb732, h⟩
        ·refine wf rfl rfl rfl hb732 rfl rfl fo63_2 rfl <| wl rfl rfl rfl hb732 rfl rfl sh3 <| wm rfl rfl rfl hb732 rfl rfl <| wq rfl rfl rfl hb732 (.s 60 rfl (.s 61 rfl .nil)) (q_int rfl rfl).o <| wq rfl rfl rfl rfl (.s 58 rfl (.s 62 rfl .nil)) (q_pickT rfl hb732).o <| wq rfl rfl rfl hb728 (.s 55 rfl (.s 63 rfl .nil)) (q_pickF rfl rfl).o <| p2 rfl 47 rfl 64 rfl (q_pickT rfl hb728) <| WL.nil ?_
         exact QN.weaken (.o4 rfl (.o4 rfl (.o4 rfl (.o4 rfl (.one rfl (.nil _)))))) (Kj721 () ((rd a1.fGraph.fEdges x39).fTo == x25) h)
        ·refine sk rfl rfl rfl hb732 <| sk rfl rfl rfl hb732 <| sk rfl rfl rfl hb732 <| sk rfl rfl rfl hb732 <| wq rfl rfl rfl rfl (.s 58 rfl (.k .nil)) (q_pickF rfl hb732).o <| wq rfl rfl rfl hb728 (.s 55 rfl (.s 63 rfl .nil)) (q_pickF rfl rfl).o <| p2 rfl 47 rfl 64 rfl (q_pickT rfl hb728) <| WL.nil ?_
         exact QN.weaken (.o4 rfl (.o4 rfl (.o4 rfl (.o4 rfl (.one rfl (.nil _)))))) (Kj721 () false h)
      ·refine sk rfl rfl rfl hb728 <| sk rfl rfl rfl hb728 <| su rfl rfl rfl <| su rfl rfl rfl <| su rfl rfl rfl <| su rfl rfl rfl <| sk rfl rfl rfl hb728 <| sk rfl rfl rfl hb728 <| su rfl rfl rfl <| su rfl rfl rfl <| su rfl rfl rfl <| su rfl rfl rfl <| su rfl rfl rfl ?_
       refine su rfl rfl rfl <| su rfl rfl rfl <| su rfl rfl rfl <| sk rfl rfl rfl hb728 <| pk rfl 47 rfl (q_pickF rfl hb728) <| WL.nil ?_
       exact QN.weaken (.o4 rfl (.o4 rfl (.o4 rfl (.o4 rfl (.one rfl (.nil _)))))) (Kj721 () false h)
    ·refine W.exit <| QX.then_ <| QX.then_ <| QX.here <| QN.then_ <| W.seq ?_
     refine W.jn1 (Γ := Unit) (fun (_ : Unit) (x80 : Bool) => [(2, iA a2), (3, bA a3), (4, iA a4), (5, iA a5), (6, iA a6), (7, PtrA [SlcA kNodeType a0.fNodes, SlcA kEdgeType a0.fEdges]), (8, PtrA [SlcA kInt a1.fGraph.fNodes, SlcA kEdge a1.fGraph.fEdges, SlcA (kSl kInt) a1.fValues]), (15, HdA g0), (23, SlcA kInt a1.fGraph.fNodes), (24, iA (a1.fGraph.fNodes.length : Int)), (25, iA x25), (16, iA x25), (18, iA x18), (80, bA x80)]) (fun (_ : Unit) (_ : Bool) => [SlE 44 g0 kExcess x15]) h (fun _ x80 h => ?_) (fun j736 Kj736 h => ?_)
     ·refine QN.then_ ?_
      refine W.condP h rfl (fun hb740 h => ?_) (fun hb740 h => ?_)
      ·refine W.region <| mv rfl rfl <| mv rfl rfl <| mv rfl rfl <| mv rfl rfl <| mv rfl rfl <| WL.p rfl rfl rfl (.s 82 rfl (.s 83 rfl (.s 84 rfl (.s 85 rfl .nil)))) (q_build (is := [0, 1, 2, 3]) (xs := [.tmp 82, .tmp 83, .tmp 84, .tmp 85]) (L := [iA a2, iA x25, iA x18, bA a3]) rfl rfl z44 pl44 rfl rfl (.cons (CellsOf.one rfl) (.cons (CellsOf.one rfl) (.cons (CellsOf.one rfl) (.cons (CellsOf.one rfl) .nil)))) rfl) <| p1 rfl 86 rfl (q_lit (kd := kExcess) (ps := [(0, .tmp 86)]) (xs := [.tmp 86]) («as» := [AggA [iA a2, iA x25, iA x18, bA a3]]) (ys := [(Excess.mk a2 x25 x18 a3)]) rfl rfl el39 rfl gr44 rfl rfl rfl (.cons (CellsOf.agg _) .nil)) ?_
       obtain ⟨c741, h⟩ := ite_n h
       refine WL.w [0] rfl (Wanted.plain rfl) rfl rfl (.s 81 rfl (.s 87 rfl .nil)) (w_append (kd := kExcess) rfl el39 rfl gr44 c741) ?_
       rintro _ _ ⟨v742, rfl, rfl⟩
       refine av rfl rfl <| WL.nil <| QN.block ?_
       exact QN.weaken (.o4 rfl (.o4 rfl (.o2 rfl (.one rfl (.nil _))))) (Kj641 v742 (x15 ++ [(Excess.mk a2 x25 x18 a3)]) h)
      ·refine W.skip <| QN.block ?_
       exact QN.weaken (.o4 rfl (.o4 rfl (.o2 rfl (.one rfl (.nil _))))) (Kj641 g0 x15 h)
     ·refine W.region <| mv rfl rfl <| mv rfl rfl <| p2 rfl 69 rfl 70 rfl (q_int rfl rfl) <| mv rfl rfl ?_
      rcases bif_s h with ⟨hb743, h⟩ | ⟨hb743, h⟩
      ·refine sk rfl rfl rfl hb743 <| sk rfl rfl rfl hb743 <| sk rfl rfl rfl hb743 <| su rfl rfl rfl <| su rfl rfl rfl <| su rfl rfl rfl <| sk rfl rfl rfl hb743 <| pk rfl 72 rfl (q_pickT rfl hb743) <| WL.nil ?_
       exact QN.weaken (.o4 rfl (.o4 rfl (.o4 rfl (.o2 rfl (.nil _))))) (Kj736 () true h)
      ·refine wm rfl rfl rfl hb743 rfl rfl <| wq rfl rfl rfl hb743 (.s 73 rfl (.k .nil)) (q_int rfl rfl).o <| wm rfl rfl rfl hb743 rfl rfl ?_
       rcases bif_s h with ⟨hb744, h⟩ | ⟨hb744, h⟩
       ·refine wm rfl rfl rfl hb744 rfl rfl <| wm rfl rfl rfl hb744 rfl rfl <| wq rfl rfl rfl hb744 (.s 76 rfl (.s 77 rfl .nil)) (q_int rfl rfl).o <| wq rfl rfl rfl hb743 (.s 75 rfl (.s 78 rfl .nil)) (q_pickT rfl hb744).o <| p2 rfl 72 rfl 79 rfl (q_pickF rfl hb743) <| WL.nil ?_
        exact QN.weaken (.o4 rfl (.o4 rfl (.o4 rfl (.o2 rfl (.nil _))))) (Kj736 () (decide (x18 > a6)) h)
       ·refine sk rfl rfl rfl hb744 <| sk rfl rfl rfl hb744 <| sk rfl rfl rfl hb744 <| wq rfl rfl rfl hb743 (.s 75 rfl (.k .nil)) (q_pickF rfl hb744).o <| p2 rfl 72 rfl 79 rfl (q_pickF rfl hb743) <| WL.nil ?_
        exact QN.weaken (.o4 rfl (.o4 rfl (.o4 rfl (.o2 rfl (.nil _))))) (Kj736 () false h)
 ·refine W.exit <| QX.then_ <| QX.then_ <| QX.here <| QN.weaken (env' := [(15, _)]) (.one rfl (.nil _)) <| QN.then_ <| sr <| mv rfl rfl <| av rfl rfl <| nt <| W.ret ?_
  cases h
  exact QR.f1 rfl rfl (.t rfl) (.slc 0 rfl)
theorem host_Excesses.con (k : Nat) (a0 : Types) (a1 : Host) (r : ((List Excess) × Int)) (h : host_Excesses k a0 a1 = some r) : Con Tryz.prog 16 [] [AggA [SlcA kNodeType a0.fNodes, SlcA kEdgeType a0.fEdges], AggA [SlcA kInt a1.fGraph.fNodes, SlcA kEdge a1.fGraph.fEdges, SlcA (kSl kInt) a1.fValues]] (RA (TupA [SlcA kExcess r.1, iA r.2])) := by
 unfold host_Excesses at h
 refine Con.of (N := 50) Tryz.func16 rfl rfl rfl fun w0_ fg_ => sr <| p1 rfl 0 rfl (q_box rfl (CellsOf.agg _)) <| p1 rfl 1 rfl (q_box rfl (CellsOf.agg _)) <| ak rfl <| ak rfl <| nt <| W.seq <| sr <| lS rfl rfl sh25 rfl rfl ?_
 refine lS rfl rfl sh32 rfl rfl ?_
 obtain ⟨t100, ht100, h⟩ := bind_s h
 refine p2 rfl 10 rfl 11 rfl (q_call (f := 54) (A := iA t100) (xs := [.tmp 10, .tmp 11]) («as» := [AggA [SlcA kNodeType a0.fNodes, SlcA kEdgeType a0.fEdges], AggA [SlcA kInt a1.fGraph.fNodes, SlcA kEdge a1.fGraph.fEdges, SlcA (kSl kInt) a1.fValues]]) rfl ca54 (host_valid.con k a0 a1 t100 ht100) rfl) <| av rfl rfl <| WL.nil <| QN.weaken (env' := [(6, _), (3, _), (2, _)]) (.o2 rfl (.one rfl (.nil _))) <| QN.then_ <| sr <| mv rfl rfl <| pk rfl 13 rfl (q_int rfl rfl) <| nt ?_
 refine W.condP h rfl (fun hb101 h => ?_) (fun hb101 h => ?_)
 ·refine sr <| mv rfl rfl <| ak rfl <| av rfl rfl <| nt <| W.ret <| QR.then_ ?_
  cases h
  exact QR.f2 rfl rfl (.t rfl) (.t rfl) (.imp (Imp.tup (.cons (Imp.nil kExcess) (.cons (Imp.id _) .nil))))
 ·refine W.skip <| QN.then_ <| sr <| ak rfl <| nt <| W.seq <| sr <| fd rfl rfl fo25_1 rfl <| ld rfl rfl sh23 <| p1 rfl 17 rfl (q_len rfl elS23) ?_
  refine mk_ rfl <| nt <| W.block <| W.to (StTo.newNil 44 kExcess) <| W.to (StTo.as 7 rfl Imp.nilHd) ?_
  refine W.loop2 (Γ := Value) (fun (g0 : Value) (_ : (List Excess)) (x19 : Int) => [(2, PtrA [SlcA kNodeType a0.fNodes, SlcA kEdgeType a0.fEdges]), (3, PtrA [SlcA kInt a1.fGraph.fNodes, SlcA kEdge a1.fGraph.fEdges, SlcA (kSl kInt) a1.fValues]), (7, HdA g0), (17, SlcA kEdgeType a0.fEdges), (18, iA (a0.fEdges.length : Int)), (19, iA x19)]) (fun (g0 : Value) (x7 : (List Excess)) (_ : Int) => [SlE 44 g0 kExcess x7]) h (.slice none 0 0) (.o4 rfl (.o2 rfl (.nil _))) rfl (fun rec0 K0 next0 g0 x7 x19 h => ?_)
  unfold host_Excesses.b0 at h
  refine sr <| p2 rfl 19 rfl 18 rfl (q_int rfl rfl) <| nt <| W.seq ?_
  refine W.condP h rfl (fun hb129 h => ?_) (fun hb129 h => ?_)
  ·refine W.skip <| QN.then_ <| W.seq <| W.block <| sr <| mv rfl rfl ?_
   obtain ⟨c130, h⟩ := ite_n h
   refine p2 rfl 17 rfl 19 rfl (q_index rfl el23 rfl c130.1 c130.2) <| lS rfl rfl sh60 rfl rfl <| WL.w [] rfl (Wanted.plain rfl) rfl rfl .nil (w_alloc rfl z60 (l := [EqA (strV ([] : Str)), iA 0, iA 0, iA 0, iA 0, iA 0, iA 0]) rfl) ?_
   rintro _ _ ⟨b131, rfl, rfl⟩
   refine av rfl rfl <| WL.w0 [0] rfl (Wanted.plain rfl) rfl (.s 9 rfl (.s 23 rfl .nil)) (w_store (L := [EqA (strV ((rd a0.fEdges x19).fName)), iA ((rd a0.fEdges x19).fFrom), iA ((rd a0.fEdges x19).fTo), iA ((rd a0.fEdges x19).fOutLow), iA ((rd a0.fEdges x19).fOutHigh), iA ((rd a0.fEdges x19).fInLow), iA ((rd a0.fEdges x19).fInHigh)]) rfl sh60 (CellsOf.agg _) rfl rfl (leB rfl) rfl) ?_
   rintro _ _ ⟨rfl, rfl⟩
   refine WL.nil <| QN.to (StTo.still [0] 9 rfl rfl) <| QN.then_ <| sr <| mv rfl rfl <| lS rfl rfl sh25 rfl rfl <| lS rfl rfl sh32 rfl rfl <| mv rfl rfl <| fd rfl rfl fo60_1 rfl <| ld rfl rfl sh3 <| fd rfl rfl fo60_3 rfl <| ld rfl rfl sh3 ?_
   refine fd rfl rfl fo60_4 rfl <| ld rfl rfl sh3 ?_
   obtain ⟨t132, ht132, h⟩ := bind_s h
   refine WL.p rfl rfl rfl (.s 25 rfl (.s 26 rfl (.s 27 rfl (.k (.s 29 rfl (.s 31 rfl (.s 33 rfl .nil))))))) (q_call (f := 55) (A := SlcA kExcess t132) (xs := [.tmp 25, .tmp 26, .tmp 27, .const (.bool true), .tmp 29, .tmp 31, .tmp 33]) («as» := [AggA [SlcA kNodeType a0.fNodes, SlcA kEdgeType a0.fEdges], AggA [SlcA kInt a1.fGraph.fNodes, SlcA kEdge a1.fGraph.fEdges, SlcA (kSl kInt) a1.fValues], iA x19, bA true, iA ((rd a0.fEdges x19).fFrom), iA ((rd a0.fEdges x19).fOutLow), iA ((rd a0.fEdges x19).fOutHigh)]) rfl ca55 (host_excesses.con k a0 a1 x19 true ((rd a0.fEdges x19).fFrom) ((rd a0.fEdges x19).fOutLow) ((rd a0.fEdges x19).fOutHigh) t132 ht132) rfl) ?_
   obtain ⟨c133, h⟩ := ite_n h
   refine WL.w [0] rfl (Wanted.plain rfl) rfl rfl (.s 24 rfl (.s 34 rfl .nil)) (w_append (kd := kExcess) rfl el39 rfl gr44 c133) ?_
   rintro _ _ ⟨v134, rfl, rfl⟩
   refine av rfl rfl <| WL.nil <| QN.weaken (env' := [(7, _), (8, _), (9, _), (19, _), (18, _), (17, _), (3, _), (2, _)]) (.o4 rfl (.o4 rfl (.nil _))) <| QN.then_ <| W.region <| mv rfl rfl <| lS rfl rfl sh25 rfl rfl <| lS rfl rfl sh32 rfl rfl <| mv rfl rfl <| fd rfl rfl fo60_2 rfl <| ld rfl rfl sh3 <| fd rfl rfl fo60_5 rfl <| ld rfl rfl sh3 ?_
   refine fd rfl rfl fo60_6 rfl <| ld rfl rfl sh3 ?_
   obtain ⟨t135, ht135, h⟩ := bind_s h
   refine WL.p rfl rfl rfl (.s 37 rfl (.s 38 rfl (.s 39 rfl (.k (.s 41 rfl (.s 43 rfl (.s 45 rfl .nil))))))) (q_call (f := 55) (A := SlcA kExcess t135) (xs := [.tmp 37, .tmp 38, .tmp 39, .const (.bool false), .tmp 41, .tmp 43, .tmp 45]) («as» := [AggA [SlcA kNodeType a0.fNodes, SlcA kEdgeType a0.fEdges], AggA [SlcA kInt a1.fGraph.fNodes, SlcA kEdge a1.fGraph.fEdges, SlcA (kSl kInt) a1.fValues], iA x19, bA false, iA ((rd a0.fEdges x19).fTo), iA ((rd a0.fEdges x19).fInLow), iA ((rd a0.fEdges x19).fInHigh)]) rfl ca55 (host_excesses.con k a0 a1 x19 false ((rd a0.fEdges x19).fTo) ((rd a0.fEdges x19).fInLow) ((rd a0.fEdges x19).fInHigh) t135 ht135) rfl) ?_
   obtain ⟨c136, h⟩ := ite_n h
   refine WL.w [0] rfl (Wanted.plain rfl) rfl rfl (.s 36 rfl (.s 46 rfl .nil)) (w_append (kd := kExcess) rfl el39 rfl gr44 c136) ?_
   rintro _ _ ⟨v137, rfl, rfl⟩
   refine av rfl rfl <| WL.nil <| QN.block <| QN.weaken (env' := [(7, _), (19, _), (18, _), (17, _), (3, _), (2, _)]) (.o4 rfl (.o2 rfl (.nil _))) <| QN.then_ <| W.region ?_
   obtain ⟨c138, h⟩ := ite_n h
   refine pk rfl 19 rfl (q_addR rfl c138) <| mv rfl rfl <| WL.nil ?_
   exact next0 v137 ((x7 ++ t132) ++ t135) (x19 + 1) _ h (.o4 rfl (.o2 rfl (.nil _)))
  ·refine W.exit <| QX.then_ <| QX.then_ <| QX.here <| QN.then_ <| sr <| mv rfl rfl <| av rfl rfl <| ak rfl <| WL.nil <| QN.weaken (env' := [(5, _), (4, _)]) (.o2 rfl (.nil _)) <| QN.then_ ?_
   refine W.ret ?_
   cases h
   exact QR.f2 rfl rfl (.t rfl) (.t rfl) (.tup (.cons (.slc 0 rfl) (.cons (.id _) .nil)))
theorem cmp_isNaN_int.con (k : Nat) (a0 : Int) (r : Bool) (h : cmp_isNaN_int k a0 = some r) : Con Tryz.prog 143 [] [iA a0] (RA (bA r)) := by
 unfold cmp_isNaN_int at h
 refine Con.of (N := 6) Tryz.func143 rfl rfl rfl fun w0_ fg_ => sr <| ak rfl <| nx <| mv rfl rfl <| mv rfl rfl <| p2 rfl 3 rfl 4 rfl (q_int rfl rfl) <| av rfl rfl <| WL.nil ?_
 refine QN.then_ <| W.ret ?_
 cases h
 exact QR.f1 rfl rfl (.t rfl) (.id _)
theorem cmp_Compare_int.con (k : Nat) (a0 : Int) (a1 : Int) (r : Int) (h : cmp_Compare_int k a0 a1 = some r) : Con Tryz.prog 109 [] [iA a0, iA a1] (RA (iA r)) := by
 unfold cmp_Compare_int at h
 refine Con.of (N := 20) Tryz.func109 rfl rfl rfl fun w0_ fg_ => sr <| ak rfl <| nx <| mv rfl rfl ?_
 obtain ⟨t100, ht100, h⟩ := bind_s h
 refine p1 rfl 7 rfl (q_call (f := 143) (A := bA t100) (xs := [.tmp 7]) («as» := [iA a0]) rfl ca143 (cmp_isNaN_int.con k a0 t100 ht100) rfl) <| av rfl rfl <| nx <| mv rfl rfl ?_
 obtain ⟨t101, ht101, h⟩ := bind_s h
 refine p1 rfl 9 rfl (q_call (f := 143) (A := bA t101) (xs := [.tmp 9]) («as» := [iA a1]) rfl ca143 (cmp_isNaN_int.con k a1 t101 ht101) rfl) <| av rfl rfl <| nt <| W.seq <| sr <| mv rfl rfl <| nt ?_
 refine W.condP h rfl (fun hb102 h => ?_) (fun hb102 h => ?_)
 ·refine W.seq <| sr <| mv rfl rfl <| WL.nil <| QN.weaken (env' := [(12, _)]) (.one rfl (.nil _)) <| QN.then_ ?_
  refine W.condP h rfl (fun hb103 h => ?_) (fun hb103 h => ?_)
  ·refine sr <| ak rfl <| nt <| W.ret <| QR.then_ <| QR.then_ ?_
   cases h
   exact QR.f1 rfl rfl (.t rfl) (.id _)
  ·refine W.skip <| QN.then_ <| sr <| ak rfl <| nt <| W.ret <| QR.then_ ?_
   cases h
   exact QR.f1 rfl rfl (.t rfl) (.id _)
 ·refine W.skip <| QN.weaken (env' := [(6, _), (1, _), (0, _)]) (.o2 rfl (.one rfl (.nil _))) <| QN.then_ <| W.seq <| sr <| mv rfl rfl <| nt ?_
  refine W.condP h rfl (fun hb104 h => ?_) (fun hb104 h => ?_)
  ·refine sr <| ak rfl <| nt <| W.ret <| QR.then_ ?_
   cases h
   exact QR.f1 rfl rfl (.t rfl) (.id _)
  ·refine W.skip <| QN.then_ <| W.seq <| sr <| mv rfl rfl <| mv rfl rfl <| p2 rfl 14 rfl 15 rfl (q_int rfl rfl) <| nt ?_
   refine W.condP h rfl (fun hb105 h => ?_) (fun hb105 h => ?_)
   ·refine sr <| ak rfl <| WL.nil <| QN.weaken (env' := [(4, _)]) (.one rfl (.nil _)) <| QN.then_ <| W.ret <| QR.then_ ?_
    cases h
    exact QR.f1 rfl rfl (.t rfl) (.id _)
   ·refine W.skip <| QN.then_ <| W.seq <| sr <| mv rfl rfl <| mv rfl rfl <| p2 rfl 17 rfl 18 rfl (q_int rfl rfl) <| WL.nil <| QN.weaken (env' := [(19, _)]) (.one rfl (.nil _)) <| QN.then_ ?_
    refine W.condP h rfl (fun hb106 h => ?_) (fun hb106 h => ?_)
    ·refine sr <| ak rfl <| nt <| W.ret <| QR.then_ ?_
     cases h
     exact QR.f1 rfl rfl (.t rfl) (.id _)
    ·refine W.skip <| QN.then_ <| sr <| ak rfl <| nt <| W.ret ?_
     cases h
     exact QR.f1 rfl rfl (.t rfl) (.id _)
theorem slices_Compare_int.con (k : Nat) (a0 : (List Int)) (a1 : (List Int)) (r : Int) (h : slices_Compare_int k a0 a1 = some r) : Con Tryz.prog 103 [] [SlcA kInt a0, SlcA kInt a1] (RA (iA r)) := by
 unfold slices_Compare_int at h
 refine Con.of (N := 36) Tryz.func103 rfl rfl rfl fun w0_ fg_ => sr <| ak rfl <| nt <| W.seq <| sr <| mv rfl rfl <| p1 rfl 9 rfl (q_len rfl elS26) <| mk_ rfl <| WL.nil ?_
 refine QN.then_ <| W.block ?_
 refine W.loop1 (Γ := Unit) (fun (_ : Unit) (x11 : Int) => [(0, SlcA kInt a0), (1, SlcA kInt a1), (9, SlcA kInt a0), (10, iA (a0.length : Int)), (11, iA x11)]) (fun (_ : Unit) (_ : Int) => []) h () (.o4 rfl (.one rfl (.nil _))) rfl (fun rec0 K0 next0 _ x11 h => ?_)
 unfold slices_Compare_int.b0 at h
 refine sr <| p2 rfl 11 rfl 10 rfl (q_int rfl rfl) <| nt <| W.seq ?_
 refine W.condP h rfl (fun hb116 h => ?_) (fun hb116 h => ?_)
 ·refine W.skip <| QN.then_ <| W.seq <| W.block <| sr <| mv rfl rfl ?_
  obtain ⟨c117, h⟩ := ite_n h
  refine p2 rfl 9 rfl 11 rfl (q_index rfl el26 rfl c117.1 c117.2) <| ld rfl rfl sh3 <| av rfl rfl <| av rfl rfl <| nt <| W.seq <| sr <| mv rfl rfl <| mv rfl rfl <| p1 rfl 17 rfl (q_len rfl elS26) <| p2 rfl 16 rfl 18 rfl (q_int rfl rfl) ?_
  refine WL.nil <| QN.weaken (env' := [(19, _), (6, _), (5, _), (11, _), (10, _), (9, _), (1, _), (0, _)]) (.o4 rfl (.o4 rfl (.nil _))) <| QN.then_ ?_
  refine W.condP h rfl (fun hb118 h => ?_) (fun hb118 h => ?_)
  ·refine sr <| ak rfl <| WL.nil <| QN.weaken (env' := [(4, _)]) (.one rfl (.nil _)) <| QN.then_ <| W.ret <| QR.then_ <| QR.block <| QR.then_ <| QR.then_ <| QR.block <| QR.then_ ?_
   cases h
   exact QR.f1 rfl rfl (.t rfl) (.id _)
  ·refine W.skip <| QN.then_ <| sr <| mv rfl rfl <| mv rfl rfl ?_
   obtain ⟨c119, h⟩ := ite_n h
   refine p2 rfl 20 rfl 21 rfl (q_index rfl el26 rfl c119.1 c119.2) <| ld rfl rfl sh3 <| av rfl rfl <| nx <| mv rfl rfl <| mv rfl rfl ?_
   obtain ⟨t120, ht120, h⟩ := bind_s h
   refine p2 rfl 24 rfl 25 rfl (q_call (f := 109) (A := iA t120) (xs := [.tmp 24, .tmp 25]) («as» := [iA (rd a0 x11), iA (rd a1 x11)]) rfl ca109 (cmp_Compare_int.con k (rd a0 x11) (rd a1 x11) t120 ht120) rfl) <| av rfl rfl <| WL.nil <| QN.weaken (env' := [(8, _), (11, _), (10, _), (9, _), (1, _), (0, _)]) (.o4 rfl (.o2 rfl (.nil _))) <| QN.then_ <| sr <| mv rfl rfl <| pk rfl 27 rfl (q_int rfl rfl) <| nt ?_
   refine W.condP h rfl (fun hb121 h => ?_) (fun hb121 h => ?_)
   ·refine sr <| mv rfl rfl <| av rfl rfl <| WL.nil <| QN.weaken (env' := [(4, _)]) (.one rfl (.nil _)) <| QN.then_ <| W.ret <| QR.block <| QR.then_ <| QR.then_ <| QR.block <| QR.then_ ?_
    cases h
    exact QR.f1 rfl rfl (.t rfl) (.id _)
   ·refine W.skip <| QN.block <| QN.then_ <| W.region ?_
    obtain ⟨c122, h⟩ := ite_n h
    refine pk rfl 11 rfl (q_addR rfl c122) <| mv rfl rfl <| WL.nil ?_
    exact next0 () (x11 + 1) _ h (.o4 rfl (.one rfl (.nil _)))
 ·refine W.exit <| QX.then_ <| QX.then_ <| QX.here <| QN.then_ <| W.seq <| sr <| mv rfl rfl <| p1 rfl 31 rfl (q_len rfl elS26) <| mv rfl rfl <| p1 rfl 33 rfl (q_len rfl elS26) <| p2 rfl 32 rfl 34 rfl (q_int rfl rfl) ?_
  refine WL.nil <| QN.weaken (env' := [(35, _)]) (.one rfl (.nil _)) <| QN.then_ ?_
  refine W.condP h rfl (fun hb123 h => ?_) (fun hb123 h => ?_)
  ·refine sr <| ak rfl <| nt <| W.ret <| QR.then_ ?_
   cases h
   exact QR.f1 rfl rfl (.t rfl) (.id _)
  ·refine W.skip <| QN.then_ <| sr <| ak rfl <| nt <| W.ret ?_
   cases h
   exact QR.f1 rfl rfl (.t rfl) (.id _)
theorem slices_Clone_int.conN (k : Nat) (a0 : (List Int)) (r : (List Int)) (h : slices_Clone_int k a0 = some r) : Con Tryz.prog 59 [] [SlcA kInt a0] (RApp 3 kInt r) := by
  unfold slices_Clone_int at h
  obtain ⟨hl, h⟩ := ite_n h
  cases h
  refine Con.of (N := 8) Tryz.func59 rfl rfl rfl fun w0_ fg_ => ?_
  refine W.seq (W.region (ak rfl (WL.nil (QN.then_ ?_))))
  refine W.seq (W.seq (W.region (mv rfl rfl (p1 rfl 3 rfl (q_nilAny (kd := kInt) (xs := a0) rfl elS26) (WL.nil (QN.then_ ?_))))))
  refine W.condAny rfl (fun hp => ?_) (fun _ => ?_)
  · have hn := hp rfl
    subst hn
    refine W.seq (W.region (ak rfl (WL.nil (QN.then_ ?_))))
    refine W.ret (QR.then_ ?_)
    refine QR.to (StTo.newNil 3 kInt) ?_
    refine QR.to (StTo.as 2 rfl Imp.nilHd) ?_
    exact QR.tmp rfl rfl ⟨_, rfl, rfl⟩
  · refine W.skip (QN.then_ ?_)
    refine W.seq (W.region ?_)
    refine WL.p rfl rfl rfl .nil (q_lit0 rfl el26 gr3) ?_
    refine mv rfl rfl ?_
    refine WL.w [] rfl (Wanted.plain rfl) rfl rfl (.s 5 rfl (.s 6 rfl .nil)) (w_appendZ (kd := kInt) rfl el26 rfl gr3 hl) ?_
    rintro _ _ ⟨v, rfl, rfl⟩
    refine av rfl rfl ?_
    refine WL.nil (QN.then_ ?_)
    refine W.ret ?_
    exact QR.tmp rfl rfl ⟨_, rfl, rfl⟩
theorem slices_Clone_int.con (k : Nat) (a0 : (List Int)) (r : (List Int)) (h : slices_Clone_int k a0 = some r) : Con Tryz.prog 59 [] [SlcA kInt a0] (RA (SlcA kInt r)) := Con.free (slices_Clone_int.conN k a0 r h)

theorem host_between.con (k : Nat) (a0 : Graph) (a1 : Int) (a2 : Int) (r : (List Int)) (h : host_between k a0 a1 a2 = some r) : Con Tryz.prog 141 [] [AggA [SlcA kInt a0.fNodes, SlcA kEdge a0.fEdges], iA a1, iA a2] (RA (SlcA kInt r)) := by
 unfold host_between at h
 refine Con.of (N := 36) Tryz.func141 rfl rfl rfl fun w0_ fg_ => sr <| p1 rfl 0 rfl (q_box rfl (CellsOf.agg _)) <| ak rfl <| nx <| ak rfl <| nt <| W.seq ?_
 refine sr <| fd rfl rfl fo29_1 rfl <| ld rfl rfl sh27 <| p1 rfl 11 rfl (q_len rfl elS27) <| mk_ rfl <| nt <| W.block <| W.to (StTo.newNil 3 kInt) <| W.to (StTo.as 7 rfl Imp.nilHd) ?_
 refine W.loop2 (Γ := Value) (fun (g0 : Value) (_ : (List Int)) (x13 : Int) => [(1, iA a1), (2, iA a2), (7, HdA g0), (11, SlcA kEdge a0.fEdges), (12, iA (a0.fEdges.length : Int)), (13, iA x13)]) (fun (g0 : Value) (x7 : (List Int)) (_ : Int) => [SlE 3 g0 kInt x7]) h (.slice none 0 0) (.o4 rfl (.o2 rfl (.nil _))) rfl (fun rec0 K0 next0 g0 x7 x13 h => ?_)
 unfold host_between.b0 at h
 refine sr <| p2 rfl 13 rfl 12 rfl (q_int rfl rfl) <| nt <| W.seq ?_
 refine W.condP h rfl (fun hb141 h => ?_) (fun hb141 h => ?_)
 ·refine W.skip <| QN.then_ <| W.seq <| W.block <| sr ?_
  obtain ⟨c142, h⟩ := ite_n h
  refine p2 rfl 11 rfl 13 rfl (q_index rfl el27 rfl c142.1 c142.2) <| lS rfl rfl sh63 rfl rfl <| WL.w [] rfl (Wanted.plain rfl) rfl rfl .nil (w_alloc rfl z63 (l := [iA 0, iA 0, iA 0]) rfl) ?_
  rintro _ _ ⟨b143, rfl, rfl⟩
  refine WL.w0 [0] rfl (Wanted.plain rfl) rfl (.s 9 rfl (.s 16 rfl .nil)) (w_store (L := [iA ((rd a0.fEdges x13).fType), iA ((rd a0.fEdges x13).fFrom), iA ((rd a0.fEdges x13).fTo)]) rfl sh63 (CellsOf.agg _) rfl rfl (leB rfl) rfl) ?_
  rintro _ _ ⟨rfl, rfl⟩
  refine WL.nil <| QN.to (StTo.still [0] 9 rfl rfl) <| QN.then_ <| W.seq ?_
  refine W.jn1 (Γ := Unit) (fun (_ : Unit) (x26 : Bool) => [(1, iA a1), (2, iA a2), (7, HdA g0), (11, SlcA kEdge a0.fEdges), (12, iA (a0.fEdges.length : Int)), (13, iA x13), (9, PtrA [iA ((rd a0.fEdges x13).fType), iA ((rd a0.fEdges x13).fFrom), iA ((rd a0.fEdges x13).fTo)]), (26, bA x26)]) (fun (_ : Unit) (_ : Bool) => [SlE 3 g0 kInt x7]) h (fun _ x26 h => ?_) (fun j146 Kj146 h => ?_)
  ·refine QN.then_ ?_
   refine W.condP h rfl (fun hb150 h => ?_) (fun hb150 h => ?_)
   ·refine W.region <| mv rfl rfl <| fd rfl rfl fo63_0 rfl <| ld rfl rfl sh3 <| p1 rfl 29 rfl (q_lit (kd := kInt) (ps := [(0, .tmp 29)]) (xs := [.tmp 29]) («as» := [iA ((rd a0.fEdges x13).fType)]) (ys := [(rd a0.fEdges x13).fType]) rfl rfl el26 rfl gr3 rfl rfl rfl (.cons (CellsOf.one rfl) .nil)) ?_
    obtain ⟨c151, h⟩ := ite_n h
    refine WL.w [0] rfl (Wanted.plain rfl) rfl rfl (.s 27 rfl (.s 30 rfl .nil)) (w_append (kd := kInt) rfl el26 rfl gr3 c151) ?_
    rintro _ _ ⟨v152, rfl, rfl⟩
    refine av rfl rfl <| WL.nil <| QN.block <| QN.weaken (env' := [(7, _), (13, _), (12, _), (11, _), (2, _), (1, _)]) (.o4 rfl (.o2 rfl (.nil _))) <| QN.then_ <| W.region ?_
    obtain ⟨c153, h⟩ := ite_n h
    refine pk rfl 13 rfl (q_addR rfl c153) <| mv rfl rfl <| WL.nil ?_
    exact next0 v152 (x7 ++ [(rd a0.fEdges x13).fType]) (x13 + 1) _ h (.o4 rfl (.o2 rfl (.nil _)))
   ·refine W.skip <| QN.block <| QN.then_ <| W.region ?_
    obtain ⟨c154, h⟩ := ite_n h
    refine pk rfl 13 rfl (q_addR rfl c154) <| mv rfl rfl <| WL.nil ?_
    exact next0 g0 x7 (x13 + 1) _ h (.o4 rfl (.o2 rfl (.nil _)))
  ·refine W.region <| fd rfl rfl fo63_1 rfl <| ld rfl rfl sh3 <| mv rfl rfl <| p2 rfl 18 rfl 19 rfl (q_int rfl rfl) <| mv rfl rfl ?_
   rcases bif_s h with ⟨hb155, h⟩ | ⟨hb155, h⟩
   ·refine wf rfl rfl rfl hb155 rfl rfl fo63_2 rfl <| wl rfl rfl rfl hb155 rfl rfl sh3 <| wm rfl rfl rfl hb155 rfl rfl <| wq rfl rfl rfl hb155 (.s 23 rfl (.s 24 rfl .nil)) (q_int rfl rfl).o <| p2 rfl 21 rfl 25 rfl (q_pickT rfl hb155) <| WL.nil ?_
    exact QN.weaken (.o4 rfl (.o4 rfl (.nil _))) (Kj146 () ((rd a0.fEdges x13).fTo == a2) h)
   ·refine sk rfl rfl rfl hb155 <| sk rfl rfl rfl hb155 <| sk rfl rfl rfl hb155 <| sk rfl rfl rfl hb155 <| pk rfl 21 rfl (q_pickF rfl hb155) <| WL.nil ?_
    exact QN.weaken (.o4 rfl (.o4 rfl (.nil _))) (Kj146 () false h)
 ·refine W.exit <| QX.then_ <| QX.then_ <| QX.here <| QN.then_ <| sr <| mv rfl rfl ?_
  obtain ⟨t156, ht156, h⟩ := bind_s h
  refine WL.w [0] rfl (Wanted.plain rfl) rfl rfl (.s 33 rfl .nil) (w_callI (f := 158) (xs := [.tmp 33]) («as» := [HdA g0]) rfl ca158 (slices_Sort_int.con k g0 x7 t156 ht156) rfl (.cons (Imp.id _) .nil)) ?_
  rintro _ _ ⟨rfl, rfl⟩
  refine WL.nil <| QN.weaken (env' := [(7, _)]) (.one rfl (.nil _)) <| QN.then_ <| sr <| mv rfl rfl <| av rfl rfl <| nt <| W.ret ?_
  cases h
  exact QR.f1 rfl rfl (.t rfl) (.slc 0 rfl)
end Go.Proofs.YthmdmchmmgmblaaGreat
