/- The Go functions compute the pure ones. (Printed by gen.py.) -/
import Derived.Test.YthmdmchmmgmblaaGreatCaC7
namespace Go.Proofs.YthmdmchmmgmblaaGreat
open Go Go.Abs
attribute [local irreducible] Tryz.prog
theorem slices_Index_Excess.con (k : Nat) (a0 : (List Excess)) (a1 : Excess) (r : Int) (h : slices_Index_Excess k a0 a1 = some r) : Con Tryz.prog 69 [] [SlcA kExcess a0, AggA [iA a1.fEdge, iA a1.fNode, iA a1.fCount, bA a1.fOut]] (RA (iA r)) := by
 unfold slices_Index_Excess at h
 refine Con.of (N := 19) Tryz.func69 rfl rfl rfl fun w0_ fg_ => sr <| p1 rfl 1 rfl (q_box rfl (CellsOf.agg _)) <| ak rfl <| nt <| W.seq <| sr <| mv rfl rfl <| p1 rfl 6 rfl (q_len rfl elS39) <| mk_ rfl ?_
 refine nt <| W.block ?_
 refine W.loop1 (Γ := Unit) (fun (_ : Unit) (x8 : Int) => [(0, SlcA kExcess a0), (3, PtrA [iA a1.fEdge, iA a1.fNode, iA a1.fCount, bA a1.fOut]), (7, iA (a0.length : Int)), (8, iA x8)]) (fun (_ : Unit) (_ : Int) => []) h () (.o4 rfl (.nil _)) rfl (fun rec0 K0 next0 _ x8 h => ?_)
 unfold slices_Index_Excess.b0 at h
 refine sr <| p2 rfl 8 rfl 7 rfl (q_int rfl rfl) <| nt <| W.seq ?_
 refine W.condP h rfl (fun hb112 h => ?_) (fun hb112 h => ?_)
 ·refine W.skip <| QN.then_ <| W.seq <| W.block <| sr <| mv rfl rfl <| av rfl rfl <| nt <| W.seq <| W.drawK [(0, false), (1, false), (2, false), (3, false), (4, false), (5, false)] [] (bm [0, 0, 0, 6, 14, 31]) mx (by kernel_rfl) <| DK.cons rfl rfl (.p rfl (.s 3 rfl .nil) rfl (q_loadS rfl sh44 (leB rfl) rfl)) ?_
  refine dm rfl rfl rfl <| dm rfl rfl rfl ?_
  obtain ⟨c115, h⟩ := ite_n h
  refine DK.cons rfl rfl (.p rfl (.s 12 rfl (.s 13 rfl .nil)) rfl (q_index rfl el39 rfl c115.1 c115.2)) <| DK.cons rfl rfl (.p rfl (.s 14 rfl .nil) rfl (q_loadS rfl sh44 (leB rfl) rfl)) <| DK.cons rfl rfl (.p rfl (.s 11 rfl (.s 15 rfl .nil)) rfl (q_eqF (ms := [Lf.i a1.fEdge, Lf.i a1.fNode, Lf.i a1.fCount, Lf.b a1.fOut]) (ns := [Lf.i ((rd a0 x8).fEdge), Lf.i ((rd a0 x8).fNode), Lf.i ((rd a0 x8).fCount), Lf.b ((rd a0 x8).fOut)]) rfl fst44)) <| DK.nil <| CSteps.nil <| QN.weaken (env' := [(16, _), (5, _), (8, _), (7, _), (3, _), (0, _)]) (.o4 rfl (.o2 rfl (.nil _))) <| QN.then_ ?_
  refine W.condP h rfl (fun hb116 h => ?_) (fun hb116 h => ?_)
  ·refine sr <| mv rfl rfl <| av rfl rfl <| WL.nil <| QN.weaken (env' := [(4, _)]) (.one rfl (.nil _)) <| QN.then_ <| W.ret <| QR.block <| QR.then_ <| QR.then_ <| QR.block <| QR.then_ ?_
   cases h
   exact QR.f1 rfl rfl (.t rfl) (.id _)
  ·refine W.skip <| QN.block <| QN.then_ <| W.region ?_
   obtain ⟨c117, h⟩ := ite_n h
   refine pk rfl 8 rfl (q_addR rfl c117) <| mv rfl rfl <| WL.nil ?_
   exact next0 () (x8 + 1) _ h (.o4 rfl (.nil _))
 ·refine W.exit <| QX.then_ <| QX.then_ <| QX.here <| QN.then_ <| sr <| ak rfl <| nt <| W.ret ?_
  cases h
  exact QR.f1 rfl rfl (.t rfl) (.id _)
theorem slices_Contains_Excess.con (k : Nat) (a0 : (List Excess)) (a1 : Excess) (r : Bool) (h : slices_Contains_Excess k a0 a1 = some r) : Con Tryz.prog 26 [] [SlcA kExcess a0, AggA [iA a1.fEdge, iA a1.fNode, iA a1.fCount, bA a1.fOut]] (RA (bA r)) := by
 unfold slices_Contains_Excess at h
 refine Con.of (N := 9) Tryz.func26 rfl rfl rfl fun w0_ fg_ => sr <| p1 rfl 1 rfl (q_box rfl (CellsOf.agg _)) <| ak rfl <| nx <| mv rfl rfl <| lS rfl rfl sh44 rfl rfl ?_
 obtain ⟨t100, ht100, h⟩ := bind_s h
 refine p2 rfl 5 rfl 6 rfl (q_call (f := 69) (A := iA t100) (xs := [.tmp 5, .tmp 6]) («as» := [SlcA kExcess a0, AggA [iA a1.fEdge, iA a1.fNode, iA a1.fCount, bA a1.fOut]]) rfl ca69 (slices_Index_Excess.con k a0 a1 t100 ht100) rfl) <| pk rfl 7 rfl (q_int rfl rfl) <| av rfl rfl <| WL.nil <| QN.weaken (env' := [(4, _)]) (.one rfl (.nil _)) <| QN.then_ <| W.ret ?_
 cases h
 exact QR.f1 rfl rfl (.t rfl) (.id _)
theorem ref05_kind.con (k : Nat) (a0 : Int) (r : Bool) (h : ref05_kind k a0 = some r) : Con Tryz.prog 98 [] [iA a0] (RA (bA r)) := by
 unfold ref05_kind at h
 refine Con.of (N := 9) Tryz.func98 rfl rfl rfl fun w0_ fg_ => sr <| ak rfl <| nt <| W.seq ?_
 refine W.jn1 (Γ := Unit) (fun (_ : Unit) (x2 : Bool) => [(2, bA x2)]) (fun (_ : Unit) (_ : Bool) => []) h (fun _ x2 h => ?_) (fun j102 Kj102 h => ?_)
 ·refine QN.then_ <| W.ret ?_
  cases h
  exact QR.f1 rfl rfl (.t rfl) (.id _)
 ·refine W.region <| mv rfl rfl <| pk rfl 3 rfl (q_int rfl rfl) <| mv rfl rfl ?_
  rcases bif_s h with ⟨hb103, h⟩ | ⟨hb103, h⟩
  ·refine wm rfl rfl rfl hb103 rfl rfl <| wq rfl rfl rfl hb103 (.s 6 rfl (.k .nil)) (q_int rfl rfl).o <| p2 rfl 5 rfl 7 rfl (q_pickT rfl hb103) <| av rfl rfl <| WL.nil ?_
   exact QN.weaken (.one rfl (.nil _)) (Kj102 () (decide (a0 ≤ 99)) h)
  ·refine sk rfl rfl rfl hb103 <| sk rfl rfl rfl hb103 <| pk rfl 5 rfl (q_pickF rfl hb103) <| av rfl rfl <| WL.nil ?_
   exact QN.weaken (.one rfl (.nil _)) (Kj102 () false h)
theorem ref05_right.con (k : Nat) (a0 : Edge) (a1 : Int) (r : Bool) (h : ref05_right k a0 a1 = some r) : Con Tryz.prog 99 [] [AggA [iA a0.fType, iA a0.fFrom, iA a0.fTo], iA a1] (RA (bA r)) := by
 unfold ref05_right at h
 refine Con.of (N := 30) Tryz.func99 rfl rfl rfl fun w0_ fg_ => sr <| p1 rfl 0 rfl (q_box rfl (CellsOf.agg _)) <| ak rfl <| nt <| W.seq ?_
 refine W.jn1 (Γ := Unit) (fun (_ : Unit) (x4 : Bool) => [(4, bA x4)]) (fun (_ : Unit) (_ : Bool) => []) h (fun _ x4 h => ?_) (fun j106 Kj106 h => ?_)
 ·refine QN.then_ <| W.ret ?_
  cases h
  exact QR.f1 rfl rfl (.t rfl) (.id _)
 ·refine W.region <| fd rfl rfl fo63_0 rfl <| ld rfl rfl sh3 ?_
  obtain ⟨t107, ht107, h⟩ := bind_s h
  refine p1 rfl 6 rfl (q_call (f := 98) (A := bA t107) (xs := [.tmp 6]) («as» := [iA a0.fType]) rfl ca98 (ref05_kind.con k a0.fType t107 ht107) rfl) <| mv rfl rfl ?_
  rcases bif_s h with ⟨hb108, h⟩ | ⟨hb108, h⟩
  ·refine wf rfl rfl rfl hb108 rfl rfl fo63_1 rfl <| wl rfl rfl rfl hb108 rfl rfl sh3 <| wq rfl rfl rfl hb108 (.s 10 rfl (.k .nil)) (q_int rfl rfl).o <| p2 rfl 8 rfl 11 rfl (q_pickT rfl hb108) <| mv rfl rfl ?_
   rcases bif_s h with ⟨hb109, h⟩ | ⟨hb109, h⟩
   ·refine wf rfl rfl rfl hb109 rfl rfl fo63_1 rfl <| wl rfl rfl rfl hb109 rfl rfl sh3 <| wm rfl rfl rfl hb109 rfl rfl <| wq rfl rfl rfl hb109 (.s 15 rfl (.s 16 rfl .nil)) (q_int rfl rfl).o <| p2 rfl 13 rfl 17 rfl (q_pickT rfl hb109) <| mv rfl rfl ?_
    rcases bif_s h with ⟨hb110, h⟩ | ⟨hb110, h⟩
    ·refine wf rfl rfl rfl hb110 rfl rfl fo63_2 rfl <| wl rfl rfl rfl hb110 rfl rfl sh3 <| wq rfl rfl rfl hb110 (.s 21 rfl (.k .nil)) (q_int rfl rfl).o <| p2 rfl 19 rfl 22 rfl (q_pickT rfl hb110) <| mv rfl rfl ?_
     rcases bif_s h with ⟨hb111, h⟩ | ⟨hb111, h⟩
     ·refine wf rfl rfl rfl hb111 rfl rfl fo63_2 rfl <| wl rfl rfl rfl hb111 rfl rfl sh3 <| wm rfl rfl rfl hb111 rfl rfl <| wq rfl rfl rfl hb111 (.s 26 rfl (.s 27 rfl .nil)) (q_int rfl rfl).o <| p2 rfl 24 rfl 28 rfl (q_pickT rfl hb111) <| av rfl rfl <| WL.nil ?_
      exact QN.weaken (.one rfl (.nil _)) (Kj106 () (decide (a0.fTo < a1)) h)
     ·refine sk rfl rfl rfl hb111 <| sk rfl rfl rfl hb111 <| sk rfl rfl rfl hb111 <| sk rfl rfl rfl hb111 <| pk rfl 24 rfl (q_pickF rfl hb111) <| av rfl rfl <| WL.nil ?_
      exact QN.weaken (.one rfl (.nil _)) (Kj106 () false h)
    ·refine sk rfl rfl rfl hb110 <| sk rfl rfl rfl hb110 <| sk rfl rfl rfl hb110 <| pk rfl 19 rfl (q_pickF rfl hb110) <| mv rfl rfl <| sk rfl rfl rfl rfl <| sk rfl rfl rfl rfl <| sk rfl rfl rfl rfl <| sk rfl rfl rfl rfl <| pk rfl 24 rfl (q_pickF rfl rfl) <| av rfl rfl <| WL.nil ?_
     exact QN.weaken (.one rfl (.nil _)) (Kj106 () false h)
   ·refine sk rfl rfl rfl hb109 <| sk rfl rfl rfl hb109 <| sk rfl rfl rfl hb109 <| sk rfl rfl rfl hb109 <| pk rfl 13 rfl (q_pickF rfl hb109) <| mv rfl rfl <| sk rfl rfl rfl rfl <| sk rfl rfl rfl rfl <| sk rfl rfl rfl rfl <| pk rfl 19 rfl (q_pickF rfl rfl) <| mv rfl rfl <| sk rfl rfl rfl rfl <| sk rfl rfl rfl rfl ?_
    refine sk rfl rfl rfl rfl <| sk rfl rfl rfl rfl <| pk rfl 24 rfl (q_pickF rfl rfl) <| av rfl rfl <| WL.nil ?_
    exact QN.weaken (.one rfl (.nil _)) (Kj106 () false h)
  ·refine sk rfl rfl rfl hb108 <| sk rfl rfl rfl hb108 <| sk rfl rfl rfl hb108 <| pk rfl 8 rfl (q_pickF rfl hb108) <| mv rfl rfl <| sk rfl rfl rfl rfl <| sk rfl rfl rfl rfl <| sk rfl rfl rfl rfl <| sk rfl rfl rfl rfl <| pk rfl 13 rfl (q_pickF rfl rfl) <| mv rfl rfl <| sk rfl rfl rfl rfl <| sk rfl rfl rfl rfl ?_
   refine sk rfl rfl rfl rfl <| pk rfl 19 rfl (q_pickF rfl rfl) <| mv rfl rfl <| sk rfl rfl rfl rfl <| sk rfl rfl rfl rfl <| sk rfl rfl rfl rfl <| sk rfl rfl rfl rfl <| pk rfl 24 rfl (q_pickF rfl rfl) <| av rfl rfl <| WL.nil ?_
   exact QN.weaken (.one rfl (.nil _)) (Kj106 () false h)
theorem ref05_Valid.con (k : Nat) (a0 : Graph) (r : Int) (h : ref05_Valid k a0 = some r) : Con Tryz.prog 51 [] [AggA [SlcA kInt a0.fNodes, SlcA kEdge a0.fEdges]] (RA (iA r)) := by
 unfold ref05_Valid at h
 refine Con.of (N := 46) Tryz.func51 rfl rfl rfl fun w0_ fg_ => sr <| p1 rfl 0 rfl (q_box rfl (CellsOf.agg _)) <| ak rfl <| nt <| W.seq <| W.seq ?_
 refine W.jn1 (Γ := Unit) (fun (_ : Unit) (x14 : Bool) => [(1, PtrA [SlcA kInt a0.fNodes, SlcA kEdge a0.fEdges]), (14, bA x14)]) (fun (_ : Unit) (_ : Bool) => []) h (fun _ x14 h => ?_) (fun j102 Kj102 h => ?_)
 ·refine QN.then_ ?_
  refine W.condP h rfl (fun hb103 h => ?_) (fun hb103 h => ?_)
  ·refine sr <| ak rfl <| nt <| W.ret <| QR.then_ ?_
   cases h
   exact QR.f1 rfl rfl (.t rfl) (.id _)
  ·refine W.skip <| QN.then_ <| W.seq <| sr <| ak rfl <| nt <| W.block ?_
   refine W.loop1 (Γ := Unit) (fun (_ : Unit) (x3 : Int) => [(1, PtrA [SlcA kInt a0.fNodes, SlcA kEdge a0.fEdges]), (3, iA x3)]) (fun (_ : Unit) (_ : Int) => []) h () (.o2 rfl (.nil _)) rfl (fun rec0 K0 next0 _ x3 h => ?_)
   unfold ref05_Valid.b0 at h
   refine W.seq <| sr <| mv rfl rfl <| fd rfl rfl fo29_0 rfl <| ld rfl rfl sh26 <| p1 rfl 17 rfl (q_len rfl elS26) <| p2 rfl 15 rfl 18 rfl (q_int rfl rfl) <| nt ?_
   refine W.condP h rfl (fun hb168 h => ?_) (fun hb168 h => ?_)
   ·refine W.skip <| QN.then_ <| W.seq <| W.block <| sr <| fd rfl rfl fo29_0 rfl <| ld rfl rfl sh26 <| mv rfl rfl ?_
    obtain ⟨c169, h⟩ := ite_n h
    refine p2 rfl 23 rfl 24 rfl (q_index rfl el26 rfl c169.1 c169.2) <| ld rfl rfl sh3 ?_
    obtain ⟨t170, ht170, h⟩ := bind_s h
    refine p1 rfl 26 rfl (q_call (f := 98) (A := bA t170) (xs := [.tmp 26]) («as» := [iA (rd a0.fNodes x3)]) rfl ca98 (ref05_kind.con k (rd a0.fNodes x3) t170 ht170) rfl) <| p1 rfl 27 rfl (q_not rfl) <| WL.nil <| QN.weaken (env' := [(28, _), (3, _), (1, _)]) (.o2 rfl (.one rfl (.nil _))) <| QN.then_ ?_
    refine W.condP h rfl (fun hb171 h => ?_) (fun hb171 h => ?_)
    ·refine sr <| ak rfl <| nt <| W.ret <| QR.block <| QR.then_ <| QR.then_ <| QR.block <| QR.then_ ?_
     cases h
     exact QR.f1 rfl rfl (.t rfl) (.id _)
    ·refine W.skip <| QN.block <| QN.then_ <| W.region <| mv rfl rfl ?_
     obtain ⟨c172, h⟩ := ite_n h
     refine pk rfl 20 rfl (q_addR rfl c172) <| av rfl rfl <| WL.nil ?_
     exact next0 () (x3 + 1) _ h (.o2 rfl (.nil _))
   ·refine W.exit <| QX.then_ <| QX.then_ <| QX.here <| QN.then_ <| W.seq <| sr <| ak rfl <| nt <| W.block ?_
    refine W.loop1 (Γ := Unit) (fun (_ : Unit) (x4 : Int) => [(1, PtrA [SlcA kInt a0.fNodes, SlcA kEdge a0.fEdges]), (4, iA x4)]) (fun (_ : Unit) (_ : Int) => []) h () (.o2 rfl (.nil _)) rfl (fun rec1 K1 next1 _ x4 h => ?_)
    unfold ref05_Valid.b1 at h
    refine W.seq <| sr <| mv rfl rfl <| fd rfl rfl fo29_1 rfl <| ld rfl rfl sh27 <| p1 rfl 31 rfl (q_len rfl elS27) <| p2 rfl 29 rfl 32 rfl (q_int rfl rfl) <| nt ?_
    refine W.condP h rfl (fun hb191 h => ?_) (fun hb191 h => ?_)
    ·refine W.skip <| QN.then_ <| W.seq <| W.block <| W.seq <| W.drawK [(0, false), (1, false), (2, false), (3, false), (4, false), (5, false), (6, false), (7, false), (8, false), (9, false)] [] (bm [0, 1, 0, 7, 15, 0, 32, 96, 255, 511]) mx (by kernel_rfl) <| df rfl rfl rfl fo29_1 rfl <| dl rfl rfl rfl sh27 <| dm rfl rfl rfl ?_
     obtain ⟨c196, h⟩ := ite_n h
     refine DK.cons rfl rfl (.p rfl (.s 37 rfl (.s 38 rfl .nil)) rfl (q_index rfl el27 rfl c196.1 c196.2)) <| DK.cons rfl rfl (.p rfl (.s 39 rfl .nil) rfl (q_loadS rfl sh63 (leB rfl) rfl)) <| df rfl rfl rfl fo29_0 rfl <| dl rfl rfl rfl sh26 <| DK.cons rfl rfl (.p rfl (.s 42 rfl .nil) rfl (q_len rfl elS26)) ?_
     obtain ⟨t197, ht197, h⟩ := bind_s h
     refine DK.cons rfl rfl (.p rfl (.s 40 rfl (.s 43 rfl .nil)) rfl (q_call (f := 99) (A := bA t197) (xs := [.tmp 40, .tmp 43]) («as» := [AggA [iA ((rd a0.fEdges x4).fType), iA ((rd a0.fEdges x4).fFrom), iA ((rd a0.fEdges x4).fTo)], iA (a0.fNodes.length : Int)]) rfl ca99 (ref05_right.con k (rd a0.fEdges x4) (a0.fNodes.length : Int) t197 ht197) rfl)) <| DK.cons rfl rfl (.p rfl (.s 44 rfl .nil) rfl (q_not rfl)) <| DK.nil <| CSteps.nil <| QN.weaken (env' := [(45, _), (4, _), (1, _)]) (.o2 rfl (.one rfl (.nil _))) <| QN.then_ ?_
     refine W.condP h rfl (fun hb198 h => ?_) (fun hb198 h => ?_)
     ·refine sr <| ak rfl <| nt <| W.ret <| QR.block <| QR.then_ <| QR.then_ <| QR.block <| QR.then_ ?_
      cases h
      exact QR.f1 rfl rfl (.t rfl) (.id _)
     ·refine W.skip <| QN.block <| QN.then_ <| W.region <| mv rfl rfl ?_
      obtain ⟨c199, h⟩ := ite_n h
      refine pk rfl 34 rfl (q_addR rfl c199) <| av rfl rfl <| WL.nil ?_
      exact next1 () (x4 + 1) _ h (.o2 rfl (.nil _))
    ·refine W.exit <| QX.then_ <| QX.then_ <| QX.here <| QN.weaken (env' := []) (.nil _) <| QN.then_ <| sr <| ak rfl <| nt <| W.ret ?_
     cases h
     exact QR.f1 rfl rfl (.t rfl) (.id _)
 ·refine W.region <| fd rfl rfl fo29_0 rfl <| ld rfl rfl sh26 <| p1 rfl 6 rfl (q_len rfl elS26) <| pk rfl 7 rfl (q_int rfl rfl) <| mv rfl rfl ?_
  rcases bif_s h with ⟨hb200, h⟩ | ⟨hb200, h⟩
  ·refine sk rfl rfl rfl hb200 <| sk rfl rfl rfl hb200 <| sk rfl rfl rfl hb200 <| sk rfl rfl rfl hb200 <| pk rfl 9 rfl (q_pickT rfl hb200) <| WL.nil ?_
   exact QN.weaken (.o2 rfl (.nil _)) (Kj102 () true h)
  ·refine wf rfl rfl rfl hb200 rfl rfl fo29_1 rfl <| wl rfl rfl rfl hb200 rfl rfl sh27 <| wq rfl rfl rfl hb200 (.s 11 rfl .nil) (q_len rfl elS27).o <| wq rfl rfl rfl hb200 (.s 12 rfl (.k .nil)) (q_int rfl rfl).o <| p2 rfl 9 rfl 13 rfl (q_pickF rfl hb200) <| WL.nil ?_
   exact QN.weaken (.o2 rfl (.nil _)) (Kj102 () (decide ((a0.fEdges.length : Int) > 80)) h)
theorem ref05_Numbers.con (k : Nat) (a0 : Int) (a1 : Int) (r : (List Int)) (h : ref05_Numbers k a0 a1 = some r) : Con Tryz.prog 70 [] [iA a0, iA a1] (RApp 3 kInt r) := by
 unfold ref05_Numbers at h
 refine Con.of (N := 19) Tryz.func70 rfl rfl rfl fun w0_ fg_ => sr <| ak rfl <| nx <| ak rfl <| nt <| W.seq <| W.seq ?_
 refine W.region <| ak rfl <| nt <| W.block <| W.to (StTo.newNil 3 kInt) <| W.to (StTo.as 5 rfl Imp.nilHd) ?_
 refine W.loop2 (Γ := Value) (fun (g0 : Value) (_ : (List Int)) (x6 : Int) => [(0, iA a0), (1, iA a1), (5, HdA g0), (6, iA x6)]) (fun (g0 : Value) (x5 : (List Int)) (_ : Int) => [SlE 3 g0 kInt x5]) h (.slice none 0 0) (.o4 rfl (.nil _)) rfl (fun rec0 K0 next0 g0 x5 x6 h => ?_)
 unfold ref05_Numbers.b0 at h
 refine W.seq <| sr <| mv rfl rfl <| mv rfl rfl <| p2 rfl 7 rfl 8 rfl (q_int rfl rfl) <| nt ?_
 refine W.condP h rfl (fun hb117 h => ?_) (fun hb117 h => ?_)
 ·refine W.skip <| QN.then_ <| W.seq <| W.block <| W.region <| mv rfl rfl <| mv rfl rfl <| mv rfl rfl ?_
  obtain ⟨c118, h⟩ := ite_n h
  refine p2 rfl 13 rfl 14 rfl (q_addR rfl c118) <| p1 rfl 15 rfl (q_lit (kd := kInt) (ps := [(0, .tmp 15)]) (xs := [.tmp 15]) («as» := [iA (a0 + x6)]) (ys := [(a0 + x6)]) rfl rfl el26 rfl gr3 rfl rfl rfl (.cons (CellsOf.one rfl) .nil)) ?_
  obtain ⟨c119, h⟩ := ite_n h
  refine WL.w [0] rfl (Wanted.plain rfl) rfl rfl (.s 12 rfl (.s 16 rfl .nil)) (w_append (kd := kInt) rfl el26 rfl gr3 c119) ?_
  rintro _ _ ⟨v120, rfl, rfl⟩
  refine av rfl rfl <| WL.nil <| QN.block <| QN.weaken (env' := [(5, _), (6, _), (1, _), (0, _)]) (.o4 rfl (.nil _)) <| QN.then_ <| W.region <| mv rfl rfl ?_
  obtain ⟨c121, h⟩ := ite_n h
  refine pk rfl 10 rfl (q_addR rfl c121) <| av rfl rfl <| WL.nil ?_
  exact next0 v120 (x5 ++ [(a0 + x6)]) (x6 + 1) _ h (.o4 rfl (.nil _))
 ·refine W.exit <| QX.then_ <| QX.then_ <| QX.here <| QN.then_ <| sr <| mv rfl rfl <| av rfl rfl <| WL.nil <| QN.weaken (env' := [(4, _)]) (.one rfl (.nil _)) <| QN.then_ <| W.ret ?_
  cases h
  exact QR.r1 rfl rfl (.t rfl) ⟨_, rfl, rfl⟩
theorem ref05_Components.con (k : Nat) (a0 : Graph) (r : ((List Part) × Int)) (h : ref05_Components k a0 = some r) : Con Tryz.prog 27 [] [AggA [SlcA kInt a0.fNodes, SlcA kEdge a0.fEdges]] (RA (TupA [SlcA kPart r.1, iA r.2])) := by
 unfold ref05_Components at h
 refine Con.of (N := 129) Tryz.func27 rfl rfl rfl fun w0_ fg_ => sr <| p1 rfl 0 rfl (q_box rfl (CellsOf.agg _)) <| ak rfl <| ak rfl <| nt <| W.seq <| sr <| lS rfl rfl sh29 rfl rfl ?_
 obtain ⟨t100, ht100, h⟩ := bind_s h
 refine p1 rfl 16 rfl (q_call (f := 51) (A := iA t100) (xs := [.tmp 16]) («as» := [AggA [SlcA kInt a0.fNodes, SlcA kEdge a0.fEdges]]) rfl ca51 (ref05_Valid.con k a0 t100 ht100) rfl) <| av rfl rfl <| nx <| mv rfl rfl <| pk rfl 18 rfl (q_int rfl rfl) <| nt ?_
 refine W.condP h rfl (fun hb101 h => ?_) (fun hb101 h => ?_)
 ·refine sr <| mv rfl rfl <| ak rfl <| av rfl rfl <| WL.nil <| QN.weaken (env' := [(3, _), (2, _)]) (.o2 rfl (.nil _)) <| QN.then_ <| W.ret <| QR.then_ ?_
  cases h
  exact QR.f2 rfl rfl (.t rfl) (.t rfl) (.imp (Imp.tup (.cons (Imp.nil kPart) (.cons (Imp.id _) .nil))))
 ·refine W.skip <| QN.weaken (env' := [(1, _)]) (.one rfl (.nil _)) <| QN.then_ <| sr <| fd rfl rfl fo29_0 rfl <| ld rfl rfl sh26 <| p1 rfl 22 rfl (q_len rfl elS26) ?_
  obtain ⟨t102, ht102, h⟩ := bind_s h
  refine WL.w [] rfl (Wanted.plain rfl) rfl rfl (.k (.s 23 rfl .nil)) (w_callI (f := 70) (xs := [.const (.int .i64 0), .tmp 23]) («as» := [iA 0, iA (a0.fNodes.length : Int)]) rfl ca70 (ref05_Numbers.con k 0 (a0.fNodes.length : Int) t102 ht102) rfl (.cons (Imp.id _) (.cons (Imp.id _) .nil))) ?_
  rintro _ _ ⟨v103, rfl, rfl⟩
  refine av rfl rfl <| nt <| W.seq <| sr <| ak rfl <| nt <| W.block ?_
  refine W.loop2 (Γ := Unit) (fun (_ : Unit) (_ : (List Int)) (x6 : Int) => [(1, PtrA [SlcA kInt a0.fNodes, SlcA kEdge a0.fEdges]), (5, HdA v103), (6, iA x6)]) (fun (_ : Unit) (x5 : (List Int)) (_ : Int) => [SlE 3 v103 kInt x5]) h () (.o2 rfl (.one rfl (.nil _))) rfl (fun rec0 K0 next0 _ x5 x6 h => ?_)
  unfold ref05_Components.b0 at h
  refine W.seq <| sr <| mv rfl rfl <| fd rfl rfl fo29_0 rfl <| ld rfl rfl sh26 <| p1 rfl 27 rfl (q_len rfl elS26) <| p2 rfl 25 rfl 28 rfl (q_int rfl rfl) <| nt ?_
  refine W.condP h rfl (fun hb1231 h => ?_) (fun hb1231 h => ?_)
  ·refine W.skip <| QN.then_ <| W.seq <| W.block <| sr <| ak rfl <| nt <| W.block ?_
   refine W.loop2 (Γ := Unit) (fun (_ : Unit) (_ : (List Int)) (x7 : Int) => [(1, PtrA [SlcA kInt a0.fNodes, SlcA kEdge a0.fEdges]), (5, HdA v103), (6, iA x6), (7, iA x7)]) (fun (_ : Unit) (x5' : (List Int)) (_ : Int) => [SlE 3 v103 kInt x5']) h () (.o4 rfl (.nil _)) rfl (fun rec1 K1 next1 _ x5' x7 h => ?_)
   unfold ref05_Components.b1 at h
   refine W.seq <| sr <| mv rfl rfl <| fd rfl rfl fo29_1 rfl <| ld rfl rfl sh27 <| p1 rfl 34 rfl (q_len rfl elS27) <| p2 rfl 32 rfl 35 rfl (q_int rfl rfl) <| nt ?_
   refine W.condP h rfl (fun hb1266 h => ?_) (fun hb1266 h => ?_)
   ·refine W.skip <| QN.then_ <| W.seq <| W.block <| W.seq <| W.drawK [(0, false), (1, false), (2, false), (3, false), (4, false), (5, false), (6, false), (7, false), (8, false), (9, false), (10, false), (11, false), (12, false), (13, false)] [] (bm [0, 1, 0, 7, 15, 31, 0, 64, 0, 448, 960, 1984, 63, 8191]) mx (by kernel_rfl) <| df rfl rfl rfl fo29_1 rfl <| dl rfl rfl rfl sh27 <| dm rfl rfl rfl ?_
    obtain ⟨c1271, h⟩ := ite_n h
    refine DK.cons rfl rfl (.p rfl (.s 40 rfl (.s 41 rfl .nil)) rfl (q_index rfl el27 rfl c1271.1 c1271.2)) <| df rfl rfl rfl fo63_1 rfl <| dl rfl rfl rfl sh3 <| df rfl rfl rfl fo29_1 rfl <| dl rfl rfl rfl sh27 <| dm rfl rfl rfl ?_
    obtain ⟨c1272, h⟩ := ite_n h
    refine DK.cons rfl rfl (.p rfl (.s 46 rfl (.s 47 rfl .nil)) rfl (q_index rfl el27 rfl c1272.1 c1272.2)) <| df rfl rfl rfl fo63_2 rfl <| dl rfl rfl rfl sh3 <| DK.cons rfl rfl (.p rfl (.s 44 rfl .nil) rfl (q_assign rfl)) <| DK.cons rfl rfl (.p rfl (.s 50 rfl .nil) rfl (q_assign rfl)) <| DK.nil <| CSteps.nil <| QN.weaken (env' := [(9, _), (8, _), (7, _), (6, _), (5, _), (1, _)]) (.o4 rfl (.o2 rfl (.nil _))) <| QN.then_ <| W.seq <| W.drawK [(0, false), (1, false), (2, true), (3, true), (4, false), (5, false), (6, true), (7, true), (8, false), (9, false)] [] (bm [0, 0, 3, 7, 0, 0, 48, 112, 255, 511]) mx (by kernel_rfl) <| dm rfl rfl rfl <| dm rfl rfl rfl ?_
    obtain ⟨c1277, h⟩ := ite_n h
    refine DK.cons rfl rfl (.o rfl (.s 51 rfl (.s 52 rfl .nil)) rfl (q_indexO rfl el26 (j := 0) rfl c1277.1 c1277.2)) <| DK.cons rfl rfl (.o rfl (.s 53 rfl .nil) rfl (q_loadEl rfl sh3 (j := 0) rfl rfl c1277.1 c1277.2 rfl)) <| dm rfl rfl rfl <| dm rfl rfl rfl ?_
    obtain ⟨c1278, h⟩ := ite_n h
    refine DK.cons rfl rfl (.o rfl (.s 55 rfl (.s 56 rfl .nil)) rfl (q_indexO rfl el26 (j := 0) rfl c1278.1 c1278.2)) <| DK.cons rfl rfl (.o rfl (.s 57 rfl .nil) rfl (q_loadEl rfl sh3 (j := 0) rfl rfl c1278.1 c1278.2 rfl)) <| DK.cons rfl rfl (.p rfl (.s 54 rfl (.s 58 rfl .nil)) rfl (q_min rfl)) <| DK.cons rfl rfl (.p rfl (.s 59 rfl .nil) rfl (q_assign rfl)) <| DK.nil <| CSteps.nil <| QN.weaken (env' := [(10, _), (9, _), (8, _), (7, _), (6, _), (5, _), (1, _)]) (.o4 rfl (.o2 rfl (.one rfl (.nil _)))) <| QN.then_ <| W.region <| mv rfl rfl <| mv rfl rfl <| mv rfl rfl <| mv rfl rfl ?_
    refine mv rfl rfl <| mv rfl rfl ?_
    obtain ⟨c1279, h⟩ := ite_n h
    refine WL.q (Wanted.plain rfl) rfl rfl (.s 60 rfl (.s 61 rfl .nil)) (q_indexO rfl el26 (j := 0) rfl c1279.1 c1279.2) <| WL.w0 [0] rfl (Wanted.plain rfl) rfl (.s 66 rfl (.s 64 rfl .nil)) (w_storeEl (kd := kInt) (z := (minI (rd x5' ((rd a0.fEdges x7).fFrom)) (rd x5' ((rd a0.fEdges x7).fTo)))) rfl sh3 (CellsOf.one rfl) rfl rfl rfl c1279.1 c1279.2 rfl rfl) ?_
    rintro _ _ ⟨rfl, rfl⟩
    obtain ⟨c1280, h⟩ := ite_n h
    refine WL.q (Wanted.plain rfl) rfl rfl (.s 62 rfl (.s 63 rfl .nil)) (q_indexO rfl el26 (j := 0) rfl c1280.1 c1280.2) <| WL.w0 [0] rfl (Wanted.plain rfl) rfl (.s 67 rfl (.s 65 rfl .nil)) (w_storeEl (kd := kInt) (z := (minI (rd x5' ((rd a0.fEdges x7).fFrom)) (rd x5' ((rd a0.fEdges x7).fTo)))) rfl sh3 (CellsOf.one rfl) rfl rfl rfl c1280.1 c1280.2 rfl rfl) ?_
    rintro _ _ ⟨rfl, rfl⟩
    refine WL.nil <| QN.block <| QN.weaken (env' := [(7, _), (6, _), (5, _), (1, _)]) (.o4 rfl (.nil _)) <| QN.then_ <| W.region <| mv rfl rfl ?_
    obtain ⟨c1281, h⟩ := ite_n h
    refine pk rfl 37 rfl (q_addR rfl c1281) <| av rfl rfl <| WL.nil ?_
    exact next1 () ((x5'.set ((rd a0.fEdges x7).fFrom : Int).toNat (minI (rd x5' ((rd a0.fEdges x7).fFrom)) (rd x5' ((rd a0.fEdges x7).fTo)))).set ((rd a0.fEdges x7).fTo : Int).toNat (minI (rd x5' ((rd a0.fEdges x7).fFrom)) (rd x5' ((rd a0.fEdges x7).fTo)))) (x7 + 1) _ h (.o4 rfl (.nil _))
   ·refine W.exit <| QX.then_ <| QX.then_ <| QX.here <| QN.block <| QN.then_ <| W.region <| mv rfl rfl ?_
    obtain ⟨c1282, h⟩ := ite_n h
    refine pk rfl 30 rfl (q_addR rfl c1282) <| av rfl rfl <| WL.nil ?_
    exact next0 () x5' (x6 + 1) _ h (.o2 rfl (.one rfl (.nil _)))
  ·refine W.exit <| QX.then_ <| QX.then_ <| QX.here <| QN.then_ <| sr <| ak rfl <| nt <| W.seq <| sr ?_
   refine ak rfl <| nt <| W.block <| W.to (StTo.newNil 87 kPart) <| W.to (StTo.as 11 rfl Imp.nilHd) <| W.order [1, 0] rfl ?_
   refine W.loop2 (Γ := Value) (fun (g2 : Value) (_ : (List Part)) (x12 : Int) => [(1, PtrA [SlcA kInt a0.fNodes, SlcA kEdge a0.fEdges]), (5, HdA v103), (11, HdA g2), (12, iA x12)]) (fun (g2 : Value) (x11 : (List Part)) (_ : Int) => [SlE 3 v103 kInt x5, SlE 87 g2 kPart x11]) h (.slice none 0 0) (.o4 rfl (.nil _)) rfl (fun rec2 K2 next2 g2 x11 x12 h => ?_)
   unfold ref05_Components.b2 at h
   refine W.seq <| sr <| mv rfl rfl <| fd rfl rfl fo29_0 rfl <| ld rfl rfl sh26 <| p1 rfl 70 rfl (q_len rfl elS26) <| p2 rfl 68 rfl 71 rfl (q_int rfl rfl) <| nt ?_
   refine W.condP h rfl (fun hb1936 h => ?_) (fun hb1936 h => ?_)
   ·refine W.skip <| QN.then_ <| W.seq ?_
    refine W.jn1 (Γ := Value) (fun (g2119 : Value) (_ : (List Part)) => [(1, PtrA [SlcA kInt a0.fNodes, SlcA kEdge a0.fEdges]), (5, HdA v103), (11, HdA g2119), (12, iA x12)]) (fun (g2119 : Value) (x11' : (List Part)) => [SlE 3 v103 kInt x5, SlE 87 g2119 kPart x11']) h (fun g2119 x11' h => ?_) (fun j2122 Kj2122 h => ?_)
    ·refine QN.then_ <| W.region <| mv rfl rfl ?_
     obtain ⟨c2123, h⟩ := ite_n h
     refine pk rfl 73 rfl (q_addR rfl c2123) <| av rfl rfl <| WL.nil ?_
     exact next2 g2119 x11' (x12 + 1) _ h (.o4 rfl (.nil _))
    ·refine W.block <| W.seq <| sr <| mv rfl rfl <| mv rfl rfl ?_
     obtain ⟨c2124, h⟩ := ite_n h
     refine WL.q (Wanted.plain rfl) rfl rfl (.s 75 rfl (.s 76 rfl .nil)) (q_indexO rfl el26 (j := 0) rfl c2124.1 c2124.2) <| WL.q (Wanted.plain rfl) rfl rfl (.s 77 rfl .nil) (q_loadEl rfl sh3 (j := 0) rfl rfl c2124.1 c2124.2 rfl) <| mv rfl rfl <| p2 rfl 78 rfl 79 rfl (q_int rfl rfl) <| WL.nil <| QN.weaken (env' := [(80, _), (12, _), (11, _), (5, _), (1, _)]) (.o4 rfl (.one rfl (.nil _))) <| QN.then_ ?_
     refine W.condP h rfl (fun hb2125 h => ?_) (fun hb2125 h => ?_)
     ·refine W.exit <| QX.then_ <| QX.here ?_
      exact QN.weaken (.o4 rfl (.nil _)) (Kj2122 g2 x11 h)
     ·refine W.skip <| QN.then_ <| sr <| WL.w [] rfl (Wanted.plain rfl) rfl rfl .nil (w_alloc rfl z87 (l := [EqA (.slice none 0 0), EqA (.slice none 0 0)]) rfl) ?_
      rintro _ _ ⟨b2126, rfl, rfl⟩
      refine nt <| W.seq <| sr <| ak rfl <| nt <| W.block <| W.to (StTo.boxImp [0] rfl (.cons Imp.nilHd (.cons (Imp.id _) .nil))) <| W.to (StTo.newNil 3 kInt) <| W.order [2, 2, 1, 0] rfl ?_
      refine W.loop2 (Γ := Value) (fun (_ : Value) (_ : (List Int)) (x14 : Int) => [(1, PtrA [SlcA kInt a0.fNodes, SlcA kEdge a0.fEdges]), (5, HdA v103), (11, HdA g2), (12, iA x12), (13, EqA (.pointer (some ⟨b2126, 0, none⟩))), (14, iA x14)]) (fun (g3 : Value) (y0 : (List Int)) (_ : Int) => [SlE 3 v103 kInt x5, SlE 87 g2 kPart x11, BoxE b2126 [HdA g3, EqA (.slice none 0 0)], SlE 3 g3 kInt y0]) h (.slice none 0 0) (.o4 rfl (.o2 rfl (.nil _))) rfl (fun rec3 K3 next3 g3 y0 x14 h => ?_)
      unfold ref05_Components.b3 at h
      refine W.seq <| sr <| mv rfl rfl <| fd rfl rfl fo29_0 rfl <| ld rfl rfl sh26 <| p1 rfl 83 rfl (q_len rfl elS26) <| p2 rfl 81 rfl 84 rfl (q_int rfl rfl) <| nt ?_
      refine W.condP h rfl (fun hb2249 h => ?_) (fun hb2249 h => ?_)
      ·refine W.skip <| QN.then_ <| W.seq <| W.block <| sr <| mv rfl rfl <| mv rfl rfl ?_
       obtain ⟨c2250, h⟩ := ite_n h
       refine WL.q (Wanted.plain rfl) rfl rfl (.s 88 rfl (.s 89 rfl .nil)) (q_indexO rfl el26 (j := 0) rfl c2250.1 c2250.2) <| WL.q (Wanted.plain rfl) rfl rfl (.s 90 rfl .nil) (q_loadEl rfl sh3 (j := 0) rfl rfl c2250.1 c2250.2 rfl) <| mv rfl rfl <| p2 rfl 91 rfl 92 rfl (q_int rfl rfl) <| WL.nil <| QN.weaken (env' := [(93, _), (14, _), (13, _), (12, _), (11, _), (5, _), (1, _)]) (.o4 rfl (.o2 rfl (.one rfl (.nil _)))) <| QN.then_ ?_
       refine W.condP h rfl (fun hb2254 h => ?_) (fun hb2254 h => ?_)
       ·refine W.region <| p1 rfl 13 rfl (q_fieldP rfl fo87_0) <| WL.q (Wanted.plain rfl) rfl rfl (.s 94 rfl .nil) (q_loadB rfl sh26 (i := 2) rfl rfl) <| mv rfl rfl <| p1 rfl 96 rfl (q_lit (kd := kInt) (ps := [(0, .tmp 96)]) (xs := [.tmp 96]) («as» := [iA x14]) (ys := [x14]) rfl rfl el26 rfl gr3 rfl rfl rfl (.cons (CellsOf.one rfl) .nil)) ?_
        obtain ⟨c2255, h⟩ := ite_n h
        refine WL.w [3] rfl (Wanted.plain rfl) rfl rfl (.s 95 rfl (.s 97 rfl .nil)) (w_append (kd := kInt) rfl el26 rfl gr3 c2255) ?_
        rintro _ _ ⟨v2256, rfl, rfl⟩
        refine p1 rfl 13 rfl (q_fieldP rfl fo87_0) <| WL.w0 [3] rfl (Wanted.plain rfl) rfl (.s 99 rfl (.s 98 rfl .nil)) (w_store (L := [HdA v2256, EqA (.slice none 0 0)]) rfl sh26 (CellsOf.one rfl) rfl rfl (leB rfl) rfl) ?_
        rintro _ _ ⟨rfl, rfl⟩
        refine WL.nil <| QN.block <| QN.weaken (env' := [(14, _), (13, _), (12, _), (11, _), (5, _), (1, _)]) (.o4 rfl (.o2 rfl (.nil _))) <| QN.then_ <| W.region <| mv rfl rfl ?_
        obtain ⟨c2257, h⟩ := ite_n h
        refine pk rfl 86 rfl (q_addR rfl c2257) <| av rfl rfl <| WL.nil <| QN.order [2, 2, 0, 0] rfl ?_
        exact next3 v2256 (y0 ++ [x14]) (x14 + 1) _ h (.o4 rfl (.o2 rfl (.nil _)))
       ·refine W.skip <| QN.block <| QN.then_ <| W.region <| mv rfl rfl ?_
        obtain ⟨c2258, h⟩ := ite_n h
        refine pk rfl 86 rfl (q_addR rfl c2258) <| av rfl rfl <| WL.nil ?_
        exact next3 g3 y0 (x14 + 1) _ h (.o4 rfl (.o2 rfl (.nil _)))
      ·refine W.exit <| QX.then_ <| QX.then_ <| QX.here <| QN.then_ <| W.seq <| sr <| ak rfl <| nt <| W.block <| W.to (StTo.boxImp [2] rfl (.cons (Imp.id _) (.cons Imp.nilHd .nil))) ?_
       refine W.to (StTo.newNil 3 kInt) <| W.order [2, 2, 1, 1, 0] rfl ?_
       refine W.loop2 (Γ := Value) (fun (_ : Value) (_ : (List Int)) (x15 : Int) => [(1, PtrA [SlcA kInt a0.fNodes, SlcA kEdge a0.fEdges]), (5, HdA v103), (11, HdA g2), (12, iA x12), (13, EqA (.pointer (some ⟨b2126, 0, none⟩))), (15, iA x15)]) (fun (g4 : Value) (y1 : (List Int)) (_ : Int) => [SlE 3 v103 kInt x5, SlE 87 g2 kPart x11, BoxE b2126 [HdA g3, HdA g4], SlE 3 g3 kInt y0, SlE 3 g4 kInt y1]) h (.slice none 0 0) (.o4 rfl (.o2 rfl (.nil _))) rfl (fun rec4 K4 next4 g4 y1 x15 h => ?_)
       unfold ref05_Components.b4 at h
       refine W.seq <| sr <| mv rfl rfl <| fd rfl rfl fo29_1 rfl <| ld rfl rfl sh27 <| p1 rfl 102 rfl (q_len rfl elS27) <| p2 rfl 100 rfl 103 rfl (q_int rfl rfl) <| nt ?_
       refine W.condP h rfl (fun hb2293 h => ?_) (fun hb2293 h => ?_)
       ·refine W.skip <| QN.then_ <| W.seq <| W.block <| sr <| mv rfl rfl <| fd rfl rfl fo29_1 rfl <| ld rfl rfl sh27 <| mv rfl rfl ?_
        obtain ⟨c2294, h⟩ := ite_n h
        refine p2 rfl 109 rfl 110 rfl (q_index rfl el27 rfl c2294.1 c2294.2) <| fd rfl rfl fo63_1 rfl <| ld rfl rfl sh3 ?_
        obtain ⟨c2295, h⟩ := ite_n h
        refine WL.q (Wanted.plain rfl) rfl rfl (.s 107 rfl (.s 113 rfl .nil)) (q_indexO rfl el26 (j := 0) rfl c2295.1 c2295.2) <| WL.q (Wanted.plain rfl) rfl rfl (.s 114 rfl .nil) (q_loadEl rfl sh3 (j := 0) rfl rfl c2295.1 c2295.2 rfl) <| mv rfl rfl <| p2 rfl 115 rfl 116 rfl (q_int rfl rfl) <| WL.nil <| QN.weaken (env' := [(117, _), (15, _), (13, _), (12, _), (11, _), (5, _), (1, _)]) (.o4 rfl (.o2 rfl (.one rfl (.nil _)))) <| QN.then_ ?_
        refine W.condP h rfl (fun hb2299 h => ?_) (fun hb2299 h => ?_)
        ·refine W.region <| p1 rfl 13 rfl (q_fieldP rfl fo87_1) <| WL.q (Wanted.plain rfl) rfl rfl (.s 118 rfl .nil) (q_loadB rfl sh26 (i := 2) rfl rfl) <| mv rfl rfl <| p1 rfl 120 rfl (q_lit (kd := kInt) (ps := [(0, .tmp 120)]) (xs := [.tmp 120]) («as» := [iA x15]) (ys := [x15]) rfl rfl el26 rfl gr3 rfl rfl rfl (.cons (CellsOf.one rfl) .nil)) ?_
         obtain ⟨c2300, h⟩ := ite_n h
         refine WL.w [4] rfl (Wanted.plain rfl) rfl rfl (.s 119 rfl (.s 121 rfl .nil)) (w_append (kd := kInt) rfl el26 rfl gr3 c2300) ?_
         rintro _ _ ⟨v2301, rfl, rfl⟩
         refine p1 rfl 13 rfl (q_fieldP rfl fo87_1) <| WL.w0 [3] rfl (Wanted.plain rfl) rfl (.s 123 rfl (.s 122 rfl .nil)) (w_store (L := [HdA g3, HdA v2301]) rfl sh26 (CellsOf.one rfl) rfl rfl (leB rfl) rfl) ?_
         rintro _ _ ⟨rfl, rfl⟩
         refine WL.nil <| QN.block <| QN.weaken (env' := [(15, _), (13, _), (12, _), (11, _), (5, _), (1, _)]) (.o4 rfl (.o2 rfl (.nil _))) <| QN.then_ <| W.region <| mv rfl rfl ?_
         obtain ⟨c2302, h⟩ := ite_n h
         refine pk rfl 105 rfl (q_addR rfl c2302) <| av rfl rfl <| WL.nil <| QN.order [2, 2, 0, 1, 0] rfl ?_
         exact next4 v2301 (y1 ++ [x15]) (x15 + 1) _ h (.o4 rfl (.o2 rfl (.nil _)))
        ·refine W.skip <| QN.block <| QN.then_ <| W.region <| mv rfl rfl ?_
         obtain ⟨c2303, h⟩ := ite_n h
         refine pk rfl 105 rfl (q_addR rfl c2303) <| av rfl rfl <| WL.nil ?_
         exact next4 g4 y1 (x15 + 1) _ h (.o4 rfl (.o2 rfl (.nil _)))
       ·refine W.exit <| QX.then_ <| QX.then_ <| QX.here <| QN.then_ <| W.region <| mv rfl rfl <| WL.q (Wanted.plain rfl) rfl rfl (.s 13 rfl .nil) (q_loadBS (l' := [HdA g3, HdA g4]) rfl sh87 (i := 2) rfl rfl rfl) <| WL.to (StTo.aggFreeze [3] 125 0 rfl rfl rfl) <| WL.to (StTo.aggFreeze [3] 125 1 rfl rfl rfl) <| p1 rfl 125 rfl (q_lit (kd := kPart) (ps := [(0, .tmp 125)]) (xs := [.tmp 125]) («as» := [AggA [SlcA kInt y0, SlcA kInt y1]]) (ys := [(Part.mk y0 y1)]) rfl rfl el65 rfl gr87 rfl rfl rfl (.cons (CellsOf.agg _) .nil)) ?_
        obtain ⟨c2304, h⟩ := ite_n h
        refine WL.w [1] rfl (Wanted.plain rfl) rfl rfl (.s 124 rfl (.s 126 rfl .nil)) (w_append (kd := kPart) rfl el65 rfl gr87 c2304) ?_
        rintro _ _ ⟨v2305, rfl, rfl⟩
        refine av rfl rfl <| WL.nil <| QN.block <| QN.drop [2] rfl <| QN.order [1, 0] rfl ?_
        exact QN.weaken (.o4 rfl (.nil _)) (Kj2122 v2305 (x11 ++ [(Part.mk y0 y1)]) h)
   ·refine W.exit <| QX.then_ <| QX.then_ <| QX.here <| QN.weaken (env' := [(11, _)]) (.one rfl (.nil _)) <| QN.then_ <| sr <| mv rfl rfl <| av rfl rfl <| ak rfl <| nt ?_
    refine W.ret ?_
    cases h
    exact QR.f2 rfl rfl (.t rfl) (.t rfl) (.tup (.cons (.slc 1 rfl) (.cons (.id _) .nil)))
theorem law15_HostCounts.con (k : Nat) (a0 : Draft) (a1 : A4Int) (r : Bool) (h : law15_HostCounts k a0 a1 = some r) : Con Tryz.prog 5 [] [AggA [SlcA kA2Int a0.fNodes, SlcA kA3Int a0.fEdges], AggA [EqA (.int .u8 a1.e0), EqA (.int .u8 a1.e1), EqA (.int .u8 a1.e2), EqA (.int .u8 a1.e3)]] (RA (bA r)) := by
 unfold law15_HostCounts at h
 refine Con.of (N := 229) Tryz.func5 rfl rfl rfl fun w0_ fg_ => sr <| p1 rfl 0 rfl (q_box rfl (CellsOf.agg _)) <| p1 rfl 1 rfl (q_box rfl (CellsOf.agg _)) <| ak rfl <| nt <| W.seq <| W.seq ?_
 refine W.jn1 (Γ := Unit) (fun (_ : Unit) (x33 : Bool) => [(2, PtrA [SlcA kA2Int a0.fNodes, SlcA kA3Int a0.fEdges]), (3, PtrA [EqA (.int .u8 a1.e0), EqA (.int .u8 a1.e1), EqA (.int .u8 a1.e2), EqA (.int .u8 a1.e3)]), (33, bA x33)]) (fun (_ : Unit) (_ : Bool) => []) h (fun _ x33 h => ?_) (fun j104 Kj104 h => ?_)
 ·refine QN.then_ ?_
  refine W.condP h rfl (fun hb105 h => ?_) (fun hb105 h => ?_)
  ·refine sr ?_
   obtain ⟨t106, ht106, h⟩ := bind_s h
   refine WL.p rfl rfl rfl .nil (q_call (f := 11) (A := bA t106) (xs := []) («as» := []) rfl ca11 (law15_awake.con k  t106 ht106) rfl) <| av rfl rfl <| nt <| W.ret <| QR.then_ ?_
   cases h
   exact QR.f1 rfl rfl (.t rfl) (.id _)
  ·refine W.skip <| QN.then_ <| sr ?_
   obtain ⟨t107, ht107, h⟩ := bind_s h
   refine WL.w [] rfl (Wanted.plain rfl) rfl rfl .nil (w_callI (f := 24) (xs := []) («as» := []) rfl ca24 (ref04_Example.con k  t107 ht107) rfl .nil) ?_
   rintro _ _ ⟨v108, rfl, rfl⟩
   refine WL.w [] rfl (Wanted.plain rfl) rfl rfl .nil (w_alloc rfl z25 (l := [EqA (.slice none 0 0), EqA (.slice none 0 0)]) rfl) ?_
   rintro _ _ ⟨b109, rfl, rfl⟩
   refine WL.w0 [0] rfl (Wanted.plain rfl) rfl (.s 5 rfl (.s 35 rfl .nil)) (w_store (L := [SlcA kNodeType t107.fNodes, HdA v108]) rfl sh25 (CellsOf.agg _) rfl rfl (leB rfl) rfl) ?_
   rintro _ _ ⟨rfl, rfl⟩
   refine WL.nil <| QN.to (StTo.still [0] 5 rfl rfl) <| QN.then_ <| sr <| fd rfl rfl fo25_1 rfl <| ld rfl rfl sh23 ?_
   obtain ⟨c110, h⟩ := ite_n h
   refine WL.q (Wanted.plain rfl) rfl rfl (.s 37 rfl (.k .nil)) (q_indexO rfl el23 (j := 0) rfl c110.1 c110.2) <| av rfl rfl <| nt <| W.seq <| W.drawK [(0, false), (1, false), (2, false), (3, false), (4, false), (5, false), (6, false), (7, false), (8, false), (9, false), (10, false), (11, false)] [12, 13, 14, 15] (bm [0, 0, 0, 4, 12, 28, 0, 64, 192, 448, 61, 1085, 3133, 8191, 16383, 32767]) mx (by kernel_rfl) <| dm rfl rfl rfl <| dm rfl rfl rfl <| DK.cons rfl rfl (.p rfl (.s 3 rfl (.k .nil)) rfl (q_indexArr (i := 0) rfl ar56_0 rfl rfl)) <| dl rfl rfl rfl sh5 <| DK.cons rfl rfl (.p rfl (.s 42 rfl (.k .nil)) rfl (q_rem rfl (by decide))) <| DK.cons rfl rfl (.p rfl (.s 43 rfl .nil) rfl (q_conv rfl cv3 cvS5)) <| DK.cons rfl rfl (.p rfl (.s 3 rfl (.k .nil)) rfl (q_indexArr (i := 1) rfl ar56_1 rfl rfl)) ?_
   refine dl rfl rfl rfl sh5 <| DK.cons rfl rfl (.p rfl (.s 46 rfl (.k .nil)) rfl (q_rem rfl (by decide))) <| DK.cons rfl rfl (.p rfl (.s 47 rfl .nil) rfl (q_conv rfl cv3 cvS5)) <| DK.cons rfl rfl (.p rfl (.s 39 rfl .nil) rfl (q_nilCheckE rfl)) <| DK.cons rfl rfl (.p rfl (.s 49 rfl .nil) rfl (q_fieldE rfl fo60_3)) ?_
   obtain ⟨c113, h⟩ := ite_n h
   refine DK.nil <| CSteps.w0 [0] rfl rfl rfl (.s 50 rfl (.s 44 rfl .nil)) rfl (w_storeEl (kd := kEdgeType) (z := (EdgeType.mk ((rd t107.fEdges 0).fName) ((rd t107.fEdges 0).fFrom) ((rd t107.fEdges 0).fTo) (IntKind.i64.wrap (a1.e0.tmod 3)) ((rd t107.fEdges 0).fOutHigh) ((rd t107.fEdges 0).fInLow) ((rd t107.fEdges 0).fInHigh))) rfl sh3 (CellsOf.one rfl) rfl rfl rfl c110.1 c110.2 rfl rfl) ?_
   rintro _ _ ⟨rfl, rfl⟩
   refine CSteps.p rfl rfl rfl (.s 40 rfl .nil) rfl (q_nilCheckE rfl) <| CSteps.p rfl rfl rfl (.s 51 rfl .nil) rfl (q_fieldE rfl fo60_5) <| CSteps.w0 [0] rfl rfl rfl (.s 52 rfl (.s 48 rfl .nil)) rfl (w_storeEl (kd := kEdgeType) (z := (EdgeType.mk ((rd (t107.fEdges.set (0 : Int).toNat (EdgeType.mk ((rd t107.fEdges 0).fName) ((rd t107.fEdges 0).fFrom) ((rd t107.fEdges 0).fTo) (IntKind.i64.wrap (a1.e0.tmod 3)) ((rd t107.fEdges 0).fOutHigh) ((rd t107.fEdges 0).fInLow) ((rd t107.fEdges 0).fInHigh))) 0).fName) ((rd (t107.fEdges.set (0 : Int).toNat (EdgeType.mk ((rd t107.fEdges 0).fName) ((rd t107.fEdges 0).fFrom) ((rd t107.fEdges 0).fTo) (IntKind.i64.wrap (a1.e0.tmod 3)) ((rd t107.fEdges 0).fOutHigh) ((rd t107.fEdges 0).fInLow) ((rd t107.fEdges 0).fInHigh))) 0).fFrom) ((rd (t107.fEdges.set (0 : Int).toNat (EdgeType.mk ((rd t107.fEdges 0).fName) ((rd t107.fEdges 0).fFrom) ((rd t107.fEdges 0).fTo) (IntKind.i64.wrap (a1.e0.tmod 3)) ((rd t107.fEdges 0).fOutHigh) ((rd t107.fEdges 0).fInLow) ((rd t107.fEdges 0).fInHigh))) 0).fTo) ((rd (t107.fEdges.set (0 : Int).toNat (EdgeType.mk ((rd t107.fEdges 0).fName) ((rd t107.fEdges 0).fFrom) ((rd t107.fEdges 0).fTo) (IntKind.i64.wrap (a1.e0.tmod 3)) ((rd t107.fEdges 0).fOutHigh) ((rd t107.fEdges 0).fInLow) ((rd t107.fEdges 0).fInHigh))) 0).fOutLow) ((rd (t107.fEdges.set (0 : Int).toNat (EdgeType.mk ((rd t107.fEdges 0).fName) ((rd t107.fEdges 0).fFrom) ((rd t107.fEdges 0).fTo) (IntKind.i64.wrap (a1.e0.tmod 3)) ((rd t107.fEdges 0).fOutHigh) ((rd t107.fEdges 0).fInLow) ((rd t107.fEdges 0).fInHigh))) 0).fOutHigh) (IntKind.i64.wrap (a1.e1.tmod 3)) ((rd (t107.fEdges.set (0 : Int).toNat (EdgeType.mk ((rd t107.fEdges 0).fName) ((rd t107.fEdges 0).fFrom) ((rd t107.fEdges 0).fTo) (IntKind.i64.wrap (a1.e0.tmod 3)) ((rd t107.fEdges 0).fOutHigh) ((rd t107.fEdges 0).fInLow) ((rd t107.fEdges 0).fInHigh))) 0).fInHigh))) rfl sh3 (CellsOf.one rfl) rfl rfl rfl c113.1 c113.2 rfl rfl) ?_
   rintro _ _ ⟨rfl, rfl⟩
   refine CSteps.nil <| QN.weaken (env' := [(6, _), (5, _), (3, _), (2, _)]) (.o4 rfl (.nil _)) <| QN.then_ <| W.seq ?_
   obtain ⟨t114, ht114, h⟩ := bind_s h
   refine W.to (StTo.slEq [0] rfl (some_s ht114)) <| W.drawK [(0, false), (1, false), (2, false), (3, false), (4, false), (5, true), (6, false), (7, false), (8, false), (9, false), (10, false), (11, false), (12, false), (13, false), (14, false), (15, true), (16, false), (17, false), (18, false), (19, false), (20, false), (21, false), (22, false), (23, false)] [24, 25, 26, 27] (bm [0, 0, 0, 4, 12, 28, 0, 64, 192, 448, 1020, 2044, 0, 4096, 12288, 28672, 0, 65536, 196608, 458752, 1044480, 2093056, 65533, 4259837, 12648445, 33554431, 67108863, 134217727]) mx (by kernel_rfl) <| dm rfl rfl rfl <| dm rfl rfl rfl <| dm rfl rfl rfl <| DK.cons rfl rfl (.p rfl (.s 55 rfl .nil) rfl (q_nilCheckE rfl)) <| DK.cons rfl rfl (.p rfl (.s 56 rfl .nil) rfl (q_fieldE rfl fo60_3)) ?_
   obtain ⟨c131, h⟩ := ite_n h
   refine DK.cons rfl rfl (.o rfl (.s 57 rfl .nil) rfl (q_loadEl rfl sh3 (j := 0) rfl rfl c131.1 c131.2 rfl)) <| DK.cons rfl rfl (.p rfl (.s 3 rfl (.k .nil)) rfl (q_indexArr (i := 2) rfl ar56_2 rfl rfl)) <| dl rfl rfl rfl sh5 <| DK.cons rfl rfl (.p rfl (.s 60 rfl (.k .nil)) rfl (q_rem rfl (by decide))) <| DK.cons rfl rfl (.p rfl (.s 61 rfl .nil) rfl (q_conv rfl cv3 cvS5)) ?_
   obtain ⟨c132, h⟩ := ite_n h
   refine DK.cons rfl rfl (.p rfl (.s 58 rfl (.s 62 rfl .nil)) rfl (q_addR rfl c132)) ?_
   obtain ⟨c133, h⟩ := ite_n h
   refine DK.cons rfl rfl (.p rfl (.s 63 rfl (.k .nil)) rfl (q_subR rfl c133)) <| dm rfl rfl rfl <| DK.cons rfl rfl (.p rfl (.s 65 rfl .nil) rfl (q_nilCheckE rfl)) <| DK.cons rfl rfl (.p rfl (.s 66 rfl .nil) rfl (q_fieldE rfl fo60_5)) ?_
   obtain ⟨c134, h⟩ := ite_n h
   refine DK.cons rfl rfl (.o rfl (.s 67 rfl .nil) rfl (q_loadEl rfl sh3 (j := 0) rfl rfl c134.1 c134.2 rfl)) <| DK.cons rfl rfl (.p rfl (.s 3 rfl (.k .nil)) rfl (q_indexArr (i := 3) rfl ar56_3 rfl rfl)) <| dl rfl rfl rfl sh5 <| DK.cons rfl rfl (.p rfl (.s 70 rfl (.k .nil)) rfl (q_rem rfl (by decide))) <| DK.cons rfl rfl (.p rfl (.s 71 rfl .nil) rfl (q_conv rfl cv3 cvS5)) ?_
   obtain ⟨c135, h⟩ := ite_n h
   refine DK.cons rfl rfl (.p rfl (.s 68 rfl (.s 72 rfl .nil)) rfl (q_addR rfl c135)) ?_
   obtain ⟨c136, h⟩ := ite_n h
   refine DK.cons rfl rfl (.p rfl (.s 73 rfl (.k .nil)) rfl (q_subR rfl c136)) <| DK.cons rfl rfl (.p rfl (.s 53 rfl .nil) rfl (q_nilCheckE rfl)) <| DK.cons rfl rfl (.p rfl (.s 75 rfl .nil) rfl (q_fieldE rfl fo60_4)) ?_
   obtain ⟨c137, h⟩ := ite_n h
   obtain ⟨c138, h⟩ := ite_n h
   refine DK.nil <| CSteps.w0 [0] rfl rfl rfl (.s 76 rfl (.s 64 rfl .nil)) rfl (w_storeEl (kd := kEdgeType) (z := (EdgeType.mk ((rd t114 0).fName) ((rd t114 0).fFrom) ((rd t114 0).fTo) ((rd t114 0).fOutLow) (((rd t114 0).fOutLow + (IntKind.i64.wrap (a1.e2.tmod 4))) - 1) ((rd t114 0).fInLow) ((rd t114 0).fInHigh))) rfl sh3 (CellsOf.one rfl) rfl rfl rfl c137.1 c137.2 rfl rfl) ?_
   rintro _ _ ⟨rfl, rfl⟩
   refine CSteps.p rfl rfl rfl (.s 54 rfl .nil) rfl (q_nilCheckE rfl) <| CSteps.p rfl rfl rfl (.s 77 rfl .nil) rfl (q_fieldE rfl fo60_6) <| CSteps.w0 [0] rfl rfl rfl (.s 78 rfl (.s 74 rfl .nil)) rfl (w_storeEl (kd := kEdgeType) (z := (EdgeType.mk ((rd (t114.set (0 : Int).toNat (EdgeType.mk ((rd t114 0).fName) ((rd t114 0).fFrom) ((rd t114 0).fTo) ((rd t114 0).fOutLow) (((rd t114 0).fOutLow + (IntKind.i64.wrap (a1.e2.tmod 4))) - 1) ((rd t114 0).fInLow) ((rd t114 0).fInHigh))) 0).fName) ((rd (t114.set (0 : Int).toNat (EdgeType.mk ((rd t114 0).fName) ((rd t114 0).fFrom) ((rd t114 0).fTo) ((rd t114 0).fOutLow) (((rd t114 0).fOutLow + (IntKind.i64.wrap (a1.e2.tmod 4))) - 1) ((rd t114 0).fInLow) ((rd t114 0).fInHigh))) 0).fFrom) ((rd (t114.set (0 : Int).toNat (EdgeType.mk ((rd t114 0).fName) ((rd t114 0).fFrom) ((rd t114 0).fTo) ((rd t114 0).fOutLow) (((rd t114 0).fOutLow + (IntKind.i64.wrap (a1.e2.tmod 4))) - 1) ((rd t114 0).fInLow) ((rd t114 0).fInHigh))) 0).fTo) ((rd (t114.set (0 : Int).toNat (EdgeType.mk ((rd t114 0).fName) ((rd t114 0).fFrom) ((rd t114 0).fTo) ((rd t114 0).fOutLow) (((rd t114 0).fOutLow + (IntKind.i64.wrap (a1.e2.tmod 4))) - 1) ((rd t114 0).fInLow) ((rd t114 0).fInHigh))) 0).fOutLow) ((rd (t114.set (0 : Int).toNat (EdgeType.mk ((rd t114 0).fName) ((rd t114 0).fFrom) ((rd t114 0).fTo) ((rd t114 0).fOutLow) (((rd t114 0).fOutLow + (IntKind.i64.wrap (a1.e2.tmod 4))) - 1) ((rd t114 0).fInLow) ((rd t114 0).fInHigh))) 0).fOutHigh) ((rd (t114.set (0 : Int).toNat (EdgeType.mk ((rd t114 0).fName) ((rd t114 0).fFrom) ((rd t114 0).fTo) ((rd t114 0).fOutLow) (((rd t114 0).fOutLow + (IntKind.i64.wrap (a1.e2.tmod 4))) - 1) ((rd t114 0).fInLow) ((rd t114 0).fInHigh))) 0).fInLow) (((rd t114 0).fInLow + (IntKind.i64.wrap (a1.e3.tmod 4))) - 1))) rfl sh3 (CellsOf.one rfl) rfl rfl rfl c138.1 c138.2 rfl rfl) ?_
   rintro _ _ ⟨rfl, rfl⟩
   refine CSteps.nil <| QN.weaken (env' := [(6, _), (5, _), (2, _)]) (.o2 rfl (.one rfl (.nil _))) <| QN.then_ <| W.seq <| W.seq ?_
   obtain ⟨t139, ht139, h⟩ := bind_s h
   refine W.to (StTo.slEq [0] rfl (some_s ht139)) <| W.drawK [(0, false), (1, false), (2, false), (3, true), (4, false), (5, false), (6, false), (7, true), (8, false)] [] (bm [0, 1, 3, 7, 0, 16, 48, 112, 255]) mx (by kernel_rfl) <| dm rfl rfl rfl <| DK.cons rfl rfl (.p rfl (.s 79 rfl .nil) rfl (q_nilCheckE rfl)) <| DK.cons rfl rfl (.p rfl (.s 80 rfl .nil) rfl (q_fieldE rfl fo60_4)) ?_
   obtain ⟨c144, h⟩ := ite_n h
   refine DK.cons rfl rfl (.o rfl (.s 81 rfl .nil) rfl (q_loadEl rfl sh3 (j := 0) rfl rfl c144.1 c144.2 rfl)) <| dm rfl rfl rfl <| DK.cons rfl rfl (.p rfl (.s 83 rfl .nil) rfl (q_nilCheckE rfl)) <| DK.cons rfl rfl (.p rfl (.s 84 rfl .nil) rfl (q_fieldE rfl fo60_3)) ?_
   obtain ⟨c145, h⟩ := ite_n h
   refine DK.cons rfl rfl (.o rfl (.s 85 rfl .nil) rfl (q_loadEl rfl sh3 (j := 0) rfl rfl c145.1 c145.2 rfl)) <| DK.cons rfl rfl (.p rfl (.s 82 rfl (.s 86 rfl .nil)) rfl (q_int rfl rfl)) <| DK.nil <| CSteps.nil <| QN.weaken (env' := [(87, _), (6, _), (5, _), (2, _)]) (.o4 rfl (.nil _)) <| QN.then_ ?_
   refine W.jn1 (Γ := Unit) (fun (_ : Unit) (_ : (List EdgeType)) => [(2, PtrA [SlcA kA2Int a0.fNodes, SlcA kA3Int a0.fEdges]), (5, PtrA [SlcA kNodeType t107.fNodes, HdA v108]), (6, ElA v108 7 0 0)]) (fun (_ : Unit) (x5_1 : (List EdgeType)) => [SlE 60 v108 kEdgeType x5_1]) h (fun _ x5_1 h => ?_) (fun j149 Kj149 h => ?_)
   ·refine QN.then_ <| W.seq <| W.seq <| W.drawK [(0, false), (1, false), (2, false), (3, true), (4, false), (5, false), (6, false), (7, true), (8, false)] [] (bm [0, 1, 3, 7, 0, 16, 48, 112, 255]) mx (by kernel_rfl) <| dm rfl rfl rfl <| DK.cons rfl rfl (.p rfl (.s 91 rfl .nil) rfl (q_nilCheckE rfl)) <| DK.cons rfl rfl (.p rfl (.s 92 rfl .nil) rfl (q_fieldE rfl fo60_6)) ?_
    obtain ⟨c154, h⟩ := ite_n h
    refine DK.cons rfl rfl (.o rfl (.s 93 rfl .nil) rfl (q_loadEl rfl sh3 (j := 0) rfl rfl c154.1 c154.2 rfl)) <| dm rfl rfl rfl <| DK.cons rfl rfl (.p rfl (.s 95 rfl .nil) rfl (q_nilCheckE rfl)) <| DK.cons rfl rfl (.p rfl (.s 96 rfl .nil) rfl (q_fieldE rfl fo60_5)) ?_
    obtain ⟨c155, h⟩ := ite_n h
    refine DK.cons rfl rfl (.o rfl (.s 97 rfl .nil) rfl (q_loadEl rfl sh3 (j := 0) rfl rfl c155.1 c155.2 rfl)) <| DK.cons rfl rfl (.p rfl (.s 94 rfl (.s 98 rfl .nil)) rfl (q_int rfl rfl)) <| DK.nil <| CSteps.nil <| QN.weaken (env' := [(99, _), (6, _), (5, _), (2, _)]) (.o4 rfl (.nil _)) <| QN.then_ ?_
    refine W.jn1 (Γ := Unit) (fun (_ : Unit) (_ : (List EdgeType)) => [(2, PtrA [SlcA kA2Int a0.fNodes, SlcA kA3Int a0.fEdges]), (5, PtrA [SlcA kNodeType t107.fNodes, HdA v108]), (6, ElA v108 7 0 0)]) (fun (_ : Unit) (x5_1' : (List EdgeType)) => [SlE 60 v108 kEdgeType x5_1']) h (fun _ x5_1' h => ?_) (fun j159 Kj159 h => ?_)
    ·refine QN.then_ <| W.seq ?_
     obtain ⟨c161, h⟩ := ite_n h
     refine W.to (StTo.ptrFreezeE [0] 5 1 6 rfl rfl rfl rfl rfl c161.1 c161.2) <| W.region <| lS rfl rfl sh25 rfl rfl <| lS rfl rfl sh55 rfl rfl ?_
     obtain ⟨t162, ht162, h⟩ := bind_s h
     refine p2 rfl 103 rfl 104 rfl (q_call (f := 25) (A := AggA [SlcA kInt t162.fGraph.fNodes, SlcA kEdge t162.fGraph.fEdges, SlcA (kSl kInt) t162.fValues]) (xs := [.tmp 103, .tmp 104]) («as» := [AggA [SlcA kNodeType t107.fNodes, SlcA kEdgeType x5_1'], AggA [SlcA kA2Int a0.fNodes, SlcA kA3Int a0.fEdges]]) rfl ca25 (ref15_Made.con k (Types.mk t107.fNodes x5_1') a0 t162 ht162) rfl) <| WL.w [] rfl (Wanted.plain rfl) rfl rfl .nil (w_alloc rfl z32 (l := [EqA (.slice none 0 0), EqA (.slice none 0 0), EqA (.slice none 0 0)]) rfl) ?_
     rintro _ _ ⟨b163, rfl, rfl⟩
     refine WL.w0 [0] rfl (Wanted.plain rfl) rfl (.s 7 rfl (.s 105 rfl .nil)) (w_store (L := [SlcA kInt t162.fGraph.fNodes, SlcA kEdge t162.fGraph.fEdges, SlcA (kSl kInt) t162.fValues]) rfl sh32 (CellsOf.agg _) rfl rfl (leB rfl) rfl) ?_
     rintro _ _ ⟨rfl, rfl⟩
     refine WL.nil <| QN.to (StTo.still [0] 7 rfl rfl) <| QN.then_ <| sr <| lS rfl rfl sh25 rfl rfl <| lS rfl rfl sh32 rfl rfl ?_
     obtain ⟨t164, ht164, h⟩ := bind_s h
     refine p2 rfl 107 rfl 108 rfl (q_call (f := 16) (A := TupA [SlcA kExcess t164.1, iA t164.2]) (xs := [.tmp 107, .tmp 108]) («as» := [AggA [SlcA kNodeType t107.fNodes, SlcA kEdgeType x5_1'], AggA [SlcA kInt t162.fGraph.fNodes, SlcA kEdge t162.fGraph.fEdges, SlcA (kSl kInt) t162.fValues]]) rfl ca16 (host_Excesses.con k (Types.mk t107.fNodes x5_1') t162 t164 ht164) rfl) <| mv rfl rfl <| p1 rfl 106 rfl (q_extract rfl rfl) <| p1 rfl 106 rfl (q_extract rfl rfl) <| av rfl rfl <| av rfl rfl <| WL.nil <| QN.weaken (env' := [(9, _), (8, _), (7, _), (6, _)]) (.o4 rfl (.nil _)) <| QN.then_ <| W.seq <| sr <| mv rfl rfl ?_
     refine pk rfl 112 rfl (q_int rfl rfl) <| nt ?_
     refine W.condP h rfl (fun hb165 h => ?_) (fun hb165 h => ?_)
     ·refine sr <| ak rfl <| nt <| W.ret <| QR.then_ ?_
      cases h
      exact QR.f1 rfl rfl (.t rfl) (.id _)
     ·refine W.skip <| QN.then_ <| W.seq <| sr <| fd rfl rfl fo32_0 rfl <| fd rfl rfl fo29_0 rfl <| ld rfl rfl sh26 <| p1 rfl 116 rfl (q_len rfl elS26) <| mk_ rfl <| nt <| W.block ?_
      refine W.loop1 (Γ := Unit) (fun (_ : Unit) (x118 : Int) => [(6, PtrA [EqA (strV ((rd x5_1' 0).fName)), iA ((rd x5_1' 0).fFrom), iA ((rd x5_1' 0).fTo), iA ((rd x5_1' 0).fOutLow), iA ((rd x5_1' 0).fOutHigh), iA ((rd x5_1' 0).fInLow), iA ((rd x5_1' 0).fInHigh)]), (7, PtrA [SlcA kInt t162.fGraph.fNodes, SlcA kEdge t162.fGraph.fEdges, SlcA (kSl kInt) t162.fValues]), (8, SlcA kExcess t164.1), (116, SlcA kInt t162.fGraph.fNodes), (117, iA (t162.fGraph.fNodes.length : Int)), (118, iA x118)]) (fun (_ : Unit) (_ : Int) => []) h () (.o4 rfl (.o2 rfl (.nil _))) rfl (fun rec0 K0 next0 _ x118 h => ?_)
      unfold law15_HostCounts.b0 at h
      refine sr <| p2 rfl 118 rfl 117 rfl (q_int rfl rfl) <| nt <| W.seq ?_
      refine W.condP h rfl (fun hb466 h => ?_) (fun hb466 h => ?_)
      ·refine W.skip <| QN.then_ <| W.seq <| W.block <| sr <| mv rfl rfl ?_
       obtain ⟨c467, h⟩ := ite_n h
       refine p2 rfl 116 rfl 118 rfl (q_index rfl el26 rfl c467.1 c467.2) <| ld rfl rfl sh3 <| av rfl rfl <| av rfl rfl <| nx <| ak rfl <| ak rfl <| nt <| W.seq ?_
       refine sr <| fd rfl rfl fo32_0 rfl <| fd rfl rfl fo29_1 rfl <| ld rfl rfl sh27 <| p1 rfl 125 rfl (q_len rfl elS27) <| mk_ rfl <| nt <| W.block ?_
       refine W.loop3 (Γ := Unit) (fun (_ : Unit) (x12 : Int) (x13 : Int) (x127 : Int) => [(6, PtrA [EqA (strV ((rd x5_1' 0).fName)), iA ((rd x5_1' 0).fFrom), iA ((rd x5_1' 0).fTo), iA ((rd x5_1' 0).fOutLow), iA ((rd x5_1' 0).fOutHigh), iA ((rd x5_1' 0).fInLow), iA ((rd x5_1' 0).fInHigh)]), (7, PtrA [SlcA kInt t162.fGraph.fNodes, SlcA kEdge t162.fGraph.fEdges, SlcA (kSl kInt) t162.fValues]), (8, SlcA kExcess t164.1), (116, SlcA kInt t162.fGraph.fNodes), (117, iA (t162.fGraph.fNodes.length : Int)), (118, iA x118), (10, iA x118), (11, iA (rd t162.fGraph.fNodes x118)), (12, iA x12), (13, iA x13), (125, SlcA kEdge t162.fGraph.fEdges), (126, iA (t162.fGraph.fEdges.length : Int)), (127, iA x127)]) (fun (_ : Unit) (_ : Int) (_ : Int) (_ : Int) => []) h () (.o4 rfl (.o4 rfl (.o4 rfl (.one rfl (.nil _))))) rfl (fun rec1 K1 next1 _ x12 x13 x127 h => ?_)
       unfold law15_HostCounts.b1 at h
       refine sr <| p2 rfl 127 rfl 126 rfl (q_int rfl rfl) <| nt <| W.seq ?_
       refine W.condP h rfl (fun hb566 h => ?_) (fun hb566 h => ?_)
       ·refine W.skip <| QN.then_ <| W.seq <| W.block <| sr ?_
        obtain ⟨c567, h⟩ := ite_n h
        refine p2 rfl 125 rfl 127 rfl (q_index rfl el27 rfl c567.1 c567.2) <| lS rfl rfl sh63 rfl rfl <| WL.w [] rfl (Wanted.plain rfl) rfl rfl .nil (w_alloc rfl z63 (l := [iA 0, iA 0, iA 0]) rfl) ?_
        rintro _ _ ⟨b568, rfl, rfl⟩
        refine WL.w0 [0] rfl (Wanted.plain rfl) rfl (.s 15 rfl (.s 130 rfl .nil)) (w_store (L := [iA ((rd t162.fGraph.fEdges x127).fType), iA ((rd t162.fGraph.fEdges x127).fFrom), iA ((rd t162.fGraph.fEdges x127).fTo)]) rfl sh63 (CellsOf.agg _) rfl rfl (leB rfl) rfl) ?_
        rintro _ _ ⟨rfl, rfl⟩
        refine WL.nil <| QN.to (StTo.still [0] 15 rfl rfl) <| QN.then_ <| W.seq <| W.seq ?_
        refine W.jn1 (Γ := Unit) (fun (_ : Unit) (x139 : Bool) => [(6, PtrA [EqA (strV ((rd x5_1' 0).fName)), iA ((rd x5_1' 0).fFrom), iA ((rd x5_1' 0).fTo), iA ((rd x5_1' 0).fOutLow), iA ((rd x5_1' 0).fOutHigh), iA ((rd x5_1' 0).fInLow), iA ((rd x5_1' 0).fInHigh)]), (7, PtrA [SlcA kInt t162.fGraph.fNodes, SlcA kEdge t162.fGraph.fEdges, SlcA (kSl kInt) t162.fValues]), (8, SlcA kExcess t164.1), (116, SlcA kInt t162.fGraph.fNodes), (117, iA (t162.fGraph.fNodes.length : Int)), (118, iA x118), (10, iA x118), (11, iA (rd t162.fGraph.fNodes x118)), (12, iA x12), (13, iA x13), (125, SlcA kEdge t162.fGraph.fEdges), (126, iA (t162.fGraph.fEdges.length : Int)), (127, iA x127), (15, PtrA [iA ((rd t162.fGraph.fEdges x127).fType), iA ((rd t162.fGraph.fEdges x127).fFrom), iA ((rd t162.fGraph.fEdges x127).fTo)]), (139, bA x139)]) (fun (_ : Unit) (_ : Bool) => []) h (fun _ x139 h => ?_) (fun j571 Kj571 h => ?_)
        ·refine QN.then_ ?_
         refine W.jn1 (Γ := Unit) (fun (_ : Unit) (x12' : Int) => [(6, PtrA [EqA (strV ((rd x5_1' 0).fName)), iA ((rd x5_1' 0).fFrom), iA ((rd x5_1' 0).fTo), iA ((rd x5_1' 0).fOutLow), iA ((rd x5_1' 0).fOutHigh), iA ((rd x5_1' 0).fInLow), iA ((rd x5_1' 0).fInHigh)]), (7, PtrA [SlcA kInt t162.fGraph.fNodes, SlcA kEdge t162.fGraph.fEdges, SlcA (kSl kInt) t162.fValues]), (8, SlcA kExcess t164.1), (116, SlcA kInt t162.fGraph.fNodes), (117, iA (t162.fGraph.fNodes.length : Int)), (118, iA x118), (10, iA x118), (11, iA (rd t162.fGraph.fNodes x118)), (13, iA x13), (125, SlcA kEdge t162.fGraph.fEdges), (126, iA (t162.fGraph.fEdges.length : Int)), (127, iA x127), (15, PtrA [iA ((rd t162.fGraph.fEdges x127).fType), iA ((rd t162.fGraph.fEdges x127).fFrom), iA ((rd t162.fGraph.fEdges x127).fTo)]), (12, iA x12')]) (fun (_ : Unit) (_ : Int) => []) h (fun _ x12' h => ?_) (fun j575 Kj575 h => ?_)
         ·refine QN.then_ <| W.seq ?_
          refine W.jn1 (Γ := Unit) (fun (_ : Unit) (x150 : Bool) => [(6, PtrA [EqA (strV ((rd x5_1' 0).fName)), iA ((rd x5_1' 0).fFrom), iA ((rd x5_1' 0).fTo), iA ((rd x5_1' 0).fOutLow), iA ((rd x5_1' 0).fOutHigh), iA ((rd x5_1' 0).fInLow), iA ((rd x5_1' 0).fInHigh)]), (7, PtrA [SlcA kInt t162.fGraph.fNodes, SlcA kEdge t162.fGraph.fEdges, SlcA (kSl kInt) t162.fValues]), (8, SlcA kExcess t164.1), (116, SlcA kInt t162.fGraph.fNodes), (117, iA (t162.fGraph.fNodes.length : Int)), (118, iA x118), (10, iA x118), (11, iA (rd t162.fGraph.fNodes x118)), (13, iA x13), (125, SlcA kEdge t162.fGraph.fEdges), (126, iA (t162.fGraph.fEdges.length : Int)), (127, iA x127), (12, iA x12'), (150, bA x150)]) (fun (_ : Unit) (_ : Bool) => []) h (fun _ x150 h => ?_) (fun j578 Kj578 h => ?_)
          ·refine QN.then_ ?_
           refine W.condP h rfl (fun hb581 h => ?_) (fun hb581 h => ?_)
           ·refine W.region <| mv rfl rfl ?_
            obtain ⟨c582, h⟩ := ite_n h
            refine pk rfl 151 rfl (q_addR rfl c582) <| av rfl rfl <| WL.nil <| QN.block <| QN.then_ <| W.region ?_
            obtain ⟨c583, h⟩ := ite_n h
            refine pk rfl 127 rfl (q_addR rfl c583) <| mv rfl rfl <| WL.nil ?_
            exact next1 () x12' (x13 + 1) (x127 + 1) _ h (.o4 rfl (.o4 rfl (.o4 rfl (.one rfl (.nil _)))))
           ·refine W.skip <| QN.block <| QN.then_ <| W.region ?_
            obtain ⟨c584, h⟩ := ite_n h
            refine pk rfl 127 rfl (q_addR rfl c584) <| mv rfl rfl <| WL.nil ?_
            exact next1 () x12' x13 (x127 + 1) _ h (.o4 rfl (.o4 rfl (.o4 rfl (.one rfl (.nil _)))))
          ·refine W.region <| fd rfl rfl fo63_0 rfl <| ld rfl rfl sh3 <| pk rfl 143 rfl (q_int rfl rfl) <| mv rfl rfl ?_
           rcases bif_s h with ⟨hb585, h⟩ | ⟨hb585, h⟩
           ·refine wf rfl rfl rfl hb585 rfl rfl fo63_2 rfl <| wl rfl rfl rfl hb585 rfl rfl sh3 <| wm rfl rfl rfl hb585 rfl rfl <| wq rfl rfl rfl hb585 (.s 147 rfl (.s 148 rfl .nil)) (q_int rfl rfl).o <| p2 rfl 145 rfl 149 rfl (q_pickT rfl hb585) <| WL.nil ?_
            exact QN.weaken (.o4 rfl (.o4 rfl (.o4 rfl (.o2 rfl (.nil _))))) (Kj578 () ((rd t162.fGraph.fEdges x127).fTo == x118) h)
           ·refine sk rfl rfl rfl hb585 <| sk rfl rfl rfl hb585 <| sk rfl rfl rfl hb585 <| sk rfl rfl rfl hb585 <| pk rfl 145 rfl (q_pickF rfl hb585) <| WL.nil ?_
            exact QN.weaken (.o4 rfl (.o4 rfl (.o4 rfl (.o2 rfl (.nil _))))) (Kj578 () false h)
         ·refine W.condP h rfl (fun hb586 h => ?_) (fun hb586 h => ?_)
          ·refine W.region <| mv rfl rfl ?_
           obtain ⟨c587, h⟩ := ite_n h
           refine pk rfl 140 rfl (q_addR rfl c587) <| av rfl rfl <| WL.nil ?_
           exact QN.weaken (.o4 rfl (.o4 rfl (.o4 rfl (.o2 rfl (.nil _))))) (Kj575 () (x12 + 1) h)
          ·refine W.skip ?_
           exact QN.weaken (.o4 rfl (.o4 rfl (.o4 rfl (.o2 rfl (.nil _))))) (Kj575 () x12 h)
        ·refine W.region <| fd rfl rfl fo63_0 rfl <| ld rfl rfl sh3 <| pk rfl 132 rfl (q_int rfl rfl) <| mv rfl rfl ?_
         rcases bif_s h with ⟨hb588, h⟩ | ⟨hb588, h⟩
         ·refine wf rfl rfl rfl hb588 rfl rfl fo63_1 rfl <| wl rfl rfl rfl hb588 rfl rfl sh3 <| wm rfl rfl rfl hb588 rfl rfl <| wq rfl rfl rfl hb588 (.s 136 rfl (.s 137 rfl .nil)) (q_int rfl rfl).o <| p2 rfl 134 rfl 138 rfl (q_pickT rfl hb588) <| WL.nil ?_
          exact QN.weaken (.o4 rfl (.o4 rfl (.o4 rfl (.o2 rfl (.one rfl (.nil _)))))) (Kj571 () ((rd t162.fGraph.fEdges x127).fFrom == x118) h)
         ·refine sk rfl rfl rfl hb588 <| sk rfl rfl rfl hb588 <| sk rfl rfl rfl hb588 <| sk rfl rfl rfl hb588 <| pk rfl 134 rfl (q_pickF rfl hb588) <| WL.nil ?_
          exact QN.weaken (.o4 rfl (.o4 rfl (.o4 rfl (.o2 rfl (.one rfl (.nil _)))))) (Kj571 () false h)
       ·refine W.exit <| QX.then_ <| QX.then_ <| QX.here <| QN.then_ <| W.seq ?_
        refine W.jn1 (Γ := Unit) (fun (_ : Unit) (x16 : Bool) => [(6, PtrA [EqA (strV ((rd x5_1' 0).fName)), iA ((rd x5_1' 0).fFrom), iA ((rd x5_1' 0).fTo), iA ((rd x5_1' 0).fOutLow), iA ((rd x5_1' 0).fOutHigh), iA ((rd x5_1' 0).fInLow), iA ((rd x5_1' 0).fInHigh)]), (7, PtrA [SlcA kInt t162.fGraph.fNodes, SlcA kEdge t162.fGraph.fEdges, SlcA (kSl kInt) t162.fValues]), (8, SlcA kExcess t164.1), (116, SlcA kInt t162.fGraph.fNodes), (117, iA (t162.fGraph.fNodes.length : Int)), (118, iA x118), (10, iA x118), (11, iA (rd t162.fGraph.fNodes x118)), (12, iA x12), (13, iA x13), (16, bA x16)]) (fun (_ : Unit) (_ : Bool) => []) h (fun _ x16 h => ?_) (fun j593 Kj593 h => ?_)
        ·refine QN.then_ <| W.seq ?_
         refine W.jn1 (Γ := Unit) (fun (_ : Unit) (x17 : Bool) => [(6, PtrA [EqA (strV ((rd x5_1' 0).fName)), iA ((rd x5_1' 0).fFrom), iA ((rd x5_1' 0).fTo), iA ((rd x5_1' 0).fOutLow), iA ((rd x5_1' 0).fOutHigh), iA ((rd x5_1' 0).fInLow), iA ((rd x5_1' 0).fInHigh)]), (7, PtrA [SlcA kInt t162.fGraph.fNodes, SlcA kEdge t162.fGraph.fEdges, SlcA (kSl kInt) t162.fValues]), (8, SlcA kExcess t164.1), (116, SlcA kInt t162.fGraph.fNodes), (117, iA (t162.fGraph.fNodes.length : Int)), (118, iA x118), (10, iA x118), (12, iA x12), (13, iA x13), (16, bA x16), (17, bA x17)]) (fun (_ : Unit) (_ : Bool) => []) h (fun _ x17 h => ?_) (fun j598 Kj598 h => ?_)
         ·refine QN.then_ <| W.seq ?_
          refine W.jn1 (Γ := Unit) (fun (_ : Unit) (x219 : Bool) => [(6, PtrA [EqA (strV ((rd x5_1' 0).fName)), iA ((rd x5_1' 0).fFrom), iA ((rd x5_1' 0).fTo), iA ((rd x5_1' 0).fOutLow), iA ((rd x5_1' 0).fOutHigh), iA ((rd x5_1' 0).fInLow), iA ((rd x5_1' 0).fInHigh)]), (7, PtrA [SlcA kInt t162.fGraph.fNodes, SlcA kEdge t162.fGraph.fEdges, SlcA (kSl kInt) t162.fValues]), (8, SlcA kExcess t164.1), (116, SlcA kInt t162.fGraph.fNodes), (117, iA (t162.fGraph.fNodes.length : Int)), (118, iA x118), (219, bA x219)]) (fun (_ : Unit) (_ : Bool) => []) h (fun _ x219 h => ?_) (fun j603 Kj603 h => ?_)
          ·refine QN.then_ ?_
           refine W.condP h rfl (fun hb604 h => ?_) (fun hb604 h => ?_)
           ·refine sr <| ak rfl <| WL.nil <| QN.weaken (env' := [(4, _)]) (.one rfl (.nil _)) <| QN.then_ <| W.ret <| QR.block <| QR.then_ <| QR.then_ <| QR.block <| QR.then_ ?_
            cases h
            exact QR.f1 rfl rfl (.t rfl) (.id _)
           ·refine W.skip <| QN.block <| QN.then_ <| W.region ?_
            obtain ⟨c605, h⟩ := ite_n h
            refine pk rfl 118 rfl (q_addR rfl c605) <| mv rfl rfl <| WL.nil ?_
            exact next0 () (x118 + 1) _ h (.o4 rfl (.o2 rfl (.nil _)))
          ·refine W.region <| mv rfl rfl <| mv rfl rfl <| mv rfl rfl <| WL.p rfl rfl rfl (.k (.s 205 rfl (.s 206 rfl (.k .nil)))) (q_build (is := [0, 1, 2, 3]) (xs := [.const (.int .i64 0), .tmp 205, .tmp 206, .const (.bool true)]) (L := [iA 0, iA x118, iA x12, bA true]) rfl rfl z44 pl44 rfl rfl (.cons (CellsOf.one rfl) (.cons (CellsOf.one rfl) (.cons (CellsOf.one rfl) (.cons (CellsOf.one rfl) .nil)))) rfl) ?_
           obtain ⟨t606, ht606, h⟩ := bind_s h
           refine p2 rfl 204 rfl 207 rfl (q_call (f := 26) (A := bA t606) (xs := [.tmp 204, .tmp 207]) («as» := [SlcA kExcess t164.1, AggA [iA 0, iA x118, iA x12, bA true]]) rfl ca26 (slices_Contains_Excess.con k t164.1 (Excess.mk 0 x118 x12 true) t606 ht606) rfl) <| mv rfl rfl <| p2 rfl 208 rfl 209 rfl (q_bne rfl isb4) <| mv rfl rfl ?_
           rcases bif_s h with ⟨hb607, h⟩ | ⟨hb607, h⟩
           ·refine sk rfl rfl rfl hb607 <| sk rfl rfl rfl hb607 <| sk rfl rfl rfl hb607 <| sk rfl rfl rfl hb607 <| sk rfl rfl rfl hb607 <| sk rfl rfl rfl hb607 <| sk rfl rfl rfl hb607 <| pk rfl 211 rfl (q_pickT rfl hb607) <| WL.nil ?_
            exact QN.weaken (.o4 rfl (.o2 rfl (.one rfl (.nil _)))) (Kj603 () true h)
           ·refine wm rfl rfl rfl hb607 rfl rfl <| wm rfl rfl rfl hb607 rfl rfl <| wm rfl rfl rfl hb607 rfl rfl <| wq rfl rfl rfl hb607 (.k (.s 213 rfl (.s 214 rfl .nil))) (q_build (is := [0, 1, 2]) (xs := [.const (.int .i64 0), .tmp 213, .tmp 214]) (L := [iA 0, iA x118, iA x13, bA false]) rfl rfl z44 pl44 rfl rfl (.cons (CellsOf.one rfl) (.cons (CellsOf.one rfl) (.cons (CellsOf.one rfl) .nil))) rfl).o ?_
            obtain ⟨t608, ht608, h⟩ := bind_s h
            refine wq rfl rfl rfl hb607 (.s 212 rfl (.s 215 rfl .nil)) (q_call (f := 26) (A := bA t608) (xs := [.tmp 212, .tmp 215]) («as» := [SlcA kExcess t164.1, AggA [iA 0, iA x118, iA x13, bA false]]) rfl ca26 (slices_Contains_Excess.con k t164.1 (Excess.mk 0 x118 x13 false) t608 ht608) rfl).o <| wm rfl rfl rfl hb607 rfl rfl <| wq rfl rfl rfl hb607 (.s 216 rfl (.s 217 rfl .nil)) (q_bne rfl isb4).o <| p2 rfl 211 rfl 218 rfl (q_pickF rfl hb607) <| WL.nil ?_
            exact QN.weaken (.o4 rfl (.o2 rfl (.one rfl (.nil _)))) (Kj603 () (t608 != x17) h)
         ·refine W.region <| mv rfl rfl <| pk rfl 179 rfl (q_int rfl rfl) <| mv rfl rfl ?_
          rcases bif_s h with ⟨hb609, h⟩ | ⟨hb609, h⟩
          ·refine wm rfl rfl rfl hb609 rfl rfl <| wm rfl rfl rfl hb609 rfl rfl <| wq rfl rfl rfl hb609 (.s 183 rfl .nil) (q_nilCheck rfl).o <| wf rfl rfl rfl hb609 rfl rfl fo60_5 rfl <| wl rfl rfl rfl hb609 rfl rfl sh3 <| wq rfl rfl rfl hb609 (.s 182 rfl (.s 186 rfl .nil)) (q_int rfl rfl).o <| wm rfl rfl rfl hb609 rfl rfl ?_
           rcases bif_s h with ⟨hb610, h⟩ | ⟨hb610, h⟩
           ·refine sk rfl rfl rfl hb610 <| sk rfl rfl rfl hb610 <| sk rfl rfl rfl hb610 <| sk rfl rfl rfl hb610 <| sk rfl rfl rfl hb610 <| sk rfl rfl rfl hb610 <| su rfl rfl rfl <| su rfl rfl rfl <| su rfl rfl rfl <| su rfl rfl rfl <| su rfl rfl rfl <| su rfl rfl rfl <| sk rfl rfl rfl hb610 ?_
            refine wq rfl rfl rfl hb609 (.s 188 rfl (.k .nil)) (q_pickT rfl hb610).o <| p2 rfl 181 rfl 202 rfl (q_pickT rfl hb609) <| av rfl rfl <| WL.nil ?_
            exact QN.weaken (.o4 rfl (.o4 rfl (.o2 rfl (.one rfl (.nil _))))) (Kj598 () true h)
           ·refine wm rfl rfl rfl hb610 rfl rfl <| wq rfl rfl rfl hb610 (.s 189 rfl .nil) (q_nilCheck rfl).o <| wf rfl rfl rfl hb610 rfl rfl fo60_6 rfl <| wl rfl rfl rfl hb610 rfl rfl sh3 <| wq rfl rfl rfl hb610 (.s 192 rfl (.k .nil)) (q_int rfl rfl).o <| wm rfl rfl rfl hb610 rfl rfl ?_
            rcases bif_s h with ⟨hb611, h⟩ | ⟨hb611, h⟩
            ·refine wm rfl rfl rfl hb611 rfl rfl <| wm rfl rfl rfl hb611 rfl rfl <| wq rfl rfl rfl hb611 (.s 196 rfl .nil) (q_nilCheck rfl).o <| wf rfl rfl rfl hb611 rfl rfl fo60_6 rfl <| wl rfl rfl rfl hb611 rfl rfl sh3 <| wq rfl rfl rfl hb611 (.s 195 rfl (.s 199 rfl .nil)) (q_int rfl rfl).o <| wq rfl rfl rfl hb610 (.s 194 rfl (.s 200 rfl .nil)) (q_pickT rfl hb611).o <| wq rfl rfl rfl hb609 (.s 188 rfl (.s 201 rfl .nil)) (q_pickF rfl hb610).o <| p2 rfl 181 rfl 202 rfl (q_pickT rfl hb609) <| av rfl rfl <| WL.nil ?_
             exact QN.weaken (.o4 rfl (.o4 rfl (.o2 rfl (.one rfl (.nil _))))) (Kj598 () (decide (x13 > (rd x5_1' 0).fInHigh)) h)
            ·refine sk rfl rfl rfl hb611 <| sk rfl rfl rfl hb611 <| sk rfl rfl rfl hb611 <| sk rfl rfl rfl hb611 <| sk rfl rfl rfl hb611 <| sk rfl rfl rfl hb611 <| wq rfl rfl rfl hb610 (.s 194 rfl (.k .nil)) (q_pickF rfl hb611).o <| wq rfl rfl rfl hb609 (.s 188 rfl (.s 201 rfl .nil)) (q_pickF rfl hb610).o <| p2 rfl 181 rfl 202 rfl (q_pickT rfl hb609) <| av rfl rfl <| WL.nil ?_
             exact QN.weaken (.o4 rfl (.o4 rfl (.o2 rfl (.one rfl (.nil _))))) (Kj598 () false h)
          ·refine sk rfl rfl rfl hb609 <| sk rfl rfl rfl hb609 <| sk rfl rfl rfl hb609 <| sk rfl rfl rfl hb609 <| sk rfl rfl rfl hb609 <| sk rfl rfl rfl hb609 <| sk rfl rfl rfl hb609 <| su rfl rfl rfl <| su rfl rfl rfl <| su rfl rfl rfl <| su rfl rfl rfl <| su rfl rfl rfl <| su rfl rfl rfl ?_
           refine su rfl rfl rfl <| su rfl rfl rfl <| su rfl rfl rfl <| su rfl rfl rfl <| su rfl rfl rfl <| su rfl rfl rfl <| su rfl rfl rfl <| sk rfl rfl rfl hb609 <| pk rfl 181 rfl (q_pickF rfl hb609) <| av rfl rfl <| WL.nil ?_
           exact QN.weaken (.o4 rfl (.o4 rfl (.o2 rfl (.one rfl (.nil _))))) (Kj598 () false h)
        ·refine W.region <| mv rfl rfl <| pk rfl 154 rfl (q_int rfl rfl) <| mv rfl rfl ?_
         rcases bif_s h with ⟨hb612, h⟩ | ⟨hb612, h⟩
         ·refine wm rfl rfl rfl hb612 rfl rfl <| wm rfl rfl rfl hb612 rfl rfl <| wq rfl rfl rfl hb612 (.s 158 rfl .nil) (q_nilCheck rfl).o <| wf rfl rfl rfl hb612 rfl rfl fo60_3 rfl <| wl rfl rfl rfl hb612 rfl rfl sh3 <| wq rfl rfl rfl hb612 (.s 157 rfl (.s 161 rfl .nil)) (q_int rfl rfl).o <| wm rfl rfl rfl hb612 rfl rfl ?_
          rcases bif_s h with ⟨hb613, h⟩ | ⟨hb613, h⟩
          ·refine sk rfl rfl rfl hb613 <| sk rfl rfl rfl hb613 <| sk rfl rfl rfl hb613 <| sk rfl rfl rfl hb613 <| sk rfl rfl rfl hb613 <| sk rfl rfl rfl hb613 <| su rfl rfl rfl <| su rfl rfl rfl <| su rfl rfl rfl <| su rfl rfl rfl <| su rfl rfl rfl <| su rfl rfl rfl <| sk rfl rfl rfl hb613 ?_
           refine wq rfl rfl rfl hb612 (.s 163 rfl (.k .nil)) (q_pickT rfl hb613).o <| p2 rfl 156 rfl 177 rfl (q_pickT rfl hb612) <| av rfl rfl <| WL.nil ?_
           exact QN.weaken (.o4 rfl (.o4 rfl (.o2 rfl (.one rfl (.nil _))))) (Kj593 () true h)
          ·refine wm rfl rfl rfl hb613 rfl rfl <| wq rfl rfl rfl hb613 (.s 164 rfl .nil) (q_nilCheck rfl).o <| wf rfl rfl rfl hb613 rfl rfl fo60_4 rfl <| wl rfl rfl rfl hb613 rfl rfl sh3 <| wq rfl rfl rfl hb613 (.s 167 rfl (.k .nil)) (q_int rfl rfl).o <| wm rfl rfl rfl hb613 rfl rfl ?_
           rcases bif_s h with ⟨hb614, h⟩ | ⟨hb614, h⟩
           ·refine wm rfl rfl rfl hb614 rfl rfl <| wm rfl rfl rfl hb614 rfl rfl <| wq rfl rfl rfl hb614 (.s 171 rfl .nil) (q_nilCheck rfl).o <| wf rfl rfl rfl hb614 rfl rfl fo60_4 rfl <| wl rfl rfl rfl hb614 rfl rfl sh3 <| wq rfl rfl rfl hb614 (.s 170 rfl (.s 174 rfl .nil)) (q_int rfl rfl).o <| wq rfl rfl rfl hb613 (.s 169 rfl (.s 175 rfl .nil)) (q_pickT rfl hb614).o <| wq rfl rfl rfl hb612 (.s 163 rfl (.s 176 rfl .nil)) (q_pickF rfl hb613).o <| p2 rfl 156 rfl 177 rfl (q_pickT rfl hb612) <| av rfl rfl <| WL.nil ?_
            exact QN.weaken (.o4 rfl (.o4 rfl (.o2 rfl (.one rfl (.nil _))))) (Kj593 () (decide (x12 > (rd x5_1' 0).fOutHigh)) h)
           ·refine sk rfl rfl rfl hb614 <| sk rfl rfl rfl hb614 <| sk rfl rfl rfl hb614 <| sk rfl rfl rfl hb614 <| sk rfl rfl rfl hb614 <| sk rfl rfl rfl hb614 <| wq rfl rfl rfl hb613 (.s 169 rfl (.k .nil)) (q_pickF rfl hb614).o <| wq rfl rfl rfl hb612 (.s 163 rfl (.s 176 rfl .nil)) (q_pickF rfl hb613).o <| p2 rfl 156 rfl 177 rfl (q_pickT rfl hb612) <| av rfl rfl <| WL.nil ?_
            exact QN.weaken (.o4 rfl (.o4 rfl (.o2 rfl (.one rfl (.nil _))))) (Kj593 () false h)
         ·refine sk rfl rfl rfl hb612 <| sk rfl rfl rfl hb612 <| sk rfl rfl rfl hb612 <| sk rfl rfl rfl hb612 <| sk rfl rfl rfl hb612 <| sk rfl rfl rfl hb612 <| sk rfl rfl rfl hb612 <| su rfl rfl rfl <| su rfl rfl rfl <| su rfl rfl rfl <| su rfl rfl rfl <| su rfl rfl rfl <| su rfl rfl rfl ?_
          refine su rfl rfl rfl <| su rfl rfl rfl <| su rfl rfl rfl <| su rfl rfl rfl <| su rfl rfl rfl <| su rfl rfl rfl <| su rfl rfl rfl <| sk rfl rfl rfl hb612 <| pk rfl 156 rfl (q_pickF rfl hb612) <| av rfl rfl <| WL.nil ?_
          exact QN.weaken (.o4 rfl (.o4 rfl (.o2 rfl (.one rfl (.nil _))))) (Kj593 () false h)
      ·refine W.exit <| QX.then_ <| QX.then_ <| QX.here <| QN.then_ <| sr <| fd rfl rfl fo32_0 rfl <| lS rfl rfl sh29 rfl rfl ?_
       obtain ⟨t615, ht615, h⟩ := bind_s h
       refine p1 rfl 223 rfl (q_call (f := 27) (A := TupA [SlcA kPart t615.1, iA t615.2]) (xs := [.tmp 223]) («as» := [AggA [SlcA kInt t162.fGraph.fNodes, SlcA kEdge t162.fGraph.fEdges]]) rfl ca27 (ref05_Components.con k t162.fGraph t615 ht615) rfl) <| mv rfl rfl <| p1 rfl 221 rfl (q_extract rfl rfl) <| p1 rfl 221 rfl (q_extract rfl rfl) <| av rfl rfl <| av rfl rfl <| WL.nil <| QN.weaken (env' := [(19, _)]) (.one rfl (.nil _)) <| QN.then_ <| sr <| mv rfl rfl <| pk rfl 227 rfl (q_int rfl rfl) ?_
       refine av rfl rfl <| nt <| W.ret ?_
       cases h
       exact QR.f1 rfl rfl (.t rfl) (.id _)
    ·refine W.condP h rfl (fun hb616 h => ?_) (fun hb616 h => ?_)
     ·refine W.region <| mv rfl rfl <| p1 rfl 100 rfl (q_nilCheckE rfl) <| p1 rfl 101 rfl (q_fieldE rfl fo60_6) ?_
      obtain ⟨c617, h⟩ := ite_n h
      refine WL.w0 [0] rfl (Wanted.plain rfl) rfl (.s 102 rfl (.k .nil)) (w_storeEl (kd := kEdgeType) (z := (EdgeType.mk ((rd x5_1 0).fName) ((rd x5_1 0).fFrom) ((rd x5_1 0).fTo) ((rd x5_1 0).fOutLow) ((rd x5_1 0).fOutHigh) ((rd x5_1 0).fInLow) (-1))) rfl sh3 (CellsOf.one rfl) rfl rfl rfl c617.1 c617.2 rfl rfl) ?_
      rintro _ _ ⟨rfl, rfl⟩
      refine WL.nil ?_
      exact QN.weaken (.o2 rfl (.one rfl (.nil _))) (Kj159 () (x5_1.set (0 : Int).toNat (EdgeType.mk ((rd x5_1 0).fName) ((rd x5_1 0).fFrom) ((rd x5_1 0).fTo) ((rd x5_1 0).fOutLow) ((rd x5_1 0).fOutHigh) ((rd x5_1 0).fInLow) (-1))) h)
     ·refine W.skip ?_
      exact QN.weaken (.o2 rfl (.one rfl (.nil _))) (Kj159 () x5_1 h)
   ·refine W.condP h rfl (fun hb618 h => ?_) (fun hb618 h => ?_)
    ·refine W.region <| mv rfl rfl <| p1 rfl 88 rfl (q_nilCheckE rfl) <| p1 rfl 89 rfl (q_fieldE rfl fo60_4) ?_
     obtain ⟨c619, h⟩ := ite_n h
     refine WL.w0 [0] rfl (Wanted.plain rfl) rfl (.s 90 rfl (.k .nil)) (w_storeEl (kd := kEdgeType) (z := (EdgeType.mk ((rd t139 0).fName) ((rd t139 0).fFrom) ((rd t139 0).fTo) ((rd t139 0).fOutLow) (-1) ((rd t139 0).fInLow) ((rd t139 0).fInHigh))) rfl sh3 (CellsOf.one rfl) rfl rfl rfl c619.1 c619.2 rfl rfl) ?_
     rintro _ _ ⟨rfl, rfl⟩
     refine WL.nil ?_
     exact QN.weaken (.o2 rfl (.one rfl (.nil _))) (Kj149 () (t139.set (0 : Int).toNat (EdgeType.mk ((rd t139 0).fName) ((rd t139 0).fFrom) ((rd t139 0).fTo) ((rd t139 0).fOutLow) (-1) ((rd t139 0).fInLow) ((rd t139 0).fInHigh))) h)
    ·refine W.skip ?_
     exact QN.weaken (.o2 rfl (.one rfl (.nil _))) (Kj149 () t139 h)
 ·refine W.region ?_
  obtain ⟨t620, ht620, h⟩ := bind_s h
  refine WL.p rfl rfl rfl .nil (q_call (f := 11) (A := bA t620) (xs := []) («as» := []) rfl ca11 (law15_awake.con k  t620 ht620) rfl) <| p1 rfl 20 rfl (q_not rfl) <| mv rfl rfl ?_
  rcases bif_s h with ⟨hb621, h⟩ | ⟨hb621, h⟩
  ·refine sk rfl rfl rfl hb621 <| sk rfl rfl rfl hb621 <| sk rfl rfl rfl hb621 <| sk rfl rfl rfl hb621 <| pk rfl 22 rfl (q_pickT rfl hb621) <| mv rfl rfl <| sk rfl rfl rfl rfl <| sk rfl rfl rfl rfl <| sk rfl rfl rfl rfl <| sk rfl rfl rfl rfl <| pk rfl 28 rfl (q_pickT rfl rfl) <| WL.nil ?_
   exact QN.weaken (.o2 rfl (.one rfl (.nil _))) (Kj104 () true h)
  ·refine wf rfl rfl rfl hb621 rfl rfl fo55_0 rfl <| wl rfl rfl rfl hb621 rfl rfl sh52 <| wq rfl rfl rfl hb621 (.s 24 rfl .nil) (q_len rfl elS52).o <| wq rfl rfl rfl hb621 (.s 25 rfl (.k .nil)) (q_int rfl rfl).o <| p2 rfl 22 rfl 26 rfl (q_pickF rfl hb621) <| mv rfl rfl ?_
   rcases bif_s h with ⟨hb622, h⟩ | ⟨hb622, h⟩
   ·refine sk rfl rfl rfl hb622 <| sk rfl rfl rfl hb622 <| sk rfl rfl rfl hb622 <| sk rfl rfl rfl hb622 <| pk rfl 28 rfl (q_pickT rfl hb622) <| WL.nil ?_
    exact QN.weaken (.o2 rfl (.one rfl (.nil _))) (Kj104 () true h)
   ·refine wf rfl rfl rfl hb622 rfl rfl fo55_1 rfl <| wl rfl rfl rfl hb622 rfl rfl sh53 <| wq rfl rfl rfl hb622 (.s 30 rfl .nil) (q_len rfl elS53).o <| wq rfl rfl rfl hb622 (.s 31 rfl (.k .nil)) (q_int rfl rfl).o <| p2 rfl 28 rfl 32 rfl (q_pickF rfl hb622) <| WL.nil ?_
    exact QN.weaken (.o2 rfl (.one rfl (.nil _))) (Kj104 () (decide ((a0.fEdges.length : Int) > 10)) h)
end Go.Proofs.YthmdmchmmgmblaaGreat
