/- The Go functions compute the pure ones. (Printed by gen.py.) -/
import Derived.Test.YtcgdfjpeboiioaaGreatC9
namespace Go.Proofs.YtcgdfjpeboiioaaGreat
open Go Go.Abs
attribute [local irreducible] Tryz.prog
theorem ref21_attr.con (k : Nat) (a0 : Types) (a1 : Pattern) (a2 : Int) (a3 : Int) (r : (Attr × Bool)) (h : ref21_attr k a0 a1 a2 a3 = some r) : Con Tryz.prog 61 [] [AggA [SlcA kNodeType a0.fNodes, SlcA kEdgeType a0.fEdges], AggA [SlcA kInt a1.fGraph.fNodes, SlcA kEdge a1.fGraph.fEdges, SlcA kSlot a1.fSlots, iA a1.fVars, SlcA kTest a1.fTests], iA a2, iA a3] (RA (TupA [AggA [EqA (strV r.1.fName), iA r.1.fLow, iA r.1.fHigh, SlcA kStr r.1.fNames], bA r.2])) := by
 unfold ref21_attr at h
 refine Con.of (N := 51) Tryz.func61 rfl rfl rfl fun w0_ fg_ => sr <| p1 rfl 0 rfl (q_box rfl (CellsOf.agg _)) <| p1 rfl 1 rfl (q_box rfl (CellsOf.agg _)) <| WL.w [] rfl (Wanted.plain rfl) rfl rfl .nil (w_alloc rfl z95 (l := [EqA (strV ([] : Str)), iA 0, iA 0, EqA (.slice none 0 0)]) rfl) ?_
 rintro _ _ ⟨b100, rfl, rfl⟩
 refine ak rfl <| nt <| W.seq <| W.seq ?_
 refine W.jn1 (Γ := Unit) (fun (_ : Unit) (x21 : Bool) => [(2, iA a2), (3, iA a3), (4, PtrA [SlcA kNodeType a0.fNodes, SlcA kEdgeType a0.fEdges]), (5, PtrA [SlcA kInt a1.fGraph.fNodes, SlcA kEdge a1.fGraph.fEdges, SlcA kSlot a1.fSlots, iA a1.fVars, SlcA kTest a1.fTests]), (8, EqA (.pointer (some ⟨b100, 0, none⟩))), (21, bA x21)]) (fun (_ : Unit) (_ : Bool) => [BoxE b100 [EqA (strV ([] : Str)), iA 0, iA 0, EqA (.slice none 0 0)]]) h (fun _ x21 h => ?_) (fun j103 Kj103 h => ?_)
 ·refine QN.then_ ?_
  refine W.condP h rfl (fun hb104 h => ?_) (fun hb104 h => ?_)
  ·refine sr <| WL.p rfl rfl rfl .nil (q_build (is := []) (xs := []) (L := [EqA (strV ([] : Str)), iA 0, iA 0, EqA (.slice none 0 0)]) rfl rfl z95 pl95 rfl rfl .nil rfl) <| WL.w0 [0] rfl (Wanted.plain rfl) rfl (.s 8 rfl (.s 22 rfl .nil)) (w_store (L := [EqA (strV ([] : Str)), iA 0, iA 0, EqA (.slice none 0 0)]) rfl sh95 (CellsOf.agg _) rfl rfl (leB rfl) rfl) ?_
   rintro _ _ ⟨rfl, rfl⟩
   refine ak rfl <| nt <| W.ret <| QR.then_ ?_
   cases h
   exact QR.f2 rfl rfl (.cs (i := 0) rfl sh95 rfl rfl) (.t rfl) (.imp (Imp.tup (.cons (Imp.agg (.cons (Imp.id _) (.cons (Imp.id _) (.cons (Imp.id _) (.cons (Imp.nil kStr) .nil))))) (.cons (Imp.id _) .nil))))
  ·refine W.skip <| QN.then_ <| W.seq <| W.drawK [(0, false), (1, false), (2, false), (3, false), (4, false), (5, false), (6, false), (7, false), (8, false), (9, false), (10, false), (11, false), (12, false)] [] (bm [0, 0, 2, 6, 0, 30, 62, 127, 255, 511, 511, 1023, 4095]) mx (by kernel_rfl) <| DK.cons rfl rfl (.p rfl (.s 4 rfl .nil) rfl (q_loadS rfl sh35 (leB rfl) rfl)) <| df rfl rfl rfl fo42_0 rfl <| df rfl rfl rfl fo38_0 rfl <| dl rfl rfl rfl sh26 <| dm rfl rfl rfl ?_
   obtain ⟨c109, h⟩ := ite_n h
   refine DK.cons rfl rfl (.p rfl (.s 27 rfl (.s 28 rfl .nil)) rfl (q_index rfl el26 rfl c109.1 c109.2)) <| dl rfl rfl rfl sh3 ?_
   obtain ⟨t110, ht110, h⟩ := bind_s h
   refine DK.cons rfl rfl (.p rfl (.s 24 rfl (.s 30 rfl .nil)) rfl (q_call (f := 86) (A := TupA [SlcA kAttr t110.1, iA t110.2]) (xs := [.tmp 24, .tmp 30]) («as» := [AggA [SlcA kNodeType a0.fNodes, SlcA kEdgeType a0.fEdges], iA (rd a1.fGraph.fNodes a2)]) rfl ca86 (ref04_Attrs.con k a0 (rd a1.fGraph.fNodes a2) t110 ht110) rfl)) <| dm rfl rfl rfl <| DK.cons rfl rfl (.p rfl (.s 23 rfl .nil) rfl (q_extract rfl rfl)) <| DK.cons rfl rfl (.p rfl (.s 23 rfl .nil) rfl (q_extract rfl rfl)) <| DK.cons rfl rfl (.p rfl (.s 32 rfl .nil) rfl (q_assign rfl)) <| DK.cons rfl rfl (.p rfl (.s 33 rfl .nil) rfl (q_assign rfl)) <| DK.nil <| CSteps.nil <| QN.weaken (env' := [(11, _), (10, _), (8, _), (3, _)]) (.o4 rfl (.nil _)) <| QN.then_ <| W.seq <| W.seq ?_
   refine W.jn1 (Γ := Unit) (fun (_ : Unit) (x45 : Bool) => [(3, iA a3), (8, EqA (.pointer (some ⟨b100, 0, none⟩))), (10, SlcA kAttr t110.1), (45, bA x45)]) (fun (_ : Unit) (_ : Bool) => [BoxE b100 [EqA (strV ([] : Str)), iA 0, iA 0, EqA (.slice none 0 0)]]) h (fun _ x45 h => ?_) (fun j114 Kj114 h => ?_)
   ·refine QN.then_ ?_
    refine W.condP h rfl (fun hb115 h => ?_) (fun hb115 h => ?_)
    ·refine sr <| WL.p rfl rfl rfl .nil (q_build (is := []) (xs := []) (L := [EqA (strV ([] : Str)), iA 0, iA 0, EqA (.slice none 0 0)]) rfl rfl z95 pl95 rfl rfl .nil rfl) <| WL.w0 [0] rfl (Wanted.plain rfl) rfl (.s 8 rfl (.s 46 rfl .nil)) (w_store (L := [EqA (strV ([] : Str)), iA 0, iA 0, EqA (.slice none 0 0)]) rfl sh95 (CellsOf.agg _) rfl rfl (leB rfl) rfl) ?_
     rintro _ _ ⟨rfl, rfl⟩
     refine ak rfl <| nt <| W.ret <| QR.then_ ?_
     cases h
     exact QR.f2 rfl rfl (.cs (i := 0) rfl sh95 rfl rfl) (.t rfl) (.imp (Imp.tup (.cons (Imp.agg (.cons (Imp.id _) (.cons (Imp.id _) (.cons (Imp.id _) (.cons (Imp.nil kStr) .nil))))) (.cons (Imp.id _) .nil))))
    ·refine W.skip <| QN.then_ <| sr <| mv rfl rfl <| mv rfl rfl ?_
     obtain ⟨c116, h⟩ := ite_n h
     refine p2 rfl 47 rfl 48 rfl (q_index rfl el90 rfl c116.1 c116.2) <| lS rfl rfl sh95 rfl rfl <| WL.w0 [0] rfl (Wanted.plain rfl) rfl (.s 8 rfl (.s 50 rfl .nil)) (w_store (L := [EqA (strV ((rd t110.1 a3).fName)), iA ((rd t110.1 a3).fLow), iA ((rd t110.1 a3).fHigh), SlcA kStr ((rd t110.1 a3).fNames)]) rfl sh95 (CellsOf.agg _) rfl rfl (leB rfl) rfl) ?_
     rintro _ _ ⟨rfl, rfl⟩
     refine ak rfl <| WL.nil <| QN.weaken (env' := [(9, _), (8, _)]) (.o2 rfl (.nil _)) <| QN.then_ <| W.ret ?_
     cases h
     exact QR.f2 rfl rfl (.cs (i := 0) rfl sh95 rfl rfl) (.t rfl) (.id _)
   ·refine W.region <| mv rfl rfl <| pk rfl 34 rfl (q_int rfl rfl) <| mv rfl rfl ?_
    rcases bif_s h with ⟨hb117, h⟩ | ⟨hb117, h⟩
    ·refine sk rfl rfl rfl hb117 <| sk rfl rfl rfl hb117 <| pk rfl 36 rfl (q_pickT rfl hb117) <| mv rfl rfl <| sk rfl rfl rfl rfl <| sk rfl rfl rfl rfl <| sk rfl rfl rfl rfl <| sk rfl rfl rfl rfl <| pk rfl 40 rfl (q_pickT rfl rfl) <| WL.nil ?_
     exact QN.weaken (.o4 rfl (.nil _)) (Kj114 () true h)
    ·refine wm rfl rfl rfl hb117 rfl rfl <| wq rfl rfl rfl hb117 (.s 37 rfl (.k .nil)) (q_int rfl rfl).o <| p2 rfl 36 rfl 38 rfl (q_pickF rfl hb117) <| mv rfl rfl ?_
     rcases bif_s h with ⟨hb118, h⟩ | ⟨hb118, h⟩
     ·refine sk rfl rfl rfl hb118 <| sk rfl rfl rfl hb118 <| sk rfl rfl rfl hb118 <| sk rfl rfl rfl hb118 <| pk rfl 40 rfl (q_pickT rfl hb118) <| WL.nil ?_
      exact QN.weaken (.o4 rfl (.nil _)) (Kj114 () true h)
     ·refine wm rfl rfl rfl hb118 rfl rfl <| wm rfl rfl rfl hb118 rfl rfl <| wq rfl rfl rfl hb118 (.s 42 rfl .nil) (q_len rfl elS90).o <| wq rfl rfl rfl hb118 (.s 41 rfl (.s 43 rfl .nil)) (q_int rfl rfl).o <| p2 rfl 40 rfl 44 rfl (q_pickF rfl hb118) <| WL.nil ?_
      exact QN.weaken (.o4 rfl (.nil _)) (Kj114 () (decide (a3 ≥ (t110.1.length : Int))) h)
 ·refine W.region <| mv rfl rfl <| pk rfl 12 rfl (q_int rfl rfl) <| mv rfl rfl ?_
  rcases bif_s h with ⟨hb119, h⟩ | ⟨hb119, h⟩
  ·refine sk rfl rfl rfl hb119 <| sk rfl rfl rfl hb119 <| sk rfl rfl rfl hb119 <| sk rfl rfl rfl hb119 <| sk rfl rfl rfl hb119 <| sk rfl rfl rfl hb119 <| pk rfl 14 rfl (q_pickT rfl hb119) <| WL.nil ?_
   exact QN.weaken (.o4 rfl (.o2 rfl (.nil _))) (Kj103 () true h)
  ·refine wm rfl rfl rfl hb119 rfl rfl <| wf rfl rfl rfl hb119 rfl rfl fo42_0 rfl <| wf rfl rfl rfl hb119 rfl rfl fo38_0 rfl <| wl rfl rfl rfl hb119 rfl rfl sh26 <| wq rfl rfl rfl hb119 (.s 18 rfl .nil) (q_len rfl elS26).o <| wq rfl rfl rfl hb119 (.s 15 rfl (.s 19 rfl .nil)) (q_int rfl rfl).o <| p2 rfl 14 rfl 20 rfl (q_pickF rfl hb119) <| WL.nil ?_
   exact QN.weaken (.o4 rfl (.o2 rfl (.nil _))) (Kj103 () (decide (a2 ≥ (a1.fGraph.fNodes.length : Int))) h)
theorem ref21_bounded.con (k : Nat) (a0 : Int) (r : Bool) (h : ref21_bounded k a0 = some r) : Con Tryz.prog 62 [] [iA a0] (RA (bA r)) := by
 unfold ref21_bounded at h
 refine Con.of (N := 9) Tryz.func62 rfl rfl rfl fun w0_ fg_ => sr <| ak rfl <| nt <| W.seq ?_
 refine W.jn1 (Γ := Unit) (fun (_ : Unit) (x2 : Bool) => [(2, bA x2)]) (fun (_ : Unit) (_ : Bool) => []) h (fun _ x2 h => ?_) (fun j102 Kj102 h => ?_)
 ·refine QN.then_ <| W.ret ?_
  cases h
  exact QR.f1 rfl rfl (.t rfl) (.id _)
 ·refine W.region <| mv rfl rfl <| pk rfl 3 rfl (q_int rfl rfl) <| mv rfl rfl ?_
  rcases bif_s h with ⟨hb103, h⟩ | ⟨hb103, h⟩
  ·refine wm rfl rfl rfl hb103 rfl rfl <| wq rfl rfl rfl hb103 (.s 6 rfl (.k .nil)) (q_int rfl rfl).o <| p2 rfl 5 rfl 7 rfl (q_pickT rfl hb103) <| av rfl rfl <| WL.nil ?_
   exact QN.weaken (.one rfl (.nil _)) (Kj102 () (decide (a0 ≤ 1000000)) h)
  ·refine sk rfl rfl rfl hb103 <| sk rfl rfl rfl hb103 <| pk rfl 5 rfl (q_pickF rfl hb103) <| av rfl rfl <| WL.nil ?_
   exact QN.weaken (.one rfl (.nil _)) (Kj102 () false h)
theorem ref03_within.con (k : Nat) (a0 : Int) (a1 : Term) (r : Int) (h : ref03_within k a0 a1 = some r) : Con Tryz.prog 155 [] [iA a0, AggA [iA a1.fVar, iA a1.fAdd]] (RA (iA r)) := by
 unfold ref03_within at h
 refine Con.of (N := 24) Tryz.func155 rfl rfl rfl fun w0_ fg_ => sr <| p1 rfl 1 rfl (q_box rfl (CellsOf.agg _)) <| ak rfl <| nt <| W.seq <| W.seq ?_
 refine W.jn1 (Γ := Unit) (fun (_ : Unit) (x23 : Bool) => [(23, bA x23)]) (fun (_ : Unit) (_ : Bool) => []) h (fun _ x23 h => ?_) (fun j104 Kj104 h => ?_)
 ·refine QN.then_ ?_
  refine W.condP h rfl (fun hb105 h => ?_) (fun hb105 h => ?_)
  ·refine sr <| ak rfl <| nt <| W.ret <| QR.then_ ?_
   cases h
   exact QR.f1 rfl rfl (.t rfl) (.id _)
  ·refine W.skip <| QN.then_ <| sr <| ak rfl <| nt <| W.ret ?_
   cases h
   exact QR.f1 rfl rfl (.t rfl) (.id _)
 ·refine W.region <| fd rfl rfl fo23_0 rfl <| ld rfl rfl sh3 <| pk rfl 6 rfl (q_int rfl rfl) <| mv rfl rfl ?_
  rcases bif_s h with ⟨hb106, h⟩ | ⟨hb106, h⟩
  ·refine sk rfl rfl rfl hb106 <| sk rfl rfl rfl hb106 <| sk rfl rfl rfl hb106 <| sk rfl rfl rfl hb106 <| pk rfl 8 rfl (q_pickT rfl hb106) <| mv rfl rfl <| sk rfl rfl rfl rfl <| sk rfl rfl rfl rfl <| sk rfl rfl rfl rfl <| pk rfl 14 rfl (q_pickT rfl rfl) <| mv rfl rfl <| sk rfl rfl rfl rfl <| sk rfl rfl rfl rfl ?_
   refine sk rfl rfl rfl rfl <| pk rfl 19 rfl (q_pickT rfl rfl) <| WL.nil ?_
   exact QN.weaken (.one rfl (.nil _)) (Kj104 () true h)
  ·refine wf rfl rfl rfl hb106 rfl rfl fo23_0 rfl <| wl rfl rfl rfl hb106 rfl rfl sh3 <| wm rfl rfl rfl hb106 rfl rfl <| wq rfl rfl rfl hb106 (.s 10 rfl (.s 11 rfl .nil)) (q_int rfl rfl).o <| p2 rfl 8 rfl 12 rfl (q_pickF rfl hb106) <| mv rfl rfl ?_
   rcases bif_s h with ⟨hb107, h⟩ | ⟨hb107, h⟩
   ·refine sk rfl rfl rfl hb107 <| sk rfl rfl rfl hb107 <| sk rfl rfl rfl hb107 <| pk rfl 14 rfl (q_pickT rfl hb107) <| mv rfl rfl <| sk rfl rfl rfl rfl <| sk rfl rfl rfl rfl <| sk rfl rfl rfl rfl <| pk rfl 19 rfl (q_pickT rfl rfl) <| WL.nil ?_
    exact QN.weaken (.one rfl (.nil _)) (Kj104 () true h)
   ·refine wf rfl rfl rfl hb107 rfl rfl fo23_1 rfl <| wl rfl rfl rfl hb107 rfl rfl sh3 <| wq rfl rfl rfl hb107 (.s 16 rfl (.k .nil)) (q_int rfl rfl).o <| p2 rfl 14 rfl 17 rfl (q_pickF rfl hb107) <| mv rfl rfl ?_
    rcases bif_s h with ⟨hb108, h⟩ | ⟨hb108, h⟩
    ·refine sk rfl rfl rfl hb108 <| sk rfl rfl rfl hb108 <| sk rfl rfl rfl hb108 <| pk rfl 19 rfl (q_pickT rfl hb108) <| WL.nil ?_
     exact QN.weaken (.one rfl (.nil _)) (Kj104 () true h)
    ·refine wf rfl rfl rfl hb108 rfl rfl fo23_1 rfl <| wl rfl rfl rfl hb108 rfl rfl sh3 <| wq rfl rfl rfl hb108 (.s 21 rfl (.k .nil)) (q_int rfl rfl).o <| p2 rfl 19 rfl 22 rfl (q_pickF rfl hb108) <| WL.nil ?_
     exact QN.weaken (.one rfl (.nil _)) (Kj104 () (decide (a1.fAdd > 1000000)) h)
theorem ref03_One.con (k : Nat) (a0 : Int) (a1 : Test) (r : Int) (h : ref03_One k a0 a1 = some r) : Con Tryz.prog 115 [] [iA a0, AggA [iA a1.fKind, iA a1.fLeft.fVar, iA a1.fLeft.fAdd, iA a1.fRight.fVar, iA a1.fRight.fAdd]] (RA (iA r)) := by
 unfold ref03_One at h
 refine Con.of (N := 25) Tryz.func115 rfl rfl rfl fun w0_ fg_ => sr <| p1 rfl 1 rfl (q_box rfl (CellsOf.agg _)) <| ak rfl <| nt <| W.seq <| W.seq ?_
 refine W.jn1 (Γ := Unit) (fun (_ : Unit) (x13 : Bool) => [(0, iA a0), (3, PtrA [iA a1.fKind, iA a1.fLeft.fVar, iA a1.fLeft.fAdd, iA a1.fRight.fVar, iA a1.fRight.fAdd]), (13, bA x13)]) (fun (_ : Unit) (_ : Bool) => []) h (fun _ x13 h => ?_) (fun j102 Kj102 h => ?_)
 ·refine QN.then_ ?_
  refine W.condP h rfl (fun hb103 h => ?_) (fun hb103 h => ?_)
  ·refine sr <| ak rfl <| nt <| W.ret <| QR.then_ ?_
   cases h
   exact QR.f1 rfl rfl (.t rfl) (.id _)
  ·refine W.skip <| QN.then_ <| W.seq <| sr <| mv rfl rfl <| fd rfl rfl fo86_1 rfl <| lS rfl rfl sh23 rfl rfl ?_
   obtain ⟨t104, ht104, h⟩ := bind_s h
   refine p2 rfl 14 rfl 16 rfl (q_call (f := 155) (A := iA t104) (xs := [.tmp 14, .tmp 16]) («as» := [iA a0, AggA [iA a1.fLeft.fVar, iA a1.fLeft.fAdd]]) rfl ca155 (ref03_within.con k a0 a1.fLeft t104 ht104) rfl) <| av rfl rfl <| nx <| mv rfl rfl <| pk rfl 18 rfl (q_int rfl rfl) <| nt ?_
   refine W.condP h rfl (fun hb105 h => ?_) (fun hb105 h => ?_)
   ·refine sr <| mv rfl rfl <| av rfl rfl <| WL.nil <| QN.weaken (env' := [(4, _)]) (.one rfl (.nil _)) <| QN.then_ <| W.ret <| QR.then_ ?_
    cases h
    exact QR.f1 rfl rfl (.t rfl) (.id _)
   ·refine W.skip <| QN.weaken (env' := [(3, _), (0, _)]) (.o2 rfl (.nil _)) <| QN.then_ <| sr <| mv rfl rfl <| fd rfl rfl fo86_2 rfl <| lS rfl rfl sh23 rfl rfl ?_
    obtain ⟨t106, ht106, h⟩ := bind_s h
    refine p2 rfl 21 rfl 23 rfl (q_call (f := 155) (A := iA t106) (xs := [.tmp 21, .tmp 23]) («as» := [iA a0, AggA [iA a1.fRight.fVar, iA a1.fRight.fAdd]]) rfl ca155 (ref03_within.con k a0 a1.fRight t106 ht106) rfl) <| av rfl rfl <| nt <| W.ret ?_
    cases h
    exact QR.f1 rfl rfl (.t rfl) (.id _)
 ·refine W.region <| fd rfl rfl fo86_0 rfl <| ld rfl rfl sh3 <| pk rfl 7 rfl (q_int rfl rfl) <| mv rfl rfl ?_
  rcases bif_s h with ⟨hb107, h⟩ | ⟨hb107, h⟩
  ·refine wf rfl rfl rfl hb107 rfl rfl fo86_0 rfl <| wl rfl rfl rfl hb107 rfl rfl sh3 <| wq rfl rfl rfl hb107 (.s 11 rfl (.k .nil)) (q_int rfl rfl).o <| p2 rfl 9 rfl 12 rfl (q_pickT rfl hb107) <| WL.nil ?_
   exact QN.weaken (.o2 rfl (.one rfl (.nil _))) (Kj102 () (a1.fKind != 2) h)
  ·refine sk rfl rfl rfl hb107 <| sk rfl rfl rfl hb107 <| sk rfl rfl rfl hb107 <| pk rfl 9 rfl (q_pickF rfl hb107) <| WL.nil ?_
   exact QN.weaken (.o2 rfl (.one rfl (.nil _))) (Kj102 () false h)
theorem ref03_Valid.con (k : Nat) (a0 : Int) (a1 : (List Test)) (r : Int) (h : ref03_Valid k a0 a1 = some r) : Con Tryz.prog 63 [] [iA a0, SlcA kTest a1] (RA (iA r)) := by
 unfold ref03_Valid at h
 refine Con.of (N := 31) Tryz.func63 rfl rfl rfl fun w0_ fg_ => sr <| ak rfl <| nt <| W.seq <| W.seq ?_
 refine W.jn1 (Γ := Unit) (fun (_ : Unit) (x12 : Bool) => [(0, iA a0), (1, SlcA kTest a1), (12, bA x12)]) (fun (_ : Unit) (_ : Bool) => []) h (fun _ x12 h => ?_) (fun j102 Kj102 h => ?_)
 ·refine QN.then_ ?_
  refine W.condP h rfl (fun hb103 h => ?_) (fun hb103 h => ?_)
  ·refine sr <| ak rfl <| nt <| W.ret <| QR.then_ ?_
   cases h
   exact QR.f1 rfl rfl (.t rfl) (.id _)
  ·refine W.skip <| QN.then_ <| W.seq <| sr <| mv rfl rfl <| p1 rfl 13 rfl (q_len rfl elS40) <| pk rfl 14 rfl (q_int rfl rfl) <| nt ?_
   refine W.condP h rfl (fun hb104 h => ?_) (fun hb104 h => ?_)
   ·refine sr <| ak rfl <| nt <| W.ret <| QR.then_ ?_
    cases h
    exact QR.f1 rfl rfl (.t rfl) (.id _)
   ·refine W.skip <| QN.then_ <| W.seq <| sr <| ak rfl <| nt <| W.block ?_
    refine W.loop1 (Γ := Unit) (fun (_ : Unit) (x5 : Int) => [(0, iA a0), (1, SlcA kTest a1), (5, iA x5)]) (fun (_ : Unit) (_ : Int) => []) h () (.o2 rfl (.one rfl (.nil _))) rfl (fun rec0 K0 next0 _ x5 h => ?_)
    unfold ref03_Valid.b0 at h
    refine W.seq <| sr <| mv rfl rfl <| mv rfl rfl <| p1 rfl 17 rfl (q_len rfl elS40) <| p2 rfl 16 rfl 18 rfl (q_int rfl rfl) <| nt ?_
    refine W.condP h rfl (fun hb115 h => ?_) (fun hb115 h => ?_)
    ·refine W.skip <| QN.then_ <| W.seq <| W.block <| sr <| mv rfl rfl <| mv rfl rfl <| mv rfl rfl ?_
     obtain ⟨c116, h⟩ := ite_n h
     refine p2 rfl 23 rfl 24 rfl (q_index rfl el40 rfl c116.1 c116.2) <| lS rfl rfl sh86 rfl rfl ?_
     obtain ⟨t117, ht117, h⟩ := bind_s h
     refine p2 rfl 22 rfl 26 rfl (q_call (f := 115) (A := iA t117) (xs := [.tmp 22, .tmp 26]) («as» := [iA a0, AggA [iA ((rd a1 x5).fKind), iA ((rd a1 x5).fLeft.fVar), iA ((rd a1 x5).fLeft.fAdd), iA ((rd a1 x5).fRight.fVar), iA ((rd a1 x5).fRight.fAdd)]]) rfl ca115 (ref03_One.con k a0 (rd a1 x5) t117 ht117) rfl) <| av rfl rfl <| WL.nil <| QN.weaken (env' := [(6, _), (5, _), (1, _), (0, _)]) (.o4 rfl (.nil _)) <| QN.then_ <| sr <| mv rfl rfl <| pk rfl 28 rfl (q_int rfl rfl) <| nt ?_
     refine W.condP h rfl (fun hb118 h => ?_) (fun hb118 h => ?_)
     ·refine sr <| mv rfl rfl <| av rfl rfl <| WL.nil <| QN.weaken (env' := [(4, _)]) (.one rfl (.nil _)) <| QN.then_ <| W.ret <| QR.block <| QR.then_ <| QR.then_ <| QR.block <| QR.then_ ?_
      cases h
      exact QR.f1 rfl rfl (.t rfl) (.id _)
     ·refine W.skip <| QN.block <| QN.then_ <| W.region <| mv rfl rfl ?_
      obtain ⟨c119, h⟩ := ite_n h
      refine pk rfl 20 rfl (q_addR rfl c119) <| av rfl rfl <| WL.nil ?_
      exact next0 () (x5 + 1) _ h (.o2 rfl (.one rfl (.nil _)))
    ·refine W.exit <| QX.then_ <| QX.then_ <| QX.here <| QN.weaken (env' := []) (.nil _) <| QN.then_ <| sr <| ak rfl <| nt <| W.ret ?_
     cases h
     exact QR.f1 rfl rfl (.t rfl) (.id _)
 ·refine W.region <| mv rfl rfl <| pk rfl 7 rfl (q_int rfl rfl) <| mv rfl rfl ?_
  rcases bif_s h with ⟨hb120, h⟩ | ⟨hb120, h⟩
  ·refine sk rfl rfl rfl hb120 <| sk rfl rfl rfl hb120 <| pk rfl 9 rfl (q_pickT rfl hb120) <| WL.nil ?_
   exact QN.weaken (.o2 rfl (.one rfl (.nil _))) (Kj102 () true h)
  ·refine wm rfl rfl rfl hb120 rfl rfl <| wq rfl rfl rfl hb120 (.s 10 rfl (.k .nil)) (q_int rfl rfl).o <| p2 rfl 9 rfl 11 rfl (q_pickF rfl hb120) <| WL.nil ?_
   exact QN.weaken (.o2 rfl (.one rfl (.nil _))) (Kj102 () (decide (a0 > 12)) h)
theorem ref21_occurs.con (k : Nat) (a0 : Pattern) (a1 : Int) (r : Bool) (h : ref21_occurs k a0 a1 = some r) : Con Tryz.prog 64 [] [AggA [SlcA kInt a0.fGraph.fNodes, SlcA kEdge a0.fGraph.fEdges, SlcA kSlot a0.fSlots, iA a0.fVars, SlcA kTest a0.fTests], iA a1] (RA (bA r)) := by
 unfold ref21_occurs at h
 refine Con.of (N := 22) Tryz.func64 rfl rfl rfl fun w0_ fg_ => sr <| p1 rfl 0 rfl (q_box rfl (CellsOf.agg _)) <| ak rfl <| nt <| W.seq <| sr <| ak rfl <| nt ?_
 refine W.block ?_
 refine W.loop1 (Γ := Unit) (fun (_ : Unit) (x5 : Int) => [(1, iA a1), (2, PtrA [SlcA kInt a0.fGraph.fNodes, SlcA kEdge a0.fGraph.fEdges, SlcA kSlot a0.fSlots, iA a0.fVars, SlcA kTest a0.fTests]), (5, iA x5)]) (fun (_ : Unit) (_ : Int) => []) h () (.o2 rfl (.one rfl (.nil _))) rfl (fun rec0 K0 next0 _ x5 h => ?_)
 unfold ref21_occurs.b0 at h
 refine W.seq <| sr <| mv rfl rfl <| fd rfl rfl fo42_1 rfl <| ld rfl rfl sh39 <| p1 rfl 8 rfl (q_len rfl elS39) <| p2 rfl 6 rfl 9 rfl (q_int rfl rfl) <| nt ?_
 refine W.condP h rfl (fun hb108 h => ?_) (fun hb108 h => ?_)
 ·refine W.skip <| QN.then_ <| W.seq <| W.block <| sr <| fd rfl rfl fo42_1 rfl <| ld rfl rfl sh39 <| mv rfl rfl ?_
  obtain ⟨c109, h⟩ := ite_n h
  refine p2 rfl 14 rfl 15 rfl (q_index rfl el39 rfl c109.1 c109.2) <| fd rfl rfl fo113_2 rfl <| fd rfl rfl fo23_0 rfl <| ld rfl rfl sh3 <| mv rfl rfl <| p2 rfl 19 rfl 20 rfl (q_int rfl rfl) <| WL.nil <| QN.weaken (env' := [(21, _), (5, _), (2, _), (1, _)]) (.o4 rfl (.nil _)) <| QN.then_ ?_
  refine W.condP h rfl (fun hb110 h => ?_) (fun hb110 h => ?_)
  ·refine sr <| ak rfl <| nt <| W.ret <| QR.block <| QR.then_ <| QR.then_ <| QR.block <| QR.then_ ?_
   cases h
   exact QR.f1 rfl rfl (.t rfl) (.id _)
  ·refine W.skip <| QN.block <| QN.then_ <| W.region <| mv rfl rfl ?_
   obtain ⟨c111, h⟩ := ite_n h
   refine pk rfl 11 rfl (q_addR rfl c111) <| av rfl rfl <| WL.nil ?_
   exact next0 () (x5 + 1) _ h (.o2 rfl (.one rfl (.nil _)))
 ·refine W.exit <| QX.then_ <| QX.then_ <| QX.here <| QN.weaken (env' := []) (.nil _) <| QN.then_ <| sr <| ak rfl <| nt <| W.ret ?_
  cases h
  exact QR.f1 rfl rfl (.t rfl) (.id _)
theorem ref21_Valid.con (k : Nat) (a0 : Types) (a1 : Pattern) (r : Int) (h : ref21_Valid k a0 a1 = some r) : Con Tryz.prog 19 [] [AggA [SlcA kNodeType a0.fNodes, SlcA kEdgeType a0.fEdges], AggA [SlcA kInt a1.fGraph.fNodes, SlcA kEdge a1.fGraph.fEdges, SlcA kSlot a1.fSlots, iA a1.fVars, SlcA kTest a1.fTests]] (RA (iA r)) := by
 unfold ref21_Valid at h
 refine Con.of (N := 114) Tryz.func19 rfl rfl rfl fun w0_ fg_ => sr <| p1 rfl 0 rfl (q_box rfl (CellsOf.agg _)) <| p1 rfl 1 rfl (q_box rfl (CellsOf.agg _)) <| ak rfl <| nt <| W.seq <| sr <| lS rfl rfl sh35 rfl rfl ?_
 obtain ⟨t100, ht100, h⟩ := bind_s h
 refine p1 rfl 15 rfl (q_call (f := 58) (A := TupA [EqA (strV t100.1), iA t100.2]) (xs := [.tmp 15]) («as» := [AggA [SlcA kNodeType a0.fNodes, SlcA kEdgeType a0.fEdges]]) rfl ca58 (ref04_Valid.con k a0 t100 ht100) rfl) <| mv rfl rfl <| p1 rfl 14 rfl (q_extract rfl rfl) <| p1 rfl 14 rfl (q_extract rfl rfl) <| av rfl rfl <| av rfl rfl <| WL.nil <| QN.weaken (env' := [(6, _), (3, _), (2, _)]) (.o2 rfl (.one rfl (.nil _))) <| QN.then_ <| sr <| mv rfl rfl <| pk rfl 19 rfl (q_int rfl rfl) ?_
 refine nt ?_
 refine W.condP h rfl (fun hb101 h => ?_) (fun hb101 h => ?_)
 ·refine sr <| mv rfl rfl <| av rfl rfl <| nt <| W.ret <| QR.then_ ?_
  cases h
  exact QR.f1 rfl rfl (.t rfl) (.id _)
 ·refine W.skip <| QN.then_ <| W.seq <| sr <| fd rfl rfl fo42_0 rfl <| lS rfl rfl sh38 rfl rfl ?_
  obtain ⟨t102, ht102, h⟩ := bind_s h
  refine p1 rfl 23 rfl (q_call (f := 59) (A := iA t102) (xs := [.tmp 23]) («as» := [AggA [SlcA kInt a1.fGraph.fNodes, SlcA kEdge a1.fGraph.fEdges]]) rfl ca59 (ref05_Valid.con k a1.fGraph t102 ht102) rfl) <| av rfl rfl <| nx <| mv rfl rfl <| pk rfl 25 rfl (q_int rfl rfl) <| WL.nil <| QN.weaken (env' := [(26, _), (7, _), (3, _), (2, _)]) (.o4 rfl (.nil _)) <| QN.then_ ?_
  refine W.condP h rfl (fun hb103 h => ?_) (fun hb103 h => ?_)
  ·refine sr <| mv rfl rfl <| av rfl rfl <| nt <| W.ret <| QR.then_ ?_
   cases h
   exact QR.f1 rfl rfl (.t rfl) (.id _)
  ·refine W.skip <| QN.then_ <| W.seq <| sr <| lS rfl rfl sh35 rfl rfl <| fd rfl rfl fo42_0 rfl <| lS rfl rfl sh38 rfl rfl ?_
   obtain ⟨t104, ht104, h⟩ := bind_s h
   refine p2 rfl 28 rfl 30 rfl (q_call (f := 60) (A := bA t104) (xs := [.tmp 28, .tmp 30]) («as» := [AggA [SlcA kNodeType a0.fNodes, SlcA kEdgeType a0.fEdges], AggA [SlcA kInt a1.fGraph.fNodes, SlcA kEdge a1.fGraph.fEdges]]) rfl ca60 (ref17_Typed.con k a0 a1.fGraph t104 ht104) rfl) <| p1 rfl 31 rfl (q_not rfl) <| nt ?_
   refine W.condP h rfl (fun hb105 h => ?_) (fun hb105 h => ?_)
   ·refine sr <| ak rfl <| WL.nil <| QN.weaken (env' := [(4, _)]) (.one rfl (.nil _)) <| QN.then_ <| W.ret <| QR.then_ ?_
    cases h
    exact QR.f1 rfl rfl (.t rfl) (.id _)
   ·refine W.skip <| QN.weaken (env' := [(3, _), (2, _)]) (.o2 rfl (.nil _)) <| QN.then_ <| W.seq <| W.seq ?_
    refine W.jn1 (Γ := Unit) (fun (_ : Unit) (x40 : Bool) => [(2, PtrA [SlcA kNodeType a0.fNodes, SlcA kEdgeType a0.fEdges]), (3, PtrA [SlcA kInt a1.fGraph.fNodes, SlcA kEdge a1.fGraph.fEdges, SlcA kSlot a1.fSlots, iA a1.fVars, SlcA kTest a1.fTests]), (40, bA x40)]) (fun (_ : Unit) (_ : Bool) => []) h (fun _ x40 h => ?_) (fun j108 Kj108 h => ?_)
    ·refine QN.then_ ?_
     refine W.condP h rfl (fun hb109 h => ?_) (fun hb109 h => ?_)
     ·refine sr <| ak rfl <| nt <| W.ret <| QR.then_ ?_
      cases h
      exact QR.f1 rfl rfl (.t rfl) (.id _)
     ·refine W.skip <| QN.then_ <| W.seq <| W.seq ?_
      refine W.jn1 (Γ := Unit) (fun (_ : Unit) (x50 : Bool) => [(2, PtrA [SlcA kNodeType a0.fNodes, SlcA kEdgeType a0.fEdges]), (3, PtrA [SlcA kInt a1.fGraph.fNodes, SlcA kEdge a1.fGraph.fEdges, SlcA kSlot a1.fSlots, iA a1.fVars, SlcA kTest a1.fTests]), (50, bA x50)]) (fun (_ : Unit) (_ : Bool) => []) h (fun _ x50 h => ?_) (fun j112 Kj112 h => ?_)
      ·refine QN.then_ ?_
       refine W.condP h rfl (fun hb113 h => ?_) (fun hb113 h => ?_)
       ·refine sr <| ak rfl <| nt <| W.ret <| QR.then_ ?_
        cases h
        exact QR.f1 rfl rfl (.t rfl) (.id _)
       ·refine W.skip <| QN.then_ <| W.seq <| sr <| ak rfl <| nt <| W.block ?_
        refine W.loop1 (Γ := Unit) (fun (_ : Unit) (x8 : Int) => [(2, PtrA [SlcA kNodeType a0.fNodes, SlcA kEdgeType a0.fEdges]), (3, PtrA [SlcA kInt a1.fGraph.fNodes, SlcA kEdge a1.fGraph.fEdges, SlcA kSlot a1.fSlots, iA a1.fVars, SlcA kTest a1.fTests]), (8, iA x8)]) (fun (_ : Unit) (_ : Int) => []) h () (.o2 rfl (.one rfl (.nil _))) rfl (fun rec0 K0 next0 _ x8 h => ?_)
        unfold ref21_Valid.b0 at h
        refine W.seq <| sr <| mv rfl rfl <| fd rfl rfl fo42_1 rfl <| ld rfl rfl sh39 <| p1 rfl 53 rfl (q_len rfl elS39) <| p2 rfl 51 rfl 54 rfl (q_int rfl rfl) <| nt ?_
        refine W.condP h rfl (fun hb176 h => ?_) (fun hb176 h => ?_)
        ·refine W.skip <| QN.then_ <| W.seq <| W.block <| sr <| fd rfl rfl fo42_1 rfl <| ld rfl rfl sh39 <| mv rfl rfl ?_
         obtain ⟨c177, h⟩ := ite_n h
         refine p2 rfl 59 rfl 60 rfl (q_index rfl el39 rfl c177.1 c177.2) <| lS rfl rfl sh113 rfl rfl <| WL.w [] rfl (Wanted.plain rfl) rfl rfl .nil (w_alloc rfl z113 (l := [iA 0, iA 0, iA 0, iA 0]) rfl) ?_
         rintro _ _ ⟨b178, rfl, rfl⟩
         refine WL.w0 [0] rfl (Wanted.plain rfl) rfl (.s 9 rfl (.s 62 rfl .nil)) (w_store (L := [iA ((rd a1.fSlots x8).fNode), iA ((rd a1.fSlots x8).fAttr), iA ((rd a1.fSlots x8).fTerm.fVar), iA ((rd a1.fSlots x8).fTerm.fAdd)]) rfl sh113 (CellsOf.agg _) rfl rfl (leB rfl) rfl) ?_
         rintro _ _ ⟨rfl, rfl⟩
         refine WL.nil <| QN.to (StTo.still [0] 9 rfl rfl) <| QN.weaken (env' := [(9, _), (8, _), (3, _), (2, _)]) (.o4 rfl (.nil _)) <| QN.then_ <| sr <| lS rfl rfl sh35 rfl rfl <| lS rfl rfl sh42 rfl rfl <| fd rfl rfl fo113_0 rfl <| ld rfl rfl sh3 <| fd rfl rfl fo113_1 rfl <| ld rfl rfl sh3 ?_
         obtain ⟨t179, ht179, h⟩ := bind_s h
         refine WL.p rfl rfl rfl (.s 64 rfl (.s 65 rfl (.s 67 rfl (.s 69 rfl .nil)))) (q_call (f := 61) (A := TupA [AggA [EqA (strV t179.1.fName), iA t179.1.fLow, iA t179.1.fHigh, SlcA kStr t179.1.fNames], bA t179.2]) (xs := [.tmp 64, .tmp 65, .tmp 67, .tmp 69]) («as» := [AggA [SlcA kNodeType a0.fNodes, SlcA kEdgeType a0.fEdges], AggA [SlcA kInt a1.fGraph.fNodes, SlcA kEdge a1.fGraph.fEdges, SlcA kSlot a1.fSlots, iA a1.fVars, SlcA kTest a1.fTests], iA ((rd a1.fSlots x8).fNode), iA ((rd a1.fSlots x8).fAttr)]) rfl ca61 (ref21_attr.con k a0 a1 ((rd a1.fSlots x8).fNode) ((rd a1.fSlots x8).fAttr) t179 ht179) rfl) <| mv rfl rfl <| p1 rfl 63 rfl (q_extract rfl rfl) <| p1 rfl 63 rfl (q_extract rfl rfl) <| WL.w [] rfl (Wanted.plain rfl) rfl rfl .nil (w_alloc rfl z95 (l := [EqA (strV ([] : Str)), iA 0, iA 0, EqA (.slice none 0 0)]) rfl) ?_
         rintro _ _ ⟨b180, rfl, rfl⟩
         refine WL.w0 [0] rfl (Wanted.plain rfl) rfl (.s 10 rfl (.s 71 rfl .nil)) (w_store (L := [EqA (strV t179.1.fName), iA t179.1.fLow, iA t179.1.fHigh, SlcA kStr t179.1.fNames]) rfl sh95 (CellsOf.agg _) rfl rfl (leB rfl) rfl) ?_
         rintro _ _ ⟨rfl, rfl⟩
         refine av rfl rfl <| WL.nil <| QN.to (StTo.still [0] 10 rfl rfl) <| QN.weaken (env' := [(11, _), (9, _), (8, _), (3, _), (2, _)]) (.o4 rfl (.one rfl (.nil _))) <| QN.then_ <| W.seq ?_
         refine W.jn1 (Γ := Unit) (fun (_ : Unit) (x95 : Bool) => [(2, PtrA [SlcA kNodeType a0.fNodes, SlcA kEdgeType a0.fEdges]), (3, PtrA [SlcA kInt a1.fGraph.fNodes, SlcA kEdge a1.fGraph.fEdges, SlcA kSlot a1.fSlots, iA a1.fVars, SlcA kTest a1.fTests]), (8, iA x8), (95, bA x95)]) (fun (_ : Unit) (_ : Bool) => []) h (fun _ x95 h => ?_) (fun j186 Kj186 h => ?_)
         ·refine QN.then_ ?_
          refine W.condP h rfl (fun hb187 h => ?_) (fun hb187 h => ?_)
          ·refine sr <| ak rfl <| nt <| W.ret <| QR.block <| QR.then_ <| QR.then_ <| QR.block <| QR.then_ ?_
           cases h
           exact QR.f1 rfl rfl (.t rfl) (.id _)
          ·refine W.skip <| QN.block <| QN.then_ <| W.region <| mv rfl rfl ?_
           obtain ⟨c188, h⟩ := ite_n h
           refine pk rfl 56 rfl (q_addR rfl c188) <| av rfl rfl <| WL.nil ?_
           exact next0 () (x8 + 1) _ h (.o2 rfl (.one rfl (.nil _)))
         ·refine W.region <| mv rfl rfl <| p1 rfl 73 rfl (q_not rfl) <| mv rfl rfl ?_
          rcases bif_s h with ⟨hb189, h⟩ | ⟨hb189, h⟩
          ·refine sk rfl rfl rfl hb189 <| sk rfl rfl rfl hb189 <| sk rfl rfl rfl hb189 <| sk rfl rfl rfl hb189 <| pk rfl 75 rfl (q_pickT rfl hb189) <| mv rfl rfl <| sk rfl rfl rfl rfl <| sk rfl rfl rfl rfl <| sk rfl rfl rfl rfl <| sk rfl rfl rfl rfl <| sk rfl rfl rfl rfl <| sk rfl rfl rfl rfl <| pk rfl 81 rfl (q_pickT rfl rfl) ?_
           refine mv rfl rfl <| sk rfl rfl rfl rfl <| sk rfl rfl rfl rfl <| sk rfl rfl rfl rfl <| sk rfl rfl rfl rfl <| sk rfl rfl rfl rfl <| pk rfl 89 rfl (q_pickT rfl rfl) <| WL.nil ?_
           exact QN.weaken (.o4 rfl (.nil _)) (Kj186 () true h)
          ·refine wf rfl rfl rfl hb189 rfl rfl fo113_2 rfl <| wf rfl rfl rfl hb189 rfl rfl fo23_0 rfl <| wl rfl rfl rfl hb189 rfl rfl sh3 <| wq rfl rfl rfl hb189 (.s 78 rfl (.k .nil)) (q_int rfl rfl).o <| p2 rfl 75 rfl 79 rfl (q_pickF rfl hb189) <| mv rfl rfl ?_
           rcases bif_s h with ⟨hb190, h⟩ | ⟨hb190, h⟩
           ·refine sk rfl rfl rfl hb190 <| sk rfl rfl rfl hb190 <| sk rfl rfl rfl hb190 <| sk rfl rfl rfl hb190 <| sk rfl rfl rfl hb190 <| sk rfl rfl rfl hb190 <| pk rfl 81 rfl (q_pickT rfl hb190) <| mv rfl rfl <| sk rfl rfl rfl rfl <| sk rfl rfl rfl rfl <| sk rfl rfl rfl rfl <| sk rfl rfl rfl rfl <| sk rfl rfl rfl rfl ?_
            refine pk rfl 89 rfl (q_pickT rfl rfl) <| WL.nil ?_
            exact QN.weaken (.o4 rfl (.nil _)) (Kj186 () true h)
           ·refine wf rfl rfl rfl hb190 rfl rfl fo113_2 rfl <| wf rfl rfl rfl hb190 rfl rfl fo23_0 rfl <| wl rfl rfl rfl hb190 rfl rfl sh3 <| wf rfl rfl rfl hb190 rfl rfl fo42_2 rfl <| wl rfl rfl rfl hb190 rfl rfl sh3 <| wq rfl rfl rfl hb190 (.s 84 rfl (.s 86 rfl .nil)) (q_int rfl rfl).o <| p2 rfl 81 rfl 87 rfl (q_pickF rfl hb190) <| mv rfl rfl ?_
            rcases bif_s h with ⟨hb191, h⟩ | ⟨hb191, h⟩
            ·refine sk rfl rfl rfl hb191 <| sk rfl rfl rfl hb191 <| sk rfl rfl rfl hb191 <| sk rfl rfl rfl hb191 <| sk rfl rfl rfl hb191 <| pk rfl 89 rfl (q_pickT rfl hb191) <| WL.nil ?_
             exact QN.weaken (.o4 rfl (.nil _)) (Kj186 () true h)
            ·refine wf rfl rfl rfl hb191 rfl rfl fo113_2 rfl <| wf rfl rfl rfl hb191 rfl rfl fo23_1 rfl <| wl rfl rfl rfl hb191 rfl rfl sh3 ?_
             obtain ⟨t192, ht192, h⟩ := bind_s h
             refine wq rfl rfl rfl hb191 (.s 92 rfl .nil) (q_call (f := 62) (A := bA t192) (xs := [.tmp 92]) («as» := [iA ((rd a1.fSlots x8).fTerm.fAdd)]) rfl ca62 (ref21_bounded.con k ((rd a1.fSlots x8).fTerm.fAdd) t192 ht192) rfl).o <| wq rfl rfl rfl hb191 (.s 93 rfl .nil) (q_not rfl).o <| p2 rfl 89 rfl 94 rfl (q_pickF rfl hb191) <| WL.nil ?_
             exact QN.weaken (.o4 rfl (.nil _)) (Kj186 () (!t192) h)
        ·refine W.exit <| QX.then_ <| QX.then_ <| QX.here <| QN.weaken (env' := [(3, _)]) (.one rfl (.nil _)) <| QN.then_ <| W.seq <| sr <| fd rfl rfl fo42_2 rfl <| ld rfl rfl sh3 <| fd rfl rfl fo42_3 rfl <| ld rfl rfl sh40 ?_
         obtain ⟨t193, ht193, h⟩ := bind_s h
         refine p2 rfl 97 rfl 99 rfl (q_call (f := 63) (A := iA t193) (xs := [.tmp 97, .tmp 99]) («as» := [iA a1.fVars, SlcA kTest a1.fTests]) rfl ca63 (ref03_Valid.con k a1.fVars a1.fTests t193 ht193) rfl) <| av rfl rfl <| nx <| mv rfl rfl <| pk rfl 101 rfl (q_int rfl rfl) <| nt ?_
         refine W.condP h rfl (fun hb194 h => ?_) (fun hb194 h => ?_)
         ·refine sr <| mv rfl rfl <| av rfl rfl <| WL.nil <| QN.weaken (env' := [(4, _)]) (.one rfl (.nil _)) <| QN.then_ <| W.ret <| QR.then_ ?_
          cases h
          exact QR.f1 rfl rfl (.t rfl) (.id _)
         ·refine W.skip <| QN.weaken (env' := [(3, _)]) (.one rfl (.nil _)) <| QN.then_ <| W.seq <| sr <| ak rfl <| nt <| W.block ?_
          refine W.loop1 (Γ := Unit) (fun (_ : Unit) (x13 : Int) => [(3, PtrA [SlcA kInt a1.fGraph.fNodes, SlcA kEdge a1.fGraph.fEdges, SlcA kSlot a1.fSlots, iA a1.fVars, SlcA kTest a1.fTests]), (13, iA x13)]) (fun (_ : Unit) (_ : Int) => []) h () (.o2 rfl (.nil _)) rfl (fun rec1 K1 next1 _ x13 h => ?_)
          unfold ref21_Valid.b1 at h
          refine W.seq <| sr <| mv rfl rfl <| fd rfl rfl fo42_2 rfl <| ld rfl rfl sh3 <| p2 rfl 104 rfl 106 rfl (q_int rfl rfl) <| nt ?_
          refine W.condP h rfl (fun hb203 h => ?_) (fun hb203 h => ?_)
          ·refine W.skip <| QN.then_ <| W.seq <| W.block <| sr <| lS rfl rfl sh42 rfl rfl <| mv rfl rfl ?_
           obtain ⟨t204, ht204, h⟩ := bind_s h
           refine p2 rfl 110 rfl 111 rfl (q_call (f := 64) (A := bA t204) (xs := [.tmp 110, .tmp 111]) («as» := [AggA [SlcA kInt a1.fGraph.fNodes, SlcA kEdge a1.fGraph.fEdges, SlcA kSlot a1.fSlots, iA a1.fVars, SlcA kTest a1.fTests], iA x13]) rfl ca64 (ref21_occurs.con k a1 x13 t204 ht204) rfl) <| p1 rfl 112 rfl (q_not rfl) <| WL.nil <| QN.weaken (env' := [(113, _), (13, _), (3, _)]) (.o2 rfl (.one rfl (.nil _))) <| QN.then_ ?_
           refine W.condP h rfl (fun hb205 h => ?_) (fun hb205 h => ?_)
           ·refine sr <| ak rfl <| nt <| W.ret <| QR.block <| QR.then_ <| QR.then_ <| QR.block <| QR.then_ ?_
            cases h
            exact QR.f1 rfl rfl (.t rfl) (.id _)
           ·refine W.skip <| QN.block <| QN.then_ <| W.region <| mv rfl rfl ?_
            obtain ⟨c206, h⟩ := ite_n h
            refine pk rfl 108 rfl (q_addR rfl c206) <| av rfl rfl <| WL.nil ?_
            exact next1 () (x13 + 1) _ h (.o2 rfl (.nil _))
          ·refine W.exit <| QX.then_ <| QX.then_ <| QX.here <| QN.then_ <| sr <| ak rfl <| nt <| W.ret ?_
           cases h
           exact QR.f1 rfl rfl (.t rfl) (.id _)
      ·refine W.region <| fd rfl rfl fo42_1 rfl <| ld rfl rfl sh39 <| p1 rfl 42 rfl (q_len rfl elS39) <| pk rfl 43 rfl (q_int rfl rfl) <| mv rfl rfl ?_
       rcases bif_s h with ⟨hb207, h⟩ | ⟨hb207, h⟩
       ·refine sk rfl rfl rfl hb207 <| sk rfl rfl rfl hb207 <| sk rfl rfl rfl hb207 <| sk rfl rfl rfl hb207 <| pk rfl 45 rfl (q_pickT rfl hb207) <| WL.nil ?_
        exact QN.weaken (.o2 rfl (.one rfl (.nil _))) (Kj112 () true h)
       ·refine wf rfl rfl rfl hb207 rfl rfl fo42_3 rfl <| wl rfl rfl rfl hb207 rfl rfl sh40 <| wq rfl rfl rfl hb207 (.s 47 rfl .nil) (q_len rfl elS40).o <| wq rfl rfl rfl hb207 (.s 48 rfl (.k .nil)) (q_int rfl rfl).o <| p2 rfl 45 rfl 49 rfl (q_pickF rfl hb207) <| WL.nil ?_
        exact QN.weaken (.o2 rfl (.one rfl (.nil _))) (Kj112 () (decide ((a1.fTests.length : Int) > 10)) h)
    ·refine W.region <| fd rfl rfl fo42_2 rfl <| ld rfl rfl sh3 <| pk rfl 34 rfl (q_int rfl rfl) <| mv rfl rfl ?_
     rcases bif_s h with ⟨hb208, h⟩ | ⟨hb208, h⟩
     ·refine sk rfl rfl rfl hb208 <| sk rfl rfl rfl hb208 <| sk rfl rfl rfl hb208 <| pk rfl 36 rfl (q_pickT rfl hb208) <| WL.nil ?_
      exact QN.weaken (.o2 rfl (.one rfl (.nil _))) (Kj108 () true h)
     ·refine wf rfl rfl rfl hb208 rfl rfl fo42_2 rfl <| wl rfl rfl rfl hb208 rfl rfl sh3 <| wq rfl rfl rfl hb208 (.s 38 rfl (.k .nil)) (q_int rfl rfl).o <| p2 rfl 36 rfl 39 rfl (q_pickF rfl hb208) <| WL.nil ?_
      exact QN.weaken (.o2 rfl (.one rfl (.nil _))) (Kj108 () (decide (a1.fVars > 12)) h)
theorem ref15_node.con (k : Nat) (a0 : Types) (a1 : Int) (a2 : (List Int)) (r : Int) (h : ref15_node k a0 a1 a2 = some r) : Con Tryz.prog 88 [] [AggA [SlcA kNodeType a0.fNodes, SlcA kEdgeType a0.fEdges], iA a1, SlcA kInt a2] (RA (iA r)) := by
 unfold ref15_node at h
 refine Con.of (N := 60) Tryz.func88 rfl rfl rfl fun w0_ fg_ => sr <| p1 rfl 0 rfl (q_box rfl (CellsOf.agg _)) <| ak rfl <| nt <| W.seq <| sr <| mv rfl rfl <| fd rfl rfl fo35_0 rfl <| ld rfl rfl sh32 ?_
 refine p1 rfl 12 rfl (q_len rfl elS32) <| p2 rfl 10 rfl 13 rfl (q_int rfl rfl) <| nt ?_
 refine W.condP h rfl (fun hb100 h => ?_) (fun hb100 h => ?_)
 ·refine sr <| ak rfl <| WL.nil <| QN.weaken (env' := [(6, _)]) (.one rfl (.nil _)) <| QN.then_ <| W.ret <| QR.then_ ?_
  cases h
  exact QR.f1 rfl rfl (.t rfl) (.id _)
 ·refine W.skip <| QN.weaken (env' := [(3, _), (2, _), (1, _)]) (.o2 rfl (.one rfl (.nil _))) <| QN.then_ <| W.seq <| sr <| fd rfl rfl fo35_0 rfl <| ld rfl rfl sh32 <| mv rfl rfl ?_
  obtain ⟨c101, h⟩ := ite_n h
  refine p2 rfl 16 rfl 17 rfl (q_index rfl el32 rfl c101.1 c101.2) <| fd rfl rfl fo92_2 rfl <| ld rfl rfl sh4 <| nt ?_
  refine W.condP h rfl (fun hb102 h => ?_) (fun hb102 h => ?_)
  ·refine sr <| ak rfl <| WL.nil <| QN.weaken (env' := [(6, _)]) (.one rfl (.nil _)) <| QN.then_ <| W.ret <| QR.then_ ?_
   cases h
   exact QR.f1 rfl rfl (.t rfl) (.id _)
  ·refine W.skip <| QN.then_ <| sr <| lS rfl rfl sh35 rfl rfl <| mv rfl rfl ?_
   obtain ⟨t103, ht103, h⟩ := bind_s h
   refine p2 rfl 22 rfl 23 rfl (q_call (f := 86) (A := TupA [SlcA kAttr t103.1, iA t103.2]) (xs := [.tmp 22, .tmp 23]) («as» := [AggA [SlcA kNodeType a0.fNodes, SlcA kEdgeType a0.fEdges], iA a1]) rfl ca86 (ref04_Attrs.con k a0 a1 t103 ht103) rfl) <| mv rfl rfl <| p1 rfl 21 rfl (q_extract rfl rfl) <| p1 rfl 21 rfl (q_extract rfl rfl) <| av rfl rfl <| av rfl rfl <| WL.nil <| QN.weaken (env' := [(7, _), (2, _)]) (.o2 rfl (.nil _)) <| QN.then_ <| W.seq <| sr <| mv rfl rfl ?_
   refine p1 rfl 27 rfl (q_len rfl elS26) <| mv rfl rfl <| p1 rfl 29 rfl (q_len rfl elS90) <| p2 rfl 28 rfl 30 rfl (q_int rfl rfl) <| nt ?_
   refine W.condP h rfl (fun hb104 h => ?_) (fun hb104 h => ?_)
   ·refine sr <| ak rfl <| WL.nil <| QN.weaken (env' := [(6, _)]) (.one rfl (.nil _)) <| QN.then_ <| W.ret <| QR.then_ ?_
    cases h
    exact QR.f1 rfl rfl (.t rfl) (.id _)
   ·refine W.skip <| QN.then_ <| W.seq <| sr <| ak rfl <| nt <| W.block ?_
    refine W.loop1 (Γ := Unit) (fun (_ : Unit) (x9 : Int) => [(2, SlcA kInt a2), (7, SlcA kAttr t103.1), (9, iA x9)]) (fun (_ : Unit) (_ : Int) => []) h () (.o2 rfl (.one rfl (.nil _))) rfl (fun rec0 K0 next0 _ x9 h => ?_)
    unfold ref15_node.b0 at h
    refine W.seq <| sr <| mv rfl rfl <| mv rfl rfl <| p1 rfl 33 rfl (q_len rfl elS90) <| p2 rfl 32 rfl 34 rfl (q_int rfl rfl) <| nt ?_
    refine W.condP h rfl (fun hb145 h => ?_) (fun hb145 h => ?_)
    ·refine W.skip <| QN.then_ <| W.seq <| W.block <| W.seq ?_
     refine W.jn1 (Γ := Unit) (fun (_ : Unit) (x59 : Bool) => [(2, SlcA kInt a2), (7, SlcA kAttr t103.1), (9, iA x9), (59, bA x59)]) (fun (_ : Unit) (_ : Bool) => []) h (fun _ x59 h => ?_) (fun j157 Kj157 h => ?_)
     ·refine QN.then_ ?_
      refine W.condP h rfl (fun hb158 h => ?_) (fun hb158 h => ?_)
      ·refine sr <| ak rfl <| nt <| W.ret <| QR.block <| QR.then_ <| QR.then_ <| QR.block <| QR.then_ ?_
       cases h
       exact QR.f1 rfl rfl (.t rfl) (.id _)
      ·refine W.skip <| QN.block <| QN.then_ <| W.region <| mv rfl rfl ?_
       obtain ⟨c159, h⟩ := ite_n h
       refine pk rfl 36 rfl (q_addR rfl c159) <| av rfl rfl <| WL.nil ?_
       exact next0 () (x9 + 1) _ h (.o2 rfl (.one rfl (.nil _)))
     ·refine W.drawK [(0, false), (1, false), (2, false), (3, false), (4, false), (5, false), (6, false), (7, false), (8, false), (9, false), (10, false), (11, false), (12, false), (13, false), (14, false), (15, false), (16, false), (17, false), (18, false), (19, false), (20, false), (21, false)] [] (bm [0, 0, 3, 7, 0, 0, 48, 112, 240, 511, 1023, 2047, 2047, 8191, 16383, 2047, 2047, 100351, 231423, 493567, 1048575, 2097151]) mx (by kernel_rfl) <| dm rfl rfl rfl <| dm rfl rfl rfl ?_
      obtain ⟨c160, h⟩ := ite_n h
      refine DK.cons rfl rfl (.p rfl (.s 38 rfl (.s 39 rfl .nil)) rfl (q_index rfl el26 rfl c160.1 c160.2)) <| dl rfl rfl rfl sh3 <| dm rfl rfl rfl <| dm rfl rfl rfl ?_
      obtain ⟨c161, h⟩ := ite_n h
      refine DK.cons rfl rfl (.p rfl (.s 42 rfl (.s 43 rfl .nil)) rfl (q_index rfl el90 rfl c161.1 c161.2)) <| df rfl rfl rfl fo95_1 rfl <| dl rfl rfl rfl sh3 <| DK.cons rfl rfl (.p rfl (.s 41 rfl (.s 46 rfl .nil)) rfl (q_int rfl rfl)) <| dm rfl rfl rfl ?_
      rcases bif_s h with ⟨hb162, h⟩ | ⟨hb162, h⟩
      ·refine dx rfl rfl rfl hb162 <| dx rfl rfl rfl hb162 <| dx rfl rfl rfl hb162 <| dx rfl rfl rfl hb162 <| dx rfl rfl rfl hb162 <| dx rfl rfl rfl hb162 <| dx rfl rfl rfl hb162 <| dx rfl rfl rfl hb162 <| dx rfl rfl rfl hb162 <| dx rfl rfl rfl hb162 <| DK.cons rfl rfl (.p rfl (.s 48 rfl (.k .nil)) rfl (q_pickT rfl hb162)) <| DK.nil <| CSteps.nil ?_
       exact QN.weaken (.o4 rfl (.nil _)) (Kj157 () true h)
      ·refine DK.cons rfl rfl (.gp rfl rfl rfl hb162 (.s 2 rfl .nil) rfl (q_move rfl)) <| DK.cons rfl rfl (.gp rfl rfl rfl hb162 (.s 9 rfl .nil) rfl (q_move rfl)) ?_
       obtain ⟨c163, h⟩ := ite_n h
       refine DK.cons rfl rfl (.gp rfl rfl rfl hb162 (.s 49 rfl (.s 50 rfl .nil)) rfl (q_index rfl el26 rfl c163.1 c163.2)) <| DK.cons rfl rfl (.gp rfl rfl rfl hb162 (.s 51 rfl .nil) rfl (q_load rfl sh3)) <| DK.cons rfl rfl (.gp rfl rfl rfl hb162 (.s 7 rfl .nil) rfl (q_move rfl)) <| DK.cons rfl rfl (.gp rfl rfl rfl hb162 (.s 9 rfl .nil) rfl (q_move rfl)) ?_
       obtain ⟨c164, h⟩ := ite_n h
       refine DK.cons rfl rfl (.gp rfl rfl rfl hb162 (.s 53 rfl (.s 54 rfl .nil)) rfl (q_index rfl el90 rfl c164.1 c164.2)) <| DK.cons rfl rfl (.gp rfl rfl rfl hb162 (.s 55 rfl .nil) rfl (q_field rfl fo95_2 rfl)) <| DK.cons rfl rfl (.gp rfl rfl rfl hb162 (.s 56 rfl .nil) rfl (q_load rfl sh3)) <| DK.cons rfl rfl (.gp rfl rfl rfl hb162 (.s 52 rfl (.s 57 rfl .nil)) rfl (q_int rfl rfl)) <| DK.cons rfl rfl (.p rfl (.s 48 rfl (.s 58 rfl .nil)) rfl (q_pickF rfl hb162)) <| DK.nil <| CSteps.nil ?_
       exact QN.weaken (.o4 rfl (.nil _)) (Kj157 () (decide ((rd a2 x9) > (rd t103.1 x9).fHigh)) h)
    ·refine W.exit <| QX.then_ <| QX.then_ <| QX.here <| QN.weaken (env' := []) (.nil _) <| QN.then_ <| sr <| ak rfl <| nt <| W.ret ?_
     cases h
     exact QR.f1 rfl rfl (.t rfl) (.id _)
theorem ref04_Below1.con : ∀ (k : Nat) (a0 : Types) (a1 : Int) (a2 : Int) (r : Bool) (_ : ref04_Below1 k a0 a1 a2 = some r), Con Tryz.prog 141 [] [AggA [SlcA kNodeType a0.fNodes, SlcA kEdgeType a0.fEdges], iA a1, iA a2] (RA (bA r)) := by
 intro k
 induction k with
 | zero => intro a0 a1 a2 r h; cases h
 | succ k ih =>
  intro a0 a1 a2 r h
  change ref04_Below1.main (ref04_Below1 k) k a0 a1 a2 = some r at h
  unfold ref04_Below1.main at h
  refine Con.of (N := 25) Tryz.func141 rfl rfl rfl fun w0_ fg_ => sr <| p1 rfl 0 rfl (q_box rfl (CellsOf.agg _)) <| ak rfl <| nt <| W.seq ?_
  refine W.jn1 (Γ := Unit) (fun (_ : Unit) (x6 : Bool) => [(6, bA x6)]) (fun (_ : Unit) (_ : Bool) => []) h (fun _ x6 h => ?_) (fun j109 Kj109 h => ?_)
  ·refine QN.then_ <| W.ret ?_
   cases h
   exact QR.f1 rfl rfl (.t rfl) (.id _)
  ·refine W.drawK [(0, false), (1, false), (2, false), (3, false), (4, false), (5, false), (6, false), (7, false), (8, false), (9, false), (10, false), (11, false), (12, false), (13, false), (14, false), (15, false), (16, false), (17, false), (18, false)] [] (bm [0, 0, 3, 7, 15, 31, 63, 127, 127, 383, 127, 1919, 3967, 8063, 127, 32767, 65535, 131071, 262143]) mx (by kernel_rfl) <| dm rfl rfl rfl <| dm rfl rfl rfl <| DK.cons rfl rfl (.p rfl (.s 7 rfl (.s 8 rfl .nil)) rfl (q_int rfl rfl)) <| dm rfl rfl rfl ?_
   rcases bif_s h with ⟨hb110, h⟩ | ⟨hb110, h⟩
   ·refine dx rfl rfl rfl hb110 <| dx rfl rfl rfl hb110 <| dx rfl rfl rfl hb110 <| DK.cons rfl rfl (.und rfl rfl rfl) <| DK.cons rfl rfl (.und rfl rfl rfl) <| DK.cons rfl rfl (.und rfl rfl rfl) <| DK.cons rfl rfl (.und rfl rfl rfl) <| DK.cons rfl rfl (.und rfl rfl rfl) <| DK.cons rfl rfl (.und rfl rfl rfl) <| DK.cons rfl rfl (.und rfl rfl rfl) <| DK.cons rfl rfl (.und rfl rfl rfl) <| DK.cons rfl rfl (.und rfl rfl rfl) <| dx rfl rfl rfl hb110 ?_
    refine DK.cons rfl rfl (.p rfl (.s 10 rfl (.k .nil)) rfl (q_pickT rfl hb110)) <| DK.cons rfl rfl (.p rfl (.s 24 rfl .nil) rfl (q_assign rfl)) <| DK.nil <| CSteps.nil ?_
    exact QN.weaken (.one rfl (.nil _)) (Kj109 () true h)
   ·refine DK.cons rfl rfl (.gp rfl rfl rfl hb110 (.s 1 rfl .nil) rfl (q_move rfl)) <| DK.cons rfl rfl (.gp rfl rfl rfl hb110 (.s 11 rfl (.k .nil)) rfl (q_int rfl rfl)) <| DK.cons rfl rfl (.gp rfl rfl rfl hb110 (.s 12 rfl .nil) rfl (q_move rfl)) ?_
    rcases bif_s h with ⟨hb111, h⟩ | ⟨hb111, h⟩
    ·refine DK.cons rfl rfl (.gp rfl rfl rfl hb111 (.s 3 rfl .nil) rfl (q_loadS rfl sh35 (leB rfl) rfl)) <| DK.cons rfl rfl (.gp rfl rfl rfl hb111 (.s 3 rfl .nil) rfl (q_field rfl fo35_0 rfl)) <| DK.cons rfl rfl (.gp rfl rfl rfl hb111 (.s 15 rfl .nil) rfl (q_load rfl sh32)) <| DK.cons rfl rfl (.gp rfl rfl rfl hb111 (.s 1 rfl .nil) rfl (q_move rfl)) ?_
     obtain ⟨c112, h⟩ := ite_n h
     refine DK.cons rfl rfl (.gp rfl rfl rfl hb111 (.s 16 rfl (.s 17 rfl .nil)) rfl (q_index rfl el32 rfl c112.1 c112.2)) <| DK.cons rfl rfl (.gp rfl rfl rfl hb111 (.s 18 rfl .nil) rfl (q_field rfl fo92_1 rfl)) <| DK.cons rfl rfl (.gp rfl rfl rfl hb111 (.s 19 rfl .nil) rfl (q_load rfl sh3)) <| DK.cons rfl rfl (.gp rfl rfl rfl hb111 (.s 2 rfl .nil) rfl (q_move rfl)) ?_
     obtain ⟨t113, ht113, h⟩ := bind_s h
     refine DK.cons rfl rfl (.gp rfl rfl rfl hb111 (.s 14 rfl (.s 20 rfl (.s 21 rfl .nil))) rfl (q_call (f := 141) (A := bA t113) (xs := [.tmp 14, .tmp 20, .tmp 21]) («as» := [AggA [SlcA kNodeType a0.fNodes, SlcA kEdgeType a0.fEdges], iA ((rd a0.fNodes a1).fParent), iA a2]) rfl ca141 (ih a0 ((rd a0.fNodes a1).fParent) a2 t113 ht113) rfl)) <| DK.cons rfl rfl (.gp rfl rfl rfl hb110 (.s 13 rfl (.s 22 rfl .nil)) rfl (q_pickT rfl hb111)) <| DK.cons rfl rfl (.p rfl (.s 10 rfl (.s 23 rfl .nil)) rfl (q_pickF rfl hb110)) <| DK.cons rfl rfl (.p rfl (.s 24 rfl .nil) rfl (q_assign rfl)) <| DK.nil <| CSteps.nil ?_
     exact QN.weaken (.one rfl (.nil _)) (Kj109 () t113 h)
    ·refine dx rfl rfl rfl hb111 <| dx rfl rfl rfl hb111 <| dx rfl rfl rfl hb111 <| dx rfl rfl rfl hb111 <| dx rfl rfl rfl hb111 <| dx rfl rfl rfl hb111 <| dx rfl rfl rfl hb111 <| dx rfl rfl rfl hb111 <| dx rfl rfl rfl hb111 <| DK.cons rfl rfl (.gp rfl rfl rfl hb110 (.s 13 rfl (.k .nil)) rfl (q_pickF rfl hb111)) <| DK.cons rfl rfl (.p rfl (.s 10 rfl (.s 23 rfl .nil)) rfl (q_pickF rfl hb110)) <| DK.cons rfl rfl (.p rfl (.s 24 rfl .nil) rfl (q_assign rfl)) <| DK.nil ?_
     refine CSteps.nil ?_
     exact QN.weaken (.one rfl (.nil _)) (Kj109 () false h)
theorem ref04_Fits.con (k : Nat) (a0 : Types) (a1 : Int) (a2 : Int) (a3 : Int) (r : Bool) (h : ref04_Fits k a0 a1 a2 a3 = some r) : Con Tryz.prog 89 [] [AggA [SlcA kNodeType a0.fNodes, SlcA kEdgeType a0.fEdges], iA a1, iA a2, iA a3] (RA (bA r)) := by
 unfold ref04_Fits at h
 refine Con.of (N := 43) Tryz.func89 rfl rfl rfl fun w0_ fg_ => sr <| p1 rfl 0 rfl (q_box rfl (CellsOf.agg _)) <| ak rfl <| nt <| W.seq <| W.seq ?_
 refine W.jn1 (Γ := Unit) (fun (_ : Unit) (x22 : Bool) => [(1, iA a1), (2, iA a2), (3, iA a3), (4, PtrA [SlcA kNodeType a0.fNodes, SlcA kEdgeType a0.fEdges]), (22, bA x22)]) (fun (_ : Unit) (_ : Bool) => []) h (fun _ x22 h => ?_) (fun j105 Kj105 h => ?_)
 ·refine QN.then_ ?_
  refine W.condP h rfl (fun hb106 h => ?_) (fun hb106 h => ?_)
  ·refine sr <| ak rfl <| nt <| W.ret <| QR.then_ ?_
   cases h
   exact QR.f1 rfl rfl (.t rfl) (.id _)
  ·refine W.skip <| QN.then_ <| W.seq ?_
   refine W.jn1 (Γ := Unit) (fun (_ : Unit) (x8 : Bool) => [(8, bA x8)]) (fun (_ : Unit) (_ : Bool) => []) h (fun _ x8 h => ?_) (fun j118 Kj118 h => ?_)
   ·refine QN.then_ <| W.ret ?_
    cases h
    exact QR.f1 rfl rfl (.t rfl) (.id _)
   ·refine W.drawK [(0, false), (1, false), (2, false), (3, false), (4, false), (5, false), (6, false), (7, false), (8, false), (9, false), (10, false), (11, false), (12, false), (13, false), (14, false), (15, false), (16, false), (17, false), (18, false), (19, false), (20, false)] [] (bm [0, 0, 0, 4, 0, 28, 60, 124, 255, 511, 1023, 1023, 1023, 5119, 1023, 29695, 62463, 127999, 262143, 524287, 1048575]) mx (by kernel_rfl) <| DK.cons rfl rfl (.p rfl (.s 4 rfl .nil) rfl (q_loadS rfl sh35 (leB rfl) rfl)) <| dm rfl rfl rfl <| df rfl rfl rfl fo35_1 rfl <| dl rfl rfl rfl sh33 <| dm rfl rfl rfl ?_
    obtain ⟨c119, h⟩ := ite_n h
    refine DK.cons rfl rfl (.p rfl (.s 26 rfl (.s 27 rfl .nil)) rfl (q_index rfl el33 rfl c119.1 c119.2)) <| df rfl rfl rfl fo97_1 rfl <| dl rfl rfl rfl sh3 ?_
    obtain ⟨t120, ht120, h⟩ := bind_s h
    refine DK.cons rfl rfl (.p rfl (.s 23 rfl (.s 24 rfl (.s 30 rfl .nil))) rfl (q_call (f := 141) (A := bA t120) (xs := [.tmp 23, .tmp 24, .tmp 30]) («as» := [AggA [SlcA kNodeType a0.fNodes, SlcA kEdgeType a0.fEdges], iA a2, iA ((rd a0.fEdges a1).fFrom)]) rfl ca141 (ref04_Below1.con k a0 a2 ((rd a0.fEdges a1).fFrom) t120 ht120) rfl)) <| dm rfl rfl rfl ?_
    rcases bif_s h with ⟨hb121, h⟩ | ⟨hb121, h⟩
    ·refine DK.cons rfl rfl (.gp rfl rfl rfl hb121 (.s 4 rfl .nil) rfl (q_loadS rfl sh35 (leB rfl) rfl)) <| DK.cons rfl rfl (.gp rfl rfl rfl hb121 (.s 3 rfl .nil) rfl (q_move rfl)) <| DK.cons rfl rfl (.gp rfl rfl rfl hb121 (.s 4 rfl .nil) rfl (q_field rfl fo35_1 rfl)) <| DK.cons rfl rfl (.gp rfl rfl rfl hb121 (.s 35 rfl .nil) rfl (q_load rfl sh33)) <| DK.cons rfl rfl (.gp rfl rfl rfl hb121 (.s 1 rfl .nil) rfl (q_move rfl)) ?_
     obtain ⟨c122, h⟩ := ite_n h
     refine DK.cons rfl rfl (.gp rfl rfl rfl hb121 (.s 36 rfl (.s 37 rfl .nil)) rfl (q_index rfl el33 rfl c122.1 c122.2)) <| DK.cons rfl rfl (.gp rfl rfl rfl hb121 (.s 38 rfl .nil) rfl (q_field rfl fo97_2 rfl)) <| DK.cons rfl rfl (.gp rfl rfl rfl hb121 (.s 39 rfl .nil) rfl (q_load rfl sh3)) ?_
     obtain ⟨t123, ht123, h⟩ := bind_s h
     refine DK.cons rfl rfl (.gp rfl rfl rfl hb121 (.s 33 rfl (.s 34 rfl (.s 40 rfl .nil))) rfl (q_call (f := 141) (A := bA t123) (xs := [.tmp 33, .tmp 34, .tmp 40]) («as» := [AggA [SlcA kNodeType a0.fNodes, SlcA kEdgeType a0.fEdges], iA a3, iA ((rd a0.fEdges a1).fTo)]) rfl ca141 (ref04_Below1.con k a0 a3 ((rd a0.fEdges a1).fTo) t123 ht123) rfl)) <| DK.cons rfl rfl (.p rfl (.s 32 rfl (.s 41 rfl .nil)) rfl (q_pickT rfl hb121)) <| DK.cons rfl rfl (.p rfl (.s 42 rfl .nil) rfl (q_assign rfl)) <| DK.nil <| CSteps.nil ?_
     exact QN.weaken (.one rfl (.nil _)) (Kj118 () t123 h)
    ·refine dx rfl rfl rfl hb121 <| dx rfl rfl rfl hb121 <| dx rfl rfl rfl hb121 <| dx rfl rfl rfl hb121 <| dx rfl rfl rfl hb121 <| dx rfl rfl rfl hb121 <| dx rfl rfl rfl hb121 <| dx rfl rfl rfl hb121 <| dx rfl rfl rfl hb121 <| DK.cons rfl rfl (.p rfl (.s 32 rfl (.k .nil)) rfl (q_pickF rfl hb121)) <| DK.cons rfl rfl (.p rfl (.s 42 rfl .nil) rfl (q_assign rfl)) <| DK.nil <| CSteps.nil ?_
     exact QN.weaken (.one rfl (.nil _)) (Kj118 () false h)
 ·refine W.region <| lS rfl rfl sh35 rfl rfl <| mv rfl rfl <| mv rfl rfl ?_
  obtain ⟨t124, ht124, h⟩ := bind_s h
  refine WL.p rfl rfl rfl (.s 9 rfl (.s 10 rfl (.s 11 rfl .nil))) (q_call (f := 138) (A := iA t124) (xs := [.tmp 9, .tmp 10, .tmp 11]) («as» := [AggA [SlcA kNodeType a0.fNodes, SlcA kEdgeType a0.fEdges], iA a2, iA a3]) rfl ca138 (ref04_given.con k a0 a2 a3 t124 ht124) rfl) <| pk rfl 12 rfl (q_int rfl rfl) <| mv rfl rfl ?_
  rcases bif_s h with ⟨hb125, h⟩ | ⟨hb125, h⟩
  ·refine sk rfl rfl rfl hb125 <| sk rfl rfl rfl hb125 <| sk rfl rfl rfl hb125 <| sk rfl rfl rfl hb125 <| sk rfl rfl rfl hb125 <| sk rfl rfl rfl hb125 <| sk rfl rfl rfl hb125 <| pk rfl 14 rfl (q_pickT rfl hb125) <| WL.nil ?_
   exact QN.weaken (.o4 rfl (.one rfl (.nil _))) (Kj105 () true h)
  ·refine wm rfl rfl rfl hb125 rfl rfl <| wf rfl rfl rfl hb125 rfl rfl fo35_1 rfl <| wl rfl rfl rfl hb125 rfl rfl sh33 <| wq rfl rfl rfl hb125 (.s 17 rfl .nil) (q_len rfl elS33).o ?_
   obtain ⟨c126, h⟩ := ite_n h
   refine wq rfl rfl rfl hb125 (.s 18 rfl (.k .nil)) (q_subR rfl c126).o ?_
   obtain ⟨t127, ht127, h⟩ := bind_s h
   refine wq rfl rfl rfl hb125 (.s 15 rfl (.k (.s 19 rfl .nil))) (q_call (f := 140) (A := bA t127) (xs := [.tmp 15, .const (.int .i64 0), .tmp 19]) («as» := [iA a1, iA 0, iA ((a0.fEdges.length : Int) - 1)]) rfl ca140 (ref04_in.con k a1 0 ((a0.fEdges.length : Int) - 1) t127 ht127) rfl).o <| wq rfl rfl rfl hb125 (.s 20 rfl .nil) (q_not rfl).o <| p2 rfl 14 rfl 21 rfl (q_pickF rfl hb125) <| WL.nil ?_
   exact QN.weaken (.o4 rfl (.one rfl (.nil _))) (Kj105 () (!t127) h)
theorem ref15_Valid.con (k : Nat) (a0 : Types) (a1 : Host) (r : (Int × Int)) (h : ref15_Valid k a0 a1 = some r) : Con Tryz.prog 36 [] [AggA [SlcA kNodeType a0.fNodes, SlcA kEdgeType a0.fEdges], AggA [SlcA kInt a1.fGraph.fNodes, SlcA kEdge a1.fGraph.fEdges, SlcA (kSl kInt) a1.fValues]] (RA (TupA [iA r.1, iA r.2])) := by
 unfold ref15_Valid at h
 refine Con.of (N := 101) Tryz.func36 rfl rfl rfl fun w0_ fg_ => sr <| p1 rfl 0 rfl (q_box rfl (CellsOf.agg _)) <| p1 rfl 1 rfl (q_box rfl (CellsOf.agg _)) <| ak rfl <| ak rfl <| nt <| W.seq <| sr <| lS rfl rfl sh35 rfl rfl ?_
 obtain ⟨t100, ht100, h⟩ := bind_s h
 refine p1 rfl 14 rfl (q_call (f := 58) (A := TupA [EqA (strV t100.1), iA t100.2]) (xs := [.tmp 14]) («as» := [AggA [SlcA kNodeType a0.fNodes, SlcA kEdgeType a0.fEdges]]) rfl ca58 (ref04_Valid.con k a0 t100 ht100) rfl) <| mv rfl rfl <| p1 rfl 13 rfl (q_extract rfl rfl) <| p1 rfl 13 rfl (q_extract rfl rfl) <| av rfl rfl <| av rfl rfl <| WL.nil <| QN.weaken (env' := [(7, _), (3, _), (2, _)]) (.o2 rfl (.one rfl (.nil _))) <| QN.then_ <| sr <| mv rfl rfl <| pk rfl 18 rfl (q_int rfl rfl) ?_
 refine nt ?_
 refine W.condP h rfl (fun hb101 h => ?_) (fun hb101 h => ?_)
 ·refine sr <| mv rfl rfl <| ak rfl <| av rfl rfl <| nt <| W.ret <| QR.then_ ?_
  cases h
  exact QR.f2 rfl rfl (.t rfl) (.t rfl) (.id _)
 ·refine W.skip <| QN.then_ <| W.seq <| sr <| fd rfl rfl fo60_0 rfl <| lS rfl rfl sh38 rfl rfl ?_
  obtain ⟨t102, ht102, h⟩ := bind_s h
  refine p1 rfl 22 rfl (q_call (f := 59) (A := iA t102) (xs := [.tmp 22]) («as» := [AggA [SlcA kInt a1.fGraph.fNodes, SlcA kEdge a1.fGraph.fEdges]]) rfl ca59 (ref05_Valid.con k a1.fGraph t102 ht102) rfl) <| av rfl rfl <| nx <| mv rfl rfl <| pk rfl 24 rfl (q_int rfl rfl) <| WL.nil <| QN.weaken (env' := [(25, _), (8, _), (3, _), (2, _)]) (.o4 rfl (.nil _)) <| QN.then_ ?_
  refine W.condP h rfl (fun hb103 h => ?_) (fun hb103 h => ?_)
  ·refine sr <| mv rfl rfl <| ak rfl <| av rfl rfl <| nt <| W.ret <| QR.then_ ?_
   cases h
   exact QR.f2 rfl rfl (.t rfl) (.t rfl) (.id _)
  ·refine W.skip <| QN.then_ <| W.seq <| sr <| fd rfl rfl fo60_1 rfl <| ld rfl rfl sh58 <| p1 rfl 28 rfl (q_len rfl elS58) <| fd rfl rfl fo60_0 rfl <| fd rfl rfl fo38_0 rfl <| ld rfl rfl sh26 <| p1 rfl 32 rfl (q_len rfl elS26) <| p2 rfl 29 rfl 33 rfl (q_int rfl rfl) ?_
   refine WL.nil <| QN.weaken (env' := [(34, _), (3, _), (2, _)]) (.o2 rfl (.one rfl (.nil _))) <| QN.then_ ?_
   refine W.condP h rfl (fun hb104 h => ?_) (fun hb104 h => ?_)
   ·refine sr <| ak rfl <| ak rfl <| nt <| W.ret <| QR.then_ ?_
    cases h
    exact QR.f2 rfl rfl (.t rfl) (.t rfl) (.id _)
   ·refine W.skip <| QN.then_ <| W.seq <| sr <| ak rfl <| nt <| W.block ?_
    refine W.loop1 (Γ := Unit) (fun (_ : Unit) (x9 : Int) => [(2, PtrA [SlcA kNodeType a0.fNodes, SlcA kEdgeType a0.fEdges]), (3, PtrA [SlcA kInt a1.fGraph.fNodes, SlcA kEdge a1.fGraph.fEdges, SlcA (kSl kInt) a1.fValues]), (9, iA x9)]) (fun (_ : Unit) (_ : Int) => []) h () (.o2 rfl (.one rfl (.nil _))) rfl (fun rec0 K0 next0 _ x9 h => ?_)
    unfold ref15_Valid.b0 at h
    refine W.seq <| sr <| mv rfl rfl <| fd rfl rfl fo60_0 rfl <| fd rfl rfl fo38_0 rfl <| ld rfl rfl sh26 <| p1 rfl 38 rfl (q_len rfl elS26) <| p2 rfl 35 rfl 39 rfl (q_int rfl rfl) <| nt ?_
    refine W.condP h rfl (fun hb219 h => ?_) (fun hb219 h => ?_)
    ·refine W.skip <| QN.then_ <| W.seq <| W.block <| W.seq <| W.drawK [(0, false), (1, false), (2, false), (3, false), (4, false), (5, false), (6, false), (7, false), (8, false), (9, false), (10, false), (11, false), (12, false), (13, false)] [] (bm [0, 0, 2, 6, 0, 30, 62, 0, 128, 0, 896, 1920, 4095, 8191]) mx (by kernel_rfl) <| DK.cons rfl rfl (.p rfl (.s 2 rfl .nil) rfl (q_loadS rfl sh35 (leB rfl) rfl)) <| df rfl rfl rfl fo60_0 rfl <| df rfl rfl rfl fo38_0 rfl <| dl rfl rfl rfl sh26 <| dm rfl rfl rfl ?_
     obtain ⟨c226, h⟩ := ite_n h
     refine DK.cons rfl rfl (.p rfl (.s 46 rfl (.s 47 rfl .nil)) rfl (q_index rfl el26 rfl c226.1 c226.2)) <| dl rfl rfl rfl sh3 <| df rfl rfl rfl fo60_1 rfl <| dl rfl rfl rfl sh58 <| dm rfl rfl rfl ?_
     obtain ⟨c227, h⟩ := ite_n h
     refine DK.cons rfl rfl (.p rfl (.s 51 rfl (.s 52 rfl .nil)) rfl (q_index rfl el58 rfl c227.1 c227.2)) <| dl rfl rfl rfl sh26 ?_
     obtain ⟨t228, ht228, h⟩ := bind_s h
     refine DK.cons rfl rfl (.p rfl (.s 43 rfl (.s 49 rfl (.s 54 rfl .nil))) rfl (q_call (f := 88) (A := iA t228) (xs := [.tmp 43, .tmp 49, .tmp 54]) («as» := [AggA [SlcA kNodeType a0.fNodes, SlcA kEdgeType a0.fEdges], iA (rd a1.fGraph.fNodes x9), SlcA kInt (rd a1.fValues x9)]) rfl ca88 (ref15_node.con k a0 (rd a1.fGraph.fNodes x9) (rd a1.fValues x9) t228 ht228) rfl)) <| DK.cons rfl rfl (.p rfl (.s 55 rfl .nil) rfl (q_assign rfl)) <| DK.nil <| CSteps.nil <| QN.weaken (env' := [(10, _), (9, _), (3, _), (2, _)]) (.o4 rfl (.nil _)) <| QN.then_ <| sr <| mv rfl rfl <| pk rfl 56 rfl (q_int rfl rfl) <| nt ?_
     refine W.condP h rfl (fun hb229 h => ?_) (fun hb229 h => ?_)
     ·refine sr <| mv rfl rfl <| mv rfl rfl <| av rfl rfl <| av rfl rfl <| WL.nil <| QN.weaken (env' := [(5, _), (4, _)]) (.o2 rfl (.nil _)) <| QN.then_ <| W.ret <| QR.block <| QR.then_ <| QR.then_ ?_
      refine QR.block <| QR.then_ ?_
      cases h
      exact QR.f2 rfl rfl (.t rfl) (.t rfl) (.id _)
     ·refine W.skip <| QN.block <| QN.then_ <| W.region <| mv rfl rfl ?_
      obtain ⟨c230, h⟩ := ite_n h
      refine pk rfl 41 rfl (q_addR rfl c230) <| av rfl rfl <| WL.nil ?_
      exact next0 () (x9 + 1) _ h (.o2 rfl (.one rfl (.nil _)))
    ·refine W.exit <| QX.then_ <| QX.then_ <| QX.here <| QN.weaken (env' := [(3, _), (2, _)]) (.o2 rfl (.nil _)) <| QN.then_ <| W.seq <| sr <| ak rfl <| nt <| W.block ?_
     refine W.loop1 (Γ := Unit) (fun (_ : Unit) (x11 : Int) => [(2, PtrA [SlcA kNodeType a0.fNodes, SlcA kEdgeType a0.fEdges]), (3, PtrA [SlcA kInt a1.fGraph.fNodes, SlcA kEdge a1.fGraph.fEdges, SlcA (kSl kInt) a1.fValues]), (11, iA x11)]) (fun (_ : Unit) (_ : Int) => []) h () (.o2 rfl (.one rfl (.nil _))) rfl (fun rec1 K1 next1 _ x11 h => ?_)
     unfold ref15_Valid.b1 at h
     refine W.seq <| sr <| mv rfl rfl <| fd rfl rfl fo60_0 rfl <| fd rfl rfl fo38_1 rfl <| ld rfl rfl sh36 <| p1 rfl 63 rfl (q_len rfl elS36) <| p2 rfl 60 rfl 64 rfl (q_int rfl rfl) <| nt ?_
     refine W.condP h rfl (fun hb261 h => ?_) (fun hb261 h => ?_)
     ·refine W.skip <| QN.then_ <| W.seq <| W.block <| sr <| fd rfl rfl fo60_0 rfl <| fd rfl rfl fo38_1 rfl <| ld rfl rfl sh36 <| mv rfl rfl ?_
      obtain ⟨c262, h⟩ := ite_n h
      refine p2 rfl 70 rfl 71 rfl (q_index rfl el36 rfl c262.1 c262.2) <| lS rfl rfl sh109 rfl rfl <| WL.w [] rfl (Wanted.plain rfl) rfl rfl .nil (w_alloc rfl z109 (l := [iA 0, iA 0, iA 0]) rfl) ?_
      rintro _ _ ⟨b263, rfl, rfl⟩
      refine WL.w0 [0] rfl (Wanted.plain rfl) rfl (.s 12 rfl (.s 73 rfl .nil)) (w_store (L := [iA ((rd a1.fGraph.fEdges x11).fType), iA ((rd a1.fGraph.fEdges x11).fFrom), iA ((rd a1.fGraph.fEdges x11).fTo)]) rfl sh109 (CellsOf.agg _) rfl rfl (leB rfl) rfl) ?_
      rintro _ _ ⟨rfl, rfl⟩
      refine WL.nil <| QN.to (StTo.still [0] 12 rfl rfl) <| QN.weaken (env' := [(12, _), (11, _), (3, _), (2, _)]) (.o4 rfl (.nil _)) <| QN.then_ <| W.seq <| sr <| fd rfl rfl fo109_0 rfl <| ld rfl rfl sh3 <| fd rfl rfl fo35_1 rfl <| ld rfl rfl sh33 <| p1 rfl 77 rfl (q_len rfl elS33) <| p2 rfl 75 rfl 78 rfl (q_int rfl rfl) ?_
      refine nt ?_
      refine W.condP h rfl (fun hb264 h => ?_) (fun hb264 h => ?_)
      ·refine sr <| mv rfl rfl <| av rfl rfl <| ak rfl <| WL.nil <| QN.weaken (env' := [(5, _), (4, _)]) (.o2 rfl (.nil _)) <| QN.then_ <| W.ret <| QR.then_ <| QR.block <| QR.then_ <| QR.then_ ?_
       refine QR.block <| QR.then_ ?_
       cases h
       exact QR.f2 rfl rfl (.t rfl) (.t rfl) (.id _)
      ·refine W.skip <| QN.then_ <| W.seq <| W.drawK [(0, false), (1, false), (2, false), (3, false), (4, false), (5, false), (6, false), (7, false), (8, false), (9, false), (10, false), (11, false), (12, false), (13, false), (14, false), (15, false), (16, false), (17, false), (18, false)] [] (bm [0, 0, 2, 0, 8, 24, 0, 64, 248, 504, 0, 1024, 3072, 0, 8192, 31744, 64512, 131071, 262143]) mx (by kernel_rfl) <| DK.cons rfl rfl (.p rfl (.s 2 rfl .nil) rfl (q_loadS rfl sh35 (leB rfl) rfl)) <| df rfl rfl rfl fo109_0 rfl <| dl rfl rfl rfl sh3 <| df rfl rfl rfl fo60_0 rfl <| df rfl rfl rfl fo38_0 rfl <| dl rfl rfl rfl sh26 <| df rfl rfl rfl fo109_1 rfl <| dl rfl rfl rfl sh3 ?_
       obtain ⟨c271, h⟩ := ite_n h
       refine DK.cons rfl rfl (.p rfl (.s 86 rfl (.s 88 rfl .nil)) rfl (q_index rfl el26 rfl c271.1 c271.2)) <| dl rfl rfl rfl sh3 <| df rfl rfl rfl fo60_0 rfl <| df rfl rfl rfl fo38_0 rfl <| dl rfl rfl rfl sh26 <| df rfl rfl rfl fo109_2 rfl <| dl rfl rfl rfl sh3 ?_
       obtain ⟨c272, h⟩ := ite_n h
       refine DK.cons rfl rfl (.p rfl (.s 93 rfl (.s 95 rfl .nil)) rfl (q_index rfl el26 rfl c272.1 c272.2)) <| dl rfl rfl rfl sh3 ?_
       obtain ⟨t273, ht273, h⟩ := bind_s h
       refine DK.cons rfl rfl (.p rfl (.s 81 rfl (.s 83 rfl (.s 90 rfl (.s 97 rfl .nil)))) rfl (q_call (f := 89) (A := bA t273) (xs := [.tmp 81, .tmp 83, .tmp 90, .tmp 97]) («as» := [AggA [SlcA kNodeType a0.fNodes, SlcA kEdgeType a0.fEdges], iA ((rd a1.fGraph.fEdges x11).fType), iA (rd a1.fGraph.fNodes ((rd a1.fGraph.fEdges x11).fFrom)), iA (rd a1.fGraph.fNodes ((rd a1.fGraph.fEdges x11).fTo))]) rfl ca89 (ref04_Fits.con k a0 ((rd a1.fGraph.fEdges x11).fType) (rd a1.fGraph.fNodes ((rd a1.fGraph.fEdges x11).fFrom)) (rd a1.fGraph.fNodes ((rd a1.fGraph.fEdges x11).fTo)) t273 ht273) rfl)) <| DK.cons rfl rfl (.p rfl (.s 98 rfl .nil) rfl (q_not rfl)) <| DK.nil <| CSteps.nil <| QN.weaken (env' := [(99, _), (11, _), (3, _), (2, _)]) (.o4 rfl (.nil _)) <| QN.then_ ?_
       refine W.condP h rfl (fun hb274 h => ?_) (fun hb274 h => ?_)
       ·refine sr <| mv rfl rfl <| av rfl rfl <| ak rfl <| nt <| W.ret <| QR.block <| QR.then_ <| QR.then_ <| QR.block <| QR.then_ ?_
        cases h
        exact QR.f2 rfl rfl (.t rfl) (.t rfl) (.id _)
       ·refine W.skip <| QN.block <| QN.then_ <| W.region <| mv rfl rfl ?_
        obtain ⟨c275, h⟩ := ite_n h
        refine pk rfl 66 rfl (q_addR rfl c275) <| av rfl rfl <| WL.nil ?_
        exact next1 () (x11 + 1) _ h (.o2 rfl (.one rfl (.nil _)))
     ·refine W.exit <| QX.then_ <| QX.then_ <| QX.here <| QN.weaken (env' := []) (.nil _) <| QN.then_ <| sr <| ak rfl <| ak rfl <| nt <| W.ret ?_
      cases h
      exact QR.f2 rfl rfl (.t rfl) (.t rfl) (.id _)
end Go.Proofs.YtcgdfjpeboiioaaGreat
