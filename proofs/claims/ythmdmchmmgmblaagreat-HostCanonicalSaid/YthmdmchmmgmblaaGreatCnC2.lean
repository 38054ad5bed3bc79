/- The Go functions compute the pure ones. (Printed by gen.py.) -/
import Derived.Test.YthmdmchmmgmblaaGreatCnC1
namespace Go.Proofs.YthmdmchmmgmblaaGreat
open Go Go.Abs
attribute [local irreducible] Tryz.prog
theorem types_node.con (k : Nat) (a0 : Types) (a1 : Int) (r : Int) (h : types_node k a0 a1 = some r) : Con Tryz.prog 86 [] [AggA [SlcA kNodeType a0.fNodes, SlcA kEdgeType a0.fEdges], iA a1] (RA (iA r)) := by
 unfold types_node at h
 refine Con.of (N := 70) Tryz.func86 rfl rfl rfl fun w0_ fg_ => sr <| p1 rfl 0 rfl (q_box rfl (CellsOf.agg _)) <| ak rfl <| nx <| fd rfl rfl fo25_0 rfl <| ld rfl rfl sh22 <| mv rfl rfl ?_
 obtain ⟨c100, h⟩ := ite_n h
 refine p2 rfl 10 rfl 11 rfl (q_index rfl el22 rfl c100.1 c100.2) <| lS rfl rfl sh120 rfl rfl <| WL.w [] rfl (Wanted.plain rfl) rfl rfl .nil (w_alloc rfl z120 (l := [EqA (strV ([] : Str)), iA 0, bA false, EqA (.slice none 0 0)]) rfl) ?_
 rintro _ _ ⟨b101, rfl, rfl⟩
 refine WL.w0 [0] rfl (Wanted.plain rfl) rfl (.s 5 rfl (.s 13 rfl .nil)) (w_store (L := [EqA (strV ((rd a0.fNodes a1).fName)), iA ((rd a0.fNodes a1).fParent), bA ((rd a0.fNodes a1).fAbstract), SlcA kAttr ((rd a0.fNodes a1).fAttrs)]) rfl sh120 (CellsOf.agg _) rfl rfl (leB rfl) rfl) ?_
 rintro _ _ ⟨rfl, rfl⟩
 refine WL.nil <| QN.to (StTo.still [0] 5 rfl rfl) <| QN.weaken (env' := [(5, _), (2, _), (1, _)]) (.o2 rfl (.one rfl (.nil _))) <| QN.then_ <| W.seq <| W.block <| sr <| fd rfl rfl fo120_0 rfl <| ld rfl rfl sh9 ?_
 obtain ⟨t102, ht102, h⟩ := bind_s h
 refine p1 rfl 16 rfl (q_call (f := 125) (A := bA t102) (xs := [.tmp 16]) («as» := [EqA (strV ((rd a0.fNodes a1).fName))]) rfl ca125 (token_IsName.con k ((rd a0.fNodes a1).fName) t102 ht102) rfl) <| p1 rfl 17 rfl (q_not rfl) <| av rfl rfl <| nt ?_
 refine W.condP h rfl (fun hb103 h => ?_) (fun hb103 h => ?_)
 ·refine sr <| ak rfl <| WL.nil <| QN.weaken (env' := [(4, _)]) (.one rfl (.nil _)) <| QN.then_ <| W.ret <| QR.block <| QR.then_ ?_
  cases h
  exact QR.f1 rfl rfl (.t rfl) (.id _)
 ·refine sr <| fd rfl rfl fo25_0 rfl <| ld rfl rfl sh22 <| mv rfl rfl ?_
  obtain ⟨c104, h⟩ := ite_n h
  refine p2 rfl 21 rfl 22 rfl (q_subH rfl el22 rfl c104.1 c104.2) <| p1 rfl 5 rfl (q_makeFunc (xs := [.tmp 5]) (L := [PtrA [EqA (strV ((rd a0.fNodes a1).fName)), iA ((rd a0.fNodes a1).fParent), bA ((rd a0.fNodes a1).fAbstract), SlcA kAttr ((rd a0.fNodes a1).fAttrs)]]) («as» := (fun (x : NodeType) => [AggA [EqA (strV x.fName), iA x.fParent, bA x.fAbstract, SlcA kAttr x.fAttrs]])) (res := (fun (y : Bool) => bA y)) (p := (fun x => types_node_1 k x (rd a0.fNodes a1))) rfl ca127 rfl (fun x y hp => (types_node_1.con k x (rd a0.fNodes a1) y hp))) ?_
  obtain ⟨t105, ht105, h⟩ := bind_s h
  refine p2 rfl 23 rfl 24 rfl (q_call (f := 126) (A := bA t105) (xs := [.tmp 23, .tmp 24]) («as» := [SlcA kNodeType (a0.fNodes.take (a1 : Int).toNat), FnA Tryz.prog (fun (x : NodeType) => [AggA [EqA (strV x.fName), iA x.fParent, bA x.fAbstract, SlcA kAttr x.fAttrs]]) (fun (y : Bool) => bA y) (fun x => types_node_1 k x (rd a0.fNodes a1))]) rfl ca126 (slices_ContainsFunc_NodeType.con k (a0.fNodes.take (a1 : Int).toNat) (fun x => types_node_1 k x (rd a0.fNodes a1)) t105 ht105) rfl) <| av rfl rfl <| WL.nil <| QN.weaken (env' := [(19, _), (5, _), (2, _), (1, _)]) (.o4 rfl (.nil _)) <| QN.then_ ?_
  refine W.condP h rfl (fun hb106 h => ?_) (fun hb106 h => ?_)
  ·refine sr <| ak rfl <| nt <| W.ret <| QR.block <| QR.then_ ?_
   cases h
   exact QR.f1 rfl rfl (.t rfl) (.id _)
  ·refine W.seq ?_
   refine W.jn1 (Γ := Unit) (fun (_ : Unit) (x26 : Bool) => [(1, iA a1), (2, PtrA [SlcA kNodeType a0.fNodes, SlcA kEdgeType a0.fEdges]), (5, PtrA [EqA (strV ((rd a0.fNodes a1).fName)), iA ((rd a0.fNodes a1).fParent), bA ((rd a0.fNodes a1).fAbstract), SlcA kAttr ((rd a0.fNodes a1).fAttrs)]), (26, bA x26)]) (fun (_ : Unit) (_ : Bool) => []) h (fun _ x26 h => ?_) (fun j109 Kj109 h => ?_)
   ·refine QN.then_ ?_
    refine W.condP h rfl (fun hb110 h => ?_) (fun hb110 h => ?_)
    ·refine sr <| ak rfl <| nt <| W.ret <| QR.block <| QR.then_ ?_
     cases h
     exact QR.f1 rfl rfl (.t rfl) (.id _)
    ·refine sr <| fd rfl rfl fo120_3 rfl <| ld rfl rfl sh118 <| p1 rfl 38 rfl (q_len rfl elS118) <| pk rfl 39 rfl (q_int rfl rfl) <| av rfl rfl <| nt ?_
     refine W.condP h rfl (fun hb111 h => ?_) (fun hb111 h => ?_)
     ·refine sr <| ak rfl <| WL.nil <| QN.weaken (env' := [(4, _)]) (.one rfl (.nil _)) <| QN.then_ <| W.ret <| QR.block <| QR.then_ ?_
      cases h
      exact QR.f1 rfl rfl (.t rfl) (.id _)
     ·refine W.skip <| QN.block <| QN.then_ <| sr <| lS rfl rfl sh25 rfl rfl <| mv rfl rfl ?_
      obtain ⟨t112, ht112, h⟩ := bind_s h
      refine p2 rfl 41 rfl 42 rfl (q_call (f := 114) (A := SlcA kAttr t112) (xs := [.tmp 41, .tmp 42]) («as» := [AggA [SlcA kNodeType a0.fNodes, SlcA kEdgeType a0.fEdges], iA a1]) rfl ca114 (Con.free (types_attrs.con k a0 a1 t112 ht112)) rfl) <| av rfl rfl <| WL.nil <| QN.weaken (env' := [(6, _), (5, _)]) (.o2 rfl (.nil _)) <| QN.then_ <| W.seq <| sr <| mv rfl rfl <| p1 rfl 44 rfl (q_len rfl elS118) <| pk rfl 45 rfl (q_int rfl rfl) <| nt ?_
      refine W.condP h rfl (fun hb113 h => ?_) (fun hb113 h => ?_)
      ·refine sr <| ak rfl <| nt <| W.ret <| QR.then_ ?_
       cases h
       exact QR.f1 rfl rfl (.t rfl) (.id _)
      ·refine W.skip <| QN.then_ <| W.seq <| sr <| mv rfl rfl <| p1 rfl 47 rfl (q_len rfl elS118) <| fd rfl rfl fo120_3 rfl <| ld rfl rfl sh118 <| p1 rfl 50 rfl (q_len rfl elS118) ?_
       obtain ⟨c114, h⟩ := ite_n h
       refine p2 rfl 48 rfl 51 rfl (q_subR rfl c114) <| av rfl rfl <| WL.nil <| QN.weaken (env' := [(7, _), (6, _)]) (.o2 rfl (.nil _)) <| QN.then_ <| W.block ?_
       refine W.loop1 (Γ := Unit) (fun (_ : Unit) (x7 : Int) => [(6, SlcA kAttr t112), (7, iA x7)]) (fun (_ : Unit) (_ : Int) => []) h () (.o2 rfl (.nil _)) rfl (fun rec0 K0 next0 _ x7 h => ?_)
       unfold types_node.b0 at h
       refine W.seq <| sr <| mv rfl rfl <| mv rfl rfl <| p1 rfl 54 rfl (q_len rfl elS118) <| p2 rfl 53 rfl 55 rfl (q_int rfl rfl) <| nt ?_
       refine W.condP h rfl (fun hb139 h => ?_) (fun hb139 h => ?_)
       ·refine W.skip <| QN.then_ <| W.seq <| W.block <| W.seq <| W.drawK [(0, false), (1, false), (2, false), (3, false), (4, false), (5, false), (6, false), (7, false), (8, false)] [] (bm [0, 0, 3, 7, 0, 0, 48, 127, 255]) mx (by kernel_rfl) <| dm rfl rfl rfl <| dm rfl rfl rfl ?_
        obtain ⟨c146, h⟩ := ite_n h
        refine DK.cons rfl rfl (.p rfl (.s 59 rfl (.s 60 rfl .nil)) rfl (q_index rfl el118 rfl c146.1 c146.2)) <| DK.cons rfl rfl (.p rfl (.s 61 rfl .nil) rfl (q_loadS rfl sh117 (leB rfl) rfl)) <| dm rfl rfl rfl <| dm rfl rfl rfl ?_
        obtain ⟨c147, h⟩ := ite_n h
        refine DK.cons rfl rfl (.p rfl (.s 63 rfl (.s 64 rfl .nil)) rfl (q_subH rfl el118 rfl c147.1 c147.2)) ?_
        obtain ⟨t148, ht148, h⟩ := bind_s h
        refine DK.cons rfl rfl (.p rfl (.s 62 rfl (.s 65 rfl .nil)) rfl (q_call (f := 128) (A := iA t148) (xs := [.tmp 62, .tmp 65]) («as» := [AggA [EqA (strV ((rd t112 x7).fName)), iA ((rd t112 x7).fLow), iA ((rd t112 x7).fHigh), SlcA kStr ((rd t112 x7).fNames)], SlcA kAttr (t112.take (x7 : Int).toNat)]) rfl ca128 (types_attribute.con k (rd t112 x7) (t112.take (x7 : Int).toNat) t148 ht148) rfl)) <| DK.cons rfl rfl (.p rfl (.s 66 rfl .nil) rfl (q_assign rfl)) <| DK.nil <| CSteps.nil <| QN.weaken (env' := [(8, _), (7, _), (6, _)]) (.o2 rfl (.one rfl (.nil _))) <| QN.then_ <| sr <| mv rfl rfl <| pk rfl 67 rfl (q_int rfl rfl) <| nt ?_
        refine W.condP h rfl (fun hb149 h => ?_) (fun hb149 h => ?_)
        ·refine sr <| mv rfl rfl <| av rfl rfl <| nt <| W.ret <| QR.block <| QR.then_ <| QR.then_ <| QR.block <| QR.then_ ?_
         cases h
         exact QR.f1 rfl rfl (.t rfl) (.id _)
        ·refine W.skip <| QN.block <| QN.then_ <| W.region <| mv rfl rfl ?_
         obtain ⟨c150, h⟩ := ite_n h
         refine pk rfl 57 rfl (q_addR rfl c150) <| av rfl rfl <| WL.nil ?_
         exact next0 () (x7 + 1) _ h (.o2 rfl (.nil _))
       ·refine W.exit <| QX.then_ <| QX.then_ <| QX.here <| QN.then_ <| sr <| ak rfl <| nt <| W.ret ?_
        cases h
        exact QR.f1 rfl rfl (.t rfl) (.id _)
   ·refine W.region <| fd rfl rfl fo120_1 rfl <| ld rfl rfl sh3 <| pk rfl 28 rfl (q_int rfl rfl) <| mv rfl rfl ?_
    rcases bif_s h with ⟨hb151, h⟩ | ⟨hb151, h⟩
    ·refine sk rfl rfl rfl hb151 <| sk rfl rfl rfl hb151 <| sk rfl rfl rfl hb151 <| sk rfl rfl rfl hb151 <| pk rfl 30 rfl (q_pickT rfl hb151) <| av rfl rfl <| WL.nil ?_
     exact QN.weaken (.o4 rfl (.nil _)) (Kj109 () true h)
    ·refine wf rfl rfl rfl hb151 rfl rfl fo120_1 rfl <| wl rfl rfl rfl hb151 rfl rfl sh3 <| wm rfl rfl rfl hb151 rfl rfl <| wq rfl rfl rfl hb151 (.s 32 rfl (.s 33 rfl .nil)) (q_int rfl rfl).o <| p2 rfl 30 rfl 34 rfl (q_pickF rfl hb151) <| av rfl rfl <| WL.nil ?_
     exact QN.weaken (.o4 rfl (.nil _)) (Kj109 () (decide ((rd a0.fNodes a1).fParent ≥ a1)) h)
theorem types_edge_1.con (k : Nat) (a0 : Int) (a1 : Types) (r : Bool) (h : types_edge_1 k a0 a1 = some r) : Con Tryz.prog 129 [] [iA a0, PtrA [SlcA kNodeType a1.fNodes, SlcA kEdgeType a1.fEdges]] (RA (bA r)) := by
 unfold types_edge_1 at h
 refine Con.of (N := 13) Tryz.func129 rfl rfl rfl fun w0_ fg_ => sr <| ak rfl <| nt <| W.seq ?_
 refine W.jn1 (Γ := Unit) (fun (_ : Unit) (x3 : Bool) => [(3, bA x3)]) (fun (_ : Unit) (_ : Bool) => []) h (fun _ x3 h => ?_) (fun j102 Kj102 h => ?_)
 ·refine QN.then_ <| W.ret ?_
  cases h
  exact QR.f1 rfl rfl (.t rfl) (.id _)
 ·refine W.region <| mv rfl rfl <| pk rfl 4 rfl (q_int rfl rfl) <| mv rfl rfl ?_
  rcases bif_s h with ⟨hb103, h⟩ | ⟨hb103, h⟩
  ·refine wm rfl rfl rfl hb103 rfl rfl <| wf rfl rfl rfl hb103 rfl rfl fo25_0 rfl <| wl rfl rfl rfl hb103 rfl rfl sh22 <| wq rfl rfl rfl hb103 (.s 9 rfl .nil) (q_len rfl elS22).o <| wq rfl rfl rfl hb103 (.s 7 rfl (.s 10 rfl .nil)) (q_int rfl rfl).o <| p2 rfl 6 rfl 11 rfl (q_pickT rfl hb103) <| av rfl rfl <| WL.nil ?_
   exact QN.weaken (.one rfl (.nil _)) (Kj102 () (decide (a0 < (a1.fNodes.length : Int))) h)
  ·refine sk rfl rfl rfl hb103 <| sk rfl rfl rfl hb103 <| sk rfl rfl rfl hb103 <| sk rfl rfl rfl hb103 <| sk rfl rfl rfl hb103 <| pk rfl 6 rfl (q_pickF rfl hb103) <| av rfl rfl <| WL.nil ?_
   exact QN.weaken (.one rfl (.nil _)) (Kj102 () false h)
theorem types_edge_2.con (k : Nat) (a0 : EdgeType) (a1 : EdgeType) (r : Bool) (h : types_edge_2 k a0 a1 = some r) : Con Tryz.prog 131 [] [AggA [EqA (strV a0.fName), iA a0.fFrom, iA a0.fTo, iA a0.fOutLow, iA a0.fOutHigh, iA a0.fInLow, iA a0.fInHigh], PtrA [EqA (strV a1.fName), iA a1.fFrom, iA a1.fTo, iA a1.fOutLow, iA a1.fOutHigh, iA a1.fInLow, iA a1.fInHigh]] (RA (bA r)) := by
 unfold types_edge_2 at h
 refine Con.of (N := 9) Tryz.func131 rfl rfl rfl fun w0_ fg_ => sr <| p1 rfl 0 rfl (q_box rfl (CellsOf.agg _)) <| ak rfl <| nx <| fd rfl rfl fo60_0 rfl <| ld rfl rfl sh9 <| fd rfl rfl fo60_0 rfl <| ld rfl rfl sh9 ?_
 refine p2 rfl 5 rfl 7 rfl (q_str (s := a0.fName) (t := a1.fName) rfl) <| av rfl rfl <| WL.nil <| QN.weaken (env' := [(3, _)]) (.one rfl (.nil _)) <| QN.then_ <| W.ret ?_
 cases h
 exact QR.f1 rfl rfl (.t rfl) (.id _)
theorem slices_IndexFunc_EdgeType.con (k : Nat) (a0 : (List EdgeType)) (a1 : (EdgeType → Option Bool)) (r : Int) (h : slices_IndexFunc_EdgeType k a0 a1 = some r) : Con Tryz.prog 154 [] [SlcA kEdgeType a0, FnA Tryz.prog (fun (x : EdgeType) => [AggA [EqA (strV x.fName), iA x.fFrom, iA x.fTo, iA x.fOutLow, iA x.fOutHigh, iA x.fInLow, iA x.fInHigh]]) (fun (y : Bool) => bA y) a1] (RA (iA r)) := by
 unfold slices_IndexFunc_EdgeType at h
 refine Con.of (N := 19) Tryz.func154 rfl rfl rfl fun w0_ fg_ => sr <| ak rfl <| nt <| W.seq <| sr <| mv rfl rfl <| p1 rfl 6 rfl (q_len rfl elS23) <| mk_ rfl <| WL.nil ?_
 refine QN.then_ <| W.block ?_
 refine W.loop1 (Γ := Unit) (fun (_ : Unit) (x8 : Int) => [(0, SlcA kEdgeType a0), (1, FnA Tryz.prog (fun (x : EdgeType) => [AggA [EqA (strV x.fName), iA x.fFrom, iA x.fTo, iA x.fOutLow, iA x.fOutHigh, iA x.fInLow, iA x.fInHigh]]) (fun (y : Bool) => bA y) a1), (7, iA (a0.length : Int)), (8, iA x8)]) (fun (_ : Unit) (_ : Int) => []) h () (.o4 rfl (.nil _)) rfl (fun rec0 K0 next0 _ x8 h => ?_)
 unfold slices_IndexFunc_EdgeType.b0 at h
 refine sr <| p2 rfl 8 rfl 7 rfl (q_int rfl rfl) <| nt <| W.seq ?_
 refine W.condP h rfl (fun hb110 h => ?_) (fun hb110 h => ?_)
 ·refine W.skip <| QN.then_ <| W.seq <| W.block <| sr <| mv rfl rfl <| av rfl rfl <| nx <| mv rfl rfl ?_
  refine mv rfl rfl <| mv rfl rfl ?_
  obtain ⟨c111, h⟩ := ite_n h
  refine p2 rfl 12 rfl 13 rfl (q_index rfl el23 rfl c111.1 c111.2) <| lS rfl rfl sh60 rfl rfl ?_
  obtain ⟨t112, ht112, h⟩ := bind_s h
  refine p2 rfl 11 rfl 15 rfl (q_callV («as» := (fun (x : EdgeType) => [AggA [EqA (strV x.fName), iA x.fFrom, iA x.fTo, iA x.fOutLow, iA x.fOutHigh, iA x.fInLow, iA x.fInHigh]])) (res := (fun (y : Bool) => bA y)) (x := (rd a0 x8)) (y := t112) (xs := [.tmp 15]) rfl ht112 rfl) <| WL.nil <| QN.weaken (env' := [(16, _), (5, _), (8, _), (7, _), (1, _), (0, _)]) (.o4 rfl (.o2 rfl (.nil _))) <| QN.then_ ?_
  refine W.condP h rfl (fun hb113 h => ?_) (fun hb113 h => ?_)
  ·refine sr <| mv rfl rfl <| av rfl rfl <| WL.nil <| QN.weaken (env' := [(4, _)]) (.one rfl (.nil _)) <| QN.then_ <| W.ret <| QR.block <| QR.then_ <| QR.then_ <| QR.block <| QR.then_ ?_
   cases h
   exact QR.f1 rfl rfl (.t rfl) (.id _)
  ·refine W.skip <| QN.block <| QN.then_ <| W.region ?_
   obtain ⟨c114, h⟩ := ite_n h
   refine pk rfl 8 rfl (q_addR rfl c114) <| mv rfl rfl <| WL.nil ?_
   exact next0 () (x8 + 1) _ h (.o4 rfl (.nil _))
 ·refine W.exit <| QX.then_ <| QX.then_ <| QX.here <| QN.then_ <| sr <| ak rfl <| nt <| W.ret ?_
  cases h
  exact QR.f1 rfl rfl (.t rfl) (.id _)
theorem slices_ContainsFunc_EdgeType.con (k : Nat) (a0 : (List EdgeType)) (a1 : (EdgeType → Option Bool)) (r : Bool) (h : slices_ContainsFunc_EdgeType k a0 a1 = some r) : Con Tryz.prog 130 [] [SlcA kEdgeType a0, FnA Tryz.prog (fun (x : EdgeType) => [AggA [EqA (strV x.fName), iA x.fFrom, iA x.fTo, iA x.fOutLow, iA x.fOutHigh, iA x.fInLow, iA x.fInHigh]]) (fun (y : Bool) => bA y) a1] (RA (bA r)) := by
 unfold slices_ContainsFunc_EdgeType at h
 refine Con.of (N := 9) Tryz.func130 rfl rfl rfl fun w0_ fg_ => sr <| ak rfl <| nx <| mv rfl rfl <| mv rfl rfl ?_
 obtain ⟨t100, ht100, h⟩ := bind_s h
 refine p2 rfl 5 rfl 6 rfl (q_call (f := 154) (A := iA t100) (xs := [.tmp 5, .tmp 6]) («as» := [SlcA kEdgeType a0, FnA Tryz.prog (fun (x : EdgeType) => [AggA [EqA (strV x.fName), iA x.fFrom, iA x.fTo, iA x.fOutLow, iA x.fOutHigh, iA x.fInLow, iA x.fInHigh]]) (fun (y : Bool) => bA y) a1]) rfl ca154 (slices_IndexFunc_EdgeType.con k a0 a1 t100 ht100) rfl) <| pk rfl 7 rfl (q_int rfl rfl) <| av rfl rfl <| nt <| W.ret ?_
 cases h
 exact QR.f1 rfl rfl (.t rfl) (.id _)
theorem types_bounded.con (k : Nat) (a0 : Int) (a1 : Int) (r : Bool) (h : types_bounded k a0 a1 = some r) : Con Tryz.prog 132 [] [iA a0, iA a1] (RA (bA r)) := by
 unfold types_bounded at h
 refine Con.of (N := 24) Tryz.func132 rfl rfl rfl fun w0_ fg_ => sr <| ak rfl <| nt <| W.seq ?_
 refine W.jn1 (Γ := Unit) (fun (_ : Unit) (x4 : Bool) => [(4, bA x4)]) (fun (_ : Unit) (_ : Bool) => []) h (fun _ x4 h => ?_) (fun j105 Kj105 h => ?_)
 ·refine QN.then_ <| W.ret ?_
  cases h
  exact QR.f1 rfl rfl (.t rfl) (.id _)
 ·refine W.region <| mv rfl rfl <| pk rfl 5 rfl (q_int rfl rfl) <| mv rfl rfl ?_
  rcases bif_s h with ⟨hb106, h⟩ | ⟨hb106, h⟩
  ·refine wm rfl rfl rfl hb106 rfl rfl <| wq rfl rfl rfl hb106 (.s 8 rfl (.k .nil)) (q_int rfl rfl).o <| p2 rfl 7 rfl 9 rfl (q_pickT rfl hb106) <| mv rfl rfl ?_
   rcases bif_s h with ⟨hb107, h⟩ | ⟨hb107, h⟩
   ·refine wm rfl rfl rfl hb107 rfl rfl <| wq rfl rfl rfl hb107 (.s 12 rfl (.k .nil)) (q_int rfl rfl).o <| wm rfl rfl rfl hb107 rfl rfl ?_
    rcases bif_s h with ⟨hb108, h⟩ | ⟨hb108, h⟩
    ·refine sk rfl rfl rfl hb108 <| sk rfl rfl rfl hb108 <| sk rfl rfl rfl hb108 <| sk rfl rfl rfl hb108 <| su rfl rfl rfl <| su rfl rfl rfl <| sk rfl rfl rfl hb108 <| wq rfl rfl rfl hb107 (.s 14 rfl (.k .nil)) (q_pickT rfl hb108).o <| p2 rfl 11 rfl 22 rfl (q_pickT rfl hb107) <| av rfl rfl <| WL.nil ?_
     exact QN.weaken (.one rfl (.nil _)) (Kj105 () true h)
    ·refine wm rfl rfl rfl hb108 rfl rfl <| wm rfl rfl rfl hb108 rfl rfl <| wq rfl rfl rfl hb108 (.s 15 rfl (.s 16 rfl .nil)) (q_int rfl rfl).o <| wm rfl rfl rfl hb108 rfl rfl ?_
     rcases bif_s h with ⟨hb109, h⟩ | ⟨hb109, h⟩
     ·refine wm rfl rfl rfl hb109 rfl rfl <| wq rfl rfl rfl hb109 (.s 19 rfl (.k .nil)) (q_int rfl rfl).o <| wq rfl rfl rfl hb108 (.s 18 rfl (.s 20 rfl .nil)) (q_pickT rfl hb109).o <| wq rfl rfl rfl hb107 (.s 14 rfl (.s 21 rfl .nil)) (q_pickF rfl hb108).o <| p2 rfl 11 rfl 22 rfl (q_pickT rfl hb107) <| av rfl rfl <| WL.nil ?_
      exact QN.weaken (.one rfl (.nil _)) (Kj105 () (decide (a1 ≤ 40)) h)
     ·refine sk rfl rfl rfl hb109 <| sk rfl rfl rfl hb109 <| wq rfl rfl rfl hb108 (.s 18 rfl (.k .nil)) (q_pickF rfl hb109).o <| wq rfl rfl rfl hb107 (.s 14 rfl (.s 21 rfl .nil)) (q_pickF rfl hb108).o <| p2 rfl 11 rfl 22 rfl (q_pickT rfl hb107) <| av rfl rfl <| WL.nil ?_
      exact QN.weaken (.one rfl (.nil _)) (Kj105 () false h)
   ·refine sk rfl rfl rfl hb107 <| sk rfl rfl rfl hb107 <| sk rfl rfl rfl hb107 <| su rfl rfl rfl <| su rfl rfl rfl <| su rfl rfl rfl <| su rfl rfl rfl <| su rfl rfl rfl <| su rfl rfl rfl <| su rfl rfl rfl <| sk rfl rfl rfl hb107 <| pk rfl 11 rfl (q_pickF rfl hb107) <| av rfl rfl ?_
    refine WL.nil ?_
    exact QN.weaken (.one rfl (.nil _)) (Kj105 () false h)
  ·refine sk rfl rfl rfl hb106 <| sk rfl rfl rfl hb106 <| pk rfl 7 rfl (q_pickF rfl hb106) <| mv rfl rfl <| sk rfl rfl rfl rfl <| sk rfl rfl rfl rfl <| sk rfl rfl rfl rfl <| su rfl rfl rfl <| su rfl rfl rfl <| su rfl rfl rfl <| su rfl rfl rfl <| su rfl rfl rfl <| su rfl rfl rfl ?_
   refine su rfl rfl rfl <| sk rfl rfl rfl rfl <| pk rfl 11 rfl (q_pickF rfl rfl) <| av rfl rfl <| WL.nil ?_
   exact QN.weaken (.one rfl (.nil _)) (Kj105 () false h)
theorem types_edge.con (k : Nat) (a0 : Types) (a1 : Int) (r : Int) (h : types_edge k a0 a1 = some r) : Con Tryz.prog 87 [] [AggA [SlcA kNodeType a0.fNodes, SlcA kEdgeType a0.fEdges], iA a1] (RA (iA r)) := by
 unfold types_edge at h
 refine Con.of (N := 52) Tryz.func87 rfl rfl rfl fun w0_ fg_ => sr <| p1 rfl 0 rfl (q_box rfl (CellsOf.agg _)) <| ak rfl <| nx <| fd rfl rfl fo25_1 rfl <| ld rfl rfl sh23 <| mv rfl rfl ?_
 obtain ⟨c100, h⟩ := ite_n h
 refine p2 rfl 8 rfl 9 rfl (q_index rfl el23 rfl c100.1 c100.2) <| lS rfl rfl sh60 rfl rfl <| WL.w [] rfl (Wanted.plain rfl) rfl rfl .nil (w_alloc rfl z60 (l := [EqA (strV ([] : Str)), iA 0, iA 0, iA 0, iA 0, iA 0, iA 0]) rfl) ?_
 rintro _ _ ⟨b101, rfl, rfl⟩
 refine WL.w0 [0] rfl (Wanted.plain rfl) rfl (.s 5 rfl (.s 11 rfl .nil)) (w_store (L := [EqA (strV ((rd a0.fEdges a1).fName)), iA ((rd a0.fEdges a1).fFrom), iA ((rd a0.fEdges a1).fTo), iA ((rd a0.fEdges a1).fOutLow), iA ((rd a0.fEdges a1).fOutHigh), iA ((rd a0.fEdges a1).fInLow), iA ((rd a0.fEdges a1).fInHigh)]) rfl sh60 (CellsOf.agg _) rfl rfl (leB rfl) rfl) ?_
 rintro _ _ ⟨rfl, rfl⟩
 refine WL.nil <| QN.to (StTo.still [0] 5 rfl rfl) <| QN.weaken (env' := [(5, _), (2, _), (1, _)]) (.o2 rfl (.one rfl (.nil _))) <| QN.then_ <| sr <| p1 rfl 2 rfl (q_makeFunc (xs := [.tmp 2]) (L := [PtrA [SlcA kNodeType a0.fNodes, SlcA kEdgeType a0.fEdges]]) («as» := (fun (x : Int) => [iA x])) (res := (fun (y : Bool) => bA y)) (p := (fun x => types_edge_1 k x a0)) rfl ca129 rfl (fun x y hp => (types_edge_1.con k x a0 y hp))) <| av rfl rfl <| nt <| W.seq <| W.block <| W.seq ?_
 refine W.region <| fd rfl rfl fo60_0 rfl <| ld rfl rfl sh9 ?_
 obtain ⟨t102, ht102, h⟩ := bind_s h
 refine p1 rfl 15 rfl (q_call (f := 125) (A := bA t102) (xs := [.tmp 15]) («as» := [EqA (strV ((rd a0.fEdges a1).fName))]) rfl ca125 (token_IsName.con k ((rd a0.fEdges a1).fName) t102 ht102) rfl) <| p1 rfl 16 rfl (q_not rfl) <| av rfl rfl <| nt ?_
 refine W.condP h rfl (fun hb103 h => ?_) (fun hb103 h => ?_)
 ·refine sr <| ak rfl <| WL.nil <| QN.weaken (env' := [(4, _)]) (.one rfl (.nil _)) <| QN.then_ <| W.ret <| QR.block <| QR.then_ ?_
  cases h
  exact QR.f1 rfl rfl (.t rfl) (.id _)
 ·refine sr <| fd rfl rfl fo25_1 rfl <| ld rfl rfl sh23 <| mv rfl rfl ?_
  obtain ⟨c104, h⟩ := ite_n h
  refine p2 rfl 20 rfl 21 rfl (q_subH rfl el23 rfl c104.1 c104.2) <| p1 rfl 5 rfl (q_makeFunc (xs := [.tmp 5]) (L := [PtrA [EqA (strV ((rd a0.fEdges a1).fName)), iA ((rd a0.fEdges a1).fFrom), iA ((rd a0.fEdges a1).fTo), iA ((rd a0.fEdges a1).fOutLow), iA ((rd a0.fEdges a1).fOutHigh), iA ((rd a0.fEdges a1).fInLow), iA ((rd a0.fEdges a1).fInHigh)]]) («as» := (fun (x : EdgeType) => [AggA [EqA (strV x.fName), iA x.fFrom, iA x.fTo, iA x.fOutLow, iA x.fOutHigh, iA x.fInLow, iA x.fInHigh]])) (res := (fun (y : Bool) => bA y)) (p := (fun x => types_edge_2 k x (rd a0.fEdges a1))) rfl ca131 rfl (fun x y hp => (types_edge_2.con k x (rd a0.fEdges a1) y hp))) ?_
  obtain ⟨t105, ht105, h⟩ := bind_s h
  refine p2 rfl 22 rfl 23 rfl (q_call (f := 130) (A := bA t105) (xs := [.tmp 22, .tmp 23]) («as» := [SlcA kEdgeType (a0.fEdges.take (a1 : Int).toNat), FnA Tryz.prog (fun (x : EdgeType) => [AggA [EqA (strV x.fName), iA x.fFrom, iA x.fTo, iA x.fOutLow, iA x.fOutHigh, iA x.fInLow, iA x.fInHigh]]) (fun (y : Bool) => bA y) (fun x => types_edge_2 k x (rd a0.fEdges a1))]) rfl ca130 (slices_ContainsFunc_EdgeType.con k (a0.fEdges.take (a1 : Int).toNat) (fun x => types_edge_2 k x (rd a0.fEdges a1)) t105 ht105) rfl) <| av rfl rfl <| WL.nil <| QN.weaken (env' := [(18, _), (6, _), (5, _)]) (.o2 rfl (.one rfl (.nil _))) <| QN.then_ ?_
  refine W.condP h rfl (fun hb106 h => ?_) (fun hb106 h => ?_)
  ·refine sr <| ak rfl <| nt <| W.ret <| QR.block <| QR.then_ ?_
   cases h
   exact QR.f1 rfl rfl (.t rfl) (.id _)
  ·refine W.seq <| W.seq ?_
   refine W.jn1 (Γ := Unit) (fun (_ : Unit) (x25 : Bool) => [(5, PtrA [EqA (strV ((rd a0.fEdges a1).fName)), iA ((rd a0.fEdges a1).fFrom), iA ((rd a0.fEdges a1).fTo), iA ((rd a0.fEdges a1).fOutLow), iA ((rd a0.fEdges a1).fOutHigh), iA ((rd a0.fEdges a1).fInLow), iA ((rd a0.fEdges a1).fInHigh)]), (25, bA x25)]) (fun (_ : Unit) (_ : Bool) => []) h (fun _ x25 h => ?_) (fun j111 Kj111 h => ?_)
   ·refine QN.then_ ?_
    refine W.condP h rfl (fun hb121 h => ?_) (fun hb121 h => ?_)
    ·refine W.skip <| QN.then_ <| W.condT rfl hb121 <| sr <| ak rfl <| nt <| W.ret <| QR.block <| QR.then_ ?_
     cases h
     exact QR.f1 rfl rfl (.t rfl) (.id _)
    ·refine W.jn1 (Γ := Unit) (fun (_ : Unit) (x25' : Bool) => [(25, bA x25')]) (fun (_ : Unit) (_ : Bool) => []) h (fun _ x25' h => ?_) (fun j126 Kj126 h => ?_)
     ·refine QN.then_ ?_
      refine W.condP h rfl (fun hb127 h => ?_) (fun hb127 h => ?_)
      ·refine sr <| ak rfl <| nt <| W.ret <| QR.block <| QR.then_ ?_
       cases h
       exact QR.f1 rfl rfl (.t rfl) (.id _)
      ·refine W.skip <| QN.block <| QN.then_ <| sr <| ak rfl <| nt <| W.ret ?_
       cases h
       exact QR.f1 rfl rfl (.t rfl) (.id _)
     ·refine W.region <| fd rfl rfl fo60_3 rfl <| ld rfl rfl sh3 <| fd rfl rfl fo60_4 rfl <| ld rfl rfl sh3 ?_
      obtain ⟨t128, ht128, h⟩ := bind_s h
      refine p2 rfl 39 rfl 41 rfl (q_call (f := 132) (A := bA t128) (xs := [.tmp 39, .tmp 41]) («as» := [iA ((rd a0.fEdges a1).fOutLow), iA ((rd a0.fEdges a1).fOutHigh)]) rfl ca132 (types_bounded.con k ((rd a0.fEdges a1).fOutLow) ((rd a0.fEdges a1).fOutHigh) t128 ht128) rfl) <| p1 rfl 42 rfl (q_not rfl) <| mv rfl rfl ?_
      rcases bif_s h with ⟨hb129, h⟩ | ⟨hb129, h⟩
      ·refine sk rfl rfl rfl hb129 <| sk rfl rfl rfl hb129 <| sk rfl rfl rfl hb129 <| sk rfl rfl rfl hb129 <| sk rfl rfl rfl hb129 <| sk rfl rfl rfl hb129 <| pk rfl 44 rfl (q_pickT rfl hb129) <| av rfl rfl <| WL.nil ?_
       exact QN.weaken (.one rfl (.nil _)) (Kj126 () true h)
      ·refine wf rfl rfl rfl hb129 rfl rfl fo60_5 rfl <| wl rfl rfl rfl hb129 rfl rfl sh3 <| wf rfl rfl rfl hb129 rfl rfl fo60_6 rfl <| wl rfl rfl rfl hb129 rfl rfl sh3 ?_
       obtain ⟨t130, ht130, h⟩ := bind_s h
       refine wq rfl rfl rfl hb129 (.s 46 rfl (.s 48 rfl .nil)) (q_call (f := 132) (A := bA t130) (xs := [.tmp 46, .tmp 48]) («as» := [iA ((rd a0.fEdges a1).fInLow), iA ((rd a0.fEdges a1).fInHigh)]) rfl ca132 (types_bounded.con k ((rd a0.fEdges a1).fInLow) ((rd a0.fEdges a1).fInHigh) t130 ht130) rfl).o <| wq rfl rfl rfl hb129 (.s 49 rfl .nil) (q_not rfl).o <| p2 rfl 44 rfl 50 rfl (q_pickF rfl hb129) <| av rfl rfl <| WL.nil ?_
       exact QN.weaken (.one rfl (.nil _)) (Kj126 () (!t130) h)
   ·refine W.region <| mv rfl rfl <| fd rfl rfl fo60_1 rfl <| ld rfl rfl sh3 ?_
    obtain ⟨t131, ht131, h⟩ := bind_s h
    refine p2 rfl 26 rfl 28 rfl (q_callV («as» := (fun (x : Int) => [iA x])) (res := (fun (y : Bool) => bA y)) (x := (rd a0.fEdges a1).fFrom) (y := t131) (xs := [.tmp 28]) rfl ht131 rfl) <| p1 rfl 29 rfl (q_not rfl) <| mv rfl rfl ?_
    rcases bif_s h with ⟨hb132, h⟩ | ⟨hb132, h⟩
    ·refine sk rfl rfl rfl hb132 <| sk rfl rfl rfl hb132 <| sk rfl rfl rfl hb132 <| sk rfl rfl rfl hb132 <| sk rfl rfl rfl hb132 <| pk rfl 31 rfl (q_pickT rfl hb132) <| av rfl rfl <| WL.nil ?_
     exact QN.weaken (.o2 rfl (.nil _)) (Kj111 () true h)
    ·refine wm rfl rfl rfl hb132 rfl rfl <| wf rfl rfl rfl hb132 rfl rfl fo60_2 rfl <| wl rfl rfl rfl hb132 rfl rfl sh3 ?_
     obtain ⟨t133, ht133, h⟩ := bind_s h
     refine wq rfl rfl rfl hb132 (.s 32 rfl (.s 34 rfl .nil)) (q_callV («as» := (fun (x : Int) => [iA x])) (res := (fun (y : Bool) => bA y)) (x := (rd a0.fEdges a1).fTo) (y := t133) (xs := [.tmp 34]) rfl ht133 rfl).o <| wq rfl rfl rfl hb132 (.s 35 rfl .nil) (q_not rfl).o <| p2 rfl 31 rfl 36 rfl (q_pickF rfl hb132) <| av rfl rfl <| WL.nil ?_
     exact QN.weaken (.o2 rfl (.nil _)) (Kj111 () (!t133) h)
theorem types_Valid.con (k : Nat) (a0 : Types) (r : (Str × Int)) (h : types_Valid k a0 = some r) : Con Tryz.prog 45 [] [AggA [SlcA kNodeType a0.fNodes, SlcA kEdgeType a0.fEdges]] (RA (TupA [EqA (strV r.1), iA r.2])) := by
 unfold types_Valid at h
 refine Con.of (N := 60) Tryz.func45 rfl rfl rfl fun w0_ fg_ => sr <| p1 rfl 0 rfl (q_box rfl (CellsOf.agg _)) <| ak rfl <| ak rfl <| nt <| W.seq <| W.block <| sr <| fd rfl rfl fo25_0 rfl ?_
 refine ld rfl rfl sh22 <| p1 rfl 12 rfl (q_len rfl elS22) <| pk rfl 13 rfl (q_int rfl rfl) <| av rfl rfl <| WL.nil <| QN.weaken (env' := [(10, _), (1, _)]) (.o2 rfl (.nil _)) <| QN.then_ ?_
 refine W.condP h rfl (fun hb100 h => ?_) (fun hb100 h => ?_)
 ·refine sr <| ak rfl <| ak rfl <| nt <| W.ret <| QR.block <| QR.then_ ?_
  cases h
  exact QR.f2 rfl rfl (.t rfl) (.t rfl) (.id _)
 ·refine W.seq ?_
  refine W.jn1 (Γ := Unit) (fun (_ : Unit) (x15 : Bool) => [(1, PtrA [SlcA kNodeType a0.fNodes, SlcA kEdgeType a0.fEdges]), (15, bA x15)]) (fun (_ : Unit) (_ : Bool) => []) h (fun _ x15 h => ?_) (fun j103 Kj103 h => ?_)
  ·refine QN.then_ ?_
   refine W.condP h rfl (fun hb104 h => ?_) (fun hb104 h => ?_)
   ·refine sr <| ak rfl <| ak rfl <| nt <| W.ret <| QR.block <| QR.then_ ?_
    cases h
    exact QR.f2 rfl rfl (.t rfl) (.t rfl) (.id _)
   ·refine W.skip <| QN.block <| QN.then_ <| W.seq <| sr <| fd rfl rfl fo25_0 rfl <| ld rfl rfl sh22 <| p1 rfl 27 rfl (q_len rfl elS22) <| mk_ rfl <| nt <| W.block ?_
    refine W.loop1 (Γ := Unit) (fun (_ : Unit) (x29 : Int) => [(1, PtrA [SlcA kNodeType a0.fNodes, SlcA kEdgeType a0.fEdges]), (27, SlcA kNodeType a0.fNodes), (28, iA (a0.fNodes.length : Int)), (29, iA x29)]) (fun (_ : Unit) (_ : Int) => []) h () (.o4 rfl (.nil _)) rfl (fun rec0 K0 next0 _ x29 h => ?_)
    unfold types_Valid.b0 at h
    refine sr <| p2 rfl 29 rfl 28 rfl (q_int rfl rfl) <| nt <| W.seq ?_
    refine W.condP h rfl (fun hb153 h => ?_) (fun hb153 h => ?_)
    ·refine W.skip <| QN.then_ <| W.seq <| W.block <| sr <| mv rfl rfl ?_
     obtain ⟨c154, h⟩ := ite_n h
     refine p2 rfl 27 rfl 29 rfl (q_index rfl el22 rfl c154.1 c154.2) <| lS rfl rfl sh120 rfl rfl <| WL.w [] rfl (Wanted.plain rfl) rfl rfl .nil (w_alloc rfl z120 (l := [EqA (strV ([] : Str)), iA 0, bA false, EqA (.slice none 0 0)]) rfl) ?_
     rintro _ _ ⟨b155, rfl, rfl⟩
     refine av rfl rfl <| WL.w0 [0] rfl (Wanted.plain rfl) rfl (.s 5 rfl (.s 33 rfl .nil)) (w_store (L := [EqA (strV ((rd a0.fNodes x29).fName)), iA ((rd a0.fNodes x29).fParent), bA ((rd a0.fNodes x29).fAbstract), SlcA kAttr ((rd a0.fNodes x29).fAttrs)]) rfl sh120 (CellsOf.agg _) rfl rfl (leB rfl) rfl) ?_
     rintro _ _ ⟨rfl, rfl⟩
     refine WL.nil <| QN.to (StTo.still [0] 5 rfl rfl) <| QN.then_ <| sr <| lS rfl rfl sh25 rfl rfl <| mv rfl rfl ?_
     obtain ⟨t156, ht156, h⟩ := bind_s h
     refine p2 rfl 34 rfl 35 rfl (q_call (f := 86) (A := iA t156) (xs := [.tmp 34, .tmp 35]) («as» := [AggA [SlcA kNodeType a0.fNodes, SlcA kEdgeType a0.fEdges], iA x29]) rfl ca86 (types_node.con k a0 x29 t156 ht156) rfl) <| av rfl rfl <| WL.nil <| QN.weaken (env' := [(6, _), (5, _), (29, _), (28, _), (27, _), (1, _)]) (.o4 rfl (.o2 rfl (.nil _))) <| QN.then_ <| sr <| mv rfl rfl <| pk rfl 37 rfl (q_int rfl rfl) <| nt ?_
     refine W.condP h rfl (fun hb157 h => ?_) (fun hb157 h => ?_)
     ·refine sr <| fd rfl rfl fo120_0 rfl <| ld rfl rfl sh9 <| mv rfl rfl <| av rfl rfl <| av rfl rfl <| WL.nil <| QN.weaken (env' := [(3, _), (2, _)]) (.o2 rfl (.nil _)) <| QN.then_ <| W.ret <| QR.block <| QR.then_ ?_
      refine QR.then_ <| QR.block <| QR.then_ ?_
      cases h
      exact QR.f2 rfl rfl (.t rfl) (.t rfl) (.id _)
     ·refine W.skip <| QN.block <| QN.then_ <| W.region ?_
      obtain ⟨c158, h⟩ := ite_n h
      refine pk rfl 29 rfl (q_addR rfl c158) <| mv rfl rfl <| WL.nil ?_
      exact next0 () (x29 + 1) _ h (.o4 rfl (.nil _))
    ·refine W.exit <| QX.then_ <| QX.then_ <| QX.here <| QN.then_ <| W.seq <| sr <| fd rfl rfl fo25_1 rfl <| ld rfl rfl sh23 <| p1 rfl 44 rfl (q_len rfl elS23) <| mk_ rfl <| WL.nil ?_
     refine QN.then_ <| W.block ?_
     refine W.loop1 (Γ := Unit) (fun (_ : Unit) (x46 : Int) => [(1, PtrA [SlcA kNodeType a0.fNodes, SlcA kEdgeType a0.fEdges]), (44, SlcA kEdgeType a0.fEdges), (45, iA (a0.fEdges.length : Int)), (46, iA x46)]) (fun (_ : Unit) (_ : Int) => []) h () (.o4 rfl (.nil _)) rfl (fun rec1 K1 next1 _ x46 h => ?_)
     unfold types_Valid.b1 at h
     refine sr <| p2 rfl 46 rfl 45 rfl (q_int rfl rfl) <| nt <| W.seq ?_
     refine W.condP h rfl (fun hb171 h => ?_) (fun hb171 h => ?_)
     ·refine W.skip <| QN.then_ <| W.seq <| W.block <| sr <| mv rfl rfl ?_
      obtain ⟨c172, h⟩ := ite_n h
      refine p2 rfl 44 rfl 46 rfl (q_index rfl el23 rfl c172.1 c172.2) <| lS rfl rfl sh60 rfl rfl <| WL.w [] rfl (Wanted.plain rfl) rfl rfl .nil (w_alloc rfl z60 (l := [EqA (strV ([] : Str)), iA 0, iA 0, iA 0, iA 0, iA 0, iA 0]) rfl) ?_
      rintro _ _ ⟨b173, rfl, rfl⟩
      refine av rfl rfl <| WL.w0 [0] rfl (Wanted.plain rfl) rfl (.s 8 rfl (.s 50 rfl .nil)) (w_store (L := [EqA (strV ((rd a0.fEdges x46).fName)), iA ((rd a0.fEdges x46).fFrom), iA ((rd a0.fEdges x46).fTo), iA ((rd a0.fEdges x46).fOutLow), iA ((rd a0.fEdges x46).fOutHigh), iA ((rd a0.fEdges x46).fInLow), iA ((rd a0.fEdges x46).fInHigh)]) rfl sh60 (CellsOf.agg _) rfl rfl (leB rfl) rfl) ?_
      rintro _ _ ⟨rfl, rfl⟩
      refine WL.nil <| QN.to (StTo.still [0] 8 rfl rfl) <| QN.then_ <| sr <| lS rfl rfl sh25 rfl rfl <| mv rfl rfl ?_
      obtain ⟨t174, ht174, h⟩ := bind_s h
      refine p2 rfl 51 rfl 52 rfl (q_call (f := 87) (A := iA t174) (xs := [.tmp 51, .tmp 52]) («as» := [AggA [SlcA kNodeType a0.fNodes, SlcA kEdgeType a0.fEdges], iA x46]) rfl ca87 (types_edge.con k a0 x46 t174 ht174) rfl) <| av rfl rfl <| WL.nil <| QN.weaken (env' := [(9, _), (8, _), (46, _), (45, _), (44, _), (1, _)]) (.o4 rfl (.o2 rfl (.nil _))) <| QN.then_ <| sr <| mv rfl rfl <| pk rfl 54 rfl (q_int rfl rfl) <| nt ?_
      refine W.condP h rfl (fun hb175 h => ?_) (fun hb175 h => ?_)
      ·refine sr <| fd rfl rfl fo60_0 rfl <| ld rfl rfl sh9 <| mv rfl rfl <| av rfl rfl <| av rfl rfl <| WL.nil <| QN.weaken (env' := [(3, _), (2, _)]) (.o2 rfl (.nil _)) <| QN.then_ <| W.ret <| QR.block <| QR.then_ ?_
       refine QR.then_ <| QR.block <| QR.then_ ?_
       cases h
       exact QR.f2 rfl rfl (.t rfl) (.t rfl) (.id _)
      ·refine W.skip <| QN.block <| QN.then_ <| W.region ?_
       obtain ⟨c176, h⟩ := ite_n h
       refine pk rfl 46 rfl (q_addR rfl c176) <| mv rfl rfl <| WL.nil ?_
       exact next1 () (x46 + 1) _ h (.o4 rfl (.nil _))
     ·refine W.exit <| QX.then_ <| QX.then_ <| QX.here <| QN.then_ <| sr <| ak rfl <| ak rfl <| nt <| W.ret ?_
      cases h
      exact QR.f2 rfl rfl (.t rfl) (.t rfl) (.id _)
  ·refine W.region <| fd rfl rfl fo25_0 rfl <| ld rfl rfl sh22 <| p1 rfl 17 rfl (q_len rfl elS22) <| pk rfl 18 rfl (q_int rfl rfl) <| mv rfl rfl ?_
   rcases bif_s h with ⟨hb177, h⟩ | ⟨hb177, h⟩
   ·refine sk rfl rfl rfl hb177 <| sk rfl rfl rfl hb177 <| sk rfl rfl rfl hb177 <| sk rfl rfl rfl hb177 <| pk rfl 20 rfl (q_pickT rfl hb177) <| av rfl rfl <| WL.nil ?_
    exact QN.weaken (.o2 rfl (.nil _)) (Kj103 () true h)
   ·refine wf rfl rfl rfl hb177 rfl rfl fo25_1 rfl <| wl rfl rfl rfl hb177 rfl rfl sh23 <| wq rfl rfl rfl hb177 (.s 22 rfl .nil) (q_len rfl elS23).o <| wq rfl rfl rfl hb177 (.s 23 rfl (.k .nil)) (q_int rfl rfl).o <| p2 rfl 20 rfl 24 rfl (q_pickF rfl hb177) <| av rfl rfl <| WL.nil ?_
    exact QN.weaken (.o2 rfl (.nil _)) (Kj103 () (decide ((a0.fEdges.length : Int) > 20)) h)
theorem slices_IndexFunc_int.con (k : Nat) (a0 : (List Int)) (a1 : (Int → Option Bool)) (r : Int) (h : slices_IndexFunc_int k a0 a1 = some r) : Con Tryz.prog 133 [] [SlcA kInt a0, FnA Tryz.prog (fun (x : Int) => [iA x]) (fun (y : Bool) => bA y) a1] (RA (iA r)) := by
 unfold slices_IndexFunc_int at h
 refine Con.of (N := 19) Tryz.func133 rfl rfl rfl fun w0_ fg_ => sr <| ak rfl <| nt <| W.seq <| sr <| mv rfl rfl <| p1 rfl 6 rfl (q_len rfl elS26) <| mk_ rfl <| WL.nil ?_
 refine QN.then_ <| W.block ?_
 refine W.loop1 (Γ := Unit) (fun (_ : Unit) (x8 : Int) => [(0, SlcA kInt a0), (1, FnA Tryz.prog (fun (x : Int) => [iA x]) (fun (y : Bool) => bA y) a1), (7, iA (a0.length : Int)), (8, iA x8)]) (fun (_ : Unit) (_ : Int) => []) h () (.o4 rfl (.nil _)) rfl (fun rec0 K0 next0 _ x8 h => ?_)
 unfold slices_IndexFunc_int.b0 at h
 refine sr <| p2 rfl 8 rfl 7 rfl (q_int rfl rfl) <| nt <| W.seq ?_
 refine W.condP h rfl (fun hb110 h => ?_) (fun hb110 h => ?_)
 ·refine W.skip <| QN.then_ <| W.seq <| W.block <| sr <| mv rfl rfl <| av rfl rfl <| nx <| mv rfl rfl ?_
  refine mv rfl rfl <| mv rfl rfl ?_
  obtain ⟨c111, h⟩ := ite_n h
  refine p2 rfl 12 rfl 13 rfl (q_index rfl el26 rfl c111.1 c111.2) <| ld rfl rfl sh3 ?_
  obtain ⟨t112, ht112, h⟩ := bind_s h
  refine p2 rfl 11 rfl 15 rfl (q_callV («as» := (fun (x : Int) => [iA x])) (res := (fun (y : Bool) => bA y)) (x := (rd a0 x8)) (y := t112) (xs := [.tmp 15]) rfl ht112 rfl) <| WL.nil <| QN.weaken (env' := [(16, _), (5, _), (8, _), (7, _), (1, _), (0, _)]) (.o4 rfl (.o2 rfl (.nil _))) <| QN.then_ ?_
  refine W.condP h rfl (fun hb113 h => ?_) (fun hb113 h => ?_)
  ·refine sr <| mv rfl rfl <| av rfl rfl <| WL.nil <| QN.weaken (env' := [(4, _)]) (.one rfl (.nil _)) <| QN.then_ <| W.ret <| QR.block <| QR.then_ <| QR.then_ <| QR.block <| QR.then_ ?_
   cases h
   exact QR.f1 rfl rfl (.t rfl) (.id _)
  ·refine W.skip <| QN.block <| QN.then_ <| W.region ?_
   obtain ⟨c114, h⟩ := ite_n h
   refine pk rfl 8 rfl (q_addR rfl c114) <| mv rfl rfl <| WL.nil ?_
   exact next0 () (x8 + 1) _ h (.o4 rfl (.nil _))
 ·refine W.exit <| QX.then_ <| QX.then_ <| QX.here <| QN.then_ <| sr <| ak rfl <| nt <| W.ret ?_
  cases h
  exact QR.f1 rfl rfl (.t rfl) (.id _)
theorem slices_ContainsFunc_int.con (k : Nat) (a0 : (List Int)) (a1 : (Int → Option Bool)) (r : Bool) (h : slices_ContainsFunc_int k a0 a1 = some r) : Con Tryz.prog 88 [] [SlcA kInt a0, FnA Tryz.prog (fun (x : Int) => [iA x]) (fun (y : Bool) => bA y) a1] (RA (bA r)) := by
 unfold slices_ContainsFunc_int at h
 refine Con.of (N := 9) Tryz.func88 rfl rfl rfl fun w0_ fg_ => sr <| ak rfl <| nx <| mv rfl rfl <| mv rfl rfl ?_
 obtain ⟨t100, ht100, h⟩ := bind_s h
 refine p2 rfl 5 rfl 6 rfl (q_call (f := 133) (A := iA t100) (xs := [.tmp 5, .tmp 6]) («as» := [SlcA kInt a0, FnA Tryz.prog (fun (x : Int) => [iA x]) (fun (y : Bool) => bA y) a1]) rfl ca133 (slices_IndexFunc_int.con k a0 a1 t100 ht100) rfl) <| pk rfl 7 rfl (q_int rfl rfl) <| av rfl rfl <| nt <| W.ret ?_
 cases h
 exact QR.f1 rfl rfl (.t rfl) (.id _)
theorem graph_within.con (k : Nat) (a0 : Int) (a1 : Int) (r : Bool) (h : graph_within k a0 a1 = some r) : Con Tryz.prog 90 [] [iA a0, iA a1] (RA (bA r)) := by
 unfold graph_within at h
 refine Con.of (N := 12) Tryz.func90 rfl rfl rfl fun w0_ fg_ => sr <| ak rfl <| nt <| W.seq ?_
 refine W.jn1 (Γ := Unit) (fun (_ : Unit) (x4 : Bool) => [(4, bA x4)]) (fun (_ : Unit) (_ : Bool) => []) h (fun _ x4 h => ?_) (fun j102 Kj102 h => ?_)
 ·refine QN.then_ <| W.ret ?_
  cases h
  exact QR.f1 rfl rfl (.t rfl) (.id _)
 ·refine W.region <| mv rfl rfl <| pk rfl 5 rfl (q_int rfl rfl) <| mv rfl rfl ?_
  rcases bif_s h with ⟨hb103, h⟩ | ⟨hb103, h⟩
  ·refine wm rfl rfl rfl hb103 rfl rfl <| wm rfl rfl rfl hb103 rfl rfl <| wq rfl rfl rfl hb103 (.s 8 rfl (.s 9 rfl .nil)) (q_int rfl rfl).o <| p2 rfl 7 rfl 10 rfl (q_pickT rfl hb103) <| av rfl rfl <| WL.nil ?_
   exact QN.weaken (.one rfl (.nil _)) (Kj102 () (decide (a0 ≤ a1)) h)
  ·refine sk rfl rfl rfl hb103 <| sk rfl rfl rfl hb103 <| sk rfl rfl rfl hb103 <| pk rfl 7 rfl (q_pickF rfl hb103) <| av rfl rfl <| WL.nil ?_
   exact QN.weaken (.one rfl (.nil _)) (Kj102 () false h)
theorem graph_Valid_1.con (k : Nat) (a0 : Int) (r : Bool) (h : graph_Valid_1 k a0 = some r) : Con Tryz.prog 89 [] [iA a0] (RA (bA r)) := by
 unfold graph_Valid_1 at h
 refine Con.of (N := 6) Tryz.func89 rfl rfl rfl fun w0_ fg_ => sr <| ak rfl <| nx <| mv rfl rfl ?_
 obtain ⟨t100, ht100, h⟩ := bind_s h
 refine pk rfl 3 rfl (q_call (f := 90) (A := bA t100) (xs := [.tmp 3, .const (.int .i64 99)]) («as» := [iA a0, iA 99]) rfl ca90 (graph_within.con k a0 99 t100 ht100) rfl) <| p1 rfl 4 rfl (q_not rfl) <| av rfl rfl <| nt <| W.ret ?_
 cases h
 exact QR.f1 rfl rfl (.t rfl) (.id _)
theorem graph_fits.con (k : Nat) (a0 : Edge) (a1 : Int) (r : Bool) (h : graph_fits k a0 a1 = some r) : Con Tryz.prog 93 [] [AggA [iA a0.fType, iA a0.fFrom, iA a0.fTo], iA a1] (RA (bA r)) := by
 unfold graph_fits at h
 refine Con.of (N := 22) Tryz.func93 rfl rfl rfl fun w0_ fg_ => sr <| p1 rfl 0 rfl (q_box rfl (CellsOf.agg _)) <| ak rfl <| nt <| W.seq ?_
 refine W.jn1 (Γ := Unit) (fun (_ : Unit) (x4 : Bool) => [(4, bA x4)]) (fun (_ : Unit) (_ : Bool) => []) h (fun _ x4 h => ?_) (fun j108 Kj108 h => ?_)
 ·refine QN.then_ <| W.ret ?_
  cases h
  exact QR.f1 rfl rfl (.t rfl) (.id _)
 ·refine W.region <| fd rfl rfl fo63_0 rfl <| ld rfl rfl sh3 ?_
  obtain ⟨t109, ht109, h⟩ := bind_s h
  refine pk rfl 6 rfl (q_call (f := 90) (A := bA t109) (xs := [.tmp 6, .const (.int .i64 99)]) («as» := [iA a0.fType, iA 99]) rfl ca90 (graph_within.con k a0.fType 99 t109 ht109) rfl) <| mv rfl rfl ?_
  rcases bif_s h with ⟨hb110, h⟩ | ⟨hb110, h⟩
  ·refine wf rfl rfl rfl hb110 rfl rfl fo63_1 rfl <| wl rfl rfl rfl hb110 rfl rfl sh3 <| wm rfl rfl rfl hb110 rfl rfl ?_
   obtain ⟨c111, h⟩ := ite_n h
   refine wq rfl rfl rfl hb110 (.s 11 rfl (.k .nil)) (q_subR rfl c111).o ?_
   obtain ⟨t112, ht112, h⟩ := bind_s h
   refine wq rfl rfl rfl hb110 (.s 10 rfl (.s 12 rfl .nil)) (q_call (f := 90) (A := bA t112) (xs := [.tmp 10, .tmp 12]) («as» := [iA a0.fFrom, iA (a1 - 1)]) rfl ca90 (graph_within.con k a0.fFrom (a1 - 1) t112 ht112) rfl).o <| p2 rfl 8 rfl 13 rfl (q_pickT rfl hb110) <| mv rfl rfl ?_
   rcases bif_s h with ⟨hb113, h⟩ | ⟨hb113, h⟩
   ·refine wf rfl rfl rfl hb113 rfl rfl fo63_2 rfl <| wl rfl rfl rfl hb113 rfl rfl sh3 <| wm rfl rfl rfl hb113 rfl rfl ?_
    obtain ⟨c114, h⟩ := ite_n h
    refine wq rfl rfl rfl hb113 (.s 18 rfl (.k .nil)) (q_subR rfl c114).o ?_
    obtain ⟨t115, ht115, h⟩ := bind_s h
    refine wq rfl rfl rfl hb113 (.s 17 rfl (.s 19 rfl .nil)) (q_call (f := 90) (A := bA t115) (xs := [.tmp 17, .tmp 19]) («as» := [iA a0.fTo, iA (a1 - 1)]) rfl ca90 (graph_within.con k a0.fTo (a1 - 1) t115 ht115) rfl).o <| p2 rfl 15 rfl 20 rfl (q_pickT rfl hb113) <| av rfl rfl <| WL.nil ?_
    exact QN.weaken (.one rfl (.nil _)) (Kj108 () t115 h)
   ·refine sk rfl rfl rfl hb113 <| sk rfl rfl rfl hb113 <| sk rfl rfl rfl hb113 <| sk rfl rfl rfl hb113 <| sk rfl rfl rfl hb113 <| pk rfl 15 rfl (q_pickF rfl hb113) <| av rfl rfl <| WL.nil ?_
    exact QN.weaken (.one rfl (.nil _)) (Kj108 () false h)
  ·refine sk rfl rfl rfl hb110 <| sk rfl rfl rfl hb110 <| sk rfl rfl rfl hb110 <| sk rfl rfl rfl hb110 <| sk rfl rfl rfl hb110 <| pk rfl 8 rfl (q_pickF rfl hb110) <| mv rfl rfl <| sk rfl rfl rfl rfl <| sk rfl rfl rfl rfl <| sk rfl rfl rfl rfl <| sk rfl rfl rfl rfl <| sk rfl rfl rfl rfl <| pk rfl 15 rfl (q_pickF rfl rfl) ?_
   refine av rfl rfl <| WL.nil ?_
   exact QN.weaken (.one rfl (.nil _)) (Kj108 () false h)
theorem graph_Valid_2.con (k : Nat) (a0 : Edge) (a1 : Graph) (r : Bool) (h : graph_Valid_2 k a0 a1 = some r) : Con Tryz.prog 92 [] [AggA [iA a0.fType, iA a0.fFrom, iA a0.fTo], PtrA [SlcA kInt a1.fNodes, SlcA kEdge a1.fEdges]] (RA (bA r)) := by
 unfold graph_Valid_2 at h
 refine Con.of (N := 10) Tryz.func92 rfl rfl rfl fun w0_ fg_ => sr <| p1 rfl 0 rfl (q_box rfl (CellsOf.agg _)) <| ak rfl <| nx <| lS rfl rfl sh63 rfl rfl <| fd rfl rfl fo29_0 rfl <| ld rfl rfl sh26 <| p1 rfl 6 rfl (q_len rfl elS26) ?_
 obtain ⟨t100, ht100, h⟩ := bind_s h
 refine p2 rfl 4 rfl 7 rfl (q_call (f := 93) (A := bA t100) (xs := [.tmp 4, .tmp 7]) («as» := [AggA [iA a0.fType, iA a0.fFrom, iA a0.fTo], iA (a1.fNodes.length : Int)]) rfl ca93 (graph_fits.con k a0 (a1.fNodes.length : Int) t100 ht100) rfl) <| p1 rfl 8 rfl (q_not rfl) <| av rfl rfl <| WL.nil <| QN.weaken (env' := [(3, _)]) (.one rfl (.nil _)) <| QN.then_ <| W.ret ?_
 cases h
 exact QR.f1 rfl rfl (.t rfl) (.id _)
theorem slices_IndexFunc_Edge.con (k : Nat) (a0 : (List Edge)) (a1 : (Edge → Option Bool)) (r : Int) (h : slices_IndexFunc_Edge k a0 a1 = some r) : Con Tryz.prog 134 [] [SlcA kEdge a0, FnA Tryz.prog (fun (x : Edge) => [AggA [iA x.fType, iA x.fFrom, iA x.fTo]]) (fun (y : Bool) => bA y) a1] (RA (iA r)) := by
 unfold slices_IndexFunc_Edge at h
 refine Con.of (N := 19) Tryz.func134 rfl rfl rfl fun w0_ fg_ => sr <| ak rfl <| nt <| W.seq <| sr <| mv rfl rfl <| p1 rfl 6 rfl (q_len rfl elS27) <| mk_ rfl <| WL.nil ?_
 refine QN.then_ <| W.block ?_
 refine W.loop1 (Γ := Unit) (fun (_ : Unit) (x8 : Int) => [(0, SlcA kEdge a0), (1, FnA Tryz.prog (fun (x : Edge) => [AggA [iA x.fType, iA x.fFrom, iA x.fTo]]) (fun (y : Bool) => bA y) a1), (7, iA (a0.length : Int)), (8, iA x8)]) (fun (_ : Unit) (_ : Int) => []) h () (.o4 rfl (.nil _)) rfl (fun rec0 K0 next0 _ x8 h => ?_)
 unfold slices_IndexFunc_Edge.b0 at h
 refine sr <| p2 rfl 8 rfl 7 rfl (q_int rfl rfl) <| nt <| W.seq ?_
 refine W.condP h rfl (fun hb110 h => ?_) (fun hb110 h => ?_)
 ·refine W.skip <| QN.then_ <| W.seq <| W.block <| sr <| mv rfl rfl <| av rfl rfl <| nx <| mv rfl rfl ?_
  refine mv rfl rfl <| mv rfl rfl ?_
  obtain ⟨c111, h⟩ := ite_n h
  refine p2 rfl 12 rfl 13 rfl (q_index rfl el27 rfl c111.1 c111.2) <| lS rfl rfl sh63 rfl rfl ?_
  obtain ⟨t112, ht112, h⟩ := bind_s h
  refine p2 rfl 11 rfl 15 rfl (q_callV («as» := (fun (x : Edge) => [AggA [iA x.fType, iA x.fFrom, iA x.fTo]])) (res := (fun (y : Bool) => bA y)) (x := (rd a0 x8)) (y := t112) (xs := [.tmp 15]) rfl ht112 rfl) <| WL.nil <| QN.weaken (env' := [(16, _), (5, _), (8, _), (7, _), (1, _), (0, _)]) (.o4 rfl (.o2 rfl (.nil _))) <| QN.then_ ?_
  refine W.condP h rfl (fun hb113 h => ?_) (fun hb113 h => ?_)
  ·refine sr <| mv rfl rfl <| av rfl rfl <| WL.nil <| QN.weaken (env' := [(4, _)]) (.one rfl (.nil _)) <| QN.then_ <| W.ret <| QR.block <| QR.then_ <| QR.then_ <| QR.block <| QR.then_ ?_
   cases h
   exact QR.f1 rfl rfl (.t rfl) (.id _)
  ·refine W.skip <| QN.block <| QN.then_ <| W.region ?_
   obtain ⟨c114, h⟩ := ite_n h
   refine pk rfl 8 rfl (q_addR rfl c114) <| mv rfl rfl <| WL.nil ?_
   exact next0 () (x8 + 1) _ h (.o4 rfl (.nil _))
 ·refine W.exit <| QX.then_ <| QX.then_ <| QX.here <| QN.then_ <| sr <| ak rfl <| nt <| W.ret ?_
  cases h
  exact QR.f1 rfl rfl (.t rfl) (.id _)
theorem slices_ContainsFunc_Edge.con (k : Nat) (a0 : (List Edge)) (a1 : (Edge → Option Bool)) (r : Bool) (h : slices_ContainsFunc_Edge k a0 a1 = some r) : Con Tryz.prog 91 [] [SlcA kEdge a0, FnA Tryz.prog (fun (x : Edge) => [AggA [iA x.fType, iA x.fFrom, iA x.fTo]]) (fun (y : Bool) => bA y) a1] (RA (bA r)) := by
 unfold slices_ContainsFunc_Edge at h
 refine Con.of (N := 9) Tryz.func91 rfl rfl rfl fun w0_ fg_ => sr <| ak rfl <| nx <| mv rfl rfl <| mv rfl rfl ?_
 obtain ⟨t100, ht100, h⟩ := bind_s h
 refine p2 rfl 5 rfl 6 rfl (q_call (f := 134) (A := iA t100) (xs := [.tmp 5, .tmp 6]) («as» := [SlcA kEdge a0, FnA Tryz.prog (fun (x : Edge) => [AggA [iA x.fType, iA x.fFrom, iA x.fTo]]) (fun (y : Bool) => bA y) a1]) rfl ca134 (slices_IndexFunc_Edge.con k a0 a1 t100 ht100) rfl) <| pk rfl 7 rfl (q_int rfl rfl) <| av rfl rfl <| nt <| W.ret ?_
 cases h
 exact QR.f1 rfl rfl (.t rfl) (.id _)
theorem graph_Valid.con (k : Nat) (a0 : Graph) (r : Int) (h : graph_Valid k a0 = some r) : Con Tryz.prog 46 [] [AggA [SlcA kInt a0.fNodes, SlcA kEdge a0.fEdges]] (RA (iA r)) := by
 unfold graph_Valid at h
 refine Con.of (N := 20) Tryz.func46 rfl rfl rfl fun w0_ fg_ => sr <| p1 rfl 0 rfl (q_box rfl (CellsOf.agg _)) <| ak rfl <| nt <| W.seq <| W.seq ?_
 refine W.jn1 (Γ := Unit) (fun (_ : Unit) (x12 : Bool) => [(1, PtrA [SlcA kInt a0.fNodes, SlcA kEdge a0.fEdges]), (12, bA x12)]) (fun (_ : Unit) (_ : Bool) => []) h (fun _ x12 h => ?_) (fun j102 Kj102 h => ?_)
 ·refine QN.then_ ?_
  refine W.condP h rfl (fun hb103 h => ?_) (fun hb103 h => ?_)
  ·refine sr <| ak rfl <| nt <| W.ret <| QR.then_ ?_
   cases h
   exact QR.f1 rfl rfl (.t rfl) (.id _)
  ·refine W.skip <| QN.then_ <| W.seq <| sr <| fd rfl rfl fo29_0 rfl <| ld rfl rfl sh26 ?_
   obtain ⟨t104, ht104, h⟩ := bind_s h
   refine WL.p rfl rfl rfl (.s 14 rfl (.f («as» := (fun (x : Int) => [iA x])) (res := (fun (y : Bool) => bA y)) (p := fun x => graph_Valid_1 k x) ca89 (fun x y hp => graph_Valid_1.con k x y hp) .nil)) (q_call (f := 88) (A := bA t104) (xs := [.tmp 14, .func 89]) («as» := [SlcA kInt a0.fNodes, FnA Tryz.prog (fun (x : Int) => [iA x]) (fun (y : Bool) => bA y) (fun x => graph_Valid_1 k x)]) rfl ca88 (slices_ContainsFunc_int.con k a0.fNodes (fun x => graph_Valid_1 k x) t104 ht104) rfl) <| nt ?_
   refine W.condP h rfl (fun hb105 h => ?_) (fun hb105 h => ?_)
   ·refine sr <| ak rfl <| nt <| W.ret <| QR.then_ ?_
    cases h
    exact QR.f1 rfl rfl (.t rfl) (.id _)
   ·refine W.skip <| QN.then_ <| W.seq <| sr <| fd rfl rfl fo29_1 rfl <| ld rfl rfl sh27 <| p1 rfl 1 rfl (q_makeFunc (xs := [.tmp 1]) (L := [PtrA [SlcA kInt a0.fNodes, SlcA kEdge a0.fEdges]]) («as» := (fun (x : Edge) => [AggA [iA x.fType, iA x.fFrom, iA x.fTo]])) (res := (fun (y : Bool) => bA y)) (p := (fun x => graph_Valid_2 k x a0)) rfl ca92 rfl (fun x y hp => (graph_Valid_2.con k x a0 y hp))) ?_
    obtain ⟨t106, ht106, h⟩ := bind_s h
    refine p2 rfl 17 rfl 18 rfl (q_call (f := 91) (A := bA t106) (xs := [.tmp 17, .tmp 18]) («as» := [SlcA kEdge a0.fEdges, FnA Tryz.prog (fun (x : Edge) => [AggA [iA x.fType, iA x.fFrom, iA x.fTo]]) (fun (y : Bool) => bA y) (fun x => graph_Valid_2 k x a0)]) rfl ca91 (slices_ContainsFunc_Edge.con k a0.fEdges (fun x => graph_Valid_2 k x a0) t106 ht106) rfl) <| WL.nil <| QN.weaken (env' := [(19, _)]) (.one rfl (.nil _)) <| QN.then_ ?_
    refine W.condP h rfl (fun hb107 h => ?_) (fun hb107 h => ?_)
    ·refine sr <| ak rfl <| nt <| W.ret <| QR.then_ ?_
     cases h
     exact QR.f1 rfl rfl (.t rfl) (.id _)
    ·refine W.skip <| QN.then_ <| sr <| ak rfl <| nt <| W.ret ?_
     cases h
     exact QR.f1 rfl rfl (.t rfl) (.id _)
 ·refine W.region <| fd rfl rfl fo29_0 rfl <| ld rfl rfl sh26 <| p1 rfl 4 rfl (q_len rfl elS26) <| pk rfl 5 rfl (q_int rfl rfl) <| mv rfl rfl ?_
  rcases bif_s h with ⟨hb108, h⟩ | ⟨hb108, h⟩
  ·refine sk rfl rfl rfl hb108 <| sk rfl rfl rfl hb108 <| sk rfl rfl rfl hb108 <| sk rfl rfl rfl hb108 <| pk rfl 7 rfl (q_pickT rfl hb108) <| WL.nil ?_
   exact QN.weaken (.o2 rfl (.nil _)) (Kj102 () true h)
  ·refine wf rfl rfl rfl hb108 rfl rfl fo29_1 rfl <| wl rfl rfl rfl hb108 rfl rfl sh27 <| wq rfl rfl rfl hb108 (.s 9 rfl .nil) (q_len rfl elS27).o <| wq rfl rfl rfl hb108 (.s 10 rfl (.k .nil)) (q_int rfl rfl).o <| p2 rfl 7 rfl 11 rfl (q_pickF rfl hb108) <| WL.nil ?_
   exact QN.weaken (.o2 rfl (.nil _)) (Kj102 () (decide ((a0.fEdges.length : Int) > 80)) h)
theorem types_given_1.con (k : Nat) (a0 : Int) (a1 : Types) (r : Bool) (h : types_given_1 k a0 a1 = some r) : Con Tryz.prog 135 [] [iA a0, PtrA [SlcA kNodeType a1.fNodes, SlcA kEdgeType a1.fEdges]] (RA (bA r)) := by
 unfold types_given_1 at h
 refine Con.of (N := 13) Tryz.func135 rfl rfl rfl fun w0_ fg_ => sr <| ak rfl <| nt <| W.seq ?_
 refine W.jn1 (Γ := Unit) (fun (_ : Unit) (x3 : Bool) => [(3, bA x3)]) (fun (_ : Unit) (_ : Bool) => []) h (fun _ x3 h => ?_) (fun j102 Kj102 h => ?_)
 ·refine QN.then_ <| W.ret ?_
  cases h
  exact QR.f1 rfl rfl (.t rfl) (.id _)
 ·refine W.region <| mv rfl rfl <| pk rfl 4 rfl (q_int rfl rfl) <| mv rfl rfl ?_
  rcases bif_s h with ⟨hb103, h⟩ | ⟨hb103, h⟩
  ·refine sk rfl rfl rfl hb103 <| sk rfl rfl rfl hb103 <| sk rfl rfl rfl hb103 <| sk rfl rfl rfl hb103 <| sk rfl rfl rfl hb103 <| pk rfl 6 rfl (q_pickT rfl hb103) <| av rfl rfl <| WL.nil ?_
   exact QN.weaken (.one rfl (.nil _)) (Kj102 () true h)
  ·refine wm rfl rfl rfl hb103 rfl rfl <| wf rfl rfl rfl hb103 rfl rfl fo25_0 rfl <| wl rfl rfl rfl hb103 rfl rfl sh22 <| wq rfl rfl rfl hb103 (.s 9 rfl .nil) (q_len rfl elS22).o <| wq rfl rfl rfl hb103 (.s 7 rfl (.s 10 rfl .nil)) (q_int rfl rfl).o <| p2 rfl 6 rfl 11 rfl (q_pickF rfl hb103) <| av rfl rfl <| WL.nil ?_
   exact QN.weaken (.one rfl (.nil _)) (Kj102 () (decide (a0 ≥ (a1.fNodes.length : Int))) h)
theorem types_given.con (k : Nat) (a0 : Types) (a1 : (List Int)) (r : Int) (h : types_given k a0 a1 = some r) : Con Tryz.prog 94 [] [AggA [SlcA kNodeType a0.fNodes, SlcA kEdgeType a0.fEdges], SlcA kInt a1] (RA (iA r)) := by
 unfold types_given at h
 refine Con.of (N := 18) Tryz.func94 rfl rfl rfl fun w0_ fg_ => sr <| p1 rfl 0 rfl (q_box rfl (CellsOf.agg _)) <| ak rfl <| nt <| W.seq <| sr <| lS rfl rfl sh25 rfl rfl ?_
 obtain ⟨t100, ht100, h⟩ := bind_s h
 refine p1 rfl 8 rfl (q_call (f := 45) (A := TupA [EqA (strV t100.1), iA t100.2]) (xs := [.tmp 8]) («as» := [AggA [SlcA kNodeType a0.fNodes, SlcA kEdgeType a0.fEdges]]) rfl ca45 (types_Valid.con k a0 t100 ht100) rfl) <| mv rfl rfl <| p1 rfl 7 rfl (q_extract rfl rfl) <| p1 rfl 7 rfl (q_extract rfl rfl) <| av rfl rfl <| av rfl rfl <| WL.nil <| QN.weaken (env' := [(6, _), (2, _), (1, _)]) (.o2 rfl (.one rfl (.nil _))) <| QN.then_ <| sr <| mv rfl rfl <| pk rfl 12 rfl (q_int rfl rfl) ?_
 refine nt ?_
 refine W.condP h rfl (fun hb101 h => ?_) (fun hb101 h => ?_)
 ·refine sr <| mv rfl rfl <| av rfl rfl <| nt <| W.ret <| QR.then_ ?_
  cases h
  exact QR.f1 rfl rfl (.t rfl) (.id _)
 ·refine W.skip <| QN.then_ <| W.seq <| sr <| mv rfl rfl <| p1 rfl 2 rfl (q_makeFunc (xs := [.tmp 2]) (L := [PtrA [SlcA kNodeType a0.fNodes, SlcA kEdgeType a0.fEdges]]) («as» := (fun (x : Int) => [iA x])) (res := (fun (y : Bool) => bA y)) (p := (fun x => types_given_1 k x a0)) rfl ca135 rfl (fun x y hp => (types_given_1.con k x a0 y hp))) ?_
  obtain ⟨t102, ht102, h⟩ := bind_s h
  refine p2 rfl 15 rfl 16 rfl (q_call (f := 88) (A := bA t102) (xs := [.tmp 15, .tmp 16]) («as» := [SlcA kInt a1, FnA Tryz.prog (fun (x : Int) => [iA x]) (fun (y : Bool) => bA y) (fun x => types_given_1 k x a0)]) rfl ca88 (slices_ContainsFunc_int.con k a1 (fun x => types_given_1 k x a0) t102 ht102) rfl) <| WL.nil <| QN.weaken (env' := [(17, _)]) (.one rfl (.nil _)) <| QN.then_ ?_
  refine W.condP h rfl (fun hb103 h => ?_) (fun hb103 h => ?_)
  ·refine sr <| ak rfl <| nt <| W.ret <| QR.then_ ?_
   cases h
   exact QR.f1 rfl rfl (.t rfl) (.id _)
  ·refine W.skip <| QN.then_ <| sr <| ak rfl <| nt <| W.ret ?_
   cases h
   exact QR.f1 rfl rfl (.t rfl) (.id _)
theorem slices_Clone_string.conN (k : Nat) (a0 : (List Str)) (r : (List Str)) (h : slices_Clone_string k a0 = some r) : Con Tryz.prog 115 [] [SlcA kStr a0] (RApp 9 kStr r) := by
  unfold slices_Clone_string at h
  obtain ⟨hl, h⟩ := ite_n h
  cases h
  refine Con.of (N := 8) Tryz.func115 rfl rfl rfl fun w0_ fg_ => ?_
  refine W.seq (W.region (ak rfl (WL.nil (QN.then_ ?_))))
  refine W.seq (W.seq (W.region (mv rfl rfl (p1 rfl 3 rfl (q_nilAny (kd := kStr) (xs := a0) rfl elS115) (WL.nil (QN.then_ ?_))))))
  refine W.condAny rfl (fun hp => ?_) (fun _ => ?_)
  · have hn := hp rfl
    subst hn
    refine W.seq (W.region (ak rfl (WL.nil (QN.then_ ?_))))
    refine W.ret (QR.then_ ?_)
    refine QR.to (StTo.newNil 9 kStr) ?_
    refine QR.to (StTo.as 2 rfl Imp.nilHd) ?_
    exact QR.tmp rfl rfl ⟨_, rfl, rfl⟩
  · refine W.skip (QN.then_ ?_)
    refine W.seq (W.region ?_)
    refine WL.p rfl rfl rfl .nil (q_lit0 rfl el115 gr9) ?_
    refine mv rfl rfl ?_
    refine WL.w [] rfl (Wanted.plain rfl) rfl rfl (.s 5 rfl (.s 6 rfl .nil)) (w_appendZ (kd := kStr) rfl el115 rfl gr9 hl) ?_
    rintro _ _ ⟨v, rfl, rfl⟩
    refine av rfl rfl ?_
    refine WL.nil (QN.then_ ?_)
    refine W.ret ?_
    exact QR.tmp rfl rfl ⟨_, rfl, rfl⟩
theorem slices_Clone_string.con (k : Nat) (a0 : (List Str)) (r : (List Str)) (h : slices_Clone_string k a0 = some r) : Con Tryz.prog 115 [] [SlcA kStr a0] (RA (SlcA kStr r)) := Con.free (slices_Clone_string.conN k a0 r h)
theorem types_Attrs.con (k : Nat) (a0 : Types) (a1 : Int) (r : ((List Attr) × Int)) (h : types_Attrs k a0 a1 = some r) : Con Tryz.prog 74 [] [AggA [SlcA kNodeType a0.fNodes, SlcA kEdgeType a0.fEdges], iA a1] (RA (TupA [SlcA kAttr r.1, iA r.2])) := by
 unfold types_Attrs at h
 refine Con.of (N := 36) Tryz.func74 rfl rfl rfl fun w0_ fg_ => sr <| p1 rfl 0 rfl (q_box rfl (CellsOf.agg _)) <| ak rfl <| ak rfl <| nt <| W.seq <| sr <| lS rfl rfl sh25 rfl rfl <| mv rfl rfl ?_
 refine p1 rfl 10 rfl (q_lit (kd := kInt) (ps := [(0, .tmp 10)]) (xs := [.tmp 10]) («as» := [iA a1]) (ys := [a1]) rfl rfl el26 rfl gr3 rfl rfl rfl (.cons (CellsOf.one rfl) .nil)) ?_
 obtain ⟨t100, ht100, h⟩ := bind_s h
 refine p2 rfl 9 rfl 11 rfl (q_call (f := 94) (A := iA t100) (xs := [.tmp 9, .tmp 11]) («as» := [AggA [SlcA kNodeType a0.fNodes, SlcA kEdgeType a0.fEdges], SlcA kInt [a1]]) rfl ca94 (types_given.con k a0 [a1] t100 ht100) rfl) <| av rfl rfl <| WL.nil <| QN.weaken (env' := [(6, _), (2, _), (1, _)]) (.o2 rfl (.one rfl (.nil _))) <| QN.then_ <| sr <| mv rfl rfl <| pk rfl 13 rfl (q_int rfl rfl) <| nt ?_
 refine W.condP h rfl (fun hb101 h => ?_) (fun hb101 h => ?_)
 ·refine sr <| mv rfl rfl <| ak rfl <| av rfl rfl <| nt <| W.ret <| QR.then_ ?_
  cases h
  exact QR.f2 rfl rfl (.t rfl) (.t rfl) (.imp (Imp.tup (.cons (Imp.nil kAttr) (.cons (Imp.id _) .nil))))
 ·refine W.skip <| QN.then_ <| sr <| lS rfl rfl sh25 rfl rfl <| mv rfl rfl ?_
  obtain ⟨t102, ht102, h⟩ := bind_s h
  refine WL.w [] rfl (Wanted.plain rfl) rfl rfl (.s 16 rfl (.s 17 rfl .nil)) (w_callI (f := 114) (xs := [.tmp 16, .tmp 17]) («as» := [AggA [SlcA kNodeType a0.fNodes, SlcA kEdgeType a0.fEdges], iA a1]) rfl ca114 (types_attrs.con k a0 a1 t102 ht102) rfl (.cons (Imp.id _) (.cons (Imp.id _) .nil))) ?_
  rintro _ _ ⟨v103, rfl, rfl⟩
  refine av rfl rfl <| WL.nil <| QN.weaken (env' := [(7, _)]) (.one rfl (.nil _)) <| QN.then_ <| W.seq <| sr <| mv rfl rfl <| WL.q (Wanted.plain rfl) rfl rfl (.s 19 rfl .nil) (q_lenO rfl elS118 (i := 0) rfl) <| mk_ rfl <| nt <| W.block ?_
  refine W.loop2 (Γ := Unit) (fun (_ : Unit) (_ : (List Attr)) (x21 : Int) => [(7, HdA v103), (20, iA (t102.length : Int)), (21, iA x21)]) (fun (_ : Unit) (x7 : (List Attr)) (_ : Int) => [SlE 117 v103 kAttr x7]) h () (.o2 rfl (.one rfl (.nil _))) rfl (fun rec0 K0 next0 _ x7 x21 h => ?_)
  unfold types_Attrs.b0 at h
  refine sr <| p2 rfl 21 rfl 20 rfl (q_int rfl rfl) <| nt <| W.seq ?_
  refine W.condP h rfl (fun hb114 h => ?_) (fun hb114 h => ?_)
  ·refine W.skip <| QN.then_ <| W.seq <| W.block <| sr <| mv rfl rfl <| av rfl rfl <| nt <| W.region <| mv rfl rfl <| mv rfl rfl ?_
   refine mv rfl rfl <| mv rfl rfl ?_
   obtain ⟨c115, h⟩ := ite_n h
   refine WL.q (Wanted.plain rfl) rfl rfl (.s 26 rfl (.s 27 rfl .nil)) (q_indexO rfl el118 (j := 0) rfl c115.1 c115.2) <| p1 rfl 28 rfl (q_fieldE rfl fo117_3) <| WL.q (Wanted.plain rfl) rfl rfl (.s 29 rfl .nil) (q_loadEl rfl sh115 (j := 0) rfl rfl c115.1 c115.2 rfl) ?_
   obtain ⟨t116, ht116, h⟩ := bind_s h
   refine p1 rfl 30 rfl (q_call (f := 115) (A := SlcA kStr t116) (xs := [.tmp 30]) («as» := [SlcA kStr ((rd x7 x21).fNames)]) rfl ca115 (slices_Clone_string.con k ((rd x7 x21).fNames) t116 ht116) rfl) ?_
   obtain ⟨c117, h⟩ := ite_n h
   refine WL.q (Wanted.plain rfl) rfl rfl (.s 24 rfl (.s 25 rfl .nil)) (q_indexO rfl el118 (j := 0) rfl c117.1 c117.2) <| p1 rfl 32 rfl (q_fieldE rfl fo117_3) <| WL.w0 [0] rfl (Wanted.plain rfl) rfl (.s 33 rfl (.s 31 rfl .nil)) (w_storeEl (kd := kAttr) (z := (Attr.mk ((rd x7 x21).fName) ((rd x7 x21).fLow) ((rd x7 x21).fHigh) t116)) rfl sh115 (CellsOf.one rfl) rfl rfl rfl c117.1 c117.2 rfl rfl) ?_
   rintro _ _ ⟨rfl, rfl⟩
   refine WL.nil <| QN.block <| QN.weaken (env' := [(21, _), (20, _), (7, _)]) (.o2 rfl (.one rfl (.nil _))) <| QN.then_ <| W.region ?_
   obtain ⟨c118, h⟩ := ite_n h
   refine pk rfl 21 rfl (q_addR rfl c118) <| mv rfl rfl <| WL.nil ?_
   exact next0 () (x7.set (x21 : Int).toNat (Attr.mk ((rd x7 x21).fName) ((rd x7 x21).fLow) ((rd x7 x21).fHigh) t116)) (x21 + 1) _ h (.o2 rfl (.one rfl (.nil _)))
  ·refine W.exit <| QX.then_ <| QX.then_ <| QX.here <| QN.then_ <| sr <| mv rfl rfl <| av rfl rfl <| ak rfl <| nt <| W.ret ?_
   cases h
   exact QR.f2 rfl rfl (.t rfl) (.t rfl) (.tup (.cons (.slc 0 rfl) (.cons (.id _) .nil)))
theorem host_node.con (k : Nat) (a0 : Types) (a1 : Int) (a2 : (List Int)) (r : Int) (h : host_node k a0 a1 a2 = some r) : Con Tryz.prog 47 [] [AggA [SlcA kNodeType a0.fNodes, SlcA kEdgeType a0.fEdges], iA a1, SlcA kInt a2] (RA (iA r)) := by
 unfold host_node at h
 refine Con.of (N := 57) Tryz.func47 rfl rfl rfl fun w0_ fg_ => sr <| p1 rfl 0 rfl (q_box rfl (CellsOf.agg _)) <| ak rfl <| nt <| W.seq <| sr <| mv rfl rfl <| fd rfl rfl fo25_0 rfl <| ld rfl rfl sh22 ?_
 refine p1 rfl 13 rfl (q_len rfl elS22) <| p2 rfl 11 rfl 14 rfl (q_int rfl rfl) <| nt ?_
 refine W.condP h rfl (fun hb100 h => ?_) (fun hb100 h => ?_)
 ·refine sr <| ak rfl <| WL.nil <| QN.weaken (env' := [(6, _)]) (.one rfl (.nil _)) <| QN.then_ <| W.ret <| QR.then_ ?_
  cases h
  exact QR.f1 rfl rfl (.t rfl) (.id _)
 ·refine W.skip <| QN.weaken (env' := [(3, _), (2, _), (1, _)]) (.o2 rfl (.one rfl (.nil _))) <| QN.then_ <| W.seq <| sr <| fd rfl rfl fo25_0 rfl <| ld rfl rfl sh22 <| mv rfl rfl ?_
  obtain ⟨c101, h⟩ := ite_n h
  refine p2 rfl 17 rfl 18 rfl (q_index rfl el22 rfl c101.1 c101.2) <| fd rfl rfl fo120_2 rfl <| ld rfl rfl sh4 <| nt ?_
  refine W.condP h rfl (fun hb102 h => ?_) (fun hb102 h => ?_)
  ·refine sr <| ak rfl <| WL.nil <| QN.weaken (env' := [(6, _)]) (.one rfl (.nil _)) <| QN.then_ <| W.ret <| QR.then_ ?_
   cases h
   exact QR.f1 rfl rfl (.t rfl) (.id _)
  ·refine W.skip <| QN.then_ <| sr <| lS rfl rfl sh25 rfl rfl <| mv rfl rfl ?_
   obtain ⟨t103, ht103, h⟩ := bind_s h
   refine p2 rfl 23 rfl 24 rfl (q_call (f := 74) (A := TupA [SlcA kAttr t103.1, iA t103.2]) (xs := [.tmp 23, .tmp 24]) («as» := [AggA [SlcA kNodeType a0.fNodes, SlcA kEdgeType a0.fEdges], iA a1]) rfl ca74 (types_Attrs.con k a0 a1 t103 ht103) rfl) <| mv rfl rfl <| p1 rfl 22 rfl (q_extract rfl rfl) <| p1 rfl 22 rfl (q_extract rfl rfl) <| av rfl rfl <| av rfl rfl <| WL.nil <| QN.weaken (env' := [(7, _), (2, _)]) (.o2 rfl (.nil _)) <| QN.then_ <| W.seq <| sr <| mv rfl rfl ?_
   refine p1 rfl 28 rfl (q_len rfl elS26) <| mv rfl rfl <| p1 rfl 30 rfl (q_len rfl elS118) <| p2 rfl 29 rfl 31 rfl (q_int rfl rfl) <| nt ?_
   refine W.condP h rfl (fun hb104 h => ?_) (fun hb104 h => ?_)
   ·refine sr <| ak rfl <| WL.nil <| QN.weaken (env' := [(6, _)]) (.one rfl (.nil _)) <| QN.then_ <| W.ret <| QR.then_ ?_
    cases h
    exact QR.f1 rfl rfl (.t rfl) (.id _)
   ·refine W.skip <| QN.then_ <| W.seq <| sr <| mv rfl rfl <| p1 rfl 33 rfl (q_len rfl elS118) <| mk_ rfl <| nt <| W.block ?_
    refine W.loop1 (Γ := Unit) (fun (_ : Unit) (x35 : Int) => [(2, SlcA kInt a2), (33, SlcA kAttr t103.1), (34, iA (t103.1.length : Int)), (35, iA x35)]) (fun (_ : Unit) (_ : Int) => []) h () (.o4 rfl (.nil _)) rfl (fun rec0 K0 next0 _ x35 h => ?_)
    unfold host_node.b0 at h
    refine sr <| p2 rfl 35 rfl 34 rfl (q_int rfl rfl) <| nt <| W.seq ?_
    refine W.condP h rfl (fun hb137 h => ?_) (fun hb137 h => ?_)
    ·refine W.skip <| QN.then_ <| W.seq <| W.block <| sr <| mv rfl rfl ?_
     obtain ⟨c138, h⟩ := ite_n h
     refine p2 rfl 33 rfl 35 rfl (q_index rfl el118 rfl c138.1 c138.2) <| lS rfl rfl sh117 rfl rfl <| WL.w [] rfl (Wanted.plain rfl) rfl rfl .nil (w_alloc rfl z117 (l := [EqA (strV ([] : Str)), iA 0, iA 0, EqA (.slice none 0 0)]) rfl) ?_
     rintro _ _ ⟨b139, rfl, rfl⟩
     refine av rfl rfl <| WL.w0 [0] rfl (Wanted.plain rfl) rfl (.s 10 rfl (.s 39 rfl .nil)) (w_store (L := [EqA (strV ((rd t103.1 x35).fName)), iA ((rd t103.1 x35).fLow), iA ((rd t103.1 x35).fHigh), SlcA kStr ((rd t103.1 x35).fNames)]) rfl sh117 (CellsOf.agg _) rfl rfl (leB rfl) rfl) ?_
     rintro _ _ ⟨rfl, rfl⟩
     refine WL.nil <| QN.to (StTo.still [0] 10 rfl rfl) <| QN.then_ <| W.seq ?_
     refine W.jn1 (Γ := Unit) (fun (_ : Unit) (x55 : Bool) => [(2, SlcA kInt a2), (33, SlcA kAttr t103.1), (34, iA (t103.1.length : Int)), (35, iA x35), (55, bA x55)]) (fun (_ : Unit) (_ : Bool) => []) h (fun _ x55 h => ?_) (fun j147 Kj147 h => ?_)
     ·refine QN.then_ ?_
      refine W.condP h rfl (fun hb148 h => ?_) (fun hb148 h => ?_)
      ·refine sr <| ak rfl <| nt <| W.ret <| QR.block <| QR.then_ <| QR.then_ <| QR.block <| QR.then_ ?_
       cases h
       exact QR.f1 rfl rfl (.t rfl) (.id _)
      ·refine W.skip <| QN.block <| QN.then_ <| W.region ?_
       obtain ⟨c149, h⟩ := ite_n h
       refine pk rfl 35 rfl (q_addR rfl c149) <| mv rfl rfl <| WL.nil ?_
       exact next0 () (x35 + 1) _ h (.o4 rfl (.nil _))
     ·refine W.drawK [(0, false), (1, false), (2, false), (3, false), (4, false), (5, false), (6, false), (7, false), (8, false), (9, false), (10, false), (11, false), (12, false), (13, false), (14, false), (15, false)] [] (bm [0, 0, 3, 7, 0, 16, 63, 127, 255, 255, 1023, 2047, 255, 4351, 16383, 32767]) mx (by kernel_rfl) <| dm rfl rfl rfl <| dm rfl rfl rfl ?_
      obtain ⟨c150, h⟩ := ite_n h
      refine DK.cons rfl rfl (.p rfl (.s 40 rfl (.s 41 rfl .nil)) rfl (q_index rfl el26 rfl c150.1 c150.2)) <| dl rfl rfl rfl sh3 <| df rfl rfl rfl fo117_1 rfl <| dl rfl rfl rfl sh3 <| DK.cons rfl rfl (.p rfl (.s 43 rfl (.s 45 rfl .nil)) rfl (q_int rfl rfl)) <| dm rfl rfl rfl ?_
      rcases bif_s h with ⟨hb151, h⟩ | ⟨hb151, h⟩
      ·refine dx rfl rfl rfl hb151 <| dx rfl rfl rfl hb151 <| dx rfl rfl rfl hb151 <| dx rfl rfl rfl hb151 <| dx rfl rfl rfl hb151 <| dx rfl rfl rfl hb151 <| dx rfl rfl rfl hb151 <| DK.cons rfl rfl (.p rfl (.s 47 rfl (.k .nil)) rfl (q_pickT rfl hb151)) <| DK.nil <| CSteps.nil ?_
       exact QN.weaken (.o4 rfl (.one rfl (.nil _))) (Kj147 () true h)
      ·refine DK.cons rfl rfl (.gp rfl rfl rfl hb151 (.s 2 rfl .nil) rfl (q_move rfl)) <| DK.cons rfl rfl (.gp rfl rfl rfl hb151 (.s 9 rfl .nil) rfl (q_move rfl)) ?_
       obtain ⟨c152, h⟩ := ite_n h
       refine DK.cons rfl rfl (.gp rfl rfl rfl hb151 (.s 48 rfl (.s 49 rfl .nil)) rfl (q_index rfl el26 rfl c152.1 c152.2)) <| DK.cons rfl rfl (.gp rfl rfl rfl hb151 (.s 50 rfl .nil) rfl (q_load rfl sh3)) <| DK.cons rfl rfl (.gp rfl rfl rfl hb151 (.s 10 rfl .nil) rfl (q_field rfl fo117_2 rfl)) <| DK.cons rfl rfl (.gp rfl rfl rfl hb151 (.s 52 rfl .nil) rfl (q_load rfl sh3)) <| DK.cons rfl rfl (.gp rfl rfl rfl hb151 (.s 51 rfl (.s 53 rfl .nil)) rfl (q_int rfl rfl)) <| DK.cons rfl rfl (.p rfl (.s 47 rfl (.s 54 rfl .nil)) rfl (q_pickF rfl hb151)) <| DK.nil <| CSteps.nil ?_
       exact QN.weaken (.o4 rfl (.one rfl (.nil _))) (Kj147 () (decide ((rd a2 x35) > (rd t103.1 x35).fHigh)) h)
    ·refine W.exit <| QX.then_ <| QX.then_ <| QX.here <| QN.then_ <| sr <| ak rfl <| nt <| W.ret ?_
     cases h
     exact QR.f1 rfl rfl (.t rfl) (.id _)
end Go.Proofs.YthmdmchmmgmblaaGreat
