/- The Go functions compute the pure ones. (Printed by gen.py.) -/
import Derived.Test.YtcgdfjpeboiioaaGreatC1
namespace Go.Proofs.YtcgdfjpeboiioaaGreat
open Go Go.Abs
attribute [local irreducible] Tryz.prog
theorem types_node_1.con (k : Nat) (a0 : NodeType) (a1 : NodeType) (r : Bool) (h : types_node_1 k a0 a1 = some r) : Con Tryz.prog 145 [] [AggA [EqA (strV a0.fName), EqA (.int .i64 a0.fParent), EqA (.bool a0.fAbstract), SlcA kAttr a0.fAttrs], PtrA [EqA (strV a1.fName), EqA (.int .i64 a1.fParent), EqA (.bool a1.fAbstract), SlcA kAttr a1.fAttrs]] (RA (EqA (.bool r))) := by
 unfold types_node_1 at h
 refine Con.of (N := 9) Tryz.func145 rfl rfl rfl fun w0_ fg_ => W.seq <| W.region <| WL.p rfl rfl rfl (.s 0 rfl .nil) (q_box rfl (CellsOf.agg _)) <| WL.p rfl rfl rfl (.k .nil) (q_assign rfl) <| WL.nil <| QN.then_ <| W.seq <| W.region <| WL.p rfl rfl rfl (.s 2 rfl .nil) (q_field rfl fo92_0 rfl) <| WL.p rfl rfl rfl (.s 4 rfl .nil) (q_load rfl sh9) <| WL.p rfl rfl rfl (.s 1 rfl .nil) (q_field rfl fo92_0 rfl) <| WL.p rfl rfl rfl (.s 6 rfl .nil) (q_load rfl sh9) ?_
 refine WL.p rfl rfl rfl (.s 5 rfl (.s 7 rfl .nil)) (q_str (s := a0.fName) (t := a1.fName) rfl) <| WL.p rfl rfl rfl (.s 8 rfl .nil) (q_assign rfl) <| WL.nil <| QN.weaken (env' := [(3, _)]) (.one rfl (.nil _)) <| QN.then_ <| W.ret ?_
 cases h
 exact QR.f1 rfl rfl (.t rfl) (.id _)
theorem slices_IndexFunc_NodeType.con (k : Nat) (a0 : (List NodeType)) (a1 : (NodeType → Option Bool)) (r : Int) (h : slices_IndexFunc_NodeType k a0 a1 = some r) : Con Tryz.prog 176 [] [SlcA kNodeType a0, FnA Tryz.prog (fun (x : NodeType) => [AggA [EqA (strV x.fName), EqA (.int .i64 x.fParent), EqA (.bool x.fAbstract), SlcA kAttr x.fAttrs]]) (fun (y : Bool) => EqA (.bool y)) a1] (RA (EqA (.int .i64 r))) := by
 unfold slices_IndexFunc_NodeType at h
 refine Con.of (N := 19) Tryz.func176 rfl rfl rfl fun w0_ fg_ => W.seq <| W.region <| WL.p rfl rfl rfl (.k .nil) (q_assign rfl) <| WL.nil <| QN.then_ <| W.seq <| W.seq <| W.region <| WL.p rfl rfl rfl (.s 0 rfl .nil) (q_move rfl) <| WL.p rfl rfl rfl (.s 6 rfl .nil) (q_len rfl elS32) <| WL.p rfl rfl rfl (.k .nil) (q_move rfl) <| WL.nil ?_
 refine QN.then_ <| W.block ?_
 refine W.loop1 (Γ := Unit) (fun (_ : Unit) (x8 : Int) => [(0, SlcA kNodeType a0), (1, FnA Tryz.prog (fun (x : NodeType) => [AggA [EqA (strV x.fName), EqA (.int .i64 x.fParent), EqA (.bool x.fAbstract), SlcA kAttr x.fAttrs]]) (fun (y : Bool) => EqA (.bool y)) a1), (7, EqA (.int .i64 (a0.length : Int))), (8, EqA (.int .i64 x8))]) (fun (_ : Unit) (_ : Int) => []) h () (.one rfl (.one rfl (.one rfl (.one rfl (.nil _))))) rfl (fun rec0 K0 next0 _ x8 h => ?_)
 unfold slices_IndexFunc_NodeType.b0 at h
 refine W.seq <| W.region <| WL.p rfl rfl rfl (.s 8 rfl (.s 7 rfl .nil)) (q_int rfl rfl) <| WL.nil <| QN.then_ <| W.seq ?_
 refine W.condP h rfl (fun hb143 h => ?_) (fun hb143 h => ?_)
 ·refine W.skip <| QN.then_ <| W.seq <| W.block <| W.seq <| W.region <| WL.p rfl rfl rfl (.s 8 rfl .nil) (q_move rfl) <| WL.p rfl rfl rfl (.s 10 rfl .nil) (q_assign rfl) <| WL.nil <| QN.then_ <| W.seq <| W.region <| WL.p rfl rfl rfl (.s 1 rfl .nil) (q_move rfl) ?_
  refine WL.p rfl rfl rfl (.s 0 rfl .nil) (q_move rfl) <| WL.p rfl rfl rfl (.s 5 rfl .nil) (q_move rfl) ?_
  obtain ⟨c144, h⟩ := ite_n h
  refine WL.p rfl rfl rfl (.s 12 rfl (.s 13 rfl .nil)) (q_index rfl el32 rfl c144.1 c144.2) <| WL.p rfl rfl rfl (.s 14 rfl .nil) (q_loadS rfl sh92 (leB rfl) rfl) ?_
  obtain ⟨t145, ht145, h⟩ := bind_s h
  refine WL.p rfl rfl rfl (.s 11 rfl (.s 15 rfl .nil)) (q_callV («as» := (fun (x : NodeType) => [AggA [EqA (strV x.fName), EqA (.int .i64 x.fParent), EqA (.bool x.fAbstract), SlcA kAttr x.fAttrs]])) (res := (fun (y : Bool) => EqA (.bool y))) (x := (rd a0 x8)) (y := t145) (xs := [.tmp 15]) rfl ht145 rfl) <| WL.nil <| QN.weaken (env' := [(16, _), (5, _), (8, _), (7, _), (1, _), (0, _)]) (.one rfl (.one rfl (.one rfl (.one rfl (.one rfl (.one rfl (.nil _))))))) <| QN.then_ ?_
  refine W.condP h rfl (fun hb146 h => ?_) (fun hb146 h => ?_)
  ·refine W.seq <| W.region <| WL.p rfl rfl rfl (.s 5 rfl .nil) (q_move rfl) <| WL.p rfl rfl rfl (.s 17 rfl .nil) (q_assign rfl) <| WL.nil <| QN.weaken (env' := [(4, _)]) (.one rfl (.nil _)) <| QN.then_ <| W.ret <| QR.block <| QR.then_ <| QR.then_ <| QR.block <| QR.then_ ?_
   cases h
   exact QR.f1 rfl rfl (.t rfl) (.id _)
  ·refine W.skip <| QN.block <| QN.then_ <| W.region ?_
   obtain ⟨c147, h⟩ := ite_n h
   refine WL.p rfl rfl rfl (.s 8 rfl (.k .nil)) (q_addR rfl c147) <| WL.p rfl rfl rfl (.s 18 rfl .nil) (q_move rfl) <| WL.nil ?_
   exact next0 () (x8 + 1) _ h (.one rfl (.one rfl (.one rfl (.one rfl (.nil _)))))
 ·refine W.exit <| QX.then_ <| QX.then_ <| QX.here <| QN.then_ <| W.seq <| W.region <| WL.p rfl rfl rfl (.k .nil) (q_assign rfl) <| WL.nil <| QN.then_ <| W.ret ?_
  cases h
  exact QR.f1 rfl rfl (.t rfl) (.id _)
theorem slices_ContainsFunc_NodeType.con (k : Nat) (a0 : (List NodeType)) (a1 : (NodeType → Option Bool)) (r : Bool) (h : slices_ContainsFunc_NodeType k a0 a1 = some r) : Con Tryz.prog 144 [] [SlcA kNodeType a0, FnA Tryz.prog (fun (x : NodeType) => [AggA [EqA (strV x.fName), EqA (.int .i64 x.fParent), EqA (.bool x.fAbstract), SlcA kAttr x.fAttrs]]) (fun (y : Bool) => EqA (.bool y)) a1] (RA (EqA (.bool r))) := by
 unfold slices_ContainsFunc_NodeType at h
 refine Con.of (N := 9) Tryz.func144 rfl rfl rfl fun w0_ fg_ => W.seq <| W.region <| WL.p rfl rfl rfl (.k .nil) (q_assign rfl) <| WL.nil <| QN.then_ <| W.seq <| W.region <| WL.p rfl rfl rfl (.s 0 rfl .nil) (q_move rfl) <| WL.p rfl rfl rfl (.s 1 rfl .nil) (q_move rfl) ?_
 obtain ⟨t148, ht148, h⟩ := bind_s h
 refine WL.p rfl rfl rfl (.s 5 rfl (.s 6 rfl .nil)) (q_call (f := 176) (A := EqA (.int .i64 t148)) (xs := [.tmp 5, .tmp 6]) («as» := [SlcA kNodeType a0, FnA Tryz.prog (fun (x : NodeType) => [AggA [EqA (strV x.fName), EqA (.int .i64 x.fParent), EqA (.bool x.fAbstract), SlcA kAttr x.fAttrs]]) (fun (y : Bool) => EqA (.bool y)) a1]) rfl ca176 (slices_IndexFunc_NodeType.con k a0 a1 t148 ht148) rfl) <| WL.p rfl rfl rfl (.s 7 rfl (.k .nil)) (q_int rfl rfl) <| WL.p rfl rfl rfl (.s 8 rfl .nil) (q_assign rfl) <| WL.nil <| QN.then_ <| W.ret ?_
 cases h
 exact QR.f1 rfl rfl (.t rfl) (.id _)
theorem types_attrs.con : ∀ (k : Nat) (a0 : Types) (a1 : Int) (r : (List Attr)) (_ : types_attrs k a0 a1 = some r), Con Tryz.prog 134 [] [AggA [SlcA kNodeType a0.fNodes, SlcA kEdgeType a0.fEdges], EqA (.int .i64 a1)] (RApp 95 kAttr r) := by
 intro k
 induction k with
 | zero => intro a0 a1 r h; cases h
 | succ k ih =>
  intro a0 a1 r h
  change types_attrs.main (types_attrs k) k a0 a1 = some r at h
  unfold types_attrs.main at h
  refine Con.of (N := 26) Tryz.func134 rfl rfl rfl fun w0_ fg_ => W.seq <| W.region <| WL.p rfl rfl rfl (.s 0 rfl .nil) (q_box rfl (CellsOf.agg _)) <| WL.p rfl rfl rfl (.k .nil) (q_assign rfl) <| WL.nil <| QN.then_ <| W.seq <| W.region <| WL.p rfl rfl rfl (.k .nil) (q_assign rfl) <| WL.nil <| QN.then_ <| W.seq ?_
  refine W.seq <| W.region <| WL.p rfl rfl rfl (.s 2 rfl .nil) (q_field rfl fo35_0 rfl) <| WL.p rfl rfl rfl (.s 7 rfl .nil) (q_load rfl sh32) <| WL.p rfl rfl rfl (.s 1 rfl .nil) (q_move rfl) ?_
  obtain ⟨c149, h⟩ := ite_n h
  refine WL.p rfl rfl rfl (.s 8 rfl (.s 9 rfl .nil)) (q_index rfl el32 rfl c149.1 c149.2) <| WL.p rfl rfl rfl (.s 10 rfl .nil) (q_field rfl fo92_1 rfl) <| WL.p rfl rfl rfl (.s 11 rfl .nil) (q_load rfl sh3) <| WL.p rfl rfl rfl (.s 12 rfl .nil) (q_assign rfl) <| WL.nil <| QN.weaken (env' := [(6, _), (5, _), (2, _), (1, _)]) (.one rfl (.one rfl (.one rfl (.one rfl (.nil _))))) <| QN.then_ <| W.seq <| W.region <| WL.p rfl rfl rfl (.s 6 rfl .nil) (q_move rfl) <| WL.p rfl rfl rfl (.s 13 rfl (.k .nil)) (q_int rfl rfl) <| WL.nil <| QN.then_ ?_
  refine W.jn1 (Γ := Value) (fun (g153 : Value) (_ : (List Attr)) => [(1, EqA (.int .i64 a1)), (2, PtrA [SlcA kNodeType a0.fNodes, SlcA kEdgeType a0.fEdges]), (5, HdA g153)]) (fun (g153 : Value) (x5 : (List Attr)) => [SlE 95 g153 kAttr x5]) h (fun g153 x5 h => ?_) (fun j157 Kj157 h => ?_)
  ·refine QN.then_ <| W.seq <| W.region <| WL.p rfl rfl rfl (.s 5 rfl .nil) (q_move rfl) <| WL.p rfl rfl rfl (.s 2 rfl .nil) (q_field rfl fo35_0 rfl) <| WL.p rfl rfl rfl (.s 19 rfl .nil) (q_load rfl sh32) <| WL.p rfl rfl rfl (.s 1 rfl .nil) (q_move rfl) ?_
   obtain ⟨c158, h⟩ := ite_n h
   refine WL.p rfl rfl rfl (.s 20 rfl (.s 21 rfl .nil)) (q_index rfl el32 rfl c158.1 c158.2) <| WL.p rfl rfl rfl (.s 22 rfl .nil) (q_field rfl fo92_3 rfl) <| WL.p rfl rfl rfl (.s 23 rfl .nil) (q_load rfl sh90) ?_
   obtain ⟨c159, h⟩ := ite_n h
   refine WL.w [0] rfl (Wanted.plain rfl) rfl rfl (.s 18 rfl (.s 24 rfl .nil)) (w_append (kd := kAttr) rfl el90 rfl gr95 c159) ?_
   rintro _ _ ⟨v160, rfl, rfl⟩
   refine WL.p rfl rfl rfl (.s 25 rfl .nil) (q_assign rfl) <| WL.nil <| QN.weaken (env' := [(4, _)]) (.one rfl (.nil _)) <| QN.then_ <| W.ret ?_
   cases h
   exact QR.r1 rfl rfl (.t rfl) ⟨_, rfl, rfl⟩
  ·refine W.condP h rfl (fun hb161 h => ?_) (fun hb161 h => ?_)
   ·refine W.region <| WL.p rfl rfl rfl (.s 2 rfl .nil) (q_loadS rfl sh35 (leB rfl) rfl) <| WL.p rfl rfl rfl (.s 6 rfl .nil) (q_move rfl) ?_
    obtain ⟨t162, ht162, h⟩ := bind_s h
    refine WL.w [] rfl (Wanted.plain rfl) rfl rfl (.s 15 rfl (.s 16 rfl .nil)) (w_callI (f := 134) (xs := [.tmp 15, .tmp 16]) («as» := [AggA [SlcA kNodeType a0.fNodes, SlcA kEdgeType a0.fEdges], EqA (.int .i64 ((rd a0.fNodes a1).fParent))]) rfl ca134 (ih a0 ((rd a0.fNodes a1).fParent) t162 ht162) rfl (.cons (Imp.id _) (.cons (Imp.id _) .nil))) ?_
    rintro _ _ ⟨v163, rfl, rfl⟩
    refine WL.p rfl rfl rfl (.s 17 rfl .nil) (q_assign rfl) <| WL.nil ?_
    exact QN.weaken (.one rfl (.one rfl (.one rfl (.nil _)))) (Kj157 v163 t162 h)
   ·refine W.skip <| QN.to (StTo.newNil 95 kAttr) <| QN.to (StTo.as 5 rfl Imp.nilHd) ?_
    exact QN.weaken (.one rfl (.one rfl (.one rfl (.nil _)))) (Kj157 (.slice none 0 0) [] h)
theorem types_attribute_1.con (k : Nat) (a0 : Attr) (a1 : Attr) (r : Bool) (h : types_attribute_1 k a0 a1 = some r) : Con Tryz.prog 178 [] [AggA [EqA (strV a0.fName), EqA (.int .i64 a0.fLow), EqA (.int .i64 a0.fHigh), SlcA kStr a0.fNames], PtrA [EqA (strV a1.fName), EqA (.int .i64 a1.fLow), EqA (.int .i64 a1.fHigh), SlcA kStr a1.fNames]] (RA (EqA (.bool r))) := by
 unfold types_attribute_1 at h
 refine Con.of (N := 9) Tryz.func178 rfl rfl rfl fun w0_ fg_ => W.seq <| W.region <| WL.p rfl rfl rfl (.s 0 rfl .nil) (q_box rfl (CellsOf.agg _)) <| WL.p rfl rfl rfl (.k .nil) (q_assign rfl) <| WL.nil <| QN.then_ <| W.seq <| W.region <| WL.p rfl rfl rfl (.s 2 rfl .nil) (q_field rfl fo95_0 rfl) <| WL.p rfl rfl rfl (.s 4 rfl .nil) (q_load rfl sh9) <| WL.p rfl rfl rfl (.s 1 rfl .nil) (q_field rfl fo95_0 rfl) <| WL.p rfl rfl rfl (.s 6 rfl .nil) (q_load rfl sh9) ?_
 refine WL.p rfl rfl rfl (.s 5 rfl (.s 7 rfl .nil)) (q_str (s := a0.fName) (t := a1.fName) rfl) <| WL.p rfl rfl rfl (.s 8 rfl .nil) (q_assign rfl) <| WL.nil <| QN.weaken (env' := [(3, _)]) (.one rfl (.nil _)) <| QN.then_ <| W.ret ?_
 cases h
 exact QR.f1 rfl rfl (.t rfl) (.id _)
theorem slices_IndexFunc_Attr.con (k : Nat) (a0 : (List Attr)) (a1 : (Attr → Option Bool)) (r : Int) (h : slices_IndexFunc_Attr k a0 a1 = some r) : Con Tryz.prog 200 [] [SlcA kAttr a0, FnA Tryz.prog (fun (x : Attr) => [AggA [EqA (strV x.fName), EqA (.int .i64 x.fLow), EqA (.int .i64 x.fHigh), SlcA kStr x.fNames]]) (fun (y : Bool) => EqA (.bool y)) a1] (RA (EqA (.int .i64 r))) := by
 unfold slices_IndexFunc_Attr at h
 refine Con.of (N := 19) Tryz.func200 rfl rfl rfl fun w0_ fg_ => W.seq <| W.region <| WL.p rfl rfl rfl (.k .nil) (q_assign rfl) <| WL.nil <| QN.then_ <| W.seq <| W.seq <| W.region <| WL.p rfl rfl rfl (.s 0 rfl .nil) (q_move rfl) <| WL.p rfl rfl rfl (.s 6 rfl .nil) (q_len rfl elS90) <| WL.p rfl rfl rfl (.k .nil) (q_move rfl) <| WL.nil ?_
 refine QN.then_ <| W.block ?_
 refine W.loop1 (Γ := Unit) (fun (_ : Unit) (x8 : Int) => [(0, SlcA kAttr a0), (1, FnA Tryz.prog (fun (x : Attr) => [AggA [EqA (strV x.fName), EqA (.int .i64 x.fLow), EqA (.int .i64 x.fHigh), SlcA kStr x.fNames]]) (fun (y : Bool) => EqA (.bool y)) a1), (7, EqA (.int .i64 (a0.length : Int))), (8, EqA (.int .i64 x8))]) (fun (_ : Unit) (_ : Int) => []) h () (.one rfl (.one rfl (.one rfl (.one rfl (.nil _))))) rfl (fun rec0 K0 next0 _ x8 h => ?_)
 unfold slices_IndexFunc_Attr.b0 at h
 refine W.seq <| W.region <| WL.p rfl rfl rfl (.s 8 rfl (.s 7 rfl .nil)) (q_int rfl rfl) <| WL.nil <| QN.then_ <| W.seq ?_
 refine W.condP h rfl (fun hb175 h => ?_) (fun hb175 h => ?_)
 ·refine W.skip <| QN.then_ <| W.seq <| W.block <| W.seq <| W.region <| WL.p rfl rfl rfl (.s 8 rfl .nil) (q_move rfl) <| WL.p rfl rfl rfl (.s 10 rfl .nil) (q_assign rfl) <| WL.nil <| QN.then_ <| W.seq <| W.region <| WL.p rfl rfl rfl (.s 1 rfl .nil) (q_move rfl) ?_
  refine WL.p rfl rfl rfl (.s 0 rfl .nil) (q_move rfl) <| WL.p rfl rfl rfl (.s 5 rfl .nil) (q_move rfl) ?_
  obtain ⟨c176, h⟩ := ite_n h
  refine WL.p rfl rfl rfl (.s 12 rfl (.s 13 rfl .nil)) (q_index rfl el90 rfl c176.1 c176.2) <| WL.p rfl rfl rfl (.s 14 rfl .nil) (q_loadS rfl sh95 (leB rfl) rfl) ?_
  obtain ⟨t177, ht177, h⟩ := bind_s h
  refine WL.p rfl rfl rfl (.s 11 rfl (.s 15 rfl .nil)) (q_callV («as» := (fun (x : Attr) => [AggA [EqA (strV x.fName), EqA (.int .i64 x.fLow), EqA (.int .i64 x.fHigh), SlcA kStr x.fNames]])) (res := (fun (y : Bool) => EqA (.bool y))) (x := (rd a0 x8)) (y := t177) (xs := [.tmp 15]) rfl ht177 rfl) <| WL.nil <| QN.weaken (env' := [(16, _), (5, _), (8, _), (7, _), (1, _), (0, _)]) (.one rfl (.one rfl (.one rfl (.one rfl (.one rfl (.one rfl (.nil _))))))) <| QN.then_ ?_
  refine W.condP h rfl (fun hb178 h => ?_) (fun hb178 h => ?_)
  ·refine W.seq <| W.region <| WL.p rfl rfl rfl (.s 5 rfl .nil) (q_move rfl) <| WL.p rfl rfl rfl (.s 17 rfl .nil) (q_assign rfl) <| WL.nil <| QN.weaken (env' := [(4, _)]) (.one rfl (.nil _)) <| QN.then_ <| W.ret <| QR.block <| QR.then_ <| QR.then_ <| QR.block <| QR.then_ ?_
   cases h
   exact QR.f1 rfl rfl (.t rfl) (.id _)
  ·refine W.skip <| QN.block <| QN.then_ <| W.region ?_
   obtain ⟨c179, h⟩ := ite_n h
   refine WL.p rfl rfl rfl (.s 8 rfl (.k .nil)) (q_addR rfl c179) <| WL.p rfl rfl rfl (.s 18 rfl .nil) (q_move rfl) <| WL.nil ?_
   exact next0 () (x8 + 1) _ h (.one rfl (.one rfl (.one rfl (.one rfl (.nil _)))))
 ·refine W.exit <| QX.then_ <| QX.then_ <| QX.here <| QN.then_ <| W.seq <| W.region <| WL.p rfl rfl rfl (.k .nil) (q_assign rfl) <| WL.nil <| QN.then_ <| W.ret ?_
  cases h
  exact QR.f1 rfl rfl (.t rfl) (.id _)
theorem slices_ContainsFunc_Attr.con (k : Nat) (a0 : (List Attr)) (a1 : (Attr → Option Bool)) (r : Bool) (h : slices_ContainsFunc_Attr k a0 a1 = some r) : Con Tryz.prog 177 [] [SlcA kAttr a0, FnA Tryz.prog (fun (x : Attr) => [AggA [EqA (strV x.fName), EqA (.int .i64 x.fLow), EqA (.int .i64 x.fHigh), SlcA kStr x.fNames]]) (fun (y : Bool) => EqA (.bool y)) a1] (RA (EqA (.bool r))) := by
 unfold slices_ContainsFunc_Attr at h
 refine Con.of (N := 9) Tryz.func177 rfl rfl rfl fun w0_ fg_ => W.seq <| W.region <| WL.p rfl rfl rfl (.k .nil) (q_assign rfl) <| WL.nil <| QN.then_ <| W.seq <| W.region <| WL.p rfl rfl rfl (.s 0 rfl .nil) (q_move rfl) <| WL.p rfl rfl rfl (.s 1 rfl .nil) (q_move rfl) ?_
 obtain ⟨t180, ht180, h⟩ := bind_s h
 refine WL.p rfl rfl rfl (.s 5 rfl (.s 6 rfl .nil)) (q_call (f := 200) (A := EqA (.int .i64 t180)) (xs := [.tmp 5, .tmp 6]) («as» := [SlcA kAttr a0, FnA Tryz.prog (fun (x : Attr) => [AggA [EqA (strV x.fName), EqA (.int .i64 x.fLow), EqA (.int .i64 x.fHigh), SlcA kStr x.fNames]]) (fun (y : Bool) => EqA (.bool y)) a1]) rfl ca200 (slices_IndexFunc_Attr.con k a0 a1 t180 ht180) rfl) <| WL.p rfl rfl rfl (.s 7 rfl (.k .nil)) (q_int rfl rfl) <| WL.p rfl rfl rfl (.s 8 rfl .nil) (q_assign rfl) <| WL.nil <| QN.then_ <| W.ret ?_
 cases h
 exact QR.f1 rfl rfl (.t rfl) (.id _)
theorem types_names.con (k : Nat) (a0 : (List Str)) (r : Int) (h : types_names k a0 = some r) : Con Tryz.prog 179 [] [SlcA kStr a0] (RA (EqA (.int .i64 r))) := by
 unfold types_names at h
 refine Con.of (N := 26) Tryz.func179 rfl rfl rfl fun w0_ fg_ => W.seq <| W.region <| WL.p rfl rfl rfl (.k .nil) (q_assign rfl) <| WL.nil <| QN.then_ <| W.seq <| W.seq <| W.region <| WL.p rfl rfl rfl (.s 0 rfl .nil) (q_move rfl) <| WL.p rfl rfl rfl (.s 5 rfl .nil) (q_len rfl elS93) <| WL.p rfl rfl rfl (.s 6 rfl (.k .nil)) (q_int rfl rfl) <| WL.nil ?_
 refine QN.then_ ?_
 refine W.condP h rfl (fun hb181 h => ?_) (fun hb181 h => ?_)
 ·refine W.seq <| W.region <| WL.p rfl rfl rfl (.k .nil) (q_assign rfl) <| WL.nil <| QN.then_ <| W.ret <| QR.then_ ?_
  cases h
  exact QR.f1 rfl rfl (.t rfl) (.id _)
 ·refine W.skip <| QN.then_ <| W.seq <| W.seq <| W.region <| WL.p rfl rfl rfl (.s 0 rfl .nil) (q_move rfl) <| WL.p rfl rfl rfl (.s 8 rfl .nil) (q_len rfl elS93) <| WL.p rfl rfl rfl (.k .nil) (q_move rfl) <| WL.nil <| QN.then_ <| W.block ?_
  refine W.loop1 (Γ := Unit) (fun (_ : Unit) (x10 : Int) => [(0, SlcA kStr a0), (8, SlcA kStr a0), (9, EqA (.int .i64 (a0.length : Int))), (10, EqA (.int .i64 x10))]) (fun (_ : Unit) (_ : Int) => []) h () (.one rfl (.one rfl (.one rfl (.one rfl (.nil _))))) rfl (fun rec0 K0 next0 _ x10 h => ?_)
  unfold types_names.b0 at h
  refine W.seq <| W.region <| WL.p rfl rfl rfl (.s 10 rfl (.s 9 rfl .nil)) (q_int rfl rfl) <| WL.nil <| QN.then_ <| W.seq ?_
  refine W.condP h rfl (fun hb198 h => ?_) (fun hb198 h => ?_)
  ·refine W.skip <| QN.then_ <| W.seq <| W.block <| W.seq <| W.region <| WL.p rfl rfl rfl (.s 10 rfl .nil) (q_move rfl) ?_
   obtain ⟨c199, h⟩ := ite_n h
   refine WL.p rfl rfl rfl (.s 8 rfl (.s 10 rfl .nil)) (q_index rfl el93 rfl c199.1 c199.2) <| WL.p rfl rfl rfl (.s 13 rfl .nil) (q_load rfl sh9) <| WL.p rfl rfl rfl (.s 12 rfl .nil) (q_assign rfl) <| WL.p rfl rfl rfl (.s 14 rfl .nil) (q_assign rfl) <| WL.nil <| QN.then_ <| W.block <| W.seq <| W.region <| WL.p rfl rfl rfl (.s 4 rfl .nil) (q_move rfl) ?_
   obtain ⟨t200, ht200, h⟩ := bind_s h
   refine WL.p rfl rfl rfl (.s 16 rfl .nil) (q_call (f := 143) (A := EqA (.bool t200)) (xs := [.tmp 16]) («as» := [EqA (strV (rd a0 x10))]) rfl ca143 (token_IsName.con k (rd a0 x10) t200 ht200) rfl) <| WL.p rfl rfl rfl (.s 17 rfl .nil) (q_not rfl) <| WL.p rfl rfl rfl (.s 18 rfl .nil) (q_assign rfl) <| WL.nil <| QN.weaken (env' := [(15, _), (4, _), (3, _), (10, _), (9, _), (8, _), (0, _)]) (.one rfl (.one rfl (.one rfl (.one rfl (.one rfl (.one rfl (.one rfl (.nil _)))))))) <| QN.then_ ?_
   refine W.condP h rfl (fun hb201 h => ?_) (fun hb201 h => ?_)
   ·refine W.seq <| W.region <| WL.p rfl rfl rfl (.k .nil) (q_assign rfl) <| WL.nil <| QN.weaken (env' := [(2, _)]) (.one rfl (.nil _)) <| QN.then_ <| W.ret <| QR.block <| QR.block <| QR.then_ <| QR.then_ <| QR.block <| QR.then_ ?_
    cases h
    exact QR.f1 rfl rfl (.t rfl) (.id _)
   ·refine W.seq <| W.region <| WL.p rfl rfl rfl (.s 0 rfl .nil) (q_move rfl) <| WL.p rfl rfl rfl (.s 3 rfl .nil) (q_move rfl) ?_
    obtain ⟨c202, h⟩ := ite_n h
    refine WL.p rfl rfl rfl (.s 20 rfl (.s 21 rfl .nil)) (q_subH rfl el93 rfl c202.1 c202.2) <| WL.p rfl rfl rfl (.s 4 rfl .nil) (q_move rfl) ?_
    obtain ⟨t203, ht203, h⟩ := bind_s h
    refine WL.p rfl rfl rfl (.s 22 rfl (.s 23 rfl .nil)) (q_call (f := 201) (A := EqA (.bool t203)) (xs := [.tmp 22, .tmp 23]) («as» := [SlcA kStr (a0.take (x10 : Int).toNat), EqA (strV (rd a0 x10))]) rfl ca201 (slices_Contains_string.con k (a0.take (x10 : Int).toNat) (rd a0 x10) t203 ht203) rfl) <| WL.p rfl rfl rfl (.s 24 rfl .nil) (q_assign rfl) <| WL.nil <| QN.weaken (env' := [(19, _), (10, _), (9, _), (8, _), (0, _)]) (.one rfl (.one rfl (.one rfl (.one rfl (.one rfl (.nil _)))))) <| QN.then_ ?_
    refine W.condP h rfl (fun hb204 h => ?_) (fun hb204 h => ?_)
    ·refine W.seq <| W.region <| WL.p rfl rfl rfl (.k .nil) (q_assign rfl) <| WL.nil <| QN.then_ <| W.ret <| QR.block <| QR.block <| QR.then_ <| QR.then_ <| QR.block <| QR.then_ ?_
     cases h
     exact QR.f1 rfl rfl (.t rfl) (.id _)
    ·refine W.skip <| QN.block <| QN.block <| QN.then_ <| W.region ?_
     obtain ⟨c205, h⟩ := ite_n h
     refine WL.p rfl rfl rfl (.s 10 rfl (.k .nil)) (q_addR rfl c205) <| WL.p rfl rfl rfl (.s 25 rfl .nil) (q_move rfl) <| WL.nil ?_
     exact next0 () (x10 + 1) _ h (.one rfl (.one rfl (.one rfl (.one rfl (.nil _)))))
  ·refine W.exit <| QX.then_ <| QX.then_ <| QX.here <| QN.then_ <| W.seq <| W.region <| WL.p rfl rfl rfl (.k .nil) (q_assign rfl) <| WL.nil <| QN.then_ <| W.ret ?_
   cases h
   exact QR.f1 rfl rfl (.t rfl) (.id _)
theorem types_attribute.con (k : Nat) (a0 : Attr) (a1 : (List Attr)) (r : Int) (h : types_attribute k a0 a1 = some r) : Con Tryz.prog 146 [] [AggA [EqA (strV a0.fName), EqA (.int .i64 a0.fLow), EqA (.int .i64 a0.fHigh), SlcA kStr a0.fNames], SlcA kAttr a1] (RA (EqA (.int .i64 r))) := by
 unfold types_attribute at h
 refine Con.of (N := 55) Tryz.func146 rfl rfl rfl fun w0_ fg_ => W.seq <| W.region <| WL.p rfl rfl rfl (.s 0 rfl .nil) (q_box rfl (CellsOf.agg _)) <| WL.p rfl rfl rfl (.k .nil) (q_assign rfl) <| WL.nil <| QN.then_ <| W.seq <| W.block <| W.seq <| W.region <| WL.p rfl rfl rfl (.s 2 rfl .nil) (q_field rfl fo95_0 rfl) <| WL.p rfl rfl rfl (.s 8 rfl .nil) (q_load rfl sh9) ?_
 obtain ⟨t206, ht206, h⟩ := bind_s h
 refine WL.p rfl rfl rfl (.s 9 rfl .nil) (q_call (f := 143) (A := EqA (.bool t206)) (xs := [.tmp 9]) («as» := [EqA (strV a0.fName)]) rfl ca143 (token_IsName.con k a0.fName t206 ht206) rfl) <| WL.p rfl rfl rfl (.s 10 rfl .nil) (q_not rfl) <| WL.p rfl rfl rfl (.s 11 rfl .nil) (q_assign rfl) <| WL.nil <| QN.then_ ?_
 refine W.condP h rfl (fun hb207 h => ?_) (fun hb207 h => ?_)
 ·refine W.seq <| W.region <| WL.p rfl rfl rfl (.k .nil) (q_assign rfl) <| WL.nil <| QN.weaken (env' := [(4, _)]) (.one rfl (.nil _)) <| QN.then_ <| W.ret <| QR.block <| QR.then_ ?_
  cases h
  exact QR.f1 rfl rfl (.t rfl) (.id _)
 ·refine W.seq <| W.region <| WL.p rfl rfl rfl (.s 1 rfl .nil) (q_move rfl) <| WL.p rfl rfl rfl (.s 2 rfl .nil) (q_makeFunc (xs := [.tmp 2]) (L := [PtrA [EqA (strV a0.fName), EqA (.int .i64 a0.fLow), EqA (.int .i64 a0.fHigh), SlcA kStr a0.fNames]]) («as» := (fun (x : Attr) => [AggA [EqA (strV x.fName), EqA (.int .i64 x.fLow), EqA (.int .i64 x.fHigh), SlcA kStr x.fNames]])) (res := (fun (y : Bool) => EqA (.bool y))) (p := (fun x => types_attribute_1 k x a0)) rfl ca178 rfl (fun x y hp => (types_attribute_1.con k x a0 y hp))) ?_
  obtain ⟨t208, ht208, h⟩ := bind_s h
  refine WL.p rfl rfl rfl (.s 13 rfl (.s 14 rfl .nil)) (q_call (f := 177) (A := EqA (.bool t208)) (xs := [.tmp 13, .tmp 14]) («as» := [SlcA kAttr a1, FnA Tryz.prog (fun (x : Attr) => [AggA [EqA (strV x.fName), EqA (.int .i64 x.fLow), EqA (.int .i64 x.fHigh), SlcA kStr x.fNames]]) (fun (y : Bool) => EqA (.bool y)) (fun x => types_attribute_1 k x a0)]) rfl ca177 (slices_ContainsFunc_Attr.con k a1 (fun x => types_attribute_1 k x a0) t208 ht208) rfl) <| WL.p rfl rfl rfl (.s 15 rfl .nil) (q_assign rfl) <| WL.nil <| QN.weaken (env' := [(12, _), (2, _)]) (.one rfl (.one rfl (.nil _))) <| QN.then_ ?_
  refine W.condP h rfl (fun hb209 h => ?_) (fun hb209 h => ?_)
  ·refine W.seq <| W.region <| WL.p rfl rfl rfl (.k .nil) (q_assign rfl) <| WL.nil <| QN.then_ <| W.ret <| QR.block <| QR.then_ ?_
   cases h
   exact QR.f1 rfl rfl (.t rfl) (.id _)
  ·refine W.skip <| QN.block <| QN.then_ <| W.seq <| W.seq <| W.region <| WL.p rfl rfl rfl (.s 2 rfl .nil) (q_field rfl fo95_3 rfl) <| WL.p rfl rfl rfl (.s 16 rfl .nil) (q_load rfl sh93) ?_
   obtain ⟨t210, ht210, h⟩ := bind_s h
   refine WL.p rfl rfl rfl (.s 17 rfl .nil) (q_call (f := 179) (A := EqA (.int .i64 t210)) (xs := [.tmp 17]) («as» := [SlcA kStr a0.fNames]) rfl ca179 (types_names.con k a0.fNames t210 ht210) rfl) <| WL.p rfl rfl rfl (.s 18 rfl .nil) (q_assign rfl) <| WL.nil <| QN.then_ <| W.seq <| W.region <| WL.p rfl rfl rfl (.s 5 rfl .nil) (q_move rfl) <| WL.p rfl rfl rfl (.s 19 rfl (.k .nil)) (q_int rfl rfl) <| WL.nil <| QN.then_ ?_
   refine W.condP h rfl (fun hb211 h => ?_) (fun hb211 h => ?_)
   ·refine W.seq <| W.region <| WL.p rfl rfl rfl (.s 5 rfl .nil) (q_move rfl) <| WL.p rfl rfl rfl (.s 21 rfl .nil) (q_assign rfl) <| WL.nil <| QN.weaken (env' := [(4, _)]) (.one rfl (.nil _)) <| QN.then_ <| W.ret <| QR.then_ ?_
    cases h
    exact QR.f1 rfl rfl (.t rfl) (.id _)
   ·refine W.skip <| QN.weaken (env' := [(2, _)]) (.one rfl (.nil _)) <| QN.then_ <| W.seq ?_
    refine W.jn1 (Γ := Unit) (fun (_ : Unit) (x6 : Bool) => [(2, PtrA [EqA (strV a0.fName), EqA (.int .i64 a0.fLow), EqA (.int .i64 a0.fHigh), SlcA kStr a0.fNames]), (6, EqA (.bool x6))]) (fun (_ : Unit) (_ : Bool) => []) h (fun _ x6 h => ?_) (fun j215 Kj215 h => ?_)
    ·refine QN.then_ <| W.seq <| W.seq <| W.region <| WL.p rfl rfl rfl (.s 2 rfl .nil) (q_field rfl fo95_3 rfl) <| WL.p rfl rfl rfl (.s 37 rfl .nil) (q_load rfl sh93) <| WL.p rfl rfl rfl (.s 38 rfl .nil) (q_len rfl elS93) <| WL.p rfl rfl rfl (.s 39 rfl (.k .nil)) (q_int rfl rfl) <| WL.nil <| QN.then_ ?_
     refine W.condP h rfl (fun hb223 h => ?_) (fun hb223 h => ?_)
     ·refine W.jn1 (Γ := Unit) (fun (_ : Unit) (x6' : Bool) => [(6, EqA (.bool x6'))]) (fun (_ : Unit) (_ : Bool) => []) h (fun _ x6' h => ?_) (fun j227 Kj227 h => ?_)
      ·refine QN.then_ <| W.seq <| W.seq <| W.region <| WL.p rfl rfl rfl (.s 6 rfl .nil) (q_move rfl) <| WL.p rfl rfl rfl (.s 53 rfl .nil) (q_not rfl) <| WL.nil <| QN.then_ ?_
       refine W.condP h rfl (fun hb228 h => ?_) (fun hb228 h => ?_)
       ·refine W.seq <| W.region <| WL.p rfl rfl rfl (.k .nil) (q_assign rfl) <| WL.nil <| QN.then_ <| W.ret <| QR.then_ ?_
        cases h
        exact QR.f1 rfl rfl (.t rfl) (.id _)
       ·refine W.skip <| QN.then_ <| W.seq <| W.region <| WL.p rfl rfl rfl (.k .nil) (q_assign rfl) <| WL.nil <| QN.then_ <| W.ret ?_
        cases h
        exact QR.f1 rfl rfl (.t rfl) (.id _)
      ·refine W.region <| WL.p rfl rfl rfl (.s 2 rfl .nil) (q_field rfl fo95_1 rfl) <| WL.p rfl rfl rfl (.s 41 rfl .nil) (q_load rfl sh3) <| WL.p rfl rfl rfl (.s 42 rfl (.k .nil)) (q_int rfl rfl) <| WL.p rfl rfl rfl (.s 43 rfl .nil) (q_move rfl) ?_
       rcases bif_s h with ⟨hb229, h⟩ | ⟨hb229, h⟩
       ·refine WL.q (Wanted.on rfl rfl rfl hb229) rfl rfl (.s 2 rfl .nil) (q_field rfl fo95_2 rfl).o <| WL.q (Wanted.on rfl rfl rfl hb229) rfl rfl (.s 45 rfl .nil) (q_load rfl sh3).o <| WL.q (Wanted.on rfl rfl rfl hb229) rfl rfl (.s 2 rfl .nil) (q_field rfl fo95_3 rfl).o <| WL.q (Wanted.on rfl rfl rfl hb229) rfl rfl (.s 47 rfl .nil) (q_load rfl sh93).o <| WL.q (Wanted.on rfl rfl rfl hb229) rfl rfl (.s 48 rfl .nil) (q_len rfl elS93).o ?_
        obtain ⟨c230, h⟩ := ite_n h
        refine WL.q (Wanted.on rfl rfl rfl hb229) rfl rfl (.s 49 rfl (.k .nil)) (q_subR rfl c230).o <| WL.q (Wanted.on rfl rfl rfl hb229) rfl rfl (.s 46 rfl (.s 50 rfl .nil)) (q_int rfl rfl).o <| WL.p rfl rfl rfl (.s 44 rfl (.s 51 rfl .nil)) (q_pickT rfl hb229) <| WL.p rfl rfl rfl (.s 52 rfl .nil) (q_assign rfl) <| WL.nil ?_
        exact QN.weaken (.one rfl (.nil _)) (Kj227 () (a0.fHigh == ((a0.fNames.length : Int) - 1)) h)
       ·refine WL.skip (Unwanted.on rfl rfl rfl hb229) rfl rfl <| WL.skip (Unwanted.on rfl rfl rfl hb229) rfl rfl <| WL.skip (Unwanted.on rfl rfl rfl hb229) rfl rfl <| WL.skip (Unwanted.on rfl rfl rfl hb229) rfl rfl <| WL.skip (Unwanted.on rfl rfl rfl hb229) rfl rfl <| WL.skip (Unwanted.on rfl rfl rfl hb229) rfl rfl <| WL.skip (Unwanted.on rfl rfl rfl hb229) rfl rfl <| WL.p rfl rfl rfl (.s 44 rfl (.k .nil)) (q_pickF rfl hb229) <| WL.p rfl rfl rfl (.s 52 rfl .nil) (q_assign rfl) <| WL.nil ?_
        exact QN.weaken (.one rfl (.nil _)) (Kj227 () false h)
     ·refine W.skip <| QN.then_ <| W.seq <| W.seq <| W.region <| WL.p rfl rfl rfl (.s 6 rfl .nil) (q_move rfl) <| WL.p rfl rfl rfl (.s 53 rfl .nil) (q_not rfl) <| WL.nil <| QN.weaken (env' := [(54, _)]) (.one rfl (.nil _)) <| QN.then_ ?_
      refine W.condP h rfl (fun hb231 h => ?_) (fun hb231 h => ?_)
      ·refine W.seq <| W.region <| WL.p rfl rfl rfl (.k .nil) (q_assign rfl) <| WL.nil <| QN.then_ <| W.ret <| QR.then_ ?_
       cases h
       exact QR.f1 rfl rfl (.t rfl) (.id _)
      ·refine W.skip <| QN.then_ <| W.seq <| W.region <| WL.p rfl rfl rfl (.k .nil) (q_assign rfl) <| WL.nil <| QN.then_ <| W.ret ?_
       cases h
       exact QR.f1 rfl rfl (.t rfl) (.id _)
    ·refine W.region <| WL.p rfl rfl rfl (.s 2 rfl .nil) (q_field rfl fo95_1 rfl) <| WL.p rfl rfl rfl (.s 22 rfl .nil) (q_load rfl sh3) <| WL.p rfl rfl rfl (.k (.s 23 rfl .nil)) (q_int rfl rfl) <| WL.p rfl rfl rfl (.s 24 rfl .nil) (q_move rfl) ?_
     rcases bif_s h with ⟨hb232, h⟩ | ⟨hb232, h⟩
     ·refine WL.q (Wanted.on rfl rfl rfl hb232) rfl rfl (.s 2 rfl .nil) (q_field rfl fo95_1 rfl).o <| WL.q (Wanted.on rfl rfl rfl hb232) rfl rfl (.s 26 rfl .nil) (q_load rfl sh3).o <| WL.q (Wanted.on rfl rfl rfl hb232) rfl rfl (.s 2 rfl .nil) (q_field rfl fo95_2 rfl).o <| WL.q (Wanted.on rfl rfl rfl hb232) rfl rfl (.s 28 rfl .nil) (q_load rfl sh3).o <| WL.q (Wanted.on rfl rfl rfl hb232) rfl rfl (.s 27 rfl (.s 29 rfl .nil)) (q_int rfl rfl).o <| WL.p rfl rfl rfl (.s 25 rfl (.s 30 rfl .nil)) (q_pickT rfl hb232) <| WL.p rfl rfl rfl (.s 31 rfl .nil) (q_move rfl) ?_
      rcases bif_s h with ⟨hb233, h⟩ | ⟨hb233, h⟩
      ·refine WL.q (Wanted.on rfl rfl rfl hb233) rfl rfl (.s 2 rfl .nil) (q_field rfl fo95_2 rfl).o <| WL.q (Wanted.on rfl rfl rfl hb233) rfl rfl (.s 33 rfl .nil) (q_load rfl sh3).o <| WL.q (Wanted.on rfl rfl rfl hb233) rfl rfl (.s 34 rfl (.k .nil)) (q_int rfl rfl).o <| WL.p rfl rfl rfl (.s 32 rfl (.s 35 rfl .nil)) (q_pickT rfl hb233) <| WL.p rfl rfl rfl (.s 36 rfl .nil) (q_assign rfl) <| WL.nil ?_
       exact QN.weaken (.one rfl (.one rfl (.nil _))) (Kj215 () (decide (a0.fHigh ≤ 1000000)) h)
      ·refine WL.skip (Unwanted.on rfl rfl rfl hb233) rfl rfl <| WL.skip (Unwanted.on rfl rfl rfl hb233) rfl rfl <| WL.skip (Unwanted.on rfl rfl rfl hb233) rfl rfl <| WL.p rfl rfl rfl (.s 32 rfl (.k .nil)) (q_pickF rfl hb233) <| WL.p rfl rfl rfl (.s 36 rfl .nil) (q_assign rfl) <| WL.nil ?_
       exact QN.weaken (.one rfl (.one rfl (.nil _))) (Kj215 () false h)
     ·refine WL.skip (Unwanted.on rfl rfl rfl hb232) rfl rfl <| WL.skip (Unwanted.on rfl rfl rfl hb232) rfl rfl <| WL.skip (Unwanted.on rfl rfl rfl hb232) rfl rfl <| WL.skip (Unwanted.on rfl rfl rfl hb232) rfl rfl <| WL.skip (Unwanted.on rfl rfl rfl hb232) rfl rfl <| WL.p rfl rfl rfl (.s 25 rfl (.k .nil)) (q_pickF rfl hb232) <| WL.p rfl rfl rfl (.s 31 rfl .nil) (q_move rfl) <| WL.skip (Unwanted.on rfl rfl rfl rfl) rfl rfl <| WL.skip (Unwanted.on rfl rfl rfl rfl) rfl rfl <| WL.skip (Unwanted.on rfl rfl rfl rfl) rfl rfl <| WL.p rfl rfl rfl (.s 32 rfl (.k .nil)) (q_pickF rfl rfl) <| WL.p rfl rfl rfl (.s 36 rfl .nil) (q_assign rfl) <| WL.nil ?_
      exact QN.weaken (.one rfl (.one rfl (.nil _))) (Kj215 () false h)
theorem types_node.con (k : Nat) (a0 : Types) (a1 : Int) (r : Int) (h : types_node k a0 a1 = some r) : Con Tryz.prog 101 [] [AggA [SlcA kNodeType a0.fNodes, SlcA kEdgeType a0.fEdges], EqA (.int .i64 a1)] (RA (EqA (.int .i64 r))) := by
 unfold types_node at h
 refine Con.of (N := 70) Tryz.func101 rfl rfl rfl fun w0_ fg_ => W.seq <| W.region <| WL.p rfl rfl rfl (.s 0 rfl .nil) (q_box rfl (CellsOf.agg _)) <| WL.p rfl rfl rfl (.k .nil) (q_assign rfl) <| WL.nil <| QN.then_ <| W.seq <| W.region <| WL.p rfl rfl rfl (.s 2 rfl .nil) (q_field rfl fo35_0 rfl) <| WL.p rfl rfl rfl (.s 9 rfl .nil) (q_load rfl sh32) <| WL.p rfl rfl rfl (.s 1 rfl .nil) (q_move rfl) ?_
 obtain ⟨c234, h⟩ := ite_n h
 refine WL.p rfl rfl rfl (.s 10 rfl (.s 11 rfl .nil)) (q_index rfl el32 rfl c234.1 c234.2) <| WL.p rfl rfl rfl (.s 12 rfl .nil) (q_loadS rfl sh92 (leB rfl) rfl) <| WL.w [] rfl (Wanted.plain rfl) rfl rfl .nil (w_alloc rfl z92 (l := [EqA (strV ([] : Str)), EqA (.int .i64 0), EqA (.bool false), EqA (.slice none 0 0)]) rfl) ?_
 rintro _ _ ⟨b235, rfl, rfl⟩
 refine WL.w0 [0] rfl (Wanted.plain rfl) rfl (.s 5 rfl (.s 13 rfl .nil)) (w_store (L := [EqA (strV ((rd a0.fNodes a1).fName)), EqA (.int .i64 ((rd a0.fNodes a1).fParent)), EqA (.bool ((rd a0.fNodes a1).fAbstract)), SlcA kAttr ((rd a0.fNodes a1).fAttrs)]) rfl sh92 (CellsOf.agg _) rfl rfl (leB rfl) rfl) ?_
 rintro _ _ ⟨rfl, rfl⟩
 refine WL.nil <| QN.to (StTo.still [0] 5 rfl rfl) <| QN.weaken (env' := [(5, _), (2, _), (1, _)]) (.one rfl (.one rfl (.one rfl (.nil _)))) <| QN.then_ <| W.seq <| W.block <| W.seq <| W.region <| WL.p rfl rfl rfl (.s 5 rfl .nil) (q_field rfl fo92_0 rfl) <| WL.p rfl rfl rfl (.s 15 rfl .nil) (q_load rfl sh9) ?_
 obtain ⟨t236, ht236, h⟩ := bind_s h
 refine WL.p rfl rfl rfl (.s 16 rfl .nil) (q_call (f := 143) (A := EqA (.bool t236)) (xs := [.tmp 16]) («as» := [EqA (strV ((rd a0.fNodes a1).fName))]) rfl ca143 (token_IsName.con k ((rd a0.fNodes a1).fName) t236 ht236) rfl) <| WL.p rfl rfl rfl (.s 17 rfl .nil) (q_not rfl) <| WL.p rfl rfl rfl (.s 18 rfl .nil) (q_assign rfl) <| WL.nil <| QN.then_ ?_
 refine W.condP h rfl (fun hb237 h => ?_) (fun hb237 h => ?_)
 ·refine W.seq <| W.region <| WL.p rfl rfl rfl (.k .nil) (q_assign rfl) <| WL.nil <| QN.weaken (env' := [(4, _)]) (.one rfl (.nil _)) <| QN.then_ <| W.ret <| QR.block <| QR.then_ ?_
  cases h
  exact QR.f1 rfl rfl (.t rfl) (.id _)
 ·refine W.seq <| W.region <| WL.p rfl rfl rfl (.s 2 rfl .nil) (q_field rfl fo35_0 rfl) <| WL.p rfl rfl rfl (.s 20 rfl .nil) (q_load rfl sh32) <| WL.p rfl rfl rfl (.s 1 rfl .nil) (q_move rfl) ?_
  obtain ⟨c238, h⟩ := ite_n h
  refine WL.p rfl rfl rfl (.s 21 rfl (.s 22 rfl .nil)) (q_subH rfl el32 rfl c238.1 c238.2) <| WL.p rfl rfl rfl (.s 5 rfl .nil) (q_makeFunc (xs := [.tmp 5]) (L := [PtrA [EqA (strV ((rd a0.fNodes a1).fName)), EqA (.int .i64 ((rd a0.fNodes a1).fParent)), EqA (.bool ((rd a0.fNodes a1).fAbstract)), SlcA kAttr ((rd a0.fNodes a1).fAttrs)]]) («as» := (fun (x : NodeType) => [AggA [EqA (strV x.fName), EqA (.int .i64 x.fParent), EqA (.bool x.fAbstract), SlcA kAttr x.fAttrs]])) (res := (fun (y : Bool) => EqA (.bool y))) (p := (fun x => types_node_1 k x (rd a0.fNodes a1))) rfl ca145 rfl (fun x y hp => (types_node_1.con k x (rd a0.fNodes a1) y hp))) ?_
  obtain ⟨t239, ht239, h⟩ := bind_s h
  refine WL.p rfl rfl rfl (.s 23 rfl (.s 24 rfl .nil)) (q_call (f := 144) (A := EqA (.bool t239)) (xs := [.tmp 23, .tmp 24]) («as» := [SlcA kNodeType (a0.fNodes.take (a1 : Int).toNat), FnA Tryz.prog (fun (x : NodeType) => [AggA [EqA (strV x.fName), EqA (.int .i64 x.fParent), EqA (.bool x.fAbstract), SlcA kAttr x.fAttrs]]) (fun (y : Bool) => EqA (.bool y)) (fun x => types_node_1 k x (rd a0.fNodes a1))]) rfl ca144 (slices_ContainsFunc_NodeType.con k (a0.fNodes.take (a1 : Int).toNat) (fun x => types_node_1 k x (rd a0.fNodes a1)) t239 ht239) rfl) <| WL.p rfl rfl rfl (.s 25 rfl .nil) (q_assign rfl) <| WL.nil <| QN.weaken (env' := [(19, _), (5, _), (2, _), (1, _)]) (.one rfl (.one rfl (.one rfl (.one rfl (.nil _))))) <| QN.then_ ?_
  refine W.condP h rfl (fun hb240 h => ?_) (fun hb240 h => ?_)
  ·refine W.seq <| W.region <| WL.p rfl rfl rfl (.k .nil) (q_assign rfl) <| WL.nil <| QN.then_ <| W.ret <| QR.block <| QR.then_ ?_
   cases h
   exact QR.f1 rfl rfl (.t rfl) (.id _)
  ·refine W.seq ?_
   refine W.jn1 (Γ := Unit) (fun (_ : Unit) (x26 : Bool) => [(1, EqA (.int .i64 a1)), (2, PtrA [SlcA kNodeType a0.fNodes, SlcA kEdgeType a0.fEdges]), (5, PtrA [EqA (strV ((rd a0.fNodes a1).fName)), EqA (.int .i64 ((rd a0.fNodes a1).fParent)), EqA (.bool ((rd a0.fNodes a1).fAbstract)), SlcA kAttr ((rd a0.fNodes a1).fAttrs)]), (26, EqA (.bool x26))]) (fun (_ : Unit) (_ : Bool) => []) h (fun _ x26 h => ?_) (fun j243 Kj243 h => ?_)
   ·refine QN.then_ ?_
    refine W.condP h rfl (fun hb244 h => ?_) (fun hb244 h => ?_)
    ·refine W.seq <| W.region <| WL.p rfl rfl rfl (.k .nil) (q_assign rfl) <| WL.nil <| QN.then_ <| W.ret <| QR.block <| QR.then_ ?_
     cases h
     exact QR.f1 rfl rfl (.t rfl) (.id _)
    ·refine W.seq <| W.region <| WL.p rfl rfl rfl (.s 5 rfl .nil) (q_field rfl fo92_3 rfl) <| WL.p rfl rfl rfl (.s 37 rfl .nil) (q_load rfl sh90) <| WL.p rfl rfl rfl (.s 38 rfl .nil) (q_len rfl elS90) <| WL.p rfl rfl rfl (.s 39 rfl (.k .nil)) (q_int rfl rfl) <| WL.p rfl rfl rfl (.s 40 rfl .nil) (q_assign rfl) <| WL.nil <| QN.then_ ?_
     refine W.condP h rfl (fun hb245 h => ?_) (fun hb245 h => ?_)
     ·refine W.seq <| W.region <| WL.p rfl rfl rfl (.k .nil) (q_assign rfl) <| WL.nil <| QN.weaken (env' := [(4, _)]) (.one rfl (.nil _)) <| QN.then_ <| W.ret <| QR.block <| QR.then_ ?_
      cases h
      exact QR.f1 rfl rfl (.t rfl) (.id _)
     ·refine W.skip <| QN.block <| QN.then_ <| W.seq <| W.region <| WL.p rfl rfl rfl (.s 2 rfl .nil) (q_loadS rfl sh35 (leB rfl) rfl) <| WL.p rfl rfl rfl (.s 1 rfl .nil) (q_move rfl) ?_
      obtain ⟨t246, ht246, h⟩ := bind_s h
      refine WL.p rfl rfl rfl (.s 41 rfl (.s 42 rfl .nil)) (q_call (f := 134) (A := SlcA kAttr t246) (xs := [.tmp 41, .tmp 42]) («as» := [AggA [SlcA kNodeType a0.fNodes, SlcA kEdgeType a0.fEdges], EqA (.int .i64 a1)]) rfl ca134 (Con.free (types_attrs.con k a0 a1 t246 ht246)) rfl) <| WL.p rfl rfl rfl (.s 43 rfl .nil) (q_assign rfl) <| WL.nil <| QN.weaken (env' := [(6, _), (5, _)]) (.one rfl (.one rfl (.nil _))) <| QN.then_ <| W.seq <| W.seq <| W.region <| WL.p rfl rfl rfl (.s 6 rfl .nil) (q_move rfl) <| WL.p rfl rfl rfl (.s 44 rfl .nil) (q_len rfl elS90) <| WL.p rfl rfl rfl (.s 45 rfl (.k .nil)) (q_int rfl rfl) <| WL.nil <| QN.then_ ?_
      refine W.condP h rfl (fun hb247 h => ?_) (fun hb247 h => ?_)
      ·refine W.seq <| W.region <| WL.p rfl rfl rfl (.k .nil) (q_assign rfl) <| WL.nil <| QN.then_ <| W.ret <| QR.then_ ?_
       cases h
       exact QR.f1 rfl rfl (.t rfl) (.id _)
      ·refine W.skip <| QN.then_ <| W.seq <| W.seq <| W.region <| WL.p rfl rfl rfl (.s 6 rfl .nil) (q_move rfl) <| WL.p rfl rfl rfl (.s 47 rfl .nil) (q_len rfl elS90) <| WL.p rfl rfl rfl (.s 5 rfl .nil) (q_field rfl fo92_3 rfl) <| WL.p rfl rfl rfl (.s 49 rfl .nil) (q_load rfl sh90) <| WL.p rfl rfl rfl (.s 50 rfl .nil) (q_len rfl elS90) ?_
       obtain ⟨c248, h⟩ := ite_n h
       refine WL.p rfl rfl rfl (.s 48 rfl (.s 51 rfl .nil)) (q_subR rfl c248) <| WL.p rfl rfl rfl (.s 52 rfl .nil) (q_assign rfl) <| WL.nil <| QN.weaken (env' := [(7, _), (6, _)]) (.one rfl (.one rfl (.nil _))) <| QN.then_ <| W.block ?_
       refine W.loop1 (Γ := Unit) (fun (_ : Unit) (x7 : Int) => [(6, SlcA kAttr t246), (7, EqA (.int .i64 x7))]) (fun (_ : Unit) (_ : Int) => []) h () (.one rfl (.one rfl (.nil _))) rfl (fun rec0 K0 next0 _ x7 h => ?_)
       unfold types_node.b0 at h
       refine W.seq <| W.seq <| W.region <| WL.p rfl rfl rfl (.s 7 rfl .nil) (q_move rfl) <| WL.p rfl rfl rfl (.s 6 rfl .nil) (q_move rfl) <| WL.p rfl rfl rfl (.s 54 rfl .nil) (q_len rfl elS90) <| WL.p rfl rfl rfl (.s 53 rfl (.s 55 rfl .nil)) (q_int rfl rfl) <| WL.nil <| QN.then_ ?_
       refine W.condP h rfl (fun hb273 h => ?_) (fun hb273 h => ?_)
       ·refine W.skip <| QN.then_ <| W.seq <| W.block <| W.seq <| W.drawK [(0, false), (1, false), (2, false), (3, false), (4, false), (5, false), (6, false), (7, false), (8, false)] [] [[], [], [0, 1], [0, 1, 2], [], [], [4, 5], [0, 1, 2, 3, 4, 5, 6], [0, 1, 2, 3, 4, 5, 6, 7]] mx (by kernel_rfl) <| DK.cons rfl rfl (.p rfl (.s 6 rfl .nil) rfl (q_move rfl)) <| DK.cons rfl rfl (.p rfl (.s 7 rfl .nil) rfl (q_move rfl)) ?_
        obtain ⟨c280, h⟩ := ite_n h
        refine DK.cons rfl rfl (.p rfl (.s 59 rfl (.s 60 rfl .nil)) rfl (q_index rfl el90 rfl c280.1 c280.2)) <| DK.cons rfl rfl (.p rfl (.s 61 rfl .nil) rfl (q_loadS rfl sh95 (leB rfl) rfl)) <| DK.cons rfl rfl (.p rfl (.s 6 rfl .nil) rfl (q_move rfl)) <| DK.cons rfl rfl (.p rfl (.s 7 rfl .nil) rfl (q_move rfl)) ?_
        obtain ⟨c281, h⟩ := ite_n h
        refine DK.cons rfl rfl (.p rfl (.s 63 rfl (.s 64 rfl .nil)) rfl (q_subH rfl el90 rfl c281.1 c281.2)) ?_
        obtain ⟨t282, ht282, h⟩ := bind_s h
        refine DK.cons rfl rfl (.p rfl (.s 62 rfl (.s 65 rfl .nil)) rfl (q_call (f := 146) (A := EqA (.int .i64 t282)) (xs := [.tmp 62, .tmp 65]) («as» := [AggA [EqA (strV ((rd t246 x7).fName)), EqA (.int .i64 ((rd t246 x7).fLow)), EqA (.int .i64 ((rd t246 x7).fHigh)), SlcA kStr ((rd t246 x7).fNames)], SlcA kAttr (t246.take (x7 : Int).toNat)]) rfl ca146 (types_attribute.con k (rd t246 x7) (t246.take (x7 : Int).toNat) t282 ht282) rfl)) <| DK.cons rfl rfl (.p rfl (.s 66 rfl .nil) rfl (q_assign rfl)) <| DK.nil <| CSteps.nil <| QN.weaken (env' := [(8, _), (7, _), (6, _)]) (.one rfl (.one rfl (.one rfl (.nil _)))) <| QN.then_ <| W.seq <| W.region <| WL.p rfl rfl rfl (.s 8 rfl .nil) (q_move rfl) <| WL.p rfl rfl rfl (.s 67 rfl (.k .nil)) (q_int rfl rfl) <| WL.nil <| QN.then_ ?_
        refine W.condP h rfl (fun hb283 h => ?_) (fun hb283 h => ?_)
        ·refine W.seq <| W.region <| WL.p rfl rfl rfl (.s 8 rfl .nil) (q_move rfl) <| WL.p rfl rfl rfl (.s 69 rfl .nil) (q_assign rfl) <| WL.nil <| QN.then_ <| W.ret <| QR.block <| QR.then_ <| QR.then_ <| QR.block <| QR.then_ ?_
         cases h
         exact QR.f1 rfl rfl (.t rfl) (.id _)
        ·refine W.skip <| QN.block <| QN.then_ <| W.region <| WL.p rfl rfl rfl (.s 7 rfl .nil) (q_move rfl) ?_
         obtain ⟨c284, h⟩ := ite_n h
         refine WL.p rfl rfl rfl (.s 57 rfl (.k .nil)) (q_addR rfl c284) <| WL.p rfl rfl rfl (.s 58 rfl .nil) (q_assign rfl) <| WL.nil ?_
         exact next0 () (x7 + 1) _ h (.one rfl (.one rfl (.nil _)))
       ·refine W.exit <| QX.then_ <| QX.then_ <| QX.here <| QN.then_ <| W.seq <| W.region <| WL.p rfl rfl rfl (.k .nil) (q_assign rfl) <| WL.nil <| QN.then_ <| W.ret ?_
        cases h
        exact QR.f1 rfl rfl (.t rfl) (.id _)
   ·refine W.region <| WL.p rfl rfl rfl (.s 5 rfl .nil) (q_field rfl fo92_1 rfl) <| WL.p rfl rfl rfl (.s 27 rfl .nil) (q_load rfl sh3) <| WL.p rfl rfl rfl (.s 28 rfl (.k .nil)) (q_int rfl rfl) <| WL.p rfl rfl rfl (.s 29 rfl .nil) (q_move rfl) ?_
    rcases bif_s h with ⟨hb285, h⟩ | ⟨hb285, h⟩
    ·refine WL.skip (Unwanted.on rfl rfl rfl hb285) rfl rfl <| WL.skip (Unwanted.on rfl rfl rfl hb285) rfl rfl <| WL.skip (Unwanted.on rfl rfl rfl hb285) rfl rfl <| WL.skip (Unwanted.on rfl rfl rfl hb285) rfl rfl <| WL.p rfl rfl rfl (.s 30 rfl (.k .nil)) (q_pickT rfl hb285) <| WL.p rfl rfl rfl (.s 35 rfl .nil) (q_assign rfl) <| WL.nil ?_
     exact QN.weaken (.one rfl (.one rfl (.one rfl (.one rfl (.nil _))))) (Kj243 () true h)
    ·refine WL.q (Wanted.on rfl rfl rfl hb285) rfl rfl (.s 5 rfl .nil) (q_field rfl fo92_1 rfl).o <| WL.q (Wanted.on rfl rfl rfl hb285) rfl rfl (.s 31 rfl .nil) (q_load rfl sh3).o <| WL.q (Wanted.on rfl rfl rfl hb285) rfl rfl (.s 1 rfl .nil) (q_move rfl).o <| WL.q (Wanted.on rfl rfl rfl hb285) rfl rfl (.s 32 rfl (.s 33 rfl .nil)) (q_int rfl rfl).o <| WL.p rfl rfl rfl (.s 30 rfl (.s 34 rfl .nil)) (q_pickF rfl hb285) <| WL.p rfl rfl rfl (.s 35 rfl .nil) (q_assign rfl) <| WL.nil ?_
     exact QN.weaken (.one rfl (.one rfl (.one rfl (.one rfl (.nil _))))) (Kj243 () (decide ((rd a0.fNodes a1).fParent ≥ a1)) h)
theorem types_edge_1.con (k : Nat) (a0 : Int) (a1 : Types) (r : Bool) (h : types_edge_1 k a0 a1 = some r) : Con Tryz.prog 147 [] [EqA (.int .i64 a0), PtrA [SlcA kNodeType a1.fNodes, SlcA kEdgeType a1.fEdges]] (RA (EqA (.bool r))) := by
 unfold types_edge_1 at h
 refine Con.of (N := 13) Tryz.func147 rfl rfl rfl fun w0_ fg_ => W.seq <| W.region <| WL.p rfl rfl rfl (.k .nil) (q_assign rfl) <| WL.nil <| QN.then_ <| W.seq ?_
 refine W.jn1 (Γ := Unit) (fun (_ : Unit) (x3 : Bool) => [(3, EqA (.bool x3))]) (fun (_ : Unit) (_ : Bool) => []) h (fun _ x3 h => ?_) (fun j288 Kj288 h => ?_)
 ·refine QN.then_ <| W.ret ?_
  cases h
  exact QR.f1 rfl rfl (.t rfl) (.id _)
 ·refine W.region <| WL.p rfl rfl rfl (.s 0 rfl .nil) (q_move rfl) <| WL.p rfl rfl rfl (.s 4 rfl (.k .nil)) (q_int rfl rfl) <| WL.p rfl rfl rfl (.s 5 rfl .nil) (q_move rfl) ?_
  rcases bif_s h with ⟨hb289, h⟩ | ⟨hb289, h⟩
  ·refine WL.q (Wanted.on rfl rfl rfl hb289) rfl rfl (.s 0 rfl .nil) (q_move rfl).o <| WL.q (Wanted.on rfl rfl rfl hb289) rfl rfl (.s 1 rfl .nil) (q_field rfl fo35_0 rfl).o <| WL.q (Wanted.on rfl rfl rfl hb289) rfl rfl (.s 8 rfl .nil) (q_load rfl sh32).o <| WL.q (Wanted.on rfl rfl rfl hb289) rfl rfl (.s 9 rfl .nil) (q_len rfl elS32).o <| WL.q (Wanted.on rfl rfl rfl hb289) rfl rfl (.s 7 rfl (.s 10 rfl .nil)) (q_int rfl rfl).o <| WL.p rfl rfl rfl (.s 6 rfl (.s 11 rfl .nil)) (q_pickT rfl hb289) <| WL.p rfl rfl rfl (.s 12 rfl .nil) (q_assign rfl) <| WL.nil ?_
   exact QN.weaken (.one rfl (.nil _)) (Kj288 () (decide (a0 < (a1.fNodes.length : Int))) h)
  ·refine WL.skip (Unwanted.on rfl rfl rfl hb289) rfl rfl <| WL.skip (Unwanted.on rfl rfl rfl hb289) rfl rfl <| WL.skip (Unwanted.on rfl rfl rfl hb289) rfl rfl <| WL.skip (Unwanted.on rfl rfl rfl hb289) rfl rfl <| WL.skip (Unwanted.on rfl rfl rfl hb289) rfl rfl <| WL.p rfl rfl rfl (.s 6 rfl (.k .nil)) (q_pickF rfl hb289) <| WL.p rfl rfl rfl (.s 12 rfl .nil) (q_assign rfl) <| WL.nil ?_
   exact QN.weaken (.one rfl (.nil _)) (Kj288 () false h)
theorem types_edge_2.con (k : Nat) (a0 : EdgeType) (a1 : EdgeType) (r : Bool) (h : types_edge_2 k a0 a1 = some r) : Con Tryz.prog 149 [] [AggA [EqA (strV a0.fName), EqA (.int .i64 a0.fFrom), EqA (.int .i64 a0.fTo), EqA (.int .i64 a0.fOutLow), EqA (.int .i64 a0.fOutHigh), EqA (.int .i64 a0.fInLow), EqA (.int .i64 a0.fInHigh)], PtrA [EqA (strV a1.fName), EqA (.int .i64 a1.fFrom), EqA (.int .i64 a1.fTo), EqA (.int .i64 a1.fOutLow), EqA (.int .i64 a1.fOutHigh), EqA (.int .i64 a1.fInLow), EqA (.int .i64 a1.fInHigh)]] (RA (EqA (.bool r))) := by
 unfold types_edge_2 at h
 refine Con.of (N := 9) Tryz.func149 rfl rfl rfl fun w0_ fg_ => W.seq <| W.region <| WL.p rfl rfl rfl (.s 0 rfl .nil) (q_box rfl (CellsOf.agg _)) <| WL.p rfl rfl rfl (.k .nil) (q_assign rfl) <| WL.nil <| QN.then_ <| W.seq <| W.region <| WL.p rfl rfl rfl (.s 2 rfl .nil) (q_field rfl fo97_0 rfl) <| WL.p rfl rfl rfl (.s 4 rfl .nil) (q_load rfl sh9) <| WL.p rfl rfl rfl (.s 1 rfl .nil) (q_field rfl fo97_0 rfl) <| WL.p rfl rfl rfl (.s 6 rfl .nil) (q_load rfl sh9) ?_
 refine WL.p rfl rfl rfl (.s 5 rfl (.s 7 rfl .nil)) (q_str (s := a0.fName) (t := a1.fName) rfl) <| WL.p rfl rfl rfl (.s 8 rfl .nil) (q_assign rfl) <| WL.nil <| QN.weaken (env' := [(3, _)]) (.one rfl (.nil _)) <| QN.then_ <| W.ret ?_
 cases h
 exact QR.f1 rfl rfl (.t rfl) (.id _)
theorem slices_IndexFunc_EdgeType.con (k : Nat) (a0 : (List EdgeType)) (a1 : (EdgeType → Option Bool)) (r : Int) (h : slices_IndexFunc_EdgeType k a0 a1 = some r) : Con Tryz.prog 180 [] [SlcA kEdgeType a0, FnA Tryz.prog (fun (x : EdgeType) => [AggA [EqA (strV x.fName), EqA (.int .i64 x.fFrom), EqA (.int .i64 x.fTo), EqA (.int .i64 x.fOutLow), EqA (.int .i64 x.fOutHigh), EqA (.int .i64 x.fInLow), EqA (.int .i64 x.fInHigh)]]) (fun (y : Bool) => EqA (.bool y)) a1] (RA (EqA (.int .i64 r))) := by
 unfold slices_IndexFunc_EdgeType at h
 refine Con.of (N := 19) Tryz.func180 rfl rfl rfl fun w0_ fg_ => W.seq <| W.region <| WL.p rfl rfl rfl (.k .nil) (q_assign rfl) <| WL.nil <| QN.then_ <| W.seq <| W.seq <| W.region <| WL.p rfl rfl rfl (.s 0 rfl .nil) (q_move rfl) <| WL.p rfl rfl rfl (.s 6 rfl .nil) (q_len rfl elS33) <| WL.p rfl rfl rfl (.k .nil) (q_move rfl) <| WL.nil ?_
 refine QN.then_ <| W.block ?_
 refine W.loop1 (Γ := Unit) (fun (_ : Unit) (x8 : Int) => [(0, SlcA kEdgeType a0), (1, FnA Tryz.prog (fun (x : EdgeType) => [AggA [EqA (strV x.fName), EqA (.int .i64 x.fFrom), EqA (.int .i64 x.fTo), EqA (.int .i64 x.fOutLow), EqA (.int .i64 x.fOutHigh), EqA (.int .i64 x.fInLow), EqA (.int .i64 x.fInHigh)]]) (fun (y : Bool) => EqA (.bool y)) a1), (7, EqA (.int .i64 (a0.length : Int))), (8, EqA (.int .i64 x8))]) (fun (_ : Unit) (_ : Int) => []) h () (.one rfl (.one rfl (.one rfl (.one rfl (.nil _))))) rfl (fun rec0 K0 next0 _ x8 h => ?_)
 unfold slices_IndexFunc_EdgeType.b0 at h
 refine W.seq <| W.region <| WL.p rfl rfl rfl (.s 8 rfl (.s 7 rfl .nil)) (q_int rfl rfl) <| WL.nil <| QN.then_ <| W.seq ?_
 refine W.condP h rfl (fun hb300 h => ?_) (fun hb300 h => ?_)
 ·refine W.skip <| QN.then_ <| W.seq <| W.block <| W.seq <| W.region <| WL.p rfl rfl rfl (.s 8 rfl .nil) (q_move rfl) <| WL.p rfl rfl rfl (.s 10 rfl .nil) (q_assign rfl) <| WL.nil <| QN.then_ <| W.seq <| W.region <| WL.p rfl rfl rfl (.s 1 rfl .nil) (q_move rfl) ?_
  refine WL.p rfl rfl rfl (.s 0 rfl .nil) (q_move rfl) <| WL.p rfl rfl rfl (.s 5 rfl .nil) (q_move rfl) ?_
  obtain ⟨c301, h⟩ := ite_n h
  refine WL.p rfl rfl rfl (.s 12 rfl (.s 13 rfl .nil)) (q_index rfl el33 rfl c301.1 c301.2) <| WL.p rfl rfl rfl (.s 14 rfl .nil) (q_loadS rfl sh97 (leB rfl) rfl) ?_
  obtain ⟨t302, ht302, h⟩ := bind_s h
  refine WL.p rfl rfl rfl (.s 11 rfl (.s 15 rfl .nil)) (q_callV («as» := (fun (x : EdgeType) => [AggA [EqA (strV x.fName), EqA (.int .i64 x.fFrom), EqA (.int .i64 x.fTo), EqA (.int .i64 x.fOutLow), EqA (.int .i64 x.fOutHigh), EqA (.int .i64 x.fInLow), EqA (.int .i64 x.fInHigh)]])) (res := (fun (y : Bool) => EqA (.bool y))) (x := (rd a0 x8)) (y := t302) (xs := [.tmp 15]) rfl ht302 rfl) <| WL.nil <| QN.weaken (env' := [(16, _), (5, _), (8, _), (7, _), (1, _), (0, _)]) (.one rfl (.one rfl (.one rfl (.one rfl (.one rfl (.one rfl (.nil _))))))) <| QN.then_ ?_
  refine W.condP h rfl (fun hb303 h => ?_) (fun hb303 h => ?_)
  ·refine W.seq <| W.region <| WL.p rfl rfl rfl (.s 5 rfl .nil) (q_move rfl) <| WL.p rfl rfl rfl (.s 17 rfl .nil) (q_assign rfl) <| WL.nil <| QN.weaken (env' := [(4, _)]) (.one rfl (.nil _)) <| QN.then_ <| W.ret <| QR.block <| QR.then_ <| QR.then_ <| QR.block <| QR.then_ ?_
   cases h
   exact QR.f1 rfl rfl (.t rfl) (.id _)
  ·refine W.skip <| QN.block <| QN.then_ <| W.region ?_
   obtain ⟨c304, h⟩ := ite_n h
   refine WL.p rfl rfl rfl (.s 8 rfl (.k .nil)) (q_addR rfl c304) <| WL.p rfl rfl rfl (.s 18 rfl .nil) (q_move rfl) <| WL.nil ?_
   exact next0 () (x8 + 1) _ h (.one rfl (.one rfl (.one rfl (.one rfl (.nil _)))))
 ·refine W.exit <| QX.then_ <| QX.then_ <| QX.here <| QN.then_ <| W.seq <| W.region <| WL.p rfl rfl rfl (.k .nil) (q_assign rfl) <| WL.nil <| QN.then_ <| W.ret ?_
  cases h
  exact QR.f1 rfl rfl (.t rfl) (.id _)
theorem slices_ContainsFunc_EdgeType.con (k : Nat) (a0 : (List EdgeType)) (a1 : (EdgeType → Option Bool)) (r : Bool) (h : slices_ContainsFunc_EdgeType k a0 a1 = some r) : Con Tryz.prog 148 [] [SlcA kEdgeType a0, FnA Tryz.prog (fun (x : EdgeType) => [AggA [EqA (strV x.fName), EqA (.int .i64 x.fFrom), EqA (.int .i64 x.fTo), EqA (.int .i64 x.fOutLow), EqA (.int .i64 x.fOutHigh), EqA (.int .i64 x.fInLow), EqA (.int .i64 x.fInHigh)]]) (fun (y : Bool) => EqA (.bool y)) a1] (RA (EqA (.bool r))) := by
 unfold slices_ContainsFunc_EdgeType at h
 refine Con.of (N := 9) Tryz.func148 rfl rfl rfl fun w0_ fg_ => W.seq <| W.region <| WL.p rfl rfl rfl (.k .nil) (q_assign rfl) <| WL.nil <| QN.then_ <| W.seq <| W.region <| WL.p rfl rfl rfl (.s 0 rfl .nil) (q_move rfl) <| WL.p rfl rfl rfl (.s 1 rfl .nil) (q_move rfl) ?_
 obtain ⟨t305, ht305, h⟩ := bind_s h
 refine WL.p rfl rfl rfl (.s 5 rfl (.s 6 rfl .nil)) (q_call (f := 180) (A := EqA (.int .i64 t305)) (xs := [.tmp 5, .tmp 6]) («as» := [SlcA kEdgeType a0, FnA Tryz.prog (fun (x : EdgeType) => [AggA [EqA (strV x.fName), EqA (.int .i64 x.fFrom), EqA (.int .i64 x.fTo), EqA (.int .i64 x.fOutLow), EqA (.int .i64 x.fOutHigh), EqA (.int .i64 x.fInLow), EqA (.int .i64 x.fInHigh)]]) (fun (y : Bool) => EqA (.bool y)) a1]) rfl ca180 (slices_IndexFunc_EdgeType.con k a0 a1 t305 ht305) rfl) <| WL.p rfl rfl rfl (.s 7 rfl (.k .nil)) (q_int rfl rfl) <| WL.p rfl rfl rfl (.s 8 rfl .nil) (q_assign rfl) <| WL.nil <| QN.then_ <| W.ret ?_
 cases h
 exact QR.f1 rfl rfl (.t rfl) (.id _)
theorem types_bounded.con (k : Nat) (a0 : Int) (a1 : Int) (r : Bool) (h : types_bounded k a0 a1 = some r) : Con Tryz.prog 150 [] [EqA (.int .i64 a0), EqA (.int .i64 a1)] (RA (EqA (.bool r))) := by
 unfold types_bounded at h
 refine Con.of (N := 24) Tryz.func150 rfl rfl rfl fun w0_ fg_ => W.seq <| W.region <| WL.p rfl rfl rfl (.k .nil) (q_assign rfl) <| WL.nil <| QN.then_ <| W.seq ?_
 refine W.jn1 (Γ := Unit) (fun (_ : Unit) (x4 : Bool) => [(4, EqA (.bool x4))]) (fun (_ : Unit) (_ : Bool) => []) h (fun _ x4 h => ?_) (fun j311 Kj311 h => ?_)
 ·refine QN.then_ <| W.ret ?_
  cases h
  exact QR.f1 rfl rfl (.t rfl) (.id _)
 ·refine W.region <| WL.p rfl rfl rfl (.s 0 rfl .nil) (q_move rfl) <| WL.p rfl rfl rfl (.s 5 rfl (.k .nil)) (q_int rfl rfl) <| WL.p rfl rfl rfl (.s 6 rfl .nil) (q_move rfl) ?_
  rcases bif_s h with ⟨hb312, h⟩ | ⟨hb312, h⟩
  ·refine WL.q (Wanted.on rfl rfl rfl hb312) rfl rfl (.s 0 rfl .nil) (q_move rfl).o <| WL.q (Wanted.on rfl rfl rfl hb312) rfl rfl (.s 8 rfl (.k .nil)) (q_int rfl rfl).o <| WL.p rfl rfl rfl (.s 7 rfl (.s 9 rfl .nil)) (q_pickT rfl hb312) <| WL.p rfl rfl rfl (.s 10 rfl .nil) (q_move rfl) ?_
   rcases bif_s h with ⟨hb313, h⟩ | ⟨hb313, h⟩
   ·refine WL.q (Wanted.on rfl rfl rfl hb313) rfl rfl (.s 1 rfl .nil) (q_move rfl).o <| WL.q (Wanted.on rfl rfl rfl hb313) rfl rfl (.s 12 rfl (.k .nil)) (q_int rfl rfl).o <| WL.q (Wanted.on rfl rfl rfl hb313) rfl rfl (.s 13 rfl .nil) (q_move rfl).o ?_
    rcases bif_s h with ⟨hb314, h⟩ | ⟨hb314, h⟩
    ·refine WL.skip (Unwanted.on rfl rfl rfl hb314) rfl rfl <| WL.skip (Unwanted.on rfl rfl rfl hb314) rfl rfl <| WL.skip (Unwanted.on rfl rfl rfl hb314) rfl rfl <| WL.skip (Unwanted.on rfl rfl rfl hb314) rfl rfl <| WL.skip (Unwanted.und rfl rfl rfl) rfl rfl <| WL.skip (Unwanted.und rfl rfl rfl) rfl rfl <| WL.skip (Unwanted.on rfl rfl rfl hb314) rfl rfl <| WL.q (Wanted.on rfl rfl rfl hb313) rfl rfl (.s 14 rfl (.k .nil)) (q_pickT rfl hb314).o <| WL.p rfl rfl rfl (.s 11 rfl (.s 22 rfl .nil)) (q_pickT rfl hb313) <| WL.p rfl rfl rfl (.s 23 rfl .nil) (q_assign rfl) <| WL.nil ?_
     exact QN.weaken (.one rfl (.nil _)) (Kj311 () true h)
    ·refine WL.q (Wanted.on rfl rfl rfl hb314) rfl rfl (.s 1 rfl .nil) (q_move rfl).o <| WL.q (Wanted.on rfl rfl rfl hb314) rfl rfl (.s 0 rfl .nil) (q_move rfl).o <| WL.q (Wanted.on rfl rfl rfl hb314) rfl rfl (.s 15 rfl (.s 16 rfl .nil)) (q_int rfl rfl).o <| WL.q (Wanted.on rfl rfl rfl hb314) rfl rfl (.s 17 rfl .nil) (q_move rfl).o ?_
     rcases bif_s h with ⟨hb315, h⟩ | ⟨hb315, h⟩
     ·refine WL.q (Wanted.on rfl rfl rfl hb315) rfl rfl (.s 1 rfl .nil) (q_move rfl).o <| WL.q (Wanted.on rfl rfl rfl hb315) rfl rfl (.s 19 rfl (.k .nil)) (q_int rfl rfl).o <| WL.q (Wanted.on rfl rfl rfl hb314) rfl rfl (.s 18 rfl (.s 20 rfl .nil)) (q_pickT rfl hb315).o <| WL.q (Wanted.on rfl rfl rfl hb313) rfl rfl (.s 14 rfl (.s 21 rfl .nil)) (q_pickF rfl hb314).o <| WL.p rfl rfl rfl (.s 11 rfl (.s 22 rfl .nil)) (q_pickT rfl hb313) <| WL.p rfl rfl rfl (.s 23 rfl .nil) (q_assign rfl) <| WL.nil ?_
      exact QN.weaken (.one rfl (.nil _)) (Kj311 () (decide (a1 ≤ 40)) h)
     ·refine WL.skip (Unwanted.on rfl rfl rfl hb315) rfl rfl <| WL.skip (Unwanted.on rfl rfl rfl hb315) rfl rfl <| WL.q (Wanted.on rfl rfl rfl hb314) rfl rfl (.s 18 rfl (.k .nil)) (q_pickF rfl hb315).o <| WL.q (Wanted.on rfl rfl rfl hb313) rfl rfl (.s 14 rfl (.s 21 rfl .nil)) (q_pickF rfl hb314).o <| WL.p rfl rfl rfl (.s 11 rfl (.s 22 rfl .nil)) (q_pickT rfl hb313) <| WL.p rfl rfl rfl (.s 23 rfl .nil) (q_assign rfl) <| WL.nil ?_
      exact QN.weaken (.one rfl (.nil _)) (Kj311 () false h)
   ·refine WL.skip (Unwanted.on rfl rfl rfl hb313) rfl rfl <| WL.skip (Unwanted.on rfl rfl rfl hb313) rfl rfl <| WL.skip (Unwanted.on rfl rfl rfl hb313) rfl rfl <| WL.skip (Unwanted.und rfl rfl rfl) rfl rfl <| WL.skip (Unwanted.und rfl rfl rfl) rfl rfl <| WL.skip (Unwanted.und rfl rfl rfl) rfl rfl <| WL.skip (Unwanted.und rfl rfl rfl) rfl rfl <| WL.skip (Unwanted.und rfl rfl rfl) rfl rfl <| WL.skip (Unwanted.und rfl rfl rfl) rfl rfl <| WL.skip (Unwanted.und rfl rfl rfl) rfl rfl <| WL.skip (Unwanted.on rfl rfl rfl hb313) rfl rfl <| WL.p rfl rfl rfl (.s 11 rfl (.k .nil)) (q_pickF rfl hb313) <| WL.p rfl rfl rfl (.s 23 rfl .nil) (q_assign rfl) ?_
    refine WL.nil ?_
    exact QN.weaken (.one rfl (.nil _)) (Kj311 () false h)
  ·refine WL.skip (Unwanted.on rfl rfl rfl hb312) rfl rfl <| WL.skip (Unwanted.on rfl rfl rfl hb312) rfl rfl <| WL.p rfl rfl rfl (.s 7 rfl (.k .nil)) (q_pickF rfl hb312) <| WL.p rfl rfl rfl (.s 10 rfl .nil) (q_move rfl) <| WL.skip (Unwanted.on rfl rfl rfl rfl) rfl rfl <| WL.skip (Unwanted.on rfl rfl rfl rfl) rfl rfl <| WL.skip (Unwanted.on rfl rfl rfl rfl) rfl rfl <| WL.skip (Unwanted.und rfl rfl rfl) rfl rfl <| WL.skip (Unwanted.und rfl rfl rfl) rfl rfl <| WL.skip (Unwanted.und rfl rfl rfl) rfl rfl <| WL.skip (Unwanted.und rfl rfl rfl) rfl rfl <| WL.skip (Unwanted.und rfl rfl rfl) rfl rfl <| WL.skip (Unwanted.und rfl rfl rfl) rfl rfl ?_
   refine WL.skip (Unwanted.und rfl rfl rfl) rfl rfl <| WL.skip (Unwanted.on rfl rfl rfl rfl) rfl rfl <| WL.p rfl rfl rfl (.s 11 rfl (.k .nil)) (q_pickF rfl rfl) <| WL.p rfl rfl rfl (.s 23 rfl .nil) (q_assign rfl) <| WL.nil ?_
   exact QN.weaken (.one rfl (.nil _)) (Kj311 () false h)
theorem types_edge.con (k : Nat) (a0 : Types) (a1 : Int) (r : Int) (h : types_edge k a0 a1 = some r) : Con Tryz.prog 102 [] [AggA [SlcA kNodeType a0.fNodes, SlcA kEdgeType a0.fEdges], EqA (.int .i64 a1)] (RA (EqA (.int .i64 r))) := by
 unfold types_edge at h
 refine Con.of (N := 52) Tryz.func102 rfl rfl rfl fun w0_ fg_ => W.seq <| W.region <| WL.p rfl rfl rfl (.s 0 rfl .nil) (q_box rfl (CellsOf.agg _)) <| WL.p rfl rfl rfl (.k .nil) (q_assign rfl) <| WL.nil <| QN.then_ <| W.seq <| W.region <| WL.p rfl rfl rfl (.s 2 rfl .nil) (q_field rfl fo35_1 rfl) <| WL.p rfl rfl rfl (.s 7 rfl .nil) (q_load rfl sh33) <| WL.p rfl rfl rfl (.s 1 rfl .nil) (q_move rfl) ?_
 obtain ⟨c316, h⟩ := ite_n h
 refine WL.p rfl rfl rfl (.s 8 rfl (.s 9 rfl .nil)) (q_index rfl el33 rfl c316.1 c316.2) <| WL.p rfl rfl rfl (.s 10 rfl .nil) (q_loadS rfl sh97 (leB rfl) rfl) <| WL.w [] rfl (Wanted.plain rfl) rfl rfl .nil (w_alloc rfl z97 (l := [EqA (strV ([] : Str)), EqA (.int .i64 0), EqA (.int .i64 0), EqA (.int .i64 0), EqA (.int .i64 0), EqA (.int .i64 0), EqA (.int .i64 0)]) rfl) ?_
 rintro _ _ ⟨b317, rfl, rfl⟩
 refine WL.w0 [0] rfl (Wanted.plain rfl) rfl (.s 5 rfl (.s 11 rfl .nil)) (w_store (L := [EqA (strV ((rd a0.fEdges a1).fName)), EqA (.int .i64 ((rd a0.fEdges a1).fFrom)), EqA (.int .i64 ((rd a0.fEdges a1).fTo)), EqA (.int .i64 ((rd a0.fEdges a1).fOutLow)), EqA (.int .i64 ((rd a0.fEdges a1).fOutHigh)), EqA (.int .i64 ((rd a0.fEdges a1).fInLow)), EqA (.int .i64 ((rd a0.fEdges a1).fInHigh))]) rfl sh97 (CellsOf.agg _) rfl rfl (leB rfl) rfl) ?_
 rintro _ _ ⟨rfl, rfl⟩
 refine WL.nil <| QN.to (StTo.still [0] 5 rfl rfl) <| QN.weaken (env' := [(5, _), (2, _), (1, _)]) (.one rfl (.one rfl (.one rfl (.nil _)))) <| QN.then_ <| W.seq <| W.region <| WL.p rfl rfl rfl (.s 2 rfl .nil) (q_makeFunc (xs := [.tmp 2]) (L := [PtrA [SlcA kNodeType a0.fNodes, SlcA kEdgeType a0.fEdges]]) («as» := (fun (x : Int) => [EqA (.int .i64 x)])) (res := (fun (y : Bool) => EqA (.bool y))) (p := (fun x => types_edge_1 k x a0)) rfl ca147 rfl (fun x y hp => (types_edge_1.con k x a0 y hp))) <| WL.p rfl rfl rfl (.s 12 rfl .nil) (q_assign rfl) <| WL.nil <| QN.then_ <| W.seq <| W.block <| W.seq ?_
 refine W.region <| WL.p rfl rfl rfl (.s 5 rfl .nil) (q_field rfl fo97_0 rfl) <| WL.p rfl rfl rfl (.s 14 rfl .nil) (q_load rfl sh9) ?_
 obtain ⟨t318, ht318, h⟩ := bind_s h
 refine WL.p rfl rfl rfl (.s 15 rfl .nil) (q_call (f := 143) (A := EqA (.bool t318)) (xs := [.tmp 15]) («as» := [EqA (strV ((rd a0.fEdges a1).fName))]) rfl ca143 (token_IsName.con k ((rd a0.fEdges a1).fName) t318 ht318) rfl) <| WL.p rfl rfl rfl (.s 16 rfl .nil) (q_not rfl) <| WL.p rfl rfl rfl (.s 17 rfl .nil) (q_assign rfl) <| WL.nil <| QN.then_ ?_
 refine W.condP h rfl (fun hb319 h => ?_) (fun hb319 h => ?_)
 ·refine W.seq <| W.region <| WL.p rfl rfl rfl (.k .nil) (q_assign rfl) <| WL.nil <| QN.weaken (env' := [(4, _)]) (.one rfl (.nil _)) <| QN.then_ <| W.ret <| QR.block <| QR.then_ ?_
  cases h
  exact QR.f1 rfl rfl (.t rfl) (.id _)
 ·refine W.seq <| W.region <| WL.p rfl rfl rfl (.s 2 rfl .nil) (q_field rfl fo35_1 rfl) <| WL.p rfl rfl rfl (.s 19 rfl .nil) (q_load rfl sh33) <| WL.p rfl rfl rfl (.s 1 rfl .nil) (q_move rfl) ?_
  obtain ⟨c320, h⟩ := ite_n h
  refine WL.p rfl rfl rfl (.s 20 rfl (.s 21 rfl .nil)) (q_subH rfl el33 rfl c320.1 c320.2) <| WL.p rfl rfl rfl (.s 5 rfl .nil) (q_makeFunc (xs := [.tmp 5]) (L := [PtrA [EqA (strV ((rd a0.fEdges a1).fName)), EqA (.int .i64 ((rd a0.fEdges a1).fFrom)), EqA (.int .i64 ((rd a0.fEdges a1).fTo)), EqA (.int .i64 ((rd a0.fEdges a1).fOutLow)), EqA (.int .i64 ((rd a0.fEdges a1).fOutHigh)), EqA (.int .i64 ((rd a0.fEdges a1).fInLow)), EqA (.int .i64 ((rd a0.fEdges a1).fInHigh))]]) («as» := (fun (x : EdgeType) => [AggA [EqA (strV x.fName), EqA (.int .i64 x.fFrom), EqA (.int .i64 x.fTo), EqA (.int .i64 x.fOutLow), EqA (.int .i64 x.fOutHigh), EqA (.int .i64 x.fInLow), EqA (.int .i64 x.fInHigh)]])) (res := (fun (y : Bool) => EqA (.bool y))) (p := (fun x => types_edge_2 k x (rd a0.fEdges a1))) rfl ca149 rfl (fun x y hp => (types_edge_2.con k x (rd a0.fEdges a1) y hp))) ?_
  obtain ⟨t321, ht321, h⟩ := bind_s h
  refine WL.p rfl rfl rfl (.s 22 rfl (.s 23 rfl .nil)) (q_call (f := 148) (A := EqA (.bool t321)) (xs := [.tmp 22, .tmp 23]) («as» := [SlcA kEdgeType (a0.fEdges.take (a1 : Int).toNat), FnA Tryz.prog (fun (x : EdgeType) => [AggA [EqA (strV x.fName), EqA (.int .i64 x.fFrom), EqA (.int .i64 x.fTo), EqA (.int .i64 x.fOutLow), EqA (.int .i64 x.fOutHigh), EqA (.int .i64 x.fInLow), EqA (.int .i64 x.fInHigh)]]) (fun (y : Bool) => EqA (.bool y)) (fun x => types_edge_2 k x (rd a0.fEdges a1))]) rfl ca148 (slices_ContainsFunc_EdgeType.con k (a0.fEdges.take (a1 : Int).toNat) (fun x => types_edge_2 k x (rd a0.fEdges a1)) t321 ht321) rfl) <| WL.p rfl rfl rfl (.s 24 rfl .nil) (q_assign rfl) <| WL.nil <| QN.weaken (env' := [(18, _), (6, _), (5, _)]) (.one rfl (.one rfl (.one rfl (.nil _)))) <| QN.then_ ?_
  refine W.condP h rfl (fun hb322 h => ?_) (fun hb322 h => ?_)
  ·refine W.seq <| W.region <| WL.p rfl rfl rfl (.k .nil) (q_assign rfl) <| WL.nil <| QN.then_ <| W.ret <| QR.block <| QR.then_ ?_
   cases h
   exact QR.f1 rfl rfl (.t rfl) (.id _)
  ·refine W.seq <| W.seq ?_
   refine W.jn1 (Γ := Unit) (fun (_ : Unit) (x25 : Bool) => [(5, PtrA [EqA (strV ((rd a0.fEdges a1).fName)), EqA (.int .i64 ((rd a0.fEdges a1).fFrom)), EqA (.int .i64 ((rd a0.fEdges a1).fTo)), EqA (.int .i64 ((rd a0.fEdges a1).fOutLow)), EqA (.int .i64 ((rd a0.fEdges a1).fOutHigh)), EqA (.int .i64 ((rd a0.fEdges a1).fInLow)), EqA (.int .i64 ((rd a0.fEdges a1).fInHigh))]), (25, EqA (.bool x25))]) (fun (_ : Unit) (_ : Bool) => []) h (fun _ x25 h => ?_) (fun j327 Kj327 h => ?_)
   ·refine QN.then_ ?_
    refine W.condP h rfl (fun hb337 h => ?_) (fun hb337 h => ?_)
    ·refine W.skip <| QN.then_ <| W.condT rfl hb337 <| W.seq <| W.region <| WL.p rfl rfl rfl (.k .nil) (q_assign rfl) <| WL.nil <| QN.then_ <| W.ret <| QR.block <| QR.then_ ?_
     cases h
     exact QR.f1 rfl rfl (.t rfl) (.id _)
    ·refine W.jn1 (Γ := Unit) (fun (_ : Unit) (x25' : Bool) => [(25, EqA (.bool x25'))]) (fun (_ : Unit) (_ : Bool) => []) h (fun _ x25' h => ?_) (fun j342 Kj342 h => ?_)
     ·refine QN.then_ ?_
      refine W.condP h rfl (fun hb343 h => ?_) (fun hb343 h => ?_)
      ·refine W.seq <| W.region <| WL.p rfl rfl rfl (.k .nil) (q_assign rfl) <| WL.nil <| QN.then_ <| W.ret <| QR.block <| QR.then_ ?_
       cases h
       exact QR.f1 rfl rfl (.t rfl) (.id _)
      ·refine W.skip <| QN.block <| QN.then_ <| W.seq <| W.region <| WL.p rfl rfl rfl (.k .nil) (q_assign rfl) <| WL.nil <| QN.then_ <| W.ret ?_
       cases h
       exact QR.f1 rfl rfl (.t rfl) (.id _)
     ·refine W.region <| WL.p rfl rfl rfl (.s 5 rfl .nil) (q_field rfl fo97_3 rfl) <| WL.p rfl rfl rfl (.s 38 rfl .nil) (q_load rfl sh3) <| WL.p rfl rfl rfl (.s 5 rfl .nil) (q_field rfl fo97_4 rfl) <| WL.p rfl rfl rfl (.s 40 rfl .nil) (q_load rfl sh3) ?_
      obtain ⟨t344, ht344, h⟩ := bind_s h
      refine WL.p rfl rfl rfl (.s 39 rfl (.s 41 rfl .nil)) (q_call (f := 150) (A := EqA (.bool t344)) (xs := [.tmp 39, .tmp 41]) («as» := [EqA (.int .i64 ((rd a0.fEdges a1).fOutLow)), EqA (.int .i64 ((rd a0.fEdges a1).fOutHigh))]) rfl ca150 (types_bounded.con k ((rd a0.fEdges a1).fOutLow) ((rd a0.fEdges a1).fOutHigh) t344 ht344) rfl) <| WL.p rfl rfl rfl (.s 42 rfl .nil) (q_not rfl) <| WL.p rfl rfl rfl (.s 43 rfl .nil) (q_move rfl) ?_
      rcases bif_s h with ⟨hb345, h⟩ | ⟨hb345, h⟩
      ·refine WL.skip (Unwanted.on rfl rfl rfl hb345) rfl rfl <| WL.skip (Unwanted.on rfl rfl rfl hb345) rfl rfl <| WL.skip (Unwanted.on rfl rfl rfl hb345) rfl rfl <| WL.skip (Unwanted.on rfl rfl rfl hb345) rfl rfl <| WL.skip (Unwanted.on rfl rfl rfl hb345) rfl rfl <| WL.skip (Unwanted.on rfl rfl rfl hb345) rfl rfl <| WL.p rfl rfl rfl (.s 44 rfl (.k .nil)) (q_pickT rfl hb345) <| WL.p rfl rfl rfl (.s 51 rfl .nil) (q_assign rfl) <| WL.nil ?_
       exact QN.weaken (.one rfl (.nil _)) (Kj342 () true h)
      ·refine WL.q (Wanted.on rfl rfl rfl hb345) rfl rfl (.s 5 rfl .nil) (q_field rfl fo97_5 rfl).o <| WL.q (Wanted.on rfl rfl rfl hb345) rfl rfl (.s 45 rfl .nil) (q_load rfl sh3).o <| WL.q (Wanted.on rfl rfl rfl hb345) rfl rfl (.s 5 rfl .nil) (q_field rfl fo97_6 rfl).o <| WL.q (Wanted.on rfl rfl rfl hb345) rfl rfl (.s 47 rfl .nil) (q_load rfl sh3).o ?_
       obtain ⟨t346, ht346, h⟩ := bind_s h
       refine WL.q (Wanted.on rfl rfl rfl hb345) rfl rfl (.s 46 rfl (.s 48 rfl .nil)) (q_call (f := 150) (A := EqA (.bool t346)) (xs := [.tmp 46, .tmp 48]) («as» := [EqA (.int .i64 ((rd a0.fEdges a1).fInLow)), EqA (.int .i64 ((rd a0.fEdges a1).fInHigh))]) rfl ca150 (types_bounded.con k ((rd a0.fEdges a1).fInLow) ((rd a0.fEdges a1).fInHigh) t346 ht346) rfl).o <| WL.q (Wanted.on rfl rfl rfl hb345) rfl rfl (.s 49 rfl .nil) (q_not rfl).o <| WL.p rfl rfl rfl (.s 44 rfl (.s 50 rfl .nil)) (q_pickF rfl hb345) <| WL.p rfl rfl rfl (.s 51 rfl .nil) (q_assign rfl) <| WL.nil ?_
       exact QN.weaken (.one rfl (.nil _)) (Kj342 () (!t346) h)
   ·refine W.region <| WL.p rfl rfl rfl (.s 6 rfl .nil) (q_move rfl) <| WL.p rfl rfl rfl (.s 5 rfl .nil) (q_field rfl fo97_1 rfl) <| WL.p rfl rfl rfl (.s 27 rfl .nil) (q_load rfl sh3) ?_
    obtain ⟨t347, ht347, h⟩ := bind_s h
    refine WL.p rfl rfl rfl (.s 26 rfl (.s 28 rfl .nil)) (q_callV («as» := (fun (x : Int) => [EqA (.int .i64 x)])) (res := (fun (y : Bool) => EqA (.bool y))) (x := (rd a0.fEdges a1).fFrom) (y := t347) (xs := [.tmp 28]) rfl ht347 rfl) <| WL.p rfl rfl rfl (.s 29 rfl .nil) (q_not rfl) <| WL.p rfl rfl rfl (.s 30 rfl .nil) (q_move rfl) ?_
    rcases bif_s h with ⟨hb348, h⟩ | ⟨hb348, h⟩
    ·refine WL.skip (Unwanted.on rfl rfl rfl hb348) rfl rfl <| WL.skip (Unwanted.on rfl rfl rfl hb348) rfl rfl <| WL.skip (Unwanted.on rfl rfl rfl hb348) rfl rfl <| WL.skip (Unwanted.on rfl rfl rfl hb348) rfl rfl <| WL.skip (Unwanted.on rfl rfl rfl hb348) rfl rfl <| WL.p rfl rfl rfl (.s 31 rfl (.k .nil)) (q_pickT rfl hb348) <| WL.p rfl rfl rfl (.s 37 rfl .nil) (q_assign rfl) <| WL.nil ?_
     exact QN.weaken (.one rfl (.one rfl (.nil _))) (Kj327 () true h)
    ·refine WL.q (Wanted.on rfl rfl rfl hb348) rfl rfl (.s 6 rfl .nil) (q_move rfl).o <| WL.q (Wanted.on rfl rfl rfl hb348) rfl rfl (.s 5 rfl .nil) (q_field rfl fo97_2 rfl).o <| WL.q (Wanted.on rfl rfl rfl hb348) rfl rfl (.s 33 rfl .nil) (q_load rfl sh3).o ?_
     obtain ⟨t349, ht349, h⟩ := bind_s h
     refine WL.q (Wanted.on rfl rfl rfl hb348) rfl rfl (.s 32 rfl (.s 34 rfl .nil)) (q_callV («as» := (fun (x : Int) => [EqA (.int .i64 x)])) (res := (fun (y : Bool) => EqA (.bool y))) (x := (rd a0.fEdges a1).fTo) (y := t349) (xs := [.tmp 34]) rfl ht349 rfl).o <| WL.q (Wanted.on rfl rfl rfl hb348) rfl rfl (.s 35 rfl .nil) (q_not rfl).o <| WL.p rfl rfl rfl (.s 31 rfl (.s 36 rfl .nil)) (q_pickF rfl hb348) <| WL.p rfl rfl rfl (.s 37 rfl .nil) (q_assign rfl) <| WL.nil ?_
     exact QN.weaken (.one rfl (.one rfl (.nil _))) (Kj327 () (!t349) h)
end Go.Proofs.YtcgdfjpeboiioaaGreat
