/- The Go functions compute the pure ones. (Printed by gen.py.) -/
import Derived.Test.YtelpgjfojhcjcaaGreatC1
namespace Go.Proofs.YtelpgjfojhcjcaaGreat
open Go Go.Abs
attribute [local irreducible] Tryz.prog
theorem slices_ContainsFunc_NodeType.con (k : Nat) (a0 : (List NodeType)) (a1 : (NodeType → Option Bool)) (r : Bool) (h : slices_ContainsFunc_NodeType k a0 a1 = some r) : Con Tryz.prog 104 [] [SlcA kNodeType a0, FnA Tryz.prog (fun (x : NodeType) => [AggA [EqA (strV x.fName), EqA (.int .i64 x.fParent), EqA (.bool x.fAbstract), SlcA kAttr x.fAttrs]]) (fun (y : Bool) => EqA (.bool y)) a1] (RA (EqA (.bool r))) := by
 unfold slices_ContainsFunc_NodeType at h
 refine Con.of (N := 9) Tryz.func104 rfl rfl rfl fun w0_ fg_ => W.seq <| W.region <| WL.p rfl rfl rfl (.k .nil) (q_assign rfl) <| WL.nil <| QN.then_ <| W.seq <| W.region <| WL.p rfl rfl rfl (.s 0 rfl .nil) (q_move rfl) <| WL.p rfl rfl rfl (.s 1 rfl .nil) (q_move rfl) ?_
 obtain ⟨t147, ht147, h⟩ := bind_s h
 refine WL.p rfl rfl rfl (.s 5 rfl (.s 6 rfl .nil)) (q_call (f := 122) (A := EqA (.int .i64 t147)) (xs := [.tmp 5, .tmp 6]) («as» := [SlcA kNodeType a0, FnA Tryz.prog (fun (x : NodeType) => [AggA [EqA (strV x.fName), EqA (.int .i64 x.fParent), EqA (.bool x.fAbstract), SlcA kAttr x.fAttrs]]) (fun (y : Bool) => EqA (.bool y)) a1]) rfl ca122 (slices_IndexFunc_NodeType.con k a0 a1 t147 ht147) rfl) <| WL.p rfl rfl rfl (.s 7 rfl (.k .nil)) (q_int rfl rfl) <| WL.p rfl rfl rfl (.s 8 rfl .nil) (q_assign rfl) <| WL.nil <| QN.then_ <| W.ret ?_
 cases h
 exact QR.f1 rfl rfl (.t rfl) (.id _)
theorem types_attrs.con : ∀ (k : Nat) (a0 : Types) (a1 : Int) (r : (List Attr)) (_ : types_attrs k a0 a1 = some r), Con Tryz.prog 106 [] [AggA [SlcA kNodeType a0.fNodes, SlcA kEdgeType a0.fEdges], EqA (.int .i64 a1)] (RApp 91 kAttr r) := by
 intro k
 induction k with
 | zero => intro a0 a1 r h; cases h
 | succ k ih =>
  intro a0 a1 r h
  change types_attrs.main (types_attrs k) k a0 a1 = some r at h
  unfold types_attrs.main at h
  refine Con.of (N := 26) Tryz.func106 rfl rfl rfl fun w0_ fg_ => W.seq <| W.region <| WL.p rfl rfl rfl (.s 0 rfl .nil) (q_box rfl (CellsOf.agg _)) <| WL.p rfl rfl rfl (.k .nil) (q_assign rfl) <| WL.nil <| QN.then_ <| W.seq <| W.region <| WL.p rfl rfl rfl (.k .nil) (q_assign rfl) <| WL.nil <| QN.then_ <| W.seq ?_
  refine W.seq <| W.region <| WL.p rfl rfl rfl (.s 2 rfl .nil) (q_field rfl fo25_0 rfl) <| WL.p rfl rfl rfl (.s 7 rfl .nil) (q_load rfl sh22) <| WL.p rfl rfl rfl (.s 1 rfl .nil) (q_move rfl) ?_
  obtain ⟨c148, h⟩ := ite_n h
  refine WL.p rfl rfl rfl (.s 8 rfl (.s 9 rfl .nil)) (q_index rfl el22 rfl c148.1 c148.2) <| WL.p rfl rfl rfl (.s 10 rfl .nil) (q_field rfl fo94_1 rfl) <| WL.p rfl rfl rfl (.s 11 rfl .nil) (q_load rfl sh3) <| WL.p rfl rfl rfl (.s 12 rfl .nil) (q_assign rfl) <| WL.nil <| QN.weaken (env' := [(6, _), (5, _), (2, _), (1, _)]) (.one rfl (.one rfl (.one rfl (.one rfl (.nil _))))) <| QN.then_ <| W.seq <| W.region <| WL.p rfl rfl rfl (.s 6 rfl .nil) (q_move rfl) <| WL.p rfl rfl rfl (.s 13 rfl (.k .nil)) (q_int rfl rfl) <| WL.nil <| QN.then_ ?_
  refine W.jn1 (Γ := Value) (fun (g152 : Value) (_ : (List Attr)) => [(1, EqA (.int .i64 a1)), (2, PtrA [SlcA kNodeType a0.fNodes, SlcA kEdgeType a0.fEdges]), (5, HdA g152)]) (fun (g152 : Value) (x5 : (List Attr)) => [SlE 91 g152 kAttr x5]) h (fun g152 x5 h => ?_) (fun j156 Kj156 h => ?_)
  ·refine QN.then_ <| W.seq <| W.region <| WL.p rfl rfl rfl (.s 5 rfl .nil) (q_move rfl) <| WL.p rfl rfl rfl (.s 2 rfl .nil) (q_field rfl fo25_0 rfl) <| WL.p rfl rfl rfl (.s 19 rfl .nil) (q_load rfl sh22) <| WL.p rfl rfl rfl (.s 1 rfl .nil) (q_move rfl) ?_
   obtain ⟨c157, h⟩ := ite_n h
   refine WL.p rfl rfl rfl (.s 20 rfl (.s 21 rfl .nil)) (q_index rfl el22 rfl c157.1 c157.2) <| WL.p rfl rfl rfl (.s 22 rfl .nil) (q_field rfl fo94_3 rfl) <| WL.p rfl rfl rfl (.s 23 rfl .nil) (q_load rfl sh92) ?_
   obtain ⟨c158, h⟩ := ite_n h
   refine WL.w [0] rfl (Wanted.plain rfl) rfl rfl (.s 18 rfl (.s 24 rfl .nil)) (w_append (kd := kAttr) rfl el92 rfl gr91 c158) ?_
   rintro _ _ ⟨v159, rfl, rfl⟩
   refine WL.p rfl rfl rfl (.s 25 rfl .nil) (q_assign rfl) <| WL.nil <| QN.weaken (env' := [(4, _)]) (.one rfl (.nil _)) <| QN.then_ <| W.ret ?_
   cases h
   exact QR.r1 rfl rfl (.t rfl) ⟨_, rfl, rfl⟩
  ·refine W.condP h rfl (fun hb160 h => ?_) (fun hb160 h => ?_)
   ·refine W.region <| WL.p rfl rfl rfl (.s 2 rfl .nil) (q_loadS rfl sh25 (leB rfl) rfl) <| WL.p rfl rfl rfl (.s 6 rfl .nil) (q_move rfl) ?_
    obtain ⟨t161, ht161, h⟩ := bind_s h
    refine WL.w [] rfl (Wanted.plain rfl) rfl rfl (.s 15 rfl (.s 16 rfl .nil)) (w_callI (f := 106) (xs := [.tmp 15, .tmp 16]) («as» := [AggA [SlcA kNodeType a0.fNodes, SlcA kEdgeType a0.fEdges], EqA (.int .i64 ((rd a0.fNodes a1).fParent))]) rfl ca106 (ih a0 ((rd a0.fNodes a1).fParent) t161 ht161) rfl (.cons (Imp.id _) (.cons (Imp.id _) .nil))) ?_
    rintro _ _ ⟨v162, rfl, rfl⟩
    refine WL.p rfl rfl rfl (.s 17 rfl .nil) (q_assign rfl) <| WL.nil ?_
    exact QN.weaken (.one rfl (.one rfl (.one rfl (.nil _)))) (Kj156 v162 t161 h)
   ·refine W.skip <| QN.to (StTo.newNil 91 kAttr) <| QN.to (StTo.as 5 rfl Imp.nilHd) ?_
    exact QN.weaken (.one rfl (.one rfl (.one rfl (.nil _)))) (Kj156 (.slice none 0 0) [] h)
theorem types_attribute_1.con (k : Nat) (a0 : Attr) (a1 : Attr) (r : Bool) (h : types_attribute_1 k a0 a1 = some r) : Con Tryz.prog 124 [] [AggA [EqA (strV a0.fName), EqA (.int .i64 a0.fLow), EqA (.int .i64 a0.fHigh), SlcA kStr a0.fNames], PtrA [EqA (strV a1.fName), EqA (.int .i64 a1.fLow), EqA (.int .i64 a1.fHigh), SlcA kStr a1.fNames]] (RA (EqA (.bool r))) := by
 unfold types_attribute_1 at h
 refine Con.of (N := 9) Tryz.func124 rfl rfl rfl fun w0_ fg_ => W.seq <| W.region <| WL.p rfl rfl rfl (.s 0 rfl .nil) (q_box rfl (CellsOf.agg _)) <| WL.p rfl rfl rfl (.k .nil) (q_assign rfl) <| WL.nil <| QN.then_ <| W.seq <| W.region <| WL.p rfl rfl rfl (.s 2 rfl .nil) (q_field rfl fo91_0 rfl) <| WL.p rfl rfl rfl (.s 4 rfl .nil) (q_load rfl sh9) <| WL.p rfl rfl rfl (.s 1 rfl .nil) (q_field rfl fo91_0 rfl) <| WL.p rfl rfl rfl (.s 6 rfl .nil) (q_load rfl sh9) ?_
 refine WL.p rfl rfl rfl (.s 5 rfl (.s 7 rfl .nil)) (q_str (s := a0.fName) (t := a1.fName) rfl) <| WL.p rfl rfl rfl (.s 8 rfl .nil) (q_assign rfl) <| WL.nil <| QN.weaken (env' := [(3, _)]) (.one rfl (.nil _)) <| QN.then_ <| W.ret ?_
 cases h
 exact QR.f1 rfl rfl (.t rfl) (.id _)
theorem slices_IndexFunc_Attr.con (k : Nat) (a0 : (List Attr)) (a1 : (Attr → Option Bool)) (r : Int) (h : slices_IndexFunc_Attr k a0 a1 = some r) : Con Tryz.prog 143 [] [SlcA kAttr a0, FnA Tryz.prog (fun (x : Attr) => [AggA [EqA (strV x.fName), EqA (.int .i64 x.fLow), EqA (.int .i64 x.fHigh), SlcA kStr x.fNames]]) (fun (y : Bool) => EqA (.bool y)) a1] (RA (EqA (.int .i64 r))) := by
 unfold slices_IndexFunc_Attr at h
 refine Con.of (N := 19) Tryz.func143 rfl rfl rfl fun w0_ fg_ => W.seq <| W.region <| WL.p rfl rfl rfl (.k .nil) (q_assign rfl) <| WL.nil <| QN.then_ <| W.seq <| W.seq <| W.region <| WL.p rfl rfl rfl (.s 0 rfl .nil) (q_move rfl) <| WL.p rfl rfl rfl (.s 6 rfl .nil) (q_len rfl elS92) <| WL.p rfl rfl rfl (.k .nil) (q_move rfl) <| WL.nil ?_
 refine QN.then_ <| W.block ?_
 refine W.loop1 (Γ := Unit) (fun (_ : Unit) (x8 : Int) => [(0, SlcA kAttr a0), (1, FnA Tryz.prog (fun (x : Attr) => [AggA [EqA (strV x.fName), EqA (.int .i64 x.fLow), EqA (.int .i64 x.fHigh), SlcA kStr x.fNames]]) (fun (y : Bool) => EqA (.bool y)) a1), (7, EqA (.int .i64 (a0.length : Int))), (8, EqA (.int .i64 x8))]) (fun (_ : Unit) (_ : Int) => []) h () (.one rfl (.one rfl (.one rfl (.one rfl (.nil _))))) rfl (fun rec0 K0 next0 _ x8 h => ?_)
 unfold slices_IndexFunc_Attr.b0 at h
 refine W.seq <| W.region <| WL.p rfl rfl rfl (.s 8 rfl (.s 7 rfl .nil)) (q_int rfl rfl) <| WL.nil <| QN.then_ <| W.seq ?_
 refine W.condP h rfl (fun hb174 h => ?_) (fun hb174 h => ?_)
 ·refine W.skip <| QN.then_ <| W.seq <| W.block <| W.seq <| W.region <| WL.p rfl rfl rfl (.s 8 rfl .nil) (q_move rfl) <| WL.p rfl rfl rfl (.s 10 rfl .nil) (q_assign rfl) <| WL.nil <| QN.then_ <| W.seq <| W.region <| WL.p rfl rfl rfl (.s 1 rfl .nil) (q_move rfl) ?_
  refine WL.p rfl rfl rfl (.s 0 rfl .nil) (q_move rfl) <| WL.p rfl rfl rfl (.s 5 rfl .nil) (q_move rfl) ?_
  obtain ⟨c175, h⟩ := ite_n h
  refine WL.p rfl rfl rfl (.s 12 rfl (.s 13 rfl .nil)) (q_index rfl el92 rfl c175.1 c175.2) <| WL.p rfl rfl rfl (.s 14 rfl .nil) (q_loadS rfl sh91 (leB rfl) rfl) ?_
  obtain ⟨t176, ht176, h⟩ := bind_s h
  refine WL.p rfl rfl rfl (.s 11 rfl (.s 15 rfl .nil)) (q_callV («as» := fun (x : Attr) => [AggA [EqA (strV x.fName), EqA (.int .i64 x.fLow), EqA (.int .i64 x.fHigh), SlcA kStr x.fNames]]) (res := fun (y : Bool) => EqA (.bool y)) (x := (rd a0 x8)) (y := t176) (xs := [.tmp 15]) rfl ht176 rfl) <| WL.nil <| QN.weaken (env' := [(16, _), (5, _), (8, _), (7, _), (1, _), (0, _)]) (.one rfl (.one rfl (.one rfl (.one rfl (.one rfl (.one rfl (.nil _))))))) <| QN.then_ ?_
  refine W.condP h rfl (fun hb177 h => ?_) (fun hb177 h => ?_)
  ·refine W.seq <| W.region <| WL.p rfl rfl rfl (.s 5 rfl .nil) (q_move rfl) <| WL.p rfl rfl rfl (.s 17 rfl .nil) (q_assign rfl) <| WL.nil <| QN.weaken (env' := [(4, _)]) (.one rfl (.nil _)) <| QN.then_ <| W.ret <| QR.block <| QR.then_ <| QR.then_ <| QR.block <| QR.then_ ?_
   cases h
   exact QR.f1 rfl rfl (.t rfl) (.id _)
  ·refine W.skip <| QN.block <| QN.then_ <| W.region ?_
   obtain ⟨c178, h⟩ := ite_n h
   refine WL.p rfl rfl rfl (.s 8 rfl (.k .nil)) (q_addR rfl c178) <| WL.p rfl rfl rfl (.s 18 rfl .nil) (q_move rfl) <| WL.nil ?_
   exact next0 () (x8 + 1) _ h (.one rfl (.one rfl (.one rfl (.one rfl (.nil _)))))
 ·refine W.exit <| QX.then_ <| QX.then_ <| QX.here <| QN.then_ <| W.seq <| W.region <| WL.p rfl rfl rfl (.k .nil) (q_assign rfl) <| WL.nil <| QN.then_ <| W.ret ?_
  cases h
  exact QR.f1 rfl rfl (.t rfl) (.id _)
theorem slices_ContainsFunc_Attr.con (k : Nat) (a0 : (List Attr)) (a1 : (Attr → Option Bool)) (r : Bool) (h : slices_ContainsFunc_Attr k a0 a1 = some r) : Con Tryz.prog 123 [] [SlcA kAttr a0, FnA Tryz.prog (fun (x : Attr) => [AggA [EqA (strV x.fName), EqA (.int .i64 x.fLow), EqA (.int .i64 x.fHigh), SlcA kStr x.fNames]]) (fun (y : Bool) => EqA (.bool y)) a1] (RA (EqA (.bool r))) := by
 unfold slices_ContainsFunc_Attr at h
 refine Con.of (N := 9) Tryz.func123 rfl rfl rfl fun w0_ fg_ => W.seq <| W.region <| WL.p rfl rfl rfl (.k .nil) (q_assign rfl) <| WL.nil <| QN.then_ <| W.seq <| W.region <| WL.p rfl rfl rfl (.s 0 rfl .nil) (q_move rfl) <| WL.p rfl rfl rfl (.s 1 rfl .nil) (q_move rfl) ?_
 obtain ⟨t179, ht179, h⟩ := bind_s h
 refine WL.p rfl rfl rfl (.s 5 rfl (.s 6 rfl .nil)) (q_call (f := 143) (A := EqA (.int .i64 t179)) (xs := [.tmp 5, .tmp 6]) («as» := [SlcA kAttr a0, FnA Tryz.prog (fun (x : Attr) => [AggA [EqA (strV x.fName), EqA (.int .i64 x.fLow), EqA (.int .i64 x.fHigh), SlcA kStr x.fNames]]) (fun (y : Bool) => EqA (.bool y)) a1]) rfl ca143 (slices_IndexFunc_Attr.con k a0 a1 t179 ht179) rfl) <| WL.p rfl rfl rfl (.s 7 rfl (.k .nil)) (q_int rfl rfl) <| WL.p rfl rfl rfl (.s 8 rfl .nil) (q_assign rfl) <| WL.nil <| QN.then_ <| W.ret ?_
 cases h
 exact QR.f1 rfl rfl (.t rfl) (.id _)
theorem types_names.con (k : Nat) (a0 : (List Str)) (r : Int) (h : types_names k a0 = some r) : Con Tryz.prog 125 [] [SlcA kStr a0] (RA (EqA (.int .i64 r))) := by
 unfold types_names at h
 refine Con.of (N := 26) Tryz.func125 rfl rfl rfl fun w0_ fg_ => W.seq <| W.region <| WL.p rfl rfl rfl (.k .nil) (q_assign rfl) <| WL.nil <| QN.then_ <| W.seq <| W.seq <| W.region <| WL.p rfl rfl rfl (.s 0 rfl .nil) (q_move rfl) <| WL.p rfl rfl rfl (.s 5 rfl .nil) (q_len rfl elS89) <| WL.p rfl rfl rfl (.s 6 rfl (.k .nil)) (q_int rfl rfl) <| WL.nil ?_
 refine QN.then_ ?_
 refine W.condP h rfl (fun hb180 h => ?_) (fun hb180 h => ?_)
 ·refine W.seq <| W.region <| WL.p rfl rfl rfl (.k .nil) (q_assign rfl) <| WL.nil <| QN.then_ <| W.ret <| QR.then_ ?_
  cases h
  exact QR.f1 rfl rfl (.t rfl) (.id _)
 ·refine W.skip <| QN.then_ <| W.seq <| W.seq <| W.region <| WL.p rfl rfl rfl (.s 0 rfl .nil) (q_move rfl) <| WL.p rfl rfl rfl (.s 8 rfl .nil) (q_len rfl elS89) <| WL.p rfl rfl rfl (.k .nil) (q_move rfl) <| WL.nil <| QN.then_ <| W.block ?_
  refine W.loop1 (Γ := Unit) (fun (_ : Unit) (x10 : Int) => [(0, SlcA kStr a0), (8, SlcA kStr a0), (9, EqA (.int .i64 (a0.length : Int))), (10, EqA (.int .i64 x10))]) (fun (_ : Unit) (_ : Int) => []) h () (.one rfl (.one rfl (.one rfl (.one rfl (.nil _))))) rfl (fun rec0 K0 next0 _ x10 h => ?_)
  unfold types_names.b0 at h
  refine W.seq <| W.region <| WL.p rfl rfl rfl (.s 10 rfl (.s 9 rfl .nil)) (q_int rfl rfl) <| WL.nil <| QN.then_ <| W.seq ?_
  refine W.condP h rfl (fun hb197 h => ?_) (fun hb197 h => ?_)
  ·refine W.skip <| QN.then_ <| W.seq <| W.block <| W.seq <| W.region <| WL.p rfl rfl rfl (.s 10 rfl .nil) (q_move rfl) ?_
   obtain ⟨c198, h⟩ := ite_n h
   refine WL.p rfl rfl rfl (.s 8 rfl (.s 10 rfl .nil)) (q_index rfl el89 rfl c198.1 c198.2) <| WL.p rfl rfl rfl (.s 13 rfl .nil) (q_load rfl sh9) <| WL.p rfl rfl rfl (.s 12 rfl .nil) (q_assign rfl) <| WL.p rfl rfl rfl (.s 14 rfl .nil) (q_assign rfl) <| WL.nil <| QN.then_ <| W.block <| W.seq <| W.region <| WL.p rfl rfl rfl (.s 4 rfl .nil) (q_move rfl) ?_
   obtain ⟨t199, ht199, h⟩ := bind_s h
   refine WL.p rfl rfl rfl (.s 16 rfl .nil) (q_call (f := 103) (A := EqA (.bool t199)) (xs := [.tmp 16]) («as» := [EqA (strV (rd a0 x10))]) rfl ca103 (token_IsName.con k (rd a0 x10) t199 ht199) rfl) <| WL.p rfl rfl rfl (.s 17 rfl .nil) (q_not rfl) <| WL.p rfl rfl rfl (.s 18 rfl .nil) (q_assign rfl) <| WL.nil <| QN.weaken (env' := [(15, _), (4, _), (3, _), (10, _), (9, _), (8, _), (0, _)]) (.one rfl (.one rfl (.one rfl (.one rfl (.one rfl (.one rfl (.one rfl (.nil _)))))))) <| QN.then_ ?_
   refine W.condP h rfl (fun hb200 h => ?_) (fun hb200 h => ?_)
   ·refine W.seq <| W.region <| WL.p rfl rfl rfl (.k .nil) (q_assign rfl) <| WL.nil <| QN.weaken (env' := [(2, _)]) (.one rfl (.nil _)) <| QN.then_ <| W.ret <| QR.block <| QR.block <| QR.then_ <| QR.then_ <| QR.block <| QR.then_ ?_
    cases h
    exact QR.f1 rfl rfl (.t rfl) (.id _)
   ·refine W.seq <| W.region <| WL.p rfl rfl rfl (.s 0 rfl .nil) (q_move rfl) <| WL.p rfl rfl rfl (.s 3 rfl .nil) (q_move rfl) ?_
    obtain ⟨c201, h⟩ := ite_n h
    refine WL.p rfl rfl rfl (.s 20 rfl (.s 21 rfl .nil)) (q_subH rfl el89 rfl c201.1 c201.2) <| WL.p rfl rfl rfl (.s 4 rfl .nil) (q_move rfl) ?_
    obtain ⟨t202, ht202, h⟩ := bind_s h
    refine WL.p rfl rfl rfl (.s 22 rfl (.s 23 rfl .nil)) (q_call (f := 144) (A := EqA (.bool t202)) (xs := [.tmp 22, .tmp 23]) («as» := [SlcA kStr (a0.take (x10 : Int).toNat), EqA (strV (rd a0 x10))]) rfl ca144 (slices_Contains_string.con k (a0.take (x10 : Int).toNat) (rd a0 x10) t202 ht202) rfl) <| WL.p rfl rfl rfl (.s 24 rfl .nil) (q_assign rfl) <| WL.nil <| QN.weaken (env' := [(19, _), (10, _), (9, _), (8, _), (0, _)]) (.one rfl (.one rfl (.one rfl (.one rfl (.one rfl (.nil _)))))) <| QN.then_ ?_
    refine W.condP h rfl (fun hb203 h => ?_) (fun hb203 h => ?_)
    ·refine W.seq <| W.region <| WL.p rfl rfl rfl (.k .nil) (q_assign rfl) <| WL.nil <| QN.then_ <| W.ret <| QR.block <| QR.block <| QR.then_ <| QR.then_ <| QR.block <| QR.then_ ?_
     cases h
     exact QR.f1 rfl rfl (.t rfl) (.id _)
    ·refine W.skip <| QN.block <| QN.block <| QN.then_ <| W.region ?_
     obtain ⟨c204, h⟩ := ite_n h
     refine WL.p rfl rfl rfl (.s 10 rfl (.k .nil)) (q_addR rfl c204) <| WL.p rfl rfl rfl (.s 25 rfl .nil) (q_move rfl) <| WL.nil ?_
     exact next0 () (x10 + 1) _ h (.one rfl (.one rfl (.one rfl (.one rfl (.nil _)))))
  ·refine W.exit <| QX.then_ <| QX.then_ <| QX.here <| QN.then_ <| W.seq <| W.region <| WL.p rfl rfl rfl (.k .nil) (q_assign rfl) <| WL.nil <| QN.then_ <| W.ret ?_
   cases h
   exact QR.f1 rfl rfl (.t rfl) (.id _)
theorem types_attribute.con (k : Nat) (a0 : Attr) (a1 : (List Attr)) (r : Int) (h : types_attribute k a0 a1 = some r) : Con Tryz.prog 107 [] [AggA [EqA (strV a0.fName), EqA (.int .i64 a0.fLow), EqA (.int .i64 a0.fHigh), SlcA kStr a0.fNames], SlcA kAttr a1] (RA (EqA (.int .i64 r))) := by
 unfold types_attribute at h
 refine Con.of (N := 55) Tryz.func107 rfl rfl rfl fun w0_ fg_ => W.seq <| W.region <| WL.p rfl rfl rfl (.s 0 rfl .nil) (q_box rfl (CellsOf.agg _)) <| WL.p rfl rfl rfl (.k .nil) (q_assign rfl) <| WL.nil <| QN.then_ <| W.seq <| W.block <| W.seq <| W.region <| WL.p rfl rfl rfl (.s 2 rfl .nil) (q_field rfl fo91_0 rfl) <| WL.p rfl rfl rfl (.s 8 rfl .nil) (q_load rfl sh9) ?_
 obtain ⟨t205, ht205, h⟩ := bind_s h
 refine WL.p rfl rfl rfl (.s 9 rfl .nil) (q_call (f := 103) (A := EqA (.bool t205)) (xs := [.tmp 9]) («as» := [EqA (strV a0.fName)]) rfl ca103 (token_IsName.con k a0.fName t205 ht205) rfl) <| WL.p rfl rfl rfl (.s 10 rfl .nil) (q_not rfl) <| WL.p rfl rfl rfl (.s 11 rfl .nil) (q_assign rfl) <| WL.nil <| QN.then_ ?_
 refine W.condP h rfl (fun hb206 h => ?_) (fun hb206 h => ?_)
 ·refine W.seq <| W.region <| WL.p rfl rfl rfl (.k .nil) (q_assign rfl) <| WL.nil <| QN.weaken (env' := [(4, _)]) (.one rfl (.nil _)) <| QN.then_ <| W.ret <| QR.block <| QR.then_ ?_
  cases h
  exact QR.f1 rfl rfl (.t rfl) (.id _)
 ·refine W.seq <| W.region <| WL.p rfl rfl rfl (.s 1 rfl .nil) (q_move rfl) <| WL.p rfl rfl rfl (.s 2 rfl .nil) (q_makeFunc (xs := [.tmp 2]) (L := [PtrA [EqA (strV a0.fName), EqA (.int .i64 a0.fLow), EqA (.int .i64 a0.fHigh), SlcA kStr a0.fNames]]) («as» := fun (x : Attr) => [AggA [EqA (strV x.fName), EqA (.int .i64 x.fLow), EqA (.int .i64 x.fHigh), SlcA kStr x.fNames]]) (res := fun (y : Bool) => EqA (.bool y)) (p := (fun x => types_attribute_1 k x a0)) rfl ca124 rfl (fun x y hp => (types_attribute_1.con k x a0 y hp))) ?_
  obtain ⟨t207, ht207, h⟩ := bind_s h
  refine WL.p rfl rfl rfl (.s 13 rfl (.s 14 rfl .nil)) (q_call (f := 123) (A := EqA (.bool t207)) (xs := [.tmp 13, .tmp 14]) («as» := [SlcA kAttr a1, FnA Tryz.prog (fun (x : Attr) => [AggA [EqA (strV x.fName), EqA (.int .i64 x.fLow), EqA (.int .i64 x.fHigh), SlcA kStr x.fNames]]) (fun (y : Bool) => EqA (.bool y)) (fun x => types_attribute_1 k x a0)]) rfl ca123 (slices_ContainsFunc_Attr.con k a1 (fun x => types_attribute_1 k x a0) t207 ht207) rfl) <| WL.p rfl rfl rfl (.s 15 rfl .nil) (q_assign rfl) <| WL.nil <| QN.weaken (env' := [(12, _), (2, _)]) (.one rfl (.one rfl (.nil _))) <| QN.then_ ?_
  refine W.condP h rfl (fun hb208 h => ?_) (fun hb208 h => ?_)
  ·refine W.seq <| W.region <| WL.p rfl rfl rfl (.k .nil) (q_assign rfl) <| WL.nil <| QN.then_ <| W.ret <| QR.block <| QR.then_ ?_
   cases h
   exact QR.f1 rfl rfl (.t rfl) (.id _)
  ·refine W.skip <| QN.block <| QN.then_ <| W.seq <| W.seq <| W.region <| WL.p rfl rfl rfl (.s 2 rfl .nil) (q_field rfl fo91_3 rfl) <| WL.p rfl rfl rfl (.s 16 rfl .nil) (q_load rfl sh89) ?_
   obtain ⟨t209, ht209, h⟩ := bind_s h
   refine WL.p rfl rfl rfl (.s 17 rfl .nil) (q_call (f := 125) (A := EqA (.int .i64 t209)) (xs := [.tmp 17]) («as» := [SlcA kStr a0.fNames]) rfl ca125 (types_names.con k a0.fNames t209 ht209) rfl) <| WL.p rfl rfl rfl (.s 18 rfl .nil) (q_assign rfl) <| WL.nil <| QN.then_ <| W.seq <| W.region <| WL.p rfl rfl rfl (.s 5 rfl .nil) (q_move rfl) <| WL.p rfl rfl rfl (.s 19 rfl (.k .nil)) (q_int rfl rfl) <| WL.nil <| QN.then_ ?_
   refine W.condP h rfl (fun hb210 h => ?_) (fun hb210 h => ?_)
   ·refine W.seq <| W.region <| WL.p rfl rfl rfl (.s 5 rfl .nil) (q_move rfl) <| WL.p rfl rfl rfl (.s 21 rfl .nil) (q_assign rfl) <| WL.nil <| QN.weaken (env' := [(4, _)]) (.one rfl (.nil _)) <| QN.then_ <| W.ret <| QR.then_ ?_
    cases h
    exact QR.f1 rfl rfl (.t rfl) (.id _)
   ·refine W.skip <| QN.weaken (env' := [(2, _)]) (.one rfl (.nil _)) <| QN.then_ <| W.seq ?_
    refine W.jn1 (Γ := Unit) (fun (_ : Unit) (x6 : Bool) => [(2, PtrA [EqA (strV a0.fName), EqA (.int .i64 a0.fLow), EqA (.int .i64 a0.fHigh), SlcA kStr a0.fNames]), (6, EqA (.bool x6))]) (fun (_ : Unit) (_ : Bool) => []) h (fun _ x6 h => ?_) (fun j214 Kj214 h => ?_)
    ·refine QN.then_ <| W.seq <| W.seq <| W.region <| WL.p rfl rfl rfl (.s 2 rfl .nil) (q_field rfl fo91_3 rfl) <| WL.p rfl rfl rfl (.s 37 rfl .nil) (q_load rfl sh89) <| WL.p rfl rfl rfl (.s 38 rfl .nil) (q_len rfl elS89) <| WL.p rfl rfl rfl (.s 39 rfl (.k .nil)) (q_int rfl rfl) <| WL.nil <| QN.then_ ?_
     refine W.condP h rfl (fun hb222 h => ?_) (fun hb222 h => ?_)
     ·refine W.jn1 (Γ := Unit) (fun (_ : Unit) (x6' : Bool) => [(6, EqA (.bool x6'))]) (fun (_ : Unit) (_ : Bool) => []) h (fun _ x6' h => ?_) (fun j226 Kj226 h => ?_)
      ·refine QN.then_ <| W.seq <| W.seq <| W.region <| WL.p rfl rfl rfl (.s 6 rfl .nil) (q_move rfl) <| WL.p rfl rfl rfl (.s 53 rfl .nil) (q_not rfl) <| WL.nil <| QN.then_ ?_
       refine W.condP h rfl (fun hb227 h => ?_) (fun hb227 h => ?_)
       ·refine W.seq <| W.region <| WL.p rfl rfl rfl (.k .nil) (q_assign rfl) <| WL.nil <| QN.then_ <| W.ret <| QR.then_ ?_
        cases h
        exact QR.f1 rfl rfl (.t rfl) (.id _)
       ·refine W.skip <| QN.then_ <| W.seq <| W.region <| WL.p rfl rfl rfl (.k .nil) (q_assign rfl) <| WL.nil <| QN.then_ <| W.ret ?_
        cases h
        exact QR.f1 rfl rfl (.t rfl) (.id _)
      ·refine W.region <| WL.p rfl rfl rfl (.s 2 rfl .nil) (q_field rfl fo91_1 rfl) <| WL.p rfl rfl rfl (.s 41 rfl .nil) (q_load rfl sh3) <| WL.p rfl rfl rfl (.s 42 rfl (.k .nil)) (q_int rfl rfl) <| WL.p rfl rfl rfl (.s 43 rfl .nil) (q_move rfl) ?_
       rcases bif_s h with ⟨hb228, h⟩ | ⟨hb228, h⟩
       ·refine WL.q (Wanted.on rfl rfl rfl hb228) rfl rfl (.s 2 rfl .nil) (q_field rfl fo91_2 rfl).o <| WL.q (Wanted.on rfl rfl rfl hb228) rfl rfl (.s 45 rfl .nil) (q_load rfl sh3).o <| WL.q (Wanted.on rfl rfl rfl hb228) rfl rfl (.s 2 rfl .nil) (q_field rfl fo91_3 rfl).o <| WL.q (Wanted.on rfl rfl rfl hb228) rfl rfl (.s 47 rfl .nil) (q_load rfl sh89).o <| WL.q (Wanted.on rfl rfl rfl hb228) rfl rfl (.s 48 rfl .nil) (q_len rfl elS89).o ?_
        obtain ⟨c229, h⟩ := ite_n h
        refine WL.q (Wanted.on rfl rfl rfl hb228) rfl rfl (.s 49 rfl (.k .nil)) (q_subR rfl c229).o <| WL.q (Wanted.on rfl rfl rfl hb228) rfl rfl (.s 46 rfl (.s 50 rfl .nil)) (q_int rfl rfl).o <| WL.p rfl rfl rfl (.s 44 rfl (.s 51 rfl .nil)) (q_pickT rfl hb228) <| WL.p rfl rfl rfl (.s 52 rfl .nil) (q_assign rfl) <| WL.nil ?_
        exact QN.weaken (.one rfl (.nil _)) (Kj226 () (a0.fHigh == ((a0.fNames.length : Int) - 1)) h)
       ·refine WL.skip (Unwanted.on rfl rfl rfl hb228) rfl rfl <| WL.skip (Unwanted.on rfl rfl rfl hb228) rfl rfl <| WL.skip (Unwanted.on rfl rfl rfl hb228) rfl rfl <| WL.skip (Unwanted.on rfl rfl rfl hb228) rfl rfl <| WL.skip (Unwanted.on rfl rfl rfl hb228) rfl rfl <| WL.skip (Unwanted.on rfl rfl rfl hb228) rfl rfl <| WL.skip (Unwanted.on rfl rfl rfl hb228) rfl rfl <| WL.p rfl rfl rfl (.s 44 rfl (.k .nil)) (q_pickF rfl hb228) <| WL.p rfl rfl rfl (.s 52 rfl .nil) (q_assign rfl) <| WL.nil ?_
        exact QN.weaken (.one rfl (.nil _)) (Kj226 () false h)
     ·refine W.skip <| QN.then_ <| W.seq <| W.seq <| W.region <| WL.p rfl rfl rfl (.s 6 rfl .nil) (q_move rfl) <| WL.p rfl rfl rfl (.s 53 rfl .nil) (q_not rfl) <| WL.nil <| QN.weaken (env' := [(54, _)]) (.one rfl (.nil _)) <| QN.then_ ?_
      refine W.condP h rfl (fun hb230 h => ?_) (fun hb230 h => ?_)
      ·refine W.seq <| W.region <| WL.p rfl rfl rfl (.k .nil) (q_assign rfl) <| WL.nil <| QN.then_ <| W.ret <| QR.then_ ?_
       cases h
       exact QR.f1 rfl rfl (.t rfl) (.id _)
      ·refine W.skip <| QN.then_ <| W.seq <| W.region <| WL.p rfl rfl rfl (.k .nil) (q_assign rfl) <| WL.nil <| QN.then_ <| W.ret ?_
       cases h
       exact QR.f1 rfl rfl (.t rfl) (.id _)
    ·refine W.region <| WL.p rfl rfl rfl (.s 2 rfl .nil) (q_field rfl fo91_1 rfl) <| WL.p rfl rfl rfl (.s 22 rfl .nil) (q_load rfl sh3) <| WL.p rfl rfl rfl (.k (.s 23 rfl .nil)) (q_int rfl rfl) <| WL.p rfl rfl rfl (.s 24 rfl .nil) (q_move rfl) ?_
     rcases bif_s h with ⟨hb231, h⟩ | ⟨hb231, h⟩
     ·refine WL.q (Wanted.on rfl rfl rfl hb231) rfl rfl (.s 2 rfl .nil) (q_field rfl fo91_1 rfl).o <| WL.q (Wanted.on rfl rfl rfl hb231) rfl rfl (.s 26 rfl .nil) (q_load rfl sh3).o <| WL.q (Wanted.on rfl rfl rfl hb231) rfl rfl (.s 2 rfl .nil) (q_field rfl fo91_2 rfl).o <| WL.q (Wanted.on rfl rfl rfl hb231) rfl rfl (.s 28 rfl .nil) (q_load rfl sh3).o <| WL.q (Wanted.on rfl rfl rfl hb231) rfl rfl (.s 27 rfl (.s 29 rfl .nil)) (q_int rfl rfl).o <| WL.p rfl rfl rfl (.s 25 rfl (.s 30 rfl .nil)) (q_pickT rfl hb231) <| WL.p rfl rfl rfl (.s 31 rfl .nil) (q_move rfl) ?_
      rcases bif_s h with ⟨hb232, h⟩ | ⟨hb232, h⟩
      ·refine WL.q (Wanted.on rfl rfl rfl hb232) rfl rfl (.s 2 rfl .nil) (q_field rfl fo91_2 rfl).o <| WL.q (Wanted.on rfl rfl rfl hb232) rfl rfl (.s 33 rfl .nil) (q_load rfl sh3).o <| WL.q (Wanted.on rfl rfl rfl hb232) rfl rfl (.s 34 rfl (.k .nil)) (q_int rfl rfl).o <| WL.p rfl rfl rfl (.s 32 rfl (.s 35 rfl .nil)) (q_pickT rfl hb232) <| WL.p rfl rfl rfl (.s 36 rfl .nil) (q_assign rfl) <| WL.nil ?_
       exact QN.weaken (.one rfl (.one rfl (.nil _))) (Kj214 () (decide (a0.fHigh ≤ 1000000)) h)
      ·refine WL.skip (Unwanted.on rfl rfl rfl hb232) rfl rfl <| WL.skip (Unwanted.on rfl rfl rfl hb232) rfl rfl <| WL.skip (Unwanted.on rfl rfl rfl hb232) rfl rfl <| WL.p rfl rfl rfl (.s 32 rfl (.k .nil)) (q_pickF rfl hb232) <| WL.p rfl rfl rfl (.s 36 rfl .nil) (q_assign rfl) <| WL.nil ?_
       exact QN.weaken (.one rfl (.one rfl (.nil _))) (Kj214 () false h)
     ·refine WL.skip (Unwanted.on rfl rfl rfl hb231) rfl rfl <| WL.skip (Unwanted.on rfl rfl rfl hb231) rfl rfl <| WL.skip (Unwanted.on rfl rfl rfl hb231) rfl rfl <| WL.skip (Unwanted.on rfl rfl rfl hb231) rfl rfl <| WL.skip (Unwanted.on rfl rfl rfl hb231) rfl rfl <| WL.p rfl rfl rfl (.s 25 rfl (.k .nil)) (q_pickF rfl hb231) <| WL.p rfl rfl rfl (.s 31 rfl .nil) (q_move rfl) <| WL.skip (Unwanted.on rfl rfl rfl rfl) rfl rfl <| WL.skip (Unwanted.on rfl rfl rfl rfl) rfl rfl <| WL.skip (Unwanted.on rfl rfl rfl rfl) rfl rfl <| WL.p rfl rfl rfl (.s 32 rfl (.k .nil)) (q_pickF rfl rfl) <| WL.p rfl rfl rfl (.s 36 rfl .nil) (q_assign rfl) <| WL.nil ?_
      exact QN.weaken (.one rfl (.one rfl (.nil _))) (Kj214 () false h)
theorem types_node.con (k : Nat) (a0 : Types) (a1 : Int) (r : Int) (h : types_node k a0 a1 = some r) : Con Tryz.prog 76 [] [AggA [SlcA kNodeType a0.fNodes, SlcA kEdgeType a0.fEdges], EqA (.int .i64 a1)] (RA (EqA (.int .i64 r))) := by
 unfold types_node at h
 refine Con.of (N := 70) Tryz.func76 rfl rfl rfl fun w0_ fg_ => W.seq <| W.region <| WL.p rfl rfl rfl (.s 0 rfl .nil) (q_box rfl (CellsOf.agg _)) <| WL.p rfl rfl rfl (.k .nil) (q_assign rfl) <| WL.nil <| QN.then_ <| W.seq <| W.region <| WL.p rfl rfl rfl (.s 2 rfl .nil) (q_field rfl fo25_0 rfl) <| WL.p rfl rfl rfl (.s 9 rfl .nil) (q_load rfl sh22) <| WL.p rfl rfl rfl (.s 1 rfl .nil) (q_move rfl) ?_
 obtain ⟨c233, h⟩ := ite_n h
 refine WL.p rfl rfl rfl (.s 10 rfl (.s 11 rfl .nil)) (q_index rfl el22 rfl c233.1 c233.2) <| WL.p rfl rfl rfl (.s 12 rfl .nil) (q_loadS rfl sh94 (leB rfl) rfl) <| WL.w [] rfl (Wanted.plain rfl) rfl rfl .nil (w_alloc rfl z94 (l := [EqA (strV ([] : Str)), EqA (.int .i64 0), EqA (.bool false), EqA (.slice none 0 0)]) rfl) ?_
 rintro _ _ ⟨b234, rfl, rfl⟩
 refine WL.w0 [0] rfl (Wanted.plain rfl) rfl (.s 5 rfl (.s 13 rfl .nil)) (w_store (L := [EqA (strV ((rd a0.fNodes a1).fName)), EqA (.int .i64 ((rd a0.fNodes a1).fParent)), EqA (.bool ((rd a0.fNodes a1).fAbstract)), SlcA kAttr ((rd a0.fNodes a1).fAttrs)]) rfl sh94 (CellsOf.agg _) rfl rfl (leB rfl) rfl) ?_
 rintro _ _ ⟨rfl, rfl⟩
 refine WL.nil <| QN.to (StTo.still [0] 5 rfl rfl) <| QN.weaken (env' := [(5, _), (2, _), (1, _)]) (.one rfl (.one rfl (.one rfl (.nil _)))) <| QN.then_ <| W.seq <| W.block <| W.seq <| W.region <| WL.p rfl rfl rfl (.s 5 rfl .nil) (q_field rfl fo94_0 rfl) <| WL.p rfl rfl rfl (.s 15 rfl .nil) (q_load rfl sh9) ?_
 obtain ⟨t235, ht235, h⟩ := bind_s h
 refine WL.p rfl rfl rfl (.s 16 rfl .nil) (q_call (f := 103) (A := EqA (.bool t235)) (xs := [.tmp 16]) («as» := [EqA (strV ((rd a0.fNodes a1).fName))]) rfl ca103 (token_IsName.con k ((rd a0.fNodes a1).fName) t235 ht235) rfl) <| WL.p rfl rfl rfl (.s 17 rfl .nil) (q_not rfl) <| WL.p rfl rfl rfl (.s 18 rfl .nil) (q_assign rfl) <| WL.nil <| QN.then_ ?_
 refine W.condP h rfl (fun hb236 h => ?_) (fun hb236 h => ?_)
 ·refine W.seq <| W.region <| WL.p rfl rfl rfl (.k .nil) (q_assign rfl) <| WL.nil <| QN.weaken (env' := [(4, _)]) (.one rfl (.nil _)) <| QN.then_ <| W.ret <| QR.block <| QR.then_ ?_
  cases h
  exact QR.f1 rfl rfl (.t rfl) (.id _)
 ·refine W.seq <| W.region <| WL.p rfl rfl rfl (.s 2 rfl .nil) (q_field rfl fo25_0 rfl) <| WL.p rfl rfl rfl (.s 20 rfl .nil) (q_load rfl sh22) <| WL.p rfl rfl rfl (.s 1 rfl .nil) (q_move rfl) ?_
  obtain ⟨c237, h⟩ := ite_n h
  refine WL.p rfl rfl rfl (.s 21 rfl (.s 22 rfl .nil)) (q_subH rfl el22 rfl c237.1 c237.2) <| WL.p rfl rfl rfl (.s 5 rfl .nil) (q_makeFunc (xs := [.tmp 5]) (L := [PtrA [EqA (strV ((rd a0.fNodes a1).fName)), EqA (.int .i64 ((rd a0.fNodes a1).fParent)), EqA (.bool ((rd a0.fNodes a1).fAbstract)), SlcA kAttr ((rd a0.fNodes a1).fAttrs)]]) («as» := fun (x : NodeType) => [AggA [EqA (strV x.fName), EqA (.int .i64 x.fParent), EqA (.bool x.fAbstract), SlcA kAttr x.fAttrs]]) (res := fun (y : Bool) => EqA (.bool y)) (p := (fun x => types_node_1 k x (rd a0.fNodes a1))) rfl ca105 rfl (fun x y hp => (types_node_1.con k x (rd a0.fNodes a1) y hp))) ?_
  obtain ⟨t238, ht238, h⟩ := bind_s h
  refine WL.p rfl rfl rfl (.s 23 rfl (.s 24 rfl .nil)) (q_call (f := 104) (A := EqA (.bool t238)) (xs := [.tmp 23, .tmp 24]) («as» := [SlcA kNodeType (a0.fNodes.take (a1 : Int).toNat), FnA Tryz.prog (fun (x : NodeType) => [AggA [EqA (strV x.fName), EqA (.int .i64 x.fParent), EqA (.bool x.fAbstract), SlcA kAttr x.fAttrs]]) (fun (y : Bool) => EqA (.bool y)) (fun x => types_node_1 k x (rd a0.fNodes a1))]) rfl ca104 (slices_ContainsFunc_NodeType.con k (a0.fNodes.take (a1 : Int).toNat) (fun x => types_node_1 k x (rd a0.fNodes a1)) t238 ht238) rfl) <| WL.p rfl rfl rfl (.s 25 rfl .nil) (q_assign rfl) <| WL.nil <| QN.weaken (env' := [(19, _), (5, _), (2, _), (1, _)]) (.one rfl (.one rfl (.one rfl (.one rfl (.nil _))))) <| QN.then_ ?_
  refine W.condP h rfl (fun hb239 h => ?_) (fun hb239 h => ?_)
  ·refine W.seq <| W.region <| WL.p rfl rfl rfl (.k .nil) (q_assign rfl) <| WL.nil <| QN.then_ <| W.ret <| QR.block <| QR.then_ ?_
   cases h
   exact QR.f1 rfl rfl (.t rfl) (.id _)
  ·refine W.seq ?_
   refine W.jn1 (Γ := Unit) (fun (_ : Unit) (x26 : Bool) => [(1, EqA (.int .i64 a1)), (2, PtrA [SlcA kNodeType a0.fNodes, SlcA kEdgeType a0.fEdges]), (5, PtrA [EqA (strV ((rd a0.fNodes a1).fName)), EqA (.int .i64 ((rd a0.fNodes a1).fParent)), EqA (.bool ((rd a0.fNodes a1).fAbstract)), SlcA kAttr ((rd a0.fNodes a1).fAttrs)]), (26, EqA (.bool x26))]) (fun (_ : Unit) (_ : Bool) => []) h (fun _ x26 h => ?_) (fun j242 Kj242 h => ?_)
   ·refine QN.then_ ?_
    refine W.condP h rfl (fun hb243 h => ?_) (fun hb243 h => ?_)
    ·refine W.seq <| W.region <| WL.p rfl rfl rfl (.k .nil) (q_assign rfl) <| WL.nil <| QN.then_ <| W.ret <| QR.block <| QR.then_ ?_
     cases h
     exact QR.f1 rfl rfl (.t rfl) (.id _)
    ·refine W.seq <| W.region <| WL.p rfl rfl rfl (.s 5 rfl .nil) (q_field rfl fo94_3 rfl) <| WL.p rfl rfl rfl (.s 37 rfl .nil) (q_load rfl sh92) <| WL.p rfl rfl rfl (.s 38 rfl .nil) (q_len rfl elS92) <| WL.p rfl rfl rfl (.s 39 rfl (.k .nil)) (q_int rfl rfl) <| WL.p rfl rfl rfl (.s 40 rfl .nil) (q_assign rfl) <| WL.nil <| QN.then_ ?_
     refine W.condP h rfl (fun hb244 h => ?_) (fun hb244 h => ?_)
     ·refine W.seq <| W.region <| WL.p rfl rfl rfl (.k .nil) (q_assign rfl) <| WL.nil <| QN.weaken (env' := [(4, _)]) (.one rfl (.nil _)) <| QN.then_ <| W.ret <| QR.block <| QR.then_ ?_
      cases h
      exact QR.f1 rfl rfl (.t rfl) (.id _)
     ·refine W.skip <| QN.block <| QN.then_ <| W.seq <| W.region <| WL.p rfl rfl rfl (.s 2 rfl .nil) (q_loadS rfl sh25 (leB rfl) rfl) <| WL.p rfl rfl rfl (.s 1 rfl .nil) (q_move rfl) ?_
      obtain ⟨t245, ht245, h⟩ := bind_s h
      refine WL.p rfl rfl rfl (.s 41 rfl (.s 42 rfl .nil)) (q_call (f := 106) (A := SlcA kAttr t245) (xs := [.tmp 41, .tmp 42]) («as» := [AggA [SlcA kNodeType a0.fNodes, SlcA kEdgeType a0.fEdges], EqA (.int .i64 a1)]) rfl ca106 (Con.free (types_attrs.con k a0 a1 t245 ht245)) rfl) <| WL.p rfl rfl rfl (.s 43 rfl .nil) (q_assign rfl) <| WL.nil <| QN.weaken (env' := [(6, _), (5, _)]) (.one rfl (.one rfl (.nil _))) <| QN.then_ <| W.seq <| W.seq <| W.region <| WL.p rfl rfl rfl (.s 6 rfl .nil) (q_move rfl) <| WL.p rfl rfl rfl (.s 44 rfl .nil) (q_len rfl elS92) <| WL.p rfl rfl rfl (.s 45 rfl (.k .nil)) (q_int rfl rfl) <| WL.nil <| QN.then_ ?_
      refine W.condP h rfl (fun hb246 h => ?_) (fun hb246 h => ?_)
      ·refine W.seq <| W.region <| WL.p rfl rfl rfl (.k .nil) (q_assign rfl) <| WL.nil <| QN.then_ <| W.ret <| QR.then_ ?_
       cases h
       exact QR.f1 rfl rfl (.t rfl) (.id _)
      ·refine W.skip <| QN.then_ <| W.seq <| W.seq <| W.region <| WL.p rfl rfl rfl (.s 6 rfl .nil) (q_move rfl) <| WL.p rfl rfl rfl (.s 47 rfl .nil) (q_len rfl elS92) <| WL.p rfl rfl rfl (.s 5 rfl .nil) (q_field rfl fo94_3 rfl) <| WL.p rfl rfl rfl (.s 49 rfl .nil) (q_load rfl sh92) <| WL.p rfl rfl rfl (.s 50 rfl .nil) (q_len rfl elS92) ?_
       obtain ⟨c247, h⟩ := ite_n h
       refine WL.p rfl rfl rfl (.s 48 rfl (.s 51 rfl .nil)) (q_subR rfl c247) <| WL.p rfl rfl rfl (.s 52 rfl .nil) (q_assign rfl) <| WL.nil <| QN.weaken (env' := [(7, _), (6, _)]) (.one rfl (.one rfl (.nil _))) <| QN.then_ <| W.block ?_
       refine W.loop1 (Γ := Unit) (fun (_ : Unit) (x7 : Int) => [(6, SlcA kAttr t245), (7, EqA (.int .i64 x7))]) (fun (_ : Unit) (_ : Int) => []) h () (.one rfl (.one rfl (.nil _))) rfl (fun rec0 K0 next0 _ x7 h => ?_)
       unfold types_node.b0 at h
       refine W.seq <| W.seq <| W.region <| WL.p rfl rfl rfl (.s 7 rfl .nil) (q_move rfl) <| WL.p rfl rfl rfl (.s 6 rfl .nil) (q_move rfl) <| WL.p rfl rfl rfl (.s 54 rfl .nil) (q_len rfl elS92) <| WL.p rfl rfl rfl (.s 53 rfl (.s 55 rfl .nil)) (q_int rfl rfl) <| WL.nil <| QN.then_ ?_
       refine W.condP h rfl (fun hb272 h => ?_) (fun hb272 h => ?_)
       ·refine W.skip <| QN.then_ <| W.seq <| W.block <| W.seq <| W.drawK [(0, false), (1, false), (2, false), (3, false), (4, false), (5, false), (6, false), (7, false), (8, false)] [] [[], [], [0, 1], [0, 1, 2], [], [], [4, 5], [0, 1, 2, 3, 4, 5, 6], [0, 1, 2, 3, 4, 5, 6, 7]] mx (by kernel_rfl) <| DK.cons rfl rfl (.p rfl (.s 6 rfl .nil) rfl (q_move rfl)) <| DK.cons rfl rfl (.p rfl (.s 7 rfl .nil) rfl (q_move rfl)) ?_
        obtain ⟨c279, h⟩ := ite_n h
        refine DK.cons rfl rfl (.p rfl (.s 59 rfl (.s 60 rfl .nil)) rfl (q_index rfl el92 rfl c279.1 c279.2)) <| DK.cons rfl rfl (.p rfl (.s 61 rfl .nil) rfl (q_loadS rfl sh91 (leB rfl) rfl)) <| DK.cons rfl rfl (.p rfl (.s 6 rfl .nil) rfl (q_move rfl)) <| DK.cons rfl rfl (.p rfl (.s 7 rfl .nil) rfl (q_move rfl)) ?_
        obtain ⟨c280, h⟩ := ite_n h
        refine DK.cons rfl rfl (.p rfl (.s 63 rfl (.s 64 rfl .nil)) rfl (q_subH rfl el92 rfl c280.1 c280.2)) ?_
        obtain ⟨t281, ht281, h⟩ := bind_s h
        refine DK.cons rfl rfl (.p rfl (.s 62 rfl (.s 65 rfl .nil)) rfl (q_call (f := 107) (A := EqA (.int .i64 t281)) (xs := [.tmp 62, .tmp 65]) («as» := [AggA [EqA (strV ((rd t245 x7).fName)), EqA (.int .i64 ((rd t245 x7).fLow)), EqA (.int .i64 ((rd t245 x7).fHigh)), SlcA kStr ((rd t245 x7).fNames)], SlcA kAttr (t245.take (x7 : Int).toNat)]) rfl ca107 (types_attribute.con k (rd t245 x7) (t245.take (x7 : Int).toNat) t281 ht281) rfl)) <| DK.cons rfl rfl (.p rfl (.s 66 rfl .nil) rfl (q_assign rfl)) <| DK.nil <| CSteps.nil <| QN.weaken (env' := [(8, _), (7, _), (6, _)]) (.one rfl (.one rfl (.one rfl (.nil _)))) <| QN.then_ <| W.seq <| W.region <| WL.p rfl rfl rfl (.s 8 rfl .nil) (q_move rfl) <| WL.p rfl rfl rfl (.s 67 rfl (.k .nil)) (q_int rfl rfl) <| WL.nil <| QN.then_ ?_
        refine W.condP h rfl (fun hb282 h => ?_) (fun hb282 h => ?_)
        ·refine W.seq <| W.region <| WL.p rfl rfl rfl (.s 8 rfl .nil) (q_move rfl) <| WL.p rfl rfl rfl (.s 69 rfl .nil) (q_assign rfl) <| WL.nil <| QN.then_ <| W.ret <| QR.block <| QR.then_ <| QR.then_ <| QR.block <| QR.then_ ?_
         cases h
         exact QR.f1 rfl rfl (.t rfl) (.id _)
        ·refine W.skip <| QN.block <| QN.then_ <| W.region <| WL.p rfl rfl rfl (.s 7 rfl .nil) (q_move rfl) ?_
         obtain ⟨c283, h⟩ := ite_n h
         refine WL.p rfl rfl rfl (.s 57 rfl (.k .nil)) (q_addR rfl c283) <| WL.p rfl rfl rfl (.s 58 rfl .nil) (q_assign rfl) <| WL.nil ?_
         exact next0 () (x7 + 1) _ h (.one rfl (.one rfl (.nil _)))
       ·refine W.exit <| QX.then_ <| QX.then_ <| QX.here <| QN.then_ <| W.seq <| W.region <| WL.p rfl rfl rfl (.k .nil) (q_assign rfl) <| WL.nil <| QN.then_ <| W.ret ?_
        cases h
        exact QR.f1 rfl rfl (.t rfl) (.id _)
   ·refine W.region <| WL.p rfl rfl rfl (.s 5 rfl .nil) (q_field rfl fo94_1 rfl) <| WL.p rfl rfl rfl (.s 27 rfl .nil) (q_load rfl sh3) <| WL.p rfl rfl rfl (.s 28 rfl (.k .nil)) (q_int rfl rfl) <| WL.p rfl rfl rfl (.s 29 rfl .nil) (q_move rfl) ?_
    rcases bif_s h with ⟨hb284, h⟩ | ⟨hb284, h⟩
    ·refine WL.skip (Unwanted.on rfl rfl rfl hb284) rfl rfl <| WL.skip (Unwanted.on rfl rfl rfl hb284) rfl rfl <| WL.skip (Unwanted.on rfl rfl rfl hb284) rfl rfl <| WL.skip (Unwanted.on rfl rfl rfl hb284) rfl rfl <| WL.p rfl rfl rfl (.s 30 rfl (.k .nil)) (q_pickT rfl hb284) <| WL.p rfl rfl rfl (.s 35 rfl .nil) (q_assign rfl) <| WL.nil ?_
     exact QN.weaken (.one rfl (.one rfl (.one rfl (.one rfl (.nil _))))) (Kj242 () true h)
    ·refine WL.q (Wanted.on rfl rfl rfl hb284) rfl rfl (.s 5 rfl .nil) (q_field rfl fo94_1 rfl).o <| WL.q (Wanted.on rfl rfl rfl hb284) rfl rfl (.s 31 rfl .nil) (q_load rfl sh3).o <| WL.q (Wanted.on rfl rfl rfl hb284) rfl rfl (.s 1 rfl .nil) (q_move rfl).o <| WL.q (Wanted.on rfl rfl rfl hb284) rfl rfl (.s 32 rfl (.s 33 rfl .nil)) (q_int rfl rfl).o <| WL.p rfl rfl rfl (.s 30 rfl (.s 34 rfl .nil)) (q_pickF rfl hb284) <| WL.p rfl rfl rfl (.s 35 rfl .nil) (q_assign rfl) <| WL.nil ?_
     exact QN.weaken (.one rfl (.one rfl (.one rfl (.one rfl (.nil _))))) (Kj242 () (decide ((rd a0.fNodes a1).fParent ≥ a1)) h)
theorem types_edge_1.con (k : Nat) (a0 : Int) (a1 : Types) (r : Bool) (h : types_edge_1 k a0 a1 = some r) : Con Tryz.prog 108 [] [EqA (.int .i64 a0), PtrA [SlcA kNodeType a1.fNodes, SlcA kEdgeType a1.fEdges]] (RA (EqA (.bool r))) := by
 unfold types_edge_1 at h
 refine Con.of (N := 13) Tryz.func108 rfl rfl rfl fun w0_ fg_ => W.seq <| W.region <| WL.p rfl rfl rfl (.k .nil) (q_assign rfl) <| WL.nil <| QN.then_ <| W.seq ?_
 refine W.jn1 (Γ := Unit) (fun (_ : Unit) (x3 : Bool) => [(3, EqA (.bool x3))]) (fun (_ : Unit) (_ : Bool) => []) h (fun _ x3 h => ?_) (fun j287 Kj287 h => ?_)
 ·refine QN.then_ <| W.ret ?_
  cases h
  exact QR.f1 rfl rfl (.t rfl) (.id _)
 ·refine W.region <| WL.p rfl rfl rfl (.s 0 rfl .nil) (q_move rfl) <| WL.p rfl rfl rfl (.s 4 rfl (.k .nil)) (q_int rfl rfl) <| WL.p rfl rfl rfl (.s 5 rfl .nil) (q_move rfl) ?_
  rcases bif_s h with ⟨hb288, h⟩ | ⟨hb288, h⟩
  ·refine WL.q (Wanted.on rfl rfl rfl hb288) rfl rfl (.s 0 rfl .nil) (q_move rfl).o <| WL.q (Wanted.on rfl rfl rfl hb288) rfl rfl (.s 1 rfl .nil) (q_field rfl fo25_0 rfl).o <| WL.q (Wanted.on rfl rfl rfl hb288) rfl rfl (.s 8 rfl .nil) (q_load rfl sh22).o <| WL.q (Wanted.on rfl rfl rfl hb288) rfl rfl (.s 9 rfl .nil) (q_len rfl elS22).o <| WL.q (Wanted.on rfl rfl rfl hb288) rfl rfl (.s 7 rfl (.s 10 rfl .nil)) (q_int rfl rfl).o <| WL.p rfl rfl rfl (.s 6 rfl (.s 11 rfl .nil)) (q_pickT rfl hb288) <| WL.p rfl rfl rfl (.s 12 rfl .nil) (q_assign rfl) <| WL.nil ?_
   exact QN.weaken (.one rfl (.nil _)) (Kj287 () (decide (a0 < (a1.fNodes.length : Int))) h)
  ·refine WL.skip (Unwanted.on rfl rfl rfl hb288) rfl rfl <| WL.skip (Unwanted.on rfl rfl rfl hb288) rfl rfl <| WL.skip (Unwanted.on rfl rfl rfl hb288) rfl rfl <| WL.skip (Unwanted.on rfl rfl rfl hb288) rfl rfl <| WL.skip (Unwanted.on rfl rfl rfl hb288) rfl rfl <| WL.p rfl rfl rfl (.s 6 rfl (.k .nil)) (q_pickF rfl hb288) <| WL.p rfl rfl rfl (.s 12 rfl .nil) (q_assign rfl) <| WL.nil ?_
   exact QN.weaken (.one rfl (.nil _)) (Kj287 () false h)
theorem types_edge_2.con (k : Nat) (a0 : EdgeType) (a1 : EdgeType) (r : Bool) (h : types_edge_2 k a0 a1 = some r) : Con Tryz.prog 110 [] [AggA [EqA (strV a0.fName), EqA (.int .i64 a0.fFrom), EqA (.int .i64 a0.fTo), EqA (.int .i64 a0.fOutLow), EqA (.int .i64 a0.fOutHigh), EqA (.int .i64 a0.fInLow), EqA (.int .i64 a0.fInHigh)], PtrA [EqA (strV a1.fName), EqA (.int .i64 a1.fFrom), EqA (.int .i64 a1.fTo), EqA (.int .i64 a1.fOutLow), EqA (.int .i64 a1.fOutHigh), EqA (.int .i64 a1.fInLow), EqA (.int .i64 a1.fInHigh)]] (RA (EqA (.bool r))) := by
 unfold types_edge_2 at h
 refine Con.of (N := 9) Tryz.func110 rfl rfl rfl fun w0_ fg_ => W.seq <| W.region <| WL.p rfl rfl rfl (.s 0 rfl .nil) (q_box rfl (CellsOf.agg _)) <| WL.p rfl rfl rfl (.k .nil) (q_assign rfl) <| WL.nil <| QN.then_ <| W.seq <| W.region <| WL.p rfl rfl rfl (.s 2 rfl .nil) (q_field rfl fo96_0 rfl) <| WL.p rfl rfl rfl (.s 4 rfl .nil) (q_load rfl sh9) <| WL.p rfl rfl rfl (.s 1 rfl .nil) (q_field rfl fo96_0 rfl) <| WL.p rfl rfl rfl (.s 6 rfl .nil) (q_load rfl sh9) ?_
 refine WL.p rfl rfl rfl (.s 5 rfl (.s 7 rfl .nil)) (q_str (s := a0.fName) (t := a1.fName) rfl) <| WL.p rfl rfl rfl (.s 8 rfl .nil) (q_assign rfl) <| WL.nil <| QN.weaken (env' := [(3, _)]) (.one rfl (.nil _)) <| QN.then_ <| W.ret ?_
 cases h
 exact QR.f1 rfl rfl (.t rfl) (.id _)
theorem slices_IndexFunc_EdgeType.con (k : Nat) (a0 : (List EdgeType)) (a1 : (EdgeType → Option Bool)) (r : Int) (h : slices_IndexFunc_EdgeType k a0 a1 = some r) : Con Tryz.prog 126 [] [SlcA kEdgeType a0, FnA Tryz.prog (fun (x : EdgeType) => [AggA [EqA (strV x.fName), EqA (.int .i64 x.fFrom), EqA (.int .i64 x.fTo), EqA (.int .i64 x.fOutLow), EqA (.int .i64 x.fOutHigh), EqA (.int .i64 x.fInLow), EqA (.int .i64 x.fInHigh)]]) (fun (y : Bool) => EqA (.bool y)) a1] (RA (EqA (.int .i64 r))) := by
 unfold slices_IndexFunc_EdgeType at h
 refine Con.of (N := 19) Tryz.func126 rfl rfl rfl fun w0_ fg_ => W.seq <| W.region <| WL.p rfl rfl rfl (.k .nil) (q_assign rfl) <| WL.nil <| QN.then_ <| W.seq <| W.seq <| W.region <| WL.p rfl rfl rfl (.s 0 rfl .nil) (q_move rfl) <| WL.p rfl rfl rfl (.s 6 rfl .nil) (q_len rfl elS23) <| WL.p rfl rfl rfl (.k .nil) (q_move rfl) <| WL.nil ?_
 refine QN.then_ <| W.block ?_
 refine W.loop1 (Γ := Unit) (fun (_ : Unit) (x8 : Int) => [(0, SlcA kEdgeType a0), (1, FnA Tryz.prog (fun (x : EdgeType) => [AggA [EqA (strV x.fName), EqA (.int .i64 x.fFrom), EqA (.int .i64 x.fTo), EqA (.int .i64 x.fOutLow), EqA (.int .i64 x.fOutHigh), EqA (.int .i64 x.fInLow), EqA (.int .i64 x.fInHigh)]]) (fun (y : Bool) => EqA (.bool y)) a1), (7, EqA (.int .i64 (a0.length : Int))), (8, EqA (.int .i64 x8))]) (fun (_ : Unit) (_ : Int) => []) h () (.one rfl (.one rfl (.one rfl (.one rfl (.nil _))))) rfl (fun rec0 K0 next0 _ x8 h => ?_)
 unfold slices_IndexFunc_EdgeType.b0 at h
 refine W.seq <| W.region <| WL.p rfl rfl rfl (.s 8 rfl (.s 7 rfl .nil)) (q_int rfl rfl) <| WL.nil <| QN.then_ <| W.seq ?_
 refine W.condP h rfl (fun hb299 h => ?_) (fun hb299 h => ?_)
 ·refine W.skip <| QN.then_ <| W.seq <| W.block <| W.seq <| W.region <| WL.p rfl rfl rfl (.s 8 rfl .nil) (q_move rfl) <| WL.p rfl rfl rfl (.s 10 rfl .nil) (q_assign rfl) <| WL.nil <| QN.then_ <| W.seq <| W.region <| WL.p rfl rfl rfl (.s 1 rfl .nil) (q_move rfl) ?_
  refine WL.p rfl rfl rfl (.s 0 rfl .nil) (q_move rfl) <| WL.p rfl rfl rfl (.s 5 rfl .nil) (q_move rfl) ?_
  obtain ⟨c300, h⟩ := ite_n h
  refine WL.p rfl rfl rfl (.s 12 rfl (.s 13 rfl .nil)) (q_index rfl el23 rfl c300.1 c300.2) <| WL.p rfl rfl rfl (.s 14 rfl .nil) (q_loadS rfl sh96 (leB rfl) rfl) ?_
  obtain ⟨t301, ht301, h⟩ := bind_s h
  refine WL.p rfl rfl rfl (.s 11 rfl (.s 15 rfl .nil)) (q_callV («as» := fun (x : EdgeType) => [AggA [EqA (strV x.fName), EqA (.int .i64 x.fFrom), EqA (.int .i64 x.fTo), EqA (.int .i64 x.fOutLow), EqA (.int .i64 x.fOutHigh), EqA (.int .i64 x.fInLow), EqA (.int .i64 x.fInHigh)]]) (res := fun (y : Bool) => EqA (.bool y)) (x := (rd a0 x8)) (y := t301) (xs := [.tmp 15]) rfl ht301 rfl) <| WL.nil <| QN.weaken (env' := [(16, _), (5, _), (8, _), (7, _), (1, _), (0, _)]) (.one rfl (.one rfl (.one rfl (.one rfl (.one rfl (.one rfl (.nil _))))))) <| QN.then_ ?_
  refine W.condP h rfl (fun hb302 h => ?_) (fun hb302 h => ?_)
  ·refine W.seq <| W.region <| WL.p rfl rfl rfl (.s 5 rfl .nil) (q_move rfl) <| WL.p rfl rfl rfl (.s 17 rfl .nil) (q_assign rfl) <| WL.nil <| QN.weaken (env' := [(4, _)]) (.one rfl (.nil _)) <| QN.then_ <| W.ret <| QR.block <| QR.then_ <| QR.then_ <| QR.block <| QR.then_ ?_
   cases h
   exact QR.f1 rfl rfl (.t rfl) (.id _)
  ·refine W.skip <| QN.block <| QN.then_ <| W.region ?_
   obtain ⟨c303, h⟩ := ite_n h
   refine WL.p rfl rfl rfl (.s 8 rfl (.k .nil)) (q_addR rfl c303) <| WL.p rfl rfl rfl (.s 18 rfl .nil) (q_move rfl) <| WL.nil ?_
   exact next0 () (x8 + 1) _ h (.one rfl (.one rfl (.one rfl (.one rfl (.nil _)))))
 ·refine W.exit <| QX.then_ <| QX.then_ <| QX.here <| QN.then_ <| W.seq <| W.region <| WL.p rfl rfl rfl (.k .nil) (q_assign rfl) <| WL.nil <| QN.then_ <| W.ret ?_
  cases h
  exact QR.f1 rfl rfl (.t rfl) (.id _)
theorem slices_ContainsFunc_EdgeType.con (k : Nat) (a0 : (List EdgeType)) (a1 : (EdgeType → Option Bool)) (r : Bool) (h : slices_ContainsFunc_EdgeType k a0 a1 = some r) : Con Tryz.prog 109 [] [SlcA kEdgeType a0, FnA Tryz.prog (fun (x : EdgeType) => [AggA [EqA (strV x.fName), EqA (.int .i64 x.fFrom), EqA (.int .i64 x.fTo), EqA (.int .i64 x.fOutLow), EqA (.int .i64 x.fOutHigh), EqA (.int .i64 x.fInLow), EqA (.int .i64 x.fInHigh)]]) (fun (y : Bool) => EqA (.bool y)) a1] (RA (EqA (.bool r))) := by
 unfold slices_ContainsFunc_EdgeType at h
 refine Con.of (N := 9) Tryz.func109 rfl rfl rfl fun w0_ fg_ => W.seq <| W.region <| WL.p rfl rfl rfl (.k .nil) (q_assign rfl) <| WL.nil <| QN.then_ <| W.seq <| W.region <| WL.p rfl rfl rfl (.s 0 rfl .nil) (q_move rfl) <| WL.p rfl rfl rfl (.s 1 rfl .nil) (q_move rfl) ?_
 obtain ⟨t304, ht304, h⟩ := bind_s h
 refine WL.p rfl rfl rfl (.s 5 rfl (.s 6 rfl .nil)) (q_call (f := 126) (A := EqA (.int .i64 t304)) (xs := [.tmp 5, .tmp 6]) («as» := [SlcA kEdgeType a0, FnA Tryz.prog (fun (x : EdgeType) => [AggA [EqA (strV x.fName), EqA (.int .i64 x.fFrom), EqA (.int .i64 x.fTo), EqA (.int .i64 x.fOutLow), EqA (.int .i64 x.fOutHigh), EqA (.int .i64 x.fInLow), EqA (.int .i64 x.fInHigh)]]) (fun (y : Bool) => EqA (.bool y)) a1]) rfl ca126 (slices_IndexFunc_EdgeType.con k a0 a1 t304 ht304) rfl) <| WL.p rfl rfl rfl (.s 7 rfl (.k .nil)) (q_int rfl rfl) <| WL.p rfl rfl rfl (.s 8 rfl .nil) (q_assign rfl) <| WL.nil <| QN.then_ <| W.ret ?_
 cases h
 exact QR.f1 rfl rfl (.t rfl) (.id _)
theorem types_bounded.con (k : Nat) (a0 : Int) (a1 : Int) (r : Bool) (h : types_bounded k a0 a1 = some r) : Con Tryz.prog 111 [] [EqA (.int .i64 a0), EqA (.int .i64 a1)] (RA (EqA (.bool r))) := by
 unfold types_bounded at h
 refine Con.of (N := 24) Tryz.func111 rfl rfl rfl fun w0_ fg_ => W.seq <| W.region <| WL.p rfl rfl rfl (.k .nil) (q_assign rfl) <| WL.nil <| QN.then_ <| W.seq ?_
 refine W.jn1 (Γ := Unit) (fun (_ : Unit) (x4 : Bool) => [(4, EqA (.bool x4))]) (fun (_ : Unit) (_ : Bool) => []) h (fun _ x4 h => ?_) (fun j310 Kj310 h => ?_)
 ·refine QN.then_ <| W.ret ?_
  cases h
  exact QR.f1 rfl rfl (.t rfl) (.id _)
 ·refine W.region <| WL.p rfl rfl rfl (.s 0 rfl .nil) (q_move rfl) <| WL.p rfl rfl rfl (.s 5 rfl (.k .nil)) (q_int rfl rfl) <| WL.p rfl rfl rfl (.s 6 rfl .nil) (q_move rfl) ?_
  rcases bif_s h with ⟨hb311, h⟩ | ⟨hb311, h⟩
  ·refine WL.q (Wanted.on rfl rfl rfl hb311) rfl rfl (.s 0 rfl .nil) (q_move rfl).o <| WL.q (Wanted.on rfl rfl rfl hb311) rfl rfl (.s 8 rfl (.k .nil)) (q_int rfl rfl).o <| WL.p rfl rfl rfl (.s 7 rfl (.s 9 rfl .nil)) (q_pickT rfl hb311) <| WL.p rfl rfl rfl (.s 10 rfl .nil) (q_move rfl) ?_
   rcases bif_s h with ⟨hb312, h⟩ | ⟨hb312, h⟩
   ·refine WL.q (Wanted.on rfl rfl rfl hb312) rfl rfl (.s 1 rfl .nil) (q_move rfl).o <| WL.q (Wanted.on rfl rfl rfl hb312) rfl rfl (.s 12 rfl (.k .nil)) (q_int rfl rfl).o <| WL.q (Wanted.on rfl rfl rfl hb312) rfl rfl (.s 13 rfl .nil) (q_move rfl).o ?_
    rcases bif_s h with ⟨hb313, h⟩ | ⟨hb313, h⟩
    ·refine WL.skip (Unwanted.on rfl rfl rfl hb313) rfl rfl <| WL.skip (Unwanted.on rfl rfl rfl hb313) rfl rfl <| WL.skip (Unwanted.on rfl rfl rfl hb313) rfl rfl <| WL.skip (Unwanted.on rfl rfl rfl hb313) rfl rfl <| WL.skip (Unwanted.und rfl rfl rfl) rfl rfl <| WL.skip (Unwanted.und rfl rfl rfl) rfl rfl <| WL.skip (Unwanted.on rfl rfl rfl hb313) rfl rfl <| WL.q (Wanted.on rfl rfl rfl hb312) rfl rfl (.s 14 rfl (.k .nil)) (q_pickT rfl hb313).o <| WL.p rfl rfl rfl (.s 11 rfl (.s 22 rfl .nil)) (q_pickT rfl hb312) <| WL.p rfl rfl rfl (.s 23 rfl .nil) (q_assign rfl) <| WL.nil ?_
     exact QN.weaken (.one rfl (.nil _)) (Kj310 () true h)
    ·refine WL.q (Wanted.on rfl rfl rfl hb313) rfl rfl (.s 1 rfl .nil) (q_move rfl).o <| WL.q (Wanted.on rfl rfl rfl hb313) rfl rfl (.s 0 rfl .nil) (q_move rfl).o <| WL.q (Wanted.on rfl rfl rfl hb313) rfl rfl (.s 15 rfl (.s 16 rfl .nil)) (q_int rfl rfl).o <| WL.q (Wanted.on rfl rfl rfl hb313) rfl rfl (.s 17 rfl .nil) (q_move rfl).o ?_
     rcases bif_s h with ⟨hb314, h⟩ | ⟨hb314, h⟩
     ·refine WL.q (Wanted.on rfl rfl rfl hb314) rfl rfl (.s 1 rfl .nil) (q_move rfl).o <| WL.q (Wanted.on rfl rfl rfl hb314) rfl rfl (.s 19 rfl (.k .nil)) (q_int rfl rfl).o <| WL.q (Wanted.on rfl rfl rfl hb313) rfl rfl (.s 18 rfl (.s 20 rfl .nil)) (q_pickT rfl hb314).o <| WL.q (Wanted.on rfl rfl rfl hb312) rfl rfl (.s 14 rfl (.s 21 rfl .nil)) (q_pickF rfl hb313).o <| WL.p rfl rfl rfl (.s 11 rfl (.s 22 rfl .nil)) (q_pickT rfl hb312) <| WL.p rfl rfl rfl (.s 23 rfl .nil) (q_assign rfl) <| WL.nil ?_
      exact QN.weaken (.one rfl (.nil _)) (Kj310 () (decide (a1 ≤ 40)) h)
     ·refine WL.skip (Unwanted.on rfl rfl rfl hb314) rfl rfl <| WL.skip (Unwanted.on rfl rfl rfl hb314) rfl rfl <| WL.q (Wanted.on rfl rfl rfl hb313) rfl rfl (.s 18 rfl (.k .nil)) (q_pickF rfl hb314).o <| WL.q (Wanted.on rfl rfl rfl hb312) rfl rfl (.s 14 rfl (.s 21 rfl .nil)) (q_pickF rfl hb313).o <| WL.p rfl rfl rfl (.s 11 rfl (.s 22 rfl .nil)) (q_pickT rfl hb312) <| WL.p rfl rfl rfl (.s 23 rfl .nil) (q_assign rfl) <| WL.nil ?_
      exact QN.weaken (.one rfl (.nil _)) (Kj310 () false h)
   ·refine WL.skip (Unwanted.on rfl rfl rfl hb312) rfl rfl <| WL.skip (Unwanted.on rfl rfl rfl hb312) rfl rfl <| WL.skip (Unwanted.on rfl rfl rfl hb312) rfl rfl <| WL.skip (Unwanted.und rfl rfl rfl) rfl rfl <| WL.skip (Unwanted.und rfl rfl rfl) rfl rfl <| WL.skip (Unwanted.und rfl rfl rfl) rfl rfl <| WL.skip (Unwanted.und rfl rfl rfl) rfl rfl <| WL.skip (Unwanted.und rfl rfl rfl) rfl rfl <| WL.skip (Unwanted.und rfl rfl rfl) rfl rfl <| WL.skip (Unwanted.und rfl rfl rfl) rfl rfl <| WL.skip (Unwanted.on rfl rfl rfl hb312) rfl rfl <| WL.p rfl rfl rfl (.s 11 rfl (.k .nil)) (q_pickF rfl hb312) <| WL.p rfl rfl rfl (.s 23 rfl .nil) (q_assign rfl) ?_
    refine WL.nil ?_
    exact QN.weaken (.one rfl (.nil _)) (Kj310 () false h)
  ·refine WL.skip (Unwanted.on rfl rfl rfl hb311) rfl rfl <| WL.skip (Unwanted.on rfl rfl rfl hb311) rfl rfl <| WL.p rfl rfl rfl (.s 7 rfl (.k .nil)) (q_pickF rfl hb311) <| WL.p rfl rfl rfl (.s 10 rfl .nil) (q_move rfl) <| WL.skip (Unwanted.on rfl rfl rfl rfl) rfl rfl <| WL.skip (Unwanted.on rfl rfl rfl rfl) rfl rfl <| WL.skip (Unwanted.on rfl rfl rfl rfl) rfl rfl <| WL.skip (Unwanted.und rfl rfl rfl) rfl rfl <| WL.skip (Unwanted.und rfl rfl rfl) rfl rfl <| WL.skip (Unwanted.und rfl rfl rfl) rfl rfl <| WL.skip (Unwanted.und rfl rfl rfl) rfl rfl <| WL.skip (Unwanted.und rfl rfl rfl) rfl rfl <| WL.skip (Unwanted.und rfl rfl rfl) rfl rfl ?_
   refine WL.skip (Unwanted.und rfl rfl rfl) rfl rfl <| WL.skip (Unwanted.on rfl rfl rfl rfl) rfl rfl <| WL.p rfl rfl rfl (.s 11 rfl (.k .nil)) (q_pickF rfl rfl) <| WL.p rfl rfl rfl (.s 23 rfl .nil) (q_assign rfl) <| WL.nil ?_
   exact QN.weaken (.one rfl (.nil _)) (Kj310 () false h)
theorem types_edge.con (k : Nat) (a0 : Types) (a1 : Int) (r : Int) (h : types_edge k a0 a1 = some r) : Con Tryz.prog 77 [] [AggA [SlcA kNodeType a0.fNodes, SlcA kEdgeType a0.fEdges], EqA (.int .i64 a1)] (RA (EqA (.int .i64 r))) := by
 unfold types_edge at h
 refine Con.of (N := 52) Tryz.func77 rfl rfl rfl fun w0_ fg_ => W.seq <| W.region <| WL.p rfl rfl rfl (.s 0 rfl .nil) (q_box rfl (CellsOf.agg _)) <| WL.p rfl rfl rfl (.k .nil) (q_assign rfl) <| WL.nil <| QN.then_ <| W.seq <| W.region <| WL.p rfl rfl rfl (.s 2 rfl .nil) (q_field rfl fo25_1 rfl) <| WL.p rfl rfl rfl (.s 7 rfl .nil) (q_load rfl sh23) <| WL.p rfl rfl rfl (.s 1 rfl .nil) (q_move rfl) ?_
 obtain ⟨c315, h⟩ := ite_n h
 refine WL.p rfl rfl rfl (.s 8 rfl (.s 9 rfl .nil)) (q_index rfl el23 rfl c315.1 c315.2) <| WL.p rfl rfl rfl (.s 10 rfl .nil) (q_loadS rfl sh96 (leB rfl) rfl) <| WL.w [] rfl (Wanted.plain rfl) rfl rfl .nil (w_alloc rfl z96 (l := [EqA (strV ([] : Str)), EqA (.int .i64 0), EqA (.int .i64 0), EqA (.int .i64 0), EqA (.int .i64 0), EqA (.int .i64 0), EqA (.int .i64 0)]) rfl) ?_
 rintro _ _ ⟨b316, rfl, rfl⟩
 refine WL.w0 [0] rfl (Wanted.plain rfl) rfl (.s 5 rfl (.s 11 rfl .nil)) (w_store (L := [EqA (strV ((rd a0.fEdges a1).fName)), EqA (.int .i64 ((rd a0.fEdges a1).fFrom)), EqA (.int .i64 ((rd a0.fEdges a1).fTo)), EqA (.int .i64 ((rd a0.fEdges a1).fOutLow)), EqA (.int .i64 ((rd a0.fEdges a1).fOutHigh)), EqA (.int .i64 ((rd a0.fEdges a1).fInLow)), EqA (.int .i64 ((rd a0.fEdges a1).fInHigh))]) rfl sh96 (CellsOf.agg _) rfl rfl (leB rfl) rfl) ?_
 rintro _ _ ⟨rfl, rfl⟩
 refine WL.nil <| QN.to (StTo.still [0] 5 rfl rfl) <| QN.weaken (env' := [(5, _), (2, _), (1, _)]) (.one rfl (.one rfl (.one rfl (.nil _)))) <| QN.then_ <| W.seq <| W.region <| WL.p rfl rfl rfl (.s 2 rfl .nil) (q_makeFunc (xs := [.tmp 2]) (L := [PtrA [SlcA kNodeType a0.fNodes, SlcA kEdgeType a0.fEdges]]) («as» := fun (x : Int) => [EqA (.int .i64 x)]) (res := fun (y : Bool) => EqA (.bool y)) (p := (fun x => types_edge_1 k x a0)) rfl ca108 rfl (fun x y hp => (types_edge_1.con k x a0 y hp))) <| WL.p rfl rfl rfl (.s 12 rfl .nil) (q_assign rfl) <| WL.nil <| QN.then_ <| W.seq <| W.block <| W.seq ?_
 refine W.region <| WL.p rfl rfl rfl (.s 5 rfl .nil) (q_field rfl fo96_0 rfl) <| WL.p rfl rfl rfl (.s 14 rfl .nil) (q_load rfl sh9) ?_
 obtain ⟨t317, ht317, h⟩ := bind_s h
 refine WL.p rfl rfl rfl (.s 15 rfl .nil) (q_call (f := 103) (A := EqA (.bool t317)) (xs := [.tmp 15]) («as» := [EqA (strV ((rd a0.fEdges a1).fName))]) rfl ca103 (token_IsName.con k ((rd a0.fEdges a1).fName) t317 ht317) rfl) <| WL.p rfl rfl rfl (.s 16 rfl .nil) (q_not rfl) <| WL.p rfl rfl rfl (.s 17 rfl .nil) (q_assign rfl) <| WL.nil <| QN.then_ ?_
 refine W.condP h rfl (fun hb318 h => ?_) (fun hb318 h => ?_)
 ·refine W.seq <| W.region <| WL.p rfl rfl rfl (.k .nil) (q_assign rfl) <| WL.nil <| QN.weaken (env' := [(4, _)]) (.one rfl (.nil _)) <| QN.then_ <| W.ret <| QR.block <| QR.then_ ?_
  cases h
  exact QR.f1 rfl rfl (.t rfl) (.id _)
 ·refine W.seq <| W.region <| WL.p rfl rfl rfl (.s 2 rfl .nil) (q_field rfl fo25_1 rfl) <| WL.p rfl rfl rfl (.s 19 rfl .nil) (q_load rfl sh23) <| WL.p rfl rfl rfl (.s 1 rfl .nil) (q_move rfl) ?_
  obtain ⟨c319, h⟩ := ite_n h
  refine WL.p rfl rfl rfl (.s 20 rfl (.s 21 rfl .nil)) (q_subH rfl el23 rfl c319.1 c319.2) <| WL.p rfl rfl rfl (.s 5 rfl .nil) (q_makeFunc (xs := [.tmp 5]) (L := [PtrA [EqA (strV ((rd a0.fEdges a1).fName)), EqA (.int .i64 ((rd a0.fEdges a1).fFrom)), EqA (.int .i64 ((rd a0.fEdges a1).fTo)), EqA (.int .i64 ((rd a0.fEdges a1).fOutLow)), EqA (.int .i64 ((rd a0.fEdges a1).fOutHigh)), EqA (.int .i64 ((rd a0.fEdges a1).fInLow)), EqA (.int .i64 ((rd a0.fEdges a1).fInHigh))]]) («as» := fun (x : EdgeType) => [AggA [EqA (strV x.fName), EqA (.int .i64 x.fFrom), EqA (.int .i64 x.fTo), EqA (.int .i64 x.fOutLow), EqA (.int .i64 x.fOutHigh), EqA (.int .i64 x.fInLow), EqA (.int .i64 x.fInHigh)]]) (res := fun (y : Bool) => EqA (.bool y)) (p := (fun x => types_edge_2 k x (rd a0.fEdges a1))) rfl ca110 rfl (fun x y hp => (types_edge_2.con k x (rd a0.fEdges a1) y hp))) ?_
  obtain ⟨t320, ht320, h⟩ := bind_s h
  refine WL.p rfl rfl rfl (.s 22 rfl (.s 23 rfl .nil)) (q_call (f := 109) (A := EqA (.bool t320)) (xs := [.tmp 22, .tmp 23]) («as» := [SlcA kEdgeType (a0.fEdges.take (a1 : Int).toNat), FnA Tryz.prog (fun (x : EdgeType) => [AggA [EqA (strV x.fName), EqA (.int .i64 x.fFrom), EqA (.int .i64 x.fTo), EqA (.int .i64 x.fOutLow), EqA (.int .i64 x.fOutHigh), EqA (.int .i64 x.fInLow), EqA (.int .i64 x.fInHigh)]]) (fun (y : Bool) => EqA (.bool y)) (fun x => types_edge_2 k x (rd a0.fEdges a1))]) rfl ca109 (slices_ContainsFunc_EdgeType.con k (a0.fEdges.take (a1 : Int).toNat) (fun x => types_edge_2 k x (rd a0.fEdges a1)) t320 ht320) rfl) <| WL.p rfl rfl rfl (.s 24 rfl .nil) (q_assign rfl) <| WL.nil <| QN.weaken (env' := [(18, _), (6, _), (5, _)]) (.one rfl (.one rfl (.one rfl (.nil _)))) <| QN.then_ ?_
  refine W.condP h rfl (fun hb321 h => ?_) (fun hb321 h => ?_)
  ·refine W.seq <| W.region <| WL.p rfl rfl rfl (.k .nil) (q_assign rfl) <| WL.nil <| QN.then_ <| W.ret <| QR.block <| QR.then_ ?_
   cases h
   exact QR.f1 rfl rfl (.t rfl) (.id _)
  ·refine W.seq <| W.seq ?_
   refine W.jn1 (Γ := Unit) (fun (_ : Unit) (x25 : Bool) => [(5, PtrA [EqA (strV ((rd a0.fEdges a1).fName)), EqA (.int .i64 ((rd a0.fEdges a1).fFrom)), EqA (.int .i64 ((rd a0.fEdges a1).fTo)), EqA (.int .i64 ((rd a0.fEdges a1).fOutLow)), EqA (.int .i64 ((rd a0.fEdges a1).fOutHigh)), EqA (.int .i64 ((rd a0.fEdges a1).fInLow)), EqA (.int .i64 ((rd a0.fEdges a1).fInHigh))]), (25, EqA (.bool x25))]) (fun (_ : Unit) (_ : Bool) => []) h (fun _ x25 h => ?_) (fun j326 Kj326 h => ?_)
   ·refine QN.then_ ?_
    refine W.condP h rfl (fun hb336 h => ?_) (fun hb336 h => ?_)
    ·refine W.skip <| QN.then_ <| W.condT rfl hb336 <| W.seq <| W.region <| WL.p rfl rfl rfl (.k .nil) (q_assign rfl) <| WL.nil <| QN.then_ <| W.ret <| QR.block <| QR.then_ ?_
     cases h
     exact QR.f1 rfl rfl (.t rfl) (.id _)
    ·refine W.jn1 (Γ := Unit) (fun (_ : Unit) (x25' : Bool) => [(25, EqA (.bool x25'))]) (fun (_ : Unit) (_ : Bool) => []) h (fun _ x25' h => ?_) (fun j341 Kj341 h => ?_)
     ·refine QN.then_ ?_
      refine W.condP h rfl (fun hb342 h => ?_) (fun hb342 h => ?_)
      ·refine W.seq <| W.region <| WL.p rfl rfl rfl (.k .nil) (q_assign rfl) <| WL.nil <| QN.then_ <| W.ret <| QR.block <| QR.then_ ?_
       cases h
       exact QR.f1 rfl rfl (.t rfl) (.id _)
      ·refine W.skip <| QN.block <| QN.then_ <| W.seq <| W.region <| WL.p rfl rfl rfl (.k .nil) (q_assign rfl) <| WL.nil <| QN.then_ <| W.ret ?_
       cases h
       exact QR.f1 rfl rfl (.t rfl) (.id _)
     ·refine W.region <| WL.p rfl rfl rfl (.s 5 rfl .nil) (q_field rfl fo96_3 rfl) <| WL.p rfl rfl rfl (.s 38 rfl .nil) (q_load rfl sh3) <| WL.p rfl rfl rfl (.s 5 rfl .nil) (q_field rfl fo96_4 rfl) <| WL.p rfl rfl rfl (.s 40 rfl .nil) (q_load rfl sh3) ?_
      obtain ⟨t343, ht343, h⟩ := bind_s h
      refine WL.p rfl rfl rfl (.s 39 rfl (.s 41 rfl .nil)) (q_call (f := 111) (A := EqA (.bool t343)) (xs := [.tmp 39, .tmp 41]) («as» := [EqA (.int .i64 ((rd a0.fEdges a1).fOutLow)), EqA (.int .i64 ((rd a0.fEdges a1).fOutHigh))]) rfl ca111 (types_bounded.con k ((rd a0.fEdges a1).fOutLow) ((rd a0.fEdges a1).fOutHigh) t343 ht343) rfl) <| WL.p rfl rfl rfl (.s 42 rfl .nil) (q_not rfl) <| WL.p rfl rfl rfl (.s 43 rfl .nil) (q_move rfl) ?_
      rcases bif_s h with ⟨hb344, h⟩ | ⟨hb344, h⟩
      ·refine WL.skip (Unwanted.on rfl rfl rfl hb344) rfl rfl <| WL.skip (Unwanted.on rfl rfl rfl hb344) rfl rfl <| WL.skip (Unwanted.on rfl rfl rfl hb344) rfl rfl <| WL.skip (Unwanted.on rfl rfl rfl hb344) rfl rfl <| WL.skip (Unwanted.on rfl rfl rfl hb344) rfl rfl <| WL.skip (Unwanted.on rfl rfl rfl hb344) rfl rfl <| WL.p rfl rfl rfl (.s 44 rfl (.k .nil)) (q_pickT rfl hb344) <| WL.p rfl rfl rfl (.s 51 rfl .nil) (q_assign rfl) <| WL.nil ?_
       exact QN.weaken (.one rfl (.nil _)) (Kj341 () true h)
      ·refine WL.q (Wanted.on rfl rfl rfl hb344) rfl rfl (.s 5 rfl .nil) (q_field rfl fo96_5 rfl).o <| WL.q (Wanted.on rfl rfl rfl hb344) rfl rfl (.s 45 rfl .nil) (q_load rfl sh3).o <| WL.q (Wanted.on rfl rfl rfl hb344) rfl rfl (.s 5 rfl .nil) (q_field rfl fo96_6 rfl).o <| WL.q (Wanted.on rfl rfl rfl hb344) rfl rfl (.s 47 rfl .nil) (q_load rfl sh3).o ?_
       obtain ⟨t345, ht345, h⟩ := bind_s h
       refine WL.q (Wanted.on rfl rfl rfl hb344) rfl rfl (.s 46 rfl (.s 48 rfl .nil)) (q_call (f := 111) (A := EqA (.bool t345)) (xs := [.tmp 46, .tmp 48]) («as» := [EqA (.int .i64 ((rd a0.fEdges a1).fInLow)), EqA (.int .i64 ((rd a0.fEdges a1).fInHigh))]) rfl ca111 (types_bounded.con k ((rd a0.fEdges a1).fInLow) ((rd a0.fEdges a1).fInHigh) t345 ht345) rfl).o <| WL.q (Wanted.on rfl rfl rfl hb344) rfl rfl (.s 49 rfl .nil) (q_not rfl).o <| WL.p rfl rfl rfl (.s 44 rfl (.s 50 rfl .nil)) (q_pickF rfl hb344) <| WL.p rfl rfl rfl (.s 51 rfl .nil) (q_assign rfl) <| WL.nil ?_
       exact QN.weaken (.one rfl (.nil _)) (Kj341 () (!t345) h)
   ·refine W.region <| WL.p rfl rfl rfl (.s 6 rfl .nil) (q_move rfl) <| WL.p rfl rfl rfl (.s 5 rfl .nil) (q_field rfl fo96_1 rfl) <| WL.p rfl rfl rfl (.s 27 rfl .nil) (q_load rfl sh3) ?_
    obtain ⟨t346, ht346, h⟩ := bind_s h
    refine WL.p rfl rfl rfl (.s 26 rfl (.s 28 rfl .nil)) (q_callV («as» := fun (x : Int) => [EqA (.int .i64 x)]) (res := fun (y : Bool) => EqA (.bool y)) (x := (rd a0.fEdges a1).fFrom) (y := t346) (xs := [.tmp 28]) rfl ht346 rfl) <| WL.p rfl rfl rfl (.s 29 rfl .nil) (q_not rfl) <| WL.p rfl rfl rfl (.s 30 rfl .nil) (q_move rfl) ?_
    rcases bif_s h with ⟨hb347, h⟩ | ⟨hb347, h⟩
    ·refine WL.skip (Unwanted.on rfl rfl rfl hb347) rfl rfl <| WL.skip (Unwanted.on rfl rfl rfl hb347) rfl rfl <| WL.skip (Unwanted.on rfl rfl rfl hb347) rfl rfl <| WL.skip (Unwanted.on rfl rfl rfl hb347) rfl rfl <| WL.skip (Unwanted.on rfl rfl rfl hb347) rfl rfl <| WL.p rfl rfl rfl (.s 31 rfl (.k .nil)) (q_pickT rfl hb347) <| WL.p rfl rfl rfl (.s 37 rfl .nil) (q_assign rfl) <| WL.nil ?_
     exact QN.weaken (.one rfl (.one rfl (.nil _))) (Kj326 () true h)
    ·refine WL.q (Wanted.on rfl rfl rfl hb347) rfl rfl (.s 6 rfl .nil) (q_move rfl).o <| WL.q (Wanted.on rfl rfl rfl hb347) rfl rfl (.s 5 rfl .nil) (q_field rfl fo96_2 rfl).o <| WL.q (Wanted.on rfl rfl rfl hb347) rfl rfl (.s 33 rfl .nil) (q_load rfl sh3).o ?_
     obtain ⟨t348, ht348, h⟩ := bind_s h
     refine WL.q (Wanted.on rfl rfl rfl hb347) rfl rfl (.s 32 rfl (.s 34 rfl .nil)) (q_callV («as» := fun (x : Int) => [EqA (.int .i64 x)]) (res := fun (y : Bool) => EqA (.bool y)) (x := (rd a0.fEdges a1).fTo) (y := t348) (xs := [.tmp 34]) rfl ht348 rfl).o <| WL.q (Wanted.on rfl rfl rfl hb347) rfl rfl (.s 35 rfl .nil) (q_not rfl).o <| WL.p rfl rfl rfl (.s 31 rfl (.s 36 rfl .nil)) (q_pickF rfl hb347) <| WL.p rfl rfl rfl (.s 37 rfl .nil) (q_assign rfl) <| WL.nil ?_
     exact QN.weaken (.one rfl (.one rfl (.nil _))) (Kj326 () (!t348) h)
end Go.Proofs.YtelpgjfojhcjcaaGreat
