/- The Go functions compute the pure ones. (Printed by gen.py.) -/
import Derived.Test.YtelpgjfojhcjcaaGreatC2
namespace Go.Proofs.YtelpgjfojhcjcaaGreat
open Go Go.Abs
attribute [local irreducible] Tryz.prog
theorem token_whole.con (k : Nat) (a0 : Token) (r : (Str × Bool)) (h : token_whole k a0 = some r) : Con Tryz.prog 121 [] [AggA [EqA (.int .i64 a0.fKind), EqA (strV a0.fText), EqA (.int .i64 a0.fLine)]] (RA (TupA [EqA (strV r.1), EqA (.bool r.2)])) := by
 unfold token_whole at h
 refine Con.of (N := 39) Tryz.func121 rfl rfl rfl fun w0_ fg_ => W.seq <| W.region <| WL.p rfl rfl rfl (.s 0 rfl .nil) (q_box rfl (CellsOf.agg _)) <| WL.p rfl rfl rfl (.k .nil) (q_assign rfl) <| WL.p rfl rfl rfl (.k .nil) (q_assign rfl) <| WL.nil <| QN.then_ <| W.seq <| W.region <| WL.p rfl rfl rfl (.s 1 rfl .nil) (q_field rfl fo150_1 rfl) <| WL.p rfl rfl rfl (.s 8 rfl .nil) (q_load rfl sh9) <| WL.p rfl rfl rfl (.s 9 rfl .nil) (q_assign rfl) ?_
 refine WL.nil <| QN.then_ <| W.seq <| W.seq <| W.region <| WL.p rfl rfl rfl (.s 1 rfl .nil) (q_field rfl fo150_0 rfl) <| WL.p rfl rfl rfl (.s 10 rfl .nil) (q_load rfl sh3) <| WL.p rfl rfl rfl (.s 11 rfl (.k .nil)) (q_int rfl rfl) <| WL.nil <| QN.weaken (env' := [(12, _), (4, _), (1, _)]) (.one rfl (.one rfl (.one rfl (.nil _)))) <| QN.then_ ?_
 refine W.jn1 (Γ := Unit) (fun (_ : Unit) (x4 : Str) => [(1, PtrA [EqA (.int .i64 a0.fKind), EqA (strV a0.fText), EqA (.int .i64 a0.fLine)]), (4, EqA (strV x4))]) (fun (_ : Unit) (_ : Str) => []) h (fun _ x4 h => ?_) (fun j3207 Kj3207 h => ?_)
 ·refine QN.then_ <| W.seq <| W.seq <| W.region <| WL.p rfl rfl rfl (.s 4 rfl .nil) (q_move rfl) <| WL.p rfl rfl rfl (.s 16 rfl (.k .nil)) (q_str (s := x4) (t := ([] : Str)) rfl) <| WL.nil <| QN.then_ ?_
  refine W.condP h rfl (fun hb3208 h => ?_) (fun hb3208 h => ?_)
  ·refine W.seq <| W.region <| WL.p rfl rfl rfl (.k .nil) (q_assign rfl) <| WL.p rfl rfl rfl (.k .nil) (q_assign rfl) <| WL.nil <| QN.then_ <| W.ret <| QR.then_ ?_
   cases h
   exact QR.f2 rfl rfl (.t rfl) (.t rfl) (.id _)
  ·refine W.skip <| QN.then_ <| W.seq <| W.region <| WL.p rfl rfl rfl (.s 4 rfl .nil) (q_move rfl) ?_
   obtain ⟨t3209, ht3209, h⟩ := bind_s h
   refine WL.p rfl rfl rfl (.s 19 rfl .nil) (q_call (f := 142) (A := TupA [EqA (.int .i64 t3209.1), EqA (.int .i64 t3209.2.1), EqA (.int .i64 t3209.2.2)]) (xs := [.tmp 19]) («as» := [EqA (strV x4)]) rfl ca142 (token_next.con k x4 t3209 ht3209) rfl) <| WL.p rfl rfl rfl (.s 20 rfl .nil) (q_move rfl) <| WL.p rfl rfl rfl (.s 18 rfl .nil) (q_extract rfl rfl) <| WL.p rfl rfl rfl (.s 18 rfl .nil) (q_extract rfl rfl) <| WL.p rfl rfl rfl (.s 18 rfl .nil) (q_extract rfl rfl) <| WL.p rfl rfl rfl (.s 21 rfl .nil) (q_assign rfl) <| WL.p rfl rfl rfl (.s 22 rfl .nil) (q_assign rfl) <| WL.p rfl rfl rfl (.s 23 rfl .nil) (q_assign rfl) <| WL.nil <| QN.weaken (env' := [(7, _), (6, _), (5, _), (4, _), (1, _)]) (.one rfl (.one rfl (.one rfl (.one rfl (.one rfl (.nil _)))))) <| QN.then_ <| W.seq ?_
   refine W.jn1 (Γ := Unit) (fun (_ : Unit) (x3 : Bool) => [(2, EqA (strV x4)), (3, EqA (.bool x3))]) (fun (_ : Unit) (_ : Bool) => []) h (fun _ x3 h => ?_) (fun j3213 Kj3213 h => ?_)
   ·refine QN.then_ <| W.ret ?_
    cases h
    exact QR.f2 rfl rfl (.t rfl) (.t rfl) (.id _)
   ·refine W.region <| WL.p rfl rfl rfl (.s 4 rfl .nil) (q_move rfl) <| WL.p rfl rfl rfl (.s 7 rfl .nil) (q_move rfl) <| WL.p rfl rfl rfl (.s 25 rfl (.k .nil)) (q_int rfl rfl) <| WL.p rfl rfl rfl (.s 26 rfl .nil) (q_move rfl) ?_
    rcases bif_s h with ⟨hb3214, h⟩ | ⟨hb3214, h⟩
    ·refine WL.q (Wanted.on rfl rfl rfl hb3214) rfl rfl (.s 5 rfl .nil) (q_move rfl).o <| WL.q (Wanted.on rfl rfl rfl hb3214) rfl rfl (.s 1 rfl .nil) (q_field rfl fo150_0 rfl).o <| WL.q (Wanted.on rfl rfl rfl hb3214) rfl rfl (.s 29 rfl .nil) (q_load rfl sh3).o <| WL.q (Wanted.on rfl rfl rfl hb3214) rfl rfl (.s 28 rfl (.s 30 rfl .nil)) (q_int rfl rfl).o <| WL.p rfl rfl rfl (.s 27 rfl (.s 31 rfl .nil)) (q_pickT rfl hb3214) <| WL.p rfl rfl rfl (.s 32 rfl .nil) (q_move rfl) ?_
     rcases bif_s h with ⟨hb3215, h⟩ | ⟨hb3215, h⟩
     ·refine WL.q (Wanted.on rfl rfl rfl hb3215) rfl rfl (.s 6 rfl .nil) (q_move rfl).o <| WL.q (Wanted.on rfl rfl rfl hb3215) rfl rfl (.s 4 rfl .nil) (q_move rfl).o <| WL.q (Wanted.on rfl rfl rfl hb3215) rfl rfl (.s 35 rfl .nil) (q_slen (s := x4) rfl iss9).o <| WL.q (Wanted.on rfl rfl rfl hb3215) rfl rfl (.s 34 rfl (.s 36 rfl .nil)) (q_int rfl rfl).o <| WL.p rfl rfl rfl (.s 33 rfl (.s 37 rfl .nil)) (q_pickT rfl hb3215) <| WL.p rfl rfl rfl (.s 24 rfl .nil) (q_assign rfl) <| WL.p rfl rfl rfl (.s 38 rfl .nil) (q_assign rfl) <| WL.nil ?_
      exact QN.weaken (.one rfl (.one rfl (.nil _))) (Kj3213 () (t3209.2.1 == (x4.length : Int)) h)
     ·refine WL.skip (Unwanted.on rfl rfl rfl hb3215) rfl rfl <| WL.skip (Unwanted.on rfl rfl rfl hb3215) rfl rfl <| WL.skip (Unwanted.on rfl rfl rfl hb3215) rfl rfl <| WL.skip (Unwanted.on rfl rfl rfl hb3215) rfl rfl <| WL.p rfl rfl rfl (.s 33 rfl (.k .nil)) (q_pickF rfl hb3215) <| WL.p rfl rfl rfl (.s 24 rfl .nil) (q_assign rfl) <| WL.p rfl rfl rfl (.s 38 rfl .nil) (q_assign rfl) <| WL.nil ?_
      exact QN.weaken (.one rfl (.one rfl (.nil _))) (Kj3213 () false h)
    ·refine WL.skip (Unwanted.on rfl rfl rfl hb3214) rfl rfl <| WL.skip (Unwanted.on rfl rfl rfl hb3214) rfl rfl <| WL.skip (Unwanted.on rfl rfl rfl hb3214) rfl rfl <| WL.skip (Unwanted.on rfl rfl rfl hb3214) rfl rfl <| WL.p rfl rfl rfl (.s 27 rfl (.k .nil)) (q_pickF rfl hb3214) <| WL.p rfl rfl rfl (.s 32 rfl .nil) (q_move rfl) <| WL.skip (Unwanted.on rfl rfl rfl rfl) rfl rfl <| WL.skip (Unwanted.on rfl rfl rfl rfl) rfl rfl <| WL.skip (Unwanted.on rfl rfl rfl rfl) rfl rfl <| WL.skip (Unwanted.on rfl rfl rfl rfl) rfl rfl <| WL.p rfl rfl rfl (.s 33 rfl (.k .nil)) (q_pickF rfl rfl) <| WL.p rfl rfl rfl (.s 24 rfl .nil) (q_assign rfl) <| WL.p rfl rfl rfl (.s 38 rfl .nil) (q_assign rfl) ?_
     refine WL.nil ?_
     exact QN.weaken (.one rfl (.one rfl (.nil _))) (Kj3213 () false h)
 ·refine W.condP h rfl (fun hb3216 h => ?_) (fun hb3216 h => ?_)
  ·refine W.region <| WL.p rfl rfl rfl (.s 4 rfl .nil) (q_move rfl) ?_
   obtain ⟨c3217, h⟩ := ite_n h
   refine WL.p rfl rfl rfl (.k (.s 13 rfl .nil)) (q_sadd (s := ([34] : Str)) (t := a0.fText) rfl c3217) ?_
   obtain ⟨c3218, h⟩ := ite_n h
   refine WL.p rfl rfl rfl (.s 14 rfl (.k .nil)) (q_sadd (s := (([34] : Str) ++ a0.fText)) (t := ([34] : Str)) rfl c3218) <| WL.p rfl rfl rfl (.s 15 rfl .nil) (q_assign rfl) <| WL.nil ?_
   exact QN.weaken (.one rfl (.one rfl (.nil _))) (Kj3207 () ((([34] : Str) ++ a0.fText) ++ ([34] : Str)) h)
  ·refine W.skip ?_
   exact QN.weaken (.one rfl (.one rfl (.nil _))) (Kj3207 () a0.fText h)
theorem token_IsName.con (k : Nat) (a0 : Str) (r : Bool) (h : token_IsName k a0 = some r) : Con Tryz.prog 103 [] [EqA (strV a0)] (RA (EqA (.bool r))) := by
 unfold token_IsName at h
 refine Con.of (N := 12) Tryz.func103 rfl rfl rfl fun w0_ fg_ => W.seq <| W.region <| WL.p rfl rfl rfl (.k .nil) (q_assign rfl) <| WL.nil <| QN.then_ <| W.seq <| W.region <| WL.p rfl rfl rfl (.s 0 rfl .nil) (q_move rfl) <| WL.p rfl rfl rfl (.k (.s 6 rfl .nil)) (q_build (is := [0, 1]) (xs := [.const (.int .i64 1), .tmp 6]) (L := [EqA (.int .i64 1), EqA (strV a0), EqA (.int .i64 0)]) rfl rfl z150 pl150 rfl rfl (.cons (CellsOf.one rfl) (.cons (CellsOf.one rfl) .nil)) rfl) ?_
 obtain ⟨t3219, ht3219, h⟩ := bind_s h
 refine WL.p rfl rfl rfl (.s 7 rfl .nil) (q_call (f := 121) (A := TupA [EqA (strV t3219.1), EqA (.bool t3219.2)]) (xs := [.tmp 7]) («as» := [AggA [EqA (.int .i64 1), EqA (strV a0), EqA (.int .i64 0)]]) rfl ca121 (token_whole.con k (Token.mk 1 a0 0) t3219 ht3219) rfl) <| WL.p rfl rfl rfl (.s 8 rfl .nil) (q_move rfl) <| WL.p rfl rfl rfl (.s 5 rfl .nil) (q_extract rfl rfl) <| WL.p rfl rfl rfl (.s 5 rfl .nil) (q_extract rfl rfl) <| WL.p rfl rfl rfl (.s 9 rfl .nil) (q_assign rfl) <| WL.p rfl rfl rfl (.s 10 rfl .nil) (q_assign rfl) <| WL.nil <| QN.weaken (env' := [(4, _)]) (.one rfl (.nil _)) <| QN.then_ <| W.seq <| W.region <| WL.p rfl rfl rfl (.s 4 rfl .nil) (q_move rfl) <| WL.p rfl rfl rfl (.s 11 rfl .nil) (q_assign rfl) ?_
 refine WL.nil <| QN.then_ <| W.ret ?_
 cases h
 exact QR.f1 rfl rfl (.t rfl) (.id _)
theorem types_node_1.con (k : Nat) (a0 : NodeType) (a1 : NodeType) (r : Bool) (h : types_node_1 k a0 a1 = some r) : Con Tryz.prog 105 [] [AggA [EqA (strV a0.fName), EqA (.int .i64 a0.fParent), EqA (.bool a0.fAbstract), SlcA kAttr a0.fAttrs], PtrA [EqA (strV a1.fName), EqA (.int .i64 a1.fParent), EqA (.bool a1.fAbstract), SlcA kAttr a1.fAttrs]] (RA (EqA (.bool r))) := by
 unfold types_node_1 at h
 refine Con.of (N := 9) Tryz.func105 rfl rfl rfl fun w0_ fg_ => W.seq <| W.region <| WL.p rfl rfl rfl (.s 0 rfl .nil) (q_box rfl (CellsOf.agg _)) <| WL.p rfl rfl rfl (.k .nil) (q_assign rfl) <| WL.nil <| QN.then_ <| W.seq <| W.region <| WL.p rfl rfl rfl (.s 2 rfl .nil) (q_field rfl fo94_0 rfl) <| WL.p rfl rfl rfl (.s 4 rfl .nil) (q_load rfl sh9) <| WL.p rfl rfl rfl (.s 1 rfl .nil) (q_field rfl fo94_0 rfl) <| WL.p rfl rfl rfl (.s 6 rfl .nil) (q_load rfl sh9) ?_
 refine WL.p rfl rfl rfl (.s 5 rfl (.s 7 rfl .nil)) (q_str (s := a0.fName) (t := a1.fName) rfl) <| WL.p rfl rfl rfl (.s 8 rfl .nil) (q_assign rfl) <| WL.nil <| QN.weaken (env' := [(3, _)]) (.one rfl (.nil _)) <| QN.then_ <| W.ret ?_
 cases h
 exact QR.f1 rfl rfl (.t rfl) (.id _)
theorem slices_IndexFunc_NodeType.con (k : Nat) (a0 : (List NodeType)) (a1 : (NodeType → Option Bool)) (r : Int) (h : slices_IndexFunc_NodeType k a0 a1 = some r) : Con Tryz.prog 122 [] [SlcA kNodeType a0, FnA Tryz.prog (fun (x : NodeType) => [AggA [EqA (strV x.fName), EqA (.int .i64 x.fParent), EqA (.bool x.fAbstract), SlcA kAttr x.fAttrs]]) (fun (y : Bool) => EqA (.bool y)) a1] (RA (EqA (.int .i64 r))) := by
 unfold slices_IndexFunc_NodeType at h
 refine Con.of (N := 19) Tryz.func122 rfl rfl rfl fun w0_ fg_ => W.seq <| W.region <| WL.p rfl rfl rfl (.k .nil) (q_assign rfl) <| WL.nil <| QN.then_ <| W.seq <| W.seq <| W.region <| WL.p rfl rfl rfl (.s 0 rfl .nil) (q_move rfl) <| WL.p rfl rfl rfl (.s 6 rfl .nil) (q_len rfl elS22) <| WL.p rfl rfl rfl (.k .nil) (q_move rfl) <| WL.nil ?_
 refine QN.then_ <| W.block ?_
 refine W.loop1 (Γ := Unit) (fun (_ : Unit) (x8 : Int) => [(0, SlcA kNodeType a0), (1, FnA Tryz.prog (fun (x : NodeType) => [AggA [EqA (strV x.fName), EqA (.int .i64 x.fParent), EqA (.bool x.fAbstract), SlcA kAttr x.fAttrs]]) (fun (y : Bool) => EqA (.bool y)) a1), (7, EqA (.int .i64 (a0.length : Int))), (8, EqA (.int .i64 x8))]) (fun (_ : Unit) (_ : Int) => []) h () (.one rfl (.one rfl (.one rfl (.one rfl (.nil _))))) rfl (fun rec0 K0 next0 _ x8 h => ?_)
 unfold slices_IndexFunc_NodeType.b0 at h
 refine W.seq <| W.region <| WL.p rfl rfl rfl (.s 8 rfl (.s 7 rfl .nil)) (q_int rfl rfl) <| WL.nil <| QN.then_ <| W.seq ?_
 refine W.condP h rfl (fun hb3230 h => ?_) (fun hb3230 h => ?_)
 ·refine W.skip <| QN.then_ <| W.seq <| W.block <| W.seq <| W.region <| WL.p rfl rfl rfl (.s 8 rfl .nil) (q_move rfl) <| WL.p rfl rfl rfl (.s 10 rfl .nil) (q_assign rfl) <| WL.nil <| QN.then_ <| W.seq <| W.region <| WL.p rfl rfl rfl (.s 1 rfl .nil) (q_move rfl) ?_
  refine WL.p rfl rfl rfl (.s 0 rfl .nil) (q_move rfl) <| WL.p rfl rfl rfl (.s 5 rfl .nil) (q_move rfl) ?_
  obtain ⟨c3231, h⟩ := ite_n h
  refine WL.p rfl rfl rfl (.s 12 rfl (.s 13 rfl .nil)) (q_index rfl el22 rfl c3231.1 c3231.2) <| WL.p rfl rfl rfl (.s 14 rfl .nil) (q_loadS rfl sh94 (leB rfl) rfl) ?_
  obtain ⟨t3232, ht3232, h⟩ := bind_s h
  refine WL.p rfl rfl rfl (.s 11 rfl (.s 15 rfl .nil)) (q_callV («as» := fun (x : NodeType) => [AggA [EqA (strV x.fName), EqA (.int .i64 x.fParent), EqA (.bool x.fAbstract), SlcA kAttr x.fAttrs]]) (res := fun (y : Bool) => EqA (.bool y)) (x := (rd a0 x8)) (y := t3232) (xs := [.tmp 15]) rfl ht3232 rfl) <| WL.nil <| QN.weaken (env' := [(16, _), (5, _), (8, _), (7, _), (1, _), (0, _)]) (.one rfl (.one rfl (.one rfl (.one rfl (.one rfl (.one rfl (.nil _))))))) <| QN.then_ ?_
  refine W.condP h rfl (fun hb3233 h => ?_) (fun hb3233 h => ?_)
  ·refine W.seq <| W.region <| WL.p rfl rfl rfl (.s 5 rfl .nil) (q_move rfl) <| WL.p rfl rfl rfl (.s 17 rfl .nil) (q_assign rfl) <| WL.nil <| QN.weaken (env' := [(4, _)]) (.one rfl (.nil _)) <| QN.then_ <| W.ret <| QR.block <| QR.then_ <| QR.then_ <| QR.block <| QR.then_ ?_
   cases h
   exact QR.f1 rfl rfl (.t rfl) (.id _)
  ·refine W.skip <| QN.block <| QN.then_ <| W.region ?_
   obtain ⟨c3234, h⟩ := ite_n h
   refine WL.p rfl rfl rfl (.s 8 rfl (.k .nil)) (q_addR rfl c3234) <| WL.p rfl rfl rfl (.s 18 rfl .nil) (q_move rfl) <| WL.nil ?_
   exact next0 () (x8 + 1) _ h (.one rfl (.one rfl (.one rfl (.one rfl (.nil _)))))
 ·refine W.exit <| QX.then_ <| QX.then_ <| QX.here <| QN.then_ <| W.seq <| W.region <| WL.p rfl rfl rfl (.k .nil) (q_assign rfl) <| WL.nil <| QN.then_ <| W.ret ?_
  cases h
  exact QR.f1 rfl rfl (.t rfl) (.id _)
theorem slices_ContainsFunc_NodeType.con (k : Nat) (a0 : (List NodeType)) (a1 : (NodeType → Option Bool)) (r : Bool) (h : slices_ContainsFunc_NodeType k a0 a1 = some r) : Con Tryz.prog 104 [] [SlcA kNodeType a0, FnA Tryz.prog (fun (x : NodeType) => [AggA [EqA (strV x.fName), EqA (.int .i64 x.fParent), EqA (.bool x.fAbstract), SlcA kAttr x.fAttrs]]) (fun (y : Bool) => EqA (.bool y)) a1] (RA (EqA (.bool r))) := by
 unfold slices_ContainsFunc_NodeType at h
 refine Con.of (N := 9) Tryz.func104 rfl rfl rfl fun w0_ fg_ => W.seq <| W.region <| WL.p rfl rfl rfl (.k .nil) (q_assign rfl) <| WL.nil <| QN.then_ <| W.seq <| W.region <| WL.p rfl rfl rfl (.s 0 rfl .nil) (q_move rfl) <| WL.p rfl rfl rfl (.s 1 rfl .nil) (q_move rfl) ?_
 obtain ⟨t3235, ht3235, h⟩ := bind_s h
 refine WL.p rfl rfl rfl (.s 5 rfl (.s 6 rfl .nil)) (q_call (f := 122) (A := EqA (.int .i64 t3235)) (xs := [.tmp 5, .tmp 6]) («as» := [SlcA kNodeType a0, FnA Tryz.prog (fun (x : NodeType) => [AggA [EqA (strV x.fName), EqA (.int .i64 x.fParent), EqA (.bool x.fAbstract), SlcA kAttr x.fAttrs]]) (fun (y : Bool) => EqA (.bool y)) a1]) rfl ca122 (slices_IndexFunc_NodeType.con k a0 a1 t3235 ht3235) rfl) <| WL.p rfl rfl rfl (.s 7 rfl (.k .nil)) (q_int rfl rfl) <| WL.p rfl rfl rfl (.s 8 rfl .nil) (q_assign rfl) <| WL.nil <| QN.then_ <| W.ret ?_
 cases h
 exact QR.f1 rfl rfl (.t rfl) (.id _)
theorem types_attrs.con : ∀ (k : Nat) (a0 : Types) (a1 : Int) (r : (List Attr)) (_ : types_attrs k a0 a1 = some r), Con Tryz.prog 106 [] [AggA [SlcA kNodeType a0.fNodes, SlcA kEdgeType a0.fEdges], EqA (.int .i64 a1)] (RApp 91 kAttr r) := by
 intro k
 induction k with
 | zero => intro a0 a1 r h; cases h
 | succ k ih =>
  intro a0 a1 r h
  change types_attrs.main (types_attrs k) k a0 a1 = some r at h
  unfold types_attrs.main at h
  refine Con.of (N := 26) Tryz.func106 rfl rfl rfl fun w0_ fg_ => W.seq <| W.region <| WL.p rfl rfl rfl (.s 0 rfl .nil) (q_box rfl (CellsOf.agg _)) <| WL.p rfl rfl rfl (.k .nil) (q_assign rfl) <| WL.nil <| QN.then_ <| W.seq <| W.region <| WL.p rfl rfl rfl (.k .nil) (q_assign rfl) <| WL.nil <| QN.then_ <| W.seq ?_
  refine W.seq <| W.region <| WL.p rfl rfl rfl (.s 2 rfl .nil) (q_field rfl fo25_0 rfl) <| WL.p rfl rfl rfl (.s 7 rfl .nil) (q_load rfl sh22) <| WL.p rfl rfl rfl (.s 1 rfl .nil) (q_move rfl) ?_
  obtain ⟨c3236, h⟩ := ite_n h
  refine WL.p rfl rfl rfl (.s 8 rfl (.s 9 rfl .nil)) (q_index rfl el22 rfl c3236.1 c3236.2) <| WL.p rfl rfl rfl (.s 10 rfl .nil) (q_field rfl fo94_1 rfl) <| WL.p rfl rfl rfl (.s 11 rfl .nil) (q_load rfl sh3) <| WL.p rfl rfl rfl (.s 12 rfl .nil) (q_assign rfl) <| WL.nil <| QN.weaken (env' := [(6, _), (5, _), (2, _), (1, _)]) (.one rfl (.one rfl (.one rfl (.one rfl (.nil _))))) <| QN.then_ <| W.seq <| W.region <| WL.p rfl rfl rfl (.s 6 rfl .nil) (q_move rfl) <| WL.p rfl rfl rfl (.s 13 rfl (.k .nil)) (q_int rfl rfl) <| WL.nil <| QN.then_ ?_
  refine W.jn1 (Γ := Value) (fun (g3240 : Value) (_ : (List Attr)) => [(1, EqA (.int .i64 a1)), (2, PtrA [SlcA kNodeType a0.fNodes, SlcA kEdgeType a0.fEdges]), (5, HdA g3240)]) (fun (g3240 : Value) (x5 : (List Attr)) => [SlE 91 g3240 kAttr x5]) h (fun g3240 x5 h => ?_) (fun j3244 Kj3244 h => ?_)
  ·refine QN.then_ <| W.seq <| W.region <| WL.p rfl rfl rfl (.s 5 rfl .nil) (q_move rfl) <| WL.p rfl rfl rfl (.s 2 rfl .nil) (q_field rfl fo25_0 rfl) <| WL.p rfl rfl rfl (.s 19 rfl .nil) (q_load rfl sh22) <| WL.p rfl rfl rfl (.s 1 rfl .nil) (q_move rfl) ?_
   obtain ⟨c3245, h⟩ := ite_n h
   refine WL.p rfl rfl rfl (.s 20 rfl (.s 21 rfl .nil)) (q_index rfl el22 rfl c3245.1 c3245.2) <| WL.p rfl rfl rfl (.s 22 rfl .nil) (q_field rfl fo94_3 rfl) <| WL.p rfl rfl rfl (.s 23 rfl .nil) (q_load rfl sh92) ?_
   obtain ⟨c3246, h⟩ := ite_n h
   refine WL.w [0] rfl (Wanted.plain rfl) rfl rfl (.s 18 rfl (.s 24 rfl .nil)) (w_append (kd := kAttr) rfl el92 rfl gr91 c3246) ?_
   rintro _ _ ⟨v3247, rfl, rfl⟩
   refine WL.p rfl rfl rfl (.s 25 rfl .nil) (q_assign rfl) <| WL.nil <| QN.weaken (env' := [(4, _)]) (.one rfl (.nil _)) <| QN.then_ <| W.ret ?_
   cases h
   exact QR.r1 rfl rfl (.t rfl) ⟨_, rfl, rfl⟩
  ·refine W.condP h rfl (fun hb3248 h => ?_) (fun hb3248 h => ?_)
   ·refine W.region <| WL.p rfl rfl rfl (.s 2 rfl .nil) (q_loadS rfl sh25 (leB rfl) rfl) <| WL.p rfl rfl rfl (.s 6 rfl .nil) (q_move rfl) ?_
    obtain ⟨t3249, ht3249, h⟩ := bind_s h
    refine WL.w [] rfl (Wanted.plain rfl) rfl rfl (.s 15 rfl (.s 16 rfl .nil)) (w_callI (f := 106) (xs := [.tmp 15, .tmp 16]) («as» := [AggA [SlcA kNodeType a0.fNodes, SlcA kEdgeType a0.fEdges], EqA (.int .i64 ((rd a0.fNodes a1).fParent))]) rfl ca106 (ih a0 ((rd a0.fNodes a1).fParent) t3249 ht3249) rfl (.cons (Imp.id _) (.cons (Imp.id _) .nil))) ?_
    rintro _ _ ⟨v3250, rfl, rfl⟩
    refine WL.p rfl rfl rfl (.s 17 rfl .nil) (q_assign rfl) <| WL.nil ?_
    exact QN.weaken (.one rfl (.one rfl (.one rfl (.nil _)))) (Kj3244 v3250 t3249 h)
   ·refine W.skip <| QN.to (StTo.newNil 91 kAttr) <| QN.to (StTo.as 5 rfl Imp.nilHd) ?_
    exact QN.weaken (.one rfl (.one rfl (.one rfl (.nil _)))) (Kj3244 (.slice none 0 0) [] h)
theorem types_attribute_1.con (k : Nat) (a0 : Attr) (a1 : Attr) (r : Bool) (h : types_attribute_1 k a0 a1 = some r) : Con Tryz.prog 124 [] [AggA [EqA (strV a0.fName), EqA (.int .i64 a0.fLow), EqA (.int .i64 a0.fHigh), SlcA kStr a0.fNames], PtrA [EqA (strV a1.fName), EqA (.int .i64 a1.fLow), EqA (.int .i64 a1.fHigh), SlcA kStr a1.fNames]] (RA (EqA (.bool r))) := by
 unfold types_attribute_1 at h
 refine Con.of (N := 9) Tryz.func124 rfl rfl rfl fun w0_ fg_ => W.seq <| W.region <| WL.p rfl rfl rfl (.s 0 rfl .nil) (q_box rfl (CellsOf.agg _)) <| WL.p rfl rfl rfl (.k .nil) (q_assign rfl) <| WL.nil <| QN.then_ <| W.seq <| W.region <| WL.p rfl rfl rfl (.s 2 rfl .nil) (q_field rfl fo91_0 rfl) <| WL.p rfl rfl rfl (.s 4 rfl .nil) (q_load rfl sh9) <| WL.p rfl rfl rfl (.s 1 rfl .nil) (q_field rfl fo91_0 rfl) <| WL.p rfl rfl rfl (.s 6 rfl .nil) (q_load rfl sh9) ?_
 refine WL.p rfl rfl rfl (.s 5 rfl (.s 7 rfl .nil)) (q_str (s := a0.fName) (t := a1.fName) rfl) <| WL.p rfl rfl rfl (.s 8 rfl .nil) (q_assign rfl) <| WL.nil <| QN.weaken (env' := [(3, _)]) (.one rfl (.nil _)) <| QN.then_ <| W.ret ?_
 cases h
 exact QR.f1 rfl rfl (.t rfl) (.id _)
theorem slices_IndexFunc_Attr.con (k : Nat) (a0 : (List Attr)) (a1 : (Attr → Option Bool)) (r : Int) (h : slices_IndexFunc_Attr k a0 a1 = some r) : Con Tryz.prog 143 [] [SlcA kAttr a0, FnA Tryz.prog (fun (x : Attr) => [AggA [EqA (strV x.fName), EqA (.int .i64 x.fLow), EqA (.int .i64 x.fHigh), SlcA kStr x.fNames]]) (fun (y : Bool) => EqA (.bool y)) a1] (RA (EqA (.int .i64 r))) := by
 unfold slices_IndexFunc_Attr at h
 refine Con.of (N := 19) Tryz.func143 rfl rfl rfl fun w0_ fg_ => W.seq <| W.region <| WL.p rfl rfl rfl (.k .nil) (q_assign rfl) <| WL.nil <| QN.then_ <| W.seq <| W.seq <| W.region <| WL.p rfl rfl rfl (.s 0 rfl .nil) (q_move rfl) <| WL.p rfl rfl rfl (.s 6 rfl .nil) (q_len rfl elS92) <| WL.p rfl rfl rfl (.k .nil) (q_move rfl) <| WL.nil ?_
 refine QN.then_ <| W.block ?_
 refine W.loop1 (Γ := Unit) (fun (_ : Unit) (x8 : Int) => [(0, SlcA kAttr a0), (1, FnA Tryz.prog (fun (x : Attr) => [AggA [EqA (strV x.fName), EqA (.int .i64 x.fLow), EqA (.int .i64 x.fHigh), SlcA kStr x.fNames]]) (fun (y : Bool) => EqA (.bool y)) a1), (7, EqA (.int .i64 (a0.length : Int))), (8, EqA (.int .i64 x8))]) (fun (_ : Unit) (_ : Int) => []) h () (.one rfl (.one rfl (.one rfl (.one rfl (.nil _))))) rfl (fun rec0 K0 next0 _ x8 h => ?_)
 unfold slices_IndexFunc_Attr.b0 at h
 refine W.seq <| W.region <| WL.p rfl rfl rfl (.s 8 rfl (.s 7 rfl .nil)) (q_int rfl rfl) <| WL.nil <| QN.then_ <| W.seq ?_
 refine W.condP h rfl (fun hb3262 h => ?_) (fun hb3262 h => ?_)
 ·refine W.skip <| QN.then_ <| W.seq <| W.block <| W.seq <| W.region <| WL.p rfl rfl rfl (.s 8 rfl .nil) (q_move rfl) <| WL.p rfl rfl rfl (.s 10 rfl .nil) (q_assign rfl) <| WL.nil <| QN.then_ <| W.seq <| W.region <| WL.p rfl rfl rfl (.s 1 rfl .nil) (q_move rfl) ?_
  refine WL.p rfl rfl rfl (.s 0 rfl .nil) (q_move rfl) <| WL.p rfl rfl rfl (.s 5 rfl .nil) (q_move rfl) ?_
  obtain ⟨c3263, h⟩ := ite_n h
  refine WL.p rfl rfl rfl (.s 12 rfl (.s 13 rfl .nil)) (q_index rfl el92 rfl c3263.1 c3263.2) <| WL.p rfl rfl rfl (.s 14 rfl .nil) (q_loadS rfl sh91 (leB rfl) rfl) ?_
  obtain ⟨t3264, ht3264, h⟩ := bind_s h
  refine WL.p rfl rfl rfl (.s 11 rfl (.s 15 rfl .nil)) (q_callV («as» := fun (x : Attr) => [AggA [EqA (strV x.fName), EqA (.int .i64 x.fLow), EqA (.int .i64 x.fHigh), SlcA kStr x.fNames]]) (res := fun (y : Bool) => EqA (.bool y)) (x := (rd a0 x8)) (y := t3264) (xs := [.tmp 15]) rfl ht3264 rfl) <| WL.nil <| QN.weaken (env' := [(16, _), (5, _), (8, _), (7, _), (1, _), (0, _)]) (.one rfl (.one rfl (.one rfl (.one rfl (.one rfl (.one rfl (.nil _))))))) <| QN.then_ ?_
  refine W.condP h rfl (fun hb3265 h => ?_) (fun hb3265 h => ?_)
  ·refine W.seq <| W.region <| WL.p rfl rfl rfl (.s 5 rfl .nil) (q_move rfl) <| WL.p rfl rfl rfl (.s 17 rfl .nil) (q_assign rfl) <| WL.nil <| QN.weaken (env' := [(4, _)]) (.one rfl (.nil _)) <| QN.then_ <| W.ret <| QR.block <| QR.then_ <| QR.then_ <| QR.block <| QR.then_ ?_
   cases h
   exact QR.f1 rfl rfl (.t rfl) (.id _)
  ·refine W.skip <| QN.block <| QN.then_ <| W.region ?_
   obtain ⟨c3266, h⟩ := ite_n h
   refine WL.p rfl rfl rfl (.s 8 rfl (.k .nil)) (q_addR rfl c3266) <| WL.p rfl rfl rfl (.s 18 rfl .nil) (q_move rfl) <| WL.nil ?_
   exact next0 () (x8 + 1) _ h (.one rfl (.one rfl (.one rfl (.one rfl (.nil _)))))
 ·refine W.exit <| QX.then_ <| QX.then_ <| QX.here <| QN.then_ <| W.seq <| W.region <| WL.p rfl rfl rfl (.k .nil) (q_assign rfl) <| WL.nil <| QN.then_ <| W.ret ?_
  cases h
  exact QR.f1 rfl rfl (.t rfl) (.id _)
theorem slices_ContainsFunc_Attr.con (k : Nat) (a0 : (List Attr)) (a1 : (Attr → Option Bool)) (r : Bool) (h : slices_ContainsFunc_Attr k a0 a1 = some r) : Con Tryz.prog 123 [] [SlcA kAttr a0, FnA Tryz.prog (fun (x : Attr) => [AggA [EqA (strV x.fName), EqA (.int .i64 x.fLow), EqA (.int .i64 x.fHigh), SlcA kStr x.fNames]]) (fun (y : Bool) => EqA (.bool y)) a1] (RA (EqA (.bool r))) := by
 unfold slices_ContainsFunc_Attr at h
 refine Con.of (N := 9) Tryz.func123 rfl rfl rfl fun w0_ fg_ => W.seq <| W.region <| WL.p rfl rfl rfl (.k .nil) (q_assign rfl) <| WL.nil <| QN.then_ <| W.seq <| W.region <| WL.p rfl rfl rfl (.s 0 rfl .nil) (q_move rfl) <| WL.p rfl rfl rfl (.s 1 rfl .nil) (q_move rfl) ?_
 obtain ⟨t3267, ht3267, h⟩ := bind_s h
 refine WL.p rfl rfl rfl (.s 5 rfl (.s 6 rfl .nil)) (q_call (f := 143) (A := EqA (.int .i64 t3267)) (xs := [.tmp 5, .tmp 6]) («as» := [SlcA kAttr a0, FnA Tryz.prog (fun (x : Attr) => [AggA [EqA (strV x.fName), EqA (.int .i64 x.fLow), EqA (.int .i64 x.fHigh), SlcA kStr x.fNames]]) (fun (y : Bool) => EqA (.bool y)) a1]) rfl ca143 (slices_IndexFunc_Attr.con k a0 a1 t3267 ht3267) rfl) <| WL.p rfl rfl rfl (.s 7 rfl (.k .nil)) (q_int rfl rfl) <| WL.p rfl rfl rfl (.s 8 rfl .nil) (q_assign rfl) <| WL.nil <| QN.then_ <| W.ret ?_
 cases h
 exact QR.f1 rfl rfl (.t rfl) (.id _)
theorem types_names.con (k : Nat) (a0 : (List Str)) (r : Int) (h : types_names k a0 = some r) : Con Tryz.prog 125 [] [SlcA kStr a0] (RA (EqA (.int .i64 r))) := by
 unfold types_names at h
 refine Con.of (N := 26) Tryz.func125 rfl rfl rfl fun w0_ fg_ => W.seq <| W.region <| WL.p rfl rfl rfl (.k .nil) (q_assign rfl) <| WL.nil <| QN.then_ <| W.seq <| W.seq <| W.region <| WL.p rfl rfl rfl (.s 0 rfl .nil) (q_move rfl) <| WL.p rfl rfl rfl (.s 5 rfl .nil) (q_len rfl elS89) <| WL.p rfl rfl rfl (.s 6 rfl (.k .nil)) (q_int rfl rfl) <| WL.nil ?_
 refine QN.then_ ?_
 refine W.condP h rfl (fun hb3268 h => ?_) (fun hb3268 h => ?_)
 ·refine W.seq <| W.region <| WL.p rfl rfl rfl (.k .nil) (q_assign rfl) <| WL.nil <| QN.then_ <| W.ret <| QR.then_ ?_
  cases h
  exact QR.f1 rfl rfl (.t rfl) (.id _)
 ·refine W.skip <| QN.then_ <| W.seq <| W.seq <| W.region <| WL.p rfl rfl rfl (.s 0 rfl .nil) (q_move rfl) <| WL.p rfl rfl rfl (.s 8 rfl .nil) (q_len rfl elS89) <| WL.p rfl rfl rfl (.k .nil) (q_move rfl) <| WL.nil <| QN.then_ <| W.block ?_
  refine W.loop1 (Γ := Unit) (fun (_ : Unit) (x10 : Int) => [(0, SlcA kStr a0), (8, SlcA kStr a0), (9, EqA (.int .i64 (a0.length : Int))), (10, EqA (.int .i64 x10))]) (fun (_ : Unit) (_ : Int) => []) h () (.one rfl (.one rfl (.one rfl (.one rfl (.nil _))))) rfl (fun rec0 K0 next0 _ x10 h => ?_)
  unfold types_names.b0 at h
  refine W.seq <| W.region <| WL.p rfl rfl rfl (.s 10 rfl (.s 9 rfl .nil)) (q_int rfl rfl) <| WL.nil <| QN.then_ <| W.seq ?_
  refine W.condP h rfl (fun hb3285 h => ?_) (fun hb3285 h => ?_)
  ·refine W.skip <| QN.then_ <| W.seq <| W.block <| W.seq <| W.region <| WL.p rfl rfl rfl (.s 10 rfl .nil) (q_move rfl) ?_
   obtain ⟨c3286, h⟩ := ite_n h
   refine WL.p rfl rfl rfl (.s 8 rfl (.s 10 rfl .nil)) (q_index rfl el89 rfl c3286.1 c3286.2) <| WL.p rfl rfl rfl (.s 13 rfl .nil) (q_load rfl sh9) <| WL.p rfl rfl rfl (.s 12 rfl .nil) (q_assign rfl) <| WL.p rfl rfl rfl (.s 14 rfl .nil) (q_assign rfl) <| WL.nil <| QN.then_ <| W.block <| W.seq <| W.region <| WL.p rfl rfl rfl (.s 4 rfl .nil) (q_move rfl) ?_
   obtain ⟨t3287, ht3287, h⟩ := bind_s h
   refine WL.p rfl rfl rfl (.s 16 rfl .nil) (q_call (f := 103) (A := EqA (.bool t3287)) (xs := [.tmp 16]) («as» := [EqA (strV (rd a0 x10))]) rfl ca103 (token_IsName.con k (rd a0 x10) t3287 ht3287) rfl) <| WL.p rfl rfl rfl (.s 17 rfl .nil) (q_not rfl) <| WL.p rfl rfl rfl (.s 18 rfl .nil) (q_assign rfl) <| WL.nil <| QN.weaken (env' := [(15, _), (4, _), (3, _), (10, _), (9, _), (8, _), (0, _)]) (.one rfl (.one rfl (.one rfl (.one rfl (.one rfl (.one rfl (.one rfl (.nil _)))))))) <| QN.then_ ?_
   refine W.condP h rfl (fun hb3288 h => ?_) (fun hb3288 h => ?_)
   ·refine W.seq <| W.region <| WL.p rfl rfl rfl (.k .nil) (q_assign rfl) <| WL.nil <| QN.weaken (env' := [(2, _)]) (.one rfl (.nil _)) <| QN.then_ <| W.ret <| QR.block <| QR.block <| QR.then_ <| QR.then_ <| QR.block <| QR.then_ ?_
    cases h
    exact QR.f1 rfl rfl (.t rfl) (.id _)
   ·refine W.seq <| W.region <| WL.p rfl rfl rfl (.s 0 rfl .nil) (q_move rfl) <| WL.p rfl rfl rfl (.s 3 rfl .nil) (q_move rfl) ?_
    obtain ⟨c3289, h⟩ := ite_n h
    refine WL.p rfl rfl rfl (.s 20 rfl (.s 21 rfl .nil)) (q_subH rfl el89 rfl c3289.1 c3289.2) <| WL.p rfl rfl rfl (.s 4 rfl .nil) (q_move rfl) ?_
    obtain ⟨t3290, ht3290, h⟩ := bind_s h
    refine WL.p rfl rfl rfl (.s 22 rfl (.s 23 rfl .nil)) (q_call (f := 144) (A := EqA (.bool t3290)) (xs := [.tmp 22, .tmp 23]) («as» := [SlcA kStr (a0.take (x10 : Int).toNat), EqA (strV (rd a0 x10))]) rfl ca144 (slices_Contains_string.con k (a0.take (x10 : Int).toNat) (rd a0 x10) t3290 ht3290) rfl) <| WL.p rfl rfl rfl (.s 24 rfl .nil) (q_assign rfl) <| WL.nil <| QN.weaken (env' := [(19, _), (10, _), (9, _), (8, _), (0, _)]) (.one rfl (.one rfl (.one rfl (.one rfl (.one rfl (.nil _)))))) <| QN.then_ ?_
    refine W.condP h rfl (fun hb3291 h => ?_) (fun hb3291 h => ?_)
    ·refine W.seq <| W.region <| WL.p rfl rfl rfl (.k .nil) (q_assign rfl) <| WL.nil <| QN.then_ <| W.ret <| QR.block <| QR.block <| QR.then_ <| QR.then_ <| QR.block <| QR.then_ ?_
     cases h
     exact QR.f1 rfl rfl (.t rfl) (.id _)
    ·refine W.skip <| QN.block <| QN.block <| QN.then_ <| W.region ?_
     obtain ⟨c3292, h⟩ := ite_n h
     refine WL.p rfl rfl rfl (.s 10 rfl (.k .nil)) (q_addR rfl c3292) <| WL.p rfl rfl rfl (.s 25 rfl .nil) (q_move rfl) <| WL.nil ?_
     exact next0 () (x10 + 1) _ h (.one rfl (.one rfl (.one rfl (.one rfl (.nil _)))))
  ·refine W.exit <| QX.then_ <| QX.then_ <| QX.here <| QN.then_ <| W.seq <| W.region <| WL.p rfl rfl rfl (.k .nil) (q_assign rfl) <| WL.nil <| QN.then_ <| W.ret ?_
   cases h
   exact QR.f1 rfl rfl (.t rfl) (.id _)
theorem types_attribute.con (k : Nat) (a0 : Attr) (a1 : (List Attr)) (r : Int) (h : types_attribute k a0 a1 = some r) : Con Tryz.prog 107 [] [AggA [EqA (strV a0.fName), EqA (.int .i64 a0.fLow), EqA (.int .i64 a0.fHigh), SlcA kStr a0.fNames], SlcA kAttr a1] (RA (EqA (.int .i64 r))) := by
 unfold types_attribute at h
 refine Con.of (N := 55) Tryz.func107 rfl rfl rfl fun w0_ fg_ => W.seq <| W.region <| WL.p rfl rfl rfl (.s 0 rfl .nil) (q_box rfl (CellsOf.agg _)) <| WL.p rfl rfl rfl (.k .nil) (q_assign rfl) <| WL.nil <| QN.then_ <| W.seq <| W.block <| W.seq <| W.region <| WL.p rfl rfl rfl (.s 2 rfl .nil) (q_field rfl fo91_0 rfl) <| WL.p rfl rfl rfl (.s 8 rfl .nil) (q_load rfl sh9) ?_
 obtain ⟨t3293, ht3293, h⟩ := bind_s h
 refine WL.p rfl rfl rfl (.s 9 rfl .nil) (q_call (f := 103) (A := EqA (.bool t3293)) (xs := [.tmp 9]) («as» := [EqA (strV a0.fName)]) rfl ca103 (token_IsName.con k a0.fName t3293 ht3293) rfl) <| WL.p rfl rfl rfl (.s 10 rfl .nil) (q_not rfl) <| WL.p rfl rfl rfl (.s 11 rfl .nil) (q_assign rfl) <| WL.nil <| QN.then_ ?_
 refine W.condP h rfl (fun hb3294 h => ?_) (fun hb3294 h => ?_)
 ·refine W.seq <| W.region <| WL.p rfl rfl rfl (.k .nil) (q_assign rfl) <| WL.nil <| QN.weaken (env' := [(4, _)]) (.one rfl (.nil _)) <| QN.then_ <| W.ret <| QR.block <| QR.then_ ?_
  cases h
  exact QR.f1 rfl rfl (.t rfl) (.id _)
 ·refine W.seq <| W.region <| WL.p rfl rfl rfl (.s 1 rfl .nil) (q_move rfl) <| WL.p rfl rfl rfl (.s 2 rfl .nil) (q_makeFunc (xs := [.tmp 2]) (L := [PtrA [EqA (strV a0.fName), EqA (.int .i64 a0.fLow), EqA (.int .i64 a0.fHigh), SlcA kStr a0.fNames]]) («as» := fun (x : Attr) => [AggA [EqA (strV x.fName), EqA (.int .i64 x.fLow), EqA (.int .i64 x.fHigh), SlcA kStr x.fNames]]) (res := fun (y : Bool) => EqA (.bool y)) (p := (fun x => types_attribute_1 k x a0)) rfl ca124 rfl (fun x y hp => (types_attribute_1.con k x a0 y hp))) ?_
  obtain ⟨t3295, ht3295, h⟩ := bind_s h
  refine WL.p rfl rfl rfl (.s 13 rfl (.s 14 rfl .nil)) (q_call (f := 123) (A := EqA (.bool t3295)) (xs := [.tmp 13, .tmp 14]) («as» := [SlcA kAttr a1, FnA Tryz.prog (fun (x : Attr) => [AggA [EqA (strV x.fName), EqA (.int .i64 x.fLow), EqA (.int .i64 x.fHigh), SlcA kStr x.fNames]]) (fun (y : Bool) => EqA (.bool y)) (fun x => types_attribute_1 k x a0)]) rfl ca123 (slices_ContainsFunc_Attr.con k a1 (fun x => types_attribute_1 k x a0) t3295 ht3295) rfl) <| WL.p rfl rfl rfl (.s 15 rfl .nil) (q_assign rfl) <| WL.nil <| QN.weaken (env' := [(12, _), (2, _)]) (.one rfl (.one rfl (.nil _))) <| QN.then_ ?_
  refine W.condP h rfl (fun hb3296 h => ?_) (fun hb3296 h => ?_)
  ·refine W.seq <| W.region <| WL.p rfl rfl rfl (.k .nil) (q_assign rfl) <| WL.nil <| QN.then_ <| W.ret <| QR.block <| QR.then_ ?_
   cases h
   exact QR.f1 rfl rfl (.t rfl) (.id _)
  ·refine W.skip <| QN.block <| QN.then_ <| W.seq <| W.seq <| W.region <| WL.p rfl rfl rfl (.s 2 rfl .nil) (q_field rfl fo91_3 rfl) <| WL.p rfl rfl rfl (.s 16 rfl .nil) (q_load rfl sh89) ?_
   obtain ⟨t3297, ht3297, h⟩ := bind_s h
   refine WL.p rfl rfl rfl (.s 17 rfl .nil) (q_call (f := 125) (A := EqA (.int .i64 t3297)) (xs := [.tmp 17]) («as» := [SlcA kStr a0.fNames]) rfl ca125 (types_names.con k a0.fNames t3297 ht3297) rfl) <| WL.p rfl rfl rfl (.s 18 rfl .nil) (q_assign rfl) <| WL.nil <| QN.then_ <| W.seq <| W.region <| WL.p rfl rfl rfl (.s 5 rfl .nil) (q_move rfl) <| WL.p rfl rfl rfl (.s 19 rfl (.k .nil)) (q_int rfl rfl) <| WL.nil <| QN.then_ ?_
   refine W.condP h rfl (fun hb3298 h => ?_) (fun hb3298 h => ?_)
   ·refine W.seq <| W.region <| WL.p rfl rfl rfl (.s 5 rfl .nil) (q_move rfl) <| WL.p rfl rfl rfl (.s 21 rfl .nil) (q_assign rfl) <| WL.nil <| QN.weaken (env' := [(4, _)]) (.one rfl (.nil _)) <| QN.then_ <| W.ret <| QR.then_ ?_
    cases h
    exact QR.f1 rfl rfl (.t rfl) (.id _)
   ·refine W.skip <| QN.weaken (env' := [(2, _)]) (.one rfl (.nil _)) <| QN.then_ <| W.seq ?_
    refine W.jn1 (Γ := Unit) (fun (_ : Unit) (x6 : Bool) => [(2, PtrA [EqA (strV a0.fName), EqA (.int .i64 a0.fLow), EqA (.int .i64 a0.fHigh), SlcA kStr a0.fNames]), (6, EqA (.bool x6))]) (fun (_ : Unit) (_ : Bool) => []) h (fun _ x6 h => ?_) (fun j3302 Kj3302 h => ?_)
    ·refine QN.then_ <| W.seq <| W.seq <| W.region <| WL.p rfl rfl rfl (.s 2 rfl .nil) (q_field rfl fo91_3 rfl) <| WL.p rfl rfl rfl (.s 37 rfl .nil) (q_load rfl sh89) <| WL.p rfl rfl rfl (.s 38 rfl .nil) (q_len rfl elS89) <| WL.p rfl rfl rfl (.s 39 rfl (.k .nil)) (q_int rfl rfl) <| WL.nil <| QN.then_ ?_
     refine W.condP h rfl (fun hb3310 h => ?_) (fun hb3310 h => ?_)
     ·refine W.jn1 (Γ := Unit) (fun (_ : Unit) (x6' : Bool) => [(6, EqA (.bool x6'))]) (fun (_ : Unit) (_ : Bool) => []) h (fun _ x6' h => ?_) (fun j3314 Kj3314 h => ?_)
      ·refine QN.then_ <| W.seq <| W.seq <| W.region <| WL.p rfl rfl rfl (.s 6 rfl .nil) (q_move rfl) <| WL.p rfl rfl rfl (.s 53 rfl .nil) (q_not rfl) <| WL.nil <| QN.then_ ?_
       refine W.condP h rfl (fun hb3315 h => ?_) (fun hb3315 h => ?_)
       ·refine W.seq <| W.region <| WL.p rfl rfl rfl (.k .nil) (q_assign rfl) <| WL.nil <| QN.then_ <| W.ret <| QR.then_ ?_
        cases h
        exact QR.f1 rfl rfl (.t rfl) (.id _)
       ·refine W.skip <| QN.then_ <| W.seq <| W.region <| WL.p rfl rfl rfl (.k .nil) (q_assign rfl) <| WL.nil <| QN.then_ <| W.ret ?_
        cases h
        exact QR.f1 rfl rfl (.t rfl) (.id _)
      ·refine W.region <| WL.p rfl rfl rfl (.s 2 rfl .nil) (q_field rfl fo91_1 rfl) <| WL.p rfl rfl rfl (.s 41 rfl .nil) (q_load rfl sh3) <| WL.p rfl rfl rfl (.s 42 rfl (.k .nil)) (q_int rfl rfl) <| WL.p rfl rfl rfl (.s 43 rfl .nil) (q_move rfl) ?_
       rcases bif_s h with ⟨hb3316, h⟩ | ⟨hb3316, h⟩
       ·refine WL.q (Wanted.on rfl rfl rfl hb3316) rfl rfl (.s 2 rfl .nil) (q_field rfl fo91_2 rfl).o <| WL.q (Wanted.on rfl rfl rfl hb3316) rfl rfl (.s 45 rfl .nil) (q_load rfl sh3).o <| WL.q (Wanted.on rfl rfl rfl hb3316) rfl rfl (.s 2 rfl .nil) (q_field rfl fo91_3 rfl).o <| WL.q (Wanted.on rfl rfl rfl hb3316) rfl rfl (.s 47 rfl .nil) (q_load rfl sh89).o <| WL.q (Wanted.on rfl rfl rfl hb3316) rfl rfl (.s 48 rfl .nil) (q_len rfl elS89).o ?_
        obtain ⟨c3317, h⟩ := ite_n h
        refine WL.q (Wanted.on rfl rfl rfl hb3316) rfl rfl (.s 49 rfl (.k .nil)) (q_subR rfl c3317).o <| WL.q (Wanted.on rfl rfl rfl hb3316) rfl rfl (.s 46 rfl (.s 50 rfl .nil)) (q_int rfl rfl).o <| WL.p rfl rfl rfl (.s 44 rfl (.s 51 rfl .nil)) (q_pickT rfl hb3316) <| WL.p rfl rfl rfl (.s 52 rfl .nil) (q_assign rfl) <| WL.nil ?_
        exact QN.weaken (.one rfl (.nil _)) (Kj3314 () (a0.fHigh == ((a0.fNames.length : Int) - 1)) h)
       ·refine WL.skip (Unwanted.on rfl rfl rfl hb3316) rfl rfl <| WL.skip (Unwanted.on rfl rfl rfl hb3316) rfl rfl <| WL.skip (Unwanted.on rfl rfl rfl hb3316) rfl rfl <| WL.skip (Unwanted.on rfl rfl rfl hb3316) rfl rfl <| WL.skip (Unwanted.on rfl rfl rfl hb3316) rfl rfl <| WL.skip (Unwanted.on rfl rfl rfl hb3316) rfl rfl <| WL.skip (Unwanted.on rfl rfl rfl hb3316) rfl rfl <| WL.p rfl rfl rfl (.s 44 rfl (.k .nil)) (q_pickF rfl hb3316) <| WL.p rfl rfl rfl (.s 52 rfl .nil) (q_assign rfl) <| WL.nil ?_
        exact QN.weaken (.one rfl (.nil _)) (Kj3314 () false h)
     ·refine W.skip <| QN.then_ <| W.seq <| W.seq <| W.region <| WL.p rfl rfl rfl (.s 6 rfl .nil) (q_move rfl) <| WL.p rfl rfl rfl (.s 53 rfl .nil) (q_not rfl) <| WL.nil <| QN.weaken (env' := [(54, _)]) (.one rfl (.nil _)) <| QN.then_ ?_
      refine W.condP h rfl (fun hb3318 h => ?_) (fun hb3318 h => ?_)
      ·refine W.seq <| W.region <| WL.p rfl rfl rfl (.k .nil) (q_assign rfl) <| WL.nil <| QN.then_ <| W.ret <| QR.then_ ?_
       cases h
       exact QR.f1 rfl rfl (.t rfl) (.id _)
      ·refine W.skip <| QN.then_ <| W.seq <| W.region <| WL.p rfl rfl rfl (.k .nil) (q_assign rfl) <| WL.nil <| QN.then_ <| W.ret ?_
       cases h
       exact QR.f1 rfl rfl (.t rfl) (.id _)
    ·refine W.region <| WL.p rfl rfl rfl (.s 2 rfl .nil) (q_field rfl fo91_1 rfl) <| WL.p rfl rfl rfl (.s 22 rfl .nil) (q_load rfl sh3) <| WL.p rfl rfl rfl (.k (.s 23 rfl .nil)) (q_int rfl rfl) <| WL.p rfl rfl rfl (.s 24 rfl .nil) (q_move rfl) ?_
     rcases bif_s h with ⟨hb3319, h⟩ | ⟨hb3319, h⟩
     ·refine WL.q (Wanted.on rfl rfl rfl hb3319) rfl rfl (.s 2 rfl .nil) (q_field rfl fo91_1 rfl).o <| WL.q (Wanted.on rfl rfl rfl hb3319) rfl rfl (.s 26 rfl .nil) (q_load rfl sh3).o <| WL.q (Wanted.on rfl rfl rfl hb3319) rfl rfl (.s 2 rfl .nil) (q_field rfl fo91_2 rfl).o <| WL.q (Wanted.on rfl rfl rfl hb3319) rfl rfl (.s 28 rfl .nil) (q_load rfl sh3).o <| WL.q (Wanted.on rfl rfl rfl hb3319) rfl rfl (.s 27 rfl (.s 29 rfl .nil)) (q_int rfl rfl).o <| WL.p rfl rfl rfl (.s 25 rfl (.s 30 rfl .nil)) (q_pickT rfl hb3319) <| WL.p rfl rfl rfl (.s 31 rfl .nil) (q_move rfl) ?_
      rcases bif_s h with ⟨hb3320, h⟩ | ⟨hb3320, h⟩
      ·refine WL.q (Wanted.on rfl rfl rfl hb3320) rfl rfl (.s 2 rfl .nil) (q_field rfl fo91_2 rfl).o <| WL.q (Wanted.on rfl rfl rfl hb3320) rfl rfl (.s 33 rfl .nil) (q_load rfl sh3).o <| WL.q (Wanted.on rfl rfl rfl hb3320) rfl rfl (.s 34 rfl (.k .nil)) (q_int rfl rfl).o <| WL.p rfl rfl rfl (.s 32 rfl (.s 35 rfl .nil)) (q_pickT rfl hb3320) <| WL.p rfl rfl rfl (.s 36 rfl .nil) (q_assign rfl) <| WL.nil ?_
       exact QN.weaken (.one rfl (.one rfl (.nil _))) (Kj3302 () (decide (a0.fHigh ≤ 1000000)) h)
      ·refine WL.skip (Unwanted.on rfl rfl rfl hb3320) rfl rfl <| WL.skip (Unwanted.on rfl rfl rfl hb3320) rfl rfl <| WL.skip (Unwanted.on rfl rfl rfl hb3320) rfl rfl <| WL.p rfl rfl rfl (.s 32 rfl (.k .nil)) (q_pickF rfl hb3320) <| WL.p rfl rfl rfl (.s 36 rfl .nil) (q_assign rfl) <| WL.nil ?_
       exact QN.weaken (.one rfl (.one rfl (.nil _))) (Kj3302 () false h)
     ·refine WL.skip (Unwanted.on rfl rfl rfl hb3319) rfl rfl <| WL.skip (Unwanted.on rfl rfl rfl hb3319) rfl rfl <| WL.skip (Unwanted.on rfl rfl rfl hb3319) rfl rfl <| WL.skip (Unwanted.on rfl rfl rfl hb3319) rfl rfl <| WL.skip (Unwanted.on rfl rfl rfl hb3319) rfl rfl <| WL.p rfl rfl rfl (.s 25 rfl (.k .nil)) (q_pickF rfl hb3319) <| WL.p rfl rfl rfl (.s 31 rfl .nil) (q_move rfl) <| WL.skip (Unwanted.on rfl rfl rfl rfl) rfl rfl <| WL.skip (Unwanted.on rfl rfl rfl rfl) rfl rfl <| WL.skip (Unwanted.on rfl rfl rfl rfl) rfl rfl <| WL.p rfl rfl rfl (.s 32 rfl (.k .nil)) (q_pickF rfl rfl) <| WL.p rfl rfl rfl (.s 36 rfl .nil) (q_assign rfl) <| WL.nil ?_
      exact QN.weaken (.one rfl (.one rfl (.nil _))) (Kj3302 () false h)
theorem types_node.con (k : Nat) (a0 : Types) (a1 : Int) (r : Int) (h : types_node k a0 a1 = some r) : Con Tryz.prog 76 [] [AggA [SlcA kNodeType a0.fNodes, SlcA kEdgeType a0.fEdges], EqA (.int .i64 a1)] (RA (EqA (.int .i64 r))) := by
 unfold types_node at h
 refine Con.of (N := 70) Tryz.func76 rfl rfl rfl fun w0_ fg_ => W.seq <| W.region <| WL.p rfl rfl rfl (.s 0 rfl .nil) (q_box rfl (CellsOf.agg _)) <| WL.p rfl rfl rfl (.k .nil) (q_assign rfl) <| WL.nil <| QN.then_ <| W.seq <| W.region <| WL.p rfl rfl rfl (.s 2 rfl .nil) (q_field rfl fo25_0 rfl) <| WL.p rfl rfl rfl (.s 9 rfl .nil) (q_load rfl sh22) <| WL.p rfl rfl rfl (.s 1 rfl .nil) (q_move rfl) ?_
 obtain ⟨c3321, h⟩ := ite_n h
 refine WL.p rfl rfl rfl (.s 10 rfl (.s 11 rfl .nil)) (q_index rfl el22 rfl c3321.1 c3321.2) <| WL.p rfl rfl rfl (.s 12 rfl .nil) (q_loadS rfl sh94 (leB rfl) rfl) <| WL.w [] rfl (Wanted.plain rfl) rfl rfl .nil (w_alloc rfl z94 (l := [EqA (strV ([] : Str)), EqA (.int .i64 0), EqA (.bool false), EqA (.slice none 0 0)]) rfl) ?_
 rintro _ _ ⟨b3322, rfl, rfl⟩
 refine WL.w0 [0] rfl (Wanted.plain rfl) rfl (.s 5 rfl (.s 13 rfl .nil)) (w_store (L := [EqA (strV ((rd a0.fNodes a1).fName)), EqA (.int .i64 ((rd a0.fNodes a1).fParent)), EqA (.bool ((rd a0.fNodes a1).fAbstract)), SlcA kAttr ((rd a0.fNodes a1).fAttrs)]) rfl sh94 (CellsOf.agg _) rfl rfl (leB rfl) rfl) ?_
 rintro _ _ ⟨rfl, rfl⟩
 refine WL.nil <| QN.to (StTo.still [0] 5 rfl rfl) <| QN.weaken (env' := [(5, _), (2, _), (1, _)]) (.one rfl (.one rfl (.one rfl (.nil _)))) <| QN.then_ <| W.seq <| W.block <| W.seq <| W.region <| WL.p rfl rfl rfl (.s 5 rfl .nil) (q_field rfl fo94_0 rfl) <| WL.p rfl rfl rfl (.s 15 rfl .nil) (q_load rfl sh9) ?_
 obtain ⟨t3323, ht3323, h⟩ := bind_s h
 refine WL.p rfl rfl rfl (.s 16 rfl .nil) (q_call (f := 103) (A := EqA (.bool t3323)) (xs := [.tmp 16]) («as» := [EqA (strV ((rd a0.fNodes a1).fName))]) rfl ca103 (token_IsName.con k ((rd a0.fNodes a1).fName) t3323 ht3323) rfl) <| WL.p rfl rfl rfl (.s 17 rfl .nil) (q_not rfl) <| WL.p rfl rfl rfl (.s 18 rfl .nil) (q_assign rfl) <| WL.nil <| QN.then_ ?_
 refine W.condP h rfl (fun hb3324 h => ?_) (fun hb3324 h => ?_)
 ·refine W.seq <| W.region <| WL.p rfl rfl rfl (.k .nil) (q_assign rfl) <| WL.nil <| QN.weaken (env' := [(4, _)]) (.one rfl (.nil _)) <| QN.then_ <| W.ret <| QR.block <| QR.then_ ?_
  cases h
  exact QR.f1 rfl rfl (.t rfl) (.id _)
 ·refine W.seq <| W.region <| WL.p rfl rfl rfl (.s 2 rfl .nil) (q_field rfl fo25_0 rfl) <| WL.p rfl rfl rfl (.s 20 rfl .nil) (q_load rfl sh22) <| WL.p rfl rfl rfl (.s 1 rfl .nil) (q_move rfl) ?_
  obtain ⟨c3325, h⟩ := ite_n h
  refine WL.p rfl rfl rfl (.s 21 rfl (.s 22 rfl .nil)) (q_subH rfl el22 rfl c3325.1 c3325.2) <| WL.p rfl rfl rfl (.s 5 rfl .nil) (q_makeFunc (xs := [.tmp 5]) (L := [PtrA [EqA (strV ((rd a0.fNodes a1).fName)), EqA (.int .i64 ((rd a0.fNodes a1).fParent)), EqA (.bool ((rd a0.fNodes a1).fAbstract)), SlcA kAttr ((rd a0.fNodes a1).fAttrs)]]) («as» := fun (x : NodeType) => [AggA [EqA (strV x.fName), EqA (.int .i64 x.fParent), EqA (.bool x.fAbstract), SlcA kAttr x.fAttrs]]) (res := fun (y : Bool) => EqA (.bool y)) (p := (fun x => types_node_1 k x (rd a0.fNodes a1))) rfl ca105 rfl (fun x y hp => (types_node_1.con k x (rd a0.fNodes a1) y hp))) ?_
  obtain ⟨t3326, ht3326, h⟩ := bind_s h
  refine WL.p rfl rfl rfl (.s 23 rfl (.s 24 rfl .nil)) (q_call (f := 104) (A := EqA (.bool t3326)) (xs := [.tmp 23, .tmp 24]) («as» := [SlcA kNodeType (a0.fNodes.take (a1 : Int).toNat), FnA Tryz.prog (fun (x : NodeType) => [AggA [EqA (strV x.fName), EqA (.int .i64 x.fParent), EqA (.bool x.fAbstract), SlcA kAttr x.fAttrs]]) (fun (y : Bool) => EqA (.bool y)) (fun x => types_node_1 k x (rd a0.fNodes a1))]) rfl ca104 (slices_ContainsFunc_NodeType.con k (a0.fNodes.take (a1 : Int).toNat) (fun x => types_node_1 k x (rd a0.fNodes a1)) t3326 ht3326) rfl) <| WL.p rfl rfl rfl (.s 25 rfl .nil) (q_assign rfl) <| WL.nil <| QN.weaken (env' := [(19, _), (5, _), (2, _), (1, _)]) (.one rfl (.one rfl (.one rfl (.one rfl (.nil _))))) <| QN.then_ ?_
  refine W.condP h rfl (fun hb3327 h => ?_) (fun hb3327 h => ?_)
  ·refine W.seq <| W.region <| WL.p rfl rfl rfl (.k .nil) (q_assign rfl) <| WL.nil <| QN.then_ <| W.ret <| QR.block <| QR.then_ ?_
   cases h
   exact QR.f1 rfl rfl (.t rfl) (.id _)
  ·refine W.seq ?_
   refine W.jn1 (Γ := Unit) (fun (_ : Unit) (x26 : Bool) => [(1, EqA (.int .i64 a1)), (2, PtrA [SlcA kNodeType a0.fNodes, SlcA kEdgeType a0.fEdges]), (5, PtrA [EqA (strV ((rd a0.fNodes a1).fName)), EqA (.int .i64 ((rd a0.fNodes a1).fParent)), EqA (.bool ((rd a0.fNodes a1).fAbstract)), SlcA kAttr ((rd a0.fNodes a1).fAttrs)]), (26, EqA (.bool x26))]) (fun (_ : Unit) (_ : Bool) => []) h (fun _ x26 h => ?_) (fun j3330 Kj3330 h => ?_)
   ·refine QN.then_ ?_
    refine W.condP h rfl (fun hb3331 h => ?_) (fun hb3331 h => ?_)
    ·refine W.seq <| W.region <| WL.p rfl rfl rfl (.k .nil) (q_assign rfl) <| WL.nil <| QN.then_ <| W.ret <| QR.block <| QR.then_ ?_
     cases h
     exact QR.f1 rfl rfl (.t rfl) (.id _)
    ·refine W.seq <| W.region <| WL.p rfl rfl rfl (.s 5 rfl .nil) (q_field rfl fo94_3 rfl) <| WL.p rfl rfl rfl (.s 37 rfl .nil) (q_load rfl sh92) <| WL.p rfl rfl rfl (.s 38 rfl .nil) (q_len rfl elS92) <| WL.p rfl rfl rfl (.s 39 rfl (.k .nil)) (q_int rfl rfl) <| WL.p rfl rfl rfl (.s 40 rfl .nil) (q_assign rfl) <| WL.nil <| QN.then_ ?_
     refine W.condP h rfl (fun hb3332 h => ?_) (fun hb3332 h => ?_)
     ·refine W.seq <| W.region <| WL.p rfl rfl rfl (.k .nil) (q_assign rfl) <| WL.nil <| QN.weaken (env' := [(4, _)]) (.one rfl (.nil _)) <| QN.then_ <| W.ret <| QR.block <| QR.then_ ?_
      cases h
      exact QR.f1 rfl rfl (.t rfl) (.id _)
     ·refine W.skip <| QN.block <| QN.then_ <| W.seq <| W.region <| WL.p rfl rfl rfl (.s 2 rfl .nil) (q_loadS rfl sh25 (leB rfl) rfl) <| WL.p rfl rfl rfl (.s 1 rfl .nil) (q_move rfl) ?_
      obtain ⟨t3333, ht3333, h⟩ := bind_s h
      refine WL.p rfl rfl rfl (.s 41 rfl (.s 42 rfl .nil)) (q_call (f := 106) (A := SlcA kAttr t3333) (xs := [.tmp 41, .tmp 42]) («as» := [AggA [SlcA kNodeType a0.fNodes, SlcA kEdgeType a0.fEdges], EqA (.int .i64 a1)]) rfl ca106 (Con.free (types_attrs.con k a0 a1 t3333 ht3333)) rfl) <| WL.p rfl rfl rfl (.s 43 rfl .nil) (q_assign rfl) <| WL.nil <| QN.weaken (env' := [(6, _), (5, _)]) (.one rfl (.one rfl (.nil _))) <| QN.then_ <| W.seq <| W.seq <| W.region <| WL.p rfl rfl rfl (.s 6 rfl .nil) (q_move rfl) <| WL.p rfl rfl rfl (.s 44 rfl .nil) (q_len rfl elS92) <| WL.p rfl rfl rfl (.s 45 rfl (.k .nil)) (q_int rfl rfl) <| WL.nil <| QN.then_ ?_
      refine W.condP h rfl (fun hb3334 h => ?_) (fun hb3334 h => ?_)
      ·refine W.seq <| W.region <| WL.p rfl rfl rfl (.k .nil) (q_assign rfl) <| WL.nil <| QN.then_ <| W.ret <| QR.then_ ?_
       cases h
       exact QR.f1 rfl rfl (.t rfl) (.id _)
      ·refine W.skip <| QN.then_ <| W.seq <| W.seq <| W.region <| WL.p rfl rfl rfl (.s 6 rfl .nil) (q_move rfl) <| WL.p rfl rfl rfl (.s 47 rfl .nil) (q_len rfl elS92) <| WL.p rfl rfl rfl (.s 5 rfl .nil) (q_field rfl fo94_3 rfl) <| WL.p rfl rfl rfl (.s 49 rfl .nil) (q_load rfl sh92) <| WL.p rfl rfl rfl (.s 50 rfl .nil) (q_len rfl elS92) ?_
       obtain ⟨c3335, h⟩ := ite_n h
       refine WL.p rfl rfl rfl (.s 48 rfl (.s 51 rfl .nil)) (q_subR rfl c3335) <| WL.p rfl rfl rfl (.s 52 rfl .nil) (q_assign rfl) <| WL.nil <| QN.weaken (env' := [(7, _), (6, _)]) (.one rfl (.one rfl (.nil _))) <| QN.then_ <| W.block ?_
       refine W.loop1 (Γ := Unit) (fun (_ : Unit) (x7 : Int) => [(6, SlcA kAttr t3333), (7, EqA (.int .i64 x7))]) (fun (_ : Unit) (_ : Int) => []) h () (.one rfl (.one rfl (.nil _))) rfl (fun rec0 K0 next0 _ x7 h => ?_)
       unfold types_node.b0 at h
       refine W.seq <| W.seq <| W.region <| WL.p rfl rfl rfl (.s 7 rfl .nil) (q_move rfl) <| WL.p rfl rfl rfl (.s 6 rfl .nil) (q_move rfl) <| WL.p rfl rfl rfl (.s 54 rfl .nil) (q_len rfl elS92) <| WL.p rfl rfl rfl (.s 53 rfl (.s 55 rfl .nil)) (q_int rfl rfl) <| WL.nil <| QN.then_ ?_
       refine W.condP h rfl (fun hb3360 h => ?_) (fun hb3360 h => ?_)
       ·refine W.skip <| QN.then_ <| W.seq <| W.block <| W.seq <| W.drawK [(0, false), (1, false), (2, false), (3, false), (4, false), (5, false), (6, false), (7, false), (8, false)] [] [[], [], [0, 1], [0, 1, 2], [], [], [4, 5], [0, 1, 2, 3, 4, 5, 6], [0, 1, 2, 3, 4, 5, 6, 7]] mx (by kernel_rfl) <| DK.cons rfl rfl (.p rfl (.s 6 rfl .nil) rfl (q_move rfl)) <| DK.cons rfl rfl (.p rfl (.s 7 rfl .nil) rfl (q_move rfl)) ?_
        obtain ⟨c3367, h⟩ := ite_n h
        refine DK.cons rfl rfl (.p rfl (.s 59 rfl (.s 60 rfl .nil)) rfl (q_index rfl el92 rfl c3367.1 c3367.2)) <| DK.cons rfl rfl (.p rfl (.s 61 rfl .nil) rfl (q_loadS rfl sh91 (leB rfl) rfl)) <| DK.cons rfl rfl (.p rfl (.s 6 rfl .nil) rfl (q_move rfl)) <| DK.cons rfl rfl (.p rfl (.s 7 rfl .nil) rfl (q_move rfl)) ?_
        obtain ⟨c3368, h⟩ := ite_n h
        refine DK.cons rfl rfl (.p rfl (.s 63 rfl (.s 64 rfl .nil)) rfl (q_subH rfl el92 rfl c3368.1 c3368.2)) ?_
        obtain ⟨t3369, ht3369, h⟩ := bind_s h
        refine DK.cons rfl rfl (.p rfl (.s 62 rfl (.s 65 rfl .nil)) rfl (q_call (f := 107) (A := EqA (.int .i64 t3369)) (xs := [.tmp 62, .tmp 65]) («as» := [AggA [EqA (strV ((rd t3333 x7).fName)), EqA (.int .i64 ((rd t3333 x7).fLow)), EqA (.int .i64 ((rd t3333 x7).fHigh)), SlcA kStr ((rd t3333 x7).fNames)], SlcA kAttr (t3333.take (x7 : Int).toNat)]) rfl ca107 (types_attribute.con k (rd t3333 x7) (t3333.take (x7 : Int).toNat) t3369 ht3369) rfl)) <| DK.cons rfl rfl (.p rfl (.s 66 rfl .nil) rfl (q_assign rfl)) <| DK.nil <| CSteps.nil <| QN.weaken (env' := [(8, _), (7, _), (6, _)]) (.one rfl (.one rfl (.one rfl (.nil _)))) <| QN.then_ <| W.seq <| W.region <| WL.p rfl rfl rfl (.s 8 rfl .nil) (q_move rfl) <| WL.p rfl rfl rfl (.s 67 rfl (.k .nil)) (q_int rfl rfl) <| WL.nil <| QN.then_ ?_
        refine W.condP h rfl (fun hb3370 h => ?_) (fun hb3370 h => ?_)
        ·refine W.seq <| W.region <| WL.p rfl rfl rfl (.s 8 rfl .nil) (q_move rfl) <| WL.p rfl rfl rfl (.s 69 rfl .nil) (q_assign rfl) <| WL.nil <| QN.then_ <| W.ret <| QR.block <| QR.then_ <| QR.then_ <| QR.block <| QR.then_ ?_
         cases h
         exact QR.f1 rfl rfl (.t rfl) (.id _)
        ·refine W.skip <| QN.block <| QN.then_ <| W.region <| WL.p rfl rfl rfl (.s 7 rfl .nil) (q_move rfl) ?_
         obtain ⟨c3371, h⟩ := ite_n h
         refine WL.p rfl rfl rfl (.s 57 rfl (.k .nil)) (q_addR rfl c3371) <| WL.p rfl rfl rfl (.s 58 rfl .nil) (q_assign rfl) <| WL.nil ?_
         exact next0 () (x7 + 1) _ h (.one rfl (.one rfl (.nil _)))
       ·refine W.exit <| QX.then_ <| QX.then_ <| QX.here <| QN.then_ <| W.seq <| W.region <| WL.p rfl rfl rfl (.k .nil) (q_assign rfl) <| WL.nil <| QN.then_ <| W.ret ?_
        cases h
        exact QR.f1 rfl rfl (.t rfl) (.id _)
   ·refine W.region <| WL.p rfl rfl rfl (.s 5 rfl .nil) (q_field rfl fo94_1 rfl) <| WL.p rfl rfl rfl (.s 27 rfl .nil) (q_load rfl sh3) <| WL.p rfl rfl rfl (.s 28 rfl (.k .nil)) (q_int rfl rfl) <| WL.p rfl rfl rfl (.s 29 rfl .nil) (q_move rfl) ?_
    rcases bif_s h with ⟨hb3372, h⟩ | ⟨hb3372, h⟩
    ·refine WL.skip (Unwanted.on rfl rfl rfl hb3372) rfl rfl <| WL.skip (Unwanted.on rfl rfl rfl hb3372) rfl rfl <| WL.skip (Unwanted.on rfl rfl rfl hb3372) rfl rfl <| WL.skip (Unwanted.on rfl rfl rfl hb3372) rfl rfl <| WL.p rfl rfl rfl (.s 30 rfl (.k .nil)) (q_pickT rfl hb3372) <| WL.p rfl rfl rfl (.s 35 rfl .nil) (q_assign rfl) <| WL.nil ?_
     exact QN.weaken (.one rfl (.one rfl (.one rfl (.one rfl (.nil _))))) (Kj3330 () true h)
    ·refine WL.q (Wanted.on rfl rfl rfl hb3372) rfl rfl (.s 5 rfl .nil) (q_field rfl fo94_1 rfl).o <| WL.q (Wanted.on rfl rfl rfl hb3372) rfl rfl (.s 31 rfl .nil) (q_load rfl sh3).o <| WL.q (Wanted.on rfl rfl rfl hb3372) rfl rfl (.s 1 rfl .nil) (q_move rfl).o <| WL.q (Wanted.on rfl rfl rfl hb3372) rfl rfl (.s 32 rfl (.s 33 rfl .nil)) (q_int rfl rfl).o <| WL.p rfl rfl rfl (.s 30 rfl (.s 34 rfl .nil)) (q_pickF rfl hb3372) <| WL.p rfl rfl rfl (.s 35 rfl .nil) (q_assign rfl) <| WL.nil ?_
     exact QN.weaken (.one rfl (.one rfl (.one rfl (.one rfl (.nil _))))) (Kj3330 () (decide ((rd a0.fNodes a1).fParent ≥ a1)) h)
theorem types_edge_1.con (k : Nat) (a0 : Int) (a1 : Types) (r : Bool) (h : types_edge_1 k a0 a1 = some r) : Con Tryz.prog 108 [] [EqA (.int .i64 a0), PtrA [SlcA kNodeType a1.fNodes, SlcA kEdgeType a1.fEdges]] (RA (EqA (.bool r))) := by
 unfold types_edge_1 at h
 refine Con.of (N := 13) Tryz.func108 rfl rfl rfl fun w0_ fg_ => W.seq <| W.region <| WL.p rfl rfl rfl (.k .nil) (q_assign rfl) <| WL.nil <| QN.then_ <| W.seq ?_
 refine W.jn1 (Γ := Unit) (fun (_ : Unit) (x3 : Bool) => [(3, EqA (.bool x3))]) (fun (_ : Unit) (_ : Bool) => []) h (fun _ x3 h => ?_) (fun j3375 Kj3375 h => ?_)
 ·refine QN.then_ <| W.ret ?_
  cases h
  exact QR.f1 rfl rfl (.t rfl) (.id _)
 ·refine W.region <| WL.p rfl rfl rfl (.s 0 rfl .nil) (q_move rfl) <| WL.p rfl rfl rfl (.s 4 rfl (.k .nil)) (q_int rfl rfl) <| WL.p rfl rfl rfl (.s 5 rfl .nil) (q_move rfl) ?_
  rcases bif_s h with ⟨hb3376, h⟩ | ⟨hb3376, h⟩
  ·refine WL.q (Wanted.on rfl rfl rfl hb3376) rfl rfl (.s 0 rfl .nil) (q_move rfl).o <| WL.q (Wanted.on rfl rfl rfl hb3376) rfl rfl (.s 1 rfl .nil) (q_field rfl fo25_0 rfl).o <| WL.q (Wanted.on rfl rfl rfl hb3376) rfl rfl (.s 8 rfl .nil) (q_load rfl sh22).o <| WL.q (Wanted.on rfl rfl rfl hb3376) rfl rfl (.s 9 rfl .nil) (q_len rfl elS22).o <| WL.q (Wanted.on rfl rfl rfl hb3376) rfl rfl (.s 7 rfl (.s 10 rfl .nil)) (q_int rfl rfl).o <| WL.p rfl rfl rfl (.s 6 rfl (.s 11 rfl .nil)) (q_pickT rfl hb3376) <| WL.p rfl rfl rfl (.s 12 rfl .nil) (q_assign rfl) <| WL.nil ?_
   exact QN.weaken (.one rfl (.nil _)) (Kj3375 () (decide (a0 < (a1.fNodes.length : Int))) h)
  ·refine WL.skip (Unwanted.on rfl rfl rfl hb3376) rfl rfl <| WL.skip (Unwanted.on rfl rfl rfl hb3376) rfl rfl <| WL.skip (Unwanted.on rfl rfl rfl hb3376) rfl rfl <| WL.skip (Unwanted.on rfl rfl rfl hb3376) rfl rfl <| WL.skip (Unwanted.on rfl rfl rfl hb3376) rfl rfl <| WL.p rfl rfl rfl (.s 6 rfl (.k .nil)) (q_pickF rfl hb3376) <| WL.p rfl rfl rfl (.s 12 rfl .nil) (q_assign rfl) <| WL.nil ?_
   exact QN.weaken (.one rfl (.nil _)) (Kj3375 () false h)
theorem types_edge_2.con (k : Nat) (a0 : EdgeType) (a1 : EdgeType) (r : Bool) (h : types_edge_2 k a0 a1 = some r) : Con Tryz.prog 110 [] [AggA [EqA (strV a0.fName), EqA (.int .i64 a0.fFrom), EqA (.int .i64 a0.fTo), EqA (.int .i64 a0.fOutLow), EqA (.int .i64 a0.fOutHigh), EqA (.int .i64 a0.fInLow), EqA (.int .i64 a0.fInHigh)], PtrA [EqA (strV a1.fName), EqA (.int .i64 a1.fFrom), EqA (.int .i64 a1.fTo), EqA (.int .i64 a1.fOutLow), EqA (.int .i64 a1.fOutHigh), EqA (.int .i64 a1.fInLow), EqA (.int .i64 a1.fInHigh)]] (RA (EqA (.bool r))) := by
 unfold types_edge_2 at h
 refine Con.of (N := 9) Tryz.func110 rfl rfl rfl fun w0_ fg_ => W.seq <| W.region <| WL.p rfl rfl rfl (.s 0 rfl .nil) (q_box rfl (CellsOf.agg _)) <| WL.p rfl rfl rfl (.k .nil) (q_assign rfl) <| WL.nil <| QN.then_ <| W.seq <| W.region <| WL.p rfl rfl rfl (.s 2 rfl .nil) (q_field rfl fo96_0 rfl) <| WL.p rfl rfl rfl (.s 4 rfl .nil) (q_load rfl sh9) <| WL.p rfl rfl rfl (.s 1 rfl .nil) (q_field rfl fo96_0 rfl) <| WL.p rfl rfl rfl (.s 6 rfl .nil) (q_load rfl sh9) ?_
 refine WL.p rfl rfl rfl (.s 5 rfl (.s 7 rfl .nil)) (q_str (s := a0.fName) (t := a1.fName) rfl) <| WL.p rfl rfl rfl (.s 8 rfl .nil) (q_assign rfl) <| WL.nil <| QN.weaken (env' := [(3, _)]) (.one rfl (.nil _)) <| QN.then_ <| W.ret ?_
 cases h
 exact QR.f1 rfl rfl (.t rfl) (.id _)
theorem slices_IndexFunc_EdgeType.con (k : Nat) (a0 : (List EdgeType)) (a1 : (EdgeType → Option Bool)) (r : Int) (h : slices_IndexFunc_EdgeType k a0 a1 = some r) : Con Tryz.prog 126 [] [SlcA kEdgeType a0, FnA Tryz.prog (fun (x : EdgeType) => [AggA [EqA (strV x.fName), EqA (.int .i64 x.fFrom), EqA (.int .i64 x.fTo), EqA (.int .i64 x.fOutLow), EqA (.int .i64 x.fOutHigh), EqA (.int .i64 x.fInLow), EqA (.int .i64 x.fInHigh)]]) (fun (y : Bool) => EqA (.bool y)) a1] (RA (EqA (.int .i64 r))) := by
 unfold slices_IndexFunc_EdgeType at h
 refine Con.of (N := 19) Tryz.func126 rfl rfl rfl fun w0_ fg_ => W.seq <| W.region <| WL.p rfl rfl rfl (.k .nil) (q_assign rfl) <| WL.nil <| QN.then_ <| W.seq <| W.seq <| W.region <| WL.p rfl rfl rfl (.s 0 rfl .nil) (q_move rfl) <| WL.p rfl rfl rfl (.s 6 rfl .nil) (q_len rfl elS23) <| WL.p rfl rfl rfl (.k .nil) (q_move rfl) <| WL.nil ?_
 refine QN.then_ <| W.block ?_
 refine W.loop1 (Γ := Unit) (fun (_ : Unit) (x8 : Int) => [(0, SlcA kEdgeType a0), (1, FnA Tryz.prog (fun (x : EdgeType) => [AggA [EqA (strV x.fName), EqA (.int .i64 x.fFrom), EqA (.int .i64 x.fTo), EqA (.int .i64 x.fOutLow), EqA (.int .i64 x.fOutHigh), EqA (.int .i64 x.fInLow), EqA (.int .i64 x.fInHigh)]]) (fun (y : Bool) => EqA (.bool y)) a1), (7, EqA (.int .i64 (a0.length : Int))), (8, EqA (.int .i64 x8))]) (fun (_ : Unit) (_ : Int) => []) h () (.one rfl (.one rfl (.one rfl (.one rfl (.nil _))))) rfl (fun rec0 K0 next0 _ x8 h => ?_)
 unfold slices_IndexFunc_EdgeType.b0 at h
 refine W.seq <| W.region <| WL.p rfl rfl rfl (.s 8 rfl (.s 7 rfl .nil)) (q_int rfl rfl) <| WL.nil <| QN.then_ <| W.seq ?_
 refine W.condP h rfl (fun hb3387 h => ?_) (fun hb3387 h => ?_)
 ·refine W.skip <| QN.then_ <| W.seq <| W.block <| W.seq <| W.region <| WL.p rfl rfl rfl (.s 8 rfl .nil) (q_move rfl) <| WL.p rfl rfl rfl (.s 10 rfl .nil) (q_assign rfl) <| WL.nil <| QN.then_ <| W.seq <| W.region <| WL.p rfl rfl rfl (.s 1 rfl .nil) (q_move rfl) ?_
  refine WL.p rfl rfl rfl (.s 0 rfl .nil) (q_move rfl) <| WL.p rfl rfl rfl (.s 5 rfl .nil) (q_move rfl) ?_
  obtain ⟨c3388, h⟩ := ite_n h
  refine WL.p rfl rfl rfl (.s 12 rfl (.s 13 rfl .nil)) (q_index rfl el23 rfl c3388.1 c3388.2) <| WL.p rfl rfl rfl (.s 14 rfl .nil) (q_loadS rfl sh96 (leB rfl) rfl) ?_
  obtain ⟨t3389, ht3389, h⟩ := bind_s h
  refine WL.p rfl rfl rfl (.s 11 rfl (.s 15 rfl .nil)) (q_callV («as» := fun (x : EdgeType) => [AggA [EqA (strV x.fName), EqA (.int .i64 x.fFrom), EqA (.int .i64 x.fTo), EqA (.int .i64 x.fOutLow), EqA (.int .i64 x.fOutHigh), EqA (.int .i64 x.fInLow), EqA (.int .i64 x.fInHigh)]]) (res := fun (y : Bool) => EqA (.bool y)) (x := (rd a0 x8)) (y := t3389) (xs := [.tmp 15]) rfl ht3389 rfl) <| WL.nil <| QN.weaken (env' := [(16, _), (5, _), (8, _), (7, _), (1, _), (0, _)]) (.one rfl (.one rfl (.one rfl (.one rfl (.one rfl (.one rfl (.nil _))))))) <| QN.then_ ?_
  refine W.condP h rfl (fun hb3390 h => ?_) (fun hb3390 h => ?_)
  ·refine W.seq <| W.region <| WL.p rfl rfl rfl (.s 5 rfl .nil) (q_move rfl) <| WL.p rfl rfl rfl (.s 17 rfl .nil) (q_assign rfl) <| WL.nil <| QN.weaken (env' := [(4, _)]) (.one rfl (.nil _)) <| QN.then_ <| W.ret <| QR.block <| QR.then_ <| QR.then_ <| QR.block <| QR.then_ ?_
   cases h
   exact QR.f1 rfl rfl (.t rfl) (.id _)
  ·refine W.skip <| QN.block <| QN.then_ <| W.region ?_
   obtain ⟨c3391, h⟩ := ite_n h
   refine WL.p rfl rfl rfl (.s 8 rfl (.k .nil)) (q_addR rfl c3391) <| WL.p rfl rfl rfl (.s 18 rfl .nil) (q_move rfl) <| WL.nil ?_
   exact next0 () (x8 + 1) _ h (.one rfl (.one rfl (.one rfl (.one rfl (.nil _)))))
 ·refine W.exit <| QX.then_ <| QX.then_ <| QX.here <| QN.then_ <| W.seq <| W.region <| WL.p rfl rfl rfl (.k .nil) (q_assign rfl) <| WL.nil <| QN.then_ <| W.ret ?_
  cases h
  exact QR.f1 rfl rfl (.t rfl) (.id _)
theorem slices_ContainsFunc_EdgeType.con (k : Nat) (a0 : (List EdgeType)) (a1 : (EdgeType → Option Bool)) (r : Bool) (h : slices_ContainsFunc_EdgeType k a0 a1 = some r) : Con Tryz.prog 109 [] [SlcA kEdgeType a0, FnA Tryz.prog (fun (x : EdgeType) => [AggA [EqA (strV x.fName), EqA (.int .i64 x.fFrom), EqA (.int .i64 x.fTo), EqA (.int .i64 x.fOutLow), EqA (.int .i64 x.fOutHigh), EqA (.int .i64 x.fInLow), EqA (.int .i64 x.fInHigh)]]) (fun (y : Bool) => EqA (.bool y)) a1] (RA (EqA (.bool r))) := by
 unfold slices_ContainsFunc_EdgeType at h
 refine Con.of (N := 9) Tryz.func109 rfl rfl rfl fun w0_ fg_ => W.seq <| W.region <| WL.p rfl rfl rfl (.k .nil) (q_assign rfl) <| WL.nil <| QN.then_ <| W.seq <| W.region <| WL.p rfl rfl rfl (.s 0 rfl .nil) (q_move rfl) <| WL.p rfl rfl rfl (.s 1 rfl .nil) (q_move rfl) ?_
 obtain ⟨t3392, ht3392, h⟩ := bind_s h
 refine WL.p rfl rfl rfl (.s 5 rfl (.s 6 rfl .nil)) (q_call (f := 126) (A := EqA (.int .i64 t3392)) (xs := [.tmp 5, .tmp 6]) («as» := [SlcA kEdgeType a0, FnA Tryz.prog (fun (x : EdgeType) => [AggA [EqA (strV x.fName), EqA (.int .i64 x.fFrom), EqA (.int .i64 x.fTo), EqA (.int .i64 x.fOutLow), EqA (.int .i64 x.fOutHigh), EqA (.int .i64 x.fInLow), EqA (.int .i64 x.fInHigh)]]) (fun (y : Bool) => EqA (.bool y)) a1]) rfl ca126 (slices_IndexFunc_EdgeType.con k a0 a1 t3392 ht3392) rfl) <| WL.p rfl rfl rfl (.s 7 rfl (.k .nil)) (q_int rfl rfl) <| WL.p rfl rfl rfl (.s 8 rfl .nil) (q_assign rfl) <| WL.nil <| QN.then_ <| W.ret ?_
 cases h
 exact QR.f1 rfl rfl (.t rfl) (.id _)
theorem types_bounded.con (k : Nat) (a0 : Int) (a1 : Int) (r : Bool) (h : types_bounded k a0 a1 = some r) : Con Tryz.prog 111 [] [EqA (.int .i64 a0), EqA (.int .i64 a1)] (RA (EqA (.bool r))) := by
 unfold types_bounded at h
 refine Con.of (N := 24) Tryz.func111 rfl rfl rfl fun w0_ fg_ => W.seq <| W.region <| WL.p rfl rfl rfl (.k .nil) (q_assign rfl) <| WL.nil <| QN.then_ <| W.seq ?_
 refine W.jn1 (Γ := Unit) (fun (_ : Unit) (x4 : Bool) => [(4, EqA (.bool x4))]) (fun (_ : Unit) (_ : Bool) => []) h (fun _ x4 h => ?_) (fun j3398 Kj3398 h => ?_)
 ·refine QN.then_ <| W.ret ?_
  cases h
  exact QR.f1 rfl rfl (.t rfl) (.id _)
 ·refine W.region <| WL.p rfl rfl rfl (.s 0 rfl .nil) (q_move rfl) <| WL.p rfl rfl rfl (.s 5 rfl (.k .nil)) (q_int rfl rfl) <| WL.p rfl rfl rfl (.s 6 rfl .nil) (q_move rfl) ?_
  rcases bif_s h with ⟨hb3399, h⟩ | ⟨hb3399, h⟩
  ·refine WL.q (Wanted.on rfl rfl rfl hb3399) rfl rfl (.s 0 rfl .nil) (q_move rfl).o <| WL.q (Wanted.on rfl rfl rfl hb3399) rfl rfl (.s 8 rfl (.k .nil)) (q_int rfl rfl).o <| WL.p rfl rfl rfl (.s 7 rfl (.s 9 rfl .nil)) (q_pickT rfl hb3399) <| WL.p rfl rfl rfl (.s 10 rfl .nil) (q_move rfl) ?_
   rcases bif_s h with ⟨hb3400, h⟩ | ⟨hb3400, h⟩
   ·refine WL.q (Wanted.on rfl rfl rfl hb3400) rfl rfl (.s 1 rfl .nil) (q_move rfl).o <| WL.q (Wanted.on rfl rfl rfl hb3400) rfl rfl (.s 12 rfl (.k .nil)) (q_int rfl rfl).o <| WL.q (Wanted.on rfl rfl rfl hb3400) rfl rfl (.s 13 rfl .nil) (q_move rfl).o ?_
    rcases bif_s h with ⟨hb3401, h⟩ | ⟨hb3401, h⟩
    ·refine WL.skip (Unwanted.on rfl rfl rfl hb3401) rfl rfl <| WL.skip (Unwanted.on rfl rfl rfl hb3401) rfl rfl <| WL.skip (Unwanted.on rfl rfl rfl hb3401) rfl rfl <| WL.skip (Unwanted.on rfl rfl rfl hb3401) rfl rfl <| WL.skip (Unwanted.und rfl rfl rfl) rfl rfl <| WL.skip (Unwanted.und rfl rfl rfl) rfl rfl <| WL.skip (Unwanted.on rfl rfl rfl hb3401) rfl rfl <| WL.q (Wanted.on rfl rfl rfl hb3400) rfl rfl (.s 14 rfl (.k .nil)) (q_pickT rfl hb3401).o <| WL.p rfl rfl rfl (.s 11 rfl (.s 22 rfl .nil)) (q_pickT rfl hb3400) <| WL.p rfl rfl rfl (.s 23 rfl .nil) (q_assign rfl) <| WL.nil ?_
     exact QN.weaken (.one rfl (.nil _)) (Kj3398 () true h)
    ·refine WL.q (Wanted.on rfl rfl rfl hb3401) rfl rfl (.s 1 rfl .nil) (q_move rfl).o <| WL.q (Wanted.on rfl rfl rfl hb3401) rfl rfl (.s 0 rfl .nil) (q_move rfl).o <| WL.q (Wanted.on rfl rfl rfl hb3401) rfl rfl (.s 15 rfl (.s 16 rfl .nil)) (q_int rfl rfl).o <| WL.q (Wanted.on rfl rfl rfl hb3401) rfl rfl (.s 17 rfl .nil) (q_move rfl).o ?_
     rcases bif_s h with ⟨hb3402, h⟩ | ⟨hb3402, h⟩
     ·refine WL.q (Wanted.on rfl rfl rfl hb3402) rfl rfl (.s 1 rfl .nil) (q_move rfl).o <| WL.q (Wanted.on rfl rfl rfl hb3402) rfl rfl (.s 19 rfl (.k .nil)) (q_int rfl rfl).o <| WL.q (Wanted.on rfl rfl rfl hb3401) rfl rfl (.s 18 rfl (.s 20 rfl .nil)) (q_pickT rfl hb3402).o <| WL.q (Wanted.on rfl rfl rfl hb3400) rfl rfl (.s 14 rfl (.s 21 rfl .nil)) (q_pickF rfl hb3401).o <| WL.p rfl rfl rfl (.s 11 rfl (.s 22 rfl .nil)) (q_pickT rfl hb3400) <| WL.p rfl rfl rfl (.s 23 rfl .nil) (q_assign rfl) <| WL.nil ?_
      exact QN.weaken (.one rfl (.nil _)) (Kj3398 () (decide (a1 ≤ 40)) h)
     ·refine WL.skip (Unwanted.on rfl rfl rfl hb3402) rfl rfl <| WL.skip (Unwanted.on rfl rfl rfl hb3402) rfl rfl <| WL.q (Wanted.on rfl rfl rfl hb3401) rfl rfl (.s 18 rfl (.k .nil)) (q_pickF rfl hb3402).o <| WL.q (Wanted.on rfl rfl rfl hb3400) rfl rfl (.s 14 rfl (.s 21 rfl .nil)) (q_pickF rfl hb3401).o <| WL.p rfl rfl rfl (.s 11 rfl (.s 22 rfl .nil)) (q_pickT rfl hb3400) <| WL.p rfl rfl rfl (.s 23 rfl .nil) (q_assign rfl) <| WL.nil ?_
      exact QN.weaken (.one rfl (.nil _)) (Kj3398 () false h)
   ·refine WL.skip (Unwanted.on rfl rfl rfl hb3400) rfl rfl <| WL.skip (Unwanted.on rfl rfl rfl hb3400) rfl rfl <| WL.skip (Unwanted.on rfl rfl rfl hb3400) rfl rfl <| WL.skip (Unwanted.und rfl rfl rfl) rfl rfl <| WL.skip (Unwanted.und rfl rfl rfl) rfl rfl <| WL.skip (Unwanted.und rfl rfl rfl) rfl rfl <| WL.skip (Unwanted.und rfl rfl rfl) rfl rfl <| WL.skip (Unwanted.und rfl rfl rfl) rfl rfl <| WL.skip (Unwanted.und rfl rfl rfl) rfl rfl <| WL.skip (Unwanted.und rfl rfl rfl) rfl rfl <| WL.skip (Unwanted.on rfl rfl rfl hb3400) rfl rfl <| WL.p rfl rfl rfl (.s 11 rfl (.k .nil)) (q_pickF rfl hb3400) <| WL.p rfl rfl rfl (.s 23 rfl .nil) (q_assign rfl) ?_
    refine WL.nil ?_
    exact QN.weaken (.one rfl (.nil _)) (Kj3398 () false h)
  ·refine WL.skip (Unwanted.on rfl rfl rfl hb3399) rfl rfl <| WL.skip (Unwanted.on rfl rfl rfl hb3399) rfl rfl <| WL.p rfl rfl rfl (.s 7 rfl (.k .nil)) (q_pickF rfl hb3399) <| WL.p rfl rfl rfl (.s 10 rfl .nil) (q_move rfl) <| WL.skip (Unwanted.on rfl rfl rfl rfl) rfl rfl <| WL.skip (Unwanted.on rfl rfl rfl rfl) rfl rfl <| WL.skip (Unwanted.on rfl rfl rfl rfl) rfl rfl <| WL.skip (Unwanted.und rfl rfl rfl) rfl rfl <| WL.skip (Unwanted.und rfl rfl rfl) rfl rfl <| WL.skip (Unwanted.und rfl rfl rfl) rfl rfl <| WL.skip (Unwanted.und rfl rfl rfl) rfl rfl <| WL.skip (Unwanted.und rfl rfl rfl) rfl rfl <| WL.skip (Unwanted.und rfl rfl rfl) rfl rfl ?_
   refine WL.skip (Unwanted.und rfl rfl rfl) rfl rfl <| WL.skip (Unwanted.on rfl rfl rfl rfl) rfl rfl <| WL.p rfl rfl rfl (.s 11 rfl (.k .nil)) (q_pickF rfl rfl) <| WL.p rfl rfl rfl (.s 23 rfl .nil) (q_assign rfl) <| WL.nil ?_
   exact QN.weaken (.one rfl (.nil _)) (Kj3398 () false h)
end Go.Proofs.YtelpgjfojhcjcaaGreat
