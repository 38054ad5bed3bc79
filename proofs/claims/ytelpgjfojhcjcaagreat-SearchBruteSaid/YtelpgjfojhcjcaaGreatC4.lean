/- The Go functions compute the pure ones. (Printed by gen.py.) -/
import Derived.Test.YtelpgjfojhcjcaaGreatC3
namespace Go.Proofs.YtelpgjfojhcjcaaGreat
open Go Go.Abs
attribute [local irreducible] Tryz.prog
theorem types_edge.con (k : Nat) (a0 : Types) (a1 : Int) (r : Int) (h : types_edge k a0 a1 = some r) : Con Tryz.prog 77 [] [AggA [SlcA kNodeType a0.fNodes, SlcA kEdgeType a0.fEdges], EqA (.int .i64 a1)] (RA (EqA (.int .i64 r))) := by
 unfold types_edge at h
 refine Con.of (N := 52) Tryz.func77 rfl rfl rfl fun w0_ fg_ => W.seq <| W.region <| WL.p rfl rfl rfl (.s 0 rfl .nil) (q_box rfl (CellsOf.agg _)) <| WL.p rfl rfl rfl (.k .nil) (q_assign rfl) <| WL.nil <| QN.then_ <| W.seq <| W.region <| WL.p rfl rfl rfl (.s 2 rfl .nil) (q_field rfl fo25_1 rfl) <| WL.p rfl rfl rfl (.s 7 rfl .nil) (q_load rfl sh23) <| WL.p rfl rfl rfl (.s 1 rfl .nil) (q_move rfl) ?_
 obtain ⟨c3403, h⟩ := ite_n h
 refine WL.p rfl rfl rfl (.s 8 rfl (.s 9 rfl .nil)) (q_index rfl el23 rfl c3403.1 c3403.2) <| WL.p rfl rfl rfl (.s 10 rfl .nil) (q_loadS rfl sh96 (leB rfl) rfl) <| WL.w [] rfl (Wanted.plain rfl) rfl rfl .nil (w_alloc rfl z96 (l := [EqA (strV ([] : Str)), EqA (.int .i64 0), EqA (.int .i64 0), EqA (.int .i64 0), EqA (.int .i64 0), EqA (.int .i64 0), EqA (.int .i64 0)]) rfl) ?_
 rintro _ _ ⟨b3404, rfl, rfl⟩
 refine WL.w0 [0] rfl (Wanted.plain rfl) rfl (.s 5 rfl (.s 11 rfl .nil)) (w_store (L := [EqA (strV ((rd a0.fEdges a1).fName)), EqA (.int .i64 ((rd a0.fEdges a1).fFrom)), EqA (.int .i64 ((rd a0.fEdges a1).fTo)), EqA (.int .i64 ((rd a0.fEdges a1).fOutLow)), EqA (.int .i64 ((rd a0.fEdges a1).fOutHigh)), EqA (.int .i64 ((rd a0.fEdges a1).fInLow)), EqA (.int .i64 ((rd a0.fEdges a1).fInHigh))]) rfl sh96 (CellsOf.agg _) rfl rfl (leB rfl) rfl) ?_
 rintro _ _ ⟨rfl, rfl⟩
 refine WL.nil <| QN.to (StTo.still [0] 5 rfl rfl) <| QN.weaken (env' := [(5, _), (2, _), (1, _)]) (.one rfl (.one rfl (.one rfl (.nil _)))) <| QN.then_ <| W.seq <| W.region <| WL.p rfl rfl rfl (.s 2 rfl .nil) (q_makeFunc (xs := [.tmp 2]) (L := [PtrA [SlcA kNodeType a0.fNodes, SlcA kEdgeType a0.fEdges]]) («as» := fun (x : Int) => [EqA (.int .i64 x)]) (res := fun (y : Bool) => EqA (.bool y)) (p := (fun x => types_edge_1 k x a0)) rfl ca108 rfl (fun x y hp => (types_edge_1.con k x a0 y hp))) <| WL.p rfl rfl rfl (.s 12 rfl .nil) (q_assign rfl) <| WL.nil <| QN.then_ <| W.seq <| W.block <| W.seq ?_
 refine W.region <| WL.p rfl rfl rfl (.s 5 rfl .nil) (q_field rfl fo96_0 rfl) <| WL.p rfl rfl rfl (.s 14 rfl .nil) (q_load rfl sh9) ?_
 obtain ⟨t3405, ht3405, h⟩ := bind_s h
 refine WL.p rfl rfl rfl (.s 15 rfl .nil) (q_call (f := 103) (A := EqA (.bool t3405)) (xs := [.tmp 15]) («as» := [EqA (strV ((rd a0.fEdges a1).fName))]) rfl ca103 (token_IsName.con k ((rd a0.fEdges a1).fName) t3405 ht3405) rfl) <| WL.p rfl rfl rfl (.s 16 rfl .nil) (q_not rfl) <| WL.p rfl rfl rfl (.s 17 rfl .nil) (q_assign rfl) <| WL.nil <| QN.then_ ?_
 refine W.condP h rfl (fun hb3406 h => ?_) (fun hb3406 h => ?_)
 ·refine W.seq <| W.region <| WL.p rfl rfl rfl (.k .nil) (q_assign rfl) <| WL.nil <| QN.weaken (env' := [(4, _)]) (.one rfl (.nil _)) <| QN.then_ <| W.ret <| QR.block <| QR.then_ ?_
  cases h
  exact QR.f1 rfl rfl (.t rfl) (.id _)
 ·refine W.seq <| W.region <| WL.p rfl rfl rfl (.s 2 rfl .nil) (q_field rfl fo25_1 rfl) <| WL.p rfl rfl rfl (.s 19 rfl .nil) (q_load rfl sh23) <| WL.p rfl rfl rfl (.s 1 rfl .nil) (q_move rfl) ?_
  obtain ⟨c3407, h⟩ := ite_n h
  refine WL.p rfl rfl rfl (.s 20 rfl (.s 21 rfl .nil)) (q_subH rfl el23 rfl c3407.1 c3407.2) <| WL.p rfl rfl rfl (.s 5 rfl .nil) (q_makeFunc (xs := [.tmp 5]) (L := [PtrA [EqA (strV ((rd a0.fEdges a1).fName)), EqA (.int .i64 ((rd a0.fEdges a1).fFrom)), EqA (.int .i64 ((rd a0.fEdges a1).fTo)), EqA (.int .i64 ((rd a0.fEdges a1).fOutLow)), EqA (.int .i64 ((rd a0.fEdges a1).fOutHigh)), EqA (.int .i64 ((rd a0.fEdges a1).fInLow)), EqA (.int .i64 ((rd a0.fEdges a1).fInHigh))]]) («as» := fun (x : EdgeType) => [AggA [EqA (strV x.fName), EqA (.int .i64 x.fFrom), EqA (.int .i64 x.fTo), EqA (.int .i64 x.fOutLow), EqA (.int .i64 x.fOutHigh), EqA (.int .i64 x.fInLow), EqA (.int .i64 x.fInHigh)]]) (res := fun (y : Bool) => EqA (.bool y)) (p := (fun x => types_edge_2 k x (rd a0.fEdges a1))) rfl ca110 rfl (fun x y hp => (types_edge_2.con k x (rd a0.fEdges a1) y hp))) ?_
  obtain ⟨t3408, ht3408, h⟩ := bind_s h
  refine WL.p rfl rfl rfl (.s 22 rfl (.s 23 rfl .nil)) (q_call (f := 109) (A := EqA (.bool t3408)) (xs := [.tmp 22, .tmp 23]) («as» := [SlcA kEdgeType (a0.fEdges.take (a1 : Int).toNat), FnA Tryz.prog (fun (x : EdgeType) => [AggA [EqA (strV x.fName), EqA (.int .i64 x.fFrom), EqA (.int .i64 x.fTo), EqA (.int .i64 x.fOutLow), EqA (.int .i64 x.fOutHigh), EqA (.int .i64 x.fInLow), EqA (.int .i64 x.fInHigh)]]) (fun (y : Bool) => EqA (.bool y)) (fun x => types_edge_2 k x (rd a0.fEdges a1))]) rfl ca109 (slices_ContainsFunc_EdgeType.con k (a0.fEdges.take (a1 : Int).toNat) (fun x => types_edge_2 k x (rd a0.fEdges a1)) t3408 ht3408) rfl) <| WL.p rfl rfl rfl (.s 24 rfl .nil) (q_assign rfl) <| WL.nil <| QN.weaken (env' := [(18, _), (6, _), (5, _)]) (.one rfl (.one rfl (.one rfl (.nil _)))) <| QN.then_ ?_
  refine W.condP h rfl (fun hb3409 h => ?_) (fun hb3409 h => ?_)
  ·refine W.seq <| W.region <| WL.p rfl rfl rfl (.k .nil) (q_assign rfl) <| WL.nil <| QN.then_ <| W.ret <| QR.block <| QR.then_ ?_
   cases h
   exact QR.f1 rfl rfl (.t rfl) (.id _)
  ·refine W.seq <| W.seq ?_
   refine W.jn1 (Γ := Unit) (fun (_ : Unit) (x25 : Bool) => [(5, PtrA [EqA (strV ((rd a0.fEdges a1).fName)), EqA (.int .i64 ((rd a0.fEdges a1).fFrom)), EqA (.int .i64 ((rd a0.fEdges a1).fTo)), EqA (.int .i64 ((rd a0.fEdges a1).fOutLow)), EqA (.int .i64 ((rd a0.fEdges a1).fOutHigh)), EqA (.int .i64 ((rd a0.fEdges a1).fInLow)), EqA (.int .i64 ((rd a0.fEdges a1).fInHigh))]), (25, EqA (.bool x25))]) (fun (_ : Unit) (_ : Bool) => []) h (fun _ x25 h => ?_) (fun j3414 Kj3414 h => ?_)
   ·refine QN.then_ ?_
    refine W.condP h rfl (fun hb3424 h => ?_) (fun hb3424 h => ?_)
    ·refine W.skip <| QN.then_ <| W.condT rfl hb3424 <| W.seq <| W.region <| WL.p rfl rfl rfl (.k .nil) (q_assign rfl) <| WL.nil <| QN.then_ <| W.ret <| QR.block <| QR.then_ ?_
     cases h
     exact QR.f1 rfl rfl (.t rfl) (.id _)
    ·refine W.jn1 (Γ := Unit) (fun (_ : Unit) (x25' : Bool) => [(25, EqA (.bool x25'))]) (fun (_ : Unit) (_ : Bool) => []) h (fun _ x25' h => ?_) (fun j3429 Kj3429 h => ?_)
     ·refine QN.then_ ?_
      refine W.condP h rfl (fun hb3430 h => ?_) (fun hb3430 h => ?_)
      ·refine W.seq <| W.region <| WL.p rfl rfl rfl (.k .nil) (q_assign rfl) <| WL.nil <| QN.then_ <| W.ret <| QR.block <| QR.then_ ?_
       cases h
       exact QR.f1 rfl rfl (.t rfl) (.id _)
      ·refine W.skip <| QN.block <| QN.then_ <| W.seq <| W.region <| WL.p rfl rfl rfl (.k .nil) (q_assign rfl) <| WL.nil <| QN.then_ <| W.ret ?_
       cases h
       exact QR.f1 rfl rfl (.t rfl) (.id _)
     ·refine W.region <| WL.p rfl rfl rfl (.s 5 rfl .nil) (q_field rfl fo96_3 rfl) <| WL.p rfl rfl rfl (.s 38 rfl .nil) (q_load rfl sh3) <| WL.p rfl rfl rfl (.s 5 rfl .nil) (q_field rfl fo96_4 rfl) <| WL.p rfl rfl rfl (.s 40 rfl .nil) (q_load rfl sh3) ?_
      obtain ⟨t3431, ht3431, h⟩ := bind_s h
      refine WL.p rfl rfl rfl (.s 39 rfl (.s 41 rfl .nil)) (q_call (f := 111) (A := EqA (.bool t3431)) (xs := [.tmp 39, .tmp 41]) («as» := [EqA (.int .i64 ((rd a0.fEdges a1).fOutLow)), EqA (.int .i64 ((rd a0.fEdges a1).fOutHigh))]) rfl ca111 (types_bounded.con k ((rd a0.fEdges a1).fOutLow) ((rd a0.fEdges a1).fOutHigh) t3431 ht3431) rfl) <| WL.p rfl rfl rfl (.s 42 rfl .nil) (q_not rfl) <| WL.p rfl rfl rfl (.s 43 rfl .nil) (q_move rfl) ?_
      rcases bif_s h with ⟨hb3432, h⟩ | ⟨hb3432, h⟩
      ·refine WL.skip (Unwanted.on rfl rfl rfl hb3432) rfl rfl <| WL.skip (Unwanted.on rfl rfl rfl hb3432) rfl rfl <| WL.skip (Unwanted.on rfl rfl rfl hb3432) rfl rfl <| WL.skip (Unwanted.on rfl rfl rfl hb3432) rfl rfl <| WL.skip (Unwanted.on rfl rfl rfl hb3432) rfl rfl <| WL.skip (Unwanted.on rfl rfl rfl hb3432) rfl rfl <| WL.p rfl rfl rfl (.s 44 rfl (.k .nil)) (q_pickT rfl hb3432) <| WL.p rfl rfl rfl (.s 51 rfl .nil) (q_assign rfl) <| WL.nil ?_
       exact QN.weaken (.one rfl (.nil _)) (Kj3429 () true h)
      ·refine WL.q (Wanted.on rfl rfl rfl hb3432) rfl rfl (.s 5 rfl .nil) (q_field rfl fo96_5 rfl).o <| WL.q (Wanted.on rfl rfl rfl hb3432) rfl rfl (.s 45 rfl .nil) (q_load rfl sh3).o <| WL.q (Wanted.on rfl rfl rfl hb3432) rfl rfl (.s 5 rfl .nil) (q_field rfl fo96_6 rfl).o <| WL.q (Wanted.on rfl rfl rfl hb3432) rfl rfl (.s 47 rfl .nil) (q_load rfl sh3).o ?_
       obtain ⟨t3433, ht3433, h⟩ := bind_s h
       refine WL.q (Wanted.on rfl rfl rfl hb3432) rfl rfl (.s 46 rfl (.s 48 rfl .nil)) (q_call (f := 111) (A := EqA (.bool t3433)) (xs := [.tmp 46, .tmp 48]) («as» := [EqA (.int .i64 ((rd a0.fEdges a1).fInLow)), EqA (.int .i64 ((rd a0.fEdges a1).fInHigh))]) rfl ca111 (types_bounded.con k ((rd a0.fEdges a1).fInLow) ((rd a0.fEdges a1).fInHigh) t3433 ht3433) rfl).o <| WL.q (Wanted.on rfl rfl rfl hb3432) rfl rfl (.s 49 rfl .nil) (q_not rfl).o <| WL.p rfl rfl rfl (.s 44 rfl (.s 50 rfl .nil)) (q_pickF rfl hb3432) <| WL.p rfl rfl rfl (.s 51 rfl .nil) (q_assign rfl) <| WL.nil ?_
       exact QN.weaken (.one rfl (.nil _)) (Kj3429 () (!t3433) h)
   ·refine W.region <| WL.p rfl rfl rfl (.s 6 rfl .nil) (q_move rfl) <| WL.p rfl rfl rfl (.s 5 rfl .nil) (q_field rfl fo96_1 rfl) <| WL.p rfl rfl rfl (.s 27 rfl .nil) (q_load rfl sh3) ?_
    obtain ⟨t3434, ht3434, h⟩ := bind_s h
    refine WL.p rfl rfl rfl (.s 26 rfl (.s 28 rfl .nil)) (q_callV («as» := fun (x : Int) => [EqA (.int .i64 x)]) (res := fun (y : Bool) => EqA (.bool y)) (x := (rd a0.fEdges a1).fFrom) (y := t3434) (xs := [.tmp 28]) rfl ht3434 rfl) <| WL.p rfl rfl rfl (.s 29 rfl .nil) (q_not rfl) <| WL.p rfl rfl rfl (.s 30 rfl .nil) (q_move rfl) ?_
    rcases bif_s h with ⟨hb3435, h⟩ | ⟨hb3435, h⟩
    ·refine WL.skip (Unwanted.on rfl rfl rfl hb3435) rfl rfl <| WL.skip (Unwanted.on rfl rfl rfl hb3435) rfl rfl <| WL.skip (Unwanted.on rfl rfl rfl hb3435) rfl rfl <| WL.skip (Unwanted.on rfl rfl rfl hb3435) rfl rfl <| WL.skip (Unwanted.on rfl rfl rfl hb3435) rfl rfl <| WL.p rfl rfl rfl (.s 31 rfl (.k .nil)) (q_pickT rfl hb3435) <| WL.p rfl rfl rfl (.s 37 rfl .nil) (q_assign rfl) <| WL.nil ?_
     exact QN.weaken (.one rfl (.one rfl (.nil _))) (Kj3414 () true h)
    ·refine WL.q (Wanted.on rfl rfl rfl hb3435) rfl rfl (.s 6 rfl .nil) (q_move rfl).o <| WL.q (Wanted.on rfl rfl rfl hb3435) rfl rfl (.s 5 rfl .nil) (q_field rfl fo96_2 rfl).o <| WL.q (Wanted.on rfl rfl rfl hb3435) rfl rfl (.s 33 rfl .nil) (q_load rfl sh3).o ?_
     obtain ⟨t3436, ht3436, h⟩ := bind_s h
     refine WL.q (Wanted.on rfl rfl rfl hb3435) rfl rfl (.s 32 rfl (.s 34 rfl .nil)) (q_callV («as» := fun (x : Int) => [EqA (.int .i64 x)]) (res := fun (y : Bool) => EqA (.bool y)) (x := (rd a0.fEdges a1).fTo) (y := t3436) (xs := [.tmp 34]) rfl ht3436 rfl).o <| WL.q (Wanted.on rfl rfl rfl hb3435) rfl rfl (.s 35 rfl .nil) (q_not rfl).o <| WL.p rfl rfl rfl (.s 31 rfl (.s 36 rfl .nil)) (q_pickF rfl hb3435) <| WL.p rfl rfl rfl (.s 37 rfl .nil) (q_assign rfl) <| WL.nil ?_
     exact QN.weaken (.one rfl (.one rfl (.nil _))) (Kj3414 () (!t3436) h)
theorem types_Valid.con (k : Nat) (a0 : Types) (r : (Str × Int)) (h : types_Valid k a0 = some r) : Con Tryz.prog 57 [] [AggA [SlcA kNodeType a0.fNodes, SlcA kEdgeType a0.fEdges]] (RA (TupA [EqA (strV r.1), EqA (.int .i64 r.2)])) := by
 unfold types_Valid at h
 refine Con.of (N := 60) Tryz.func57 rfl rfl rfl fun w0_ fg_ => W.seq <| W.region <| WL.p rfl rfl rfl (.s 0 rfl .nil) (q_box rfl (CellsOf.agg _)) <| WL.p rfl rfl rfl (.k .nil) (q_assign rfl) <| WL.p rfl rfl rfl (.k .nil) (q_assign rfl) <| WL.nil <| QN.then_ <| W.seq <| W.block <| W.seq <| W.region <| WL.p rfl rfl rfl (.s 1 rfl .nil) (q_field rfl fo25_0 rfl) ?_
 refine WL.p rfl rfl rfl (.s 11 rfl .nil) (q_load rfl sh22) <| WL.p rfl rfl rfl (.s 12 rfl .nil) (q_len rfl elS22) <| WL.p rfl rfl rfl (.s 13 rfl (.k .nil)) (q_int rfl rfl) <| WL.p rfl rfl rfl (.s 14 rfl .nil) (q_assign rfl) <| WL.nil <| QN.weaken (env' := [(10, _), (1, _)]) (.one rfl (.one rfl (.nil _))) <| QN.then_ ?_
 refine W.condP h rfl (fun hb3437 h => ?_) (fun hb3437 h => ?_)
 ·refine W.seq <| W.region <| WL.p rfl rfl rfl (.k .nil) (q_assign rfl) <| WL.p rfl rfl rfl (.k .nil) (q_assign rfl) <| WL.nil <| QN.then_ <| W.ret <| QR.block <| QR.then_ ?_
  cases h
  exact QR.f2 rfl rfl (.t rfl) (.t rfl) (.id _)
 ·refine W.seq ?_
  refine W.jn1 (Γ := Unit) (fun (_ : Unit) (x15 : Bool) => [(1, PtrA [SlcA kNodeType a0.fNodes, SlcA kEdgeType a0.fEdges]), (15, EqA (.bool x15))]) (fun (_ : Unit) (_ : Bool) => []) h (fun _ x15 h => ?_) (fun j3440 Kj3440 h => ?_)
  ·refine QN.then_ ?_
   refine W.condP h rfl (fun hb3441 h => ?_) (fun hb3441 h => ?_)
   ·refine W.seq <| W.region <| WL.p rfl rfl rfl (.k .nil) (q_assign rfl) <| WL.p rfl rfl rfl (.k .nil) (q_assign rfl) <| WL.nil <| QN.then_ <| W.ret <| QR.block <| QR.then_ ?_
    cases h
    exact QR.f2 rfl rfl (.t rfl) (.t rfl) (.id _)
   ·refine W.skip <| QN.block <| QN.then_ <| W.seq <| W.seq <| W.region <| WL.p rfl rfl rfl (.s 1 rfl .nil) (q_field rfl fo25_0 rfl) <| WL.p rfl rfl rfl (.s 26 rfl .nil) (q_load rfl sh22) <| WL.p rfl rfl rfl (.s 27 rfl .nil) (q_len rfl elS22) <| WL.p rfl rfl rfl (.k .nil) (q_move rfl) <| WL.nil <| QN.then_ <| W.block ?_
    refine W.loop1 (Γ := Unit) (fun (_ : Unit) (x29 : Int) => [(1, PtrA [SlcA kNodeType a0.fNodes, SlcA kEdgeType a0.fEdges]), (27, SlcA kNodeType a0.fNodes), (28, EqA (.int .i64 (a0.fNodes.length : Int))), (29, EqA (.int .i64 x29))]) (fun (_ : Unit) (_ : Int) => []) h () (.one rfl (.one rfl (.one rfl (.one rfl (.nil _))))) rfl (fun rec0 K0 next0 _ x29 h => ?_)
    unfold types_Valid.b0 at h
    refine W.seq <| W.region <| WL.p rfl rfl rfl (.s 29 rfl (.s 28 rfl .nil)) (q_int rfl rfl) <| WL.nil <| QN.then_ <| W.seq ?_
    refine W.condP h rfl (fun hb3490 h => ?_) (fun hb3490 h => ?_)
    ·refine W.skip <| QN.then_ <| W.seq <| W.block <| W.seq <| W.region <| WL.p rfl rfl rfl (.s 29 rfl .nil) (q_move rfl) ?_
     obtain ⟨c3491, h⟩ := ite_n h
     refine WL.p rfl rfl rfl (.s 27 rfl (.s 29 rfl .nil)) (q_index rfl el22 rfl c3491.1 c3491.2) <| WL.p rfl rfl rfl (.s 32 rfl .nil) (q_loadS rfl sh94 (leB rfl) rfl) <| WL.w [] rfl (Wanted.plain rfl) rfl rfl .nil (w_alloc rfl z94 (l := [EqA (strV ([] : Str)), EqA (.int .i64 0), EqA (.bool false), EqA (.slice none 0 0)]) rfl) ?_
     rintro _ _ ⟨b3492, rfl, rfl⟩
     refine WL.p rfl rfl rfl (.s 31 rfl .nil) (q_assign rfl) <| WL.w0 [0] rfl (Wanted.plain rfl) rfl (.s 5 rfl (.s 33 rfl .nil)) (w_store (L := [EqA (strV ((rd a0.fNodes x29).fName)), EqA (.int .i64 ((rd a0.fNodes x29).fParent)), EqA (.bool ((rd a0.fNodes x29).fAbstract)), SlcA kAttr ((rd a0.fNodes x29).fAttrs)]) rfl sh94 (CellsOf.agg _) rfl rfl (leB rfl) rfl) ?_
     rintro _ _ ⟨rfl, rfl⟩
     refine WL.nil <| QN.to (StTo.still [0] 5 rfl rfl) <| QN.then_ <| W.seq <| W.region <| WL.p rfl rfl rfl (.s 1 rfl .nil) (q_loadS rfl sh25 (leB rfl) rfl) <| WL.p rfl rfl rfl (.s 4 rfl .nil) (q_move rfl) ?_
     obtain ⟨t3493, ht3493, h⟩ := bind_s h
     refine WL.p rfl rfl rfl (.s 34 rfl (.s 35 rfl .nil)) (q_call (f := 76) (A := EqA (.int .i64 t3493)) (xs := [.tmp 34, .tmp 35]) («as» := [AggA [SlcA kNodeType a0.fNodes, SlcA kEdgeType a0.fEdges], EqA (.int .i64 x29)]) rfl ca76 (types_node.con k a0 x29 t3493 ht3493) rfl) <| WL.p rfl rfl rfl (.s 36 rfl .nil) (q_assign rfl) <| WL.nil <| QN.weaken (env' := [(6, _), (5, _), (29, _), (28, _), (27, _), (1, _)]) (.one rfl (.one rfl (.one rfl (.one rfl (.one rfl (.one rfl (.nil _))))))) <| QN.then_ <| W.seq <| W.region <| WL.p rfl rfl rfl (.s 6 rfl .nil) (q_move rfl) <| WL.p rfl rfl rfl (.s 37 rfl (.k .nil)) (q_int rfl rfl) <| WL.nil <| QN.then_ ?_
     refine W.condP h rfl (fun hb3494 h => ?_) (fun hb3494 h => ?_)
     ·refine W.seq <| W.region <| WL.p rfl rfl rfl (.s 5 rfl .nil) (q_field rfl fo94_0 rfl) <| WL.p rfl rfl rfl (.s 39 rfl .nil) (q_load rfl sh9) <| WL.p rfl rfl rfl (.s 6 rfl .nil) (q_move rfl) <| WL.p rfl rfl rfl (.s 40 rfl .nil) (q_assign rfl) <| WL.p rfl rfl rfl (.s 41 rfl .nil) (q_assign rfl) <| WL.nil <| QN.weaken (env' := [(3, _), (2, _)]) (.one rfl (.one rfl (.nil _))) <| QN.then_ <| W.ret <| QR.block <| QR.then_ ?_
      refine QR.then_ <| QR.block <| QR.then_ ?_
      cases h
      exact QR.f2 rfl rfl (.t rfl) (.t rfl) (.id _)
     ·refine W.skip <| QN.block <| QN.then_ <| W.region ?_
      obtain ⟨c3495, h⟩ := ite_n h
      refine WL.p rfl rfl rfl (.s 29 rfl (.k .nil)) (q_addR rfl c3495) <| WL.p rfl rfl rfl (.s 42 rfl .nil) (q_move rfl) <| WL.nil ?_
      exact next0 () (x29 + 1) _ h (.one rfl (.one rfl (.one rfl (.one rfl (.nil _)))))
    ·refine W.exit <| QX.then_ <| QX.then_ <| QX.here <| QN.then_ <| W.seq <| W.seq <| W.region <| WL.p rfl rfl rfl (.s 1 rfl .nil) (q_field rfl fo25_1 rfl) <| WL.p rfl rfl rfl (.s 43 rfl .nil) (q_load rfl sh23) <| WL.p rfl rfl rfl (.s 44 rfl .nil) (q_len rfl elS23) <| WL.p rfl rfl rfl (.k .nil) (q_move rfl) <| WL.nil ?_
     refine QN.then_ <| W.block ?_
     refine W.loop1 (Γ := Unit) (fun (_ : Unit) (x46 : Int) => [(1, PtrA [SlcA kNodeType a0.fNodes, SlcA kEdgeType a0.fEdges]), (44, SlcA kEdgeType a0.fEdges), (45, EqA (.int .i64 (a0.fEdges.length : Int))), (46, EqA (.int .i64 x46))]) (fun (_ : Unit) (_ : Int) => []) h () (.one rfl (.one rfl (.one rfl (.one rfl (.nil _))))) rfl (fun rec1 K1 next1 _ x46 h => ?_)
     unfold types_Valid.b1 at h
     refine W.seq <| W.region <| WL.p rfl rfl rfl (.s 46 rfl (.s 45 rfl .nil)) (q_int rfl rfl) <| WL.nil <| QN.then_ <| W.seq ?_
     refine W.condP h rfl (fun hb3508 h => ?_) (fun hb3508 h => ?_)
     ·refine W.skip <| QN.then_ <| W.seq <| W.block <| W.seq <| W.region <| WL.p rfl rfl rfl (.s 46 rfl .nil) (q_move rfl) ?_
      obtain ⟨c3509, h⟩ := ite_n h
      refine WL.p rfl rfl rfl (.s 44 rfl (.s 46 rfl .nil)) (q_index rfl el23 rfl c3509.1 c3509.2) <| WL.p rfl rfl rfl (.s 49 rfl .nil) (q_loadS rfl sh96 (leB rfl) rfl) <| WL.w [] rfl (Wanted.plain rfl) rfl rfl .nil (w_alloc rfl z96 (l := [EqA (strV ([] : Str)), EqA (.int .i64 0), EqA (.int .i64 0), EqA (.int .i64 0), EqA (.int .i64 0), EqA (.int .i64 0), EqA (.int .i64 0)]) rfl) ?_
      rintro _ _ ⟨b3510, rfl, rfl⟩
      refine WL.p rfl rfl rfl (.s 48 rfl .nil) (q_assign rfl) <| WL.w0 [0] rfl (Wanted.plain rfl) rfl (.s 8 rfl (.s 50 rfl .nil)) (w_store (L := [EqA (strV ((rd a0.fEdges x46).fName)), EqA (.int .i64 ((rd a0.fEdges x46).fFrom)), EqA (.int .i64 ((rd a0.fEdges x46).fTo)), EqA (.int .i64 ((rd a0.fEdges x46).fOutLow)), EqA (.int .i64 ((rd a0.fEdges x46).fOutHigh)), EqA (.int .i64 ((rd a0.fEdges x46).fInLow)), EqA (.int .i64 ((rd a0.fEdges x46).fInHigh))]) rfl sh96 (CellsOf.agg _) rfl rfl (leB rfl) rfl) ?_
      rintro _ _ ⟨rfl, rfl⟩
      refine WL.nil <| QN.to (StTo.still [0] 8 rfl rfl) <| QN.then_ <| W.seq <| W.region <| WL.p rfl rfl rfl (.s 1 rfl .nil) (q_loadS rfl sh25 (leB rfl) rfl) <| WL.p rfl rfl rfl (.s 7 rfl .nil) (q_move rfl) ?_
      obtain ⟨t3511, ht3511, h⟩ := bind_s h
      refine WL.p rfl rfl rfl (.s 51 rfl (.s 52 rfl .nil)) (q_call (f := 77) (A := EqA (.int .i64 t3511)) (xs := [.tmp 51, .tmp 52]) («as» := [AggA [SlcA kNodeType a0.fNodes, SlcA kEdgeType a0.fEdges], EqA (.int .i64 x46)]) rfl ca77 (types_edge.con k a0 x46 t3511 ht3511) rfl) <| WL.p rfl rfl rfl (.s 53 rfl .nil) (q_assign rfl) <| WL.nil <| QN.weaken (env' := [(9, _), (8, _), (46, _), (45, _), (44, _), (1, _)]) (.one rfl (.one rfl (.one rfl (.one rfl (.one rfl (.one rfl (.nil _))))))) <| QN.then_ <| W.seq <| W.region <| WL.p rfl rfl rfl (.s 9 rfl .nil) (q_move rfl) <| WL.p rfl rfl rfl (.s 54 rfl (.k .nil)) (q_int rfl rfl) <| WL.nil <| QN.then_ ?_
      refine W.condP h rfl (fun hb3512 h => ?_) (fun hb3512 h => ?_)
      ·refine W.seq <| W.region <| WL.p rfl rfl rfl (.s 8 rfl .nil) (q_field rfl fo96_0 rfl) <| WL.p rfl rfl rfl (.s 56 rfl .nil) (q_load rfl sh9) <| WL.p rfl rfl rfl (.s 9 rfl .nil) (q_move rfl) <| WL.p rfl rfl rfl (.s 57 rfl .nil) (q_assign rfl) <| WL.p rfl rfl rfl (.s 58 rfl .nil) (q_assign rfl) <| WL.nil <| QN.weaken (env' := [(3, _), (2, _)]) (.one rfl (.one rfl (.nil _))) <| QN.then_ <| W.ret <| QR.block <| QR.then_ ?_
       refine QR.then_ <| QR.block <| QR.then_ ?_
       cases h
       exact QR.f2 rfl rfl (.t rfl) (.t rfl) (.id _)
      ·refine W.skip <| QN.block <| QN.then_ <| W.region ?_
       obtain ⟨c3513, h⟩ := ite_n h
       refine WL.p rfl rfl rfl (.s 46 rfl (.k .nil)) (q_addR rfl c3513) <| WL.p rfl rfl rfl (.s 59 rfl .nil) (q_move rfl) <| WL.nil ?_
       exact next1 () (x46 + 1) _ h (.one rfl (.one rfl (.one rfl (.one rfl (.nil _)))))
     ·refine W.exit <| QX.then_ <| QX.then_ <| QX.here <| QN.then_ <| W.seq <| W.region <| WL.p rfl rfl rfl (.k .nil) (q_assign rfl) <| WL.p rfl rfl rfl (.k .nil) (q_assign rfl) <| WL.nil <| QN.then_ <| W.ret ?_
      cases h
      exact QR.f2 rfl rfl (.t rfl) (.t rfl) (.id _)
  ·refine W.region <| WL.p rfl rfl rfl (.s 1 rfl .nil) (q_field rfl fo25_0 rfl) <| WL.p rfl rfl rfl (.s 16 rfl .nil) (q_load rfl sh22) <| WL.p rfl rfl rfl (.s 17 rfl .nil) (q_len rfl elS22) <| WL.p rfl rfl rfl (.s 18 rfl (.k .nil)) (q_int rfl rfl) <| WL.p rfl rfl rfl (.s 19 rfl .nil) (q_move rfl) ?_
   rcases bif_s h with ⟨hb3514, h⟩ | ⟨hb3514, h⟩
   ·refine WL.skip (Unwanted.on rfl rfl rfl hb3514) rfl rfl <| WL.skip (Unwanted.on rfl rfl rfl hb3514) rfl rfl <| WL.skip (Unwanted.on rfl rfl rfl hb3514) rfl rfl <| WL.skip (Unwanted.on rfl rfl rfl hb3514) rfl rfl <| WL.p rfl rfl rfl (.s 20 rfl (.k .nil)) (q_pickT rfl hb3514) <| WL.p rfl rfl rfl (.s 25 rfl .nil) (q_assign rfl) <| WL.nil ?_
    exact QN.weaken (.one rfl (.one rfl (.nil _))) (Kj3440 () true h)
   ·refine WL.q (Wanted.on rfl rfl rfl hb3514) rfl rfl (.s 1 rfl .nil) (q_field rfl fo25_1 rfl).o <| WL.q (Wanted.on rfl rfl rfl hb3514) rfl rfl (.s 21 rfl .nil) (q_load rfl sh23).o <| WL.q (Wanted.on rfl rfl rfl hb3514) rfl rfl (.s 22 rfl .nil) (q_len rfl elS23).o <| WL.q (Wanted.on rfl rfl rfl hb3514) rfl rfl (.s 23 rfl (.k .nil)) (q_int rfl rfl).o <| WL.p rfl rfl rfl (.s 20 rfl (.s 24 rfl .nil)) (q_pickF rfl hb3514) <| WL.p rfl rfl rfl (.s 25 rfl .nil) (q_assign rfl) <| WL.nil ?_
    exact QN.weaken (.one rfl (.one rfl (.nil _))) (Kj3440 () (decide ((a0.fEdges.length : Int) > 20)) h)
theorem slices_IndexFunc_int.con (k : Nat) (a0 : (List Int)) (a1 : (Int → Option Bool)) (r : Int) (h : slices_IndexFunc_int k a0 a1 = some r) : Con Tryz.prog 94 [] [SlcA kInt a0, FnA Tryz.prog (fun (x : Int) => [EqA (.int .i64 x)]) (fun (y : Bool) => EqA (.bool y)) a1] (RA (EqA (.int .i64 r))) := by
 unfold slices_IndexFunc_int at h
 refine Con.of (N := 19) Tryz.func94 rfl rfl rfl fun w0_ fg_ => W.seq <| W.region <| WL.p rfl rfl rfl (.k .nil) (q_assign rfl) <| WL.nil <| QN.then_ <| W.seq <| W.seq <| W.region <| WL.p rfl rfl rfl (.s 0 rfl .nil) (q_move rfl) <| WL.p rfl rfl rfl (.s 6 rfl .nil) (q_len rfl elS26) <| WL.p rfl rfl rfl (.k .nil) (q_move rfl) <| WL.nil ?_
 refine QN.then_ <| W.block ?_
 refine W.loop1 (Γ := Unit) (fun (_ : Unit) (x8 : Int) => [(0, SlcA kInt a0), (1, FnA Tryz.prog (fun (x : Int) => [EqA (.int .i64 x)]) (fun (y : Bool) => EqA (.bool y)) a1), (7, EqA (.int .i64 (a0.length : Int))), (8, EqA (.int .i64 x8))]) (fun (_ : Unit) (_ : Int) => []) h () (.one rfl (.one rfl (.one rfl (.one rfl (.nil _))))) rfl (fun rec0 K0 next0 _ x8 h => ?_)
 unfold slices_IndexFunc_int.b0 at h
 refine W.seq <| W.region <| WL.p rfl rfl rfl (.s 8 rfl (.s 7 rfl .nil)) (q_int rfl rfl) <| WL.nil <| QN.then_ <| W.seq ?_
 refine W.condP h rfl (fun hb3525 h => ?_) (fun hb3525 h => ?_)
 ·refine W.skip <| QN.then_ <| W.seq <| W.block <| W.seq <| W.region <| WL.p rfl rfl rfl (.s 8 rfl .nil) (q_move rfl) <| WL.p rfl rfl rfl (.s 10 rfl .nil) (q_assign rfl) <| WL.nil <| QN.then_ <| W.seq <| W.region <| WL.p rfl rfl rfl (.s 1 rfl .nil) (q_move rfl) ?_
  refine WL.p rfl rfl rfl (.s 0 rfl .nil) (q_move rfl) <| WL.p rfl rfl rfl (.s 5 rfl .nil) (q_move rfl) ?_
  obtain ⟨c3526, h⟩ := ite_n h
  refine WL.p rfl rfl rfl (.s 12 rfl (.s 13 rfl .nil)) (q_index rfl el26 rfl c3526.1 c3526.2) <| WL.p rfl rfl rfl (.s 14 rfl .nil) (q_load rfl sh3) ?_
  obtain ⟨t3527, ht3527, h⟩ := bind_s h
  refine WL.p rfl rfl rfl (.s 11 rfl (.s 15 rfl .nil)) (q_callV («as» := fun (x : Int) => [EqA (.int .i64 x)]) (res := fun (y : Bool) => EqA (.bool y)) (x := (rd a0 x8)) (y := t3527) (xs := [.tmp 15]) rfl ht3527 rfl) <| WL.nil <| QN.weaken (env' := [(16, _), (5, _), (8, _), (7, _), (1, _), (0, _)]) (.one rfl (.one rfl (.one rfl (.one rfl (.one rfl (.one rfl (.nil _))))))) <| QN.then_ ?_
  refine W.condP h rfl (fun hb3528 h => ?_) (fun hb3528 h => ?_)
  ·refine W.seq <| W.region <| WL.p rfl rfl rfl (.s 5 rfl .nil) (q_move rfl) <| WL.p rfl rfl rfl (.s 17 rfl .nil) (q_assign rfl) <| WL.nil <| QN.weaken (env' := [(4, _)]) (.one rfl (.nil _)) <| QN.then_ <| W.ret <| QR.block <| QR.then_ <| QR.then_ <| QR.block <| QR.then_ ?_
   cases h
   exact QR.f1 rfl rfl (.t rfl) (.id _)
  ·refine W.skip <| QN.block <| QN.then_ <| W.region ?_
   obtain ⟨c3529, h⟩ := ite_n h
   refine WL.p rfl rfl rfl (.s 8 rfl (.k .nil)) (q_addR rfl c3529) <| WL.p rfl rfl rfl (.s 18 rfl .nil) (q_move rfl) <| WL.nil ?_
   exact next0 () (x8 + 1) _ h (.one rfl (.one rfl (.one rfl (.one rfl (.nil _)))))
 ·refine W.exit <| QX.then_ <| QX.then_ <| QX.here <| QN.then_ <| W.seq <| W.region <| WL.p rfl rfl rfl (.k .nil) (q_assign rfl) <| WL.nil <| QN.then_ <| W.ret ?_
  cases h
  exact QR.f1 rfl rfl (.t rfl) (.id _)
theorem slices_ContainsFunc_int.con (k : Nat) (a0 : (List Int)) (a1 : (Int → Option Bool)) (r : Bool) (h : slices_ContainsFunc_int k a0 a1 = some r) : Con Tryz.prog 65 [] [SlcA kInt a0, FnA Tryz.prog (fun (x : Int) => [EqA (.int .i64 x)]) (fun (y : Bool) => EqA (.bool y)) a1] (RA (EqA (.bool r))) := by
 unfold slices_ContainsFunc_int at h
 refine Con.of (N := 9) Tryz.func65 rfl rfl rfl fun w0_ fg_ => W.seq <| W.region <| WL.p rfl rfl rfl (.k .nil) (q_assign rfl) <| WL.nil <| QN.then_ <| W.seq <| W.region <| WL.p rfl rfl rfl (.s 0 rfl .nil) (q_move rfl) <| WL.p rfl rfl rfl (.s 1 rfl .nil) (q_move rfl) ?_
 obtain ⟨t3530, ht3530, h⟩ := bind_s h
 refine WL.p rfl rfl rfl (.s 5 rfl (.s 6 rfl .nil)) (q_call (f := 94) (A := EqA (.int .i64 t3530)) (xs := [.tmp 5, .tmp 6]) («as» := [SlcA kInt a0, FnA Tryz.prog (fun (x : Int) => [EqA (.int .i64 x)]) (fun (y : Bool) => EqA (.bool y)) a1]) rfl ca94 (slices_IndexFunc_int.con k a0 a1 t3530 ht3530) rfl) <| WL.p rfl rfl rfl (.s 7 rfl (.k .nil)) (q_int rfl rfl) <| WL.p rfl rfl rfl (.s 8 rfl .nil) (q_assign rfl) <| WL.nil <| QN.then_ <| W.ret ?_
 cases h
 exact QR.f1 rfl rfl (.t rfl) (.id _)
theorem graph_within.con (k : Nat) (a0 : Int) (a1 : Int) (r : Bool) (h : graph_within k a0 a1 = some r) : Con Tryz.prog 79 [] [EqA (.int .i64 a0), EqA (.int .i64 a1)] (RA (EqA (.bool r))) := by
 unfold graph_within at h
 refine Con.of (N := 12) Tryz.func79 rfl rfl rfl fun w0_ fg_ => W.seq <| W.region <| WL.p rfl rfl rfl (.k .nil) (q_assign rfl) <| WL.nil <| QN.then_ <| W.seq ?_
 refine W.jn1 (Γ := Unit) (fun (_ : Unit) (x4 : Bool) => [(4, EqA (.bool x4))]) (fun (_ : Unit) (_ : Bool) => []) h (fun _ x4 h => ?_) (fun j3533 Kj3533 h => ?_)
 ·refine QN.then_ <| W.ret ?_
  cases h
  exact QR.f1 rfl rfl (.t rfl) (.id _)
 ·refine W.region <| WL.p rfl rfl rfl (.s 0 rfl .nil) (q_move rfl) <| WL.p rfl rfl rfl (.s 5 rfl (.k .nil)) (q_int rfl rfl) <| WL.p rfl rfl rfl (.s 6 rfl .nil) (q_move rfl) ?_
  rcases bif_s h with ⟨hb3534, h⟩ | ⟨hb3534, h⟩
  ·refine WL.q (Wanted.on rfl rfl rfl hb3534) rfl rfl (.s 0 rfl .nil) (q_move rfl).o <| WL.q (Wanted.on rfl rfl rfl hb3534) rfl rfl (.s 1 rfl .nil) (q_move rfl).o <| WL.q (Wanted.on rfl rfl rfl hb3534) rfl rfl (.s 8 rfl (.s 9 rfl .nil)) (q_int rfl rfl).o <| WL.p rfl rfl rfl (.s 7 rfl (.s 10 rfl .nil)) (q_pickT rfl hb3534) <| WL.p rfl rfl rfl (.s 11 rfl .nil) (q_assign rfl) <| WL.nil ?_
   exact QN.weaken (.one rfl (.nil _)) (Kj3533 () (decide (a0 ≤ a1)) h)
  ·refine WL.skip (Unwanted.on rfl rfl rfl hb3534) rfl rfl <| WL.skip (Unwanted.on rfl rfl rfl hb3534) rfl rfl <| WL.skip (Unwanted.on rfl rfl rfl hb3534) rfl rfl <| WL.p rfl rfl rfl (.s 7 rfl (.k .nil)) (q_pickF rfl hb3534) <| WL.p rfl rfl rfl (.s 11 rfl .nil) (q_assign rfl) <| WL.nil ?_
   exact QN.weaken (.one rfl (.nil _)) (Kj3533 () false h)
theorem graph_Valid_1.con (k : Nat) (a0 : Int) (r : Bool) (h : graph_Valid_1 k a0 = some r) : Con Tryz.prog 78 [] [EqA (.int .i64 a0)] (RA (EqA (.bool r))) := by
 unfold graph_Valid_1 at h
 refine Con.of (N := 6) Tryz.func78 rfl rfl rfl fun w0_ fg_ => W.seq <| W.region <| WL.p rfl rfl rfl (.k .nil) (q_assign rfl) <| WL.nil <| QN.then_ <| W.seq <| W.region <| WL.p rfl rfl rfl (.s 0 rfl .nil) (q_move rfl) ?_
 obtain ⟨t3535, ht3535, h⟩ := bind_s h
 refine WL.p rfl rfl rfl (.s 3 rfl (.k .nil)) (q_call (f := 79) (A := EqA (.bool t3535)) (xs := [.tmp 3, .const (.int .i64 99)]) («as» := [EqA (.int .i64 a0), EqA (.int .i64 99)]) rfl ca79 (graph_within.con k a0 99 t3535 ht3535) rfl) <| WL.p rfl rfl rfl (.s 4 rfl .nil) (q_not rfl) <| WL.p rfl rfl rfl (.s 5 rfl .nil) (q_assign rfl) <| WL.nil <| QN.then_ <| W.ret ?_
 cases h
 exact QR.f1 rfl rfl (.t rfl) (.id _)
theorem graph_fits.con (k : Nat) (a0 : Edge) (a1 : Int) (r : Bool) (h : graph_fits k a0 a1 = some r) : Con Tryz.prog 82 [] [AggA [EqA (.int .i64 a0.fType), EqA (.int .i64 a0.fFrom), EqA (.int .i64 a0.fTo)], EqA (.int .i64 a1)] (RA (EqA (.bool r))) := by
 unfold graph_fits at h
 refine Con.of (N := 22) Tryz.func82 rfl rfl rfl fun w0_ fg_ => W.seq <| W.region <| WL.p rfl rfl rfl (.s 0 rfl .nil) (q_box rfl (CellsOf.agg _)) <| WL.p rfl rfl rfl (.k .nil) (q_assign rfl) <| WL.nil <| QN.then_ <| W.seq ?_
 refine W.jn1 (Γ := Unit) (fun (_ : Unit) (x4 : Bool) => [(4, EqA (.bool x4))]) (fun (_ : Unit) (_ : Bool) => []) h (fun _ x4 h => ?_) (fun j3544 Kj3544 h => ?_)
 ·refine QN.then_ <| W.ret ?_
  cases h
  exact QR.f1 rfl rfl (.t rfl) (.id _)
 ·refine W.region <| WL.p rfl rfl rfl (.s 2 rfl .nil) (q_field rfl fo77_0 rfl) <| WL.p rfl rfl rfl (.s 5 rfl .nil) (q_load rfl sh3) ?_
  obtain ⟨t3545, ht3545, h⟩ := bind_s h
  refine WL.p rfl rfl rfl (.s 6 rfl (.k .nil)) (q_call (f := 79) (A := EqA (.bool t3545)) (xs := [.tmp 6, .const (.int .i64 99)]) («as» := [EqA (.int .i64 a0.fType), EqA (.int .i64 99)]) rfl ca79 (graph_within.con k a0.fType 99 t3545 ht3545) rfl) <| WL.p rfl rfl rfl (.s 7 rfl .nil) (q_move rfl) ?_
  rcases bif_s h with ⟨hb3546, h⟩ | ⟨hb3546, h⟩
  ·refine WL.q (Wanted.on rfl rfl rfl hb3546) rfl rfl (.s 2 rfl .nil) (q_field rfl fo77_1 rfl).o <| WL.q (Wanted.on rfl rfl rfl hb3546) rfl rfl (.s 9 rfl .nil) (q_load rfl sh3).o <| WL.q (Wanted.on rfl rfl rfl hb3546) rfl rfl (.s 1 rfl .nil) (q_move rfl).o ?_
   obtain ⟨c3547, h⟩ := ite_n h
   refine WL.q (Wanted.on rfl rfl rfl hb3546) rfl rfl (.s 11 rfl (.k .nil)) (q_subR rfl c3547).o ?_
   obtain ⟨t3548, ht3548, h⟩ := bind_s h
   refine WL.q (Wanted.on rfl rfl rfl hb3546) rfl rfl (.s 10 rfl (.s 12 rfl .nil)) (q_call (f := 79) (A := EqA (.bool t3548)) (xs := [.tmp 10, .tmp 12]) («as» := [EqA (.int .i64 a0.fFrom), EqA (.int .i64 (a1 - 1))]) rfl ca79 (graph_within.con k a0.fFrom (a1 - 1) t3548 ht3548) rfl).o <| WL.p rfl rfl rfl (.s 8 rfl (.s 13 rfl .nil)) (q_pickT rfl hb3546) <| WL.p rfl rfl rfl (.s 14 rfl .nil) (q_move rfl) ?_
   rcases bif_s h with ⟨hb3549, h⟩ | ⟨hb3549, h⟩
   ·refine WL.q (Wanted.on rfl rfl rfl hb3549) rfl rfl (.s 2 rfl .nil) (q_field rfl fo77_2 rfl).o <| WL.q (Wanted.on rfl rfl rfl hb3549) rfl rfl (.s 16 rfl .nil) (q_load rfl sh3).o <| WL.q (Wanted.on rfl rfl rfl hb3549) rfl rfl (.s 1 rfl .nil) (q_move rfl).o ?_
    obtain ⟨c3550, h⟩ := ite_n h
    refine WL.q (Wanted.on rfl rfl rfl hb3549) rfl rfl (.s 18 rfl (.k .nil)) (q_subR rfl c3550).o ?_
    obtain ⟨t3551, ht3551, h⟩ := bind_s h
    refine WL.q (Wanted.on rfl rfl rfl hb3549) rfl rfl (.s 17 rfl (.s 19 rfl .nil)) (q_call (f := 79) (A := EqA (.bool t3551)) (xs := [.tmp 17, .tmp 19]) («as» := [EqA (.int .i64 a0.fTo), EqA (.int .i64 (a1 - 1))]) rfl ca79 (graph_within.con k a0.fTo (a1 - 1) t3551 ht3551) rfl).o <| WL.p rfl rfl rfl (.s 15 rfl (.s 20 rfl .nil)) (q_pickT rfl hb3549) <| WL.p rfl rfl rfl (.s 21 rfl .nil) (q_assign rfl) <| WL.nil ?_
    exact QN.weaken (.one rfl (.nil _)) (Kj3544 () t3551 h)
   ·refine WL.skip (Unwanted.on rfl rfl rfl hb3549) rfl rfl <| WL.skip (Unwanted.on rfl rfl rfl hb3549) rfl rfl <| WL.skip (Unwanted.on rfl rfl rfl hb3549) rfl rfl <| WL.skip (Unwanted.on rfl rfl rfl hb3549) rfl rfl <| WL.skip (Unwanted.on rfl rfl rfl hb3549) rfl rfl <| WL.p rfl rfl rfl (.s 15 rfl (.k .nil)) (q_pickF rfl hb3549) <| WL.p rfl rfl rfl (.s 21 rfl .nil) (q_assign rfl) <| WL.nil ?_
    exact QN.weaken (.one rfl (.nil _)) (Kj3544 () false h)
  ·refine WL.skip (Unwanted.on rfl rfl rfl hb3546) rfl rfl <| WL.skip (Unwanted.on rfl rfl rfl hb3546) rfl rfl <| WL.skip (Unwanted.on rfl rfl rfl hb3546) rfl rfl <| WL.skip (Unwanted.on rfl rfl rfl hb3546) rfl rfl <| WL.skip (Unwanted.on rfl rfl rfl hb3546) rfl rfl <| WL.p rfl rfl rfl (.s 8 rfl (.k .nil)) (q_pickF rfl hb3546) <| WL.p rfl rfl rfl (.s 14 rfl .nil) (q_move rfl) <| WL.skip (Unwanted.on rfl rfl rfl rfl) rfl rfl <| WL.skip (Unwanted.on rfl rfl rfl rfl) rfl rfl <| WL.skip (Unwanted.on rfl rfl rfl rfl) rfl rfl <| WL.skip (Unwanted.on rfl rfl rfl rfl) rfl rfl <| WL.skip (Unwanted.on rfl rfl rfl rfl) rfl rfl <| WL.p rfl rfl rfl (.s 15 rfl (.k .nil)) (q_pickF rfl rfl) ?_
   refine WL.p rfl rfl rfl (.s 21 rfl .nil) (q_assign rfl) <| WL.nil ?_
   exact QN.weaken (.one rfl (.nil _)) (Kj3544 () false h)
theorem graph_Valid_2.con (k : Nat) (a0 : Edge) (a1 : Graph) (r : Bool) (h : graph_Valid_2 k a0 a1 = some r) : Con Tryz.prog 81 [] [AggA [EqA (.int .i64 a0.fType), EqA (.int .i64 a0.fFrom), EqA (.int .i64 a0.fTo)], PtrA [SlcA kInt a1.fNodes, SlcA kEdge a1.fEdges]] (RA (EqA (.bool r))) := by
 unfold graph_Valid_2 at h
 refine Con.of (N := 10) Tryz.func81 rfl rfl rfl fun w0_ fg_ => W.seq <| W.region <| WL.p rfl rfl rfl (.s 0 rfl .nil) (q_box rfl (CellsOf.agg _)) <| WL.p rfl rfl rfl (.k .nil) (q_assign rfl) <| WL.nil <| QN.then_ <| W.seq <| W.region <| WL.p rfl rfl rfl (.s 2 rfl .nil) (q_loadS rfl sh77 (leB rfl) rfl) <| WL.p rfl rfl rfl (.s 1 rfl .nil) (q_field rfl fo29_0 rfl) <| WL.p rfl rfl rfl (.s 5 rfl .nil) (q_load rfl sh26) <| WL.p rfl rfl rfl (.s 6 rfl .nil) (q_len rfl elS26) ?_
 obtain ⟨t3552, ht3552, h⟩ := bind_s h
 refine WL.p rfl rfl rfl (.s 4 rfl (.s 7 rfl .nil)) (q_call (f := 82) (A := EqA (.bool t3552)) (xs := [.tmp 4, .tmp 7]) («as» := [AggA [EqA (.int .i64 a0.fType), EqA (.int .i64 a0.fFrom), EqA (.int .i64 a0.fTo)], EqA (.int .i64 (a1.fNodes.length : Int))]) rfl ca82 (graph_fits.con k a0 (a1.fNodes.length : Int) t3552 ht3552) rfl) <| WL.p rfl rfl rfl (.s 8 rfl .nil) (q_not rfl) <| WL.p rfl rfl rfl (.s 9 rfl .nil) (q_assign rfl) <| WL.nil <| QN.weaken (env' := [(3, _)]) (.one rfl (.nil _)) <| QN.then_ <| W.ret ?_
 cases h
 exact QR.f1 rfl rfl (.t rfl) (.id _)
theorem slices_IndexFunc_Edge.con (k : Nat) (a0 : (List Edge)) (a1 : (Edge → Option Bool)) (r : Int) (h : slices_IndexFunc_Edge k a0 a1 = some r) : Con Tryz.prog 112 [] [SlcA kEdge a0, FnA Tryz.prog (fun (x : Edge) => [AggA [EqA (.int .i64 x.fType), EqA (.int .i64 x.fFrom), EqA (.int .i64 x.fTo)]]) (fun (y : Bool) => EqA (.bool y)) a1] (RA (EqA (.int .i64 r))) := by
 unfold slices_IndexFunc_Edge at h
 refine Con.of (N := 19) Tryz.func112 rfl rfl rfl fun w0_ fg_ => W.seq <| W.region <| WL.p rfl rfl rfl (.k .nil) (q_assign rfl) <| WL.nil <| QN.then_ <| W.seq <| W.seq <| W.region <| WL.p rfl rfl rfl (.s 0 rfl .nil) (q_move rfl) <| WL.p rfl rfl rfl (.s 6 rfl .nil) (q_len rfl elS27) <| WL.p rfl rfl rfl (.k .nil) (q_move rfl) <| WL.nil ?_
 refine QN.then_ <| W.block ?_
 refine W.loop1 (Γ := Unit) (fun (_ : Unit) (x8 : Int) => [(0, SlcA kEdge a0), (1, FnA Tryz.prog (fun (x : Edge) => [AggA [EqA (.int .i64 x.fType), EqA (.int .i64 x.fFrom), EqA (.int .i64 x.fTo)]]) (fun (y : Bool) => EqA (.bool y)) a1), (7, EqA (.int .i64 (a0.length : Int))), (8, EqA (.int .i64 x8))]) (fun (_ : Unit) (_ : Int) => []) h () (.one rfl (.one rfl (.one rfl (.one rfl (.nil _))))) rfl (fun rec0 K0 next0 _ x8 h => ?_)
 unfold slices_IndexFunc_Edge.b0 at h
 refine W.seq <| W.region <| WL.p rfl rfl rfl (.s 8 rfl (.s 7 rfl .nil)) (q_int rfl rfl) <| WL.nil <| QN.then_ <| W.seq ?_
 refine W.condP h rfl (fun hb3563 h => ?_) (fun hb3563 h => ?_)
 ·refine W.skip <| QN.then_ <| W.seq <| W.block <| W.seq <| W.region <| WL.p rfl rfl rfl (.s 8 rfl .nil) (q_move rfl) <| WL.p rfl rfl rfl (.s 10 rfl .nil) (q_assign rfl) <| WL.nil <| QN.then_ <| W.seq <| W.region <| WL.p rfl rfl rfl (.s 1 rfl .nil) (q_move rfl) ?_
  refine WL.p rfl rfl rfl (.s 0 rfl .nil) (q_move rfl) <| WL.p rfl rfl rfl (.s 5 rfl .nil) (q_move rfl) ?_
  obtain ⟨c3564, h⟩ := ite_n h
  refine WL.p rfl rfl rfl (.s 12 rfl (.s 13 rfl .nil)) (q_index rfl el27 rfl c3564.1 c3564.2) <| WL.p rfl rfl rfl (.s 14 rfl .nil) (q_loadS rfl sh77 (leB rfl) rfl) ?_
  obtain ⟨t3565, ht3565, h⟩ := bind_s h
  refine WL.p rfl rfl rfl (.s 11 rfl (.s 15 rfl .nil)) (q_callV («as» := fun (x : Edge) => [AggA [EqA (.int .i64 x.fType), EqA (.int .i64 x.fFrom), EqA (.int .i64 x.fTo)]]) (res := fun (y : Bool) => EqA (.bool y)) (x := (rd a0 x8)) (y := t3565) (xs := [.tmp 15]) rfl ht3565 rfl) <| WL.nil <| QN.weaken (env' := [(16, _), (5, _), (8, _), (7, _), (1, _), (0, _)]) (.one rfl (.one rfl (.one rfl (.one rfl (.one rfl (.one rfl (.nil _))))))) <| QN.then_ ?_
  refine W.condP h rfl (fun hb3566 h => ?_) (fun hb3566 h => ?_)
  ·refine W.seq <| W.region <| WL.p rfl rfl rfl (.s 5 rfl .nil) (q_move rfl) <| WL.p rfl rfl rfl (.s 17 rfl .nil) (q_assign rfl) <| WL.nil <| QN.weaken (env' := [(4, _)]) (.one rfl (.nil _)) <| QN.then_ <| W.ret <| QR.block <| QR.then_ <| QR.then_ <| QR.block <| QR.then_ ?_
   cases h
   exact QR.f1 rfl rfl (.t rfl) (.id _)
  ·refine W.skip <| QN.block <| QN.then_ <| W.region ?_
   obtain ⟨c3567, h⟩ := ite_n h
   refine WL.p rfl rfl rfl (.s 8 rfl (.k .nil)) (q_addR rfl c3567) <| WL.p rfl rfl rfl (.s 18 rfl .nil) (q_move rfl) <| WL.nil ?_
   exact next0 () (x8 + 1) _ h (.one rfl (.one rfl (.one rfl (.one rfl (.nil _)))))
 ·refine W.exit <| QX.then_ <| QX.then_ <| QX.here <| QN.then_ <| W.seq <| W.region <| WL.p rfl rfl rfl (.k .nil) (q_assign rfl) <| WL.nil <| QN.then_ <| W.ret ?_
  cases h
  exact QR.f1 rfl rfl (.t rfl) (.id _)
theorem slices_ContainsFunc_Edge.con (k : Nat) (a0 : (List Edge)) (a1 : (Edge → Option Bool)) (r : Bool) (h : slices_ContainsFunc_Edge k a0 a1 = some r) : Con Tryz.prog 80 [] [SlcA kEdge a0, FnA Tryz.prog (fun (x : Edge) => [AggA [EqA (.int .i64 x.fType), EqA (.int .i64 x.fFrom), EqA (.int .i64 x.fTo)]]) (fun (y : Bool) => EqA (.bool y)) a1] (RA (EqA (.bool r))) := by
 unfold slices_ContainsFunc_Edge at h
 refine Con.of (N := 9) Tryz.func80 rfl rfl rfl fun w0_ fg_ => W.seq <| W.region <| WL.p rfl rfl rfl (.k .nil) (q_assign rfl) <| WL.nil <| QN.then_ <| W.seq <| W.region <| WL.p rfl rfl rfl (.s 0 rfl .nil) (q_move rfl) <| WL.p rfl rfl rfl (.s 1 rfl .nil) (q_move rfl) ?_
 obtain ⟨t3568, ht3568, h⟩ := bind_s h
 refine WL.p rfl rfl rfl (.s 5 rfl (.s 6 rfl .nil)) (q_call (f := 112) (A := EqA (.int .i64 t3568)) (xs := [.tmp 5, .tmp 6]) («as» := [SlcA kEdge a0, FnA Tryz.prog (fun (x : Edge) => [AggA [EqA (.int .i64 x.fType), EqA (.int .i64 x.fFrom), EqA (.int .i64 x.fTo)]]) (fun (y : Bool) => EqA (.bool y)) a1]) rfl ca112 (slices_IndexFunc_Edge.con k a0 a1 t3568 ht3568) rfl) <| WL.p rfl rfl rfl (.s 7 rfl (.k .nil)) (q_int rfl rfl) <| WL.p rfl rfl rfl (.s 8 rfl .nil) (q_assign rfl) <| WL.nil <| QN.then_ <| W.ret ?_
 cases h
 exact QR.f1 rfl rfl (.t rfl) (.id _)
theorem graph_Valid.con (k : Nat) (a0 : Graph) (r : Int) (h : graph_Valid k a0 = some r) : Con Tryz.prog 58 [] [AggA [SlcA kInt a0.fNodes, SlcA kEdge a0.fEdges]] (RA (EqA (.int .i64 r))) := by
 unfold graph_Valid at h
 refine Con.of (N := 20) Tryz.func58 rfl rfl rfl fun w0_ fg_ => W.seq <| W.region <| WL.p rfl rfl rfl (.s 0 rfl .nil) (q_box rfl (CellsOf.agg _)) <| WL.p rfl rfl rfl (.k .nil) (q_assign rfl) <| WL.nil <| QN.then_ <| W.seq <| W.seq ?_
 refine W.jn1 (Γ := Unit) (fun (_ : Unit) (x12 : Bool) => [(1, PtrA [SlcA kInt a0.fNodes, SlcA kEdge a0.fEdges]), (12, EqA (.bool x12))]) (fun (_ : Unit) (_ : Bool) => []) h (fun _ x12 h => ?_) (fun j3571 Kj3571 h => ?_)
 ·refine QN.then_ ?_
  refine W.condP h rfl (fun hb3572 h => ?_) (fun hb3572 h => ?_)
  ·refine W.seq <| W.region <| WL.p rfl rfl rfl (.k .nil) (q_assign rfl) <| WL.nil <| QN.then_ <| W.ret <| QR.then_ ?_
   cases h
   exact QR.f1 rfl rfl (.t rfl) (.id _)
  ·refine W.skip <| QN.then_ <| W.seq <| W.seq <| W.region <| WL.p rfl rfl rfl (.s 1 rfl .nil) (q_field rfl fo29_0 rfl) <| WL.p rfl rfl rfl (.s 13 rfl .nil) (q_load rfl sh26) ?_
   obtain ⟨t3573, ht3573, h⟩ := bind_s h
   refine WL.p rfl rfl rfl (.s 14 rfl (.f («as» := fun (x : Int) => [EqA (.int .i64 x)]) (res := fun (y : Bool) => EqA (.bool y)) (p := fun x => graph_Valid_1 k x) ca78 (fun x y hp => graph_Valid_1.con k x y hp) .nil)) (q_call (f := 65) (A := EqA (.bool t3573)) (xs := [.tmp 14, .func 78]) («as» := [SlcA kInt a0.fNodes, FnA Tryz.prog (fun (x : Int) => [EqA (.int .i64 x)]) (fun (y : Bool) => EqA (.bool y)) (fun x => graph_Valid_1 k x)]) rfl ca65 (slices_ContainsFunc_int.con k a0.fNodes (fun x => graph_Valid_1 k x) t3573 ht3573) rfl) <| WL.nil <| QN.then_ ?_
   refine W.condP h rfl (fun hb3574 h => ?_) (fun hb3574 h => ?_)
   ·refine W.seq <| W.region <| WL.p rfl rfl rfl (.k .nil) (q_assign rfl) <| WL.nil <| QN.then_ <| W.ret <| QR.then_ ?_
    cases h
    exact QR.f1 rfl rfl (.t rfl) (.id _)
   ·refine W.skip <| QN.then_ <| W.seq <| W.seq <| W.region <| WL.p rfl rfl rfl (.s 1 rfl .nil) (q_field rfl fo29_1 rfl) <| WL.p rfl rfl rfl (.s 16 rfl .nil) (q_load rfl sh27) <| WL.p rfl rfl rfl (.s 1 rfl .nil) (q_makeFunc (xs := [.tmp 1]) (L := [PtrA [SlcA kInt a0.fNodes, SlcA kEdge a0.fEdges]]) («as» := fun (x : Edge) => [AggA [EqA (.int .i64 x.fType), EqA (.int .i64 x.fFrom), EqA (.int .i64 x.fTo)]]) (res := fun (y : Bool) => EqA (.bool y)) (p := (fun x => graph_Valid_2 k x a0)) rfl ca81 rfl (fun x y hp => (graph_Valid_2.con k x a0 y hp))) ?_
    obtain ⟨t3575, ht3575, h⟩ := bind_s h
    refine WL.p rfl rfl rfl (.s 17 rfl (.s 18 rfl .nil)) (q_call (f := 80) (A := EqA (.bool t3575)) (xs := [.tmp 17, .tmp 18]) («as» := [SlcA kEdge a0.fEdges, FnA Tryz.prog (fun (x : Edge) => [AggA [EqA (.int .i64 x.fType), EqA (.int .i64 x.fFrom), EqA (.int .i64 x.fTo)]]) (fun (y : Bool) => EqA (.bool y)) (fun x => graph_Valid_2 k x a0)]) rfl ca80 (slices_ContainsFunc_Edge.con k a0.fEdges (fun x => graph_Valid_2 k x a0) t3575 ht3575) rfl) <| WL.nil <| QN.weaken (env' := [(19, _)]) (.one rfl (.nil _)) <| QN.then_ ?_
    refine W.condP h rfl (fun hb3576 h => ?_) (fun hb3576 h => ?_)
    ·refine W.seq <| W.region <| WL.p rfl rfl rfl (.k .nil) (q_assign rfl) <| WL.nil <| QN.then_ <| W.ret <| QR.then_ ?_
     cases h
     exact QR.f1 rfl rfl (.t rfl) (.id _)
    ·refine W.skip <| QN.then_ <| W.seq <| W.region <| WL.p rfl rfl rfl (.k .nil) (q_assign rfl) <| WL.nil <| QN.then_ <| W.ret ?_
     cases h
     exact QR.f1 rfl rfl (.t rfl) (.id _)
 ·refine W.region <| WL.p rfl rfl rfl (.s 1 rfl .nil) (q_field rfl fo29_0 rfl) <| WL.p rfl rfl rfl (.s 3 rfl .nil) (q_load rfl sh26) <| WL.p rfl rfl rfl (.s 4 rfl .nil) (q_len rfl elS26) <| WL.p rfl rfl rfl (.s 5 rfl (.k .nil)) (q_int rfl rfl) <| WL.p rfl rfl rfl (.s 6 rfl .nil) (q_move rfl) ?_
  rcases bif_s h with ⟨hb3577, h⟩ | ⟨hb3577, h⟩
  ·refine WL.skip (Unwanted.on rfl rfl rfl hb3577) rfl rfl <| WL.skip (Unwanted.on rfl rfl rfl hb3577) rfl rfl <| WL.skip (Unwanted.on rfl rfl rfl hb3577) rfl rfl <| WL.skip (Unwanted.on rfl rfl rfl hb3577) rfl rfl <| WL.p rfl rfl rfl (.s 7 rfl (.k .nil)) (q_pickT rfl hb3577) <| WL.nil ?_
   exact QN.weaken (.one rfl (.one rfl (.nil _))) (Kj3571 () true h)
  ·refine WL.q (Wanted.on rfl rfl rfl hb3577) rfl rfl (.s 1 rfl .nil) (q_field rfl fo29_1 rfl).o <| WL.q (Wanted.on rfl rfl rfl hb3577) rfl rfl (.s 8 rfl .nil) (q_load rfl sh27).o <| WL.q (Wanted.on rfl rfl rfl hb3577) rfl rfl (.s 9 rfl .nil) (q_len rfl elS27).o <| WL.q (Wanted.on rfl rfl rfl hb3577) rfl rfl (.s 10 rfl (.k .nil)) (q_int rfl rfl).o <| WL.p rfl rfl rfl (.s 7 rfl (.s 11 rfl .nil)) (q_pickF rfl hb3577) <| WL.nil ?_
   exact QN.weaken (.one rfl (.one rfl (.nil _))) (Kj3571 () (decide ((a0.fEdges.length : Int) > 80)) h)
theorem search_within_1.con (k : Nat) (a0 : Int) (a1 : Types) (r : Bool) (h : search_within_1 k a0 a1 = some r) : Con Tryz.prog 83 [] [EqA (.int .i64 a0), PtrA [SlcA kNodeType a1.fNodes, SlcA kEdgeType a1.fEdges]] (RA (EqA (.bool r))) := by
 unfold search_within_1 at h
 refine Con.of (N := 9) Tryz.func83 rfl rfl rfl fun w0_ fg_ => W.seq <| W.region <| WL.p rfl rfl rfl (.k .nil) (q_assign rfl) <| WL.nil <| QN.then_ <| W.seq <| W.region <| WL.p rfl rfl rfl (.s 0 rfl .nil) (q_move rfl) <| WL.p rfl rfl rfl (.s 1 rfl .nil) (q_field rfl fo25_0 rfl) <| WL.p rfl rfl rfl (.s 5 rfl .nil) (q_load rfl sh22) <| WL.p rfl rfl rfl (.s 6 rfl .nil) (q_len rfl elS22) <| WL.p rfl rfl rfl (.s 4 rfl (.s 7 rfl .nil)) (q_int rfl rfl) ?_
 refine WL.p rfl rfl rfl (.s 8 rfl .nil) (q_assign rfl) <| WL.nil <| QN.weaken (env' := [(3, _)]) (.one rfl (.nil _)) <| QN.then_ <| W.ret ?_
 cases h
 exact QR.f1 rfl rfl (.t rfl) (.id _)
theorem search_within_2.con (k : Nat) (a0 : Edge) (a1 : Types) (r : Bool) (h : search_within_2 k a0 a1 = some r) : Con Tryz.prog 84 [] [AggA [EqA (.int .i64 a0.fType), EqA (.int .i64 a0.fFrom), EqA (.int .i64 a0.fTo)], PtrA [SlcA kNodeType a1.fNodes, SlcA kEdgeType a1.fEdges]] (RA (EqA (.bool r))) := by
 unfold search_within_2 at h
 refine Con.of (N := 10) Tryz.func84 rfl rfl rfl fun w0_ fg_ => W.seq <| W.region <| WL.p rfl rfl rfl (.s 0 rfl .nil) (q_box rfl (CellsOf.agg _)) <| WL.p rfl rfl rfl (.k .nil) (q_assign rfl) <| WL.nil <| QN.then_ <| W.seq <| W.region <| WL.p rfl rfl rfl (.s 2 rfl .nil) (q_field rfl fo77_0 rfl) <| WL.p rfl rfl rfl (.s 4 rfl .nil) (q_load rfl sh3) <| WL.p rfl rfl rfl (.s 1 rfl .nil) (q_field rfl fo25_1 rfl) <| WL.p rfl rfl rfl (.s 6 rfl .nil) (q_load rfl sh23) ?_
 refine WL.p rfl rfl rfl (.s 7 rfl .nil) (q_len rfl elS23) <| WL.p rfl rfl rfl (.s 5 rfl (.s 8 rfl .nil)) (q_int rfl rfl) <| WL.p rfl rfl rfl (.s 9 rfl .nil) (q_assign rfl) <| WL.nil <| QN.weaken (env' := [(3, _)]) (.one rfl (.nil _)) <| QN.then_ <| W.ret ?_
 cases h
 exact QR.f1 rfl rfl (.t rfl) (.id _)
theorem search_within.con (k : Nat) (a0 : Types) (a1 : Graph) (r : Bool) (h : search_within k a0 a1 = some r) : Con Tryz.prog 59 [] [AggA [SlcA kNodeType a0.fNodes, SlcA kEdgeType a0.fEdges], AggA [SlcA kInt a1.fNodes, SlcA kEdge a1.fEdges]] (RA (EqA (.bool r))) := by
 unfold search_within at h
 refine Con.of (N := 17) Tryz.func59 rfl rfl rfl fun w0_ fg_ => W.seq <| W.region <| WL.p rfl rfl rfl (.s 0 rfl .nil) (q_box rfl (CellsOf.agg _)) <| WL.p rfl rfl rfl (.s 1 rfl .nil) (q_box rfl (CellsOf.agg _)) <| WL.p rfl rfl rfl (.k .nil) (q_assign rfl) <| WL.nil <| QN.then_ <| W.seq ?_
 refine W.jn1 (Γ := Unit) (fun (_ : Unit) (x4 : Bool) => [(4, EqA (.bool x4))]) (fun (_ : Unit) (_ : Bool) => []) h (fun _ x4 h => ?_) (fun j3582 Kj3582 h => ?_)
 ·refine QN.then_ <| W.ret ?_
  cases h
  exact QR.f1 rfl rfl (.t rfl) (.id _)
 ·refine W.region <| WL.p rfl rfl rfl (.s 3 rfl .nil) (q_field rfl fo29_0 rfl) <| WL.p rfl rfl rfl (.s 5 rfl .nil) (q_load rfl sh26) <| WL.p rfl rfl rfl (.s 2 rfl .nil) (q_makeFunc (xs := [.tmp 2]) (L := [PtrA [SlcA kNodeType a0.fNodes, SlcA kEdgeType a0.fEdges]]) («as» := fun (x : Int) => [EqA (.int .i64 x)]) (res := fun (y : Bool) => EqA (.bool y)) (p := (fun x => search_within_1 k x a0)) rfl ca83 rfl (fun x y hp => (search_within_1.con k x a0 y hp))) ?_
  obtain ⟨t3583, ht3583, h⟩ := bind_s h
  refine WL.p rfl rfl rfl (.s 6 rfl (.s 7 rfl .nil)) (q_call (f := 65) (A := EqA (.bool t3583)) (xs := [.tmp 6, .tmp 7]) («as» := [SlcA kInt a1.fNodes, FnA Tryz.prog (fun (x : Int) => [EqA (.int .i64 x)]) (fun (y : Bool) => EqA (.bool y)) (fun x => search_within_1 k x a0)]) rfl ca65 (slices_ContainsFunc_int.con k a1.fNodes (fun x => search_within_1 k x a0) t3583 ht3583) rfl) <| WL.p rfl rfl rfl (.s 8 rfl .nil) (q_not rfl) <| WL.p rfl rfl rfl (.s 9 rfl .nil) (q_move rfl) ?_
  rcases bif_s h with ⟨hb3584, h⟩ | ⟨hb3584, h⟩
  ·refine WL.q (Wanted.on rfl rfl rfl hb3584) rfl rfl (.s 3 rfl .nil) (q_field rfl fo29_1 rfl).o <| WL.q (Wanted.on rfl rfl rfl hb3584) rfl rfl (.s 11 rfl .nil) (q_load rfl sh27).o <| WL.q (Wanted.on rfl rfl rfl hb3584) rfl rfl (.s 2 rfl .nil) (q_makeFunc (xs := [.tmp 2]) (L := [PtrA [SlcA kNodeType a0.fNodes, SlcA kEdgeType a0.fEdges]]) («as» := fun (x : Edge) => [AggA [EqA (.int .i64 x.fType), EqA (.int .i64 x.fFrom), EqA (.int .i64 x.fTo)]]) (res := fun (y : Bool) => EqA (.bool y)) (p := (fun x => search_within_2 k x a0)) rfl ca84 rfl (fun x y hp => (search_within_2.con k x a0 y hp))).o ?_
   obtain ⟨t3585, ht3585, h⟩ := bind_s h
   refine WL.q (Wanted.on rfl rfl rfl hb3584) rfl rfl (.s 12 rfl (.s 13 rfl .nil)) (q_call (f := 80) (A := EqA (.bool t3585)) (xs := [.tmp 12, .tmp 13]) («as» := [SlcA kEdge a1.fEdges, FnA Tryz.prog (fun (x : Edge) => [AggA [EqA (.int .i64 x.fType), EqA (.int .i64 x.fFrom), EqA (.int .i64 x.fTo)]]) (fun (y : Bool) => EqA (.bool y)) (fun x => search_within_2 k x a0)]) rfl ca80 (slices_ContainsFunc_Edge.con k a1.fEdges (fun x => search_within_2 k x a0) t3585 ht3585) rfl).o <| WL.q (Wanted.on rfl rfl rfl hb3584) rfl rfl (.s 14 rfl .nil) (q_not rfl).o <| WL.p rfl rfl rfl (.s 10 rfl (.s 15 rfl .nil)) (q_pickT rfl hb3584) <| WL.p rfl rfl rfl (.s 16 rfl .nil) (q_assign rfl) <| WL.nil ?_
   exact QN.weaken (.one rfl (.nil _)) (Kj3582 () (!t3585) h)
  ·refine WL.skip (Unwanted.on rfl rfl rfl hb3584) rfl rfl <| WL.skip (Unwanted.on rfl rfl rfl hb3584) rfl rfl <| WL.skip (Unwanted.on rfl rfl rfl hb3584) rfl rfl <| WL.skip (Unwanted.on rfl rfl rfl hb3584) rfl rfl <| WL.skip (Unwanted.on rfl rfl rfl hb3584) rfl rfl <| WL.p rfl rfl rfl (.s 10 rfl (.k .nil)) (q_pickF rfl hb3584) <| WL.p rfl rfl rfl (.s 16 rfl .nil) (q_assign rfl) <| WL.nil ?_
   exact QN.weaken (.one rfl (.nil _)) (Kj3582 () false h)
theorem search_valid.con (k : Nat) (a0 : Types) (a1 : Graph) (a2 : Graph) (r : Int) (h : search_valid k a0 a1 a2 = some r) : Con Tryz.prog 36 [] [AggA [SlcA kNodeType a0.fNodes, SlcA kEdgeType a0.fEdges], AggA [SlcA kInt a1.fNodes, SlcA kEdge a1.fEdges], AggA [SlcA kInt a2.fNodes, SlcA kEdge a2.fEdges]] (RA (EqA (.int .i64 r))) := by
 unfold search_valid at h
 refine Con.of (N := 44) Tryz.func36 rfl rfl rfl fun w0_ fg_ => W.seq <| W.region <| WL.p rfl rfl rfl (.s 0 rfl .nil) (q_box rfl (CellsOf.agg _)) <| WL.p rfl rfl rfl (.s 1 rfl .nil) (q_box rfl (CellsOf.agg _)) <| WL.p rfl rfl rfl (.s 2 rfl .nil) (q_box rfl (CellsOf.agg _)) <| WL.p rfl rfl rfl (.k .nil) (q_assign rfl) <| WL.nil <| QN.then_ <| W.seq <| W.seq <| W.region <| WL.p rfl rfl rfl (.s 3 rfl .nil) (q_loadS rfl sh25 (leB rfl) rfl) ?_
 obtain ⟨t3586, ht3586, h⟩ := bind_s h
 refine WL.p rfl rfl rfl (.s 13 rfl .nil) (q_call (f := 57) (A := TupA [EqA (strV t3586.1), EqA (.int .i64 t3586.2)]) (xs := [.tmp 13]) («as» := [AggA [SlcA kNodeType a0.fNodes, SlcA kEdgeType a0.fEdges]]) rfl ca57 (types_Valid.con k a0 t3586 ht3586) rfl) <| WL.p rfl rfl rfl (.s 14 rfl .nil) (q_move rfl) <| WL.p rfl rfl rfl (.s 12 rfl .nil) (q_extract rfl rfl) <| WL.p rfl rfl rfl (.s 12 rfl .nil) (q_extract rfl rfl) <| WL.p rfl rfl rfl (.s 15 rfl .nil) (q_assign rfl) <| WL.p rfl rfl rfl (.s 16 rfl .nil) (q_assign rfl) <| WL.nil <| QN.weaken (env' := [(8, _), (5, _), (4, _), (3, _)]) (.one rfl (.one rfl (.one rfl (.one rfl (.nil _))))) <| QN.then_ <| W.seq <| W.region <| WL.p rfl rfl rfl (.s 8 rfl .nil) (q_move rfl) <| WL.p rfl rfl rfl (.s 17 rfl (.k .nil)) (q_int rfl rfl) ?_
 refine WL.nil <| QN.then_ ?_
 refine W.condP h rfl (fun hb3587 h => ?_) (fun hb3587 h => ?_)
 ·refine W.seq <| W.region <| WL.p rfl rfl rfl (.s 8 rfl .nil) (q_move rfl) <| WL.p rfl rfl rfl (.s 19 rfl .nil) (q_assign rfl) <| WL.nil <| QN.weaken (env' := [(6, _)]) (.one rfl (.nil _)) <| QN.then_ <| W.ret <| QR.then_ ?_
  cases h
  exact QR.f1 rfl rfl (.t rfl) (.id _)
 ·refine W.skip <| QN.then_ <| W.seq <| W.seq <| W.region <| WL.p rfl rfl rfl (.s 4 rfl .nil) (q_loadS rfl sh29 (leB rfl) rfl) <| WL.p rfl rfl rfl (.s 5 rfl .nil) (q_loadS rfl sh29 (leB rfl) rfl) <| WL.p rfl rfl rfl (.s 20 rfl (.s 21 rfl .nil)) (q_lit (kd := kGraph) (ps := [(0, .tmp 20), (1, .tmp 21)]) (xs := [.tmp 20, .tmp 21]) («as» := [AggA [SlcA kInt a1.fNodes, SlcA kEdge a1.fEdges], AggA [SlcA kInt a2.fNodes, SlcA kEdge a2.fEdges]]) (ys := [a1, a2]) rfl rfl el100 rfl gr29 rfl rfl rfl (.cons (CellsOf.agg _) (.cons (CellsOf.agg _) .nil))) <| WL.p rfl rfl rfl (.s 22 rfl .nil) (q_len rfl elS100) <| WL.p rfl rfl rfl (.k .nil) (q_move rfl) <| WL.nil <| QN.then_ <| W.block ?_
  refine W.loop1 (Γ := Unit) (fun (_ : Unit) (x24 : Int) => [(3, PtrA [SlcA kNodeType a0.fNodes, SlcA kEdgeType a0.fEdges]), (4, PtrA [SlcA kInt a1.fNodes, SlcA kEdge a1.fEdges]), (5, PtrA [SlcA kInt a2.fNodes, SlcA kEdge a2.fEdges]), (22, SlcA kGraph [a1, a2]), (23, EqA (.int .i64 ([a1, a2].length : Int))), (24, EqA (.int .i64 x24))]) (fun (_ : Unit) (_ : Int) => []) h () (.one rfl (.one rfl (.one rfl (.one rfl (.one rfl (.one rfl (.nil _))))))) rfl (fun rec0 K0 next0 _ x24 h => ?_)
  unfold search_valid.b0 at h
  refine W.seq <| W.region <| WL.p rfl rfl rfl (.s 24 rfl (.s 23 rfl .nil)) (q_int rfl rfl) <| WL.nil <| QN.then_ <| W.seq ?_
  refine W.condP h rfl (fun hb3618 h => ?_) (fun hb3618 h => ?_)
  ·refine W.skip <| QN.then_ <| W.seq <| W.block <| W.seq <| W.region ?_
   obtain ⟨c3619, h⟩ := ite_n h
   refine WL.p rfl rfl rfl (.s 22 rfl (.s 24 rfl .nil)) (q_index rfl el100 rfl c3619.1 c3619.2) <| WL.p rfl rfl rfl (.s 26 rfl .nil) (q_loadS rfl sh29 (leB rfl) rfl) <| WL.w [] rfl (Wanted.plain rfl) rfl rfl .nil (w_alloc rfl z29 (l := [EqA (.slice none 0 0), EqA (.slice none 0 0)]) rfl) ?_
   rintro _ _ ⟨b3620, rfl, rfl⟩
   refine WL.w0 [0] rfl (Wanted.plain rfl) rfl (.s 10 rfl (.s 27 rfl .nil)) (w_store (L := [SlcA kInt ((rd [a1, a2] x24).fNodes), SlcA kEdge ((rd [a1, a2] x24).fEdges)]) rfl sh29 (CellsOf.agg _) rfl rfl (leB rfl) rfl) ?_
   rintro _ _ ⟨rfl, rfl⟩
   refine WL.nil <| QN.to (StTo.still [0] 10 rfl rfl) <| QN.then_ <| W.seq <| W.region <| WL.p rfl rfl rfl (.s 10 rfl .nil) (q_loadS rfl sh29 (leB rfl) rfl) ?_
   obtain ⟨t3621, ht3621, h⟩ := bind_s h
   refine WL.p rfl rfl rfl (.s 28 rfl .nil) (q_call (f := 58) (A := EqA (.int .i64 t3621)) (xs := [.tmp 28]) («as» := [AggA [SlcA kInt ((rd [a1, a2] x24).fNodes), SlcA kEdge ((rd [a1, a2] x24).fEdges)]]) rfl ca58 (graph_Valid.con k (rd [a1, a2] x24) t3621 ht3621) rfl) <| WL.p rfl rfl rfl (.s 29 rfl .nil) (q_assign rfl) <| WL.nil <| QN.then_ <| W.seq <| W.region <| WL.p rfl rfl rfl (.s 11 rfl .nil) (q_move rfl) <| WL.p rfl rfl rfl (.s 30 rfl (.k .nil)) (q_int rfl rfl) <| WL.nil <| QN.weaken (env' := [(31, _), (11, _), (24, _), (23, _), (22, _), (5, _), (4, _), (3, _)]) (.one rfl (.one rfl (.one rfl (.one rfl (.one rfl (.one rfl (.one rfl (.one rfl (.nil _))))))))) <| QN.then_ ?_
   refine W.condP h rfl (fun hb3622 h => ?_) (fun hb3622 h => ?_)
   ·refine W.seq <| W.region <| WL.p rfl rfl rfl (.s 11 rfl .nil) (q_move rfl) <| WL.p rfl rfl rfl (.s 32 rfl .nil) (q_assign rfl) <| WL.nil <| QN.weaken (env' := [(6, _)]) (.one rfl (.nil _)) <| QN.then_ <| W.ret <| QR.block <| QR.then_ <| QR.then_ <| QR.block <| QR.then_ ?_
    cases h
    exact QR.f1 rfl rfl (.t rfl) (.id _)
   ·refine W.skip <| QN.block <| QN.then_ <| W.region ?_
    obtain ⟨c3623, h⟩ := ite_n h
    refine WL.p rfl rfl rfl (.s 24 rfl (.k .nil)) (q_addR rfl c3623) <| WL.p rfl rfl rfl (.s 33 rfl .nil) (q_move rfl) <| WL.nil ?_
    exact next0 () (x24 + 1) _ h (.one rfl (.one rfl (.one rfl (.one rfl (.one rfl (.one rfl (.nil _)))))))
  ·refine W.exit <| QX.then_ <| QX.then_ <| QX.here <| QN.then_ <| W.seq <| W.seq ?_
   refine W.jn1 (Γ := Unit) (fun (_ : Unit) (x43 : Bool) => [(43, EqA (.bool x43))]) (fun (_ : Unit) (_ : Bool) => []) h (fun _ x43 h => ?_) (fun j3628 Kj3628 h => ?_)
   ·refine QN.then_ ?_
    refine W.condP h rfl (fun hb3629 h => ?_) (fun hb3629 h => ?_)
    ·refine W.seq <| W.region <| WL.p rfl rfl rfl (.k .nil) (q_assign rfl) <| WL.nil <| QN.then_ <| W.ret <| QR.then_ ?_
     cases h
     exact QR.f1 rfl rfl (.t rfl) (.id _)
    ·refine W.skip <| QN.then_ <| W.seq <| W.region <| WL.p rfl rfl rfl (.k .nil) (q_assign rfl) <| WL.nil <| QN.then_ <| W.ret ?_
     cases h
     exact QR.f1 rfl rfl (.t rfl) (.id _)
   ·refine W.region <| WL.p rfl rfl rfl (.s 3 rfl .nil) (q_loadS rfl sh25 (leB rfl) rfl) <| WL.p rfl rfl rfl (.s 4 rfl .nil) (q_loadS rfl sh29 (leB rfl) rfl) ?_
    obtain ⟨t3630, ht3630, h⟩ := bind_s h
    refine WL.p rfl rfl rfl (.s 34 rfl (.s 35 rfl .nil)) (q_call (f := 59) (A := EqA (.bool t3630)) (xs := [.tmp 34, .tmp 35]) («as» := [AggA [SlcA kNodeType a0.fNodes, SlcA kEdgeType a0.fEdges], AggA [SlcA kInt a1.fNodes, SlcA kEdge a1.fEdges]]) rfl ca59 (search_within.con k a0 a1 t3630 ht3630) rfl) <| WL.p rfl rfl rfl (.s 36 rfl .nil) (q_not rfl) <| WL.p rfl rfl rfl (.s 37 rfl .nil) (q_move rfl) ?_
    rcases bif_s h with ⟨hb3631, h⟩ | ⟨hb3631, h⟩
    ·refine WL.skip (Unwanted.on rfl rfl rfl hb3631) rfl rfl <| WL.skip (Unwanted.on rfl rfl rfl hb3631) rfl rfl <| WL.skip (Unwanted.on rfl rfl rfl hb3631) rfl rfl <| WL.skip (Unwanted.on rfl rfl rfl hb3631) rfl rfl <| WL.p rfl rfl rfl (.s 38 rfl (.k .nil)) (q_pickT rfl hb3631) <| WL.nil ?_
     exact QN.weaken (.one rfl (.nil _)) (Kj3628 () true h)
    ·refine WL.q (Wanted.on rfl rfl rfl hb3631) rfl rfl (.s 3 rfl .nil) (q_loadS rfl sh25 (leB rfl) rfl).o <| WL.q (Wanted.on rfl rfl rfl hb3631) rfl rfl (.s 5 rfl .nil) (q_loadS rfl sh29 (leB rfl) rfl).o ?_
     obtain ⟨t3632, ht3632, h⟩ := bind_s h
     refine WL.q (Wanted.on rfl rfl rfl hb3631) rfl rfl (.s 39 rfl (.s 40 rfl .nil)) (q_call (f := 59) (A := EqA (.bool t3632)) (xs := [.tmp 39, .tmp 40]) («as» := [AggA [SlcA kNodeType a0.fNodes, SlcA kEdgeType a0.fEdges], AggA [SlcA kInt a2.fNodes, SlcA kEdge a2.fEdges]]) rfl ca59 (search_within.con k a0 a2 t3632 ht3632) rfl).o <| WL.q (Wanted.on rfl rfl rfl hb3631) rfl rfl (.s 41 rfl .nil) (q_not rfl).o <| WL.p rfl rfl rfl (.s 38 rfl (.s 42 rfl .nil)) (q_pickF rfl hb3631) <| WL.nil ?_
     exact QN.weaken (.one rfl (.nil _)) (Kj3628 () (!t3632) h)
theorem types_given_1.con (k : Nat) (a0 : Int) (a1 : Types) (r : Bool) (h : types_given_1 k a0 a1 = some r) : Con Tryz.prog 127 [] [EqA (.int .i64 a0), PtrA [SlcA kNodeType a1.fNodes, SlcA kEdgeType a1.fEdges]] (RA (EqA (.bool r))) := by
 unfold types_given_1 at h
 refine Con.of (N := 13) Tryz.func127 rfl rfl rfl fun w0_ fg_ => W.seq <| W.region <| WL.p rfl rfl rfl (.k .nil) (q_assign rfl) <| WL.nil <| QN.then_ <| W.seq ?_
 refine W.jn1 (Γ := Unit) (fun (_ : Unit) (x3 : Bool) => [(3, EqA (.bool x3))]) (fun (_ : Unit) (_ : Bool) => []) h (fun _ x3 h => ?_) (fun j3635 Kj3635 h => ?_)
 ·refine QN.then_ <| W.ret ?_
  cases h
  exact QR.f1 rfl rfl (.t rfl) (.id _)
 ·refine W.region <| WL.p rfl rfl rfl (.s 0 rfl .nil) (q_move rfl) <| WL.p rfl rfl rfl (.s 4 rfl (.k .nil)) (q_int rfl rfl) <| WL.p rfl rfl rfl (.s 5 rfl .nil) (q_move rfl) ?_
  rcases bif_s h with ⟨hb3636, h⟩ | ⟨hb3636, h⟩
  ·refine WL.skip (Unwanted.on rfl rfl rfl hb3636) rfl rfl <| WL.skip (Unwanted.on rfl rfl rfl hb3636) rfl rfl <| WL.skip (Unwanted.on rfl rfl rfl hb3636) rfl rfl <| WL.skip (Unwanted.on rfl rfl rfl hb3636) rfl rfl <| WL.skip (Unwanted.on rfl rfl rfl hb3636) rfl rfl <| WL.p rfl rfl rfl (.s 6 rfl (.k .nil)) (q_pickT rfl hb3636) <| WL.p rfl rfl rfl (.s 12 rfl .nil) (q_assign rfl) <| WL.nil ?_
   exact QN.weaken (.one rfl (.nil _)) (Kj3635 () true h)
  ·refine WL.q (Wanted.on rfl rfl rfl hb3636) rfl rfl (.s 0 rfl .nil) (q_move rfl).o <| WL.q (Wanted.on rfl rfl rfl hb3636) rfl rfl (.s 1 rfl .nil) (q_field rfl fo25_0 rfl).o <| WL.q (Wanted.on rfl rfl rfl hb3636) rfl rfl (.s 8 rfl .nil) (q_load rfl sh22).o <| WL.q (Wanted.on rfl rfl rfl hb3636) rfl rfl (.s 9 rfl .nil) (q_len rfl elS22).o <| WL.q (Wanted.on rfl rfl rfl hb3636) rfl rfl (.s 7 rfl (.s 10 rfl .nil)) (q_int rfl rfl).o <| WL.p rfl rfl rfl (.s 6 rfl (.s 11 rfl .nil)) (q_pickF rfl hb3636) <| WL.p rfl rfl rfl (.s 12 rfl .nil) (q_assign rfl) <| WL.nil ?_
   exact QN.weaken (.one rfl (.nil _)) (Kj3635 () (decide (a0 ≥ (a1.fNodes.length : Int))) h)
theorem types_given.con (k : Nat) (a0 : Types) (a1 : (List Int)) (r : Int) (h : types_given k a0 a1 = some r) : Con Tryz.prog 113 [] [AggA [SlcA kNodeType a0.fNodes, SlcA kEdgeType a0.fEdges], SlcA kInt a1] (RA (EqA (.int .i64 r))) := by
 unfold types_given at h
 refine Con.of (N := 18) Tryz.func113 rfl rfl rfl fun w0_ fg_ => W.seq <| W.region <| WL.p rfl rfl rfl (.s 0 rfl .nil) (q_box rfl (CellsOf.agg _)) <| WL.p rfl rfl rfl (.k .nil) (q_assign rfl) <| WL.nil <| QN.then_ <| W.seq <| W.seq <| W.region <| WL.p rfl rfl rfl (.s 2 rfl .nil) (q_loadS rfl sh25 (leB rfl) rfl) ?_
 obtain ⟨t3637, ht3637, h⟩ := bind_s h
 refine WL.p rfl rfl rfl (.s 8 rfl .nil) (q_call (f := 57) (A := TupA [EqA (strV t3637.1), EqA (.int .i64 t3637.2)]) (xs := [.tmp 8]) («as» := [AggA [SlcA kNodeType a0.fNodes, SlcA kEdgeType a0.fEdges]]) rfl ca57 (types_Valid.con k a0 t3637 ht3637) rfl) <| WL.p rfl rfl rfl (.s 9 rfl .nil) (q_move rfl) <| WL.p rfl rfl rfl (.s 7 rfl .nil) (q_extract rfl rfl) <| WL.p rfl rfl rfl (.s 7 rfl .nil) (q_extract rfl rfl) <| WL.p rfl rfl rfl (.s 10 rfl .nil) (q_assign rfl) <| WL.p rfl rfl rfl (.s 11 rfl .nil) (q_assign rfl) <| WL.nil <| QN.weaken (env' := [(6, _), (2, _), (1, _)]) (.one rfl (.one rfl (.one rfl (.nil _)))) <| QN.then_ <| W.seq <| W.region <| WL.p rfl rfl rfl (.s 6 rfl .nil) (q_move rfl) <| WL.p rfl rfl rfl (.s 12 rfl (.k .nil)) (q_int rfl rfl) ?_
 refine WL.nil <| QN.then_ ?_
 refine W.condP h rfl (fun hb3638 h => ?_) (fun hb3638 h => ?_)
 ·refine W.seq <| W.region <| WL.p rfl rfl rfl (.s 6 rfl .nil) (q_move rfl) <| WL.p rfl rfl rfl (.s 14 rfl .nil) (q_assign rfl) <| WL.nil <| QN.then_ <| W.ret <| QR.then_ ?_
  cases h
  exact QR.f1 rfl rfl (.t rfl) (.id _)
 ·refine W.skip <| QN.then_ <| W.seq <| W.seq <| W.region <| WL.p rfl rfl rfl (.s 1 rfl .nil) (q_move rfl) <| WL.p rfl rfl rfl (.s 2 rfl .nil) (q_makeFunc (xs := [.tmp 2]) (L := [PtrA [SlcA kNodeType a0.fNodes, SlcA kEdgeType a0.fEdges]]) («as» := fun (x : Int) => [EqA (.int .i64 x)]) (res := fun (y : Bool) => EqA (.bool y)) (p := (fun x => types_given_1 k x a0)) rfl ca127 rfl (fun x y hp => (types_given_1.con k x a0 y hp))) ?_
  obtain ⟨t3639, ht3639, h⟩ := bind_s h
  refine WL.p rfl rfl rfl (.s 15 rfl (.s 16 rfl .nil)) (q_call (f := 65) (A := EqA (.bool t3639)) (xs := [.tmp 15, .tmp 16]) («as» := [SlcA kInt a1, FnA Tryz.prog (fun (x : Int) => [EqA (.int .i64 x)]) (fun (y : Bool) => EqA (.bool y)) (fun x => types_given_1 k x a0)]) rfl ca65 (slices_ContainsFunc_int.con k a1 (fun x => types_given_1 k x a0) t3639 ht3639) rfl) <| WL.nil <| QN.weaken (env' := [(17, _)]) (.one rfl (.nil _)) <| QN.then_ ?_
  refine W.condP h rfl (fun hb3640 h => ?_) (fun hb3640 h => ?_)
  ·refine W.seq <| W.region <| WL.p rfl rfl rfl (.k .nil) (q_assign rfl) <| WL.nil <| QN.then_ <| W.ret <| QR.then_ ?_
   cases h
   exact QR.f1 rfl rfl (.t rfl) (.id _)
  ·refine W.skip <| QN.then_ <| W.seq <| W.region <| WL.p rfl rfl rfl (.k .nil) (q_assign rfl) <| WL.nil <| QN.then_ <| W.ret ?_
   cases h
   exact QR.f1 rfl rfl (.t rfl) (.id _)
end Go.Proofs.YtelpgjfojhcjcaaGreat
