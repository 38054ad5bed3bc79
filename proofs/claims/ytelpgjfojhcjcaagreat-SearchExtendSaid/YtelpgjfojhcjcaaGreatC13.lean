/- The Go functions compute the pure ones. (Printed by gen.py.) -/
import Derived.Test.YtelpgjfojhcjcaaGreatC12
namespace Go.Proofs.YtelpgjfojhcjcaaGreat
open Go Go.Abs
attribute [local irreducible] Tryz.prog
theorem ref17_partly.con (k : Nat) (a0 : (List Int)) (a1 : Int) (a2 : Int) (r : Int) (h : ref17_partly k a0 a1 a2 = some r) : Con Tryz.prog 48 [] [SlcA kInt a0, EqA (.int .i64 a1), EqA (.int .i64 a2)] (RA (EqA (.int .i64 r))) := by
 unfold ref17_partly at h
 refine Con.of (N := 31) Tryz.func48 rfl rfl rfl fun w0_ fg_ => W.seq <| W.region <| WL.p rfl rfl rfl (.k .nil) (q_assign rfl) <| WL.nil <| QN.then_ <| W.seq <| W.seq <| W.region <| WL.p rfl rfl rfl (.s 0 rfl .nil) (q_move rfl) <| WL.p rfl rfl rfl (.s 8 rfl .nil) (q_len rfl elS26) <| WL.p rfl rfl rfl (.s 1 rfl .nil) (q_move rfl) <| WL.p rfl rfl rfl (.s 9 rfl (.s 10 rfl .nil)) (q_int rfl rfl) ?_
 refine WL.nil <| QN.then_ ?_
 refine W.condP h rfl (fun hb8930 h => ?_) (fun hb8930 h => ?_)
 ·refine W.seq <| W.region <| WL.p rfl rfl rfl (.k .nil) (q_assign rfl) <| WL.nil <| QN.weaken (env' := [(6, _)]) (.one rfl (.nil _)) <| QN.then_ <| W.ret <| QR.then_ ?_
  cases h
  exact QR.f1 rfl rfl (.t rfl) (.id _)
 ·refine W.skip <| QN.then_ <| W.seq <| W.seq <| W.region <| WL.p rfl rfl rfl (.k .nil) (q_assign rfl) <| WL.nil <| QN.then_ <| W.block ?_
  refine W.loop1 (Γ := Unit) (fun (_ : Unit) (x7 : Int) => [(0, SlcA kInt a0), (2, EqA (.int .i64 a2)), (7, EqA (.int .i64 x7))]) (fun (_ : Unit) (_ : Int) => []) h () (.one rfl (.one rfl (.one rfl (.nil _)))) rfl (fun rec0 K0 next0 _ x7 h => ?_)
  unfold ref17_partly.b0 at h
  refine W.seq <| W.seq <| W.region <| WL.p rfl rfl rfl (.s 7 rfl .nil) (q_move rfl) <| WL.p rfl rfl rfl (.s 0 rfl .nil) (q_move rfl) <| WL.p rfl rfl rfl (.s 13 rfl .nil) (q_len rfl elS26) <| WL.p rfl rfl rfl (.s 12 rfl (.s 14 rfl .nil)) (q_int rfl rfl) <| WL.nil <| QN.then_ ?_
  refine W.condP h rfl (fun hb8953 h => ?_) (fun hb8953 h => ?_)
  ·refine W.skip <| QN.then_ <| W.seq <| W.block <| W.seq ?_
   refine W.jn1 (Γ := Unit) (fun (_ : Unit) (x30 : Bool) => [(0, SlcA kInt a0), (2, EqA (.int .i64 a2)), (7, EqA (.int .i64 x7)), (30, EqA (.bool x30))]) (fun (_ : Unit) (_ : Bool) => []) h (fun _ x30 h => ?_) (fun j8958 Kj8958 h => ?_)
   ·refine QN.then_ ?_
    refine W.condP h rfl (fun hb8959 h => ?_) (fun hb8959 h => ?_)
    ·refine W.seq <| W.region <| WL.p rfl rfl rfl (.k .nil) (q_assign rfl) <| WL.nil <| QN.then_ <| W.ret <| QR.block <| QR.then_ <| QR.then_ <| QR.block <| QR.then_ ?_
     cases h
     exact QR.f1 rfl rfl (.t rfl) (.id _)
    ·refine W.skip <| QN.block <| QN.then_ <| W.region <| WL.p rfl rfl rfl (.s 7 rfl .nil) (q_move rfl) ?_
     obtain ⟨c8960, h⟩ := ite_n h
     refine WL.p rfl rfl rfl (.s 16 rfl (.k .nil)) (q_addR rfl c8960) <| WL.p rfl rfl rfl (.s 17 rfl .nil) (q_assign rfl) <| WL.nil ?_
     exact next0 () (x7 + 1) _ h (.one rfl (.one rfl (.one rfl (.nil _))))
   ·refine W.region <| WL.p rfl rfl rfl (.s 0 rfl .nil) (q_move rfl) <| WL.p rfl rfl rfl (.s 7 rfl .nil) (q_move rfl) ?_
    obtain ⟨c8961, h⟩ := ite_n h
    refine WL.p rfl rfl rfl (.s 18 rfl (.s 19 rfl .nil)) (q_index rfl el26 rfl c8961.1 c8961.2) <| WL.p rfl rfl rfl (.s 20 rfl .nil) (q_load rfl sh3) <| WL.p rfl rfl rfl (.s 21 rfl (.k .nil)) (q_int rfl rfl) <| WL.p rfl rfl rfl (.s 22 rfl .nil) (q_move rfl) ?_
    rcases bif_s h with ⟨hb8962, h⟩ | ⟨hb8962, h⟩
    ·refine WL.skip (Unwanted.on rfl rfl rfl hb8962) rfl rfl <| WL.skip (Unwanted.on rfl rfl rfl hb8962) rfl rfl <| WL.skip (Unwanted.on rfl rfl rfl hb8962) rfl rfl <| WL.skip (Unwanted.on rfl rfl rfl hb8962) rfl rfl <| WL.skip (Unwanted.on rfl rfl rfl hb8962) rfl rfl <| WL.skip (Unwanted.on rfl rfl rfl hb8962) rfl rfl <| WL.p rfl rfl rfl (.s 23 rfl (.k .nil)) (q_pickT rfl hb8962) <| WL.nil ?_
     exact QN.weaken (.one rfl (.one rfl (.one rfl (.one rfl (.nil _))))) (Kj8958 () true h)
    ·refine WL.q (Wanted.on rfl rfl rfl hb8962) rfl rfl (.s 0 rfl .nil) (q_move rfl).o <| WL.q (Wanted.on rfl rfl rfl hb8962) rfl rfl (.s 7 rfl .nil) (q_move rfl).o ?_
     obtain ⟨c8963, h⟩ := ite_n h
     refine WL.q (Wanted.on rfl rfl rfl hb8962) rfl rfl (.s 24 rfl (.s 25 rfl .nil)) (q_index rfl el26 rfl c8963.1 c8963.2).o <| WL.q (Wanted.on rfl rfl rfl hb8962) rfl rfl (.s 26 rfl .nil) (q_load rfl sh3).o <| WL.q (Wanted.on rfl rfl rfl hb8962) rfl rfl (.s 2 rfl .nil) (q_move rfl).o <| WL.q (Wanted.on rfl rfl rfl hb8962) rfl rfl (.s 27 rfl (.s 28 rfl .nil)) (q_int rfl rfl).o <| WL.p rfl rfl rfl (.s 23 rfl (.s 29 rfl .nil)) (q_pickF rfl hb8962) <| WL.nil ?_
     exact QN.weaken (.one rfl (.one rfl (.one rfl (.one rfl (.nil _))))) (Kj8958 () (decide ((rd a0 x7) ≥ a2)) h)
  ·refine W.exit <| QX.then_ <| QX.then_ <| QX.here <| QN.weaken (env' := []) (.nil _) <| QN.then_ <| W.seq <| W.region <| WL.p rfl rfl rfl (.k .nil) (q_assign rfl) <| WL.nil <| QN.then_ <| W.ret ?_
   cases h
   exact QR.f1 rfl rfl (.t rfl) (.id _)
theorem ref17_Extend.con (k : Nat) (a0 : Types) (a1 : Graph) (a2 : Graph) (a3 : Morphism) (a4 : Bool) (r : ((List Morphism) × Int)) (h : ref17_Extend k a0 a1 a2 a3 a4 = some r) : Con Tryz.prog 19 [] [AggA [SlcA kNodeType a0.fNodes, SlcA kEdgeType a0.fEdges], AggA [SlcA kInt a1.fNodes, SlcA kEdge a1.fEdges], AggA [SlcA kInt a2.fNodes, SlcA kEdge a2.fEdges], AggA [SlcA kInt a3.fNodes, SlcA kInt a3.fEdges], EqA (.bool a4)] (RA (TupA [SlcA kMorphism r.1, EqA (.int .i64 r.2)])) := by
 unfold ref17_Extend at h
 refine Con.of (N := 73) Tryz.func19 rfl rfl rfl fun w0_ fg_ => W.seq <| W.region <| WL.p rfl rfl rfl (.s 0 rfl .nil) (q_box rfl (CellsOf.agg _)) <| WL.p rfl rfl rfl (.s 1 rfl .nil) (q_box rfl (CellsOf.agg _)) <| WL.p rfl rfl rfl (.s 2 rfl .nil) (q_box rfl (CellsOf.agg _)) <| WL.p rfl rfl rfl (.s 3 rfl .nil) (q_box rfl (CellsOf.agg _)) <| WL.p rfl rfl rfl (.k .nil) (q_assign rfl) <| WL.p rfl rfl rfl (.k .nil) (q_assign rfl) <| WL.nil <| QN.then_ <| W.seq <| W.seq ?_
 refine W.region <| WL.p rfl rfl rfl (.s 5 rfl .nil) (q_loadS rfl sh25 (leB rfl) rfl) <| WL.p rfl rfl rfl (.s 6 rfl .nil) (q_loadS rfl sh29 (leB rfl) rfl) <| WL.p rfl rfl rfl (.s 7 rfl .nil) (q_loadS rfl sh29 (leB rfl) rfl) ?_
 obtain ⟨t8964, ht8964, h⟩ := bind_s h
 refine WL.p rfl rfl rfl (.s 16 rfl (.s 17 rfl (.s 18 rfl .nil))) (q_call (f := 35) (A := EqA (.int .i64 t8964)) (xs := [.tmp 16, .tmp 17, .tmp 18]) («as» := [AggA [SlcA kNodeType a0.fNodes, SlcA kEdgeType a0.fEdges], AggA [SlcA kInt a1.fNodes, SlcA kEdge a1.fEdges], AggA [SlcA kInt a2.fNodes, SlcA kEdge a2.fEdges]]) rfl ca35 (ref17_given.con k a0 a1 a2 t8964 ht8964) rfl) <| WL.p rfl rfl rfl (.s 19 rfl .nil) (q_assign rfl) <| WL.nil <| QN.weaken (env' := [(12, _), (8, _), (7, _), (6, _), (5, _), (4, _)]) (.one rfl (.one rfl (.one rfl (.one rfl (.one rfl (.one rfl (.nil _))))))) <| QN.then_ <| W.seq <| W.region <| WL.p rfl rfl rfl (.s 12 rfl .nil) (q_move rfl) <| WL.p rfl rfl rfl (.s 20 rfl (.k .nil)) (q_int rfl rfl) <| WL.nil <| QN.then_ ?_
 refine W.condP h rfl (fun hb8965 h => ?_) (fun hb8965 h => ?_)
 ·refine W.seq <| W.region <| WL.p rfl rfl rfl (.s 12 rfl .nil) (q_move rfl) <| WL.p rfl rfl rfl (.k .nil) (q_assign rfl) <| WL.p rfl rfl rfl (.s 22 rfl .nil) (q_assign rfl) <| WL.nil <| QN.weaken (env' := [(11, _), (10, _)]) (.one rfl (.one rfl (.nil _))) <| QN.then_ <| W.ret <| QR.then_ ?_
  cases h
  exact QR.f2 rfl rfl (.t rfl) (.t rfl) (.imp (Imp.tup (.cons (Imp.nil kMorphism) (.cons (Imp.id _) .nil))))
 ·refine W.skip <| QN.then_ <| W.seq <| W.seq ?_
  refine W.jn1 (Γ := Unit) (fun (_ : Unit) (x38 : Bool) => [(4, EqA (.bool a4)), (5, PtrA [SlcA kNodeType a0.fNodes, SlcA kEdgeType a0.fEdges]), (6, PtrA [SlcA kInt a1.fNodes, SlcA kEdge a1.fEdges]), (7, PtrA [SlcA kInt a2.fNodes, SlcA kEdge a2.fEdges]), (8, PtrA [SlcA kInt a3.fNodes, SlcA kInt a3.fEdges]), (38, EqA (.bool x38))]) (fun (_ : Unit) (_ : Bool) => []) h (fun _ x38 h => ?_) (fun j8968 Kj8968 h => ?_)
  ·refine QN.then_ ?_
   refine W.condP h rfl (fun hb8969 h => ?_) (fun hb8969 h => ?_)
   ·refine W.seq <| W.region <| WL.p rfl rfl rfl (.k .nil) (q_assign rfl) <| WL.p rfl rfl rfl (.k .nil) (q_assign rfl) <| WL.nil <| QN.then_ <| W.ret <| QR.then_ ?_
    cases h
    exact QR.f2 rfl rfl (.t rfl) (.t rfl) (.imp (Imp.tup (.cons (Imp.nil kMorphism) (.cons (Imp.id _) .nil))))
   ·refine W.skip <| QN.then_ <| W.seq <| W.seq <| W.region <| WL.p rfl rfl rfl (.s 8 rfl .nil) (q_field rfl fo33_0 rfl) <| WL.p rfl rfl rfl (.s 39 rfl .nil) (q_load rfl sh26) <| WL.p rfl rfl rfl (.s 6 rfl .nil) (q_field rfl fo29_0 rfl) <| WL.p rfl rfl rfl (.s 41 rfl .nil) (q_load rfl sh26) <| WL.p rfl rfl rfl (.s 42 rfl .nil) (q_len rfl elS26) <| WL.p rfl rfl rfl (.s 7 rfl .nil) (q_field rfl fo29_0 rfl) <| WL.p rfl rfl rfl (.s 44 rfl .nil) (q_load rfl sh26) <| WL.p rfl rfl rfl (.s 45 rfl .nil) (q_len rfl elS26) ?_
    obtain ⟨t8970, ht8970, h⟩ := bind_s h
    refine WL.p rfl rfl rfl (.s 40 rfl (.s 43 rfl (.s 46 rfl .nil))) (q_call (f := 48) (A := EqA (.int .i64 t8970)) (xs := [.tmp 40, .tmp 43, .tmp 46]) («as» := [SlcA kInt a3.fNodes, EqA (.int .i64 (a1.fNodes.length : Int)), EqA (.int .i64 (a2.fNodes.length : Int))]) rfl ca48 (ref17_partly.con k a3.fNodes (a1.fNodes.length : Int) (a2.fNodes.length : Int) t8970 ht8970) rfl) <| WL.p rfl rfl rfl (.s 47 rfl .nil) (q_assign rfl) <| WL.nil <| QN.weaken (env' := [(13, _), (8, _), (7, _), (6, _), (5, _), (4, _)]) (.one rfl (.one rfl (.one rfl (.one rfl (.one rfl (.one rfl (.nil _))))))) <| QN.then_ <| W.seq <| W.region <| WL.p rfl rfl rfl (.s 13 rfl .nil) (q_move rfl) <| WL.p rfl rfl rfl (.s 48 rfl (.k .nil)) (q_int rfl rfl) <| WL.nil <| QN.then_ ?_
    refine W.condP h rfl (fun hb8971 h => ?_) (fun hb8971 h => ?_)
    ·refine W.seq <| W.region <| WL.p rfl rfl rfl (.s 13 rfl .nil) (q_move rfl) <| WL.p rfl rfl rfl (.k .nil) (q_assign rfl) <| WL.p rfl rfl rfl (.s 50 rfl .nil) (q_assign rfl) <| WL.nil <| QN.weaken (env' := [(11, _), (10, _)]) (.one rfl (.one rfl (.nil _))) <| QN.then_ <| W.ret <| QR.then_ ?_
     cases h
     exact QR.f2 rfl rfl (.t rfl) (.t rfl) (.imp (Imp.tup (.cons (Imp.nil kMorphism) (.cons (Imp.id _) .nil))))
    ·refine W.skip <| QN.then_ <| W.seq <| W.seq <| W.region <| WL.p rfl rfl rfl (.s 8 rfl .nil) (q_field rfl fo33_1 rfl) <| WL.p rfl rfl rfl (.s 51 rfl .nil) (q_load rfl sh26) <| WL.p rfl rfl rfl (.s 6 rfl .nil) (q_field rfl fo29_1 rfl) <| WL.p rfl rfl rfl (.s 53 rfl .nil) (q_load rfl sh27) <| WL.p rfl rfl rfl (.s 54 rfl .nil) (q_len rfl elS27) <| WL.p rfl rfl rfl (.s 7 rfl .nil) (q_field rfl fo29_1 rfl) <| WL.p rfl rfl rfl (.s 56 rfl .nil) (q_load rfl sh27) <| WL.p rfl rfl rfl (.s 57 rfl .nil) (q_len rfl elS27) ?_
     obtain ⟨t8972, ht8972, h⟩ := bind_s h
     refine WL.p rfl rfl rfl (.s 52 rfl (.s 55 rfl (.s 58 rfl .nil))) (q_call (f := 48) (A := EqA (.int .i64 t8972)) (xs := [.tmp 52, .tmp 55, .tmp 58]) («as» := [SlcA kInt a3.fEdges, EqA (.int .i64 (a1.fEdges.length : Int)), EqA (.int .i64 (a2.fEdges.length : Int))]) rfl ca48 (ref17_partly.con k a3.fEdges (a1.fEdges.length : Int) (a2.fEdges.length : Int) t8972 ht8972) rfl) <| WL.p rfl rfl rfl (.s 59 rfl .nil) (q_assign rfl) <| WL.nil <| QN.weaken (env' := [(14, _), (8, _), (7, _), (6, _), (5, _), (4, _)]) (.one rfl (.one rfl (.one rfl (.one rfl (.one rfl (.one rfl (.nil _))))))) <| QN.then_ <| W.seq <| W.region <| WL.p rfl rfl rfl (.s 14 rfl .nil) (q_move rfl) <| WL.p rfl rfl rfl (.s 60 rfl (.k .nil)) (q_int rfl rfl) <| WL.nil <| QN.then_ ?_
     refine W.condP h rfl (fun hb8973 h => ?_) (fun hb8973 h => ?_)
     ·refine W.seq <| W.region <| WL.p rfl rfl rfl (.s 14 rfl .nil) (q_move rfl) <| WL.p rfl rfl rfl (.k .nil) (q_assign rfl) <| WL.p rfl rfl rfl (.s 62 rfl .nil) (q_assign rfl) <| WL.nil <| QN.weaken (env' := [(11, _), (10, _)]) (.one rfl (.one rfl (.nil _))) <| QN.then_ <| W.ret <| QR.then_ ?_
      cases h
      exact QR.f2 rfl rfl (.t rfl) (.t rfl) (.imp (Imp.tup (.cons (Imp.nil kMorphism) (.cons (Imp.id _) .nil))))
     ·refine W.skip <| QN.then_ <| W.seq <| W.region <| WL.p rfl rfl rfl (.s 5 rfl .nil) (q_loadS rfl sh25 (leB rfl) rfl) <| WL.p rfl rfl rfl (.s 6 rfl .nil) (q_loadS rfl sh29 (leB rfl) rfl) <| WL.p rfl rfl rfl (.s 7 rfl .nil) (q_loadS rfl sh29 (leB rfl) rfl) <| WL.p rfl rfl rfl (.s 8 rfl .nil) (q_loadS rfl sh33 (leB rfl) rfl) <| WL.p rfl rfl rfl (.s 4 rfl .nil) (q_move rfl) ?_
      obtain ⟨t8974, ht8974, h⟩ := bind_s h
      refine WL.p rfl rfl rfl (.s 63 rfl (.s 64 rfl (.s 65 rfl (.s 66 rfl (.s 67 rfl (.k .nil)))))) (q_call (f := 43) (A := SlcA kMorphism t8974) (xs := [.tmp 63, .tmp 64, .tmp 65, .tmp 66, .tmp 67, .const (.int .i64 5000)]) («as» := [AggA [SlcA kNodeType a0.fNodes, SlcA kEdgeType a0.fEdges], AggA [SlcA kInt a1.fNodes, SlcA kEdge a1.fEdges], AggA [SlcA kInt a2.fNodes, SlcA kEdge a2.fEdges], AggA [SlcA kInt a3.fNodes, SlcA kInt a3.fEdges], EqA (.bool a4), EqA (.int .i64 5000)]) rfl ca43 (ref17_run.con k a0 a1 a2 a3 a4 5000 t8974 ht8974) rfl) <| WL.p rfl rfl rfl (.s 68 rfl .nil) (q_assign rfl) <| WL.nil <| QN.weaken (env' := [(15, _)]) (.one rfl (.nil _)) <| QN.then_ <| W.seq <| W.seq <| W.region <| WL.p rfl rfl rfl (.s 15 rfl .nil) (q_move rfl) <| WL.p rfl rfl rfl (.s 69 rfl .nil) (q_len rfl elS46) <| WL.p rfl rfl rfl (.s 70 rfl (.k .nil)) (q_int rfl rfl) <| WL.nil <| QN.then_ ?_
      refine W.condP h rfl (fun hb8975 h => ?_) (fun hb8975 h => ?_)
      ·refine W.seq <| W.region <| WL.p rfl rfl rfl (.k .nil) (q_assign rfl) <| WL.p rfl rfl rfl (.k .nil) (q_assign rfl) <| WL.nil <| QN.then_ <| W.ret <| QR.then_ ?_
       cases h
       exact QR.f2 rfl rfl (.t rfl) (.t rfl) (.imp (Imp.tup (.cons (Imp.nil kMorphism) (.cons (Imp.id _) .nil))))
      ·refine W.skip <| QN.then_ <| W.seq <| W.region <| WL.p rfl rfl rfl (.s 15 rfl .nil) (q_move rfl) <| WL.p rfl rfl rfl (.s 72 rfl .nil) (q_assign rfl) <| WL.p rfl rfl rfl (.k .nil) (q_assign rfl) <| WL.nil <| QN.then_ <| W.ret ?_
       cases h
       exact QR.f2 rfl rfl (.t rfl) (.t rfl) (.id _)
  ·refine W.region <| WL.p rfl rfl rfl (.s 8 rfl .nil) (q_field rfl fo33_0 rfl) <| WL.p rfl rfl rfl (.s 23 rfl .nil) (q_load rfl sh26) <| WL.p rfl rfl rfl (.s 24 rfl .nil) (q_len rfl elS26) <| WL.p rfl rfl rfl (.s 6 rfl .nil) (q_field rfl fo29_0 rfl) <| WL.p rfl rfl rfl (.s 26 rfl .nil) (q_load rfl sh26) <| WL.p rfl rfl rfl (.s 27 rfl .nil) (q_len rfl elS26) <| WL.p rfl rfl rfl (.s 25 rfl (.s 28 rfl .nil)) (q_int rfl rfl) <| WL.p rfl rfl rfl (.s 29 rfl .nil) (q_move rfl) ?_
   rcases bif_s h with ⟨hb8976, h⟩ | ⟨hb8976, h⟩
   ·refine WL.skip (Unwanted.on rfl rfl rfl hb8976) rfl rfl <| WL.skip (Unwanted.on rfl rfl rfl hb8976) rfl rfl <| WL.skip (Unwanted.on rfl rfl rfl hb8976) rfl rfl <| WL.skip (Unwanted.on rfl rfl rfl hb8976) rfl rfl <| WL.skip (Unwanted.on rfl rfl rfl hb8976) rfl rfl <| WL.skip (Unwanted.on rfl rfl rfl hb8976) rfl rfl <| WL.skip (Unwanted.on rfl rfl rfl hb8976) rfl rfl <| WL.p rfl rfl rfl (.s 30 rfl (.k .nil)) (q_pickT rfl hb8976) <| WL.nil ?_
    exact QN.weaken (.one rfl (.one rfl (.one rfl (.one rfl (.one rfl (.one rfl (.nil _))))))) (Kj8968 () true h)
   ·refine WL.q (Wanted.on rfl rfl rfl hb8976) rfl rfl (.s 8 rfl .nil) (q_field rfl fo33_1 rfl).o <| WL.q (Wanted.on rfl rfl rfl hb8976) rfl rfl (.s 31 rfl .nil) (q_load rfl sh26).o <| WL.q (Wanted.on rfl rfl rfl hb8976) rfl rfl (.s 32 rfl .nil) (q_len rfl elS26).o <| WL.q (Wanted.on rfl rfl rfl hb8976) rfl rfl (.s 6 rfl .nil) (q_field rfl fo29_1 rfl).o <| WL.q (Wanted.on rfl rfl rfl hb8976) rfl rfl (.s 34 rfl .nil) (q_load rfl sh27).o <| WL.q (Wanted.on rfl rfl rfl hb8976) rfl rfl (.s 35 rfl .nil) (q_len rfl elS27).o <| WL.q (Wanted.on rfl rfl rfl hb8976) rfl rfl (.s 33 rfl (.s 36 rfl .nil)) (q_int rfl rfl).o <| WL.p rfl rfl rfl (.s 30 rfl (.s 37 rfl .nil)) (q_pickF rfl hb8976) <| WL.nil ?_
    exact QN.weaken (.one rfl (.one rfl (.one rfl (.one rfl (.one rfl (.one rfl (.nil _))))))) (Kj8968 () ((a3.fEdges.length : Int) != (a1.fEdges.length : Int)) h)
theorem law17_SearchExtend.con (k : Nat) (a0 : Case) (a1 : Morphism) (a2 : Bool) (r : Bool) (h : law17_SearchExtend k a0 a1 a2 = some r) : Con Tryz.prog 5 [] [AggA [SlcA kNodeType a0.fT.fNodes, SlcA kEdgeType a0.fT.fEdges, SlcA kInt a0.fP.fNodes, SlcA kEdge a0.fP.fEdges, SlcA kInt a0.fG.fNodes, SlcA kEdge a0.fG.fEdges], AggA [SlcA kInt a1.fNodes, SlcA kInt a1.fEdges], EqA (.bool a2)] (RA (EqA (.bool r))) := by
 unfold law17_SearchExtend at h
 refine Con.of (N := 68) Tryz.func5 rfl rfl rfl fun w0_ fg_ => W.seq <| W.region <| WL.p rfl rfl rfl (.s 0 rfl .nil) (q_box rfl (CellsOf.agg _)) <| WL.p rfl rfl rfl (.s 1 rfl .nil) (q_box rfl (CellsOf.agg _)) <| WL.p rfl rfl rfl (.k .nil) (q_assign rfl) <| WL.nil <| QN.then_ <| W.seq <| W.seq ?_
 refine W.jn1 (Γ := Unit) (fun (_ : Unit) (x34 : Bool) => [(2, EqA (.bool a2)), (3, PtrA [SlcA kNodeType a0.fT.fNodes, SlcA kEdgeType a0.fT.fEdges, SlcA kInt a0.fP.fNodes, SlcA kEdge a0.fP.fEdges, SlcA kInt a0.fG.fNodes, SlcA kEdge a0.fG.fEdges]), (4, PtrA [SlcA kInt a1.fNodes, SlcA kInt a1.fEdges]), (34, EqA (.bool x34))]) (fun (_ : Unit) (_ : Bool) => []) h (fun _ x34 h => ?_) (fun j8983 Kj8983 h => ?_)
 ·refine QN.then_ ?_
  refine W.condP h rfl (fun hb8984 h => ?_) (fun hb8984 h => ?_)
  ·refine W.seq <| W.region ?_
   obtain ⟨t8985, ht8985, h⟩ := bind_s h
   refine WL.p rfl rfl rfl .nil (q_call (f := 9) (A := EqA (.bool t8985)) (xs := []) («as» := []) rfl ca9 (law17_awake.con k  t8985 ht8985) rfl) <| WL.p rfl rfl rfl (.s 35 rfl .nil) (q_assign rfl) <| WL.nil <| QN.then_ <| W.ret <| QR.then_ ?_
   cases h
   exact QR.f1 rfl rfl (.t rfl) (.id _)
  ·refine W.skip <| QN.then_ <| W.seq <| W.region <| WL.p rfl rfl rfl (.s 3 rfl .nil) (q_field rfl fo31_0 rfl) <| WL.p rfl rfl rfl (.s 37 rfl .nil) (q_loadS rfl sh25 (leB rfl) rfl) <| WL.p rfl rfl rfl (.s 3 rfl .nil) (q_field rfl fo31_1 rfl) <| WL.p rfl rfl rfl (.s 39 rfl .nil) (q_loadS rfl sh29 (leB rfl) rfl) <| WL.p rfl rfl rfl (.s 3 rfl .nil) (q_field rfl fo31_2 rfl) <| WL.p rfl rfl rfl (.s 41 rfl .nil) (q_loadS rfl sh29 (leB rfl) rfl) <| WL.p rfl rfl rfl (.s 4 rfl .nil) (q_loadS rfl sh33 (leB rfl) rfl) <| WL.p rfl rfl rfl (.s 2 rfl .nil) (q_move rfl) ?_
   obtain ⟨t8986, ht8986, h⟩ := bind_s h
   refine WL.p rfl rfl rfl (.s 38 rfl (.s 40 rfl (.s 42 rfl (.s 43 rfl (.s 44 rfl .nil))))) (q_call (f := 18) (A := TupA [SlcA kMorphism t8986.1, EqA (.int .i64 t8986.2)]) (xs := [.tmp 38, .tmp 40, .tmp 42, .tmp 43, .tmp 44]) («as» := [AggA [SlcA kNodeType a0.fT.fNodes, SlcA kEdgeType a0.fT.fEdges], AggA [SlcA kInt a0.fP.fNodes, SlcA kEdge a0.fP.fEdges], AggA [SlcA kInt a0.fG.fNodes, SlcA kEdge a0.fG.fEdges], AggA [SlcA kInt a1.fNodes, SlcA kInt a1.fEdges], EqA (.bool a2)]) rfl ca18 (search_Extend.con k a0.fT a0.fP a0.fG a1 a2 t8986 ht8986) rfl) <| WL.p rfl rfl rfl (.s 45 rfl .nil) (q_move rfl) <| WL.p rfl rfl rfl (.s 36 rfl .nil) (q_extract rfl rfl) <| WL.p rfl rfl rfl (.s 36 rfl .nil) (q_extract rfl rfl) <| WL.p rfl rfl rfl (.s 46 rfl .nil) (q_assign rfl) <| WL.p rfl rfl rfl (.s 47 rfl .nil) (q_assign rfl) <| WL.nil <| QN.weaken (env' := [(8, _), (7, _), (4, _), (3, _), (2, _)]) (.one rfl (.one rfl (.one rfl (.one rfl (.one rfl (.nil _)))))) <| QN.then_ <| W.seq <| W.region <| WL.p rfl rfl rfl (.s 3 rfl .nil) (q_field rfl fo31_0 rfl) <| WL.p rfl rfl rfl (.s 49 rfl .nil) (q_loadS rfl sh25 (leB rfl) rfl) ?_
   refine WL.p rfl rfl rfl (.s 3 rfl .nil) (q_field rfl fo31_1 rfl) <| WL.p rfl rfl rfl (.s 51 rfl .nil) (q_loadS rfl sh29 (leB rfl) rfl) <| WL.p rfl rfl rfl (.s 3 rfl .nil) (q_field rfl fo31_2 rfl) <| WL.p rfl rfl rfl (.s 53 rfl .nil) (q_loadS rfl sh29 (leB rfl) rfl) <| WL.p rfl rfl rfl (.s 4 rfl .nil) (q_loadS rfl sh33 (leB rfl) rfl) <| WL.p rfl rfl rfl (.s 2 rfl .nil) (q_move rfl) ?_
   obtain ⟨t8987, ht8987, h⟩ := bind_s h
   refine WL.p rfl rfl rfl (.s 50 rfl (.s 52 rfl (.s 54 rfl (.s 55 rfl (.s 56 rfl .nil))))) (q_call (f := 19) (A := TupA [SlcA kMorphism t8987.1, EqA (.int .i64 t8987.2)]) (xs := [.tmp 50, .tmp 52, .tmp 54, .tmp 55, .tmp 56]) («as» := [AggA [SlcA kNodeType a0.fT.fNodes, SlcA kEdgeType a0.fT.fEdges], AggA [SlcA kInt a0.fP.fNodes, SlcA kEdge a0.fP.fEdges], AggA [SlcA kInt a0.fG.fNodes, SlcA kEdge a0.fG.fEdges], AggA [SlcA kInt a1.fNodes, SlcA kInt a1.fEdges], EqA (.bool a2)]) rfl ca19 (ref17_Extend.con k a0.fT a0.fP a0.fG a1 a2 t8987 ht8987) rfl) <| WL.p rfl rfl rfl (.s 57 rfl .nil) (q_move rfl) <| WL.p rfl rfl rfl (.s 48 rfl .nil) (q_extract rfl rfl) <| WL.p rfl rfl rfl (.s 48 rfl .nil) (q_extract rfl rfl) <| WL.p rfl rfl rfl (.s 58 rfl .nil) (q_assign rfl) <| WL.p rfl rfl rfl (.s 59 rfl .nil) (q_assign rfl) <| WL.nil <| QN.weaken (env' := [(10, _), (9, _), (8, _), (7, _)]) (.one rfl (.one rfl (.one rfl (.one rfl (.nil _))))) <| QN.then_ <| W.seq ?_
   refine W.jn1 (Γ := Unit) (fun (_ : Unit) (x6 : Bool) => [(6, EqA (.bool x6))]) (fun (_ : Unit) (_ : Bool) => []) h (fun _ x6 h => ?_) (fun j8991 Kj8991 h => ?_)
   ·refine QN.then_ <| W.ret ?_
    cases h
    exact QR.f1 rfl rfl (.t rfl) (.id _)
   ·refine W.region <| WL.p rfl rfl rfl (.s 8 rfl .nil) (q_move rfl) <| WL.p rfl rfl rfl (.s 10 rfl .nil) (q_move rfl) <| WL.p rfl rfl rfl (.s 60 rfl (.s 61 rfl .nil)) (q_int rfl rfl) <| WL.p rfl rfl rfl (.s 62 rfl .nil) (q_move rfl) ?_
    rcases bif_s h with ⟨hb8992, h⟩ | ⟨hb8992, h⟩
    ·refine WL.q (Wanted.on rfl rfl rfl hb8992) rfl rfl (.s 7 rfl .nil) (q_move rfl).o <| WL.q (Wanted.on rfl rfl rfl hb8992) rfl rfl (.s 9 rfl .nil) (q_move rfl).o ?_
     obtain ⟨t8993, ht8993, h⟩ := bind_s h
     refine WL.q (Wanted.on rfl rfl rfl hb8992) rfl rfl (.s 64 rfl (.s 65 rfl .nil)) (q_call (f := 20) (A := EqA (.bool t8993)) (xs := [.tmp 64, .tmp 65]) («as» := [SlcA kMorphism t8986.1, SlcA kMorphism t8987.1]) rfl ca20 (ref17_SameAll.con k t8986.1 t8987.1 t8993 ht8993) rfl).o <| WL.p rfl rfl rfl (.s 63 rfl (.s 66 rfl .nil)) (q_pickT rfl hb8992) <| WL.p rfl rfl rfl (.s 67 rfl .nil) (q_assign rfl) <| WL.nil ?_
     exact QN.weaken (.one rfl (.nil _)) (Kj8991 () t8993 h)
    ·refine WL.skip (Unwanted.on rfl rfl rfl hb8992) rfl rfl <| WL.skip (Unwanted.on rfl rfl rfl hb8992) rfl rfl <| WL.skip (Unwanted.on rfl rfl rfl hb8992) rfl rfl <| WL.p rfl rfl rfl (.s 63 rfl (.k .nil)) (q_pickF rfl hb8992) <| WL.p rfl rfl rfl (.s 67 rfl .nil) (q_assign rfl) <| WL.nil ?_
     exact QN.weaken (.one rfl (.nil _)) (Kj8991 () false h)
 ·refine W.region ?_
  obtain ⟨t8994, ht8994, h⟩ := bind_s h
  refine WL.p rfl rfl rfl .nil (q_call (f := 9) (A := EqA (.bool t8994)) (xs := []) («as» := []) rfl ca9 (law17_awake.con k  t8994 ht8994) rfl) <| WL.p rfl rfl rfl (.s 11 rfl .nil) (q_not rfl) <| WL.p rfl rfl rfl (.s 12 rfl .nil) (q_move rfl) ?_
  rcases bif_s h with ⟨hb8995, h⟩ | ⟨hb8995, h⟩
  ·refine WL.skip (Unwanted.on rfl rfl rfl hb8995) rfl rfl <| WL.skip (Unwanted.on rfl rfl rfl hb8995) rfl rfl <| WL.skip (Unwanted.on rfl rfl rfl hb8995) rfl rfl <| WL.skip (Unwanted.on rfl rfl rfl hb8995) rfl rfl <| WL.skip (Unwanted.on rfl rfl rfl hb8995) rfl rfl <| WL.skip (Unwanted.on rfl rfl rfl hb8995) rfl rfl <| WL.skip (Unwanted.on rfl rfl rfl hb8995) rfl rfl <| WL.skip (Unwanted.on rfl rfl rfl hb8995) rfl rfl <| WL.p rfl rfl rfl (.s 13 rfl (.k .nil)) (q_pickT rfl hb8995) <| WL.p rfl rfl rfl (.s 22 rfl .nil) (q_move rfl) <| WL.skip (Unwanted.on rfl rfl rfl rfl) rfl rfl <| WL.skip (Unwanted.on rfl rfl rfl rfl) rfl rfl <| WL.skip (Unwanted.on rfl rfl rfl rfl) rfl rfl ?_
   refine WL.skip (Unwanted.on rfl rfl rfl rfl) rfl rfl <| WL.p rfl rfl rfl (.s 23 rfl (.k .nil)) (q_pickT rfl rfl) <| WL.p rfl rfl rfl (.s 28 rfl .nil) (q_move rfl) <| WL.skip (Unwanted.on rfl rfl rfl rfl) rfl rfl <| WL.skip (Unwanted.on rfl rfl rfl rfl) rfl rfl <| WL.skip (Unwanted.on rfl rfl rfl rfl) rfl rfl <| WL.skip (Unwanted.on rfl rfl rfl rfl) rfl rfl <| WL.p rfl rfl rfl (.s 29 rfl (.k .nil)) (q_pickT rfl rfl) <| WL.nil ?_
   exact QN.weaken (.one rfl (.one rfl (.one rfl (.one rfl (.nil _))))) (Kj8983 () true h)
  ·refine WL.q (Wanted.on rfl rfl rfl hb8995) rfl rfl (.s 3 rfl .nil) (q_field rfl fo31_0 rfl).o <| WL.q (Wanted.on rfl rfl rfl hb8995) rfl rfl (.s 14 rfl .nil) (q_loadS rfl sh25 (leB rfl) rfl).o <| WL.q (Wanted.on rfl rfl rfl hb8995) rfl rfl (.s 3 rfl .nil) (q_field rfl fo31_1 rfl).o <| WL.q (Wanted.on rfl rfl rfl hb8995) rfl rfl (.s 16 rfl .nil) (q_loadS rfl sh29 (leB rfl) rfl).o <| WL.q (Wanted.on rfl rfl rfl hb8995) rfl rfl (.s 3 rfl .nil) (q_field rfl fo31_2 rfl).o <| WL.q (Wanted.on rfl rfl rfl hb8995) rfl rfl (.s 18 rfl .nil) (q_loadS rfl sh29 (leB rfl) rfl).o ?_
   obtain ⟨t8996, ht8996, h⟩ := bind_s h
   refine WL.q (Wanted.on rfl rfl rfl hb8995) rfl rfl (.s 15 rfl (.s 17 rfl (.s 19 rfl .nil))) (q_call (f := 10) (A := EqA (.bool t8996)) (xs := [.tmp 15, .tmp 17, .tmp 19]) («as» := [AggA [SlcA kNodeType a0.fT.fNodes, SlcA kEdgeType a0.fT.fEdges], AggA [SlcA kInt a0.fP.fNodes, SlcA kEdge a0.fP.fEdges], AggA [SlcA kInt a0.fG.fNodes, SlcA kEdge a0.fG.fEdges]]) rfl ca10 (ref17_Light.con k a0.fT a0.fP a0.fG t8996 ht8996) rfl).o <| WL.q (Wanted.on rfl rfl rfl hb8995) rfl rfl (.s 20 rfl .nil) (q_not rfl).o <| WL.p rfl rfl rfl (.s 13 rfl (.s 21 rfl .nil)) (q_pickF rfl hb8995) <| WL.p rfl rfl rfl (.s 22 rfl .nil) (q_move rfl) ?_
   rcases bif_s h with ⟨hb8997, h⟩ | ⟨hb8997, h⟩
   ·refine WL.skip (Unwanted.on rfl rfl rfl hb8997) rfl rfl <| WL.skip (Unwanted.on rfl rfl rfl hb8997) rfl rfl <| WL.skip (Unwanted.on rfl rfl rfl hb8997) rfl rfl <| WL.skip (Unwanted.on rfl rfl rfl hb8997) rfl rfl <| WL.p rfl rfl rfl (.s 23 rfl (.k .nil)) (q_pickT rfl hb8997) <| WL.p rfl rfl rfl (.s 28 rfl .nil) (q_move rfl) <| WL.skip (Unwanted.on rfl rfl rfl rfl) rfl rfl <| WL.skip (Unwanted.on rfl rfl rfl rfl) rfl rfl <| WL.skip (Unwanted.on rfl rfl rfl rfl) rfl rfl <| WL.skip (Unwanted.on rfl rfl rfl rfl) rfl rfl <| WL.p rfl rfl rfl (.s 29 rfl (.k .nil)) (q_pickT rfl rfl) <| WL.nil ?_
    exact QN.weaken (.one rfl (.one rfl (.one rfl (.one rfl (.nil _))))) (Kj8983 () true h)
   ·refine WL.q (Wanted.on rfl rfl rfl hb8997) rfl rfl (.s 4 rfl .nil) (q_field rfl fo33_0 rfl).o <| WL.q (Wanted.on rfl rfl rfl hb8997) rfl rfl (.s 24 rfl .nil) (q_load rfl sh26).o <| WL.q (Wanted.on rfl rfl rfl hb8997) rfl rfl (.s 25 rfl .nil) (q_len rfl elS26).o <| WL.q (Wanted.on rfl rfl rfl hb8997) rfl rfl (.s 26 rfl (.k .nil)) (q_int rfl rfl).o <| WL.p rfl rfl rfl (.s 23 rfl (.s 27 rfl .nil)) (q_pickF rfl hb8997) <| WL.p rfl rfl rfl (.s 28 rfl .nil) (q_move rfl) ?_
    rcases bif_s h with ⟨hb8998, h⟩ | ⟨hb8998, h⟩
    ·refine WL.skip (Unwanted.on rfl rfl rfl hb8998) rfl rfl <| WL.skip (Unwanted.on rfl rfl rfl hb8998) rfl rfl <| WL.skip (Unwanted.on rfl rfl rfl hb8998) rfl rfl <| WL.skip (Unwanted.on rfl rfl rfl hb8998) rfl rfl <| WL.p rfl rfl rfl (.s 29 rfl (.k .nil)) (q_pickT rfl hb8998) <| WL.nil ?_
     exact QN.weaken (.one rfl (.one rfl (.one rfl (.one rfl (.nil _))))) (Kj8983 () true h)
    ·refine WL.q (Wanted.on rfl rfl rfl hb8998) rfl rfl (.s 4 rfl .nil) (q_field rfl fo33_1 rfl).o <| WL.q (Wanted.on rfl rfl rfl hb8998) rfl rfl (.s 30 rfl .nil) (q_load rfl sh26).o <| WL.q (Wanted.on rfl rfl rfl hb8998) rfl rfl (.s 31 rfl .nil) (q_len rfl elS26).o <| WL.q (Wanted.on rfl rfl rfl hb8998) rfl rfl (.s 32 rfl (.k .nil)) (q_int rfl rfl).o <| WL.p rfl rfl rfl (.s 29 rfl (.s 33 rfl .nil)) (q_pickF rfl hb8998) <| WL.nil ?_
     exact QN.weaken (.one rfl (.one rfl (.one rfl (.one rfl (.nil _))))) (Kj8983 () (decide ((a1.fEdges.length : Int) > 100)) h)
end Go.Proofs.YtelpgjfojhcjcaaGreat
