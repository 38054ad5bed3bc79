/- The Go functions compute the pure ones. (Printed by gen.py.) -/
import Derived.Test.YtcgdfjpeboiioaaGreatC9
namespace Go.Proofs.YtcgdfjpeboiioaaGreat
open Go Go.Abs
attribute [local irreducible] Tryz.prog
theorem attribute_Term.con (k : Nat) (a0 : Term) (a1 : (List Int)) (r : (Int × Int)) (h : attribute_Term k a0 a1 = some r) : Con Tryz.prog 10 [] [AggA [EqA (.int .i64 a0.fVar), EqA (.int .i64 a0.fAdd)], SlcA kInt a1] (RA (TupA [EqA (.int .i64 r.1), EqA (.int .i64 r.2)])) := by
 unfold attribute_Term at h
 refine Con.of (N := 16) Tryz.func10 rfl rfl rfl fun w0_ fg_ => W.seq <| W.region <| WL.p rfl rfl rfl (.s 0 rfl .nil) (q_box rfl (CellsOf.agg _)) <| WL.p rfl rfl rfl (.k .nil) (q_assign rfl) <| WL.p rfl rfl rfl (.k .nil) (q_assign rfl) <| WL.nil <| QN.then_ <| W.seq <| W.seq <| W.region <| WL.p rfl rfl rfl (.s 2 rfl .nil) (q_field rfl fo23_0 rfl) <| WL.p rfl rfl rfl (.s 6 rfl .nil) (q_load rfl sh3) ?_
 refine WL.p rfl rfl rfl (.s 1 rfl .nil) (q_move rfl) <| WL.p rfl rfl rfl (.s 8 rfl .nil) (q_len rfl elS26) ?_
 obtain ⟨c10075, h⟩ := ite_n h
 refine WL.p rfl rfl rfl (.s 9 rfl (.k .nil)) (q_subR rfl c10075) ?_
 obtain ⟨t10076, ht10076, h⟩ := bind_s h
 refine WL.p rfl rfl rfl (.s 7 rfl (.k (.s 10 rfl .nil))) (q_call (f := 40) (A := EqA (.bool t10076)) (xs := [.tmp 7, .const (.int .i64 (-1)), .tmp 10]) («as» := [EqA (.int .i64 a0.fVar), EqA (.int .i64 (-1)), EqA (.int .i64 ((a1.length : Int) - 1))]) rfl ca40 (attribute_within.con k a0.fVar (-1) ((a1.length : Int) - 1) t10076 ht10076) rfl) <| WL.p rfl rfl rfl (.s 11 rfl .nil) (q_not rfl) <| WL.nil <| QN.weaken (env' := [(12, _), (2, _), (1, _)]) (.one rfl (.one rfl (.one rfl (.nil _)))) <| QN.then_ ?_
 refine W.condP h rfl (fun hb10077 h => ?_) (fun hb10077 h => ?_)
 ·refine W.seq <| W.region <| WL.p rfl rfl rfl (.k .nil) (q_assign rfl) <| WL.p rfl rfl rfl (.k .nil) (q_assign rfl) <| WL.nil <| QN.then_ <| W.ret <| QR.then_ ?_
  cases h
  exact QR.f2 rfl rfl (.t rfl) (.t rfl) (.id _)
 ·refine W.skip <| QN.then_ <| W.seq <| W.region <| WL.p rfl rfl rfl (.s 2 rfl .nil) (q_loadS rfl sh23 (leB rfl) rfl) <| WL.p rfl rfl rfl (.s 1 rfl .nil) (q_move rfl) ?_
  obtain ⟨t10078, ht10078, h⟩ := bind_s h
  refine WL.p rfl rfl rfl (.s 13 rfl (.s 14 rfl .nil)) (q_call (f := 41) (A := EqA (.int .i64 t10078)) (xs := [.tmp 13, .tmp 14]) («as» := [AggA [EqA (.int .i64 a0.fVar), EqA (.int .i64 a0.fAdd)], SlcA kInt a1]) rfl ca41 (attribute_value.con k a0 a1 t10078 ht10078) rfl) <| WL.p rfl rfl rfl (.s 15 rfl .nil) (q_assign rfl) <| WL.p rfl rfl rfl (.k .nil) (q_assign rfl) <| WL.nil <| QN.then_ <| W.ret ?_
  cases h
  exact QR.f2 rfl rfl (.t rfl) (.t rfl) (.id _)
theorem ref21_value.con (k : Nat) (a0 : Term) (a1 : (List Int)) (r : Int) (h : ref21_value k a0 a1 = some r) : Con Tryz.prog 42 [] [AggA [EqA (.int .i64 a0.fVar), EqA (.int .i64 a0.fAdd)], SlcA kInt a1] (RA (EqA (.int .i64 r))) := by
 unfold ref21_value at h
 refine Con.of (N := 18) Tryz.func42 rfl rfl rfl fun w0_ fg_ => W.seq <| W.region <| WL.p rfl rfl rfl (.s 0 rfl .nil) (q_box rfl (CellsOf.agg _)) <| WL.p rfl rfl rfl (.k .nil) (q_assign rfl) <| WL.nil <| QN.then_ <| W.seq <| W.seq <| W.region <| WL.p rfl rfl rfl (.s 2 rfl .nil) (q_field rfl fo23_0 rfl) <| WL.p rfl rfl rfl (.s 5 rfl .nil) (q_load rfl sh3) <| WL.p rfl rfl rfl (.s 6 rfl (.k .nil)) (q_int rfl rfl) ?_
 refine WL.nil <| QN.then_ ?_
 refine W.condP h rfl (fun hb10079 h => ?_) (fun hb10079 h => ?_)
 ·refine W.seq <| W.region <| WL.p rfl rfl rfl (.s 2 rfl .nil) (q_field rfl fo23_1 rfl) <| WL.p rfl rfl rfl (.s 8 rfl .nil) (q_load rfl sh3) <| WL.p rfl rfl rfl (.s 9 rfl .nil) (q_assign rfl) <| WL.nil <| QN.weaken (env' := [(4, _)]) (.one rfl (.nil _)) <| QN.then_ <| W.ret <| QR.then_ ?_
  cases h
  exact QR.f1 rfl rfl (.t rfl) (.id _)
 ·refine W.skip <| QN.then_ <| W.seq <| W.drawK [(0, false), (1, false), (2, false), (3, false), (4, false), (5, false), (6, false), (7, false), (8, false)] [] [[], [], [1], [0, 1, 2], [0, 1, 2, 3], [], [5], [0, 1, 2, 3, 4, 5, 6], [0, 1, 2, 3, 4, 5, 6, 7]] mx (by kernel_rfl) <| DK.cons rfl rfl (.p rfl (.s 1 rfl .nil) rfl (q_move rfl)) <| DK.cons rfl rfl (.p rfl (.s 2 rfl .nil) rfl (q_field rfl fo23_0 rfl)) <| DK.cons rfl rfl (.p rfl (.s 11 rfl .nil) rfl (q_load rfl sh3)) ?_
  obtain ⟨c10084, h⟩ := ite_n h
  refine DK.cons rfl rfl (.p rfl (.s 10 rfl (.s 12 rfl .nil)) rfl (q_index rfl el26 rfl c10084.1 c10084.2)) <| DK.cons rfl rfl (.p rfl (.s 13 rfl .nil) rfl (q_load rfl sh3)) <| DK.cons rfl rfl (.p rfl (.s 2 rfl .nil) rfl (q_field rfl fo23_1 rfl)) <| DK.cons rfl rfl (.p rfl (.s 15 rfl .nil) rfl (q_load rfl sh3)) ?_
  obtain ⟨c10085, h⟩ := ite_n h
  refine DK.cons rfl rfl (.p rfl (.s 14 rfl (.s 16 rfl .nil)) rfl (q_addR rfl c10085)) <| DK.cons rfl rfl (.p rfl (.s 17 rfl .nil) rfl (q_assign rfl)) <| DK.nil <| CSteps.nil <| QN.weaken (env' := [(4, _)]) (.one rfl (.nil _)) <| QN.then_ <| W.ret ?_
  cases h
  exact QR.f1 rfl rfl (.t rfl) (.id _)
theorem ref21_Term.con (k : Nat) (a0 : Term) (a1 : (List Int)) (r : (Int × Int)) (h : ref21_Term k a0 a1 = some r) : Con Tryz.prog 12 [] [AggA [EqA (.int .i64 a0.fVar), EqA (.int .i64 a0.fAdd)], SlcA kInt a1] (RA (TupA [EqA (.int .i64 r.1), EqA (.int .i64 r.2)])) := by
 unfold ref21_Term at h
 refine Con.of (N := 19) Tryz.func12 rfl rfl rfl fun w0_ fg_ => W.seq <| W.region <| WL.p rfl rfl rfl (.s 0 rfl .nil) (q_box rfl (CellsOf.agg _)) <| WL.p rfl rfl rfl (.k .nil) (q_assign rfl) <| WL.p rfl rfl rfl (.k .nil) (q_assign rfl) <| WL.nil <| QN.then_ <| W.seq <| W.seq ?_
 refine W.jn1 (Γ := Unit) (fun (_ : Unit) (x15 : Bool) => [(1, SlcA kInt a1), (2, PtrA [EqA (.int .i64 a0.fVar), EqA (.int .i64 a0.fAdd)]), (15, EqA (.bool x15))]) (fun (_ : Unit) (_ : Bool) => []) h (fun _ x15 h => ?_) (fun j10088 Kj10088 h => ?_)
 ·refine QN.then_ ?_
  refine W.condP h rfl (fun hb10089 h => ?_) (fun hb10089 h => ?_)
  ·refine W.seq <| W.region <| WL.p rfl rfl rfl (.k .nil) (q_assign rfl) <| WL.p rfl rfl rfl (.k .nil) (q_assign rfl) <| WL.nil <| QN.then_ <| W.ret <| QR.then_ ?_
   cases h
   exact QR.f2 rfl rfl (.t rfl) (.t rfl) (.id _)
  ·refine W.skip <| QN.then_ <| W.seq <| W.region <| WL.p rfl rfl rfl (.s 2 rfl .nil) (q_loadS rfl sh23 (leB rfl) rfl) <| WL.p rfl rfl rfl (.s 1 rfl .nil) (q_move rfl) ?_
   obtain ⟨t10090, ht10090, h⟩ := bind_s h
   refine WL.p rfl rfl rfl (.s 16 rfl (.s 17 rfl .nil)) (q_call (f := 42) (A := EqA (.int .i64 t10090)) (xs := [.tmp 16, .tmp 17]) («as» := [AggA [EqA (.int .i64 a0.fVar), EqA (.int .i64 a0.fAdd)], SlcA kInt a1]) rfl ca42 (ref21_value.con k a0 a1 t10090 ht10090) rfl) <| WL.p rfl rfl rfl (.s 18 rfl .nil) (q_assign rfl) <| WL.p rfl rfl rfl (.k .nil) (q_assign rfl) <| WL.nil <| QN.then_ <| W.ret ?_
   cases h
   exact QR.f2 rfl rfl (.t rfl) (.t rfl) (.id _)
 ·refine W.region <| WL.p rfl rfl rfl (.s 2 rfl .nil) (q_field rfl fo23_0 rfl) <| WL.p rfl rfl rfl (.s 6 rfl .nil) (q_load rfl sh3) <| WL.p rfl rfl rfl (.s 7 rfl (.k .nil)) (q_int rfl rfl) <| WL.p rfl rfl rfl (.s 8 rfl .nil) (q_move rfl) ?_
  rcases bif_s h with ⟨hb10091, h⟩ | ⟨hb10091, h⟩
  ·refine WL.skip (Unwanted.on rfl rfl rfl hb10091) rfl rfl <| WL.skip (Unwanted.on rfl rfl rfl hb10091) rfl rfl <| WL.skip (Unwanted.on rfl rfl rfl hb10091) rfl rfl <| WL.skip (Unwanted.on rfl rfl rfl hb10091) rfl rfl <| WL.skip (Unwanted.on rfl rfl rfl hb10091) rfl rfl <| WL.p rfl rfl rfl (.s 9 rfl (.k .nil)) (q_pickT rfl hb10091) <| WL.nil ?_
   exact QN.weaken (.one rfl (.one rfl (.one rfl (.nil _)))) (Kj10088 () true h)
  ·refine WL.q (Wanted.on rfl rfl rfl hb10091) rfl rfl (.s 2 rfl .nil) (q_field rfl fo23_0 rfl).o <| WL.q (Wanted.on rfl rfl rfl hb10091) rfl rfl (.s 10 rfl .nil) (q_load rfl sh3).o <| WL.q (Wanted.on rfl rfl rfl hb10091) rfl rfl (.s 1 rfl .nil) (q_move rfl).o <| WL.q (Wanted.on rfl rfl rfl hb10091) rfl rfl (.s 12 rfl .nil) (q_len rfl elS26).o <| WL.q (Wanted.on rfl rfl rfl hb10091) rfl rfl (.s 11 rfl (.s 13 rfl .nil)) (q_int rfl rfl).o <| WL.p rfl rfl rfl (.s 9 rfl (.s 14 rfl .nil)) (q_pickF rfl hb10091) <| WL.nil ?_
   exact QN.weaken (.one rfl (.one rfl (.one rfl (.nil _)))) (Kj10088 () (decide (a0.fVar ≥ (a1.length : Int))) h)
theorem law21_AttributeTerm.con (k : Nat) (a0 : Term) (a1 : (List Int)) (r : Bool) (h : law21_AttributeTerm k a0 a1 = some r) : Con Tryz.prog 3 [] [AggA [EqA (.int .i64 a0.fVar), EqA (.int .i64 a0.fAdd)], SlcA kI32 a1] (RA (EqA (.bool r))) := by
 unfold law21_AttributeTerm at h
 refine Con.of (N := 63) Tryz.func3 rfl rfl rfl fun w0_ fg_ => W.seq <| W.region <| WL.p rfl rfl rfl (.s 0 rfl .nil) (q_box rfl (CellsOf.agg _)) <| WL.p rfl rfl rfl (.k .nil) (q_assign rfl) <| WL.nil <| QN.then_ <| W.seq <| W.seq ?_
 refine W.jn1 (Γ := Unit) (fun (_ : Unit) (x28 : Bool) => [(1, SlcA kI32 a1), (2, PtrA [EqA (.int .i64 a0.fVar), EqA (.int .i64 a0.fAdd)]), (28, EqA (.bool x28))]) (fun (_ : Unit) (_ : Bool) => []) h (fun _ x28 h => ?_) (fun j10097 Kj10097 h => ?_)
 ·refine QN.then_ ?_
  refine W.condP h rfl (fun hb10098 h => ?_) (fun hb10098 h => ?_)
  ·refine W.seq <| W.region ?_
   obtain ⟨t10099, ht10099, h⟩ := bind_s h
   refine WL.p rfl rfl rfl .nil (q_call (f := 9) (A := EqA (.bool t10099)) (xs := []) («as» := []) rfl ca9 (law21_awake.con k  t10099 ht10099) rfl) <| WL.p rfl rfl rfl (.s 29 rfl .nil) (q_assign rfl) <| WL.nil <| QN.then_ <| W.ret <| QR.then_ ?_
   cases h
   exact QR.f1 rfl rfl (.t rfl) (.id _)
  ·refine W.skip <| QN.then_ <| W.seq <| W.region <| WL.p rfl rfl rfl (.k .nil) (q_assign rfl) <| WL.nil <| QN.then_ <| W.seq <| W.seq <| W.region <| WL.p rfl rfl rfl (.s 1 rfl .nil) (q_move rfl) <| WL.p rfl rfl rfl (.s 30 rfl .nil) (q_len rfl elS24) <| WL.p rfl rfl rfl (.k .nil) (q_move rfl) ?_
   refine WL.nil <| QN.then_ <| W.block <| W.to (StTo.newNil 3 kInt) <| W.to (StTo.as 5 rfl Imp.nilHd) ?_
   refine W.loop2 (Γ := Value) (fun (g0 : Value) (_ : (List Int)) (x32 : Int) => [(2, PtrA [EqA (.int .i64 a0.fVar), EqA (.int .i64 a0.fAdd)]), (5, HdA g0), (30, SlcA kI32 a1), (31, EqA (.int .i64 (a1.length : Int))), (32, EqA (.int .i64 x32))]) (fun (g0 : Value) (x5 : (List Int)) (_ : Int) => [SlE 3 g0 kInt x5]) h (.slice none 0 0) (.one rfl (.one rfl (.one rfl (.one rfl (.one rfl (.nil _)))))) rfl (fun rec0 K0 next0 g0 x5 x32 h => ?_)
   unfold law21_AttributeTerm.b0 at h
   refine W.seq <| W.region <| WL.p rfl rfl rfl (.s 32 rfl (.s 31 rfl .nil)) (q_int rfl rfl) <| WL.nil <| QN.then_ <| W.seq ?_
   refine W.condP h rfl (fun hb10139 h => ?_) (fun hb10139 h => ?_)
   ·refine W.skip <| QN.then_ <| W.seq <| W.block <| W.seq <| W.region ?_
    obtain ⟨c10140, h⟩ := ite_n h
    refine WL.p rfl rfl rfl (.s 30 rfl (.s 32 rfl .nil)) (q_index rfl el24 rfl c10140.1 c10140.2) <| WL.p rfl rfl rfl (.s 34 rfl .nil) (q_load rfl sh21) <| WL.p rfl rfl rfl (.s 35 rfl .nil) (q_assign rfl) <| WL.nil <| QN.then_ <| W.region <| WL.p rfl rfl rfl (.s 5 rfl .nil) (q_move rfl) <| WL.p rfl rfl rfl (.s 7 rfl .nil) (q_move rfl) <| WL.p rfl rfl rfl (.s 37 rfl .nil) (q_conv rfl cv3 cvS21) <| WL.p rfl rfl rfl (.s 38 rfl .nil) (q_lit (kd := kInt) (ps := [(0, .tmp 38)]) (xs := [.tmp 38]) («as» := [EqA (.int .i64 (IntKind.i64.wrap (rd a1 x32)))]) (ys := [(IntKind.i64.wrap (rd a1 x32))]) rfl rfl el26 rfl gr3 rfl rfl rfl (.cons (CellsOf.one rfl) .nil)) ?_
    obtain ⟨c10141, h⟩ := ite_n h
    refine WL.w [0] rfl (Wanted.plain rfl) rfl rfl (.s 36 rfl (.s 39 rfl .nil)) (w_append (kd := kInt) rfl el26 rfl gr3 c10141) ?_
    rintro _ _ ⟨v10142, rfl, rfl⟩
    refine WL.p rfl rfl rfl (.s 40 rfl .nil) (q_assign rfl) <| WL.nil <| QN.block <| QN.weaken (env' := [(5, _), (32, _), (31, _), (30, _), (2, _)]) (.one rfl (.one rfl (.one rfl (.one rfl (.one rfl (.nil _)))))) <| QN.then_ <| W.region ?_
    obtain ⟨c10143, h⟩ := ite_n h
    refine WL.p rfl rfl rfl (.s 32 rfl (.k .nil)) (q_addR rfl c10143) <| WL.p rfl rfl rfl (.s 41 rfl .nil) (q_move rfl) <| WL.nil ?_
    exact next0 v10142 (x5 ++ [(IntKind.i64.wrap (rd a1 x32))]) (x32 + 1) _ h (.one rfl (.one rfl (.one rfl (.one rfl (.one rfl (.nil _))))))
   ·refine W.exit <| QX.then_ <| QX.then_ <| QX.here <| QN.then_ <| W.seq <| W.drawK [(0, false), (1, false), (2, true), (3, false), (4, false), (5, false), (6, false), (7, false), (8, false)] [] [[], [], [1], [0, 1, 2], [0, 1, 2, 3], [0, 1, 2, 3, 4], [0, 1, 2, 3, 4], [0, 1, 2, 3, 4, 5], [0, 1, 2, 3, 4, 5, 6, 7]] mx (by kernel_rfl) <| DK.cons rfl rfl (.p rfl (.s 2 rfl .nil) rfl (q_loadS rfl sh23 (leB rfl) rfl)) <| DK.cons rfl rfl (.p rfl (.s 5 rfl .nil) rfl (q_move rfl)) ?_
    obtain ⟨t10148, ht10148, h⟩ := bind_s h
    refine DK.cons rfl rfl (.o rfl (.s 44 rfl .nil) rfl (q_lendNew (f := 11) (xs := [.tmp 44]) («as» := [HdA g0]) rfl ca11 (slices_Clone_int.conN k x5 t10148 ht10148) rfl (.cons (.slc 0 rfl) .nil) kIntFlat)) ?_
    obtain ⟨t10149, ht10149, h⟩ := bind_s h
    refine DK.cons rfl rfl (.p rfl (.s 43 rfl (.s 45 rfl .nil)) rfl (q_call (f := 10) (A := TupA [EqA (.int .i64 t10149.1), EqA (.int .i64 t10149.2)]) (xs := [.tmp 43, .tmp 45]) («as» := [AggA [EqA (.int .i64 a0.fVar), EqA (.int .i64 a0.fAdd)], SlcA kInt t10148]) rfl ca10 (attribute_Term.con k a0 t10148 t10149 ht10149) rfl)) <| DK.cons rfl rfl (.p rfl (.s 46 rfl .nil) rfl (q_move rfl)) <| DK.cons rfl rfl (.p rfl (.s 42 rfl .nil) rfl (q_extract rfl rfl)) <| DK.cons rfl rfl (.p rfl (.s 42 rfl .nil) rfl (q_extract rfl rfl)) <| DK.cons rfl rfl (.p rfl (.s 47 rfl .nil) rfl (q_assign rfl)) <| DK.cons rfl rfl (.p rfl (.s 48 rfl .nil) rfl (q_assign rfl)) <| DK.nil <| CSteps.nil <| QN.weaken (env' := [(9, _), (8, _), (5, _), (2, _)]) (.one rfl (.one rfl (.one rfl (.one rfl (.nil _))))) <| QN.then_ <| W.seq <| W.region <| WL.p rfl rfl rfl (.s 2 rfl .nil) (q_loadS rfl sh23 (leB rfl) rfl) ?_
    refine WL.p rfl rfl rfl (.s 5 rfl .nil) (q_move rfl) ?_
    obtain ⟨t10150, ht10150, h⟩ := bind_s h
    refine WL.q (Wanted.plain rfl) rfl rfl (.s 50 rfl (.s 51 rfl .nil)) (q_lend (f := 12) (A := TupA [EqA (.int .i64 t10150.1), EqA (.int .i64 t10150.2)]) (xs := [.tmp 50, .tmp 51]) («as» := [AggA [EqA (.int .i64 a0.fVar), EqA (.int .i64 a0.fAdd)], HdA g0]) rfl ca12 (ref21_Term.con k a0 x5 t10150 ht10150) rfl (.cons (.id _) (.cons (.slc 0 rfl) .nil)) (Flat.tup2 (Flat.eq _) (Flat.eq _))) <| WL.p rfl rfl rfl (.s 52 rfl .nil) (q_move rfl) <| WL.p rfl rfl rfl (.s 49 rfl .nil) (q_extract rfl rfl) <| WL.p rfl rfl rfl (.s 49 rfl .nil) (q_extract rfl rfl) <| WL.p rfl rfl rfl (.s 53 rfl .nil) (q_assign rfl) <| WL.p rfl rfl rfl (.s 54 rfl .nil) (q_assign rfl) <| WL.nil <| QN.weaken (env' := [(11, _), (10, _), (9, _), (8, _)]) (.one rfl (.one rfl (.one rfl (.one rfl (.nil _))))) <| QN.then_ <| W.seq ?_
    refine W.jn1 (Γ := Unit) (fun (_ : Unit) (x4 : Bool) => [(4, EqA (.bool x4))]) (fun (_ : Unit) (_ : Bool) => []) h (fun _ x4 h => ?_) (fun j10153 Kj10153 h => ?_)
    ·refine QN.then_ <| W.ret ?_
     cases h
     exact QR.f1 rfl rfl (.t rfl) (.id _)
    ·refine W.region <| WL.p rfl rfl rfl (.s 8 rfl .nil) (q_move rfl) <| WL.p rfl rfl rfl (.s 10 rfl .nil) (q_move rfl) <| WL.p rfl rfl rfl (.s 55 rfl (.s 56 rfl .nil)) (q_int rfl rfl) <| WL.p rfl rfl rfl (.s 57 rfl .nil) (q_move rfl) ?_
     rcases bif_s h with ⟨hb10154, h⟩ | ⟨hb10154, h⟩
     ·refine WL.q (Wanted.on rfl rfl rfl hb10154) rfl rfl (.s 9 rfl .nil) (q_move rfl).o <| WL.q (Wanted.on rfl rfl rfl hb10154) rfl rfl (.s 11 rfl .nil) (q_move rfl).o <| WL.q (Wanted.on rfl rfl rfl hb10154) rfl rfl (.s 59 rfl (.s 60 rfl .nil)) (q_int rfl rfl).o <| WL.p rfl rfl rfl (.s 58 rfl (.s 61 rfl .nil)) (q_pickT rfl hb10154) <| WL.p rfl rfl rfl (.s 62 rfl .nil) (q_assign rfl) <| WL.nil <| QN.drop [0] rfl ?_
      exact QN.weaken (.one rfl (.nil _)) (Kj10153 () (t10149.2 == t10150.2) h)
     ·refine WL.skip (Unwanted.on rfl rfl rfl hb10154) rfl rfl <| WL.skip (Unwanted.on rfl rfl rfl hb10154) rfl rfl <| WL.skip (Unwanted.on rfl rfl rfl hb10154) rfl rfl <| WL.p rfl rfl rfl (.s 58 rfl (.k .nil)) (q_pickF rfl hb10154) <| WL.p rfl rfl rfl (.s 62 rfl .nil) (q_assign rfl) <| WL.nil <| QN.drop [0] rfl ?_
      exact QN.weaken (.one rfl (.nil _)) (Kj10153 () false h)
 ·refine W.region ?_
  obtain ⟨t10155, ht10155, h⟩ := bind_s h
  refine WL.p rfl rfl rfl .nil (q_call (f := 9) (A := EqA (.bool t10155)) (xs := []) («as» := []) rfl ca9 (law21_awake.con k  t10155 ht10155) rfl) <| WL.p rfl rfl rfl (.s 12 rfl .nil) (q_not rfl) <| WL.p rfl rfl rfl (.s 13 rfl .nil) (q_move rfl) ?_
  rcases bif_s h with ⟨hb10156, h⟩ | ⟨hb10156, h⟩
  ·refine WL.skip (Unwanted.on rfl rfl rfl hb10156) rfl rfl <| WL.skip (Unwanted.on rfl rfl rfl hb10156) rfl rfl <| WL.skip (Unwanted.on rfl rfl rfl hb10156) rfl rfl <| WL.p rfl rfl rfl (.s 14 rfl (.k .nil)) (q_pickT rfl hb10156) <| WL.p rfl rfl rfl (.s 18 rfl .nil) (q_move rfl) <| WL.skip (Unwanted.on rfl rfl rfl rfl) rfl rfl <| WL.skip (Unwanted.on rfl rfl rfl rfl) rfl rfl <| WL.skip (Unwanted.on rfl rfl rfl rfl) rfl rfl <| WL.p rfl rfl rfl (.s 19 rfl (.k .nil)) (q_pickT rfl rfl) <| WL.p rfl rfl rfl (.s 23 rfl .nil) (q_move rfl) <| WL.skip (Unwanted.on rfl rfl rfl rfl) rfl rfl <| WL.skip (Unwanted.on rfl rfl rfl rfl) rfl rfl <| WL.skip (Unwanted.on rfl rfl rfl rfl) rfl rfl ?_
   refine WL.p rfl rfl rfl (.s 24 rfl (.k .nil)) (q_pickT rfl rfl) <| WL.nil ?_
   exact QN.weaken (.one rfl (.one rfl (.one rfl (.nil _)))) (Kj10097 () true h)
  ·refine WL.q (Wanted.on rfl rfl rfl hb10156) rfl rfl (.s 1 rfl .nil) (q_move rfl).o <| WL.q (Wanted.on rfl rfl rfl hb10156) rfl rfl (.s 15 rfl .nil) (q_len rfl elS24).o <| WL.q (Wanted.on rfl rfl rfl hb10156) rfl rfl (.s 16 rfl (.k .nil)) (q_int rfl rfl).o <| WL.p rfl rfl rfl (.s 14 rfl (.s 17 rfl .nil)) (q_pickF rfl hb10156) <| WL.p rfl rfl rfl (.s 18 rfl .nil) (q_move rfl) ?_
   rcases bif_s h with ⟨hb10157, h⟩ | ⟨hb10157, h⟩
   ·refine WL.skip (Unwanted.on rfl rfl rfl hb10157) rfl rfl <| WL.skip (Unwanted.on rfl rfl rfl hb10157) rfl rfl <| WL.skip (Unwanted.on rfl rfl rfl hb10157) rfl rfl <| WL.p rfl rfl rfl (.s 19 rfl (.k .nil)) (q_pickT rfl hb10157) <| WL.p rfl rfl rfl (.s 23 rfl .nil) (q_move rfl) <| WL.skip (Unwanted.on rfl rfl rfl rfl) rfl rfl <| WL.skip (Unwanted.on rfl rfl rfl rfl) rfl rfl <| WL.skip (Unwanted.on rfl rfl rfl rfl) rfl rfl <| WL.p rfl rfl rfl (.s 24 rfl (.k .nil)) (q_pickT rfl rfl) <| WL.nil ?_
    exact QN.weaken (.one rfl (.one rfl (.one rfl (.nil _)))) (Kj10097 () true h)
   ·refine WL.q (Wanted.on rfl rfl rfl hb10157) rfl rfl (.s 2 rfl .nil) (q_field rfl fo23_1 rfl).o <| WL.q (Wanted.on rfl rfl rfl hb10157) rfl rfl (.s 20 rfl .nil) (q_load rfl sh3).o <| WL.q (Wanted.on rfl rfl rfl hb10157) rfl rfl (.s 21 rfl (.k .nil)) (q_int rfl rfl).o <| WL.p rfl rfl rfl (.s 19 rfl (.s 22 rfl .nil)) (q_pickF rfl hb10157) <| WL.p rfl rfl rfl (.s 23 rfl .nil) (q_move rfl) ?_
    rcases bif_s h with ⟨hb10158, h⟩ | ⟨hb10158, h⟩
    ·refine WL.skip (Unwanted.on rfl rfl rfl hb10158) rfl rfl <| WL.skip (Unwanted.on rfl rfl rfl hb10158) rfl rfl <| WL.skip (Unwanted.on rfl rfl rfl hb10158) rfl rfl <| WL.p rfl rfl rfl (.s 24 rfl (.k .nil)) (q_pickT rfl hb10158) <| WL.nil ?_
     exact QN.weaken (.one rfl (.one rfl (.one rfl (.nil _)))) (Kj10097 () true h)
    ·refine WL.q (Wanted.on rfl rfl rfl hb10158) rfl rfl (.s 2 rfl .nil) (q_field rfl fo23_1 rfl).o <| WL.q (Wanted.on rfl rfl rfl hb10158) rfl rfl (.s 25 rfl .nil) (q_load rfl sh3).o <| WL.q (Wanted.on rfl rfl rfl hb10158) rfl rfl (.s 26 rfl (.k .nil)) (q_int rfl rfl).o <| WL.p rfl rfl rfl (.s 24 rfl (.s 27 rfl .nil)) (q_pickF rfl hb10158) <| WL.nil ?_
     exact QN.weaken (.one rfl (.one rfl (.one rfl (.nil _)))) (Kj10097 () (decide (a0.fAdd > 1099511627776)) h)
end Go.Proofs.YtcgdfjpeboiioaaGreat
