/- The Go functions compute the pure ones. (Printed by gen.py.) -/
import Derived.Test.YtcgdfjpeboiioaaGreatC8
namespace Go.Proofs.YtcgdfjpeboiioaaGreat
open Go Go.Abs
attribute [local irreducible] Tryz.prog
theorem difference_longer.con (k : Nat) (a0 : (List (List Int))) (a1 : (List Arc)) (r : (List (List Int))) (h : difference_longer k a0 a1 = some r) : Con Tryz.prog 94 [] [SlcA (kSl kInt) a0, SlcA kArc a1] (RA (SlcA (kSl kInt) r)) := by
 unfold difference_longer at h
 refine Con.of (N := 75) Tryz.func94 rfl rfl rfl fun w0_ fg_ => W.seq <| W.region <| WL.p rfl rfl rfl (.k .nil) (q_assign rfl) <| WL.nil <| QN.then_ <| W.seq <| W.region <| WL.p rfl rfl rfl (.s 0 rfl .nil) (q_move rfl) <| WL.p rfl rfl rfl (.s 10 rfl .nil) (q_len rfl elS149) ?_
 obtain ⟨c5299, h⟩ := ite_n h
 refine WL.p rfl rfl rfl (.s 11 rfl (.k .nil)) (q_subR rfl c5299) <| WL.p rfl rfl rfl (.s 12 rfl .nil) (q_assign rfl) <| WL.nil <| QN.then_ <| W.seq <| W.region <| WL.p rfl rfl rfl (.k .nil) (q_assign rfl) <| WL.nil <| QN.then_ <| W.seq <| W.seq <| W.region <| WL.p rfl rfl rfl (.s 5 rfl .nil) (q_move rfl) ?_
 obtain ⟨c5300, h⟩ := ite_n h
 refine WL.p rfl rfl rfl (.s 13 rfl (.k .nil)) (q_addR rfl c5300) <| WL.p rfl rfl rfl (.k .nil) (q_move rfl) <| WL.nil <| QN.then_ <| W.block <| W.to (StTo.newNilT 26 3 kInt) <| W.to (StTo.as 6 rfl Imp.nilHd) ?_
 refine W.loop2 (Γ := (Value × (List Value))) (fun (g0 : (Value × (List Value))) (_ : (List (List Int))) (x15 : Int) => [(0, SlcA (kSl kInt) a0), (1, SlcA kArc a1), (5, EqA (.int .i64 ((a0.length : Int) - 1))), (6, HdA g0.1), (14, EqA (.int .i64 (((a0.length : Int) - 1) + 1))), (15, EqA (.int .i64 x15))]) (fun (g0 : (Value × (List Value))) (x6 : (List (List Int))) (_ : Int) => [TbE 26 3 g0.1 kInt g0.2 x6]) h ((.slice none 0 0), []) (.one rfl (.one rfl (.one rfl (.one rfl (.one rfl (.one rfl (.nil _))))))) rfl (fun rec0 K0 next0 g0 x6 x15 h => ?_)
 unfold difference_longer.b0 at h
 refine W.seq <| W.region <| WL.p rfl rfl rfl (.s 15 rfl (.s 14 rfl .nil)) (q_int rfl rfl) <| WL.nil <| QN.then_ <| W.seq ?_
 refine W.condP h rfl (fun hb5805 h => ?_) (fun hb5805 h => ?_)
 ·refine W.skip <| QN.then_ <| W.seq <| W.block <| W.region <| WL.p rfl rfl rfl (.s 6 rfl .nil) (q_move rfl) <| WL.p rfl rfl rfl (.k .nil) (q_lit (kd := kInt) (ps := [(0, .const (.int .i64 1125899906842624))]) (xs := [.const (.int .i64 1125899906842624)]) («as» := [EqA (.int .i64 1125899906842624)]) (ys := [1125899906842624]) rfl rfl el26 rfl gr3 rfl rfl rfl (.cons (CellsOf.one rfl) .nil)) <| WL.p rfl rfl rfl (.s 5 rfl .nil) (q_move rfl) ?_
  obtain ⟨c5806, h⟩ := ite_n h
  refine WL.p rfl rfl rfl (.s 19 rfl (.k .nil)) (q_addR rfl c5806) ?_
  obtain ⟨t5807, ht5807, h⟩ := bind_s h
  refine WL.w [] rfl (Wanted.plain rfl) rfl rfl (.s 18 rfl (.s 20 rfl .nil)) (w_callI (f := 142) (xs := [.tmp 18, .tmp 20]) («as» := [SlcA kInt [1125899906842624], EqA (.int .i64 (((a0.length : Int) - 1) + 1))]) rfl ca142 (slices_Repeat_int.con k [1125899906842624] (((a0.length : Int) - 1) + 1) t5807 ht5807) rfl (.cons (Imp.id _) (.cons (Imp.id _) .nil))) ?_
  rintro _ _ ⟨v5808, rfl, rfl⟩
  refine WL.p rfl rfl rfl (.s 21 rfl .nil) (q_lit (kd := kVal) (ps := [(0, .tmp 21)]) (xs := [.tmp 21]) («as» := [HdA v5808]) (ys := [v5808]) rfl rfl el149 rfl gr26 rfl rfl rfl (.cons (CellsOf.one rfl) .nil)) ?_
  obtain ⟨c5809, h⟩ := ite_n h
  refine WL.w [1, 0] rfl (Wanted.plain rfl) rfl rfl (.s 17 rfl (.s 22 rfl .nil)) (w_appendT (kd := kInt) rfl el149 gr26 c5809) ?_
  rintro _ _ ⟨g5810, rfl, rfl⟩
  refine WL.p rfl rfl rfl (.s 23 rfl .nil) (q_assign rfl) <| WL.nil <| QN.block <| QN.then_ <| W.region ?_
  obtain ⟨c5812, h⟩ := ite_n h
  refine WL.p rfl rfl rfl (.s 15 rfl (.k .nil)) (q_addR rfl c5812) <| WL.p rfl rfl rfl (.s 24 rfl .nil) (q_move rfl) <| WL.nil ?_
  exact next0 (g5810.1, g5810.2) (x6 ++ [t5807]) (x15 + 1) _ h (.one rfl (.one rfl (.one rfl (.one rfl (.one rfl (.one rfl (.nil _)))))))
 ·refine W.exit <| QX.then_ <| QX.then_ <| QX.here <| QN.then_ <| W.seq <| W.seq <| W.region <| WL.p rfl rfl rfl (.s 1 rfl .nil) (q_move rfl) <| WL.p rfl rfl rfl (.s 25 rfl .nil) (q_len rfl elS146) <| WL.p rfl rfl rfl (.k .nil) (q_move rfl) <| WL.nil <| QN.then_ ?_
  refine W.block ?_
  refine W.loop2 (Γ := Unit) (fun (_ : Unit) (_ : (List (List Int))) (x27 : Int) => [(0, SlcA (kSl kInt) a0), (5, EqA (.int .i64 ((a0.length : Int) - 1))), (6, HdA g0.1), (25, SlcA kArc a1), (26, EqA (.int .i64 (a1.length : Int))), (27, EqA (.int .i64 x27))]) (fun (_ : Unit) (x6' : (List (List Int))) (_ : Int) => [TbE 26 3 g0.1 kInt g0.2 x6']) h () (.one rfl (.one rfl (.one rfl (.one rfl (.one rfl (.one rfl (.nil _))))))) rfl (fun rec1 K1 next1 _ x6' x27 h => ?_)
  unfold difference_longer.b1 at h
  refine W.seq <| W.region <| WL.p rfl rfl rfl (.s 27 rfl (.s 26 rfl .nil)) (q_int rfl rfl) <| WL.nil <| QN.then_ <| W.seq ?_
  refine W.condP h rfl (fun hb6121 h => ?_) (fun hb6121 h => ?_)
  ·refine W.skip <| QN.then_ <| W.seq <| W.block <| W.seq <| W.region ?_
   obtain ⟨c6122, h⟩ := ite_n h
   refine WL.p rfl rfl rfl (.s 25 rfl (.s 27 rfl .nil)) (q_index rfl el146 rfl c6122.1 c6122.2) <| WL.p rfl rfl rfl (.s 29 rfl .nil) (q_loadS rfl sh155 (leB rfl) rfl) <| WL.w [] rfl (Wanted.plain rfl) rfl rfl .nil (w_alloc rfl z155 (l := [EqA (.int .i64 0), EqA (.int .i64 0), EqA (.int .i64 0), EqA (.int .i64 0), EqA (.int .i64 0)]) rfl) ?_
   rintro _ _ ⟨b6123, rfl, rfl⟩
   refine WL.w0 [0] rfl (Wanted.plain rfl) rfl (.s 8 rfl (.s 30 rfl .nil)) (w_store (L := [EqA (.int .i64 ((rd a1 x27).fuse.fTest)), EqA (.int .i64 ((rd a1 x27).fuse.fSign)), EqA (.int .i64 ((rd a1 x27).ffrom)), EqA (.int .i64 ((rd a1 x27).fto)), EqA (.int .i64 ((rd a1 x27).fmost))]) rfl sh155 (CellsOf.agg _) rfl rfl (leB rfl) rfl) ?_
   rintro _ _ ⟨rfl, rfl⟩
   refine WL.nil <| QN.to (StTo.still [0] 8 rfl rfl) <| QN.then_ <| W.seq <| W.region <| WL.p rfl rfl rfl (.s 5 rfl .nil) (q_move rfl) ?_
   obtain ⟨c6124, h⟩ := ite_n h
   refine WL.p rfl rfl rfl (.s 31 rfl (.k .nil)) (q_addR rfl c6124) <| WL.p rfl rfl rfl (.k .nil) (q_move rfl) <| WL.nil <| QN.then_ <| W.block ?_
   refine W.loop2 (Γ := Unit) (fun (_ : Unit) (_ : (List (List Int))) (x33 : Int) => [(0, SlcA (kSl kInt) a0), (5, EqA (.int .i64 ((a0.length : Int) - 1))), (6, HdA g0.1), (25, SlcA kArc a1), (26, EqA (.int .i64 (a1.length : Int))), (27, EqA (.int .i64 x27)), (8, PtrA [EqA (.int .i64 ((rd a1 x27).fuse.fTest)), EqA (.int .i64 ((rd a1 x27).fuse.fSign)), EqA (.int .i64 ((rd a1 x27).ffrom)), EqA (.int .i64 ((rd a1 x27).fto)), EqA (.int .i64 ((rd a1 x27).fmost))]), (32, EqA (.int .i64 (((a0.length : Int) - 1) + 1))), (33, EqA (.int .i64 x33))]) (fun (_ : Unit) (x6'' : (List (List Int))) (_ : Int) => [TbE 26 3 g0.1 kInt g0.2 x6'']) h () (.one rfl (.one rfl (.one rfl (.one rfl (.one rfl (.one rfl (.one rfl (.one rfl (.one rfl (.nil _)))))))))) rfl (fun rec2 K2 next2 _ x6'' x33 h => ?_)
   unfold difference_longer.b2 at h
   refine W.seq <| W.region <| WL.p rfl rfl rfl (.s 33 rfl (.s 32 rfl .nil)) (q_int rfl rfl) <| WL.nil <| QN.then_ <| W.seq ?_
   refine W.condP h rfl (fun hb6225 h => ?_) (fun hb6225 h => ?_)
   ·refine W.skip <| QN.then_ <| W.seq <| W.block <| W.seq <| W.region <| WL.p rfl rfl rfl (.s 33 rfl .nil) (q_move rfl) <| WL.p rfl rfl rfl (.s 35 rfl .nil) (q_assign rfl) <| WL.nil <| QN.then_ <| W.seq <| W.region <| WL.p rfl rfl rfl (.s 0 rfl .nil) (q_move rfl) ?_
    refine WL.p rfl rfl rfl (.s 8 rfl .nil) (q_field rfl fo155_2 rfl) <| WL.p rfl rfl rfl (.s 37 rfl .nil) (q_load rfl sh3) ?_
    obtain ⟨c6226, h⟩ := ite_n h
    refine WL.p rfl rfl rfl (.s 36 rfl (.s 38 rfl .nil)) (q_index rfl el149 rfl c6226.1 c6226.2) <| WL.p rfl rfl rfl (.s 39 rfl .nil) (q_load rfl sh26) <| WL.p rfl rfl rfl (.s 9 rfl .nil) (q_move rfl) ?_
    obtain ⟨c6227, h⟩ := ite_n h
    refine WL.p rfl rfl rfl (.s 40 rfl (.s 41 rfl .nil)) (q_index rfl el26 rfl c6227.1 c6227.2) <| WL.p rfl rfl rfl (.s 42 rfl .nil) (q_load rfl sh3) <| WL.p rfl rfl rfl (.s 43 rfl (.k .nil)) (q_int rfl rfl) <| WL.nil <| QN.weaken (env' := [(44, _), (9, _), (33, _), (32, _), (8, _), (27, _), (26, _), (25, _), (6, _), (5, _), (0, _)]) (.one rfl (.one rfl (.one rfl (.one rfl (.one rfl (.one rfl (.one rfl (.one rfl (.one rfl (.one rfl (.one rfl (.nil _)))))))))))) <| QN.then_ ?_
    refine W.condP h rfl (fun hb6250 h => ?_) (fun hb6250 h => ?_)
    ·refine W.drawK [(0, false), (1, false), (2, false), (3, true), (4, true), (5, false), (6, false), (7, false), (8, false), (9, true), (10, true), (11, false), (12, true), (13, true), (14, false), (15, false), (16, false), (17, false), (18, false), (19, false), (20, false), (21, false), (22, false), (23, false), (24, false), (25, false), (26, true)] [27] [[], [], [1], [0, 1, 2], [0, 1, 2, 3], [], [], [], [7], [6, 7, 8], [6, 7, 8, 9], [], [6, 7, 8, 9, 10, 11], [6, 7, 8, 9, 10, 11, 12], [], [14], [], [], [17], [16, 17, 18], [16, 17, 18, 19], [], [16, 17, 18, 19, 20, 21], [16, 17, 18, 19, 20, 21, 22], [14, 15, 16, 17, 18, 19, 20, 21, 22, 23], [6, 7, 8, 9, 10, 11, 12, 13, 14, 15, 16, 17, 18, 19, 20, 21, 22, 23, 24], [0, 1, 2, 3, 4, 5, 6, 7, 8, 9, 10, 11, 12, 13, 14, 15, 16, 17, 18, 19, 20, 21, 22, 23, 24, 25], [0, 1, 2, 3, 4, 5, 6, 7, 8, 9, 10, 11, 12, 13, 14, 15, 16, 17, 18, 19, 20, 21, 22, 23, 24, 25, 26]] mx (by kernel_rfl) <| DK.cons rfl rfl (.p rfl (.s 6 rfl .nil) rfl (q_move rfl)) <| DK.cons rfl rfl (.p rfl (.s 8 rfl .nil) rfl (q_field rfl fo155_1 rfl)) <| DK.cons rfl rfl (.p rfl (.s 46 rfl .nil) rfl (q_load rfl sh3)) ?_
     obtain ⟨c6265, h⟩ := ite_n h
     refine DK.cons rfl rfl (.o rfl (.s 45 rfl (.s 47 rfl .nil)) rfl (q_indexT rfl el149 (j := 0) rfl c6265.1 c6265.2)) <| DK.cons rfl rfl (.o rfl (.s 48 rfl .nil) rfl (q_loadT rfl sh26 (j := 0) rfl c6265.1 c6265.2)) <| DK.cons rfl rfl (.p rfl (.s 9 rfl .nil) rfl (q_move rfl)) <| DK.cons rfl rfl (.p rfl (.s 6 rfl .nil) rfl (q_move rfl)) <| DK.cons rfl rfl (.p rfl (.s 8 rfl .nil) rfl (q_field rfl fo155_1 rfl)) <| DK.cons rfl rfl (.p rfl (.s 52 rfl .nil) rfl (q_load rfl sh3)) ?_
     obtain ⟨c6266, h⟩ := ite_n h
     refine DK.cons rfl rfl (.o rfl (.s 51 rfl (.s 53 rfl .nil)) rfl (q_indexT rfl el149 (j := 0) rfl c6266.1 c6266.2)) <| DK.cons rfl rfl (.o rfl (.s 54 rfl .nil) rfl (q_loadT rfl sh26 (j := 0) rfl c6266.1 c6266.2)) <| DK.cons rfl rfl (.p rfl (.s 9 rfl .nil) rfl (q_move rfl)) ?_
     obtain ⟨c6267, h⟩ := ite_n h
     refine DK.cons rfl rfl (.o rfl (.s 55 rfl (.s 56 rfl .nil)) rfl (q_indexR rfl el26 (j := 0) rfl c6266.1 c6266.2 c6267.1 c6267.2)) <| DK.cons rfl rfl (.o rfl (.s 57 rfl .nil) rfl (q_loadR rfl sh3 (j := 0) rfl rfl c6266.1 c6266.2 c6267.1 c6267.2 rfl)) <| DK.cons rfl rfl (.p rfl (.s 8 rfl .nil) rfl (q_field rfl fo155_3 rfl)) <| DK.cons rfl rfl (.p rfl (.s 59 rfl .nil) rfl (q_load rfl sh3)) <| DK.cons rfl rfl (.p rfl (.s 0 rfl .nil) rfl (q_move rfl)) <| DK.cons rfl rfl (.p rfl (.s 8 rfl .nil) rfl (q_field rfl fo155_2 rfl)) <| DK.cons rfl rfl (.p rfl (.s 62 rfl .nil) rfl (q_load rfl sh3)) ?_
     obtain ⟨c6268, h⟩ := ite_n h
     refine DK.cons rfl rfl (.p rfl (.s 61 rfl (.s 63 rfl .nil)) rfl (q_index rfl el149 rfl c6268.1 c6268.2)) <| DK.cons rfl rfl (.p rfl (.s 64 rfl .nil) rfl (q_load rfl sh26)) <| DK.cons rfl rfl (.p rfl (.s 9 rfl .nil) rfl (q_move rfl)) ?_
     obtain ⟨c6269, h⟩ := ite_n h
     refine DK.cons rfl rfl (.p rfl (.s 65 rfl (.s 66 rfl .nil)) rfl (q_index rfl el26 rfl c6269.1 c6269.2)) <| DK.cons rfl rfl (.p rfl (.s 67 rfl .nil) rfl (q_load rfl sh3)) ?_
     obtain ⟨c6270, h⟩ := ite_n h
     refine DK.cons rfl rfl (.p rfl (.s 60 rfl (.s 68 rfl .nil)) rfl (q_addR rfl c6270)) <| DK.cons rfl rfl (.p rfl (.s 58 rfl (.s 69 rfl .nil)) rfl (q_min rfl)) ?_
     obtain ⟨c6271, h⟩ := ite_n h
     refine DK.cons rfl rfl (.o rfl (.s 49 rfl (.s 50 rfl .nil)) rfl (q_indexR rfl el26 (j := 0) rfl c6265.1 c6265.2 c6271.1 c6271.2)) <| DK.nil <| CSteps.w0 [0] rfl rfl rfl (.s 71 rfl (.s 70 rfl .nil)) rfl (w_storeR (kd := kInt) (z := (minI (rd (rd x6'' ((rd a1 x27).ffrom)) x33) ((rd a1 x27).fmost + (rd (rd a0 ((rd a1 x27).fto)) x33)))) rfl sh3 (CellsOf.one rfl) rfl rfl rfl c6265.1 c6265.2 c6271.1 c6271.2 rfl rfl) ?_
     rintro _ _ ⟨rfl, rfl⟩
     refine CSteps.nil <| QN.block <| QN.weaken (env' := [(33, _), (32, _), (8, _), (27, _), (26, _), (25, _), (6, _), (5, _), (0, _)]) (.one rfl (.one rfl (.one rfl (.one rfl (.one rfl (.one rfl (.one rfl (.one rfl (.one rfl (.nil _)))))))))) <| QN.then_ <| W.region ?_
     obtain ⟨c6272, h⟩ := ite_n h
     refine WL.p rfl rfl rfl (.s 33 rfl (.k .nil)) (q_addR rfl c6272) <| WL.p rfl rfl rfl (.s 72 rfl .nil) (q_move rfl) <| WL.nil ?_
     exact next2 () (x6''.set ((rd a1 x27).ffrom : Int).toNat ((rd x6'' ((rd a1 x27).ffrom)).set (x33 : Int).toNat (minI (rd (rd x6'' ((rd a1 x27).ffrom)) x33) ((rd a1 x27).fmost + (rd (rd a0 ((rd a1 x27).fto)) x33))))) (x33 + 1) _ h (.one rfl (.one rfl (.one rfl (.one rfl (.one rfl (.one rfl (.one rfl (.one rfl (.one rfl (.nil _))))))))))
    ·refine W.skip <| QN.block <| QN.then_ <| W.region ?_
     obtain ⟨c6273, h⟩ := ite_n h
     refine WL.p rfl rfl rfl (.s 33 rfl (.k .nil)) (q_addR rfl c6273) <| WL.p rfl rfl rfl (.s 72 rfl .nil) (q_move rfl) <| WL.nil ?_
     exact next2 () x6'' (x33 + 1) _ h (.one rfl (.one rfl (.one rfl (.one rfl (.one rfl (.one rfl (.one rfl (.one rfl (.one rfl (.nil _))))))))))
   ·refine W.exit <| QX.then_ <| QX.then_ <| QX.here <| QN.block <| QN.then_ <| W.region ?_
    obtain ⟨c6274, h⟩ := ite_n h
    refine WL.p rfl rfl rfl (.s 27 rfl (.k .nil)) (q_addR rfl c6274) <| WL.p rfl rfl rfl (.s 73 rfl .nil) (q_move rfl) <| WL.nil ?_
    exact next1 () x6'' (x27 + 1) _ h (.one rfl (.one rfl (.one rfl (.one rfl (.one rfl (.one rfl (.nil _)))))))
  ·refine W.exit <| QX.then_ <| QX.then_ <| QX.here <| QN.then_ <| W.seq <| W.region <| WL.p rfl rfl rfl (.s 6 rfl .nil) (q_move rfl) <| WL.p rfl rfl rfl (.s 74 rfl .nil) (q_assign rfl) <| WL.nil <| QN.weaken (env' := [(4, _)]) (.one rfl (.nil _)) <| QN.then_ <| W.ret ?_
   cases h
   exact QR.f1 rfl rfl (.t rfl) (.tab 0 rfl)
theorem difference_Refute.con (k : Nat) (a0 : Int) (a1 : (List Test)) (r : ((List Use) × Int)) (h : difference_Refute k a0 a1 = some r) : Con Tryz.prog 44 [] [EqA (.int .i64 a0), SlcA kTest a1] (RA (TupA [SlcA kUse r.1, EqA (.int .i64 r.2)])) := by
 unfold difference_Refute at h
 refine Con.of (N := 115) Tryz.func44 rfl rfl rfl fun w0_ fg_ => W.seq <| W.region <| WL.p rfl rfl rfl (.k .nil) (q_assign rfl) <| WL.p rfl rfl rfl (.k .nil) (q_assign rfl) <| WL.nil <| QN.then_ <| W.seq <| W.seq <| W.region <| WL.p rfl rfl rfl (.s 0 rfl .nil) (q_move rfl) <| WL.p rfl rfl rfl (.s 1 rfl .nil) (q_move rfl) ?_
 obtain ⟨t6275, ht6275, h⟩ := bind_s h
 refine WL.p rfl rfl rfl (.s 20 rfl (.s 21 rfl .nil)) (q_call (f := 56) (A := EqA (.int .i64 t6275)) (xs := [.tmp 20, .tmp 21]) («as» := [EqA (.int .i64 a0), SlcA kTest a1]) rfl ca56 (difference_Valid.con k a0 a1 t6275 ht6275) rfl) <| WL.p rfl rfl rfl (.s 22 rfl .nil) (q_assign rfl) <| WL.nil <| QN.then_ <| W.seq <| W.region <| WL.p rfl rfl rfl (.s 6 rfl .nil) (q_move rfl) <| WL.p rfl rfl rfl (.s 23 rfl (.k .nil)) (q_int rfl rfl) <| WL.nil <| QN.then_ ?_
 refine W.condP h rfl (fun hb6276 h => ?_) (fun hb6276 h => ?_)
 ·refine W.seq <| W.region <| WL.p rfl rfl rfl (.s 6 rfl .nil) (q_move rfl) <| WL.p rfl rfl rfl (.k .nil) (q_assign rfl) <| WL.p rfl rfl rfl (.s 25 rfl .nil) (q_assign rfl) <| WL.nil <| QN.weaken (env' := [(5, _), (4, _)]) (.one rfl (.one rfl (.nil _))) <| QN.then_ <| W.ret <| QR.then_ ?_
  cases h
  exact QR.f2 rfl rfl (.t rfl) (.t rfl) (.imp (Imp.tup (.cons (Imp.nil kUse) (.cons (Imp.id _) .nil))))
 ·refine W.skip <| QN.weaken (env' := [(1, _), (0, _)]) (.one rfl (.one rfl (.nil _))) <| QN.then_ <| W.seq <| W.region <| WL.p rfl rfl rfl (.s 1 rfl .nil) (q_move rfl) ?_
  obtain ⟨t6277, ht6277, h⟩ := bind_s h
  refine WL.p rfl rfl rfl (.s 26 rfl .nil) (q_call (f := 90) (A := SlcA kArc t6277) (xs := [.tmp 26]) («as» := [SlcA kTest a1]) rfl ca90 (difference_arcs.con k a1 t6277 ht6277) rfl) <| WL.p rfl rfl rfl (.s 27 rfl .nil) (q_assign rfl) <| WL.nil <| QN.then_ <| W.seq <| W.seq <| W.region <| WL.p rfl rfl rfl (.s 0 rfl .nil) (q_move rfl) <| WL.p rfl rfl rfl (.s 7 rfl .nil) (q_move rfl) ?_
  obtain ⟨t6278, ht6278, h⟩ := bind_s h
  refine WL.p rfl rfl rfl (.s 29 rfl (.s 30 rfl .nil)) (q_call (f := 91) (A := TupA [SlcA kInt t6278.1, EqA (.bool t6278.2)]) (xs := [.tmp 29, .tmp 30]) («as» := [EqA (.int .i64 a0), SlcA kArc t6277]) rfl ca91 (difference_distances.con k a0 t6277 t6278 ht6278) rfl) <| WL.p rfl rfl rfl (.s 31 rfl .nil) (q_move rfl) <| WL.p rfl rfl rfl (.s 28 rfl .nil) (q_extract rfl rfl) <| WL.p rfl rfl rfl (.s 28 rfl .nil) (q_extract rfl rfl) <| WL.p rfl rfl rfl (.s 32 rfl .nil) (q_assign rfl) <| WL.p rfl rfl rfl (.s 33 rfl .nil) (q_assign rfl) <| WL.nil <| QN.weaken (env' := [(9, _), (7, _), (0, _)]) (.one rfl (.one rfl (.one rfl (.nil _)))) <| QN.then_ <| W.seq <| W.region <| WL.p rfl rfl rfl (.s 9 rfl .nil) (q_move rfl) <| WL.nil ?_
  refine QN.then_ ?_
  refine W.condP h rfl (fun hb6279 h => ?_) (fun hb6279 h => ?_)
  ·refine W.seq <| W.region <| WL.p rfl rfl rfl (.k .nil) (q_assign rfl) <| WL.p rfl rfl rfl (.k .nil) (q_assign rfl) <| WL.nil <| QN.then_ <| W.ret <| QR.then_ ?_
   cases h
   exact QR.f2 rfl rfl (.t rfl) (.t rfl) (.imp (Imp.tup (.cons (Imp.nil kUse) (.cons (Imp.id _) .nil))))
  ·refine W.skip <| QN.then_ <| W.seq <| W.region <| WL.p rfl rfl rfl (.s 0 rfl .nil) (q_move rfl) ?_
   obtain ⟨t6280, ht6280, h⟩ := bind_s h
   refine WL.p rfl rfl rfl (.s 35 rfl .nil) (q_call (f := 92) (A := SlcA (kSl kInt) t6280) (xs := [.tmp 35]) («as» := [EqA (.int .i64 a0)]) rfl ca92 (difference_fresh.con k a0 t6280 ht6280) rfl) <| WL.w [] rfl (Wanted.plain rfl) rfl rfl (.s 36 rfl .nil) (w_lit (kd := (kSl (kSl kInt))) (ps := [(0, .tmp 36)]) (xs := [.tmp 36]) («as» := [SlcA (kSl kInt) t6280]) (ys := [t6280]) rfl rfl el151 rfl gr149 rfl rfl rfl (.cons (CellsOf.one rfl) .nil)) ?_
   rintro _ _ ⟨v6281, rfl, rfl⟩
   refine WL.p rfl rfl rfl (.s 37 rfl .nil) (q_assign rfl) <| WL.nil <| QN.then_ <| W.seq <| W.block ?_
   refine W.loop1 (Γ := Value) (fun (g0 : Value) (_ : (List (List (List Int)))) => [(7, SlcA kArc t6277), (10, HdA g0)]) (fun (g0 : Value) (x10 : (List (List (List Int)))) => [SlE 149 g0 (kSl (kSl kInt)) x10]) h v6281 (.one rfl (.one rfl (.nil _))) rfl (fun rec0 K0 next0 g0 x10 h => ?_)
   unfold difference_Refute.b0 at h
   refine W.seq <| W.seq <| W.region <| WL.p rfl rfl rfl (.s 10 rfl .nil) (q_move rfl) <| WL.p rfl rfl rfl (.s 10 rfl .nil) (q_move rfl) <| WL.q (Wanted.plain rfl) rfl rfl (.s 39 rfl .nil) (q_lenO rfl elS151 (i := 0) rfl) ?_
   obtain ⟨c8744, h⟩ := ite_n h
   refine WL.p rfl rfl rfl (.s 40 rfl (.k .nil)) (q_subR rfl c8744) ?_
   obtain ⟨c8745, h⟩ := ite_n h
   refine WL.q (Wanted.plain rfl) rfl rfl (.s 38 rfl (.s 41 rfl .nil)) (q_indexO rfl el151 (j := 0) rfl c8745.1 c8745.2) <| WL.q (Wanted.plain rfl) rfl rfl (.s 42 rfl .nil) (q_loadEl rfl sh149 (j := 0) rfl rfl c8745.1 c8745.2 rfl) ?_
   obtain ⟨t8746, ht8746, h⟩ := bind_s h
   refine WL.p rfl rfl rfl (.s 43 rfl .nil) (q_call (f := 93) (A := EqA (.bool t8746)) (xs := [.tmp 43]) («as» := [SlcA (kSl kInt) (rd x10 ((x10.length : Int) - 1))]) rfl ca93 (difference_closed.con k (rd x10 ((x10.length : Int) - 1)) t8746 ht8746) rfl) <| WL.p rfl rfl rfl (.s 44 rfl .nil) (q_not rfl) <| WL.nil <| QN.weaken (env' := [(45, _), (10, _), (7, _)]) (.one rfl (.one rfl (.one rfl (.nil _)))) <| QN.then_ ?_
   refine W.condP h rfl (fun hb8747 h => ?_) (fun hb8747 h => ?_)
   ·refine W.skip <| QN.then_ <| W.block <| W.region <| WL.p rfl rfl rfl (.s 10 rfl .nil) (q_move rfl) <| WL.p rfl rfl rfl (.s 10 rfl .nil) (q_move rfl) <| WL.p rfl rfl rfl (.s 10 rfl .nil) (q_move rfl) <| WL.q (Wanted.plain rfl) rfl rfl (.s 48 rfl .nil) (q_lenO rfl elS151 (i := 0) rfl) ?_
    obtain ⟨c8748, h⟩ := ite_n h
    refine WL.p rfl rfl rfl (.s 49 rfl (.k .nil)) (q_subR rfl c8748) ?_
    obtain ⟨c8749, h⟩ := ite_n h
    refine WL.q (Wanted.plain rfl) rfl rfl (.s 47 rfl (.s 50 rfl .nil)) (q_indexO rfl el151 (j := 0) rfl c8749.1 c8749.2) <| WL.q (Wanted.plain rfl) rfl rfl (.s 51 rfl .nil) (q_loadEl rfl sh149 (j := 0) rfl rfl c8749.1 c8749.2 rfl) <| WL.p rfl rfl rfl (.s 7 rfl .nil) (q_move rfl) ?_
    obtain ⟨t8750, ht8750, h⟩ := bind_s h
    refine WL.p rfl rfl rfl (.s 52 rfl (.s 53 rfl .nil)) (q_call (f := 94) (A := SlcA (kSl kInt) t8750) (xs := [.tmp 52, .tmp 53]) («as» := [SlcA (kSl kInt) (rd x10 ((x10.length : Int) - 1)), SlcA kArc t6277]) rfl ca94 (difference_longer.con k (rd x10 ((x10.length : Int) - 1)) t6277 t8750 ht8750) rfl) <| WL.p rfl rfl rfl (.s 54 rfl .nil) (q_lit (kd := (kSl (kSl kInt))) (ps := [(0, .tmp 54)]) (xs := [.tmp 54]) («as» := [SlcA (kSl kInt) t8750]) (ys := [t8750]) rfl rfl el151 rfl gr149 rfl rfl rfl (.cons (CellsOf.one rfl) .nil)) ?_
    obtain ⟨c8751, h⟩ := ite_n h
    refine WL.w [0] rfl (Wanted.plain rfl) rfl rfl (.s 46 rfl (.s 55 rfl .nil)) (w_append (kd := (kSl (kSl kInt))) rfl el151 rfl gr149 c8751) ?_
    rintro _ _ ⟨v8752, rfl, rfl⟩
    refine WL.p rfl rfl rfl (.s 56 rfl .nil) (q_assign rfl) <| WL.nil <| QN.block ?_
    exact next0 v8752 (x10 ++ [t8750]) _ h (.one rfl (.one rfl (.nil _)))
   ·refine W.exit <| QX.then_ <| QX.then_ <| QX.here <| QN.then_ <| W.seq <| W.region <| WL.p rfl rfl rfl (.k .nil) (q_assign rfl) <| WL.nil <| QN.then_ <| W.seq <| W.region <| WL.p rfl rfl rfl (.k .nil) (q_assign rfl) ?_
    refine WL.p rfl rfl rfl (.k .nil) (q_assign rfl) <| WL.p rfl rfl rfl (.k .nil) (q_assign rfl) <| WL.nil <| QN.then_ <| W.seq <| W.seq <| W.region <| WL.p rfl rfl rfl (.s 10 rfl .nil) (q_move rfl) <| WL.q (Wanted.plain rfl) rfl rfl (.s 57 rfl .nil) (q_lenO rfl elS151 (i := 0) rfl) ?_
    obtain ⟨c8753, h⟩ := ite_n h
    refine WL.p rfl rfl rfl (.s 58 rfl (.k .nil)) (q_subR rfl c8753) <| WL.p rfl rfl rfl (.s 59 rfl .nil) (q_assign rfl) <| WL.nil <| QN.then_ <| W.block <| W.to (StTo.newNil 52 kUse) <| W.to (StTo.as 11 rfl Imp.nilHd) <| W.order [1, 0] rfl ?_
    refine W.loop5 (Γ := Value) (fun (g1 : Value) (_ : (List Use)) (x12 : Int) (x13 : Int) (x14 : Int) (x15 : Int) => [(7, SlcA kArc t6277), (10, HdA g0), (11, HdA g1), (12, EqA (.int .i64 x12)), (13, EqA (.int .i64 x13)), (14, EqA (.int .i64 x14)), (15, EqA (.int .i64 x15))]) (fun (g1 : Value) (x11 : (List Use)) (_ : Int) (_ : Int) (_ : Int) (_ : Int) => [SlE 149 g0 (kSl (kSl kInt)) x10, SlE 52 g1 kUse x11]) h (.slice none 0 0) (.one rfl (.one rfl (.one rfl (.one rfl (.one rfl (.one rfl (.one rfl (.nil _)))))))) rfl (fun rec1 K1 next1 g1 x11 x12 x13 x14 x15 h => ?_)
    unfold difference_Refute.b1 at h
    refine W.seq <| W.seq <| W.region <| WL.p rfl rfl rfl (.s 15 rfl .nil) (q_move rfl) <| WL.p rfl rfl rfl (.s 60 rfl (.k .nil)) (q_int rfl rfl) <| WL.nil <| QN.then_ ?_
    refine W.condP h rfl (fun hb9571 h => ?_) (fun hb9571 h => ?_)
    ·refine W.skip <| QN.then_ <| W.seq <| W.block <| W.seq <| W.region <| WL.p rfl rfl rfl (.s 7 rfl .nil) (q_move rfl) <| WL.p rfl rfl rfl (.s 64 rfl .nil) (q_len rfl elS146) <| WL.p rfl rfl rfl (.k .nil) (q_move rfl) <| WL.nil <| QN.then_ ?_
     refine W.jn4 (Γ := Value) (fun (g9770 : Value) (_ : (List Use)) (x12' : Int) (x13' : Int) (x14' : Int) => [(7, SlcA kArc t6277), (10, HdA g0), (15, EqA (.int .i64 x15)), (11, HdA g9770), (12, EqA (.int .i64 x12')), (13, EqA (.int .i64 x13')), (14, EqA (.int .i64 x14'))]) (fun (g9770 : Value) (x11' : (List Use)) (_ : Int) (_ : Int) (_ : Int) => [SlE 149 g0 (kSl (kSl kInt)) x10, SlE 52 g9770 kUse x11']) h (fun g9770 x11' x12' x13' x14' h => ?_) (fun j9773 Kj9773 h => ?_)
     ·refine QN.block <| QN.then_ <| W.region <| WL.p rfl rfl rfl (.s 15 rfl .nil) (q_move rfl) ?_
      obtain ⟨c9774, h⟩ := ite_n h
      refine WL.p rfl rfl rfl (.s 62 rfl (.k .nil)) (q_subR rfl c9774) <| WL.p rfl rfl rfl (.s 63 rfl .nil) (q_assign rfl) <| WL.nil ?_
      exact next1 g9770 x11' x12' x13' x14' (x15 - 1) _ h (.one rfl (.one rfl (.one rfl (.one rfl (.one rfl (.one rfl (.one rfl (.nil _))))))))
     ·refine W.block ?_
      refine W.loop1 (Γ := Unit) (fun (_ : Unit) (x66 : Int) => [(7, SlcA kArc t6277), (10, HdA g0), (11, HdA g1), (12, EqA (.int .i64 x12)), (13, EqA (.int .i64 x13)), (14, EqA (.int .i64 x14)), (15, EqA (.int .i64 x15)), (64, SlcA kArc t6277), (65, EqA (.int .i64 (t6277.length : Int))), (66, EqA (.int .i64 x66))]) (fun (_ : Unit) (_ : Int) => [SlE 149 g0 (kSl (kSl kInt)) x10, SlE 52 g1 kUse x11]) h () (.one rfl (.one rfl (.one rfl (.one rfl (.one rfl (.one rfl (.one rfl (.one rfl (.one rfl (.one rfl (.nil _))))))))))) rfl (fun rec2 K2 next2 _ x66 h => ?_)
      unfold difference_Refute.b2 at h
      refine W.seq <| W.region <| WL.p rfl rfl rfl (.s 66 rfl (.s 65 rfl .nil)) (q_int rfl rfl) <| WL.nil <| QN.then_ <| W.seq ?_
      refine W.condP h rfl (fun hb9907 h => ?_) (fun hb9907 h => ?_)
      ·refine W.skip <| QN.then_ <| W.seq <| W.block <| W.seq <| W.region ?_
       obtain ⟨c9939, h⟩ := ite_n h
       refine WL.p rfl rfl rfl (.s 64 rfl (.s 66 rfl .nil)) (q_index rfl el146 rfl c9939.1 c9939.2) <| WL.p rfl rfl rfl (.s 68 rfl .nil) (q_loadS rfl sh155 (leB rfl) rfl) <| WL.w [] rfl (Wanted.plain rfl) rfl rfl .nil (w_alloc rfl z155 (l := [EqA (.int .i64 0), EqA (.int .i64 0), EqA (.int .i64 0), EqA (.int .i64 0), EqA (.int .i64 0)]) rfl) ?_
       rintro _ _ ⟨b9940, rfl, rfl⟩
       refine WL.w0 [0] rfl (Wanted.plain rfl) rfl (.s 17 rfl (.s 69 rfl .nil)) (w_store (L := [EqA (.int .i64 ((rd t6277 x66).fuse.fTest)), EqA (.int .i64 ((rd t6277 x66).fuse.fSign)), EqA (.int .i64 ((rd t6277 x66).ffrom)), EqA (.int .i64 ((rd t6277 x66).fto)), EqA (.int .i64 ((rd t6277 x66).fmost))]) rfl sh155 (CellsOf.agg _) rfl rfl (leB rfl) rfl) ?_
       rintro _ _ ⟨rfl, rfl⟩
       refine WL.nil <| QN.to (StTo.still [0] 17 rfl rfl) <| QN.then_ <| W.seq <| W.region <| WL.p rfl rfl rfl (.s 12 rfl .nil) (q_move rfl) <| WL.p rfl rfl rfl (.s 70 rfl .nil) (q_assign rfl) <| WL.nil <| QN.then_ <| W.seq <| W.seq <| W.region <| WL.p rfl rfl rfl (.s 12 rfl .nil) (q_move rfl) ?_
       refine WL.p rfl rfl rfl (.s 71 rfl (.k .nil)) (q_int rfl rfl) <| WL.nil <| QN.then_ ?_
       refine W.jn1 (Γ := Unit) (fun (_ : Unit) (x18 : Int) => [(7, SlcA kArc t6277), (10, HdA g0), (11, HdA g1), (12, EqA (.int .i64 x12)), (13, EqA (.int .i64 x13)), (14, EqA (.int .i64 x14)), (15, EqA (.int .i64 x15)), (64, SlcA kArc t6277), (65, EqA (.int .i64 (t6277.length : Int))), (66, EqA (.int .i64 x66)), (17, PtrA [EqA (.int .i64 ((rd t6277 x66).fuse.fTest)), EqA (.int .i64 ((rd t6277 x66).fuse.fSign)), EqA (.int .i64 ((rd t6277 x66).ffrom)), EqA (.int .i64 ((rd t6277 x66).fto)), EqA (.int .i64 ((rd t6277 x66).fmost))]), (18, EqA (.int .i64 x18))]) (fun (_ : Unit) (_ : Int) => [SlE 149 g0 (kSl (kSl kInt)) x10, SlE 52 g1 kUse x11]) h (fun _ x18 h => ?_) (fun j9945 Kj9945 h => ?_)
       ·refine QN.then_ <| W.seq <| W.drawK [(0, false), (1, false), (2, true), (3, true), (4, false), (5, false), (6, false), (7, false), (8, false), (9, false), (10, false), (11, false)] [] [[], [], [0, 1], [0, 1, 2], [], [4], [0, 1, 2, 3, 4, 5], [0, 1, 2, 3, 4, 5, 6], [], [0, 1, 2, 3, 4, 5, 6, 7, 8], [0, 1, 2, 3, 4, 5, 6, 7, 8, 9], [0, 1, 2, 3, 4, 5, 6, 7, 8, 9, 10]] mx (by kernel_rfl) <| DK.cons rfl rfl (.p rfl (.s 10 rfl .nil) rfl (q_move rfl)) <| DK.cons rfl rfl (.p rfl (.s 15 rfl .nil) rfl (q_move rfl)) ?_
        obtain ⟨c9952, h⟩ := ite_n h
        refine DK.cons rfl rfl (.o rfl (.s 79 rfl (.s 80 rfl .nil)) rfl (q_indexO rfl el151 (j := 0) rfl c9952.1 c9952.2)) <| DK.cons rfl rfl (.o rfl (.s 81 rfl .nil) rfl (q_loadEl rfl sh149 (j := 0) rfl rfl c9952.1 c9952.2 rfl)) <| DK.cons rfl rfl (.p rfl (.s 17 rfl .nil) rfl (q_field rfl fo155_2 rfl)) <| DK.cons rfl rfl (.p rfl (.s 83 rfl .nil) rfl (q_load rfl sh3)) ?_
        obtain ⟨c9953, h⟩ := ite_n h
        refine DK.cons rfl rfl (.p rfl (.s 82 rfl (.s 84 rfl .nil)) rfl (q_index rfl el149 rfl c9953.1 c9953.2)) <| DK.cons rfl rfl (.p rfl (.s 85 rfl .nil) rfl (q_load rfl sh26)) <| DK.cons rfl rfl (.p rfl (.s 18 rfl .nil) rfl (q_move rfl)) ?_
        obtain ⟨c9954, h⟩ := ite_n h
        refine DK.cons rfl rfl (.p rfl (.s 86 rfl (.s 87 rfl .nil)) rfl (q_index rfl el26 rfl c9954.1 c9954.2)) <| DK.cons rfl rfl (.p rfl (.s 88 rfl .nil) rfl (q_load rfl sh3)) <| DK.cons rfl rfl (.p rfl (.s 89 rfl .nil) rfl (q_assign rfl)) <| DK.nil <| CSteps.nil <| QN.weaken (env' := [(19, _), (18, _), (17, _), (66, _), (65, _), (64, _), (15, _), (14, _), (13, _), (12, _), (11, _), (10, _), (7, _)]) (.one rfl (.one rfl (.one rfl (.one rfl (.one rfl (.one rfl (.one rfl (.one rfl (.one rfl (.one rfl (.one rfl (.one rfl (.one rfl (.nil _)))))))))))))) <| QN.then_ <| W.seq ?_
        refine W.jn1 (Γ := Unit) (fun (_ : Unit) (x100 : Bool) => [(7, SlcA kArc t6277), (10, HdA g0), (11, HdA g1), (12, EqA (.int .i64 x12)), (13, EqA (.int .i64 x13)), (14, EqA (.int .i64 x14)), (15, EqA (.int .i64 x15)), (64, SlcA kArc t6277), (65, EqA (.int .i64 (t6277.length : Int))), (66, EqA (.int .i64 x66)), (17, PtrA [EqA (.int .i64 ((rd t6277 x66).fuse.fTest)), EqA (.int .i64 ((rd t6277 x66).fuse.fSign)), EqA (.int .i64 ((rd t6277 x66).ffrom)), EqA (.int .i64 ((rd t6277 x66).fto)), EqA (.int .i64 ((rd t6277 x66).fmost))]), (18, EqA (.int .i64 x18)), (100, EqA (.bool x100))]) (fun (_ : Unit) (_ : Bool) => [SlE 149 g0 (kSl (kSl kInt)) x10, SlE 52 g1 kUse x11]) h (fun _ x100 h => ?_) (fun j9959 Kj9959 h => ?_)
        ·refine QN.then_ ?_
         refine W.condP h rfl (fun hb9960 h => ?_) (fun hb9960 h => ?_)
         ·refine W.seq <| W.region <| WL.p rfl rfl rfl (.s 11 rfl .nil) (q_move rfl) <| WL.p rfl rfl rfl (.s 17 rfl .nil) (q_field rfl fo155_0 rfl) <| WL.p rfl rfl rfl (.s 102 rfl .nil) (q_loadS rfl sh52 (leB rfl) rfl) <| WL.p rfl rfl rfl (.s 103 rfl .nil) (q_lit (kd := kUse) (ps := [(0, .tmp 103)]) (xs := [.tmp 103]) («as» := [AggA [EqA (.int .i64 ((rd t6277 x66).fuse.fTest)), EqA (.int .i64 ((rd t6277 x66).fuse.fSign))]]) (ys := [(rd t6277 x66).fuse]) rfl rfl el45 rfl gr52 rfl rfl rfl (.cons (CellsOf.agg _) .nil)) ?_
          obtain ⟨c9961, h⟩ := ite_n h
          refine WL.w [1] rfl (Wanted.plain rfl) rfl rfl (.s 101 rfl (.s 104 rfl .nil)) (w_append (kd := kUse) rfl el45 rfl gr52 c9961) ?_
          rintro _ _ ⟨v9962, rfl, rfl⟩
          refine WL.p rfl rfl rfl (.s 105 rfl .nil) (q_assign rfl) <| WL.nil <| QN.weaken (env' := [(11, _), (18, _), (17, _), (15, _), (14, _), (10, _), (7, _)]) (.one rfl (.one rfl (.one rfl (.one rfl (.one rfl (.one rfl (.one rfl (.nil _)))))))) <| QN.then_ <| W.seq <| W.drawK [(0, false), (1, false), (2, false), (3, false), (4, false), (5, false), (6, false), (7, false), (8, false), (9, false)] [] [[], [], [1], [], [], [4], [3, 4, 5], [0], [0, 1, 2, 7], [0, 1, 2, 3, 4, 5, 6, 7, 8]] mx (by kernel_rfl) <| DK.cons rfl rfl (.p rfl (.s 18 rfl .nil) rfl (q_move rfl)) <| DK.cons rfl rfl (.p rfl (.s 17 rfl .nil) rfl (q_field rfl fo155_2 rfl)) <| DK.cons rfl rfl (.p rfl (.s 107 rfl .nil) rfl (q_load rfl sh3)) <| DK.cons rfl rfl (.p rfl (.s 14 rfl .nil) rfl (q_move rfl)) <| DK.cons rfl rfl (.p rfl (.s 17 rfl .nil) rfl (q_field rfl fo155_3 rfl)) <| DK.cons rfl rfl (.p rfl (.s 110 rfl .nil) rfl (q_load rfl sh3)) ?_
          obtain ⟨c9965, h⟩ := ite_n h
          refine DK.cons rfl rfl (.p rfl (.s 109 rfl (.s 111 rfl .nil)) rfl (q_addR rfl c9965)) <| DK.cons rfl rfl (.p rfl (.s 106 rfl .nil) rfl (q_assign rfl)) <| DK.cons rfl rfl (.p rfl (.s 108 rfl .nil) rfl (q_assign rfl)) <| DK.cons rfl rfl (.p rfl (.s 112 rfl .nil) rfl (q_assign rfl)) <| DK.nil <| CSteps.nil <| QN.weaken (env' := [(14, _), (13, _), (12, _), (11, _), (15, _), (10, _), (7, _)]) (.one rfl (.one rfl (.one rfl (.one rfl (.one rfl (.one rfl (.one rfl (.nil _)))))))) <| QN.then_ <| W.exit <| QX.there rfl <| QX.then_ <| QX.then_ <| QX.here ?_
          refine QN.order [1, 0] rfl ?_
          exact QN.weaken (.one rfl (.one rfl (.one rfl (.one rfl (.one rfl (.one rfl (.one rfl (.nil _)))))))) (Kj9773 v9962 (x11 ++ [(rd t6277 x66).fuse]) x18 ((rd t6277 x66).fto) (x14 + (rd t6277 x66).fmost) h)
         ·refine W.skip <| QN.block <| QN.then_ <| W.region ?_
          obtain ⟨c9966, h⟩ := ite_n h
          refine WL.p rfl rfl rfl (.s 66 rfl (.k .nil)) (q_addR rfl c9966) <| WL.p rfl rfl rfl (.s 113 rfl .nil) (q_move rfl) <| WL.nil ?_
          exact next2 () (x66 + 1) _ h (.one rfl (.one rfl (.one rfl (.one rfl (.one rfl (.one rfl (.one rfl (.one rfl (.one rfl (.one rfl (.nil _)))))))))))
        ·refine W.region <| WL.p rfl rfl rfl (.s 19 rfl .nil) (q_move rfl) <| WL.p rfl rfl rfl (.s 90 rfl (.k .nil)) (q_int rfl rfl) <| WL.p rfl rfl rfl (.s 91 rfl .nil) (q_move rfl) ?_
         rcases bif_s h with ⟨hb9967, h⟩ | ⟨hb9967, h⟩
         ·refine WL.q (Wanted.on rfl rfl rfl hb9967) rfl rfl (.s 14 rfl .nil) (q_move rfl).o <| WL.q (Wanted.on rfl rfl rfl hb9967) rfl rfl (.s 17 rfl .nil) (q_field rfl fo155_3 rfl).o <| WL.q (Wanted.on rfl rfl rfl hb9967) rfl rfl (.s 94 rfl .nil) (q_load rfl sh3).o ?_
          obtain ⟨c9968, h⟩ := ite_n h
          refine WL.q (Wanted.on rfl rfl rfl hb9967) rfl rfl (.s 93 rfl (.s 95 rfl .nil)) (q_addR rfl c9968).o <| WL.q (Wanted.on rfl rfl rfl hb9967) rfl rfl (.s 19 rfl .nil) (q_move rfl).o ?_
          obtain ⟨c9969, h⟩ := ite_n h
          refine WL.q (Wanted.on rfl rfl rfl hb9967) rfl rfl (.s 96 rfl (.s 97 rfl .nil)) (q_addR rfl c9969).o <| WL.q (Wanted.on rfl rfl rfl hb9967) rfl rfl (.s 98 rfl (.k .nil)) (q_int rfl rfl).o <| WL.p rfl rfl rfl (.s 92 rfl (.s 99 rfl .nil)) (q_pickT rfl hb9967) <| WL.nil ?_
          exact QN.weaken (.one rfl (.one rfl (.one rfl (.one rfl (.one rfl (.one rfl (.one rfl (.one rfl (.one rfl (.one rfl (.one rfl (.one rfl (.one rfl (.nil _)))))))))))))) (Kj9959 () (decide (((x14 + (rd t6277 x66).fmost) + (rd (rd (rd x10 x15) ((rd t6277 x66).fto)) x18)) < 0)) h)
         ·refine WL.skip (Unwanted.on rfl rfl rfl hb9967) rfl rfl <| WL.skip (Unwanted.on rfl rfl rfl hb9967) rfl rfl <| WL.skip (Unwanted.on rfl rfl rfl hb9967) rfl rfl <| WL.skip (Unwanted.on rfl rfl rfl hb9967) rfl rfl <| WL.skip (Unwanted.on rfl rfl rfl hb9967) rfl rfl <| WL.skip (Unwanted.on rfl rfl rfl hb9967) rfl rfl <| WL.skip (Unwanted.on rfl rfl rfl hb9967) rfl rfl <| WL.p rfl rfl rfl (.s 92 rfl (.k .nil)) (q_pickF rfl hb9967) <| WL.nil ?_
          exact QN.weaken (.one rfl (.one rfl (.one rfl (.one rfl (.one rfl (.one rfl (.one rfl (.one rfl (.one rfl (.one rfl (.one rfl (.one rfl (.one rfl (.nil _)))))))))))))) (Kj9959 () false h)
       ·refine W.condP h rfl (fun hb9970 h => ?_) (fun hb9970 h => ?_)
        ·refine W.region <| WL.p rfl rfl rfl (.s 17 rfl .nil) (q_field rfl fo155_1 rfl) <| WL.p rfl rfl rfl (.s 73 rfl .nil) (q_load rfl sh3) <| WL.p rfl rfl rfl (.s 74 rfl .nil) (q_assign rfl) <| WL.nil ?_
         exact QN.weaken (.one rfl (.one rfl (.one rfl (.one rfl (.one rfl (.one rfl (.one rfl (.one rfl (.one rfl (.one rfl (.one rfl (.one rfl (.nil _))))))))))))) (Kj9945 () ((rd t6277 x66).ffrom) h)
        ·refine W.seq <| W.region <| WL.p rfl rfl rfl (.s 17 rfl .nil) (q_field rfl fo155_1 rfl) <| WL.p rfl rfl rfl (.s 75 rfl .nil) (q_load rfl sh3) <| WL.p rfl rfl rfl (.s 13 rfl .nil) (q_move rfl) <| WL.p rfl rfl rfl (.s 76 rfl (.s 77 rfl .nil)) (q_int rfl rfl) <| WL.nil <| QN.weaken (env' := [(78, _), (18, _), (17, _), (66, _), (65, _), (64, _), (15, _), (14, _), (13, _), (12, _), (11, _), (10, _), (7, _)]) (.one rfl (.one rfl (.one rfl (.one rfl (.one rfl (.one rfl (.one rfl (.one rfl (.one rfl (.one rfl (.one rfl (.one rfl (.one rfl (.nil _)))))))))))))) <| QN.then_ ?_
         refine W.condP h rfl (fun hb9971 h => ?_) (fun hb9971 h => ?_)
         ·refine W.exit <| QX.then_ <| QX.here <| QN.then_ <| W.region ?_
          obtain ⟨c9972, h⟩ := ite_n h
          refine WL.p rfl rfl rfl (.s 66 rfl (.k .nil)) (q_addR rfl c9972) <| WL.p rfl rfl rfl (.s 113 rfl .nil) (q_move rfl) <| WL.nil ?_
          exact next2 () (x66 + 1) _ h (.one rfl (.one rfl (.one rfl (.one rfl (.one rfl (.one rfl (.one rfl (.one rfl (.one rfl (.one rfl (.nil _)))))))))))
         ·refine W.skip ?_
          exact QN.weaken (.one rfl (.one rfl (.one rfl (.one rfl (.one rfl (.one rfl (.one rfl (.one rfl (.one rfl (.one rfl (.one rfl (.one rfl (.nil _))))))))))))) (Kj9945 () x12 h)
      ·refine W.exit <| QX.then_ <| QX.then_ <| QX.here ?_
       exact QN.weaken (.one rfl (.one rfl (.one rfl (.one rfl (.one rfl (.one rfl (.one rfl (.nil _)))))))) (Kj9773 g1 x11 x12 x13 x14 h)
    ·refine W.exit <| QX.then_ <| QX.then_ <| QX.here <| QN.weaken (env' := [(11, _)]) (.one rfl (.nil _)) <| QN.then_ <| W.seq <| W.region <| WL.p rfl rfl rfl (.s 11 rfl .nil) (q_move rfl) <| WL.p rfl rfl rfl (.s 114 rfl .nil) (q_assign rfl) <| WL.p rfl rfl rfl (.k .nil) (q_assign rfl) <| WL.nil <| QN.then_ ?_
     refine W.ret ?_
     cases h
     exact QR.f2 rfl rfl (.t rfl) (.t rfl) (.tup (.cons (.slc 1 rfl) (.cons (.id _) .nil)))
theorem attribute_Contradiction.con (k : Nat) (a0 : Types) (a1 : Pattern) (r : ((List Use) × Int)) (h : attribute_Contradiction k a0 a1 = some r) : Con Tryz.prog 15 [] [AggA [SlcA kNodeType a0.fNodes, SlcA kEdgeType a0.fEdges], AggA [SlcA kInt a1.fGraph.fNodes, SlcA kEdge a1.fGraph.fEdges, SlcA kSlot a1.fSlots, EqA (.int .i64 a1.fVars), SlcA kTest a1.fTests]] (RA (TupA [SlcA kUse r.1, EqA (.int .i64 r.2)])) := by
 unfold attribute_Contradiction at h
 refine Con.of (N := 21) Tryz.func15 rfl rfl rfl fun w0_ fg_ => W.seq <| W.region <| WL.p rfl rfl rfl (.s 0 rfl .nil) (q_box rfl (CellsOf.agg _)) <| WL.p rfl rfl rfl (.s 1 rfl .nil) (q_box rfl (CellsOf.agg _)) <| WL.p rfl rfl rfl (.k .nil) (q_assign rfl) <| WL.p rfl rfl rfl (.k .nil) (q_assign rfl) <| WL.nil <| QN.then_ <| W.seq <| W.seq <| W.region <| WL.p rfl rfl rfl (.s 2 rfl .nil) (q_loadS rfl sh35 (leB rfl) rfl) ?_
 refine WL.p rfl rfl rfl (.s 3 rfl .nil) (q_loadS rfl sh42 (leB rfl) rfl) ?_
 obtain ⟨t9973, ht9973, h⟩ := bind_s h
 refine WL.p rfl rfl rfl (.s 7 rfl (.s 8 rfl .nil)) (q_call (f := 18) (A := EqA (.int .i64 t9973)) (xs := [.tmp 7, .tmp 8]) («as» := [AggA [SlcA kNodeType a0.fNodes, SlcA kEdgeType a0.fEdges], AggA [SlcA kInt a1.fGraph.fNodes, SlcA kEdge a1.fGraph.fEdges, SlcA kSlot a1.fSlots, EqA (.int .i64 a1.fVars), SlcA kTest a1.fTests]]) rfl ca18 (attribute_Valid.con k a0 a1 t9973 ht9973) rfl) <| WL.p rfl rfl rfl (.s 9 rfl .nil) (q_assign rfl) <| WL.nil <| QN.weaken (env' := [(6, _), (3, _), (2, _)]) (.one rfl (.one rfl (.one rfl (.nil _)))) <| QN.then_ <| W.seq <| W.region <| WL.p rfl rfl rfl (.s 6 rfl .nil) (q_move rfl) <| WL.p rfl rfl rfl (.s 10 rfl (.k .nil)) (q_int rfl rfl) <| WL.nil <| QN.then_ ?_
 refine W.condP h rfl (fun hb9974 h => ?_) (fun hb9974 h => ?_)
 ·refine W.seq <| W.region <| WL.p rfl rfl rfl (.s 6 rfl .nil) (q_move rfl) <| WL.p rfl rfl rfl (.k .nil) (q_assign rfl) <| WL.p rfl rfl rfl (.s 12 rfl .nil) (q_assign rfl) <| WL.nil <| QN.then_ <| W.ret <| QR.then_ ?_
  cases h
  exact QR.f2 rfl rfl (.t rfl) (.t rfl) (.imp (Imp.tup (.cons (Imp.nil kUse) (.cons (Imp.id _) .nil))))
 ·refine W.skip <| QN.then_ <| W.seq <| W.drawK [(0, false), (1, false), (2, false), (3, false), (4, false), (5, false), (6, false), (7, false), (8, false), (9, false)] [] [[], [0], [], [], [2, 3], [0, 1, 2, 3, 4], [0, 1, 2, 3, 4, 5], [0, 1, 2, 3, 4, 5], [0, 1, 2, 3, 4, 5, 6, 7], [0, 1, 2, 3, 4, 5, 6, 7, 8]] mx (by kernel_rfl) <| DK.cons rfl rfl (.p rfl (.s 3 rfl .nil) rfl (q_field rfl fo42_2 rfl)) <| DK.cons rfl rfl (.p rfl (.s 13 rfl .nil) rfl (q_load rfl sh3)) <| DK.cons rfl rfl (.p rfl (.s 2 rfl .nil) rfl (q_loadS rfl sh35 (leB rfl) rfl)) <| DK.cons rfl rfl (.p rfl (.s 3 rfl .nil) rfl (q_loadS rfl sh42 (leB rfl) rfl)) ?_
  obtain ⟨t9979, ht9979, h⟩ := bind_s h
  refine DK.cons rfl rfl (.p rfl (.s 15 rfl (.s 16 rfl .nil)) rfl (q_call (f := 45) (A := SlcA kTest t9979) (xs := [.tmp 15, .tmp 16]) («as» := [AggA [SlcA kNodeType a0.fNodes, SlcA kEdgeType a0.fEdges], AggA [SlcA kInt a1.fGraph.fNodes, SlcA kEdge a1.fGraph.fEdges, SlcA kSlot a1.fSlots, EqA (.int .i64 a1.fVars), SlcA kTest a1.fTests]]) rfl ca45 (attribute_system.con k a0 a1 t9979 ht9979) rfl)) ?_
  obtain ⟨t9980, ht9980, h⟩ := bind_s h
  refine DK.cons rfl rfl (.p rfl (.s 14 rfl (.s 17 rfl .nil)) rfl (q_call (f := 44) (A := TupA [SlcA kUse t9980.1, EqA (.int .i64 t9980.2)]) (xs := [.tmp 14, .tmp 17]) («as» := [EqA (.int .i64 a1.fVars), SlcA kTest t9979]) rfl ca44 (difference_Refute.con k a1.fVars t9979 t9980 ht9980) rfl)) <| DK.cons rfl rfl (.p rfl (.s 18 rfl .nil) rfl (q_extract rfl rfl)) <| DK.cons rfl rfl (.p rfl (.s 18 rfl .nil) rfl (q_extract rfl rfl)) <| DK.cons rfl rfl (.p rfl (.s 19 rfl .nil) rfl (q_assign rfl)) <| DK.cons rfl rfl (.p rfl (.s 20 rfl .nil) rfl (q_assign rfl)) <| DK.nil <| CSteps.nil <| QN.weaken (env' := [(5, _), (4, _)]) (.one rfl (.one rfl (.nil _))) <| QN.then_ <| W.ret ?_
  cases h
  exact QR.f2 rfl rfl (.t rfl) (.t rfl) (.id _)
theorem ref05_SameInts.con (k : Nat) (a0 : (List Int)) (a1 : (List Int)) (r : Bool) (h : ref05_SameInts k a0 a1 = some r) : Con Tryz.prog 116 [] [SlcA kInt a0, SlcA kInt a1] (RA (EqA (.bool r))) := by
 unfold ref05_SameInts at h
 refine Con.of (N := 26) Tryz.func116 rfl rfl rfl fun w0_ fg_ => W.seq <| W.region <| WL.p rfl rfl rfl (.k .nil) (q_assign rfl) <| WL.nil <| QN.then_ <| W.seq <| W.seq <| W.region <| WL.p rfl rfl rfl (.s 0 rfl .nil) (q_move rfl) <| WL.p rfl rfl rfl (.s 6 rfl .nil) (q_len rfl elS26) <| WL.p rfl rfl rfl (.s 1 rfl .nil) (q_move rfl) <| WL.p rfl rfl rfl (.s 8 rfl .nil) (q_len rfl elS26) ?_
 refine WL.p rfl rfl rfl (.s 7 rfl (.s 9 rfl .nil)) (q_int rfl rfl) <| WL.nil <| QN.then_ ?_
 refine W.condP h rfl (fun hb9981 h => ?_) (fun hb9981 h => ?_)
 ·refine W.seq <| W.region <| WL.p rfl rfl rfl (.k .nil) (q_assign rfl) <| WL.nil <| QN.weaken (env' := [(4, _)]) (.one rfl (.nil _)) <| QN.then_ <| W.ret <| QR.then_ ?_
  cases h
  exact QR.f1 rfl rfl (.t rfl) (.id _)
 ·refine W.skip <| QN.then_ <| W.seq <| W.seq <| W.region <| WL.p rfl rfl rfl (.k .nil) (q_assign rfl) <| WL.nil <| QN.then_ <| W.block ?_
  refine W.loop1 (Γ := Unit) (fun (_ : Unit) (x5 : Int) => [(0, SlcA kInt a0), (1, SlcA kInt a1), (5, EqA (.int .i64 x5))]) (fun (_ : Unit) (_ : Int) => []) h () (.one rfl (.one rfl (.one rfl (.nil _)))) rfl (fun rec0 K0 next0 _ x5 h => ?_)
  unfold ref05_SameInts.b0 at h
  refine W.seq <| W.seq <| W.region <| WL.p rfl rfl rfl (.s 5 rfl .nil) (q_move rfl) <| WL.p rfl rfl rfl (.s 0 rfl .nil) (q_move rfl) <| WL.p rfl rfl rfl (.s 12 rfl .nil) (q_len rfl elS26) <| WL.p rfl rfl rfl (.s 11 rfl (.s 13 rfl .nil)) (q_int rfl rfl) <| WL.nil <| QN.then_ ?_
  refine W.condP h rfl (fun hb10000 h => ?_) (fun hb10000 h => ?_)
  ·refine W.skip <| QN.then_ <| W.seq <| W.block <| W.seq <| W.drawK [(0, false), (1, false), (2, false), (3, false), (4, false), (5, false), (6, false), (7, false), (8, false)] [] [[], [], [0, 1], [0, 1, 2], [], [], [4, 5], [4, 5, 6], [0, 1, 2, 3, 4, 5, 6, 7]] mx (by kernel_rfl) <| DK.cons rfl rfl (.p rfl (.s 0 rfl .nil) rfl (q_move rfl)) <| DK.cons rfl rfl (.p rfl (.s 5 rfl .nil) rfl (q_move rfl)) ?_
   obtain ⟨c10005, h⟩ := ite_n h
   refine DK.cons rfl rfl (.p rfl (.s 17 rfl (.s 18 rfl .nil)) rfl (q_index rfl el26 rfl c10005.1 c10005.2)) <| DK.cons rfl rfl (.p rfl (.s 19 rfl .nil) rfl (q_load rfl sh3)) <| DK.cons rfl rfl (.p rfl (.s 1 rfl .nil) rfl (q_move rfl)) <| DK.cons rfl rfl (.p rfl (.s 5 rfl .nil) rfl (q_move rfl)) ?_
   obtain ⟨c10006, h⟩ := ite_n h
   refine DK.cons rfl rfl (.p rfl (.s 21 rfl (.s 22 rfl .nil)) rfl (q_index rfl el26 rfl c10006.1 c10006.2)) <| DK.cons rfl rfl (.p rfl (.s 23 rfl .nil) rfl (q_load rfl sh3)) <| DK.cons rfl rfl (.p rfl (.s 20 rfl (.s 24 rfl .nil)) rfl (q_int rfl rfl)) <| DK.nil <| CSteps.nil <| QN.weaken (env' := [(25, _), (5, _), (1, _), (0, _)]) (.one rfl (.one rfl (.one rfl (.one rfl (.nil _))))) <| QN.then_ ?_
   refine W.condP h rfl (fun hb10007 h => ?_) (fun hb10007 h => ?_)
   ·refine W.seq <| W.region <| WL.p rfl rfl rfl (.k .nil) (q_assign rfl) <| WL.nil <| QN.then_ <| W.ret <| QR.block <| QR.then_ <| QR.then_ <| QR.block <| QR.then_ ?_
    cases h
    exact QR.f1 rfl rfl (.t rfl) (.id _)
   ·refine W.skip <| QN.block <| QN.then_ <| W.region <| WL.p rfl rfl rfl (.s 5 rfl .nil) (q_move rfl) ?_
    obtain ⟨c10008, h⟩ := ite_n h
    refine WL.p rfl rfl rfl (.s 15 rfl (.k .nil)) (q_addR rfl c10008) <| WL.p rfl rfl rfl (.s 16 rfl .nil) (q_assign rfl) <| WL.nil ?_
    exact next0 () (x5 + 1) _ h (.one rfl (.one rfl (.one rfl (.nil _))))
  ·refine W.exit <| QX.then_ <| QX.then_ <| QX.here <| QN.weaken (env' := []) (.nil _) <| QN.then_ <| W.seq <| W.region <| WL.p rfl rfl rfl (.k .nil) (q_assign rfl) <| WL.nil <| QN.then_ <| W.ret ?_
   cases h
   exact QR.f1 rfl rfl (.t rfl) (.id _)
theorem ref21_SameMatch.con (k : Nat) (a0 : Match) (a1 : Match) (r : Bool) (h : ref21_SameMatch k a0 a1 = some r) : Con Tryz.prog 80 [] [AggA [SlcA kInt a0.fMorphism.fNodes, SlcA kInt a0.fMorphism.fEdges, SlcA kInt a0.fVars], AggA [SlcA kInt a1.fMorphism.fNodes, SlcA kInt a1.fMorphism.fEdges, SlcA kInt a1.fVars]] (RA (EqA (.bool r))) := by
 unfold ref21_SameMatch at h
 refine Con.of (N := 28) Tryz.func80 rfl rfl rfl fun w0_ fg_ => W.seq <| W.region <| WL.p rfl rfl rfl (.s 0 rfl .nil) (q_box rfl (CellsOf.agg _)) <| WL.p rfl rfl rfl (.s 1 rfl .nil) (q_box rfl (CellsOf.agg _)) <| WL.p rfl rfl rfl (.k .nil) (q_assign rfl) <| WL.nil <| QN.then_ <| W.seq ?_
 refine W.jn1 (Γ := Unit) (fun (_ : Unit) (x4 : Bool) => [(4, EqA (.bool x4))]) (fun (_ : Unit) (_ : Bool) => []) h (fun _ x4 h => ?_) (fun j10015 Kj10015 h => ?_)
 ·refine QN.then_ <| W.ret ?_
  cases h
  exact QR.f1 rfl rfl (.t rfl) (.id _)
 ·refine W.region <| WL.p rfl rfl rfl (.s 2 rfl .nil) (q_field rfl fo76_0 rfl) <| WL.p rfl rfl rfl (.s 5 rfl .nil) (q_field rfl fo64_0 rfl) <| WL.p rfl rfl rfl (.s 6 rfl .nil) (q_load rfl sh26) <| WL.p rfl rfl rfl (.s 3 rfl .nil) (q_field rfl fo76_0 rfl) <| WL.p rfl rfl rfl (.s 8 rfl .nil) (q_field rfl fo64_0 rfl) <| WL.p rfl rfl rfl (.s 9 rfl .nil) (q_load rfl sh26) ?_
  obtain ⟨t10016, ht10016, h⟩ := bind_s h
  refine WL.p rfl rfl rfl (.s 7 rfl (.s 10 rfl .nil)) (q_call (f := 116) (A := EqA (.bool t10016)) (xs := [.tmp 7, .tmp 10]) («as» := [SlcA kInt a0.fMorphism.fNodes, SlcA kInt a1.fMorphism.fNodes]) rfl ca116 (ref05_SameInts.con k a0.fMorphism.fNodes a1.fMorphism.fNodes t10016 ht10016) rfl) <| WL.p rfl rfl rfl (.s 11 rfl .nil) (q_move rfl) ?_
  rcases bif_s h with ⟨hb10017, h⟩ | ⟨hb10017, h⟩
  ·refine WL.q (Wanted.on rfl rfl rfl hb10017) rfl rfl (.s 2 rfl .nil) (q_field rfl fo76_0 rfl).o <| WL.q (Wanted.on rfl rfl rfl hb10017) rfl rfl (.s 13 rfl .nil) (q_field rfl fo64_1 rfl).o <| WL.q (Wanted.on rfl rfl rfl hb10017) rfl rfl (.s 14 rfl .nil) (q_load rfl sh26).o <| WL.q (Wanted.on rfl rfl rfl hb10017) rfl rfl (.s 3 rfl .nil) (q_field rfl fo76_0 rfl).o <| WL.q (Wanted.on rfl rfl rfl hb10017) rfl rfl (.s 16 rfl .nil) (q_field rfl fo64_1 rfl).o <| WL.q (Wanted.on rfl rfl rfl hb10017) rfl rfl (.s 17 rfl .nil) (q_load rfl sh26).o ?_
   obtain ⟨t10018, ht10018, h⟩ := bind_s h
   refine WL.q (Wanted.on rfl rfl rfl hb10017) rfl rfl (.s 15 rfl (.s 18 rfl .nil)) (q_call (f := 116) (A := EqA (.bool t10018)) (xs := [.tmp 15, .tmp 18]) («as» := [SlcA kInt a0.fMorphism.fEdges, SlcA kInt a1.fMorphism.fEdges]) rfl ca116 (ref05_SameInts.con k a0.fMorphism.fEdges a1.fMorphism.fEdges t10018 ht10018) rfl).o <| WL.p rfl rfl rfl (.s 12 rfl (.s 19 rfl .nil)) (q_pickT rfl hb10017) <| WL.p rfl rfl rfl (.s 20 rfl .nil) (q_move rfl) ?_
   rcases bif_s h with ⟨hb10019, h⟩ | ⟨hb10019, h⟩
   ·refine WL.q (Wanted.on rfl rfl rfl hb10019) rfl rfl (.s 2 rfl .nil) (q_field rfl fo76_1 rfl).o <| WL.q (Wanted.on rfl rfl rfl hb10019) rfl rfl (.s 22 rfl .nil) (q_load rfl sh26).o <| WL.q (Wanted.on rfl rfl rfl hb10019) rfl rfl (.s 3 rfl .nil) (q_field rfl fo76_1 rfl).o <| WL.q (Wanted.on rfl rfl rfl hb10019) rfl rfl (.s 24 rfl .nil) (q_load rfl sh26).o ?_
    obtain ⟨t10020, ht10020, h⟩ := bind_s h
    refine WL.q (Wanted.on rfl rfl rfl hb10019) rfl rfl (.s 23 rfl (.s 25 rfl .nil)) (q_call (f := 116) (A := EqA (.bool t10020)) (xs := [.tmp 23, .tmp 25]) («as» := [SlcA kInt a0.fVars, SlcA kInt a1.fVars]) rfl ca116 (ref05_SameInts.con k a0.fVars a1.fVars t10020 ht10020) rfl).o <| WL.p rfl rfl rfl (.s 21 rfl (.s 26 rfl .nil)) (q_pickT rfl hb10019) <| WL.p rfl rfl rfl (.s 27 rfl .nil) (q_assign rfl) <| WL.nil ?_
    exact QN.weaken (.one rfl (.nil _)) (Kj10015 () t10020 h)
   ·refine WL.skip (Unwanted.on rfl rfl rfl hb10019) rfl rfl <| WL.skip (Unwanted.on rfl rfl rfl hb10019) rfl rfl <| WL.skip (Unwanted.on rfl rfl rfl hb10019) rfl rfl <| WL.skip (Unwanted.on rfl rfl rfl hb10019) rfl rfl <| WL.skip (Unwanted.on rfl rfl rfl hb10019) rfl rfl <| WL.p rfl rfl rfl (.s 21 rfl (.k .nil)) (q_pickF rfl hb10019) <| WL.p rfl rfl rfl (.s 27 rfl .nil) (q_assign rfl) <| WL.nil ?_
    exact QN.weaken (.one rfl (.nil _)) (Kj10015 () false h)
  ·refine WL.skip (Unwanted.on rfl rfl rfl hb10017) rfl rfl <| WL.skip (Unwanted.on rfl rfl rfl hb10017) rfl rfl <| WL.skip (Unwanted.on rfl rfl rfl hb10017) rfl rfl <| WL.skip (Unwanted.on rfl rfl rfl hb10017) rfl rfl <| WL.skip (Unwanted.on rfl rfl rfl hb10017) rfl rfl <| WL.skip (Unwanted.on rfl rfl rfl hb10017) rfl rfl <| WL.skip (Unwanted.on rfl rfl rfl hb10017) rfl rfl <| WL.p rfl rfl rfl (.s 12 rfl (.k .nil)) (q_pickF rfl hb10017) <| WL.p rfl rfl rfl (.s 20 rfl .nil) (q_move rfl) <| WL.skip (Unwanted.on rfl rfl rfl rfl) rfl rfl <| WL.skip (Unwanted.on rfl rfl rfl rfl) rfl rfl <| WL.skip (Unwanted.on rfl rfl rfl rfl) rfl rfl <| WL.skip (Unwanted.on rfl rfl rfl rfl) rfl rfl ?_
   refine WL.skip (Unwanted.on rfl rfl rfl rfl) rfl rfl <| WL.p rfl rfl rfl (.s 21 rfl (.k .nil)) (q_pickF rfl rfl) <| WL.p rfl rfl rfl (.s 27 rfl .nil) (q_assign rfl) <| WL.nil ?_
   exact QN.weaken (.one rfl (.nil _)) (Kj10015 () false h)
theorem ref21_SameMatches.con (k : Nat) (a0 : (List Match)) (a1 : (List Match)) (r : Bool) (h : ref21_SameMatches k a0 a1 = some r) : Con Tryz.prog 31 [] [SlcA kMatch a0, SlcA kMatch a1] (RA (EqA (.bool r))) := by
 unfold ref21_SameMatches at h
 refine Con.of (N := 27) Tryz.func31 rfl rfl rfl fun w0_ fg_ => W.seq <| W.region <| WL.p rfl rfl rfl (.k .nil) (q_assign rfl) <| WL.nil <| QN.then_ <| W.seq <| W.seq <| W.region <| WL.p rfl rfl rfl (.s 0 rfl .nil) (q_move rfl) <| WL.p rfl rfl rfl (.s 6 rfl .nil) (q_len rfl elS71) <| WL.p rfl rfl rfl (.s 1 rfl .nil) (q_move rfl) <| WL.p rfl rfl rfl (.s 8 rfl .nil) (q_len rfl elS71) ?_
 refine WL.p rfl rfl rfl (.s 7 rfl (.s 9 rfl .nil)) (q_int rfl rfl) <| WL.nil <| QN.then_ ?_
 refine W.condP h rfl (fun hb10021 h => ?_) (fun hb10021 h => ?_)
 ·refine W.seq <| W.region <| WL.p rfl rfl rfl (.k .nil) (q_assign rfl) <| WL.nil <| QN.weaken (env' := [(4, _)]) (.one rfl (.nil _)) <| QN.then_ <| W.ret <| QR.then_ ?_
  cases h
  exact QR.f1 rfl rfl (.t rfl) (.id _)
 ·refine W.skip <| QN.then_ <| W.seq <| W.seq <| W.region <| WL.p rfl rfl rfl (.k .nil) (q_assign rfl) <| WL.nil <| QN.then_ <| W.block ?_
  refine W.loop1 (Γ := Unit) (fun (_ : Unit) (x5 : Int) => [(0, SlcA kMatch a0), (1, SlcA kMatch a1), (5, EqA (.int .i64 x5))]) (fun (_ : Unit) (_ : Int) => []) h () (.one rfl (.one rfl (.one rfl (.nil _)))) rfl (fun rec0 K0 next0 _ x5 h => ?_)
  unfold ref21_SameMatches.b0 at h
  refine W.seq <| W.seq <| W.region <| WL.p rfl rfl rfl (.s 5 rfl .nil) (q_move rfl) <| WL.p rfl rfl rfl (.s 0 rfl .nil) (q_move rfl) <| WL.p rfl rfl rfl (.s 12 rfl .nil) (q_len rfl elS71) <| WL.p rfl rfl rfl (.s 11 rfl (.s 13 rfl .nil)) (q_int rfl rfl) <| WL.nil <| QN.then_ ?_
  refine W.condP h rfl (fun hb10046 h => ?_) (fun hb10046 h => ?_)
  ·refine W.skip <| QN.then_ <| W.seq <| W.block <| W.seq <| W.drawK [(0, false), (1, false), (2, false), (3, false), (4, false), (5, false), (6, false), (7, false), (8, false), (9, false)] [] [[], [], [0, 1], [0, 1, 2], [], [], [4, 5], [4, 5, 6], [0, 1, 2, 3, 4, 5, 6, 7], [0, 1, 2, 3, 4, 5, 6, 7, 8]] mx (by kernel_rfl) <| DK.cons rfl rfl (.p rfl (.s 0 rfl .nil) rfl (q_move rfl)) <| DK.cons rfl rfl (.p rfl (.s 5 rfl .nil) rfl (q_move rfl)) ?_
   obtain ⟨c10053, h⟩ := ite_n h
   refine DK.cons rfl rfl (.p rfl (.s 17 rfl (.s 18 rfl .nil)) rfl (q_index rfl el71 rfl c10053.1 c10053.2)) <| DK.cons rfl rfl (.p rfl (.s 19 rfl .nil) rfl (q_loadS rfl sh76 (leB rfl) rfl)) <| DK.cons rfl rfl (.p rfl (.s 1 rfl .nil) rfl (q_move rfl)) <| DK.cons rfl rfl (.p rfl (.s 5 rfl .nil) rfl (q_move rfl)) ?_
   obtain ⟨c10054, h⟩ := ite_n h
   refine DK.cons rfl rfl (.p rfl (.s 21 rfl (.s 22 rfl .nil)) rfl (q_index rfl el71 rfl c10054.1 c10054.2)) <| DK.cons rfl rfl (.p rfl (.s 23 rfl .nil) rfl (q_loadS rfl sh76 (leB rfl) rfl)) ?_
   obtain ⟨t10055, ht10055, h⟩ := bind_s h
   refine DK.cons rfl rfl (.p rfl (.s 20 rfl (.s 24 rfl .nil)) rfl (q_call (f := 80) (A := EqA (.bool t10055)) (xs := [.tmp 20, .tmp 24]) («as» := [AggA [SlcA kInt ((rd a0 x5).fMorphism.fNodes), SlcA kInt ((rd a0 x5).fMorphism.fEdges), SlcA kInt ((rd a0 x5).fVars)], AggA [SlcA kInt ((rd a1 x5).fMorphism.fNodes), SlcA kInt ((rd a1 x5).fMorphism.fEdges), SlcA kInt ((rd a1 x5).fVars)]]) rfl ca80 (ref21_SameMatch.con k (rd a0 x5) (rd a1 x5) t10055 ht10055) rfl)) <| DK.cons rfl rfl (.p rfl (.s 25 rfl .nil) rfl (q_not rfl)) <| DK.nil <| CSteps.nil <| QN.weaken (env' := [(26, _), (5, _), (1, _), (0, _)]) (.one rfl (.one rfl (.one rfl (.one rfl (.nil _))))) <| QN.then_ ?_
   refine W.condP h rfl (fun hb10056 h => ?_) (fun hb10056 h => ?_)
   ·refine W.seq <| W.region <| WL.p rfl rfl rfl (.k .nil) (q_assign rfl) <| WL.nil <| QN.then_ <| W.ret <| QR.block <| QR.then_ <| QR.then_ <| QR.block <| QR.then_ ?_
    cases h
    exact QR.f1 rfl rfl (.t rfl) (.id _)
   ·refine W.skip <| QN.block <| QN.then_ <| W.region <| WL.p rfl rfl rfl (.s 5 rfl .nil) (q_move rfl) ?_
    obtain ⟨c10057, h⟩ := ite_n h
    refine WL.p rfl rfl rfl (.s 15 rfl (.k .nil)) (q_addR rfl c10057) <| WL.p rfl rfl rfl (.s 16 rfl .nil) (q_assign rfl) <| WL.nil ?_
    exact next0 () (x5 + 1) _ h (.one rfl (.one rfl (.one rfl (.nil _))))
  ·refine W.exit <| QX.then_ <| QX.then_ <| QX.here <| QN.weaken (env' := []) (.nil _) <| QN.then_ <| W.seq <| W.region <| WL.p rfl rfl rfl (.k .nil) (q_assign rfl) <| WL.nil <| QN.then_ <| W.ret ?_
   cases h
   exact QR.f1 rfl rfl (.t rfl) (.id _)
theorem law21_awake.con (k : Nat) (r : Bool) (h : law21_awake k = some r) : Con Tryz.prog 9 [] [] (RA (EqA (.bool r))) := by
 unfold law21_awake at h
 refine Con.of (N := 44) Tryz.func9 rfl rfl rfl fun w0_ fg_ => W.seq <| W.region <| WL.p rfl rfl rfl (.k .nil) (q_assign rfl) <| WL.nil <| QN.then_ <| W.seq <| W.region ?_
 obtain ⟨t10058, ht10058, h⟩ := bind_s h
 refine WL.p rfl rfl rfl .nil (q_call (f := 37) (A := AggA [SlcA kNodeType t10058.fNodes, SlcA kEdgeType t10058.fEdges]) (xs := []) («as» := []) rfl ca37 (ref04_Example.con k  t10058 ht10058) rfl) <| WL.p rfl rfl rfl (.k .nil) (q_build (is := [0]) (xs := [.const (.int .i64 0)]) (L := [EqA (.int .i64 0), EqA (.int .i64 0)]) rfl rfl z23 pl23 rfl rfl (.cons (CellsOf.one rfl) .nil) rfl) <| WL.p rfl rfl rfl (.k (.k .nil)) (q_build (is := [0, 1]) (xs := [.const (.int .i64 1), .const (.int .i64 4)]) (L := [EqA (.int .i64 1), EqA (.int .i64 4)]) rfl rfl z23 pl23 rfl rfl (.cons (CellsOf.one rfl) (.cons (CellsOf.one rfl) .nil)) rfl) <| WL.p rfl rfl rfl (.k (.s 7 rfl (.s 8 rfl .nil))) (q_build (is := [0, 1, 2]) (xs := [.const (.int .i64 1), .tmp 7, .tmp 8]) (L := [EqA (.int .i64 1), EqA (.int .i64 0), EqA (.int .i64 0), EqA (.int .i64 1), EqA (.int .i64 4)]) rfl rfl z86 pl86 rfl rfl (.cons (CellsOf.one rfl) (.cons (CellsOf.agg _) (.cons (CellsOf.agg _) .nil))) rfl) ?_
 obtain ⟨t10059, ht10059, h⟩ := bind_s h
 refine WL.p rfl rfl rfl (.s 9 rfl .nil) (q_call (f := 38) (A := AggA [SlcA kInt t10059.fGraph.fNodes, SlcA kEdge t10059.fGraph.fEdges, SlcA kSlot t10059.fSlots, EqA (.int .i64 t10059.fVars), SlcA kTest t10059.fTests]) (xs := [.tmp 9]) («as» := [AggA [EqA (.int .i64 1), EqA (.int .i64 0), EqA (.int .i64 0), EqA (.int .i64 1), EqA (.int .i64 4)]]) rfl ca38 (law21_two.con k (Test.mk 1 (Term.mk 0 0) (Term.mk 1 4)) t10059 ht10059) rfl) ?_
 obtain ⟨t10060, ht10060, h⟩ := bind_s h
 refine WL.p rfl rfl rfl .nil (q_call (f := 39) (A := AggA [SlcA kInt t10060.fGraph.fNodes, SlcA kEdge t10060.fGraph.fEdges, SlcA (kSl kInt) t10060.fValues]) (xs := []) («as» := []) rfl ca39 (law21_bank.con k  t10060 ht10060) rfl) ?_
 obtain ⟨t10061, ht10061, h⟩ := bind_s h
 refine WL.p rfl rfl rfl (.s 6 rfl (.s 10 rfl (.s 11 rfl (.k .nil)))) (q_call (f := 29) (A := TupA [SlcA kMatch t10061.1, EqA (.int .i64 t10061.2)]) (xs := [.tmp 6, .tmp 10, .tmp 11, .const (.bool true)]) («as» := [AggA [SlcA kNodeType t10058.fNodes, SlcA kEdgeType t10058.fEdges], AggA [SlcA kInt t10059.fGraph.fNodes, SlcA kEdge t10059.fGraph.fEdges, SlcA kSlot t10059.fSlots, EqA (.int .i64 t10059.fVars), SlcA kTest t10059.fTests], AggA [SlcA kInt t10060.fGraph.fNodes, SlcA kEdge t10060.fGraph.fEdges, SlcA (kSl kInt) t10060.fValues], EqA (.bool true)]) rfl ca29 (attribute_Matches.con k t10058 t10059 t10060 true t10061 ht10061) rfl) <| WL.p rfl rfl rfl (.s 12 rfl .nil) (q_move rfl) <| WL.p rfl rfl rfl (.s 5 rfl .nil) (q_extract rfl rfl) <| WL.p rfl rfl rfl (.s 5 rfl .nil) (q_extract rfl rfl) <| WL.p rfl rfl rfl (.s 13 rfl .nil) (q_assign rfl) <| WL.p rfl rfl rfl (.s 14 rfl .nil) (q_assign rfl) <| WL.nil <| QN.weaken (env' := [(2, _), (1, _)]) (.one rfl (.one rfl (.nil _))) <| QN.then_ <| W.seq <| W.region ?_
 obtain ⟨t10062, ht10062, h⟩ := bind_s h
 refine WL.p rfl rfl rfl .nil (q_call (f := 37) (A := AggA [SlcA kNodeType t10062.fNodes, SlcA kEdgeType t10062.fEdges]) (xs := []) («as» := []) rfl ca37 (ref04_Example.con k  t10062 ht10062) rfl) <| WL.p rfl rfl rfl (.k (.k .nil)) (q_build (is := [0, 1]) (xs := [.const (.int .i64 (-1)), .const (.int .i64 2000)]) (L := [EqA (.int .i64 (-1)), EqA (.int .i64 2000)]) rfl rfl z23 pl23 rfl rfl (.cons (CellsOf.one rfl) (.cons (CellsOf.one rfl) .nil)) rfl) <| WL.p rfl rfl rfl (.k .nil) (q_build (is := [0]) (xs := [.const (.int .i64 0)]) (L := [EqA (.int .i64 0), EqA (.int .i64 0)]) rfl rfl z23 pl23 rfl rfl (.cons (CellsOf.one rfl) .nil) rfl) <| WL.p rfl rfl rfl (.k (.s 17 rfl (.s 18 rfl .nil))) (q_build (is := [0, 1, 2]) (xs := [.const (.int .i64 1), .tmp 17, .tmp 18]) (L := [EqA (.int .i64 1), EqA (.int .i64 (-1)), EqA (.int .i64 2000), EqA (.int .i64 0), EqA (.int .i64 0)]) rfl rfl z86 pl86 rfl rfl (.cons (CellsOf.one rfl) (.cons (CellsOf.agg _) (.cons (CellsOf.agg _) .nil))) rfl) ?_
 obtain ⟨t10063, ht10063, h⟩ := bind_s h
 refine WL.p rfl rfl rfl (.s 19 rfl .nil) (q_call (f := 38) (A := AggA [SlcA kInt t10063.fGraph.fNodes, SlcA kEdge t10063.fGraph.fEdges, SlcA kSlot t10063.fSlots, EqA (.int .i64 t10063.fVars), SlcA kTest t10063.fTests]) (xs := [.tmp 19]) («as» := [AggA [EqA (.int .i64 1), EqA (.int .i64 (-1)), EqA (.int .i64 2000), EqA (.int .i64 0), EqA (.int .i64 0)]]) rfl ca38 (law21_two.con k (Test.mk 1 (Term.mk (-1) 2000) (Term.mk 0 0)) t10063 ht10063) rfl) ?_
 obtain ⟨t10064, ht10064, h⟩ := bind_s h
 refine WL.p rfl rfl rfl (.s 16 rfl (.s 20 rfl .nil)) (q_call (f := 15) (A := TupA [SlcA kUse t10064.1, EqA (.int .i64 t10064.2)]) (xs := [.tmp 16, .tmp 20]) («as» := [AggA [SlcA kNodeType t10062.fNodes, SlcA kEdgeType t10062.fEdges], AggA [SlcA kInt t10063.fGraph.fNodes, SlcA kEdge t10063.fGraph.fEdges, SlcA kSlot t10063.fSlots, EqA (.int .i64 t10063.fVars), SlcA kTest t10063.fTests]]) rfl ca15 (attribute_Contradiction.con k t10062 t10063 t10064 ht10064) rfl) <| WL.p rfl rfl rfl (.s 21 rfl .nil) (q_move rfl) <| WL.p rfl rfl rfl (.s 15 rfl .nil) (q_extract rfl rfl) <| WL.p rfl rfl rfl (.s 15 rfl .nil) (q_extract rfl rfl) <| WL.p rfl rfl rfl (.s 22 rfl .nil) (q_assign rfl) <| WL.p rfl rfl rfl (.s 23 rfl .nil) (q_assign rfl) <| WL.nil <| QN.weaken (env' := [(4, _), (3, _), (2, _), (1, _)]) (.one rfl (.one rfl (.one rfl (.one rfl (.nil _))))) <| QN.then_ <| W.seq ?_
 refine W.jn1 (Γ := Unit) (fun (_ : Unit) (x0 : Bool) => [(0, EqA (.bool x0))]) (fun (_ : Unit) (_ : Bool) => []) h (fun _ x0 h => ?_) (fun j10070 Kj10070 h => ?_)
 ·refine QN.then_ <| W.ret ?_
  cases h
  exact QR.f1 rfl rfl (.t rfl) (.id _)
 ·refine W.region <| WL.p rfl rfl rfl (.s 2 rfl .nil) (q_move rfl) <| WL.p rfl rfl rfl (.s 24 rfl (.k .nil)) (q_int rfl rfl) <| WL.p rfl rfl rfl (.s 25 rfl .nil) (q_move rfl) ?_
  rcases bif_s h with ⟨hb10071, h⟩ | ⟨hb10071, h⟩
  ·refine WL.q (Wanted.on rfl rfl rfl hb10071) rfl rfl (.s 1 rfl .nil) (q_move rfl).o <| WL.q (Wanted.on rfl rfl rfl hb10071) rfl rfl (.k (.k .nil)) (q_lit (kd := kInt) (ps := [(0, .const (.int .i64 2)), (1, .const (.int .i64 1))]) (xs := [.const (.int .i64 2), .const (.int .i64 1)]) («as» := [EqA (.int .i64 2), EqA (.int .i64 1)]) (ys := [2, 1]) rfl rfl el26 rfl gr3 rfl rfl rfl (.cons (CellsOf.one rfl) (.cons (CellsOf.one rfl) .nil))).o <| WL.q (Wanted.on rfl rfl rfl hb10071) rfl rfl (.s 28 rfl .nil) (q_build (is := [0]) (xs := [.tmp 28]) (L := [SlcA kInt [2, 1], EqA (.slice none 0 0)]) rfl rfl z64 pl64 rfl rfl (.cons (CellsOf.one rfl) .nil) rfl).o <| WL.q (Wanted.on rfl rfl rfl hb10071) rfl rfl (.k (.k .nil)) (q_lit (kd := kInt) (ps := [(0, .const (.int .i64 5)), (1, .const (.int .i64 10))]) (xs := [.const (.int .i64 5), .const (.int .i64 10)]) («as» := [EqA (.int .i64 5), EqA (.int .i64 10)]) (ys := [5, 10]) rfl rfl el26 rfl gr3 rfl rfl rfl (.cons (CellsOf.one rfl) (.cons (CellsOf.one rfl) .nil))).o <| WL.q (Wanted.on rfl rfl rfl hb10071) rfl rfl (.s 29 rfl (.s 30 rfl .nil)) (q_build (is := [0, 1]) (xs := [.tmp 29, .tmp 30]) (L := [SlcA kInt [2, 1], EqA (.slice none 0 0), SlcA kInt [5, 10]]) rfl rfl z76 pl76 rfl rfl (.cons (CellsOf.agg _) (.cons (CellsOf.one rfl) .nil)) rfl).o <| WL.q (Wanted.on rfl rfl rfl hb10071) rfl rfl (.s 31 rfl .nil) (QS.args (q_lit (kd := kMatch) (ps := [(0, .tmp 31)]) (xs := [.tmp 31]) («as» := [AggA [SlcA kInt [2, 1], SlcA kInt [], SlcA kInt [5, 10]]]) (ys := [(Match.mk (Morphism.mk [2, 1] []) [5, 10])]) rfl rfl el71 rfl gr76 rfl rfl rfl (.cons (CellsOf.agg _) .nil)) (.cons (Imp.agg (.cons (Imp.id _) (.cons (Imp.nil kInt) (.cons (Imp.id _) .nil)))) .nil)).o ?_
   obtain ⟨t10072, ht10072, h⟩ := bind_s h
   refine WL.q (Wanted.on rfl rfl rfl hb10071) rfl rfl (.s 27 rfl (.s 32 rfl .nil)) (q_call (f := 31) (A := EqA (.bool t10072)) (xs := [.tmp 27, .tmp 32]) («as» := [SlcA kMatch t10061.1, SlcA kMatch ([(Match.mk (Morphism.mk [2, 1] []) [5, 10])])]) rfl ca31 (ref21_SameMatches.con k t10061.1 ([(Match.mk (Morphism.mk [2, 1] []) [5, 10])]) t10072 ht10072) rfl).o <| WL.p rfl rfl rfl (.s 26 rfl (.s 33 rfl .nil)) (q_pickT rfl hb10071) <| WL.p rfl rfl rfl (.s 34 rfl .nil) (q_move rfl) ?_
   rcases bif_s h with ⟨hb10073, h⟩ | ⟨hb10073, h⟩
   ·refine WL.q (Wanted.on rfl rfl rfl hb10073) rfl rfl (.s 4 rfl .nil) (q_move rfl).o <| WL.q (Wanted.on rfl rfl rfl hb10073) rfl rfl (.s 36 rfl (.k .nil)) (q_int rfl rfl).o <| WL.p rfl rfl rfl (.s 35 rfl (.s 37 rfl .nil)) (q_pickT rfl hb10073) <| WL.p rfl rfl rfl (.s 38 rfl .nil) (q_move rfl) ?_
    rcases bif_s h with ⟨hb10074, h⟩ | ⟨hb10074, h⟩
    ·refine WL.q (Wanted.on rfl rfl rfl hb10074) rfl rfl (.s 3 rfl .nil) (q_move rfl).o <| WL.q (Wanted.on rfl rfl rfl hb10074) rfl rfl (.s 40 rfl .nil) (q_len rfl elS45).o <| WL.q (Wanted.on rfl rfl rfl hb10074) rfl rfl (.s 41 rfl (.k .nil)) (q_int rfl rfl).o <| WL.p rfl rfl rfl (.s 39 rfl (.s 42 rfl .nil)) (q_pickT rfl hb10074) <| WL.p rfl rfl rfl (.s 43 rfl .nil) (q_assign rfl) <| WL.nil ?_
     exact QN.weaken (.one rfl (.nil _)) (Kj10070 () ((t10064.1.length : Int) == 2) h)
    ·refine WL.skip (Unwanted.on rfl rfl rfl hb10074) rfl rfl <| WL.skip (Unwanted.on rfl rfl rfl hb10074) rfl rfl <| WL.skip (Unwanted.on rfl rfl rfl hb10074) rfl rfl <| WL.p rfl rfl rfl (.s 39 rfl (.k .nil)) (q_pickF rfl hb10074) <| WL.p rfl rfl rfl (.s 43 rfl .nil) (q_assign rfl) <| WL.nil ?_
     exact QN.weaken (.one rfl (.nil _)) (Kj10070 () false h)
   ·refine WL.skip (Unwanted.on rfl rfl rfl hb10073) rfl rfl <| WL.skip (Unwanted.on rfl rfl rfl hb10073) rfl rfl <| WL.p rfl rfl rfl (.s 35 rfl (.k .nil)) (q_pickF rfl hb10073) <| WL.p rfl rfl rfl (.s 38 rfl .nil) (q_move rfl) <| WL.skip (Unwanted.on rfl rfl rfl rfl) rfl rfl <| WL.skip (Unwanted.on rfl rfl rfl rfl) rfl rfl <| WL.skip (Unwanted.on rfl rfl rfl rfl) rfl rfl <| WL.p rfl rfl rfl (.s 39 rfl (.k .nil)) (q_pickF rfl rfl) <| WL.p rfl rfl rfl (.s 43 rfl .nil) (q_assign rfl) <| WL.nil ?_
    exact QN.weaken (.one rfl (.nil _)) (Kj10070 () false h)
  ·refine WL.skip (Unwanted.on rfl rfl rfl hb10071) rfl rfl <| WL.skip (Unwanted.on rfl rfl rfl hb10071) rfl rfl <| WL.skip (Unwanted.on rfl rfl rfl hb10071) rfl rfl <| WL.skip (Unwanted.on rfl rfl rfl hb10071) rfl rfl <| WL.skip (Unwanted.on rfl rfl rfl hb10071) rfl rfl <| WL.skip (Unwanted.on rfl rfl rfl hb10071) rfl rfl <| WL.skip (Unwanted.on rfl rfl rfl hb10071) rfl rfl <| WL.p rfl rfl rfl (.s 26 rfl (.k .nil)) (q_pickF rfl hb10071) <| WL.p rfl rfl rfl (.s 34 rfl .nil) (q_move rfl) <| WL.skip (Unwanted.on rfl rfl rfl rfl) rfl rfl <| WL.skip (Unwanted.on rfl rfl rfl rfl) rfl rfl <| WL.p rfl rfl rfl (.s 35 rfl (.k .nil)) (q_pickF rfl rfl) <| WL.p rfl rfl rfl (.s 38 rfl .nil) (q_move rfl) ?_
   refine WL.skip (Unwanted.on rfl rfl rfl rfl) rfl rfl <| WL.skip (Unwanted.on rfl rfl rfl rfl) rfl rfl <| WL.skip (Unwanted.on rfl rfl rfl rfl) rfl rfl <| WL.p rfl rfl rfl (.s 39 rfl (.k .nil)) (q_pickF rfl rfl) <| WL.p rfl rfl rfl (.s 43 rfl .nil) (q_assign rfl) <| WL.nil ?_
   exact QN.weaken (.one rfl (.nil _)) (Kj10070 () false h)
end Go.Proofs.YtcgdfjpeboiioaaGreat
