/- The Go functions compute the pure ones. (Printed by gen.py.) -/
import Derived.Test.YtelpgjfojhcjcaaGreatC9
namespace Go.Proofs.YtelpgjfojhcjcaaGreat
open Go Go.Abs
attribute [local irreducible] Tryz.prog
theorem ref17_open.con (k : Nat) (a0 : Graph) (r : Morphism) (h : ref17_open k a0 = some r) : Con Tryz.prog 44 [] [AggA [SlcA kInt a0.fNodes, SlcA kEdge a0.fEdges]] (RA (AggA [SlcA kInt r.fNodes, SlcA kInt r.fEdges])) := by
 unfold ref17_open at h
 refine Con.of (N := 38) Tryz.func44 rfl rfl rfl fun w0_ fg_ => W.seq <| W.region <| WL.p rfl rfl rfl (.s 0 rfl .nil) (q_box rfl (CellsOf.agg _)) <| WL.w [] rfl (Wanted.plain rfl) rfl rfl .nil (w_alloc rfl z33 (l := [EqA (.slice none 0 0), EqA (.slice none 0 0)]) rfl) ?_
 rintro _ _ ⟨b6937, rfl, rfl⟩
 refine WL.nil <| QN.then_ <| W.seq ?_
 refine W.jn0 (Γ := (Value × Value)) (fun (g6948 : (Value × Value)) => [(2, EqA (.pointer (some ⟨b6937, 0, none⟩))), (3, PtrA [HdA g6948.1, HdA g6948.2])]) (fun (g6948 : (Value × Value)) => [BoxE b6937 [EqA (.slice none 0 0), EqA (.slice none 0 0)], SlE 3 g6948.1 kInt (List.replicate ((a0.fNodes.length : Int) : Int).toNat (0 : Int)), SlE 3 g6948.2 kInt (List.replicate ((a0.fEdges.length : Int) : Int).toNat (0 : Int))]) h (fun g6948 h => ?_) (fun j6953 Kj6953 h => ?_)
 ·refine QN.then_ <| W.seq <| W.seq <| W.region <| WL.p rfl rfl rfl (.k .nil) (q_assign rfl) <| WL.nil <| QN.then_ <| W.block ?_
  refine W.loop2 (Γ := Unit) (fun (_ : Unit) (_ : (List Int)) (x4 : Int) => [(2, EqA (.pointer (some ⟨b6937, 0, none⟩))), (3, PtrA [HdA g6948.1, HdA g6948.2]), (4, EqA (.int .i64 x4))]) (fun (_ : Unit) (x3_0 : (List Int)) (_ : Int) => [BoxE b6937 [EqA (.slice none 0 0), EqA (.slice none 0 0)], SlE 3 g6948.1 kInt x3_0, SlE 3 g6948.2 kInt (List.replicate ((a0.fEdges.length : Int) : Int).toNat (0 : Int))]) h () (.one rfl (.one rfl (.one rfl (.nil _)))) rfl (fun rec0 K0 next0 _ x3_0 x4 h => ?_)
  unfold ref17_open.b0 at h
  refine W.seq <| W.seq <| W.region <| WL.p rfl rfl rfl (.s 4 rfl .nil) (q_move rfl) <| WL.p rfl rfl rfl (.s 3 rfl .nil) (q_field rfl fo33_0 rfl) <| WL.p rfl rfl rfl (.s 16 rfl .nil) (q_load rfl sh26) <| WL.q (Wanted.plain rfl) rfl rfl (.s 17 rfl .nil) (q_lenO rfl elS26 (i := 1) rfl) <| WL.p rfl rfl rfl (.s 15 rfl (.s 18 rfl .nil)) (q_int rfl rfl) <| WL.nil <| QN.then_ ?_
  refine W.condP h rfl (fun hb6978 h => ?_) (fun hb6978 h => ?_)
  ·refine W.skip <| QN.then_ <| W.seq <| W.block <| W.region <| WL.p rfl rfl rfl (.s 3 rfl .nil) (q_field rfl fo33_0 rfl) <| WL.p rfl rfl rfl (.s 22 rfl .nil) (q_load rfl sh26) <| WL.p rfl rfl rfl (.s 4 rfl .nil) (q_move rfl) ?_
   obtain ⟨c6979, h⟩ := ite_n h
   refine WL.q (Wanted.plain rfl) rfl rfl (.s 23 rfl (.s 24 rfl .nil)) (q_indexO rfl el26 (j := 1) rfl c6979.1 c6979.2) <| WL.w0 [1] rfl (Wanted.plain rfl) rfl (.s 25 rfl (.k .nil)) (w_storeEl (kd := kInt) (z := (-1)) rfl sh3 (CellsOf.one rfl) rfl rfl rfl c6979.1 c6979.2 rfl rfl) ?_
   rintro _ _ ⟨rfl, rfl⟩
   refine WL.nil <| QN.block <| QN.weaken (env' := [(4, _), (3, _), (2, _)]) (.one rfl (.one rfl (.one rfl (.nil _)))) <| QN.then_ <| W.region <| WL.p rfl rfl rfl (.s 4 rfl .nil) (q_move rfl) ?_
   obtain ⟨c6980, h⟩ := ite_n h
   refine WL.p rfl rfl rfl (.s 20 rfl (.k .nil)) (q_addR rfl c6980) <| WL.p rfl rfl rfl (.s 21 rfl .nil) (q_assign rfl) <| WL.nil <| QN.order [1, 0, 0] rfl ?_
   exact next0 () (x3_0.set (x4 : Int).toNat (-1)) (x4 + 1) _ h (.one rfl (.one rfl (.one rfl (.nil _))))
  ·refine W.exit <| QX.then_ <| QX.then_ <| QX.here <| QN.then_ <| W.seq <| W.seq <| W.region <| WL.p rfl rfl rfl (.k .nil) (q_assign rfl) <| WL.nil <| QN.then_ <| W.block ?_
   refine W.loop2 (Γ := Unit) (fun (_ : Unit) (_ : (List Int)) (x5 : Int) => [(2, EqA (.pointer (some ⟨b6937, 0, none⟩))), (3, PtrA [HdA g6948.1, HdA g6948.2]), (5, EqA (.int .i64 x5))]) (fun (_ : Unit) (x3_1 : (List Int)) (_ : Int) => [BoxE b6937 [EqA (.slice none 0 0), EqA (.slice none 0 0)], SlE 3 g6948.1 kInt x3_0, SlE 3 g6948.2 kInt x3_1]) h () (.one rfl (.one rfl (.one rfl (.nil _)))) rfl (fun rec1 K1 next1 _ x3_1 x5 h => ?_)
   unfold ref17_open.b1 at h
   refine W.seq <| W.seq <| W.region <| WL.p rfl rfl rfl (.s 5 rfl .nil) (q_move rfl) <| WL.p rfl rfl rfl (.s 3 rfl .nil) (q_field rfl fo33_1 rfl) <| WL.p rfl rfl rfl (.s 27 rfl .nil) (q_load rfl sh26) <| WL.q (Wanted.plain rfl) rfl rfl (.s 28 rfl .nil) (q_lenO rfl elS26 (i := 2) rfl) <| WL.p rfl rfl rfl (.s 26 rfl (.s 29 rfl .nil)) (q_int rfl rfl) <| WL.nil <| QN.then_ ?_
   refine W.condP h rfl (fun hb6987 h => ?_) (fun hb6987 h => ?_)
   ·refine W.skip <| QN.then_ <| W.seq <| W.block <| W.region <| WL.p rfl rfl rfl (.s 3 rfl .nil) (q_field rfl fo33_1 rfl) <| WL.p rfl rfl rfl (.s 33 rfl .nil) (q_load rfl sh26) <| WL.p rfl rfl rfl (.s 5 rfl .nil) (q_move rfl) ?_
    obtain ⟨c6988, h⟩ := ite_n h
    refine WL.q (Wanted.plain rfl) rfl rfl (.s 34 rfl (.s 35 rfl .nil)) (q_indexO rfl el26 (j := 2) rfl c6988.1 c6988.2) <| WL.w0 [2] rfl (Wanted.plain rfl) rfl (.s 36 rfl (.k .nil)) (w_storeEl (kd := kInt) (z := (-1)) rfl sh3 (CellsOf.one rfl) rfl rfl rfl c6988.1 c6988.2 rfl rfl) ?_
    rintro _ _ ⟨rfl, rfl⟩
    refine WL.nil <| QN.block <| QN.weaken (env' := [(5, _), (3, _), (2, _)]) (.one rfl (.one rfl (.one rfl (.nil _)))) <| QN.then_ <| W.region <| WL.p rfl rfl rfl (.s 5 rfl .nil) (q_move rfl) ?_
    obtain ⟨c6989, h⟩ := ite_n h
    refine WL.p rfl rfl rfl (.s 31 rfl (.k .nil)) (q_addR rfl c6989) <| WL.p rfl rfl rfl (.s 32 rfl .nil) (q_assign rfl) <| WL.nil <| QN.order [1, 1, 0] rfl ?_
    exact next1 () (x3_1.set (x5 : Int).toNat (-1)) (x5 + 1) _ h (.one rfl (.one rfl (.one rfl (.nil _))))
   ·refine W.exit <| QX.then_ <| QX.then_ <| QX.here <| QN.then_ <| W.seq <| W.region <| WL.p rfl rfl rfl (.s 3 rfl .nil) (q_loadS rfl sh33 (leB rfl) rfl) <| WL.w0 [0] rfl (Wanted.plain rfl) rfl (.s 2 rfl (.s 37 rfl .nil)) (w_store (L := [HdA g6948.1, HdA g6948.2]) rfl sh33 (CellsOf.agg _) rfl rfl (leB rfl) rfl) ?_
    rintro _ _ ⟨rfl, rfl⟩
    refine WL.nil <| QN.to (StTo.still [0] 2 rfl rfl) <| QN.weaken (env' := [(2, _)]) (.one rfl (.nil _)) <| QN.then_ <| W.ret ?_
    cases h
    exact QR.f1 rfl rfl (.ps rfl sh33 rfl) (.agg (.cons (.slc 0 rfl) (.cons (.slc 1 rfl) .nil)))
 ·refine W.drawKT [(0, false), (1, false), (2, false), (4, false), (5, false), (6, false)] [3, 7, 8, 9, 10] [3, 7, 8, 9] 5 [[], [0], [0, 1], [0, 1, 2], [], [4], [4, 5], [4, 5, 6], [0, 1, 2, 3, 4, 5, 6, 7], [], [0, 1, 2, 3, 4, 5, 6, 7, 8, 9]] mx (by kernel_rfl) <| DKT.cons rfl rfl (.p rfl (.s 1 rfl .nil) rfl (q_field rfl fo29_0 rfl)) <| DKT.cons rfl rfl (.p rfl (.s 6 rfl .nil) rfl (q_load rfl sh26)) <| DKT.cons rfl rfl (.p rfl (.s 7 rfl .nil) rfl (q_len rfl elS26)) ?_
  obtain ⟨c6990, h⟩ := ite_n h
  refine DKT.cons rfl rfl (.p rfl (.s 1 rfl .nil) rfl (q_field rfl fo29_1 rfl)) <| DKT.cons rfl rfl (.p rfl (.s 10 rfl .nil) rfl (q_load rfl sh27)) <| DKT.cons rfl rfl (.p rfl (.s 11 rfl .nil) rfl (q_len rfl elS27)) ?_
  obtain ⟨c6992, h⟩ := ite_n h
  refine DKT.nil <| CT.step ?_
  refine CTc.yes rfl ?_ ?_
  ·refine CStep1.w [] (fun _ => rfl) rfl rfl rfl rfl (.s 8 rfl (.s 8 rfl .nil)) rfl (w_make (kd := kInt) (z := (0 : Int)) rfl el26 rfl gr3 z3 rfl c6990.1 c6990.2) ?_
   rintro _ _ ⟨v6991, rfl, rfl⟩
   refine CT.list (l' := [7, 8, 9, 10]) rfl <| CT.step ?_
   refine CTc.yes rfl ?_ ?_
   ·refine CStep1.w [] (fun _ => rfl) rfl rfl rfl rfl (.s 12 rfl (.s 12 rfl .nil)) rfl (w_make (kd := kInt) (z := (0 : Int)) rfl el26 rfl gr3 z3 rfl c6992.1 c6992.2) ?_
    rintro _ _ ⟨v6993, rfl, rfl⟩
    refine CT.list (l' := [8, 9, 10]) rfl <| CT.step ?_
    refine CTc.yes rfl ?_ ?_
    ·refine CStep1.p rfl rfl rfl (.s 9 rfl (.s 13 rfl .nil)) rfl (q_build (is := [0, 1]) (xs := [.tmp 9, .tmp 13]) (L := [HdA v6991, HdA v6993]) rfl rfl z33 pl33 rfl rfl (.cons (CellsOf.one rfl) (.cons (CellsOf.one rfl) .nil)) rfl) <| CT.list (l' := [9, 10]) rfl <| CT.step ?_
     refine CTc.yes rfl ?_ ?_
     ·refine CStep1.w [] (fun _ => rfl) rfl rfl rfl rfl .nil rfl (w_alloc rfl z33 (l := [EqA (.slice none 0 0), EqA (.slice none 0 0)]) rfl) ?_
      rintro _ _ ⟨b6994, rfl, rfl⟩
      refine CT.list (l' := [10]) rfl <| CT.step ?_
      refine CTc.yes rfl ?_ ?_
      ·refine CStep1.w0 [0] (fun h => absurd h (by decide)) rfl rfl rfl (.s 3 rfl (.s 14 rfl .nil)) rfl (w_store (L := [HdA v6991, HdA v6993]) rfl sh33 (CellsOf.agg _) rfl rfl (leB rfl) rfl) ?_
       rintro _ _ ⟨rfl, rfl⟩
       refine CT.list (l' := []) rfl <| CT.nil <| QN.to (StTo.still [0] 3 rfl rfl) <| QN.order [2, 1, 0] rfl ?_
       exact QN.weaken (.one rfl (.one rfl (.nil _))) (Kj6953 (v6991, v6993) h)
      exact CTc.end
     refine CTc.no rfl ?_
     exact CTc.end
    refine CTc.yes rfl ?_ ?_
    ·refine CStep1.w [] (fun _ => rfl) rfl rfl rfl rfl .nil rfl (w_alloc rfl z33 (l := [EqA (.slice none 0 0), EqA (.slice none 0 0)]) rfl) ?_
     rintro _ _ ⟨b6994, rfl, rfl⟩
     refine CT.list (l' := [8, 10]) rfl <| CT.step ?_
     refine CTc.yes rfl ?_ ?_
     ·refine CStep1.p rfl rfl rfl (.s 9 rfl (.s 13 rfl .nil)) rfl (q_build (is := [0, 1]) (xs := [.tmp 9, .tmp 13]) (L := [HdA v6991, HdA v6993]) rfl rfl z33 pl33 rfl rfl (.cons (CellsOf.one rfl) (.cons (CellsOf.one rfl) .nil)) rfl) <| CT.list (l' := [10]) rfl <| CT.step ?_
      refine CTc.yes rfl ?_ ?_
      ·refine CStep1.w0 [0] (fun h => absurd h (by decide)) rfl rfl rfl (.s 3 rfl (.s 14 rfl .nil)) rfl (w_store (L := [HdA v6991, HdA v6993]) rfl sh33 (CellsOf.agg _) rfl rfl (leB rfl) rfl) ?_
       rintro _ _ ⟨rfl, rfl⟩
       refine CT.list (l' := []) rfl <| CT.nil <| QN.to (StTo.still [0] 3 rfl rfl) <| QN.order [2, 1, 0] rfl ?_
       exact QN.weaken (.one rfl (.one rfl (.nil _))) (Kj6953 (v6991, v6993) h)
      exact CTc.end
     refine CTc.no rfl ?_
     exact CTc.end
    refine CTc.no rfl ?_
    exact CTc.end
   refine CTc.no rfl ?_
   refine CTc.yes rfl ?_ ?_
   ·refine CStep1.w [] (fun _ => rfl) rfl rfl rfl rfl .nil rfl (w_alloc rfl z33 (l := [EqA (.slice none 0 0), EqA (.slice none 0 0)]) rfl) ?_
    rintro _ _ ⟨b6994, rfl, rfl⟩
    refine CT.list (l' := [7, 8, 10]) rfl <| CT.step ?_
    refine CTc.yes rfl ?_ ?_
    ·refine CStep1.w [] (fun _ => rfl) rfl rfl rfl rfl (.s 12 rfl (.s 12 rfl .nil)) rfl (w_make (kd := kInt) (z := (0 : Int)) rfl el26 rfl gr3 z3 rfl c6992.1 c6992.2) ?_
     rintro _ _ ⟨v6993, rfl, rfl⟩
     refine CT.list (l' := [8, 10]) rfl <| CT.step ?_
     refine CTc.yes rfl ?_ ?_
     ·refine CStep1.p rfl rfl rfl (.s 9 rfl (.s 13 rfl .nil)) rfl (q_build (is := [0, 1]) (xs := [.tmp 9, .tmp 13]) (L := [HdA v6991, HdA v6993]) rfl rfl z33 pl33 rfl rfl (.cons (CellsOf.one rfl) (.cons (CellsOf.one rfl) .nil)) rfl) <| CT.list (l' := [10]) rfl <| CT.step ?_
      refine CTc.yes rfl ?_ ?_
      ·refine CStep1.w0 [1] (fun h => absurd h (by decide)) rfl rfl rfl (.s 3 rfl (.s 14 rfl .nil)) rfl (w_store (L := [HdA v6991, HdA v6993]) rfl sh33 (CellsOf.agg _) rfl rfl (leB rfl) rfl) ?_
       rintro _ _ ⟨rfl, rfl⟩
       refine CT.list (l' := []) rfl <| CT.nil <| QN.to (StTo.still [0] 3 rfl rfl) <| QN.order [2, 1, 0] rfl ?_
       exact QN.weaken (.one rfl (.one rfl (.nil _))) (Kj6953 (v6991, v6993) h)
      exact CTc.end
     refine CTc.no rfl ?_
     exact CTc.end
    refine CTc.no rfl <| CTc.no rfl ?_
    exact CTc.end
   refine CTc.no rfl ?_
   exact CTc.end
  refine CTc.yes rfl ?_ ?_
  ·refine CStep1.w [] (fun _ => rfl) rfl rfl rfl rfl (.s 12 rfl (.s 12 rfl .nil)) rfl (w_make (kd := kInt) (z := (0 : Int)) rfl el26 rfl gr3 z3 rfl c6992.1 c6992.2) ?_
   rintro _ _ ⟨v6993, rfl, rfl⟩
   refine CT.list (l' := [3, 8, 9, 10]) rfl <| CT.step ?_
   refine CTc.yes rfl ?_ ?_
   ·refine CStep1.w [] (fun _ => rfl) rfl rfl rfl rfl (.s 8 rfl (.s 8 rfl .nil)) rfl (w_make (kd := kInt) (z := (0 : Int)) rfl el26 rfl gr3 z3 rfl c6990.1 c6990.2) ?_
    rintro _ _ ⟨v6991, rfl, rfl⟩
    refine CT.list (l' := [8, 9, 10]) rfl <| CT.step ?_
    refine CTc.yes rfl ?_ ?_
    ·refine CStep1.p rfl rfl rfl (.s 9 rfl (.s 13 rfl .nil)) rfl (q_build (is := [0, 1]) (xs := [.tmp 9, .tmp 13]) (L := [HdA v6991, HdA v6993]) rfl rfl z33 pl33 rfl rfl (.cons (CellsOf.one rfl) (.cons (CellsOf.one rfl) .nil)) rfl) <| CT.list (l' := [9, 10]) rfl <| CT.step ?_
     refine CTc.yes rfl ?_ ?_
     ·refine CStep1.w [] (fun _ => rfl) rfl rfl rfl rfl .nil rfl (w_alloc rfl z33 (l := [EqA (.slice none 0 0), EqA (.slice none 0 0)]) rfl) ?_
      rintro _ _ ⟨b6994, rfl, rfl⟩
      refine CT.list (l' := [10]) rfl <| CT.step ?_
      refine CTc.yes rfl ?_ ?_
      ·refine CStep1.w0 [0] (fun h => absurd h (by decide)) rfl rfl rfl (.s 3 rfl (.s 14 rfl .nil)) rfl (w_store (L := [HdA v6991, HdA v6993]) rfl sh33 (CellsOf.agg _) rfl rfl (leB rfl) rfl) ?_
       rintro _ _ ⟨rfl, rfl⟩
       refine CT.list (l' := []) rfl <| CT.nil <| QN.to (StTo.still [0] 3 rfl rfl) <| QN.order [2, 0, 0] rfl ?_
       exact QN.weaken (.one rfl (.one rfl (.nil _))) (Kj6953 (v6991, v6993) h)
      exact CTc.end
     refine CTc.no rfl ?_
     exact CTc.end
    refine CTc.yes rfl ?_ ?_
    ·refine CStep1.w [] (fun _ => rfl) rfl rfl rfl rfl .nil rfl (w_alloc rfl z33 (l := [EqA (.slice none 0 0), EqA (.slice none 0 0)]) rfl) ?_
     rintro _ _ ⟨b6994, rfl, rfl⟩
     refine CT.list (l' := [8, 10]) rfl <| CT.step ?_
     refine CTc.yes rfl ?_ ?_
     ·refine CStep1.p rfl rfl rfl (.s 9 rfl (.s 13 rfl .nil)) rfl (q_build (is := [0, 1]) (xs := [.tmp 9, .tmp 13]) (L := [HdA v6991, HdA v6993]) rfl rfl z33 pl33 rfl rfl (.cons (CellsOf.one rfl) (.cons (CellsOf.one rfl) .nil)) rfl) <| CT.list (l' := [10]) rfl <| CT.step ?_
      refine CTc.yes rfl ?_ ?_
      ·refine CStep1.w0 [0] (fun h => absurd h (by decide)) rfl rfl rfl (.s 3 rfl (.s 14 rfl .nil)) rfl (w_store (L := [HdA v6991, HdA v6993]) rfl sh33 (CellsOf.agg _) rfl rfl (leB rfl) rfl) ?_
       rintro _ _ ⟨rfl, rfl⟩
       refine CT.list (l' := []) rfl <| CT.nil <| QN.to (StTo.still [0] 3 rfl rfl) <| QN.order [2, 0, 0] rfl ?_
       exact QN.weaken (.one rfl (.one rfl (.nil _))) (Kj6953 (v6991, v6993) h)
      exact CTc.end
     refine CTc.no rfl ?_
     exact CTc.end
    refine CTc.no rfl ?_
    exact CTc.end
   refine CTc.no rfl ?_
   refine CTc.yes rfl ?_ ?_
   ·refine CStep1.w [] (fun _ => rfl) rfl rfl rfl rfl .nil rfl (w_alloc rfl z33 (l := [EqA (.slice none 0 0), EqA (.slice none 0 0)]) rfl) ?_
    rintro _ _ ⟨b6994, rfl, rfl⟩
    refine CT.list (l' := [3, 8, 10]) rfl <| CT.step ?_
    refine CTc.yes rfl ?_ ?_
    ·refine CStep1.w [] (fun _ => rfl) rfl rfl rfl rfl (.s 8 rfl (.s 8 rfl .nil)) rfl (w_make (kd := kInt) (z := (0 : Int)) rfl el26 rfl gr3 z3 rfl c6990.1 c6990.2) ?_
     rintro _ _ ⟨v6991, rfl, rfl⟩
     refine CT.list (l' := [8, 10]) rfl <| CT.step ?_
     refine CTc.yes rfl ?_ ?_
     ·refine CStep1.p rfl rfl rfl (.s 9 rfl (.s 13 rfl .nil)) rfl (q_build (is := [0, 1]) (xs := [.tmp 9, .tmp 13]) (L := [HdA v6991, HdA v6993]) rfl rfl z33 pl33 rfl rfl (.cons (CellsOf.one rfl) (.cons (CellsOf.one rfl) .nil)) rfl) <| CT.list (l' := [10]) rfl <| CT.step ?_
      refine CTc.yes rfl ?_ ?_
      ·refine CStep1.w0 [1] (fun h => absurd h (by decide)) rfl rfl rfl (.s 3 rfl (.s 14 rfl .nil)) rfl (w_store (L := [HdA v6991, HdA v6993]) rfl sh33 (CellsOf.agg _) rfl rfl (leB rfl) rfl) ?_
       rintro _ _ ⟨rfl, rfl⟩
       refine CT.list (l' := []) rfl <| CT.nil <| QN.to (StTo.still [0] 3 rfl rfl) <| QN.order [2, 0, 0] rfl ?_
       exact QN.weaken (.one rfl (.one rfl (.nil _))) (Kj6953 (v6991, v6993) h)
      exact CTc.end
     refine CTc.no rfl ?_
     exact CTc.end
    refine CTc.no rfl <| CTc.no rfl ?_
    exact CTc.end
   refine CTc.no rfl ?_
   exact CTc.end
  refine CTc.no rfl ?_
  refine CTc.yes rfl ?_ ?_
  ·refine CStep1.w [] (fun _ => rfl) rfl rfl rfl rfl .nil rfl (w_alloc rfl z33 (l := [EqA (.slice none 0 0), EqA (.slice none 0 0)]) rfl) ?_
   rintro _ _ ⟨b6994, rfl, rfl⟩
   refine CT.list (l' := [3, 7, 8, 10]) rfl <| CT.step ?_
   refine CTc.yes rfl ?_ ?_
   ·refine CStep1.w [] (fun _ => rfl) rfl rfl rfl rfl (.s 8 rfl (.s 8 rfl .nil)) rfl (w_make (kd := kInt) (z := (0 : Int)) rfl el26 rfl gr3 z3 rfl c6990.1 c6990.2) ?_
    rintro _ _ ⟨v6991, rfl, rfl⟩
    refine CT.list (l' := [7, 8, 10]) rfl <| CT.step ?_
    refine CTc.yes rfl ?_ ?_
    ·refine CStep1.w [] (fun _ => rfl) rfl rfl rfl rfl (.s 12 rfl (.s 12 rfl .nil)) rfl (w_make (kd := kInt) (z := (0 : Int)) rfl el26 rfl gr3 z3 rfl c6992.1 c6992.2) ?_
     rintro _ _ ⟨v6993, rfl, rfl⟩
     refine CT.list (l' := [8, 10]) rfl <| CT.step ?_
     refine CTc.yes rfl ?_ ?_
     ·refine CStep1.p rfl rfl rfl (.s 9 rfl (.s 13 rfl .nil)) rfl (q_build (is := [0, 1]) (xs := [.tmp 9, .tmp 13]) (L := [HdA v6991, HdA v6993]) rfl rfl z33 pl33 rfl rfl (.cons (CellsOf.one rfl) (.cons (CellsOf.one rfl) .nil)) rfl) <| CT.list (l' := [10]) rfl <| CT.step ?_
      refine CTc.yes rfl ?_ ?_
      ·refine CStep1.w0 [2] (fun h => absurd h (by decide)) rfl rfl rfl (.s 3 rfl (.s 14 rfl .nil)) rfl (w_store (L := [HdA v6991, HdA v6993]) rfl sh33 (CellsOf.agg _) rfl rfl (leB rfl) rfl) ?_
       rintro _ _ ⟨rfl, rfl⟩
       refine CT.list (l' := []) rfl <| CT.nil <| QN.to (StTo.still [0] 3 rfl rfl) <| QN.order [2, 1, 0] rfl ?_
       exact QN.weaken (.one rfl (.one rfl (.nil _))) (Kj6953 (v6991, v6993) h)
      exact CTc.end
     refine CTc.no rfl ?_
     exact CTc.end
    refine CTc.no rfl <| CTc.no rfl ?_
    exact CTc.end
   refine CTc.yes rfl ?_ ?_
   ·refine CStep1.w [] (fun _ => rfl) rfl rfl rfl rfl (.s 12 rfl (.s 12 rfl .nil)) rfl (w_make (kd := kInt) (z := (0 : Int)) rfl el26 rfl gr3 z3 rfl c6992.1 c6992.2) ?_
    rintro _ _ ⟨v6993, rfl, rfl⟩
    refine CT.list (l' := [3, 8, 10]) rfl <| CT.step ?_
    refine CTc.yes rfl ?_ ?_
    ·refine CStep1.w [] (fun _ => rfl) rfl rfl rfl rfl (.s 8 rfl (.s 8 rfl .nil)) rfl (w_make (kd := kInt) (z := (0 : Int)) rfl el26 rfl gr3 z3 rfl c6990.1 c6990.2) ?_
     rintro _ _ ⟨v6991, rfl, rfl⟩
     refine CT.list (l' := [8, 10]) rfl <| CT.step ?_
     refine CTc.yes rfl ?_ ?_
     ·refine CStep1.p rfl rfl rfl (.s 9 rfl (.s 13 rfl .nil)) rfl (q_build (is := [0, 1]) (xs := [.tmp 9, .tmp 13]) (L := [HdA v6991, HdA v6993]) rfl rfl z33 pl33 rfl rfl (.cons (CellsOf.one rfl) (.cons (CellsOf.one rfl) .nil)) rfl) <| CT.list (l' := [10]) rfl <| CT.step ?_
      refine CTc.yes rfl ?_ ?_
      ·refine CStep1.w0 [2] (fun h => absurd h (by decide)) rfl rfl rfl (.s 3 rfl (.s 14 rfl .nil)) rfl (w_store (L := [HdA v6991, HdA v6993]) rfl sh33 (CellsOf.agg _) rfl rfl (leB rfl) rfl) ?_
       rintro _ _ ⟨rfl, rfl⟩
       refine CT.list (l' := []) rfl <| CT.nil <| QN.to (StTo.still [0] 3 rfl rfl) <| QN.order [2, 0, 0] rfl ?_
       exact QN.weaken (.one rfl (.one rfl (.nil _))) (Kj6953 (v6991, v6993) h)
      exact CTc.end
     refine CTc.no rfl ?_
     exact CTc.end
    refine CTc.no rfl <| CTc.no rfl ?_
    exact CTc.end
   refine CTc.no rfl <| CTc.no rfl ?_
   exact CTc.end
  refine CTc.no rfl ?_
  exact CTc.end
theorem ref17_search_fits.con (k : Nat) (a0 : Search) (a1 : (List Int)) (r : Bool) (h : ref17_search_fits k a0 a1 = some r) : Con Tryz.prog 91 [] [PtrA [SlcA kNodeType a0.ft.fNodes, SlcA kEdgeType a0.ft.fEdges, SlcA kInt a0.fp.fNodes, SlcA kEdge a0.fp.fEdges, SlcA kInt a0.fg.fNodes, SlcA kEdge a0.fg.fEdges, SlcA kInt a0.fpartial.fNodes, SlcA kInt a0.fpartial.fEdges, EqA (.bool a0.finjective), EqA (.int .i64 a0.fmost), SlcA kMorphism a0.ffound], SlcA kInt a1] (RA (EqA (.bool r))) := by
 unfold ref17_search_fits at h
 refine Con.of (N := 88) Tryz.func91 rfl rfl rfl fun w0_ fg_ => W.seq <| W.region <| WL.p rfl rfl rfl (.k .nil) (q_assign rfl) <| WL.nil <| QN.then_ <| W.seq <| W.seq <| W.region <| WL.p rfl rfl rfl (.k .nil) (q_assign rfl) <| WL.nil <| QN.then_ <| W.block ?_
 refine W.loop1 (Γ := Unit) (fun (_ : Unit) (x5 : Int) => [(0, PtrA [SlcA kNodeType a0.ft.fNodes, SlcA kEdgeType a0.ft.fEdges, SlcA kInt a0.fp.fNodes, SlcA kEdge a0.fp.fEdges, SlcA kInt a0.fg.fNodes, SlcA kEdge a0.fg.fEdges, SlcA kInt a0.fpartial.fNodes, SlcA kInt a0.fpartial.fEdges, EqA (.bool a0.finjective), EqA (.int .i64 a0.fmost), SlcA kMorphism a0.ffound]), (1, SlcA kInt a1), (5, EqA (.int .i64 x5))]) (fun (_ : Unit) (_ : Int) => []) h () (.one rfl (.one rfl (.one rfl (.nil _)))) rfl (fun rec0 K0 next0 _ x5 h => ?_)
 unfold ref17_search_fits.b0 at h
 refine W.seq <| W.seq <| W.region <| WL.p rfl rfl rfl (.s 5 rfl .nil) (q_move rfl) <| WL.p rfl rfl rfl (.s 0 rfl .nil) (q_move rfl) <| WL.p rfl rfl rfl (.s 11 rfl .nil) (q_nilCheck rfl) <| WL.p rfl rfl rfl (.s 12 rfl .nil) (q_field rfl fo111_1 rfl) <| WL.p rfl rfl rfl (.s 13 rfl .nil) (q_field rfl fo29_1 rfl) <| WL.p rfl rfl rfl (.s 14 rfl .nil) (q_load rfl sh27) <| WL.p rfl rfl rfl (.s 15 rfl .nil) (q_len rfl elS27) <| WL.p rfl rfl rfl (.s 10 rfl (.s 16 rfl .nil)) (q_int rfl rfl) <| WL.nil <| QN.weaken (env' := [(17, _), (5, _), (1, _), (0, _)]) (.one rfl (.one rfl (.one rfl (.one rfl (.nil _))))) ?_
 refine QN.then_ ?_
 refine W.condP h rfl (fun hb7279 h => ?_) (fun hb7279 h => ?_)
 ·refine W.skip <| QN.then_ <| W.seq <| W.block <| W.seq <| W.region <| WL.p rfl rfl rfl (.s 0 rfl .nil) (q_move rfl) <| WL.p rfl rfl rfl (.s 20 rfl .nil) (q_nilCheck rfl) <| WL.p rfl rfl rfl (.s 21 rfl .nil) (q_field rfl fo111_1 rfl) <| WL.p rfl rfl rfl (.s 22 rfl .nil) (q_field rfl fo29_1 rfl) <| WL.p rfl rfl rfl (.s 23 rfl .nil) (q_load rfl sh27) <| WL.p rfl rfl rfl (.s 5 rfl .nil) (q_move rfl) ?_
  obtain ⟨c7349, h⟩ := ite_n h
  refine WL.p rfl rfl rfl (.s 24 rfl (.s 25 rfl .nil)) (q_index rfl el27 rfl c7349.1 c7349.2) <| WL.p rfl rfl rfl (.s 26 rfl .nil) (q_loadS rfl sh77 (leB rfl) rfl) <| WL.w [] rfl (Wanted.plain rfl) rfl rfl .nil (w_alloc rfl z77 (l := [EqA (.int .i64 0), EqA (.int .i64 0), EqA (.int .i64 0)]) rfl) ?_
  rintro _ _ ⟨b7350, rfl, rfl⟩
  refine WL.w0 [0] rfl (Wanted.plain rfl) rfl (.s 6 rfl (.s 27 rfl .nil)) (w_store (L := [EqA (.int .i64 ((rd a0.fp.fEdges x5).fType)), EqA (.int .i64 ((rd a0.fp.fEdges x5).fFrom)), EqA (.int .i64 ((rd a0.fp.fEdges x5).fTo))]) rfl sh77 (CellsOf.agg _) rfl rfl (leB rfl) rfl) ?_
  rintro _ _ ⟨rfl, rfl⟩
  refine WL.nil <| QN.to (StTo.still [0] 6 rfl rfl) <| QN.weaken (env' := [(6, _), (5, _), (1, _), (0, _)]) (.one rfl (.one rfl (.one rfl (.one rfl (.nil _))))) <| QN.then_ <| W.seq <| W.seq ?_
  refine W.jn1 (Γ := Unit) (fun (_ : Unit) (x39 : Bool) => [(0, PtrA [SlcA kNodeType a0.ft.fNodes, SlcA kEdgeType a0.ft.fEdges, SlcA kInt a0.fp.fNodes, SlcA kEdge a0.fp.fEdges, SlcA kInt a0.fg.fNodes, SlcA kEdge a0.fg.fEdges, SlcA kInt a0.fpartial.fNodes, SlcA kInt a0.fpartial.fEdges, EqA (.bool a0.finjective), EqA (.int .i64 a0.fmost), SlcA kMorphism a0.ffound]), (1, SlcA kInt a1), (5, EqA (.int .i64 x5)), (6, PtrA [EqA (.int .i64 ((rd a0.fp.fEdges x5).fType)), EqA (.int .i64 ((rd a0.fp.fEdges x5).fFrom)), EqA (.int .i64 ((rd a0.fp.fEdges x5).fTo))]), (39, EqA (.bool x39))]) (fun (_ : Unit) (_ : Bool) => []) h (fun _ x39 h => ?_) (fun j7353 Kj7353 h => ?_)
  ·refine QN.then_ ?_
   refine W.condP h rfl (fun hb7354 h => ?_) (fun hb7354 h => ?_)
   ·refine W.exit <| QX.then_ <| QX.here <| QN.then_ <| W.region <| WL.p rfl rfl rfl (.s 5 rfl .nil) (q_move rfl) ?_
    obtain ⟨c7355, h⟩ := ite_n h
    refine WL.p rfl rfl rfl (.s 18 rfl (.k .nil)) (q_addR rfl c7355) <| WL.p rfl rfl rfl (.s 19 rfl .nil) (q_assign rfl) <| WL.nil ?_
    exact next0 () (x5 + 1) _ h (.one rfl (.one rfl (.one rfl (.nil _))))
   ·refine W.skip <| QN.then_ <| W.seq <| W.region <| WL.p rfl rfl rfl (.k .nil) (q_assign rfl) <| WL.nil <| QN.then_ <| W.seq <| W.seq <| W.region <| WL.p rfl rfl rfl (.k .nil) (q_assign rfl) <| WL.nil <| QN.then_ ?_
    refine W.block ?_
    refine W.loop2 (Γ := Unit) (fun (_ : Unit) (x7 : Bool) (x8 : Int) => [(0, PtrA [SlcA kNodeType a0.ft.fNodes, SlcA kEdgeType a0.ft.fEdges, SlcA kInt a0.fp.fNodes, SlcA kEdge a0.fp.fEdges, SlcA kInt a0.fg.fNodes, SlcA kEdge a0.fg.fEdges, SlcA kInt a0.fpartial.fNodes, SlcA kInt a0.fpartial.fEdges, EqA (.bool a0.finjective), EqA (.int .i64 a0.fmost), SlcA kMorphism a0.ffound]), (1, SlcA kInt a1), (5, EqA (.int .i64 x5)), (6, PtrA [EqA (.int .i64 ((rd a0.fp.fEdges x5).fType)), EqA (.int .i64 ((rd a0.fp.fEdges x5).fFrom)), EqA (.int .i64 ((rd a0.fp.fEdges x5).fTo))]), (7, EqA (.bool x7)), (8, EqA (.int .i64 x8))]) (fun (_ : Unit) (_ : Bool) (_ : Int) => []) h () (.one rfl (.one rfl (.one rfl (.one rfl (.one rfl (.one rfl (.nil _))))))) rfl (fun rec1 K1 next1 _ x7 x8 h => ?_)
    unfold ref17_search_fits.b1 at h
    refine W.seq <| W.seq <| W.region <| WL.p rfl rfl rfl (.s 8 rfl .nil) (q_move rfl) <| WL.p rfl rfl rfl (.s 0 rfl .nil) (q_move rfl) <| WL.p rfl rfl rfl (.s 41 rfl .nil) (q_nilCheck rfl) <| WL.p rfl rfl rfl (.s 42 rfl .nil) (q_field rfl fo111_2 rfl) <| WL.p rfl rfl rfl (.s 43 rfl .nil) (q_field rfl fo29_1 rfl) <| WL.p rfl rfl rfl (.s 44 rfl .nil) (q_load rfl sh27) <| WL.p rfl rfl rfl (.s 45 rfl .nil) (q_len rfl elS27) <| WL.p rfl rfl rfl (.s 40 rfl (.s 46 rfl .nil)) (q_int rfl rfl) <| WL.nil <| QN.weaken (env' := [(47, _), (8, _), (7, _), (6, _), (5, _), (1, _), (0, _)]) (.one rfl (.one rfl (.one rfl (.one rfl (.one rfl (.one rfl (.one rfl (.nil _)))))))) ?_
    refine QN.then_ ?_
    refine W.condP h rfl (fun hb7397 h => ?_) (fun hb7397 h => ?_)
    ·refine W.skip <| QN.then_ <| W.seq <| W.block <| W.seq <| W.region <| WL.p rfl rfl rfl (.s 0 rfl .nil) (q_move rfl) <| WL.p rfl rfl rfl (.s 50 rfl .nil) (q_nilCheck rfl) <| WL.p rfl rfl rfl (.s 51 rfl .nil) (q_field rfl fo111_2 rfl) <| WL.p rfl rfl rfl (.s 52 rfl .nil) (q_field rfl fo29_1 rfl) <| WL.p rfl rfl rfl (.s 53 rfl .nil) (q_load rfl sh27) <| WL.p rfl rfl rfl (.s 8 rfl .nil) (q_move rfl) ?_
     obtain ⟨c7398, h⟩ := ite_n h
     refine WL.p rfl rfl rfl (.s 54 rfl (.s 55 rfl .nil)) (q_index rfl el27 rfl c7398.1 c7398.2) <| WL.p rfl rfl rfl (.s 56 rfl .nil) (q_loadS rfl sh77 (leB rfl) rfl) <| WL.w [] rfl (Wanted.plain rfl) rfl rfl .nil (w_alloc rfl z77 (l := [EqA (.int .i64 0), EqA (.int .i64 0), EqA (.int .i64 0)]) rfl) ?_
     rintro _ _ ⟨b7399, rfl, rfl⟩
     refine WL.w0 [0] rfl (Wanted.plain rfl) rfl (.s 9 rfl (.s 57 rfl .nil)) (w_store (L := [EqA (.int .i64 ((rd a0.fg.fEdges x8).fType)), EqA (.int .i64 ((rd a0.fg.fEdges x8).fFrom)), EqA (.int .i64 ((rd a0.fg.fEdges x8).fTo))]) rfl sh77 (CellsOf.agg _) rfl rfl (leB rfl) rfl) ?_
     rintro _ _ ⟨rfl, rfl⟩
     refine WL.nil <| QN.to (StTo.still [0] 9 rfl rfl) <| QN.weaken (env' := [(9, _), (8, _), (7, _), (6, _), (5, _), (1, _), (0, _)]) (.one rfl (.one rfl (.one rfl (.one rfl (.one rfl (.one rfl (.one rfl (.nil _)))))))) <| QN.then_ ?_
     refine W.jn1 (Γ := Unit) (fun (_ : Unit) (x7' : Bool) => [(0, PtrA [SlcA kNodeType a0.ft.fNodes, SlcA kEdgeType a0.ft.fEdges, SlcA kInt a0.fp.fNodes, SlcA kEdge a0.fp.fEdges, SlcA kInt a0.fg.fNodes, SlcA kEdge a0.fg.fEdges, SlcA kInt a0.fpartial.fNodes, SlcA kInt a0.fpartial.fEdges, EqA (.bool a0.finjective), EqA (.int .i64 a0.fmost), SlcA kMorphism a0.ffound]), (1, SlcA kInt a1), (5, EqA (.int .i64 x5)), (6, PtrA [EqA (.int .i64 ((rd a0.fp.fEdges x5).fType)), EqA (.int .i64 ((rd a0.fp.fEdges x5).fFrom)), EqA (.int .i64 ((rd a0.fp.fEdges x5).fTo))]), (8, EqA (.int .i64 x8)), (7, EqA (.bool x7'))]) (fun (_ : Unit) (_ : Bool) => []) h (fun _ x7' h => ?_) (fun j7411 Kj7411 h => ?_)
     ·refine QN.block <| QN.then_ <| W.region <| WL.p rfl rfl rfl (.s 8 rfl .nil) (q_move rfl) ?_
      obtain ⟨c7412, h⟩ := ite_n h
      refine WL.p rfl rfl rfl (.s 48 rfl (.k .nil)) (q_addR rfl c7412) <| WL.p rfl rfl rfl (.s 49 rfl .nil) (q_assign rfl) <| WL.nil ?_
      exact next1 () x7' (x8 + 1) _ h (.one rfl (.one rfl (.one rfl (.one rfl (.one rfl (.one rfl (.nil _)))))))
     ·refine W.drawK [(0, false), (1, false), (2, false), (3, false), (4, false), (5, false), (6, false), (7, false), (8, false), (9, false), (10, false), (11, false), (12, false), (13, false), (14, false), (15, false), (16, false), (17, false), (18, false), (19, false), (20, false), (21, false), (22, false), (23, false), (24, false), (25, false), (26, false), (27, false), (28, false)] [] [[], [0], [0, 1], [0, 1, 2], [0, 1], [0, 1, 4], [0, 1, 2, 3, 4, 5], [0, 1, 2, 3, 4, 5, 6], [0, 1, 2, 3, 4, 5, 6, 7], [0, 1, 2, 3, 4, 5, 6, 7, 8], [0, 1, 2, 3, 4, 5, 6, 7], [0, 1, 2, 3, 4, 5, 6, 7], [0, 1, 2, 3, 4, 5, 6, 7, 11], [0, 1, 2, 3, 4, 5, 6, 7, 10, 11, 12], [0, 1, 2, 3, 4, 5, 6, 7, 10, 11, 12, 13], [0, 1, 2, 3, 4, 5, 6, 7, 8, 9, 10, 11, 12, 13, 14], [0, 1, 2, 3, 4, 5, 6, 7, 8, 9, 10, 11, 12, 13, 14, 15], [0, 1, 2, 3, 4, 5, 6, 7, 8, 9, 10, 11, 12, 13, 14, 15, 16], [0, 1, 2, 3, 4, 5, 6, 7, 8, 9, 10, 11, 12, 13, 14, 15, 16, 17], [0, 1, 2, 3, 4, 5, 6, 7, 8, 9, 10, 11, 12, 13, 14, 15, 16, 17, 18], [0, 1, 2, 3, 4, 5, 6, 7, 8, 9, 10, 11, 12, 13, 14, 15, 16, 17], [0, 1, 2, 3, 4, 5, 6, 7, 8, 9, 10, 11, 12, 13, 14, 15, 16, 17], [0, 1, 2, 3, 4, 5, 6, 7, 8, 9, 10, 11, 12, 13, 14, 15, 16, 17, 21], [0, 1, 2, 3, 4, 5, 6, 7, 8, 9, 10, 11, 12, 13, 14, 15, 16, 17, 20, 21, 22], [0, 1, 2, 3, 4, 5, 6, 7, 8, 9, 10, 11, 12, 13, 14, 15, 16, 17, 20, 21, 22, 23], [0, 1, 2, 3, 4, 5, 6, 7, 8, 9, 10, 11, 12, 13, 14, 15, 16, 17, 18, 19, 20, 21, 22, 23, 24], [0, 1, 2, 3, 4, 5, 6, 7, 8, 9, 10, 11, 12, 13, 14, 15, 16, 17, 18, 19, 20, 21, 22, 23, 24, 25], [0, 1, 2, 3, 4, 5, 6, 7, 8, 9, 10, 11, 12, 13, 14, 15, 16, 17, 18, 19, 20, 21, 22, 23, 24, 25, 26], [0, 1, 2, 3, 4, 5, 6, 7, 8, 9, 10, 11, 12, 13, 14, 15, 16, 17, 18, 19, 20, 21, 22, 23, 24, 25, 26, 27]] mx (by kernel_rfl) <| DK.cons rfl rfl (.p rfl (.s 7 rfl .nil) rfl (q_move rfl)) <| DK.cons rfl rfl (.p rfl (.s 58 rfl .nil) rfl (q_move rfl)) ?_
      rcases bif_s h with ⟨hb7413, h⟩ | ⟨hb7413, h⟩
      ·refine DK.cons rfl rfl (.off rfl rfl rfl hb7413) <| DK.cons rfl rfl (.off rfl rfl rfl hb7413) <| DK.cons rfl rfl (.off rfl rfl rfl hb7413) <| DK.cons rfl rfl (.off rfl rfl rfl hb7413) <| DK.cons rfl rfl (.off rfl rfl rfl hb7413) <| DK.cons rfl rfl (.off rfl rfl rfl hb7413) <| DK.cons rfl rfl (.und rfl rfl rfl) <| DK.cons rfl rfl (.und rfl rfl rfl) <| DK.cons rfl rfl (.und rfl rfl rfl) <| DK.cons rfl rfl (.und rfl rfl rfl) <| DK.cons rfl rfl (.und rfl rfl rfl) <| DK.cons rfl rfl (.und rfl rfl rfl) <| DK.cons rfl rfl (.und rfl rfl rfl) ?_
       refine DK.cons rfl rfl (.und rfl rfl rfl) <| DK.cons rfl rfl (.off rfl rfl rfl hb7413) <| DK.cons rfl rfl (.off rfl rfl rfl hb7413) <| DK.cons rfl rfl (.und rfl rfl rfl) <| DK.cons rfl rfl (.und rfl rfl rfl) <| DK.cons rfl rfl (.und rfl rfl rfl) <| DK.cons rfl rfl (.und rfl rfl rfl) <| DK.cons rfl rfl (.und rfl rfl rfl) <| DK.cons rfl rfl (.und rfl rfl rfl) <| DK.cons rfl rfl (.und rfl rfl rfl) <| DK.cons rfl rfl (.und rfl rfl rfl) <| DK.cons rfl rfl (.off rfl rfl rfl hb7413) <| DK.cons rfl rfl (.p rfl (.s 59 rfl (.k .nil)) rfl (q_pickT rfl hb7413)) ?_
       refine DK.cons rfl rfl (.p rfl (.s 85 rfl .nil) rfl (q_assign rfl)) <| DK.nil <| CSteps.nil ?_
       exact QN.weaken (.one rfl (.one rfl (.one rfl (.one rfl (.one rfl (.one rfl (.nil _))))))) (Kj7411 () true h)
      ·refine DK.cons rfl rfl (.gp rfl rfl rfl hb7413 (.s 6 rfl .nil) rfl (q_field rfl fo77_0 rfl)) <| DK.cons rfl rfl (.gp rfl rfl rfl hb7413 (.s 60 rfl .nil) rfl (q_load rfl sh3)) <| DK.cons rfl rfl (.gp rfl rfl rfl hb7413 (.s 9 rfl .nil) rfl (q_field rfl fo77_0 rfl)) <| DK.cons rfl rfl (.gp rfl rfl rfl hb7413 (.s 62 rfl .nil) rfl (q_load rfl sh3)) <| DK.cons rfl rfl (.gp rfl rfl rfl hb7413 (.s 61 rfl (.s 63 rfl .nil)) rfl (q_int rfl rfl)) <| DK.cons rfl rfl (.gp rfl rfl rfl hb7413 (.s 64 rfl .nil) rfl (q_move rfl)) ?_
       rcases bif_s h with ⟨hb7414, h⟩ | ⟨hb7414, h⟩
       ·refine DK.cons rfl rfl (.gp rfl rfl rfl hb7414 (.s 9 rfl .nil) rfl (q_field rfl fo77_1 rfl)) <| DK.cons rfl rfl (.gp rfl rfl rfl hb7414 (.s 66 rfl .nil) rfl (q_load rfl sh3)) <| DK.cons rfl rfl (.gp rfl rfl rfl hb7414 (.s 1 rfl .nil) rfl (q_move rfl)) <| DK.cons rfl rfl (.gp rfl rfl rfl hb7414 (.s 6 rfl .nil) rfl (q_field rfl fo77_1 rfl)) <| DK.cons rfl rfl (.gp rfl rfl rfl hb7414 (.s 69 rfl .nil) rfl (q_load rfl sh3)) ?_
        obtain ⟨c7415, h⟩ := ite_n h
        refine DK.cons rfl rfl (.gp rfl rfl rfl hb7414 (.s 68 rfl (.s 70 rfl .nil)) rfl (q_index rfl el26 rfl c7415.1 c7415.2)) <| DK.cons rfl rfl (.gp rfl rfl rfl hb7414 (.s 71 rfl .nil) rfl (q_load rfl sh3)) <| DK.cons rfl rfl (.gp rfl rfl rfl hb7414 (.s 67 rfl (.s 72 rfl .nil)) rfl (q_int rfl rfl)) <| DK.cons rfl rfl (.gp rfl rfl rfl hb7413 (.s 65 rfl (.s 73 rfl .nil)) rfl (q_pickT rfl hb7414)) <| DK.cons rfl rfl (.gp rfl rfl rfl hb7413 (.s 74 rfl .nil) rfl (q_move rfl)) ?_
        rcases bif_s h with ⟨hb7416, h⟩ | ⟨hb7416, h⟩
        ·refine DK.cons rfl rfl (.gp rfl rfl rfl hb7416 (.s 9 rfl .nil) rfl (q_field rfl fo77_2 rfl)) <| DK.cons rfl rfl (.gp rfl rfl rfl hb7416 (.s 76 rfl .nil) rfl (q_load rfl sh3)) <| DK.cons rfl rfl (.gp rfl rfl rfl hb7416 (.s 1 rfl .nil) rfl (q_move rfl)) <| DK.cons rfl rfl (.gp rfl rfl rfl hb7416 (.s 6 rfl .nil) rfl (q_field rfl fo77_2 rfl)) <| DK.cons rfl rfl (.gp rfl rfl rfl hb7416 (.s 79 rfl .nil) rfl (q_load rfl sh3)) ?_
         obtain ⟨c7417, h⟩ := ite_n h
         refine DK.cons rfl rfl (.gp rfl rfl rfl hb7416 (.s 78 rfl (.s 80 rfl .nil)) rfl (q_index rfl el26 rfl c7417.1 c7417.2)) <| DK.cons rfl rfl (.gp rfl rfl rfl hb7416 (.s 81 rfl .nil) rfl (q_load rfl sh3)) <| DK.cons rfl rfl (.gp rfl rfl rfl hb7416 (.s 77 rfl (.s 82 rfl .nil)) rfl (q_int rfl rfl)) <| DK.cons rfl rfl (.gp rfl rfl rfl hb7413 (.s 75 rfl (.s 83 rfl .nil)) rfl (q_pickT rfl hb7416)) <| DK.cons rfl rfl (.p rfl (.s 59 rfl (.s 84 rfl .nil)) rfl (q_pickF rfl hb7413)) <| DK.cons rfl rfl (.p rfl (.s 85 rfl .nil) rfl (q_assign rfl)) <| DK.nil <| CSteps.nil ?_
         exact QN.weaken (.one rfl (.one rfl (.one rfl (.one rfl (.one rfl (.one rfl (.nil _))))))) (Kj7411 () ((rd a0.fg.fEdges x8).fTo == (rd a1 ((rd a0.fp.fEdges x5).fTo))) h)
        ·refine DK.cons rfl rfl (.off rfl rfl rfl hb7416) <| DK.cons rfl rfl (.off rfl rfl rfl hb7416) <| DK.cons rfl rfl (.off rfl rfl rfl hb7416) <| DK.cons rfl rfl (.off rfl rfl rfl hb7416) <| DK.cons rfl rfl (.off rfl rfl rfl hb7416) <| DK.cons rfl rfl (.off rfl rfl rfl hb7416) <| DK.cons rfl rfl (.off rfl rfl rfl hb7416) <| DK.cons rfl rfl (.off rfl rfl rfl hb7416) <| DK.cons rfl rfl (.gp rfl rfl rfl hb7413 (.s 75 rfl (.k .nil)) rfl (q_pickF rfl hb7416)) <| DK.cons rfl rfl (.p rfl (.s 59 rfl (.s 84 rfl .nil)) rfl (q_pickF rfl hb7413)) <| DK.cons rfl rfl (.p rfl (.s 85 rfl .nil) rfl (q_assign rfl)) <| DK.nil <| CSteps.nil ?_
         exact QN.weaken (.one rfl (.one rfl (.one rfl (.one rfl (.one rfl (.one rfl (.nil _))))))) (Kj7411 () false h)
       ·refine DK.cons rfl rfl (.off rfl rfl rfl hb7414) <| DK.cons rfl rfl (.off rfl rfl rfl hb7414) <| DK.cons rfl rfl (.off rfl rfl rfl hb7414) <| DK.cons rfl rfl (.off rfl rfl rfl hb7414) <| DK.cons rfl rfl (.off rfl rfl rfl hb7414) <| DK.cons rfl rfl (.off rfl rfl rfl hb7414) <| DK.cons rfl rfl (.off rfl rfl rfl hb7414) <| DK.cons rfl rfl (.off rfl rfl rfl hb7414) <| DK.cons rfl rfl (.gp rfl rfl rfl hb7413 (.s 65 rfl (.k .nil)) rfl (q_pickF rfl hb7414)) <| DK.cons rfl rfl (.gp rfl rfl rfl hb7413 (.s 74 rfl .nil) rfl (q_move rfl)) <| DK.cons rfl rfl (.off rfl rfl rfl rfl) <| DK.cons rfl rfl (.off rfl rfl rfl rfl) <| DK.cons rfl rfl (.off rfl rfl rfl rfl) ?_
        refine DK.cons rfl rfl (.off rfl rfl rfl rfl) <| DK.cons rfl rfl (.off rfl rfl rfl rfl) <| DK.cons rfl rfl (.off rfl rfl rfl rfl) <| DK.cons rfl rfl (.off rfl rfl rfl rfl) <| DK.cons rfl rfl (.off rfl rfl rfl rfl) <| DK.cons rfl rfl (.gp rfl rfl rfl hb7413 (.s 75 rfl (.k .nil)) rfl (q_pickF rfl rfl)) <| DK.cons rfl rfl (.p rfl (.s 59 rfl (.s 84 rfl .nil)) rfl (q_pickF rfl hb7413)) <| DK.cons rfl rfl (.p rfl (.s 85 rfl .nil) rfl (q_assign rfl)) <| DK.nil <| CSteps.nil ?_
        exact QN.weaken (.one rfl (.one rfl (.one rfl (.one rfl (.one rfl (.one rfl (.nil _))))))) (Kj7411 () false h)
    ·refine W.exit <| QX.then_ <| QX.then_ <| QX.here <| QN.then_ <| W.seq <| W.region <| WL.p rfl rfl rfl (.s 7 rfl .nil) (q_move rfl) <| WL.p rfl rfl rfl (.s 86 rfl .nil) (q_not rfl) <| WL.nil <| QN.then_ ?_
     refine W.condP h rfl (fun hb7418 h => ?_) (fun hb7418 h => ?_)
     ·refine W.seq <| W.region <| WL.p rfl rfl rfl (.k .nil) (q_assign rfl) <| WL.nil <| QN.weaken (env' := [(4, _)]) (.one rfl (.nil _)) <| QN.then_ <| W.ret <| QR.block <| QR.then_ <| QR.then_ <| QR.block <| QR.then_ ?_
      cases h
      exact QR.f1 rfl rfl (.t rfl) (.id _)
     ·refine W.skip <| QN.block <| QN.then_ <| W.region <| WL.p rfl rfl rfl (.s 5 rfl .nil) (q_move rfl) ?_
      obtain ⟨c7419, h⟩ := ite_n h
      refine WL.p rfl rfl rfl (.s 18 rfl (.k .nil)) (q_addR rfl c7419) <| WL.p rfl rfl rfl (.s 19 rfl .nil) (q_assign rfl) <| WL.nil ?_
      exact next0 () (x5 + 1) _ h (.one rfl (.one rfl (.one rfl (.nil _))))
  ·refine W.region <| WL.p rfl rfl rfl (.s 6 rfl .nil) (q_field rfl fo77_1 rfl) <| WL.p rfl rfl rfl (.s 28 rfl .nil) (q_load rfl sh3) <| WL.p rfl rfl rfl (.s 1 rfl .nil) (q_move rfl) <| WL.p rfl rfl rfl (.s 30 rfl .nil) (q_len rfl elS26) <| WL.p rfl rfl rfl (.s 29 rfl (.s 31 rfl .nil)) (q_int rfl rfl) <| WL.p rfl rfl rfl (.s 32 rfl .nil) (q_move rfl) ?_
   rcases bif_s h with ⟨hb7420, h⟩ | ⟨hb7420, h⟩
   ·refine WL.skip (Unwanted.on rfl rfl rfl hb7420) rfl rfl <| WL.skip (Unwanted.on rfl rfl rfl hb7420) rfl rfl <| WL.skip (Unwanted.on rfl rfl rfl hb7420) rfl rfl <| WL.skip (Unwanted.on rfl rfl rfl hb7420) rfl rfl <| WL.skip (Unwanted.on rfl rfl rfl hb7420) rfl rfl <| WL.p rfl rfl rfl (.s 33 rfl (.k .nil)) (q_pickT rfl hb7420) <| WL.nil ?_
    exact QN.weaken (.one rfl (.one rfl (.one rfl (.one rfl (.one rfl (.nil _)))))) (Kj7353 () true h)
   ·refine WL.q (Wanted.on rfl rfl rfl hb7420) rfl rfl (.s 6 rfl .nil) (q_field rfl fo77_2 rfl).o <| WL.q (Wanted.on rfl rfl rfl hb7420) rfl rfl (.s 34 rfl .nil) (q_load rfl sh3).o <| WL.q (Wanted.on rfl rfl rfl hb7420) rfl rfl (.s 1 rfl .nil) (q_move rfl).o <| WL.q (Wanted.on rfl rfl rfl hb7420) rfl rfl (.s 36 rfl .nil) (q_len rfl elS26).o <| WL.q (Wanted.on rfl rfl rfl hb7420) rfl rfl (.s 35 rfl (.s 37 rfl .nil)) (q_int rfl rfl).o <| WL.p rfl rfl rfl (.s 33 rfl (.s 38 rfl .nil)) (q_pickF rfl hb7420) <| WL.nil ?_
    exact QN.weaken (.one rfl (.one rfl (.one rfl (.one rfl (.one rfl (.nil _)))))) (Kj7353 () (decide ((rd a0.fp.fEdges x5).fTo ≥ (a1.length : Int))) h)
 ·refine W.exit <| QX.then_ <| QX.then_ <| QX.here <| QN.then_ <| W.seq <| W.region <| WL.p rfl rfl rfl (.k .nil) (q_assign rfl) <| WL.nil <| QN.then_ <| W.ret ?_
  cases h
  exact QR.f1 rfl rfl (.t rfl) (.id _)
theorem ref17_search_used.con (k : Nat) (a0 : Search) (a1 : (List Int)) (a2 : Int) (r : Bool) (h : ref17_search_used k a0 a1 a2 = some r) : Con Tryz.prog 93 [] [PtrA [SlcA kNodeType a0.ft.fNodes, SlcA kEdgeType a0.ft.fEdges, SlcA kInt a0.fp.fNodes, SlcA kEdge a0.fp.fEdges, SlcA kInt a0.fg.fNodes, SlcA kEdge a0.fg.fEdges, SlcA kInt a0.fpartial.fNodes, SlcA kInt a0.fpartial.fEdges, EqA (.bool a0.finjective), EqA (.int .i64 a0.fmost), SlcA kMorphism a0.ffound], SlcA kInt a1, EqA (.int .i64 a2)] (RA (EqA (.bool r))) := by
 unfold ref17_search_used at h
 refine Con.of (N := 26) Tryz.func93 rfl rfl rfl fun w0_ fg_ => W.seq <| W.region <| WL.p rfl rfl rfl (.k .nil) (q_assign rfl) <| WL.nil <| QN.then_ <| W.seq <| W.seq <| W.region <| WL.p rfl rfl rfl (.k .nil) (q_assign rfl) <| WL.nil <| QN.then_ <| W.block ?_
 refine W.loop1 (Γ := Unit) (fun (_ : Unit) (x7 : Int) => [(0, PtrA [SlcA kNodeType a0.ft.fNodes, SlcA kEdgeType a0.ft.fEdges, SlcA kInt a0.fp.fNodes, SlcA kEdge a0.fp.fEdges, SlcA kInt a0.fg.fNodes, SlcA kEdge a0.fg.fEdges, SlcA kInt a0.fpartial.fNodes, SlcA kInt a0.fpartial.fEdges, EqA (.bool a0.finjective), EqA (.int .i64 a0.fmost), SlcA kMorphism a0.ffound]), (1, SlcA kInt a1), (2, EqA (.int .i64 a2)), (7, EqA (.int .i64 x7))]) (fun (_ : Unit) (_ : Int) => []) h () (.one rfl (.one rfl (.one rfl (.one rfl (.nil _))))) rfl (fun rec0 K0 next0 _ x7 h => ?_)
 unfold ref17_search_used.b0 at h
 refine W.seq <| W.seq ?_
 refine W.jn1 (Γ := Unit) (fun (_ : Unit) (x17 : Bool) => [(0, PtrA [SlcA kNodeType a0.ft.fNodes, SlcA kEdgeType a0.ft.fEdges, SlcA kInt a0.fp.fNodes, SlcA kEdge a0.fp.fEdges, SlcA kInt a0.fg.fNodes, SlcA kEdge a0.fg.fEdges, SlcA kInt a0.fpartial.fNodes, SlcA kInt a0.fpartial.fEdges, EqA (.bool a0.finjective), EqA (.int .i64 a0.fmost), SlcA kMorphism a0.ffound]), (1, SlcA kInt a1), (2, EqA (.int .i64 a2)), (7, EqA (.int .i64 x7)), (17, EqA (.bool x17))]) (fun (_ : Unit) (_ : Bool) => []) h (fun _ x17 h => ?_) (fun j7439 Kj7439 h => ?_)
 ·refine QN.then_ ?_
  refine W.condP h rfl (fun hb7440 h => ?_) (fun hb7440 h => ?_)
  ·refine W.skip <| QN.then_ <| W.seq <| W.block <| W.seq <| W.region <| WL.p rfl rfl rfl (.s 1 rfl .nil) (q_move rfl) <| WL.p rfl rfl rfl (.s 7 rfl .nil) (q_move rfl) ?_
   obtain ⟨c7441, h⟩ := ite_n h
   refine WL.p rfl rfl rfl (.s 20 rfl (.s 21 rfl .nil)) (q_index rfl el26 rfl c7441.1 c7441.2) <| WL.p rfl rfl rfl (.s 22 rfl .nil) (q_load rfl sh3) <| WL.p rfl rfl rfl (.s 2 rfl .nil) (q_move rfl) <| WL.p rfl rfl rfl (.s 23 rfl (.s 24 rfl .nil)) (q_int rfl rfl) <| WL.nil <| QN.then_ ?_
   refine W.condP h rfl (fun hb7442 h => ?_) (fun hb7442 h => ?_)
   ·refine W.seq <| W.region <| WL.p rfl rfl rfl (.k .nil) (q_assign rfl) <| WL.nil <| QN.weaken (env' := [(6, _)]) (.one rfl (.nil _)) <| QN.then_ <| W.ret <| QR.block <| QR.then_ <| QR.then_ <| QR.block <| QR.then_ ?_
    cases h
    exact QR.f1 rfl rfl (.t rfl) (.id _)
   ·refine W.skip <| QN.block <| QN.weaken (env' := [(7, _), (2, _), (1, _), (0, _)]) (.one rfl (.one rfl (.one rfl (.one rfl (.nil _))))) <| QN.then_ <| W.region <| WL.p rfl rfl rfl (.s 7 rfl .nil) (q_move rfl) ?_
    obtain ⟨c7443, h⟩ := ite_n h
    refine WL.p rfl rfl rfl (.s 18 rfl (.k .nil)) (q_addR rfl c7443) <| WL.p rfl rfl rfl (.s 19 rfl .nil) (q_assign rfl) <| WL.nil ?_
    exact next0 () (x7 + 1) _ h (.one rfl (.one rfl (.one rfl (.one rfl (.nil _)))))
  ·refine W.exit <| QX.then_ <| QX.then_ <| QX.here <| QN.then_ <| W.seq <| W.region <| WL.p rfl rfl rfl (.k .nil) (q_assign rfl) <| WL.nil <| QN.then_ <| W.ret ?_
   cases h
   exact QR.f1 rfl rfl (.t rfl) (.id _)
 ·refine W.region <| WL.p rfl rfl rfl (.s 7 rfl .nil) (q_move rfl) <| WL.p rfl rfl rfl (.s 1 rfl .nil) (q_move rfl) <| WL.p rfl rfl rfl (.s 9 rfl .nil) (q_len rfl elS26) <| WL.p rfl rfl rfl (.s 8 rfl (.s 10 rfl .nil)) (q_int rfl rfl) <| WL.p rfl rfl rfl (.s 11 rfl .nil) (q_move rfl) ?_
  rcases bif_s h with ⟨hb7444, h⟩ | ⟨hb7444, h⟩
  ·refine WL.q (Wanted.on rfl rfl rfl hb7444) rfl rfl (.s 0 rfl .nil) (q_move rfl).o <| WL.q (Wanted.on rfl rfl rfl hb7444) rfl rfl (.s 13 rfl .nil) (q_nilCheck rfl).o <| WL.q (Wanted.on rfl rfl rfl hb7444) rfl rfl (.s 14 rfl .nil) (q_field rfl fo111_4 rfl).o <| WL.q (Wanted.on rfl rfl rfl hb7444) rfl rfl (.s 15 rfl .nil) (q_load rfl sh4).o <| WL.p rfl rfl rfl (.s 12 rfl (.s 16 rfl .nil)) (q_pickT rfl hb7444) <| WL.nil ?_
   exact QN.weaken (.one rfl (.one rfl (.one rfl (.one rfl (.one rfl (.nil _)))))) (Kj7439 () a0.finjective h)
  ·refine WL.skip (Unwanted.on rfl rfl rfl hb7444) rfl rfl <| WL.skip (Unwanted.on rfl rfl rfl hb7444) rfl rfl <| WL.skip (Unwanted.on rfl rfl rfl hb7444) rfl rfl <| WL.skip (Unwanted.on rfl rfl rfl hb7444) rfl rfl <| WL.p rfl rfl rfl (.s 12 rfl (.k .nil)) (q_pickF rfl hb7444) <| WL.nil ?_
   exact QN.weaken (.one rfl (.one rfl (.one rfl (.one rfl (.one rfl (.nil _)))))) (Kj7439 () false h)
theorem ref17_search_edges.con : ∀ (k : Nat) (b : Nat) (w0 : Value) (a0 : Search) (a1 : (List Int)) (a2 : (List Int)) (r : (List Morphism)) (_ : ref17_search_edges k a0 a1 a2 = some r), Con Tryz.prog 92 [BoxE b [SlcA kNodeType a0.ft.fNodes, SlcA kEdgeType a0.ft.fEdges, SlcA kInt a0.fp.fNodes, SlcA kEdge a0.fp.fEdges, SlcA kInt a0.fg.fNodes, SlcA kEdge a0.fg.fEdges, SlcA kInt a0.fpartial.fNodes, SlcA kInt a0.fpartial.fEdges, EqA (.bool a0.finjective), EqA (.int .i64 a0.fmost), HdA w0], SlE 33 w0 kMorphism a0.ffound] [EqA (.pointer (some ⟨b, 0, none⟩)), SlcA kInt a1, SlcA kInt a2] (fun O' A => ∃ u0, O' = [BoxE b [SlcA kNodeType a0.ft.fNodes, SlcA kEdgeType a0.ft.fEdges, SlcA kInt a0.fp.fNodes, SlcA kEdge a0.fp.fEdges, SlcA kInt a0.fg.fNodes, SlcA kEdge a0.fg.fEdges, SlcA kInt a0.fpartial.fNodes, SlcA kInt a0.fpartial.fEdges, EqA (.bool a0.finjective), EqA (.int .i64 a0.fmost), HdA u0], SlE 33 u0 kMorphism r] ∧ A = TupA []) := by
 intro k
 induction k with
 | zero => intro b w0 a0 a1 a2 r h; cases h
 | succ k ih =>
  intro b w0 a0 a1 a2 r h
  change ref17_search_edges.main (ref17_search_edges k) k a0 a1 a2 = some r at h
  unfold ref17_search_edges.main at h
  refine Con.of (N := 135) Tryz.func92 rfl rfl rfl fun w0_ fg_ => W.seq <| W.seq <| W.drawK [(0, false), (1, false), (2, false), (3, true), (4, true), (5, false), (6, false), (7, false), (8, true), (9, false)] [] [[], [0], [0, 1], [0, 1, 2], [0, 1, 2, 3], [], [5], [5, 6], [5, 6, 7], [0, 1, 2, 3, 4, 5, 6, 7, 8]] mx (by kernel_rfl) <| DK.cons rfl rfl (.p rfl (.s 0 rfl .nil) rfl (q_move rfl)) <| DK.cons rfl rfl (.p rfl (.s 10 rfl .nil) rfl (q_nilCheckP rfl)) <| DK.cons rfl rfl (.p rfl (.s 11 rfl .nil) rfl (q_fieldP rfl fo111_6)) <| DK.cons rfl rfl (.o rfl (.s 12 rfl .nil) rfl (q_loadB rfl sh46 (i := 0) rfl rfl)) <| DK.cons rfl rfl (.o rfl (.s 13 rfl .nil) rfl (q_lenO rfl elS46 (i := 1) rfl)) <| DK.cons rfl rfl (.p rfl (.s 0 rfl .nil) rfl (q_move rfl)) <| DK.cons rfl rfl (.p rfl (.s 15 rfl .nil) rfl (q_nilCheckP rfl)) <| DK.cons rfl rfl (.p rfl (.s 16 rfl .nil) rfl (q_fieldP rfl fo111_5)) <| DK.cons rfl rfl (.o rfl (.s 17 rfl .nil) rfl (q_loadB rfl sh3 (i := 0) rfl rfl)) ?_
  refine DK.cons rfl rfl (.p rfl (.s 14 rfl (.s 18 rfl .nil)) rfl (q_int rfl rfl)) <| DK.nil <| CSteps.nil <| QN.weaken (env' := [(19, _), (2, _), (1, _), (0, _)]) (.one rfl (.one rfl (.one rfl (.one rfl (.nil _))))) <| QN.then_ ?_
  refine W.condP h rfl (fun hb7501 h => ?_) (fun hb7501 h => ?_)
  ·refine W.ret <| QR.then_ ?_
   cases h
   exact QR.f0 rfl ⟨w0, rfl, rfl⟩
  ·refine W.skip <| QN.then_ <| W.seq <| W.region <| WL.p rfl rfl rfl (.s 2 rfl .nil) (q_move rfl) <| WL.p rfl rfl rfl (.s 20 rfl .nil) (q_len rfl elS26) <| WL.p rfl rfl rfl (.s 21 rfl .nil) (q_assign rfl) <| WL.nil <| QN.then_ <| W.seq <| W.seq <| W.region <| WL.p rfl rfl rfl (.s 6 rfl .nil) (q_move rfl) ?_
   refine WL.p rfl rfl rfl (.s 0 rfl .nil) (q_move rfl) <| WL.p rfl rfl rfl (.s 23 rfl .nil) (q_nilCheckP rfl) <| WL.p rfl rfl rfl (.s 24 rfl .nil) (q_fieldP rfl fo111_1) <| WL.p rfl rfl rfl (.s 25 rfl .nil) (q_fieldP rfl fo29_1) <| WL.q (Wanted.plain rfl) rfl rfl (.s 26 rfl .nil) (q_loadB rfl sh27 (i := 0) rfl rfl) <| WL.p rfl rfl rfl (.s 27 rfl .nil) (q_len rfl elS27) <| WL.p rfl rfl rfl (.s 22 rfl (.s 28 rfl .nil)) (q_int rfl rfl) <| WL.nil <| QN.weaken (env' := [(29, _), (6, _), (2, _), (1, _), (0, _)]) (.one rfl (.one rfl (.one rfl (.one rfl (.one rfl (.nil _)))))) <| QN.then_ ?_
   refine W.condP h rfl (fun hb7502 h => ?_) (fun hb7502 h => ?_)
   ·refine W.seq <| W.drawK [(0, false), (1, false), (2, false), (3, false), (4, true), (5, false), (6, false), (7, false), (8, false), (9, false), (10, false), (11, false), (12, false)] [13, 14, 15, 16] [[], [], [1], [1, 2], [1, 2, 3], [], [], [5, 6], [], [], [5, 6, 7, 8, 9], [5, 6, 7, 8, 9, 10], [5, 6, 7, 8, 9, 10, 11], [1, 2, 3, 4, 5, 6, 7, 8, 9, 10, 11, 12], [0, 1, 2, 3, 4, 5, 6, 7, 8, 9, 10, 11, 12, 13], [0, 1, 2, 3, 4, 5, 6, 7, 8, 9, 10, 11, 12, 13, 14], [0, 1, 2, 3, 4, 5, 6, 7, 8, 9, 10, 11, 12, 13, 14, 15]] mx (by kernel_rfl) <| DK.cons rfl rfl (.p rfl (.s 0 rfl .nil) rfl (q_move rfl)) <| DK.cons rfl rfl (.p rfl (.s 0 rfl .nil) rfl (q_move rfl)) <| DK.cons rfl rfl (.p rfl (.s 31 rfl .nil) rfl (q_nilCheckP rfl)) <| DK.cons rfl rfl (.p rfl (.s 32 rfl .nil) rfl (q_fieldP rfl fo111_6)) <| DK.cons rfl rfl (.o rfl (.s 33 rfl .nil) rfl (q_loadB rfl sh46 (i := 0) rfl rfl)) <| DK.cons rfl rfl (.p rfl .nil rfl (q_lit0 rfl el26 gr3)) <| DK.cons rfl rfl (.p rfl (.s 1 rfl .nil) rfl (q_move rfl)) ?_
    obtain ⟨c7511, h⟩ := ite_n h
    refine DK.cons rfl rfl (.p rfl (.s 35 rfl (.s 36 rfl .nil)) rfl (QS.of_new (w_appendZ (kd := kInt) rfl el26 rfl gr3 c7511))) <| DK.cons rfl rfl (.p rfl .nil rfl (q_lit0 rfl el26 gr3)) <| DK.cons rfl rfl (.p rfl (.s 2 rfl .nil) rfl (q_move rfl)) ?_
    obtain ⟨c7512, h⟩ := ite_n h
    refine DK.cons rfl rfl (.p rfl (.s 38 rfl (.s 39 rfl .nil)) rfl (QS.of_new (w_appendZ (kd := kInt) rfl el26 rfl gr3 c7512))) <| DK.cons rfl rfl (.p rfl (.s 37 rfl (.s 40 rfl .nil)) rfl (q_build (is := [0, 1]) (xs := [.tmp 37, .tmp 40]) (L := [SlcA kInt a1, SlcA kInt a2]) rfl rfl z33 pl33 rfl rfl (.cons (CellsOf.one rfl) (.cons (CellsOf.one rfl) .nil)) rfl)) <| DK.cons rfl rfl (.p rfl (.s 41 rfl .nil) rfl (q_lit (kd := kMorphism) (ps := [(0, .tmp 41)]) (xs := [.tmp 41]) («as» := [AggA [SlcA kInt a1, SlcA kInt a2]]) (ys := [(Morphism.mk a1 a2)]) rfl rfl el46 rfl gr33 rfl rfl rfl (.cons (CellsOf.agg _) .nil))) ?_
    obtain ⟨c7513, h⟩ := ite_n h
    refine DK.nil <| CSteps.w [1] rfl rfl rfl rfl (.s 34 rfl (.s 42 rfl .nil)) rfl (w_append (kd := kMorphism) rfl el46 rfl gr33 c7513) ?_
    rintro _ _ ⟨v7514, rfl, rfl⟩
    refine CSteps.p rfl rfl rfl (.s 30 rfl .nil) rfl (q_nilCheckP rfl) <| CSteps.p rfl rfl rfl (.s 44 rfl .nil) rfl (q_fieldP rfl fo111_6) <| CSteps.w0 [1] rfl rfl rfl (.s 45 rfl (.s 43 rfl .nil)) rfl (w_store (L := [SlcA kNodeType a0.ft.fNodes, SlcA kEdgeType a0.ft.fEdges, SlcA kInt a0.fp.fNodes, SlcA kEdge a0.fp.fEdges, SlcA kInt a0.fg.fNodes, SlcA kEdge a0.fg.fEdges, SlcA kInt a0.fpartial.fNodes, SlcA kInt a0.fpartial.fEdges, EqA (.bool a0.finjective), EqA (.int .i64 a0.fmost), HdA v7514]) rfl sh46 (CellsOf.one rfl) rfl rfl (leB rfl) rfl) ?_
    rintro _ _ ⟨rfl, rfl⟩
    refine CSteps.nil <| QN.weaken (env' := [(0, _)]) (.one rfl (.nil _)) <| QN.then_ <| W.ret <| QR.then_ ?_
    cases h
    exact QR.f0 rfl ⟨v7514, rfl, rfl⟩
   ·refine W.skip <| QN.then_ <| W.seq <| W.region <| WL.p rfl rfl rfl (.s 0 rfl .nil) (q_move rfl) <| WL.p rfl rfl rfl (.s 46 rfl .nil) (q_nilCheckP rfl) <| WL.p rfl rfl rfl (.s 47 rfl .nil) (q_fieldP rfl fo111_1) <| WL.p rfl rfl rfl (.s 48 rfl .nil) (q_fieldP rfl fo29_1) <| WL.q (Wanted.plain rfl) rfl rfl (.s 49 rfl .nil) (q_loadB rfl sh27 (i := 0) rfl rfl) <| WL.p rfl rfl rfl (.s 6 rfl .nil) (q_move rfl) ?_
    obtain ⟨c7515, h⟩ := ite_n h
    refine WL.p rfl rfl rfl (.s 50 rfl (.s 51 rfl .nil)) (q_index rfl el27 rfl c7515.1 c7515.2) <| WL.p rfl rfl rfl (.s 52 rfl .nil) (q_loadS rfl sh77 (leB rfl) rfl) <| WL.w [] rfl (Wanted.plain rfl) rfl rfl .nil (w_alloc rfl z77 (l := [EqA (.int .i64 0), EqA (.int .i64 0), EqA (.int .i64 0)]) rfl) ?_
    rintro _ _ ⟨b7516, rfl, rfl⟩
    refine WL.w0 [0] rfl (Wanted.plain rfl) rfl (.s 7 rfl (.s 53 rfl .nil)) (w_store (L := [EqA (.int .i64 ((rd a0.fp.fEdges (a2.length : Int)).fType)), EqA (.int .i64 ((rd a0.fp.fEdges (a2.length : Int)).fFrom)), EqA (.int .i64 ((rd a0.fp.fEdges (a2.length : Int)).fTo))]) rfl sh77 (CellsOf.agg _) rfl rfl (leB rfl) rfl) ?_
    rintro _ _ ⟨rfl, rfl⟩
    refine WL.nil <| QN.to (StTo.still [0] 7 rfl rfl) <| QN.weaken (env' := [(7, _), (6, _), (2, _), (1, _), (0, _)]) (.one rfl (.one rfl (.one rfl (.one rfl (.one rfl (.nil _)))))) <| QN.then_ <| W.seq <| W.region <| WL.p rfl rfl rfl (.k .nil) (q_assign rfl) <| WL.nil <| QN.then_ <| W.block ?_
    refine W.loop2 (Γ := Value) (fun (_ : Value) (_ : (List Morphism)) (x8 : Int) => [(0, EqA (.pointer (some ⟨b, 0, none⟩))), (1, SlcA kInt a1), (2, SlcA kInt a2), (6, EqA (.int .i64 (a2.length : Int))), (7, PtrA [EqA (.int .i64 ((rd a0.fp.fEdges (a2.length : Int)).fType)), EqA (.int .i64 ((rd a0.fp.fEdges (a2.length : Int)).fFrom)), EqA (.int .i64 ((rd a0.fp.fEdges (a2.length : Int)).fTo))]), (8, EqA (.int .i64 x8))]) (fun (g0 : Value) (y10 : (List Morphism)) (_ : Int) => [BoxE b [SlcA kNodeType a0.ft.fNodes, SlcA kEdgeType a0.ft.fEdges, SlcA kInt a0.fp.fNodes, SlcA kEdge a0.fp.fEdges, SlcA kInt a0.fg.fNodes, SlcA kEdge a0.fg.fEdges, SlcA kInt a0.fpartial.fNodes, SlcA kInt a0.fpartial.fEdges, EqA (.bool a0.finjective), EqA (.int .i64 a0.fmost), HdA g0], SlE 33 g0 kMorphism y10]) h w0 (.one rfl (.one rfl (.one rfl (.one rfl (.one rfl (.one rfl (.nil _))))))) rfl (fun rec0 K0 next0 g0 y10 x8 h => ?_)
    unfold ref17_search_edges.b0 at h
    refine W.seq <| W.seq <| W.region <| WL.p rfl rfl rfl (.s 8 rfl .nil) (q_move rfl) <| WL.p rfl rfl rfl (.s 0 rfl .nil) (q_move rfl) <| WL.p rfl rfl rfl (.s 55 rfl .nil) (q_nilCheckP rfl) <| WL.p rfl rfl rfl (.s 56 rfl .nil) (q_fieldP rfl fo111_2) <| WL.p rfl rfl rfl (.s 57 rfl .nil) (q_fieldP rfl fo29_1) <| WL.q (Wanted.plain rfl) rfl rfl (.s 58 rfl .nil) (q_loadB rfl sh27 (i := 0) rfl rfl) <| WL.p rfl rfl rfl (.s 59 rfl .nil) (q_len rfl elS27) <| WL.p rfl rfl rfl (.s 54 rfl (.s 60 rfl .nil)) (q_int rfl rfl) <| WL.nil <| QN.weaken (env' := [(61, _), (8, _), (7, _), (6, _), (2, _), (1, _), (0, _)]) (.one rfl (.one rfl (.one rfl (.one rfl (.one rfl (.one rfl (.one rfl (.nil _)))))))) ?_
    refine QN.then_ ?_
    refine W.condP h rfl (fun hb7763 h => ?_) (fun hb7763 h => ?_)
    ·refine W.skip <| QN.then_ <| W.seq <| W.block <| W.seq <| W.region <| WL.p rfl rfl rfl (.s 0 rfl .nil) (q_move rfl) <| WL.p rfl rfl rfl (.s 64 rfl .nil) (q_nilCheckP rfl) <| WL.p rfl rfl rfl (.s 65 rfl .nil) (q_fieldP rfl fo111_2) <| WL.p rfl rfl rfl (.s 66 rfl .nil) (q_fieldP rfl fo29_1) <| WL.q (Wanted.plain rfl) rfl rfl (.s 67 rfl .nil) (q_loadB rfl sh27 (i := 0) rfl rfl) <| WL.p rfl rfl rfl (.s 8 rfl .nil) (q_move rfl) ?_
     obtain ⟨c7823, h⟩ := ite_n h
     refine WL.p rfl rfl rfl (.s 68 rfl (.s 69 rfl .nil)) (q_index rfl el27 rfl c7823.1 c7823.2) <| WL.p rfl rfl rfl (.s 70 rfl .nil) (q_loadS rfl sh77 (leB rfl) rfl) <| WL.w [] rfl (Wanted.plain rfl) rfl rfl .nil (w_alloc rfl z77 (l := [EqA (.int .i64 0), EqA (.int .i64 0), EqA (.int .i64 0)]) rfl) ?_
     rintro _ _ ⟨b7824, rfl, rfl⟩
     refine WL.w0 [0] rfl (Wanted.plain rfl) rfl (.s 9 rfl (.s 71 rfl .nil)) (w_store (L := [EqA (.int .i64 ((rd a0.fg.fEdges x8).fType)), EqA (.int .i64 ((rd a0.fg.fEdges x8).fFrom)), EqA (.int .i64 ((rd a0.fg.fEdges x8).fTo))]) rfl sh77 (CellsOf.agg _) rfl rfl (leB rfl) rfl) ?_
     rintro _ _ ⟨rfl, rfl⟩
     refine WL.nil <| QN.to (StTo.still [0] 9 rfl rfl) <| QN.weaken (env' := [(9, _), (8, _), (7, _), (6, _), (2, _), (1, _), (0, _)]) (.one rfl (.one rfl (.one rfl (.one rfl (.one rfl (.one rfl (.one rfl (.nil _)))))))) <| QN.then_ <| W.seq <| W.seq ?_
     refine W.jn1 (Γ := Unit) (fun (_ : Unit) (x125 : Bool) => [(0, EqA (.pointer (some ⟨b, 0, none⟩))), (1, SlcA kInt a1), (2, SlcA kInt a2), (6, EqA (.int .i64 (a2.length : Int))), (7, PtrA [EqA (.int .i64 ((rd a0.fp.fEdges (a2.length : Int)).fType)), EqA (.int .i64 ((rd a0.fp.fEdges (a2.length : Int)).fFrom)), EqA (.int .i64 ((rd a0.fp.fEdges (a2.length : Int)).fTo))]), (8, EqA (.int .i64 x8)), (125, EqA (.bool x125))]) (fun (_ : Unit) (_ : Bool) => [BoxE b [SlcA kNodeType a0.ft.fNodes, SlcA kEdgeType a0.ft.fEdges, SlcA kInt a0.fp.fNodes, SlcA kEdge a0.fp.fEdges, SlcA kInt a0.fg.fNodes, SlcA kEdge a0.fg.fEdges, SlcA kInt a0.fpartial.fNodes, SlcA kInt a0.fpartial.fEdges, EqA (.bool a0.finjective), EqA (.int .i64 a0.fmost), HdA g0], SlE 33 g0 kMorphism y10]) h (fun _ x125 h => ?_) (fun j7858 Kj7858 h => ?_)
     ·refine QN.then_ ?_
      refine W.condP h rfl (fun hb7859 h => ?_) (fun hb7859 h => ?_)
      ·refine W.exit <| QX.then_ <| QX.here <| QN.then_ <| W.region <| WL.p rfl rfl rfl (.s 8 rfl .nil) (q_move rfl) ?_
       obtain ⟨c7860, h⟩ := ite_n h
       refine WL.p rfl rfl rfl (.s 62 rfl (.k .nil)) (q_addR rfl c7860) <| WL.p rfl rfl rfl (.s 63 rfl .nil) (q_assign rfl) <| WL.nil ?_
       exact next0 g0 y10 (x8 + 1) _ h (.one rfl (.one rfl (.one rfl (.one rfl (.one rfl (.one rfl (.nil _)))))))
      ·refine W.skip <| QN.then_ <| W.region <| WL.p rfl rfl rfl (.s 0 rfl .nil) (q_move rfl) <| WL.p rfl rfl rfl (.s 1 rfl .nil) (q_move rfl) <| WL.p rfl rfl rfl .nil (q_lit0 rfl el26 gr3) <| WL.p rfl rfl rfl (.s 2 rfl .nil) (q_move rfl) ?_
       obtain ⟨c7861, h⟩ := ite_n h
       refine WL.w [] rfl (Wanted.plain rfl) rfl rfl (.s 128 rfl (.s 129 rfl .nil)) (w_appendZ (kd := kInt) rfl el26 rfl gr3 c7861) ?_
       rintro _ _ ⟨v7862, rfl, rfl⟩
       refine WL.p rfl rfl rfl (.s 8 rfl .nil) (q_move rfl) <| WL.p rfl rfl rfl (.s 131 rfl .nil) (q_lit (kd := kInt) (ps := [(0, .tmp 131)]) (xs := [.tmp 131]) («as» := [EqA (.int .i64 x8)]) (ys := [x8]) rfl rfl el26 rfl gr3 rfl rfl rfl (.cons (CellsOf.one rfl) .nil)) ?_
       obtain ⟨c7863, h⟩ := ite_n h
       refine WL.w [0] rfl (Wanted.plain rfl) rfl rfl (.s 130 rfl (.s 132 rfl .nil)) (w_append (kd := kInt) rfl el26 rfl gr3 c7863) ?_
       rintro _ _ ⟨v7864, rfl, rfl⟩
       obtain ⟨t7865, ht7865, h⟩ := bind_s h
       refine WL.to (StTo.freeze [0] 133 rfl rfl) <| WL.w [0, 0] rfl (Wanted.plain rfl) rfl rfl (.s 126 rfl (.s 127 rfl (.s 133 rfl .nil))) (w_callI (f := 92) (xs := [.tmp 126, .tmp 127, .tmp 133]) («as» := [EqA (.pointer (some ⟨b, 0, none⟩)), SlcA kInt a1, SlcA kInt (a2 ++ [x8])]) rfl ca92 (ih b g0 (Search.mk a0.ft a0.fp a0.fg a0.fpartial a0.finjective a0.fmost y10) a1 (a2 ++ [x8]) t7865 ht7865) rfl (.cons (Imp.id _) (.cons (Imp.id _) (.cons (Imp.id _) .nil)))) ?_
       rintro _ _ ⟨v7866, rfl, rfl⟩
       refine WL.nil <| QN.block <| QN.weaken (env' := [(8, _), (7, _), (6, _), (2, _), (1, _), (0, _)]) (.one rfl (.one rfl (.one rfl (.one rfl (.one rfl (.one rfl (.nil _))))))) <| QN.then_ <| W.region <| WL.p rfl rfl rfl (.s 8 rfl .nil) (q_move rfl) ?_
       obtain ⟨c7867, h⟩ := ite_n h
       refine WL.p rfl rfl rfl (.s 62 rfl (.k .nil)) (q_addR rfl c7867) <| WL.p rfl rfl rfl (.s 63 rfl .nil) (q_assign rfl) <| WL.nil ?_
       exact next0 v7866 t7865 (x8 + 1) _ h (.one rfl (.one rfl (.one rfl (.one rfl (.one rfl (.one rfl (.nil _)))))))
     ·refine W.drawK [(0, false), (1, false), (2, false), (3, false), (4, true), (5, false), (6, false), (7, false), (8, false), (9, false), (10, false), (11, false), (12, false), (13, false), (14, true), (15, false), (16, false), (17, false), (18, false), (19, false), (20, false), (21, false), (22, false), (23, false), (24, false), (25, true), (26, false), (27, false), (28, false), (29, false), (30, false), (31, false), (32, false), (33, false), (34, false), (35, false), (36, false), (37, false), (38, false), (39, false), (40, false), (41, false), (42, false), (43, false), (44, false), (45, false), (46, false), (47, false), (48, false), (49, false), (50, false), (51, false), (52, false), (53, false)] [] [[], [0], [0, 1], [0, 1, 2], [0, 1, 2, 3], [], [0, 1, 2, 3, 4, 5], [0, 1, 2, 3, 4, 5, 6], [0, 1, 2, 3, 4, 5, 6, 7], [0, 1, 2, 3, 4, 5, 6, 7, 8], [0, 1, 2, 3, 4, 5, 6, 7, 8, 9], [0, 1, 2, 3, 4, 5, 6, 7, 8, 9, 10], [0, 1, 2, 3, 4, 5, 6, 7, 8, 9, 10, 11], [0, 1, 2, 3, 4, 5, 6, 7, 8, 9, 10, 11, 12], [0, 1, 2, 3, 4, 5, 6, 7, 8, 9, 10, 11, 12, 13], [0, 1, 2, 3, 4, 5, 6, 7, 8, 9], [0, 1, 2, 3, 4, 5, 6, 7, 8, 9, 10, 11, 12, 13, 14, 15], [0, 1, 2, 3, 4, 5, 6, 7, 8, 9, 10, 11, 12, 13, 14, 15, 16], [0, 1, 2, 3, 4, 5, 6, 7, 8, 9], [0, 1, 2, 3, 4, 5, 6, 7, 8, 9, 10, 11, 12, 13, 14, 15, 16, 17, 18], [0, 1, 2, 3, 4, 5, 6, 7, 8, 9, 10, 11, 12, 13, 14, 15, 16, 17, 18, 19], [0, 1, 2, 3, 4, 5, 6, 7, 8, 9, 10, 11, 12, 13, 14, 15, 16, 17, 18, 19, 20], [0, 1, 2, 3, 4, 5, 6, 7, 8, 9, 10, 11, 12, 13, 14, 15, 16, 17, 18, 19, 20, 21], [0, 1, 2, 3, 4, 5, 6, 7, 8, 9, 10, 11, 12, 13, 14, 15, 16, 17, 18, 19, 20, 21], [0, 1, 2, 3, 4, 5, 6, 7, 8, 9, 10, 11, 12, 13, 14, 15, 16, 17, 18, 19, 20, 21], [0, 1, 2, 3, 4, 5, 6, 7, 8, 9, 10, 11, 12, 13, 14, 15, 16, 17, 18, 19, 20, 21, 22, 23, 24], [0, 1, 2, 3, 4, 5, 6, 7, 8, 9, 10, 11, 12, 13, 14, 15, 16, 17, 18, 19, 20, 21, 22, 23, 24, 25], [0, 1, 2, 3, 4, 5, 6, 7, 8, 9, 10, 11, 12, 13, 14, 15, 16, 17, 18, 19, 20, 21, 22, 23, 24, 25, 26], [0, 1, 2, 3, 4, 5, 6, 7, 8, 9, 10, 11, 12, 13, 14, 15, 16, 17, 18, 19, 20, 21, 22, 23, 24, 25, 26, 27], [0, 1, 2, 3, 4, 5, 6, 7, 8, 9, 10, 11, 12, 13, 14, 15, 16, 17, 18, 19, 20, 21, 22, 23, 24, 25, 26, 27, 28], [0, 1, 2, 3, 4, 5, 6, 7, 8, 9, 10, 11, 12, 13, 14, 15, 16, 17, 18, 19, 20, 21, 22, 23, 24, 25, 26, 27], [0, 1, 2, 3, 4, 5, 6, 7, 8, 9, 10, 11, 12, 13, 14, 15, 16, 17, 18, 19, 20, 21, 22, 23, 24, 25, 26, 27, 30], [0, 1, 2, 3, 4, 5, 6, 7, 8, 9, 10, 11, 12, 13, 14, 15, 16, 17, 18, 19, 20, 21, 22, 23, 24, 25, 26, 27, 28, 29, 30, 31], [0, 1, 2, 3, 4, 5, 6, 7, 8, 9, 10, 11, 12, 13, 14, 15, 16, 17, 18, 19, 20, 21, 22, 23, 24, 25, 26, 27, 28, 29, 30, 31, 32], [0, 1, 2, 3, 4, 5, 6, 7, 8, 9, 10, 11, 12, 13, 14, 15, 16, 17, 18, 19, 20, 21, 22, 23, 24, 25, 26, 27, 28, 29, 30, 31, 32, 33], [0, 1, 2, 3, 4, 5, 6, 7, 8, 9, 10, 11, 12, 13, 14, 15, 16, 17, 18, 19, 20, 21, 22, 23, 24, 25, 26, 27, 28, 29, 30, 31, 32, 33, 34], [0, 1, 2, 3, 4, 5, 6, 7, 8, 9, 10, 11, 12, 13, 14, 15, 16, 17, 18, 19, 20, 21, 22, 23, 24, 25, 26, 27, 28, 29, 30, 31, 32, 33, 34, 35], [0, 1, 2, 3, 4, 5, 6, 7, 8, 9, 10, 11, 12, 13, 14, 15, 16, 17, 18, 19, 20, 21, 22, 23, 24, 25, 26, 27, 28, 29, 30, 31, 32, 33, 34], [0, 1, 2, 3, 4, 5, 6, 7, 8, 9, 10, 11, 12, 13, 14, 15, 16, 17, 18, 19, 20, 21, 22, 23, 24, 25, 26, 27, 28, 29, 30, 31, 32, 33, 34], [0, 1, 2, 3, 4, 5, 6, 7, 8, 9, 10, 11, 12, 13, 14, 15, 16, 17, 18, 19, 20, 21, 22, 23, 24, 25, 26, 27, 28, 29, 30, 31, 32, 33, 34, 38], [0, 1, 2, 3, 4, 5, 6, 7, 8, 9, 10, 11, 12, 13, 14, 15, 16, 17, 18, 19, 20, 21, 22, 23, 24, 25, 26, 27, 28, 29, 30, 31, 32, 33, 34, 37, 38, 39], [0, 1, 2, 3, 4, 5, 6, 7, 8, 9, 10, 11, 12, 13, 14, 15, 16, 17, 18, 19, 20, 21, 22, 23, 24, 25, 26, 27, 28, 29, 30, 31, 32, 33, 34, 37, 38, 39, 40], [0, 1, 2, 3, 4, 5, 6, 7, 8, 9, 10, 11, 12, 13, 14, 15, 16, 17, 18, 19, 20, 21, 22, 23, 24, 25, 26, 27, 28, 29, 30, 31, 32, 33, 34, 35, 36, 37, 38, 39, 40, 41], [0, 1, 2, 3, 4, 5, 6, 7, 8, 9, 10, 11, 12, 13, 14, 15, 16, 17, 18, 19, 20, 21, 22, 23, 24, 25, 26, 27, 28, 29, 30, 31, 32, 33, 34, 35, 36, 37, 38, 39, 40, 41, 42], [0, 1, 2, 3, 4, 5, 6, 7, 8, 9, 10, 11, 12, 13, 14, 15, 16, 17, 18, 19, 20, 21, 22, 23, 24, 25, 26, 27, 28, 29, 30, 31, 32, 33, 34, 35, 36, 37, 38, 39, 40, 41, 42, 43], [0, 1, 2, 3, 4, 5, 6, 7, 8, 9, 10, 11, 12, 13, 14, 15, 16, 17, 18, 19, 20, 21, 22, 23, 24, 25, 26, 27, 28, 29, 30, 31, 32, 33, 34, 35, 36, 37, 38, 39, 40, 41, 42, 43, 44], [0, 1, 2, 3, 4, 5, 6, 7, 8, 9, 10, 11, 12, 13, 14, 15, 16, 17, 18, 19, 20, 21, 22, 23, 24, 25, 26, 27, 28, 29, 30, 31, 32, 33, 34, 35, 36, 37, 38, 39, 40, 41, 42, 43, 44, 45], [0, 1, 2, 3, 4, 5, 6, 7, 8, 9, 10, 11, 12, 13, 14, 15, 16, 17, 18, 19, 20, 21, 22, 23, 24, 25, 26, 27, 28, 29, 30, 31, 32, 33, 34, 35, 36, 37, 38, 39, 40, 41, 42, 43, 44], [0, 1, 2, 3, 4, 5, 6, 7, 8, 9, 10, 11, 12, 13, 14, 15, 16, 17, 18, 19, 20, 21, 22, 23, 24, 25, 26, 27, 28, 29, 30, 31, 32, 33, 34, 35, 36, 37, 38, 39, 40, 41, 42, 43, 44], [0, 1, 2, 3, 4, 5, 6, 7, 8, 9, 10, 11, 12, 13, 14, 15, 16, 17, 18, 19, 20, 21, 22, 23, 24, 25, 26, 27, 28, 29, 30, 31, 32, 33, 34, 35, 36, 37, 38, 39, 40, 41, 42, 43, 44, 48], [0, 1, 2, 3, 4, 5, 6, 7, 8, 9, 10, 11, 12, 13, 14, 15, 16, 17, 18, 19, 20, 21, 22, 23, 24, 25, 26, 27, 28, 29, 30, 31, 32, 33, 34, 35, 36, 37, 38, 39, 40, 41, 42, 43, 44, 47, 48, 49], [0, 1, 2, 3, 4, 5, 6, 7, 8, 9, 10, 11, 12, 13, 14, 15, 16, 17, 18, 19, 20, 21, 22, 23, 24, 25, 26, 27, 28, 29, 30, 31, 32, 33, 34, 35, 36, 37, 38, 39, 40, 41, 42, 43, 44, 47, 48, 49, 50], [0, 1, 2, 3, 4, 5, 6, 7, 8, 9, 10, 11, 12, 13, 14, 15, 16, 17, 18, 19, 20, 21, 22, 23, 24, 25, 26, 27, 28, 29, 30, 31, 32, 33, 34, 35, 36, 37, 38, 39, 40, 41, 42, 43, 44, 45, 46, 47, 48, 49, 50, 51], [0, 1, 2, 3, 4, 5, 6, 7, 8, 9, 10, 11, 12, 13, 14, 15, 16, 17, 18, 19, 20, 21, 22, 23, 24, 25, 26, 27, 28, 29, 30, 31, 32, 33, 34, 35, 36, 37, 38, 39, 40, 41, 42, 43, 44, 45, 46, 47, 48, 49, 50, 51, 52]] mx (by kernel_rfl) <| DK.cons rfl rfl (.p rfl (.s 0 rfl .nil) rfl (q_move rfl)) <| DK.cons rfl rfl (.p rfl (.s 72 rfl .nil) rfl (q_nilCheckP rfl)) <| DK.cons rfl rfl (.p rfl (.s 73 rfl .nil) rfl (q_fieldP rfl fo111_3)) <| DK.cons rfl rfl (.p rfl (.s 74 rfl .nil) rfl (q_fieldP rfl fo33_1)) <| DK.cons rfl rfl (.o rfl (.s 75 rfl .nil) rfl (q_loadB rfl sh26 (i := 0) rfl rfl)) <| DK.cons rfl rfl (.p rfl (.s 6 rfl .nil) rfl (q_move rfl)) ?_
      obtain ⟨c7868, h⟩ := ite_n h
      refine DK.cons rfl rfl (.p rfl (.s 76 rfl (.s 77 rfl .nil)) rfl (q_index rfl el26 rfl c7868.1 c7868.2)) <| DK.cons rfl rfl (.p rfl (.s 78 rfl .nil) rfl (q_load rfl sh3)) <| DK.cons rfl rfl (.p rfl (.s 79 rfl (.k .nil)) rfl (q_int rfl rfl)) <| DK.cons rfl rfl (.p rfl (.s 80 rfl .nil) rfl (q_move rfl)) ?_
      rcases bif_s h with ⟨hb7869, h⟩ | ⟨hb7869, h⟩
      ·refine DK.cons rfl rfl (.gp rfl rfl rfl hb7869 (.s 0 rfl .nil) rfl (q_move rfl)) <| DK.cons rfl rfl (.gp rfl rfl rfl hb7869 (.s 82 rfl .nil) rfl (q_nilCheckP rfl)) <| DK.cons rfl rfl (.gp rfl rfl rfl hb7869 (.s 83 rfl .nil) rfl (q_fieldP rfl fo111_3)) <| DK.cons rfl rfl (.gp rfl rfl rfl hb7869 (.s 84 rfl .nil) rfl (q_fieldP rfl fo33_1)) <| DK.cons rfl rfl (.go rfl rfl rfl hb7869 (.s 85 rfl .nil) rfl (q_loadB rfl sh26 (i := 0) rfl rfl)) <| DK.cons rfl rfl (.gp rfl rfl rfl hb7869 (.s 6 rfl .nil) rfl (q_move rfl)) ?_
       obtain ⟨c7870, h⟩ := ite_n h
       refine DK.cons rfl rfl (.gp rfl rfl rfl hb7869 (.s 86 rfl (.s 87 rfl .nil)) rfl (q_index rfl el26 rfl c7870.1 c7870.2)) <| DK.cons rfl rfl (.gp rfl rfl rfl hb7869 (.s 88 rfl .nil) rfl (q_load rfl sh3)) <| DK.cons rfl rfl (.gp rfl rfl rfl hb7869 (.s 8 rfl .nil) rfl (q_move rfl)) <| DK.cons rfl rfl (.gp rfl rfl rfl hb7869 (.s 89 rfl (.s 90 rfl .nil)) rfl (q_int rfl rfl)) <| DK.cons rfl rfl (.p rfl (.s 81 rfl (.s 91 rfl .nil)) rfl (q_pickT rfl hb7869)) <| DK.cons rfl rfl (.p rfl (.s 92 rfl .nil) rfl (q_move rfl)) ?_
       rcases bif_s h with ⟨hb7871, h⟩ | ⟨hb7871, h⟩
       ·refine DK.cons rfl rfl (.off rfl rfl rfl hb7871) <| DK.cons rfl rfl (.off rfl rfl rfl hb7871) <| DK.cons rfl rfl (.off rfl rfl rfl hb7871) <| DK.cons rfl rfl (.off rfl rfl rfl hb7871) <| DK.cons rfl rfl (.p rfl (.s 93 rfl (.k .nil)) rfl (q_pickT rfl hb7871)) <| DK.cons rfl rfl (.p rfl (.s 98 rfl .nil) rfl (q_move rfl)) <| DK.cons rfl rfl (.off rfl rfl rfl rfl) <| DK.cons rfl rfl (.off rfl rfl rfl rfl) <| DK.cons rfl rfl (.off rfl rfl rfl rfl) <| DK.cons rfl rfl (.off rfl rfl rfl rfl) <| DK.cons rfl rfl (.off rfl rfl rfl rfl) <| DK.cons rfl rfl (.p rfl (.s 99 rfl (.k .nil)) rfl (q_pickT rfl rfl)) <| DK.cons rfl rfl (.p rfl (.s 105 rfl .nil) rfl (q_move rfl)) ?_
        refine DK.cons rfl rfl (.off rfl rfl rfl rfl) <| DK.cons rfl rfl (.off rfl rfl rfl rfl) <| DK.cons rfl rfl (.off rfl rfl rfl rfl) <| DK.cons rfl rfl (.off rfl rfl rfl rfl) <| DK.cons rfl rfl (.off rfl rfl rfl rfl) <| DK.cons rfl rfl (.off rfl rfl rfl rfl) <| DK.cons rfl rfl (.off rfl rfl rfl rfl) <| DK.cons rfl rfl (.off rfl rfl rfl rfl) <| DK.cons rfl rfl (.p rfl (.s 106 rfl (.k .nil)) rfl (q_pickT rfl rfl)) <| DK.cons rfl rfl (.p rfl (.s 115 rfl .nil) rfl (q_move rfl)) <| DK.cons rfl rfl (.off rfl rfl rfl rfl) <| DK.cons rfl rfl (.off rfl rfl rfl rfl) <| DK.cons rfl rfl (.off rfl rfl rfl rfl) ?_
        refine DK.cons rfl rfl (.off rfl rfl rfl rfl) <| DK.cons rfl rfl (.off rfl rfl rfl rfl) <| DK.cons rfl rfl (.off rfl rfl rfl rfl) <| DK.cons rfl rfl (.off rfl rfl rfl rfl) <| DK.cons rfl rfl (.off rfl rfl rfl rfl) <| DK.cons rfl rfl (.p rfl (.s 116 rfl (.k .nil)) rfl (q_pickT rfl rfl)) <| DK.nil <| CSteps.nil ?_
        exact QN.weaken (.one rfl (.one rfl (.one rfl (.one rfl (.one rfl (.one rfl (.one rfl (.nil _)))))))) (Kj7858 () true h)
       ·refine DK.cons rfl rfl (.gp rfl rfl rfl hb7871 (.s 0 rfl .nil) rfl (q_move rfl)) <| DK.cons rfl rfl (.gp rfl rfl rfl hb7871 (.s 2 rfl .nil) rfl (q_move rfl)) <| DK.cons rfl rfl (.gp rfl rfl rfl hb7871 (.s 8 rfl .nil) rfl (q_move rfl)) ?_
        obtain ⟨t7872, ht7872, h⟩ := bind_s h
        refine DK.cons rfl rfl (.go rfl rfl rfl hb7871 (.s 94 rfl (.s 95 rfl (.s 96 rfl .nil))) rfl (q_lend (f := 93) (A := EqA (.bool t7872)) (xs := [.tmp 94, .tmp 95, .tmp 96]) («as» := [EqA (.pointer (some ⟨b, 0, none⟩)), SlcA kInt a2, EqA (.int .i64 x8)]) rfl ca93 (ref17_search_used.con k (Search.mk a0.ft a0.fp a0.fg a0.fpartial a0.finjective a0.fmost y10) a2 x8 t7872 ht7872) rfl (.cons (.box 0 rfl (.cons (.id _) (.cons (.id _) (.cons (.id _) (.cons (.id _) (.cons (.id _) (.cons (.id _) (.cons (.id _) (.cons (.id _) (.cons (.id _) (.cons (.id _) (.cons (.slc 1 rfl) .nil)))))))))))) (.cons (.id _) (.cons (.id _) .nil))) (Flat.eq _))) <| DK.cons rfl rfl (.p rfl (.s 93 rfl (.s 97 rfl .nil)) rfl (q_pickF rfl hb7871)) <| DK.cons rfl rfl (.p rfl (.s 98 rfl .nil) rfl (q_move rfl)) ?_
        rcases bif_s h with ⟨hb7873, h⟩ | ⟨hb7873, h⟩
        ·refine DK.cons rfl rfl (.off rfl rfl rfl hb7873) <| DK.cons rfl rfl (.off rfl rfl rfl hb7873) <| DK.cons rfl rfl (.off rfl rfl rfl hb7873) <| DK.cons rfl rfl (.off rfl rfl rfl hb7873) <| DK.cons rfl rfl (.off rfl rfl rfl hb7873) <| DK.cons rfl rfl (.p rfl (.s 99 rfl (.k .nil)) rfl (q_pickT rfl hb7873)) <| DK.cons rfl rfl (.p rfl (.s 105 rfl .nil) rfl (q_move rfl)) <| DK.cons rfl rfl (.off rfl rfl rfl rfl) <| DK.cons rfl rfl (.off rfl rfl rfl rfl) <| DK.cons rfl rfl (.off rfl rfl rfl rfl) <| DK.cons rfl rfl (.off rfl rfl rfl rfl) <| DK.cons rfl rfl (.off rfl rfl rfl rfl) <| DK.cons rfl rfl (.off rfl rfl rfl rfl) ?_
         refine DK.cons rfl rfl (.off rfl rfl rfl rfl) <| DK.cons rfl rfl (.off rfl rfl rfl rfl) <| DK.cons rfl rfl (.p rfl (.s 106 rfl (.k .nil)) rfl (q_pickT rfl rfl)) <| DK.cons rfl rfl (.p rfl (.s 115 rfl .nil) rfl (q_move rfl)) <| DK.cons rfl rfl (.off rfl rfl rfl rfl) <| DK.cons rfl rfl (.off rfl rfl rfl rfl) <| DK.cons rfl rfl (.off rfl rfl rfl rfl) <| DK.cons rfl rfl (.off rfl rfl rfl rfl) <| DK.cons rfl rfl (.off rfl rfl rfl rfl) <| DK.cons rfl rfl (.off rfl rfl rfl rfl) <| DK.cons rfl rfl (.off rfl rfl rfl rfl) <| DK.cons rfl rfl (.off rfl rfl rfl rfl) <| DK.cons rfl rfl (.p rfl (.s 116 rfl (.k .nil)) rfl (q_pickT rfl rfl)) ?_
         refine DK.nil <| CSteps.nil ?_
         exact QN.weaken (.one rfl (.one rfl (.one rfl (.one rfl (.one rfl (.one rfl (.one rfl (.nil _)))))))) (Kj7858 () true h)
        ·refine DK.cons rfl rfl (.gp rfl rfl rfl hb7873 (.s 7 rfl .nil) rfl (q_field rfl fo77_0 rfl)) <| DK.cons rfl rfl (.gp rfl rfl rfl hb7873 (.s 100 rfl .nil) rfl (q_load rfl sh3)) <| DK.cons rfl rfl (.gp rfl rfl rfl hb7873 (.s 9 rfl .nil) rfl (q_field rfl fo77_0 rfl)) <| DK.cons rfl rfl (.gp rfl rfl rfl hb7873 (.s 102 rfl .nil) rfl (q_load rfl sh3)) <| DK.cons rfl rfl (.gp rfl rfl rfl hb7873 (.s 101 rfl (.s 103 rfl .nil)) rfl (q_int rfl rfl)) <| DK.cons rfl rfl (.p rfl (.s 99 rfl (.s 104 rfl .nil)) rfl (q_pickF rfl hb7873)) <| DK.cons rfl rfl (.p rfl (.s 105 rfl .nil) rfl (q_move rfl)) ?_
         rcases bif_s h with ⟨hb7874, h⟩ | ⟨hb7874, h⟩
         ·refine DK.cons rfl rfl (.off rfl rfl rfl hb7874) <| DK.cons rfl rfl (.off rfl rfl rfl hb7874) <| DK.cons rfl rfl (.off rfl rfl rfl hb7874) <| DK.cons rfl rfl (.off rfl rfl rfl hb7874) <| DK.cons rfl rfl (.off rfl rfl rfl hb7874) <| DK.cons rfl rfl (.off rfl rfl rfl hb7874) <| DK.cons rfl rfl (.off rfl rfl rfl hb7874) <| DK.cons rfl rfl (.off rfl rfl rfl hb7874) <| DK.cons rfl rfl (.p rfl (.s 106 rfl (.k .nil)) rfl (q_pickT rfl hb7874)) <| DK.cons rfl rfl (.p rfl (.s 115 rfl .nil) rfl (q_move rfl)) <| DK.cons rfl rfl (.off rfl rfl rfl rfl) <| DK.cons rfl rfl (.off rfl rfl rfl rfl) <| DK.cons rfl rfl (.off rfl rfl rfl rfl) ?_
          refine DK.cons rfl rfl (.off rfl rfl rfl rfl) <| DK.cons rfl rfl (.off rfl rfl rfl rfl) <| DK.cons rfl rfl (.off rfl rfl rfl rfl) <| DK.cons rfl rfl (.off rfl rfl rfl rfl) <| DK.cons rfl rfl (.off rfl rfl rfl rfl) <| DK.cons rfl rfl (.p rfl (.s 116 rfl (.k .nil)) rfl (q_pickT rfl rfl)) <| DK.nil <| CSteps.nil ?_
          exact QN.weaken (.one rfl (.one rfl (.one rfl (.one rfl (.one rfl (.one rfl (.one rfl (.nil _)))))))) (Kj7858 () true h)
         ·refine DK.cons rfl rfl (.gp rfl rfl rfl hb7874 (.s 9 rfl .nil) rfl (q_field rfl fo77_1 rfl)) <| DK.cons rfl rfl (.gp rfl rfl rfl hb7874 (.s 107 rfl .nil) rfl (q_load rfl sh3)) <| DK.cons rfl rfl (.gp rfl rfl rfl hb7874 (.s 1 rfl .nil) rfl (q_move rfl)) <| DK.cons rfl rfl (.gp rfl rfl rfl hb7874 (.s 7 rfl .nil) rfl (q_field rfl fo77_1 rfl)) <| DK.cons rfl rfl (.gp rfl rfl rfl hb7874 (.s 110 rfl .nil) rfl (q_load rfl sh3)) ?_
          obtain ⟨c7875, h⟩ := ite_n h
          refine DK.cons rfl rfl (.gp rfl rfl rfl hb7874 (.s 109 rfl (.s 111 rfl .nil)) rfl (q_index rfl el26 rfl c7875.1 c7875.2)) <| DK.cons rfl rfl (.gp rfl rfl rfl hb7874 (.s 112 rfl .nil) rfl (q_load rfl sh3)) <| DK.cons rfl rfl (.gp rfl rfl rfl hb7874 (.s 108 rfl (.s 113 rfl .nil)) rfl (q_int rfl rfl)) <| DK.cons rfl rfl (.p rfl (.s 106 rfl (.s 114 rfl .nil)) rfl (q_pickF rfl hb7874)) <| DK.cons rfl rfl (.p rfl (.s 115 rfl .nil) rfl (q_move rfl)) ?_
          rcases bif_s h with ⟨hb7876, h⟩ | ⟨hb7876, h⟩
          ·refine DK.cons rfl rfl (.off rfl rfl rfl hb7876) <| DK.cons rfl rfl (.off rfl rfl rfl hb7876) <| DK.cons rfl rfl (.off rfl rfl rfl hb7876) <| DK.cons rfl rfl (.off rfl rfl rfl hb7876) <| DK.cons rfl rfl (.off rfl rfl rfl hb7876) <| DK.cons rfl rfl (.off rfl rfl rfl hb7876) <| DK.cons rfl rfl (.off rfl rfl rfl hb7876) <| DK.cons rfl rfl (.off rfl rfl rfl hb7876) <| DK.cons rfl rfl (.p rfl (.s 116 rfl (.k .nil)) rfl (q_pickT rfl hb7876)) <| DK.nil <| CSteps.nil ?_
           exact QN.weaken (.one rfl (.one rfl (.one rfl (.one rfl (.one rfl (.one rfl (.one rfl (.nil _)))))))) (Kj7858 () true h)
          ·refine DK.cons rfl rfl (.gp rfl rfl rfl hb7876 (.s 9 rfl .nil) rfl (q_field rfl fo77_2 rfl)) <| DK.cons rfl rfl (.gp rfl rfl rfl hb7876 (.s 117 rfl .nil) rfl (q_load rfl sh3)) <| DK.cons rfl rfl (.gp rfl rfl rfl hb7876 (.s 1 rfl .nil) rfl (q_move rfl)) <| DK.cons rfl rfl (.gp rfl rfl rfl hb7876 (.s 7 rfl .nil) rfl (q_field rfl fo77_2 rfl)) <| DK.cons rfl rfl (.gp rfl rfl rfl hb7876 (.s 120 rfl .nil) rfl (q_load rfl sh3)) ?_
           obtain ⟨c7877, h⟩ := ite_n h
           refine DK.cons rfl rfl (.gp rfl rfl rfl hb7876 (.s 119 rfl (.s 121 rfl .nil)) rfl (q_index rfl el26 rfl c7877.1 c7877.2)) <| DK.cons rfl rfl (.gp rfl rfl rfl hb7876 (.s 122 rfl .nil) rfl (q_load rfl sh3)) <| DK.cons rfl rfl (.gp rfl rfl rfl hb7876 (.s 118 rfl (.s 123 rfl .nil)) rfl (q_int rfl rfl)) <| DK.cons rfl rfl (.p rfl (.s 116 rfl (.s 124 rfl .nil)) rfl (q_pickF rfl hb7876)) <| DK.nil <| CSteps.nil ?_
           exact QN.weaken (.one rfl (.one rfl (.one rfl (.one rfl (.one rfl (.one rfl (.one rfl (.nil _)))))))) (Kj7858 () ((rd a0.fg.fEdges x8).fTo != (rd a1 ((rd a0.fp.fEdges (a2.length : Int)).fTo))) h)
      ·refine DK.cons rfl rfl (.off rfl rfl rfl hb7869) <| DK.cons rfl rfl (.off rfl rfl rfl hb7869) <| DK.cons rfl rfl (.off rfl rfl rfl hb7869) <| DK.cons rfl rfl (.off rfl rfl rfl hb7869) <| DK.cons rfl rfl (.off rfl rfl rfl hb7869) <| DK.cons rfl rfl (.off rfl rfl rfl hb7869) <| DK.cons rfl rfl (.off rfl rfl rfl hb7869) <| DK.cons rfl rfl (.off rfl rfl rfl hb7869) <| DK.cons rfl rfl (.off rfl rfl rfl hb7869) <| DK.cons rfl rfl (.off rfl rfl rfl hb7869) <| DK.cons rfl rfl (.p rfl (.s 81 rfl (.k .nil)) rfl (q_pickF rfl hb7869)) <| DK.cons rfl rfl (.p rfl (.s 92 rfl .nil) rfl (q_move rfl)) <| DK.cons rfl rfl (.gp rfl rfl rfl rfl (.s 0 rfl .nil) rfl (q_move rfl)) ?_
       refine DK.cons rfl rfl (.gp rfl rfl rfl rfl (.s 2 rfl .nil) rfl (q_move rfl)) <| DK.cons rfl rfl (.gp rfl rfl rfl rfl (.s 8 rfl .nil) rfl (q_move rfl)) ?_
       obtain ⟨t7878, ht7878, h⟩ := bind_s h
       refine DK.cons rfl rfl (.go rfl rfl rfl rfl (.s 94 rfl (.s 95 rfl (.s 96 rfl .nil))) rfl (q_lend (f := 93) (A := EqA (.bool t7878)) (xs := [.tmp 94, .tmp 95, .tmp 96]) («as» := [EqA (.pointer (some ⟨b, 0, none⟩)), SlcA kInt a2, EqA (.int .i64 x8)]) rfl ca93 (ref17_search_used.con k (Search.mk a0.ft a0.fp a0.fg a0.fpartial a0.finjective a0.fmost y10) a2 x8 t7878 ht7878) rfl (.cons (.box 0 rfl (.cons (.id _) (.cons (.id _) (.cons (.id _) (.cons (.id _) (.cons (.id _) (.cons (.id _) (.cons (.id _) (.cons (.id _) (.cons (.id _) (.cons (.id _) (.cons (.slc 1 rfl) .nil)))))))))))) (.cons (.id _) (.cons (.id _) .nil))) (Flat.eq _))) <| DK.cons rfl rfl (.p rfl (.s 93 rfl (.s 97 rfl .nil)) rfl (q_pickF rfl rfl)) <| DK.cons rfl rfl (.p rfl (.s 98 rfl .nil) rfl (q_move rfl)) ?_
       rcases bif_s h with ⟨hb7879, h⟩ | ⟨hb7879, h⟩
       ·refine DK.cons rfl rfl (.off rfl rfl rfl hb7879) <| DK.cons rfl rfl (.off rfl rfl rfl hb7879) <| DK.cons rfl rfl (.off rfl rfl rfl hb7879) <| DK.cons rfl rfl (.off rfl rfl rfl hb7879) <| DK.cons rfl rfl (.off rfl rfl rfl hb7879) <| DK.cons rfl rfl (.p rfl (.s 99 rfl (.k .nil)) rfl (q_pickT rfl hb7879)) <| DK.cons rfl rfl (.p rfl (.s 105 rfl .nil) rfl (q_move rfl)) <| DK.cons rfl rfl (.off rfl rfl rfl rfl) <| DK.cons rfl rfl (.off rfl rfl rfl rfl) <| DK.cons rfl rfl (.off rfl rfl rfl rfl) <| DK.cons rfl rfl (.off rfl rfl rfl rfl) <| DK.cons rfl rfl (.off rfl rfl rfl rfl) <| DK.cons rfl rfl (.off rfl rfl rfl rfl) ?_
        refine DK.cons rfl rfl (.off rfl rfl rfl rfl) <| DK.cons rfl rfl (.off rfl rfl rfl rfl) <| DK.cons rfl rfl (.p rfl (.s 106 rfl (.k .nil)) rfl (q_pickT rfl rfl)) <| DK.cons rfl rfl (.p rfl (.s 115 rfl .nil) rfl (q_move rfl)) <| DK.cons rfl rfl (.off rfl rfl rfl rfl) <| DK.cons rfl rfl (.off rfl rfl rfl rfl) <| DK.cons rfl rfl (.off rfl rfl rfl rfl) <| DK.cons rfl rfl (.off rfl rfl rfl rfl) <| DK.cons rfl rfl (.off rfl rfl rfl rfl) <| DK.cons rfl rfl (.off rfl rfl rfl rfl) <| DK.cons rfl rfl (.off rfl rfl rfl rfl) <| DK.cons rfl rfl (.off rfl rfl rfl rfl) <| DK.cons rfl rfl (.p rfl (.s 116 rfl (.k .nil)) rfl (q_pickT rfl rfl)) ?_
        refine DK.nil <| CSteps.nil ?_
        exact QN.weaken (.one rfl (.one rfl (.one rfl (.one rfl (.one rfl (.one rfl (.one rfl (.nil _)))))))) (Kj7858 () true h)
       ·refine DK.cons rfl rfl (.gp rfl rfl rfl hb7879 (.s 7 rfl .nil) rfl (q_field rfl fo77_0 rfl)) <| DK.cons rfl rfl (.gp rfl rfl rfl hb7879 (.s 100 rfl .nil) rfl (q_load rfl sh3)) <| DK.cons rfl rfl (.gp rfl rfl rfl hb7879 (.s 9 rfl .nil) rfl (q_field rfl fo77_0 rfl)) <| DK.cons rfl rfl (.gp rfl rfl rfl hb7879 (.s 102 rfl .nil) rfl (q_load rfl sh3)) <| DK.cons rfl rfl (.gp rfl rfl rfl hb7879 (.s 101 rfl (.s 103 rfl .nil)) rfl (q_int rfl rfl)) <| DK.cons rfl rfl (.p rfl (.s 99 rfl (.s 104 rfl .nil)) rfl (q_pickF rfl hb7879)) <| DK.cons rfl rfl (.p rfl (.s 105 rfl .nil) rfl (q_move rfl)) ?_
        rcases bif_s h with ⟨hb7880, h⟩ | ⟨hb7880, h⟩
        ·refine DK.cons rfl rfl (.off rfl rfl rfl hb7880) <| DK.cons rfl rfl (.off rfl rfl rfl hb7880) <| DK.cons rfl rfl (.off rfl rfl rfl hb7880) <| DK.cons rfl rfl (.off rfl rfl rfl hb7880) <| DK.cons rfl rfl (.off rfl rfl rfl hb7880) <| DK.cons rfl rfl (.off rfl rfl rfl hb7880) <| DK.cons rfl rfl (.off rfl rfl rfl hb7880) <| DK.cons rfl rfl (.off rfl rfl rfl hb7880) <| DK.cons rfl rfl (.p rfl (.s 106 rfl (.k .nil)) rfl (q_pickT rfl hb7880)) <| DK.cons rfl rfl (.p rfl (.s 115 rfl .nil) rfl (q_move rfl)) <| DK.cons rfl rfl (.off rfl rfl rfl rfl) <| DK.cons rfl rfl (.off rfl rfl rfl rfl) <| DK.cons rfl rfl (.off rfl rfl rfl rfl) ?_
         refine DK.cons rfl rfl (.off rfl rfl rfl rfl) <| DK.cons rfl rfl (.off rfl rfl rfl rfl) <| DK.cons rfl rfl (.off rfl rfl rfl rfl) <| DK.cons rfl rfl (.off rfl rfl rfl rfl) <| DK.cons rfl rfl (.off rfl rfl rfl rfl) <| DK.cons rfl rfl (.p rfl (.s 116 rfl (.k .nil)) rfl (q_pickT rfl rfl)) <| DK.nil <| CSteps.nil ?_
         exact QN.weaken (.one rfl (.one rfl (.one rfl (.one rfl (.one rfl (.one rfl (.one rfl (.nil _)))))))) (Kj7858 () true h)
        ·refine DK.cons rfl rfl (.gp rfl rfl rfl hb7880 (.s 9 rfl .nil) rfl (q_field rfl fo77_1 rfl)) <| DK.cons rfl rfl (.gp rfl rfl rfl hb7880 (.s 107 rfl .nil) rfl (q_load rfl sh3)) <| DK.cons rfl rfl (.gp rfl rfl rfl hb7880 (.s 1 rfl .nil) rfl (q_move rfl)) <| DK.cons rfl rfl (.gp rfl rfl rfl hb7880 (.s 7 rfl .nil) rfl (q_field rfl fo77_1 rfl)) <| DK.cons rfl rfl (.gp rfl rfl rfl hb7880 (.s 110 rfl .nil) rfl (q_load rfl sh3)) ?_
         obtain ⟨c7881, h⟩ := ite_n h
         refine DK.cons rfl rfl (.gp rfl rfl rfl hb7880 (.s 109 rfl (.s 111 rfl .nil)) rfl (q_index rfl el26 rfl c7881.1 c7881.2)) <| DK.cons rfl rfl (.gp rfl rfl rfl hb7880 (.s 112 rfl .nil) rfl (q_load rfl sh3)) <| DK.cons rfl rfl (.gp rfl rfl rfl hb7880 (.s 108 rfl (.s 113 rfl .nil)) rfl (q_int rfl rfl)) <| DK.cons rfl rfl (.p rfl (.s 106 rfl (.s 114 rfl .nil)) rfl (q_pickF rfl hb7880)) <| DK.cons rfl rfl (.p rfl (.s 115 rfl .nil) rfl (q_move rfl)) ?_
         rcases bif_s h with ⟨hb7882, h⟩ | ⟨hb7882, h⟩
         ·refine DK.cons rfl rfl (.off rfl rfl rfl hb7882) <| DK.cons rfl rfl (.off rfl rfl rfl hb7882) <| DK.cons rfl rfl (.off rfl rfl rfl hb7882) <| DK.cons rfl rfl (.off rfl rfl rfl hb7882) <| DK.cons rfl rfl (.off rfl rfl rfl hb7882) <| DK.cons rfl rfl (.off rfl rfl rfl hb7882) <| DK.cons rfl rfl (.off rfl rfl rfl hb7882) <| DK.cons rfl rfl (.off rfl rfl rfl hb7882) <| DK.cons rfl rfl (.p rfl (.s 116 rfl (.k .nil)) rfl (q_pickT rfl hb7882)) <| DK.nil <| CSteps.nil ?_
          exact QN.weaken (.one rfl (.one rfl (.one rfl (.one rfl (.one rfl (.one rfl (.one rfl (.nil _)))))))) (Kj7858 () true h)
         ·refine DK.cons rfl rfl (.gp rfl rfl rfl hb7882 (.s 9 rfl .nil) rfl (q_field rfl fo77_2 rfl)) <| DK.cons rfl rfl (.gp rfl rfl rfl hb7882 (.s 117 rfl .nil) rfl (q_load rfl sh3)) <| DK.cons rfl rfl (.gp rfl rfl rfl hb7882 (.s 1 rfl .nil) rfl (q_move rfl)) <| DK.cons rfl rfl (.gp rfl rfl rfl hb7882 (.s 7 rfl .nil) rfl (q_field rfl fo77_2 rfl)) <| DK.cons rfl rfl (.gp rfl rfl rfl hb7882 (.s 120 rfl .nil) rfl (q_load rfl sh3)) ?_
          obtain ⟨c7883, h⟩ := ite_n h
          refine DK.cons rfl rfl (.gp rfl rfl rfl hb7882 (.s 119 rfl (.s 121 rfl .nil)) rfl (q_index rfl el26 rfl c7883.1 c7883.2)) <| DK.cons rfl rfl (.gp rfl rfl rfl hb7882 (.s 122 rfl .nil) rfl (q_load rfl sh3)) <| DK.cons rfl rfl (.gp rfl rfl rfl hb7882 (.s 118 rfl (.s 123 rfl .nil)) rfl (q_int rfl rfl)) <| DK.cons rfl rfl (.p rfl (.s 116 rfl (.s 124 rfl .nil)) rfl (q_pickF rfl hb7882)) <| DK.nil <| CSteps.nil ?_
          exact QN.weaken (.one rfl (.one rfl (.one rfl (.one rfl (.one rfl (.one rfl (.one rfl (.nil _)))))))) (Kj7858 () ((rd a0.fg.fEdges x8).fTo != (rd a1 ((rd a0.fp.fEdges (a2.length : Int)).fTo))) h)
    ·refine W.exit <| QX.then_ <| QX.then_ <| QX.here ?_
     cases h
     exact QN.f0 rfl rfl ⟨g0, rfl, rfl⟩
end Go.Proofs.YtelpgjfojhcjcaaGreat
