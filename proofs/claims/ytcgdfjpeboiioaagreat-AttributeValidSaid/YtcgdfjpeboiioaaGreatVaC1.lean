import Derived.Test.YtcgdfjpeboiioaaGreatVaD
import Derived.Test.YtcgdfjpeboiioaaGreatVaFc
namespace Go.Proofs.YtcgdfjpeboiioaaGreat
open Go Go.Abs
attribute [local irreducible] Tryz.prog
theorem ref04_Example.con (k : Nat) (r : Types) (h : ref04_Example k = some r) : Con Tryz.prog 37 [] [] (RA (AggA [SlcA kNodeType r.fNodes, SlcA kEdgeType r.fEdges])) := by
 unfold ref04_Example at h
 refine vJ (N := 15) Tryz.func37 R R R fun w0_ fg_ => sr <| WL.w [] R (qj R) R R .nil (w_alloc R z35 (l := [EqA (.slice none 0 0), EqA (.slice none 0 0)]) R) ?_
 rintro _ _ ⟨b100, rfl, rfl⟩
 refine nx <| WL.p R R R (.k (.k (.k .nil))) (q_build (is := [0, 1, 2]) (xs := [.const (.string ⟨#[98, 97, 108, 97, 110, 99, 101]⟩), .const (.int .i64 (-1000)), .const (.int .i64 1000)]) (L := [EqA (strV ([98, 97, 108, 97, 110, 99, 101] : Str)), iA (-1000), iA 1000, EqA (.slice none 0 0)]) R R z95 pl95 R R (.cons (qW R) (.cons (qW R) (.cons (qW R) .nil))) R) <| p1 R 1 R (QS.args (q_lit (kd := kAttr) (ps := [(0, .tmp 1)]) (xs := [.tmp 1]) («as» := [AggA [EqA (strV ([98, 97, 108, 97, 110, 99, 101] : Str)), iA (-1000), iA 1000, SlcA kStr []]]) (ys := [(Attr.mk ([98, 97, 108, 97, 110, 99, 101] : Str) (-1000) 1000 [])]) R R el90 R gr95 R R R (.cons (qy _) .nil)) (.cons (Imp.agg (.cons (Imp.id _) (.cons (Imp.id _) (.cons (Imp.id _) (.cons (Imp.nil kStr) .nil))))) .nil)) <| WL.p R R R (.k (.k (.k (.s 2 R .nil)))) (q_build (is := [0, 1, 2, 3]) (xs := [.const (.string ⟨#[65, 99, 99, 111, 117, 110, 116]⟩), .const (.int .i64 (-1)), .const (.bool true), .tmp 2]) (L := [EqA (strV ([65, 99, 99, 111, 117, 110, 116] : Str)), iA (-1), bA true, SlcA kAttr ([(Attr.mk ([98, 97, 108, 97, 110, 99, 101] : Str) (-1000) 1000 [])])]) R R z92 pl92 R R (.cons (qW R) (.cons (qW R) (.cons (qW R) (.cons (qW R) .nil)))) R) <| WL.p R R R (.k (.k .nil)) (q_build (is := [0, 1]) (xs := [.const (.string ⟨#[67, 97, 115, 104]⟩), .const (.int .i64 0)]) (L := [EqA (strV ([67, 97, 115, 104] : Str)), iA 0, bA false, EqA (.slice none 0 0)]) R R z92 pl92 R R (.cons (qW R) (.cons (qW R) .nil)) R) <| WL.p R R R (.k (.k .nil)) (q_lit (kd := kStr) (ps := [(0, .const (.string ⟨#[111, 112, 101, 110]⟩)), (1, .const (.string ⟨#[99, 108, 111, 115, 101, 100]⟩))]) (xs := [.const (.string ⟨#[111, 112, 101, 110]⟩), .const (.string ⟨#[99, 108, 111, 115, 101, 100]⟩)]) («as» := [EqA (strV ([111, 112, 101, 110] : Str)), EqA (strV ([99, 108, 111, 115, 101, 100] : Str))]) (ys := [([111, 112, 101, 110] : Str), ([99, 108, 111, 115, 101, 100] : Str)]) R R el93 R gr9 R R R (.cons (qW R) (.cons (qW R) .nil))) <| WL.p R R R (.k (.k (.s 5 R .nil))) (q_build (is := [0, 2, 3]) (xs := [.const (.string ⟨#[115, 116, 97, 116, 101]⟩), .const (.int .i64 1), .tmp 5]) (L := [EqA (strV ([115, 116, 97, 116, 101] : Str)), iA 0, iA 1, SlcA kStr ([([111, 112, 101, 110] : Str), ([99, 108, 111, 115, 101, 100] : Str)])]) R R z95 pl95 R R (.cons (qW R) (.cons (qW R) (.cons (qW R) .nil))) R) <| p1 R 6 R (q_lit (kd := kAttr) (ps := [(0, .tmp 6)]) (xs := [.tmp 6]) («as» := [AggA [EqA (strV ([115, 116, 97, 116, 101] : Str)), iA 0, iA 1, SlcA kStr ([([111, 112, 101, 110] : Str), ([99, 108, 111, 115, 101, 100] : Str)])]]) (ys := [(Attr.mk ([115, 116, 97, 116, 101] : Str) 0 1 ([([111, 112, 101, 110] : Str), ([99, 108, 111, 115, 101, 100] : Str)]))]) R R el90 R gr95 R R R (.cons (qy _) .nil)) <| WL.p R R R (.k (.k (.s 7 R .nil))) (q_build (is := [0, 1, 3]) (xs := [.const (.string ⟨#[76, 111, 97, 110]⟩), .const (.int .i64 0), .tmp 7]) (L := [EqA (strV ([76, 111, 97, 110] : Str)), iA 0, bA false, SlcA kAttr ([(Attr.mk ([115, 116, 97, 116, 101] : Str) 0 1 ([([111, 112, 101, 110] : Str), ([99, 108, 111, 115, 101, 100] : Str)]))])]) R R z92 pl92 R R (.cons (qW R) (.cons (qW R) (.cons (qW R) .nil))) R) <| WL.p R R R (.k (.k .nil)) (q_build (is := [0, 1]) (xs := [.const (.string ⟨#[80, 101, 114, 115, 111, 110]⟩), .const (.int .i64 (-1))]) (L := [EqA (strV ([80, 101, 114, 115, 111, 110] : Str)), iA (-1), bA false, EqA (.slice none 0 0)]) R R z92 pl92 R R (.cons (qW R) (.cons (qW R) .nil)) R) ?_
 refine WL.p R R R (.s 3 R (.s 4 R (.s 8 R (.s 9 R .nil)))) (QS.args (q_lit (kd := kNodeType) (ps := [(0, .tmp 3), (1, .tmp 4), (2, .tmp 8), (3, .tmp 9)]) (xs := [.tmp 3, .tmp 4, .tmp 8, .tmp 9]) («as» := [AggA [EqA (strV ([65, 99, 99, 111, 117, 110, 116] : Str)), iA (-1), bA true, SlcA kAttr ([(Attr.mk ([98, 97, 108, 97, 110, 99, 101] : Str) (-1000) 1000 [])])], AggA [EqA (strV ([67, 97, 115, 104] : Str)), iA 0, bA false, SlcA kAttr []], AggA [EqA (strV ([76, 111, 97, 110] : Str)), iA 0, bA false, SlcA kAttr ([(Attr.mk ([115, 116, 97, 116, 101] : Str) 0 1 ([([111, 112, 101, 110] : Str), ([99, 108, 111, 115, 101, 100] : Str)]))])], AggA [EqA (strV ([80, 101, 114, 115, 111, 110] : Str)), iA (-1), bA false, SlcA kAttr []]]) (ys := [(NodeType.mk ([65, 99, 99, 111, 117, 110, 116] : Str) (-1) true ([(Attr.mk ([98, 97, 108, 97, 110, 99, 101] : Str) (-1000) 1000 [])])), (NodeType.mk ([67, 97, 115, 104] : Str) 0 false []), (NodeType.mk ([76, 111, 97, 110] : Str) 0 false ([(Attr.mk ([115, 116, 97, 116, 101] : Str) 0 1 ([([111, 112, 101, 110] : Str), ([99, 108, 111, 115, 101, 100] : Str)]))])), (NodeType.mk ([80, 101, 114, 115, 111, 110] : Str) (-1) false [])]) R R el32 R gr92 R R R (.cons (qy _) (.cons (qy _) (.cons (qy _) (.cons (qy _) .nil))))) (.cons (Imp.id _) (.cons (Imp.agg (.cons (Imp.id _) (.cons (Imp.id _) (.cons (Imp.id _) (.cons (Imp.nil kAttr) .nil))))) (.cons (Imp.id _) (.cons (Imp.agg (.cons (Imp.id _) (.cons (Imp.id _) (.cons (Imp.id _) (.cons (Imp.nil kAttr) .nil))))) .nil))))) <| WL.p R R R (.k (.k (.k (.k (.k (.k .nil)))))) (q_build (is := [0, 1, 2, 4, 5, 6]) (xs := [.const (.string ⟨#[111, 119, 110, 115]⟩), .const (.int .i64 3), .const (.int .i64 0), .const (.int .i64 (-1)), .const (.int .i64 1), .const (.int .i64 1)]) (L := [EqA (strV ([111, 119, 110, 115] : Str)), iA 3, iA 0, iA 0, iA (-1), iA 1, iA 1]) R R z97 pl97 R R (.cons (qW R) (.cons (qW R) (.cons (qW R) (.cons (qW R) (.cons (qW R) (.cons (qW R) .nil)))))) R) <| WL.p R R R (.k (.k (.k (.k (.k .nil))))) (q_build (is := [0, 1, 2, 4, 6]) (xs := [.const (.string ⟨#[112, 97, 121, 115]⟩), .const (.int .i64 1), .const (.int .i64 1), .const (.int .i64 (-1)), .const (.int .i64 (-1))]) (L := [EqA (strV ([112, 97, 121, 115] : Str)), iA 1, iA 1, iA 0, iA (-1), iA 0, iA (-1)]) R R z97 pl97 R R (.cons (qW R) (.cons (qW R) (.cons (qW R) (.cons (qW R) (.cons (qW R) .nil))))) R) <| p2 R 11 R 12 R (q_lit (kd := kEdgeType) (ps := [(0, .tmp 11), (1, .tmp 12)]) (xs := [.tmp 11, .tmp 12]) («as» := [AggA [EqA (strV ([111, 119, 110, 115] : Str)), iA 3, iA 0, iA 0, iA (-1), iA 1, iA 1], AggA [EqA (strV ([112, 97, 121, 115] : Str)), iA 1, iA 1, iA 0, iA (-1), iA 0, iA (-1)]]) (ys := [(EdgeType.mk ([111, 119, 110, 115] : Str) 3 0 0 (-1) 1 1), (EdgeType.mk ([112, 97, 121, 115] : Str) 1 1 0 (-1) 0 (-1))]) R R el33 R gr97 R R R (.cons (qy _) (.cons (qy _) .nil))) <| p2 R 10 R 13 R (q_build (is := [0, 1]) (xs := [.tmp 10, .tmp 13]) (L := [SlcA kNodeType ([(NodeType.mk ([65, 99, 99, 111, 117, 110, 116] : Str) (-1) true ([(Attr.mk ([98, 97, 108, 97, 110, 99, 101] : Str) (-1000) 1000 [])])), (NodeType.mk ([67, 97, 115, 104] : Str) 0 false []), (NodeType.mk ([76, 111, 97, 110] : Str) 0 false ([(Attr.mk ([115, 116, 97, 116, 101] : Str) 0 1 ([([111, 112, 101, 110] : Str), ([99, 108, 111, 115, 101, 100] : Str)]))])), (NodeType.mk ([80, 101, 114, 115, 111, 110] : Str) (-1) false [])]), SlcA kEdgeType ([(EdgeType.mk ([111, 119, 110, 115] : Str) 3 0 0 (-1) 1 1), (EdgeType.mk ([112, 97, 121, 115] : Str) 1 1 0 (-1) 0 (-1))])]) R R z35 pl35 R R (.cons (qW R) (.cons (qW R) .nil)) R) <| WL.w0 [0] R (qj R) R (.s 0 R (.s 14 R .nil)) (w_store (L := [SlcA kNodeType ([(NodeType.mk ([65, 99, 99, 111, 117, 110, 116] : Str) (-1) true ([(Attr.mk ([98, 97, 108, 97, 110, 99, 101] : Str) (-1000) 1000 [])])), (NodeType.mk ([67, 97, 115, 104] : Str) 0 false []), (NodeType.mk ([76, 111, 97, 110] : Str) 0 false ([(Attr.mk ([115, 116, 97, 116, 101] : Str) 0 1 ([([111, 112, 101, 110] : Str), ([99, 108, 111, 115, 101, 100] : Str)]))])), (NodeType.mk ([80, 101, 114, 115, 111, 110] : Str) (-1) false [])]), SlcA kEdgeType ([(EdgeType.mk ([111, 119, 110, 115] : Str) 3 0 0 (-1) 1 1), (EdgeType.mk ([112, 97, 121, 115] : Str) 1 1 0 (-1) 0 (-1))])]) R sh35 (qy _) R R (leB R) R) ?_
 rintro _ _ ⟨rfl, rfl⟩
 refine qx <| QN.to (StTo.still [0] 0 R R) <| qw (env' := [(0, _)]) (.one R (.nil _)) <| qq <| vq ?_
 cases h
 exact vW R R (.ps R sh35 R) (.id _)
theorem law21_two.con (k : Nat) (a0 : Test) (r : Pattern) (h : law21_two k a0 = some r) : Con Tryz.prog 38 [] [AggA [iA a0.fKind, iA a0.fLeft.fVar, iA a0.fLeft.fAdd, iA a0.fRight.fVar, iA a0.fRight.fAdd]] (RA (AggA [SlcA kInt r.fGraph.fNodes, SlcA kEdge r.fGraph.fEdges, SlcA kSlot r.fSlots, iA r.fVars, SlcA kTest r.fTests])) := by
 unfold law21_two at h
 refine vJ (N := 13) Tryz.func38 R R R fun w0_ fg_ => sr <| p1 R 0 R (q_box R (qy _)) <| WL.w [] R (qj R) R R .nil (w_alloc R z42 (l := [EqA (.slice none 0 0), EqA (.slice none 0 0), EqA (.slice none 0 0), iA 0, EqA (.slice none 0 0)]) R) ?_
 rintro _ _ ⟨b100, rfl, rfl⟩
 refine nx <| WL.p R R R (.k (.k .nil)) (q_lit (kd := kInt) (ps := [(0, .const (.int .i64 0)), (1, .const (.int .i64 0))]) (xs := [.const (.int .i64 0), .const (.int .i64 0)]) («as» := [iA 0, iA 0]) (ys := [0, 0]) R R el26 R gr3 R R R (.cons (qW R) (.cons (qW R) .nil))) <| p1 R 3 R (q_build (is := [0]) (xs := [.tmp 3]) (L := [SlcA kInt [0, 0], EqA (.slice none 0 0)]) R R z38 pl38 R R (.cons (qW R) .nil) R) <| WL.p R R R (.k .nil) (q_build (is := [0]) (xs := [.const (.int .i64 0)]) (L := [iA 0, iA 0]) R R z23 pl23 R R (.cons (qW R) .nil) R) <| WL.p R R R (.k (.s 5 R .nil)) (q_build (is := [0, 2]) (xs := [.const (.int .i64 0), .tmp 5]) (L := [iA 0, iA 0, iA 0, iA 0]) R R z113 pl113 R R (.cons (qW R) (.cons (qy _) .nil)) R) <| WL.p R R R (.k .nil) (q_build (is := [0]) (xs := [.const (.int .i64 1)]) (L := [iA 1, iA 0]) R R z23 pl23 R R (.cons (qW R) .nil) R) <| WL.p R R R (.k (.s 7 R .nil)) (q_build (is := [0, 2]) (xs := [.const (.int .i64 1), .tmp 7]) (L := [iA 1, iA 0, iA 1, iA 0]) R R z113 pl113 R R (.cons (qW R) (.cons (qy _) .nil)) R) <| p2 R 6 R 8 R (q_lit (kd := kSlot) (ps := [(0, .tmp 6), (1, .tmp 8)]) (xs := [.tmp 6, .tmp 8]) («as» := [AggA [iA 0, iA 0, iA 0, iA 0], AggA [iA 1, iA 0, iA 1, iA 0]]) (ys := [(Slot.mk 0 0 (Term.mk 0 0)), (Slot.mk 1 0 (Term.mk 1 0))]) R R el39 R gr113 R R R (.cons (qy _) (.cons (qy _) .nil))) <| lS R R sh86 R R <| p1 R 10 R (q_lit (kd := kTest) (ps := [(0, .tmp 10)]) (xs := [.tmp 10]) («as» := [AggA [iA a0.fKind, iA a0.fLeft.fVar, iA a0.fLeft.fAdd, iA a0.fRight.fVar, iA a0.fRight.fAdd]]) (ys := [a0]) R R el40 R gr86 R R R (.cons (qy _) .nil)) ?_
 refine WL.p R R R (.s 4 R (.k (.s 9 R (.s 11 R .nil)))) (q_build (is := [0, 2, 1, 3]) (xs := [.tmp 4, .const (.int .i64 2), .tmp 9, .tmp 11]) (L := [SlcA kInt [0, 0], EqA (.slice none 0 0), SlcA kSlot [(Slot.mk 0 0 (Term.mk 0 0)), (Slot.mk 1 0 (Term.mk 1 0))], iA 2, SlcA kTest [a0]]) R R z42 pl42 R R (.cons (qy _) (.cons (qW R) (.cons (qW R) (.cons (qW R) .nil)))) R) <| WL.w0 [0] R (qj R) R (.s 2 R (.s 12 R .nil)) (w_store (L := [SlcA kInt [0, 0], EqA (.slice none 0 0), SlcA kSlot [(Slot.mk 0 0 (Term.mk 0 0)), (Slot.mk 1 0 (Term.mk 1 0))], iA 2, SlcA kTest [a0]]) R sh42 (qy _) R R (leB R) R) ?_
 rintro _ _ ⟨rfl, rfl⟩
 refine qx <| QN.to (StTo.still [0] 2 R R) <| qw (env' := [(2, _)]) (.one R (.nil _)) <| qq <| vq ?_
 cases h
 exact vW R R (.ps R sh42 R) (.imp (Imp.agg (.cons (Imp.id _) (.cons (Imp.nil kEdge) (.cons (Imp.id _) (.cons (Imp.id _) (.cons (Imp.id _) .nil)))))))
theorem law21_bank.con (k : Nat) (r : Host) (h : law21_bank k = some r) : Con Tryz.prog 39 [] [] (RA (AggA [SlcA kInt r.fGraph.fNodes, SlcA kEdge r.fGraph.fEdges, SlcA (kSl kInt) r.fValues])) := by
 unfold law21_bank at h
 refine vJ (N := 10) Tryz.func39 R R R fun w0_ fg_ => sr <| WL.w [] R (qj R) R R .nil (w_alloc R z60 (l := [EqA (.slice none 0 0), EqA (.slice none 0 0), EqA (.slice none 0 0)]) R) ?_
 rintro _ _ ⟨b100, rfl, rfl⟩
 refine nx <| WL.p R R R (.k (.k (.k .nil))) (q_lit (kd := kInt) (ps := [(0, .const (.int .i64 3)), (1, .const (.int .i64 1)), (2, .const (.int .i64 1))]) (xs := [.const (.int .i64 3), .const (.int .i64 1), .const (.int .i64 1)]) («as» := [iA 3, iA 1, iA 1]) (ys := [3, 1, 1]) R R el26 R gr3 R R R (.cons (qW R) (.cons (qW R) (.cons (qW R) .nil)))) <| WL.p R R R (.k (.k (.k .nil))) (q_build (is := [0, 1, 2]) (xs := [.const (.int .i64 0), .const (.int .i64 0), .const (.int .i64 1)]) (L := [iA 0, iA 0, iA 1]) R R z109 pl109 R R (.cons (qW R) (.cons (qW R) (.cons (qW R) .nil))) R) <| WL.p R R R (.k (.k (.k .nil))) (q_build (is := [0, 1, 2]) (xs := [.const (.int .i64 0), .const (.int .i64 0), .const (.int .i64 2)]) (L := [iA 0, iA 0, iA 2]) R R z109 pl109 R R (.cons (qW R) (.cons (qW R) (.cons (qW R) .nil))) R) <| p2 R 2 R 3 R (q_lit (kd := kEdge) (ps := [(0, .tmp 2), (1, .tmp 3)]) (xs := [.tmp 2, .tmp 3]) («as» := [AggA [iA 0, iA 0, iA 1], AggA [iA 0, iA 0, iA 2]]) (ys := [(Edge.mk 0 0 1), (Edge.mk 0 0 2)]) R R el36 R gr109 R R R (.cons (qy _) (.cons (qy _) .nil))) <| p2 R 1 R 4 R (q_build (is := [0, 1]) (xs := [.tmp 1, .tmp 4]) (L := [SlcA kInt [3, 1, 1], SlcA kEdge [(Edge.mk 0 0 1), (Edge.mk 0 0 2)]]) R R z38 pl38 R R (.cons (qW R) (.cons (qW R) .nil)) R) <| WL.p R R R (.k .nil) (q_lit (kd := kInt) (ps := [(0, .const (.int .i64 10))]) (xs := [.const (.int .i64 10)]) («as» := [iA 10]) (ys := [10]) R R el26 R gr3 R R R (.cons (qW R) .nil)) <| WL.p R R R (.k .nil) (q_lit (kd := kInt) (ps := [(0, .const (.int .i64 5))]) (xs := [.const (.int .i64 5)]) («as» := [iA 5]) (ys := [5]) R R el26 R gr3 R R R (.cons (qW R) .nil)) <| WL.p R R R (.k (.s 6 R (.s 7 R .nil))) (QS.args (q_lit (kd := (kSl kInt)) (ps := [(0, .const (.slice none 0 0)), (1, .tmp 6), (2, .tmp 7)]) (xs := [.const (.slice none 0 0), .tmp 6, .tmp 7]) («as» := [SlcA kInt [], SlcA kInt [10], SlcA kInt [5]]) (ys := [[], [10], [5]]) R R el58 R gr26 R R R (.cons (qW R) (.cons (qW R) (.cons (qW R) .nil)))) (.cons (Imp.nil kInt) (.cons (Imp.id _) (.cons (Imp.id _) .nil)))) <| p2 R 5 R 8 R (q_build (is := [0, 1]) (xs := [.tmp 5, .tmp 8]) (L := [SlcA kInt [3, 1, 1], SlcA kEdge [(Edge.mk 0 0 1), (Edge.mk 0 0 2)], SlcA (kSl kInt) ([[], [10], [5]])]) R R z60 pl60 R R (.cons (qy _) (.cons (qW R) .nil)) R) ?_
 refine WL.w0 [0] R (qj R) R (.s 0 R (.s 9 R .nil)) (w_store (L := [SlcA kInt [3, 1, 1], SlcA kEdge [(Edge.mk 0 0 1), (Edge.mk 0 0 2)], SlcA (kSl kInt) ([[], [10], [5]])]) R sh60 (qy _) R R (leB R) R) ?_
 rintro _ _ ⟨rfl, rfl⟩
 refine qx <| QN.to (StTo.still [0] 0 R R) <| qw (env' := [(0, _)]) (.one R (.nil _)) <| qq <| vq ?_
 cases h
 exact vW R R (.ps R sh60 R) (.id _)
theorem token_letter.con (k : Nat) (a0 : Int) (r : Bool) (h : token_letter k a0 = some r) : Con Tryz.prog 212 [] [EqA (.int .u8 a0)] (RA (bA r)) := by
 unfold token_letter at h
 refine vJ (N := 17) Tryz.func212 R R R fun w0_ fg_ => sr <| ak R <| nt <| qX ?_
 refine W.jn1 (Γ := Unit) (fun (_ : Unit) (x2 : Bool) => [(2, bA x2)]) (fun (_ : Unit) (_ : Bool) => []) h (fun _ x2 h => ?_) (fun j105 Kj105 h => ?_)
 ·refine qq <| vq ?_
  cases h
  exact vW R R (.t R) (.id _)
 ·refine qJ <| mv R R <| pk R 3 R (qN R R) <| mv R R ?_
  rcases bif_s h with ⟨hb106, h⟩ | ⟨hb106, h⟩
  ·refine wm R R R hb106 R R <| wq R R R hb106 (.s 6 R (.k .nil)) (qN R R).o <| p2 R 5 R 7 R (vQ R hb106) <| mv R R ?_
   rcases bif_s h with ⟨hb107, h⟩ | ⟨hb107, h⟩
   ·refine sk R R R hb107 <| sk R R R hb107 <| sk R R R hb107 <| su R R R <| su R R R <| sk R R R hb107 <| pk R 9 R (vQ R hb107) <| av R R <| qx ?_
    exact qw (.one R (.nil _)) (Kj105 () true h)
   ·refine wm R R R hb107 R R <| wq R R R hb107 (.s 10 R (.k .nil)) (qN R R).o <| wm R R R hb107 R R ?_
    rcases bif_s h with ⟨hb108, h⟩ | ⟨hb108, h⟩
    ·refine wm R R R hb108 R R <| wq R R R hb108 (.s 13 R (.k .nil)) (qN R R).o <| wq R R R hb107 (.s 12 R (.s 14 R .nil)) (vQ R hb108).o <| p2 R 9 R 15 R (vj R hb107) <| av R R <| qx ?_
     exact qw (.one R (.nil _)) (Kj105 () (decide (a0 ≤ 90)) h)
    ·refine sk R R R hb108 <| sk R R R hb108 <| wq R R R hb107 (.s 12 R (.k .nil)) (vj R hb108).o <| p2 R 9 R 15 R (vj R hb107) <| av R R <| qx ?_
     exact qw (.one R (.nil _)) (Kj105 () false h)
  ·refine sk R R R hb106 <| sk R R R hb106 <| pk R 5 R (vj R hb106) <| mv R R <| wm R R R R R R <| wq R R R R (.s 10 R (.k .nil)) (qN R R).o <| wm R R R R R R ?_
   rcases bif_s h with ⟨hb109, h⟩ | ⟨hb109, h⟩
   ·refine wm R R R hb109 R R <| wq R R R hb109 (.s 13 R (.k .nil)) (qN R R).o <| wq R R R R (.s 12 R (.s 14 R .nil)) (vQ R hb109).o <| p2 R 9 R 15 R (vj R R) <| av R R <| qx ?_
    exact qw (.one R (.nil _)) (Kj105 () (decide (a0 ≤ 90)) h)
   ·refine sk R R R hb109 <| sk R R R hb109 <| wq R R R R (.s 12 R (.k .nil)) (vj R hb109).o <| p2 R 9 R 15 R (vj R R) <| av R R <| qx ?_
    exact qw (.one R (.nil _)) (Kj105 () false h)
theorem token_run.con (k : Nat) (a0 : Str) (a1 : (Int → Option Bool)) (r : Int) (h : token_run k a0 a1 = some r) : Con Tryz.prog 213 [] [EqA (strV a0), FnA Tryz.prog (fun (x : Int) => [EqA (.int .u8 x)]) (fun (y : Bool) => bA y) a1] (RA (iA r)) := by
 unfold token_run at h
 refine vJ (N := 20) Tryz.func213 R R R fun w0_ fg_ => sr <| ak R <| nx <| ak R <| nt <| qX <| vx ?_
 refine W.loop1 (Γ := Unit) (fun (_ : Unit) (x5 : Int) => [(0, EqA (strV a0)), (1, FnA Tryz.prog (fun (x : Int) => [EqA (.int .u8 x)]) (fun (y : Bool) => bA y) a1), (5, iA x5)]) (fun (_ : Unit) (_ : Int) => []) h () (.o2 R (.one R (.nil _))) R (fun rec0 K0 next0 _ x5 h => ?_)
 unfold token_run.b0 at h
 refine qX <| qX ?_
 refine W.jn1 (Γ := Unit) (fun (_ : Unit) (x16 : Bool) => [(0, EqA (strV a0)), (1, FnA Tryz.prog (fun (x : Int) => [EqA (.int .u8 x)]) (fun (y : Bool) => bA y) a1), (5, iA x5), (16, bA x16)]) (fun (_ : Unit) (_ : Bool) => []) h (fun _ x16 h => ?_) (fun j124 Kj124 h => ?_)
 ·refine qq ?_
  refine qZ h R (fun hb125 h => ?_) (fun hb125 h => ?_)
  ·refine qB <| qq <| vx <| qJ <| mv R R ?_
   obtain ⟨c126, h⟩ := qK h
   refine pk R 17 R (vK R c126) <| av R R <| qx <| vZ ?_
   exact next0 () (x5 + 1) _ h (.o2 R (.one R (.nil _)))
  ·refine W.exit <| qV <| qV <| vB <| qq <| sr <| mv R R <| av R R <| nt <| vq ?_
   cases h
   exact vW R R (.t R) (.id _)
 ·refine qJ <| mv R R <| mv R R <| p1 R 7 R (q_slen (s := a0) R iss9) <| p2 R 6 R 8 R (qN R R) <| mv R R ?_
  rcases bif_s h with ⟨hb127, h⟩ | ⟨hb127, h⟩
  ·refine wm R R R hb127 R R <| wm R R R hb127 R R <| wm R R R hb127 R R ?_
   obtain ⟨c128, h⟩ := qK h
   refine wq R R R hb127 (.s 12 R (.s 13 R .nil)) (q_sindex R iss9 c128.1 c128.2).o ?_
   obtain ⟨t129, ht129, h⟩ := vw h
   refine wq R R R hb127 (.s 11 R (.s 14 R .nil)) (q_callV («as» := (fun (x : Int) => [EqA (.int .u8 x)])) (res := (fun (y : Bool) => bA y)) (x := (bt a0 x5)) (y := t129) (xs := [.tmp 14]) R ht129 R).o <| p2 R 10 R 15 R (vQ R hb127) <| qx ?_
   exact qw (.o4 R (.nil _)) (Kj124 () t129 h)
  ·refine sk R R R hb127 <| sk R R R hb127 <| sk R R R hb127 <| sk R R R hb127 <| sk R R R hb127 <| pk R 10 R (vj R hb127) <| qx ?_
   exact qw (.o4 R (.nil _)) (Kj124 () false h)
theorem token_digit.con (k : Nat) (a0 : Int) (r : Bool) (h : token_digit k a0 = some r) : Con Tryz.prog 215 [] [EqA (.int .u8 a0)] (RA (bA r)) := by
 unfold token_digit at h
 refine vJ (N := 9) Tryz.func215 R R R fun w0_ fg_ => sr <| ak R <| nt <| qX ?_
 refine W.jn1 (Γ := Unit) (fun (_ : Unit) (x2 : Bool) => [(2, bA x2)]) (fun (_ : Unit) (_ : Bool) => []) h (fun _ x2 h => ?_) (fun j102 Kj102 h => ?_)
 ·refine qq <| vq ?_
  cases h
  exact vW R R (.t R) (.id _)
 ·refine qJ <| mv R R <| pk R 3 R (qN R R) <| mv R R ?_
  rcases bif_s h with ⟨hb103, h⟩ | ⟨hb103, h⟩
  ·refine wm R R R hb103 R R <| wq R R R hb103 (.s 6 R (.k .nil)) (qN R R).o <| p2 R 5 R 7 R (vQ R hb103) <| av R R <| qx ?_
   exact qw (.one R (.nil _)) (Kj102 () (decide (a0 ≤ 57)) h)
  ·refine sk R R R hb103 <| sk R R R hb103 <| pk R 5 R (vj R hb103) <| av R R <| qx ?_
   exact qw (.one R (.nil _)) (Kj102 () false h)
theorem token_part.con (k : Nat) (a0 : Int) (r : Bool) (h : token_part k a0 = some r) : Con Tryz.prog 214 [] [EqA (.int .u8 a0)] (RA (bA r)) := by
 unfold token_part at h
 refine vJ (N := 13) Tryz.func214 R R R fun w0_ fg_ => sr <| ak R <| nt <| qX ?_
 refine W.jn1 (Γ := Unit) (fun (_ : Unit) (x2 : Bool) => [(2, bA x2)]) (fun (_ : Unit) (_ : Bool) => []) h (fun _ x2 h => ?_) (fun j105 Kj105 h => ?_)
 ·refine qq <| vq ?_
  cases h
  exact vW R R (.t R) (.id _)
 ·refine qJ <| mv R R ?_
  obtain ⟨t106, ht106, h⟩ := vw h
  refine p1 R 3 R (vy (f := 212) (A := bA t106) (xs := [.tmp 3]) («as» := [EqA (.int .u8 a0)]) R ca212 (token_letter.con k a0 t106 ht106) R) <| mv R R ?_
  rcases bif_s h with ⟨hb107, h⟩ | ⟨hb107, h⟩
  ·refine sk R R R hb107 <| sk R R R hb107 <| pk R 5 R (vQ R hb107) <| mv R R <| sk R R R R <| sk R R R R <| pk R 9 R (vQ R R) <| av R R <| qx ?_
   exact qw (.one R (.nil _)) (Kj105 () true h)
  ·refine wm R R R hb107 R R ?_
   obtain ⟨t108, ht108, h⟩ := vw h
   refine wq R R R hb107 (.s 6 R .nil) (vy (f := 215) (A := bA t108) (xs := [.tmp 6]) («as» := [EqA (.int .u8 a0)]) R ca215 (token_digit.con k a0 t108 ht108) R).o <| p2 R 5 R 7 R (vj R hb107) <| mv R R ?_
   rcases bif_s h with ⟨hb109, h⟩ | ⟨hb109, h⟩
   ·refine sk R R R hb109 <| sk R R R hb109 <| pk R 9 R (vQ R hb109) <| av R R <| qx ?_
    exact qw (.one R (.nil _)) (Kj105 () true h)
   ·refine wm R R R hb109 R R <| wq R R R hb109 (.s 10 R (.k .nil)) (qN R R).o <| p2 R 9 R 11 R (vj R hb109) <| av R R <| qx ?_
    exact qw (.one R (.nil _)) (Kj105 () (a0 == 95) h)
theorem token_quoted_1.con (k : Nat) (a0 : Int) (r : Bool) (h : token_quoted_1 k a0 = some r) : Con Tryz.prog 236 [] [EqA (.int .u8 a0)] (RA (bA r)) := by
 unfold token_quoted_1 at h
 refine vJ (N := 13) Tryz.func236 R R R fun w0_ fg_ => sr <| ak R <| nt <| qX ?_
 refine W.jn1 (Γ := Unit) (fun (_ : Unit) (x2 : Bool) => [(2, bA x2)]) (fun (_ : Unit) (_ : Bool) => []) h (fun _ x2 h => ?_) (fun j103 Kj103 h => ?_)
 ·refine qq <| vq ?_
  cases h
  exact vW R R (.t R) (.id _)
 ·refine qJ <| mv R R <| pk R 3 R (qN R R) <| mv R R ?_
  rcases bif_s h with ⟨hb104, h⟩ | ⟨hb104, h⟩
  ·refine wm R R R hb104 R R <| wq R R R hb104 (.s 6 R (.k .nil)) (qN R R).o <| p2 R 5 R 7 R (vQ R hb104) <| mv R R ?_
   rcases bif_s h with ⟨hb105, h⟩ | ⟨hb105, h⟩
   ·refine wm R R R hb105 R R <| wq R R R hb105 (.s 10 R (.k .nil)) (qN R R).o <| p2 R 9 R 11 R (vQ R hb105) <| av R R <| qx ?_
    exact qw (.one R (.nil _)) (Kj103 () (a0 != 34) h)
   ·refine sk R R R hb105 <| sk R R R hb105 <| pk R 9 R (vj R hb105) <| av R R <| qx ?_
    exact qw (.one R (.nil _)) (Kj103 () false h)
  ·refine sk R R R hb104 <| sk R R R hb104 <| pk R 5 R (vj R hb104) <| mv R R <| sk R R R R <| sk R R R R <| pk R 9 R (vj R R) <| av R R <| qx ?_
   exact qw (.one R (.nil _)) (Kj103 () false h)
theorem token_quoted.con (k : Nat) (a0 : Str) (r : (Int × Int)) (h : token_quoted k a0 = some r) : Con Tryz.prog 216 [] [EqA (strV a0)] (RA (TupA [iA r.1, iA r.2])) := by
 unfold token_quoted at h
 refine vJ (N := 24) Tryz.func216 R R R fun w0_ fg_ => sr <| ak R <| ak R <| nx <| mv R R ?_
 obtain ⟨c100, h⟩ := qK h
 refine pk R 5 R (q_ssubL R iss9 c100.1 c100.2) ?_
 obtain ⟨t101, ht101, h⟩ := vw h
 refine WL.p R R R (.s 6 R (.f («as» := (fun (x : Int) => [EqA (.int .u8 x)])) (res := (fun (y : Bool) => bA y)) (p := fun x => token_quoted_1 k x) ca236 (fun x y hp => token_quoted_1.con k x y hp) .nil)) (vy (f := 213) (A := iA t101) (xs := [.tmp 6, .func 236]) («as» := [EqA (strV (a0.drop (1 : Int).toNat)), FnA Tryz.prog (fun (x : Int) => [EqA (.int .u8 x)]) (fun (y : Bool) => bA y) (fun x => token_quoted_1 k x)]) R ca213 (token_run.con k (a0.drop (1 : Int).toNat) (fun x => token_quoted_1 k x) t101 ht101) R) <| av R R <| nt <| qX <| qX ?_
 refine W.jn1 (Γ := Unit) (fun (_ : Unit) (x19 : Bool) => [(4, iA t101), (19, bA x19)]) (fun (_ : Unit) (_ : Bool) => []) h (fun _ x19 h => ?_) (fun j107 Kj107 h => ?_)
 ·refine qq ?_
  refine qZ h R (fun hb108 h => ?_) (fun hb108 h => ?_)
  ·refine sr <| ak R <| ak R <| nt <| vq <| qQ ?_
   cases h
   exact QR.f2 R R (.t R) (.t R) (.id _)
  ·refine qB <| qq <| qX <| sr <| mv R R <| pk R 20 R (qN R R) <| nt ?_
   refine qZ h R (fun hb109 h => ?_) (fun hb109 h => ?_)
   ·refine sr <| ak R <| ak R <| nt <| vq <| qQ ?_
    cases h
    exact QR.f2 R R (.t R) (.t R) (.id _)
   ·refine qB <| qq <| sr <| mv R R ?_
    obtain ⟨c110, h⟩ := qK h
    refine pk R 22 R (vK R c110) <| av R R <| ak R <| nt <| vq ?_
    cases h
    exact QR.f2 R R (.t R) (.t R) (.id _)
 ·refine qJ <| mv R R ?_
  obtain ⟨c111, h⟩ := qK h
  refine WL.p R R R (.k (.s 8 R .nil)) (vK R c111) <| mv R R <| p1 R 10 R (q_slen (s := a0) R iss9) <| p2 R 9 R 11 R (qN R R) <| mv R R ?_
  rcases bif_s h with ⟨hb112, h⟩ | ⟨hb112, h⟩
  ·refine sk R R R hb112 <| sk R R R hb112 <| sk R R R hb112 <| sk R R R hb112 <| sk R R R hb112 <| pk R 13 R (vQ R hb112) <| qx ?_
   exact qw (.o2 R (.nil _)) (Kj107 () true h)
  ·refine wm R R R hb112 R R <| wm R R R hb112 R R ?_
   obtain ⟨c113, h⟩ := qK h
   refine wq R R R hb112 (.k (.s 15 R .nil)) (vK R c113).o ?_
   obtain ⟨c114, h⟩ := qK h
   refine wq R R R hb112 (.s 14 R (.s 16 R .nil)) (q_sindex R iss9 c114.1 c114.2).o <| wq R R R hb112 (.s 17 R (.k .nil)) (qN R R).o <| p2 R 13 R 18 R (vj R hb112) <| qx ?_
   exact qw (.o2 R (.nil _)) (Kj107 () ((bt a0 (1 + t101)) != 34) h)
theorem slices_Index_string.con (k : Nat) (a0 : (List Str)) (a1 : Str) (r : Int) (h : slices_Index_string k a0 a1 = some r) : Con Tryz.prog 219 [] [SlcA kStr a0, EqA (strV a1)] (RA (iA r)) := by
 unfold slices_Index_string at h
 refine vJ (N := 19) Tryz.func219 R R R fun w0_ fg_ => sr <| ak R <| nt <| qX <| sr <| mv R R <| p1 R 6 R (vN R elS93) <| mk_ R <| qx ?_
 refine qq <| vx ?_
 refine W.loop1 (Γ := Unit) (fun (_ : Unit) (x8 : Int) => [(0, SlcA kStr a0), (1, EqA (strV a1)), (7, iA (a0.length : Int)), (8, iA x8)]) (fun (_ : Unit) (_ : Int) => []) h () (.o4 R (.nil _)) R (fun rec0 K0 next0 _ x8 h => ?_)
 unfold slices_Index_string.b0 at h
 refine sr <| p2 R 8 R 7 R (qN R R) <| nt <| qX ?_
 refine qZ h R (fun hb108 h => ?_) (fun hb108 h => ?_)
 ·refine qB <| qq <| qX <| vx <| sr <| mv R R <| av R R <| nx <| mv R R ?_
  refine mv R R <| mv R R ?_
  obtain ⟨c109, h⟩ := qK h
  refine p2 R 12 R 13 R (vX R el93 R c109.1 c109.2) <| ld R R sh9 <| p2 R 11 R 15 R (q_str (s := a1) (t := (rd a0 x8)) R) <| qx <| qw (env' := [(16, _), (5, _), (8, _), (7, _), (1, _), (0, _)]) (.o4 R (.o2 R (.nil _))) <| qq ?_
  refine qZ h R (fun hb110 h => ?_) (fun hb110 h => ?_)
  ·refine sr <| mv R R <| av R R <| qx <| qw (env' := [(4, _)]) (.one R (.nil _)) <| qq <| vq <| vz <| qQ <| qQ <| vz <| qQ ?_
   cases h
   exact vW R R (.t R) (.id _)
  ·refine qB <| vZ <| qq <| qJ ?_
   obtain ⟨c111, h⟩ := qK h
   refine pk R 8 R (vK R c111) <| mv R R <| qx ?_
   exact next0 () (x8 + 1) _ h (.o4 R (.nil _))
 ·refine W.exit <| qV <| qV <| vB <| qq <| sr <| ak R <| nt <| vq ?_
  cases h
  exact vW R R (.t R) (.id _)
theorem slices_Contains_string.con (k : Nat) (a0 : (List Str)) (a1 : Str) (r : Bool) (h : slices_Contains_string k a0 a1 = some r) : Con Tryz.prog 201 [] [SlcA kStr a0, EqA (strV a1)] (RA (bA r)) := by
 unfold slices_Contains_string at h
 refine vJ (N := 9) Tryz.func201 R R R fun w0_ fg_ => sr <| ak R <| nx <| mv R R <| mv R R ?_
 obtain ⟨t100, ht100, h⟩ := vw h
 refine p2 R 5 R 6 R (vy (f := 219) (A := iA t100) (xs := [.tmp 5, .tmp 6]) («as» := [SlcA kStr a0, EqA (strV a1)]) R ca219 (slices_Index_string.con k a0 a1 t100 ht100) R) <| pk R 7 R (qN R R) <| av R R <| nt <| vq ?_
 cases h
 exact vW R R (.t R) (.id _)
theorem token_pair.con (k : Nat) (a0 : Str) (r : Bool) (h : token_pair k a0 = some r) : Con Tryz.prog 217 [] [EqA (strV a0)] (RA (bA r)) := by
 unfold token_pair at h
 refine vJ (N := 12) Tryz.func217 R R R fun w0_ fg_ => sr <| ak R <| nt <| qX ?_
 refine W.jn1 (Γ := Unit) (fun (_ : Unit) (x2 : Bool) => [(2, bA x2)]) (fun (_ : Unit) (_ : Bool) => []) h (fun _ x2 h => ?_) (fun j104 Kj104 h => ?_)
 ·refine qq <| vq ?_
  cases h
  exact vW R R (.t R) (.id _)
 ·refine qJ <| mv R R <| p1 R 3 R (q_slen (s := a0) R iss9) <| pk R 4 R (qN R R) <| mv R R ?_
  rcases bif_s h with ⟨hb105, h⟩ | ⟨hb105, h⟩
  ·refine wq R R R hb105 (.k (.k (.k (.k (.k .nil))))) (q_lit (kd := kStr) (ps := [(0, .const (.string ⟨#[45, 62]⟩)), (1, .const (.string ⟨#[60, 61]⟩)), (2, .const (.string ⟨#[62, 61]⟩)), (3, .const (.string ⟨#[61, 61]⟩)), (4, .const (.string ⟨#[33, 61]⟩))]) (xs := [.const (.string ⟨#[45, 62]⟩), .const (.string ⟨#[60, 61]⟩), .const (.string ⟨#[62, 61]⟩), .const (.string ⟨#[61, 61]⟩), .const (.string ⟨#[33, 61]⟩)]) («as» := [EqA (strV ([45, 62] : Str)), EqA (strV ([60, 61] : Str)), EqA (strV ([62, 61] : Str)), EqA (strV ([61, 61] : Str)), EqA (strV ([33, 61] : Str))]) (ys := [([45, 62] : Str), ([60, 61] : Str), ([62, 61] : Str), ([61, 61] : Str), ([33, 61] : Str)]) R R el93 R gr9 R R R (.cons (qW R) (.cons (qW R) (.cons (qW R) (.cons (qW R) (.cons (qW R) .nil)))))).o <| wm R R R hb105 R R ?_
   obtain ⟨c106, h⟩ := qK h
   refine wq R R R hb105 (.s 8 R (.k .nil)) (q_ssubH R iss9 c106.1 c106.2).o ?_
   obtain ⟨t107, ht107, h⟩ := vw h
   refine wq R R R hb105 (.s 7 R (.s 9 R .nil)) (vy (f := 201) (A := bA t107) (xs := [.tmp 7, .tmp 9]) («as» := [SlcA kStr ([([45, 62] : Str), ([60, 61] : Str), ([62, 61] : Str), ([61, 61] : Str), ([33, 61] : Str)]), EqA (strV (a0.take (2 : Int).toNat))]) R ca201 (slices_Contains_string.con k ([([45, 62] : Str), ([60, 61] : Str), ([62, 61] : Str), ([61, 61] : Str), ([33, 61] : Str)]) (a0.take (2 : Int).toNat) t107 ht107) R).o <| p2 R 6 R 10 R (vQ R hb105) <| av R R <| qx ?_
   exact qw (.one R (.nil _)) (Kj104 () t107 h)
  ·refine sk R R R hb105 <| sk R R R hb105 <| sk R R R hb105 <| sk R R R hb105 <| pk R 6 R (vj R hb105) <| av R R <| qx ?_
   exact qw (.one R (.nil _)) (Kj104 () false h)
theorem TryzIdx : Extern.find Tryz.f243 = some Extern.BytealgIndexByte.indexByte := by kernel_rfl
theorem stringslite_IndexByte.con (k : Nat) (a0 : Str) (a1 : Int) (r : Int) (h : stringslite_IndexByte k a0 a1 = some r) : Con Tryz.prog 237 [] [EqA (strV a0), EqA (.int .u8 a1)] (RA (iA r)) := by
  unfold stringslite_IndexByte at h
  cases h
  refine vJ (N := 8) Tryz.func237 R R R fun w0_ fg_ => ?_
  refine qX (qJ (ak R (qx (qq ?_))))
  refine qX (qJ ?_)
  refine mv R R ?_
  refine mv R R ?_
  refine p2 R 5 R 6 R (q_indexByte (f := 243) R Tryz.func243 (by kernel_rfl) R (by kernel_rfl) TryzIdx) ?_
  refine av R R ?_
  refine qx (qq ?_)
  exact vq (vW R R (.t R) (.id _))
theorem strings_IndexByte.con (k : Nat) (a0 : Str) (a1 : Int) (r : Int) (h : strings_IndexByte k a0 a1 = some r) : Con Tryz.prog 218 [] [EqA (strV a0), EqA (.int .u8 a1)] (RA (iA r)) := by
 unfold strings_IndexByte at h
 refine vJ (N := 8) Tryz.func218 R R R fun w0_ fg_ => sr <| ak R <| nx <| mv R R <| mv R R ?_
 obtain ⟨t100, ht100, h⟩ := vw h
 refine p2 R 5 R 6 R (vy (f := 237) (A := iA t100) (xs := [.tmp 5, .tmp 6]) («as» := [EqA (strV a0), EqA (.int .u8 a1)]) R ca237 (stringslite_IndexByte.con k a0 a1 t100 ht100) R) <| av R R <| nt <| vq ?_
 cases h
 exact vW R R (.t R) (.id _)
theorem token_next.con (k : Nat) (a0 : Str) (r : (Int × Int × Int)) (h : token_next k a0 = some r) : Con Tryz.prog 199 [] [EqA (strV a0)] (RA (TupA [iA r.1, iA r.2.1, iA r.2.2])) := by
 unfold token_next at h
 refine vJ (N := 45) Tryz.func199 R R R fun w0_ fg_ => sr <| ak R <| ak R <| ak R <| nx <| mv R R ?_
 obtain ⟨c100, h⟩ := qK h
 refine pk R 10 R (q_sindex R iss9 c100.1 c100.2) <| av R R <| nt <| qX <| vx <| sr <| mv R R ?_
 obtain ⟨t101, ht101, h⟩ := vw h
 refine p1 R 13 R (vy (f := 212) (A := bA t101) (xs := [.tmp 13]) («as» := [EqA (.int .u8 (bt a0 0))]) R ca212 (token_letter.con k (bt a0 0) t101 ht101) R) <| av R R <| qx <| qw (env' := [(12, _), (5, _), (0, _)]) (.o2 R (.one R (.nil _))) <| qq ?_
 refine qZ h R (fun hb102 h => ?_) (fun hb102 h => ?_)
 ·refine sr <| mv R R ?_
  obtain ⟨t103, ht103, h⟩ := vw h
  refine WL.p R R R (.s 15 R (.f («as» := (fun (x : Int) => [EqA (.int .u8 x)])) (res := (fun (y : Bool) => bA y)) (p := fun x => token_part k x) ca214 (fun x y hp => token_part.con k x y hp) .nil)) (vy (f := 213) (A := iA t103) (xs := [.tmp 15, .func 214]) («as» := [EqA (strV a0), FnA Tryz.prog (fun (x : Int) => [EqA (.int .u8 x)]) (fun (y : Bool) => bA y) (fun x => token_part k x)]) R ca213 (token_run.con k a0 (fun x => token_part k x) t103 ht103) R) <| av R R <| nt <| qX <| sr <| mv R R <| pk R 17 R (qN R R) <| nt ?_
  refine qZ h R (fun hb104 h => ?_) (fun hb104 h => ?_)
  ·refine sr <| ak R <| ak R <| ak R <| qx <| qw (env' := [(4, _), (3, _), (2, _)]) (.o2 R (.one R (.nil _))) <| qq <| vq <| qQ <| vz <| qQ ?_
   cases h
   exact QR.f3 R R (.t R) (.t R) (.t R) (.id _)
  ·refine qB <| qw (env' := [(6, _)]) (.one R (.nil _)) <| qq <| sr <| mv R R <| ak R <| av R R <| ak R <| nt <| vq <| vz ?_
   refine qQ ?_
   cases h
   exact QR.f3 R R (.t R) (.t R) (.t R) (.id _)
 ·refine sr <| mv R R ?_
  obtain ⟨t105, ht105, h⟩ := vw h
  refine p1 R 21 R (vy (f := 215) (A := bA t105) (xs := [.tmp 21]) («as» := [EqA (.int .u8 (bt a0 0))]) R ca215 (token_digit.con k (bt a0 0) t105 ht105) R) <| av R R <| nt ?_
  refine qZ h R (fun hb106 h => ?_) (fun hb106 h => ?_)
  ·refine sr <| mv R R ?_
   obtain ⟨t107, ht107, h⟩ := vw h
   refine WL.p R R R (.s 23 R (.f («as» := (fun (x : Int) => [EqA (.int .u8 x)])) (res := (fun (y : Bool) => bA y)) (p := fun x => token_digit k x) ca215 (fun x y hp => token_digit.con k x y hp) .nil)) (vy (f := 213) (A := iA t107) (xs := [.tmp 23, .func 215]) («as» := [EqA (strV a0), FnA Tryz.prog (fun (x : Int) => [EqA (.int .u8 x)]) (fun (y : Bool) => bA y) (fun x => token_digit k x)]) R ca213 (token_run.con k a0 (fun x => token_digit k x) t107 ht107) R) <| av R R <| qx <| qw (env' := [(7, _)]) (.one R (.nil _)) <| qq <| qX <| sr <| mv R R <| pk R 25 R (qN R R) <| nt ?_
   refine qZ h R (fun hb108 h => ?_) (fun hb108 h => ?_)
   ·refine sr <| ak R <| ak R <| ak R <| nt <| vq <| qQ <| vz <| qQ ?_
    cases h
    exact QR.f3 R R (.t R) (.t R) (.t R) (.id _)
   ·refine qB <| qq <| sr <| mv R R <| ak R <| av R R <| ak R <| nt <| vq <| vz <| qQ ?_
    cases h
    exact QR.f3 R R (.t R) (.t R) (.t R) (.id _)
  ·refine sr <| mv R R <| pk R 29 R (qN R R) <| av R R <| nt ?_
   refine qZ h R (fun hb109 h => ?_) (fun hb109 h => ?_)
   ·refine sr <| mv R R ?_
    obtain ⟨t110, ht110, h⟩ := vw h
    refine p1 R 32 R (vy (f := 216) (A := TupA [iA t110.1, iA t110.2]) (xs := [.tmp 32]) («as» := [EqA (strV a0)]) R ca216 (token_quoted.con k a0 t110 ht110) R) <| mv R R <| p1 R 31 R (vV R R) <| p1 R 31 R (vV R R) <| av R R <| av R R <| qx <| qw (env' := [(9, _), (8, _)]) (.o2 R (.nil _)) <| qq <| sr <| mv R R <| mv R R ?_
    refine ak R <| av R R <| av R R <| nt <| vq <| vz <| qQ ?_
    cases h
    exact QR.f3 R R (.t R) (.t R) (.t R) (.id _)
   ·refine sr <| mv R R ?_
    obtain ⟨t111, ht111, h⟩ := vw h
    refine p1 R 39 R (vy (f := 217) (A := bA t111) (xs := [.tmp 39]) («as» := [EqA (strV a0)]) R ca217 (token_pair.con k a0 t111 ht111) R) <| av R R <| qx <| qw (env' := [(38, _), (5, _)]) (.o2 R (.nil _)) <| qq ?_
    refine qZ h R (fun hb112 h => ?_) (fun hb112 h => ?_)
    ·refine sr <| ak R <| ak R <| ak R <| nt <| vq <| vz <| qQ ?_
     cases h
     exact QR.f3 R R (.t R) (.t R) (.t R) (.id _)
    ·refine sr <| mv R R ?_
     obtain ⟨t113, ht113, h⟩ := vw h
     refine WL.p R R R (.k (.s 42 R .nil)) (vy (f := 218) (A := iA t113) (xs := [.const (.string ⟨#[123, 125, 40, 41, 91, 93, 44, 59, 58, 61, 43, 45, 42, 60, 62, 33, 38, 124, 46, 63]⟩), .tmp 42]) («as» := [EqA (strV ([123, 125, 40, 41, 91, 93, 44, 59, 58, 61, 43, 45, 42, 60, 62, 33, 38, 124, 46, 63] : Str)), EqA (.int .u8 (bt a0 0))]) R ca218 (strings_IndexByte.con k ([123, 125, 40, 41, 91, 93, 44, 59, 58, 61, 43, 45, 42, 60, 62, 33, 38, 124, 46, 63] : Str) (bt a0 0) t113 ht113) R) <| pk R 43 R (qN R R) <| av R R <| nt ?_
     refine qZ h R (fun hb114 h => ?_) (fun hb114 h => ?_)
     ·refine sr <| ak R <| ak R <| ak R <| nt <| vq <| vz <| qQ ?_
      cases h
      exact QR.f3 R R (.t R) (.t R) (.t R) (.id _)
     ·refine qB <| vZ <| qq <| sr <| ak R <| ak R <| ak R <| nt <| vq ?_
      cases h
      exact QR.f3 R R (.t R) (.t R) (.t R) (.id _)
theorem token_whole.con (k : Nat) (a0 : Token) (r : (Str × Bool)) (h : token_whole k a0 = some r) : Con Tryz.prog 175 [] [AggA [iA a0.fKind, EqA (strV a0.fText), iA a0.fLine]] (RA (TupA [EqA (strV r.1), bA r.2])) := by
 unfold token_whole at h
 refine vJ (N := 39) Tryz.func175 R R R fun w0_ fg_ => sr <| p1 R 0 R (q_box R (qy _)) <| ak R <| ak R <| nx <| fd R R fo226_1 R <| ld R R sh9 <| av R R ?_
 refine nt <| qX <| sr <| fd R R fo226_0 R <| ld R R sh3 <| pk R 11 R (qN R R) <| qx <| qw (env' := [(12, _), (4, _), (1, _)]) (.o2 R (.one R (.nil _))) <| qq ?_
 refine W.jn1 (Γ := Unit) (fun (_ : Unit) (x4 : Str) => [(1, PtrA [iA a0.fKind, EqA (strV a0.fText), iA a0.fLine]), (4, EqA (strV x4))]) (fun (_ : Unit) (_ : Str) => []) h (fun _ x4 h => ?_) (fun j104 Kj104 h => ?_)
 ·refine qq <| qX <| sr <| mv R R <| pk R 16 R (q_str (s := x4) (t := ([] : Str)) R) <| nt ?_
  refine qZ h R (fun hb105 h => ?_) (fun hb105 h => ?_)
  ·refine sr <| ak R <| ak R <| nt <| vq <| qQ ?_
   cases h
   exact QR.f2 R R (.t R) (.t R) (.id _)
  ·refine qB <| qq <| sr <| mv R R ?_
   obtain ⟨t106, ht106, h⟩ := vw h
   refine p1 R 19 R (vy (f := 199) (A := TupA [iA t106.1, iA t106.2.1, iA t106.2.2]) (xs := [.tmp 19]) («as» := [EqA (strV x4)]) R ca199 (token_next.con k x4 t106 ht106) R) <| mv R R <| p1 R 18 R (vV R R) <| p1 R 18 R (vV R R) <| p1 R 18 R (vV R R) <| av R R <| av R R <| av R R <| qx <| qw (env' := [(7, _), (6, _), (5, _), (4, _), (1, _)]) (.o4 R (.one R (.nil _))) <| qq <| qX ?_
   refine W.jn1 (Γ := Unit) (fun (_ : Unit) (x3 : Bool) => [(2, EqA (strV x4)), (3, bA x3)]) (fun (_ : Unit) (_ : Bool) => []) h (fun _ x3 h => ?_) (fun j110 Kj110 h => ?_)
   ·refine qq <| vq ?_
    cases h
    exact QR.f2 R R (.t R) (.t R) (.id _)
   ·refine qJ <| mv R R <| mv R R <| pk R 25 R (qN R R) <| mv R R ?_
    rcases bif_s h with ⟨hb111, h⟩ | ⟨hb111, h⟩
    ·refine wm R R R hb111 R R <| wf R R R hb111 R R fo226_0 R <| wl R R R hb111 R R sh3 <| wq R R R hb111 (.s 28 R (.s 30 R .nil)) (qN R R).o <| p2 R 27 R 31 R (vQ R hb111) <| mv R R ?_
     rcases bif_s h with ⟨hb112, h⟩ | ⟨hb112, h⟩
     ·refine wm R R R hb112 R R <| wm R R R hb112 R R <| wq R R R hb112 (.s 35 R .nil) (q_slen (s := x4) R iss9).o <| wq R R R hb112 (.s 34 R (.s 36 R .nil)) (qN R R).o <| p2 R 33 R 37 R (vQ R hb112) <| av R R <| av R R <| qx ?_
      exact qw (.o2 R (.nil _)) (Kj110 () (t106.2.1 == (x4.length : Int)) h)
     ·refine sk R R R hb112 <| sk R R R hb112 <| sk R R R hb112 <| sk R R R hb112 <| pk R 33 R (vj R hb112) <| av R R <| av R R <| qx ?_
      exact qw (.o2 R (.nil _)) (Kj110 () false h)
    ·refine sk R R R hb111 <| sk R R R hb111 <| sk R R R hb111 <| sk R R R hb111 <| pk R 27 R (vj R hb111) <| mv R R <| sk R R R R <| sk R R R R <| sk R R R R <| sk R R R R <| pk R 33 R (vj R R) <| av R R <| av R R ?_
     refine qx ?_
     exact qw (.o2 R (.nil _)) (Kj110 () false h)
 ·refine qZ h R (fun hb113 h => ?_) (fun hb113 h => ?_)
  ·refine qJ <| mv R R ?_
   obtain ⟨c114, h⟩ := qK h
   refine WL.p R R R (.k (.s 13 R .nil)) (q_sadd (s := ([34] : Str)) (t := a0.fText) R c114) ?_
   obtain ⟨c115, h⟩ := qK h
   refine pk R 14 R (q_sadd (s := (([34] : Str) ++ a0.fText)) (t := ([34] : Str)) R c115) <| av R R <| qx ?_
   exact qw (.o2 R (.nil _)) (Kj104 () ((([34] : Str) ++ a0.fText) ++ ([34] : Str)) h)
  ·refine qB ?_
   exact qw (.o2 R (.nil _)) (Kj104 () a0.fText h)
theorem token_IsName.con (k : Nat) (a0 : Str) (r : Bool) (h : token_IsName k a0 = some r) : Con Tryz.prog 143 [] [EqA (strV a0)] (RA (bA r)) := by
 unfold token_IsName at h
 refine vJ (N := 12) Tryz.func143 R R R fun w0_ fg_ => sr <| ak R <| nx <| mv R R <| WL.p R R R (.k (.s 6 R .nil)) (q_build (is := [0, 1]) (xs := [.const (.int .i64 1), .tmp 6]) (L := [iA 1, EqA (strV a0), iA 0]) R R z226 pl226 R R (.cons (qW R) (.cons (qW R) .nil)) R) ?_
 obtain ⟨t100, ht100, h⟩ := vw h
 refine p1 R 7 R (vy (f := 175) (A := TupA [EqA (strV t100.1), bA t100.2]) (xs := [.tmp 7]) («as» := [AggA [iA 1, EqA (strV a0), iA 0]]) R ca175 (token_whole.con k (Token.mk 1 a0 0) t100 ht100) R) <| mv R R <| p1 R 5 R (vV R R) <| p1 R 5 R (vV R R) <| av R R <| av R R <| qx <| qw (env' := [(4, _)]) (.one R (.nil _)) <| qq <| sr <| mv R R <| av R R ?_
 refine nt <| vq ?_
 cases h
 exact vW R R (.t R) (.id _)
theorem types_node_1.con (k : Nat) (a0 : NodeType) (a1 : NodeType) (r : Bool) (h : types_node_1 k a0 a1 = some r) : Con Tryz.prog 145 [] [AggA [EqA (strV a0.fName), iA a0.fParent, bA a0.fAbstract, SlcA kAttr a0.fAttrs], PtrA [EqA (strV a1.fName), iA a1.fParent, bA a1.fAbstract, SlcA kAttr a1.fAttrs]] (RA (bA r)) := by
 unfold types_node_1 at h
 refine vJ (N := 9) Tryz.func145 R R R fun w0_ fg_ => sr <| p1 R 0 R (q_box R (qy _)) <| ak R <| nx <| fd R R fo92_0 R <| ld R R sh9 <| fd R R fo92_0 R <| ld R R sh9 ?_
 refine p2 R 5 R 7 R (q_str (s := a0.fName) (t := a1.fName) R) <| av R R <| qx <| qw (env' := [(3, _)]) (.one R (.nil _)) <| qq <| vq ?_
 cases h
 exact vW R R (.t R) (.id _)
theorem slices_IndexFunc_NodeType.con (k : Nat) (a0 : (List NodeType)) (a1 : (NodeType → Option Bool)) (r : Int) (h : slices_IndexFunc_NodeType k a0 a1 = some r) : Con Tryz.prog 176 [] [SlcA kNodeType a0, FnA Tryz.prog (fun (x : NodeType) => [AggA [EqA (strV x.fName), iA x.fParent, bA x.fAbstract, SlcA kAttr x.fAttrs]]) (fun (y : Bool) => bA y) a1] (RA (iA r)) := by
 unfold slices_IndexFunc_NodeType at h
 refine vJ (N := 19) Tryz.func176 R R R fun w0_ fg_ => sr <| ak R <| nt <| qX <| sr <| mv R R <| p1 R 6 R (vN R elS32) <| mk_ R <| qx ?_
 refine qq <| vx ?_
 refine W.loop1 (Γ := Unit) (fun (_ : Unit) (x8 : Int) => [(0, SlcA kNodeType a0), (1, FnA Tryz.prog (fun (x : NodeType) => [AggA [EqA (strV x.fName), iA x.fParent, bA x.fAbstract, SlcA kAttr x.fAttrs]]) (fun (y : Bool) => bA y) a1), (7, iA (a0.length : Int)), (8, iA x8)]) (fun (_ : Unit) (_ : Int) => []) h () (.o4 R (.nil _)) R (fun rec0 K0 next0 _ x8 h => ?_)
 unfold slices_IndexFunc_NodeType.b0 at h
 refine sr <| p2 R 8 R 7 R (qN R R) <| nt <| qX ?_
 refine qZ h R (fun hb110 h => ?_) (fun hb110 h => ?_)
 ·refine qB <| qq <| qX <| vx <| sr <| mv R R <| av R R <| nx <| mv R R ?_
  refine mv R R <| mv R R ?_
  obtain ⟨c111, h⟩ := qK h
  refine p2 R 12 R 13 R (vX R el32 R c111.1 c111.2) <| lS R R sh92 R R ?_
  obtain ⟨t112, ht112, h⟩ := vw h
  refine p2 R 11 R 15 R (q_callV («as» := (fun (x : NodeType) => [AggA [EqA (strV x.fName), iA x.fParent, bA x.fAbstract, SlcA kAttr x.fAttrs]])) (res := (fun (y : Bool) => bA y)) (x := (rd a0 x8)) (y := t112) (xs := [.tmp 15]) R ht112 R) <| qx <| qw (env' := [(16, _), (5, _), (8, _), (7, _), (1, _), (0, _)]) (.o4 R (.o2 R (.nil _))) <| qq ?_
  refine qZ h R (fun hb113 h => ?_) (fun hb113 h => ?_)
  ·refine sr <| mv R R <| av R R <| qx <| qw (env' := [(4, _)]) (.one R (.nil _)) <| qq <| vq <| vz <| qQ <| qQ <| vz <| qQ ?_
   cases h
   exact vW R R (.t R) (.id _)
  ·refine qB <| vZ <| qq <| qJ ?_
   obtain ⟨c114, h⟩ := qK h
   refine pk R 8 R (vK R c114) <| mv R R <| qx ?_
   exact next0 () (x8 + 1) _ h (.o4 R (.nil _))
 ·refine W.exit <| qV <| qV <| vB <| qq <| sr <| ak R <| nt <| vq ?_
  cases h
  exact vW R R (.t R) (.id _)
theorem slices_ContainsFunc_NodeType.con (k : Nat) (a0 : (List NodeType)) (a1 : (NodeType → Option Bool)) (r : Bool) (h : slices_ContainsFunc_NodeType k a0 a1 = some r) : Con Tryz.prog 144 [] [SlcA kNodeType a0, FnA Tryz.prog (fun (x : NodeType) => [AggA [EqA (strV x.fName), iA x.fParent, bA x.fAbstract, SlcA kAttr x.fAttrs]]) (fun (y : Bool) => bA y) a1] (RA (bA r)) := by
 unfold slices_ContainsFunc_NodeType at h
 refine vJ (N := 9) Tryz.func144 R R R fun w0_ fg_ => sr <| ak R <| nx <| mv R R <| mv R R ?_
 obtain ⟨t100, ht100, h⟩ := vw h
 refine p2 R 5 R 6 R (vy (f := 176) (A := iA t100) (xs := [.tmp 5, .tmp 6]) («as» := [SlcA kNodeType a0, FnA Tryz.prog (fun (x : NodeType) => [AggA [EqA (strV x.fName), iA x.fParent, bA x.fAbstract, SlcA kAttr x.fAttrs]]) (fun (y : Bool) => bA y) a1]) R ca176 (slices_IndexFunc_NodeType.con k a0 a1 t100 ht100) R) <| pk R 7 R (qN R R) <| av R R <| nt <| vq ?_
 cases h
 exact vW R R (.t R) (.id _)
theorem types_attrs.con : ∀ (k : Nat) (a0 : Types) (a1 : Int) (r : (List Attr)) (_ : types_attrs k a0 a1 = some r), Con Tryz.prog 134 [] [AggA [SlcA kNodeType a0.fNodes, SlcA kEdgeType a0.fEdges], iA a1] (RApp 95 kAttr r) := by
 intro k
 induction k with
 | zero => intro a0 a1 r h; cases h
 | succ k ih =>
  intro a0 a1 r h
  change types_attrs.main (types_attrs k) k a0 a1 = some r at h
  unfold types_attrs.main at h
  refine vJ (N := 26) Tryz.func134 R R R fun w0_ fg_ => sr <| p1 R 0 R (q_box R (qy _)) <| ak R <| nx <| ak R <| nt <| qX ?_
  refine sr <| fd R R fo35_0 R <| ld R R sh32 <| mv R R ?_
  obtain ⟨c100, h⟩ := qK h
  refine p2 R 8 R 9 R (vX R el32 R c100.1 c100.2) <| fd R R fo92_1 R <| ld R R sh3 <| av R R <| qx <| qw (env' := [(6, _), (5, _), (2, _), (1, _)]) (.o4 R (.nil _)) <| qq <| sr <| mv R R <| pk R 13 R (qN R R) <| nt ?_
  refine W.jn1 (Γ := Value) (fun (g104 : Value) (_ : (List Attr)) => [(1, iA a1), (2, PtrA [SlcA kNodeType a0.fNodes, SlcA kEdgeType a0.fEdges]), (5, HdA g104)]) (fun (g104 : Value) (x5 : (List Attr)) => [SlE 95 g104 kAttr x5]) h (fun g104 x5 h => ?_) (fun j108 Kj108 h => ?_)
  ·refine qq <| sr <| mv R R <| fd R R fo35_0 R <| ld R R sh32 <| mv R R ?_
   obtain ⟨c109, h⟩ := qK h
   refine p2 R 20 R 21 R (vX R el32 R c109.1 c109.2) <| fd R R fo92_3 R <| ld R R sh90 ?_
   obtain ⟨c110, h⟩ := qK h
   refine WL.w [0] R (qj R) R R (.s 18 R (.s 24 R .nil)) (w_append (kd := kAttr) R el90 R gr95 c110) ?_
   rintro _ _ ⟨v111, rfl, rfl⟩
   refine av R R <| qx <| qw (env' := [(4, _)]) (.one R (.nil _)) <| qq <| vq ?_
   cases h
   exact QR.r1 R R (.t R) ⟨_, R, R⟩
  ·refine qZ h R (fun hb112 h => ?_) (fun hb112 h => ?_)
   ·refine qJ <| lS R R sh35 R R <| mv R R ?_
    obtain ⟨t113, ht113, h⟩ := vw h
    refine WL.w [] R (qj R) R R (.s 15 R (.s 16 R .nil)) (w_callI (f := 134) (xs := [.tmp 15, .tmp 16]) («as» := [AggA [SlcA kNodeType a0.fNodes, SlcA kEdgeType a0.fEdges], iA ((rd a0.fNodes a1).fParent)]) R ca134 (ih a0 ((rd a0.fNodes a1).fParent) t113 ht113) R (.cons (Imp.id _) (.cons (Imp.id _) .nil))) ?_
    rintro _ _ ⟨v114, rfl, rfl⟩
    refine av R R <| qx ?_
    exact qw (.o2 R (.one R (.nil _))) (Kj108 v114 t113 h)
   ·refine qB <| QN.to (StTo.newNil 95 kAttr) <| QN.to (StTo.as 5 R Imp.nilHd) ?_
    exact qw (.o2 R (.one R (.nil _))) (Kj108 (.slice none 0 0) [] h)
theorem types_attribute_1.con (k : Nat) (a0 : Attr) (a1 : Attr) (r : Bool) (h : types_attribute_1 k a0 a1 = some r) : Con Tryz.prog 178 [] [AggA [EqA (strV a0.fName), iA a0.fLow, iA a0.fHigh, SlcA kStr a0.fNames], PtrA [EqA (strV a1.fName), iA a1.fLow, iA a1.fHigh, SlcA kStr a1.fNames]] (RA (bA r)) := by
 unfold types_attribute_1 at h
 refine vJ (N := 9) Tryz.func178 R R R fun w0_ fg_ => sr <| p1 R 0 R (q_box R (qy _)) <| ak R <| nx <| fd R R fo95_0 R <| ld R R sh9 <| fd R R fo95_0 R <| ld R R sh9 ?_
 refine p2 R 5 R 7 R (q_str (s := a0.fName) (t := a1.fName) R) <| av R R <| qx <| qw (env' := [(3, _)]) (.one R (.nil _)) <| qq <| vq ?_
 cases h
 exact vW R R (.t R) (.id _)
theorem slices_IndexFunc_Attr.con (k : Nat) (a0 : (List Attr)) (a1 : (Attr → Option Bool)) (r : Int) (h : slices_IndexFunc_Attr k a0 a1 = some r) : Con Tryz.prog 200 [] [SlcA kAttr a0, FnA Tryz.prog (fun (x : Attr) => [AggA [EqA (strV x.fName), iA x.fLow, iA x.fHigh, SlcA kStr x.fNames]]) (fun (y : Bool) => bA y) a1] (RA (iA r)) := by
 unfold slices_IndexFunc_Attr at h
 refine vJ (N := 19) Tryz.func200 R R R fun w0_ fg_ => sr <| ak R <| nt <| qX <| sr <| mv R R <| p1 R 6 R (vN R elS90) <| mk_ R <| qx ?_
 refine qq <| vx ?_
 refine W.loop1 (Γ := Unit) (fun (_ : Unit) (x8 : Int) => [(0, SlcA kAttr a0), (1, FnA Tryz.prog (fun (x : Attr) => [AggA [EqA (strV x.fName), iA x.fLow, iA x.fHigh, SlcA kStr x.fNames]]) (fun (y : Bool) => bA y) a1), (7, iA (a0.length : Int)), (8, iA x8)]) (fun (_ : Unit) (_ : Int) => []) h () (.o4 R (.nil _)) R (fun rec0 K0 next0 _ x8 h => ?_)
 unfold slices_IndexFunc_Attr.b0 at h
 refine sr <| p2 R 8 R 7 R (qN R R) <| nt <| qX ?_
 refine qZ h R (fun hb110 h => ?_) (fun hb110 h => ?_)
 ·refine qB <| qq <| qX <| vx <| sr <| mv R R <| av R R <| nx <| mv R R ?_
  refine mv R R <| mv R R ?_
  obtain ⟨c111, h⟩ := qK h
  refine p2 R 12 R 13 R (vX R el90 R c111.1 c111.2) <| lS R R sh95 R R ?_
  obtain ⟨t112, ht112, h⟩ := vw h
  refine p2 R 11 R 15 R (q_callV («as» := (fun (x : Attr) => [AggA [EqA (strV x.fName), iA x.fLow, iA x.fHigh, SlcA kStr x.fNames]])) (res := (fun (y : Bool) => bA y)) (x := (rd a0 x8)) (y := t112) (xs := [.tmp 15]) R ht112 R) <| qx <| qw (env' := [(16, _), (5, _), (8, _), (7, _), (1, _), (0, _)]) (.o4 R (.o2 R (.nil _))) <| qq ?_
  refine qZ h R (fun hb113 h => ?_) (fun hb113 h => ?_)
  ·refine sr <| mv R R <| av R R <| qx <| qw (env' := [(4, _)]) (.one R (.nil _)) <| qq <| vq <| vz <| qQ <| qQ <| vz <| qQ ?_
   cases h
   exact vW R R (.t R) (.id _)
  ·refine qB <| vZ <| qq <| qJ ?_
   obtain ⟨c114, h⟩ := qK h
   refine pk R 8 R (vK R c114) <| mv R R <| qx ?_
   exact next0 () (x8 + 1) _ h (.o4 R (.nil _))
 ·refine W.exit <| qV <| qV <| vB <| qq <| sr <| ak R <| nt <| vq ?_
  cases h
  exact vW R R (.t R) (.id _)
theorem slices_ContainsFunc_Attr.con (k : Nat) (a0 : (List Attr)) (a1 : (Attr → Option Bool)) (r : Bool) (h : slices_ContainsFunc_Attr k a0 a1 = some r) : Con Tryz.prog 177 [] [SlcA kAttr a0, FnA Tryz.prog (fun (x : Attr) => [AggA [EqA (strV x.fName), iA x.fLow, iA x.fHigh, SlcA kStr x.fNames]]) (fun (y : Bool) => bA y) a1] (RA (bA r)) := by
 unfold slices_ContainsFunc_Attr at h
 refine vJ (N := 9) Tryz.func177 R R R fun w0_ fg_ => sr <| ak R <| nx <| mv R R <| mv R R ?_
 obtain ⟨t100, ht100, h⟩ := vw h
 refine p2 R 5 R 6 R (vy (f := 200) (A := iA t100) (xs := [.tmp 5, .tmp 6]) («as» := [SlcA kAttr a0, FnA Tryz.prog (fun (x : Attr) => [AggA [EqA (strV x.fName), iA x.fLow, iA x.fHigh, SlcA kStr x.fNames]]) (fun (y : Bool) => bA y) a1]) R ca200 (slices_IndexFunc_Attr.con k a0 a1 t100 ht100) R) <| pk R 7 R (qN R R) <| av R R <| nt <| vq ?_
 cases h
 exact vW R R (.t R) (.id _)
theorem types_names.con (k : Nat) (a0 : (List Str)) (r : Int) (h : types_names k a0 = some r) : Con Tryz.prog 179 [] [SlcA kStr a0] (RA (iA r)) := by
 unfold types_names at h
 refine vJ (N := 26) Tryz.func179 R R R fun w0_ fg_ => sr <| ak R <| nt <| qX <| sr <| mv R R <| p1 R 5 R (vN R elS93) <| pk R 6 R (qN R R) <| qx ?_
 refine qq ?_
 refine qZ h R (fun hb100 h => ?_) (fun hb100 h => ?_)
 ·refine sr <| ak R <| nt <| vq <| qQ ?_
  cases h
  exact vW R R (.t R) (.id _)
 ·refine qB <| qq <| qX <| sr <| mv R R <| p1 R 8 R (vN R elS93) <| mk_ R <| nt <| vx ?_
  refine W.loop1 (Γ := Unit) (fun (_ : Unit) (x10 : Int) => [(0, SlcA kStr a0), (8, SlcA kStr a0), (9, iA (a0.length : Int)), (10, iA x10)]) (fun (_ : Unit) (_ : Int) => []) h () (.o4 R (.nil _)) R (fun rec0 K0 next0 _ x10 h => ?_)
  unfold types_names.b0 at h
  refine sr <| p2 R 10 R 9 R (qN R R) <| nt <| qX ?_
  refine qZ h R (fun hb117 h => ?_) (fun hb117 h => ?_)
  ·refine qB <| qq <| qX <| vx <| sr <| mv R R ?_
   obtain ⟨c118, h⟩ := qK h
   refine p2 R 8 R 10 R (vX R el93 R c118.1 c118.2) <| ld R R sh9 <| av R R <| av R R <| nt <| vx <| sr <| mv R R ?_
   obtain ⟨t119, ht119, h⟩ := vw h
   refine p1 R 16 R (vy (f := 143) (A := bA t119) (xs := [.tmp 16]) («as» := [EqA (strV (rd a0 x10))]) R ca143 (token_IsName.con k (rd a0 x10) t119 ht119) R) <| p1 R 17 R (q_not R) <| av R R <| qx <| qw (env' := [(15, _), (4, _), (3, _), (10, _), (9, _), (8, _), (0, _)]) (.o4 R (.o2 R (.one R (.nil _)))) <| qq ?_
   refine qZ h R (fun hb120 h => ?_) (fun hb120 h => ?_)
   ·refine sr <| ak R <| qx <| qw (env' := [(2, _)]) (.one R (.nil _)) <| qq <| vq <| vz <| vz <| qQ <| qQ <| vz <| qQ ?_
    cases h
    exact vW R R (.t R) (.id _)
   ·refine sr <| mv R R <| mv R R ?_
    obtain ⟨c121, h⟩ := qK h
    refine p2 R 20 R 21 R (q_subH R el93 R c121.1 c121.2) <| mv R R ?_
    obtain ⟨t122, ht122, h⟩ := vw h
    refine p2 R 22 R 23 R (vy (f := 201) (A := bA t122) (xs := [.tmp 22, .tmp 23]) («as» := [SlcA kStr (a0.take (x10 : Int).toNat), EqA (strV (rd a0 x10))]) R ca201 (slices_Contains_string.con k (a0.take (x10 : Int).toNat) (rd a0 x10) t122 ht122) R) <| av R R <| qx <| qw (env' := [(19, _), (10, _), (9, _), (8, _), (0, _)]) (.o4 R (.one R (.nil _))) <| qq ?_
    refine qZ h R (fun hb123 h => ?_) (fun hb123 h => ?_)
    ·refine sr <| ak R <| nt <| vq <| vz <| vz <| qQ <| qQ <| vz <| qQ ?_
     cases h
     exact vW R R (.t R) (.id _)
    ·refine qB <| vZ <| vZ <| qq <| qJ ?_
     obtain ⟨c124, h⟩ := qK h
     refine pk R 10 R (vK R c124) <| mv R R <| qx ?_
     exact next0 () (x10 + 1) _ h (.o4 R (.nil _))
  ·refine W.exit <| qV <| qV <| vB <| qq <| sr <| ak R <| nt <| vq ?_
   cases h
   exact vW R R (.t R) (.id _)
end Go.Proofs.YtcgdfjpeboiioaaGreat
