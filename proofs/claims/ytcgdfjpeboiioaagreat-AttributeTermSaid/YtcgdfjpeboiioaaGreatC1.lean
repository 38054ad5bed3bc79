/- The Go functions compute the pure ones. (Printed by gen.py.) -/
import Derived.Test.YtcgdfjpeboiioaaGreatD
import Derived.Test.YtcgdfjpeboiioaaGreatFc
namespace Go.Proofs.YtcgdfjpeboiioaaGreat
open Go Go.Abs
attribute [local irreducible] Tryz.prog
theorem ref04_Example.con (k : Nat) (r : Types) (h : ref04_Example k = some r) : Con Tryz.prog 37 [] [] (RA (AggA [SlcA kNodeType r.fNodes, SlcA kEdgeType r.fEdges])) := by
 unfold ref04_Example at h
 refine Con.of (N := 15) Tryz.func37 rfl rfl rfl fun w0_ fg_ => W.seq <| W.region <| WL.w [] rfl (Wanted.plain rfl) rfl rfl .nil (w_alloc rfl z35 (l := [EqA (.slice none 0 0), EqA (.slice none 0 0)]) rfl) ?_
 rintro _ _ ⟨b1, rfl, rfl⟩
 refine WL.nil <| QN.then_ <| W.seq <| W.region <| WL.p rfl rfl rfl (.k (.k (.k .nil))) (q_build (is := [0, 1, 2]) (xs := [.const (.string ⟨#[98, 97, 108, 97, 110, 99, 101]⟩), .const (.int .i64 (-1000)), .const (.int .i64 1000)]) (L := [EqA (strV ([98, 97, 108, 97, 110, 99, 101] : Str)), EqA (.int .i64 (-1000)), EqA (.int .i64 1000), EqA (.slice none 0 0)]) rfl rfl z95 pl95 rfl rfl (.cons (CellsOf.one rfl) (.cons (CellsOf.one rfl) (.cons (CellsOf.one rfl) .nil))) rfl) <| WL.p rfl rfl rfl (.s 1 rfl .nil) (QS.args (q_lit (kd := kAttr) (ps := [(0, .tmp 1)]) (xs := [.tmp 1]) («as» := [AggA [EqA (strV ([98, 97, 108, 97, 110, 99, 101] : Str)), EqA (.int .i64 (-1000)), EqA (.int .i64 1000), SlcA kStr []]]) (ys := [(Attr.mk ([98, 97, 108, 97, 110, 99, 101] : Str) (-1000) 1000 [])]) rfl rfl el90 rfl gr95 rfl rfl rfl (.cons (CellsOf.agg _) .nil)) (.cons (Imp.agg (.cons (Imp.id _) (.cons (Imp.id _) (.cons (Imp.id _) (.cons (Imp.nil kStr) .nil))))) .nil)) <| WL.p rfl rfl rfl (.k (.k (.k (.s 2 rfl .nil)))) (q_build (is := [0, 1, 2, 3]) (xs := [.const (.string ⟨#[65, 99, 99, 111, 117, 110, 116]⟩), .const (.int .i64 (-1)), .const (.bool true), .tmp 2]) (L := [EqA (strV ([65, 99, 99, 111, 117, 110, 116] : Str)), EqA (.int .i64 (-1)), EqA (.bool true), SlcA kAttr ([(Attr.mk ([98, 97, 108, 97, 110, 99, 101] : Str) (-1000) 1000 [])])]) rfl rfl z92 pl92 rfl rfl (.cons (CellsOf.one rfl) (.cons (CellsOf.one rfl) (.cons (CellsOf.one rfl) (.cons (CellsOf.one rfl) .nil)))) rfl) <| WL.p rfl rfl rfl (.k (.k .nil)) (q_build (is := [0, 1]) (xs := [.const (.string ⟨#[67, 97, 115, 104]⟩), .const (.int .i64 0)]) (L := [EqA (strV ([67, 97, 115, 104] : Str)), EqA (.int .i64 0), EqA (.bool false), EqA (.slice none 0 0)]) rfl rfl z92 pl92 rfl rfl (.cons (CellsOf.one rfl) (.cons (CellsOf.one rfl) .nil)) rfl) <| WL.p rfl rfl rfl (.k (.k .nil)) (q_lit (kd := kStr) (ps := [(0, .const (.string ⟨#[111, 112, 101, 110]⟩)), (1, .const (.string ⟨#[99, 108, 111, 115, 101, 100]⟩))]) (xs := [.const (.string ⟨#[111, 112, 101, 110]⟩), .const (.string ⟨#[99, 108, 111, 115, 101, 100]⟩)]) («as» := [EqA (strV ([111, 112, 101, 110] : Str)), EqA (strV ([99, 108, 111, 115, 101, 100] : Str))]) (ys := [([111, 112, 101, 110] : Str), ([99, 108, 111, 115, 101, 100] : Str)]) rfl rfl el93 rfl gr9 rfl rfl rfl (.cons (CellsOf.one rfl) (.cons (CellsOf.one rfl) .nil))) <| WL.p rfl rfl rfl (.k (.k (.s 5 rfl .nil))) (q_build (is := [0, 2, 3]) (xs := [.const (.string ⟨#[115, 116, 97, 116, 101]⟩), .const (.int .i64 1), .tmp 5]) (L := [EqA (strV ([115, 116, 97, 116, 101] : Str)), EqA (.int .i64 0), EqA (.int .i64 1), SlcA kStr ([([111, 112, 101, 110] : Str), ([99, 108, 111, 115, 101, 100] : Str)])]) rfl rfl z95 pl95 rfl rfl (.cons (CellsOf.one rfl) (.cons (CellsOf.one rfl) (.cons (CellsOf.one rfl) .nil))) rfl) <| WL.p rfl rfl rfl (.s 6 rfl .nil) (q_lit (kd := kAttr) (ps := [(0, .tmp 6)]) (xs := [.tmp 6]) («as» := [AggA [EqA (strV ([115, 116, 97, 116, 101] : Str)), EqA (.int .i64 0), EqA (.int .i64 1), SlcA kStr ([([111, 112, 101, 110] : Str), ([99, 108, 111, 115, 101, 100] : Str)])]]) (ys := [(Attr.mk ([115, 116, 97, 116, 101] : Str) 0 1 ([([111, 112, 101, 110] : Str), ([99, 108, 111, 115, 101, 100] : Str)]))]) rfl rfl el90 rfl gr95 rfl rfl rfl (.cons (CellsOf.agg _) .nil)) <| WL.p rfl rfl rfl (.k (.k (.s 7 rfl .nil))) (q_build (is := [0, 1, 3]) (xs := [.const (.string ⟨#[76, 111, 97, 110]⟩), .const (.int .i64 0), .tmp 7]) (L := [EqA (strV ([76, 111, 97, 110] : Str)), EqA (.int .i64 0), EqA (.bool false), SlcA kAttr ([(Attr.mk ([115, 116, 97, 116, 101] : Str) 0 1 ([([111, 112, 101, 110] : Str), ([99, 108, 111, 115, 101, 100] : Str)]))])]) rfl rfl z92 pl92 rfl rfl (.cons (CellsOf.one rfl) (.cons (CellsOf.one rfl) (.cons (CellsOf.one rfl) .nil))) rfl) <| WL.p rfl rfl rfl (.k (.k .nil)) (q_build (is := [0, 1]) (xs := [.const (.string ⟨#[80, 101, 114, 115, 111, 110]⟩), .const (.int .i64 (-1))]) (L := [EqA (strV ([80, 101, 114, 115, 111, 110] : Str)), EqA (.int .i64 (-1)), EqA (.bool false), EqA (.slice none 0 0)]) rfl rfl z92 pl92 rfl rfl (.cons (CellsOf.one rfl) (.cons (CellsOf.one rfl) .nil)) rfl) ?_
 refine WL.p rfl rfl rfl (.s 3 rfl (.s 4 rfl (.s 8 rfl (.s 9 rfl .nil)))) (QS.args (q_lit (kd := kNodeType) (ps := [(0, .tmp 3), (1, .tmp 4), (2, .tmp 8), (3, .tmp 9)]) (xs := [.tmp 3, .tmp 4, .tmp 8, .tmp 9]) («as» := [AggA [EqA (strV ([65, 99, 99, 111, 117, 110, 116] : Str)), EqA (.int .i64 (-1)), EqA (.bool true), SlcA kAttr ([(Attr.mk ([98, 97, 108, 97, 110, 99, 101] : Str) (-1000) 1000 [])])], AggA [EqA (strV ([67, 97, 115, 104] : Str)), EqA (.int .i64 0), EqA (.bool false), SlcA kAttr []], AggA [EqA (strV ([76, 111, 97, 110] : Str)), EqA (.int .i64 0), EqA (.bool false), SlcA kAttr ([(Attr.mk ([115, 116, 97, 116, 101] : Str) 0 1 ([([111, 112, 101, 110] : Str), ([99, 108, 111, 115, 101, 100] : Str)]))])], AggA [EqA (strV ([80, 101, 114, 115, 111, 110] : Str)), EqA (.int .i64 (-1)), EqA (.bool false), SlcA kAttr []]]) (ys := [(NodeType.mk ([65, 99, 99, 111, 117, 110, 116] : Str) (-1) true ([(Attr.mk ([98, 97, 108, 97, 110, 99, 101] : Str) (-1000) 1000 [])])), (NodeType.mk ([67, 97, 115, 104] : Str) 0 false []), (NodeType.mk ([76, 111, 97, 110] : Str) 0 false ([(Attr.mk ([115, 116, 97, 116, 101] : Str) 0 1 ([([111, 112, 101, 110] : Str), ([99, 108, 111, 115, 101, 100] : Str)]))])), (NodeType.mk ([80, 101, 114, 115, 111, 110] : Str) (-1) false [])]) rfl rfl el32 rfl gr92 rfl rfl rfl (.cons (CellsOf.agg _) (.cons (CellsOf.agg _) (.cons (CellsOf.agg _) (.cons (CellsOf.agg _) .nil))))) (.cons (Imp.id _) (.cons (Imp.agg (.cons (Imp.id _) (.cons (Imp.id _) (.cons (Imp.id _) (.cons (Imp.nil kAttr) .nil))))) (.cons (Imp.id _) (.cons (Imp.agg (.cons (Imp.id _) (.cons (Imp.id _) (.cons (Imp.id _) (.cons (Imp.nil kAttr) .nil))))) .nil))))) <| WL.p rfl rfl rfl (.k (.k (.k (.k (.k (.k .nil)))))) (q_build (is := [0, 1, 2, 4, 5, 6]) (xs := [.const (.string ⟨#[111, 119, 110, 115]⟩), .const (.int .i64 3), .const (.int .i64 0), .const (.int .i64 (-1)), .const (.int .i64 1), .const (.int .i64 1)]) (L := [EqA (strV ([111, 119, 110, 115] : Str)), EqA (.int .i64 3), EqA (.int .i64 0), EqA (.int .i64 0), EqA (.int .i64 (-1)), EqA (.int .i64 1), EqA (.int .i64 1)]) rfl rfl z97 pl97 rfl rfl (.cons (CellsOf.one rfl) (.cons (CellsOf.one rfl) (.cons (CellsOf.one rfl) (.cons (CellsOf.one rfl) (.cons (CellsOf.one rfl) (.cons (CellsOf.one rfl) .nil)))))) rfl) <| WL.p rfl rfl rfl (.k (.k (.k (.k (.k .nil))))) (q_build (is := [0, 1, 2, 4, 6]) (xs := [.const (.string ⟨#[112, 97, 121, 115]⟩), .const (.int .i64 1), .const (.int .i64 1), .const (.int .i64 (-1)), .const (.int .i64 (-1))]) (L := [EqA (strV ([112, 97, 121, 115] : Str)), EqA (.int .i64 1), EqA (.int .i64 1), EqA (.int .i64 0), EqA (.int .i64 (-1)), EqA (.int .i64 0), EqA (.int .i64 (-1))]) rfl rfl z97 pl97 rfl rfl (.cons (CellsOf.one rfl) (.cons (CellsOf.one rfl) (.cons (CellsOf.one rfl) (.cons (CellsOf.one rfl) (.cons (CellsOf.one rfl) .nil))))) rfl) <| WL.p rfl rfl rfl (.s 11 rfl (.s 12 rfl .nil)) (q_lit (kd := kEdgeType) (ps := [(0, .tmp 11), (1, .tmp 12)]) (xs := [.tmp 11, .tmp 12]) («as» := [AggA [EqA (strV ([111, 119, 110, 115] : Str)), EqA (.int .i64 3), EqA (.int .i64 0), EqA (.int .i64 0), EqA (.int .i64 (-1)), EqA (.int .i64 1), EqA (.int .i64 1)], AggA [EqA (strV ([112, 97, 121, 115] : Str)), EqA (.int .i64 1), EqA (.int .i64 1), EqA (.int .i64 0), EqA (.int .i64 (-1)), EqA (.int .i64 0), EqA (.int .i64 (-1))]]) (ys := [(EdgeType.mk ([111, 119, 110, 115] : Str) 3 0 0 (-1) 1 1), (EdgeType.mk ([112, 97, 121, 115] : Str) 1 1 0 (-1) 0 (-1))]) rfl rfl el33 rfl gr97 rfl rfl rfl (.cons (CellsOf.agg _) (.cons (CellsOf.agg _) .nil))) <| WL.p rfl rfl rfl (.s 10 rfl (.s 13 rfl .nil)) (q_build (is := [0, 1]) (xs := [.tmp 10, .tmp 13]) (L := [SlcA kNodeType ([(NodeType.mk ([65, 99, 99, 111, 117, 110, 116] : Str) (-1) true ([(Attr.mk ([98, 97, 108, 97, 110, 99, 101] : Str) (-1000) 1000 [])])), (NodeType.mk ([67, 97, 115, 104] : Str) 0 false []), (NodeType.mk ([76, 111, 97, 110] : Str) 0 false ([(Attr.mk ([115, 116, 97, 116, 101] : Str) 0 1 ([([111, 112, 101, 110] : Str), ([99, 108, 111, 115, 101, 100] : Str)]))])), (NodeType.mk ([80, 101, 114, 115, 111, 110] : Str) (-1) false [])]), SlcA kEdgeType ([(EdgeType.mk ([111, 119, 110, 115] : Str) 3 0 0 (-1) 1 1), (EdgeType.mk ([112, 97, 121, 115] : Str) 1 1 0 (-1) 0 (-1))])]) rfl rfl z35 pl35 rfl rfl (.cons (CellsOf.one rfl) (.cons (CellsOf.one rfl) .nil)) rfl) <| WL.w0 [0] rfl (Wanted.plain rfl) rfl (.s 0 rfl (.s 14 rfl .nil)) (w_store (L := [SlcA kNodeType ([(NodeType.mk ([65, 99, 99, 111, 117, 110, 116] : Str) (-1) true ([(Attr.mk ([98, 97, 108, 97, 110, 99, 101] : Str) (-1000) 1000 [])])), (NodeType.mk ([67, 97, 115, 104] : Str) 0 false []), (NodeType.mk ([76, 111, 97, 110] : Str) 0 false ([(Attr.mk ([115, 116, 97, 116, 101] : Str) 0 1 ([([111, 112, 101, 110] : Str), ([99, 108, 111, 115, 101, 100] : Str)]))])), (NodeType.mk ([80, 101, 114, 115, 111, 110] : Str) (-1) false [])]), SlcA kEdgeType ([(EdgeType.mk ([111, 119, 110, 115] : Str) 3 0 0 (-1) 1 1), (EdgeType.mk ([112, 97, 121, 115] : Str) 1 1 0 (-1) 0 (-1))])]) rfl sh35 (CellsOf.agg _) rfl rfl (leB rfl) rfl) ?_
 rintro _ _ ⟨rfl, rfl⟩
 refine WL.nil <| QN.to (StTo.still [0] 0 rfl rfl) <| QN.weaken (env' := [(0, _)]) (.one rfl (.nil _)) <| QN.then_ <| W.ret ?_
 cases h
 exact QR.f1 rfl rfl (.ps rfl sh35 rfl) (.id _)
theorem law21_two.con (k : Nat) (a0 : Test) (r : Pattern) (h : law21_two k a0 = some r) : Con Tryz.prog 38 [] [AggA [EqA (.int .i64 a0.fKind), EqA (.int .i64 a0.fLeft.fVar), EqA (.int .i64 a0.fLeft.fAdd), EqA (.int .i64 a0.fRight.fVar), EqA (.int .i64 a0.fRight.fAdd)]] (RA (AggA [SlcA kInt r.fGraph.fNodes, SlcA kEdge r.fGraph.fEdges, SlcA kSlot r.fSlots, EqA (.int .i64 r.fVars), SlcA kTest r.fTests])) := by
 unfold law21_two at h
 refine Con.of (N := 13) Tryz.func38 rfl rfl rfl fun w0_ fg_ => W.seq <| W.region <| WL.p rfl rfl rfl (.s 0 rfl .nil) (q_box rfl (CellsOf.agg _)) <| WL.w [] rfl (Wanted.plain rfl) rfl rfl .nil (w_alloc rfl z42 (l := [EqA (.slice none 0 0), EqA (.slice none 0 0), EqA (.slice none 0 0), EqA (.int .i64 0), EqA (.slice none 0 0)]) rfl) ?_
 rintro _ _ ⟨b2, rfl, rfl⟩
 refine WL.nil <| QN.then_ <| W.seq <| W.region <| WL.p rfl rfl rfl (.k (.k .nil)) (q_lit (kd := kInt) (ps := [(0, .const (.int .i64 0)), (1, .const (.int .i64 0))]) (xs := [.const (.int .i64 0), .const (.int .i64 0)]) («as» := [EqA (.int .i64 0), EqA (.int .i64 0)]) (ys := [0, 0]) rfl rfl el26 rfl gr3 rfl rfl rfl (.cons (CellsOf.one rfl) (.cons (CellsOf.one rfl) .nil))) <| WL.p rfl rfl rfl (.s 3 rfl .nil) (q_build (is := [0]) (xs := [.tmp 3]) (L := [SlcA kInt [0, 0], EqA (.slice none 0 0)]) rfl rfl z38 pl38 rfl rfl (.cons (CellsOf.one rfl) .nil) rfl) <| WL.p rfl rfl rfl (.k .nil) (q_build (is := [0]) (xs := [.const (.int .i64 0)]) (L := [EqA (.int .i64 0), EqA (.int .i64 0)]) rfl rfl z23 pl23 rfl rfl (.cons (CellsOf.one rfl) .nil) rfl) <| WL.p rfl rfl rfl (.k (.s 5 rfl .nil)) (q_build (is := [0, 2]) (xs := [.const (.int .i64 0), .tmp 5]) (L := [EqA (.int .i64 0), EqA (.int .i64 0), EqA (.int .i64 0), EqA (.int .i64 0)]) rfl rfl z113 pl113 rfl rfl (.cons (CellsOf.one rfl) (.cons (CellsOf.agg _) .nil)) rfl) <| WL.p rfl rfl rfl (.k .nil) (q_build (is := [0]) (xs := [.const (.int .i64 1)]) (L := [EqA (.int .i64 1), EqA (.int .i64 0)]) rfl rfl z23 pl23 rfl rfl (.cons (CellsOf.one rfl) .nil) rfl) <| WL.p rfl rfl rfl (.k (.s 7 rfl .nil)) (q_build (is := [0, 2]) (xs := [.const (.int .i64 1), .tmp 7]) (L := [EqA (.int .i64 1), EqA (.int .i64 0), EqA (.int .i64 1), EqA (.int .i64 0)]) rfl rfl z113 pl113 rfl rfl (.cons (CellsOf.one rfl) (.cons (CellsOf.agg _) .nil)) rfl) <| WL.p rfl rfl rfl (.s 6 rfl (.s 8 rfl .nil)) (q_lit (kd := kSlot) (ps := [(0, .tmp 6), (1, .tmp 8)]) (xs := [.tmp 6, .tmp 8]) («as» := [AggA [EqA (.int .i64 0), EqA (.int .i64 0), EqA (.int .i64 0), EqA (.int .i64 0)], AggA [EqA (.int .i64 1), EqA (.int .i64 0), EqA (.int .i64 1), EqA (.int .i64 0)]]) (ys := [(Slot.mk 0 0 (Term.mk 0 0)), (Slot.mk 1 0 (Term.mk 1 0))]) rfl rfl el39 rfl gr113 rfl rfl rfl (.cons (CellsOf.agg _) (.cons (CellsOf.agg _) .nil))) <| WL.p rfl rfl rfl (.s 1 rfl .nil) (q_loadS rfl sh86 (leB rfl) rfl) <| WL.p rfl rfl rfl (.s 10 rfl .nil) (q_lit (kd := kTest) (ps := [(0, .tmp 10)]) (xs := [.tmp 10]) («as» := [AggA [EqA (.int .i64 a0.fKind), EqA (.int .i64 a0.fLeft.fVar), EqA (.int .i64 a0.fLeft.fAdd), EqA (.int .i64 a0.fRight.fVar), EqA (.int .i64 a0.fRight.fAdd)]]) (ys := [a0]) rfl rfl el40 rfl gr86 rfl rfl rfl (.cons (CellsOf.agg _) .nil)) ?_
 refine WL.p rfl rfl rfl (.s 4 rfl (.k (.s 9 rfl (.s 11 rfl .nil)))) (q_build (is := [0, 2, 1, 3]) (xs := [.tmp 4, .const (.int .i64 2), .tmp 9, .tmp 11]) (L := [SlcA kInt [0, 0], EqA (.slice none 0 0), SlcA kSlot [(Slot.mk 0 0 (Term.mk 0 0)), (Slot.mk 1 0 (Term.mk 1 0))], EqA (.int .i64 2), SlcA kTest [a0]]) rfl rfl z42 pl42 rfl rfl (.cons (CellsOf.agg _) (.cons (CellsOf.one rfl) (.cons (CellsOf.one rfl) (.cons (CellsOf.one rfl) .nil)))) rfl) <| WL.w0 [0] rfl (Wanted.plain rfl) rfl (.s 2 rfl (.s 12 rfl .nil)) (w_store (L := [SlcA kInt [0, 0], EqA (.slice none 0 0), SlcA kSlot [(Slot.mk 0 0 (Term.mk 0 0)), (Slot.mk 1 0 (Term.mk 1 0))], EqA (.int .i64 2), SlcA kTest [a0]]) rfl sh42 (CellsOf.agg _) rfl rfl (leB rfl) rfl) ?_
 rintro _ _ ⟨rfl, rfl⟩
 refine WL.nil <| QN.to (StTo.still [0] 2 rfl rfl) <| QN.weaken (env' := [(2, _)]) (.one rfl (.nil _)) <| QN.then_ <| W.ret ?_
 cases h
 exact QR.f1 rfl rfl (.ps rfl sh42 rfl) (.imp (Imp.agg (.cons (Imp.id _) (.cons (Imp.nil kEdge) (.cons (Imp.id _) (.cons (Imp.id _) (.cons (Imp.id _) .nil)))))))
theorem law21_bank.con (k : Nat) (r : Host) (h : law21_bank k = some r) : Con Tryz.prog 39 [] [] (RA (AggA [SlcA kInt r.fGraph.fNodes, SlcA kEdge r.fGraph.fEdges, SlcA (kSl kInt) r.fValues])) := by
 unfold law21_bank at h
 refine Con.of (N := 10) Tryz.func39 rfl rfl rfl fun w0_ fg_ => W.seq <| W.region <| WL.w [] rfl (Wanted.plain rfl) rfl rfl .nil (w_alloc rfl z60 (l := [EqA (.slice none 0 0), EqA (.slice none 0 0), EqA (.slice none 0 0)]) rfl) ?_
 rintro _ _ ⟨b3, rfl, rfl⟩
 refine WL.nil <| QN.then_ <| W.seq <| W.region <| WL.p rfl rfl rfl (.k (.k (.k .nil))) (q_lit (kd := kInt) (ps := [(0, .const (.int .i64 3)), (1, .const (.int .i64 1)), (2, .const (.int .i64 1))]) (xs := [.const (.int .i64 3), .const (.int .i64 1), .const (.int .i64 1)]) («as» := [EqA (.int .i64 3), EqA (.int .i64 1), EqA (.int .i64 1)]) (ys := [3, 1, 1]) rfl rfl el26 rfl gr3 rfl rfl rfl (.cons (CellsOf.one rfl) (.cons (CellsOf.one rfl) (.cons (CellsOf.one rfl) .nil)))) <| WL.p rfl rfl rfl (.k (.k (.k .nil))) (q_build (is := [0, 1, 2]) (xs := [.const (.int .i64 0), .const (.int .i64 0), .const (.int .i64 1)]) (L := [EqA (.int .i64 0), EqA (.int .i64 0), EqA (.int .i64 1)]) rfl rfl z109 pl109 rfl rfl (.cons (CellsOf.one rfl) (.cons (CellsOf.one rfl) (.cons (CellsOf.one rfl) .nil))) rfl) <| WL.p rfl rfl rfl (.k (.k (.k .nil))) (q_build (is := [0, 1, 2]) (xs := [.const (.int .i64 0), .const (.int .i64 0), .const (.int .i64 2)]) (L := [EqA (.int .i64 0), EqA (.int .i64 0), EqA (.int .i64 2)]) rfl rfl z109 pl109 rfl rfl (.cons (CellsOf.one rfl) (.cons (CellsOf.one rfl) (.cons (CellsOf.one rfl) .nil))) rfl) <| WL.p rfl rfl rfl (.s 2 rfl (.s 3 rfl .nil)) (q_lit (kd := kEdge) (ps := [(0, .tmp 2), (1, .tmp 3)]) (xs := [.tmp 2, .tmp 3]) («as» := [AggA [EqA (.int .i64 0), EqA (.int .i64 0), EqA (.int .i64 1)], AggA [EqA (.int .i64 0), EqA (.int .i64 0), EqA (.int .i64 2)]]) (ys := [(Edge.mk 0 0 1), (Edge.mk 0 0 2)]) rfl rfl el36 rfl gr109 rfl rfl rfl (.cons (CellsOf.agg _) (.cons (CellsOf.agg _) .nil))) <| WL.p rfl rfl rfl (.s 1 rfl (.s 4 rfl .nil)) (q_build (is := [0, 1]) (xs := [.tmp 1, .tmp 4]) (L := [SlcA kInt [3, 1, 1], SlcA kEdge [(Edge.mk 0 0 1), (Edge.mk 0 0 2)]]) rfl rfl z38 pl38 rfl rfl (.cons (CellsOf.one rfl) (.cons (CellsOf.one rfl) .nil)) rfl) <| WL.p rfl rfl rfl (.k .nil) (q_lit (kd := kInt) (ps := [(0, .const (.int .i64 10))]) (xs := [.const (.int .i64 10)]) («as» := [EqA (.int .i64 10)]) (ys := [10]) rfl rfl el26 rfl gr3 rfl rfl rfl (.cons (CellsOf.one rfl) .nil)) <| WL.p rfl rfl rfl (.k .nil) (q_lit (kd := kInt) (ps := [(0, .const (.int .i64 5))]) (xs := [.const (.int .i64 5)]) («as» := [EqA (.int .i64 5)]) (ys := [5]) rfl rfl el26 rfl gr3 rfl rfl rfl (.cons (CellsOf.one rfl) .nil)) <| WL.p rfl rfl rfl (.k (.s 6 rfl (.s 7 rfl .nil))) (QS.args (q_lit (kd := (kSl kInt)) (ps := [(0, .const (.slice none 0 0)), (1, .tmp 6), (2, .tmp 7)]) (xs := [.const (.slice none 0 0), .tmp 6, .tmp 7]) («as» := [SlcA kInt [], SlcA kInt [10], SlcA kInt [5]]) (ys := [[], [10], [5]]) rfl rfl el58 rfl gr26 rfl rfl rfl (.cons (CellsOf.one rfl) (.cons (CellsOf.one rfl) (.cons (CellsOf.one rfl) .nil)))) (.cons (Imp.nil kInt) (.cons (Imp.id _) (.cons (Imp.id _) .nil)))) <| WL.p rfl rfl rfl (.s 5 rfl (.s 8 rfl .nil)) (q_build (is := [0, 1]) (xs := [.tmp 5, .tmp 8]) (L := [SlcA kInt [3, 1, 1], SlcA kEdge [(Edge.mk 0 0 1), (Edge.mk 0 0 2)], SlcA (kSl kInt) ([[], [10], [5]])]) rfl rfl z60 pl60 rfl rfl (.cons (CellsOf.agg _) (.cons (CellsOf.one rfl) .nil)) rfl) ?_
 refine WL.w0 [0] rfl (Wanted.plain rfl) rfl (.s 0 rfl (.s 9 rfl .nil)) (w_store (L := [SlcA kInt [3, 1, 1], SlcA kEdge [(Edge.mk 0 0 1), (Edge.mk 0 0 2)], SlcA (kSl kInt) ([[], [10], [5]])]) rfl sh60 (CellsOf.agg _) rfl rfl (leB rfl) rfl) ?_
 rintro _ _ ⟨rfl, rfl⟩
 refine WL.nil <| QN.to (StTo.still [0] 0 rfl rfl) <| QN.weaken (env' := [(0, _)]) (.one rfl (.nil _)) <| QN.then_ <| W.ret ?_
 cases h
 exact QR.f1 rfl rfl (.ps rfl sh60 rfl) (.id _)
theorem token_letter.con (k : Nat) (a0 : Int) (r : Bool) (h : token_letter k a0 = some r) : Con Tryz.prog 212 [] [EqA (.int .u8 a0)] (RA (EqA (.bool r))) := by
 unfold token_letter at h
 refine Con.of (N := 17) Tryz.func212 rfl rfl rfl fun w0_ fg_ => W.seq <| W.region <| WL.p rfl rfl rfl (.k .nil) (q_assign rfl) <| WL.nil <| QN.then_ <| W.seq ?_
 refine W.jn1 (Γ := Unit) (fun (_ : Unit) (x2 : Bool) => [(2, EqA (.bool x2))]) (fun (_ : Unit) (_ : Bool) => []) h (fun _ x2 h => ?_) (fun j9 Kj9 h => ?_)
 ·refine QN.then_ <| W.ret ?_
  cases h
  exact QR.f1 rfl rfl (.t rfl) (.id _)
 ·refine W.region <| WL.p rfl rfl rfl (.s 0 rfl .nil) (q_move rfl) <| WL.p rfl rfl rfl (.s 3 rfl (.k .nil)) (q_int rfl rfl) <| WL.p rfl rfl rfl (.s 4 rfl .nil) (q_move rfl) ?_
  rcases bif_s h with ⟨hb10, h⟩ | ⟨hb10, h⟩
  ·refine WL.q (Wanted.on rfl rfl rfl hb10) rfl rfl (.s 0 rfl .nil) (q_move rfl).o <| WL.q (Wanted.on rfl rfl rfl hb10) rfl rfl (.s 6 rfl (.k .nil)) (q_int rfl rfl).o <| WL.p rfl rfl rfl (.s 5 rfl (.s 7 rfl .nil)) (q_pickT rfl hb10) <| WL.p rfl rfl rfl (.s 8 rfl .nil) (q_move rfl) ?_
   rcases bif_s h with ⟨hb11, h⟩ | ⟨hb11, h⟩
   ·refine WL.skip (Unwanted.on rfl rfl rfl hb11) rfl rfl <| WL.skip (Unwanted.on rfl rfl rfl hb11) rfl rfl <| WL.skip (Unwanted.on rfl rfl rfl hb11) rfl rfl <| WL.skip (Unwanted.und rfl rfl rfl) rfl rfl <| WL.skip (Unwanted.und rfl rfl rfl) rfl rfl <| WL.skip (Unwanted.on rfl rfl rfl hb11) rfl rfl <| WL.p rfl rfl rfl (.s 9 rfl (.k .nil)) (q_pickT rfl hb11) <| WL.p rfl rfl rfl (.s 16 rfl .nil) (q_assign rfl) <| WL.nil ?_
    exact QN.weaken (.one rfl (.nil _)) (Kj9 () true h)
   ·refine WL.q (Wanted.on rfl rfl rfl hb11) rfl rfl (.s 0 rfl .nil) (q_move rfl).o <| WL.q (Wanted.on rfl rfl rfl hb11) rfl rfl (.s 10 rfl (.k .nil)) (q_int rfl rfl).o <| WL.q (Wanted.on rfl rfl rfl hb11) rfl rfl (.s 11 rfl .nil) (q_move rfl).o ?_
    rcases bif_s h with ⟨hb12, h⟩ | ⟨hb12, h⟩
    ·refine WL.q (Wanted.on rfl rfl rfl hb12) rfl rfl (.s 0 rfl .nil) (q_move rfl).o <| WL.q (Wanted.on rfl rfl rfl hb12) rfl rfl (.s 13 rfl (.k .nil)) (q_int rfl rfl).o <| WL.q (Wanted.on rfl rfl rfl hb11) rfl rfl (.s 12 rfl (.s 14 rfl .nil)) (q_pickT rfl hb12).o <| WL.p rfl rfl rfl (.s 9 rfl (.s 15 rfl .nil)) (q_pickF rfl hb11) <| WL.p rfl rfl rfl (.s 16 rfl .nil) (q_assign rfl) <| WL.nil ?_
     exact QN.weaken (.one rfl (.nil _)) (Kj9 () (decide (a0 ≤ 90)) h)
    ·refine WL.skip (Unwanted.on rfl rfl rfl hb12) rfl rfl <| WL.skip (Unwanted.on rfl rfl rfl hb12) rfl rfl <| WL.q (Wanted.on rfl rfl rfl hb11) rfl rfl (.s 12 rfl (.k .nil)) (q_pickF rfl hb12).o <| WL.p rfl rfl rfl (.s 9 rfl (.s 15 rfl .nil)) (q_pickF rfl hb11) <| WL.p rfl rfl rfl (.s 16 rfl .nil) (q_assign rfl) <| WL.nil ?_
     exact QN.weaken (.one rfl (.nil _)) (Kj9 () false h)
  ·refine WL.skip (Unwanted.on rfl rfl rfl hb10) rfl rfl <| WL.skip (Unwanted.on rfl rfl rfl hb10) rfl rfl <| WL.p rfl rfl rfl (.s 5 rfl (.k .nil)) (q_pickF rfl hb10) <| WL.p rfl rfl rfl (.s 8 rfl .nil) (q_move rfl) <| WL.q (Wanted.on rfl rfl rfl rfl) rfl rfl (.s 0 rfl .nil) (q_move rfl).o <| WL.q (Wanted.on rfl rfl rfl rfl) rfl rfl (.s 10 rfl (.k .nil)) (q_int rfl rfl).o <| WL.q (Wanted.on rfl rfl rfl rfl) rfl rfl (.s 11 rfl .nil) (q_move rfl).o ?_
   rcases bif_s h with ⟨hb13, h⟩ | ⟨hb13, h⟩
   ·refine WL.q (Wanted.on rfl rfl rfl hb13) rfl rfl (.s 0 rfl .nil) (q_move rfl).o <| WL.q (Wanted.on rfl rfl rfl hb13) rfl rfl (.s 13 rfl (.k .nil)) (q_int rfl rfl).o <| WL.q (Wanted.on rfl rfl rfl rfl) rfl rfl (.s 12 rfl (.s 14 rfl .nil)) (q_pickT rfl hb13).o <| WL.p rfl rfl rfl (.s 9 rfl (.s 15 rfl .nil)) (q_pickF rfl rfl) <| WL.p rfl rfl rfl (.s 16 rfl .nil) (q_assign rfl) <| WL.nil ?_
    exact QN.weaken (.one rfl (.nil _)) (Kj9 () (decide (a0 ≤ 90)) h)
   ·refine WL.skip (Unwanted.on rfl rfl rfl hb13) rfl rfl <| WL.skip (Unwanted.on rfl rfl rfl hb13) rfl rfl <| WL.q (Wanted.on rfl rfl rfl rfl) rfl rfl (.s 12 rfl (.k .nil)) (q_pickF rfl hb13).o <| WL.p rfl rfl rfl (.s 9 rfl (.s 15 rfl .nil)) (q_pickF rfl rfl) <| WL.p rfl rfl rfl (.s 16 rfl .nil) (q_assign rfl) <| WL.nil ?_
    exact QN.weaken (.one rfl (.nil _)) (Kj9 () false h)
theorem token_run.con (k : Nat) (a0 : Str) (a1 : (Int → Option Bool)) (r : Int) (h : token_run k a0 a1 = some r) : Con Tryz.prog 213 [] [EqA (strV a0), FnA Tryz.prog (fun (x : Int) => [EqA (.int .u8 x)]) (fun (y : Bool) => EqA (.bool y)) a1] (RA (EqA (.int .i64 r))) := by
 unfold token_run at h
 refine Con.of (N := 20) Tryz.func213 rfl rfl rfl fun w0_ fg_ => W.seq <| W.region <| WL.p rfl rfl rfl (.k .nil) (q_assign rfl) <| WL.nil <| QN.then_ <| W.seq <| W.region <| WL.p rfl rfl rfl (.k .nil) (q_assign rfl) <| WL.nil <| QN.then_ <| W.seq <| W.block ?_
 refine W.loop1 (Γ := Unit) (fun (_ : Unit) (x5 : Int) => [(0, EqA (strV a0)), (1, FnA Tryz.prog (fun (x : Int) => [EqA (.int .u8 x)]) (fun (y : Bool) => EqA (.bool y)) a1), (5, EqA (.int .i64 x5))]) (fun (_ : Unit) (_ : Int) => []) h () (.one rfl (.one rfl (.one rfl (.nil _)))) rfl (fun rec0 K0 next0 _ x5 h => ?_)
 unfold token_run.b0 at h
 refine W.seq <| W.seq ?_
 refine W.jn1 (Γ := Unit) (fun (_ : Unit) (x16 : Bool) => [(0, EqA (strV a0)), (1, FnA Tryz.prog (fun (x : Int) => [EqA (.int .u8 x)]) (fun (y : Bool) => EqA (.bool y)) a1), (5, EqA (.int .i64 x5)), (16, EqA (.bool x16))]) (fun (_ : Unit) (_ : Bool) => []) h (fun _ x16 h => ?_) (fun j38 Kj38 h => ?_)
 ·refine QN.then_ ?_
  refine W.condP h rfl (fun hb39 h => ?_) (fun hb39 h => ?_)
  ·refine W.skip <| QN.then_ <| W.block <| W.region <| WL.p rfl rfl rfl (.s 5 rfl .nil) (q_move rfl) ?_
   obtain ⟨c40, h⟩ := ite_n h
   refine WL.p rfl rfl rfl (.s 17 rfl (.k .nil)) (q_addR rfl c40) <| WL.p rfl rfl rfl (.s 18 rfl .nil) (q_assign rfl) <| WL.nil <| QN.block ?_
   exact next0 () (x5 + 1) _ h (.one rfl (.one rfl (.one rfl (.nil _))))
  ·refine W.exit <| QX.then_ <| QX.then_ <| QX.here <| QN.then_ <| W.seq <| W.region <| WL.p rfl rfl rfl (.s 5 rfl .nil) (q_move rfl) <| WL.p rfl rfl rfl (.s 19 rfl .nil) (q_assign rfl) <| WL.nil <| QN.then_ <| W.ret ?_
   cases h
   exact QR.f1 rfl rfl (.t rfl) (.id _)
 ·refine W.region <| WL.p rfl rfl rfl (.s 5 rfl .nil) (q_move rfl) <| WL.p rfl rfl rfl (.s 0 rfl .nil) (q_move rfl) <| WL.p rfl rfl rfl (.s 7 rfl .nil) (q_slen (s := a0) rfl iss9) <| WL.p rfl rfl rfl (.s 6 rfl (.s 8 rfl .nil)) (q_int rfl rfl) <| WL.p rfl rfl rfl (.s 9 rfl .nil) (q_move rfl) ?_
  rcases bif_s h with ⟨hb41, h⟩ | ⟨hb41, h⟩
  ·refine WL.q (Wanted.on rfl rfl rfl hb41) rfl rfl (.s 1 rfl .nil) (q_move rfl).o <| WL.q (Wanted.on rfl rfl rfl hb41) rfl rfl (.s 0 rfl .nil) (q_move rfl).o <| WL.q (Wanted.on rfl rfl rfl hb41) rfl rfl (.s 5 rfl .nil) (q_move rfl).o ?_
   obtain ⟨c42, h⟩ := ite_n h
   refine WL.q (Wanted.on rfl rfl rfl hb41) rfl rfl (.s 12 rfl (.s 13 rfl .nil)) (q_sindex rfl iss9 c42.1 c42.2).o ?_
   obtain ⟨t43, ht43, h⟩ := bind_s h
   refine WL.q (Wanted.on rfl rfl rfl hb41) rfl rfl (.s 11 rfl (.s 14 rfl .nil)) (q_callV («as» := (fun (x : Int) => [EqA (.int .u8 x)])) (res := (fun (y : Bool) => EqA (.bool y))) (x := (bt a0 x5)) (y := t43) (xs := [.tmp 14]) rfl ht43 rfl).o <| WL.p rfl rfl rfl (.s 10 rfl (.s 15 rfl .nil)) (q_pickT rfl hb41) <| WL.nil ?_
   exact QN.weaken (.one rfl (.one rfl (.one rfl (.one rfl (.nil _))))) (Kj38 () t43 h)
  ·refine WL.skip (Unwanted.on rfl rfl rfl hb41) rfl rfl <| WL.skip (Unwanted.on rfl rfl rfl hb41) rfl rfl <| WL.skip (Unwanted.on rfl rfl rfl hb41) rfl rfl <| WL.skip (Unwanted.on rfl rfl rfl hb41) rfl rfl <| WL.skip (Unwanted.on rfl rfl rfl hb41) rfl rfl <| WL.p rfl rfl rfl (.s 10 rfl (.k .nil)) (q_pickF rfl hb41) <| WL.nil ?_
   exact QN.weaken (.one rfl (.one rfl (.one rfl (.one rfl (.nil _))))) (Kj38 () false h)
theorem token_digit.con (k : Nat) (a0 : Int) (r : Bool) (h : token_digit k a0 = some r) : Con Tryz.prog 215 [] [EqA (.int .u8 a0)] (RA (EqA (.bool r))) := by
 unfold token_digit at h
 refine Con.of (N := 9) Tryz.func215 rfl rfl rfl fun w0_ fg_ => W.seq <| W.region <| WL.p rfl rfl rfl (.k .nil) (q_assign rfl) <| WL.nil <| QN.then_ <| W.seq ?_
 refine W.jn1 (Γ := Unit) (fun (_ : Unit) (x2 : Bool) => [(2, EqA (.bool x2))]) (fun (_ : Unit) (_ : Bool) => []) h (fun _ x2 h => ?_) (fun j46 Kj46 h => ?_)
 ·refine QN.then_ <| W.ret ?_
  cases h
  exact QR.f1 rfl rfl (.t rfl) (.id _)
 ·refine W.region <| WL.p rfl rfl rfl (.s 0 rfl .nil) (q_move rfl) <| WL.p rfl rfl rfl (.s 3 rfl (.k .nil)) (q_int rfl rfl) <| WL.p rfl rfl rfl (.s 4 rfl .nil) (q_move rfl) ?_
  rcases bif_s h with ⟨hb47, h⟩ | ⟨hb47, h⟩
  ·refine WL.q (Wanted.on rfl rfl rfl hb47) rfl rfl (.s 0 rfl .nil) (q_move rfl).o <| WL.q (Wanted.on rfl rfl rfl hb47) rfl rfl (.s 6 rfl (.k .nil)) (q_int rfl rfl).o <| WL.p rfl rfl rfl (.s 5 rfl (.s 7 rfl .nil)) (q_pickT rfl hb47) <| WL.p rfl rfl rfl (.s 8 rfl .nil) (q_assign rfl) <| WL.nil ?_
   exact QN.weaken (.one rfl (.nil _)) (Kj46 () (decide (a0 ≤ 57)) h)
  ·refine WL.skip (Unwanted.on rfl rfl rfl hb47) rfl rfl <| WL.skip (Unwanted.on rfl rfl rfl hb47) rfl rfl <| WL.p rfl rfl rfl (.s 5 rfl (.k .nil)) (q_pickF rfl hb47) <| WL.p rfl rfl rfl (.s 8 rfl .nil) (q_assign rfl) <| WL.nil ?_
   exact QN.weaken (.one rfl (.nil _)) (Kj46 () false h)
theorem token_part.con (k : Nat) (a0 : Int) (r : Bool) (h : token_part k a0 = some r) : Con Tryz.prog 214 [] [EqA (.int .u8 a0)] (RA (EqA (.bool r))) := by
 unfold token_part at h
 refine Con.of (N := 13) Tryz.func214 rfl rfl rfl fun w0_ fg_ => W.seq <| W.region <| WL.p rfl rfl rfl (.k .nil) (q_assign rfl) <| WL.nil <| QN.then_ <| W.seq ?_
 refine W.jn1 (Γ := Unit) (fun (_ : Unit) (x2 : Bool) => [(2, EqA (.bool x2))]) (fun (_ : Unit) (_ : Bool) => []) h (fun _ x2 h => ?_) (fun j53 Kj53 h => ?_)
 ·refine QN.then_ <| W.ret ?_
  cases h
  exact QR.f1 rfl rfl (.t rfl) (.id _)
 ·refine W.region <| WL.p rfl rfl rfl (.s 0 rfl .nil) (q_move rfl) ?_
  obtain ⟨t54, ht54, h⟩ := bind_s h
  refine WL.p rfl rfl rfl (.s 3 rfl .nil) (q_call (f := 212) (A := EqA (.bool t54)) (xs := [.tmp 3]) («as» := [EqA (.int .u8 a0)]) rfl ca212 (token_letter.con k a0 t54 ht54) rfl) <| WL.p rfl rfl rfl (.s 4 rfl .nil) (q_move rfl) ?_
  rcases bif_s h with ⟨hb55, h⟩ | ⟨hb55, h⟩
  ·refine WL.skip (Unwanted.on rfl rfl rfl hb55) rfl rfl <| WL.skip (Unwanted.on rfl rfl rfl hb55) rfl rfl <| WL.p rfl rfl rfl (.s 5 rfl (.k .nil)) (q_pickT rfl hb55) <| WL.p rfl rfl rfl (.s 8 rfl .nil) (q_move rfl) <| WL.skip (Unwanted.on rfl rfl rfl rfl) rfl rfl <| WL.skip (Unwanted.on rfl rfl rfl rfl) rfl rfl <| WL.p rfl rfl rfl (.s 9 rfl (.k .nil)) (q_pickT rfl rfl) <| WL.p rfl rfl rfl (.s 12 rfl .nil) (q_assign rfl) <| WL.nil ?_
   exact QN.weaken (.one rfl (.nil _)) (Kj53 () true h)
  ·refine WL.q (Wanted.on rfl rfl rfl hb55) rfl rfl (.s 0 rfl .nil) (q_move rfl).o ?_
   obtain ⟨t56, ht56, h⟩ := bind_s h
   refine WL.q (Wanted.on rfl rfl rfl hb55) rfl rfl (.s 6 rfl .nil) (q_call (f := 215) (A := EqA (.bool t56)) (xs := [.tmp 6]) («as» := [EqA (.int .u8 a0)]) rfl ca215 (token_digit.con k a0 t56 ht56) rfl).o <| WL.p rfl rfl rfl (.s 5 rfl (.s 7 rfl .nil)) (q_pickF rfl hb55) <| WL.p rfl rfl rfl (.s 8 rfl .nil) (q_move rfl) ?_
   rcases bif_s h with ⟨hb57, h⟩ | ⟨hb57, h⟩
   ·refine WL.skip (Unwanted.on rfl rfl rfl hb57) rfl rfl <| WL.skip (Unwanted.on rfl rfl rfl hb57) rfl rfl <| WL.p rfl rfl rfl (.s 9 rfl (.k .nil)) (q_pickT rfl hb57) <| WL.p rfl rfl rfl (.s 12 rfl .nil) (q_assign rfl) <| WL.nil ?_
    exact QN.weaken (.one rfl (.nil _)) (Kj53 () true h)
   ·refine WL.q (Wanted.on rfl rfl rfl hb57) rfl rfl (.s 0 rfl .nil) (q_move rfl).o <| WL.q (Wanted.on rfl rfl rfl hb57) rfl rfl (.s 10 rfl (.k .nil)) (q_int rfl rfl).o <| WL.p rfl rfl rfl (.s 9 rfl (.s 11 rfl .nil)) (q_pickF rfl hb57) <| WL.p rfl rfl rfl (.s 12 rfl .nil) (q_assign rfl) <| WL.nil ?_
    exact QN.weaken (.one rfl (.nil _)) (Kj53 () (a0 == 95) h)
theorem token_quoted_1.con (k : Nat) (a0 : Int) (r : Bool) (h : token_quoted_1 k a0 = some r) : Con Tryz.prog 236 [] [EqA (.int .u8 a0)] (RA (EqA (.bool r))) := by
 unfold token_quoted_1 at h
 refine Con.of (N := 13) Tryz.func236 rfl rfl rfl fun w0_ fg_ => W.seq <| W.region <| WL.p rfl rfl rfl (.k .nil) (q_assign rfl) <| WL.nil <| QN.then_ <| W.seq ?_
 refine W.jn1 (Γ := Unit) (fun (_ : Unit) (x2 : Bool) => [(2, EqA (.bool x2))]) (fun (_ : Unit) (_ : Bool) => []) h (fun _ x2 h => ?_) (fun j61 Kj61 h => ?_)
 ·refine QN.then_ <| W.ret ?_
  cases h
  exact QR.f1 rfl rfl (.t rfl) (.id _)
 ·refine W.region <| WL.p rfl rfl rfl (.s 0 rfl .nil) (q_move rfl) <| WL.p rfl rfl rfl (.s 3 rfl (.k .nil)) (q_int rfl rfl) <| WL.p rfl rfl rfl (.s 4 rfl .nil) (q_move rfl) ?_
  rcases bif_s h with ⟨hb62, h⟩ | ⟨hb62, h⟩
  ·refine WL.q (Wanted.on rfl rfl rfl hb62) rfl rfl (.s 0 rfl .nil) (q_move rfl).o <| WL.q (Wanted.on rfl rfl rfl hb62) rfl rfl (.s 6 rfl (.k .nil)) (q_int rfl rfl).o <| WL.p rfl rfl rfl (.s 5 rfl (.s 7 rfl .nil)) (q_pickT rfl hb62) <| WL.p rfl rfl rfl (.s 8 rfl .nil) (q_move rfl) ?_
   rcases bif_s h with ⟨hb63, h⟩ | ⟨hb63, h⟩
   ·refine WL.q (Wanted.on rfl rfl rfl hb63) rfl rfl (.s 0 rfl .nil) (q_move rfl).o <| WL.q (Wanted.on rfl rfl rfl hb63) rfl rfl (.s 10 rfl (.k .nil)) (q_int rfl rfl).o <| WL.p rfl rfl rfl (.s 9 rfl (.s 11 rfl .nil)) (q_pickT rfl hb63) <| WL.p rfl rfl rfl (.s 12 rfl .nil) (q_assign rfl) <| WL.nil ?_
    exact QN.weaken (.one rfl (.nil _)) (Kj61 () (a0 != 34) h)
   ·refine WL.skip (Unwanted.on rfl rfl rfl hb63) rfl rfl <| WL.skip (Unwanted.on rfl rfl rfl hb63) rfl rfl <| WL.p rfl rfl rfl (.s 9 rfl (.k .nil)) (q_pickF rfl hb63) <| WL.p rfl rfl rfl (.s 12 rfl .nil) (q_assign rfl) <| WL.nil ?_
    exact QN.weaken (.one rfl (.nil _)) (Kj61 () false h)
  ·refine WL.skip (Unwanted.on rfl rfl rfl hb62) rfl rfl <| WL.skip (Unwanted.on rfl rfl rfl hb62) rfl rfl <| WL.p rfl rfl rfl (.s 5 rfl (.k .nil)) (q_pickF rfl hb62) <| WL.p rfl rfl rfl (.s 8 rfl .nil) (q_move rfl) <| WL.skip (Unwanted.on rfl rfl rfl rfl) rfl rfl <| WL.skip (Unwanted.on rfl rfl rfl rfl) rfl rfl <| WL.p rfl rfl rfl (.s 9 rfl (.k .nil)) (q_pickF rfl rfl) <| WL.p rfl rfl rfl (.s 12 rfl .nil) (q_assign rfl) <| WL.nil ?_
   exact QN.weaken (.one rfl (.nil _)) (Kj61 () false h)
theorem token_quoted.con (k : Nat) (a0 : Str) (r : (Int × Int)) (h : token_quoted k a0 = some r) : Con Tryz.prog 216 [] [EqA (strV a0)] (RA (TupA [EqA (.int .i64 r.1), EqA (.int .i64 r.2)])) := by
 unfold token_quoted at h
 refine Con.of (N := 24) Tryz.func216 rfl rfl rfl fun w0_ fg_ => W.seq <| W.region <| WL.p rfl rfl rfl (.k .nil) (q_assign rfl) <| WL.p rfl rfl rfl (.k .nil) (q_assign rfl) <| WL.nil <| QN.then_ <| W.seq <| W.region <| WL.p rfl rfl rfl (.s 0 rfl .nil) (q_move rfl) ?_
 obtain ⟨c64, h⟩ := ite_n h
 refine WL.p rfl rfl rfl (.s 5 rfl (.k .nil)) (q_ssubL rfl iss9 c64.1 c64.2) ?_
 obtain ⟨t65, ht65, h⟩ := bind_s h
 refine WL.p rfl rfl rfl (.s 6 rfl (.f («as» := (fun (x : Int) => [EqA (.int .u8 x)])) (res := (fun (y : Bool) => EqA (.bool y))) (p := fun x => token_quoted_1 k x) ca236 (fun x y hp => token_quoted_1.con k x y hp) .nil)) (q_call (f := 213) (A := EqA (.int .i64 t65)) (xs := [.tmp 6, .func 236]) («as» := [EqA (strV (a0.drop (1 : Int).toNat)), FnA Tryz.prog (fun (x : Int) => [EqA (.int .u8 x)]) (fun (y : Bool) => EqA (.bool y)) (fun x => token_quoted_1 k x)]) rfl ca213 (token_run.con k (a0.drop (1 : Int).toNat) (fun x => token_quoted_1 k x) t65 ht65) rfl) <| WL.p rfl rfl rfl (.s 7 rfl .nil) (q_assign rfl) <| WL.nil <| QN.then_ <| W.seq <| W.seq ?_
 refine W.jn1 (Γ := Unit) (fun (_ : Unit) (x19 : Bool) => [(4, EqA (.int .i64 t65)), (19, EqA (.bool x19))]) (fun (_ : Unit) (_ : Bool) => []) h (fun _ x19 h => ?_) (fun j71 Kj71 h => ?_)
 ·refine QN.then_ ?_
  refine W.condP h rfl (fun hb72 h => ?_) (fun hb72 h => ?_)
  ·refine W.seq <| W.region <| WL.p rfl rfl rfl (.k .nil) (q_assign rfl) <| WL.p rfl rfl rfl (.k .nil) (q_assign rfl) <| WL.nil <| QN.then_ <| W.ret <| QR.then_ ?_
   cases h
   exact QR.f2 rfl rfl (.t rfl) (.t rfl) (.id _)
  ·refine W.skip <| QN.then_ <| W.seq <| W.seq <| W.region <| WL.p rfl rfl rfl (.s 4 rfl .nil) (q_move rfl) <| WL.p rfl rfl rfl (.s 20 rfl (.k .nil)) (q_int rfl rfl) <| WL.nil <| QN.then_ ?_
   refine W.condP h rfl (fun hb73 h => ?_) (fun hb73 h => ?_)
   ·refine W.seq <| W.region <| WL.p rfl rfl rfl (.k .nil) (q_assign rfl) <| WL.p rfl rfl rfl (.k .nil) (q_assign rfl) <| WL.nil <| QN.then_ <| W.ret <| QR.then_ ?_
    cases h
    exact QR.f2 rfl rfl (.t rfl) (.t rfl) (.id _)
   ·refine W.skip <| QN.then_ <| W.seq <| W.region <| WL.p rfl rfl rfl (.s 4 rfl .nil) (q_move rfl) ?_
    obtain ⟨c74, h⟩ := ite_n h
    refine WL.p rfl rfl rfl (.s 22 rfl (.k .nil)) (q_addR rfl c74) <| WL.p rfl rfl rfl (.s 23 rfl .nil) (q_assign rfl) <| WL.p rfl rfl rfl (.k .nil) (q_assign rfl) <| WL.nil <| QN.then_ <| W.ret ?_
    cases h
    exact QR.f2 rfl rfl (.t rfl) (.t rfl) (.id _)
 ·refine W.region <| WL.p rfl rfl rfl (.s 4 rfl .nil) (q_move rfl) ?_
  obtain ⟨c75, h⟩ := ite_n h
  refine WL.p rfl rfl rfl (.k (.s 8 rfl .nil)) (q_addR rfl c75) <| WL.p rfl rfl rfl (.s 0 rfl .nil) (q_move rfl) <| WL.p rfl rfl rfl (.s 10 rfl .nil) (q_slen (s := a0) rfl iss9) <| WL.p rfl rfl rfl (.s 9 rfl (.s 11 rfl .nil)) (q_int rfl rfl) <| WL.p rfl rfl rfl (.s 12 rfl .nil) (q_move rfl) ?_
  rcases bif_s h with ⟨hb76, h⟩ | ⟨hb76, h⟩
  ·refine WL.skip (Unwanted.on rfl rfl rfl hb76) rfl rfl <| WL.skip (Unwanted.on rfl rfl rfl hb76) rfl rfl <| WL.skip (Unwanted.on rfl rfl rfl hb76) rfl rfl <| WL.skip (Unwanted.on rfl rfl rfl hb76) rfl rfl <| WL.skip (Unwanted.on rfl rfl rfl hb76) rfl rfl <| WL.p rfl rfl rfl (.s 13 rfl (.k .nil)) (q_pickT rfl hb76) <| WL.nil ?_
   exact QN.weaken (.one rfl (.one rfl (.nil _))) (Kj71 () true h)
  ·refine WL.q (Wanted.on rfl rfl rfl hb76) rfl rfl (.s 0 rfl .nil) (q_move rfl).o <| WL.q (Wanted.on rfl rfl rfl hb76) rfl rfl (.s 4 rfl .nil) (q_move rfl).o ?_
   obtain ⟨c77, h⟩ := ite_n h
   refine WL.q (Wanted.on rfl rfl rfl hb76) rfl rfl (.k (.s 15 rfl .nil)) (q_addR rfl c77).o ?_
   obtain ⟨c78, h⟩ := ite_n h
   refine WL.q (Wanted.on rfl rfl rfl hb76) rfl rfl (.s 14 rfl (.s 16 rfl .nil)) (q_sindex rfl iss9 c78.1 c78.2).o <| WL.q (Wanted.on rfl rfl rfl hb76) rfl rfl (.s 17 rfl (.k .nil)) (q_int rfl rfl).o <| WL.p rfl rfl rfl (.s 13 rfl (.s 18 rfl .nil)) (q_pickF rfl hb76) <| WL.nil ?_
   exact QN.weaken (.one rfl (.one rfl (.nil _))) (Kj71 () ((bt a0 (1 + t65)) != 34) h)
theorem slices_Index_string.con (k : Nat) (a0 : (List Str)) (a1 : Str) (r : Int) (h : slices_Index_string k a0 a1 = some r) : Con Tryz.prog 219 [] [SlcA kStr a0, EqA (strV a1)] (RA (EqA (.int .i64 r))) := by
 unfold slices_Index_string at h
 refine Con.of (N := 19) Tryz.func219 rfl rfl rfl fun w0_ fg_ => W.seq <| W.region <| WL.p rfl rfl rfl (.k .nil) (q_assign rfl) <| WL.nil <| QN.then_ <| W.seq <| W.seq <| W.region <| WL.p rfl rfl rfl (.s 0 rfl .nil) (q_move rfl) <| WL.p rfl rfl rfl (.s 6 rfl .nil) (q_len rfl elS93) <| WL.p rfl rfl rfl (.k .nil) (q_move rfl) <| WL.nil ?_
 refine QN.then_ <| W.block ?_
 refine W.loop1 (Γ := Unit) (fun (_ : Unit) (x8 : Int) => [(0, SlcA kStr a0), (1, EqA (strV a1)), (7, EqA (.int .i64 (a0.length : Int))), (8, EqA (.int .i64 x8))]) (fun (_ : Unit) (_ : Int) => []) h () (.one rfl (.one rfl (.one rfl (.one rfl (.nil _))))) rfl (fun rec0 K0 next0 _ x8 h => ?_)
 unfold slices_Index_string.b0 at h
 refine W.seq <| W.region <| WL.p rfl rfl rfl (.s 8 rfl (.s 7 rfl .nil)) (q_int rfl rfl) <| WL.nil <| QN.then_ <| W.seq ?_
 refine W.condP h rfl (fun hb87 h => ?_) (fun hb87 h => ?_)
 ·refine W.skip <| QN.then_ <| W.seq <| W.block <| W.seq <| W.region <| WL.p rfl rfl rfl (.s 8 rfl .nil) (q_move rfl) <| WL.p rfl rfl rfl (.s 10 rfl .nil) (q_assign rfl) <| WL.nil <| QN.then_ <| W.seq <| W.region <| WL.p rfl rfl rfl (.s 1 rfl .nil) (q_move rfl) ?_
  refine WL.p rfl rfl rfl (.s 0 rfl .nil) (q_move rfl) <| WL.p rfl rfl rfl (.s 5 rfl .nil) (q_move rfl) ?_
  obtain ⟨c88, h⟩ := ite_n h
  refine WL.p rfl rfl rfl (.s 12 rfl (.s 13 rfl .nil)) (q_index rfl el93 rfl c88.1 c88.2) <| WL.p rfl rfl rfl (.s 14 rfl .nil) (q_load rfl sh9) <| WL.p rfl rfl rfl (.s 11 rfl (.s 15 rfl .nil)) (q_str (s := a1) (t := (rd a0 x8)) rfl) <| WL.nil <| QN.weaken (env' := [(16, _), (5, _), (8, _), (7, _), (1, _), (0, _)]) (.one rfl (.one rfl (.one rfl (.one rfl (.one rfl (.one rfl (.nil _))))))) <| QN.then_ ?_
  refine W.condP h rfl (fun hb89 h => ?_) (fun hb89 h => ?_)
  ·refine W.seq <| W.region <| WL.p rfl rfl rfl (.s 5 rfl .nil) (q_move rfl) <| WL.p rfl rfl rfl (.s 17 rfl .nil) (q_assign rfl) <| WL.nil <| QN.weaken (env' := [(4, _)]) (.one rfl (.nil _)) <| QN.then_ <| W.ret <| QR.block <| QR.then_ <| QR.then_ <| QR.block <| QR.then_ ?_
   cases h
   exact QR.f1 rfl rfl (.t rfl) (.id _)
  ·refine W.skip <| QN.block <| QN.then_ <| W.region ?_
   obtain ⟨c90, h⟩ := ite_n h
   refine WL.p rfl rfl rfl (.s 8 rfl (.k .nil)) (q_addR rfl c90) <| WL.p rfl rfl rfl (.s 18 rfl .nil) (q_move rfl) <| WL.nil ?_
   exact next0 () (x8 + 1) _ h (.one rfl (.one rfl (.one rfl (.one rfl (.nil _)))))
 ·refine W.exit <| QX.then_ <| QX.then_ <| QX.here <| QN.then_ <| W.seq <| W.region <| WL.p rfl rfl rfl (.k .nil) (q_assign rfl) <| WL.nil <| QN.then_ <| W.ret ?_
  cases h
  exact QR.f1 rfl rfl (.t rfl) (.id _)
theorem slices_Contains_string.con (k : Nat) (a0 : (List Str)) (a1 : Str) (r : Bool) (h : slices_Contains_string k a0 a1 = some r) : Con Tryz.prog 201 [] [SlcA kStr a0, EqA (strV a1)] (RA (EqA (.bool r))) := by
 unfold slices_Contains_string at h
 refine Con.of (N := 9) Tryz.func201 rfl rfl rfl fun w0_ fg_ => W.seq <| W.region <| WL.p rfl rfl rfl (.k .nil) (q_assign rfl) <| WL.nil <| QN.then_ <| W.seq <| W.region <| WL.p rfl rfl rfl (.s 0 rfl .nil) (q_move rfl) <| WL.p rfl rfl rfl (.s 1 rfl .nil) (q_move rfl) ?_
 obtain ⟨t91, ht91, h⟩ := bind_s h
 refine WL.p rfl rfl rfl (.s 5 rfl (.s 6 rfl .nil)) (q_call (f := 219) (A := EqA (.int .i64 t91)) (xs := [.tmp 5, .tmp 6]) («as» := [SlcA kStr a0, EqA (strV a1)]) rfl ca219 (slices_Index_string.con k a0 a1 t91 ht91) rfl) <| WL.p rfl rfl rfl (.s 7 rfl (.k .nil)) (q_int rfl rfl) <| WL.p rfl rfl rfl (.s 8 rfl .nil) (q_assign rfl) <| WL.nil <| QN.then_ <| W.ret ?_
 cases h
 exact QR.f1 rfl rfl (.t rfl) (.id _)
theorem token_pair.con (k : Nat) (a0 : Str) (r : Bool) (h : token_pair k a0 = some r) : Con Tryz.prog 217 [] [EqA (strV a0)] (RA (EqA (.bool r))) := by
 unfold token_pair at h
 refine Con.of (N := 12) Tryz.func217 rfl rfl rfl fun w0_ fg_ => W.seq <| W.region <| WL.p rfl rfl rfl (.k .nil) (q_assign rfl) <| WL.nil <| QN.then_ <| W.seq ?_
 refine W.jn1 (Γ := Unit) (fun (_ : Unit) (x2 : Bool) => [(2, EqA (.bool x2))]) (fun (_ : Unit) (_ : Bool) => []) h (fun _ x2 h => ?_) (fun j96 Kj96 h => ?_)
 ·refine QN.then_ <| W.ret ?_
  cases h
  exact QR.f1 rfl rfl (.t rfl) (.id _)
 ·refine W.region <| WL.p rfl rfl rfl (.s 0 rfl .nil) (q_move rfl) <| WL.p rfl rfl rfl (.s 3 rfl .nil) (q_slen (s := a0) rfl iss9) <| WL.p rfl rfl rfl (.s 4 rfl (.k .nil)) (q_int rfl rfl) <| WL.p rfl rfl rfl (.s 5 rfl .nil) (q_move rfl) ?_
  rcases bif_s h with ⟨hb97, h⟩ | ⟨hb97, h⟩
  ·refine WL.q (Wanted.on rfl rfl rfl hb97) rfl rfl (.k (.k (.k (.k (.k .nil))))) (q_lit (kd := kStr) (ps := [(0, .const (.string ⟨#[45, 62]⟩)), (1, .const (.string ⟨#[60, 61]⟩)), (2, .const (.string ⟨#[62, 61]⟩)), (3, .const (.string ⟨#[61, 61]⟩)), (4, .const (.string ⟨#[33, 61]⟩))]) (xs := [.const (.string ⟨#[45, 62]⟩), .const (.string ⟨#[60, 61]⟩), .const (.string ⟨#[62, 61]⟩), .const (.string ⟨#[61, 61]⟩), .const (.string ⟨#[33, 61]⟩)]) («as» := [EqA (strV ([45, 62] : Str)), EqA (strV ([60, 61] : Str)), EqA (strV ([62, 61] : Str)), EqA (strV ([61, 61] : Str)), EqA (strV ([33, 61] : Str))]) (ys := [([45, 62] : Str), ([60, 61] : Str), ([62, 61] : Str), ([61, 61] : Str), ([33, 61] : Str)]) rfl rfl el93 rfl gr9 rfl rfl rfl (.cons (CellsOf.one rfl) (.cons (CellsOf.one rfl) (.cons (CellsOf.one rfl) (.cons (CellsOf.one rfl) (.cons (CellsOf.one rfl) .nil)))))).o <| WL.q (Wanted.on rfl rfl rfl hb97) rfl rfl (.s 0 rfl .nil) (q_move rfl).o ?_
   obtain ⟨c98, h⟩ := ite_n h
   refine WL.q (Wanted.on rfl rfl rfl hb97) rfl rfl (.s 8 rfl (.k .nil)) (q_ssubH rfl iss9 c98.1 c98.2).o ?_
   obtain ⟨t99, ht99, h⟩ := bind_s h
   refine WL.q (Wanted.on rfl rfl rfl hb97) rfl rfl (.s 7 rfl (.s 9 rfl .nil)) (q_call (f := 201) (A := EqA (.bool t99)) (xs := [.tmp 7, .tmp 9]) («as» := [SlcA kStr ([([45, 62] : Str), ([60, 61] : Str), ([62, 61] : Str), ([61, 61] : Str), ([33, 61] : Str)]), EqA (strV (a0.take (2 : Int).toNat))]) rfl ca201 (slices_Contains_string.con k ([([45, 62] : Str), ([60, 61] : Str), ([62, 61] : Str), ([61, 61] : Str), ([33, 61] : Str)]) (a0.take (2 : Int).toNat) t99 ht99) rfl).o <| WL.p rfl rfl rfl (.s 6 rfl (.s 10 rfl .nil)) (q_pickT rfl hb97) <| WL.p rfl rfl rfl (.s 11 rfl .nil) (q_assign rfl) <| WL.nil ?_
   exact QN.weaken (.one rfl (.nil _)) (Kj96 () t99 h)
  ·refine WL.skip (Unwanted.on rfl rfl rfl hb97) rfl rfl <| WL.skip (Unwanted.on rfl rfl rfl hb97) rfl rfl <| WL.skip (Unwanted.on rfl rfl rfl hb97) rfl rfl <| WL.skip (Unwanted.on rfl rfl rfl hb97) rfl rfl <| WL.p rfl rfl rfl (.s 6 rfl (.k .nil)) (q_pickF rfl hb97) <| WL.p rfl rfl rfl (.s 11 rfl .nil) (q_assign rfl) <| WL.nil ?_
   exact QN.weaken (.one rfl (.nil _)) (Kj96 () false h)
theorem TryzIdx : Extern.find Tryz.f243 = some Extern.BytealgIndexByte.indexByte := by kernel_rfl
theorem stringslite_IndexByte.con (k : Nat) (a0 : Str) (a1 : Int) (r : Int) (h : stringslite_IndexByte k a0 a1 = some r) : Con Tryz.prog 237 [] [EqA (strV a0), EqA (.int .u8 a1)] (RA (EqA (.int .i64 r))) := by
  unfold stringslite_IndexByte at h
  cases h
  refine Con.of (N := 8) Tryz.func237 rfl rfl rfl fun w0_ fg_ => ?_
  refine W.seq (W.region (WL.p rfl rfl rfl (.k .nil) (q_assign rfl) (WL.nil (QN.then_ ?_))))
  refine W.seq (W.region ?_)
  refine WL.p rfl rfl rfl (.s 0 rfl .nil) (q_move rfl) ?_
  refine WL.p rfl rfl rfl (.s 1 rfl .nil) (q_move rfl) ?_
  refine WL.p rfl rfl rfl (.s 5 rfl (.s 6 rfl .nil)) (q_indexByte (f := 243) rfl Tryz.func243 (by kernel_rfl) rfl (by kernel_rfl) TryzIdx) ?_
  refine WL.p rfl rfl rfl (.s 7 rfl .nil) (q_assign rfl) ?_
  refine WL.nil (QN.then_ ?_)
  exact W.ret (QR.f1 rfl rfl (.t rfl) (.id _))
theorem strings_IndexByte.con (k : Nat) (a0 : Str) (a1 : Int) (r : Int) (h : strings_IndexByte k a0 a1 = some r) : Con Tryz.prog 218 [] [EqA (strV a0), EqA (.int .u8 a1)] (RA (EqA (.int .i64 r))) := by
 unfold strings_IndexByte at h
 refine Con.of (N := 8) Tryz.func218 rfl rfl rfl fun w0_ fg_ => W.seq <| W.region <| WL.p rfl rfl rfl (.k .nil) (q_assign rfl) <| WL.nil <| QN.then_ <| W.seq <| W.region <| WL.p rfl rfl rfl (.s 0 rfl .nil) (q_move rfl) <| WL.p rfl rfl rfl (.s 1 rfl .nil) (q_move rfl) ?_
 obtain ⟨t100, ht100, h⟩ := bind_s h
 refine WL.p rfl rfl rfl (.s 5 rfl (.s 6 rfl .nil)) (q_call (f := 237) (A := EqA (.int .i64 t100)) (xs := [.tmp 5, .tmp 6]) («as» := [EqA (strV a0), EqA (.int .u8 a1)]) rfl ca237 (stringslite_IndexByte.con k a0 a1 t100 ht100) rfl) <| WL.p rfl rfl rfl (.s 7 rfl .nil) (q_assign rfl) <| WL.nil <| QN.then_ <| W.ret ?_
 cases h
 exact QR.f1 rfl rfl (.t rfl) (.id _)
theorem token_next.con (k : Nat) (a0 : Str) (r : (Int × Int × Int)) (h : token_next k a0 = some r) : Con Tryz.prog 199 [] [EqA (strV a0)] (RA (TupA [EqA (.int .i64 r.1), EqA (.int .i64 r.2.1), EqA (.int .i64 r.2.2)])) := by
 unfold token_next at h
 refine Con.of (N := 45) Tryz.func199 rfl rfl rfl fun w0_ fg_ => W.seq <| W.region <| WL.p rfl rfl rfl (.k .nil) (q_assign rfl) <| WL.p rfl rfl rfl (.k .nil) (q_assign rfl) <| WL.p rfl rfl rfl (.k .nil) (q_assign rfl) <| WL.nil <| QN.then_ <| W.seq <| W.region <| WL.p rfl rfl rfl (.s 0 rfl .nil) (q_move rfl) ?_
 obtain ⟨c101, h⟩ := ite_n h
 refine WL.p rfl rfl rfl (.s 10 rfl (.k .nil)) (q_sindex rfl iss9 c101.1 c101.2) <| WL.p rfl rfl rfl (.s 11 rfl .nil) (q_assign rfl) <| WL.nil <| QN.then_ <| W.seq <| W.block <| W.seq <| W.region <| WL.p rfl rfl rfl (.s 5 rfl .nil) (q_move rfl) ?_
 obtain ⟨t102, ht102, h⟩ := bind_s h
 refine WL.p rfl rfl rfl (.s 13 rfl .nil) (q_call (f := 212) (A := EqA (.bool t102)) (xs := [.tmp 13]) («as» := [EqA (.int .u8 (bt a0 0))]) rfl ca212 (token_letter.con k (bt a0 0) t102 ht102) rfl) <| WL.p rfl rfl rfl (.s 14 rfl .nil) (q_assign rfl) <| WL.nil <| QN.weaken (env' := [(12, _), (5, _), (0, _)]) (.one rfl (.one rfl (.one rfl (.nil _)))) <| QN.then_ ?_
 refine W.condP h rfl (fun hb103 h => ?_) (fun hb103 h => ?_)
 ·refine W.seq <| W.region <| WL.p rfl rfl rfl (.s 0 rfl .nil) (q_move rfl) ?_
  obtain ⟨t104, ht104, h⟩ := bind_s h
  refine WL.p rfl rfl rfl (.s 15 rfl (.f («as» := (fun (x : Int) => [EqA (.int .u8 x)])) (res := (fun (y : Bool) => EqA (.bool y))) (p := fun x => token_part k x) ca214 (fun x y hp => token_part.con k x y hp) .nil)) (q_call (f := 213) (A := EqA (.int .i64 t104)) (xs := [.tmp 15, .func 214]) («as» := [EqA (strV a0), FnA Tryz.prog (fun (x : Int) => [EqA (.int .u8 x)]) (fun (y : Bool) => EqA (.bool y)) (fun x => token_part k x)]) rfl ca213 (token_run.con k a0 (fun x => token_part k x) t104 ht104) rfl) <| WL.p rfl rfl rfl (.s 16 rfl .nil) (q_assign rfl) <| WL.nil <| QN.then_ <| W.seq <| W.seq <| W.region <| WL.p rfl rfl rfl (.s 6 rfl .nil) (q_move rfl) <| WL.p rfl rfl rfl (.s 17 rfl (.k .nil)) (q_int rfl rfl) <| WL.nil <| QN.then_ ?_
  refine W.condP h rfl (fun hb105 h => ?_) (fun hb105 h => ?_)
  ·refine W.seq <| W.region <| WL.p rfl rfl rfl (.k .nil) (q_assign rfl) <| WL.p rfl rfl rfl (.k .nil) (q_assign rfl) <| WL.p rfl rfl rfl (.k .nil) (q_assign rfl) <| WL.nil <| QN.weaken (env' := [(4, _), (3, _), (2, _)]) (.one rfl (.one rfl (.one rfl (.nil _)))) <| QN.then_ <| W.ret <| QR.then_ <| QR.block <| QR.then_ ?_
   cases h
   exact QR.f3 rfl rfl (.t rfl) (.t rfl) (.t rfl) (.id _)
  ·refine W.skip <| QN.weaken (env' := [(6, _)]) (.one rfl (.nil _)) <| QN.then_ <| W.seq <| W.region <| WL.p rfl rfl rfl (.s 6 rfl .nil) (q_move rfl) <| WL.p rfl rfl rfl (.k .nil) (q_assign rfl) <| WL.p rfl rfl rfl (.s 19 rfl .nil) (q_assign rfl) <| WL.p rfl rfl rfl (.k .nil) (q_assign rfl) <| WL.nil <| QN.then_ <| W.ret <| QR.block ?_
   refine QR.then_ ?_
   cases h
   exact QR.f3 rfl rfl (.t rfl) (.t rfl) (.t rfl) (.id _)
 ·refine W.seq <| W.region <| WL.p rfl rfl rfl (.s 5 rfl .nil) (q_move rfl) ?_
  obtain ⟨t106, ht106, h⟩ := bind_s h
  refine WL.p rfl rfl rfl (.s 21 rfl .nil) (q_call (f := 215) (A := EqA (.bool t106)) (xs := [.tmp 21]) («as» := [EqA (.int .u8 (bt a0 0))]) rfl ca215 (token_digit.con k (bt a0 0) t106 ht106) rfl) <| WL.p rfl rfl rfl (.s 22 rfl .nil) (q_assign rfl) <| WL.nil <| QN.then_ ?_
  refine W.condP h rfl (fun hb107 h => ?_) (fun hb107 h => ?_)
  ·refine W.seq <| W.region <| WL.p rfl rfl rfl (.s 0 rfl .nil) (q_move rfl) ?_
   obtain ⟨t108, ht108, h⟩ := bind_s h
   refine WL.p rfl rfl rfl (.s 23 rfl (.f («as» := (fun (x : Int) => [EqA (.int .u8 x)])) (res := (fun (y : Bool) => EqA (.bool y))) (p := fun x => token_digit k x) ca215 (fun x y hp => token_digit.con k x y hp) .nil)) (q_call (f := 213) (A := EqA (.int .i64 t108)) (xs := [.tmp 23, .func 215]) («as» := [EqA (strV a0), FnA Tryz.prog (fun (x : Int) => [EqA (.int .u8 x)]) (fun (y : Bool) => EqA (.bool y)) (fun x => token_digit k x)]) rfl ca213 (token_run.con k a0 (fun x => token_digit k x) t108 ht108) rfl) <| WL.p rfl rfl rfl (.s 24 rfl .nil) (q_assign rfl) <| WL.nil <| QN.weaken (env' := [(7, _)]) (.one rfl (.nil _)) <| QN.then_ <| W.seq <| W.seq <| W.region <| WL.p rfl rfl rfl (.s 7 rfl .nil) (q_move rfl) <| WL.p rfl rfl rfl (.s 25 rfl (.k .nil)) (q_int rfl rfl) <| WL.nil <| QN.then_ ?_
   refine W.condP h rfl (fun hb109 h => ?_) (fun hb109 h => ?_)
   ·refine W.seq <| W.region <| WL.p rfl rfl rfl (.k .nil) (q_assign rfl) <| WL.p rfl rfl rfl (.k .nil) (q_assign rfl) <| WL.p rfl rfl rfl (.k .nil) (q_assign rfl) <| WL.nil <| QN.then_ <| W.ret <| QR.then_ <| QR.block <| QR.then_ ?_
    cases h
    exact QR.f3 rfl rfl (.t rfl) (.t rfl) (.t rfl) (.id _)
   ·refine W.skip <| QN.then_ <| W.seq <| W.region <| WL.p rfl rfl rfl (.s 7 rfl .nil) (q_move rfl) <| WL.p rfl rfl rfl (.k .nil) (q_assign rfl) <| WL.p rfl rfl rfl (.s 27 rfl .nil) (q_assign rfl) <| WL.p rfl rfl rfl (.k .nil) (q_assign rfl) <| WL.nil <| QN.then_ <| W.ret <| QR.block <| QR.then_ ?_
    cases h
    exact QR.f3 rfl rfl (.t rfl) (.t rfl) (.t rfl) (.id _)
  ·refine W.seq <| W.region <| WL.p rfl rfl rfl (.s 5 rfl .nil) (q_move rfl) <| WL.p rfl rfl rfl (.s 29 rfl (.k .nil)) (q_int rfl rfl) <| WL.p rfl rfl rfl (.s 30 rfl .nil) (q_assign rfl) <| WL.nil <| QN.then_ ?_
   refine W.condP h rfl (fun hb110 h => ?_) (fun hb110 h => ?_)
   ·refine W.seq <| W.region <| WL.p rfl rfl rfl (.s 0 rfl .nil) (q_move rfl) ?_
    obtain ⟨t111, ht111, h⟩ := bind_s h
    refine WL.p rfl rfl rfl (.s 32 rfl .nil) (q_call (f := 216) (A := TupA [EqA (.int .i64 t111.1), EqA (.int .i64 t111.2)]) (xs := [.tmp 32]) («as» := [EqA (strV a0)]) rfl ca216 (token_quoted.con k a0 t111 ht111) rfl) <| WL.p rfl rfl rfl (.s 33 rfl .nil) (q_move rfl) <| WL.p rfl rfl rfl (.s 31 rfl .nil) (q_extract rfl rfl) <| WL.p rfl rfl rfl (.s 31 rfl .nil) (q_extract rfl rfl) <| WL.p rfl rfl rfl (.s 34 rfl .nil) (q_assign rfl) <| WL.p rfl rfl rfl (.s 35 rfl .nil) (q_assign rfl) <| WL.nil <| QN.weaken (env' := [(9, _), (8, _)]) (.one rfl (.one rfl (.nil _))) <| QN.then_ <| W.seq <| W.region <| WL.p rfl rfl rfl (.s 8 rfl .nil) (q_move rfl) <| WL.p rfl rfl rfl (.s 9 rfl .nil) (q_move rfl) ?_
    refine WL.p rfl rfl rfl (.k .nil) (q_assign rfl) <| WL.p rfl rfl rfl (.s 36 rfl .nil) (q_assign rfl) <| WL.p rfl rfl rfl (.s 37 rfl .nil) (q_assign rfl) <| WL.nil <| QN.then_ <| W.ret <| QR.block <| QR.then_ ?_
    cases h
    exact QR.f3 rfl rfl (.t rfl) (.t rfl) (.t rfl) (.id _)
   ·refine W.seq <| W.region <| WL.p rfl rfl rfl (.s 0 rfl .nil) (q_move rfl) ?_
    obtain ⟨t112, ht112, h⟩ := bind_s h
    refine WL.p rfl rfl rfl (.s 39 rfl .nil) (q_call (f := 217) (A := EqA (.bool t112)) (xs := [.tmp 39]) («as» := [EqA (strV a0)]) rfl ca217 (token_pair.con k a0 t112 ht112) rfl) <| WL.p rfl rfl rfl (.s 40 rfl .nil) (q_assign rfl) <| WL.nil <| QN.weaken (env' := [(38, _), (5, _)]) (.one rfl (.one rfl (.nil _))) <| QN.then_ ?_
    refine W.condP h rfl (fun hb113 h => ?_) (fun hb113 h => ?_)
    ·refine W.seq <| W.region <| WL.p rfl rfl rfl (.k .nil) (q_assign rfl) <| WL.p rfl rfl rfl (.k .nil) (q_assign rfl) <| WL.p rfl rfl rfl (.k .nil) (q_assign rfl) <| WL.nil <| QN.then_ <| W.ret <| QR.block <| QR.then_ ?_
     cases h
     exact QR.f3 rfl rfl (.t rfl) (.t rfl) (.t rfl) (.id _)
    ·refine W.seq <| W.region <| WL.p rfl rfl rfl (.s 5 rfl .nil) (q_move rfl) ?_
     obtain ⟨t114, ht114, h⟩ := bind_s h
     refine WL.p rfl rfl rfl (.k (.s 42 rfl .nil)) (q_call (f := 218) (A := EqA (.int .i64 t114)) (xs := [.const (.string ⟨#[123, 125, 40, 41, 91, 93, 44, 59, 58, 61, 43, 45, 42, 60, 62, 33, 38, 124, 46, 63]⟩), .tmp 42]) («as» := [EqA (strV ([123, 125, 40, 41, 91, 93, 44, 59, 58, 61, 43, 45, 42, 60, 62, 33, 38, 124, 46, 63] : Str)), EqA (.int .u8 (bt a0 0))]) rfl ca218 (strings_IndexByte.con k ([123, 125, 40, 41, 91, 93, 44, 59, 58, 61, 43, 45, 42, 60, 62, 33, 38, 124, 46, 63] : Str) (bt a0 0) t114 ht114) rfl) <| WL.p rfl rfl rfl (.s 43 rfl (.k .nil)) (q_int rfl rfl) <| WL.p rfl rfl rfl (.s 44 rfl .nil) (q_assign rfl) <| WL.nil <| QN.then_ ?_
     refine W.condP h rfl (fun hb115 h => ?_) (fun hb115 h => ?_)
     ·refine W.seq <| W.region <| WL.p rfl rfl rfl (.k .nil) (q_assign rfl) <| WL.p rfl rfl rfl (.k .nil) (q_assign rfl) <| WL.p rfl rfl rfl (.k .nil) (q_assign rfl) <| WL.nil <| QN.then_ <| W.ret <| QR.block <| QR.then_ ?_
      cases h
      exact QR.f3 rfl rfl (.t rfl) (.t rfl) (.t rfl) (.id _)
     ·refine W.skip <| QN.block <| QN.then_ <| W.seq <| W.region <| WL.p rfl rfl rfl (.k .nil) (q_assign rfl) <| WL.p rfl rfl rfl (.k .nil) (q_assign rfl) <| WL.p rfl rfl rfl (.k .nil) (q_assign rfl) <| WL.nil <| QN.then_ <| W.ret ?_
      cases h
      exact QR.f3 rfl rfl (.t rfl) (.t rfl) (.t rfl) (.id _)
theorem token_whole.con (k : Nat) (a0 : Token) (r : (Str × Bool)) (h : token_whole k a0 = some r) : Con Tryz.prog 175 [] [AggA [EqA (.int .i64 a0.fKind), EqA (strV a0.fText), EqA (.int .i64 a0.fLine)]] (RA (TupA [EqA (strV r.1), EqA (.bool r.2)])) := by
 unfold token_whole at h
 refine Con.of (N := 39) Tryz.func175 rfl rfl rfl fun w0_ fg_ => W.seq <| W.region <| WL.p rfl rfl rfl (.s 0 rfl .nil) (q_box rfl (CellsOf.agg _)) <| WL.p rfl rfl rfl (.k .nil) (q_assign rfl) <| WL.p rfl rfl rfl (.k .nil) (q_assign rfl) <| WL.nil <| QN.then_ <| W.seq <| W.region <| WL.p rfl rfl rfl (.s 1 rfl .nil) (q_field rfl fo226_1 rfl) <| WL.p rfl rfl rfl (.s 8 rfl .nil) (q_load rfl sh9) <| WL.p rfl rfl rfl (.s 9 rfl .nil) (q_assign rfl) ?_
 refine WL.nil <| QN.then_ <| W.seq <| W.seq <| W.region <| WL.p rfl rfl rfl (.s 1 rfl .nil) (q_field rfl fo226_0 rfl) <| WL.p rfl rfl rfl (.s 10 rfl .nil) (q_load rfl sh3) <| WL.p rfl rfl rfl (.s 11 rfl (.k .nil)) (q_int rfl rfl) <| WL.nil <| QN.weaken (env' := [(12, _), (4, _), (1, _)]) (.one rfl (.one rfl (.one rfl (.nil _)))) <| QN.then_ ?_
 refine W.jn1 (Γ := Unit) (fun (_ : Unit) (x4 : Str) => [(1, PtrA [EqA (.int .i64 a0.fKind), EqA (strV a0.fText), EqA (.int .i64 a0.fLine)]), (4, EqA (strV x4))]) (fun (_ : Unit) (_ : Str) => []) h (fun _ x4 h => ?_) (fun j120 Kj120 h => ?_)
 ·refine QN.then_ <| W.seq <| W.seq <| W.region <| WL.p rfl rfl rfl (.s 4 rfl .nil) (q_move rfl) <| WL.p rfl rfl rfl (.s 16 rfl (.k .nil)) (q_str (s := x4) (t := ([] : Str)) rfl) <| WL.nil <| QN.then_ ?_
  refine W.condP h rfl (fun hb121 h => ?_) (fun hb121 h => ?_)
  ·refine W.seq <| W.region <| WL.p rfl rfl rfl (.k .nil) (q_assign rfl) <| WL.p rfl rfl rfl (.k .nil) (q_assign rfl) <| WL.nil <| QN.then_ <| W.ret <| QR.then_ ?_
   cases h
   exact QR.f2 rfl rfl (.t rfl) (.t rfl) (.id _)
  ·refine W.skip <| QN.then_ <| W.seq <| W.region <| WL.p rfl rfl rfl (.s 4 rfl .nil) (q_move rfl) ?_
   obtain ⟨t122, ht122, h⟩ := bind_s h
   refine WL.p rfl rfl rfl (.s 19 rfl .nil) (q_call (f := 199) (A := TupA [EqA (.int .i64 t122.1), EqA (.int .i64 t122.2.1), EqA (.int .i64 t122.2.2)]) (xs := [.tmp 19]) («as» := [EqA (strV x4)]) rfl ca199 (token_next.con k x4 t122 ht122) rfl) <| WL.p rfl rfl rfl (.s 20 rfl .nil) (q_move rfl) <| WL.p rfl rfl rfl (.s 18 rfl .nil) (q_extract rfl rfl) <| WL.p rfl rfl rfl (.s 18 rfl .nil) (q_extract rfl rfl) <| WL.p rfl rfl rfl (.s 18 rfl .nil) (q_extract rfl rfl) <| WL.p rfl rfl rfl (.s 21 rfl .nil) (q_assign rfl) <| WL.p rfl rfl rfl (.s 22 rfl .nil) (q_assign rfl) <| WL.p rfl rfl rfl (.s 23 rfl .nil) (q_assign rfl) <| WL.nil <| QN.weaken (env' := [(7, _), (6, _), (5, _), (4, _), (1, _)]) (.one rfl (.one rfl (.one rfl (.one rfl (.one rfl (.nil _)))))) <| QN.then_ <| W.seq ?_
   refine W.jn1 (Γ := Unit) (fun (_ : Unit) (x3 : Bool) => [(2, EqA (strV x4)), (3, EqA (.bool x3))]) (fun (_ : Unit) (_ : Bool) => []) h (fun _ x3 h => ?_) (fun j126 Kj126 h => ?_)
   ·refine QN.then_ <| W.ret ?_
    cases h
    exact QR.f2 rfl rfl (.t rfl) (.t rfl) (.id _)
   ·refine W.region <| WL.p rfl rfl rfl (.s 4 rfl .nil) (q_move rfl) <| WL.p rfl rfl rfl (.s 7 rfl .nil) (q_move rfl) <| WL.p rfl rfl rfl (.s 25 rfl (.k .nil)) (q_int rfl rfl) <| WL.p rfl rfl rfl (.s 26 rfl .nil) (q_move rfl) ?_
    rcases bif_s h with ⟨hb127, h⟩ | ⟨hb127, h⟩
    ·refine WL.q (Wanted.on rfl rfl rfl hb127) rfl rfl (.s 5 rfl .nil) (q_move rfl).o <| WL.q (Wanted.on rfl rfl rfl hb127) rfl rfl (.s 1 rfl .nil) (q_field rfl fo226_0 rfl).o <| WL.q (Wanted.on rfl rfl rfl hb127) rfl rfl (.s 29 rfl .nil) (q_load rfl sh3).o <| WL.q (Wanted.on rfl rfl rfl hb127) rfl rfl (.s 28 rfl (.s 30 rfl .nil)) (q_int rfl rfl).o <| WL.p rfl rfl rfl (.s 27 rfl (.s 31 rfl .nil)) (q_pickT rfl hb127) <| WL.p rfl rfl rfl (.s 32 rfl .nil) (q_move rfl) ?_
     rcases bif_s h with ⟨hb128, h⟩ | ⟨hb128, h⟩
     ·refine WL.q (Wanted.on rfl rfl rfl hb128) rfl rfl (.s 6 rfl .nil) (q_move rfl).o <| WL.q (Wanted.on rfl rfl rfl hb128) rfl rfl (.s 4 rfl .nil) (q_move rfl).o <| WL.q (Wanted.on rfl rfl rfl hb128) rfl rfl (.s 35 rfl .nil) (q_slen (s := x4) rfl iss9).o <| WL.q (Wanted.on rfl rfl rfl hb128) rfl rfl (.s 34 rfl (.s 36 rfl .nil)) (q_int rfl rfl).o <| WL.p rfl rfl rfl (.s 33 rfl (.s 37 rfl .nil)) (q_pickT rfl hb128) <| WL.p rfl rfl rfl (.s 24 rfl .nil) (q_assign rfl) <| WL.p rfl rfl rfl (.s 38 rfl .nil) (q_assign rfl) <| WL.nil ?_
      exact QN.weaken (.one rfl (.one rfl (.nil _))) (Kj126 () (t122.2.1 == (x4.length : Int)) h)
     ·refine WL.skip (Unwanted.on rfl rfl rfl hb128) rfl rfl <| WL.skip (Unwanted.on rfl rfl rfl hb128) rfl rfl <| WL.skip (Unwanted.on rfl rfl rfl hb128) rfl rfl <| WL.skip (Unwanted.on rfl rfl rfl hb128) rfl rfl <| WL.p rfl rfl rfl (.s 33 rfl (.k .nil)) (q_pickF rfl hb128) <| WL.p rfl rfl rfl (.s 24 rfl .nil) (q_assign rfl) <| WL.p rfl rfl rfl (.s 38 rfl .nil) (q_assign rfl) <| WL.nil ?_
      exact QN.weaken (.one rfl (.one rfl (.nil _))) (Kj126 () false h)
    ·refine WL.skip (Unwanted.on rfl rfl rfl hb127) rfl rfl <| WL.skip (Unwanted.on rfl rfl rfl hb127) rfl rfl <| WL.skip (Unwanted.on rfl rfl rfl hb127) rfl rfl <| WL.skip (Unwanted.on rfl rfl rfl hb127) rfl rfl <| WL.p rfl rfl rfl (.s 27 rfl (.k .nil)) (q_pickF rfl hb127) <| WL.p rfl rfl rfl (.s 32 rfl .nil) (q_move rfl) <| WL.skip (Unwanted.on rfl rfl rfl rfl) rfl rfl <| WL.skip (Unwanted.on rfl rfl rfl rfl) rfl rfl <| WL.skip (Unwanted.on rfl rfl rfl rfl) rfl rfl <| WL.skip (Unwanted.on rfl rfl rfl rfl) rfl rfl <| WL.p rfl rfl rfl (.s 33 rfl (.k .nil)) (q_pickF rfl rfl) <| WL.p rfl rfl rfl (.s 24 rfl .nil) (q_assign rfl) <| WL.p rfl rfl rfl (.s 38 rfl .nil) (q_assign rfl) ?_
     refine WL.nil ?_
     exact QN.weaken (.one rfl (.one rfl (.nil _))) (Kj126 () false h)
 ·refine W.condP h rfl (fun hb129 h => ?_) (fun hb129 h => ?_)
  ·refine W.region <| WL.p rfl rfl rfl (.s 4 rfl .nil) (q_move rfl) ?_
   obtain ⟨c130, h⟩ := ite_n h
   refine WL.p rfl rfl rfl (.k (.s 13 rfl .nil)) (q_sadd (s := ([34] : Str)) (t := a0.fText) rfl c130) ?_
   obtain ⟨c131, h⟩ := ite_n h
   refine WL.p rfl rfl rfl (.s 14 rfl (.k .nil)) (q_sadd (s := (([34] : Str) ++ a0.fText)) (t := ([34] : Str)) rfl c131) <| WL.p rfl rfl rfl (.s 15 rfl .nil) (q_assign rfl) <| WL.nil ?_
   exact QN.weaken (.one rfl (.one rfl (.nil _))) (Kj120 () ((([34] : Str) ++ a0.fText) ++ ([34] : Str)) h)
  ·refine W.skip ?_
   exact QN.weaken (.one rfl (.one rfl (.nil _))) (Kj120 () a0.fText h)
theorem token_IsName.con (k : Nat) (a0 : Str) (r : Bool) (h : token_IsName k a0 = some r) : Con Tryz.prog 143 [] [EqA (strV a0)] (RA (EqA (.bool r))) := by
 unfold token_IsName at h
 refine Con.of (N := 12) Tryz.func143 rfl rfl rfl fun w0_ fg_ => W.seq <| W.region <| WL.p rfl rfl rfl (.k .nil) (q_assign rfl) <| WL.nil <| QN.then_ <| W.seq <| W.region <| WL.p rfl rfl rfl (.s 0 rfl .nil) (q_move rfl) <| WL.p rfl rfl rfl (.k (.s 6 rfl .nil)) (q_build (is := [0, 1]) (xs := [.const (.int .i64 1), .tmp 6]) (L := [EqA (.int .i64 1), EqA (strV a0), EqA (.int .i64 0)]) rfl rfl z226 pl226 rfl rfl (.cons (CellsOf.one rfl) (.cons (CellsOf.one rfl) .nil)) rfl) ?_
 obtain ⟨t132, ht132, h⟩ := bind_s h
 refine WL.p rfl rfl rfl (.s 7 rfl .nil) (q_call (f := 175) (A := TupA [EqA (strV t132.1), EqA (.bool t132.2)]) (xs := [.tmp 7]) («as» := [AggA [EqA (.int .i64 1), EqA (strV a0), EqA (.int .i64 0)]]) rfl ca175 (token_whole.con k (Token.mk 1 a0 0) t132 ht132) rfl) <| WL.p rfl rfl rfl (.s 8 rfl .nil) (q_move rfl) <| WL.p rfl rfl rfl (.s 5 rfl .nil) (q_extract rfl rfl) <| WL.p rfl rfl rfl (.s 5 rfl .nil) (q_extract rfl rfl) <| WL.p rfl rfl rfl (.s 9 rfl .nil) (q_assign rfl) <| WL.p rfl rfl rfl (.s 10 rfl .nil) (q_assign rfl) <| WL.nil <| QN.weaken (env' := [(4, _)]) (.one rfl (.nil _)) <| QN.then_ <| W.seq <| W.region <| WL.p rfl rfl rfl (.s 4 rfl .nil) (q_move rfl) <| WL.p rfl rfl rfl (.s 11 rfl .nil) (q_assign rfl) ?_
 refine WL.nil <| QN.then_ <| W.ret ?_
 cases h
 exact QR.f1 rfl rfl (.t rfl) (.id _)
end Go.Proofs.YtcgdfjpeboiioaaGreat
