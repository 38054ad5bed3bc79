/- The Go functions compute the pure ones. (Printed by gen.py.) -/
import Derived.Test.YthmdmchmmgmblaaGreatCnD
import Derived.Test.YthmdmchmmgmblaaGreatCnFc
import Derived.Test.YthmdmchmmgmblaaGreatCnW3
namespace Go.Proofs.YthmdmchmmgmblaaGreat
open Go Go.Abs
attribute [local irreducible] Tryz.prog
theorem ref04_Example.con (k : Nat) (r : Types) (h : ref04_Example k = some r) : Con Tryz.prog 24 [] [] (RA (AggA [SlcA kNodeType r.fNodes, SlcA kEdgeType r.fEdges])) := by
 unfold ref04_Example at h
 refine Con.of (N := 15) Tryz.func24 rfl rfl rfl fun w0_ fg_ => sr <| WL.w [] rfl (Wanted.plain rfl) rfl rfl .nil (w_alloc rfl z25 (l := [EqA (.slice none 0 0), EqA (.slice none 0 0)]) rfl) ?_
 rintro _ _ ⟨b100, rfl, rfl⟩
 refine nx <| WL.p rfl rfl rfl (.k (.k (.k .nil))) (q_build (is := [0, 1, 2]) (xs := [.const (.string ⟨#[98, 97, 108, 97, 110, 99, 101]⟩), .const (.int .i64 (-1000)), .const (.int .i64 1000)]) (L := [EqA (strV ([98, 97, 108, 97, 110, 99, 101] : Str)), iA (-1000), iA 1000, EqA (.slice none 0 0)]) rfl rfl z117 pl117 rfl rfl (.cons (CellsOf.one rfl) (.cons (CellsOf.one rfl) (.cons (CellsOf.one rfl) .nil))) rfl) <| p1 rfl 1 rfl (QS.args (q_lit (kd := kAttr) (ps := [(0, .tmp 1)]) (xs := [.tmp 1]) («as» := [AggA [EqA (strV ([98, 97, 108, 97, 110, 99, 101] : Str)), iA (-1000), iA 1000, SlcA kStr []]]) (ys := [(Attr.mk ([98, 97, 108, 97, 110, 99, 101] : Str) (-1000) 1000 [])]) rfl rfl el118 rfl gr117 rfl rfl rfl (.cons (CellsOf.agg _) .nil)) (.cons (Imp.agg (.cons (Imp.id _) (.cons (Imp.id _) (.cons (Imp.id _) (.cons (Imp.nil kStr) .nil))))) .nil)) <| WL.p rfl rfl rfl (.k (.k (.k (.s 2 rfl .nil)))) (q_build (is := [0, 1, 2, 3]) (xs := [.const (.string ⟨#[65, 99, 99, 111, 117, 110, 116]⟩), .const (.int .i64 (-1)), .const (.bool true), .tmp 2]) (L := [EqA (strV ([65, 99, 99, 111, 117, 110, 116] : Str)), iA (-1), bA true, SlcA kAttr ([(Attr.mk ([98, 97, 108, 97, 110, 99, 101] : Str) (-1000) 1000 [])])]) rfl rfl z120 pl120 rfl rfl (.cons (CellsOf.one rfl) (.cons (CellsOf.one rfl) (.cons (CellsOf.one rfl) (.cons (CellsOf.one rfl) .nil)))) rfl) <| WL.p rfl rfl rfl (.k (.k .nil)) (q_build (is := [0, 1]) (xs := [.const (.string ⟨#[67, 97, 115, 104]⟩), .const (.int .i64 0)]) (L := [EqA (strV ([67, 97, 115, 104] : Str)), iA 0, bA false, EqA (.slice none 0 0)]) rfl rfl z120 pl120 rfl rfl (.cons (CellsOf.one rfl) (.cons (CellsOf.one rfl) .nil)) rfl) <| WL.p rfl rfl rfl (.k (.k .nil)) (q_lit (kd := kStr) (ps := [(0, .const (.string ⟨#[111, 112, 101, 110]⟩)), (1, .const (.string ⟨#[99, 108, 111, 115, 101, 100]⟩))]) (xs := [.const (.string ⟨#[111, 112, 101, 110]⟩), .const (.string ⟨#[99, 108, 111, 115, 101, 100]⟩)]) («as» := [EqA (strV ([111, 112, 101, 110] : Str)), EqA (strV ([99, 108, 111, 115, 101, 100] : Str))]) (ys := [([111, 112, 101, 110] : Str), ([99, 108, 111, 115, 101, 100] : Str)]) rfl rfl el115 rfl gr9 rfl rfl rfl (.cons (CellsOf.one rfl) (.cons (CellsOf.one rfl) .nil))) <| WL.p rfl rfl rfl (.k (.k (.s 5 rfl .nil))) (q_build (is := [0, 2, 3]) (xs := [.const (.string ⟨#[115, 116, 97, 116, 101]⟩), .const (.int .i64 1), .tmp 5]) (L := [EqA (strV ([115, 116, 97, 116, 101] : Str)), iA 0, iA 1, SlcA kStr ([([111, 112, 101, 110] : Str), ([99, 108, 111, 115, 101, 100] : Str)])]) rfl rfl z117 pl117 rfl rfl (.cons (CellsOf.one rfl) (.cons (CellsOf.one rfl) (.cons (CellsOf.one rfl) .nil))) rfl) <| p1 rfl 6 rfl (q_lit (kd := kAttr) (ps := [(0, .tmp 6)]) (xs := [.tmp 6]) («as» := [AggA [EqA (strV ([115, 116, 97, 116, 101] : Str)), iA 0, iA 1, SlcA kStr ([([111, 112, 101, 110] : Str), ([99, 108, 111, 115, 101, 100] : Str)])]]) (ys := [(Attr.mk ([115, 116, 97, 116, 101] : Str) 0 1 ([([111, 112, 101, 110] : Str), ([99, 108, 111, 115, 101, 100] : Str)]))]) rfl rfl el118 rfl gr117 rfl rfl rfl (.cons (CellsOf.agg _) .nil)) <| WL.p rfl rfl rfl (.k (.k (.s 7 rfl .nil))) (q_build (is := [0, 1, 3]) (xs := [.const (.string ⟨#[76, 111, 97, 110]⟩), .const (.int .i64 0), .tmp 7]) (L := [EqA (strV ([76, 111, 97, 110] : Str)), iA 0, bA false, SlcA kAttr ([(Attr.mk ([115, 116, 97, 116, 101] : Str) 0 1 ([([111, 112, 101, 110] : Str), ([99, 108, 111, 115, 101, 100] : Str)]))])]) rfl rfl z120 pl120 rfl rfl (.cons (CellsOf.one rfl) (.cons (CellsOf.one rfl) (.cons (CellsOf.one rfl) .nil))) rfl) <| WL.p rfl rfl rfl (.k (.k .nil)) (q_build (is := [0, 1]) (xs := [.const (.string ⟨#[80, 101, 114, 115, 111, 110]⟩), .const (.int .i64 (-1))]) (L := [EqA (strV ([80, 101, 114, 115, 111, 110] : Str)), iA (-1), bA false, EqA (.slice none 0 0)]) rfl rfl z120 pl120 rfl rfl (.cons (CellsOf.one rfl) (.cons (CellsOf.one rfl) .nil)) rfl) ?_
 refine WL.p rfl rfl rfl (.s 3 rfl (.s 4 rfl (.s 8 rfl (.s 9 rfl .nil)))) (QS.args (q_lit (kd := kNodeType) (ps := [(0, .tmp 3), (1, .tmp 4), (2, .tmp 8), (3, .tmp 9)]) (xs := [.tmp 3, .tmp 4, .tmp 8, .tmp 9]) («as» := [AggA [EqA (strV ([65, 99, 99, 111, 117, 110, 116] : Str)), iA (-1), bA true, SlcA kAttr ([(Attr.mk ([98, 97, 108, 97, 110, 99, 101] : Str) (-1000) 1000 [])])], AggA [EqA (strV ([67, 97, 115, 104] : Str)), iA 0, bA false, SlcA kAttr []], AggA [EqA (strV ([76, 111, 97, 110] : Str)), iA 0, bA false, SlcA kAttr ([(Attr.mk ([115, 116, 97, 116, 101] : Str) 0 1 ([([111, 112, 101, 110] : Str), ([99, 108, 111, 115, 101, 100] : Str)]))])], AggA [EqA (strV ([80, 101, 114, 115, 111, 110] : Str)), iA (-1), bA false, SlcA kAttr []]]) (ys := [(NodeType.mk ([65, 99, 99, 111, 117, 110, 116] : Str) (-1) true ([(Attr.mk ([98, 97, 108, 97, 110, 99, 101] : Str) (-1000) 1000 [])])), (NodeType.mk ([67, 97, 115, 104] : Str) 0 false []), (NodeType.mk ([76, 111, 97, 110] : Str) 0 false ([(Attr.mk ([115, 116, 97, 116, 101] : Str) 0 1 ([([111, 112, 101, 110] : Str), ([99, 108, 111, 115, 101, 100] : Str)]))])), (NodeType.mk ([80, 101, 114, 115, 111, 110] : Str) (-1) false [])]) rfl rfl el22 rfl gr120 rfl rfl rfl (.cons (CellsOf.agg _) (.cons (CellsOf.agg _) (.cons (CellsOf.agg _) (.cons (CellsOf.agg _) .nil))))) (.cons (Imp.id _) (.cons (Imp.agg (.cons (Imp.id _) (.cons (Imp.id _) (.cons (Imp.id _) (.cons (Imp.nil kAttr) .nil))))) (.cons (Imp.id _) (.cons (Imp.agg (.cons (Imp.id _) (.cons (Imp.id _) (.cons (Imp.id _) (.cons (Imp.nil kAttr) .nil))))) .nil))))) <| WL.p rfl rfl rfl (.k (.k (.k (.k (.k (.k .nil)))))) (q_build (is := [0, 1, 2, 4, 5, 6]) (xs := [.const (.string ⟨#[111, 119, 110, 115]⟩), .const (.int .i64 3), .const (.int .i64 0), .const (.int .i64 (-1)), .const (.int .i64 1), .const (.int .i64 1)]) (L := [EqA (strV ([111, 119, 110, 115] : Str)), iA 3, iA 0, iA 0, iA (-1), iA 1, iA 1]) rfl rfl z60 pl60 rfl rfl (.cons (CellsOf.one rfl) (.cons (CellsOf.one rfl) (.cons (CellsOf.one rfl) (.cons (CellsOf.one rfl) (.cons (CellsOf.one rfl) (.cons (CellsOf.one rfl) .nil)))))) rfl) <| WL.p rfl rfl rfl (.k (.k (.k (.k (.k .nil))))) (q_build (is := [0, 1, 2, 4, 6]) (xs := [.const (.string ⟨#[112, 97, 121, 115]⟩), .const (.int .i64 1), .const (.int .i64 1), .const (.int .i64 (-1)), .const (.int .i64 (-1))]) (L := [EqA (strV ([112, 97, 121, 115] : Str)), iA 1, iA 1, iA 0, iA (-1), iA 0, iA (-1)]) rfl rfl z60 pl60 rfl rfl (.cons (CellsOf.one rfl) (.cons (CellsOf.one rfl) (.cons (CellsOf.one rfl) (.cons (CellsOf.one rfl) (.cons (CellsOf.one rfl) .nil))))) rfl) <| p2 rfl 11 rfl 12 rfl (q_lit (kd := kEdgeType) (ps := [(0, .tmp 11), (1, .tmp 12)]) (xs := [.tmp 11, .tmp 12]) («as» := [AggA [EqA (strV ([111, 119, 110, 115] : Str)), iA 3, iA 0, iA 0, iA (-1), iA 1, iA 1], AggA [EqA (strV ([112, 97, 121, 115] : Str)), iA 1, iA 1, iA 0, iA (-1), iA 0, iA (-1)]]) (ys := [(EdgeType.mk ([111, 119, 110, 115] : Str) 3 0 0 (-1) 1 1), (EdgeType.mk ([112, 97, 121, 115] : Str) 1 1 0 (-1) 0 (-1))]) rfl rfl el23 rfl gr60 rfl rfl rfl (.cons (CellsOf.agg _) (.cons (CellsOf.agg _) .nil))) <| p2 rfl 10 rfl 13 rfl (q_build (is := [0, 1]) (xs := [.tmp 10, .tmp 13]) (L := [SlcA kNodeType ([(NodeType.mk ([65, 99, 99, 111, 117, 110, 116] : Str) (-1) true ([(Attr.mk ([98, 97, 108, 97, 110, 99, 101] : Str) (-1000) 1000 [])])), (NodeType.mk ([67, 97, 115, 104] : Str) 0 false []), (NodeType.mk ([76, 111, 97, 110] : Str) 0 false ([(Attr.mk ([115, 116, 97, 116, 101] : Str) 0 1 ([([111, 112, 101, 110] : Str), ([99, 108, 111, 115, 101, 100] : Str)]))])), (NodeType.mk ([80, 101, 114, 115, 111, 110] : Str) (-1) false [])]), SlcA kEdgeType ([(EdgeType.mk ([111, 119, 110, 115] : Str) 3 0 0 (-1) 1 1), (EdgeType.mk ([112, 97, 121, 115] : Str) 1 1 0 (-1) 0 (-1))])]) rfl rfl z25 pl25 rfl rfl (.cons (CellsOf.one rfl) (.cons (CellsOf.one rfl) .nil)) rfl) <| WL.w0 [0] rfl (Wanted.plain rfl) rfl (.s 0 rfl (.s 14 rfl .nil)) (w_store (L := [SlcA kNodeType ([(NodeType.mk ([65, 99, 99, 111, 117, 110, 116] : Str) (-1) true ([(Attr.mk ([98, 97, 108, 97, 110, 99, 101] : Str) (-1000) 1000 [])])), (NodeType.mk ([67, 97, 115, 104] : Str) 0 false []), (NodeType.mk ([76, 111, 97, 110] : Str) 0 false ([(Attr.mk ([115, 116, 97, 116, 101] : Str) 0 1 ([([111, 112, 101, 110] : Str), ([99, 108, 111, 115, 101, 100] : Str)]))])), (NodeType.mk ([80, 101, 114, 115, 111, 110] : Str) (-1) false [])]), SlcA kEdgeType ([(EdgeType.mk ([111, 119, 110, 115] : Str) 3 0 0 (-1) 1 1), (EdgeType.mk ([112, 97, 121, 115] : Str) 1 1 0 (-1) 0 (-1))])]) rfl sh25 (CellsOf.agg _) rfl rfl (leB rfl) rfl) ?_
 rintro _ _ ⟨rfl, rfl⟩
 refine WL.nil <| QN.to (StTo.still [0] 0 rfl rfl) <| QN.weaken (env' := [(0, _)]) (.one rfl (.nil _)) <| QN.then_ <| W.ret ?_
 cases h
 exact QR.f1 rfl rfl (.ps rfl sh25 rfl) (.id _)
theorem law15_example.con (k : Nat) (r : Host) (h : law15_example k = some r) : Con Tryz.prog 41 [] [] (RA (AggA [SlcA kInt r.fGraph.fNodes, SlcA kEdge r.fGraph.fEdges, SlcA (kSl kInt) r.fValues])) := by
 unfold law15_example at h
 refine Con.of (N := 10) Tryz.func41 rfl rfl rfl fun w0_ fg_ => sr <| WL.w [] rfl (Wanted.plain rfl) rfl rfl .nil (w_alloc rfl z32 (l := [EqA (.slice none 0 0), EqA (.slice none 0 0), EqA (.slice none 0 0)]) rfl) ?_
 rintro _ _ ⟨b100, rfl, rfl⟩
 refine nx <| WL.p rfl rfl rfl (.k (.k (.k .nil))) (q_lit (kd := kInt) (ps := [(0, .const (.int .i64 3)), (1, .const (.int .i64 1)), (2, .const (.int .i64 1))]) (xs := [.const (.int .i64 3), .const (.int .i64 1), .const (.int .i64 1)]) («as» := [iA 3, iA 1, iA 1]) (ys := [3, 1, 1]) rfl rfl el26 rfl gr3 rfl rfl rfl (.cons (CellsOf.one rfl) (.cons (CellsOf.one rfl) (.cons (CellsOf.one rfl) .nil)))) <| WL.p rfl rfl rfl (.k (.k (.k .nil))) (q_build (is := [0, 1, 2]) (xs := [.const (.int .i64 0), .const (.int .i64 0), .const (.int .i64 1)]) (L := [iA 0, iA 0, iA 1]) rfl rfl z63 pl63 rfl rfl (.cons (CellsOf.one rfl) (.cons (CellsOf.one rfl) (.cons (CellsOf.one rfl) .nil))) rfl) <| WL.p rfl rfl rfl (.k (.k (.k .nil))) (q_build (is := [0, 1, 2]) (xs := [.const (.int .i64 0), .const (.int .i64 0), .const (.int .i64 2)]) (L := [iA 0, iA 0, iA 2]) rfl rfl z63 pl63 rfl rfl (.cons (CellsOf.one rfl) (.cons (CellsOf.one rfl) (.cons (CellsOf.one rfl) .nil))) rfl) <| p2 rfl 2 rfl 3 rfl (q_lit (kd := kEdge) (ps := [(0, .tmp 2), (1, .tmp 3)]) (xs := [.tmp 2, .tmp 3]) («as» := [AggA [iA 0, iA 0, iA 1], AggA [iA 0, iA 0, iA 2]]) (ys := [(Edge.mk 0 0 1), (Edge.mk 0 0 2)]) rfl rfl el27 rfl gr63 rfl rfl rfl (.cons (CellsOf.agg _) (.cons (CellsOf.agg _) .nil))) <| p2 rfl 1 rfl 4 rfl (q_build (is := [0, 1]) (xs := [.tmp 1, .tmp 4]) (L := [SlcA kInt [3, 1, 1], SlcA kEdge [(Edge.mk 0 0 1), (Edge.mk 0 0 2)]]) rfl rfl z29 pl29 rfl rfl (.cons (CellsOf.one rfl) (.cons (CellsOf.one rfl) .nil)) rfl) <| WL.p rfl rfl rfl (.k .nil) (q_lit (kd := kInt) (ps := [(0, .const (.int .i64 10))]) (xs := [.const (.int .i64 10)]) («as» := [iA 10]) (ys := [10]) rfl rfl el26 rfl gr3 rfl rfl rfl (.cons (CellsOf.one rfl) .nil)) <| WL.p rfl rfl rfl (.k .nil) (q_lit (kd := kInt) (ps := [(0, .const (.int .i64 5))]) (xs := [.const (.int .i64 5)]) («as» := [iA 5]) (ys := [5]) rfl rfl el26 rfl gr3 rfl rfl rfl (.cons (CellsOf.one rfl) .nil)) <| WL.p rfl rfl rfl (.k (.s 6 rfl (.s 7 rfl .nil))) (QS.args (q_lit (kd := (kSl kInt)) (ps := [(0, .const (.slice none 0 0)), (1, .tmp 6), (2, .tmp 7)]) (xs := [.const (.slice none 0 0), .tmp 6, .tmp 7]) («as» := [SlcA kInt [], SlcA kInt [10], SlcA kInt [5]]) (ys := [[], [10], [5]]) rfl rfl el30 rfl gr26 rfl rfl rfl (.cons (CellsOf.one rfl) (.cons (CellsOf.one rfl) (.cons (CellsOf.one rfl) .nil)))) (.cons (Imp.nil kInt) (.cons (Imp.id _) (.cons (Imp.id _) .nil)))) <| p2 rfl 5 rfl 8 rfl (q_build (is := [0, 1]) (xs := [.tmp 5, .tmp 8]) (L := [SlcA kInt [3, 1, 1], SlcA kEdge [(Edge.mk 0 0 1), (Edge.mk 0 0 2)], SlcA (kSl kInt) ([[], [10], [5]])]) rfl rfl z32 pl32 rfl rfl (.cons (CellsOf.agg _) (.cons (CellsOf.one rfl) .nil)) rfl) ?_
 refine WL.w0 [0] rfl (Wanted.plain rfl) rfl (.s 0 rfl (.s 9 rfl .nil)) (w_store (L := [SlcA kInt [3, 1, 1], SlcA kEdge [(Edge.mk 0 0 1), (Edge.mk 0 0 2)], SlcA (kSl kInt) ([[], [10], [5]])]) rfl sh32 (CellsOf.agg _) rfl rfl (leB rfl) rfl) ?_
 rintro _ _ ⟨rfl, rfl⟩
 refine WL.nil <| QN.to (StTo.still [0] 0 rfl rfl) <| QN.weaken (env' := [(0, _)]) (.one rfl (.nil _)) <| QN.then_ <| W.ret ?_
 cases h
 exact QR.f1 rfl rfl (.ps rfl sh32 rfl) (.id _)
theorem token_letter.con (k : Nat) (a0 : Int) (r : Bool) (h : token_letter k a0 = some r) : Con Tryz.prog 174 [] [EqA (.int .u8 a0)] (RA (bA r)) := by
 unfold token_letter at h
 refine Con.of (N := 17) Tryz.func174 rfl rfl rfl fun w0_ fg_ => sr <| ak rfl <| nt <| W.seq ?_
 refine W.jn1 (Γ := Unit) (fun (_ : Unit) (x2 : Bool) => [(2, bA x2)]) (fun (_ : Unit) (_ : Bool) => []) h (fun _ x2 h => ?_) (fun j105 Kj105 h => ?_)
 ·refine QN.then_ <| W.ret ?_
  cases h
  exact QR.f1 rfl rfl (.t rfl) (.id _)
 ·refine W.region <| mv rfl rfl <| pk rfl 3 rfl (q_int rfl rfl) <| mv rfl rfl ?_
  rcases bif_s h with ⟨hb106, h⟩ | ⟨hb106, h⟩
  ·refine wm rfl rfl rfl hb106 rfl rfl <| wq rfl rfl rfl hb106 (.s 6 rfl (.k .nil)) (q_int rfl rfl).o <| p2 rfl 5 rfl 7 rfl (q_pickT rfl hb106) <| mv rfl rfl ?_
   rcases bif_s h with ⟨hb107, h⟩ | ⟨hb107, h⟩
   ·refine sk rfl rfl rfl hb107 <| sk rfl rfl rfl hb107 <| sk rfl rfl rfl hb107 <| su rfl rfl rfl <| su rfl rfl rfl <| sk rfl rfl rfl hb107 <| pk rfl 9 rfl (q_pickT rfl hb107) <| av rfl rfl <| WL.nil ?_
    exact QN.weaken (.one rfl (.nil _)) (Kj105 () true h)
   ·refine wm rfl rfl rfl hb107 rfl rfl <| wq rfl rfl rfl hb107 (.s 10 rfl (.k .nil)) (q_int rfl rfl).o <| wm rfl rfl rfl hb107 rfl rfl ?_
    rcases bif_s h with ⟨hb108, h⟩ | ⟨hb108, h⟩
    ·refine wm rfl rfl rfl hb108 rfl rfl <| wq rfl rfl rfl hb108 (.s 13 rfl (.k .nil)) (q_int rfl rfl).o <| wq rfl rfl rfl hb107 (.s 12 rfl (.s 14 rfl .nil)) (q_pickT rfl hb108).o <| p2 rfl 9 rfl 15 rfl (q_pickF rfl hb107) <| av rfl rfl <| WL.nil ?_
     exact QN.weaken (.one rfl (.nil _)) (Kj105 () (decide (a0 ≤ 90)) h)
    ·refine sk rfl rfl rfl hb108 <| sk rfl rfl rfl hb108 <| wq rfl rfl rfl hb107 (.s 12 rfl (.k .nil)) (q_pickF rfl hb108).o <| p2 rfl 9 rfl 15 rfl (q_pickF rfl hb107) <| av rfl rfl <| WL.nil ?_
     exact QN.weaken (.one rfl (.nil _)) (Kj105 () false h)
  ·refine sk rfl rfl rfl hb106 <| sk rfl rfl rfl hb106 <| pk rfl 5 rfl (q_pickF rfl hb106) <| mv rfl rfl <| wm rfl rfl rfl rfl rfl rfl <| wq rfl rfl rfl rfl (.s 10 rfl (.k .nil)) (q_int rfl rfl).o <| wm rfl rfl rfl rfl rfl rfl ?_
   rcases bif_s h with ⟨hb109, h⟩ | ⟨hb109, h⟩
   ·refine wm rfl rfl rfl hb109 rfl rfl <| wq rfl rfl rfl hb109 (.s 13 rfl (.k .nil)) (q_int rfl rfl).o <| wq rfl rfl rfl rfl (.s 12 rfl (.s 14 rfl .nil)) (q_pickT rfl hb109).o <| p2 rfl 9 rfl 15 rfl (q_pickF rfl rfl) <| av rfl rfl <| WL.nil ?_
    exact QN.weaken (.one rfl (.nil _)) (Kj105 () (decide (a0 ≤ 90)) h)
   ·refine sk rfl rfl rfl hb109 <| sk rfl rfl rfl hb109 <| wq rfl rfl rfl rfl (.s 12 rfl (.k .nil)) (q_pickF rfl hb109).o <| p2 rfl 9 rfl 15 rfl (q_pickF rfl rfl) <| av rfl rfl <| WL.nil ?_
    exact QN.weaken (.one rfl (.nil _)) (Kj105 () false h)
theorem token_run.con (k : Nat) (a0 : Str) (a1 : (Int → Option Bool)) (r : Int) (h : token_run k a0 a1 = some r) : Con Tryz.prog 175 [] [EqA (strV a0), FnA Tryz.prog (fun (x : Int) => [EqA (.int .u8 x)]) (fun (y : Bool) => bA y) a1] (RA (iA r)) := by
 unfold token_run at h
 refine Con.of (N := 20) Tryz.func175 rfl rfl rfl fun w0_ fg_ => sr <| ak rfl <| nx <| ak rfl <| nt <| W.seq <| W.block ?_
 refine W.loop1 (Γ := Unit) (fun (_ : Unit) (x5 : Int) => [(0, EqA (strV a0)), (1, FnA Tryz.prog (fun (x : Int) => [EqA (.int .u8 x)]) (fun (y : Bool) => bA y) a1), (5, iA x5)]) (fun (_ : Unit) (_ : Int) => []) h () (.o2 rfl (.one rfl (.nil _))) rfl (fun rec0 K0 next0 _ x5 h => ?_)
 unfold token_run.b0 at h
 refine W.seq <| W.seq ?_
 refine W.jn1 (Γ := Unit) (fun (_ : Unit) (x16 : Bool) => [(0, EqA (strV a0)), (1, FnA Tryz.prog (fun (x : Int) => [EqA (.int .u8 x)]) (fun (y : Bool) => bA y) a1), (5, iA x5), (16, bA x16)]) (fun (_ : Unit) (_ : Bool) => []) h (fun _ x16 h => ?_) (fun j124 Kj124 h => ?_)
 ·refine QN.then_ ?_
  refine W.condP h rfl (fun hb125 h => ?_) (fun hb125 h => ?_)
  ·refine W.skip <| QN.then_ <| W.block <| W.region <| mv rfl rfl ?_
   obtain ⟨c126, h⟩ := ite_n h
   refine pk rfl 17 rfl (q_addR rfl c126) <| av rfl rfl <| WL.nil <| QN.block ?_
   exact next0 () (x5 + 1) _ h (.o2 rfl (.one rfl (.nil _)))
  ·refine W.exit <| QX.then_ <| QX.then_ <| QX.here <| QN.then_ <| sr <| mv rfl rfl <| av rfl rfl <| nt <| W.ret ?_
   cases h
   exact QR.f1 rfl rfl (.t rfl) (.id _)
 ·refine W.region <| mv rfl rfl <| mv rfl rfl <| p1 rfl 7 rfl (q_slen (s := a0) rfl iss9) <| p2 rfl 6 rfl 8 rfl (q_int rfl rfl) <| mv rfl rfl ?_
  rcases bif_s h with ⟨hb127, h⟩ | ⟨hb127, h⟩
  ·refine wm rfl rfl rfl hb127 rfl rfl <| wm rfl rfl rfl hb127 rfl rfl <| wm rfl rfl rfl hb127 rfl rfl ?_
   obtain ⟨c128, h⟩ := ite_n h
   refine wq rfl rfl rfl hb127 (.s 12 rfl (.s 13 rfl .nil)) (q_sindex rfl iss9 c128.1 c128.2).o ?_
   obtain ⟨t129, ht129, h⟩ := bind_s h
   refine wq rfl rfl rfl hb127 (.s 11 rfl (.s 14 rfl .nil)) (q_callV («as» := (fun (x : Int) => [EqA (.int .u8 x)])) (res := (fun (y : Bool) => bA y)) (x := (bt a0 x5)) (y := t129) (xs := [.tmp 14]) rfl ht129 rfl).o <| p2 rfl 10 rfl 15 rfl (q_pickT rfl hb127) <| WL.nil ?_
   exact QN.weaken (.o4 rfl (.nil _)) (Kj124 () t129 h)
  ·refine sk rfl rfl rfl hb127 <| sk rfl rfl rfl hb127 <| sk rfl rfl rfl hb127 <| sk rfl rfl rfl hb127 <| sk rfl rfl rfl hb127 <| pk rfl 10 rfl (q_pickF rfl hb127) <| WL.nil ?_
   exact QN.weaken (.o4 rfl (.nil _)) (Kj124 () false h)
theorem token_digit.con (k : Nat) (a0 : Int) (r : Bool) (h : token_digit k a0 = some r) : Con Tryz.prog 177 [] [EqA (.int .u8 a0)] (RA (bA r)) := by
 unfold token_digit at h
 refine Con.of (N := 9) Tryz.func177 rfl rfl rfl fun w0_ fg_ => sr <| ak rfl <| nt <| W.seq ?_
 refine W.jn1 (Γ := Unit) (fun (_ : Unit) (x2 : Bool) => [(2, bA x2)]) (fun (_ : Unit) (_ : Bool) => []) h (fun _ x2 h => ?_) (fun j102 Kj102 h => ?_)
 ·refine QN.then_ <| W.ret ?_
  cases h
  exact QR.f1 rfl rfl (.t rfl) (.id _)
 ·refine W.region <| mv rfl rfl <| pk rfl 3 rfl (q_int rfl rfl) <| mv rfl rfl ?_
  rcases bif_s h with ⟨hb103, h⟩ | ⟨hb103, h⟩
  ·refine wm rfl rfl rfl hb103 rfl rfl <| wq rfl rfl rfl hb103 (.s 6 rfl (.k .nil)) (q_int rfl rfl).o <| p2 rfl 5 rfl 7 rfl (q_pickT rfl hb103) <| av rfl rfl <| WL.nil ?_
   exact QN.weaken (.one rfl (.nil _)) (Kj102 () (decide (a0 ≤ 57)) h)
  ·refine sk rfl rfl rfl hb103 <| sk rfl rfl rfl hb103 <| pk rfl 5 rfl (q_pickF rfl hb103) <| av rfl rfl <| WL.nil ?_
   exact QN.weaken (.one rfl (.nil _)) (Kj102 () false h)
theorem token_part.con (k : Nat) (a0 : Int) (r : Bool) (h : token_part k a0 = some r) : Con Tryz.prog 176 [] [EqA (.int .u8 a0)] (RA (bA r)) := by
 unfold token_part at h
 refine Con.of (N := 13) Tryz.func176 rfl rfl rfl fun w0_ fg_ => sr <| ak rfl <| nt <| W.seq ?_
 refine W.jn1 (Γ := Unit) (fun (_ : Unit) (x2 : Bool) => [(2, bA x2)]) (fun (_ : Unit) (_ : Bool) => []) h (fun _ x2 h => ?_) (fun j105 Kj105 h => ?_)
 ·refine QN.then_ <| W.ret ?_
  cases h
  exact QR.f1 rfl rfl (.t rfl) (.id _)
 ·refine W.region <| mv rfl rfl ?_
  obtain ⟨t106, ht106, h⟩ := bind_s h
  refine p1 rfl 3 rfl (q_call (f := 174) (A := bA t106) (xs := [.tmp 3]) («as» := [EqA (.int .u8 a0)]) rfl ca174 (token_letter.con k a0 t106 ht106) rfl) <| mv rfl rfl ?_
  rcases bif_s h with ⟨hb107, h⟩ | ⟨hb107, h⟩
  ·refine sk rfl rfl rfl hb107 <| sk rfl rfl rfl hb107 <| pk rfl 5 rfl (q_pickT rfl hb107) <| mv rfl rfl <| sk rfl rfl rfl rfl <| sk rfl rfl rfl rfl <| pk rfl 9 rfl (q_pickT rfl rfl) <| av rfl rfl <| WL.nil ?_
   exact QN.weaken (.one rfl (.nil _)) (Kj105 () true h)
  ·refine wm rfl rfl rfl hb107 rfl rfl ?_
   obtain ⟨t108, ht108, h⟩ := bind_s h
   refine wq rfl rfl rfl hb107 (.s 6 rfl .nil) (q_call (f := 177) (A := bA t108) (xs := [.tmp 6]) («as» := [EqA (.int .u8 a0)]) rfl ca177 (token_digit.con k a0 t108 ht108) rfl).o <| p2 rfl 5 rfl 7 rfl (q_pickF rfl hb107) <| mv rfl rfl ?_
   rcases bif_s h with ⟨hb109, h⟩ | ⟨hb109, h⟩
   ·refine sk rfl rfl rfl hb109 <| sk rfl rfl rfl hb109 <| pk rfl 9 rfl (q_pickT rfl hb109) <| av rfl rfl <| WL.nil ?_
    exact QN.weaken (.one rfl (.nil _)) (Kj105 () true h)
   ·refine wm rfl rfl rfl hb109 rfl rfl <| wq rfl rfl rfl hb109 (.s 10 rfl (.k .nil)) (q_int rfl rfl).o <| p2 rfl 9 rfl 11 rfl (q_pickF rfl hb109) <| av rfl rfl <| WL.nil ?_
    exact QN.weaken (.one rfl (.nil _)) (Kj105 () (a0 == 95) h)
theorem token_quoted_1.con (k : Nat) (a0 : Int) (r : Bool) (h : token_quoted_1 k a0 = some r) : Con Tryz.prog 198 [] [EqA (.int .u8 a0)] (RA (bA r)) := by
 unfold token_quoted_1 at h
 refine Con.of (N := 13) Tryz.func198 rfl rfl rfl fun w0_ fg_ => sr <| ak rfl <| nt <| W.seq ?_
 refine W.jn1 (Γ := Unit) (fun (_ : Unit) (x2 : Bool) => [(2, bA x2)]) (fun (_ : Unit) (_ : Bool) => []) h (fun _ x2 h => ?_) (fun j103 Kj103 h => ?_)
 ·refine QN.then_ <| W.ret ?_
  cases h
  exact QR.f1 rfl rfl (.t rfl) (.id _)
 ·refine W.region <| mv rfl rfl <| pk rfl 3 rfl (q_int rfl rfl) <| mv rfl rfl ?_
  rcases bif_s h with ⟨hb104, h⟩ | ⟨hb104, h⟩
  ·refine wm rfl rfl rfl hb104 rfl rfl <| wq rfl rfl rfl hb104 (.s 6 rfl (.k .nil)) (q_int rfl rfl).o <| p2 rfl 5 rfl 7 rfl (q_pickT rfl hb104) <| mv rfl rfl ?_
   rcases bif_s h with ⟨hb105, h⟩ | ⟨hb105, h⟩
   ·refine wm rfl rfl rfl hb105 rfl rfl <| wq rfl rfl rfl hb105 (.s 10 rfl (.k .nil)) (q_int rfl rfl).o <| p2 rfl 9 rfl 11 rfl (q_pickT rfl hb105) <| av rfl rfl <| WL.nil ?_
    exact QN.weaken (.one rfl (.nil _)) (Kj103 () (a0 != 34) h)
   ·refine sk rfl rfl rfl hb105 <| sk rfl rfl rfl hb105 <| pk rfl 9 rfl (q_pickF rfl hb105) <| av rfl rfl <| WL.nil ?_
    exact QN.weaken (.one rfl (.nil _)) (Kj103 () false h)
  ·refine sk rfl rfl rfl hb104 <| sk rfl rfl rfl hb104 <| pk rfl 5 rfl (q_pickF rfl hb104) <| mv rfl rfl <| sk rfl rfl rfl rfl <| sk rfl rfl rfl rfl <| pk rfl 9 rfl (q_pickF rfl rfl) <| av rfl rfl <| WL.nil ?_
   exact QN.weaken (.one rfl (.nil _)) (Kj103 () false h)
theorem token_quoted.con (k : Nat) (a0 : Str) (r : (Int × Int)) (h : token_quoted k a0 = some r) : Con Tryz.prog 178 [] [EqA (strV a0)] (RA (TupA [iA r.1, iA r.2])) := by
 unfold token_quoted at h
 refine Con.of (N := 24) Tryz.func178 rfl rfl rfl fun w0_ fg_ => sr <| ak rfl <| ak rfl <| nx <| mv rfl rfl ?_
 obtain ⟨c100, h⟩ := ite_n h
 refine pk rfl 5 rfl (q_ssubL rfl iss9 c100.1 c100.2) ?_
 obtain ⟨t101, ht101, h⟩ := bind_s h
 refine WL.p rfl rfl rfl (.s 6 rfl (.f («as» := (fun (x : Int) => [EqA (.int .u8 x)])) (res := (fun (y : Bool) => bA y)) (p := fun x => token_quoted_1 k x) ca198 (fun x y hp => token_quoted_1.con k x y hp) .nil)) (q_call (f := 175) (A := iA t101) (xs := [.tmp 6, .func 198]) («as» := [EqA (strV (a0.drop (1 : Int).toNat)), FnA Tryz.prog (fun (x : Int) => [EqA (.int .u8 x)]) (fun (y : Bool) => bA y) (fun x => token_quoted_1 k x)]) rfl ca175 (token_run.con k (a0.drop (1 : Int).toNat) (fun x => token_quoted_1 k x) t101 ht101) rfl) <| av rfl rfl <| nt <| W.seq <| W.seq ?_
 refine W.jn1 (Γ := Unit) (fun (_ : Unit) (x19 : Bool) => [(4, iA t101), (19, bA x19)]) (fun (_ : Unit) (_ : Bool) => []) h (fun _ x19 h => ?_) (fun j107 Kj107 h => ?_)
 ·refine QN.then_ ?_
  refine W.condP h rfl (fun hb108 h => ?_) (fun hb108 h => ?_)
  ·refine sr <| ak rfl <| ak rfl <| nt <| W.ret <| QR.then_ ?_
   cases h
   exact QR.f2 rfl rfl (.t rfl) (.t rfl) (.id _)
  ·refine W.skip <| QN.then_ <| W.seq <| sr <| mv rfl rfl <| pk rfl 20 rfl (q_int rfl rfl) <| nt ?_
   refine W.condP h rfl (fun hb109 h => ?_) (fun hb109 h => ?_)
   ·refine sr <| ak rfl <| ak rfl <| nt <| W.ret <| QR.then_ ?_
    cases h
    exact QR.f2 rfl rfl (.t rfl) (.t rfl) (.id _)
   ·refine W.skip <| QN.then_ <| sr <| mv rfl rfl ?_
    obtain ⟨c110, h⟩ := ite_n h
    refine pk rfl 22 rfl (q_addR rfl c110) <| av rfl rfl <| ak rfl <| nt <| W.ret ?_
    cases h
    exact QR.f2 rfl rfl (.t rfl) (.t rfl) (.id _)
 ·refine W.region <| mv rfl rfl ?_
  obtain ⟨c111, h⟩ := ite_n h
  refine WL.p rfl rfl rfl (.k (.s 8 rfl .nil)) (q_addR rfl c111) <| mv rfl rfl <| p1 rfl 10 rfl (q_slen (s := a0) rfl iss9) <| p2 rfl 9 rfl 11 rfl (q_int rfl rfl) <| mv rfl rfl ?_
  rcases bif_s h with ⟨hb112, h⟩ | ⟨hb112, h⟩
  ·refine sk rfl rfl rfl hb112 <| sk rfl rfl rfl hb112 <| sk rfl rfl rfl hb112 <| sk rfl rfl rfl hb112 <| sk rfl rfl rfl hb112 <| pk rfl 13 rfl (q_pickT rfl hb112) <| WL.nil ?_
   exact QN.weaken (.o2 rfl (.nil _)) (Kj107 () true h)
  ·refine wm rfl rfl rfl hb112 rfl rfl <| wm rfl rfl rfl hb112 rfl rfl ?_
   obtain ⟨c113, h⟩ := ite_n h
   refine wq rfl rfl rfl hb112 (.k (.s 15 rfl .nil)) (q_addR rfl c113).o ?_
   obtain ⟨c114, h⟩ := ite_n h
   refine wq rfl rfl rfl hb112 (.s 14 rfl (.s 16 rfl .nil)) (q_sindex rfl iss9 c114.1 c114.2).o <| wq rfl rfl rfl hb112 (.s 17 rfl (.k .nil)) (q_int rfl rfl).o <| p2 rfl 13 rfl 18 rfl (q_pickF rfl hb112) <| WL.nil ?_
   exact QN.weaken (.o2 rfl (.nil _)) (Kj107 () ((bt a0 (1 + t101)) != 34) h)
theorem slices_Index_string.con (k : Nat) (a0 : (List Str)) (a1 : Str) (r : Int) (h : slices_Index_string k a0 a1 = some r) : Con Tryz.prog 181 [] [SlcA kStr a0, EqA (strV a1)] (RA (iA r)) := by
 unfold slices_Index_string at h
 refine Con.of (N := 19) Tryz.func181 rfl rfl rfl fun w0_ fg_ => sr <| ak rfl <| nt <| W.seq <| sr <| mv rfl rfl <| p1 rfl 6 rfl (q_len rfl elS115) <| mk_ rfl <| WL.nil ?_
 refine QN.then_ <| W.block ?_
 refine W.loop1 (Γ := Unit) (fun (_ : Unit) (x8 : Int) => [(0, SlcA kStr a0), (1, EqA (strV a1)), (7, iA (a0.length : Int)), (8, iA x8)]) (fun (_ : Unit) (_ : Int) => []) h () (.o4 rfl (.nil _)) rfl (fun rec0 K0 next0 _ x8 h => ?_)
 unfold slices_Index_string.b0 at h
 refine sr <| p2 rfl 8 rfl 7 rfl (q_int rfl rfl) <| nt <| W.seq ?_
 refine W.condP h rfl (fun hb108 h => ?_) (fun hb108 h => ?_)
 ·refine W.skip <| QN.then_ <| W.seq <| W.block <| sr <| mv rfl rfl <| av rfl rfl <| nx <| mv rfl rfl ?_
  refine mv rfl rfl <| mv rfl rfl ?_
  obtain ⟨c109, h⟩ := ite_n h
  refine p2 rfl 12 rfl 13 rfl (q_index rfl el115 rfl c109.1 c109.2) <| ld rfl rfl sh9 <| p2 rfl 11 rfl 15 rfl (q_str (s := a1) (t := (rd a0 x8)) rfl) <| WL.nil <| QN.weaken (env' := [(16, _), (5, _), (8, _), (7, _), (1, _), (0, _)]) (.o4 rfl (.o2 rfl (.nil _))) <| QN.then_ ?_
  refine W.condP h rfl (fun hb110 h => ?_) (fun hb110 h => ?_)
  ·refine sr <| mv rfl rfl <| av rfl rfl <| WL.nil <| QN.weaken (env' := [(4, _)]) (.one rfl (.nil _)) <| QN.then_ <| W.ret <| QR.block <| QR.then_ <| QR.then_ <| QR.block <| QR.then_ ?_
   cases h
   exact QR.f1 rfl rfl (.t rfl) (.id _)
  ·refine W.skip <| QN.block <| QN.then_ <| W.region ?_
   obtain ⟨c111, h⟩ := ite_n h
   refine pk rfl 8 rfl (q_addR rfl c111) <| mv rfl rfl <| WL.nil ?_
   exact next0 () (x8 + 1) _ h (.o4 rfl (.nil _))
 ·refine W.exit <| QX.then_ <| QX.then_ <| QX.here <| QN.then_ <| sr <| ak rfl <| nt <| W.ret ?_
  cases h
  exact QR.f1 rfl rfl (.t rfl) (.id _)
theorem slices_Contains_string.con (k : Nat) (a0 : (List Str)) (a1 : Str) (r : Bool) (h : slices_Contains_string k a0 a1 = some r) : Con Tryz.prog 168 [] [SlcA kStr a0, EqA (strV a1)] (RA (bA r)) := by
 unfold slices_Contains_string at h
 refine Con.of (N := 9) Tryz.func168 rfl rfl rfl fun w0_ fg_ => sr <| ak rfl <| nx <| mv rfl rfl <| mv rfl rfl ?_
 obtain ⟨t100, ht100, h⟩ := bind_s h
 refine p2 rfl 5 rfl 6 rfl (q_call (f := 181) (A := iA t100) (xs := [.tmp 5, .tmp 6]) («as» := [SlcA kStr a0, EqA (strV a1)]) rfl ca181 (slices_Index_string.con k a0 a1 t100 ht100) rfl) <| pk rfl 7 rfl (q_int rfl rfl) <| av rfl rfl <| nt <| W.ret ?_
 cases h
 exact QR.f1 rfl rfl (.t rfl) (.id _)
theorem token_pair.con (k : Nat) (a0 : Str) (r : Bool) (h : token_pair k a0 = some r) : Con Tryz.prog 179 [] [EqA (strV a0)] (RA (bA r)) := by
 unfold token_pair at h
 refine Con.of (N := 12) Tryz.func179 rfl rfl rfl fun w0_ fg_ => sr <| ak rfl <| nt <| W.seq ?_
 refine W.jn1 (Γ := Unit) (fun (_ : Unit) (x2 : Bool) => [(2, bA x2)]) (fun (_ : Unit) (_ : Bool) => []) h (fun _ x2 h => ?_) (fun j104 Kj104 h => ?_)
 ·refine QN.then_ <| W.ret ?_
  cases h
  exact QR.f1 rfl rfl (.t rfl) (.id _)
 ·refine W.region <| mv rfl rfl <| p1 rfl 3 rfl (q_slen (s := a0) rfl iss9) <| pk rfl 4 rfl (q_int rfl rfl) <| mv rfl rfl ?_
  rcases bif_s h with ⟨hb105, h⟩ | ⟨hb105, h⟩
  ·refine wq rfl rfl rfl hb105 (.k (.k (.k (.k (.k .nil))))) (q_lit (kd := kStr) (ps := [(0, .const (.string ⟨#[45, 62]⟩)), (1, .const (.string ⟨#[60, 61]⟩)), (2, .const (.string ⟨#[62, 61]⟩)), (3, .const (.string ⟨#[61, 61]⟩)), (4, .const (.string ⟨#[33, 61]⟩))]) (xs := [.const (.string ⟨#[45, 62]⟩), .const (.string ⟨#[60, 61]⟩), .const (.string ⟨#[62, 61]⟩), .const (.string ⟨#[61, 61]⟩), .const (.string ⟨#[33, 61]⟩)]) («as» := [EqA (strV ([45, 62] : Str)), EqA (strV ([60, 61] : Str)), EqA (strV ([62, 61] : Str)), EqA (strV ([61, 61] : Str)), EqA (strV ([33, 61] : Str))]) (ys := [([45, 62] : Str), ([60, 61] : Str), ([62, 61] : Str), ([61, 61] : Str), ([33, 61] : Str)]) rfl rfl el115 rfl gr9 rfl rfl rfl (.cons (CellsOf.one rfl) (.cons (CellsOf.one rfl) (.cons (CellsOf.one rfl) (.cons (CellsOf.one rfl) (.cons (CellsOf.one rfl) .nil)))))).o <| wm rfl rfl rfl hb105 rfl rfl ?_
   obtain ⟨c106, h⟩ := ite_n h
   refine wq rfl rfl rfl hb105 (.s 8 rfl (.k .nil)) (q_ssubH rfl iss9 c106.1 c106.2).o ?_
   obtain ⟨t107, ht107, h⟩ := bind_s h
   refine wq rfl rfl rfl hb105 (.s 7 rfl (.s 9 rfl .nil)) (q_call (f := 168) (A := bA t107) (xs := [.tmp 7, .tmp 9]) («as» := [SlcA kStr ([([45, 62] : Str), ([60, 61] : Str), ([62, 61] : Str), ([61, 61] : Str), ([33, 61] : Str)]), EqA (strV (a0.take (2 : Int).toNat))]) rfl ca168 (slices_Contains_string.con k ([([45, 62] : Str), ([60, 61] : Str), ([62, 61] : Str), ([61, 61] : Str), ([33, 61] : Str)]) (a0.take (2 : Int).toNat) t107 ht107) rfl).o <| p2 rfl 6 rfl 10 rfl (q_pickT rfl hb105) <| av rfl rfl <| WL.nil ?_
   exact QN.weaken (.one rfl (.nil _)) (Kj104 () t107 h)
  ·refine sk rfl rfl rfl hb105 <| sk rfl rfl rfl hb105 <| sk rfl rfl rfl hb105 <| sk rfl rfl rfl hb105 <| pk rfl 6 rfl (q_pickF rfl hb105) <| av rfl rfl <| WL.nil ?_
   exact QN.weaken (.one rfl (.nil _)) (Kj104 () false h)
theorem TryzIdx : Extern.find Tryz.f205 = some Extern.BytealgIndexByte.indexByte := by kernel_rfl
theorem stringslite_IndexByte.con (k : Nat) (a0 : Str) (a1 : Int) (r : Int) (h : stringslite_IndexByte k a0 a1 = some r) : Con Tryz.prog 199 [] [EqA (strV a0), EqA (.int .u8 a1)] (RA (iA r)) := by
  unfold stringslite_IndexByte at h
  cases h
  refine Con.of (N := 8) Tryz.func199 rfl rfl rfl fun w0_ fg_ => ?_
  refine W.seq (W.region (ak rfl (WL.nil (QN.then_ ?_))))
  refine W.seq (W.region ?_)
  refine mv rfl rfl ?_
  refine mv rfl rfl ?_
  refine p2 rfl 5 rfl 6 rfl (q_indexByte (f := 205) rfl Tryz.func205 (by kernel_rfl) rfl (by kernel_rfl) TryzIdx) ?_
  refine av rfl rfl ?_
  refine WL.nil (QN.then_ ?_)
  exact W.ret (QR.f1 rfl rfl (.t rfl) (.id _))
theorem strings_IndexByte.con (k : Nat) (a0 : Str) (a1 : Int) (r : Int) (h : strings_IndexByte k a0 a1 = some r) : Con Tryz.prog 180 [] [EqA (strV a0), EqA (.int .u8 a1)] (RA (iA r)) := by
 unfold strings_IndexByte at h
 refine Con.of (N := 8) Tryz.func180 rfl rfl rfl fun w0_ fg_ => sr <| ak rfl <| nx <| mv rfl rfl <| mv rfl rfl ?_
 obtain ⟨t100, ht100, h⟩ := bind_s h
 refine p2 rfl 5 rfl 6 rfl (q_call (f := 199) (A := iA t100) (xs := [.tmp 5, .tmp 6]) («as» := [EqA (strV a0), EqA (.int .u8 a1)]) rfl ca199 (stringslite_IndexByte.con k a0 a1 t100 ht100) rfl) <| av rfl rfl <| nt <| W.ret ?_
 cases h
 exact QR.f1 rfl rfl (.t rfl) (.id _)
theorem token_next.con (k : Nat) (a0 : Str) (r : (Int × Int × Int)) (h : token_next k a0 = some r) : Con Tryz.prog 166 [] [EqA (strV a0)] (RA (TupA [iA r.1, iA r.2.1, iA r.2.2])) := by
 unfold token_next at h
 refine Con.of (N := 45) Tryz.func166 rfl rfl rfl fun w0_ fg_ => sr <| ak rfl <| ak rfl <| ak rfl <| nx <| mv rfl rfl ?_
 obtain ⟨c100, h⟩ := ite_n h
 refine pk rfl 10 rfl (q_sindex rfl iss9 c100.1 c100.2) <| av rfl rfl <| nt <| W.seq <| W.block <| sr <| mv rfl rfl ?_
 obtain ⟨t101, ht101, h⟩ := bind_s h
 refine p1 rfl 13 rfl (q_call (f := 174) (A := bA t101) (xs := [.tmp 13]) («as» := [EqA (.int .u8 (bt a0 0))]) rfl ca174 (token_letter.con k (bt a0 0) t101 ht101) rfl) <| av rfl rfl <| WL.nil <| QN.weaken (env' := [(12, _), (5, _), (0, _)]) (.o2 rfl (.one rfl (.nil _))) <| QN.then_ ?_
 refine W.condP h rfl (fun hb102 h => ?_) (fun hb102 h => ?_)
 ·refine sr <| mv rfl rfl ?_
  obtain ⟨t103, ht103, h⟩ := bind_s h
  refine WL.p rfl rfl rfl (.s 15 rfl (.f («as» := (fun (x : Int) => [EqA (.int .u8 x)])) (res := (fun (y : Bool) => bA y)) (p := fun x => token_part k x) ca176 (fun x y hp => token_part.con k x y hp) .nil)) (q_call (f := 175) (A := iA t103) (xs := [.tmp 15, .func 176]) («as» := [EqA (strV a0), FnA Tryz.prog (fun (x : Int) => [EqA (.int .u8 x)]) (fun (y : Bool) => bA y) (fun x => token_part k x)]) rfl ca175 (token_run.con k a0 (fun x => token_part k x) t103 ht103) rfl) <| av rfl rfl <| nt <| W.seq <| sr <| mv rfl rfl <| pk rfl 17 rfl (q_int rfl rfl) <| nt ?_
  refine W.condP h rfl (fun hb104 h => ?_) (fun hb104 h => ?_)
  ·refine sr <| ak rfl <| ak rfl <| ak rfl <| WL.nil <| QN.weaken (env' := [(4, _), (3, _), (2, _)]) (.o2 rfl (.one rfl (.nil _))) <| QN.then_ <| W.ret <| QR.then_ <| QR.block <| QR.then_ ?_
   cases h
   exact QR.f3 rfl rfl (.t rfl) (.t rfl) (.t rfl) (.id _)
  ·refine W.skip <| QN.weaken (env' := [(6, _)]) (.one rfl (.nil _)) <| QN.then_ <| sr <| mv rfl rfl <| ak rfl <| av rfl rfl <| ak rfl <| nt <| W.ret <| QR.block ?_
   refine QR.then_ ?_
   cases h
   exact QR.f3 rfl rfl (.t rfl) (.t rfl) (.t rfl) (.id _)
 ·refine sr <| mv rfl rfl ?_
  obtain ⟨t105, ht105, h⟩ := bind_s h
  refine p1 rfl 21 rfl (q_call (f := 177) (A := bA t105) (xs := [.tmp 21]) («as» := [EqA (.int .u8 (bt a0 0))]) rfl ca177 (token_digit.con k (bt a0 0) t105 ht105) rfl) <| av rfl rfl <| nt ?_
  refine W.condP h rfl (fun hb106 h => ?_) (fun hb106 h => ?_)
  ·refine sr <| mv rfl rfl ?_
   obtain ⟨t107, ht107, h⟩ := bind_s h
   refine WL.p rfl rfl rfl (.s 23 rfl (.f («as» := (fun (x : Int) => [EqA (.int .u8 x)])) (res := (fun (y : Bool) => bA y)) (p := fun x => token_digit k x) ca177 (fun x y hp => token_digit.con k x y hp) .nil)) (q_call (f := 175) (A := iA t107) (xs := [.tmp 23, .func 177]) («as» := [EqA (strV a0), FnA Tryz.prog (fun (x : Int) => [EqA (.int .u8 x)]) (fun (y : Bool) => bA y) (fun x => token_digit k x)]) rfl ca175 (token_run.con k a0 (fun x => token_digit k x) t107 ht107) rfl) <| av rfl rfl <| WL.nil <| QN.weaken (env' := [(7, _)]) (.one rfl (.nil _)) <| QN.then_ <| W.seq <| sr <| mv rfl rfl <| pk rfl 25 rfl (q_int rfl rfl) <| nt ?_
   refine W.condP h rfl (fun hb108 h => ?_) (fun hb108 h => ?_)
   ·refine sr <| ak rfl <| ak rfl <| ak rfl <| nt <| W.ret <| QR.then_ <| QR.block <| QR.then_ ?_
    cases h
    exact QR.f3 rfl rfl (.t rfl) (.t rfl) (.t rfl) (.id _)
   ·refine W.skip <| QN.then_ <| sr <| mv rfl rfl <| ak rfl <| av rfl rfl <| ak rfl <| nt <| W.ret <| QR.block <| QR.then_ ?_
    cases h
    exact QR.f3 rfl rfl (.t rfl) (.t rfl) (.t rfl) (.id _)
  ·refine sr <| mv rfl rfl <| pk rfl 29 rfl (q_int rfl rfl) <| av rfl rfl <| nt ?_
   refine W.condP h rfl (fun hb109 h => ?_) (fun hb109 h => ?_)
   ·refine sr <| mv rfl rfl ?_
    obtain ⟨t110, ht110, h⟩ := bind_s h
    refine p1 rfl 32 rfl (q_call (f := 178) (A := TupA [iA t110.1, iA t110.2]) (xs := [.tmp 32]) («as» := [EqA (strV a0)]) rfl ca178 (token_quoted.con k a0 t110 ht110) rfl) <| mv rfl rfl <| p1 rfl 31 rfl (q_extract rfl rfl) <| p1 rfl 31 rfl (q_extract rfl rfl) <| av rfl rfl <| av rfl rfl <| WL.nil <| QN.weaken (env' := [(9, _), (8, _)]) (.o2 rfl (.nil _)) <| QN.then_ <| sr <| mv rfl rfl <| mv rfl rfl ?_
    refine ak rfl <| av rfl rfl <| av rfl rfl <| nt <| W.ret <| QR.block <| QR.then_ ?_
    cases h
    exact QR.f3 rfl rfl (.t rfl) (.t rfl) (.t rfl) (.id _)
   ·refine sr <| mv rfl rfl ?_
    obtain ⟨t111, ht111, h⟩ := bind_s h
    refine p1 rfl 39 rfl (q_call (f := 179) (A := bA t111) (xs := [.tmp 39]) («as» := [EqA (strV a0)]) rfl ca179 (token_pair.con k a0 t111 ht111) rfl) <| av rfl rfl <| WL.nil <| QN.weaken (env' := [(38, _), (5, _)]) (.o2 rfl (.nil _)) <| QN.then_ ?_
    refine W.condP h rfl (fun hb112 h => ?_) (fun hb112 h => ?_)
    ·refine sr <| ak rfl <| ak rfl <| ak rfl <| nt <| W.ret <| QR.block <| QR.then_ ?_
     cases h
     exact QR.f3 rfl rfl (.t rfl) (.t rfl) (.t rfl) (.id _)
    ·refine sr <| mv rfl rfl ?_
     obtain ⟨t113, ht113, h⟩ := bind_s h
     refine WL.p rfl rfl rfl (.k (.s 42 rfl .nil)) (q_call (f := 180) (A := iA t113) (xs := [.const (.string ⟨#[123, 125, 40, 41, 91, 93, 44, 59, 58, 61, 43, 45, 42, 60, 62, 33, 38, 124, 46, 63]⟩), .tmp 42]) («as» := [EqA (strV ([123, 125, 40, 41, 91, 93, 44, 59, 58, 61, 43, 45, 42, 60, 62, 33, 38, 124, 46, 63] : Str)), EqA (.int .u8 (bt a0 0))]) rfl ca180 (strings_IndexByte.con k ([123, 125, 40, 41, 91, 93, 44, 59, 58, 61, 43, 45, 42, 60, 62, 33, 38, 124, 46, 63] : Str) (bt a0 0) t113 ht113) rfl) <| pk rfl 43 rfl (q_int rfl rfl) <| av rfl rfl <| nt ?_
     refine W.condP h rfl (fun hb114 h => ?_) (fun hb114 h => ?_)
     ·refine sr <| ak rfl <| ak rfl <| ak rfl <| nt <| W.ret <| QR.block <| QR.then_ ?_
      cases h
      exact QR.f3 rfl rfl (.t rfl) (.t rfl) (.t rfl) (.id _)
     ·refine W.skip <| QN.block <| QN.then_ <| sr <| ak rfl <| ak rfl <| ak rfl <| nt <| W.ret ?_
      cases h
      exact QR.f3 rfl rfl (.t rfl) (.t rfl) (.t rfl) (.id _)
theorem token_whole.con (k : Nat) (a0 : Token) (r : (Str × Bool)) (h : token_whole k a0 = some r) : Con Tryz.prog 149 [] [AggA [iA a0.fKind, EqA (strV a0.fText), iA a0.fLine]] (RA (TupA [EqA (strV r.1), bA r.2])) := by
 unfold token_whole at h
 refine Con.of (N := 39) Tryz.func149 rfl rfl rfl fun w0_ fg_ => sr <| p1 rfl 0 rfl (q_box rfl (CellsOf.agg _)) <| ak rfl <| ak rfl <| nx <| fd rfl rfl fo185_1 rfl <| ld rfl rfl sh9 <| av rfl rfl ?_
 refine nt <| W.seq <| sr <| fd rfl rfl fo185_0 rfl <| ld rfl rfl sh3 <| pk rfl 11 rfl (q_int rfl rfl) <| WL.nil <| QN.weaken (env' := [(12, _), (4, _), (1, _)]) (.o2 rfl (.one rfl (.nil _))) <| QN.then_ ?_
 refine W.jn1 (Γ := Unit) (fun (_ : Unit) (x4 : Str) => [(1, PtrA [iA a0.fKind, EqA (strV a0.fText), iA a0.fLine]), (4, EqA (strV x4))]) (fun (_ : Unit) (_ : Str) => []) h (fun _ x4 h => ?_) (fun j104 Kj104 h => ?_)
 ·refine QN.then_ <| W.seq <| sr <| mv rfl rfl <| pk rfl 16 rfl (q_str (s := x4) (t := ([] : Str)) rfl) <| nt ?_
  refine W.condP h rfl (fun hb105 h => ?_) (fun hb105 h => ?_)
  ·refine sr <| ak rfl <| ak rfl <| nt <| W.ret <| QR.then_ ?_
   cases h
   exact QR.f2 rfl rfl (.t rfl) (.t rfl) (.id _)
  ·refine W.skip <| QN.then_ <| sr <| mv rfl rfl ?_
   obtain ⟨t106, ht106, h⟩ := bind_s h
   refine p1 rfl 19 rfl (q_call (f := 166) (A := TupA [iA t106.1, iA t106.2.1, iA t106.2.2]) (xs := [.tmp 19]) («as» := [EqA (strV x4)]) rfl ca166 (token_next.con k x4 t106 ht106) rfl) <| mv rfl rfl <| p1 rfl 18 rfl (q_extract rfl rfl) <| p1 rfl 18 rfl (q_extract rfl rfl) <| p1 rfl 18 rfl (q_extract rfl rfl) <| av rfl rfl <| av rfl rfl <| av rfl rfl <| WL.nil <| QN.weaken (env' := [(7, _), (6, _), (5, _), (4, _), (1, _)]) (.o4 rfl (.one rfl (.nil _))) <| QN.then_ <| W.seq ?_
   refine W.jn1 (Γ := Unit) (fun (_ : Unit) (x3 : Bool) => [(2, EqA (strV x4)), (3, bA x3)]) (fun (_ : Unit) (_ : Bool) => []) h (fun _ x3 h => ?_) (fun j110 Kj110 h => ?_)
   ·refine QN.then_ <| W.ret ?_
    cases h
    exact QR.f2 rfl rfl (.t rfl) (.t rfl) (.id _)
   ·refine W.region <| mv rfl rfl <| mv rfl rfl <| pk rfl 25 rfl (q_int rfl rfl) <| mv rfl rfl ?_
    rcases bif_s h with ⟨hb111, h⟩ | ⟨hb111, h⟩
    ·refine wm rfl rfl rfl hb111 rfl rfl <| wf rfl rfl rfl hb111 rfl rfl fo185_0 rfl <| wl rfl rfl rfl hb111 rfl rfl sh3 <| wq rfl rfl rfl hb111 (.s 28 rfl (.s 30 rfl .nil)) (q_int rfl rfl).o <| p2 rfl 27 rfl 31 rfl (q_pickT rfl hb111) <| mv rfl rfl ?_
     rcases bif_s h with ⟨hb112, h⟩ | ⟨hb112, h⟩
     ·refine wm rfl rfl rfl hb112 rfl rfl <| wm rfl rfl rfl hb112 rfl rfl <| wq rfl rfl rfl hb112 (.s 35 rfl .nil) (q_slen (s := x4) rfl iss9).o <| wq rfl rfl rfl hb112 (.s 34 rfl (.s 36 rfl .nil)) (q_int rfl rfl).o <| p2 rfl 33 rfl 37 rfl (q_pickT rfl hb112) <| av rfl rfl <| av rfl rfl <| WL.nil ?_
      exact QN.weaken (.o2 rfl (.nil _)) (Kj110 () (t106.2.1 == (x4.length : Int)) h)
     ·refine sk rfl rfl rfl hb112 <| sk rfl rfl rfl hb112 <| sk rfl rfl rfl hb112 <| sk rfl rfl rfl hb112 <| pk rfl 33 rfl (q_pickF rfl hb112) <| av rfl rfl <| av rfl rfl <| WL.nil ?_
      exact QN.weaken (.o2 rfl (.nil _)) (Kj110 () false h)
    ·refine sk rfl rfl rfl hb111 <| sk rfl rfl rfl hb111 <| sk rfl rfl rfl hb111 <| sk rfl rfl rfl hb111 <| pk rfl 27 rfl (q_pickF rfl hb111) <| mv rfl rfl <| sk rfl rfl rfl rfl <| sk rfl rfl rfl rfl <| sk rfl rfl rfl rfl <| sk rfl rfl rfl rfl <| pk rfl 33 rfl (q_pickF rfl rfl) <| av rfl rfl <| av rfl rfl ?_
     refine WL.nil ?_
     exact QN.weaken (.o2 rfl (.nil _)) (Kj110 () false h)
 ·refine W.condP h rfl (fun hb113 h => ?_) (fun hb113 h => ?_)
  ·refine W.region <| mv rfl rfl ?_
   obtain ⟨c114, h⟩ := ite_n h
   refine WL.p rfl rfl rfl (.k (.s 13 rfl .nil)) (q_sadd (s := ([34] : Str)) (t := a0.fText) rfl c114) ?_
   obtain ⟨c115, h⟩ := ite_n h
   refine pk rfl 14 rfl (q_sadd (s := (([34] : Str) ++ a0.fText)) (t := ([34] : Str)) rfl c115) <| av rfl rfl <| WL.nil ?_
   exact QN.weaken (.o2 rfl (.nil _)) (Kj104 () ((([34] : Str) ++ a0.fText) ++ ([34] : Str)) h)
  ·refine W.skip ?_
   exact QN.weaken (.o2 rfl (.nil _)) (Kj104 () a0.fText h)
theorem token_IsName.con (k : Nat) (a0 : Str) (r : Bool) (h : token_IsName k a0 = some r) : Con Tryz.prog 125 [] [EqA (strV a0)] (RA (bA r)) := by
 unfold token_IsName at h
 refine Con.of (N := 12) Tryz.func125 rfl rfl rfl fun w0_ fg_ => sr <| ak rfl <| nx <| mv rfl rfl <| WL.p rfl rfl rfl (.k (.s 6 rfl .nil)) (q_build (is := [0, 1]) (xs := [.const (.int .i64 1), .tmp 6]) (L := [iA 1, EqA (strV a0), iA 0]) rfl rfl z185 pl185 rfl rfl (.cons (CellsOf.one rfl) (.cons (CellsOf.one rfl) .nil)) rfl) ?_
 obtain ⟨t100, ht100, h⟩ := bind_s h
 refine p1 rfl 7 rfl (q_call (f := 149) (A := TupA [EqA (strV t100.1), bA t100.2]) (xs := [.tmp 7]) («as» := [AggA [iA 1, EqA (strV a0), iA 0]]) rfl ca149 (token_whole.con k (Token.mk 1 a0 0) t100 ht100) rfl) <| mv rfl rfl <| p1 rfl 5 rfl (q_extract rfl rfl) <| p1 rfl 5 rfl (q_extract rfl rfl) <| av rfl rfl <| av rfl rfl <| WL.nil <| QN.weaken (env' := [(4, _)]) (.one rfl (.nil _)) <| QN.then_ <| sr <| mv rfl rfl <| av rfl rfl ?_
 refine nt <| W.ret ?_
 cases h
 exact QR.f1 rfl rfl (.t rfl) (.id _)
theorem types_node_1.con (k : Nat) (a0 : NodeType) (a1 : NodeType) (r : Bool) (h : types_node_1 k a0 a1 = some r) : Con Tryz.prog 127 [] [AggA [EqA (strV a0.fName), iA a0.fParent, bA a0.fAbstract, SlcA kAttr a0.fAttrs], PtrA [EqA (strV a1.fName), iA a1.fParent, bA a1.fAbstract, SlcA kAttr a1.fAttrs]] (RA (bA r)) := by
 unfold types_node_1 at h
 refine Con.of (N := 9) Tryz.func127 rfl rfl rfl fun w0_ fg_ => sr <| p1 rfl 0 rfl (q_box rfl (CellsOf.agg _)) <| ak rfl <| nx <| fd rfl rfl fo120_0 rfl <| ld rfl rfl sh9 <| fd rfl rfl fo120_0 rfl <| ld rfl rfl sh9 ?_
 refine p2 rfl 5 rfl 7 rfl (q_str (s := a0.fName) (t := a1.fName) rfl) <| av rfl rfl <| WL.nil <| QN.weaken (env' := [(3, _)]) (.one rfl (.nil _)) <| QN.then_ <| W.ret ?_
 cases h
 exact QR.f1 rfl rfl (.t rfl) (.id _)
theorem slices_IndexFunc_NodeType.con (k : Nat) (a0 : (List NodeType)) (a1 : (NodeType → Option Bool)) (r : Int) (h : slices_IndexFunc_NodeType k a0 a1 = some r) : Con Tryz.prog 150 [] [SlcA kNodeType a0, FnA Tryz.prog (fun (x : NodeType) => [AggA [EqA (strV x.fName), iA x.fParent, bA x.fAbstract, SlcA kAttr x.fAttrs]]) (fun (y : Bool) => bA y) a1] (RA (iA r)) := by
 unfold slices_IndexFunc_NodeType at h
 refine Con.of (N := 19) Tryz.func150 rfl rfl rfl fun w0_ fg_ => sr <| ak rfl <| nt <| W.seq <| sr <| mv rfl rfl <| p1 rfl 6 rfl (q_len rfl elS22) <| mk_ rfl <| WL.nil ?_
 refine QN.then_ <| W.block ?_
 refine W.loop1 (Γ := Unit) (fun (_ : Unit) (x8 : Int) => [(0, SlcA kNodeType a0), (1, FnA Tryz.prog (fun (x : NodeType) => [AggA [EqA (strV x.fName), iA x.fParent, bA x.fAbstract, SlcA kAttr x.fAttrs]]) (fun (y : Bool) => bA y) a1), (7, iA (a0.length : Int)), (8, iA x8)]) (fun (_ : Unit) (_ : Int) => []) h () (.o4 rfl (.nil _)) rfl (fun rec0 K0 next0 _ x8 h => ?_)
 unfold slices_IndexFunc_NodeType.b0 at h
 refine sr <| p2 rfl 8 rfl 7 rfl (q_int rfl rfl) <| nt <| W.seq ?_
 refine W.condP h rfl (fun hb110 h => ?_) (fun hb110 h => ?_)
 ·refine W.skip <| QN.then_ <| W.seq <| W.block <| sr <| mv rfl rfl <| av rfl rfl <| nx <| mv rfl rfl ?_
  refine mv rfl rfl <| mv rfl rfl ?_
  obtain ⟨c111, h⟩ := ite_n h
  refine p2 rfl 12 rfl 13 rfl (q_index rfl el22 rfl c111.1 c111.2) <| lS rfl rfl sh120 rfl rfl ?_
  obtain ⟨t112, ht112, h⟩ := bind_s h
  refine p2 rfl 11 rfl 15 rfl (q_callV («as» := (fun (x : NodeType) => [AggA [EqA (strV x.fName), iA x.fParent, bA x.fAbstract, SlcA kAttr x.fAttrs]])) (res := (fun (y : Bool) => bA y)) (x := (rd a0 x8)) (y := t112) (xs := [.tmp 15]) rfl ht112 rfl) <| WL.nil <| QN.weaken (env' := [(16, _), (5, _), (8, _), (7, _), (1, _), (0, _)]) (.o4 rfl (.o2 rfl (.nil _))) <| QN.then_ ?_
  refine W.condP h rfl (fun hb113 h => ?_) (fun hb113 h => ?_)
  ·refine sr <| mv rfl rfl <| av rfl rfl <| WL.nil <| QN.weaken (env' := [(4, _)]) (.one rfl (.nil _)) <| QN.then_ <| W.ret <| QR.block <| QR.then_ <| QR.then_ <| QR.block <| QR.then_ ?_
   cases h
   exact QR.f1 rfl rfl (.t rfl) (.id _)
  ·refine W.skip <| QN.block <| QN.then_ <| W.region ?_
   obtain ⟨c114, h⟩ := ite_n h
   refine pk rfl 8 rfl (q_addR rfl c114) <| mv rfl rfl <| WL.nil ?_
   exact next0 () (x8 + 1) _ h (.o4 rfl (.nil _))
 ·refine W.exit <| QX.then_ <| QX.then_ <| QX.here <| QN.then_ <| sr <| ak rfl <| nt <| W.ret ?_
  cases h
  exact QR.f1 rfl rfl (.t rfl) (.id _)
theorem slices_ContainsFunc_NodeType.con (k : Nat) (a0 : (List NodeType)) (a1 : (NodeType → Option Bool)) (r : Bool) (h : slices_ContainsFunc_NodeType k a0 a1 = some r) : Con Tryz.prog 126 [] [SlcA kNodeType a0, FnA Tryz.prog (fun (x : NodeType) => [AggA [EqA (strV x.fName), iA x.fParent, bA x.fAbstract, SlcA kAttr x.fAttrs]]) (fun (y : Bool) => bA y) a1] (RA (bA r)) := by
 unfold slices_ContainsFunc_NodeType at h
 refine Con.of (N := 9) Tryz.func126 rfl rfl rfl fun w0_ fg_ => sr <| ak rfl <| nx <| mv rfl rfl <| mv rfl rfl ?_
 obtain ⟨t100, ht100, h⟩ := bind_s h
 refine p2 rfl 5 rfl 6 rfl (q_call (f := 150) (A := iA t100) (xs := [.tmp 5, .tmp 6]) («as» := [SlcA kNodeType a0, FnA Tryz.prog (fun (x : NodeType) => [AggA [EqA (strV x.fName), iA x.fParent, bA x.fAbstract, SlcA kAttr x.fAttrs]]) (fun (y : Bool) => bA y) a1]) rfl ca150 (slices_IndexFunc_NodeType.con k a0 a1 t100 ht100) rfl) <| pk rfl 7 rfl (q_int rfl rfl) <| av rfl rfl <| nt <| W.ret ?_
 cases h
 exact QR.f1 rfl rfl (.t rfl) (.id _)
theorem types_attrs.con : ∀ (k : Nat) (a0 : Types) (a1 : Int) (r : (List Attr)) (_ : types_attrs k a0 a1 = some r), Con Tryz.prog 114 [] [AggA [SlcA kNodeType a0.fNodes, SlcA kEdgeType a0.fEdges], iA a1] (RApp 117 kAttr r) := by
 intro k
 induction k with
 | zero => intro a0 a1 r h; cases h
 | succ k ih =>
  intro a0 a1 r h
  change types_attrs.main (types_attrs k) k a0 a1 = some r at h
  unfold types_attrs.main at h
  refine Con.of (N := 26) Tryz.func114 rfl rfl rfl fun w0_ fg_ => sr <| p1 rfl 0 rfl (q_box rfl (CellsOf.agg _)) <| ak rfl <| nx <| ak rfl <| nt <| W.seq ?_
  refine sr <| fd rfl rfl fo25_0 rfl <| ld rfl rfl sh22 <| mv rfl rfl ?_
  obtain ⟨c100, h⟩ := ite_n h
  refine p2 rfl 8 rfl 9 rfl (q_index rfl el22 rfl c100.1 c100.2) <| fd rfl rfl fo120_1 rfl <| ld rfl rfl sh3 <| av rfl rfl <| WL.nil <| QN.weaken (env' := [(6, _), (5, _), (2, _), (1, _)]) (.o4 rfl (.nil _)) <| QN.then_ <| sr <| mv rfl rfl <| pk rfl 13 rfl (q_int rfl rfl) <| nt ?_
  refine W.jn1 (Γ := Value) (fun (g104 : Value) (_ : (List Attr)) => [(1, iA a1), (2, PtrA [SlcA kNodeType a0.fNodes, SlcA kEdgeType a0.fEdges]), (5, HdA g104)]) (fun (g104 : Value) (x5 : (List Attr)) => [SlE 117 g104 kAttr x5]) h (fun g104 x5 h => ?_) (fun j108 Kj108 h => ?_)
  ·refine QN.then_ <| sr <| mv rfl rfl <| fd rfl rfl fo25_0 rfl <| ld rfl rfl sh22 <| mv rfl rfl ?_
   obtain ⟨c109, h⟩ := ite_n h
   refine p2 rfl 20 rfl 21 rfl (q_index rfl el22 rfl c109.1 c109.2) <| fd rfl rfl fo120_3 rfl <| ld rfl rfl sh118 ?_
   obtain ⟨c110, h⟩ := ite_n h
   refine WL.w [0] rfl (Wanted.plain rfl) rfl rfl (.s 18 rfl (.s 24 rfl .nil)) (w_append (kd := kAttr) rfl el118 rfl gr117 c110) ?_
   rintro _ _ ⟨v111, rfl, rfl⟩
   refine av rfl rfl <| WL.nil <| QN.weaken (env' := [(4, _)]) (.one rfl (.nil _)) <| QN.then_ <| W.ret ?_
   cases h
   exact QR.r1 rfl rfl (.t rfl) ⟨_, rfl, rfl⟩
  ·refine W.condP h rfl (fun hb112 h => ?_) (fun hb112 h => ?_)
   ·refine W.region <| lS rfl rfl sh25 rfl rfl <| mv rfl rfl ?_
    obtain ⟨t113, ht113, h⟩ := bind_s h
    refine WL.w [] rfl (Wanted.plain rfl) rfl rfl (.s 15 rfl (.s 16 rfl .nil)) (w_callI (f := 114) (xs := [.tmp 15, .tmp 16]) («as» := [AggA [SlcA kNodeType a0.fNodes, SlcA kEdgeType a0.fEdges], iA ((rd a0.fNodes a1).fParent)]) rfl ca114 (ih a0 ((rd a0.fNodes a1).fParent) t113 ht113) rfl (.cons (Imp.id _) (.cons (Imp.id _) .nil))) ?_
    rintro _ _ ⟨v114, rfl, rfl⟩
    refine av rfl rfl <| WL.nil ?_
    exact QN.weaken (.o2 rfl (.one rfl (.nil _))) (Kj108 v114 t113 h)
   ·refine W.skip <| QN.to (StTo.newNil 117 kAttr) <| QN.to (StTo.as 5 rfl Imp.nilHd) ?_
    exact QN.weaken (.o2 rfl (.one rfl (.nil _))) (Kj108 (.slice none 0 0) [] h)
theorem types_attribute_1.con (k : Nat) (a0 : Attr) (a1 : Attr) (r : Bool) (h : types_attribute_1 k a0 a1 = some r) : Con Tryz.prog 152 [] [AggA [EqA (strV a0.fName), iA a0.fLow, iA a0.fHigh, SlcA kStr a0.fNames], PtrA [EqA (strV a1.fName), iA a1.fLow, iA a1.fHigh, SlcA kStr a1.fNames]] (RA (bA r)) := by
 unfold types_attribute_1 at h
 refine Con.of (N := 9) Tryz.func152 rfl rfl rfl fun w0_ fg_ => sr <| p1 rfl 0 rfl (q_box rfl (CellsOf.agg _)) <| ak rfl <| nx <| fd rfl rfl fo117_0 rfl <| ld rfl rfl sh9 <| fd rfl rfl fo117_0 rfl <| ld rfl rfl sh9 ?_
 refine p2 rfl 5 rfl 7 rfl (q_str (s := a0.fName) (t := a1.fName) rfl) <| av rfl rfl <| WL.nil <| QN.weaken (env' := [(3, _)]) (.one rfl (.nil _)) <| QN.then_ <| W.ret ?_
 cases h
 exact QR.f1 rfl rfl (.t rfl) (.id _)
theorem slices_IndexFunc_Attr.con (k : Nat) (a0 : (List Attr)) (a1 : (Attr → Option Bool)) (r : Int) (h : slices_IndexFunc_Attr k a0 a1 = some r) : Con Tryz.prog 167 [] [SlcA kAttr a0, FnA Tryz.prog (fun (x : Attr) => [AggA [EqA (strV x.fName), iA x.fLow, iA x.fHigh, SlcA kStr x.fNames]]) (fun (y : Bool) => bA y) a1] (RA (iA r)) := by
 unfold slices_IndexFunc_Attr at h
 refine Con.of (N := 19) Tryz.func167 rfl rfl rfl fun w0_ fg_ => sr <| ak rfl <| nt <| W.seq <| sr <| mv rfl rfl <| p1 rfl 6 rfl (q_len rfl elS118) <| mk_ rfl <| WL.nil ?_
 refine QN.then_ <| W.block ?_
 refine W.loop1 (Γ := Unit) (fun (_ : Unit) (x8 : Int) => [(0, SlcA kAttr a0), (1, FnA Tryz.prog (fun (x : Attr) => [AggA [EqA (strV x.fName), iA x.fLow, iA x.fHigh, SlcA kStr x.fNames]]) (fun (y : Bool) => bA y) a1), (7, iA (a0.length : Int)), (8, iA x8)]) (fun (_ : Unit) (_ : Int) => []) h () (.o4 rfl (.nil _)) rfl (fun rec0 K0 next0 _ x8 h => ?_)
 unfold slices_IndexFunc_Attr.b0 at h
 refine sr <| p2 rfl 8 rfl 7 rfl (q_int rfl rfl) <| nt <| W.seq ?_
 refine W.condP h rfl (fun hb110 h => ?_) (fun hb110 h => ?_)
 ·refine W.skip <| QN.then_ <| W.seq <| W.block <| sr <| mv rfl rfl <| av rfl rfl <| nx <| mv rfl rfl ?_
  refine mv rfl rfl <| mv rfl rfl ?_
  obtain ⟨c111, h⟩ := ite_n h
  refine p2 rfl 12 rfl 13 rfl (q_index rfl el118 rfl c111.1 c111.2) <| lS rfl rfl sh117 rfl rfl ?_
  obtain ⟨t112, ht112, h⟩ := bind_s h
  refine p2 rfl 11 rfl 15 rfl (q_callV («as» := (fun (x : Attr) => [AggA [EqA (strV x.fName), iA x.fLow, iA x.fHigh, SlcA kStr x.fNames]])) (res := (fun (y : Bool) => bA y)) (x := (rd a0 x8)) (y := t112) (xs := [.tmp 15]) rfl ht112 rfl) <| WL.nil <| QN.weaken (env' := [(16, _), (5, _), (8, _), (7, _), (1, _), (0, _)]) (.o4 rfl (.o2 rfl (.nil _))) <| QN.then_ ?_
  refine W.condP h rfl (fun hb113 h => ?_) (fun hb113 h => ?_)
  ·refine sr <| mv rfl rfl <| av rfl rfl <| WL.nil <| QN.weaken (env' := [(4, _)]) (.one rfl (.nil _)) <| QN.then_ <| W.ret <| QR.block <| QR.then_ <| QR.then_ <| QR.block <| QR.then_ ?_
   cases h
   exact QR.f1 rfl rfl (.t rfl) (.id _)
  ·refine W.skip <| QN.block <| QN.then_ <| W.region ?_
   obtain ⟨c114, h⟩ := ite_n h
   refine pk rfl 8 rfl (q_addR rfl c114) <| mv rfl rfl <| WL.nil ?_
   exact next0 () (x8 + 1) _ h (.o4 rfl (.nil _))
 ·refine W.exit <| QX.then_ <| QX.then_ <| QX.here <| QN.then_ <| sr <| ak rfl <| nt <| W.ret ?_
  cases h
  exact QR.f1 rfl rfl (.t rfl) (.id _)
theorem slices_ContainsFunc_Attr.con (k : Nat) (a0 : (List Attr)) (a1 : (Attr → Option Bool)) (r : Bool) (h : slices_ContainsFunc_Attr k a0 a1 = some r) : Con Tryz.prog 151 [] [SlcA kAttr a0, FnA Tryz.prog (fun (x : Attr) => [AggA [EqA (strV x.fName), iA x.fLow, iA x.fHigh, SlcA kStr x.fNames]]) (fun (y : Bool) => bA y) a1] (RA (bA r)) := by
 unfold slices_ContainsFunc_Attr at h
 refine Con.of (N := 9) Tryz.func151 rfl rfl rfl fun w0_ fg_ => sr <| ak rfl <| nx <| mv rfl rfl <| mv rfl rfl ?_
 obtain ⟨t100, ht100, h⟩ := bind_s h
 refine p2 rfl 5 rfl 6 rfl (q_call (f := 167) (A := iA t100) (xs := [.tmp 5, .tmp 6]) («as» := [SlcA kAttr a0, FnA Tryz.prog (fun (x : Attr) => [AggA [EqA (strV x.fName), iA x.fLow, iA x.fHigh, SlcA kStr x.fNames]]) (fun (y : Bool) => bA y) a1]) rfl ca167 (slices_IndexFunc_Attr.con k a0 a1 t100 ht100) rfl) <| pk rfl 7 rfl (q_int rfl rfl) <| av rfl rfl <| nt <| W.ret ?_
 cases h
 exact QR.f1 rfl rfl (.t rfl) (.id _)
theorem types_names.con (k : Nat) (a0 : (List Str)) (r : Int) (h : types_names k a0 = some r) : Con Tryz.prog 153 [] [SlcA kStr a0] (RA (iA r)) := by
 unfold types_names at h
 refine Con.of (N := 26) Tryz.func153 rfl rfl rfl fun w0_ fg_ => sr <| ak rfl <| nt <| W.seq <| sr <| mv rfl rfl <| p1 rfl 5 rfl (q_len rfl elS115) <| pk rfl 6 rfl (q_int rfl rfl) <| WL.nil ?_
 refine QN.then_ ?_
 refine W.condP h rfl (fun hb100 h => ?_) (fun hb100 h => ?_)
 ·refine sr <| ak rfl <| nt <| W.ret <| QR.then_ ?_
  cases h
  exact QR.f1 rfl rfl (.t rfl) (.id _)
 ·refine W.skip <| QN.then_ <| W.seq <| sr <| mv rfl rfl <| p1 rfl 8 rfl (q_len rfl elS115) <| mk_ rfl <| nt <| W.block ?_
  refine W.loop1 (Γ := Unit) (fun (_ : Unit) (x10 : Int) => [(0, SlcA kStr a0), (8, SlcA kStr a0), (9, iA (a0.length : Int)), (10, iA x10)]) (fun (_ : Unit) (_ : Int) => []) h () (.o4 rfl (.nil _)) rfl (fun rec0 K0 next0 _ x10 h => ?_)
  unfold types_names.b0 at h
  refine sr <| p2 rfl 10 rfl 9 rfl (q_int rfl rfl) <| nt <| W.seq ?_
  refine W.condP h rfl (fun hb117 h => ?_) (fun hb117 h => ?_)
  ·refine W.skip <| QN.then_ <| W.seq <| W.block <| sr <| mv rfl rfl ?_
   obtain ⟨c118, h⟩ := ite_n h
   refine p2 rfl 8 rfl 10 rfl (q_index rfl el115 rfl c118.1 c118.2) <| ld rfl rfl sh9 <| av rfl rfl <| av rfl rfl <| nt <| W.block <| sr <| mv rfl rfl ?_
   obtain ⟨t119, ht119, h⟩ := bind_s h
   refine p1 rfl 16 rfl (q_call (f := 125) (A := bA t119) (xs := [.tmp 16]) («as» := [EqA (strV (rd a0 x10))]) rfl ca125 (token_IsName.con k (rd a0 x10) t119 ht119) rfl) <| p1 rfl 17 rfl (q_not rfl) <| av rfl rfl <| WL.nil <| QN.weaken (env' := [(15, _), (4, _), (3, _), (10, _), (9, _), (8, _), (0, _)]) (.o4 rfl (.o2 rfl (.one rfl (.nil _)))) <| QN.then_ ?_
   refine W.condP h rfl (fun hb120 h => ?_) (fun hb120 h => ?_)
   ·refine sr <| ak rfl <| WL.nil <| QN.weaken (env' := [(2, _)]) (.one rfl (.nil _)) <| QN.then_ <| W.ret <| QR.block <| QR.block <| QR.then_ <| QR.then_ <| QR.block <| QR.then_ ?_
    cases h
    exact QR.f1 rfl rfl (.t rfl) (.id _)
   ·refine sr <| mv rfl rfl <| mv rfl rfl ?_
    obtain ⟨c121, h⟩ := ite_n h
    refine p2 rfl 20 rfl 21 rfl (q_subH rfl el115 rfl c121.1 c121.2) <| mv rfl rfl ?_
    obtain ⟨t122, ht122, h⟩ := bind_s h
    refine p2 rfl 22 rfl 23 rfl (q_call (f := 168) (A := bA t122) (xs := [.tmp 22, .tmp 23]) («as» := [SlcA kStr (a0.take (x10 : Int).toNat), EqA (strV (rd a0 x10))]) rfl ca168 (slices_Contains_string.con k (a0.take (x10 : Int).toNat) (rd a0 x10) t122 ht122) rfl) <| av rfl rfl <| WL.nil <| QN.weaken (env' := [(19, _), (10, _), (9, _), (8, _), (0, _)]) (.o4 rfl (.one rfl (.nil _))) <| QN.then_ ?_
    refine W.condP h rfl (fun hb123 h => ?_) (fun hb123 h => ?_)
    ·refine sr <| ak rfl <| nt <| W.ret <| QR.block <| QR.block <| QR.then_ <| QR.then_ <| QR.block <| QR.then_ ?_
     cases h
     exact QR.f1 rfl rfl (.t rfl) (.id _)
    ·refine W.skip <| QN.block <| QN.block <| QN.then_ <| W.region ?_
     obtain ⟨c124, h⟩ := ite_n h
     refine pk rfl 10 rfl (q_addR rfl c124) <| mv rfl rfl <| WL.nil ?_
     exact next0 () (x10 + 1) _ h (.o4 rfl (.nil _))
  ·refine W.exit <| QX.then_ <| QX.then_ <| QX.here <| QN.then_ <| sr <| ak rfl <| nt <| W.ret ?_
   cases h
   exact QR.f1 rfl rfl (.t rfl) (.id _)
theorem types_attribute.con (k : Nat) (a0 : Attr) (a1 : (List Attr)) (r : Int) (h : types_attribute k a0 a1 = some r) : Con Tryz.prog 128 [] [AggA [EqA (strV a0.fName), iA a0.fLow, iA a0.fHigh, SlcA kStr a0.fNames], SlcA kAttr a1] (RA (iA r)) := by
 unfold types_attribute at h
 refine Con.of (N := 55) Tryz.func128 rfl rfl rfl fun w0_ fg_ => sr <| p1 rfl 0 rfl (q_box rfl (CellsOf.agg _)) <| ak rfl <| nt <| W.seq <| W.block <| sr <| fd rfl rfl fo117_0 rfl <| ld rfl rfl sh9 ?_
 obtain ⟨t100, ht100, h⟩ := bind_s h
 refine p1 rfl 9 rfl (q_call (f := 125) (A := bA t100) (xs := [.tmp 9]) («as» := [EqA (strV a0.fName)]) rfl ca125 (token_IsName.con k a0.fName t100 ht100) rfl) <| p1 rfl 10 rfl (q_not rfl) <| av rfl rfl <| nt ?_
 refine W.condP h rfl (fun hb101 h => ?_) (fun hb101 h => ?_)
 ·refine sr <| ak rfl <| WL.nil <| QN.weaken (env' := [(4, _)]) (.one rfl (.nil _)) <| QN.then_ <| W.ret <| QR.block <| QR.then_ ?_
  cases h
  exact QR.f1 rfl rfl (.t rfl) (.id _)
 ·refine sr <| mv rfl rfl <| p1 rfl 2 rfl (q_makeFunc (xs := [.tmp 2]) (L := [PtrA [EqA (strV a0.fName), iA a0.fLow, iA a0.fHigh, SlcA kStr a0.fNames]]) («as» := (fun (x : Attr) => [AggA [EqA (strV x.fName), iA x.fLow, iA x.fHigh, SlcA kStr x.fNames]])) (res := (fun (y : Bool) => bA y)) (p := (fun x => types_attribute_1 k x a0)) rfl ca152 rfl (fun x y hp => (types_attribute_1.con k x a0 y hp))) ?_
  obtain ⟨t102, ht102, h⟩ := bind_s h
  refine p2 rfl 13 rfl 14 rfl (q_call (f := 151) (A := bA t102) (xs := [.tmp 13, .tmp 14]) («as» := [SlcA kAttr a1, FnA Tryz.prog (fun (x : Attr) => [AggA [EqA (strV x.fName), iA x.fLow, iA x.fHigh, SlcA kStr x.fNames]]) (fun (y : Bool) => bA y) (fun x => types_attribute_1 k x a0)]) rfl ca151 (slices_ContainsFunc_Attr.con k a1 (fun x => types_attribute_1 k x a0) t102 ht102) rfl) <| av rfl rfl <| WL.nil <| QN.weaken (env' := [(12, _), (2, _)]) (.o2 rfl (.nil _)) <| QN.then_ ?_
  refine W.condP h rfl (fun hb103 h => ?_) (fun hb103 h => ?_)
  ·refine sr <| ak rfl <| nt <| W.ret <| QR.block <| QR.then_ ?_
   cases h
   exact QR.f1 rfl rfl (.t rfl) (.id _)
  ·refine W.skip <| QN.block <| QN.then_ <| W.seq <| sr <| fd rfl rfl fo117_3 rfl <| ld rfl rfl sh115 ?_
   obtain ⟨t104, ht104, h⟩ := bind_s h
   refine p1 rfl 17 rfl (q_call (f := 153) (A := iA t104) (xs := [.tmp 17]) («as» := [SlcA kStr a0.fNames]) rfl ca153 (types_names.con k a0.fNames t104 ht104) rfl) <| av rfl rfl <| nx <| mv rfl rfl <| pk rfl 19 rfl (q_int rfl rfl) <| nt ?_
   refine W.condP h rfl (fun hb105 h => ?_) (fun hb105 h => ?_)
   ·refine sr <| mv rfl rfl <| av rfl rfl <| WL.nil <| QN.weaken (env' := [(4, _)]) (.one rfl (.nil _)) <| QN.then_ <| W.ret <| QR.then_ ?_
    cases h
    exact QR.f1 rfl rfl (.t rfl) (.id _)
   ·refine W.skip <| QN.weaken (env' := [(2, _)]) (.one rfl (.nil _)) <| QN.then_ <| W.seq ?_
    refine W.jn1 (Γ := Unit) (fun (_ : Unit) (x6 : Bool) => [(2, PtrA [EqA (strV a0.fName), iA a0.fLow, iA a0.fHigh, SlcA kStr a0.fNames]), (6, bA x6)]) (fun (_ : Unit) (_ : Bool) => []) h (fun _ x6 h => ?_) (fun j109 Kj109 h => ?_)
    ·refine QN.then_ <| W.seq <| sr <| fd rfl rfl fo117_3 rfl <| ld rfl rfl sh115 <| p1 rfl 38 rfl (q_len rfl elS115) <| pk rfl 39 rfl (q_int rfl rfl) <| nt ?_
     refine W.condP h rfl (fun hb117 h => ?_) (fun hb117 h => ?_)
     ·refine W.jn1 (Γ := Unit) (fun (_ : Unit) (x6' : Bool) => [(6, bA x6')]) (fun (_ : Unit) (_ : Bool) => []) h (fun _ x6' h => ?_) (fun j121 Kj121 h => ?_)
      ·refine QN.then_ <| W.seq <| sr <| mv rfl rfl <| p1 rfl 53 rfl (q_not rfl) <| nt ?_
       refine W.condP h rfl (fun hb122 h => ?_) (fun hb122 h => ?_)
       ·refine sr <| ak rfl <| nt <| W.ret <| QR.then_ ?_
        cases h
        exact QR.f1 rfl rfl (.t rfl) (.id _)
       ·refine W.skip <| QN.then_ <| sr <| ak rfl <| nt <| W.ret ?_
        cases h
        exact QR.f1 rfl rfl (.t rfl) (.id _)
      ·refine W.region <| fd rfl rfl fo117_1 rfl <| ld rfl rfl sh3 <| pk rfl 42 rfl (q_int rfl rfl) <| mv rfl rfl ?_
       rcases bif_s h with ⟨hb123, h⟩ | ⟨hb123, h⟩
       ·refine wf rfl rfl rfl hb123 rfl rfl fo117_2 rfl <| wl rfl rfl rfl hb123 rfl rfl sh3 <| wf rfl rfl rfl hb123 rfl rfl fo117_3 rfl <| wl rfl rfl rfl hb123 rfl rfl sh115 <| wq rfl rfl rfl hb123 (.s 48 rfl .nil) (q_len rfl elS115).o ?_
        obtain ⟨c124, h⟩ := ite_n h
        refine wq rfl rfl rfl hb123 (.s 49 rfl (.k .nil)) (q_subR rfl c124).o <| wq rfl rfl rfl hb123 (.s 46 rfl (.s 50 rfl .nil)) (q_int rfl rfl).o <| p2 rfl 44 rfl 51 rfl (q_pickT rfl hb123) <| av rfl rfl <| WL.nil ?_
        exact QN.weaken (.one rfl (.nil _)) (Kj121 () (a0.fHigh == ((a0.fNames.length : Int) - 1)) h)
       ·refine sk rfl rfl rfl hb123 <| sk rfl rfl rfl hb123 <| sk rfl rfl rfl hb123 <| sk rfl rfl rfl hb123 <| sk rfl rfl rfl hb123 <| sk rfl rfl rfl hb123 <| sk rfl rfl rfl hb123 <| pk rfl 44 rfl (q_pickF rfl hb123) <| av rfl rfl <| WL.nil ?_
        exact QN.weaken (.one rfl (.nil _)) (Kj121 () false h)
     ·refine W.skip <| QN.then_ <| W.seq <| sr <| mv rfl rfl <| p1 rfl 53 rfl (q_not rfl) <| WL.nil <| QN.weaken (env' := [(54, _)]) (.one rfl (.nil _)) <| QN.then_ ?_
      refine W.condP h rfl (fun hb125 h => ?_) (fun hb125 h => ?_)
      ·refine sr <| ak rfl <| nt <| W.ret <| QR.then_ ?_
       cases h
       exact QR.f1 rfl rfl (.t rfl) (.id _)
      ·refine W.skip <| QN.then_ <| sr <| ak rfl <| nt <| W.ret ?_
       cases h
       exact QR.f1 rfl rfl (.t rfl) (.id _)
    ·refine W.region <| fd rfl rfl fo117_1 rfl <| ld rfl rfl sh3 <| WL.p rfl rfl rfl (.k (.s 23 rfl .nil)) (q_int rfl rfl) <| mv rfl rfl ?_
     rcases bif_s h with ⟨hb126, h⟩ | ⟨hb126, h⟩
     ·refine wf rfl rfl rfl hb126 rfl rfl fo117_1 rfl <| wl rfl rfl rfl hb126 rfl rfl sh3 <| wf rfl rfl rfl hb126 rfl rfl fo117_2 rfl <| wl rfl rfl rfl hb126 rfl rfl sh3 <| wq rfl rfl rfl hb126 (.s 27 rfl (.s 29 rfl .nil)) (q_int rfl rfl).o <| p2 rfl 25 rfl 30 rfl (q_pickT rfl hb126) <| mv rfl rfl ?_
      rcases bif_s h with ⟨hb127, h⟩ | ⟨hb127, h⟩
      ·refine wf rfl rfl rfl hb127 rfl rfl fo117_2 rfl <| wl rfl rfl rfl hb127 rfl rfl sh3 <| wq rfl rfl rfl hb127 (.s 34 rfl (.k .nil)) (q_int rfl rfl).o <| p2 rfl 32 rfl 35 rfl (q_pickT rfl hb127) <| av rfl rfl <| WL.nil ?_
       exact QN.weaken (.o2 rfl (.nil _)) (Kj109 () (decide (a0.fHigh ≤ 1000000)) h)
      ·refine sk rfl rfl rfl hb127 <| sk rfl rfl rfl hb127 <| sk rfl rfl rfl hb127 <| pk rfl 32 rfl (q_pickF rfl hb127) <| av rfl rfl <| WL.nil ?_
       exact QN.weaken (.o2 rfl (.nil _)) (Kj109 () false h)
     ·refine sk rfl rfl rfl hb126 <| sk rfl rfl rfl hb126 <| sk rfl rfl rfl hb126 <| sk rfl rfl rfl hb126 <| sk rfl rfl rfl hb126 <| pk rfl 25 rfl (q_pickF rfl hb126) <| mv rfl rfl <| sk rfl rfl rfl rfl <| sk rfl rfl rfl rfl <| sk rfl rfl rfl rfl <| pk rfl 32 rfl (q_pickF rfl rfl) <| av rfl rfl <| WL.nil ?_
      exact QN.weaken (.o2 rfl (.nil _)) (Kj109 () false h)
end Go.Proofs.YthmdmchmmgmblaaGreat
