/- The Go functions compute the pure ones. (Printed by gen.py.) -/
import Derived.Test.YtelpgjfojhcjcaaGreatD
import Derived.Test.YtelpgjfojhcjcaaGreatFc
import Derived.Test.YtelpgjfojhcjcaaGreatW2
namespace Go.Proofs.YtelpgjfojhcjcaaGreat
open Go Go.Abs
attribute [local irreducible] Tryz.prog
theorem ref04_Example.con (k : Nat) (r : Types) (h : ref04_Example k = some r) : Con Tryz.prog 30 [] [] (RA (AggA [SlcA kNodeType r.fNodes, SlcA kEdgeType r.fEdges])) := by
 unfold ref04_Example at h
 refine Con.of (N := 15) Tryz.func30 rfl rfl rfl fun w0_ fg_ => W.seq <| W.region <| WL.w [] rfl (Wanted.plain rfl) rfl rfl .nil (w_alloc rfl z25 (l := [EqA (.slice none 0 0), EqA (.slice none 0 0)]) rfl) ?_
 rintro _ _ ⟨b1, rfl, rfl⟩
 refine WL.nil <| QN.then_ <| W.seq <| W.region <| WL.p rfl rfl rfl (.k (.k (.k .nil))) (q_build (is := [0, 1, 2]) (xs := [.const (.string ⟨#[98, 97, 108, 97, 110, 99, 101]⟩), .const (.int .i64 (-1000)), .const (.int .i64 1000)]) (L := [EqA (strV ([98, 97, 108, 97, 110, 99, 101] : Str)), EqA (.int .i64 (-1000)), EqA (.int .i64 1000), EqA (.slice none 0 0)]) rfl rfl z91 pl91 rfl rfl (.cons (CellsOf.one rfl) (.cons (CellsOf.one rfl) (.cons (CellsOf.one rfl) .nil))) rfl) <| WL.p rfl rfl rfl (.s 1 rfl .nil) (QS.args (q_lit (kd := kAttr) (ps := [(0, .tmp 1)]) (xs := [.tmp 1]) («as» := [AggA [EqA (strV ([98, 97, 108, 97, 110, 99, 101] : Str)), EqA (.int .i64 (-1000)), EqA (.int .i64 1000), SlcA kStr []]]) (ys := [(Attr.mk ([98, 97, 108, 97, 110, 99, 101] : Str) (-1000) 1000 [])]) rfl rfl el92 rfl gr91 rfl rfl rfl (.cons (CellsOf.agg _) .nil)) (.cons (Imp.agg (.cons (Imp.id _) (.cons (Imp.id _) (.cons (Imp.id _) (.cons (Imp.nil kStr) .nil))))) .nil)) <| WL.p rfl rfl rfl (.k (.k (.k (.s 2 rfl .nil)))) (q_build (is := [0, 1, 2, 3]) (xs := [.const (.string ⟨#[65, 99, 99, 111, 117, 110, 116]⟩), .const (.int .i64 (-1)), .const (.bool true), .tmp 2]) (L := [EqA (strV ([65, 99, 99, 111, 117, 110, 116] : Str)), EqA (.int .i64 (-1)), EqA (.bool true), SlcA kAttr ([(Attr.mk ([98, 97, 108, 97, 110, 99, 101] : Str) (-1000) 1000 [])])]) rfl rfl z94 pl94 rfl rfl (.cons (CellsOf.one rfl) (.cons (CellsOf.one rfl) (.cons (CellsOf.one rfl) (.cons (CellsOf.one rfl) .nil)))) rfl) <| WL.p rfl rfl rfl (.k (.k .nil)) (q_build (is := [0, 1]) (xs := [.const (.string ⟨#[67, 97, 115, 104]⟩), .const (.int .i64 0)]) (L := [EqA (strV ([67, 97, 115, 104] : Str)), EqA (.int .i64 0), EqA (.bool false), EqA (.slice none 0 0)]) rfl rfl z94 pl94 rfl rfl (.cons (CellsOf.one rfl) (.cons (CellsOf.one rfl) .nil)) rfl) <| WL.p rfl rfl rfl (.k (.k .nil)) (q_lit (kd := kStr) (ps := [(0, .const (.string ⟨#[111, 112, 101, 110]⟩)), (1, .const (.string ⟨#[99, 108, 111, 115, 101, 100]⟩))]) (xs := [.const (.string ⟨#[111, 112, 101, 110]⟩), .const (.string ⟨#[99, 108, 111, 115, 101, 100]⟩)]) («as» := [EqA (strV ([111, 112, 101, 110] : Str)), EqA (strV ([99, 108, 111, 115, 101, 100] : Str))]) (ys := [([111, 112, 101, 110] : Str), ([99, 108, 111, 115, 101, 100] : Str)]) rfl rfl el89 rfl gr9 rfl rfl rfl (.cons (CellsOf.one rfl) (.cons (CellsOf.one rfl) .nil))) <| WL.p rfl rfl rfl (.k (.k (.s 5 rfl .nil))) (q_build (is := [0, 2, 3]) (xs := [.const (.string ⟨#[115, 116, 97, 116, 101]⟩), .const (.int .i64 1), .tmp 5]) (L := [EqA (strV ([115, 116, 97, 116, 101] : Str)), EqA (.int .i64 0), EqA (.int .i64 1), SlcA kStr ([([111, 112, 101, 110] : Str), ([99, 108, 111, 115, 101, 100] : Str)])]) rfl rfl z91 pl91 rfl rfl (.cons (CellsOf.one rfl) (.cons (CellsOf.one rfl) (.cons (CellsOf.one rfl) .nil))) rfl) <| WL.p rfl rfl rfl (.s 6 rfl .nil) (q_lit (kd := kAttr) (ps := [(0, .tmp 6)]) (xs := [.tmp 6]) («as» := [AggA [EqA (strV ([115, 116, 97, 116, 101] : Str)), EqA (.int .i64 0), EqA (.int .i64 1), SlcA kStr ([([111, 112, 101, 110] : Str), ([99, 108, 111, 115, 101, 100] : Str)])]]) (ys := [(Attr.mk ([115, 116, 97, 116, 101] : Str) 0 1 ([([111, 112, 101, 110] : Str), ([99, 108, 111, 115, 101, 100] : Str)]))]) rfl rfl el92 rfl gr91 rfl rfl rfl (.cons (CellsOf.agg _) .nil)) <| WL.p rfl rfl rfl (.k (.k (.s 7 rfl .nil))) (q_build (is := [0, 1, 3]) (xs := [.const (.string ⟨#[76, 111, 97, 110]⟩), .const (.int .i64 0), .tmp 7]) (L := [EqA (strV ([76, 111, 97, 110] : Str)), EqA (.int .i64 0), EqA (.bool false), SlcA kAttr ([(Attr.mk ([115, 116, 97, 116, 101] : Str) 0 1 ([([111, 112, 101, 110] : Str), ([99, 108, 111, 115, 101, 100] : Str)]))])]) rfl rfl z94 pl94 rfl rfl (.cons (CellsOf.one rfl) (.cons (CellsOf.one rfl) (.cons (CellsOf.one rfl) .nil))) rfl) <| WL.p rfl rfl rfl (.k (.k .nil)) (q_build (is := [0, 1]) (xs := [.const (.string ⟨#[80, 101, 114, 115, 111, 110]⟩), .const (.int .i64 (-1))]) (L := [EqA (strV ([80, 101, 114, 115, 111, 110] : Str)), EqA (.int .i64 (-1)), EqA (.bool false), EqA (.slice none 0 0)]) rfl rfl z94 pl94 rfl rfl (.cons (CellsOf.one rfl) (.cons (CellsOf.one rfl) .nil)) rfl) ?_
 refine WL.p rfl rfl rfl (.s 3 rfl (.s 4 rfl (.s 8 rfl (.s 9 rfl .nil)))) (QS.args (q_lit (kd := kNodeType) (ps := [(0, .tmp 3), (1, .tmp 4), (2, .tmp 8), (3, .tmp 9)]) (xs := [.tmp 3, .tmp 4, .tmp 8, .tmp 9]) («as» := [AggA [EqA (strV ([65, 99, 99, 111, 117, 110, 116] : Str)), EqA (.int .i64 (-1)), EqA (.bool true), SlcA kAttr ([(Attr.mk ([98, 97, 108, 97, 110, 99, 101] : Str) (-1000) 1000 [])])], AggA [EqA (strV ([67, 97, 115, 104] : Str)), EqA (.int .i64 0), EqA (.bool false), SlcA kAttr []], AggA [EqA (strV ([76, 111, 97, 110] : Str)), EqA (.int .i64 0), EqA (.bool false), SlcA kAttr ([(Attr.mk ([115, 116, 97, 116, 101] : Str) 0 1 ([([111, 112, 101, 110] : Str), ([99, 108, 111, 115, 101, 100] : Str)]))])], AggA [EqA (strV ([80, 101, 114, 115, 111, 110] : Str)), EqA (.int .i64 (-1)), EqA (.bool false), SlcA kAttr []]]) (ys := [(NodeType.mk ([65, 99, 99, 111, 117, 110, 116] : Str) (-1) true ([(Attr.mk ([98, 97, 108, 97, 110, 99, 101] : Str) (-1000) 1000 [])])), (NodeType.mk ([67, 97, 115, 104] : Str) 0 false []), (NodeType.mk ([76, 111, 97, 110] : Str) 0 false ([(Attr.mk ([115, 116, 97, 116, 101] : Str) 0 1 ([([111, 112, 101, 110] : Str), ([99, 108, 111, 115, 101, 100] : Str)]))])), (NodeType.mk ([80, 101, 114, 115, 111, 110] : Str) (-1) false [])]) rfl rfl el22 rfl gr94 rfl rfl rfl (.cons (CellsOf.agg _) (.cons (CellsOf.agg _) (.cons (CellsOf.agg _) (.cons (CellsOf.agg _) .nil))))) (.cons (Imp.id _) (.cons (Imp.agg (.cons (Imp.id _) (.cons (Imp.id _) (.cons (Imp.id _) (.cons (Imp.nil kAttr) .nil))))) (.cons (Imp.id _) (.cons (Imp.agg (.cons (Imp.id _) (.cons (Imp.id _) (.cons (Imp.id _) (.cons (Imp.nil kAttr) .nil))))) .nil))))) <| WL.p rfl rfl rfl (.k (.k (.k (.k (.k (.k .nil)))))) (q_build (is := [0, 1, 2, 4, 5, 6]) (xs := [.const (.string ⟨#[111, 119, 110, 115]⟩), .const (.int .i64 3), .const (.int .i64 0), .const (.int .i64 (-1)), .const (.int .i64 1), .const (.int .i64 1)]) (L := [EqA (strV ([111, 119, 110, 115] : Str)), EqA (.int .i64 3), EqA (.int .i64 0), EqA (.int .i64 0), EqA (.int .i64 (-1)), EqA (.int .i64 1), EqA (.int .i64 1)]) rfl rfl z96 pl96 rfl rfl (.cons (CellsOf.one rfl) (.cons (CellsOf.one rfl) (.cons (CellsOf.one rfl) (.cons (CellsOf.one rfl) (.cons (CellsOf.one rfl) (.cons (CellsOf.one rfl) .nil)))))) rfl) <| WL.p rfl rfl rfl (.k (.k (.k (.k (.k .nil))))) (q_build (is := [0, 1, 2, 4, 6]) (xs := [.const (.string ⟨#[112, 97, 121, 115]⟩), .const (.int .i64 1), .const (.int .i64 1), .const (.int .i64 (-1)), .const (.int .i64 (-1))]) (L := [EqA (strV ([112, 97, 121, 115] : Str)), EqA (.int .i64 1), EqA (.int .i64 1), EqA (.int .i64 0), EqA (.int .i64 (-1)), EqA (.int .i64 0), EqA (.int .i64 (-1))]) rfl rfl z96 pl96 rfl rfl (.cons (CellsOf.one rfl) (.cons (CellsOf.one rfl) (.cons (CellsOf.one rfl) (.cons (CellsOf.one rfl) (.cons (CellsOf.one rfl) .nil))))) rfl) <| WL.p rfl rfl rfl (.s 11 rfl (.s 12 rfl .nil)) (q_lit (kd := kEdgeType) (ps := [(0, .tmp 11), (1, .tmp 12)]) (xs := [.tmp 11, .tmp 12]) («as» := [AggA [EqA (strV ([111, 119, 110, 115] : Str)), EqA (.int .i64 3), EqA (.int .i64 0), EqA (.int .i64 0), EqA (.int .i64 (-1)), EqA (.int .i64 1), EqA (.int .i64 1)], AggA [EqA (strV ([112, 97, 121, 115] : Str)), EqA (.int .i64 1), EqA (.int .i64 1), EqA (.int .i64 0), EqA (.int .i64 (-1)), EqA (.int .i64 0), EqA (.int .i64 (-1))]]) (ys := [(EdgeType.mk ([111, 119, 110, 115] : Str) 3 0 0 (-1) 1 1), (EdgeType.mk ([112, 97, 121, 115] : Str) 1 1 0 (-1) 0 (-1))]) rfl rfl el23 rfl gr96 rfl rfl rfl (.cons (CellsOf.agg _) (.cons (CellsOf.agg _) .nil))) <| WL.p rfl rfl rfl (.s 10 rfl (.s 13 rfl .nil)) (q_build (is := [0, 1]) (xs := [.tmp 10, .tmp 13]) (L := [SlcA kNodeType ([(NodeType.mk ([65, 99, 99, 111, 117, 110, 116] : Str) (-1) true ([(Attr.mk ([98, 97, 108, 97, 110, 99, 101] : Str) (-1000) 1000 [])])), (NodeType.mk ([67, 97, 115, 104] : Str) 0 false []), (NodeType.mk ([76, 111, 97, 110] : Str) 0 false ([(Attr.mk ([115, 116, 97, 116, 101] : Str) 0 1 ([([111, 112, 101, 110] : Str), ([99, 108, 111, 115, 101, 100] : Str)]))])), (NodeType.mk ([80, 101, 114, 115, 111, 110] : Str) (-1) false [])]), SlcA kEdgeType ([(EdgeType.mk ([111, 119, 110, 115] : Str) 3 0 0 (-1) 1 1), (EdgeType.mk ([112, 97, 121, 115] : Str) 1 1 0 (-1) 0 (-1))])]) rfl rfl z25 pl25 rfl rfl (.cons (CellsOf.one rfl) (.cons (CellsOf.one rfl) .nil)) rfl) <| WL.w0 [0] rfl (Wanted.plain rfl) rfl (.s 0 rfl (.s 14 rfl .nil)) (w_store (L := [SlcA kNodeType ([(NodeType.mk ([65, 99, 99, 111, 117, 110, 116] : Str) (-1) true ([(Attr.mk ([98, 97, 108, 97, 110, 99, 101] : Str) (-1000) 1000 [])])), (NodeType.mk ([67, 97, 115, 104] : Str) 0 false []), (NodeType.mk ([76, 111, 97, 110] : Str) 0 false ([(Attr.mk ([115, 116, 97, 116, 101] : Str) 0 1 ([([111, 112, 101, 110] : Str), ([99, 108, 111, 115, 101, 100] : Str)]))])), (NodeType.mk ([80, 101, 114, 115, 111, 110] : Str) (-1) false [])]), SlcA kEdgeType ([(EdgeType.mk ([111, 119, 110, 115] : Str) 3 0 0 (-1) 1 1), (EdgeType.mk ([112, 97, 121, 115] : Str) 1 1 0 (-1) 0 (-1))])]) rfl sh25 (CellsOf.agg _) rfl rfl (leB rfl) rfl) ?_
 rintro _ _ ⟨rfl, rfl⟩
 refine WL.nil <| QN.to (StTo.still [0] 0 rfl rfl) <| QN.weaken (env' := [(0, _)]) (.one rfl (.nil _)) <| QN.then_ <| W.ret ?_
 cases h
 exact QR.f1 rfl rfl (.ps rfl sh25 rfl) (.id _)
theorem law17_bank.con (k : Nat) (r : Graph) (h : law17_bank k = some r) : Con Tryz.prog 31 [] [] (RA (AggA [SlcA kInt r.fNodes, SlcA kEdge r.fEdges])) := by
 unfold law17_bank at h
 refine Con.of (N := 6) Tryz.func31 rfl rfl rfl fun w0_ fg_ => W.seq <| W.region <| WL.w [] rfl (Wanted.plain rfl) rfl rfl .nil (w_alloc rfl z29 (l := [EqA (.slice none 0 0), EqA (.slice none 0 0)]) rfl) ?_
 rintro _ _ ⟨b2, rfl, rfl⟩
 refine WL.nil <| QN.then_ <| W.seq <| W.region <| WL.p rfl rfl rfl (.k (.k (.k .nil))) (q_lit (kd := kInt) (ps := [(0, .const (.int .i64 3)), (1, .const (.int .i64 1)), (2, .const (.int .i64 1))]) (xs := [.const (.int .i64 3), .const (.int .i64 1), .const (.int .i64 1)]) («as» := [EqA (.int .i64 3), EqA (.int .i64 1), EqA (.int .i64 1)]) (ys := [3, 1, 1]) rfl rfl el26 rfl gr3 rfl rfl rfl (.cons (CellsOf.one rfl) (.cons (CellsOf.one rfl) (.cons (CellsOf.one rfl) .nil)))) <| WL.p rfl rfl rfl (.k (.k (.k .nil))) (q_build (is := [0, 1, 2]) (xs := [.const (.int .i64 0), .const (.int .i64 0), .const (.int .i64 1)]) (L := [EqA (.int .i64 0), EqA (.int .i64 0), EqA (.int .i64 1)]) rfl rfl z77 pl77 rfl rfl (.cons (CellsOf.one rfl) (.cons (CellsOf.one rfl) (.cons (CellsOf.one rfl) .nil))) rfl) <| WL.p rfl rfl rfl (.k (.k (.k .nil))) (q_build (is := [0, 1, 2]) (xs := [.const (.int .i64 0), .const (.int .i64 0), .const (.int .i64 2)]) (L := [EqA (.int .i64 0), EqA (.int .i64 0), EqA (.int .i64 2)]) rfl rfl z77 pl77 rfl rfl (.cons (CellsOf.one rfl) (.cons (CellsOf.one rfl) (.cons (CellsOf.one rfl) .nil))) rfl) <| WL.p rfl rfl rfl (.s 2 rfl (.s 3 rfl .nil)) (q_lit (kd := kEdge) (ps := [(0, .tmp 2), (1, .tmp 3)]) (xs := [.tmp 2, .tmp 3]) («as» := [AggA [EqA (.int .i64 0), EqA (.int .i64 0), EqA (.int .i64 1)], AggA [EqA (.int .i64 0), EqA (.int .i64 0), EqA (.int .i64 2)]]) (ys := [(Edge.mk 0 0 1), (Edge.mk 0 0 2)]) rfl rfl el27 rfl gr77 rfl rfl rfl (.cons (CellsOf.agg _) (.cons (CellsOf.agg _) .nil))) <| WL.p rfl rfl rfl (.s 1 rfl (.s 4 rfl .nil)) (q_build (is := [0, 1]) (xs := [.tmp 1, .tmp 4]) (L := [SlcA kInt [3, 1, 1], SlcA kEdge [(Edge.mk 0 0 1), (Edge.mk 0 0 2)]]) rfl rfl z29 pl29 rfl rfl (.cons (CellsOf.one rfl) (.cons (CellsOf.one rfl) .nil)) rfl) <| WL.w0 [0] rfl (Wanted.plain rfl) rfl (.s 0 rfl (.s 5 rfl .nil)) (w_store (L := [SlcA kInt [3, 1, 1], SlcA kEdge [(Edge.mk 0 0 1), (Edge.mk 0 0 2)]]) rfl sh29 (CellsOf.agg _) rfl rfl (leB rfl) rfl) ?_
 rintro _ _ ⟨rfl, rfl⟩
 refine WL.nil <| QN.to (StTo.still [0] 0 rfl rfl) <| QN.then_ <| W.ret ?_
 cases h
 exact QR.f1 rfl rfl (.ps rfl sh29 rfl) (.id _)
theorem token_letter.con (k : Nat) (a0 : Int) (r : Bool) (h : token_letter k a0 = some r) : Con Tryz.prog 156 [] [EqA (.int .u8 a0)] (RA (EqA (.bool r))) := by
 unfold token_letter at h
 refine Con.of (N := 17) Tryz.func156 rfl rfl rfl fun w0_ fg_ => W.seq <| W.region <| WL.p rfl rfl rfl (.k .nil) (q_assign rfl) <| WL.nil <| QN.then_ <| W.seq ?_
 refine W.jn1 (Γ := Unit) (fun (_ : Unit) (x2 : Bool) => [(2, EqA (.bool x2))]) (fun (_ : Unit) (_ : Bool) => []) h (fun _ x2 h => ?_) (fun j8 Kj8 h => ?_)
 ·refine QN.then_ <| W.ret ?_
  cases h
  exact QR.f1 rfl rfl (.t rfl) (.id _)
 ·refine W.region <| WL.p rfl rfl rfl (.s 0 rfl .nil) (q_move rfl) <| WL.p rfl rfl rfl (.s 3 rfl (.k .nil)) (q_int rfl rfl) <| WL.p rfl rfl rfl (.s 4 rfl .nil) (q_move rfl) ?_
  rcases bif_s h with ⟨hb9, h⟩ | ⟨hb9, h⟩
  ·refine WL.q (Wanted.on rfl rfl rfl hb9) rfl rfl (.s 0 rfl .nil) (q_move rfl).o <| WL.q (Wanted.on rfl rfl rfl hb9) rfl rfl (.s 6 rfl (.k .nil)) (q_int rfl rfl).o <| WL.p rfl rfl rfl (.s 5 rfl (.s 7 rfl .nil)) (q_pickT rfl hb9) <| WL.p rfl rfl rfl (.s 8 rfl .nil) (q_move rfl) ?_
   rcases bif_s h with ⟨hb10, h⟩ | ⟨hb10, h⟩
   ·refine WL.skip (Unwanted.on rfl rfl rfl hb10) rfl rfl <| WL.skip (Unwanted.on rfl rfl rfl hb10) rfl rfl <| WL.skip (Unwanted.on rfl rfl rfl hb10) rfl rfl <| WL.skip (Unwanted.und rfl rfl rfl) rfl rfl <| WL.skip (Unwanted.und rfl rfl rfl) rfl rfl <| WL.skip (Unwanted.on rfl rfl rfl hb10) rfl rfl <| WL.p rfl rfl rfl (.s 9 rfl (.k .nil)) (q_pickT rfl hb10) <| WL.p rfl rfl rfl (.s 16 rfl .nil) (q_assign rfl) <| WL.nil ?_
    exact QN.weaken (.one rfl (.nil _)) (Kj8 () true h)
   ·refine WL.q (Wanted.on rfl rfl rfl hb10) rfl rfl (.s 0 rfl .nil) (q_move rfl).o <| WL.q (Wanted.on rfl rfl rfl hb10) rfl rfl (.s 10 rfl (.k .nil)) (q_int rfl rfl).o <| WL.q (Wanted.on rfl rfl rfl hb10) rfl rfl (.s 11 rfl .nil) (q_move rfl).o ?_
    rcases bif_s h with ⟨hb11, h⟩ | ⟨hb11, h⟩
    ·refine WL.q (Wanted.on rfl rfl rfl hb11) rfl rfl (.s 0 rfl .nil) (q_move rfl).o <| WL.q (Wanted.on rfl rfl rfl hb11) rfl rfl (.s 13 rfl (.k .nil)) (q_int rfl rfl).o <| WL.q (Wanted.on rfl rfl rfl hb10) rfl rfl (.s 12 rfl (.s 14 rfl .nil)) (q_pickT rfl hb11).o <| WL.p rfl rfl rfl (.s 9 rfl (.s 15 rfl .nil)) (q_pickF rfl hb10) <| WL.p rfl rfl rfl (.s 16 rfl .nil) (q_assign rfl) <| WL.nil ?_
     exact QN.weaken (.one rfl (.nil _)) (Kj8 () (decide (a0 ≤ 90)) h)
    ·refine WL.skip (Unwanted.on rfl rfl rfl hb11) rfl rfl <| WL.skip (Unwanted.on rfl rfl rfl hb11) rfl rfl <| WL.q (Wanted.on rfl rfl rfl hb10) rfl rfl (.s 12 rfl (.k .nil)) (q_pickF rfl hb11).o <| WL.p rfl rfl rfl (.s 9 rfl (.s 15 rfl .nil)) (q_pickF rfl hb10) <| WL.p rfl rfl rfl (.s 16 rfl .nil) (q_assign rfl) <| WL.nil ?_
     exact QN.weaken (.one rfl (.nil _)) (Kj8 () false h)
  ·refine WL.skip (Unwanted.on rfl rfl rfl hb9) rfl rfl <| WL.skip (Unwanted.on rfl rfl rfl hb9) rfl rfl <| WL.p rfl rfl rfl (.s 5 rfl (.k .nil)) (q_pickF rfl hb9) <| WL.p rfl rfl rfl (.s 8 rfl .nil) (q_move rfl) <| WL.q (Wanted.on rfl rfl rfl rfl) rfl rfl (.s 0 rfl .nil) (q_move rfl).o <| WL.q (Wanted.on rfl rfl rfl rfl) rfl rfl (.s 10 rfl (.k .nil)) (q_int rfl rfl).o <| WL.q (Wanted.on rfl rfl rfl rfl) rfl rfl (.s 11 rfl .nil) (q_move rfl).o ?_
   rcases bif_s h with ⟨hb12, h⟩ | ⟨hb12, h⟩
   ·refine WL.q (Wanted.on rfl rfl rfl hb12) rfl rfl (.s 0 rfl .nil) (q_move rfl).o <| WL.q (Wanted.on rfl rfl rfl hb12) rfl rfl (.s 13 rfl (.k .nil)) (q_int rfl rfl).o <| WL.q (Wanted.on rfl rfl rfl rfl) rfl rfl (.s 12 rfl (.s 14 rfl .nil)) (q_pickT rfl hb12).o <| WL.p rfl rfl rfl (.s 9 rfl (.s 15 rfl .nil)) (q_pickF rfl rfl) <| WL.p rfl rfl rfl (.s 16 rfl .nil) (q_assign rfl) <| WL.nil ?_
    exact QN.weaken (.one rfl (.nil _)) (Kj8 () (decide (a0 ≤ 90)) h)
   ·refine WL.skip (Unwanted.on rfl rfl rfl hb12) rfl rfl <| WL.skip (Unwanted.on rfl rfl rfl hb12) rfl rfl <| WL.q (Wanted.on rfl rfl rfl rfl) rfl rfl (.s 12 rfl (.k .nil)) (q_pickF rfl hb12).o <| WL.p rfl rfl rfl (.s 9 rfl (.s 15 rfl .nil)) (q_pickF rfl rfl) <| WL.p rfl rfl rfl (.s 16 rfl .nil) (q_assign rfl) <| WL.nil ?_
    exact QN.weaken (.one rfl (.nil _)) (Kj8 () false h)
theorem token_run.con (k : Nat) (a0 : Str) (a1 : (Int → Option Bool)) (r : Int) (h : token_run k a0 a1 = some r) : Con Tryz.prog 157 [] [EqA (strV a0), FnA Tryz.prog (fun (x : Int) => [EqA (.int .u8 x)]) (fun (y : Bool) => EqA (.bool y)) a1] (RA (EqA (.int .i64 r))) := by
 unfold token_run at h
 refine Con.of (N := 20) Tryz.func157 rfl rfl rfl fun w0_ fg_ => W.seq <| W.region <| WL.p rfl rfl rfl (.k .nil) (q_assign rfl) <| WL.nil <| QN.then_ <| W.seq <| W.region <| WL.p rfl rfl rfl (.k .nil) (q_assign rfl) <| WL.nil <| QN.then_ <| W.seq <| W.block ?_
 refine W.loop1 (Γ := Unit) (fun (_ : Unit) (x5 : Int) => [(0, EqA (strV a0)), (1, FnA Tryz.prog (fun (x : Int) => [EqA (.int .u8 x)]) (fun (y : Bool) => EqA (.bool y)) a1), (5, EqA (.int .i64 x5))]) (fun (_ : Unit) (_ : Int) => []) h () (.one rfl (.one rfl (.one rfl (.nil _)))) rfl (fun rec0 K0 next0 _ x5 h => ?_)
 unfold token_run.b0 at h
 refine W.seq <| W.seq ?_
 refine W.jn1 (Γ := Unit) (fun (_ : Unit) (x16 : Bool) => [(0, EqA (strV a0)), (1, FnA Tryz.prog (fun (x : Int) => [EqA (.int .u8 x)]) (fun (y : Bool) => EqA (.bool y)) a1), (5, EqA (.int .i64 x5)), (16, EqA (.bool x16))]) (fun (_ : Unit) (_ : Bool) => []) h (fun _ x16 h => ?_) (fun j37 Kj37 h => ?_)
 ·refine QN.then_ ?_
  refine W.condP h rfl (fun hb38 h => ?_) (fun hb38 h => ?_)
  ·refine W.skip <| QN.then_ <| W.block <| W.region <| WL.p rfl rfl rfl (.s 5 rfl .nil) (q_move rfl) ?_
   obtain ⟨c39, h⟩ := ite_n h
   refine WL.p rfl rfl rfl (.s 17 rfl (.k .nil)) (q_addR rfl c39) <| WL.p rfl rfl rfl (.s 18 rfl .nil) (q_assign rfl) <| WL.nil <| QN.block ?_
   exact next0 () (x5 + 1) _ h (.one rfl (.one rfl (.one rfl (.nil _))))
  ·refine W.exit <| QX.then_ <| QX.then_ <| QX.here <| QN.then_ <| W.seq <| W.region <| WL.p rfl rfl rfl (.s 5 rfl .nil) (q_move rfl) <| WL.p rfl rfl rfl (.s 19 rfl .nil) (q_assign rfl) <| WL.nil <| QN.then_ <| W.ret ?_
   cases h
   exact QR.f1 rfl rfl (.t rfl) (.id _)
 ·refine W.region <| WL.p rfl rfl rfl (.s 5 rfl .nil) (q_move rfl) <| WL.p rfl rfl rfl (.s 0 rfl .nil) (q_move rfl) <| WL.p rfl rfl rfl (.s 7 rfl .nil) (q_slen (s := a0) rfl iss9) <| WL.p rfl rfl rfl (.s 6 rfl (.s 8 rfl .nil)) (q_int rfl rfl) <| WL.p rfl rfl rfl (.s 9 rfl .nil) (q_move rfl) ?_
  rcases bif_s h with ⟨hb40, h⟩ | ⟨hb40, h⟩
  ·refine WL.q (Wanted.on rfl rfl rfl hb40) rfl rfl (.s 1 rfl .nil) (q_move rfl).o <| WL.q (Wanted.on rfl rfl rfl hb40) rfl rfl (.s 0 rfl .nil) (q_move rfl).o <| WL.q (Wanted.on rfl rfl rfl hb40) rfl rfl (.s 5 rfl .nil) (q_move rfl).o ?_
   obtain ⟨c41, h⟩ := ite_n h
   refine WL.q (Wanted.on rfl rfl rfl hb40) rfl rfl (.s 12 rfl (.s 13 rfl .nil)) (q_sindex rfl iss9 c41.1 c41.2).o ?_
   obtain ⟨t42, ht42, h⟩ := bind_s h
   refine WL.q (Wanted.on rfl rfl rfl hb40) rfl rfl (.s 11 rfl (.s 14 rfl .nil)) (q_callV («as» := fun (x : Int) => [EqA (.int .u8 x)]) (res := fun (y : Bool) => EqA (.bool y)) (x := (bt a0 x5)) (y := t42) (xs := [.tmp 14]) rfl ht42 rfl).o <| WL.p rfl rfl rfl (.s 10 rfl (.s 15 rfl .nil)) (q_pickT rfl hb40) <| WL.nil ?_
   exact QN.weaken (.one rfl (.one rfl (.one rfl (.one rfl (.nil _))))) (Kj37 () t42 h)
  ·refine WL.skip (Unwanted.on rfl rfl rfl hb40) rfl rfl <| WL.skip (Unwanted.on rfl rfl rfl hb40) rfl rfl <| WL.skip (Unwanted.on rfl rfl rfl hb40) rfl rfl <| WL.skip (Unwanted.on rfl rfl rfl hb40) rfl rfl <| WL.skip (Unwanted.on rfl rfl rfl hb40) rfl rfl <| WL.p rfl rfl rfl (.s 10 rfl (.k .nil)) (q_pickF rfl hb40) <| WL.nil ?_
   exact QN.weaken (.one rfl (.one rfl (.one rfl (.one rfl (.nil _))))) (Kj37 () false h)
theorem token_digit.con (k : Nat) (a0 : Int) (r : Bool) (h : token_digit k a0 = some r) : Con Tryz.prog 159 [] [EqA (.int .u8 a0)] (RA (EqA (.bool r))) := by
 unfold token_digit at h
 refine Con.of (N := 9) Tryz.func159 rfl rfl rfl fun w0_ fg_ => W.seq <| W.region <| WL.p rfl rfl rfl (.k .nil) (q_assign rfl) <| WL.nil <| QN.then_ <| W.seq ?_
 refine W.jn1 (Γ := Unit) (fun (_ : Unit) (x2 : Bool) => [(2, EqA (.bool x2))]) (fun (_ : Unit) (_ : Bool) => []) h (fun _ x2 h => ?_) (fun j45 Kj45 h => ?_)
 ·refine QN.then_ <| W.ret ?_
  cases h
  exact QR.f1 rfl rfl (.t rfl) (.id _)
 ·refine W.region <| WL.p rfl rfl rfl (.s 0 rfl .nil) (q_move rfl) <| WL.p rfl rfl rfl (.s 3 rfl (.k .nil)) (q_int rfl rfl) <| WL.p rfl rfl rfl (.s 4 rfl .nil) (q_move rfl) ?_
  rcases bif_s h with ⟨hb46, h⟩ | ⟨hb46, h⟩
  ·refine WL.q (Wanted.on rfl rfl rfl hb46) rfl rfl (.s 0 rfl .nil) (q_move rfl).o <| WL.q (Wanted.on rfl rfl rfl hb46) rfl rfl (.s 6 rfl (.k .nil)) (q_int rfl rfl).o <| WL.p rfl rfl rfl (.s 5 rfl (.s 7 rfl .nil)) (q_pickT rfl hb46) <| WL.p rfl rfl rfl (.s 8 rfl .nil) (q_assign rfl) <| WL.nil ?_
   exact QN.weaken (.one rfl (.nil _)) (Kj45 () (decide (a0 ≤ 57)) h)
  ·refine WL.skip (Unwanted.on rfl rfl rfl hb46) rfl rfl <| WL.skip (Unwanted.on rfl rfl rfl hb46) rfl rfl <| WL.p rfl rfl rfl (.s 5 rfl (.k .nil)) (q_pickF rfl hb46) <| WL.p rfl rfl rfl (.s 8 rfl .nil) (q_assign rfl) <| WL.nil ?_
   exact QN.weaken (.one rfl (.nil _)) (Kj45 () false h)
theorem token_part.con (k : Nat) (a0 : Int) (r : Bool) (h : token_part k a0 = some r) : Con Tryz.prog 158 [] [EqA (.int .u8 a0)] (RA (EqA (.bool r))) := by
 unfold token_part at h
 refine Con.of (N := 13) Tryz.func158 rfl rfl rfl fun w0_ fg_ => W.seq <| W.region <| WL.p rfl rfl rfl (.k .nil) (q_assign rfl) <| WL.nil <| QN.then_ <| W.seq ?_
 refine W.jn1 (Γ := Unit) (fun (_ : Unit) (x2 : Bool) => [(2, EqA (.bool x2))]) (fun (_ : Unit) (_ : Bool) => []) h (fun _ x2 h => ?_) (fun j52 Kj52 h => ?_)
 ·refine QN.then_ <| W.ret ?_
  cases h
  exact QR.f1 rfl rfl (.t rfl) (.id _)
 ·refine W.region <| WL.p rfl rfl rfl (.s 0 rfl .nil) (q_move rfl) ?_
  obtain ⟨t53, ht53, h⟩ := bind_s h
  refine WL.p rfl rfl rfl (.s 3 rfl .nil) (q_call (f := 156) (A := EqA (.bool t53)) (xs := [.tmp 3]) («as» := [EqA (.int .u8 a0)]) rfl ca156 (token_letter.con k a0 t53 ht53) rfl) <| WL.p rfl rfl rfl (.s 4 rfl .nil) (q_move rfl) ?_
  rcases bif_s h with ⟨hb54, h⟩ | ⟨hb54, h⟩
  ·refine WL.skip (Unwanted.on rfl rfl rfl hb54) rfl rfl <| WL.skip (Unwanted.on rfl rfl rfl hb54) rfl rfl <| WL.p rfl rfl rfl (.s 5 rfl (.k .nil)) (q_pickT rfl hb54) <| WL.p rfl rfl rfl (.s 8 rfl .nil) (q_move rfl) <| WL.skip (Unwanted.on rfl rfl rfl rfl) rfl rfl <| WL.skip (Unwanted.on rfl rfl rfl rfl) rfl rfl <| WL.p rfl rfl rfl (.s 9 rfl (.k .nil)) (q_pickT rfl rfl) <| WL.p rfl rfl rfl (.s 12 rfl .nil) (q_assign rfl) <| WL.nil ?_
   exact QN.weaken (.one rfl (.nil _)) (Kj52 () true h)
  ·refine WL.q (Wanted.on rfl rfl rfl hb54) rfl rfl (.s 0 rfl .nil) (q_move rfl).o ?_
   obtain ⟨t55, ht55, h⟩ := bind_s h
   refine WL.q (Wanted.on rfl rfl rfl hb54) rfl rfl (.s 6 rfl .nil) (q_call (f := 159) (A := EqA (.bool t55)) (xs := [.tmp 6]) («as» := [EqA (.int .u8 a0)]) rfl ca159 (token_digit.con k a0 t55 ht55) rfl).o <| WL.p rfl rfl rfl (.s 5 rfl (.s 7 rfl .nil)) (q_pickF rfl hb54) <| WL.p rfl rfl rfl (.s 8 rfl .nil) (q_move rfl) ?_
   rcases bif_s h with ⟨hb56, h⟩ | ⟨hb56, h⟩
   ·refine WL.skip (Unwanted.on rfl rfl rfl hb56) rfl rfl <| WL.skip (Unwanted.on rfl rfl rfl hb56) rfl rfl <| WL.p rfl rfl rfl (.s 9 rfl (.k .nil)) (q_pickT rfl hb56) <| WL.p rfl rfl rfl (.s 12 rfl .nil) (q_assign rfl) <| WL.nil ?_
    exact QN.weaken (.one rfl (.nil _)) (Kj52 () true h)
   ·refine WL.q (Wanted.on rfl rfl rfl hb56) rfl rfl (.s 0 rfl .nil) (q_move rfl).o <| WL.q (Wanted.on rfl rfl rfl hb56) rfl rfl (.s 10 rfl (.k .nil)) (q_int rfl rfl).o <| WL.p rfl rfl rfl (.s 9 rfl (.s 11 rfl .nil)) (q_pickF rfl hb56) <| WL.p rfl rfl rfl (.s 12 rfl .nil) (q_assign rfl) <| WL.nil ?_
    exact QN.weaken (.one rfl (.nil _)) (Kj52 () (a0 == 95) h)
theorem token_quoted_1.con (k : Nat) (a0 : Int) (r : Bool) (h : token_quoted_1 k a0 = some r) : Con Tryz.prog 165 [] [EqA (.int .u8 a0)] (RA (EqA (.bool r))) := by
 unfold token_quoted_1 at h
 refine Con.of (N := 13) Tryz.func165 rfl rfl rfl fun w0_ fg_ => W.seq <| W.region <| WL.p rfl rfl rfl (.k .nil) (q_assign rfl) <| WL.nil <| QN.then_ <| W.seq ?_
 refine W.jn1 (Γ := Unit) (fun (_ : Unit) (x2 : Bool) => [(2, EqA (.bool x2))]) (fun (_ : Unit) (_ : Bool) => []) h (fun _ x2 h => ?_) (fun j60 Kj60 h => ?_)
 ·refine QN.then_ <| W.ret ?_
  cases h
  exact QR.f1 rfl rfl (.t rfl) (.id _)
 ·refine W.region <| WL.p rfl rfl rfl (.s 0 rfl .nil) (q_move rfl) <| WL.p rfl rfl rfl (.s 3 rfl (.k .nil)) (q_int rfl rfl) <| WL.p rfl rfl rfl (.s 4 rfl .nil) (q_move rfl) ?_
  rcases bif_s h with ⟨hb61, h⟩ | ⟨hb61, h⟩
  ·refine WL.q (Wanted.on rfl rfl rfl hb61) rfl rfl (.s 0 rfl .nil) (q_move rfl).o <| WL.q (Wanted.on rfl rfl rfl hb61) rfl rfl (.s 6 rfl (.k .nil)) (q_int rfl rfl).o <| WL.p rfl rfl rfl (.s 5 rfl (.s 7 rfl .nil)) (q_pickT rfl hb61) <| WL.p rfl rfl rfl (.s 8 rfl .nil) (q_move rfl) ?_
   rcases bif_s h with ⟨hb62, h⟩ | ⟨hb62, h⟩
   ·refine WL.q (Wanted.on rfl rfl rfl hb62) rfl rfl (.s 0 rfl .nil) (q_move rfl).o <| WL.q (Wanted.on rfl rfl rfl hb62) rfl rfl (.s 10 rfl (.k .nil)) (q_int rfl rfl).o <| WL.p rfl rfl rfl (.s 9 rfl (.s 11 rfl .nil)) (q_pickT rfl hb62) <| WL.p rfl rfl rfl (.s 12 rfl .nil) (q_assign rfl) <| WL.nil ?_
    exact QN.weaken (.one rfl (.nil _)) (Kj60 () (a0 != 34) h)
   ·refine WL.skip (Unwanted.on rfl rfl rfl hb62) rfl rfl <| WL.skip (Unwanted.on rfl rfl rfl hb62) rfl rfl <| WL.p rfl rfl rfl (.s 9 rfl (.k .nil)) (q_pickF rfl hb62) <| WL.p rfl rfl rfl (.s 12 rfl .nil) (q_assign rfl) <| WL.nil ?_
    exact QN.weaken (.one rfl (.nil _)) (Kj60 () false h)
  ·refine WL.skip (Unwanted.on rfl rfl rfl hb61) rfl rfl <| WL.skip (Unwanted.on rfl rfl rfl hb61) rfl rfl <| WL.p rfl rfl rfl (.s 5 rfl (.k .nil)) (q_pickF rfl hb61) <| WL.p rfl rfl rfl (.s 8 rfl .nil) (q_move rfl) <| WL.skip (Unwanted.on rfl rfl rfl rfl) rfl rfl <| WL.skip (Unwanted.on rfl rfl rfl rfl) rfl rfl <| WL.p rfl rfl rfl (.s 9 rfl (.k .nil)) (q_pickF rfl rfl) <| WL.p rfl rfl rfl (.s 12 rfl .nil) (q_assign rfl) <| WL.nil ?_
   exact QN.weaken (.one rfl (.nil _)) (Kj60 () false h)
theorem token_quoted.con (k : Nat) (a0 : Str) (r : (Int × Int)) (h : token_quoted k a0 = some r) : Con Tryz.prog 160 [] [EqA (strV a0)] (RA (TupA [EqA (.int .i64 r.1), EqA (.int .i64 r.2)])) := by
 unfold token_quoted at h
 refine Con.of (N := 24) Tryz.func160 rfl rfl rfl fun w0_ fg_ => W.seq <| W.region <| WL.p rfl rfl rfl (.k .nil) (q_assign rfl) <| WL.p rfl rfl rfl (.k .nil) (q_assign rfl) <| WL.nil <| QN.then_ <| W.seq <| W.region <| WL.p rfl rfl rfl (.s 0 rfl .nil) (q_move rfl) ?_
 obtain ⟨c63, h⟩ := ite_n h
 refine WL.p rfl rfl rfl (.s 5 rfl (.k .nil)) (q_ssubL rfl iss9 c63.1 c63.2) ?_
 obtain ⟨t64, ht64, h⟩ := bind_s h
 refine WL.p rfl rfl rfl (.s 6 rfl (.f («as» := fun (x : Int) => [EqA (.int .u8 x)]) (res := fun (y : Bool) => EqA (.bool y)) (p := fun x => token_quoted_1 k x) ca165 (fun x y hp => token_quoted_1.con k x y hp) .nil)) (q_call (f := 157) (A := EqA (.int .i64 t64)) (xs := [.tmp 6, .func 165]) («as» := [EqA (strV (a0.drop (1 : Int).toNat)), FnA Tryz.prog (fun (x : Int) => [EqA (.int .u8 x)]) (fun (y : Bool) => EqA (.bool y)) (fun x => token_quoted_1 k x)]) rfl ca157 (token_run.con k (a0.drop (1 : Int).toNat) (fun x => token_quoted_1 k x) t64 ht64) rfl) <| WL.p rfl rfl rfl (.s 7 rfl .nil) (q_assign rfl) <| WL.nil <| QN.then_ <| W.seq <| W.seq ?_
 refine W.jn1 (Γ := Unit) (fun (_ : Unit) (x19 : Bool) => [(4, EqA (.int .i64 t64)), (19, EqA (.bool x19))]) (fun (_ : Unit) (_ : Bool) => []) h (fun _ x19 h => ?_) (fun j70 Kj70 h => ?_)
 ·refine QN.then_ ?_
  refine W.condP h rfl (fun hb71 h => ?_) (fun hb71 h => ?_)
  ·refine W.seq <| W.region <| WL.p rfl rfl rfl (.k .nil) (q_assign rfl) <| WL.p rfl rfl rfl (.k .nil) (q_assign rfl) <| WL.nil <| QN.then_ <| W.ret <| QR.then_ ?_
   cases h
   exact QR.f2 rfl rfl (.t rfl) (.t rfl) (.id _)
  ·refine W.skip <| QN.then_ <| W.seq <| W.seq <| W.region <| WL.p rfl rfl rfl (.s 4 rfl .nil) (q_move rfl) <| WL.p rfl rfl rfl (.s 20 rfl (.k .nil)) (q_int rfl rfl) <| WL.nil <| QN.then_ ?_
   refine W.condP h rfl (fun hb72 h => ?_) (fun hb72 h => ?_)
   ·refine W.seq <| W.region <| WL.p rfl rfl rfl (.k .nil) (q_assign rfl) <| WL.p rfl rfl rfl (.k .nil) (q_assign rfl) <| WL.nil <| QN.then_ <| W.ret <| QR.then_ ?_
    cases h
    exact QR.f2 rfl rfl (.t rfl) (.t rfl) (.id _)
   ·refine W.skip <| QN.then_ <| W.seq <| W.region <| WL.p rfl rfl rfl (.s 4 rfl .nil) (q_move rfl) ?_
    obtain ⟨c73, h⟩ := ite_n h
    refine WL.p rfl rfl rfl (.s 22 rfl (.k .nil)) (q_addR rfl c73) <| WL.p rfl rfl rfl (.s 23 rfl .nil) (q_assign rfl) <| WL.p rfl rfl rfl (.k .nil) (q_assign rfl) <| WL.nil <| QN.then_ <| W.ret ?_
    cases h
    exact QR.f2 rfl rfl (.t rfl) (.t rfl) (.id _)
 ·refine W.region <| WL.p rfl rfl rfl (.s 4 rfl .nil) (q_move rfl) ?_
  obtain ⟨c74, h⟩ := ite_n h
  refine WL.p rfl rfl rfl (.k (.s 8 rfl .nil)) (q_addR rfl c74) <| WL.p rfl rfl rfl (.s 0 rfl .nil) (q_move rfl) <| WL.p rfl rfl rfl (.s 10 rfl .nil) (q_slen (s := a0) rfl iss9) <| WL.p rfl rfl rfl (.s 9 rfl (.s 11 rfl .nil)) (q_int rfl rfl) <| WL.p rfl rfl rfl (.s 12 rfl .nil) (q_move rfl) ?_
  rcases bif_s h with ⟨hb75, h⟩ | ⟨hb75, h⟩
  ·refine WL.skip (Unwanted.on rfl rfl rfl hb75) rfl rfl <| WL.skip (Unwanted.on rfl rfl rfl hb75) rfl rfl <| WL.skip (Unwanted.on rfl rfl rfl hb75) rfl rfl <| WL.skip (Unwanted.on rfl rfl rfl hb75) rfl rfl <| WL.skip (Unwanted.on rfl rfl rfl hb75) rfl rfl <| WL.p rfl rfl rfl (.s 13 rfl (.k .nil)) (q_pickT rfl hb75) <| WL.nil ?_
   exact QN.weaken (.one rfl (.one rfl (.nil _))) (Kj70 () true h)
  ·refine WL.q (Wanted.on rfl rfl rfl hb75) rfl rfl (.s 0 rfl .nil) (q_move rfl).o <| WL.q (Wanted.on rfl rfl rfl hb75) rfl rfl (.s 4 rfl .nil) (q_move rfl).o ?_
   obtain ⟨c76, h⟩ := ite_n h
   refine WL.q (Wanted.on rfl rfl rfl hb75) rfl rfl (.k (.s 15 rfl .nil)) (q_addR rfl c76).o ?_
   obtain ⟨c77, h⟩ := ite_n h
   refine WL.q (Wanted.on rfl rfl rfl hb75) rfl rfl (.s 14 rfl (.s 16 rfl .nil)) (q_sindex rfl iss9 c77.1 c77.2).o <| WL.q (Wanted.on rfl rfl rfl hb75) rfl rfl (.s 17 rfl (.k .nil)) (q_int rfl rfl).o <| WL.p rfl rfl rfl (.s 13 rfl (.s 18 rfl .nil)) (q_pickF rfl hb75) <| WL.nil ?_
   exact QN.weaken (.one rfl (.one rfl (.nil _))) (Kj70 () ((bt a0 (1 + t64)) != 34) h)
theorem slices_Index_string.con (k : Nat) (a0 : (List Str)) (a1 : Str) (r : Int) (h : slices_Index_string k a0 a1 = some r) : Con Tryz.prog 163 [] [SlcA kStr a0, EqA (strV a1)] (RA (EqA (.int .i64 r))) := by
 unfold slices_Index_string at h
 refine Con.of (N := 19) Tryz.func163 rfl rfl rfl fun w0_ fg_ => W.seq <| W.region <| WL.p rfl rfl rfl (.k .nil) (q_assign rfl) <| WL.nil <| QN.then_ <| W.seq <| W.seq <| W.region <| WL.p rfl rfl rfl (.s 0 rfl .nil) (q_move rfl) <| WL.p rfl rfl rfl (.s 6 rfl .nil) (q_len rfl elS89) <| WL.p rfl rfl rfl (.k .nil) (q_move rfl) <| WL.nil ?_
 refine QN.then_ <| W.block ?_
 refine W.loop1 (Γ := Unit) (fun (_ : Unit) (x8 : Int) => [(0, SlcA kStr a0), (1, EqA (strV a1)), (7, EqA (.int .i64 (a0.length : Int))), (8, EqA (.int .i64 x8))]) (fun (_ : Unit) (_ : Int) => []) h () (.one rfl (.one rfl (.one rfl (.one rfl (.nil _))))) rfl (fun rec0 K0 next0 _ x8 h => ?_)
 unfold slices_Index_string.b0 at h
 refine W.seq <| W.region <| WL.p rfl rfl rfl (.s 8 rfl (.s 7 rfl .nil)) (q_int rfl rfl) <| WL.nil <| QN.then_ <| W.seq ?_
 refine W.condP h rfl (fun hb86 h => ?_) (fun hb86 h => ?_)
 ·refine W.skip <| QN.then_ <| W.seq <| W.block <| W.seq <| W.region <| WL.p rfl rfl rfl (.s 8 rfl .nil) (q_move rfl) <| WL.p rfl rfl rfl (.s 10 rfl .nil) (q_assign rfl) <| WL.nil <| QN.then_ <| W.seq <| W.region <| WL.p rfl rfl rfl (.s 1 rfl .nil) (q_move rfl) ?_
  refine WL.p rfl rfl rfl (.s 0 rfl .nil) (q_move rfl) <| WL.p rfl rfl rfl (.s 5 rfl .nil) (q_move rfl) ?_
  obtain ⟨c87, h⟩ := ite_n h
  refine WL.p rfl rfl rfl (.s 12 rfl (.s 13 rfl .nil)) (q_index rfl el89 rfl c87.1 c87.2) <| WL.p rfl rfl rfl (.s 14 rfl .nil) (q_load rfl sh9) <| WL.p rfl rfl rfl (.s 11 rfl (.s 15 rfl .nil)) (q_str (s := a1) (t := (rd a0 x8)) rfl) <| WL.nil <| QN.weaken (env' := [(16, _), (5, _), (8, _), (7, _), (1, _), (0, _)]) (.one rfl (.one rfl (.one rfl (.one rfl (.one rfl (.one rfl (.nil _))))))) <| QN.then_ ?_
  refine W.condP h rfl (fun hb88 h => ?_) (fun hb88 h => ?_)
  ·refine W.seq <| W.region <| WL.p rfl rfl rfl (.s 5 rfl .nil) (q_move rfl) <| WL.p rfl rfl rfl (.s 17 rfl .nil) (q_assign rfl) <| WL.nil <| QN.weaken (env' := [(4, _)]) (.one rfl (.nil _)) <| QN.then_ <| W.ret <| QR.block <| QR.then_ <| QR.then_ <| QR.block <| QR.then_ ?_
   cases h
   exact QR.f1 rfl rfl (.t rfl) (.id _)
  ·refine W.skip <| QN.block <| QN.then_ <| W.region ?_
   obtain ⟨c89, h⟩ := ite_n h
   refine WL.p rfl rfl rfl (.s 8 rfl (.k .nil)) (q_addR rfl c89) <| WL.p rfl rfl rfl (.s 18 rfl .nil) (q_move rfl) <| WL.nil ?_
   exact next0 () (x8 + 1) _ h (.one rfl (.one rfl (.one rfl (.one rfl (.nil _)))))
 ·refine W.exit <| QX.then_ <| QX.then_ <| QX.here <| QN.then_ <| W.seq <| W.region <| WL.p rfl rfl rfl (.k .nil) (q_assign rfl) <| WL.nil <| QN.then_ <| W.ret ?_
  cases h
  exact QR.f1 rfl rfl (.t rfl) (.id _)
theorem slices_Contains_string.con (k : Nat) (a0 : (List Str)) (a1 : Str) (r : Bool) (h : slices_Contains_string k a0 a1 = some r) : Con Tryz.prog 144 [] [SlcA kStr a0, EqA (strV a1)] (RA (EqA (.bool r))) := by
 unfold slices_Contains_string at h
 refine Con.of (N := 9) Tryz.func144 rfl rfl rfl fun w0_ fg_ => W.seq <| W.region <| WL.p rfl rfl rfl (.k .nil) (q_assign rfl) <| WL.nil <| QN.then_ <| W.seq <| W.region <| WL.p rfl rfl rfl (.s 0 rfl .nil) (q_move rfl) <| WL.p rfl rfl rfl (.s 1 rfl .nil) (q_move rfl) ?_
 obtain ⟨t90, ht90, h⟩ := bind_s h
 refine WL.p rfl rfl rfl (.s 5 rfl (.s 6 rfl .nil)) (q_call (f := 163) (A := EqA (.int .i64 t90)) (xs := [.tmp 5, .tmp 6]) («as» := [SlcA kStr a0, EqA (strV a1)]) rfl ca163 (slices_Index_string.con k a0 a1 t90 ht90) rfl) <| WL.p rfl rfl rfl (.s 7 rfl (.k .nil)) (q_int rfl rfl) <| WL.p rfl rfl rfl (.s 8 rfl .nil) (q_assign rfl) <| WL.nil <| QN.then_ <| W.ret ?_
 cases h
 exact QR.f1 rfl rfl (.t rfl) (.id _)
theorem token_pair.con (k : Nat) (a0 : Str) (r : Bool) (h : token_pair k a0 = some r) : Con Tryz.prog 161 [] [EqA (strV a0)] (RA (EqA (.bool r))) := by
 unfold token_pair at h
 refine Con.of (N := 12) Tryz.func161 rfl rfl rfl fun w0_ fg_ => W.seq <| W.region <| WL.p rfl rfl rfl (.k .nil) (q_assign rfl) <| WL.nil <| QN.then_ <| W.seq ?_
 refine W.jn1 (Γ := Unit) (fun (_ : Unit) (x2 : Bool) => [(2, EqA (.bool x2))]) (fun (_ : Unit) (_ : Bool) => []) h (fun _ x2 h => ?_) (fun j95 Kj95 h => ?_)
 ·refine QN.then_ <| W.ret ?_
  cases h
  exact QR.f1 rfl rfl (.t rfl) (.id _)
 ·refine W.region <| WL.p rfl rfl rfl (.s 0 rfl .nil) (q_move rfl) <| WL.p rfl rfl rfl (.s 3 rfl .nil) (q_slen (s := a0) rfl iss9) <| WL.p rfl rfl rfl (.s 4 rfl (.k .nil)) (q_int rfl rfl) <| WL.p rfl rfl rfl (.s 5 rfl .nil) (q_move rfl) ?_
  rcases bif_s h with ⟨hb96, h⟩ | ⟨hb96, h⟩
  ·refine WL.q (Wanted.on rfl rfl rfl hb96) rfl rfl (.k (.k (.k (.k (.k .nil))))) (q_lit (kd := kStr) (ps := [(0, .const (.string ⟨#[45, 62]⟩)), (1, .const (.string ⟨#[60, 61]⟩)), (2, .const (.string ⟨#[62, 61]⟩)), (3, .const (.string ⟨#[61, 61]⟩)), (4, .const (.string ⟨#[33, 61]⟩))]) (xs := [.const (.string ⟨#[45, 62]⟩), .const (.string ⟨#[60, 61]⟩), .const (.string ⟨#[62, 61]⟩), .const (.string ⟨#[61, 61]⟩), .const (.string ⟨#[33, 61]⟩)]) («as» := [EqA (strV ([45, 62] : Str)), EqA (strV ([60, 61] : Str)), EqA (strV ([62, 61] : Str)), EqA (strV ([61, 61] : Str)), EqA (strV ([33, 61] : Str))]) (ys := [([45, 62] : Str), ([60, 61] : Str), ([62, 61] : Str), ([61, 61] : Str), ([33, 61] : Str)]) rfl rfl el89 rfl gr9 rfl rfl rfl (.cons (CellsOf.one rfl) (.cons (CellsOf.one rfl) (.cons (CellsOf.one rfl) (.cons (CellsOf.one rfl) (.cons (CellsOf.one rfl) .nil)))))).o <| WL.q (Wanted.on rfl rfl rfl hb96) rfl rfl (.s 0 rfl .nil) (q_move rfl).o ?_
   obtain ⟨c97, h⟩ := ite_n h
   refine WL.q (Wanted.on rfl rfl rfl hb96) rfl rfl (.s 8 rfl (.k .nil)) (q_ssubH rfl iss9 c97.1 c97.2).o ?_
   obtain ⟨t98, ht98, h⟩ := bind_s h
   refine WL.q (Wanted.on rfl rfl rfl hb96) rfl rfl (.s 7 rfl (.s 9 rfl .nil)) (q_call (f := 144) (A := EqA (.bool t98)) (xs := [.tmp 7, .tmp 9]) («as» := [SlcA kStr ([([45, 62] : Str), ([60, 61] : Str), ([62, 61] : Str), ([61, 61] : Str), ([33, 61] : Str)]), EqA (strV (a0.take (2 : Int).toNat))]) rfl ca144 (slices_Contains_string.con k ([([45, 62] : Str), ([60, 61] : Str), ([62, 61] : Str), ([61, 61] : Str), ([33, 61] : Str)]) (a0.take (2 : Int).toNat) t98 ht98) rfl).o <| WL.p rfl rfl rfl (.s 6 rfl (.s 10 rfl .nil)) (q_pickT rfl hb96) <| WL.p rfl rfl rfl (.s 11 rfl .nil) (q_assign rfl) <| WL.nil ?_
   exact QN.weaken (.one rfl (.nil _)) (Kj95 () t98 h)
  ·refine WL.skip (Unwanted.on rfl rfl rfl hb96) rfl rfl <| WL.skip (Unwanted.on rfl rfl rfl hb96) rfl rfl <| WL.skip (Unwanted.on rfl rfl rfl hb96) rfl rfl <| WL.skip (Unwanted.on rfl rfl rfl hb96) rfl rfl <| WL.p rfl rfl rfl (.s 6 rfl (.k .nil)) (q_pickF rfl hb96) <| WL.p rfl rfl rfl (.s 11 rfl .nil) (q_assign rfl) <| WL.nil ?_
   exact QN.weaken (.one rfl (.nil _)) (Kj95 () false h)
theorem TryzIdx : Extern.find Tryz.f167 = some Extern.BytealgIndexByte.indexByte := by kernel_rfl
theorem stringslite_IndexByte.con (k : Nat) (a0 : Str) (a1 : Int) (r : Int) (h : stringslite_IndexByte k a0 a1 = some r) : Con Tryz.prog 166 [] [EqA (strV a0), EqA (.int .u8 a1)] (RA (EqA (.int .i64 r))) := by
  unfold stringslite_IndexByte at h
  cases h
  refine Con.of (N := 8) Tryz.func166 rfl rfl rfl fun w0_ fg_ => ?_
  refine W.seq (W.region (WL.p rfl rfl rfl (.k .nil) (q_assign rfl) (WL.nil (QN.then_ ?_))))
  refine W.seq (W.region ?_)
  refine WL.p rfl rfl rfl (.s 0 rfl .nil) (q_move rfl) ?_
  refine WL.p rfl rfl rfl (.s 1 rfl .nil) (q_move rfl) ?_
  refine WL.p rfl rfl rfl (.s 5 rfl (.s 6 rfl .nil)) (q_indexByte (f := 167) rfl Tryz.func167 (by kernel_rfl) rfl (by kernel_rfl) TryzIdx) ?_
  refine WL.p rfl rfl rfl (.s 7 rfl .nil) (q_assign rfl) ?_
  refine WL.nil (QN.then_ ?_)
  exact W.ret (QR.f1 rfl rfl (.t rfl) (.id _))
theorem strings_IndexByte.con (k : Nat) (a0 : Str) (a1 : Int) (r : Int) (h : strings_IndexByte k a0 a1 = some r) : Con Tryz.prog 162 [] [EqA (strV a0), EqA (.int .u8 a1)] (RA (EqA (.int .i64 r))) := by
 unfold strings_IndexByte at h
 refine Con.of (N := 8) Tryz.func162 rfl rfl rfl fun w0_ fg_ => W.seq <| W.region <| WL.p rfl rfl rfl (.k .nil) (q_assign rfl) <| WL.nil <| QN.then_ <| W.seq <| W.region <| WL.p rfl rfl rfl (.s 0 rfl .nil) (q_move rfl) <| WL.p rfl rfl rfl (.s 1 rfl .nil) (q_move rfl) ?_
 obtain ⟨t99, ht99, h⟩ := bind_s h
 refine WL.p rfl rfl rfl (.s 5 rfl (.s 6 rfl .nil)) (q_call (f := 166) (A := EqA (.int .i64 t99)) (xs := [.tmp 5, .tmp 6]) («as» := [EqA (strV a0), EqA (.int .u8 a1)]) rfl ca166 (stringslite_IndexByte.con k a0 a1 t99 ht99) rfl) <| WL.p rfl rfl rfl (.s 7 rfl .nil) (q_assign rfl) <| WL.nil <| QN.then_ <| W.ret ?_
 cases h
 exact QR.f1 rfl rfl (.t rfl) (.id _)
theorem token_next.con (k : Nat) (a0 : Str) (r : (Int × Int × Int)) (h : token_next k a0 = some r) : Con Tryz.prog 142 [] [EqA (strV a0)] (RA (TupA [EqA (.int .i64 r.1), EqA (.int .i64 r.2.1), EqA (.int .i64 r.2.2)])) := by
 unfold token_next at h
 refine Con.of (N := 45) Tryz.func142 rfl rfl rfl fun w0_ fg_ => W.seq <| W.region <| WL.p rfl rfl rfl (.k .nil) (q_assign rfl) <| WL.p rfl rfl rfl (.k .nil) (q_assign rfl) <| WL.p rfl rfl rfl (.k .nil) (q_assign rfl) <| WL.nil <| QN.then_ <| W.seq <| W.region <| WL.p rfl rfl rfl (.s 0 rfl .nil) (q_move rfl) ?_
 obtain ⟨c100, h⟩ := ite_n h
 refine WL.p rfl rfl rfl (.s 10 rfl (.k .nil)) (q_sindex rfl iss9 c100.1 c100.2) <| WL.p rfl rfl rfl (.s 11 rfl .nil) (q_assign rfl) <| WL.nil <| QN.then_ <| W.seq <| W.block <| W.seq <| W.region <| WL.p rfl rfl rfl (.s 5 rfl .nil) (q_move rfl) ?_
 obtain ⟨t101, ht101, h⟩ := bind_s h
 refine WL.p rfl rfl rfl (.s 13 rfl .nil) (q_call (f := 156) (A := EqA (.bool t101)) (xs := [.tmp 13]) («as» := [EqA (.int .u8 (bt a0 0))]) rfl ca156 (token_letter.con k (bt a0 0) t101 ht101) rfl) <| WL.p rfl rfl rfl (.s 14 rfl .nil) (q_assign rfl) <| WL.nil <| QN.weaken (env' := [(12, _), (5, _), (0, _)]) (.one rfl (.one rfl (.one rfl (.nil _)))) <| QN.then_ ?_
 refine W.condP h rfl (fun hb102 h => ?_) (fun hb102 h => ?_)
 ·refine W.seq <| W.region <| WL.p rfl rfl rfl (.s 0 rfl .nil) (q_move rfl) ?_
  obtain ⟨t103, ht103, h⟩ := bind_s h
  refine WL.p rfl rfl rfl (.s 15 rfl (.f («as» := fun (x : Int) => [EqA (.int .u8 x)]) (res := fun (y : Bool) => EqA (.bool y)) (p := fun x => token_part k x) ca158 (fun x y hp => token_part.con k x y hp) .nil)) (q_call (f := 157) (A := EqA (.int .i64 t103)) (xs := [.tmp 15, .func 158]) («as» := [EqA (strV a0), FnA Tryz.prog (fun (x : Int) => [EqA (.int .u8 x)]) (fun (y : Bool) => EqA (.bool y)) (fun x => token_part k x)]) rfl ca157 (token_run.con k a0 (fun x => token_part k x) t103 ht103) rfl) <| WL.p rfl rfl rfl (.s 16 rfl .nil) (q_assign rfl) <| WL.nil <| QN.then_ <| W.seq <| W.seq <| W.region <| WL.p rfl rfl rfl (.s 6 rfl .nil) (q_move rfl) <| WL.p rfl rfl rfl (.s 17 rfl (.k .nil)) (q_int rfl rfl) <| WL.nil <| QN.then_ ?_
  refine W.condP h rfl (fun hb104 h => ?_) (fun hb104 h => ?_)
  ·refine W.seq <| W.region <| WL.p rfl rfl rfl (.k .nil) (q_assign rfl) <| WL.p rfl rfl rfl (.k .nil) (q_assign rfl) <| WL.p rfl rfl rfl (.k .nil) (q_assign rfl) <| WL.nil <| QN.weaken (env' := [(4, _), (3, _), (2, _)]) (.one rfl (.one rfl (.one rfl (.nil _)))) <| QN.then_ <| W.ret <| QR.then_ <| QR.block <| QR.then_ ?_
   cases h
   exact QR.f3 rfl rfl (.t rfl) (.t rfl) (.t rfl) (.id _)
  ·refine W.skip <| QN.weaken (env' := [(6, _)]) (.one rfl (.nil _)) <| QN.then_ <| W.seq <| W.region <| WL.p rfl rfl rfl (.s 6 rfl .nil) (q_move rfl) <| WL.p rfl rfl rfl (.k .nil) (q_assign rfl) <| WL.p rfl rfl rfl (.s 19 rfl .nil) (q_assign rfl) <| WL.p rfl rfl rfl (.k .nil) (q_assign rfl) <| WL.nil <| QN.then_ <| W.ret <| QR.block ?_
   refine QR.then_ ?_
   cases h
   exact QR.f3 rfl rfl (.t rfl) (.t rfl) (.t rfl) (.id _)
 ·refine W.seq <| W.region <| WL.p rfl rfl rfl (.s 5 rfl .nil) (q_move rfl) ?_
  obtain ⟨t105, ht105, h⟩ := bind_s h
  refine WL.p rfl rfl rfl (.s 21 rfl .nil) (q_call (f := 159) (A := EqA (.bool t105)) (xs := [.tmp 21]) («as» := [EqA (.int .u8 (bt a0 0))]) rfl ca159 (token_digit.con k (bt a0 0) t105 ht105) rfl) <| WL.p rfl rfl rfl (.s 22 rfl .nil) (q_assign rfl) <| WL.nil <| QN.then_ ?_
  refine W.condP h rfl (fun hb106 h => ?_) (fun hb106 h => ?_)
  ·refine W.seq <| W.region <| WL.p rfl rfl rfl (.s 0 rfl .nil) (q_move rfl) ?_
   obtain ⟨t107, ht107, h⟩ := bind_s h
   refine WL.p rfl rfl rfl (.s 23 rfl (.f («as» := fun (x : Int) => [EqA (.int .u8 x)]) (res := fun (y : Bool) => EqA (.bool y)) (p := fun x => token_digit k x) ca159 (fun x y hp => token_digit.con k x y hp) .nil)) (q_call (f := 157) (A := EqA (.int .i64 t107)) (xs := [.tmp 23, .func 159]) («as» := [EqA (strV a0), FnA Tryz.prog (fun (x : Int) => [EqA (.int .u8 x)]) (fun (y : Bool) => EqA (.bool y)) (fun x => token_digit k x)]) rfl ca157 (token_run.con k a0 (fun x => token_digit k x) t107 ht107) rfl) <| WL.p rfl rfl rfl (.s 24 rfl .nil) (q_assign rfl) <| WL.nil <| QN.weaken (env' := [(7, _)]) (.one rfl (.nil _)) <| QN.then_ <| W.seq <| W.seq <| W.region <| WL.p rfl rfl rfl (.s 7 rfl .nil) (q_move rfl) <| WL.p rfl rfl rfl (.s 25 rfl (.k .nil)) (q_int rfl rfl) <| WL.nil <| QN.then_ ?_
   refine W.condP h rfl (fun hb108 h => ?_) (fun hb108 h => ?_)
   ·refine W.seq <| W.region <| WL.p rfl rfl rfl (.k .nil) (q_assign rfl) <| WL.p rfl rfl rfl (.k .nil) (q_assign rfl) <| WL.p rfl rfl rfl (.k .nil) (q_assign rfl) <| WL.nil <| QN.then_ <| W.ret <| QR.then_ <| QR.block <| QR.then_ ?_
    cases h
    exact QR.f3 rfl rfl (.t rfl) (.t rfl) (.t rfl) (.id _)
   ·refine W.skip <| QN.then_ <| W.seq <| W.region <| WL.p rfl rfl rfl (.s 7 rfl .nil) (q_move rfl) <| WL.p rfl rfl rfl (.k .nil) (q_assign rfl) <| WL.p rfl rfl rfl (.s 27 rfl .nil) (q_assign rfl) <| WL.p rfl rfl rfl (.k .nil) (q_assign rfl) <| WL.nil <| QN.then_ <| W.ret <| QR.block <| QR.then_ ?_
    cases h
    exact QR.f3 rfl rfl (.t rfl) (.t rfl) (.t rfl) (.id _)
  ·refine W.seq <| W.region <| WL.p rfl rfl rfl (.s 5 rfl .nil) (q_move rfl) <| WL.p rfl rfl rfl (.s 29 rfl (.k .nil)) (q_int rfl rfl) <| WL.p rfl rfl rfl (.s 30 rfl .nil) (q_assign rfl) <| WL.nil <| QN.then_ ?_
   refine W.condP h rfl (fun hb109 h => ?_) (fun hb109 h => ?_)
   ·refine W.seq <| W.region <| WL.p rfl rfl rfl (.s 0 rfl .nil) (q_move rfl) ?_
    obtain ⟨t110, ht110, h⟩ := bind_s h
    refine WL.p rfl rfl rfl (.s 32 rfl .nil) (q_call (f := 160) (A := TupA [EqA (.int .i64 t110.1), EqA (.int .i64 t110.2)]) (xs := [.tmp 32]) («as» := [EqA (strV a0)]) rfl ca160 (token_quoted.con k a0 t110 ht110) rfl) <| WL.p rfl rfl rfl (.s 33 rfl .nil) (q_move rfl) <| WL.p rfl rfl rfl (.s 31 rfl .nil) (q_extract rfl rfl) <| WL.p rfl rfl rfl (.s 31 rfl .nil) (q_extract rfl rfl) <| WL.p rfl rfl rfl (.s 34 rfl .nil) (q_assign rfl) <| WL.p rfl rfl rfl (.s 35 rfl .nil) (q_assign rfl) <| WL.nil <| QN.weaken (env' := [(9, _), (8, _)]) (.one rfl (.one rfl (.nil _))) <| QN.then_ <| W.seq <| W.region <| WL.p rfl rfl rfl (.s 8 rfl .nil) (q_move rfl) <| WL.p rfl rfl rfl (.s 9 rfl .nil) (q_move rfl) ?_
    refine WL.p rfl rfl rfl (.k .nil) (q_assign rfl) <| WL.p rfl rfl rfl (.s 36 rfl .nil) (q_assign rfl) <| WL.p rfl rfl rfl (.s 37 rfl .nil) (q_assign rfl) <| WL.nil <| QN.then_ <| W.ret <| QR.block <| QR.then_ ?_
    cases h
    exact QR.f3 rfl rfl (.t rfl) (.t rfl) (.t rfl) (.id _)
   ·refine W.seq <| W.region <| WL.p rfl rfl rfl (.s 0 rfl .nil) (q_move rfl) ?_
    obtain ⟨t111, ht111, h⟩ := bind_s h
    refine WL.p rfl rfl rfl (.s 39 rfl .nil) (q_call (f := 161) (A := EqA (.bool t111)) (xs := [.tmp 39]) («as» := [EqA (strV a0)]) rfl ca161 (token_pair.con k a0 t111 ht111) rfl) <| WL.p rfl rfl rfl (.s 40 rfl .nil) (q_assign rfl) <| WL.nil <| QN.weaken (env' := [(38, _), (5, _)]) (.one rfl (.one rfl (.nil _))) <| QN.then_ ?_
    refine W.condP h rfl (fun hb112 h => ?_) (fun hb112 h => ?_)
    ·refine W.seq <| W.region <| WL.p rfl rfl rfl (.k .nil) (q_assign rfl) <| WL.p rfl rfl rfl (.k .nil) (q_assign rfl) <| WL.p rfl rfl rfl (.k .nil) (q_assign rfl) <| WL.nil <| QN.then_ <| W.ret <| QR.block <| QR.then_ ?_
     cases h
     exact QR.f3 rfl rfl (.t rfl) (.t rfl) (.t rfl) (.id _)
    ·refine W.seq <| W.region <| WL.p rfl rfl rfl (.s 5 rfl .nil) (q_move rfl) ?_
     obtain ⟨t113, ht113, h⟩ := bind_s h
     refine WL.p rfl rfl rfl (.k (.s 42 rfl .nil)) (q_call (f := 162) (A := EqA (.int .i64 t113)) (xs := [.const (.string ⟨#[123, 125, 40, 41, 91, 93, 44, 59, 58, 61, 43, 45, 42, 60, 62, 33, 38, 124, 46, 63]⟩), .tmp 42]) («as» := [EqA (strV ([123, 125, 40, 41, 91, 93, 44, 59, 58, 61, 43, 45, 42, 60, 62, 33, 38, 124, 46, 63] : Str)), EqA (.int .u8 (bt a0 0))]) rfl ca162 (strings_IndexByte.con k ([123, 125, 40, 41, 91, 93, 44, 59, 58, 61, 43, 45, 42, 60, 62, 33, 38, 124, 46, 63] : Str) (bt a0 0) t113 ht113) rfl) <| WL.p rfl rfl rfl (.s 43 rfl (.k .nil)) (q_int rfl rfl) <| WL.p rfl rfl rfl (.s 44 rfl .nil) (q_assign rfl) <| WL.nil <| QN.then_ ?_
     refine W.condP h rfl (fun hb114 h => ?_) (fun hb114 h => ?_)
     ·refine W.seq <| W.region <| WL.p rfl rfl rfl (.k .nil) (q_assign rfl) <| WL.p rfl rfl rfl (.k .nil) (q_assign rfl) <| WL.p rfl rfl rfl (.k .nil) (q_assign rfl) <| WL.nil <| QN.then_ <| W.ret <| QR.block <| QR.then_ ?_
      cases h
      exact QR.f3 rfl rfl (.t rfl) (.t rfl) (.t rfl) (.id _)
     ·refine W.skip <| QN.block <| QN.then_ <| W.seq <| W.region <| WL.p rfl rfl rfl (.k .nil) (q_assign rfl) <| WL.p rfl rfl rfl (.k .nil) (q_assign rfl) <| WL.p rfl rfl rfl (.k .nil) (q_assign rfl) <| WL.nil <| QN.then_ <| W.ret ?_
      cases h
      exact QR.f3 rfl rfl (.t rfl) (.t rfl) (.t rfl) (.id _)
theorem token_whole.con (k : Nat) (a0 : Token) (r : (Str × Bool)) (h : token_whole k a0 = some r) : Con Tryz.prog 121 [] [AggA [EqA (.int .i64 a0.fKind), EqA (strV a0.fText), EqA (.int .i64 a0.fLine)]] (RA (TupA [EqA (strV r.1), EqA (.bool r.2)])) := by
 unfold token_whole at h
 refine Con.of (N := 39) Tryz.func121 rfl rfl rfl fun w0_ fg_ => W.seq <| W.region <| WL.p rfl rfl rfl (.s 0 rfl .nil) (q_box rfl (CellsOf.agg _)) <| WL.p rfl rfl rfl (.k .nil) (q_assign rfl) <| WL.p rfl rfl rfl (.k .nil) (q_assign rfl) <| WL.nil <| QN.then_ <| W.seq <| W.region <| WL.p rfl rfl rfl (.s 1 rfl .nil) (q_field rfl fo150_1 rfl) <| WL.p rfl rfl rfl (.s 8 rfl .nil) (q_load rfl sh9) <| WL.p rfl rfl rfl (.s 9 rfl .nil) (q_assign rfl) ?_
 refine WL.nil <| QN.then_ <| W.seq <| W.seq <| W.region <| WL.p rfl rfl rfl (.s 1 rfl .nil) (q_field rfl fo150_0 rfl) <| WL.p rfl rfl rfl (.s 10 rfl .nil) (q_load rfl sh3) <| WL.p rfl rfl rfl (.s 11 rfl (.k .nil)) (q_int rfl rfl) <| WL.nil <| QN.weaken (env' := [(12, _), (4, _), (1, _)]) (.one rfl (.one rfl (.one rfl (.nil _)))) <| QN.then_ ?_
 refine W.jn1 (Γ := Unit) (fun (_ : Unit) (x4 : Str) => [(1, PtrA [EqA (.int .i64 a0.fKind), EqA (strV a0.fText), EqA (.int .i64 a0.fLine)]), (4, EqA (strV x4))]) (fun (_ : Unit) (_ : Str) => []) h (fun _ x4 h => ?_) (fun j119 Kj119 h => ?_)
 ·refine QN.then_ <| W.seq <| W.seq <| W.region <| WL.p rfl rfl rfl (.s 4 rfl .nil) (q_move rfl) <| WL.p rfl rfl rfl (.s 16 rfl (.k .nil)) (q_str (s := x4) (t := ([] : Str)) rfl) <| WL.nil <| QN.then_ ?_
  refine W.condP h rfl (fun hb120 h => ?_) (fun hb120 h => ?_)
  ·refine W.seq <| W.region <| WL.p rfl rfl rfl (.k .nil) (q_assign rfl) <| WL.p rfl rfl rfl (.k .nil) (q_assign rfl) <| WL.nil <| QN.then_ <| W.ret <| QR.then_ ?_
   cases h
   exact QR.f2 rfl rfl (.t rfl) (.t rfl) (.id _)
  ·refine W.skip <| QN.then_ <| W.seq <| W.region <| WL.p rfl rfl rfl (.s 4 rfl .nil) (q_move rfl) ?_
   obtain ⟨t121, ht121, h⟩ := bind_s h
   refine WL.p rfl rfl rfl (.s 19 rfl .nil) (q_call (f := 142) (A := TupA [EqA (.int .i64 t121.1), EqA (.int .i64 t121.2.1), EqA (.int .i64 t121.2.2)]) (xs := [.tmp 19]) («as» := [EqA (strV x4)]) rfl ca142 (token_next.con k x4 t121 ht121) rfl) <| WL.p rfl rfl rfl (.s 20 rfl .nil) (q_move rfl) <| WL.p rfl rfl rfl (.s 18 rfl .nil) (q_extract rfl rfl) <| WL.p rfl rfl rfl (.s 18 rfl .nil) (q_extract rfl rfl) <| WL.p rfl rfl rfl (.s 18 rfl .nil) (q_extract rfl rfl) <| WL.p rfl rfl rfl (.s 21 rfl .nil) (q_assign rfl) <| WL.p rfl rfl rfl (.s 22 rfl .nil) (q_assign rfl) <| WL.p rfl rfl rfl (.s 23 rfl .nil) (q_assign rfl) <| WL.nil <| QN.weaken (env' := [(7, _), (6, _), (5, _), (4, _), (1, _)]) (.one rfl (.one rfl (.one rfl (.one rfl (.one rfl (.nil _)))))) <| QN.then_ <| W.seq ?_
   refine W.jn1 (Γ := Unit) (fun (_ : Unit) (x3 : Bool) => [(2, EqA (strV x4)), (3, EqA (.bool x3))]) (fun (_ : Unit) (_ : Bool) => []) h (fun _ x3 h => ?_) (fun j125 Kj125 h => ?_)
   ·refine QN.then_ <| W.ret ?_
    cases h
    exact QR.f2 rfl rfl (.t rfl) (.t rfl) (.id _)
   ·refine W.region <| WL.p rfl rfl rfl (.s 4 rfl .nil) (q_move rfl) <| WL.p rfl rfl rfl (.s 7 rfl .nil) (q_move rfl) <| WL.p rfl rfl rfl (.s 25 rfl (.k .nil)) (q_int rfl rfl) <| WL.p rfl rfl rfl (.s 26 rfl .nil) (q_move rfl) ?_
    rcases bif_s h with ⟨hb126, h⟩ | ⟨hb126, h⟩
    ·refine WL.q (Wanted.on rfl rfl rfl hb126) rfl rfl (.s 5 rfl .nil) (q_move rfl).o <| WL.q (Wanted.on rfl rfl rfl hb126) rfl rfl (.s 1 rfl .nil) (q_field rfl fo150_0 rfl).o <| WL.q (Wanted.on rfl rfl rfl hb126) rfl rfl (.s 29 rfl .nil) (q_load rfl sh3).o <| WL.q (Wanted.on rfl rfl rfl hb126) rfl rfl (.s 28 rfl (.s 30 rfl .nil)) (q_int rfl rfl).o <| WL.p rfl rfl rfl (.s 27 rfl (.s 31 rfl .nil)) (q_pickT rfl hb126) <| WL.p rfl rfl rfl (.s 32 rfl .nil) (q_move rfl) ?_
     rcases bif_s h with ⟨hb127, h⟩ | ⟨hb127, h⟩
     ·refine WL.q (Wanted.on rfl rfl rfl hb127) rfl rfl (.s 6 rfl .nil) (q_move rfl).o <| WL.q (Wanted.on rfl rfl rfl hb127) rfl rfl (.s 4 rfl .nil) (q_move rfl).o <| WL.q (Wanted.on rfl rfl rfl hb127) rfl rfl (.s 35 rfl .nil) (q_slen (s := x4) rfl iss9).o <| WL.q (Wanted.on rfl rfl rfl hb127) rfl rfl (.s 34 rfl (.s 36 rfl .nil)) (q_int rfl rfl).o <| WL.p rfl rfl rfl (.s 33 rfl (.s 37 rfl .nil)) (q_pickT rfl hb127) <| WL.p rfl rfl rfl (.s 24 rfl .nil) (q_assign rfl) <| WL.p rfl rfl rfl (.s 38 rfl .nil) (q_assign rfl) <| WL.nil ?_
      exact QN.weaken (.one rfl (.one rfl (.nil _))) (Kj125 () (t121.2.1 == (x4.length : Int)) h)
     ·refine WL.skip (Unwanted.on rfl rfl rfl hb127) rfl rfl <| WL.skip (Unwanted.on rfl rfl rfl hb127) rfl rfl <| WL.skip (Unwanted.on rfl rfl rfl hb127) rfl rfl <| WL.skip (Unwanted.on rfl rfl rfl hb127) rfl rfl <| WL.p rfl rfl rfl (.s 33 rfl (.k .nil)) (q_pickF rfl hb127) <| WL.p rfl rfl rfl (.s 24 rfl .nil) (q_assign rfl) <| WL.p rfl rfl rfl (.s 38 rfl .nil) (q_assign rfl) <| WL.nil ?_
      exact QN.weaken (.one rfl (.one rfl (.nil _))) (Kj125 () false h)
    ·refine WL.skip (Unwanted.on rfl rfl rfl hb126) rfl rfl <| WL.skip (Unwanted.on rfl rfl rfl hb126) rfl rfl <| WL.skip (Unwanted.on rfl rfl rfl hb126) rfl rfl <| WL.skip (Unwanted.on rfl rfl rfl hb126) rfl rfl <| WL.p rfl rfl rfl (.s 27 rfl (.k .nil)) (q_pickF rfl hb126) <| WL.p rfl rfl rfl (.s 32 rfl .nil) (q_move rfl) <| WL.skip (Unwanted.on rfl rfl rfl rfl) rfl rfl <| WL.skip (Unwanted.on rfl rfl rfl rfl) rfl rfl <| WL.skip (Unwanted.on rfl rfl rfl rfl) rfl rfl <| WL.skip (Unwanted.on rfl rfl rfl rfl) rfl rfl <| WL.p rfl rfl rfl (.s 33 rfl (.k .nil)) (q_pickF rfl rfl) <| WL.p rfl rfl rfl (.s 24 rfl .nil) (q_assign rfl) <| WL.p rfl rfl rfl (.s 38 rfl .nil) (q_assign rfl) ?_
     refine WL.nil ?_
     exact QN.weaken (.one rfl (.one rfl (.nil _))) (Kj125 () false h)
 ·refine W.condP h rfl (fun hb128 h => ?_) (fun hb128 h => ?_)
  ·refine W.region <| WL.p rfl rfl rfl (.s 4 rfl .nil) (q_move rfl) ?_
   obtain ⟨c129, h⟩ := ite_n h
   refine WL.p rfl rfl rfl (.k (.s 13 rfl .nil)) (q_sadd (s := ([34] : Str)) (t := a0.fText) rfl c129) ?_
   obtain ⟨c130, h⟩ := ite_n h
   refine WL.p rfl rfl rfl (.s 14 rfl (.k .nil)) (q_sadd (s := (([34] : Str) ++ a0.fText)) (t := ([34] : Str)) rfl c130) <| WL.p rfl rfl rfl (.s 15 rfl .nil) (q_assign rfl) <| WL.nil ?_
   exact QN.weaken (.one rfl (.one rfl (.nil _))) (Kj119 () ((([34] : Str) ++ a0.fText) ++ ([34] : Str)) h)
  ·refine W.skip ?_
   exact QN.weaken (.one rfl (.one rfl (.nil _))) (Kj119 () a0.fText h)
theorem token_IsName.con (k : Nat) (a0 : Str) (r : Bool) (h : token_IsName k a0 = some r) : Con Tryz.prog 103 [] [EqA (strV a0)] (RA (EqA (.bool r))) := by
 unfold token_IsName at h
 refine Con.of (N := 12) Tryz.func103 rfl rfl rfl fun w0_ fg_ => W.seq <| W.region <| WL.p rfl rfl rfl (.k .nil) (q_assign rfl) <| WL.nil <| QN.then_ <| W.seq <| W.region <| WL.p rfl rfl rfl (.s 0 rfl .nil) (q_move rfl) <| WL.p rfl rfl rfl (.k (.s 6 rfl .nil)) (q_build (is := [0, 1]) (xs := [.const (.int .i64 1), .tmp 6]) (L := [EqA (.int .i64 1), EqA (strV a0), EqA (.int .i64 0)]) rfl rfl z150 pl150 rfl rfl (.cons (CellsOf.one rfl) (.cons (CellsOf.one rfl) .nil)) rfl) ?_
 obtain ⟨t131, ht131, h⟩ := bind_s h
 refine WL.p rfl rfl rfl (.s 7 rfl .nil) (q_call (f := 121) (A := TupA [EqA (strV t131.1), EqA (.bool t131.2)]) (xs := [.tmp 7]) («as» := [AggA [EqA (.int .i64 1), EqA (strV a0), EqA (.int .i64 0)]]) rfl ca121 (token_whole.con k (Token.mk 1 a0 0) t131 ht131) rfl) <| WL.p rfl rfl rfl (.s 8 rfl .nil) (q_move rfl) <| WL.p rfl rfl rfl (.s 5 rfl .nil) (q_extract rfl rfl) <| WL.p rfl rfl rfl (.s 5 rfl .nil) (q_extract rfl rfl) <| WL.p rfl rfl rfl (.s 9 rfl .nil) (q_assign rfl) <| WL.p rfl rfl rfl (.s 10 rfl .nil) (q_assign rfl) <| WL.nil <| QN.weaken (env' := [(4, _)]) (.one rfl (.nil _)) <| QN.then_ <| W.seq <| W.region <| WL.p rfl rfl rfl (.s 4 rfl .nil) (q_move rfl) <| WL.p rfl rfl rfl (.s 11 rfl .nil) (q_assign rfl) ?_
 refine WL.nil <| QN.then_ <| W.ret ?_
 cases h
 exact QR.f1 rfl rfl (.t rfl) (.id _)
theorem types_node_1.con (k : Nat) (a0 : NodeType) (a1 : NodeType) (r : Bool) (h : types_node_1 k a0 a1 = some r) : Con Tryz.prog 105 [] [AggA [EqA (strV a0.fName), EqA (.int .i64 a0.fParent), EqA (.bool a0.fAbstract), SlcA kAttr a0.fAttrs], PtrA [EqA (strV a1.fName), EqA (.int .i64 a1.fParent), EqA (.bool a1.fAbstract), SlcA kAttr a1.fAttrs]] (RA (EqA (.bool r))) := by
 unfold types_node_1 at h
 refine Con.of (N := 9) Tryz.func105 rfl rfl rfl fun w0_ fg_ => W.seq <| W.region <| WL.p rfl rfl rfl (.s 0 rfl .nil) (q_box rfl (CellsOf.agg _)) <| WL.p rfl rfl rfl (.k .nil) (q_assign rfl) <| WL.nil <| QN.then_ <| W.seq <| W.region <| WL.p rfl rfl rfl (.s 2 rfl .nil) (q_field rfl fo94_0 rfl) <| WL.p rfl rfl rfl (.s 4 rfl .nil) (q_load rfl sh9) <| WL.p rfl rfl rfl (.s 1 rfl .nil) (q_field rfl fo94_0 rfl) <| WL.p rfl rfl rfl (.s 6 rfl .nil) (q_load rfl sh9) ?_
 refine WL.p rfl rfl rfl (.s 5 rfl (.s 7 rfl .nil)) (q_str (s := a0.fName) (t := a1.fName) rfl) <| WL.p rfl rfl rfl (.s 8 rfl .nil) (q_assign rfl) <| WL.nil <| QN.weaken (env' := [(3, _)]) (.one rfl (.nil _)) <| QN.then_ <| W.ret ?_
 cases h
 exact QR.f1 rfl rfl (.t rfl) (.id _)
theorem slices_IndexFunc_NodeType.con (k : Nat) (a0 : (List NodeType)) (a1 : (NodeType → Option Bool)) (r : Int) (h : slices_IndexFunc_NodeType k a0 a1 = some r) : Con Tryz.prog 122 [] [SlcA kNodeType a0, FnA Tryz.prog (fun (x : NodeType) => [AggA [EqA (strV x.fName), EqA (.int .i64 x.fParent), EqA (.bool x.fAbstract), SlcA kAttr x.fAttrs]]) (fun (y : Bool) => EqA (.bool y)) a1] (RA (EqA (.int .i64 r))) := by
 unfold slices_IndexFunc_NodeType at h
 refine Con.of (N := 19) Tryz.func122 rfl rfl rfl fun w0_ fg_ => W.seq <| W.region <| WL.p rfl rfl rfl (.k .nil) (q_assign rfl) <| WL.nil <| QN.then_ <| W.seq <| W.seq <| W.region <| WL.p rfl rfl rfl (.s 0 rfl .nil) (q_move rfl) <| WL.p rfl rfl rfl (.s 6 rfl .nil) (q_len rfl elS22) <| WL.p rfl rfl rfl (.k .nil) (q_move rfl) <| WL.nil ?_
 refine QN.then_ <| W.block ?_
 refine W.loop1 (Γ := Unit) (fun (_ : Unit) (x8 : Int) => [(0, SlcA kNodeType a0), (1, FnA Tryz.prog (fun (x : NodeType) => [AggA [EqA (strV x.fName), EqA (.int .i64 x.fParent), EqA (.bool x.fAbstract), SlcA kAttr x.fAttrs]]) (fun (y : Bool) => EqA (.bool y)) a1), (7, EqA (.int .i64 (a0.length : Int))), (8, EqA (.int .i64 x8))]) (fun (_ : Unit) (_ : Int) => []) h () (.one rfl (.one rfl (.one rfl (.one rfl (.nil _))))) rfl (fun rec0 K0 next0 _ x8 h => ?_)
 unfold slices_IndexFunc_NodeType.b0 at h
 refine W.seq <| W.region <| WL.p rfl rfl rfl (.s 8 rfl (.s 7 rfl .nil)) (q_int rfl rfl) <| WL.nil <| QN.then_ <| W.seq ?_
 refine W.condP h rfl (fun hb142 h => ?_) (fun hb142 h => ?_)
 ·refine W.skip <| QN.then_ <| W.seq <| W.block <| W.seq <| W.region <| WL.p rfl rfl rfl (.s 8 rfl .nil) (q_move rfl) <| WL.p rfl rfl rfl (.s 10 rfl .nil) (q_assign rfl) <| WL.nil <| QN.then_ <| W.seq <| W.region <| WL.p rfl rfl rfl (.s 1 rfl .nil) (q_move rfl) ?_
  refine WL.p rfl rfl rfl (.s 0 rfl .nil) (q_move rfl) <| WL.p rfl rfl rfl (.s 5 rfl .nil) (q_move rfl) ?_
  obtain ⟨c143, h⟩ := ite_n h
  refine WL.p rfl rfl rfl (.s 12 rfl (.s 13 rfl .nil)) (q_index rfl el22 rfl c143.1 c143.2) <| WL.p rfl rfl rfl (.s 14 rfl .nil) (q_loadS rfl sh94 (leB rfl) rfl) ?_
  obtain ⟨t144, ht144, h⟩ := bind_s h
  refine WL.p rfl rfl rfl (.s 11 rfl (.s 15 rfl .nil)) (q_callV («as» := fun (x : NodeType) => [AggA [EqA (strV x.fName), EqA (.int .i64 x.fParent), EqA (.bool x.fAbstract), SlcA kAttr x.fAttrs]]) (res := fun (y : Bool) => EqA (.bool y)) (x := (rd a0 x8)) (y := t144) (xs := [.tmp 15]) rfl ht144 rfl) <| WL.nil <| QN.weaken (env' := [(16, _), (5, _), (8, _), (7, _), (1, _), (0, _)]) (.one rfl (.one rfl (.one rfl (.one rfl (.one rfl (.one rfl (.nil _))))))) <| QN.then_ ?_
  refine W.condP h rfl (fun hb145 h => ?_) (fun hb145 h => ?_)
  ·refine W.seq <| W.region <| WL.p rfl rfl rfl (.s 5 rfl .nil) (q_move rfl) <| WL.p rfl rfl rfl (.s 17 rfl .nil) (q_assign rfl) <| WL.nil <| QN.weaken (env' := [(4, _)]) (.one rfl (.nil _)) <| QN.then_ <| W.ret <| QR.block <| QR.then_ <| QR.then_ <| QR.block <| QR.then_ ?_
   cases h
   exact QR.f1 rfl rfl (.t rfl) (.id _)
  ·refine W.skip <| QN.block <| QN.then_ <| W.region ?_
   obtain ⟨c146, h⟩ := ite_n h
   refine WL.p rfl rfl rfl (.s 8 rfl (.k .nil)) (q_addR rfl c146) <| WL.p rfl rfl rfl (.s 18 rfl .nil) (q_move rfl) <| WL.nil ?_
   exact next0 () (x8 + 1) _ h (.one rfl (.one rfl (.one rfl (.one rfl (.nil _)))))
 ·refine W.exit <| QX.then_ <| QX.then_ <| QX.here <| QN.then_ <| W.seq <| W.region <| WL.p rfl rfl rfl (.k .nil) (q_assign rfl) <| WL.nil <| QN.then_ <| W.ret ?_
  cases h
  exact QR.f1 rfl rfl (.t rfl) (.id _)
end Go.Proofs.YtelpgjfojhcjcaaGreat
