/- The Go functions compute the pure ones. (Printed by gen.py.) -/
import Derived.Test.YtelpgjfojhcjcaaGreatC7
namespace Go.Proofs.YtelpgjfojhcjcaaGreat
open Go Go.Abs
attribute [local irreducible] Tryz.prog
theorem ref04_bound.con (k : Nat) (a0 : Int) (a1 : Int) (r : Bool) (h : ref04_bound k a0 a1 = some r) : Con Tryz.prog 102 [] [EqA (.int .i64 a0), EqA (.int .i64 a1)] (RA (EqA (.bool r))) := by
 unfold ref04_bound at h
 refine Con.of (N := 16) Tryz.func102 rfl rfl rfl fun w0_ fg_ => W.seq <| W.region <| WL.p rfl rfl rfl (.k .nil) (q_assign rfl) <| WL.nil <| QN.then_ <| W.seq ?_
 refine W.jn1 (Γ := Unit) (fun (_ : Unit) (x4 : Bool) => [(4, EqA (.bool x4))]) (fun (_ : Unit) (_ : Bool) => []) h (fun _ x4 h => ?_) (fun j5740 Kj5740 h => ?_)
 ·refine QN.then_ <| W.ret ?_
  cases h
  exact QR.f1 rfl rfl (.t rfl) (.id _)
 ·refine W.region <| WL.p rfl rfl rfl (.s 0 rfl .nil) (q_move rfl) ?_
  obtain ⟨t5741, ht5741, h⟩ := bind_s h
  refine WL.p rfl rfl rfl (.s 5 rfl (.k (.k .nil))) (q_call (f := 99) (A := EqA (.bool t5741)) (xs := [.tmp 5, .const (.int .i64 0), .const (.int .i64 40)]) («as» := [EqA (.int .i64 a0), EqA (.int .i64 0), EqA (.int .i64 40)]) rfl ca99 (ref04_in.con k a0 0 40 t5741 ht5741) rfl) <| WL.p rfl rfl rfl (.s 6 rfl .nil) (q_move rfl) ?_
  rcases bif_s h with ⟨hb5742, h⟩ | ⟨hb5742, h⟩
  ·refine WL.q (Wanted.on rfl rfl rfl hb5742) rfl rfl (.s 1 rfl .nil) (q_move rfl).o <| WL.q (Wanted.on rfl rfl rfl hb5742) rfl rfl (.s 8 rfl (.k .nil)) (q_int rfl rfl).o <| WL.q (Wanted.on rfl rfl rfl hb5742) rfl rfl (.s 9 rfl .nil) (q_move rfl).o ?_
   rcases bif_s h with ⟨hb5743, h⟩ | ⟨hb5743, h⟩
   ·refine WL.skip (Unwanted.on rfl rfl rfl hb5743) rfl rfl <| WL.skip (Unwanted.on rfl rfl rfl hb5743) rfl rfl <| WL.skip (Unwanted.on rfl rfl rfl hb5743) rfl rfl <| WL.q (Wanted.on rfl rfl rfl hb5742) rfl rfl (.s 10 rfl (.k .nil)) (q_pickT rfl hb5743).o <| WL.p rfl rfl rfl (.s 7 rfl (.s 14 rfl .nil)) (q_pickT rfl hb5742) <| WL.p rfl rfl rfl (.s 15 rfl .nil) (q_assign rfl) <| WL.nil ?_
    exact QN.weaken (.one rfl (.nil _)) (Kj5740 () true h)
   ·refine WL.q (Wanted.on rfl rfl rfl hb5743) rfl rfl (.s 1 rfl .nil) (q_move rfl).o <| WL.q (Wanted.on rfl rfl rfl hb5743) rfl rfl (.s 0 rfl .nil) (q_move rfl).o ?_
    obtain ⟨t5744, ht5744, h⟩ := bind_s h
    refine WL.q (Wanted.on rfl rfl rfl hb5743) rfl rfl (.s 11 rfl (.s 12 rfl (.k .nil))) (q_call (f := 99) (A := EqA (.bool t5744)) (xs := [.tmp 11, .tmp 12, .const (.int .i64 40)]) («as» := [EqA (.int .i64 a1), EqA (.int .i64 a0), EqA (.int .i64 40)]) rfl ca99 (ref04_in.con k a1 a0 40 t5744 ht5744) rfl).o <| WL.q (Wanted.on rfl rfl rfl hb5742) rfl rfl (.s 10 rfl (.s 13 rfl .nil)) (q_pickF rfl hb5743).o <| WL.p rfl rfl rfl (.s 7 rfl (.s 14 rfl .nil)) (q_pickT rfl hb5742) <| WL.p rfl rfl rfl (.s 15 rfl .nil) (q_assign rfl) <| WL.nil ?_
    exact QN.weaken (.one rfl (.nil _)) (Kj5740 () t5744 h)
  ·refine WL.skip (Unwanted.on rfl rfl rfl hb5742) rfl rfl <| WL.skip (Unwanted.on rfl rfl rfl hb5742) rfl rfl <| WL.skip (Unwanted.on rfl rfl rfl hb5742) rfl rfl <| WL.skip (Unwanted.und rfl rfl rfl) rfl rfl <| WL.skip (Unwanted.und rfl rfl rfl) rfl rfl <| WL.skip (Unwanted.und rfl rfl rfl) rfl rfl <| WL.skip (Unwanted.on rfl rfl rfl hb5742) rfl rfl <| WL.p rfl rfl rfl (.s 7 rfl (.k .nil)) (q_pickF rfl hb5742) <| WL.p rfl rfl rfl (.s 15 rfl .nil) (q_assign rfl) <| WL.nil ?_
   exact QN.weaken (.one rfl (.nil _)) (Kj5740 () false h)
theorem ref04_edge.con (k : Nat) (a0 : Types) (a1 : Int) (r : Int) (h : ref04_edge k a0 a1 = some r) : Con Tryz.prog 75 [] [AggA [SlcA kNodeType a0.fNodes, SlcA kEdgeType a0.fEdges], EqA (.int .i64 a1)] (RA (EqA (.int .i64 r))) := by
 unfold ref04_edge at h
 refine Con.of (N := 63) Tryz.func75 rfl rfl rfl fun w0_ fg_ => W.seq <| W.region <| WL.p rfl rfl rfl (.s 0 rfl .nil) (q_box rfl (CellsOf.agg _)) <| WL.p rfl rfl rfl (.k .nil) (q_assign rfl) <| WL.nil <| QN.then_ <| W.seq <| W.region <| WL.p rfl rfl rfl (.s 2 rfl .nil) (q_field rfl fo25_1 rfl) <| WL.p rfl rfl rfl (.s 8 rfl .nil) (q_load rfl sh23) <| WL.p rfl rfl rfl (.s 1 rfl .nil) (q_move rfl) ?_
 obtain ⟨c5745, h⟩ := ite_n h
 refine WL.p rfl rfl rfl (.s 9 rfl (.s 10 rfl .nil)) (q_index rfl el23 rfl c5745.1 c5745.2) <| WL.p rfl rfl rfl (.s 11 rfl .nil) (q_loadS rfl sh96 (leB rfl) rfl) <| WL.w [] rfl (Wanted.plain rfl) rfl rfl .nil (w_alloc rfl z96 (l := [EqA (strV ([] : Str)), EqA (.int .i64 0), EqA (.int .i64 0), EqA (.int .i64 0), EqA (.int .i64 0), EqA (.int .i64 0), EqA (.int .i64 0)]) rfl) ?_
 rintro _ _ ⟨b5746, rfl, rfl⟩
 refine WL.w0 [0] rfl (Wanted.plain rfl) rfl (.s 5 rfl (.s 12 rfl .nil)) (w_store (L := [EqA (strV ((rd a0.fEdges a1).fName)), EqA (.int .i64 ((rd a0.fEdges a1).fFrom)), EqA (.int .i64 ((rd a0.fEdges a1).fTo)), EqA (.int .i64 ((rd a0.fEdges a1).fOutLow)), EqA (.int .i64 ((rd a0.fEdges a1).fOutHigh)), EqA (.int .i64 ((rd a0.fEdges a1).fInLow)), EqA (.int .i64 ((rd a0.fEdges a1).fInHigh))]) rfl sh96 (CellsOf.agg _) rfl rfl (leB rfl) rfl) ?_
 rintro _ _ ⟨rfl, rfl⟩
 refine WL.nil <| QN.to (StTo.still [0] 5 rfl rfl) <| QN.weaken (env' := [(5, _), (2, _), (1, _)]) (.one rfl (.one rfl (.one rfl (.nil _)))) <| QN.then_ <| W.seq <| W.seq <| W.region <| WL.p rfl rfl rfl (.s 5 rfl .nil) (q_field rfl fo96_0 rfl) <| WL.p rfl rfl rfl (.s 13 rfl .nil) (q_load rfl sh9) ?_
 obtain ⟨t5747, ht5747, h⟩ := bind_s h
 refine WL.p rfl rfl rfl (.s 14 rfl .nil) (q_call (f := 98) (A := EqA (.bool t5747)) (xs := [.tmp 14]) («as» := [EqA (strV ((rd a0.fEdges a1).fName))]) rfl ca98 (ref01_IsName.con k ((rd a0.fEdges a1).fName) t5747 ht5747) rfl) <| WL.p rfl rfl rfl (.s 15 rfl .nil) (q_not rfl) <| WL.nil <| QN.then_ ?_
 refine W.condP h rfl (fun hb5748 h => ?_) (fun hb5748 h => ?_)
 ·refine W.seq <| W.region <| WL.p rfl rfl rfl (.k .nil) (q_assign rfl) <| WL.nil <| QN.weaken (env' := [(4, _)]) (.one rfl (.nil _)) <| QN.then_ <| W.ret <| QR.then_ ?_
  cases h
  exact QR.f1 rfl rfl (.t rfl) (.id _)
 ·refine W.skip <| QN.then_ <| W.seq <| W.seq <| W.region <| WL.p rfl rfl rfl (.k .nil) (q_assign rfl) <| WL.nil <| QN.then_ <| W.block ?_
  refine W.loop1 (Γ := Unit) (fun (_ : Unit) (x6 : Int) => [(1, EqA (.int .i64 a1)), (2, PtrA [SlcA kNodeType a0.fNodes, SlcA kEdgeType a0.fEdges]), (5, PtrA [EqA (strV ((rd a0.fEdges a1).fName)), EqA (.int .i64 ((rd a0.fEdges a1).fFrom)), EqA (.int .i64 ((rd a0.fEdges a1).fTo)), EqA (.int .i64 ((rd a0.fEdges a1).fOutLow)), EqA (.int .i64 ((rd a0.fEdges a1).fOutHigh)), EqA (.int .i64 ((rd a0.fEdges a1).fInLow)), EqA (.int .i64 ((rd a0.fEdges a1).fInHigh))]), (6, EqA (.int .i64 x6))]) (fun (_ : Unit) (_ : Int) => []) h () (.one rfl (.one rfl (.one rfl (.one rfl (.nil _))))) rfl (fun rec0 K0 next0 _ x6 h => ?_)
  unfold ref04_edge.b0 at h
  refine W.seq <| W.seq <| W.region <| WL.p rfl rfl rfl (.s 6 rfl .nil) (q_move rfl) <| WL.p rfl rfl rfl (.s 1 rfl .nil) (q_move rfl) <| WL.p rfl rfl rfl (.s 17 rfl (.s 18 rfl .nil)) (q_int rfl rfl) <| WL.nil <| QN.then_ ?_
  refine W.condP h rfl (fun hb5797 h => ?_) (fun hb5797 h => ?_)
  ·refine W.skip <| QN.then_ <| W.seq <| W.block <| W.seq <| W.drawK [(0, false), (1, false), (2, false), (3, false), (4, false), (5, false), (6, false), (7, false), (8, false)] [] [[], [0], [], [0, 1, 2], [0, 1, 2, 3], [0, 1, 2, 3, 4], [], [6], [0, 1, 2, 3, 4, 5, 6, 7]] mx (by kernel_rfl) <| DK.cons rfl rfl (.p rfl (.s 2 rfl .nil) rfl (q_field rfl fo25_1 rfl)) <| DK.cons rfl rfl (.p rfl (.s 22 rfl .nil) rfl (q_load rfl sh23)) <| DK.cons rfl rfl (.p rfl (.s 6 rfl .nil) rfl (q_move rfl)) ?_
   obtain ⟨c5800, h⟩ := ite_n h
   refine DK.cons rfl rfl (.p rfl (.s 23 rfl (.s 24 rfl .nil)) rfl (q_index rfl el23 rfl c5800.1 c5800.2)) <| DK.cons rfl rfl (.p rfl (.s 25 rfl .nil) rfl (q_field rfl fo96_0 rfl)) <| DK.cons rfl rfl (.p rfl (.s 26 rfl .nil) rfl (q_load rfl sh9)) <| DK.cons rfl rfl (.p rfl (.s 5 rfl .nil) rfl (q_field rfl fo96_0 rfl)) <| DK.cons rfl rfl (.p rfl (.s 28 rfl .nil) rfl (q_load rfl sh9)) <| DK.cons rfl rfl (.p rfl (.s 27 rfl (.s 29 rfl .nil)) rfl (q_str (s := (rd a0.fEdges x6).fName) (t := (rd a0.fEdges a1).fName) rfl)) <| DK.nil <| CSteps.nil <| QN.weaken (env' := [(30, _), (6, _), (5, _), (2, _), (1, _)]) (.one rfl (.one rfl (.one rfl (.one rfl (.one rfl (.nil _)))))) <| QN.then_ ?_
   refine W.condP h rfl (fun hb5801 h => ?_) (fun hb5801 h => ?_)
   ·refine W.seq <| W.region <| WL.p rfl rfl rfl (.k .nil) (q_assign rfl) <| WL.nil <| QN.then_ <| W.ret <| QR.block <| QR.then_ <| QR.then_ <| QR.block <| QR.then_ ?_
    cases h
    exact QR.f1 rfl rfl (.t rfl) (.id _)
   ·refine W.skip <| QN.block <| QN.then_ <| W.region <| WL.p rfl rfl rfl (.s 6 rfl .nil) (q_move rfl) ?_
    obtain ⟨c5802, h⟩ := ite_n h
    refine WL.p rfl rfl rfl (.s 20 rfl (.k .nil)) (q_addR rfl c5802) <| WL.p rfl rfl rfl (.s 21 rfl .nil) (q_assign rfl) <| WL.nil ?_
    exact next0 () (x6 + 1) _ h (.one rfl (.one rfl (.one rfl (.one rfl (.nil _)))))
  ·refine W.exit <| QX.then_ <| QX.then_ <| QX.here <| QN.then_ <| W.seq <| W.region <| WL.p rfl rfl rfl (.s 2 rfl .nil) (q_field rfl fo25_0 rfl) <| WL.p rfl rfl rfl (.s 31 rfl .nil) (q_load rfl sh22) <| WL.p rfl rfl rfl (.s 32 rfl .nil) (q_len rfl elS22) ?_
   obtain ⟨c5803, h⟩ := ite_n h
   refine WL.p rfl rfl rfl (.s 33 rfl (.k .nil)) (q_subR rfl c5803) <| WL.p rfl rfl rfl (.s 34 rfl .nil) (q_assign rfl) <| WL.nil <| QN.weaken (env' := [(7, _), (5, _)]) (.one rfl (.one rfl (.nil _))) <| QN.then_ <| W.seq <| W.seq ?_
   refine W.jn1 (Γ := Unit) (fun (_ : Unit) (x62 : Bool) => [(62, EqA (.bool x62))]) (fun (_ : Unit) (_ : Bool) => []) h (fun _ x62 h => ?_) (fun j5812 Kj5812 h => ?_)
   ·refine QN.then_ ?_
    refine W.condP h rfl (fun hb5813 h => ?_) (fun hb5813 h => ?_)
    ·refine W.seq <| W.region <| WL.p rfl rfl rfl (.k .nil) (q_assign rfl) <| WL.nil <| QN.then_ <| W.ret <| QR.then_ ?_
     cases h
     exact QR.f1 rfl rfl (.t rfl) (.id _)
    ·refine W.skip <| QN.then_ <| W.seq <| W.region <| WL.p rfl rfl rfl (.k .nil) (q_assign rfl) <| WL.nil <| QN.then_ <| W.ret ?_
     cases h
     exact QR.f1 rfl rfl (.t rfl) (.id _)
   ·refine W.region <| WL.p rfl rfl rfl (.s 5 rfl .nil) (q_field rfl fo96_1 rfl) <| WL.p rfl rfl rfl (.s 35 rfl .nil) (q_load rfl sh3) <| WL.p rfl rfl rfl (.s 7 rfl .nil) (q_move rfl) ?_
    obtain ⟨t5814, ht5814, h⟩ := bind_s h
    refine WL.p rfl rfl rfl (.s 36 rfl (.k (.s 37 rfl .nil))) (q_call (f := 99) (A := EqA (.bool t5814)) (xs := [.tmp 36, .const (.int .i64 0), .tmp 37]) («as» := [EqA (.int .i64 ((rd a0.fEdges a1).fFrom)), EqA (.int .i64 0), EqA (.int .i64 ((a0.fNodes.length : Int) - 1))]) rfl ca99 (ref04_in.con k ((rd a0.fEdges a1).fFrom) 0 ((a0.fNodes.length : Int) - 1) t5814 ht5814) rfl) <| WL.p rfl rfl rfl (.s 38 rfl .nil) (q_not rfl) <| WL.p rfl rfl rfl (.s 39 rfl .nil) (q_move rfl) ?_
    rcases bif_s h with ⟨hb5815, h⟩ | ⟨hb5815, h⟩
    ·refine WL.skip (Unwanted.on rfl rfl rfl hb5815) rfl rfl <| WL.skip (Unwanted.on rfl rfl rfl hb5815) rfl rfl <| WL.skip (Unwanted.on rfl rfl rfl hb5815) rfl rfl <| WL.skip (Unwanted.on rfl rfl rfl hb5815) rfl rfl <| WL.skip (Unwanted.on rfl rfl rfl hb5815) rfl rfl <| WL.p rfl rfl rfl (.s 40 rfl (.k .nil)) (q_pickT rfl hb5815) <| WL.p rfl rfl rfl (.s 46 rfl .nil) (q_move rfl) <| WL.skip (Unwanted.on rfl rfl rfl rfl) rfl rfl <| WL.skip (Unwanted.on rfl rfl rfl rfl) rfl rfl <| WL.skip (Unwanted.on rfl rfl rfl rfl) rfl rfl <| WL.skip (Unwanted.on rfl rfl rfl rfl) rfl rfl <| WL.skip (Unwanted.on rfl rfl rfl rfl) rfl rfl <| WL.skip (Unwanted.on rfl rfl rfl rfl) rfl rfl ?_
     refine WL.p rfl rfl rfl (.s 47 rfl (.k .nil)) (q_pickT rfl rfl) <| WL.p rfl rfl rfl (.s 54 rfl .nil) (q_move rfl) <| WL.skip (Unwanted.on rfl rfl rfl rfl) rfl rfl <| WL.skip (Unwanted.on rfl rfl rfl rfl) rfl rfl <| WL.skip (Unwanted.on rfl rfl rfl rfl) rfl rfl <| WL.skip (Unwanted.on rfl rfl rfl rfl) rfl rfl <| WL.skip (Unwanted.on rfl rfl rfl rfl) rfl rfl <| WL.skip (Unwanted.on rfl rfl rfl rfl) rfl rfl <| WL.p rfl rfl rfl (.s 55 rfl (.k .nil)) (q_pickT rfl rfl) <| WL.nil ?_
     exact QN.weaken (.one rfl (.nil _)) (Kj5812 () true h)
    ·refine WL.q (Wanted.on rfl rfl rfl hb5815) rfl rfl (.s 5 rfl .nil) (q_field rfl fo96_2 rfl).o <| WL.q (Wanted.on rfl rfl rfl hb5815) rfl rfl (.s 41 rfl .nil) (q_load rfl sh3).o <| WL.q (Wanted.on rfl rfl rfl hb5815) rfl rfl (.s 7 rfl .nil) (q_move rfl).o ?_
     obtain ⟨t5816, ht5816, h⟩ := bind_s h
     refine WL.q (Wanted.on rfl rfl rfl hb5815) rfl rfl (.s 42 rfl (.k (.s 43 rfl .nil))) (q_call (f := 99) (A := EqA (.bool t5816)) (xs := [.tmp 42, .const (.int .i64 0), .tmp 43]) («as» := [EqA (.int .i64 ((rd a0.fEdges a1).fTo)), EqA (.int .i64 0), EqA (.int .i64 ((a0.fNodes.length : Int) - 1))]) rfl ca99 (ref04_in.con k ((rd a0.fEdges a1).fTo) 0 ((a0.fNodes.length : Int) - 1) t5816 ht5816) rfl).o <| WL.q (Wanted.on rfl rfl rfl hb5815) rfl rfl (.s 44 rfl .nil) (q_not rfl).o <| WL.p rfl rfl rfl (.s 40 rfl (.s 45 rfl .nil)) (q_pickF rfl hb5815) <| WL.p rfl rfl rfl (.s 46 rfl .nil) (q_move rfl) ?_
     rcases bif_s h with ⟨hb5817, h⟩ | ⟨hb5817, h⟩
     ·refine WL.skip (Unwanted.on rfl rfl rfl hb5817) rfl rfl <| WL.skip (Unwanted.on rfl rfl rfl hb5817) rfl rfl <| WL.skip (Unwanted.on rfl rfl rfl hb5817) rfl rfl <| WL.skip (Unwanted.on rfl rfl rfl hb5817) rfl rfl <| WL.skip (Unwanted.on rfl rfl rfl hb5817) rfl rfl <| WL.skip (Unwanted.on rfl rfl rfl hb5817) rfl rfl <| WL.p rfl rfl rfl (.s 47 rfl (.k .nil)) (q_pickT rfl hb5817) <| WL.p rfl rfl rfl (.s 54 rfl .nil) (q_move rfl) <| WL.skip (Unwanted.on rfl rfl rfl rfl) rfl rfl <| WL.skip (Unwanted.on rfl rfl rfl rfl) rfl rfl <| WL.skip (Unwanted.on rfl rfl rfl rfl) rfl rfl <| WL.skip (Unwanted.on rfl rfl rfl rfl) rfl rfl <| WL.skip (Unwanted.on rfl rfl rfl rfl) rfl rfl ?_
      refine WL.skip (Unwanted.on rfl rfl rfl rfl) rfl rfl <| WL.p rfl rfl rfl (.s 55 rfl (.k .nil)) (q_pickT rfl rfl) <| WL.nil ?_
      exact QN.weaken (.one rfl (.nil _)) (Kj5812 () true h)
     ·refine WL.q (Wanted.on rfl rfl rfl hb5817) rfl rfl (.s 5 rfl .nil) (q_field rfl fo96_3 rfl).o <| WL.q (Wanted.on rfl rfl rfl hb5817) rfl rfl (.s 48 rfl .nil) (q_load rfl sh3).o <| WL.q (Wanted.on rfl rfl rfl hb5817) rfl rfl (.s 5 rfl .nil) (q_field rfl fo96_4 rfl).o <| WL.q (Wanted.on rfl rfl rfl hb5817) rfl rfl (.s 50 rfl .nil) (q_load rfl sh3).o ?_
      obtain ⟨t5818, ht5818, h⟩ := bind_s h
      refine WL.q (Wanted.on rfl rfl rfl hb5817) rfl rfl (.s 49 rfl (.s 51 rfl .nil)) (q_call (f := 102) (A := EqA (.bool t5818)) (xs := [.tmp 49, .tmp 51]) («as» := [EqA (.int .i64 ((rd a0.fEdges a1).fOutLow)), EqA (.int .i64 ((rd a0.fEdges a1).fOutHigh))]) rfl ca102 (ref04_bound.con k ((rd a0.fEdges a1).fOutLow) ((rd a0.fEdges a1).fOutHigh) t5818 ht5818) rfl).o <| WL.q (Wanted.on rfl rfl rfl hb5817) rfl rfl (.s 52 rfl .nil) (q_not rfl).o <| WL.p rfl rfl rfl (.s 47 rfl (.s 53 rfl .nil)) (q_pickF rfl hb5817) <| WL.p rfl rfl rfl (.s 54 rfl .nil) (q_move rfl) ?_
      rcases bif_s h with ⟨hb5819, h⟩ | ⟨hb5819, h⟩
      ·refine WL.skip (Unwanted.on rfl rfl rfl hb5819) rfl rfl <| WL.skip (Unwanted.on rfl rfl rfl hb5819) rfl rfl <| WL.skip (Unwanted.on rfl rfl rfl hb5819) rfl rfl <| WL.skip (Unwanted.on rfl rfl rfl hb5819) rfl rfl <| WL.skip (Unwanted.on rfl rfl rfl hb5819) rfl rfl <| WL.skip (Unwanted.on rfl rfl rfl hb5819) rfl rfl <| WL.p rfl rfl rfl (.s 55 rfl (.k .nil)) (q_pickT rfl hb5819) <| WL.nil ?_
       exact QN.weaken (.one rfl (.nil _)) (Kj5812 () true h)
      ·refine WL.q (Wanted.on rfl rfl rfl hb5819) rfl rfl (.s 5 rfl .nil) (q_field rfl fo96_5 rfl).o <| WL.q (Wanted.on rfl rfl rfl hb5819) rfl rfl (.s 56 rfl .nil) (q_load rfl sh3).o <| WL.q (Wanted.on rfl rfl rfl hb5819) rfl rfl (.s 5 rfl .nil) (q_field rfl fo96_6 rfl).o <| WL.q (Wanted.on rfl rfl rfl hb5819) rfl rfl (.s 58 rfl .nil) (q_load rfl sh3).o ?_
       obtain ⟨t5820, ht5820, h⟩ := bind_s h
       refine WL.q (Wanted.on rfl rfl rfl hb5819) rfl rfl (.s 57 rfl (.s 59 rfl .nil)) (q_call (f := 102) (A := EqA (.bool t5820)) (xs := [.tmp 57, .tmp 59]) («as» := [EqA (.int .i64 ((rd a0.fEdges a1).fInLow)), EqA (.int .i64 ((rd a0.fEdges a1).fInHigh))]) rfl ca102 (ref04_bound.con k ((rd a0.fEdges a1).fInLow) ((rd a0.fEdges a1).fInHigh) t5820 ht5820) rfl).o <| WL.q (Wanted.on rfl rfl rfl hb5819) rfl rfl (.s 60 rfl .nil) (q_not rfl).o <| WL.p rfl rfl rfl (.s 55 rfl (.s 61 rfl .nil)) (q_pickF rfl hb5819) <| WL.nil ?_
       exact QN.weaken (.one rfl (.nil _)) (Kj5812 () (!t5820) h)
theorem ref04_Valid.con (k : Nat) (a0 : Types) (r : (Str × Int)) (h : ref04_Valid k a0 = some r) : Con Tryz.prog 55 [] [AggA [SlcA kNodeType a0.fNodes, SlcA kEdgeType a0.fEdges]] (RA (TupA [EqA (strV r.1), EqA (.int .i64 r.2)])) := by
 unfold ref04_Valid at h
 refine Con.of (N := 60) Tryz.func55 rfl rfl rfl fun w0_ fg_ => W.seq <| W.region <| WL.p rfl rfl rfl (.s 0 rfl .nil) (q_box rfl (CellsOf.agg _)) <| WL.p rfl rfl rfl (.k .nil) (q_assign rfl) <| WL.p rfl rfl rfl (.k .nil) (q_assign rfl) <| WL.nil <| QN.then_ <| W.seq <| W.seq <| W.region <| WL.p rfl rfl rfl (.s 1 rfl .nil) (q_field rfl fo25_0 rfl) <| WL.p rfl rfl rfl (.s 8 rfl .nil) (q_load rfl sh22) ?_
 refine WL.p rfl rfl rfl (.s 9 rfl .nil) (q_len rfl elS22) <| WL.p rfl rfl rfl (.s 10 rfl (.k .nil)) (q_int rfl rfl) <| WL.nil <| QN.then_ ?_
 refine W.condP h rfl (fun hb5821 h => ?_) (fun hb5821 h => ?_)
 ·refine W.seq <| W.region <| WL.p rfl rfl rfl (.k .nil) (q_assign rfl) <| WL.p rfl rfl rfl (.k .nil) (q_assign rfl) <| WL.nil <| QN.then_ <| W.ret <| QR.then_ ?_
  cases h
  exact QR.f2 rfl rfl (.t rfl) (.t rfl) (.id _)
 ·refine W.skip <| QN.weaken (env' := [(1, _)]) (.one rfl (.nil _)) <| QN.then_ <| W.seq <| W.seq ?_
  refine W.jn1 (Γ := Unit) (fun (_ : Unit) (x21 : Bool) => [(1, PtrA [SlcA kNodeType a0.fNodes, SlcA kEdgeType a0.fEdges]), (21, EqA (.bool x21))]) (fun (_ : Unit) (_ : Bool) => []) h (fun _ x21 h => ?_) (fun j5824 Kj5824 h => ?_)
  ·refine QN.then_ ?_
   refine W.condP h rfl (fun hb5825 h => ?_) (fun hb5825 h => ?_)
   ·refine W.seq <| W.region <| WL.p rfl rfl rfl (.k .nil) (q_assign rfl) <| WL.p rfl rfl rfl (.k .nil) (q_assign rfl) <| WL.nil <| QN.then_ <| W.ret <| QR.then_ ?_
    cases h
    exact QR.f2 rfl rfl (.t rfl) (.t rfl) (.id _)
   ·refine W.skip <| QN.then_ <| W.seq <| W.seq <| W.region <| WL.p rfl rfl rfl (.k .nil) (q_assign rfl) <| WL.nil <| QN.then_ <| W.block ?_
    refine W.loop1 (Γ := Unit) (fun (_ : Unit) (x4 : Int) => [(1, PtrA [SlcA kNodeType a0.fNodes, SlcA kEdgeType a0.fEdges]), (4, EqA (.int .i64 x4))]) (fun (_ : Unit) (_ : Int) => []) h () (.one rfl (.one rfl (.nil _))) rfl (fun rec0 K0 next0 _ x4 h => ?_)
    unfold ref04_Valid.b0 at h
    refine W.seq <| W.seq <| W.region <| WL.p rfl rfl rfl (.s 4 rfl .nil) (q_move rfl) <| WL.p rfl rfl rfl (.s 1 rfl .nil) (q_field rfl fo25_0 rfl) <| WL.p rfl rfl rfl (.s 23 rfl .nil) (q_load rfl sh22) <| WL.p rfl rfl rfl (.s 24 rfl .nil) (q_len rfl elS22) <| WL.p rfl rfl rfl (.s 22 rfl (.s 25 rfl .nil)) (q_int rfl rfl) <| WL.nil <| QN.then_ ?_
    refine W.condP h rfl (fun hb5866 h => ?_) (fun hb5866 h => ?_)
    ·refine W.skip <| QN.then_ <| W.seq <| W.block <| W.seq <| W.region <| WL.p rfl rfl rfl (.s 1 rfl .nil) (q_loadS rfl sh25 (leB rfl) rfl) <| WL.p rfl rfl rfl (.s 4 rfl .nil) (q_move rfl) ?_
     obtain ⟨t5867, ht5867, h⟩ := bind_s h
     refine WL.p rfl rfl rfl (.s 29 rfl (.s 30 rfl .nil)) (q_call (f := 74) (A := EqA (.int .i64 t5867)) (xs := [.tmp 29, .tmp 30]) («as» := [AggA [SlcA kNodeType a0.fNodes, SlcA kEdgeType a0.fEdges], EqA (.int .i64 x4)]) rfl ca74 (ref04_node.con k a0 x4 t5867 ht5867) rfl) <| WL.p rfl rfl rfl (.s 31 rfl .nil) (q_assign rfl) <| WL.nil <| QN.weaken (env' := [(5, _), (4, _), (1, _)]) (.one rfl (.one rfl (.one rfl (.nil _)))) <| QN.then_ <| W.seq <| W.region <| WL.p rfl rfl rfl (.s 5 rfl .nil) (q_move rfl) <| WL.p rfl rfl rfl (.s 32 rfl (.k .nil)) (q_int rfl rfl) <| WL.nil <| QN.then_ ?_
     refine W.condP h rfl (fun hb5868 h => ?_) (fun hb5868 h => ?_)
     ·refine W.seq <| W.region <| WL.p rfl rfl rfl (.s 1 rfl .nil) (q_field rfl fo25_0 rfl) <| WL.p rfl rfl rfl (.s 34 rfl .nil) (q_load rfl sh22) <| WL.p rfl rfl rfl (.s 4 rfl .nil) (q_move rfl) ?_
      obtain ⟨c5869, h⟩ := ite_n h
      refine WL.p rfl rfl rfl (.s 35 rfl (.s 36 rfl .nil)) (q_index rfl el22 rfl c5869.1 c5869.2) <| WL.p rfl rfl rfl (.s 37 rfl .nil) (q_field rfl fo94_0 rfl) <| WL.p rfl rfl rfl (.s 38 rfl .nil) (q_load rfl sh9) <| WL.p rfl rfl rfl (.s 5 rfl .nil) (q_move rfl) <| WL.p rfl rfl rfl (.s 39 rfl .nil) (q_assign rfl) <| WL.p rfl rfl rfl (.s 40 rfl .nil) (q_assign rfl) <| WL.nil <| QN.weaken (env' := [(3, _), (2, _)]) (.one rfl (.one rfl (.nil _))) <| QN.then_ <| W.ret <| QR.block <| QR.then_ <| QR.then_ ?_
      refine QR.block <| QR.then_ ?_
      cases h
      exact QR.f2 rfl rfl (.t rfl) (.t rfl) (.id _)
     ·refine W.skip <| QN.block <| QN.then_ <| W.region <| WL.p rfl rfl rfl (.s 4 rfl .nil) (q_move rfl) ?_
      obtain ⟨c5870, h⟩ := ite_n h
      refine WL.p rfl rfl rfl (.s 27 rfl (.k .nil)) (q_addR rfl c5870) <| WL.p rfl rfl rfl (.s 28 rfl .nil) (q_assign rfl) <| WL.nil ?_
      exact next0 () (x4 + 1) _ h (.one rfl (.one rfl (.nil _)))
    ·refine W.exit <| QX.then_ <| QX.then_ <| QX.here <| QN.then_ <| W.seq <| W.seq <| W.region <| WL.p rfl rfl rfl (.k .nil) (q_assign rfl) <| WL.nil <| QN.then_ <| W.block ?_
     refine W.loop1 (Γ := Unit) (fun (_ : Unit) (x6 : Int) => [(1, PtrA [SlcA kNodeType a0.fNodes, SlcA kEdgeType a0.fEdges]), (6, EqA (.int .i64 x6))]) (fun (_ : Unit) (_ : Int) => []) h () (.one rfl (.one rfl (.nil _))) rfl (fun rec1 K1 next1 _ x6 h => ?_)
     unfold ref04_Valid.b1 at h
     refine W.seq <| W.seq <| W.region <| WL.p rfl rfl rfl (.s 6 rfl .nil) (q_move rfl) <| WL.p rfl rfl rfl (.s 1 rfl .nil) (q_field rfl fo25_1 rfl) <| WL.p rfl rfl rfl (.s 42 rfl .nil) (q_load rfl sh23) <| WL.p rfl rfl rfl (.s 43 rfl .nil) (q_len rfl elS23) <| WL.p rfl rfl rfl (.s 41 rfl (.s 44 rfl .nil)) (q_int rfl rfl) <| WL.nil <| QN.then_ ?_
     refine W.condP h rfl (fun hb5881 h => ?_) (fun hb5881 h => ?_)
     ·refine W.skip <| QN.then_ <| W.seq <| W.block <| W.seq <| W.region <| WL.p rfl rfl rfl (.s 1 rfl .nil) (q_loadS rfl sh25 (leB rfl) rfl) <| WL.p rfl rfl rfl (.s 6 rfl .nil) (q_move rfl) ?_
      obtain ⟨t5882, ht5882, h⟩ := bind_s h
      refine WL.p rfl rfl rfl (.s 48 rfl (.s 49 rfl .nil)) (q_call (f := 75) (A := EqA (.int .i64 t5882)) (xs := [.tmp 48, .tmp 49]) («as» := [AggA [SlcA kNodeType a0.fNodes, SlcA kEdgeType a0.fEdges], EqA (.int .i64 x6)]) rfl ca75 (ref04_edge.con k a0 x6 t5882 ht5882) rfl) <| WL.p rfl rfl rfl (.s 50 rfl .nil) (q_assign rfl) <| WL.nil <| QN.weaken (env' := [(7, _), (6, _), (1, _)]) (.one rfl (.one rfl (.one rfl (.nil _)))) <| QN.then_ <| W.seq <| W.region <| WL.p rfl rfl rfl (.s 7 rfl .nil) (q_move rfl) <| WL.p rfl rfl rfl (.s 51 rfl (.k .nil)) (q_int rfl rfl) <| WL.nil <| QN.then_ ?_
      refine W.condP h rfl (fun hb5883 h => ?_) (fun hb5883 h => ?_)
      ·refine W.seq <| W.region <| WL.p rfl rfl rfl (.s 1 rfl .nil) (q_field rfl fo25_1 rfl) <| WL.p rfl rfl rfl (.s 53 rfl .nil) (q_load rfl sh23) <| WL.p rfl rfl rfl (.s 6 rfl .nil) (q_move rfl) ?_
       obtain ⟨c5884, h⟩ := ite_n h
       refine WL.p rfl rfl rfl (.s 54 rfl (.s 55 rfl .nil)) (q_index rfl el23 rfl c5884.1 c5884.2) <| WL.p rfl rfl rfl (.s 56 rfl .nil) (q_field rfl fo96_0 rfl) <| WL.p rfl rfl rfl (.s 57 rfl .nil) (q_load rfl sh9) <| WL.p rfl rfl rfl (.s 7 rfl .nil) (q_move rfl) <| WL.p rfl rfl rfl (.s 58 rfl .nil) (q_assign rfl) <| WL.p rfl rfl rfl (.s 59 rfl .nil) (q_assign rfl) <| WL.nil <| QN.weaken (env' := [(3, _), (2, _)]) (.one rfl (.one rfl (.nil _))) <| QN.then_ <| W.ret <| QR.block <| QR.then_ <| QR.then_ ?_
       refine QR.block <| QR.then_ ?_
       cases h
       exact QR.f2 rfl rfl (.t rfl) (.t rfl) (.id _)
      ·refine W.skip <| QN.block <| QN.then_ <| W.region <| WL.p rfl rfl rfl (.s 6 rfl .nil) (q_move rfl) ?_
       obtain ⟨c5885, h⟩ := ite_n h
       refine WL.p rfl rfl rfl (.s 46 rfl (.k .nil)) (q_addR rfl c5885) <| WL.p rfl rfl rfl (.s 47 rfl .nil) (q_assign rfl) <| WL.nil ?_
       exact next1 () (x6 + 1) _ h (.one rfl (.one rfl (.nil _)))
     ·refine W.exit <| QX.then_ <| QX.then_ <| QX.here <| QN.weaken (env' := []) (.nil _) <| QN.then_ <| W.seq <| W.region <| WL.p rfl rfl rfl (.k .nil) (q_assign rfl) <| WL.p rfl rfl rfl (.k .nil) (q_assign rfl) <| WL.nil <| QN.then_ <| W.ret ?_
      cases h
      exact QR.f2 rfl rfl (.t rfl) (.t rfl) (.id _)
  ·refine W.region <| WL.p rfl rfl rfl (.s 1 rfl .nil) (q_field rfl fo25_0 rfl) <| WL.p rfl rfl rfl (.s 12 rfl .nil) (q_load rfl sh22) <| WL.p rfl rfl rfl (.s 13 rfl .nil) (q_len rfl elS22) <| WL.p rfl rfl rfl (.s 14 rfl (.k .nil)) (q_int rfl rfl) <| WL.p rfl rfl rfl (.s 15 rfl .nil) (q_move rfl) ?_
   rcases bif_s h with ⟨hb5886, h⟩ | ⟨hb5886, h⟩
   ·refine WL.skip (Unwanted.on rfl rfl rfl hb5886) rfl rfl <| WL.skip (Unwanted.on rfl rfl rfl hb5886) rfl rfl <| WL.skip (Unwanted.on rfl rfl rfl hb5886) rfl rfl <| WL.skip (Unwanted.on rfl rfl rfl hb5886) rfl rfl <| WL.p rfl rfl rfl (.s 16 rfl (.k .nil)) (q_pickT rfl hb5886) <| WL.nil ?_
    exact QN.weaken (.one rfl (.one rfl (.nil _))) (Kj5824 () true h)
   ·refine WL.q (Wanted.on rfl rfl rfl hb5886) rfl rfl (.s 1 rfl .nil) (q_field rfl fo25_1 rfl).o <| WL.q (Wanted.on rfl rfl rfl hb5886) rfl rfl (.s 17 rfl .nil) (q_load rfl sh23).o <| WL.q (Wanted.on rfl rfl rfl hb5886) rfl rfl (.s 18 rfl .nil) (q_len rfl elS23).o <| WL.q (Wanted.on rfl rfl rfl hb5886) rfl rfl (.s 19 rfl (.k .nil)) (q_int rfl rfl).o <| WL.p rfl rfl rfl (.s 16 rfl (.s 20 rfl .nil)) (q_pickF rfl hb5886) <| WL.nil ?_
    exact QN.weaken (.one rfl (.one rfl (.nil _))) (Kj5824 () (decide ((a0.fEdges.length : Int) > 20)) h)
theorem ref05_kind.con (k : Nat) (a0 : Int) (r : Bool) (h : ref05_kind k a0 = some r) : Con Tryz.prog 61 [] [EqA (.int .i64 a0)] (RA (EqA (.bool r))) := by
 unfold ref05_kind at h
 refine Con.of (N := 9) Tryz.func61 rfl rfl rfl fun w0_ fg_ => W.seq <| W.region <| WL.p rfl rfl rfl (.k .nil) (q_assign rfl) <| WL.nil <| QN.then_ <| W.seq ?_
 refine W.jn1 (Γ := Unit) (fun (_ : Unit) (x2 : Bool) => [(2, EqA (.bool x2))]) (fun (_ : Unit) (_ : Bool) => []) h (fun _ x2 h => ?_) (fun j5889 Kj5889 h => ?_)
 ·refine QN.then_ <| W.ret ?_
  cases h
  exact QR.f1 rfl rfl (.t rfl) (.id _)
 ·refine W.region <| WL.p rfl rfl rfl (.s 0 rfl .nil) (q_move rfl) <| WL.p rfl rfl rfl (.s 3 rfl (.k .nil)) (q_int rfl rfl) <| WL.p rfl rfl rfl (.s 4 rfl .nil) (q_move rfl) ?_
  rcases bif_s h with ⟨hb5890, h⟩ | ⟨hb5890, h⟩
  ·refine WL.q (Wanted.on rfl rfl rfl hb5890) rfl rfl (.s 0 rfl .nil) (q_move rfl).o <| WL.q (Wanted.on rfl rfl rfl hb5890) rfl rfl (.s 6 rfl (.k .nil)) (q_int rfl rfl).o <| WL.p rfl rfl rfl (.s 5 rfl (.s 7 rfl .nil)) (q_pickT rfl hb5890) <| WL.p rfl rfl rfl (.s 8 rfl .nil) (q_assign rfl) <| WL.nil ?_
   exact QN.weaken (.one rfl (.nil _)) (Kj5889 () (decide (a0 ≤ 99)) h)
  ·refine WL.skip (Unwanted.on rfl rfl rfl hb5890) rfl rfl <| WL.skip (Unwanted.on rfl rfl rfl hb5890) rfl rfl <| WL.p rfl rfl rfl (.s 5 rfl (.k .nil)) (q_pickF rfl hb5890) <| WL.p rfl rfl rfl (.s 8 rfl .nil) (q_assign rfl) <| WL.nil ?_
   exact QN.weaken (.one rfl (.nil _)) (Kj5889 () false h)
theorem ref05_right.con (k : Nat) (a0 : Edge) (a1 : Int) (r : Bool) (h : ref05_right k a0 a1 = some r) : Con Tryz.prog 62 [] [AggA [EqA (.int .i64 a0.fType), EqA (.int .i64 a0.fFrom), EqA (.int .i64 a0.fTo)], EqA (.int .i64 a1)] (RA (EqA (.bool r))) := by
 unfold ref05_right at h
 refine Con.of (N := 30) Tryz.func62 rfl rfl rfl fun w0_ fg_ => W.seq <| W.region <| WL.p rfl rfl rfl (.s 0 rfl .nil) (q_box rfl (CellsOf.agg _)) <| WL.p rfl rfl rfl (.k .nil) (q_assign rfl) <| WL.nil <| QN.then_ <| W.seq ?_
 refine W.jn1 (Γ := Unit) (fun (_ : Unit) (x4 : Bool) => [(4, EqA (.bool x4))]) (fun (_ : Unit) (_ : Bool) => []) h (fun _ x4 h => ?_) (fun j5897 Kj5897 h => ?_)
 ·refine QN.then_ <| W.ret ?_
  cases h
  exact QR.f1 rfl rfl (.t rfl) (.id _)
 ·refine W.region <| WL.p rfl rfl rfl (.s 2 rfl .nil) (q_field rfl fo77_0 rfl) <| WL.p rfl rfl rfl (.s 5 rfl .nil) (q_load rfl sh3) ?_
  obtain ⟨t5898, ht5898, h⟩ := bind_s h
  refine WL.p rfl rfl rfl (.s 6 rfl .nil) (q_call (f := 61) (A := EqA (.bool t5898)) (xs := [.tmp 6]) («as» := [EqA (.int .i64 a0.fType)]) rfl ca61 (ref05_kind.con k a0.fType t5898 ht5898) rfl) <| WL.p rfl rfl rfl (.s 7 rfl .nil) (q_move rfl) ?_
  rcases bif_s h with ⟨hb5899, h⟩ | ⟨hb5899, h⟩
  ·refine WL.q (Wanted.on rfl rfl rfl hb5899) rfl rfl (.s 2 rfl .nil) (q_field rfl fo77_1 rfl).o <| WL.q (Wanted.on rfl rfl rfl hb5899) rfl rfl (.s 9 rfl .nil) (q_load rfl sh3).o <| WL.q (Wanted.on rfl rfl rfl hb5899) rfl rfl (.s 10 rfl (.k .nil)) (q_int rfl rfl).o <| WL.p rfl rfl rfl (.s 8 rfl (.s 11 rfl .nil)) (q_pickT rfl hb5899) <| WL.p rfl rfl rfl (.s 12 rfl .nil) (q_move rfl) ?_
   rcases bif_s h with ⟨hb5900, h⟩ | ⟨hb5900, h⟩
   ·refine WL.q (Wanted.on rfl rfl rfl hb5900) rfl rfl (.s 2 rfl .nil) (q_field rfl fo77_1 rfl).o <| WL.q (Wanted.on rfl rfl rfl hb5900) rfl rfl (.s 14 rfl .nil) (q_load rfl sh3).o <| WL.q (Wanted.on rfl rfl rfl hb5900) rfl rfl (.s 1 rfl .nil) (q_move rfl).o <| WL.q (Wanted.on rfl rfl rfl hb5900) rfl rfl (.s 15 rfl (.s 16 rfl .nil)) (q_int rfl rfl).o <| WL.p rfl rfl rfl (.s 13 rfl (.s 17 rfl .nil)) (q_pickT rfl hb5900) <| WL.p rfl rfl rfl (.s 18 rfl .nil) (q_move rfl) ?_
    rcases bif_s h with ⟨hb5901, h⟩ | ⟨hb5901, h⟩
    ·refine WL.q (Wanted.on rfl rfl rfl hb5901) rfl rfl (.s 2 rfl .nil) (q_field rfl fo77_2 rfl).o <| WL.q (Wanted.on rfl rfl rfl hb5901) rfl rfl (.s 20 rfl .nil) (q_load rfl sh3).o <| WL.q (Wanted.on rfl rfl rfl hb5901) rfl rfl (.s 21 rfl (.k .nil)) (q_int rfl rfl).o <| WL.p rfl rfl rfl (.s 19 rfl (.s 22 rfl .nil)) (q_pickT rfl hb5901) <| WL.p rfl rfl rfl (.s 23 rfl .nil) (q_move rfl) ?_
     rcases bif_s h with ⟨hb5902, h⟩ | ⟨hb5902, h⟩
     ·refine WL.q (Wanted.on rfl rfl rfl hb5902) rfl rfl (.s 2 rfl .nil) (q_field rfl fo77_2 rfl).o <| WL.q (Wanted.on rfl rfl rfl hb5902) rfl rfl (.s 25 rfl .nil) (q_load rfl sh3).o <| WL.q (Wanted.on rfl rfl rfl hb5902) rfl rfl (.s 1 rfl .nil) (q_move rfl).o <| WL.q (Wanted.on rfl rfl rfl hb5902) rfl rfl (.s 26 rfl (.s 27 rfl .nil)) (q_int rfl rfl).o <| WL.p rfl rfl rfl (.s 24 rfl (.s 28 rfl .nil)) (q_pickT rfl hb5902) <| WL.p rfl rfl rfl (.s 29 rfl .nil) (q_assign rfl) <| WL.nil ?_
      exact QN.weaken (.one rfl (.nil _)) (Kj5897 () (decide (a0.fTo < a1)) h)
     ·refine WL.skip (Unwanted.on rfl rfl rfl hb5902) rfl rfl <| WL.skip (Unwanted.on rfl rfl rfl hb5902) rfl rfl <| WL.skip (Unwanted.on rfl rfl rfl hb5902) rfl rfl <| WL.skip (Unwanted.on rfl rfl rfl hb5902) rfl rfl <| WL.p rfl rfl rfl (.s 24 rfl (.k .nil)) (q_pickF rfl hb5902) <| WL.p rfl rfl rfl (.s 29 rfl .nil) (q_assign rfl) <| WL.nil ?_
      exact QN.weaken (.one rfl (.nil _)) (Kj5897 () false h)
    ·refine WL.skip (Unwanted.on rfl rfl rfl hb5901) rfl rfl <| WL.skip (Unwanted.on rfl rfl rfl hb5901) rfl rfl <| WL.skip (Unwanted.on rfl rfl rfl hb5901) rfl rfl <| WL.p rfl rfl rfl (.s 19 rfl (.k .nil)) (q_pickF rfl hb5901) <| WL.p rfl rfl rfl (.s 23 rfl .nil) (q_move rfl) <| WL.skip (Unwanted.on rfl rfl rfl rfl) rfl rfl <| WL.skip (Unwanted.on rfl rfl rfl rfl) rfl rfl <| WL.skip (Unwanted.on rfl rfl rfl rfl) rfl rfl <| WL.skip (Unwanted.on rfl rfl rfl rfl) rfl rfl <| WL.p rfl rfl rfl (.s 24 rfl (.k .nil)) (q_pickF rfl rfl) <| WL.p rfl rfl rfl (.s 29 rfl .nil) (q_assign rfl) <| WL.nil ?_
     exact QN.weaken (.one rfl (.nil _)) (Kj5897 () false h)
   ·refine WL.skip (Unwanted.on rfl rfl rfl hb5900) rfl rfl <| WL.skip (Unwanted.on rfl rfl rfl hb5900) rfl rfl <| WL.skip (Unwanted.on rfl rfl rfl hb5900) rfl rfl <| WL.skip (Unwanted.on rfl rfl rfl hb5900) rfl rfl <| WL.p rfl rfl rfl (.s 13 rfl (.k .nil)) (q_pickF rfl hb5900) <| WL.p rfl rfl rfl (.s 18 rfl .nil) (q_move rfl) <| WL.skip (Unwanted.on rfl rfl rfl rfl) rfl rfl <| WL.skip (Unwanted.on rfl rfl rfl rfl) rfl rfl <| WL.skip (Unwanted.on rfl rfl rfl rfl) rfl rfl <| WL.p rfl rfl rfl (.s 19 rfl (.k .nil)) (q_pickF rfl rfl) <| WL.p rfl rfl rfl (.s 23 rfl .nil) (q_move rfl) <| WL.skip (Unwanted.on rfl rfl rfl rfl) rfl rfl <| WL.skip (Unwanted.on rfl rfl rfl rfl) rfl rfl ?_
    refine WL.skip (Unwanted.on rfl rfl rfl rfl) rfl rfl <| WL.skip (Unwanted.on rfl rfl rfl rfl) rfl rfl <| WL.p rfl rfl rfl (.s 24 rfl (.k .nil)) (q_pickF rfl rfl) <| WL.p rfl rfl rfl (.s 29 rfl .nil) (q_assign rfl) <| WL.nil ?_
    exact QN.weaken (.one rfl (.nil _)) (Kj5897 () false h)
  ·refine WL.skip (Unwanted.on rfl rfl rfl hb5899) rfl rfl <| WL.skip (Unwanted.on rfl rfl rfl hb5899) rfl rfl <| WL.skip (Unwanted.on rfl rfl rfl hb5899) rfl rfl <| WL.p rfl rfl rfl (.s 8 rfl (.k .nil)) (q_pickF rfl hb5899) <| WL.p rfl rfl rfl (.s 12 rfl .nil) (q_move rfl) <| WL.skip (Unwanted.on rfl rfl rfl rfl) rfl rfl <| WL.skip (Unwanted.on rfl rfl rfl rfl) rfl rfl <| WL.skip (Unwanted.on rfl rfl rfl rfl) rfl rfl <| WL.skip (Unwanted.on rfl rfl rfl rfl) rfl rfl <| WL.p rfl rfl rfl (.s 13 rfl (.k .nil)) (q_pickF rfl rfl) <| WL.p rfl rfl rfl (.s 18 rfl .nil) (q_move rfl) <| WL.skip (Unwanted.on rfl rfl rfl rfl) rfl rfl <| WL.skip (Unwanted.on rfl rfl rfl rfl) rfl rfl ?_
   refine WL.skip (Unwanted.on rfl rfl rfl rfl) rfl rfl <| WL.p rfl rfl rfl (.s 19 rfl (.k .nil)) (q_pickF rfl rfl) <| WL.p rfl rfl rfl (.s 23 rfl .nil) (q_move rfl) <| WL.skip (Unwanted.on rfl rfl rfl rfl) rfl rfl <| WL.skip (Unwanted.on rfl rfl rfl rfl) rfl rfl <| WL.skip (Unwanted.on rfl rfl rfl rfl) rfl rfl <| WL.skip (Unwanted.on rfl rfl rfl rfl) rfl rfl <| WL.p rfl rfl rfl (.s 24 rfl (.k .nil)) (q_pickF rfl rfl) <| WL.p rfl rfl rfl (.s 29 rfl .nil) (q_assign rfl) <| WL.nil ?_
   exact QN.weaken (.one rfl (.nil _)) (Kj5897 () false h)
theorem ref05_Valid.con (k : Nat) (a0 : Graph) (r : Int) (h : ref05_Valid k a0 = some r) : Con Tryz.prog 41 [] [AggA [SlcA kInt a0.fNodes, SlcA kEdge a0.fEdges]] (RA (EqA (.int .i64 r))) := by
 unfold ref05_Valid at h
 refine Con.of (N := 46) Tryz.func41 rfl rfl rfl fun w0_ fg_ => W.seq <| W.region <| WL.p rfl rfl rfl (.s 0 rfl .nil) (q_box rfl (CellsOf.agg _)) <| WL.p rfl rfl rfl (.k .nil) (q_assign rfl) <| WL.nil <| QN.then_ <| W.seq <| W.seq ?_
 refine W.jn1 (Γ := Unit) (fun (_ : Unit) (x14 : Bool) => [(1, PtrA [SlcA kInt a0.fNodes, SlcA kEdge a0.fEdges]), (14, EqA (.bool x14))]) (fun (_ : Unit) (_ : Bool) => []) h (fun _ x14 h => ?_) (fun j5905 Kj5905 h => ?_)
 ·refine QN.then_ ?_
  refine W.condP h rfl (fun hb5906 h => ?_) (fun hb5906 h => ?_)
  ·refine W.seq <| W.region <| WL.p rfl rfl rfl (.k .nil) (q_assign rfl) <| WL.nil <| QN.then_ <| W.ret <| QR.then_ ?_
   cases h
   exact QR.f1 rfl rfl (.t rfl) (.id _)
  ·refine W.skip <| QN.then_ <| W.seq <| W.seq <| W.region <| WL.p rfl rfl rfl (.k .nil) (q_assign rfl) <| WL.nil <| QN.then_ <| W.block ?_
   refine W.loop1 (Γ := Unit) (fun (_ : Unit) (x3 : Int) => [(1, PtrA [SlcA kInt a0.fNodes, SlcA kEdge a0.fEdges]), (3, EqA (.int .i64 x3))]) (fun (_ : Unit) (_ : Int) => []) h () (.one rfl (.one rfl (.nil _))) rfl (fun rec0 K0 next0 _ x3 h => ?_)
   unfold ref05_Valid.b0 at h
   refine W.seq <| W.seq <| W.region <| WL.p rfl rfl rfl (.s 3 rfl .nil) (q_move rfl) <| WL.p rfl rfl rfl (.s 1 rfl .nil) (q_field rfl fo29_0 rfl) <| WL.p rfl rfl rfl (.s 16 rfl .nil) (q_load rfl sh26) <| WL.p rfl rfl rfl (.s 17 rfl .nil) (q_len rfl elS26) <| WL.p rfl rfl rfl (.s 15 rfl (.s 18 rfl .nil)) (q_int rfl rfl) <| WL.nil <| QN.then_ ?_
   refine W.condP h rfl (fun hb5971 h => ?_) (fun hb5971 h => ?_)
   ·refine W.skip <| QN.then_ <| W.seq <| W.block <| W.seq <| W.region <| WL.p rfl rfl rfl (.s 1 rfl .nil) (q_field rfl fo29_0 rfl) <| WL.p rfl rfl rfl (.s 22 rfl .nil) (q_load rfl sh26) <| WL.p rfl rfl rfl (.s 3 rfl .nil) (q_move rfl) ?_
    obtain ⟨c5972, h⟩ := ite_n h
    refine WL.p rfl rfl rfl (.s 23 rfl (.s 24 rfl .nil)) (q_index rfl el26 rfl c5972.1 c5972.2) <| WL.p rfl rfl rfl (.s 25 rfl .nil) (q_load rfl sh3) ?_
    obtain ⟨t5973, ht5973, h⟩ := bind_s h
    refine WL.p rfl rfl rfl (.s 26 rfl .nil) (q_call (f := 61) (A := EqA (.bool t5973)) (xs := [.tmp 26]) («as» := [EqA (.int .i64 (rd a0.fNodes x3))]) rfl ca61 (ref05_kind.con k (rd a0.fNodes x3) t5973 ht5973) rfl) <| WL.p rfl rfl rfl (.s 27 rfl .nil) (q_not rfl) <| WL.nil <| QN.weaken (env' := [(28, _), (3, _), (1, _)]) (.one rfl (.one rfl (.one rfl (.nil _)))) <| QN.then_ ?_
    refine W.condP h rfl (fun hb5974 h => ?_) (fun hb5974 h => ?_)
    ·refine W.seq <| W.region <| WL.p rfl rfl rfl (.k .nil) (q_assign rfl) <| WL.nil <| QN.then_ <| W.ret <| QR.block <| QR.then_ <| QR.then_ <| QR.block <| QR.then_ ?_
     cases h
     exact QR.f1 rfl rfl (.t rfl) (.id _)
    ·refine W.skip <| QN.block <| QN.then_ <| W.region <| WL.p rfl rfl rfl (.s 3 rfl .nil) (q_move rfl) ?_
     obtain ⟨c5975, h⟩ := ite_n h
     refine WL.p rfl rfl rfl (.s 20 rfl (.k .nil)) (q_addR rfl c5975) <| WL.p rfl rfl rfl (.s 21 rfl .nil) (q_assign rfl) <| WL.nil ?_
     exact next0 () (x3 + 1) _ h (.one rfl (.one rfl (.nil _)))
   ·refine W.exit <| QX.then_ <| QX.then_ <| QX.here <| QN.then_ <| W.seq <| W.seq <| W.region <| WL.p rfl rfl rfl (.k .nil) (q_assign rfl) <| WL.nil <| QN.then_ <| W.block ?_
    refine W.loop1 (Γ := Unit) (fun (_ : Unit) (x4 : Int) => [(1, PtrA [SlcA kInt a0.fNodes, SlcA kEdge a0.fEdges]), (4, EqA (.int .i64 x4))]) (fun (_ : Unit) (_ : Int) => []) h () (.one rfl (.one rfl (.nil _))) rfl (fun rec1 K1 next1 _ x4 h => ?_)
    unfold ref05_Valid.b1 at h
    refine W.seq <| W.seq <| W.region <| WL.p rfl rfl rfl (.s 4 rfl .nil) (q_move rfl) <| WL.p rfl rfl rfl (.s 1 rfl .nil) (q_field rfl fo29_1 rfl) <| WL.p rfl rfl rfl (.s 30 rfl .nil) (q_load rfl sh27) <| WL.p rfl rfl rfl (.s 31 rfl .nil) (q_len rfl elS27) <| WL.p rfl rfl rfl (.s 29 rfl (.s 32 rfl .nil)) (q_int rfl rfl) <| WL.nil <| QN.then_ ?_
    refine W.condP h rfl (fun hb5994 h => ?_) (fun hb5994 h => ?_)
    ·refine W.skip <| QN.then_ <| W.seq <| W.block <| W.seq <| W.drawK [(0, false), (1, false), (2, false), (3, false), (4, false), (5, false), (6, false), (7, false), (8, false), (9, false)] [] [[], [0], [], [0, 1, 2], [0, 1, 2, 3], [], [5], [5, 6], [0, 1, 2, 3, 4, 5, 6, 7], [0, 1, 2, 3, 4, 5, 6, 7, 8]] mx (by kernel_rfl) <| DK.cons rfl rfl (.p rfl (.s 1 rfl .nil) rfl (q_field rfl fo29_1 rfl)) <| DK.cons rfl rfl (.p rfl (.s 36 rfl .nil) rfl (q_load rfl sh27)) <| DK.cons rfl rfl (.p rfl (.s 4 rfl .nil) rfl (q_move rfl)) ?_
     obtain ⟨c5999, h⟩ := ite_n h
     refine DK.cons rfl rfl (.p rfl (.s 37 rfl (.s 38 rfl .nil)) rfl (q_index rfl el27 rfl c5999.1 c5999.2)) <| DK.cons rfl rfl (.p rfl (.s 39 rfl .nil) rfl (q_loadS rfl sh77 (leB rfl) rfl)) <| DK.cons rfl rfl (.p rfl (.s 1 rfl .nil) rfl (q_field rfl fo29_0 rfl)) <| DK.cons rfl rfl (.p rfl (.s 41 rfl .nil) rfl (q_load rfl sh26)) <| DK.cons rfl rfl (.p rfl (.s 42 rfl .nil) rfl (q_len rfl elS26)) ?_
     obtain ⟨t6000, ht6000, h⟩ := bind_s h
     refine DK.cons rfl rfl (.p rfl (.s 40 rfl (.s 43 rfl .nil)) rfl (q_call (f := 62) (A := EqA (.bool t6000)) (xs := [.tmp 40, .tmp 43]) («as» := [AggA [EqA (.int .i64 ((rd a0.fEdges x4).fType)), EqA (.int .i64 ((rd a0.fEdges x4).fFrom)), EqA (.int .i64 ((rd a0.fEdges x4).fTo))], EqA (.int .i64 (a0.fNodes.length : Int))]) rfl ca62 (ref05_right.con k (rd a0.fEdges x4) (a0.fNodes.length : Int) t6000 ht6000) rfl)) <| DK.cons rfl rfl (.p rfl (.s 44 rfl .nil) rfl (q_not rfl)) <| DK.nil <| CSteps.nil <| QN.weaken (env' := [(45, _), (4, _), (1, _)]) (.one rfl (.one rfl (.one rfl (.nil _)))) <| QN.then_ ?_
     refine W.condP h rfl (fun hb6001 h => ?_) (fun hb6001 h => ?_)
     ·refine W.seq <| W.region <| WL.p rfl rfl rfl (.k .nil) (q_assign rfl) <| WL.nil <| QN.then_ <| W.ret <| QR.block <| QR.then_ <| QR.then_ <| QR.block <| QR.then_ ?_
      cases h
      exact QR.f1 rfl rfl (.t rfl) (.id _)
     ·refine W.skip <| QN.block <| QN.then_ <| W.region <| WL.p rfl rfl rfl (.s 4 rfl .nil) (q_move rfl) ?_
      obtain ⟨c6002, h⟩ := ite_n h
      refine WL.p rfl rfl rfl (.s 34 rfl (.k .nil)) (q_addR rfl c6002) <| WL.p rfl rfl rfl (.s 35 rfl .nil) (q_assign rfl) <| WL.nil ?_
      exact next1 () (x4 + 1) _ h (.one rfl (.one rfl (.nil _)))
    ·refine W.exit <| QX.then_ <| QX.then_ <| QX.here <| QN.weaken (env' := []) (.nil _) <| QN.then_ <| W.seq <| W.region <| WL.p rfl rfl rfl (.k .nil) (q_assign rfl) <| WL.nil <| QN.then_ <| W.ret ?_
     cases h
     exact QR.f1 rfl rfl (.t rfl) (.id _)
 ·refine W.region <| WL.p rfl rfl rfl (.s 1 rfl .nil) (q_field rfl fo29_0 rfl) <| WL.p rfl rfl rfl (.s 5 rfl .nil) (q_load rfl sh26) <| WL.p rfl rfl rfl (.s 6 rfl .nil) (q_len rfl elS26) <| WL.p rfl rfl rfl (.s 7 rfl (.k .nil)) (q_int rfl rfl) <| WL.p rfl rfl rfl (.s 8 rfl .nil) (q_move rfl) ?_
  rcases bif_s h with ⟨hb6003, h⟩ | ⟨hb6003, h⟩
  ·refine WL.skip (Unwanted.on rfl rfl rfl hb6003) rfl rfl <| WL.skip (Unwanted.on rfl rfl rfl hb6003) rfl rfl <| WL.skip (Unwanted.on rfl rfl rfl hb6003) rfl rfl <| WL.skip (Unwanted.on rfl rfl rfl hb6003) rfl rfl <| WL.p rfl rfl rfl (.s 9 rfl (.k .nil)) (q_pickT rfl hb6003) <| WL.nil ?_
   exact QN.weaken (.one rfl (.one rfl (.nil _))) (Kj5905 () true h)
  ·refine WL.q (Wanted.on rfl rfl rfl hb6003) rfl rfl (.s 1 rfl .nil) (q_field rfl fo29_1 rfl).o <| WL.q (Wanted.on rfl rfl rfl hb6003) rfl rfl (.s 10 rfl .nil) (q_load rfl sh27).o <| WL.q (Wanted.on rfl rfl rfl hb6003) rfl rfl (.s 11 rfl .nil) (q_len rfl elS27).o <| WL.q (Wanted.on rfl rfl rfl hb6003) rfl rfl (.s 12 rfl (.k .nil)) (q_int rfl rfl).o <| WL.p rfl rfl rfl (.s 9 rfl (.s 13 rfl .nil)) (q_pickF rfl hb6003) <| WL.nil ?_
   exact QN.weaken (.one rfl (.one rfl (.nil _))) (Kj5905 () (decide ((a0.fEdges.length : Int) > 80)) h)
theorem ref17_Typed.con (k : Nat) (a0 : Types) (a1 : Graph) (r : Bool) (h : ref17_Typed k a0 a1 = some r) : Con Tryz.prog 56 [] [AggA [SlcA kNodeType a0.fNodes, SlcA kEdgeType a0.fEdges], AggA [SlcA kInt a1.fNodes, SlcA kEdge a1.fEdges]] (RA (EqA (.bool r))) := by
 unfold ref17_Typed at h
 refine Con.of (N := 57) Tryz.func56 rfl rfl rfl fun w0_ fg_ => W.seq <| W.region <| WL.p rfl rfl rfl (.s 0 rfl .nil) (q_box rfl (CellsOf.agg _)) <| WL.p rfl rfl rfl (.s 1 rfl .nil) (q_box rfl (CellsOf.agg _)) <| WL.p rfl rfl rfl (.k .nil) (q_assign rfl) <| WL.nil <| QN.then_ <| W.seq <| W.seq <| W.region <| WL.p rfl rfl rfl (.k .nil) (q_assign rfl) <| WL.nil ?_
 refine QN.then_ <| W.block ?_
 refine W.loop1 (Γ := Unit) (fun (_ : Unit) (x5 : Int) => [(2, PtrA [SlcA kNodeType a0.fNodes, SlcA kEdgeType a0.fEdges]), (3, PtrA [SlcA kInt a1.fNodes, SlcA kEdge a1.fEdges]), (5, EqA (.int .i64 x5))]) (fun (_ : Unit) (_ : Int) => []) h () (.one rfl (.one rfl (.one rfl (.nil _)))) rfl (fun rec0 K0 next0 _ x5 h => ?_)
 unfold ref17_Typed.b0 at h
 refine W.seq <| W.seq <| W.region <| WL.p rfl rfl rfl (.s 5 rfl .nil) (q_move rfl) <| WL.p rfl rfl rfl (.s 3 rfl .nil) (q_field rfl fo29_0 rfl) <| WL.p rfl rfl rfl (.s 8 rfl .nil) (q_load rfl sh26) <| WL.p rfl rfl rfl (.s 9 rfl .nil) (q_len rfl elS26) <| WL.p rfl rfl rfl (.s 7 rfl (.s 10 rfl .nil)) (q_int rfl rfl) <| WL.nil <| QN.then_ ?_
 refine W.condP h rfl (fun hb6116 h => ?_) (fun hb6116 h => ?_)
 ·refine W.skip <| QN.then_ <| W.seq <| W.block <| W.seq ?_
  refine W.jn1 (Γ := Unit) (fun (_ : Unit) (x30 : Bool) => [(2, PtrA [SlcA kNodeType a0.fNodes, SlcA kEdgeType a0.fEdges]), (3, PtrA [SlcA kInt a1.fNodes, SlcA kEdge a1.fEdges]), (5, EqA (.int .i64 x5)), (30, EqA (.bool x30))]) (fun (_ : Unit) (_ : Bool) => []) h (fun _ x30 h => ?_) (fun j6124 Kj6124 h => ?_)
  ·refine QN.then_ ?_
   refine W.condP h rfl (fun hb6125 h => ?_) (fun hb6125 h => ?_)
   ·refine W.seq <| W.region <| WL.p rfl rfl rfl (.k .nil) (q_assign rfl) <| WL.nil <| QN.then_ <| W.ret <| QR.block <| QR.then_ <| QR.then_ <| QR.block <| QR.then_ ?_
    cases h
    exact QR.f1 rfl rfl (.t rfl) (.id _)
   ·refine W.skip <| QN.block <| QN.then_ <| W.region <| WL.p rfl rfl rfl (.s 5 rfl .nil) (q_move rfl) ?_
    obtain ⟨c6126, h⟩ := ite_n h
    refine WL.p rfl rfl rfl (.s 12 rfl (.k .nil)) (q_addR rfl c6126) <| WL.p rfl rfl rfl (.s 13 rfl .nil) (q_assign rfl) <| WL.nil ?_
    exact next0 () (x5 + 1) _ h (.one rfl (.one rfl (.one rfl (.nil _))))
  ·refine W.drawK [(0, false), (1, false), (2, false), (3, false), (4, false), (5, false), (6, false), (7, false), (8, false), (9, false), (10, false), (11, false), (12, false), (13, false), (14, false), (15, false), (16, false)] [] [[], [0], [], [0, 1, 2], [0, 1, 2, 3], [0, 1, 2, 3, 4], [0, 1, 2, 3, 4, 5], [0, 1, 2, 3, 4, 5, 6], [0, 1, 2, 3, 4, 5, 6, 7], [0, 1, 2, 3, 4, 5, 6], [0, 1, 2, 3, 4, 5, 6, 7, 8, 9], [0, 1, 2, 3, 4, 5, 6, 7, 8, 9, 10], [0, 1, 2, 3, 4, 5, 6], [0, 1, 2, 3, 4, 5, 6, 12], [0, 1, 2, 3, 4, 5, 6, 12, 13], [0, 1, 2, 3, 4, 5, 6, 7, 8, 9, 10, 11, 12, 13, 14], [0, 1, 2, 3, 4, 5, 6, 7, 8, 9, 10, 11, 12, 13, 14, 15]] mx (by kernel_rfl) <| DK.cons rfl rfl (.p rfl (.s 3 rfl .nil) rfl (q_field rfl fo29_0 rfl)) <| DK.cons rfl rfl (.p rfl (.s 14 rfl .nil) rfl (q_load rfl sh26)) <| DK.cons rfl rfl (.p rfl (.s 5 rfl .nil) rfl (q_move rfl)) ?_
   obtain ⟨c6127, h⟩ := ite_n h
   refine DK.cons rfl rfl (.p rfl (.s 15 rfl (.s 16 rfl .nil)) rfl (q_index rfl el26 rfl c6127.1 c6127.2)) <| DK.cons rfl rfl (.p rfl (.s 17 rfl .nil) rfl (q_load rfl sh3)) <| DK.cons rfl rfl (.p rfl (.s 18 rfl (.k .nil)) rfl (q_int rfl rfl)) <| DK.cons rfl rfl (.p rfl (.s 19 rfl .nil) rfl (q_move rfl)) ?_
   rcases bif_s h with ⟨hb6128, h⟩ | ⟨hb6128, h⟩
   ·refine DK.cons rfl rfl (.off rfl rfl rfl hb6128) <| DK.cons rfl rfl (.off rfl rfl rfl hb6128) <| DK.cons rfl rfl (.off rfl rfl rfl hb6128) <| DK.cons rfl rfl (.off rfl rfl rfl hb6128) <| DK.cons rfl rfl (.off rfl rfl rfl hb6128) <| DK.cons rfl rfl (.off rfl rfl rfl hb6128) <| DK.cons rfl rfl (.off rfl rfl rfl hb6128) <| DK.cons rfl rfl (.off rfl rfl rfl hb6128) <| DK.cons rfl rfl (.off rfl rfl rfl hb6128) <| DK.cons rfl rfl (.p rfl (.s 20 rfl (.k .nil)) rfl (q_pickT rfl hb6128)) <| DK.nil <| CSteps.nil ?_
    exact QN.weaken (.one rfl (.one rfl (.one rfl (.one rfl (.nil _))))) (Kj6124 () true h)
   ·refine DK.cons rfl rfl (.gp rfl rfl rfl hb6128 (.s 3 rfl .nil) rfl (q_field rfl fo29_0 rfl)) <| DK.cons rfl rfl (.gp rfl rfl rfl hb6128 (.s 21 rfl .nil) rfl (q_load rfl sh26)) <| DK.cons rfl rfl (.gp rfl rfl rfl hb6128 (.s 5 rfl .nil) rfl (q_move rfl)) ?_
    obtain ⟨c6129, h⟩ := ite_n h
    refine DK.cons rfl rfl (.gp rfl rfl rfl hb6128 (.s 22 rfl (.s 23 rfl .nil)) rfl (q_index rfl el26 rfl c6129.1 c6129.2)) <| DK.cons rfl rfl (.gp rfl rfl rfl hb6128 (.s 24 rfl .nil) rfl (q_load rfl sh3)) <| DK.cons rfl rfl (.gp rfl rfl rfl hb6128 (.s 2 rfl .nil) rfl (q_field rfl fo25_0 rfl)) <| DK.cons rfl rfl (.gp rfl rfl rfl hb6128 (.s 26 rfl .nil) rfl (q_load rfl sh22)) <| DK.cons rfl rfl (.gp rfl rfl rfl hb6128 (.s 27 rfl .nil) rfl (q_len rfl elS22)) <| DK.cons rfl rfl (.gp rfl rfl rfl hb6128 (.s 25 rfl (.s 28 rfl .nil)) rfl (q_int rfl rfl)) <| DK.cons rfl rfl (.p rfl (.s 20 rfl (.s 29 rfl .nil)) rfl (q_pickF rfl hb6128)) <| DK.nil <| CSteps.nil ?_
    exact QN.weaken (.one rfl (.one rfl (.one rfl (.one rfl (.nil _))))) (Kj6124 () (decide ((rd a1.fNodes x5) ≥ (a0.fNodes.length : Int))) h)
 ·refine W.exit <| QX.then_ <| QX.then_ <| QX.here <| QN.then_ <| W.seq <| W.seq <| W.region <| WL.p rfl rfl rfl (.k .nil) (q_assign rfl) <| WL.nil <| QN.then_ <| W.block ?_
  refine W.loop1 (Γ := Unit) (fun (_ : Unit) (x6 : Int) => [(2, PtrA [SlcA kNodeType a0.fNodes, SlcA kEdgeType a0.fEdges]), (3, PtrA [SlcA kInt a1.fNodes, SlcA kEdge a1.fEdges]), (6, EqA (.int .i64 x6))]) (fun (_ : Unit) (_ : Int) => []) h () (.one rfl (.one rfl (.one rfl (.nil _)))) rfl (fun rec1 K1 next1 _ x6 h => ?_)
  unfold ref17_Typed.b1 at h
  refine W.seq <| W.seq <| W.region <| WL.p rfl rfl rfl (.s 6 rfl .nil) (q_move rfl) <| WL.p rfl rfl rfl (.s 3 rfl .nil) (q_field rfl fo29_1 rfl) <| WL.p rfl rfl rfl (.s 32 rfl .nil) (q_load rfl sh27) <| WL.p rfl rfl rfl (.s 33 rfl .nil) (q_len rfl elS27) <| WL.p rfl rfl rfl (.s 31 rfl (.s 34 rfl .nil)) (q_int rfl rfl) <| WL.nil <| QN.then_ ?_
  refine W.condP h rfl (fun hb6158 h => ?_) (fun hb6158 h => ?_)
  ·refine W.skip <| QN.then_ <| W.seq <| W.block <| W.seq ?_
   refine W.jn1 (Γ := Unit) (fun (_ : Unit) (x56 : Bool) => [(2, PtrA [SlcA kNodeType a0.fNodes, SlcA kEdgeType a0.fEdges]), (3, PtrA [SlcA kInt a1.fNodes, SlcA kEdge a1.fEdges]), (6, EqA (.int .i64 x6)), (56, EqA (.bool x56))]) (fun (_ : Unit) (_ : Bool) => []) h (fun _ x56 h => ?_) (fun j6166 Kj6166 h => ?_)
   ·refine QN.then_ ?_
    refine W.condP h rfl (fun hb6167 h => ?_) (fun hb6167 h => ?_)
    ·refine W.seq <| W.region <| WL.p rfl rfl rfl (.k .nil) (q_assign rfl) <| WL.nil <| QN.then_ <| W.ret <| QR.block <| QR.then_ <| QR.then_ <| QR.block <| QR.then_ ?_
     cases h
     exact QR.f1 rfl rfl (.t rfl) (.id _)
    ·refine W.skip <| QN.block <| QN.then_ <| W.region <| WL.p rfl rfl rfl (.s 6 rfl .nil) (q_move rfl) ?_
     obtain ⟨c6168, h⟩ := ite_n h
     refine WL.p rfl rfl rfl (.s 36 rfl (.k .nil)) (q_addR rfl c6168) <| WL.p rfl rfl rfl (.s 37 rfl .nil) (q_assign rfl) <| WL.nil ?_
     exact next1 () (x6 + 1) _ h (.one rfl (.one rfl (.one rfl (.nil _))))
   ·refine W.drawK [(0, false), (1, false), (2, false), (3, false), (4, false), (5, false), (6, false), (7, false), (8, false), (9, false), (10, false), (11, false), (12, false), (13, false), (14, false), (15, false), (16, false), (17, false), (18, false)] [] [[], [0], [], [0, 1, 2], [0, 1, 2, 3], [0, 1, 2, 3, 4], [0, 1, 2, 3, 4, 5], [0, 1, 2, 3, 4, 5, 6], [0, 1, 2, 3, 4, 5, 6, 7], [0, 1, 2, 3, 4, 5, 6, 7, 8], [0, 1, 2, 3, 4, 5, 6, 7], [0, 1, 2, 3, 4, 5, 6, 7, 8, 9, 10], [0, 1, 2, 3, 4, 5, 6, 7, 8, 9, 10, 11], [0, 1, 2, 3, 4, 5, 6, 7, 8, 9, 10, 11, 12], [0, 1, 2, 3, 4, 5, 6, 7], [0, 1, 2, 3, 4, 5, 6, 7, 14], [0, 1, 2, 3, 4, 5, 6, 7, 14, 15], [0, 1, 2, 3, 4, 5, 6, 7, 8, 9, 10, 11, 12, 13, 14, 15, 16], [0, 1, 2, 3, 4, 5, 6, 7, 8, 9, 10, 11, 12, 13, 14, 15, 16, 17]] mx (by kernel_rfl) <| DK.cons rfl rfl (.p rfl (.s 3 rfl .nil) rfl (q_field rfl fo29_1 rfl)) <| DK.cons rfl rfl (.p rfl (.s 38 rfl .nil) rfl (q_load rfl sh27)) <| DK.cons rfl rfl (.p rfl (.s 6 rfl .nil) rfl (q_move rfl)) ?_
    obtain ⟨c6169, h⟩ := ite_n h
    refine DK.cons rfl rfl (.p rfl (.s 39 rfl (.s 40 rfl .nil)) rfl (q_index rfl el27 rfl c6169.1 c6169.2)) <| DK.cons rfl rfl (.p rfl (.s 41 rfl .nil) rfl (q_field rfl fo77_0 rfl)) <| DK.cons rfl rfl (.p rfl (.s 42 rfl .nil) rfl (q_load rfl sh3)) <| DK.cons rfl rfl (.p rfl (.s 43 rfl (.k .nil)) rfl (q_int rfl rfl)) <| DK.cons rfl rfl (.p rfl (.s 44 rfl .nil) rfl (q_move rfl)) ?_
    rcases bif_s h with ⟨hb6170, h⟩ | ⟨hb6170, h⟩
    ·refine DK.cons rfl rfl (.off rfl rfl rfl hb6170) <| DK.cons rfl rfl (.off rfl rfl rfl hb6170) <| DK.cons rfl rfl (.off rfl rfl rfl hb6170) <| DK.cons rfl rfl (.off rfl rfl rfl hb6170) <| DK.cons rfl rfl (.off rfl rfl rfl hb6170) <| DK.cons rfl rfl (.off rfl rfl rfl hb6170) <| DK.cons rfl rfl (.off rfl rfl rfl hb6170) <| DK.cons rfl rfl (.off rfl rfl rfl hb6170) <| DK.cons rfl rfl (.off rfl rfl rfl hb6170) <| DK.cons rfl rfl (.off rfl rfl rfl hb6170) <| DK.cons rfl rfl (.p rfl (.s 45 rfl (.k .nil)) rfl (q_pickT rfl hb6170)) <| DK.nil <| CSteps.nil ?_
     exact QN.weaken (.one rfl (.one rfl (.one rfl (.one rfl (.nil _))))) (Kj6166 () true h)
    ·refine DK.cons rfl rfl (.gp rfl rfl rfl hb6170 (.s 3 rfl .nil) rfl (q_field rfl fo29_1 rfl)) <| DK.cons rfl rfl (.gp rfl rfl rfl hb6170 (.s 46 rfl .nil) rfl (q_load rfl sh27)) <| DK.cons rfl rfl (.gp rfl rfl rfl hb6170 (.s 6 rfl .nil) rfl (q_move rfl)) ?_
     obtain ⟨c6171, h⟩ := ite_n h
     refine DK.cons rfl rfl (.gp rfl rfl rfl hb6170 (.s 47 rfl (.s 48 rfl .nil)) rfl (q_index rfl el27 rfl c6171.1 c6171.2)) <| DK.cons rfl rfl (.gp rfl rfl rfl hb6170 (.s 49 rfl .nil) rfl (q_field rfl fo77_0 rfl)) <| DK.cons rfl rfl (.gp rfl rfl rfl hb6170 (.s 50 rfl .nil) rfl (q_load rfl sh3)) <| DK.cons rfl rfl (.gp rfl rfl rfl hb6170 (.s 2 rfl .nil) rfl (q_field rfl fo25_1 rfl)) <| DK.cons rfl rfl (.gp rfl rfl rfl hb6170 (.s 52 rfl .nil) rfl (q_load rfl sh23)) <| DK.cons rfl rfl (.gp rfl rfl rfl hb6170 (.s 53 rfl .nil) rfl (q_len rfl elS23)) <| DK.cons rfl rfl (.gp rfl rfl rfl hb6170 (.s 51 rfl (.s 54 rfl .nil)) rfl (q_int rfl rfl)) <| DK.cons rfl rfl (.p rfl (.s 45 rfl (.s 55 rfl .nil)) rfl (q_pickF rfl hb6170)) <| DK.nil <| CSteps.nil ?_
     exact QN.weaken (.one rfl (.one rfl (.one rfl (.one rfl (.nil _))))) (Kj6166 () (decide ((rd a1.fEdges x6).fType ≥ (a0.fEdges.length : Int))) h)
  ·refine W.exit <| QX.then_ <| QX.then_ <| QX.here <| QN.weaken (env' := []) (.nil _) <| QN.then_ <| W.seq <| W.region <| WL.p rfl rfl rfl (.k .nil) (q_assign rfl) <| WL.nil <| QN.then_ <| W.ret ?_
   cases h
   exact QR.f1 rfl rfl (.t rfl) (.id _)
theorem ref17_given.con (k : Nat) (a0 : Types) (a1 : Graph) (a2 : Graph) (r : Int) (h : ref17_given k a0 a1 a2 = some r) : Con Tryz.prog 35 [] [AggA [SlcA kNodeType a0.fNodes, SlcA kEdgeType a0.fEdges], AggA [SlcA kInt a1.fNodes, SlcA kEdge a1.fEdges], AggA [SlcA kInt a2.fNodes, SlcA kEdge a2.fEdges]] (RA (EqA (.int .i64 r))) := by
 unfold ref17_given at h
 refine Con.of (N := 39) Tryz.func35 rfl rfl rfl fun w0_ fg_ => W.seq <| W.region <| WL.p rfl rfl rfl (.s 0 rfl .nil) (q_box rfl (CellsOf.agg _)) <| WL.p rfl rfl rfl (.s 1 rfl .nil) (q_box rfl (CellsOf.agg _)) <| WL.p rfl rfl rfl (.s 2 rfl .nil) (q_box rfl (CellsOf.agg _)) <| WL.p rfl rfl rfl (.k .nil) (q_assign rfl) <| WL.nil <| QN.then_ <| W.seq <| W.seq <| W.region <| WL.p rfl rfl rfl (.s 3 rfl .nil) (q_loadS rfl sh25 (leB rfl) rfl) ?_
 obtain ⟨t6172, ht6172, h⟩ := bind_s h
 refine WL.p rfl rfl rfl (.s 12 rfl .nil) (q_call (f := 55) (A := TupA [EqA (strV t6172.1), EqA (.int .i64 t6172.2)]) (xs := [.tmp 12]) («as» := [AggA [SlcA kNodeType a0.fNodes, SlcA kEdgeType a0.fEdges]]) rfl ca55 (ref04_Valid.con k a0 t6172 ht6172) rfl) <| WL.p rfl rfl rfl (.s 13 rfl .nil) (q_move rfl) <| WL.p rfl rfl rfl (.s 11 rfl .nil) (q_extract rfl rfl) <| WL.p rfl rfl rfl (.s 11 rfl .nil) (q_extract rfl rfl) <| WL.p rfl rfl rfl (.s 14 rfl .nil) (q_assign rfl) <| WL.p rfl rfl rfl (.s 15 rfl .nil) (q_assign rfl) <| WL.nil <| QN.weaken (env' := [(8, _), (5, _), (4, _), (3, _)]) (.one rfl (.one rfl (.one rfl (.one rfl (.nil _))))) <| QN.then_ <| W.seq <| W.region <| WL.p rfl rfl rfl (.s 8 rfl .nil) (q_move rfl) <| WL.p rfl rfl rfl (.s 16 rfl (.k .nil)) (q_int rfl rfl) ?_
 refine WL.nil <| QN.then_ ?_
 refine W.condP h rfl (fun hb6173 h => ?_) (fun hb6173 h => ?_)
 ·refine W.seq <| W.region <| WL.p rfl rfl rfl (.s 8 rfl .nil) (q_move rfl) <| WL.p rfl rfl rfl (.s 18 rfl .nil) (q_assign rfl) <| WL.nil <| QN.weaken (env' := [(6, _)]) (.one rfl (.nil _)) <| QN.then_ <| W.ret <| QR.then_ ?_
  cases h
  exact QR.f1 rfl rfl (.t rfl) (.id _)
 ·refine W.skip <| QN.then_ <| W.seq <| W.seq <| W.region <| WL.p rfl rfl rfl (.s 4 rfl .nil) (q_loadS rfl sh29 (leB rfl) rfl) ?_
  obtain ⟨t6174, ht6174, h⟩ := bind_s h
  refine WL.p rfl rfl rfl (.s 19 rfl .nil) (q_call (f := 41) (A := EqA (.int .i64 t6174)) (xs := [.tmp 19]) («as» := [AggA [SlcA kInt a1.fNodes, SlcA kEdge a1.fEdges]]) rfl ca41 (ref05_Valid.con k a1 t6174 ht6174) rfl) <| WL.p rfl rfl rfl (.s 20 rfl .nil) (q_assign rfl) <| WL.nil <| QN.then_ <| W.seq <| W.region <| WL.p rfl rfl rfl (.s 9 rfl .nil) (q_move rfl) <| WL.p rfl rfl rfl (.s 21 rfl (.k .nil)) (q_int rfl rfl) <| WL.nil <| QN.then_ ?_
  refine W.condP h rfl (fun hb6175 h => ?_) (fun hb6175 h => ?_)
  ·refine W.seq <| W.region <| WL.p rfl rfl rfl (.s 9 rfl .nil) (q_move rfl) <| WL.p rfl rfl rfl (.s 23 rfl .nil) (q_assign rfl) <| WL.nil <| QN.weaken (env' := [(6, _)]) (.one rfl (.nil _)) <| QN.then_ <| W.ret <| QR.then_ ?_
   cases h
   exact QR.f1 rfl rfl (.t rfl) (.id _)
  ·refine W.skip <| QN.weaken (env' := [(5, _), (4, _), (3, _)]) (.one rfl (.one rfl (.one rfl (.nil _)))) <| QN.then_ <| W.seq <| W.seq <| W.region <| WL.p rfl rfl rfl (.s 5 rfl .nil) (q_loadS rfl sh29 (leB rfl) rfl) ?_
   obtain ⟨t6176, ht6176, h⟩ := bind_s h
   refine WL.p rfl rfl rfl (.s 24 rfl .nil) (q_call (f := 41) (A := EqA (.int .i64 t6176)) (xs := [.tmp 24]) («as» := [AggA [SlcA kInt a2.fNodes, SlcA kEdge a2.fEdges]]) rfl ca41 (ref05_Valid.con k a2 t6176 ht6176) rfl) <| WL.p rfl rfl rfl (.s 25 rfl .nil) (q_assign rfl) <| WL.nil <| QN.then_ <| W.seq <| W.region <| WL.p rfl rfl rfl (.s 10 rfl .nil) (q_move rfl) <| WL.p rfl rfl rfl (.s 26 rfl (.k .nil)) (q_int rfl rfl) <| WL.nil <| QN.then_ ?_
   refine W.condP h rfl (fun hb6177 h => ?_) (fun hb6177 h => ?_)
   ·refine W.seq <| W.region <| WL.p rfl rfl rfl (.s 10 rfl .nil) (q_move rfl) <| WL.p rfl rfl rfl (.s 28 rfl .nil) (q_assign rfl) <| WL.nil <| QN.weaken (env' := [(6, _)]) (.one rfl (.nil _)) <| QN.then_ <| W.ret <| QR.then_ ?_
    cases h
    exact QR.f1 rfl rfl (.t rfl) (.id _)
   ·refine W.skip <| QN.then_ <| W.seq <| W.seq ?_
    refine W.jn1 (Γ := Unit) (fun (_ : Unit) (x38 : Bool) => [(38, EqA (.bool x38))]) (fun (_ : Unit) (_ : Bool) => []) h (fun _ x38 h => ?_) (fun j6182 Kj6182 h => ?_)
    ·refine QN.then_ ?_
     refine W.condP h rfl (fun hb6183 h => ?_) (fun hb6183 h => ?_)
     ·refine W.seq <| W.region <| WL.p rfl rfl rfl (.k .nil) (q_assign rfl) <| WL.nil <| QN.then_ <| W.ret <| QR.then_ ?_
      cases h
      exact QR.f1 rfl rfl (.t rfl) (.id _)
     ·refine W.skip <| QN.then_ <| W.seq <| W.region <| WL.p rfl rfl rfl (.k .nil) (q_assign rfl) <| WL.nil <| QN.then_ <| W.ret ?_
      cases h
      exact QR.f1 rfl rfl (.t rfl) (.id _)
    ·refine W.region <| WL.p rfl rfl rfl (.s 3 rfl .nil) (q_loadS rfl sh25 (leB rfl) rfl) <| WL.p rfl rfl rfl (.s 4 rfl .nil) (q_loadS rfl sh29 (leB rfl) rfl) ?_
     obtain ⟨t6184, ht6184, h⟩ := bind_s h
     refine WL.p rfl rfl rfl (.s 29 rfl (.s 30 rfl .nil)) (q_call (f := 56) (A := EqA (.bool t6184)) (xs := [.tmp 29, .tmp 30]) («as» := [AggA [SlcA kNodeType a0.fNodes, SlcA kEdgeType a0.fEdges], AggA [SlcA kInt a1.fNodes, SlcA kEdge a1.fEdges]]) rfl ca56 (ref17_Typed.con k a0 a1 t6184 ht6184) rfl) <| WL.p rfl rfl rfl (.s 31 rfl .nil) (q_not rfl) <| WL.p rfl rfl rfl (.s 32 rfl .nil) (q_move rfl) ?_
     rcases bif_s h with ⟨hb6185, h⟩ | ⟨hb6185, h⟩
     ·refine WL.skip (Unwanted.on rfl rfl rfl hb6185) rfl rfl <| WL.skip (Unwanted.on rfl rfl rfl hb6185) rfl rfl <| WL.skip (Unwanted.on rfl rfl rfl hb6185) rfl rfl <| WL.skip (Unwanted.on rfl rfl rfl hb6185) rfl rfl <| WL.p rfl rfl rfl (.s 33 rfl (.k .nil)) (q_pickT rfl hb6185) <| WL.nil ?_
      exact QN.weaken (.one rfl (.nil _)) (Kj6182 () true h)
     ·refine WL.q (Wanted.on rfl rfl rfl hb6185) rfl rfl (.s 3 rfl .nil) (q_loadS rfl sh25 (leB rfl) rfl).o <| WL.q (Wanted.on rfl rfl rfl hb6185) rfl rfl (.s 5 rfl .nil) (q_loadS rfl sh29 (leB rfl) rfl).o ?_
      obtain ⟨t6186, ht6186, h⟩ := bind_s h
      refine WL.q (Wanted.on rfl rfl rfl hb6185) rfl rfl (.s 34 rfl (.s 35 rfl .nil)) (q_call (f := 56) (A := EqA (.bool t6186)) (xs := [.tmp 34, .tmp 35]) («as» := [AggA [SlcA kNodeType a0.fNodes, SlcA kEdgeType a0.fEdges], AggA [SlcA kInt a2.fNodes, SlcA kEdge a2.fEdges]]) rfl ca56 (ref17_Typed.con k a0 a2 t6186 ht6186) rfl).o <| WL.q (Wanted.on rfl rfl rfl hb6185) rfl rfl (.s 36 rfl .nil) (q_not rfl).o <| WL.p rfl rfl rfl (.s 33 rfl (.s 37 rfl .nil)) (q_pickF rfl hb6185) <| WL.nil ?_
      exact QN.weaken (.one rfl (.nil _)) (Kj6182 () (!t6186) h)
theorem ref17_Light.con (k : Nat) (a0 : Types) (a1 : Graph) (a2 : Graph) (r : Bool) (h : ref17_Light k a0 a1 a2 = some r) : Con Tryz.prog 10 [] [AggA [SlcA kNodeType a0.fNodes, SlcA kEdgeType a0.fEdges], AggA [SlcA kInt a1.fNodes, SlcA kEdge a1.fEdges], AggA [SlcA kInt a2.fNodes, SlcA kEdge a2.fEdges]] (RA (EqA (.bool r))) := by
 unfold ref17_Light at h
 refine Con.of (N := 46) Tryz.func10 rfl rfl rfl fun w0_ fg_ => W.seq <| W.region <| WL.p rfl rfl rfl (.s 0 rfl .nil) (q_box rfl (CellsOf.agg _)) <| WL.p rfl rfl rfl (.s 1 rfl .nil) (q_box rfl (CellsOf.agg _)) <| WL.p rfl rfl rfl (.s 2 rfl .nil) (q_box rfl (CellsOf.agg _)) <| WL.p rfl rfl rfl (.k .nil) (q_assign rfl) <| WL.nil <| QN.then_ <| W.seq ?_
 refine W.jn1 (Γ := Unit) (fun (_ : Unit) (x6 : Bool) => [(6, EqA (.bool x6))]) (fun (_ : Unit) (_ : Bool) => []) h (fun _ x6 h => ?_) (fun j6199 Kj6199 h => ?_)
 ·refine QN.then_ <| W.ret ?_
  cases h
  exact QR.f1 rfl rfl (.t rfl) (.id _)
 ·refine W.region <| WL.p rfl rfl rfl (.s 3 rfl .nil) (q_loadS rfl sh25 (leB rfl) rfl) ?_
  obtain ⟨t6200, ht6200, h⟩ := bind_s h
  refine WL.p rfl rfl rfl (.s 7 rfl .nil) (q_call (f := 33) (A := EqA (.bool t6200)) (xs := [.tmp 7]) («as» := [AggA [SlcA kNodeType a0.fNodes, SlcA kEdgeType a0.fEdges]]) rfl ca33 (ref04_Few.con k a0 t6200 ht6200) rfl) <| WL.p rfl rfl rfl (.s 8 rfl .nil) (q_move rfl) ?_
  rcases bif_s h with ⟨hb6201, h⟩ | ⟨hb6201, h⟩
  ·refine WL.q (Wanted.on rfl rfl rfl hb6201) rfl rfl (.s 4 rfl .nil) (q_loadS rfl sh29 (leB rfl) rfl).o ?_
   obtain ⟨t6202, ht6202, h⟩ := bind_s h
   refine WL.q (Wanted.on rfl rfl rfl hb6201) rfl rfl (.s 10 rfl .nil) (q_call (f := 34) (A := EqA (.bool t6202)) (xs := [.tmp 10]) («as» := [AggA [SlcA kInt a1.fNodes, SlcA kEdge a1.fEdges]]) rfl ca34 (ref05_Few.con k a1 t6202 ht6202) rfl).o <| WL.p rfl rfl rfl (.s 9 rfl (.s 11 rfl .nil)) (q_pickT rfl hb6201) <| WL.p rfl rfl rfl (.s 12 rfl .nil) (q_move rfl) ?_
   rcases bif_s h with ⟨hb6203, h⟩ | ⟨hb6203, h⟩
   ·refine WL.q (Wanted.on rfl rfl rfl hb6203) rfl rfl (.s 5 rfl .nil) (q_loadS rfl sh29 (leB rfl) rfl).o ?_
    obtain ⟨t6204, ht6204, h⟩ := bind_s h
    refine WL.q (Wanted.on rfl rfl rfl hb6203) rfl rfl (.s 14 rfl .nil) (q_call (f := 34) (A := EqA (.bool t6204)) (xs := [.tmp 14]) («as» := [AggA [SlcA kInt a2.fNodes, SlcA kEdge a2.fEdges]]) rfl ca34 (ref05_Few.con k a2 t6204 ht6204) rfl).o <| WL.p rfl rfl rfl (.s 13 rfl (.s 15 rfl .nil)) (q_pickT rfl hb6203) <| WL.p rfl rfl rfl (.s 16 rfl .nil) (q_move rfl) ?_
    rcases bif_s h with ⟨hb6205, h⟩ | ⟨hb6205, h⟩
    ·refine WL.q (Wanted.on rfl rfl rfl hb6205) rfl rfl (.s 3 rfl .nil) (q_loadS rfl sh25 (leB rfl) rfl).o <| WL.q (Wanted.on rfl rfl rfl hb6205) rfl rfl (.s 4 rfl .nil) (q_loadS rfl sh29 (leB rfl) rfl).o <| WL.q (Wanted.on rfl rfl rfl hb6205) rfl rfl (.s 5 rfl .nil) (q_loadS rfl sh29 (leB rfl) rfl).o ?_
     obtain ⟨t6206, ht6206, h⟩ := bind_s h
     refine WL.q (Wanted.on rfl rfl rfl hb6205) rfl rfl (.s 18 rfl (.s 19 rfl (.s 20 rfl .nil))) (q_call (f := 35) (A := EqA (.int .i64 t6206)) (xs := [.tmp 18, .tmp 19, .tmp 20]) («as» := [AggA [SlcA kNodeType a0.fNodes, SlcA kEdgeType a0.fEdges], AggA [SlcA kInt a1.fNodes, SlcA kEdge a1.fEdges], AggA [SlcA kInt a2.fNodes, SlcA kEdge a2.fEdges]]) rfl ca35 (ref17_given.con k a0 a1 a2 t6206 ht6206) rfl).o <| WL.q (Wanted.on rfl rfl rfl hb6205) rfl rfl (.s 21 rfl (.k .nil)) (q_int rfl rfl).o <| WL.q (Wanted.on rfl rfl rfl hb6205) rfl rfl (.s 22 rfl .nil) (q_move rfl).o ?_
     rcases bif_s h with ⟨hb6207, h⟩ | ⟨hb6207, h⟩
     ·refine WL.skip (Unwanted.on rfl rfl rfl hb6207) rfl rfl <| WL.skip (Unwanted.on rfl rfl rfl hb6207) rfl rfl <| WL.skip (Unwanted.on rfl rfl rfl hb6207) rfl rfl <| WL.skip (Unwanted.on rfl rfl rfl hb6207) rfl rfl <| WL.skip (Unwanted.on rfl rfl rfl hb6207) rfl rfl <| WL.skip (Unwanted.on rfl rfl rfl hb6207) rfl rfl <| WL.skip (Unwanted.on rfl rfl rfl hb6207) rfl rfl <| WL.skip (Unwanted.on rfl rfl rfl hb6207) rfl rfl <| WL.skip (Unwanted.on rfl rfl rfl hb6207) rfl rfl <| WL.skip (Unwanted.und rfl rfl rfl) rfl rfl <| WL.skip (Unwanted.und rfl rfl rfl) rfl rfl <| WL.skip (Unwanted.und rfl rfl rfl) rfl rfl <| WL.skip (Unwanted.und rfl rfl rfl) rfl rfl ?_
      refine WL.skip (Unwanted.on rfl rfl rfl hb6207) rfl rfl <| WL.skip (Unwanted.on rfl rfl rfl hb6207) rfl rfl <| WL.skip (Unwanted.und rfl rfl rfl) rfl rfl <| WL.skip (Unwanted.und rfl rfl rfl) rfl rfl <| WL.skip (Unwanted.und rfl rfl rfl) rfl rfl <| WL.skip (Unwanted.und rfl rfl rfl) rfl rfl <| WL.skip (Unwanted.on rfl rfl rfl hb6207) rfl rfl <| WL.q (Wanted.on rfl rfl rfl hb6205) rfl rfl (.s 23 rfl (.k .nil)) (q_pickT rfl hb6207).o <| WL.p rfl rfl rfl (.s 17 rfl (.s 44 rfl .nil)) (q_pickT rfl hb6205) <| WL.p rfl rfl rfl (.s 45 rfl .nil) (q_assign rfl) <| WL.nil ?_
      exact QN.weaken (.one rfl (.nil _)) (Kj6199 () true h)
     ·refine WL.q (Wanted.on rfl rfl rfl hb6207) rfl rfl (.s 4 rfl .nil) (q_field rfl fo29_0 rfl).o <| WL.q (Wanted.on rfl rfl rfl hb6207) rfl rfl (.s 24 rfl .nil) (q_load rfl sh26).o <| WL.q (Wanted.on rfl rfl rfl hb6207) rfl rfl (.s 25 rfl .nil) (q_len rfl elS26).o <| WL.q (Wanted.on rfl rfl rfl hb6207) rfl rfl (.s 4 rfl .nil) (q_field rfl fo29_1 rfl).o <| WL.q (Wanted.on rfl rfl rfl hb6207) rfl rfl (.s 27 rfl .nil) (q_load rfl sh27).o <| WL.q (Wanted.on rfl rfl rfl hb6207) rfl rfl (.s 28 rfl .nil) (q_len rfl elS27).o ?_
      obtain ⟨c6208, h⟩ := ite_n h
      refine WL.q (Wanted.on rfl rfl rfl hb6207) rfl rfl (.s 26 rfl (.s 29 rfl .nil)) (q_addR rfl c6208).o <| WL.q (Wanted.on rfl rfl rfl hb6207) rfl rfl (.s 30 rfl (.k .nil)) (q_int rfl rfl).o <| WL.q (Wanted.on rfl rfl rfl hb6207) rfl rfl (.s 31 rfl .nil) (q_move rfl).o ?_
      rcases bif_s h with ⟨hb6209, h⟩ | ⟨hb6209, h⟩
      ·refine WL.q (Wanted.on rfl rfl rfl hb6209) rfl rfl (.s 5 rfl .nil) (q_field rfl fo29_0 rfl).o <| WL.q (Wanted.on rfl rfl rfl hb6209) rfl rfl (.s 33 rfl .nil) (q_load rfl sh26).o <| WL.q (Wanted.on rfl rfl rfl hb6209) rfl rfl (.s 34 rfl .nil) (q_len rfl elS26).o <| WL.q (Wanted.on rfl rfl rfl hb6209) rfl rfl (.s 35 rfl (.k .nil)) (q_int rfl rfl).o <| WL.q (Wanted.on rfl rfl rfl hb6207) rfl rfl (.s 32 rfl (.s 36 rfl .nil)) (q_pickT rfl hb6209).o <| WL.q (Wanted.on rfl rfl rfl hb6207) rfl rfl (.s 37 rfl .nil) (q_move rfl).o ?_
       rcases bif_s h with ⟨hb6210, h⟩ | ⟨hb6210, h⟩
       ·refine WL.q (Wanted.on rfl rfl rfl hb6210) rfl rfl (.s 5 rfl .nil) (q_field rfl fo29_1 rfl).o <| WL.q (Wanted.on rfl rfl rfl hb6210) rfl rfl (.s 39 rfl .nil) (q_load rfl sh27).o <| WL.q (Wanted.on rfl rfl rfl hb6210) rfl rfl (.s 40 rfl .nil) (q_len rfl elS27).o <| WL.q (Wanted.on rfl rfl rfl hb6210) rfl rfl (.s 41 rfl (.k .nil)) (q_int rfl rfl).o <| WL.q (Wanted.on rfl rfl rfl hb6207) rfl rfl (.s 38 rfl (.s 42 rfl .nil)) (q_pickT rfl hb6210).o <| WL.q (Wanted.on rfl rfl rfl hb6205) rfl rfl (.s 23 rfl (.s 43 rfl .nil)) (q_pickF rfl hb6207).o <| WL.p rfl rfl rfl (.s 17 rfl (.s 44 rfl .nil)) (q_pickT rfl hb6205) <| WL.p rfl rfl rfl (.s 45 rfl .nil) (q_assign rfl) <| WL.nil ?_
        exact QN.weaken (.one rfl (.nil _)) (Kj6199 () (decide ((a2.fEdges.length : Int) ≤ 12)) h)
       ·refine WL.skip (Unwanted.on rfl rfl rfl hb6210) rfl rfl <| WL.skip (Unwanted.on rfl rfl rfl hb6210) rfl rfl <| WL.skip (Unwanted.on rfl rfl rfl hb6210) rfl rfl <| WL.skip (Unwanted.on rfl rfl rfl hb6210) rfl rfl <| WL.q (Wanted.on rfl rfl rfl hb6207) rfl rfl (.s 38 rfl (.k .nil)) (q_pickF rfl hb6210).o <| WL.q (Wanted.on rfl rfl rfl hb6205) rfl rfl (.s 23 rfl (.s 43 rfl .nil)) (q_pickF rfl hb6207).o <| WL.p rfl rfl rfl (.s 17 rfl (.s 44 rfl .nil)) (q_pickT rfl hb6205) <| WL.p rfl rfl rfl (.s 45 rfl .nil) (q_assign rfl) <| WL.nil ?_
        exact QN.weaken (.one rfl (.nil _)) (Kj6199 () false h)
      ·refine WL.skip (Unwanted.on rfl rfl rfl hb6209) rfl rfl <| WL.skip (Unwanted.on rfl rfl rfl hb6209) rfl rfl <| WL.skip (Unwanted.on rfl rfl rfl hb6209) rfl rfl <| WL.skip (Unwanted.on rfl rfl rfl hb6209) rfl rfl <| WL.q (Wanted.on rfl rfl rfl hb6207) rfl rfl (.s 32 rfl (.k .nil)) (q_pickF rfl hb6209).o <| WL.q (Wanted.on rfl rfl rfl hb6207) rfl rfl (.s 37 rfl .nil) (q_move rfl).o <| WL.skip (Unwanted.on rfl rfl rfl rfl) rfl rfl <| WL.skip (Unwanted.on rfl rfl rfl rfl) rfl rfl <| WL.skip (Unwanted.on rfl rfl rfl rfl) rfl rfl <| WL.skip (Unwanted.on rfl rfl rfl rfl) rfl rfl <| WL.q (Wanted.on rfl rfl rfl hb6207) rfl rfl (.s 38 rfl (.k .nil)) (q_pickF rfl rfl).o <| WL.q (Wanted.on rfl rfl rfl hb6205) rfl rfl (.s 23 rfl (.s 43 rfl .nil)) (q_pickF rfl hb6207).o <| WL.p rfl rfl rfl (.s 17 rfl (.s 44 rfl .nil)) (q_pickT rfl hb6205) ?_
       refine WL.p rfl rfl rfl (.s 45 rfl .nil) (q_assign rfl) <| WL.nil ?_
       exact QN.weaken (.one rfl (.nil _)) (Kj6199 () false h)
    ·refine WL.skip (Unwanted.on rfl rfl rfl hb6205) rfl rfl <| WL.skip (Unwanted.on rfl rfl rfl hb6205) rfl rfl <| WL.skip (Unwanted.on rfl rfl rfl hb6205) rfl rfl <| WL.skip (Unwanted.on rfl rfl rfl hb6205) rfl rfl <| WL.skip (Unwanted.on rfl rfl rfl hb6205) rfl rfl <| WL.skip (Unwanted.on rfl rfl rfl hb6205) rfl rfl <| WL.skip (Unwanted.und rfl rfl rfl) rfl rfl <| WL.skip (Unwanted.und rfl rfl rfl) rfl rfl <| WL.skip (Unwanted.und rfl rfl rfl) rfl rfl <| WL.skip (Unwanted.und rfl rfl rfl) rfl rfl <| WL.skip (Unwanted.und rfl rfl rfl) rfl rfl <| WL.skip (Unwanted.und rfl rfl rfl) rfl rfl <| WL.skip (Unwanted.und rfl rfl rfl) rfl rfl ?_
     refine WL.skip (Unwanted.und rfl rfl rfl) rfl rfl <| WL.skip (Unwanted.und rfl rfl rfl) rfl rfl <| WL.skip (Unwanted.und rfl rfl rfl) rfl rfl <| WL.skip (Unwanted.und rfl rfl rfl) rfl rfl <| WL.skip (Unwanted.und rfl rfl rfl) rfl rfl <| WL.skip (Unwanted.und rfl rfl rfl) rfl rfl <| WL.skip (Unwanted.und rfl rfl rfl) rfl rfl <| WL.skip (Unwanted.und rfl rfl rfl) rfl rfl <| WL.skip (Unwanted.und rfl rfl rfl) rfl rfl <| WL.skip (Unwanted.und rfl rfl rfl) rfl rfl <| WL.skip (Unwanted.und rfl rfl rfl) rfl rfl <| WL.skip (Unwanted.und rfl rfl rfl) rfl rfl <| WL.skip (Unwanted.und rfl rfl rfl) rfl rfl ?_
     refine WL.skip (Unwanted.on rfl rfl rfl hb6205) rfl rfl <| WL.p rfl rfl rfl (.s 17 rfl (.k .nil)) (q_pickF rfl hb6205) <| WL.p rfl rfl rfl (.s 45 rfl .nil) (q_assign rfl) <| WL.nil ?_
     exact QN.weaken (.one rfl (.nil _)) (Kj6199 () false h)
   ·refine WL.skip (Unwanted.on rfl rfl rfl hb6203) rfl rfl <| WL.skip (Unwanted.on rfl rfl rfl hb6203) rfl rfl <| WL.p rfl rfl rfl (.s 13 rfl (.k .nil)) (q_pickF rfl hb6203) <| WL.p rfl rfl rfl (.s 16 rfl .nil) (q_move rfl) <| WL.skip (Unwanted.on rfl rfl rfl rfl) rfl rfl <| WL.skip (Unwanted.on rfl rfl rfl rfl) rfl rfl <| WL.skip (Unwanted.on rfl rfl rfl rfl) rfl rfl <| WL.skip (Unwanted.on rfl rfl rfl rfl) rfl rfl <| WL.skip (Unwanted.on rfl rfl rfl rfl) rfl rfl <| WL.skip (Unwanted.on rfl rfl rfl rfl) rfl rfl <| WL.skip (Unwanted.und rfl rfl rfl) rfl rfl <| WL.skip (Unwanted.und rfl rfl rfl) rfl rfl <| WL.skip (Unwanted.und rfl rfl rfl) rfl rfl ?_
    refine WL.skip (Unwanted.und rfl rfl rfl) rfl rfl <| WL.skip (Unwanted.und rfl rfl rfl) rfl rfl <| WL.skip (Unwanted.und rfl rfl rfl) rfl rfl <| WL.skip (Unwanted.und rfl rfl rfl) rfl rfl <| WL.skip (Unwanted.und rfl rfl rfl) rfl rfl <| WL.skip (Unwanted.und rfl rfl rfl) rfl rfl <| WL.skip (Unwanted.und rfl rfl rfl) rfl rfl <| WL.skip (Unwanted.und rfl rfl rfl) rfl rfl <| WL.skip (Unwanted.und rfl rfl rfl) rfl rfl <| WL.skip (Unwanted.und rfl rfl rfl) rfl rfl <| WL.skip (Unwanted.und rfl rfl rfl) rfl rfl <| WL.skip (Unwanted.und rfl rfl rfl) rfl rfl <| WL.skip (Unwanted.und rfl rfl rfl) rfl rfl ?_
    refine WL.skip (Unwanted.und rfl rfl rfl) rfl rfl <| WL.skip (Unwanted.und rfl rfl rfl) rfl rfl <| WL.skip (Unwanted.und rfl rfl rfl) rfl rfl <| WL.skip (Unwanted.und rfl rfl rfl) rfl rfl <| WL.skip (Unwanted.on rfl rfl rfl rfl) rfl rfl <| WL.p rfl rfl rfl (.s 17 rfl (.k .nil)) (q_pickF rfl rfl) <| WL.p rfl rfl rfl (.s 45 rfl .nil) (q_assign rfl) <| WL.nil ?_
    exact QN.weaken (.one rfl (.nil _)) (Kj6199 () false h)
  ·refine WL.skip (Unwanted.on rfl rfl rfl hb6201) rfl rfl <| WL.skip (Unwanted.on rfl rfl rfl hb6201) rfl rfl <| WL.p rfl rfl rfl (.s 9 rfl (.k .nil)) (q_pickF rfl hb6201) <| WL.p rfl rfl rfl (.s 12 rfl .nil) (q_move rfl) <| WL.skip (Unwanted.on rfl rfl rfl rfl) rfl rfl <| WL.skip (Unwanted.on rfl rfl rfl rfl) rfl rfl <| WL.p rfl rfl rfl (.s 13 rfl (.k .nil)) (q_pickF rfl rfl) <| WL.p rfl rfl rfl (.s 16 rfl .nil) (q_move rfl) <| WL.skip (Unwanted.on rfl rfl rfl rfl) rfl rfl <| WL.skip (Unwanted.on rfl rfl rfl rfl) rfl rfl <| WL.skip (Unwanted.on rfl rfl rfl rfl) rfl rfl <| WL.skip (Unwanted.on rfl rfl rfl rfl) rfl rfl <| WL.skip (Unwanted.on rfl rfl rfl rfl) rfl rfl ?_
   refine WL.skip (Unwanted.on rfl rfl rfl rfl) rfl rfl <| WL.skip (Unwanted.und rfl rfl rfl) rfl rfl <| WL.skip (Unwanted.und rfl rfl rfl) rfl rfl <| WL.skip (Unwanted.und rfl rfl rfl) rfl rfl <| WL.skip (Unwanted.und rfl rfl rfl) rfl rfl <| WL.skip (Unwanted.und rfl rfl rfl) rfl rfl <| WL.skip (Unwanted.und rfl rfl rfl) rfl rfl <| WL.skip (Unwanted.und rfl rfl rfl) rfl rfl <| WL.skip (Unwanted.und rfl rfl rfl) rfl rfl <| WL.skip (Unwanted.und rfl rfl rfl) rfl rfl <| WL.skip (Unwanted.und rfl rfl rfl) rfl rfl <| WL.skip (Unwanted.und rfl rfl rfl) rfl rfl <| WL.skip (Unwanted.und rfl rfl rfl) rfl rfl ?_
   refine WL.skip (Unwanted.und rfl rfl rfl) rfl rfl <| WL.skip (Unwanted.und rfl rfl rfl) rfl rfl <| WL.skip (Unwanted.und rfl rfl rfl) rfl rfl <| WL.skip (Unwanted.und rfl rfl rfl) rfl rfl <| WL.skip (Unwanted.und rfl rfl rfl) rfl rfl <| WL.skip (Unwanted.und rfl rfl rfl) rfl rfl <| WL.skip (Unwanted.und rfl rfl rfl) rfl rfl <| WL.skip (Unwanted.und rfl rfl rfl) rfl rfl <| WL.skip (Unwanted.on rfl rfl rfl rfl) rfl rfl <| WL.p rfl rfl rfl (.s 17 rfl (.k .nil)) (q_pickF rfl rfl) <| WL.p rfl rfl rfl (.s 45 rfl .nil) (q_assign rfl) <| WL.nil ?_
   exact QN.weaken (.one rfl (.nil _)) (Kj6199 () false h)
end Go.Proofs.YtelpgjfojhcjcaaGreat
