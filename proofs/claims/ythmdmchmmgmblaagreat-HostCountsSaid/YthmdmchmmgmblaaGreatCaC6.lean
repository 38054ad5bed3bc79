/- The Go functions compute the pure ones. (Printed by gen.py.) -/
import Derived.Test.YthmdmchmmgmblaaGreatCaC5
namespace Go.Proofs.YthmdmchmmgmblaaGreat
open Go Go.Abs
attribute [local irreducible] Tryz.prog
theorem ref15_concrete.con (k : Nat) (a0 : Types) (r : (List Int)) (h : ref15_concrete k a0 = some r) : Con Tryz.prog 67 [] [AggA [SlcA kNodeType a0.fNodes, SlcA kEdgeType a0.fEdges]] (RA (SlcA kInt r)) := by
 unfold ref15_concrete at h
 refine Con.of (N := 24) Tryz.func67 rfl rfl rfl fun w0_ fg_ => sr <| p1 rfl 0 rfl (q_box rfl (CellsOf.agg _)) <| ak rfl <| nx <| ak rfl <| nt <| W.seq ?_
 refine sr <| ak rfl <| nt <| W.block <| W.to (StTo.newNil 3 kInt) <| W.to (StTo.as 3 rfl Imp.nilHd) ?_
 refine W.loop2 (Γ := Value) (fun (g0 : Value) (_ : (List Int)) (x4 : Int) => [(1, PtrA [SlcA kNodeType a0.fNodes, SlcA kEdgeType a0.fEdges]), (3, HdA g0), (4, iA x4)]) (fun (g0 : Value) (x3 : (List Int)) (_ : Int) => [SlE 3 g0 kInt x3]) h (.slice none 0 0) (.o2 rfl (.one rfl (.nil _))) rfl (fun rec0 K0 next0 g0 x3 x4 h => ?_)
 unfold ref15_concrete.b0 at h
 refine W.seq <| sr <| mv rfl rfl <| fd rfl rfl fo25_0 rfl <| ld rfl rfl sh22 <| p1 rfl 7 rfl (q_len rfl elS22) <| p2 rfl 5 rfl 8 rfl (q_int rfl rfl) <| nt ?_
 refine W.condP h rfl (fun hb128 h => ?_) (fun hb128 h => ?_)
 ·refine W.skip <| QN.then_ <| W.seq <| W.block <| sr <| fd rfl rfl fo25_0 rfl <| ld rfl rfl sh22 <| mv rfl rfl ?_
  obtain ⟨c129, h⟩ := ite_n h
  refine p2 rfl 13 rfl 14 rfl (q_index rfl el22 rfl c129.1 c129.2) <| fd rfl rfl fo120_2 rfl <| ld rfl rfl sh4 <| p1 rfl 17 rfl (q_not rfl) <| WL.nil <| QN.weaken (env' := [(18, _), (4, _), (3, _), (1, _)]) (.o4 rfl (.nil _)) <| QN.then_ ?_
  refine W.condP h rfl (fun hb133 h => ?_) (fun hb133 h => ?_)
  ·refine W.region <| mv rfl rfl <| mv rfl rfl <| p1 rfl 20 rfl (q_lit (kd := kInt) (ps := [(0, .tmp 20)]) (xs := [.tmp 20]) («as» := [iA x4]) (ys := [x4]) rfl rfl el26 rfl gr3 rfl rfl rfl (.cons (CellsOf.one rfl) .nil)) ?_
   obtain ⟨c134, h⟩ := ite_n h
   refine WL.w [0] rfl (Wanted.plain rfl) rfl rfl (.s 19 rfl (.s 21 rfl .nil)) (w_append (kd := kInt) rfl el26 rfl gr3 c134) ?_
   rintro _ _ ⟨v135, rfl, rfl⟩
   refine av rfl rfl <| WL.nil <| QN.block <| QN.then_ <| W.region <| mv rfl rfl ?_
   obtain ⟨c136, h⟩ := ite_n h
   refine pk rfl 10 rfl (q_addR rfl c136) <| av rfl rfl <| WL.nil ?_
   exact next0 v135 (x3 ++ [x4]) (x4 + 1) _ h (.o2 rfl (.one rfl (.nil _)))
  ·refine W.skip <| QN.block <| QN.then_ <| W.region <| mv rfl rfl ?_
   obtain ⟨c137, h⟩ := ite_n h
   refine pk rfl 10 rfl (q_addR rfl c137) <| av rfl rfl <| WL.nil ?_
   exact next0 g0 x3 (x4 + 1) _ h (.o2 rfl (.one rfl (.nil _)))
 ·refine W.exit <| QX.then_ <| QX.then_ <| QX.here <| QN.weaken (env' := [(3, _)]) (.one rfl (.nil _)) <| QN.then_ <| sr <| mv rfl rfl <| av rfl rfl <| nt <| W.ret ?_
  cases h
  exact QR.f1 rfl rfl (.t rfl) (.slc 0 rfl)
theorem ref01_text.con (k : Nat) (a0 : Token) (r : Str) (h : ref01_text k a0 = some r) : Con Tryz.prog 169 [] [AggA [iA a0.fKind, EqA (strV a0.fText), iA a0.fLine]] (RA (EqA (strV r))) := by
 unfold ref01_text at h
 refine Con.of (N := 12) Tryz.func169 rfl rfl rfl fun w0_ fg_ => sr <| p1 rfl 0 rfl (q_box rfl (CellsOf.agg _)) <| ak rfl <| nt <| W.seq <| sr <| fd rfl rfl fo185_0 rfl <| ld rfl rfl sh3 <| pk rfl 4 rfl (q_int rfl rfl) ?_
 refine nt ?_
 refine W.condP h rfl (fun hb100 h => ?_) (fun hb100 h => ?_)
 ·refine sr <| fd rfl rfl fo185_1 rfl <| ld rfl rfl sh9 ?_
  obtain ⟨c101, h⟩ := ite_n h
  refine WL.p rfl rfl rfl (.k (.s 7 rfl .nil)) (q_sadd (s := ([34] : Str)) (t := a0.fText) rfl c101) ?_
  obtain ⟨c102, h⟩ := ite_n h
  refine pk rfl 8 rfl (q_sadd (s := (([34] : Str) ++ a0.fText)) (t := ([34] : Str)) rfl c102) <| av rfl rfl <| WL.nil <| QN.weaken (env' := [(2, _)]) (.one rfl (.nil _)) <| QN.then_ <| W.ret <| QR.then_ ?_
  cases h
  exact QR.f1 rfl rfl (.t rfl) (.id _)
 ·refine W.skip <| QN.then_ <| sr <| fd rfl rfl fo185_1 rfl <| ld rfl rfl sh9 <| av rfl rfl <| WL.nil <| QN.weaken (env' := [(2, _)]) (.one rfl (.nil _)) <| QN.then_ <| W.ret ?_
  cases h
  exact QR.f1 rfl rfl (.t rfl) (.id _)
theorem ref01_letter.con (k : Nat) (a0 : Int) (r : Bool) (h : ref01_letter k a0 = some r) : Con Tryz.prog 182 [] [EqA (.int .u8 a0)] (RA (bA r)) := by
 unfold ref01_letter at h
 refine Con.of (N := 17) Tryz.func182 rfl rfl rfl fun w0_ fg_ => sr <| ak rfl <| nt <| W.seq ?_
 refine W.jn1 (Γ := Unit) (fun (_ : Unit) (x2 : Bool) => [(2, bA x2)]) (fun (_ : Unit) (_ : Bool) => []) h (fun _ x2 h => ?_) (fun j105 Kj105 h => ?_)
 ·refine QN.then_ <| W.ret ?_
  cases h
  exact QR.f1 rfl rfl (.t rfl) (.id _)
 ·refine W.region <| mv rfl rfl <| pk rfl 3 rfl (q_int rfl rfl) <| mv rfl rfl ?_
  rcases bif_s h with ⟨hb106, h⟩ | ⟨hb106, h⟩
  ·refine wm rfl rfl rfl hb106 rfl rfl <| wq rfl rfl rfl hb106 (.s 6 rfl (.k .nil)) (q_int rfl rfl).o <| p2 rfl 5 rfl 7 rfl (q_pickT rfl hb106) <| mv rfl rfl ?_
   rcases bif_s h with ⟨hb107, h⟩ | ⟨hb107, h⟩
   ·refine sk rfl rfl rfl hb107 <| sk rfl rfl rfl hb107 <| sk rfl rfl rfl hb107 <| su rfl rfl rfl <| su rfl rfl rfl <| sk rfl rfl rfl hb107 <| pk rfl 9 rfl (q_pickT rfl hb107) <| av rfl rfl <| WL.nil ?_
    exact QN.weaken (.one rfl (.nil _)) (Kj105 () true h)
   ·refine wm rfl rfl rfl hb107 rfl rfl <| wq rfl rfl rfl hb107 (.s 10 rfl (.k .nil)) (q_int rfl rfl).o <| wm rfl rfl rfl hb107 rfl rfl ?_
    rcases bif_s h with ⟨hb108, h⟩ | ⟨hb108, h⟩
    ·refine wm rfl rfl rfl hb108 rfl rfl <| wq rfl rfl rfl hb108 (.s 13 rfl (.k .nil)) (q_int rfl rfl).o <| wq rfl rfl rfl hb107 (.s 12 rfl (.s 14 rfl .nil)) (q_pickT rfl hb108).o <| p2 rfl 9 rfl 15 rfl (q_pickF rfl hb107) <| av rfl rfl <| WL.nil ?_
     exact QN.weaken (.one rfl (.nil _)) (Kj105 () (decide (a0 ≤ 90)) h)
    ·refine sk rfl rfl rfl hb108 <| sk rfl rfl rfl hb108 <| wq rfl rfl rfl hb107 (.s 12 rfl (.k .nil)) (q_pickF rfl hb108).o <| p2 rfl 9 rfl 15 rfl (q_pickF rfl hb107) <| av rfl rfl <| WL.nil ?_
     exact QN.weaken (.one rfl (.nil _)) (Kj105 () false h)
  ·refine sk rfl rfl rfl hb106 <| sk rfl rfl rfl hb106 <| pk rfl 5 rfl (q_pickF rfl hb106) <| mv rfl rfl <| wm rfl rfl rfl rfl rfl rfl <| wq rfl rfl rfl rfl (.s 10 rfl (.k .nil)) (q_int rfl rfl).o <| wm rfl rfl rfl rfl rfl rfl ?_
   rcases bif_s h with ⟨hb109, h⟩ | ⟨hb109, h⟩
   ·refine wm rfl rfl rfl hb109 rfl rfl <| wq rfl rfl rfl hb109 (.s 13 rfl (.k .nil)) (q_int rfl rfl).o <| wq rfl rfl rfl rfl (.s 12 rfl (.s 14 rfl .nil)) (q_pickT rfl hb109).o <| p2 rfl 9 rfl 15 rfl (q_pickF rfl rfl) <| av rfl rfl <| WL.nil ?_
    exact QN.weaken (.one rfl (.nil _)) (Kj105 () (decide (a0 ≤ 90)) h)
   ·refine sk rfl rfl rfl hb109 <| sk rfl rfl rfl hb109 <| wq rfl rfl rfl rfl (.s 12 rfl (.k .nil)) (q_pickF rfl hb109).o <| p2 rfl 9 rfl 15 rfl (q_pickF rfl rfl) <| av rfl rfl <| WL.nil ?_
    exact QN.weaken (.one rfl (.nil _)) (Kj105 () false h)
theorem ref01_digit.con (k : Nat) (a0 : Int) (r : Bool) (h : ref01_digit k a0 = some r) : Con Tryz.prog 183 [] [EqA (.int .u8 a0)] (RA (bA r)) := by
 unfold ref01_digit at h
 refine Con.of (N := 9) Tryz.func183 rfl rfl rfl fun w0_ fg_ => sr <| ak rfl <| nt <| W.seq ?_
 refine W.jn1 (Γ := Unit) (fun (_ : Unit) (x2 : Bool) => [(2, bA x2)]) (fun (_ : Unit) (_ : Bool) => []) h (fun _ x2 h => ?_) (fun j102 Kj102 h => ?_)
 ·refine QN.then_ <| W.ret ?_
  cases h
  exact QR.f1 rfl rfl (.t rfl) (.id _)
 ·refine W.region <| mv rfl rfl <| pk rfl 3 rfl (q_int rfl rfl) <| mv rfl rfl ?_
  rcases bif_s h with ⟨hb103, h⟩ | ⟨hb103, h⟩
  ·refine wm rfl rfl rfl hb103 rfl rfl <| wq rfl rfl rfl hb103 (.s 6 rfl (.k .nil)) (q_int rfl rfl).o <| p2 rfl 5 rfl 7 rfl (q_pickT rfl hb103) <| av rfl rfl <| WL.nil ?_
   exact QN.weaken (.one rfl (.nil _)) (Kj102 () (decide (a0 ≤ 57)) h)
  ·refine sk rfl rfl rfl hb103 <| sk rfl rfl rfl hb103 <| pk rfl 5 rfl (q_pickF rfl hb103) <| av rfl rfl <| WL.nil ?_
   exact QN.weaken (.one rfl (.nil _)) (Kj102 () false h)
theorem ref01_run.con (k : Nat) (a0 : Str) (a1 : Int) (a2 : Bool) (r : Int) (h : ref01_run k a0 a1 a2 = some r) : Con Tryz.prog 184 [] [EqA (strV a0), iA a1, bA a2] (RA (iA r)) := by
 unfold ref01_run at h
 refine Con.of (N := 45) Tryz.func184 rfl rfl rfl fun w0_ fg_ => sr <| ak rfl <| nx <| ak rfl <| nt <| W.seq <| W.block ?_
 refine W.loop1 (Γ := Unit) (fun (_ : Unit) (x7 : Int) => [(0, EqA (strV a0)), (1, iA a1), (2, bA a2), (7, iA x7)]) (fun (_ : Unit) (_ : Int) => []) h () (.o4 rfl (.nil _)) rfl (fun rec0 K0 next0 _ x7 h => ?_)
 unfold ref01_run.b0 at h
 refine W.seq <| W.seq ?_
 refine W.jn1 (Γ := Unit) (fun (_ : Unit) (x41 : Bool) => [(0, EqA (strV a0)), (1, iA a1), (2, bA a2), (7, iA x7), (41, bA x41)]) (fun (_ : Unit) (_ : Bool) => []) h (fun _ x41 h => ?_) (fun j174 Kj174 h => ?_)
 ·refine QN.then_ ?_
  refine W.condP h rfl (fun hb175 h => ?_) (fun hb175 h => ?_)
  ·refine W.skip <| QN.then_ <| W.block <| W.region <| mv rfl rfl ?_
   obtain ⟨c176, h⟩ := ite_n h
   refine pk rfl 42 rfl (q_addR rfl c176) <| av rfl rfl <| WL.nil <| QN.block ?_
   exact next0 () (x7 + 1) _ h (.o4 rfl (.nil _))
  ·refine W.exit <| QX.then_ <| QX.then_ <| QX.here <| QN.then_ <| sr <| mv rfl rfl <| av rfl rfl <| nt <| W.ret ?_
   cases h
   exact QR.f1 rfl rfl (.t rfl) (.id _)
 ·refine W.region <| mv rfl rfl <| mv rfl rfl ?_
  obtain ⟨c177, h⟩ := ite_n h
  refine p2 rfl 8 rfl 9 rfl (q_addR rfl c177) <| mv rfl rfl <| p1 rfl 11 rfl (q_slen (s := a0) rfl iss9) <| p2 rfl 10 rfl 12 rfl (q_int rfl rfl) <| mv rfl rfl ?_
  rcases bif_s h with ⟨hb178, h⟩ | ⟨hb178, h⟩
  ·refine wm rfl rfl rfl hb178 rfl rfl <| wm rfl rfl rfl hb178 rfl rfl <| wm rfl rfl rfl hb178 rfl rfl ?_
   obtain ⟨c179, h⟩ := ite_n h
   refine wq rfl rfl rfl hb178 (.s 16 rfl (.s 17 rfl .nil)) (q_addR rfl c179).o ?_
   obtain ⟨c180, h⟩ := ite_n h
   refine wq rfl rfl rfl hb178 (.s 15 rfl (.s 18 rfl .nil)) (q_sindex rfl iss9 c180.1 c180.2).o ?_
   obtain ⟨t181, ht181, h⟩ := bind_s h
   refine wq rfl rfl rfl hb178 (.s 19 rfl .nil) (q_call (f := 183) (A := bA t181) (xs := [.tmp 19]) («as» := [EqA (.int .u8 (bt a0 (a1 + x7)))]) rfl ca183 (ref01_digit.con k (bt a0 (a1 + x7)) t181 ht181) rfl).o <| wm rfl rfl rfl hb178 rfl rfl ?_
   rcases bif_s h with ⟨hb182, h⟩ | ⟨hb182, h⟩
   ·refine sk rfl rfl rfl hb182 <| sk rfl rfl rfl hb182 <| sk rfl rfl rfl hb182 <| su rfl rfl rfl <| su rfl rfl rfl <| su rfl rfl rfl <| su rfl rfl rfl <| su rfl rfl rfl <| su rfl rfl rfl <| su rfl rfl rfl <| su rfl rfl rfl <| su rfl rfl rfl <| su rfl rfl rfl ?_
    refine su rfl rfl rfl <| su rfl rfl rfl <| su rfl rfl rfl <| su rfl rfl rfl <| sk rfl rfl rfl hb182 <| wq rfl rfl rfl hb178 (.s 21 rfl (.k .nil)) (q_pickT rfl hb182).o <| p2 rfl 14 rfl 40 rfl (q_pickT rfl hb178) <| WL.nil ?_
    exact QN.weaken (.o4 rfl (.one rfl (.nil _))) (Kj174 () true h)
   ·refine wm rfl rfl rfl hb182 rfl rfl <| wq rfl rfl rfl hb182 (.s 22 rfl .nil) (q_not rfl).o <| wm rfl rfl rfl hb182 rfl rfl ?_
    rcases bif_s h with ⟨hb183, h⟩ | ⟨hb183, h⟩
    ·refine wm rfl rfl rfl hb183 rfl rfl <| wm rfl rfl rfl hb183 rfl rfl <| wm rfl rfl rfl hb183 rfl rfl ?_
     obtain ⟨c184, h⟩ := ite_n h
     refine wq rfl rfl rfl hb183 (.s 26 rfl (.s 27 rfl .nil)) (q_addR rfl c184).o ?_
     obtain ⟨c185, h⟩ := ite_n h
     refine wq rfl rfl rfl hb183 (.s 25 rfl (.s 28 rfl .nil)) (q_sindex rfl iss9 c185.1 c185.2).o ?_
     obtain ⟨t186, ht186, h⟩ := bind_s h
     refine wq rfl rfl rfl hb183 (.s 29 rfl .nil) (q_call (f := 182) (A := bA t186) (xs := [.tmp 29]) («as» := [EqA (.int .u8 (bt a0 (a1 + x7)))]) rfl ca182 (ref01_letter.con k (bt a0 (a1 + x7)) t186 ht186) rfl).o <| wm rfl rfl rfl hb183 rfl rfl ?_
     rcases bif_s h with ⟨hb187, h⟩ | ⟨hb187, h⟩
     ·refine sk rfl rfl rfl hb187 <| sk rfl rfl rfl hb187 <| sk rfl rfl rfl hb187 <| sk rfl rfl rfl hb187 <| sk rfl rfl rfl hb187 <| sk rfl rfl rfl hb187 <| wq rfl rfl rfl hb183 (.s 31 rfl (.k .nil)) (q_pickT rfl hb187).o <| wq rfl rfl rfl hb182 (.s 24 rfl (.s 38 rfl .nil)) (q_pickT rfl hb183).o <| wq rfl rfl rfl hb178 (.s 21 rfl (.s 39 rfl .nil)) (q_pickF rfl hb182).o <| p2 rfl 14 rfl 40 rfl (q_pickT rfl hb178) <| WL.nil ?_
      exact QN.weaken (.o4 rfl (.one rfl (.nil _))) (Kj174 () true h)
     ·refine wm rfl rfl rfl hb187 rfl rfl <| wm rfl rfl rfl hb187 rfl rfl <| wm rfl rfl rfl hb187 rfl rfl ?_
      obtain ⟨c188, h⟩ := ite_n h
      refine wq rfl rfl rfl hb187 (.s 33 rfl (.s 34 rfl .nil)) (q_addR rfl c188).o ?_
      obtain ⟨c189, h⟩ := ite_n h
      refine wq rfl rfl rfl hb187 (.s 32 rfl (.s 35 rfl .nil)) (q_sindex rfl iss9 c189.1 c189.2).o <| wq rfl rfl rfl hb187 (.s 36 rfl (.k .nil)) (q_int rfl rfl).o <| wq rfl rfl rfl hb183 (.s 31 rfl (.s 37 rfl .nil)) (q_pickF rfl hb187).o <| wq rfl rfl rfl hb182 (.s 24 rfl (.s 38 rfl .nil)) (q_pickT rfl hb183).o <| wq rfl rfl rfl hb178 (.s 21 rfl (.s 39 rfl .nil)) (q_pickF rfl hb182).o <| p2 rfl 14 rfl 40 rfl (q_pickT rfl hb178) <| WL.nil ?_
      exact QN.weaken (.o4 rfl (.one rfl (.nil _))) (Kj174 () ((bt a0 (a1 + x7)) == 95) h)
    ·refine sk rfl rfl rfl hb183 <| sk rfl rfl rfl hb183 <| sk rfl rfl rfl hb183 <| sk rfl rfl rfl hb183 <| sk rfl rfl rfl hb183 <| sk rfl rfl rfl hb183 <| sk rfl rfl rfl hb183 <| su rfl rfl rfl <| su rfl rfl rfl <| su rfl rfl rfl <| su rfl rfl rfl <| su rfl rfl rfl <| su rfl rfl rfl ?_
     refine sk rfl rfl rfl hb183 <| wq rfl rfl rfl hb182 (.s 24 rfl (.k .nil)) (q_pickF rfl hb183).o <| wq rfl rfl rfl hb178 (.s 21 rfl (.s 39 rfl .nil)) (q_pickF rfl hb182).o <| p2 rfl 14 rfl 40 rfl (q_pickT rfl hb178) <| WL.nil ?_
     exact QN.weaken (.o4 rfl (.one rfl (.nil _))) (Kj174 () false h)
  ·refine sk rfl rfl rfl hb178 <| sk rfl rfl rfl hb178 <| sk rfl rfl rfl hb178 <| sk rfl rfl rfl hb178 <| sk rfl rfl rfl hb178 <| sk rfl rfl rfl hb178 <| sk rfl rfl rfl hb178 <| su rfl rfl rfl <| su rfl rfl rfl <| su rfl rfl rfl <| su rfl rfl rfl <| su rfl rfl rfl <| su rfl rfl rfl ?_
   refine su rfl rfl rfl <| su rfl rfl rfl <| su rfl rfl rfl <| su rfl rfl rfl <| su rfl rfl rfl <| su rfl rfl rfl <| su rfl rfl rfl <| su rfl rfl rfl <| su rfl rfl rfl <| su rfl rfl rfl <| su rfl rfl rfl <| su rfl rfl rfl <| sk rfl rfl rfl hb178 ?_
   refine pk rfl 14 rfl (q_pickF rfl hb178) <| WL.nil ?_
   exact QN.weaken (.o4 rfl (.one rfl (.nil _))) (Kj174 () false h)
theorem ref01_quoted.con (k : Nat) (a0 : Str) (a1 : Int) (r : Int) (h : ref01_quoted k a0 a1 = some r) : Con Tryz.prog 185 [] [EqA (strV a0), iA a1] (RA (iA r)) := by
 unfold ref01_quoted at h
 refine Con.of (N := 30) Tryz.func185 rfl rfl rfl fun w0_ fg_ => sr <| ak rfl <| nt <| W.seq <| sr <| ak rfl <| nt <| W.block ?_
 refine W.loop1 (Γ := Unit) (fun (_ : Unit) (x5 : Int) => [(0, EqA (strV a0)), (1, iA a1), (5, iA x5)]) (fun (_ : Unit) (_ : Int) => []) h () (.o2 rfl (.one rfl (.nil _))) rfl (fun rec0 K0 next0 _ x5 h => ?_)
 unfold ref01_quoted.b0 at h
 refine W.seq <| sr <| mv rfl rfl <| mv rfl rfl ?_
 obtain ⟨c124, h⟩ := ite_n h
 refine p2 rfl 7 rfl 8 rfl (q_addR rfl c124) <| mv rfl rfl <| p1 rfl 10 rfl (q_slen (s := a0) rfl iss9) <| p2 rfl 9 rfl 11 rfl (q_int rfl rfl) <| nt ?_
 refine W.condP h rfl (fun hb125 h => ?_) (fun hb125 h => ?_)
 ·refine W.skip <| QN.then_ <| W.seq <| W.block <| sr <| mv rfl rfl <| mv rfl rfl <| mv rfl rfl ?_
  obtain ⟨c126, h⟩ := ite_n h
  refine p2 rfl 16 rfl 17 rfl (q_addR rfl c126) ?_
  obtain ⟨c127, h⟩ := ite_n h
  refine p2 rfl 15 rfl 18 rfl (q_sindex rfl iss9 c127.1 c127.2) <| av rfl rfl <| WL.nil <| QN.weaken (env' := [(6, _), (5, _), (1, _), (0, _)]) (.o4 rfl (.nil _)) <| QN.then_ <| W.seq <| sr <| mv rfl rfl <| pk rfl 20 rfl (q_int rfl rfl) <| nt ?_
  refine W.condP h rfl (fun hb128 h => ?_) (fun hb128 h => ?_)
  ·refine sr <| mv rfl rfl ?_
   obtain ⟨c129, h⟩ := ite_n h
   refine pk rfl 22 rfl (q_addR rfl c129) <| av rfl rfl <| WL.nil <| QN.weaken (env' := [(4, _)]) (.one rfl (.nil _)) <| QN.then_ <| W.ret <| QR.then_ <| QR.block <| QR.then_ <| QR.then_ <| QR.block <| QR.then_ ?_
   cases h
   exact QR.f1 rfl rfl (.t rfl) (.id _)
  ·refine W.skip <| QN.then_ <| W.seq ?_
   refine W.jn1 (Γ := Unit) (fun (_ : Unit) (x29 : Bool) => [(0, EqA (strV a0)), (1, iA a1), (5, iA x5), (29, bA x29)]) (fun (_ : Unit) (_ : Bool) => []) h (fun _ x29 h => ?_) (fun j132 Kj132 h => ?_)
   ·refine QN.then_ ?_
    refine W.condP h rfl (fun hb133 h => ?_) (fun hb133 h => ?_)
    ·refine sr <| ak rfl <| nt <| W.ret <| QR.block <| QR.then_ <| QR.then_ <| QR.block <| QR.then_ ?_
     cases h
     exact QR.f1 rfl rfl (.t rfl) (.id _)
    ·refine W.skip <| QN.block <| QN.then_ <| W.region <| mv rfl rfl ?_
     obtain ⟨c134, h⟩ := ite_n h
     refine pk rfl 13 rfl (q_addR rfl c134) <| av rfl rfl <| WL.nil ?_
     exact next0 () (x5 + 1) _ h (.o2 rfl (.one rfl (.nil _)))
   ·refine W.region <| mv rfl rfl <| pk rfl 24 rfl (q_int rfl rfl) <| mv rfl rfl ?_
    rcases bif_s h with ⟨hb135, h⟩ | ⟨hb135, h⟩
    ·refine sk rfl rfl rfl hb135 <| sk rfl rfl rfl hb135 <| pk rfl 26 rfl (q_pickT rfl hb135) <| WL.nil ?_
     exact QN.weaken (.o4 rfl (.nil _)) (Kj132 () true h)
    ·refine wm rfl rfl rfl hb135 rfl rfl <| wq rfl rfl rfl hb135 (.s 27 rfl (.k .nil)) (q_int rfl rfl).o <| p2 rfl 26 rfl 28 rfl (q_pickF rfl hb135) <| WL.nil ?_
     exact QN.weaken (.o4 rfl (.nil _)) (Kj132 () (decide ((bt a0 (a1 + x5)) > 126)) h)
 ·refine W.exit <| QX.then_ <| QX.then_ <| QX.here <| QN.weaken (env' := []) (.nil _) <| QN.then_ <| sr <| ak rfl <| nt <| W.ret ?_
  cases h
  exact QR.f1 rfl rfl (.t rfl) (.id _)
theorem ref01_signs.con (k : Nat) (r : (List Str)) (h : ref01_signs k = some r) : Con Tryz.prog 186 [] [] (RA (SlcA kStr r)) := by
 unfold ref01_signs at h
 refine Con.of (N := 2) Tryz.func186 rfl rfl rfl fun w0_ fg_ => sr <| ak rfl <| nx <| WL.p rfl rfl rfl (.k (.k (.k (.k (.k (.k (.k (.k (.k (.k (.k (.k (.k (.k (.k (.k (.k (.k (.k (.k (.k (.k (.k (.k (.k .nil))))))))))))))))))))))))) (q_lit (kd := kStr) (ps := [(0, .const (.string ⟨#[45, 62]⟩)), (1, .const (.string ⟨#[60, 61]⟩)), (2, .const (.string ⟨#[62, 61]⟩)), (3, .const (.string ⟨#[61, 61]⟩)), (4, .const (.string ⟨#[33, 61]⟩)), (5, .const (.string ⟨#[123]⟩)), (6, .const (.string ⟨#[125]⟩)), (7, .const (.string ⟨#[40]⟩)), (8, .const (.string ⟨#[41]⟩)), (9, .const (.string ⟨#[91]⟩)), (10, .const (.string ⟨#[93]⟩)), (11, .const (.string ⟨#[44]⟩)), (12, .const (.string ⟨#[59]⟩)), (13, .const (.string ⟨#[58]⟩)), (14, .const (.string ⟨#[61]⟩)), (15, .const (.string ⟨#[43]⟩)), (16, .const (.string ⟨#[45]⟩)), (17, .const (.string ⟨#[42]⟩)), (18, .const (.string ⟨#[60]⟩)), (19, .const (.string ⟨#[62]⟩)), (20, .const (.string ⟨#[33]⟩)), (21, .const (.string ⟨#[38]⟩)), (22, .const (.string ⟨#[124]⟩)), (23, .const (.string ⟨#[46]⟩)), (24, .const (.string ⟨#[63]⟩))]) (xs := [.const (.string ⟨#[45, 62]⟩), .const (.string ⟨#[60, 61]⟩), .const (.string ⟨#[62, 61]⟩), .const (.string ⟨#[61, 61]⟩), .const (.string ⟨#[33, 61]⟩), .const (.string ⟨#[123]⟩), .const (.string ⟨#[125]⟩), .const (.string ⟨#[40]⟩), .const (.string ⟨#[41]⟩), .const (.string ⟨#[91]⟩), .const (.string ⟨#[93]⟩), .const (.string ⟨#[44]⟩), .const (.string ⟨#[59]⟩), .const (.string ⟨#[58]⟩), .const (.string ⟨#[61]⟩), .const (.string ⟨#[43]⟩), .const (.string ⟨#[45]⟩), .const (.string ⟨#[42]⟩), .const (.string ⟨#[60]⟩), .const (.string ⟨#[62]⟩), .const (.string ⟨#[33]⟩), .const (.string ⟨#[38]⟩), .const (.string ⟨#[124]⟩), .const (.string ⟨#[46]⟩), .const (.string ⟨#[63]⟩)]) («as» := [EqA (strV ([45, 62] : Str)), EqA (strV ([60, 61] : Str)), EqA (strV ([62, 61] : Str)), EqA (strV ([61, 61] : Str)), EqA (strV ([33, 61] : Str)), EqA (strV ([123] : Str)), EqA (strV ([125] : Str)), EqA (strV ([40] : Str)), EqA (strV ([41] : Str)), EqA (strV ([91] : Str)), EqA (strV ([93] : Str)), EqA (strV ([44] : Str)), EqA (strV ([59] : Str)), EqA (strV ([58] : Str)), EqA (strV ([61] : Str)), EqA (strV ([43] : Str)), EqA (strV ([45] : Str)), EqA (strV ([42] : Str)), EqA (strV ([60] : Str)), EqA (strV ([62] : Str)), EqA (strV ([33] : Str)), EqA (strV ([38] : Str)), EqA (strV ([124] : Str)), EqA (strV ([46] : Str)), EqA (strV ([63] : Str))]) (ys := [([45, 62] : Str), ([60, 61] : Str), ([62, 61] : Str), ([61, 61] : Str), ([33, 61] : Str), ([123] : Str), ([125] : Str), ([40] : Str), ([41] : Str), ([91] : Str), ([93] : Str), ([44] : Str), ([59] : Str), ([58] : Str), ([61] : Str), ([43] : Str), ([45] : Str), ([42] : Str), ([60] : Str), ([62] : Str), ([33] : Str), ([38] : Str), ([124] : Str), ([46] : Str), ([63] : Str)]) rfl rfl el115 rfl gr9 rfl rfl rfl (.cons (CellsOf.one rfl) (.cons (CellsOf.one rfl) (.cons (CellsOf.one rfl) (.cons (CellsOf.one rfl) (.cons (CellsOf.one rfl) (.cons (CellsOf.one rfl) (.cons (CellsOf.one rfl) (.cons (CellsOf.one rfl) (.cons (CellsOf.one rfl) (.cons (CellsOf.one rfl) (.cons (CellsOf.one rfl) (.cons (CellsOf.one rfl) (.cons (CellsOf.one rfl) (.cons (CellsOf.one rfl) (.cons (CellsOf.one rfl) (.cons (CellsOf.one rfl) (.cons (CellsOf.one rfl) (.cons (CellsOf.one rfl) (.cons (CellsOf.one rfl) (.cons (CellsOf.one rfl) (.cons (CellsOf.one rfl) (.cons (CellsOf.one rfl) (.cons (CellsOf.one rfl) (.cons (CellsOf.one rfl) (.cons (CellsOf.one rfl) .nil)))))))))))))))))))))))))) <| av rfl rfl <| nt <| W.ret ?_
 cases h
 exact QR.f1 rfl rfl (.t rfl) (.id _)
theorem ref01_one.con (k : Nat) (a0 : Str) (a1 : Int) (r : (Token × Int × Int)) (h : ref01_one k a0 a1 = some r) : Con Tryz.prog 170 [] [EqA (strV a0), iA a1] (RA (TupA [AggA [iA r.1.fKind, EqA (strV r.1.fText), iA r.1.fLine], iA r.2.1, iA r.2.2])) := by
 unfold ref01_one at h
 refine Con.of (N := 110) Tryz.func170 rfl rfl rfl fun w0_ fg_ => sr <| WL.w [] rfl (Wanted.plain rfl) rfl rfl .nil (w_alloc rfl z185 (l := [iA 0, EqA (strV ([] : Str)), iA 0]) rfl) ?_
 rintro _ _ ⟨b100, rfl, rfl⟩
 refine ak rfl <| ak rfl <| nx <| mv rfl rfl <| mv rfl rfl ?_
 obtain ⟨c101, h⟩ := ite_n h
 refine p2 rfl 14 rfl 15 rfl (q_sindex rfl iss9 c101.1 c101.2) <| av rfl rfl <| nt <| W.seq <| W.seq ?_
 refine W.jn1 (Γ := Unit) (fun (_ : Unit) (x22 : Bool) => [(0, EqA (strV a0)), (1, iA a1), (4, EqA (.pointer (some ⟨b100, 0, none⟩))), (7, EqA (.int .u8 (bt a0 a1))), (22, bA x22)]) (fun (_ : Unit) (_ : Bool) => [BoxE b100 [iA 0, EqA (strV ([] : Str)), iA 0]]) h (fun _ x22 h => ?_) (fun j106 Kj106 h => ?_)
 ·refine QN.then_ ?_
  refine W.condP h rfl (fun hb107 h => ?_) (fun hb107 h => ?_)
  ·refine sr <| mv rfl rfl <| mv rfl rfl <| mv rfl rfl ?_
   obtain ⟨t108, ht108, h⟩ := bind_s h
   refine p1 rfl 25 rfl (q_call (f := 183) (A := bA t108) (xs := [.tmp 25]) («as» := [EqA (.int .u8 (bt a0 a1))]) rfl ca183 (ref01_digit.con k (bt a0 a1) t108 ht108) rfl) ?_
   obtain ⟨t109, ht109, h⟩ := bind_s h
   refine WL.p rfl rfl rfl (.s 23 rfl (.s 24 rfl (.s 26 rfl .nil))) (q_call (f := 184) (A := iA t109) (xs := [.tmp 23, .tmp 24, .tmp 26]) («as» := [EqA (strV a0), iA a1, bA t108]) rfl ca184 (ref01_run.con k a0 a1 t108 t109 ht109) rfl) <| av rfl rfl <| nx <| ak rfl <| ak rfl <| nt <| W.seq <| sr ?_
   refine mv rfl rfl ?_
   obtain ⟨t110, ht110, h⟩ := bind_s h
   refine p1 rfl 28 rfl (q_call (f := 183) (A := bA t110) (xs := [.tmp 28]) («as» := [EqA (.int .u8 (bt a0 a1))]) rfl ca183 (ref01_digit.con k (bt a0 a1) t110 ht110) rfl) <| WL.nil <| QN.weaken (env' := [(29, _), (10, _), (9, _), (8, _), (4, _), (1, _), (0, _)]) (.o4 rfl (.o2 rfl (.one rfl (.nil _)))) <| QN.then_ ?_
   refine W.jn2 (Γ := Unit) (fun (_ : Unit) (x9 : Int) (x10 : Int) => [(0, EqA (strV a0)), (1, iA a1), (4, EqA (.pointer (some ⟨b100, 0, none⟩))), (8, iA t109), (9, iA x9), (10, iA x10)]) (fun (_ : Unit) (_ : Int) (_ : Int) => [BoxE b100 [iA 0, EqA (strV ([] : Str)), iA 0]]) h (fun _ x9 x10 h => ?_) (fun j113 Kj113 h => ?_)
   ·refine QN.then_ <| W.seq <| sr <| mv rfl rfl <| mv rfl rfl <| p2 rfl 30 rfl 31 rfl (q_int rfl rfl) <| nt ?_
    refine W.condP h rfl (fun hb114 h => ?_) (fun hb114 h => ?_)
    ·refine sr <| WL.p rfl rfl rfl .nil (q_build (is := []) (xs := []) (L := [iA 0, EqA (strV ([] : Str)), iA 0]) rfl rfl z185 pl185 rfl rfl .nil rfl) <| WL.w0 [0] rfl (Wanted.plain rfl) rfl (.s 4 rfl (.s 33 rfl .nil)) (w_store (L := [iA 0, EqA (strV ([] : Str)), iA 0]) rfl sh185 (CellsOf.agg _) rfl rfl (leB rfl) rfl) ?_
     rintro _ _ ⟨rfl, rfl⟩
     refine ak rfl <| ak rfl <| WL.nil <| QN.weaken (env' := [(6, _), (5, _), (4, _)]) (.o2 rfl (.one rfl (.nil _))) <| QN.then_ <| W.ret <| QR.then_ <| QR.then_ ?_
     cases h
     exact QR.f3 rfl rfl (.cs (i := 0) rfl sh185 rfl rfl) (.t rfl) (.t rfl) (.id _)
    ·refine W.skip <| QN.then_ <| sr <| mv rfl rfl <| mv rfl rfl <| mv rfl rfl <| mv rfl rfl <| mv rfl rfl ?_
     obtain ⟨c115, h⟩ := ite_n h
     refine p2 rfl 37 rfl 38 rfl (q_addR rfl c115) ?_
     obtain ⟨c116, h⟩ := ite_n h
     refine WL.p rfl rfl rfl (.s 35 rfl (.s 36 rfl (.s 39 rfl .nil))) (q_ssubLH rfl iss9 c116.1 c116.2.1 c116.2.2) <| p2 rfl 34 rfl 40 rfl (q_build (is := [0, 1]) (xs := [.tmp 34, .tmp 40]) (L := [iA x9, EqA (strV ((a0.take ((a1 + t109) : Int).toNat).drop (a1 : Int).toNat)), iA 0]) rfl rfl z185 pl185 rfl rfl (.cons (CellsOf.one rfl) (.cons (CellsOf.one rfl) .nil)) rfl) <| mv rfl rfl <| WL.w0 [0] rfl (Wanted.plain rfl) rfl (.s 4 rfl (.s 41 rfl .nil)) (w_store (L := [iA x9, EqA (strV ((a0.take ((a1 + t109) : Int).toNat).drop (a1 : Int).toNat)), iA 0]) rfl sh185 (CellsOf.agg _) rfl rfl (leB rfl) rfl) ?_
     rintro _ _ ⟨rfl, rfl⟩
     refine av rfl rfl <| ak rfl <| WL.nil <| QN.weaken (env' := [(6, _), (5, _), (4, _)]) (.o2 rfl (.one rfl (.nil _))) <| QN.then_ <| W.ret <| QR.then_ ?_
     cases h
     exact QR.f3 rfl rfl (.cs (i := 0) rfl sh185 rfl rfl) (.t rfl) (.t rfl) (.id _)
   ·refine W.condP h rfl (fun hb117 h => ?_) (fun hb117 h => ?_)
    ·refine W.region <| ak rfl <| ak rfl <| WL.nil ?_
     exact QN.weaken (.o4 rfl (.o2 rfl (.nil _))) (Kj113 () 2 9 h)
    ·refine W.skip ?_
     exact QN.weaken (.o4 rfl (.o2 rfl (.nil _))) (Kj113 () 1 20 h)
  ·refine W.skip <| QN.then_ <| W.seq <| sr <| mv rfl rfl <| pk rfl 43 rfl (q_int rfl rfl) <| nt ?_
   refine W.condP h rfl (fun hb118 h => ?_) (fun hb118 h => ?_)
   ·refine sr <| mv rfl rfl <| mv rfl rfl ?_
    obtain ⟨t119, ht119, h⟩ := bind_s h
    refine p2 rfl 45 rfl 46 rfl (q_call (f := 185) (A := iA t119) (xs := [.tmp 45, .tmp 46]) («as» := [EqA (strV a0), iA a1]) rfl ca185 (ref01_quoted.con k a0 a1 t119 ht119) rfl) <| av rfl rfl <| WL.nil <| QN.weaken (env' := [(11, _), (4, _), (1, _), (0, _)]) (.o4 rfl (.nil _)) <| QN.then_ <| W.seq <| sr <| mv rfl rfl <| pk rfl 48 rfl (q_int rfl rfl) <| nt ?_
    refine W.condP h rfl (fun hb120 h => ?_) (fun hb120 h => ?_)
    ·refine sr <| WL.p rfl rfl rfl .nil (q_build (is := []) (xs := []) (L := [iA 0, EqA (strV ([] : Str)), iA 0]) rfl rfl z185 pl185 rfl rfl .nil rfl) <| WL.w0 [0] rfl (Wanted.plain rfl) rfl (.s 4 rfl (.s 50 rfl .nil)) (w_store (L := [iA 0, EqA (strV ([] : Str)), iA 0]) rfl sh185 (CellsOf.agg _) rfl rfl (leB rfl) rfl) ?_
     rintro _ _ ⟨rfl, rfl⟩
     refine ak rfl <| ak rfl <| nt <| W.ret <| QR.then_ <| QR.then_ ?_
     cases h
     exact QR.f3 rfl rfl (.cs (i := 0) rfl sh185 rfl rfl) (.t rfl) (.t rfl) (.id _)
    ·refine W.skip <| QN.then_ <| W.seq <| sr <| mv rfl rfl ?_
     obtain ⟨c121, h⟩ := ite_n h
     refine pk rfl 51 rfl (q_subR rfl c121) <| pk rfl 52 rfl (q_int rfl rfl) <| nt ?_
     refine W.condP h rfl (fun hb122 h => ?_) (fun hb122 h => ?_)
     ·refine sr <| WL.p rfl rfl rfl .nil (q_build (is := []) (xs := []) (L := [iA 0, EqA (strV ([] : Str)), iA 0]) rfl rfl z185 pl185 rfl rfl .nil rfl) <| WL.w0 [0] rfl (Wanted.plain rfl) rfl (.s 4 rfl (.s 54 rfl .nil)) (w_store (L := [iA 0, EqA (strV ([] : Str)), iA 0]) rfl sh185 (CellsOf.agg _) rfl rfl (leB rfl) rfl) ?_
      rintro _ _ ⟨rfl, rfl⟩
      refine ak rfl <| ak rfl <| WL.nil <| QN.weaken (env' := [(6, _), (5, _), (4, _)]) (.o2 rfl (.one rfl (.nil _))) <| QN.then_ <| W.ret <| QR.then_ <| QR.then_ ?_
      cases h
      exact QR.f3 rfl rfl (.cs (i := 0) rfl sh185 rfl rfl) (.t rfl) (.t rfl) (.id _)
     ·refine W.skip <| QN.then_ <| sr <| mv rfl rfl <| mv rfl rfl ?_
      obtain ⟨c123, h⟩ := ite_n h
      refine pk rfl 56 rfl (q_addR rfl c123) <| mv rfl rfl <| mv rfl rfl ?_
      obtain ⟨c124, h⟩ := ite_n h
      refine p2 rfl 58 rfl 59 rfl (q_addR rfl c124) ?_
      obtain ⟨c125, h⟩ := ite_n h
      refine pk rfl 60 rfl (q_subR rfl c125) ?_
      obtain ⟨c126, h⟩ := ite_n h
      refine WL.p rfl rfl rfl (.s 55 rfl (.s 57 rfl (.s 61 rfl .nil))) (q_ssubLH rfl iss9 c126.1 c126.2.1 c126.2.2) <| WL.p rfl rfl rfl (.k (.s 62 rfl .nil)) (q_build (is := [0, 1]) (xs := [.const (.int .i64 3), .tmp 62]) (L := [iA 3, EqA (strV ((a0.take (((a1 + t119) - 1) : Int).toNat).drop ((a1 + 1) : Int).toNat)), iA 0]) rfl rfl z185 pl185 rfl rfl (.cons (CellsOf.one rfl) (.cons (CellsOf.one rfl) .nil)) rfl) <| mv rfl rfl <| WL.w0 [0] rfl (Wanted.plain rfl) rfl (.s 4 rfl (.s 63 rfl .nil)) (w_store (L := [iA 3, EqA (strV ((a0.take (((a1 + t119) - 1) : Int).toNat).drop ((a1 + 1) : Int).toNat)), iA 0]) rfl sh185 (CellsOf.agg _) rfl rfl (leB rfl) rfl) ?_
      rintro _ _ ⟨rfl, rfl⟩
      refine av rfl rfl <| ak rfl <| WL.nil <| QN.weaken (env' := [(6, _), (5, _), (4, _)]) (.o2 rfl (.one rfl (.nil _))) <| QN.then_ <| W.ret <| QR.then_ ?_
      cases h
      exact QR.f3 rfl rfl (.cs (i := 0) rfl sh185 rfl rfl) (.t rfl) (.t rfl) (.id _)
   ·refine W.skip <| QN.then_ <| sr ?_
    obtain ⟨t127, ht127, h⟩ := bind_s h
    refine WL.p rfl rfl rfl .nil (q_call (f := 186) (A := SlcA kStr t127) (xs := []) («as» := []) rfl ca186 (ref01_signs.con k  t127 ht127) rfl) <| av rfl rfl <| nt <| W.seq <| sr <| ak rfl <| nt <| W.block ?_
    refine W.loop1 (Γ := Unit) (fun (_ : Unit) (x13 : Int) => [(0, EqA (strV a0)), (1, iA a1), (4, EqA (.pointer (some ⟨b100, 0, none⟩))), (12, SlcA kStr t127), (13, iA x13)]) (fun (_ : Unit) (_ : Int) => [BoxE b100 [iA 0, EqA (strV ([] : Str)), iA 0]]) h () (.o4 rfl (.one rfl (.nil _))) rfl (fun rec0 K0 next0 _ x13 h => ?_)
    unfold ref01_one.b0 at h
    refine W.seq <| sr <| mv rfl rfl <| mv rfl rfl <| p1 rfl 67 rfl (q_len rfl elS115) <| p2 rfl 66 rfl 68 rfl (q_int rfl rfl) <| nt ?_
    refine W.condP h rfl (fun hb192 h => ?_) (fun hb192 h => ?_)
    ·refine W.skip <| QN.then_ <| W.seq <| W.block <| W.seq ?_
     refine W.jn1 (Γ := Unit) (fun (_ : Unit) (x98 : Bool) => [(0, EqA (strV a0)), (1, iA a1), (4, EqA (.pointer (some ⟨b100, 0, none⟩))), (12, SlcA kStr t127), (13, iA x13), (98, bA x98)]) (fun (_ : Unit) (_ : Bool) => [BoxE b100 [iA 0, EqA (strV ([] : Str)), iA 0]]) h (fun _ x98 h => ?_) (fun j208 Kj208 h => ?_)
     ·refine QN.then_ ?_
      refine W.condP h rfl (fun hb209 h => ?_) (fun hb209 h => ?_)
      ·refine W.seq <| W.drawK [(0, false), (1, false), (2, false), (3, false), (4, false), (5, false), (6, false), (7, false), (8, false), (9, false)] [10, 11, 12] (bm [0, 0, 3, 7, 15, 0, 0, 96, 224, 480, 31, 2047, 4095]) mx (by kernel_rfl) <| dm rfl rfl rfl <| dm rfl rfl rfl ?_
       obtain ⟨c214, h⟩ := ite_n h
       refine DK.cons rfl rfl (.p rfl (.s 99 rfl (.s 100 rfl .nil)) rfl (q_index rfl el115 rfl c214.1 c214.2)) <| dl rfl rfl rfl sh9 <| DK.cons rfl rfl (.p rfl (.k (.s 102 rfl .nil)) rfl (q_build (is := [0, 1]) (xs := [.const (.int .i64 4), .tmp 102]) (L := [iA 4, EqA (strV (rd t127 x13)), iA 0]) rfl rfl z185 pl185 rfl rfl (.cons (CellsOf.one rfl) (.cons (CellsOf.one rfl) .nil)) rfl)) <| dm rfl rfl rfl <| dm rfl rfl rfl ?_
       obtain ⟨c215, h⟩ := ite_n h
       refine DK.cons rfl rfl (.p rfl (.s 104 rfl (.s 105 rfl .nil)) rfl (q_index rfl el115 rfl c215.1 c215.2)) <| dl rfl rfl rfl sh9 <| DK.cons rfl rfl (.p rfl (.s 107 rfl .nil) rfl (q_slen (s := (rd t127 x13)) rfl iss9)) <| DK.nil <| CSteps.w0 [0] rfl rfl rfl (.s 4 rfl (.s 103 rfl .nil)) rfl (w_store (L := [iA 4, EqA (strV (rd t127 x13)), iA 0]) rfl sh185 (CellsOf.agg _) rfl rfl (leB rfl) rfl) ?_
       rintro _ _ ⟨rfl, rfl⟩
       refine CSteps.p rfl rfl rfl (.s 108 rfl .nil) rfl (q_assign rfl) <| CSteps.p rfl rfl rfl (.k .nil) rfl (q_assign rfl) <| CSteps.nil <| QN.weaken (env' := [(6, _), (5, _), (4, _)]) (.o2 rfl (.one rfl (.nil _))) <| QN.then_ <| W.ret <| QR.block <| QR.then_ <| QR.then_ <| QR.block <| QR.then_ ?_
       cases h
       exact QR.f3 rfl rfl (.cs (i := 0) rfl sh185 rfl rfl) (.t rfl) (.t rfl) (.id _)
      ·refine W.skip <| QN.block <| QN.then_ <| W.region <| mv rfl rfl ?_
       obtain ⟨c216, h⟩ := ite_n h
       refine pk rfl 70 rfl (q_addR rfl c216) <| av rfl rfl <| WL.nil ?_
       exact next0 () (x13 + 1) _ h (.o4 rfl (.one rfl (.nil _)))
     ·refine W.drawK [(0, false), (1, false), (2, false), (3, false), (4, false), (5, false), (6, false), (7, false), (8, false), (9, false), (10, false), (11, false), (12, false), (13, false), (14, false), (15, false), (16, false), (17, false), (18, false), (19, false), (20, false), (21, false), (22, false), (23, false), (24, false), (25, false), (26, false)] [] (bm [0, 0, 0, 6, 14, 30, 63, 0, 128, 511, 1023, 2047, 2047, 2047, 2047, 2047, 51199, 116735, 247807, 518143, 1048575, 2047, 2047, 6293503, 14682111, 33554431, 67108863]) mx (by kernel_rfl) <| dm rfl rfl rfl <| dm rfl rfl rfl <| dm rfl rfl rfl ?_
      obtain ⟨c217, h⟩ := ite_n h
      refine DK.cons rfl rfl (.p rfl (.s 73 rfl (.s 74 rfl .nil)) rfl (q_index rfl el115 rfl c217.1 c217.2)) <| dl rfl rfl rfl sh9 <| DK.cons rfl rfl (.p rfl (.s 76 rfl .nil) rfl (q_slen (s := (rd t127 x13)) rfl iss9)) ?_
      obtain ⟨c218, h⟩ := ite_n h
      refine DK.cons rfl rfl (.p rfl (.s 72 rfl (.s 77 rfl .nil)) rfl (q_addR rfl c218)) <| dm rfl rfl rfl <| DK.cons rfl rfl (.p rfl (.s 79 rfl .nil) rfl (q_slen (s := a0) rfl iss9)) <| DK.cons rfl rfl (.p rfl (.s 78 rfl (.s 80 rfl .nil)) rfl (q_int rfl rfl)) <| dm rfl rfl rfl ?_
      rcases bif_s h with ⟨hb219, h⟩ | ⟨hb219, h⟩
      ·refine DK.cons rfl rfl (.gp rfl rfl rfl hb219 (.s 0 rfl .nil) rfl (q_move rfl)) <| DK.cons rfl rfl (.gp rfl rfl rfl hb219 (.s 1 rfl .nil) rfl (q_move rfl)) <| DK.cons rfl rfl (.gp rfl rfl rfl hb219 (.s 1 rfl .nil) rfl (q_move rfl)) <| DK.cons rfl rfl (.gp rfl rfl rfl hb219 (.s 12 rfl .nil) rfl (q_move rfl)) <| DK.cons rfl rfl (.gp rfl rfl rfl hb219 (.s 13 rfl .nil) rfl (q_move rfl)) ?_
       obtain ⟨c220, h⟩ := ite_n h
       refine DK.cons rfl rfl (.gp rfl rfl rfl hb219 (.s 86 rfl (.s 87 rfl .nil)) rfl (q_index rfl el115 rfl c220.1 c220.2)) <| DK.cons rfl rfl (.gp rfl rfl rfl hb219 (.s 88 rfl .nil) rfl (q_load rfl sh9)) <| DK.cons rfl rfl (.gp rfl rfl rfl hb219 (.s 89 rfl .nil) rfl (q_slen (s := (rd t127 x13)) rfl iss9)) ?_
       obtain ⟨c221, h⟩ := ite_n h
       refine DK.cons rfl rfl (.gp rfl rfl rfl hb219 (.s 85 rfl (.s 90 rfl .nil)) rfl (q_addR rfl c221)) ?_
       obtain ⟨c222, h⟩ := ite_n h
       refine DK.cons rfl rfl (.gp rfl rfl rfl hb219 (.s 83 rfl (.s 84 rfl (.s 91 rfl .nil))) rfl (q_ssubLH rfl iss9 c222.1 c222.2.1 c222.2.2)) <| DK.cons rfl rfl (.gp rfl rfl rfl hb219 (.s 12 rfl .nil) rfl (q_move rfl)) <| DK.cons rfl rfl (.gp rfl rfl rfl hb219 (.s 13 rfl .nil) rfl (q_move rfl)) ?_
       obtain ⟨c223, h⟩ := ite_n h
       refine DK.cons rfl rfl (.gp rfl rfl rfl hb219 (.s 93 rfl (.s 94 rfl .nil)) rfl (q_index rfl el115 rfl c223.1 c223.2)) <| DK.cons rfl rfl (.gp rfl rfl rfl hb219 (.s 95 rfl .nil) rfl (q_load rfl sh9)) <| DK.cons rfl rfl (.gp rfl rfl rfl hb219 (.s 92 rfl (.s 96 rfl .nil)) rfl (q_str (s := ((a0.take ((a1 + ((rd t127 x13).length : Int)) : Int).toNat).drop (a1 : Int).toNat)) (t := (rd t127 x13)) rfl)) <| DK.cons rfl rfl (.p rfl (.s 82 rfl (.s 97 rfl .nil)) rfl (q_pickT rfl hb219)) <| DK.nil <| CSteps.nil ?_
       exact QN.weaken (.o4 rfl (.o2 rfl (.nil _))) (Kj208 () (((a0.take ((a1 + ((rd t127 x13).length : Int)) : Int).toNat).drop (a1 : Int).toNat) == (rd t127 x13)) h)
      ·refine dx rfl rfl rfl hb219 <| dx rfl rfl rfl hb219 <| dx rfl rfl rfl hb219 <| dx rfl rfl rfl hb219 <| dx rfl rfl rfl hb219 <| dx rfl rfl rfl hb219 <| dx rfl rfl rfl hb219 <| dx rfl rfl rfl hb219 <| dx rfl rfl rfl hb219 <| dx rfl rfl rfl hb219 <| dx rfl rfl rfl hb219 <| dx rfl rfl rfl hb219 <| dx rfl rfl rfl hb219 ?_
       refine dx rfl rfl rfl hb219 <| dx rfl rfl rfl hb219 <| DK.cons rfl rfl (.p rfl (.s 82 rfl (.k .nil)) rfl (q_pickF rfl hb219)) <| DK.nil <| CSteps.nil ?_
       exact QN.weaken (.o4 rfl (.o2 rfl (.nil _))) (Kj208 () false h)
    ·refine W.exit <| QX.then_ <| QX.then_ <| QX.here <| QN.weaken (env' := [(4, _)]) (.one rfl (.nil _)) <| QN.then_ <| sr <| WL.p rfl rfl rfl .nil (q_build (is := []) (xs := []) (L := [iA 0, EqA (strV ([] : Str)), iA 0]) rfl rfl z185 pl185 rfl rfl .nil rfl) <| WL.w0 [0] rfl (Wanted.plain rfl) rfl (.s 4 rfl (.s 109 rfl .nil)) (w_store (L := [iA 0, EqA (strV ([] : Str)), iA 0]) rfl sh185 (CellsOf.agg _) rfl rfl (leB rfl) rfl) ?_
     rintro _ _ ⟨rfl, rfl⟩
     refine ak rfl <| ak rfl <| nt <| W.ret ?_
     cases h
     exact QR.f3 rfl rfl (.cs (i := 0) rfl sh185 rfl rfl) (.t rfl) (.t rfl) (.id _)
 ·refine W.region <| mv rfl rfl ?_
  obtain ⟨t224, ht224, h⟩ := bind_s h
  refine p1 rfl 17 rfl (q_call (f := 182) (A := bA t224) (xs := [.tmp 17]) («as» := [EqA (.int .u8 (bt a0 a1))]) rfl ca182 (ref01_letter.con k (bt a0 a1) t224 ht224) rfl) <| mv rfl rfl ?_
  rcases bif_s h with ⟨hb225, h⟩ | ⟨hb225, h⟩
  ·refine sk rfl rfl rfl hb225 <| sk rfl rfl rfl hb225 <| pk rfl 19 rfl (q_pickT rfl hb225) <| WL.nil ?_
   exact QN.weaken (.o4 rfl (.one rfl (.nil _))) (Kj106 () true h)
  ·refine wm rfl rfl rfl hb225 rfl rfl ?_
   obtain ⟨t226, ht226, h⟩ := bind_s h
   refine wq rfl rfl rfl hb225 (.s 20 rfl .nil) (q_call (f := 183) (A := bA t226) (xs := [.tmp 20]) («as» := [EqA (.int .u8 (bt a0 a1))]) rfl ca183 (ref01_digit.con k (bt a0 a1) t226 ht226) rfl).o <| p2 rfl 19 rfl 21 rfl (q_pickF rfl hb225) <| WL.nil ?_
   exact QN.weaken (.o4 rfl (.one rfl (.nil _))) (Kj106 () t226 h)
theorem ref01_Right.con (k : Nat) (a0 : Token) (r : Bool) (h : ref01_Right k a0 = some r) : Con Tryz.prog 156 [] [AggA [iA a0.fKind, EqA (strV a0.fText), iA a0.fLine]] (RA (bA r)) := by
 unfold ref01_Right at h
 refine Con.of (N := 32) Tryz.func156 rfl rfl rfl fun w0_ fg_ => sr <| p1 rfl 0 rfl (q_box rfl (CellsOf.agg _)) <| ak rfl <| nx <| lS rfl rfl sh185 rfl rfl ?_
 obtain ⟨t100, ht100, h⟩ := bind_s h
 refine p1 rfl 7 rfl (q_call (f := 169) (A := EqA (strV t100)) (xs := [.tmp 7]) («as» := [AggA [iA a0.fKind, EqA (strV a0.fText), iA a0.fLine]]) rfl ca169 (ref01_text.con k a0 t100 ht100) rfl) <| av rfl rfl <| nt <| W.seq <| sr <| mv rfl rfl <| pk rfl 9 rfl (q_str (s := t100) (t := ([] : Str)) rfl) <| nt ?_
 refine W.condP h rfl (fun hb101 h => ?_) (fun hb101 h => ?_)
 ·refine sr <| ak rfl <| WL.nil <| QN.weaken (env' := [(2, _)]) (.one rfl (.nil _)) <| QN.then_ <| W.ret <| QR.then_ ?_
  cases h
  exact QR.f1 rfl rfl (.t rfl) (.id _)
 ·refine W.skip <| QN.then_ <| sr <| mv rfl rfl ?_
  obtain ⟨t102, ht102, h⟩ := bind_s h
  refine pk rfl 12 rfl (q_call (f := 170) (A := TupA [AggA [iA t102.1.fKind, EqA (strV t102.1.fText), iA t102.1.fLine], iA t102.2.1, iA t102.2.2]) (xs := [.tmp 12, .const (.int .i64 0)]) («as» := [EqA (strV t100), iA 0]) rfl ca170 (ref01_one.con k t100 0 t102 ht102) rfl) <| mv rfl rfl <| p1 rfl 11 rfl (q_extract rfl rfl) <| p1 rfl 11 rfl (q_extract rfl rfl) <| p1 rfl 11 rfl (q_extract rfl rfl) <| WL.w [] rfl (Wanted.plain rfl) rfl rfl .nil (w_alloc rfl z185 (l := [iA 0, EqA (strV ([] : Str)), iA 0]) rfl) ?_
  rintro _ _ ⟨b103, rfl, rfl⟩
  refine WL.w0 [0] rfl (Wanted.plain rfl) rfl (.s 4 rfl (.s 14 rfl .nil)) (w_store (L := [iA t102.1.fKind, EqA (strV t102.1.fText), iA t102.1.fLine]) rfl sh185 (CellsOf.agg _) rfl rfl (leB rfl) rfl) ?_
  rintro _ _ ⟨rfl, rfl⟩
  refine av rfl rfl <| av rfl rfl <| WL.nil <| QN.to (StTo.still [0] 4 rfl rfl) <| QN.weaken (env' := [(6, _), (5, _), (4, _), (3, _), (1, _)]) (.o4 rfl (.one rfl (.nil _))) <| QN.then_ <| W.seq ?_
  refine W.jn1 (Γ := Unit) (fun (_ : Unit) (x2 : Bool) => [(2, bA x2)]) (fun (_ : Unit) (_ : Bool) => []) h (fun _ x2 h => ?_) (fun j107 Kj107 h => ?_)
  ·refine QN.then_ <| W.ret ?_
   cases h
   exact QR.f1 rfl rfl (.t rfl) (.id _)
  ·refine W.region <| mv rfl rfl <| pk rfl 17 rfl (q_int rfl rfl) <| mv rfl rfl ?_
   rcases bif_s h with ⟨hb108, h⟩ | ⟨hb108, h⟩
   ·refine wm rfl rfl rfl hb108 rfl rfl <| wm rfl rfl rfl hb108 rfl rfl <| wq rfl rfl rfl hb108 (.s 21 rfl .nil) (q_slen (s := t100) rfl iss9).o <| wq rfl rfl rfl hb108 (.s 20 rfl (.s 22 rfl .nil)) (q_int rfl rfl).o <| p2 rfl 19 rfl 23 rfl (q_pickT rfl hb108) <| mv rfl rfl ?_
    rcases bif_s h with ⟨hb109, h⟩ | ⟨hb109, h⟩
    ·refine wf rfl rfl rfl hb109 rfl rfl fo185_0 rfl <| wl rfl rfl rfl hb109 rfl rfl sh3 <| wf rfl rfl rfl hb109 rfl rfl fo185_0 rfl <| wl rfl rfl rfl hb109 rfl rfl sh3 <| wq rfl rfl rfl hb109 (.s 27 rfl (.s 29 rfl .nil)) (q_int rfl rfl).o <| p2 rfl 25 rfl 30 rfl (q_pickT rfl hb109) <| av rfl rfl <| WL.nil ?_
     exact QN.weaken (.one rfl (.nil _)) (Kj107 () (t102.1.fKind == a0.fKind) h)
    ·refine sk rfl rfl rfl hb109 <| sk rfl rfl rfl hb109 <| sk rfl rfl rfl hb109 <| sk rfl rfl rfl hb109 <| sk rfl rfl rfl hb109 <| pk rfl 25 rfl (q_pickF rfl hb109) <| av rfl rfl <| WL.nil ?_
     exact QN.weaken (.one rfl (.nil _)) (Kj107 () false h)
   ·refine sk rfl rfl rfl hb108 <| sk rfl rfl rfl hb108 <| sk rfl rfl rfl hb108 <| sk rfl rfl rfl hb108 <| pk rfl 19 rfl (q_pickF rfl hb108) <| mv rfl rfl <| sk rfl rfl rfl rfl <| sk rfl rfl rfl rfl <| sk rfl rfl rfl rfl <| sk rfl rfl rfl rfl <| sk rfl rfl rfl rfl <| pk rfl 25 rfl (q_pickF rfl rfl) <| av rfl rfl ?_
    refine WL.nil ?_
    exact QN.weaken (.one rfl (.nil _)) (Kj107 () false h)
theorem ref01_IsName.con (k : Nat) (a0 : Str) (r : Bool) (h : ref01_IsName k a0 = some r) : Con Tryz.prog 137 [] [EqA (strV a0)] (RA (bA r)) := by
 unfold ref01_IsName at h
 refine Con.of (N := 6) Tryz.func137 rfl rfl rfl fun w0_ fg_ => sr <| ak rfl <| nx <| mv rfl rfl <| WL.p rfl rfl rfl (.k (.s 3 rfl .nil)) (q_build (is := [0, 1]) (xs := [.const (.int .i64 1), .tmp 3]) (L := [iA 1, EqA (strV a0), iA 0]) rfl rfl z185 pl185 rfl rfl (.cons (CellsOf.one rfl) (.cons (CellsOf.one rfl) .nil)) rfl) ?_
 obtain ⟨t100, ht100, h⟩ := bind_s h
 refine p1 rfl 4 rfl (q_call (f := 156) (A := bA t100) (xs := [.tmp 4]) («as» := [AggA [iA 1, EqA (strV a0), iA 0]]) rfl ca156 (ref01_Right.con k (Token.mk 1 a0 0) t100 ht100) rfl) <| av rfl rfl <| nt <| W.ret ?_
 cases h
 exact QR.f1 rfl rfl (.t rfl) (.id _)
theorem ref04_in.con (k : Nat) (a0 : Int) (a1 : Int) (a2 : Int) (r : Bool) (h : ref04_in k a0 a1 a2 = some r) : Con Tryz.prog 101 [] [iA a0, iA a1, iA a2] (RA (bA r)) := by
 unfold ref04_in at h
 refine Con.of (N := 15) Tryz.func101 rfl rfl rfl fun w0_ fg_ => sr <| ak rfl <| nt <| W.seq ?_
 refine W.jn1 (Γ := Unit) (fun (_ : Unit) (x6 : Bool) => [(6, bA x6)]) (fun (_ : Unit) (_ : Bool) => []) h (fun _ x6 h => ?_) (fun j102 Kj102 h => ?_)
 ·refine QN.then_ <| W.ret ?_
  cases h
  exact QR.f1 rfl rfl (.t rfl) (.id _)
 ·refine W.region <| mv rfl rfl <| mv rfl rfl <| p2 rfl 7 rfl 8 rfl (q_int rfl rfl) <| mv rfl rfl ?_
  rcases bif_s h with ⟨hb103, h⟩ | ⟨hb103, h⟩
  ·refine wm rfl rfl rfl hb103 rfl rfl <| wm rfl rfl rfl hb103 rfl rfl <| wq rfl rfl rfl hb103 (.s 11 rfl (.s 12 rfl .nil)) (q_int rfl rfl).o <| p2 rfl 10 rfl 13 rfl (q_pickT rfl hb103) <| av rfl rfl <| WL.nil ?_
   exact QN.weaken (.one rfl (.nil _)) (Kj102 () (decide (a0 ≤ a2)) h)
  ·refine sk rfl rfl rfl hb103 <| sk rfl rfl rfl hb103 <| sk rfl rfl rfl hb103 <| pk rfl 10 rfl (q_pickF rfl hb103) <| av rfl rfl <| WL.nil ?_
   exact QN.weaken (.one rfl (.nil _)) (Kj102 () false h)
theorem ref04_attrs.con : ∀ (k : Nat) (a0 : Types) (a1 : Int) (r : (List Attr)) (_ : ref04_attrs k a0 a1 = some r), Con Tryz.prog 113 [] [AggA [SlcA kNodeType a0.fNodes, SlcA kEdgeType a0.fEdges], iA a1] (RA (SlcA kAttr r)) := by
 intro k
 induction k with
 | zero => intro a0 a1 r h; cases h
 | succ k ih =>
  intro a0 a1 r h
  change ref04_attrs.main (ref04_attrs k) k a0 a1 = some r at h
  unfold ref04_attrs.main at h
  refine Con.of (N := 24) Tryz.func113 rfl rfl rfl fun w0_ fg_ => sr <| p1 rfl 0 rfl (q_box rfl (CellsOf.agg _)) <| ak rfl <| nt <| W.seq <| sr <| mv rfl rfl <| pk rfl 5 rfl (q_int rfl rfl) <| WL.nil ?_
  refine QN.then_ ?_
  refine W.condP h rfl (fun hb100 h => ?_) (fun hb100 h => ?_)
  ·refine sr <| ak rfl <| nt <| W.ret <| QR.then_ ?_
   cases h
   exact QR.f1 rfl rfl (.t rfl) (.imp (Imp.nil kAttr))
  ·refine W.skip <| QN.then_ <| W.seq <| W.drawK [(0, false), (1, false), (2, false), (3, false), (4, false), (5, false), (6, false), (7, false), (8, false), (10, false), (11, false), (12, false), (13, false), (14, false), (15, false)] [9, 16, 17] (bm [0, 0, 0, 4, 0, 28, 60, 124, 254, 511, 0, 1024, 0, 7168, 15360, 31744, 65535, 131071]) mx (by kernel_rfl) <| DK.cons rfl rfl (.p rfl .nil rfl (q_lit0 rfl el118 gr117)) <| DK.cons rfl rfl (.p rfl (.s 2 rfl .nil) rfl (q_loadS rfl sh25 (leB rfl) rfl)) <| df rfl rfl rfl fo25_0 rfl <| dl rfl rfl rfl sh22 <| dm rfl rfl rfl ?_
   obtain ⟨c115, h⟩ := ite_n h
   refine DK.cons rfl rfl (.p rfl (.s 10 rfl (.s 11 rfl .nil)) rfl (q_index rfl el22 rfl c115.1 c115.2)) <| df rfl rfl rfl fo120_1 rfl <| dl rfl rfl rfl sh3 ?_
   obtain ⟨t116, ht116, h⟩ := bind_s h
   refine DK.cons rfl rfl (.p rfl (.s 8 rfl (.s 14 rfl .nil)) rfl (q_call (f := 113) (A := SlcA kAttr t116) (xs := [.tmp 8, .tmp 14]) («as» := [AggA [SlcA kNodeType a0.fNodes, SlcA kEdgeType a0.fEdges], iA ((rd a0.fNodes a1).fParent)]) rfl ca113 (ih a0 ((rd a0.fNodes a1).fParent) t116 ht116) rfl)) ?_
   obtain ⟨c117, h⟩ := ite_n h
   refine df rfl rfl rfl fo25_0 rfl <| dl rfl rfl rfl sh22 <| dm rfl rfl rfl ?_
   obtain ⟨c119, h⟩ := ite_n h
   refine DK.cons rfl rfl (.p rfl (.s 18 rfl (.s 19 rfl .nil)) rfl (q_index rfl el22 rfl c119.1 c119.2)) <| df rfl rfl rfl fo120_3 rfl <| dl rfl rfl rfl sh118 ?_
   obtain ⟨c120, h⟩ := ite_n h
   refine DK.nil <| CSteps.w [] rfl rfl rfl rfl (.s 7 rfl (.s 15 rfl .nil)) rfl (w_appendZ (kd := kAttr) rfl el118 rfl gr117 c117) ?_
   rintro _ _ ⟨v118, rfl, rfl⟩
   refine CSteps.w [0] rfl rfl rfl rfl (.s 16 rfl (.s 22 rfl .nil)) rfl (w_append (kd := kAttr) rfl el118 rfl gr117 c120) ?_
   rintro _ _ ⟨v121, rfl, rfl⟩
   refine CSteps.p rfl rfl rfl (.s 23 rfl .nil) rfl (q_assign rfl) <| CSteps.nil <| QN.weaken (env' := [(4, _)]) (.one rfl (.nil _)) <| QN.then_ <| W.ret ?_
   cases h
   exact QR.f1 rfl rfl (.t rfl) (.slc 0 rfl)
theorem ref04_names.con (k : Nat) (a0 : (List Str)) (r : Int) (h : ref04_names k a0 = some r) : Con Tryz.prog 157 [] [SlcA kStr a0] (RA (iA r)) := by
 unfold ref04_names at h
 refine Con.of (N := 34) Tryz.func157 rfl rfl rfl fun w0_ fg_ => sr <| ak rfl <| nt <| W.seq <| sr <| mv rfl rfl <| p1 rfl 5 rfl (q_len rfl elS115) <| pk rfl 6 rfl (q_int rfl rfl) <| WL.nil ?_
 refine QN.then_ ?_
 refine W.condP h rfl (fun hb100 h => ?_) (fun hb100 h => ?_)
 ·refine sr <| ak rfl <| nt <| W.ret <| QR.then_ ?_
  cases h
  exact QR.f1 rfl rfl (.t rfl) (.id _)
 ·refine W.skip <| QN.then_ <| W.seq <| sr <| ak rfl <| nt <| W.block ?_
  refine W.loop1 (Γ := Unit) (fun (_ : Unit) (x3 : Int) => [(0, SlcA kStr a0), (3, iA x3)]) (fun (_ : Unit) (_ : Int) => []) h () (.o2 rfl (.nil _)) rfl (fun rec0 K0 next0 _ x3 h => ?_)
  unfold ref04_names.b0 at h
  refine W.seq <| sr <| mv rfl rfl <| mv rfl rfl <| p1 rfl 9 rfl (q_len rfl elS115) <| p2 rfl 8 rfl 10 rfl (q_int rfl rfl) <| nt ?_
  refine W.condP h rfl (fun hb169 h => ?_) (fun hb169 h => ?_)
  ·refine W.skip <| QN.then_ <| W.seq <| W.block <| W.seq <| sr <| mv rfl rfl <| mv rfl rfl ?_
   obtain ⟨c170, h⟩ := ite_n h
   refine p2 rfl 14 rfl 15 rfl (q_index rfl el115 rfl c170.1 c170.2) <| ld rfl rfl sh9 ?_
   obtain ⟨t171, ht171, h⟩ := bind_s h
   refine p1 rfl 17 rfl (q_call (f := 137) (A := bA t171) (xs := [.tmp 17]) («as» := [EqA (strV (rd a0 x3))]) rfl ca137 (ref01_IsName.con k (rd a0 x3) t171 ht171) rfl) <| p1 rfl 18 rfl (q_not rfl) <| WL.nil <| QN.weaken (env' := [(19, _), (3, _), (0, _)]) (.o2 rfl (.one rfl (.nil _))) <| QN.then_ ?_
   refine W.condP h rfl (fun hb172 h => ?_) (fun hb172 h => ?_)
   ·refine sr <| ak rfl <| nt <| W.ret <| QR.then_ <| QR.block <| QR.then_ <| QR.then_ <| QR.block <| QR.then_ ?_
    cases h
    exact QR.f1 rfl rfl (.t rfl) (.id _)
   ·refine W.skip <| QN.then_ <| sr <| ak rfl <| nt <| W.block ?_
    refine W.loop1 (Γ := Unit) (fun (_ : Unit) (x4 : Int) => [(0, SlcA kStr a0), (3, iA x3), (4, iA x4)]) (fun (_ : Unit) (_ : Int) => []) h () (.o2 rfl (.one rfl (.nil _))) rfl (fun rec1 K1 next1 _ x4 h => ?_)
    unfold ref04_names.b1 at h
    refine W.seq <| sr <| mv rfl rfl <| mv rfl rfl <| p2 rfl 20 rfl 21 rfl (q_int rfl rfl) <| nt ?_
    refine W.condP h rfl (fun hb193 h => ?_) (fun hb193 h => ?_)
    ·refine W.skip <| QN.then_ <| W.seq <| W.block <| W.seq <| W.drawK [(0, false), (1, false), (2, false), (3, false), (4, false), (5, false), (6, false), (7, false), (8, false)] [] (bm [0, 0, 3, 7, 0, 0, 48, 112, 255]) mx (by kernel_rfl) <| dm rfl rfl rfl <| dm rfl rfl rfl ?_
     obtain ⟨c198, h⟩ := ite_n h
     refine DK.cons rfl rfl (.p rfl (.s 25 rfl (.s 26 rfl .nil)) rfl (q_index rfl el115 rfl c198.1 c198.2)) <| dl rfl rfl rfl sh9 <| dm rfl rfl rfl <| dm rfl rfl rfl ?_
     obtain ⟨c199, h⟩ := ite_n h
     refine DK.cons rfl rfl (.p rfl (.s 29 rfl (.s 30 rfl .nil)) rfl (q_index rfl el115 rfl c199.1 c199.2)) <| dl rfl rfl rfl sh9 <| DK.cons rfl rfl (.p rfl (.s 28 rfl (.s 32 rfl .nil)) rfl (q_str (s := (rd a0 x4)) (t := (rd a0 x3)) rfl)) <| DK.nil <| CSteps.nil <| QN.weaken (env' := [(33, _), (4, _), (3, _), (0, _)]) (.o4 rfl (.nil _)) <| QN.then_ ?_
     refine W.condP h rfl (fun hb200 h => ?_) (fun hb200 h => ?_)
     ·refine sr <| ak rfl <| nt <| W.ret <| QR.block <| QR.then_ <| QR.then_ <| QR.block <| QR.block <| QR.then_ <| QR.then_ ?_
      refine QR.block <| QR.then_ ?_
      cases h
      exact QR.f1 rfl rfl (.t rfl) (.id _)
     ·refine W.skip <| QN.block <| QN.then_ <| W.region <| mv rfl rfl ?_
      obtain ⟨c201, h⟩ := ite_n h
      refine pk rfl 23 rfl (q_addR rfl c201) <| av rfl rfl <| WL.nil ?_
      exact next1 () (x4 + 1) _ h (.o2 rfl (.one rfl (.nil _)))
    ·refine W.exit <| QX.then_ <| QX.then_ <| QX.here <| QN.block <| QN.then_ <| W.region <| mv rfl rfl ?_
     obtain ⟨c202, h⟩ := ite_n h
     refine pk rfl 12 rfl (q_addR rfl c202) <| av rfl rfl <| WL.nil ?_
     exact next0 () (x3 + 1) _ h (.o2 rfl (.nil _))
  ·refine W.exit <| QX.then_ <| QX.then_ <| QX.here <| QN.then_ <| sr <| ak rfl <| nt <| W.ret ?_
   cases h
   exact QR.f1 rfl rfl (.t rfl) (.id _)
theorem ref04_attribute.con (k : Nat) (a0 : Attr) (r : Int) (h : ref04_attribute k a0 = some r) : Con Tryz.prog 138 [] [AggA [EqA (strV a0.fName), iA a0.fLow, iA a0.fHigh, SlcA kStr a0.fNames]] (RA (iA r)) := by
 unfold ref04_attribute at h
 refine Con.of (N := 38) Tryz.func138 rfl rfl rfl fun w0_ fg_ => sr <| p1 rfl 0 rfl (q_box rfl (CellsOf.agg _)) <| ak rfl <| nt <| W.seq <| sr <| fd rfl rfl fo117_3 rfl <| ld rfl rfl sh115 <| p1 rfl 5 rfl (q_len rfl elS115) ?_
 refine pk rfl 6 rfl (q_int rfl rfl) <| nt ?_
 refine W.condP h rfl (fun hb100 h => ?_) (fun hb100 h => ?_)
 ·refine W.seq <| W.seq ?_
  refine W.jn1 (Γ := Unit) (fun (_ : Unit) (x19 : Bool) => [(19, bA x19)]) (fun (_ : Unit) (_ : Bool) => []) h (fun _ x19 h => ?_) (fun j105 Kj105 h => ?_)
  ·refine QN.then_ ?_
   refine W.condP h rfl (fun hb106 h => ?_) (fun hb106 h => ?_)
   ·refine sr <| ak rfl <| nt <| W.ret <| QR.then_ <| QR.then_ ?_
    cases h
    exact QR.f1 rfl rfl (.t rfl) (.id _)
   ·refine W.skip <| QN.then_ <| sr <| ak rfl <| nt <| W.ret <| QR.then_ ?_
    cases h
    exact QR.f1 rfl rfl (.t rfl) (.id _)
  ·refine W.region <| fd rfl rfl fo117_1 rfl <| ld rfl rfl sh3 ?_
   obtain ⟨t107, ht107, h⟩ := bind_s h
   refine WL.p rfl rfl rfl (.s 9 rfl (.k (.k .nil))) (q_call (f := 101) (A := bA t107) (xs := [.tmp 9, .const (.int .i64 (-1000000)), .const (.int .i64 1000000)]) («as» := [iA a0.fLow, iA (-1000000), iA 1000000]) rfl ca101 (ref04_in.con k a0.fLow (-1000000) 1000000 t107 ht107) rfl) <| p1 rfl 10 rfl (q_not rfl) <| mv rfl rfl ?_
   rcases bif_s h with ⟨hb108, h⟩ | ⟨hb108, h⟩
   ·refine sk rfl rfl rfl hb108 <| sk rfl rfl rfl hb108 <| sk rfl rfl rfl hb108 <| sk rfl rfl rfl hb108 <| sk rfl rfl rfl hb108 <| sk rfl rfl rfl hb108 <| pk rfl 12 rfl (q_pickT rfl hb108) <| WL.nil ?_
    exact QN.weaken (.one rfl (.nil _)) (Kj105 () true h)
   ·refine wf rfl rfl rfl hb108 rfl rfl fo117_2 rfl <| wl rfl rfl rfl hb108 rfl rfl sh3 <| wf rfl rfl rfl hb108 rfl rfl fo117_1 rfl <| wl rfl rfl rfl hb108 rfl rfl sh3 ?_
    obtain ⟨t109, ht109, h⟩ := bind_s h
    refine wq rfl rfl rfl hb108 (.s 14 rfl (.s 16 rfl (.k .nil))) (q_call (f := 101) (A := bA t109) (xs := [.tmp 14, .tmp 16, .const (.int .i64 1000000)]) («as» := [iA a0.fHigh, iA a0.fLow, iA 1000000]) rfl ca101 (ref04_in.con k a0.fHigh a0.fLow 1000000 t109 ht109) rfl).o <| wq rfl rfl rfl hb108 (.s 17 rfl .nil) (q_not rfl).o <| p2 rfl 12 rfl 18 rfl (q_pickF rfl hb108) <| WL.nil ?_
    exact QN.weaken (.one rfl (.nil _)) (Kj105 () (!t109) h)
 ·refine W.skip <| QN.then_ <| W.seq <| sr <| fd rfl rfl fo117_3 rfl <| ld rfl rfl sh115 ?_
  obtain ⟨t110, ht110, h⟩ := bind_s h
  refine p1 rfl 21 rfl (q_call (f := 157) (A := iA t110) (xs := [.tmp 21]) («as» := [SlcA kStr a0.fNames]) rfl ca157 (ref04_names.con k a0.fNames t110 ht110) rfl) <| av rfl rfl <| WL.nil <| QN.weaken (env' := [(3, _), (1, _)]) (.o2 rfl (.nil _)) <| QN.then_ <| sr <| mv rfl rfl <| pk rfl 23 rfl (q_int rfl rfl) <| nt ?_
  refine W.condP h rfl (fun hb111 h => ?_) (fun hb111 h => ?_)
  ·refine sr <| mv rfl rfl <| av rfl rfl <| nt <| W.ret <| QR.then_ ?_
   cases h
   exact QR.f1 rfl rfl (.t rfl) (.id _)
  ·refine W.skip <| QN.then_ <| W.seq <| W.seq ?_
   refine W.jn1 (Γ := Unit) (fun (_ : Unit) (x37 : Bool) => [(37, bA x37)]) (fun (_ : Unit) (_ : Bool) => []) h (fun _ x37 h => ?_) (fun j115 Kj115 h => ?_)
   ·refine QN.then_ ?_
    refine W.condP h rfl (fun hb116 h => ?_) (fun hb116 h => ?_)
    ·refine sr <| ak rfl <| nt <| W.ret <| QR.then_ ?_
     cases h
     exact QR.f1 rfl rfl (.t rfl) (.id _)
    ·refine W.skip <| QN.then_ <| sr <| ak rfl <| nt <| W.ret ?_
     cases h
     exact QR.f1 rfl rfl (.t rfl) (.id _)
   ·refine W.region <| fd rfl rfl fo117_1 rfl <| ld rfl rfl sh3 <| pk rfl 27 rfl (q_int rfl rfl) <| mv rfl rfl ?_
    rcases bif_s h with ⟨hb117, h⟩ | ⟨hb117, h⟩
    ·refine sk rfl rfl rfl hb117 <| sk rfl rfl rfl hb117 <| sk rfl rfl rfl hb117 <| sk rfl rfl rfl hb117 <| sk rfl rfl rfl hb117 <| sk rfl rfl rfl hb117 <| sk rfl rfl rfl hb117 <| pk rfl 29 rfl (q_pickT rfl hb117) <| WL.nil ?_
     exact QN.weaken (.one rfl (.nil _)) (Kj115 () true h)
    ·refine wf rfl rfl rfl hb117 rfl rfl fo117_2 rfl <| wl rfl rfl rfl hb117 rfl rfl sh3 <| wf rfl rfl rfl hb117 rfl rfl fo117_3 rfl <| wl rfl rfl rfl hb117 rfl rfl sh115 <| wq rfl rfl rfl hb117 (.s 33 rfl .nil) (q_len rfl elS115).o ?_
     obtain ⟨c118, h⟩ := ite_n h
     refine wq rfl rfl rfl hb117 (.s 34 rfl (.k .nil)) (q_subR rfl c118).o <| wq rfl rfl rfl hb117 (.s 31 rfl (.s 35 rfl .nil)) (q_int rfl rfl).o <| p2 rfl 29 rfl 36 rfl (q_pickF rfl hb117) <| WL.nil ?_
     exact QN.weaken (.one rfl (.nil _)) (Kj115 () (a0.fHigh != ((a0.fNames.length : Int) - 1)) h)
theorem ref04_node.con (k : Nat) (a0 : Types) (a1 : Int) (r : Int) (h : ref04_node k a0 a1 = some r) : Con Tryz.prog 96 [] [AggA [SlcA kNodeType a0.fNodes, SlcA kEdgeType a0.fEdges], iA a1] (RA (iA r)) := by
 unfold ref04_node at h
 refine Con.of (N := 95) Tryz.func96 rfl rfl rfl fun w0_ fg_ => sr <| p1 rfl 0 rfl (q_box rfl (CellsOf.agg _)) <| ak rfl <| nx <| fd rfl rfl fo25_0 rfl <| ld rfl rfl sh22 <| mv rfl rfl ?_
 obtain ⟨c100, h⟩ := ite_n h
 refine p2 rfl 12 rfl 13 rfl (q_index rfl el22 rfl c100.1 c100.2) <| lS rfl rfl sh120 rfl rfl <| WL.w [] rfl (Wanted.plain rfl) rfl rfl .nil (w_alloc rfl z120 (l := [EqA (strV ([] : Str)), iA 0, bA false, EqA (.slice none 0 0)]) rfl) ?_
 rintro _ _ ⟨b101, rfl, rfl⟩
 refine WL.w0 [0] rfl (Wanted.plain rfl) rfl (.s 5 rfl (.s 15 rfl .nil)) (w_store (L := [EqA (strV ((rd a0.fNodes a1).fName)), iA ((rd a0.fNodes a1).fParent), bA ((rd a0.fNodes a1).fAbstract), SlcA kAttr ((rd a0.fNodes a1).fAttrs)]) rfl sh120 (CellsOf.agg _) rfl rfl (leB rfl) rfl) ?_
 rintro _ _ ⟨rfl, rfl⟩
 refine WL.nil <| QN.to (StTo.still [0] 5 rfl rfl) <| QN.weaken (env' := [(5, _), (2, _), (1, _)]) (.o2 rfl (.one rfl (.nil _))) <| QN.then_ <| W.seq <| sr <| fd rfl rfl fo120_0 rfl <| ld rfl rfl sh9 ?_
 obtain ⟨t102, ht102, h⟩ := bind_s h
 refine p1 rfl 17 rfl (q_call (f := 137) (A := bA t102) (xs := [.tmp 17]) («as» := [EqA (strV ((rd a0.fNodes a1).fName))]) rfl ca137 (ref01_IsName.con k ((rd a0.fNodes a1).fName) t102 ht102) rfl) <| p1 rfl 18 rfl (q_not rfl) <| nt ?_
 refine W.condP h rfl (fun hb103 h => ?_) (fun hb103 h => ?_)
 ·refine sr <| ak rfl <| WL.nil <| QN.weaken (env' := [(4, _)]) (.one rfl (.nil _)) <| QN.then_ <| W.ret <| QR.then_ ?_
  cases h
  exact QR.f1 rfl rfl (.t rfl) (.id _)
 ·refine W.skip <| QN.then_ <| W.seq <| sr <| ak rfl <| nt <| W.block ?_
  refine W.loop1 (Γ := Unit) (fun (_ : Unit) (x6 : Int) => [(1, iA a1), (2, PtrA [SlcA kNodeType a0.fNodes, SlcA kEdgeType a0.fEdges]), (5, PtrA [EqA (strV ((rd a0.fNodes a1).fName)), iA ((rd a0.fNodes a1).fParent), bA ((rd a0.fNodes a1).fAbstract), SlcA kAttr ((rd a0.fNodes a1).fAttrs)]), (6, iA x6)]) (fun (_ : Unit) (_ : Int) => []) h () (.o4 rfl (.nil _)) rfl (fun rec0 K0 next0 _ x6 h => ?_)
  unfold ref04_node.b0 at h
  refine W.seq <| sr <| mv rfl rfl <| mv rfl rfl <| p2 rfl 20 rfl 21 rfl (q_int rfl rfl) <| nt ?_
  refine W.condP h rfl (fun hb394 h => ?_) (fun hb394 h => ?_)
  ·refine W.skip <| QN.then_ <| W.seq <| W.block <| W.seq <| W.drawK [(0, false), (1, false), (2, false), (3, false), (4, false), (5, false), (6, false), (7, false), (8, false)] [] (bm [0, 1, 0, 7, 15, 31, 0, 64, 255]) mx (by kernel_rfl) <| df rfl rfl rfl fo25_0 rfl <| dl rfl rfl rfl sh22 <| dm rfl rfl rfl ?_
   obtain ⟨c397, h⟩ := ite_n h
   refine DK.cons rfl rfl (.p rfl (.s 26 rfl (.s 27 rfl .nil)) rfl (q_index rfl el22 rfl c397.1 c397.2)) <| df rfl rfl rfl fo120_0 rfl <| dl rfl rfl rfl sh9 <| df rfl rfl rfl fo120_0 rfl <| dl rfl rfl rfl sh9 <| DK.cons rfl rfl (.p rfl (.s 30 rfl (.s 32 rfl .nil)) rfl (q_str (s := (rd a0.fNodes x6).fName) (t := (rd a0.fNodes a1).fName) rfl)) <| DK.nil <| CSteps.nil <| QN.weaken (env' := [(33, _), (6, _), (5, _), (2, _), (1, _)]) (.o4 rfl (.one rfl (.nil _))) <| QN.then_ ?_
   refine W.condP h rfl (fun hb398 h => ?_) (fun hb398 h => ?_)
   ·refine sr <| ak rfl <| nt <| W.ret <| QR.block <| QR.then_ <| QR.then_ <| QR.block <| QR.then_ ?_
    cases h
    exact QR.f1 rfl rfl (.t rfl) (.id _)
   ·refine W.skip <| QN.block <| QN.then_ <| W.region <| mv rfl rfl ?_
    obtain ⟨c399, h⟩ := ite_n h
    refine pk rfl 23 rfl (q_addR rfl c399) <| av rfl rfl <| WL.nil ?_
    exact next0 () (x6 + 1) _ h (.o4 rfl (.nil _))
  ·refine W.exit <| QX.then_ <| QX.then_ <| QX.here <| QN.then_ <| W.seq <| sr <| fd rfl rfl fo120_1 rfl <| ld rfl rfl sh3 <| mv rfl rfl ?_
   obtain ⟨c400, h⟩ := ite_n h
   refine pk rfl 36 rfl (q_subR rfl c400) ?_
   obtain ⟨t401, ht401, h⟩ := bind_s h
   refine WL.p rfl rfl rfl (.s 35 rfl (.k (.s 37 rfl .nil))) (q_call (f := 101) (A := bA t401) (xs := [.tmp 35, .const (.int .i64 (-1)), .tmp 37]) («as» := [iA ((rd a0.fNodes a1).fParent), iA (-1), iA (a1 - 1)]) rfl ca101 (ref04_in.con k ((rd a0.fNodes a1).fParent) (-1) (a1 - 1) t401 ht401) rfl) <| p1 rfl 38 rfl (q_not rfl) <| WL.nil <| QN.weaken (env' := [(39, _), (5, _), (2, _), (1, _)]) (.o4 rfl (.nil _)) <| QN.then_ ?_
   refine W.condP h rfl (fun hb402 h => ?_) (fun hb402 h => ?_)
   ·refine sr <| ak rfl <| nt <| W.ret <| QR.then_ ?_
    cases h
    exact QR.f1 rfl rfl (.t rfl) (.id _)
   ·refine W.skip <| QN.then_ <| sr <| lS rfl rfl sh25 rfl rfl <| mv rfl rfl ?_
    obtain ⟨t403, ht403, h⟩ := bind_s h
    refine p2 rfl 40 rfl 41 rfl (q_call (f := 113) (A := SlcA kAttr t403) (xs := [.tmp 40, .tmp 41]) («as» := [AggA [SlcA kNodeType a0.fNodes, SlcA kEdgeType a0.fEdges], iA a1]) rfl ca113 (ref04_attrs.con k a0 a1 t403 ht403) rfl) <| av rfl rfl <| nt <| W.seq <| W.seq ?_
    refine W.jn1 (Γ := Unit) (fun (_ : Unit) (x51 : Bool) => [(5, PtrA [EqA (strV ((rd a0.fNodes a1).fName)), iA ((rd a0.fNodes a1).fParent), bA ((rd a0.fNodes a1).fAbstract), SlcA kAttr ((rd a0.fNodes a1).fAttrs)]), (7, SlcA kAttr t403), (51, bA x51)]) (fun (_ : Unit) (_ : Bool) => []) h (fun _ x51 h => ?_) (fun j406 Kj406 h => ?_)
    ·refine QN.then_ ?_
     refine W.condP h rfl (fun hb407 h => ?_) (fun hb407 h => ?_)
     ·refine sr <| ak rfl <| nt <| W.ret <| QR.then_ ?_
      cases h
      exact QR.f1 rfl rfl (.t rfl) (.id _)
     ·refine W.skip <| QN.then_ <| W.seq <| sr <| mv rfl rfl <| p1 rfl 52 rfl (q_len rfl elS118) <| fd rfl rfl fo120_3 rfl <| ld rfl rfl sh118 <| p1 rfl 55 rfl (q_len rfl elS118) ?_
      obtain ⟨c408, h⟩ := ite_n h
      refine p2 rfl 53 rfl 56 rfl (q_subR rfl c408) <| av rfl rfl <| WL.nil <| QN.weaken (env' := [(8, _), (7, _)]) (.o2 rfl (.nil _)) <| QN.then_ <| W.block ?_
      refine W.loop1 (Γ := Unit) (fun (_ : Unit) (x8 : Int) => [(7, SlcA kAttr t403), (8, iA x8)]) (fun (_ : Unit) (_ : Int) => []) h () (.o2 rfl (.nil _)) rfl (fun rec1 K1 next1 _ x8 h => ?_)
      unfold ref04_node.b1 at h
      refine W.seq <| sr <| mv rfl rfl <| mv rfl rfl <| p1 rfl 59 rfl (q_len rfl elS118) <| p2 rfl 58 rfl 60 rfl (q_int rfl rfl) <| nt ?_
      refine W.condP h rfl (fun hb495 h => ?_) (fun hb495 h => ?_)
      ·refine W.skip <| QN.then_ <| W.seq <| W.block <| W.seq <| sr <| mv rfl rfl <| mv rfl rfl ?_
       obtain ⟨c496, h⟩ := ite_n h
       refine p2 rfl 64 rfl 65 rfl (q_index rfl el118 rfl c496.1 c496.2) <| fd rfl rfl fo117_0 rfl <| ld rfl rfl sh9 ?_
       obtain ⟨t497, ht497, h⟩ := bind_s h
       refine p1 rfl 68 rfl (q_call (f := 137) (A := bA t497) (xs := [.tmp 68]) («as» := [EqA (strV ((rd t403 x8).fName))]) rfl ca137 (ref01_IsName.con k ((rd t403 x8).fName) t497 ht497) rfl) <| p1 rfl 69 rfl (q_not rfl) <| WL.nil <| QN.weaken (env' := [(70, _), (8, _), (7, _)]) (.o2 rfl (.one rfl (.nil _))) <| QN.then_ ?_
       refine W.condP h rfl (fun hb498 h => ?_) (fun hb498 h => ?_)
       ·refine sr <| ak rfl <| nt <| W.ret <| QR.then_ <| QR.block <| QR.then_ <| QR.then_ <| QR.block <| QR.then_ ?_
        cases h
        exact QR.f1 rfl rfl (.t rfl) (.id _)
       ·refine W.skip <| QN.then_ <| W.seq <| sr <| ak rfl <| nt <| W.block ?_
        refine W.loop1 (Γ := Unit) (fun (_ : Unit) (x9 : Int) => [(7, SlcA kAttr t403), (8, iA x8), (9, iA x9)]) (fun (_ : Unit) (_ : Int) => []) h () (.o2 rfl (.one rfl (.nil _))) rfl (fun rec2 K2 next2 _ x9 h => ?_)
        unfold ref04_node.b2 at h
        refine W.seq <| sr <| mv rfl rfl <| mv rfl rfl <| p2 rfl 71 rfl 72 rfl (q_int rfl rfl) <| nt ?_
        refine W.condP h rfl (fun hb525 h => ?_) (fun hb525 h => ?_)
        ·refine W.skip <| QN.then_ <| W.seq <| W.block <| W.seq <| W.drawK [(0, false), (1, false), (2, false), (3, false), (4, false), (5, false), (6, false), (7, false), (8, false), (9, false), (10, false)] [] (bm [0, 0, 3, 7, 15, 0, 0, 96, 224, 480, 1023]) mx (by kernel_rfl) <| dm rfl rfl rfl <| dm rfl rfl rfl ?_
         obtain ⟨c530, h⟩ := ite_n h
         refine DK.cons rfl rfl (.p rfl (.s 76 rfl (.s 77 rfl .nil)) rfl (q_index rfl el118 rfl c530.1 c530.2)) <| df rfl rfl rfl fo117_0 rfl <| dl rfl rfl rfl sh9 <| dm rfl rfl rfl <| dm rfl rfl rfl ?_
         obtain ⟨c531, h⟩ := ite_n h
         refine DK.cons rfl rfl (.p rfl (.s 81 rfl (.s 82 rfl .nil)) rfl (q_index rfl el118 rfl c531.1 c531.2)) <| df rfl rfl rfl fo117_0 rfl <| dl rfl rfl rfl sh9 <| DK.cons rfl rfl (.p rfl (.s 80 rfl (.s 85 rfl .nil)) rfl (q_str (s := (rd t403 x9).fName) (t := (rd t403 x8).fName) rfl)) <| DK.nil <| CSteps.nil <| QN.weaken (env' := [(86, _), (9, _), (8, _), (7, _)]) (.o4 rfl (.nil _)) <| QN.then_ ?_
         refine W.condP h rfl (fun hb532 h => ?_) (fun hb532 h => ?_)
         ·refine sr <| ak rfl <| nt <| W.ret <| QR.block <| QR.then_ <| QR.then_ <| QR.block <| QR.then_ <| QR.block <| QR.then_ ?_
          refine QR.then_ <| QR.block <| QR.then_ ?_
          cases h
          exact QR.f1 rfl rfl (.t rfl) (.id _)
         ·refine W.skip <| QN.block <| QN.then_ <| W.region <| mv rfl rfl ?_
          obtain ⟨c533, h⟩ := ite_n h
          refine pk rfl 74 rfl (q_addR rfl c533) <| av rfl rfl <| WL.nil ?_
          exact next2 () (x9 + 1) _ h (.o2 rfl (.one rfl (.nil _)))
        ·refine W.exit <| QX.then_ <| QX.then_ <| QX.here <| QN.then_ <| sr <| mv rfl rfl <| mv rfl rfl ?_
         obtain ⟨c534, h⟩ := ite_n h
         refine p2 rfl 87 rfl 88 rfl (q_index rfl el118 rfl c534.1 c534.2) <| lS rfl rfl sh117 rfl rfl ?_
         obtain ⟨t535, ht535, h⟩ := bind_s h
         refine p1 rfl 90 rfl (q_call (f := 138) (A := iA t535) (xs := [.tmp 90]) («as» := [AggA [EqA (strV ((rd t403 x8).fName)), iA ((rd t403 x8).fLow), iA ((rd t403 x8).fHigh), SlcA kStr ((rd t403 x8).fNames)]]) rfl ca138 (ref04_attribute.con k (rd t403 x8) t535 ht535) rfl) <| av rfl rfl <| WL.nil <| QN.weaken (env' := [(10, _), (8, _), (7, _)]) (.o2 rfl (.one rfl (.nil _))) <| QN.then_ <| sr <| mv rfl rfl <| pk rfl 92 rfl (q_int rfl rfl) <| nt ?_
         refine W.condP h rfl (fun hb536 h => ?_) (fun hb536 h => ?_)
         ·refine sr <| mv rfl rfl <| av rfl rfl <| nt <| W.ret <| QR.block <| QR.then_ <| QR.then_ <| QR.block <| QR.then_ ?_
          cases h
          exact QR.f1 rfl rfl (.t rfl) (.id _)
         ·refine W.skip <| QN.block <| QN.then_ <| W.region <| mv rfl rfl ?_
          obtain ⟨c537, h⟩ := ite_n h
          refine pk rfl 62 rfl (q_addR rfl c537) <| av rfl rfl <| WL.nil ?_
          exact next1 () (x8 + 1) _ h (.o2 rfl (.nil _))
      ·refine W.exit <| QX.then_ <| QX.then_ <| QX.here <| QN.then_ <| sr <| ak rfl <| nt <| W.ret ?_
       cases h
       exact QR.f1 rfl rfl (.t rfl) (.id _)
    ·refine W.region <| fd rfl rfl fo120_3 rfl <| ld rfl rfl sh118 <| p1 rfl 44 rfl (q_len rfl elS118) <| pk rfl 45 rfl (q_int rfl rfl) <| mv rfl rfl ?_
     rcases bif_s h with ⟨hb538, h⟩ | ⟨hb538, h⟩
     ·refine sk rfl rfl rfl hb538 <| sk rfl rfl rfl hb538 <| sk rfl rfl rfl hb538 <| pk rfl 47 rfl (q_pickT rfl hb538) <| WL.nil ?_
      exact QN.weaken (.o2 rfl (.one rfl (.nil _))) (Kj406 () true h)
     ·refine wm rfl rfl rfl hb538 rfl rfl <| wq rfl rfl rfl hb538 (.s 48 rfl .nil) (q_len rfl elS118).o <| wq rfl rfl rfl hb538 (.s 49 rfl (.k .nil)) (q_int rfl rfl).o <| p2 rfl 47 rfl 50 rfl (q_pickF rfl hb538) <| WL.nil ?_
      exact QN.weaken (.o2 rfl (.one rfl (.nil _))) (Kj406 () (decide ((t403.length : Int) > 8)) h)
end Go.Proofs.YthmdmchmmgmblaaGreat
