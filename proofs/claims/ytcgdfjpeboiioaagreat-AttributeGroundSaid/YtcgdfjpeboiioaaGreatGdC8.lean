import Derived.Test.YtcgdfjpeboiioaaGreatGdC7
namespace Go.Proofs.YtcgdfjpeboiioaaGreat
open Go Go.Abs
attribute [local irreducible] Tryz.prog
theorem ref01_text.con (k : Nat) (a0 : Token) (r : Str) (h : ref01_text k a0 = some r) : Con Tryz.prog 202 [] [AggA [iA a0.fKind, EqA (strV a0.fText), iA a0.fLine]] (RA (EqA (strV r))) := by
 unfold ref01_text at h
 refine vZ (N := 12) Tryz.func202 R R R fun w0_ fg_ => sr <| p1 R 0 R (q_box R (qz _)) <| ak R <| nt <| qX <| sr <| fd R R fo226_0 R <| ld R R sh3 <| pk R 4 R (qB R R) ?_
 refine nt ?_
 refine qZ h R (fun hb100 h => ?_) (fun hb100 h => ?_)
 ·refine sr <| fd R R fo226_1 R <| ld R R sh9 ?_
  obtain ⟨c101, h⟩ := qV h
  refine WL.p R R R (.k (.s 7 R .nil)) (q_sadd (s := ([34] : Str)) (t := a0.fText) R c101) ?_
  obtain ⟨c102, h⟩ := qV h
  refine pk R 8 R (q_sadd (s := (([34] : Str) ++ a0.fText)) (t := ([34] : Str)) R c102) <| av R R <| qx <| qw (env' := [(2, _)]) (.one R (.nil _)) <| qq <| qN <| qy ?_
  cases h
  exact vW R R (.t R) (.id _)
 ·refine qK <| qq <| sr <| fd R R fo226_1 R <| ld R R sh9 <| av R R <| qx <| qw (env' := [(2, _)]) (.one R (.nil _)) <| qq <| qN ?_
  cases h
  exact vW R R (.t R) (.id _)
theorem ref01_letter.con (k : Nat) (a0 : Int) (r : Bool) (h : ref01_letter k a0 = some r) : Con Tryz.prog 220 [] [EqA (.int .u8 a0)] (RA (bA r)) := by
 unfold ref01_letter at h
 refine vZ (N := 17) Tryz.func220 R R R fun w0_ fg_ => sr <| ak R <| nt <| qX ?_
 refine W.jn1 (Γ := Unit) (fun (_ : Unit) (x2 : Bool) => [(2, bA x2)]) (fun (_ : Unit) (_ : Bool) => []) h (fun _ x2 h => ?_) (fun j105 Kj105 h => ?_)
 ·refine qq <| qN ?_
  cases h
  exact vW R R (.t R) (.id _)
 ·refine qJ <| mv R R <| pk R 3 R (qB R R) <| mv R R ?_
  rcases bif_s h with ⟨hb106, h⟩ | ⟨hb106, h⟩
  ·refine wm R R R hb106 R R <| wq R R R hb106 (.s 6 R (.k .nil)) (qB R R).o <| p2 R 5 R 7 R (vy R hb106) <| mv R R ?_
   rcases bif_s h with ⟨hb107, h⟩ | ⟨hb107, h⟩
   ·refine sk R R R hb107 <| sk R R R hb107 <| sk R R R hb107 <| su R R R <| su R R R <| sk R R R hb107 <| pk R 9 R (vy R hb107) <| av R R <| qx ?_
    exact qw (.one R (.nil _)) (Kj105 () true h)
   ·refine wm R R R hb107 R R <| wq R R R hb107 (.s 10 R (.k .nil)) (qB R R).o <| wm R R R hb107 R R ?_
    rcases bif_s h with ⟨hb108, h⟩ | ⟨hb108, h⟩
    ·refine wm R R R hb108 R R <| wq R R R hb108 (.s 13 R (.k .nil)) (qB R R).o <| wq R R R hb107 (.s 12 R (.s 14 R .nil)) (vy R hb108).o <| p2 R 9 R 15 R (vz R hb107) <| av R R <| qx ?_
     exact qw (.one R (.nil _)) (Kj105 () (decide (a0 ≤ 90)) h)
    ·refine sk R R R hb108 <| sk R R R hb108 <| wq R R R hb107 (.s 12 R (.k .nil)) (vz R hb108).o <| p2 R 9 R 15 R (vz R hb107) <| av R R <| qx ?_
     exact qw (.one R (.nil _)) (Kj105 () false h)
  ·refine sk R R R hb106 <| sk R R R hb106 <| pk R 5 R (vz R hb106) <| mv R R <| wm R R R R R R <| wq R R R R (.s 10 R (.k .nil)) (qB R R).o <| wm R R R R R R ?_
   rcases bif_s h with ⟨hb109, h⟩ | ⟨hb109, h⟩
   ·refine wm R R R hb109 R R <| wq R R R hb109 (.s 13 R (.k .nil)) (qB R R).o <| wq R R R R (.s 12 R (.s 14 R .nil)) (vy R hb109).o <| p2 R 9 R 15 R (vz R R) <| av R R <| qx ?_
    exact qw (.one R (.nil _)) (Kj105 () (decide (a0 ≤ 90)) h)
   ·refine sk R R R hb109 <| sk R R R hb109 <| wq R R R R (.s 12 R (.k .nil)) (vz R hb109).o <| p2 R 9 R 15 R (vz R R) <| av R R <| qx ?_
    exact qw (.one R (.nil _)) (Kj105 () false h)
theorem ref01_digit.con (k : Nat) (a0 : Int) (r : Bool) (h : ref01_digit k a0 = some r) : Con Tryz.prog 221 [] [EqA (.int .u8 a0)] (RA (bA r)) := by
 unfold ref01_digit at h
 refine vZ (N := 9) Tryz.func221 R R R fun w0_ fg_ => sr <| ak R <| nt <| qX ?_
 refine W.jn1 (Γ := Unit) (fun (_ : Unit) (x2 : Bool) => [(2, bA x2)]) (fun (_ : Unit) (_ : Bool) => []) h (fun _ x2 h => ?_) (fun j102 Kj102 h => ?_)
 ·refine qq <| qN ?_
  cases h
  exact vW R R (.t R) (.id _)
 ·refine qJ <| mv R R <| pk R 3 R (qB R R) <| mv R R ?_
  rcases bif_s h with ⟨hb103, h⟩ | ⟨hb103, h⟩
  ·refine wm R R R hb103 R R <| wq R R R hb103 (.s 6 R (.k .nil)) (qB R R).o <| p2 R 5 R 7 R (vy R hb103) <| av R R <| qx ?_
   exact qw (.one R (.nil _)) (Kj102 () (decide (a0 ≤ 57)) h)
  ·refine sk R R R hb103 <| sk R R R hb103 <| pk R 5 R (vz R hb103) <| av R R <| qx ?_
   exact qw (.one R (.nil _)) (Kj102 () false h)
theorem ref01_run.con (k : Nat) (a0 : Str) (a1 : Int) (a2 : Bool) (r : Int) (h : ref01_run k a0 a1 a2 = some r) : Con Tryz.prog 222 [] [EqA (strV a0), iA a1, bA a2] (RA (iA r)) := by
 unfold ref01_run at h
 refine vZ (N := 45) Tryz.func222 R R R fun w0_ fg_ => sr <| ak R <| nx <| ak R <| nt <| qX <| vj ?_
 refine W.loop1 (Γ := Unit) (fun (_ : Unit) (x7 : Int) => [(0, EqA (strV a0)), (1, iA a1), (2, bA a2), (7, iA x7)]) (fun (_ : Unit) (_ : Int) => []) h () (.o4 R (.nil _)) R (fun rec0 K0 next0 _ x7 h => ?_)
 unfold ref01_run.b0 at h
 refine qX <| qX ?_
 refine W.jn1 (Γ := Unit) (fun (_ : Unit) (x41 : Bool) => [(0, EqA (strV a0)), (1, iA a1), (2, bA a2), (7, iA x7), (41, bA x41)]) (fun (_ : Unit) (_ : Bool) => []) h (fun _ x41 h => ?_) (fun j174 Kj174 h => ?_)
 ·refine qq ?_
  refine qZ h R (fun hb175 h => ?_) (fun hb175 h => ?_)
  ·refine qK <| qq <| vj <| qJ <| mv R R ?_
   obtain ⟨c176, h⟩ := qV h
   refine pk R 42 R (vV R c176) <| av R R <| qx <| vJ ?_
   exact next0 () (x7 + 1) _ h (.o4 R (.nil _))
  ·refine W.exit <| vq <| vq <| vB <| qq <| sr <| mv R R <| av R R <| nt <| qN ?_
   cases h
   exact vW R R (.t R) (.id _)
 ·refine qJ <| mv R R <| mv R R ?_
  obtain ⟨c177, h⟩ := qV h
  refine p2 R 8 R 9 R (vV R c177) <| mv R R <| p1 R 11 R (q_slen (s := a0) R iss9) <| p2 R 10 R 12 R (qB R R) <| mv R R ?_
  rcases bif_s h with ⟨hb178, h⟩ | ⟨hb178, h⟩
  ·refine wm R R R hb178 R R <| wm R R R hb178 R R <| wm R R R hb178 R R ?_
   obtain ⟨c179, h⟩ := qV h
   refine wq R R R hb178 (.s 16 R (.s 17 R .nil)) (vV R c179).o ?_
   obtain ⟨c180, h⟩ := qV h
   refine wq R R R hb178 (.s 15 R (.s 18 R .nil)) (q_sindex R iss9 c180.1 c180.2).o ?_
   obtain ⟨t181, ht181, h⟩ := vw h
   refine wq R R R hb178 (.s 19 R .nil) (vQ (f := 221) (A := bA t181) (xs := [.tmp 19]) («as» := [EqA (.int .u8 (bt a0 (a1 + x7)))]) R ca221 (ref01_digit.con k (bt a0 (a1 + x7)) t181 ht181) R).o <| wm R R R hb178 R R ?_
   rcases bif_s h with ⟨hb182, h⟩ | ⟨hb182, h⟩
   ·refine sk R R R hb182 <| sk R R R hb182 <| sk R R R hb182 <| su R R R <| su R R R <| su R R R <| su R R R <| su R R R <| su R R R <| su R R R <| su R R R <| su R R R <| su R R R ?_
    refine su R R R <| su R R R <| su R R R <| su R R R <| sk R R R hb182 <| wq R R R hb178 (.s 21 R (.k .nil)) (vy R hb182).o <| p2 R 14 R 40 R (vy R hb178) <| qx ?_
    exact qw (.o4 R (.one R (.nil _))) (Kj174 () true h)
   ·refine wm R R R hb182 R R <| wq R R R hb182 (.s 22 R .nil) (q_not R).o <| wm R R R hb182 R R ?_
    rcases bif_s h with ⟨hb183, h⟩ | ⟨hb183, h⟩
    ·refine wm R R R hb183 R R <| wm R R R hb183 R R <| wm R R R hb183 R R ?_
     obtain ⟨c184, h⟩ := qV h
     refine wq R R R hb183 (.s 26 R (.s 27 R .nil)) (vV R c184).o ?_
     obtain ⟨c185, h⟩ := qV h
     refine wq R R R hb183 (.s 25 R (.s 28 R .nil)) (q_sindex R iss9 c185.1 c185.2).o ?_
     obtain ⟨t186, ht186, h⟩ := vw h
     refine wq R R R hb183 (.s 29 R .nil) (vQ (f := 220) (A := bA t186) (xs := [.tmp 29]) («as» := [EqA (.int .u8 (bt a0 (a1 + x7)))]) R ca220 (ref01_letter.con k (bt a0 (a1 + x7)) t186 ht186) R).o <| wm R R R hb183 R R ?_
     rcases bif_s h with ⟨hb187, h⟩ | ⟨hb187, h⟩
     ·refine sk R R R hb187 <| sk R R R hb187 <| sk R R R hb187 <| sk R R R hb187 <| sk R R R hb187 <| sk R R R hb187 <| wq R R R hb183 (.s 31 R (.k .nil)) (vy R hb187).o <| wq R R R hb182 (.s 24 R (.s 38 R .nil)) (vy R hb183).o <| wq R R R hb178 (.s 21 R (.s 39 R .nil)) (vz R hb182).o <| p2 R 14 R 40 R (vy R hb178) <| qx ?_
      exact qw (.o4 R (.one R (.nil _))) (Kj174 () true h)
     ·refine wm R R R hb187 R R <| wm R R R hb187 R R <| wm R R R hb187 R R ?_
      obtain ⟨c188, h⟩ := qV h
      refine wq R R R hb187 (.s 33 R (.s 34 R .nil)) (vV R c188).o ?_
      obtain ⟨c189, h⟩ := qV h
      refine wq R R R hb187 (.s 32 R (.s 35 R .nil)) (q_sindex R iss9 c189.1 c189.2).o <| wq R R R hb187 (.s 36 R (.k .nil)) (qB R R).o <| wq R R R hb183 (.s 31 R (.s 37 R .nil)) (vz R hb187).o <| wq R R R hb182 (.s 24 R (.s 38 R .nil)) (vy R hb183).o <| wq R R R hb178 (.s 21 R (.s 39 R .nil)) (vz R hb182).o <| p2 R 14 R 40 R (vy R hb178) <| qx ?_
      exact qw (.o4 R (.one R (.nil _))) (Kj174 () ((bt a0 (a1 + x7)) == 95) h)
    ·refine sk R R R hb183 <| sk R R R hb183 <| sk R R R hb183 <| sk R R R hb183 <| sk R R R hb183 <| sk R R R hb183 <| sk R R R hb183 <| su R R R <| su R R R <| su R R R <| su R R R <| su R R R <| su R R R ?_
     refine sk R R R hb183 <| wq R R R hb182 (.s 24 R (.k .nil)) (vz R hb183).o <| wq R R R hb178 (.s 21 R (.s 39 R .nil)) (vz R hb182).o <| p2 R 14 R 40 R (vy R hb178) <| qx ?_
     exact qw (.o4 R (.one R (.nil _))) (Kj174 () false h)
  ·refine sk R R R hb178 <| sk R R R hb178 <| sk R R R hb178 <| sk R R R hb178 <| sk R R R hb178 <| sk R R R hb178 <| sk R R R hb178 <| su R R R <| su R R R <| su R R R <| su R R R <| su R R R <| su R R R ?_
   refine su R R R <| su R R R <| su R R R <| su R R R <| su R R R <| su R R R <| su R R R <| su R R R <| su R R R <| su R R R <| su R R R <| su R R R <| sk R R R hb178 ?_
   refine pk R 14 R (vz R hb178) <| qx ?_
   exact qw (.o4 R (.one R (.nil _))) (Kj174 () false h)
theorem ref01_quoted.con (k : Nat) (a0 : Str) (a1 : Int) (r : Int) (h : ref01_quoted k a0 a1 = some r) : Con Tryz.prog 223 [] [EqA (strV a0), iA a1] (RA (iA r)) := by
 unfold ref01_quoted at h
 refine vZ (N := 30) Tryz.func223 R R R fun w0_ fg_ => sr <| ak R <| nt <| qX <| sr <| ak R <| nt <| vj ?_
 refine W.loop1 (Γ := Unit) (fun (_ : Unit) (x5 : Int) => [(0, EqA (strV a0)), (1, iA a1), (5, iA x5)]) (fun (_ : Unit) (_ : Int) => []) h () (.o2 R (.one R (.nil _))) R (fun rec0 K0 next0 _ x5 h => ?_)
 unfold ref01_quoted.b0 at h
 refine qX <| sr <| mv R R <| mv R R ?_
 obtain ⟨c124, h⟩ := qV h
 refine p2 R 7 R 8 R (vV R c124) <| mv R R <| p1 R 10 R (q_slen (s := a0) R iss9) <| p2 R 9 R 11 R (qB R R) <| nt ?_
 refine qZ h R (fun hb125 h => ?_) (fun hb125 h => ?_)
 ·refine qK <| qq <| qX <| vj <| sr <| mv R R <| mv R R <| mv R R ?_
  obtain ⟨c126, h⟩ := qV h
  refine p2 R 16 R 17 R (vV R c126) ?_
  obtain ⟨c127, h⟩ := qV h
  refine p2 R 15 R 18 R (q_sindex R iss9 c127.1 c127.2) <| av R R <| qx <| qw (env' := [(6, _), (5, _), (1, _), (0, _)]) (.o4 R (.nil _)) <| qq <| qX <| sr <| mv R R <| pk R 20 R (qB R R) <| nt ?_
  refine qZ h R (fun hb128 h => ?_) (fun hb128 h => ?_)
  ·refine sr <| mv R R ?_
   obtain ⟨c129, h⟩ := qV h
   refine pk R 22 R (vV R c129) <| av R R <| qx <| qw (env' := [(4, _)]) (.one R (.nil _)) <| qq <| qN <| qy <| vx <| qy <| qy <| vx <| qy ?_
   cases h
   exact vW R R (.t R) (.id _)
  ·refine qK <| qq <| qX ?_
   refine W.jn1 (Γ := Unit) (fun (_ : Unit) (x29 : Bool) => [(0, EqA (strV a0)), (1, iA a1), (5, iA x5), (29, bA x29)]) (fun (_ : Unit) (_ : Bool) => []) h (fun _ x29 h => ?_) (fun j132 Kj132 h => ?_)
   ·refine qq ?_
    refine qZ h R (fun hb133 h => ?_) (fun hb133 h => ?_)
    ·refine sr <| ak R <| nt <| qN <| vx <| qy <| qy <| vx <| qy ?_
     cases h
     exact vW R R (.t R) (.id _)
    ·refine qK <| vJ <| qq <| qJ <| mv R R ?_
     obtain ⟨c134, h⟩ := qV h
     refine pk R 13 R (vV R c134) <| av R R <| qx ?_
     exact next0 () (x5 + 1) _ h (.o2 R (.one R (.nil _)))
   ·refine qJ <| mv R R <| pk R 24 R (qB R R) <| mv R R ?_
    rcases bif_s h with ⟨hb135, h⟩ | ⟨hb135, h⟩
    ·refine sk R R R hb135 <| sk R R R hb135 <| pk R 26 R (vy R hb135) <| qx ?_
     exact qw (.o4 R (.nil _)) (Kj132 () true h)
    ·refine wm R R R hb135 R R <| wq R R R hb135 (.s 27 R (.k .nil)) (qB R R).o <| p2 R 26 R 28 R (vz R hb135) <| qx ?_
     exact qw (.o4 R (.nil _)) (Kj132 () (decide ((bt a0 (a1 + x5)) > 126)) h)
 ·refine W.exit <| vq <| vq <| vB <| qw (env' := []) (.nil _) <| qq <| sr <| ak R <| nt <| qN ?_
  cases h
  exact vW R R (.t R) (.id _)
theorem ref01_signs.con (k : Nat) (r : (List Str)) (h : ref01_signs k = some r) : Con Tryz.prog 224 [] [] (RA (SlcA kStr r)) := by
 unfold ref01_signs at h
 refine vZ (N := 2) Tryz.func224 R R R fun w0_ fg_ => sr <| ak R <| nx <| WL.p R R R (.k (.k (.k (.k (.k (.k (.k (.k (.k (.k (.k (.k (.k (.k (.k (.k (.k (.k (.k (.k (.k (.k (.k (.k (.k .nil))))))))))))))))))))))))) (q_lit (kd := kStr) (ps := [(0, .const (.string ⟨#[45, 62]⟩)), (1, .const (.string ⟨#[60, 61]⟩)), (2, .const (.string ⟨#[62, 61]⟩)), (3, .const (.string ⟨#[61, 61]⟩)), (4, .const (.string ⟨#[33, 61]⟩)), (5, .const (.string ⟨#[123]⟩)), (6, .const (.string ⟨#[125]⟩)), (7, .const (.string ⟨#[40]⟩)), (8, .const (.string ⟨#[41]⟩)), (9, .const (.string ⟨#[91]⟩)), (10, .const (.string ⟨#[93]⟩)), (11, .const (.string ⟨#[44]⟩)), (12, .const (.string ⟨#[59]⟩)), (13, .const (.string ⟨#[58]⟩)), (14, .const (.string ⟨#[61]⟩)), (15, .const (.string ⟨#[43]⟩)), (16, .const (.string ⟨#[45]⟩)), (17, .const (.string ⟨#[42]⟩)), (18, .const (.string ⟨#[60]⟩)), (19, .const (.string ⟨#[62]⟩)), (20, .const (.string ⟨#[33]⟩)), (21, .const (.string ⟨#[38]⟩)), (22, .const (.string ⟨#[124]⟩)), (23, .const (.string ⟨#[46]⟩)), (24, .const (.string ⟨#[63]⟩))]) (xs := [.const (.string ⟨#[45, 62]⟩), .const (.string ⟨#[60, 61]⟩), .const (.string ⟨#[62, 61]⟩), .const (.string ⟨#[61, 61]⟩), .const (.string ⟨#[33, 61]⟩), .const (.string ⟨#[123]⟩), .const (.string ⟨#[125]⟩), .const (.string ⟨#[40]⟩), .const (.string ⟨#[41]⟩), .const (.string ⟨#[91]⟩), .const (.string ⟨#[93]⟩), .const (.string ⟨#[44]⟩), .const (.string ⟨#[59]⟩), .const (.string ⟨#[58]⟩), .const (.string ⟨#[61]⟩), .const (.string ⟨#[43]⟩), .const (.string ⟨#[45]⟩), .const (.string ⟨#[42]⟩), .const (.string ⟨#[60]⟩), .const (.string ⟨#[62]⟩), .const (.string ⟨#[33]⟩), .const (.string ⟨#[38]⟩), .const (.string ⟨#[124]⟩), .const (.string ⟨#[46]⟩), .const (.string ⟨#[63]⟩)]) («as» := [EqA (strV ([45, 62] : Str)), EqA (strV ([60, 61] : Str)), EqA (strV ([62, 61] : Str)), EqA (strV ([61, 61] : Str)), EqA (strV ([33, 61] : Str)), EqA (strV ([123] : Str)), EqA (strV ([125] : Str)), EqA (strV ([40] : Str)), EqA (strV ([41] : Str)), EqA (strV ([91] : Str)), EqA (strV ([93] : Str)), EqA (strV ([44] : Str)), EqA (strV ([59] : Str)), EqA (strV ([58] : Str)), EqA (strV ([61] : Str)), EqA (strV ([43] : Str)), EqA (strV ([45] : Str)), EqA (strV ([42] : Str)), EqA (strV ([60] : Str)), EqA (strV ([62] : Str)), EqA (strV ([33] : Str)), EqA (strV ([38] : Str)), EqA (strV ([124] : Str)), EqA (strV ([46] : Str)), EqA (strV ([63] : Str))]) (ys := [([45, 62] : Str), ([60, 61] : Str), ([62, 61] : Str), ([61, 61] : Str), ([33, 61] : Str), ([123] : Str), ([125] : Str), ([40] : Str), ([41] : Str), ([91] : Str), ([93] : Str), ([44] : Str), ([59] : Str), ([58] : Str), ([61] : Str), ([43] : Str), ([45] : Str), ([42] : Str), ([60] : Str), ([62] : Str), ([33] : Str), ([38] : Str), ([124] : Str), ([46] : Str), ([63] : Str)]) R R el93 R gr9 R R R (.cons (qW R) (.cons (qW R) (.cons (qW R) (.cons (qW R) (.cons (qW R) (.cons (qW R) (.cons (qW R) (.cons (qW R) (.cons (qW R) (.cons (qW R) (.cons (qW R) (.cons (qW R) (.cons (qW R) (.cons (qW R) (.cons (qW R) (.cons (qW R) (.cons (qW R) (.cons (qW R) (.cons (qW R) (.cons (qW R) (.cons (qW R) (.cons (qW R) (.cons (qW R) (.cons (qW R) (.cons (qW R) .nil)))))))))))))))))))))))))) <| av R R <| nt <| qN ?_
 cases h
 exact vW R R (.t R) (.id _)
theorem ref01_one.con (k : Nat) (a0 : Str) (a1 : Int) (r : (Token × Int × Int)) (h : ref01_one k a0 a1 = some r) : Con Tryz.prog 203 [] [EqA (strV a0), iA a1] (RA (TupA [AggA [iA r.1.fKind, EqA (strV r.1.fText), iA r.1.fLine], iA r.2.1, iA r.2.2])) := by
 unfold ref01_one at h
 refine vZ (N := 110) Tryz.func203 R R R fun w0_ fg_ => sr <| WL.w [] R (qj R) R R .nil (w_alloc R z226 (l := [iA 0, EqA (strV ([] : Str)), iA 0]) R) ?_
 rintro _ _ ⟨b100, rfl, rfl⟩
 refine ak R <| ak R <| nx <| mv R R <| mv R R ?_
 obtain ⟨c101, h⟩ := qV h
 refine p2 R 14 R 15 R (q_sindex R iss9 c101.1 c101.2) <| av R R <| nt <| qX <| qX ?_
 refine W.jn1 (Γ := Unit) (fun (_ : Unit) (x22 : Bool) => [(0, EqA (strV a0)), (1, iA a1), (4, EqA (.pointer (some ⟨b100, 0, none⟩))), (7, EqA (.int .u8 (bt a0 a1))), (22, bA x22)]) (fun (_ : Unit) (_ : Bool) => [BoxE b100 [iA 0, EqA (strV ([] : Str)), iA 0]]) h (fun _ x22 h => ?_) (fun j106 Kj106 h => ?_)
 ·refine qq ?_
  refine qZ h R (fun hb107 h => ?_) (fun hb107 h => ?_)
  ·refine sr <| mv R R <| mv R R <| mv R R ?_
   obtain ⟨t108, ht108, h⟩ := vw h
   refine p1 R 25 R (vQ (f := 221) (A := bA t108) (xs := [.tmp 25]) («as» := [EqA (.int .u8 (bt a0 a1))]) R ca221 (ref01_digit.con k (bt a0 a1) t108 ht108) R) ?_
   obtain ⟨t109, ht109, h⟩ := vw h
   refine WL.p R R R (.s 23 R (.s 24 R (.s 26 R .nil))) (vQ (f := 222) (A := iA t109) (xs := [.tmp 23, .tmp 24, .tmp 26]) («as» := [EqA (strV a0), iA a1, bA t108]) R ca222 (ref01_run.con k a0 a1 t108 t109 ht109) R) <| av R R <| nx <| ak R <| ak R <| nt <| qX <| sr ?_
   refine mv R R ?_
   obtain ⟨t110, ht110, h⟩ := vw h
   refine p1 R 28 R (vQ (f := 221) (A := bA t110) (xs := [.tmp 28]) («as» := [EqA (.int .u8 (bt a0 a1))]) R ca221 (ref01_digit.con k (bt a0 a1) t110 ht110) R) <| qx <| qw (env' := [(29, _), (10, _), (9, _), (8, _), (4, _), (1, _), (0, _)]) (.o4 R (.o2 R (.one R (.nil _)))) <| qq ?_
   refine W.jn2 (Γ := Unit) (fun (_ : Unit) (x9 : Int) (x10 : Int) => [(0, EqA (strV a0)), (1, iA a1), (4, EqA (.pointer (some ⟨b100, 0, none⟩))), (8, iA t109), (9, iA x9), (10, iA x10)]) (fun (_ : Unit) (_ : Int) (_ : Int) => [BoxE b100 [iA 0, EqA (strV ([] : Str)), iA 0]]) h (fun _ x9 x10 h => ?_) (fun j113 Kj113 h => ?_)
   ·refine qq <| qX <| sr <| mv R R <| mv R R <| p2 R 30 R 31 R (qB R R) <| nt ?_
    refine qZ h R (fun hb114 h => ?_) (fun hb114 h => ?_)
    ·refine sr <| WL.p R R R .nil (q_build (is := []) (xs := []) (L := [iA 0, EqA (strV ([] : Str)), iA 0]) R R z226 pl226 R R .nil R) <| WL.w0 [0] R (qj R) R (.s 4 R (.s 33 R .nil)) (w_store (L := [iA 0, EqA (strV ([] : Str)), iA 0]) R sh226 (qz _) R R (leB R) R) ?_
     rintro _ _ ⟨rfl, rfl⟩
     refine ak R <| ak R <| qx <| qw (env' := [(6, _), (5, _), (4, _)]) (.o2 R (.one R (.nil _))) <| qq <| qN <| qy <| qy ?_
     cases h
     exact QR.f3 R R (.cs (i := 0) R sh226 R R) (.t R) (.t R) (.id _)
    ·refine qK <| qq <| sr <| mv R R <| mv R R <| mv R R <| mv R R <| mv R R ?_
     obtain ⟨c115, h⟩ := qV h
     refine p2 R 37 R 38 R (vV R c115) ?_
     obtain ⟨c116, h⟩ := qV h
     refine WL.p R R R (.s 35 R (.s 36 R (.s 39 R .nil))) (q_ssubLH R iss9 c116.1 c116.2.1 c116.2.2) <| p2 R 34 R 40 R (q_build (is := [0, 1]) (xs := [.tmp 34, .tmp 40]) (L := [iA x9, EqA (strV ((a0.take ((a1 + t109) : Int).toNat).drop (a1 : Int).toNat)), iA 0]) R R z226 pl226 R R (.cons (qW R) (.cons (qW R) .nil)) R) <| mv R R <| WL.w0 [0] R (qj R) R (.s 4 R (.s 41 R .nil)) (w_store (L := [iA x9, EqA (strV ((a0.take ((a1 + t109) : Int).toNat).drop (a1 : Int).toNat)), iA 0]) R sh226 (qz _) R R (leB R) R) ?_
     rintro _ _ ⟨rfl, rfl⟩
     refine av R R <| ak R <| qx <| qw (env' := [(6, _), (5, _), (4, _)]) (.o2 R (.one R (.nil _))) <| qq <| qN <| qy ?_
     cases h
     exact QR.f3 R R (.cs (i := 0) R sh226 R R) (.t R) (.t R) (.id _)
   ·refine qZ h R (fun hb117 h => ?_) (fun hb117 h => ?_)
    ·refine qJ <| ak R <| ak R <| qx ?_
     exact qw (.o4 R (.o2 R (.nil _))) (Kj113 () 2 9 h)
    ·refine qK ?_
     exact qw (.o4 R (.o2 R (.nil _))) (Kj113 () 1 20 h)
  ·refine qK <| qq <| qX <| sr <| mv R R <| pk R 43 R (qB R R) <| nt ?_
   refine qZ h R (fun hb118 h => ?_) (fun hb118 h => ?_)
   ·refine sr <| mv R R <| mv R R ?_
    obtain ⟨t119, ht119, h⟩ := vw h
    refine p2 R 45 R 46 R (vQ (f := 223) (A := iA t119) (xs := [.tmp 45, .tmp 46]) («as» := [EqA (strV a0), iA a1]) R ca223 (ref01_quoted.con k a0 a1 t119 ht119) R) <| av R R <| qx <| qw (env' := [(11, _), (4, _), (1, _), (0, _)]) (.o4 R (.nil _)) <| qq <| qX <| sr <| mv R R <| pk R 48 R (qB R R) <| nt ?_
    refine qZ h R (fun hb120 h => ?_) (fun hb120 h => ?_)
    ·refine sr <| WL.p R R R .nil (q_build (is := []) (xs := []) (L := [iA 0, EqA (strV ([] : Str)), iA 0]) R R z226 pl226 R R .nil R) <| WL.w0 [0] R (qj R) R (.s 4 R (.s 50 R .nil)) (w_store (L := [iA 0, EqA (strV ([] : Str)), iA 0]) R sh226 (qz _) R R (leB R) R) ?_
     rintro _ _ ⟨rfl, rfl⟩
     refine ak R <| ak R <| nt <| qN <| qy <| qy ?_
     cases h
     exact QR.f3 R R (.cs (i := 0) R sh226 R R) (.t R) (.t R) (.id _)
    ·refine qK <| qq <| qX <| sr <| mv R R ?_
     obtain ⟨c121, h⟩ := qV h
     refine pk R 51 R (q_subR R c121) <| pk R 52 R (qB R R) <| nt ?_
     refine qZ h R (fun hb122 h => ?_) (fun hb122 h => ?_)
     ·refine sr <| WL.p R R R .nil (q_build (is := []) (xs := []) (L := [iA 0, EqA (strV ([] : Str)), iA 0]) R R z226 pl226 R R .nil R) <| WL.w0 [0] R (qj R) R (.s 4 R (.s 54 R .nil)) (w_store (L := [iA 0, EqA (strV ([] : Str)), iA 0]) R sh226 (qz _) R R (leB R) R) ?_
      rintro _ _ ⟨rfl, rfl⟩
      refine ak R <| ak R <| qx <| qw (env' := [(6, _), (5, _), (4, _)]) (.o2 R (.one R (.nil _))) <| qq <| qN <| qy <| qy ?_
      cases h
      exact QR.f3 R R (.cs (i := 0) R sh226 R R) (.t R) (.t R) (.id _)
     ·refine qK <| qq <| sr <| mv R R <| mv R R ?_
      obtain ⟨c123, h⟩ := qV h
      refine pk R 56 R (vV R c123) <| mv R R <| mv R R ?_
      obtain ⟨c124, h⟩ := qV h
      refine p2 R 58 R 59 R (vV R c124) ?_
      obtain ⟨c125, h⟩ := qV h
      refine pk R 60 R (q_subR R c125) ?_
      obtain ⟨c126, h⟩ := qV h
      refine WL.p R R R (.s 55 R (.s 57 R (.s 61 R .nil))) (q_ssubLH R iss9 c126.1 c126.2.1 c126.2.2) <| WL.p R R R (.k (.s 62 R .nil)) (q_build (is := [0, 1]) (xs := [.const (.int .i64 3), .tmp 62]) (L := [iA 3, EqA (strV ((a0.take (((a1 + t119) - 1) : Int).toNat).drop ((a1 + 1) : Int).toNat)), iA 0]) R R z226 pl226 R R (.cons (qW R) (.cons (qW R) .nil)) R) <| mv R R <| WL.w0 [0] R (qj R) R (.s 4 R (.s 63 R .nil)) (w_store (L := [iA 3, EqA (strV ((a0.take (((a1 + t119) - 1) : Int).toNat).drop ((a1 + 1) : Int).toNat)), iA 0]) R sh226 (qz _) R R (leB R) R) ?_
      rintro _ _ ⟨rfl, rfl⟩
      refine av R R <| ak R <| qx <| qw (env' := [(6, _), (5, _), (4, _)]) (.o2 R (.one R (.nil _))) <| qq <| qN <| qy ?_
      cases h
      exact QR.f3 R R (.cs (i := 0) R sh226 R R) (.t R) (.t R) (.id _)
   ·refine qK <| qq <| sr ?_
    obtain ⟨t127, ht127, h⟩ := vw h
    refine WL.p R R R .nil (vQ (f := 224) (A := SlcA kStr t127) (xs := []) («as» := []) R ca224 (ref01_signs.con k  t127 ht127) R) <| av R R <| nt <| qX <| sr <| ak R <| nt <| vj ?_
    refine W.loop1 (Γ := Unit) (fun (_ : Unit) (x13 : Int) => [(0, EqA (strV a0)), (1, iA a1), (4, EqA (.pointer (some ⟨b100, 0, none⟩))), (12, SlcA kStr t127), (13, iA x13)]) (fun (_ : Unit) (_ : Int) => [BoxE b100 [iA 0, EqA (strV ([] : Str)), iA 0]]) h () (.o4 R (.one R (.nil _))) R (fun rec0 K0 next0 _ x13 h => ?_)
    unfold ref01_one.b0 at h
    refine qX <| sr <| mv R R <| mv R R <| p1 R 67 R (vN R elS93) <| p2 R 66 R 68 R (qB R R) <| nt ?_
    refine qZ h R (fun hb192 h => ?_) (fun hb192 h => ?_)
    ·refine qK <| qq <| qX <| vj <| qX ?_
     refine W.jn1 (Γ := Unit) (fun (_ : Unit) (x98 : Bool) => [(0, EqA (strV a0)), (1, iA a1), (4, EqA (.pointer (some ⟨b100, 0, none⟩))), (12, SlcA kStr t127), (13, iA x13), (98, bA x98)]) (fun (_ : Unit) (_ : Bool) => [BoxE b100 [iA 0, EqA (strV ([] : Str)), iA 0]]) h (fun _ x98 h => ?_) (fun j208 Kj208 h => ?_)
     ·refine qq ?_
      refine qZ h R (fun hb209 h => ?_) (fun hb209 h => ?_)
      ·refine qX <| W.drawK [(0, false), (1, false), (2, false), (3, false), (4, false), (5, false), (6, false), (7, false), (8, false), (9, false)] [10, 11, 12] (bm [0, 0, 3, 7, 15, 0, 0, 96, 224, 480, 31, 2047, 4095]) mx (by kernel_rfl) <| dm R R R <| dm R R R ?_
       obtain ⟨c214, h⟩ := qV h
       refine qQ R R (.p R (.s 99 R (.s 100 R .nil)) R (vX R el93 R c214.1 c214.2)) <| dl R R R sh9 <| qQ R R (.p R (.k (.s 102 R .nil)) R (q_build (is := [0, 1]) (xs := [.const (.int .i64 4), .tmp 102]) (L := [iA 4, EqA (strV (rd t127 x13)), iA 0]) R R z226 pl226 R R (.cons (qW R) (.cons (qW R) .nil)) R)) <| dm R R R <| dm R R R ?_
       obtain ⟨c215, h⟩ := qV h
       refine qQ R R (.p R (.s 104 R (.s 105 R .nil)) R (vX R el93 R c215.1 c215.2)) <| dl R R R sh9 <| qQ R R (.p R (.s 107 R .nil) R (q_slen (s := (rd t127 x13)) R iss9)) <| DK.nil <| CSteps.w0 [0] R R R (.s 4 R (.s 103 R .nil)) R (w_store (L := [iA 4, EqA (strV (rd t127 x13)), iA 0]) R sh226 (qz _) R R (leB R) R) ?_
       rintro _ _ ⟨rfl, rfl⟩
       refine CSteps.p R R R (.s 108 R .nil) R (q_assign R) <| CSteps.p R R R (.k .nil) R (q_assign R) <| CSteps.nil <| qw (env' := [(6, _), (5, _), (4, _)]) (.o2 R (.one R (.nil _))) <| qq <| qN <| vx <| qy <| qy <| vx <| qy ?_
       cases h
       exact QR.f3 R R (.cs (i := 0) R sh226 R R) (.t R) (.t R) (.id _)
      ·refine qK <| vJ <| qq <| qJ <| mv R R ?_
       obtain ⟨c216, h⟩ := qV h
       refine pk R 70 R (vV R c216) <| av R R <| qx ?_
       exact next0 () (x13 + 1) _ h (.o4 R (.one R (.nil _)))
     ·refine W.drawK [(0, false), (1, false), (2, false), (3, false), (4, false), (5, false), (6, false), (7, false), (8, false), (9, false), (10, false), (11, false), (12, false), (13, false), (14, false), (15, false), (16, false), (17, false), (18, false), (19, false), (20, false), (21, false), (22, false), (23, false), (24, false), (25, false), (26, false)] [] (bm [0, 0, 0, 6, 14, 30, 63, 0, 128, 511, 1023, 2047, 2047, 2047, 2047, 2047, 51199, 116735, 247807, 518143, 1048575, 2047, 2047, 6293503, 14682111, 33554431, 67108863]) mx (by kernel_rfl) <| dm R R R <| dm R R R <| dm R R R ?_
      obtain ⟨c217, h⟩ := qV h
      refine qQ R R (.p R (.s 73 R (.s 74 R .nil)) R (vX R el93 R c217.1 c217.2)) <| dl R R R sh9 <| qQ R R (.p R (.s 76 R .nil) R (q_slen (s := (rd t127 x13)) R iss9)) ?_
      obtain ⟨c218, h⟩ := qV h
      refine qQ R R (.p R (.s 72 R (.s 77 R .nil)) R (vV R c218)) <| dm R R R <| qQ R R (.p R (.s 79 R .nil) R (q_slen (s := a0) R iss9)) <| qQ R R (.p R (.s 78 R (.s 80 R .nil)) R (qB R R)) <| dm R R R ?_
      rcases bif_s h with ⟨hb219, h⟩ | ⟨hb219, h⟩
      ·refine qQ R R (.gp R R R hb219 (.s 0 R .nil) R (q_move R)) <| qQ R R (.gp R R R hb219 (.s 1 R .nil) R (q_move R)) <| qQ R R (.gp R R R hb219 (.s 1 R .nil) R (q_move R)) <| qQ R R (.gp R R R hb219 (.s 12 R .nil) R (q_move R)) <| qQ R R (.gp R R R hb219 (.s 13 R .nil) R (q_move R)) ?_
       obtain ⟨c220, h⟩ := qV h
       refine qQ R R (.gp R R R hb219 (.s 86 R (.s 87 R .nil)) R (vX R el93 R c220.1 c220.2)) <| qQ R R (.gp R R R hb219 (.s 88 R .nil) R (q_load R sh9)) <| qQ R R (.gp R R R hb219 (.s 89 R .nil) R (q_slen (s := (rd t127 x13)) R iss9)) ?_
       obtain ⟨c221, h⟩ := qV h
       refine qQ R R (.gp R R R hb219 (.s 85 R (.s 90 R .nil)) R (vV R c221)) ?_
       obtain ⟨c222, h⟩ := qV h
       refine qQ R R (.gp R R R hb219 (.s 83 R (.s 84 R (.s 91 R .nil))) R (q_ssubLH R iss9 c222.1 c222.2.1 c222.2.2)) <| qQ R R (.gp R R R hb219 (.s 12 R .nil) R (q_move R)) <| qQ R R (.gp R R R hb219 (.s 13 R .nil) R (q_move R)) ?_
       obtain ⟨c223, h⟩ := qV h
       refine qQ R R (.gp R R R hb219 (.s 93 R (.s 94 R .nil)) R (vX R el93 R c223.1 c223.2)) <| qQ R R (.gp R R R hb219 (.s 95 R .nil) R (q_load R sh9)) <| qQ R R (.gp R R R hb219 (.s 92 R (.s 96 R .nil)) R (q_str (s := ((a0.take ((a1 + ((rd t127 x13).length : Int)) : Int).toNat).drop (a1 : Int).toNat)) (t := (rd t127 x13)) R)) <| qQ R R (.p R (.s 82 R (.s 97 R .nil)) R (vy R hb219)) <| DK.nil <| CSteps.nil ?_
       exact qw (.o4 R (.o2 R (.nil _))) (Kj208 () (((a0.take ((a1 + ((rd t127 x13).length : Int)) : Int).toNat).drop (a1 : Int).toNat) == (rd t127 x13)) h)
      ·refine dx R R R hb219 <| dx R R R hb219 <| dx R R R hb219 <| dx R R R hb219 <| dx R R R hb219 <| dx R R R hb219 <| dx R R R hb219 <| dx R R R hb219 <| dx R R R hb219 <| dx R R R hb219 <| dx R R R hb219 <| dx R R R hb219 <| dx R R R hb219 ?_
       refine dx R R R hb219 <| dx R R R hb219 <| qQ R R (.p R (.s 82 R (.k .nil)) R (vz R hb219)) <| DK.nil <| CSteps.nil ?_
       exact qw (.o4 R (.o2 R (.nil _))) (Kj208 () false h)
    ·refine W.exit <| vq <| vq <| vB <| qw (env' := [(4, _)]) (.one R (.nil _)) <| qq <| sr <| WL.p R R R .nil (q_build (is := []) (xs := []) (L := [iA 0, EqA (strV ([] : Str)), iA 0]) R R z226 pl226 R R .nil R) <| WL.w0 [0] R (qj R) R (.s 4 R (.s 109 R .nil)) (w_store (L := [iA 0, EqA (strV ([] : Str)), iA 0]) R sh226 (qz _) R R (leB R) R) ?_
     rintro _ _ ⟨rfl, rfl⟩
     refine ak R <| ak R <| nt <| qN ?_
     cases h
     exact QR.f3 R R (.cs (i := 0) R sh226 R R) (.t R) (.t R) (.id _)
 ·refine qJ <| mv R R ?_
  obtain ⟨t224, ht224, h⟩ := vw h
  refine p1 R 17 R (vQ (f := 220) (A := bA t224) (xs := [.tmp 17]) («as» := [EqA (.int .u8 (bt a0 a1))]) R ca220 (ref01_letter.con k (bt a0 a1) t224 ht224) R) <| mv R R ?_
  rcases bif_s h with ⟨hb225, h⟩ | ⟨hb225, h⟩
  ·refine sk R R R hb225 <| sk R R R hb225 <| pk R 19 R (vy R hb225) <| qx ?_
   exact qw (.o4 R (.one R (.nil _))) (Kj106 () true h)
  ·refine wm R R R hb225 R R ?_
   obtain ⟨t226, ht226, h⟩ := vw h
   refine wq R R R hb225 (.s 20 R .nil) (vQ (f := 221) (A := bA t226) (xs := [.tmp 20]) («as» := [EqA (.int .u8 (bt a0 a1))]) R ca221 (ref01_digit.con k (bt a0 a1) t226 ht226) R).o <| p2 R 19 R 21 R (vz R hb225) <| qx ?_
   exact qw (.o4 R (.one R (.nil _))) (Kj106 () t226 h)
theorem ref01_Right.con (k : Nat) (a0 : Token) (r : Bool) (h : ref01_Right k a0 = some r) : Con Tryz.prog 181 [] [AggA [iA a0.fKind, EqA (strV a0.fText), iA a0.fLine]] (RA (bA r)) := by
 unfold ref01_Right at h
 refine vZ (N := 32) Tryz.func181 R R R fun w0_ fg_ => sr <| p1 R 0 R (q_box R (qz _)) <| ak R <| nx <| lS R R sh226 R R ?_
 obtain ⟨t100, ht100, h⟩ := vw h
 refine p1 R 7 R (vQ (f := 202) (A := EqA (strV t100)) (xs := [.tmp 7]) («as» := [AggA [iA a0.fKind, EqA (strV a0.fText), iA a0.fLine]]) R ca202 (ref01_text.con k a0 t100 ht100) R) <| av R R <| nt <| qX <| sr <| mv R R <| pk R 9 R (q_str (s := t100) (t := ([] : Str)) R) <| nt ?_
 refine qZ h R (fun hb101 h => ?_) (fun hb101 h => ?_)
 ·refine sr <| ak R <| qx <| qw (env' := [(2, _)]) (.one R (.nil _)) <| qq <| qN <| qy ?_
  cases h
  exact vW R R (.t R) (.id _)
 ·refine qK <| qq <| sr <| mv R R ?_
  obtain ⟨t102, ht102, h⟩ := vw h
  refine pk R 12 R (vQ (f := 203) (A := TupA [AggA [iA t102.1.fKind, EqA (strV t102.1.fText), iA t102.1.fLine], iA t102.2.1, iA t102.2.2]) (xs := [.tmp 12, .const (.int .i64 0)]) («as» := [EqA (strV t100), iA 0]) R ca203 (ref01_one.con k t100 0 t102 ht102) R) <| mv R R <| p1 R 11 R (vK R R) <| p1 R 11 R (vK R R) <| p1 R 11 R (vK R R) <| WL.w [] R (qj R) R R .nil (w_alloc R z226 (l := [iA 0, EqA (strV ([] : Str)), iA 0]) R) ?_
  rintro _ _ ⟨b103, rfl, rfl⟩
  refine WL.w0 [0] R (qj R) R (.s 4 R (.s 14 R .nil)) (w_store (L := [iA t102.1.fKind, EqA (strV t102.1.fText), iA t102.1.fLine]) R sh226 (qz _) R R (leB R) R) ?_
  rintro _ _ ⟨rfl, rfl⟩
  refine av R R <| av R R <| qx <| QN.to (StTo.still [0] 4 R R) <| qw (env' := [(6, _), (5, _), (4, _), (3, _), (1, _)]) (.o4 R (.one R (.nil _))) <| qq <| qX ?_
  refine W.jn1 (Γ := Unit) (fun (_ : Unit) (x2 : Bool) => [(2, bA x2)]) (fun (_ : Unit) (_ : Bool) => []) h (fun _ x2 h => ?_) (fun j107 Kj107 h => ?_)
  ·refine qq <| qN ?_
   cases h
   exact vW R R (.t R) (.id _)
  ·refine qJ <| mv R R <| pk R 17 R (qB R R) <| mv R R ?_
   rcases bif_s h with ⟨hb108, h⟩ | ⟨hb108, h⟩
   ·refine wm R R R hb108 R R <| wm R R R hb108 R R <| wq R R R hb108 (.s 21 R .nil) (q_slen (s := t100) R iss9).o <| wq R R R hb108 (.s 20 R (.s 22 R .nil)) (qB R R).o <| p2 R 19 R 23 R (vy R hb108) <| mv R R ?_
    rcases bif_s h with ⟨hb109, h⟩ | ⟨hb109, h⟩
    ·refine wf R R R hb109 R R fo226_0 R <| wl R R R hb109 R R sh3 <| wf R R R hb109 R R fo226_0 R <| wl R R R hb109 R R sh3 <| wq R R R hb109 (.s 27 R (.s 29 R .nil)) (qB R R).o <| p2 R 25 R 30 R (vy R hb109) <| av R R <| qx ?_
     exact qw (.one R (.nil _)) (Kj107 () (t102.1.fKind == a0.fKind) h)
    ·refine sk R R R hb109 <| sk R R R hb109 <| sk R R R hb109 <| sk R R R hb109 <| sk R R R hb109 <| pk R 25 R (vz R hb109) <| av R R <| qx ?_
     exact qw (.one R (.nil _)) (Kj107 () false h)
   ·refine sk R R R hb108 <| sk R R R hb108 <| sk R R R hb108 <| sk R R R hb108 <| pk R 19 R (vz R hb108) <| mv R R <| sk R R R R <| sk R R R R <| sk R R R R <| sk R R R R <| sk R R R R <| pk R 25 R (vz R R) <| av R R ?_
    refine qx ?_
    exact qw (.one R (.nil _)) (Kj107 () false h)
theorem ref01_IsName.con (k : Nat) (a0 : Str) (r : Bool) (h : ref01_IsName k a0 = some r) : Con Tryz.prog 152 [] [EqA (strV a0)] (RA (bA r)) := by
 unfold ref01_IsName at h
 refine vZ (N := 6) Tryz.func152 R R R fun w0_ fg_ => sr <| ak R <| nx <| mv R R <| WL.p R R R (.k (.s 3 R .nil)) (q_build (is := [0, 1]) (xs := [.const (.int .i64 1), .tmp 3]) (L := [iA 1, EqA (strV a0), iA 0]) R R z226 pl226 R R (.cons (qW R) (.cons (qW R) .nil)) R) ?_
 obtain ⟨t100, ht100, h⟩ := vw h
 refine p1 R 4 R (vQ (f := 181) (A := bA t100) (xs := [.tmp 4]) («as» := [AggA [iA 1, EqA (strV a0), iA 0]]) R ca181 (ref01_Right.con k (Token.mk 1 a0 0) t100 ht100) R) <| av R R <| nt <| qN ?_
 cases h
 exact vW R R (.t R) (.id _)
theorem ref04_in.con (k : Nat) (a0 : Int) (a1 : Int) (a2 : Int) (r : Bool) (h : ref04_in k a0 a1 a2 = some r) : Con Tryz.prog 140 [] [iA a0, iA a1, iA a2] (RA (bA r)) := by
 unfold ref04_in at h
 refine vZ (N := 15) Tryz.func140 R R R fun w0_ fg_ => sr <| ak R <| nt <| qX ?_
 refine W.jn1 (Γ := Unit) (fun (_ : Unit) (x6 : Bool) => [(6, bA x6)]) (fun (_ : Unit) (_ : Bool) => []) h (fun _ x6 h => ?_) (fun j102 Kj102 h => ?_)
 ·refine qq <| qN ?_
  cases h
  exact vW R R (.t R) (.id _)
 ·refine qJ <| mv R R <| mv R R <| p2 R 7 R 8 R (qB R R) <| mv R R ?_
  rcases bif_s h with ⟨hb103, h⟩ | ⟨hb103, h⟩
  ·refine wm R R R hb103 R R <| wm R R R hb103 R R <| wq R R R hb103 (.s 11 R (.s 12 R .nil)) (qB R R).o <| p2 R 10 R 13 R (vy R hb103) <| av R R <| qx ?_
   exact qw (.one R (.nil _)) (Kj102 () (decide (a0 ≤ a2)) h)
  ·refine sk R R R hb103 <| sk R R R hb103 <| sk R R R hb103 <| pk R 10 R (vz R hb103) <| av R R <| qx ?_
   exact qw (.one R (.nil _)) (Kj102 () false h)
theorem ref04_attrs.con : ∀ (k : Nat) (a0 : Types) (a1 : Int) (r : (List Attr)) (_ : ref04_attrs k a0 a1 = some r), Con Tryz.prog 139 [] [AggA [SlcA kNodeType a0.fNodes, SlcA kEdgeType a0.fEdges], iA a1] (RA (SlcA kAttr r)) := by
 intro k
 induction k with
 | zero => intro a0 a1 r h; cases h
 | succ k ih =>
  intro a0 a1 r h
  change ref04_attrs.main (ref04_attrs k) k a0 a1 = some r at h
  unfold ref04_attrs.main at h
  refine vZ (N := 24) Tryz.func139 R R R fun w0_ fg_ => sr <| p1 R 0 R (q_box R (qz _)) <| ak R <| nt <| qX <| sr <| mv R R <| pk R 5 R (qB R R) <| qx ?_
  refine qq ?_
  refine qZ h R (fun hb100 h => ?_) (fun hb100 h => ?_)
  ·refine sr <| ak R <| nt <| qN <| qy ?_
   cases h
   exact vW R R (.t R) (.imp (Imp.nil kAttr))
  ·refine qK <| qq <| qX <| W.drawK [(0, false), (1, false), (2, false), (3, false), (4, false), (5, false), (6, false), (7, false), (8, false), (10, false), (11, false), (12, false), (13, false), (14, false), (15, false)] [9, 16, 17] (bm [0, 0, 0, 4, 0, 28, 60, 124, 254, 511, 0, 1024, 0, 7168, 15360, 31744, 65535, 131071]) mx (by kernel_rfl) <| qQ R R (.p R .nil R (q_lit0 R el90 gr95)) <| qQ R R (.p R (.s 2 R .nil) R (q_loadS R sh35 (leB R) R)) <| df R R R fo35_0 R <| dl R R R sh32 <| dm R R R ?_
   obtain ⟨c115, h⟩ := qV h
   refine qQ R R (.p R (.s 10 R (.s 11 R .nil)) R (vX R el32 R c115.1 c115.2)) <| df R R R fo92_1 R <| dl R R R sh3 ?_
   obtain ⟨t116, ht116, h⟩ := vw h
   refine qQ R R (.p R (.s 8 R (.s 14 R .nil)) R (vQ (f := 139) (A := SlcA kAttr t116) (xs := [.tmp 8, .tmp 14]) («as» := [AggA [SlcA kNodeType a0.fNodes, SlcA kEdgeType a0.fEdges], iA ((rd a0.fNodes a1).fParent)]) R ca139 (ih a0 ((rd a0.fNodes a1).fParent) t116 ht116) R)) ?_
   obtain ⟨c117, h⟩ := qV h
   refine df R R R fo35_0 R <| dl R R R sh32 <| dm R R R ?_
   obtain ⟨c119, h⟩ := qV h
   refine qQ R R (.p R (.s 18 R (.s 19 R .nil)) R (vX R el32 R c119.1 c119.2)) <| df R R R fo92_3 R <| dl R R R sh90 ?_
   obtain ⟨c120, h⟩ := qV h
   refine DK.nil <| CSteps.w [] R R R R (.s 7 R (.s 15 R .nil)) R (w_appendZ (kd := kAttr) R el90 R gr95 c117) ?_
   rintro _ _ ⟨v118, rfl, rfl⟩
   refine CSteps.w [0] R R R R (.s 16 R (.s 22 R .nil)) R (w_append (kd := kAttr) R el90 R gr95 c120) ?_
   rintro _ _ ⟨v121, rfl, rfl⟩
   refine CSteps.p R R R (.s 23 R .nil) R (q_assign R) <| CSteps.nil <| qw (env' := [(4, _)]) (.one R (.nil _)) <| qq <| qN ?_
   cases h
   exact vW R R (.t R) (.slc 0 R)
theorem ref04_names.con (k : Nat) (a0 : (List Str)) (r : Int) (h : ref04_names k a0 = some r) : Con Tryz.prog 182 [] [SlcA kStr a0] (RA (iA r)) := by
 unfold ref04_names at h
 refine vZ (N := 34) Tryz.func182 R R R fun w0_ fg_ => sr <| ak R <| nt <| qX <| sr <| mv R R <| p1 R 5 R (vN R elS93) <| pk R 6 R (qB R R) <| qx ?_
 refine qq ?_
 refine qZ h R (fun hb100 h => ?_) (fun hb100 h => ?_)
 ·refine sr <| ak R <| nt <| qN <| qy ?_
  cases h
  exact vW R R (.t R) (.id _)
 ·refine qK <| qq <| qX <| sr <| ak R <| nt <| vj ?_
  refine W.loop1 (Γ := Unit) (fun (_ : Unit) (x3 : Int) => [(0, SlcA kStr a0), (3, iA x3)]) (fun (_ : Unit) (_ : Int) => []) h () (.o2 R (.nil _)) R (fun rec0 K0 next0 _ x3 h => ?_)
  unfold ref04_names.b0 at h
  refine qX <| sr <| mv R R <| mv R R <| p1 R 9 R (vN R elS93) <| p2 R 8 R 10 R (qB R R) <| nt ?_
  refine qZ h R (fun hb169 h => ?_) (fun hb169 h => ?_)
  ·refine qK <| qq <| qX <| vj <| qX <| sr <| mv R R <| mv R R ?_
   obtain ⟨c170, h⟩ := qV h
   refine p2 R 14 R 15 R (vX R el93 R c170.1 c170.2) <| ld R R sh9 ?_
   obtain ⟨t171, ht171, h⟩ := vw h
   refine p1 R 17 R (vQ (f := 152) (A := bA t171) (xs := [.tmp 17]) («as» := [EqA (strV (rd a0 x3))]) R ca152 (ref01_IsName.con k (rd a0 x3) t171 ht171) R) <| p1 R 18 R (q_not R) <| qx <| qw (env' := [(19, _), (3, _), (0, _)]) (.o2 R (.one R (.nil _))) <| qq ?_
   refine qZ h R (fun hb172 h => ?_) (fun hb172 h => ?_)
   ·refine sr <| ak R <| nt <| qN <| qy <| vx <| qy <| qy <| vx <| qy ?_
    cases h
    exact vW R R (.t R) (.id _)
   ·refine qK <| qq <| sr <| ak R <| nt <| vj ?_
    refine W.loop1 (Γ := Unit) (fun (_ : Unit) (x4 : Int) => [(0, SlcA kStr a0), (3, iA x3), (4, iA x4)]) (fun (_ : Unit) (_ : Int) => []) h () (.o2 R (.one R (.nil _))) R (fun rec1 K1 next1 _ x4 h => ?_)
    unfold ref04_names.b1 at h
    refine qX <| sr <| mv R R <| mv R R <| p2 R 20 R 21 R (qB R R) <| nt ?_
    refine qZ h R (fun hb193 h => ?_) (fun hb193 h => ?_)
    ·refine qK <| qq <| qX <| vj <| qX <| W.drawK [(0, false), (1, false), (2, false), (3, false), (4, false), (5, false), (6, false), (7, false), (8, false)] [] (bm [0, 0, 3, 7, 0, 0, 48, 112, 255]) mx (by kernel_rfl) <| dm R R R <| dm R R R ?_
     obtain ⟨c198, h⟩ := qV h
     refine qQ R R (.p R (.s 25 R (.s 26 R .nil)) R (vX R el93 R c198.1 c198.2)) <| dl R R R sh9 <| dm R R R <| dm R R R ?_
     obtain ⟨c199, h⟩ := qV h
     refine qQ R R (.p R (.s 29 R (.s 30 R .nil)) R (vX R el93 R c199.1 c199.2)) <| dl R R R sh9 <| qQ R R (.p R (.s 28 R (.s 32 R .nil)) R (q_str (s := (rd a0 x4)) (t := (rd a0 x3)) R)) <| DK.nil <| CSteps.nil <| qw (env' := [(33, _), (4, _), (3, _), (0, _)]) (.o4 R (.nil _)) <| qq ?_
     refine qZ h R (fun hb200 h => ?_) (fun hb200 h => ?_)
     ·refine sr <| ak R <| nt <| qN <| vx <| qy <| qy <| vx <| vx <| qy <| qy ?_
      refine vx <| qy ?_
      cases h
      exact vW R R (.t R) (.id _)
     ·refine qK <| vJ <| qq <| qJ <| mv R R ?_
      obtain ⟨c201, h⟩ := qV h
      refine pk R 23 R (vV R c201) <| av R R <| qx ?_
      exact next1 () (x4 + 1) _ h (.o2 R (.one R (.nil _)))
    ·refine W.exit <| vq <| vq <| vB <| vJ <| qq <| qJ <| mv R R ?_
     obtain ⟨c202, h⟩ := qV h
     refine pk R 12 R (vV R c202) <| av R R <| qx ?_
     exact next0 () (x3 + 1) _ h (.o2 R (.nil _))
  ·refine W.exit <| vq <| vq <| vB <| qq <| sr <| ak R <| nt <| qN ?_
   cases h
   exact vW R R (.t R) (.id _)
theorem ref04_attribute.con (k : Nat) (a0 : Attr) (r : Int) (h : ref04_attribute k a0 = some r) : Con Tryz.prog 153 [] [AggA [EqA (strV a0.fName), iA a0.fLow, iA a0.fHigh, SlcA kStr a0.fNames]] (RA (iA r)) := by
 unfold ref04_attribute at h
 refine vZ (N := 38) Tryz.func153 R R R fun w0_ fg_ => sr <| p1 R 0 R (q_box R (qz _)) <| ak R <| nt <| qX <| sr <| fd R R fo95_3 R <| ld R R sh93 <| p1 R 5 R (vN R elS93) ?_
 refine pk R 6 R (qB R R) <| nt ?_
 refine qZ h R (fun hb100 h => ?_) (fun hb100 h => ?_)
 ·refine qX <| qX ?_
  refine W.jn1 (Γ := Unit) (fun (_ : Unit) (x19 : Bool) => [(19, bA x19)]) (fun (_ : Unit) (_ : Bool) => []) h (fun _ x19 h => ?_) (fun j105 Kj105 h => ?_)
  ·refine qq ?_
   refine qZ h R (fun hb106 h => ?_) (fun hb106 h => ?_)
   ·refine sr <| ak R <| nt <| qN <| qy <| qy ?_
    cases h
    exact vW R R (.t R) (.id _)
   ·refine qK <| qq <| sr <| ak R <| nt <| qN <| qy ?_
    cases h
    exact vW R R (.t R) (.id _)
  ·refine qJ <| fd R R fo95_1 R <| ld R R sh3 ?_
   obtain ⟨t107, ht107, h⟩ := vw h
   refine WL.p R R R (.s 9 R (.k (.k .nil))) (vQ (f := 140) (A := bA t107) (xs := [.tmp 9, .const (.int .i64 (-1000000)), .const (.int .i64 1000000)]) («as» := [iA a0.fLow, iA (-1000000), iA 1000000]) R ca140 (ref04_in.con k a0.fLow (-1000000) 1000000 t107 ht107) R) <| p1 R 10 R (q_not R) <| mv R R ?_
   rcases bif_s h with ⟨hb108, h⟩ | ⟨hb108, h⟩
   ·refine sk R R R hb108 <| sk R R R hb108 <| sk R R R hb108 <| sk R R R hb108 <| sk R R R hb108 <| sk R R R hb108 <| pk R 12 R (vy R hb108) <| qx ?_
    exact qw (.one R (.nil _)) (Kj105 () true h)
   ·refine wf R R R hb108 R R fo95_2 R <| wl R R R hb108 R R sh3 <| wf R R R hb108 R R fo95_1 R <| wl R R R hb108 R R sh3 ?_
    obtain ⟨t109, ht109, h⟩ := vw h
    refine wq R R R hb108 (.s 14 R (.s 16 R (.k .nil))) (vQ (f := 140) (A := bA t109) (xs := [.tmp 14, .tmp 16, .const (.int .i64 1000000)]) («as» := [iA a0.fHigh, iA a0.fLow, iA 1000000]) R ca140 (ref04_in.con k a0.fHigh a0.fLow 1000000 t109 ht109) R).o <| wq R R R hb108 (.s 17 R .nil) (q_not R).o <| p2 R 12 R 18 R (vz R hb108) <| qx ?_
    exact qw (.one R (.nil _)) (Kj105 () (!t109) h)
 ·refine qK <| qq <| qX <| sr <| fd R R fo95_3 R <| ld R R sh93 ?_
  obtain ⟨t110, ht110, h⟩ := vw h
  refine p1 R 21 R (vQ (f := 182) (A := iA t110) (xs := [.tmp 21]) («as» := [SlcA kStr a0.fNames]) R ca182 (ref04_names.con k a0.fNames t110 ht110) R) <| av R R <| qx <| qw (env' := [(3, _), (1, _)]) (.o2 R (.nil _)) <| qq <| sr <| mv R R <| pk R 23 R (qB R R) <| nt ?_
  refine qZ h R (fun hb111 h => ?_) (fun hb111 h => ?_)
  ·refine sr <| mv R R <| av R R <| nt <| qN <| qy ?_
   cases h
   exact vW R R (.t R) (.id _)
  ·refine qK <| qq <| qX <| qX ?_
   refine W.jn1 (Γ := Unit) (fun (_ : Unit) (x37 : Bool) => [(37, bA x37)]) (fun (_ : Unit) (_ : Bool) => []) h (fun _ x37 h => ?_) (fun j115 Kj115 h => ?_)
   ·refine qq ?_
    refine qZ h R (fun hb116 h => ?_) (fun hb116 h => ?_)
    ·refine sr <| ak R <| nt <| qN <| qy ?_
     cases h
     exact vW R R (.t R) (.id _)
    ·refine qK <| qq <| sr <| ak R <| nt <| qN ?_
     cases h
     exact vW R R (.t R) (.id _)
   ·refine qJ <| fd R R fo95_1 R <| ld R R sh3 <| pk R 27 R (qB R R) <| mv R R ?_
    rcases bif_s h with ⟨hb117, h⟩ | ⟨hb117, h⟩
    ·refine sk R R R hb117 <| sk R R R hb117 <| sk R R R hb117 <| sk R R R hb117 <| sk R R R hb117 <| sk R R R hb117 <| sk R R R hb117 <| pk R 29 R (vy R hb117) <| qx ?_
     exact qw (.one R (.nil _)) (Kj115 () true h)
    ·refine wf R R R hb117 R R fo95_2 R <| wl R R R hb117 R R sh3 <| wf R R R hb117 R R fo95_3 R <| wl R R R hb117 R R sh93 <| wq R R R hb117 (.s 33 R .nil) (vN R elS93).o ?_
     obtain ⟨c118, h⟩ := qV h
     refine wq R R R hb117 (.s 34 R (.k .nil)) (q_subR R c118).o <| wq R R R hb117 (.s 31 R (.s 35 R .nil)) (qB R R).o <| p2 R 29 R 36 R (vz R hb117) <| qx ?_
     exact qw (.one R (.nil _)) (Kj115 () (a0.fHigh != ((a0.fNames.length : Int) - 1)) h)
theorem ref04_node.con (k : Nat) (a0 : Types) (a1 : Int) (r : Int) (h : ref04_node k a0 a1 = some r) : Con Tryz.prog 111 [] [AggA [SlcA kNodeType a0.fNodes, SlcA kEdgeType a0.fEdges], iA a1] (RA (iA r)) := by
 unfold ref04_node at h
 refine vZ (N := 95) Tryz.func111 R R R fun w0_ fg_ => sr <| p1 R 0 R (q_box R (qz _)) <| ak R <| nx <| fd R R fo35_0 R <| ld R R sh32 <| mv R R ?_
 obtain ⟨c100, h⟩ := qV h
 refine p2 R 12 R 13 R (vX R el32 R c100.1 c100.2) <| lS R R sh92 R R <| WL.w [] R (qj R) R R .nil (w_alloc R z92 (l := [EqA (strV ([] : Str)), iA 0, bA false, EqA (.slice none 0 0)]) R) ?_
 rintro _ _ ⟨b101, rfl, rfl⟩
 refine WL.w0 [0] R (qj R) R (.s 5 R (.s 15 R .nil)) (w_store (L := [EqA (strV ((rd a0.fNodes a1).fName)), iA ((rd a0.fNodes a1).fParent), bA ((rd a0.fNodes a1).fAbstract), SlcA kAttr ((rd a0.fNodes a1).fAttrs)]) R sh92 (qz _) R R (leB R) R) ?_
 rintro _ _ ⟨rfl, rfl⟩
 refine qx <| QN.to (StTo.still [0] 5 R R) <| qw (env' := [(5, _), (2, _), (1, _)]) (.o2 R (.one R (.nil _))) <| qq <| qX <| sr <| fd R R fo92_0 R <| ld R R sh9 ?_
 obtain ⟨t102, ht102, h⟩ := vw h
 refine p1 R 17 R (vQ (f := 152) (A := bA t102) (xs := [.tmp 17]) («as» := [EqA (strV ((rd a0.fNodes a1).fName))]) R ca152 (ref01_IsName.con k ((rd a0.fNodes a1).fName) t102 ht102) R) <| p1 R 18 R (q_not R) <| nt ?_
 refine qZ h R (fun hb103 h => ?_) (fun hb103 h => ?_)
 ·refine sr <| ak R <| qx <| qw (env' := [(4, _)]) (.one R (.nil _)) <| qq <| qN <| qy ?_
  cases h
  exact vW R R (.t R) (.id _)
 ·refine qK <| qq <| qX <| sr <| ak R <| nt <| vj ?_
  refine W.loop1 (Γ := Unit) (fun (_ : Unit) (x6 : Int) => [(1, iA a1), (2, PtrA [SlcA kNodeType a0.fNodes, SlcA kEdgeType a0.fEdges]), (5, PtrA [EqA (strV ((rd a0.fNodes a1).fName)), iA ((rd a0.fNodes a1).fParent), bA ((rd a0.fNodes a1).fAbstract), SlcA kAttr ((rd a0.fNodes a1).fAttrs)]), (6, iA x6)]) (fun (_ : Unit) (_ : Int) => []) h () (.o4 R (.nil _)) R (fun rec0 K0 next0 _ x6 h => ?_)
  unfold ref04_node.b0 at h
  refine qX <| sr <| mv R R <| mv R R <| p2 R 20 R 21 R (qB R R) <| nt ?_
  refine qZ h R (fun hb394 h => ?_) (fun hb394 h => ?_)
  ·refine qK <| qq <| qX <| vj <| qX <| W.drawK [(0, false), (1, false), (2, false), (3, false), (4, false), (5, false), (6, false), (7, false), (8, false)] [] (bm [0, 1, 0, 7, 15, 31, 0, 64, 255]) mx (by kernel_rfl) <| df R R R fo35_0 R <| dl R R R sh32 <| dm R R R ?_
   obtain ⟨c397, h⟩ := qV h
   refine qQ R R (.p R (.s 26 R (.s 27 R .nil)) R (vX R el32 R c397.1 c397.2)) <| df R R R fo92_0 R <| dl R R R sh9 <| df R R R fo92_0 R <| dl R R R sh9 <| qQ R R (.p R (.s 30 R (.s 32 R .nil)) R (q_str (s := (rd a0.fNodes x6).fName) (t := (rd a0.fNodes a1).fName) R)) <| DK.nil <| CSteps.nil <| qw (env' := [(33, _), (6, _), (5, _), (2, _), (1, _)]) (.o4 R (.one R (.nil _))) <| qq ?_
   refine qZ h R (fun hb398 h => ?_) (fun hb398 h => ?_)
   ·refine sr <| ak R <| nt <| qN <| vx <| qy <| qy <| vx <| qy ?_
    cases h
    exact vW R R (.t R) (.id _)
   ·refine qK <| vJ <| qq <| qJ <| mv R R ?_
    obtain ⟨c399, h⟩ := qV h
    refine pk R 23 R (vV R c399) <| av R R <| qx ?_
    exact next0 () (x6 + 1) _ h (.o4 R (.nil _))
  ·refine W.exit <| vq <| vq <| vB <| qq <| qX <| sr <| fd R R fo92_1 R <| ld R R sh3 <| mv R R ?_
   obtain ⟨c400, h⟩ := qV h
   refine pk R 36 R (q_subR R c400) ?_
   obtain ⟨t401, ht401, h⟩ := vw h
   refine WL.p R R R (.s 35 R (.k (.s 37 R .nil))) (vQ (f := 140) (A := bA t401) (xs := [.tmp 35, .const (.int .i64 (-1)), .tmp 37]) («as» := [iA ((rd a0.fNodes a1).fParent), iA (-1), iA (a1 - 1)]) R ca140 (ref04_in.con k ((rd a0.fNodes a1).fParent) (-1) (a1 - 1) t401 ht401) R) <| p1 R 38 R (q_not R) <| qx <| qw (env' := [(39, _), (5, _), (2, _), (1, _)]) (.o4 R (.nil _)) <| qq ?_
   refine qZ h R (fun hb402 h => ?_) (fun hb402 h => ?_)
   ·refine sr <| ak R <| nt <| qN <| qy ?_
    cases h
    exact vW R R (.t R) (.id _)
   ·refine qK <| qq <| sr <| lS R R sh35 R R <| mv R R ?_
    obtain ⟨t403, ht403, h⟩ := vw h
    refine p2 R 40 R 41 R (vQ (f := 139) (A := SlcA kAttr t403) (xs := [.tmp 40, .tmp 41]) («as» := [AggA [SlcA kNodeType a0.fNodes, SlcA kEdgeType a0.fEdges], iA a1]) R ca139 (ref04_attrs.con k a0 a1 t403 ht403) R) <| av R R <| nt <| qX <| qX ?_
    refine W.jn1 (Γ := Unit) (fun (_ : Unit) (x51 : Bool) => [(5, PtrA [EqA (strV ((rd a0.fNodes a1).fName)), iA ((rd a0.fNodes a1).fParent), bA ((rd a0.fNodes a1).fAbstract), SlcA kAttr ((rd a0.fNodes a1).fAttrs)]), (7, SlcA kAttr t403), (51, bA x51)]) (fun (_ : Unit) (_ : Bool) => []) h (fun _ x51 h => ?_) (fun j406 Kj406 h => ?_)
    ·refine qq ?_
     refine qZ h R (fun hb407 h => ?_) (fun hb407 h => ?_)
     ·refine sr <| ak R <| nt <| qN <| qy ?_
      cases h
      exact vW R R (.t R) (.id _)
     ·refine qK <| qq <| qX <| sr <| mv R R <| p1 R 52 R (vN R elS90) <| fd R R fo92_3 R <| ld R R sh90 <| p1 R 55 R (vN R elS90) ?_
      obtain ⟨c408, h⟩ := qV h
      refine p2 R 53 R 56 R (q_subR R c408) <| av R R <| qx <| qw (env' := [(8, _), (7, _)]) (.o2 R (.nil _)) <| qq <| vj ?_
      refine W.loop1 (Γ := Unit) (fun (_ : Unit) (x8 : Int) => [(7, SlcA kAttr t403), (8, iA x8)]) (fun (_ : Unit) (_ : Int) => []) h () (.o2 R (.nil _)) R (fun rec1 K1 next1 _ x8 h => ?_)
      unfold ref04_node.b1 at h
      refine qX <| sr <| mv R R <| mv R R <| p1 R 59 R (vN R elS90) <| p2 R 58 R 60 R (qB R R) <| nt ?_
      refine qZ h R (fun hb495 h => ?_) (fun hb495 h => ?_)
      ·refine qK <| qq <| qX <| vj <| qX <| sr <| mv R R <| mv R R ?_
       obtain ⟨c496, h⟩ := qV h
       refine p2 R 64 R 65 R (vX R el90 R c496.1 c496.2) <| fd R R fo95_0 R <| ld R R sh9 ?_
       obtain ⟨t497, ht497, h⟩ := vw h
       refine p1 R 68 R (vQ (f := 152) (A := bA t497) (xs := [.tmp 68]) («as» := [EqA (strV ((rd t403 x8).fName))]) R ca152 (ref01_IsName.con k ((rd t403 x8).fName) t497 ht497) R) <| p1 R 69 R (q_not R) <| qx <| qw (env' := [(70, _), (8, _), (7, _)]) (.o2 R (.one R (.nil _))) <| qq ?_
       refine qZ h R (fun hb498 h => ?_) (fun hb498 h => ?_)
       ·refine sr <| ak R <| nt <| qN <| qy <| vx <| qy <| qy <| vx <| qy ?_
        cases h
        exact vW R R (.t R) (.id _)
       ·refine qK <| qq <| qX <| sr <| ak R <| nt <| vj ?_
        refine W.loop1 (Γ := Unit) (fun (_ : Unit) (x9 : Int) => [(7, SlcA kAttr t403), (8, iA x8), (9, iA x9)]) (fun (_ : Unit) (_ : Int) => []) h () (.o2 R (.one R (.nil _))) R (fun rec2 K2 next2 _ x9 h => ?_)
        unfold ref04_node.b2 at h
        refine qX <| sr <| mv R R <| mv R R <| p2 R 71 R 72 R (qB R R) <| nt ?_
        refine qZ h R (fun hb525 h => ?_) (fun hb525 h => ?_)
        ·refine qK <| qq <| qX <| vj <| qX <| W.drawK [(0, false), (1, false), (2, false), (3, false), (4, false), (5, false), (6, false), (7, false), (8, false), (9, false), (10, false)] [] (bm [0, 0, 3, 7, 15, 0, 0, 96, 224, 480, 1023]) mx (by kernel_rfl) <| dm R R R <| dm R R R ?_
         obtain ⟨c530, h⟩ := qV h
         refine qQ R R (.p R (.s 76 R (.s 77 R .nil)) R (vX R el90 R c530.1 c530.2)) <| df R R R fo95_0 R <| dl R R R sh9 <| dm R R R <| dm R R R ?_
         obtain ⟨c531, h⟩ := qV h
         refine qQ R R (.p R (.s 81 R (.s 82 R .nil)) R (vX R el90 R c531.1 c531.2)) <| df R R R fo95_0 R <| dl R R R sh9 <| qQ R R (.p R (.s 80 R (.s 85 R .nil)) R (q_str (s := (rd t403 x9).fName) (t := (rd t403 x8).fName) R)) <| DK.nil <| CSteps.nil <| qw (env' := [(86, _), (9, _), (8, _), (7, _)]) (.o4 R (.nil _)) <| qq ?_
         refine qZ h R (fun hb532 h => ?_) (fun hb532 h => ?_)
         ·refine sr <| ak R <| nt <| qN <| vx <| qy <| qy <| vx <| qy <| vx <| qy ?_
          refine qy <| vx <| qy ?_
          cases h
          exact vW R R (.t R) (.id _)
         ·refine qK <| vJ <| qq <| qJ <| mv R R ?_
          obtain ⟨c533, h⟩ := qV h
          refine pk R 74 R (vV R c533) <| av R R <| qx ?_
          exact next2 () (x9 + 1) _ h (.o2 R (.one R (.nil _)))
        ·refine W.exit <| vq <| vq <| vB <| qq <| sr <| mv R R <| mv R R ?_
         obtain ⟨c534, h⟩ := qV h
         refine p2 R 87 R 88 R (vX R el90 R c534.1 c534.2) <| lS R R sh95 R R ?_
         obtain ⟨t535, ht535, h⟩ := vw h
         refine p1 R 90 R (vQ (f := 153) (A := iA t535) (xs := [.tmp 90]) («as» := [AggA [EqA (strV ((rd t403 x8).fName)), iA ((rd t403 x8).fLow), iA ((rd t403 x8).fHigh), SlcA kStr ((rd t403 x8).fNames)]]) R ca153 (ref04_attribute.con k (rd t403 x8) t535 ht535) R) <| av R R <| qx <| qw (env' := [(10, _), (8, _), (7, _)]) (.o2 R (.one R (.nil _))) <| qq <| sr <| mv R R <| pk R 92 R (qB R R) <| nt ?_
         refine qZ h R (fun hb536 h => ?_) (fun hb536 h => ?_)
         ·refine sr <| mv R R <| av R R <| nt <| qN <| vx <| qy <| qy <| vx <| qy ?_
          cases h
          exact vW R R (.t R) (.id _)
         ·refine qK <| vJ <| qq <| qJ <| mv R R ?_
          obtain ⟨c537, h⟩ := qV h
          refine pk R 62 R (vV R c537) <| av R R <| qx ?_
          exact next1 () (x8 + 1) _ h (.o2 R (.nil _))
      ·refine W.exit <| vq <| vq <| vB <| qq <| sr <| ak R <| nt <| qN ?_
       cases h
       exact vW R R (.t R) (.id _)
    ·refine qJ <| fd R R fo92_3 R <| ld R R sh90 <| p1 R 44 R (vN R elS90) <| pk R 45 R (qB R R) <| mv R R ?_
     rcases bif_s h with ⟨hb538, h⟩ | ⟨hb538, h⟩
     ·refine sk R R R hb538 <| sk R R R hb538 <| sk R R R hb538 <| pk R 47 R (vy R hb538) <| qx ?_
      exact qw (.o2 R (.one R (.nil _))) (Kj406 () true h)
     ·refine wm R R R hb538 R R <| wq R R R hb538 (.s 48 R .nil) (vN R elS90).o <| wq R R R hb538 (.s 49 R (.k .nil)) (qB R R).o <| p2 R 47 R 50 R (vz R hb538) <| qx ?_
      exact qw (.o2 R (.one R (.nil _))) (Kj406 () (decide ((t403.length : Int) > 8)) h)
end Go.Proofs.YtcgdfjpeboiioaaGreat
