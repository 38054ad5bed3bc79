import Derived.Test.YtcgdfjpeboiioaaGreatVaC7
namespace Go.Proofs.YtcgdfjpeboiioaaGreat
open Go Go.Abs
attribute [local irreducible] Tryz.prog
theorem ref01_Right.con (k : Nat) (a0 : Token) (r : Bool) (h : ref01_Right k a0 = some r) : Con Tryz.prog 181 [] [AggA [iA a0.fKind, EqA (strV a0.fText), iA a0.fLine]] (RA (bA r)) := by
 unfold ref01_Right at h
 refine vJ (N := 32) Tryz.func181 R R R fun w0_ fg_ => sr <| p1 R 0 R (q_box R (qy _)) <| ak R <| nx <| lS R R sh226 R R ?_
 obtain ⟨t100, ht100, h⟩ := vw h
 refine p1 R 7 R (vy (f := 202) (A := EqA (strV t100)) (xs := [.tmp 7]) («as» := [AggA [iA a0.fKind, EqA (strV a0.fText), iA a0.fLine]]) R ca202 (ref01_text.con k a0 t100 ht100) R) <| av R R <| nt <| qX <| sr <| mv R R <| pk R 9 R (q_str (s := t100) (t := ([] : Str)) R) <| nt ?_
 refine qZ h R (fun hb101 h => ?_) (fun hb101 h => ?_)
 ·refine sr <| ak R <| qx <| qw (env' := [(2, _)]) (.one R (.nil _)) <| qq <| vq <| qQ ?_
  cases h
  exact vW R R (.t R) (.id _)
 ·refine qB <| qq <| sr <| mv R R ?_
  obtain ⟨t102, ht102, h⟩ := vw h
  refine pk R 12 R (vy (f := 203) (A := TupA [AggA [iA t102.1.fKind, EqA (strV t102.1.fText), iA t102.1.fLine], iA t102.2.1, iA t102.2.2]) (xs := [.tmp 12, .const (.int .i64 0)]) («as» := [EqA (strV t100), iA 0]) R ca203 (ref01_one.con k t100 0 t102 ht102) R) <| mv R R <| p1 R 11 R (vV R R) <| p1 R 11 R (vV R R) <| p1 R 11 R (vV R R) <| WL.w [] R (qj R) R R .nil (w_alloc R z226 (l := [iA 0, EqA (strV ([] : Str)), iA 0]) R) ?_
  rintro _ _ ⟨b103, rfl, rfl⟩
  refine WL.w0 [0] R (qj R) R (.s 4 R (.s 14 R .nil)) (w_store (L := [iA t102.1.fKind, EqA (strV t102.1.fText), iA t102.1.fLine]) R sh226 (qy _) R R (leB R) R) ?_
  rintro _ _ ⟨rfl, rfl⟩
  refine av R R <| av R R <| qx <| QN.to (StTo.still [0] 4 R R) <| qw (env' := [(6, _), (5, _), (4, _), (3, _), (1, _)]) (.o4 R (.one R (.nil _))) <| qq <| qX ?_
  refine W.jn1 (Γ := Unit) (fun (_ : Unit) (x2 : Bool) => [(2, bA x2)]) (fun (_ : Unit) (_ : Bool) => []) h (fun _ x2 h => ?_) (fun j107 Kj107 h => ?_)
  ·refine qq <| vq ?_
   cases h
   exact vW R R (.t R) (.id _)
  ·refine qJ <| mv R R <| pk R 17 R (qN R R) <| mv R R ?_
   rcases bif_s h with ⟨hb108, h⟩ | ⟨hb108, h⟩
   ·refine wm R R R hb108 R R <| wm R R R hb108 R R <| wq R R R hb108 (.s 21 R .nil) (q_slen (s := t100) R iss9).o <| wq R R R hb108 (.s 20 R (.s 22 R .nil)) (qN R R).o <| p2 R 19 R 23 R (vQ R hb108) <| mv R R ?_
    rcases bif_s h with ⟨hb109, h⟩ | ⟨hb109, h⟩
    ·refine wf R R R hb109 R R fo226_0 R <| wl R R R hb109 R R sh3 <| wf R R R hb109 R R fo226_0 R <| wl R R R hb109 R R sh3 <| wq R R R hb109 (.s 27 R (.s 29 R .nil)) (qN R R).o <| p2 R 25 R 30 R (vQ R hb109) <| av R R <| qx ?_
     exact qw (.one R (.nil _)) (Kj107 () (t102.1.fKind == a0.fKind) h)
    ·refine sk R R R hb109 <| sk R R R hb109 <| sk R R R hb109 <| sk R R R hb109 <| sk R R R hb109 <| pk R 25 R (vj R hb109) <| av R R <| qx ?_
     exact qw (.one R (.nil _)) (Kj107 () false h)
   ·refine sk R R R hb108 <| sk R R R hb108 <| sk R R R hb108 <| sk R R R hb108 <| pk R 19 R (vj R hb108) <| mv R R <| sk R R R R <| sk R R R R <| sk R R R R <| sk R R R R <| sk R R R R <| pk R 25 R (vj R R) <| av R R ?_
    refine qx ?_
    exact qw (.one R (.nil _)) (Kj107 () false h)
theorem ref01_IsName.con (k : Nat) (a0 : Str) (r : Bool) (h : ref01_IsName k a0 = some r) : Con Tryz.prog 152 [] [EqA (strV a0)] (RA (bA r)) := by
 unfold ref01_IsName at h
 refine vJ (N := 6) Tryz.func152 R R R fun w0_ fg_ => sr <| ak R <| nx <| mv R R <| WL.p R R R (.k (.s 3 R .nil)) (q_build (is := [0, 1]) (xs := [.const (.int .i64 1), .tmp 3]) (L := [iA 1, EqA (strV a0), iA 0]) R R z226 pl226 R R (.cons (qW R) (.cons (qW R) .nil)) R) ?_
 obtain ⟨t100, ht100, h⟩ := vw h
 refine p1 R 4 R (vy (f := 181) (A := bA t100) (xs := [.tmp 4]) («as» := [AggA [iA 1, EqA (strV a0), iA 0]]) R ca181 (ref01_Right.con k (Token.mk 1 a0 0) t100 ht100) R) <| av R R <| nt <| vq ?_
 cases h
 exact vW R R (.t R) (.id _)
theorem ref04_in.con (k : Nat) (a0 : Int) (a1 : Int) (a2 : Int) (r : Bool) (h : ref04_in k a0 a1 a2 = some r) : Con Tryz.prog 140 [] [iA a0, iA a1, iA a2] (RA (bA r)) := by
 unfold ref04_in at h
 refine vJ (N := 15) Tryz.func140 R R R fun w0_ fg_ => sr <| ak R <| nt <| qX ?_
 refine W.jn1 (Γ := Unit) (fun (_ : Unit) (x6 : Bool) => [(6, bA x6)]) (fun (_ : Unit) (_ : Bool) => []) h (fun _ x6 h => ?_) (fun j102 Kj102 h => ?_)
 ·refine qq <| vq ?_
  cases h
  exact vW R R (.t R) (.id _)
 ·refine qJ <| mv R R <| mv R R <| p2 R 7 R 8 R (qN R R) <| mv R R ?_
  rcases bif_s h with ⟨hb103, h⟩ | ⟨hb103, h⟩
  ·refine wm R R R hb103 R R <| wm R R R hb103 R R <| wq R R R hb103 (.s 11 R (.s 12 R .nil)) (qN R R).o <| p2 R 10 R 13 R (vQ R hb103) <| av R R <| qx ?_
   exact qw (.one R (.nil _)) (Kj102 () (decide (a0 ≤ a2)) h)
  ·refine sk R R R hb103 <| sk R R R hb103 <| sk R R R hb103 <| pk R 10 R (vj R hb103) <| av R R <| qx ?_
   exact qw (.one R (.nil _)) (Kj102 () false h)
theorem ref04_attrs.con : ∀ (k : Nat) (a0 : Types) (a1 : Int) (r : (List Attr)) (_ : ref04_attrs k a0 a1 = some r), Con Tryz.prog 139 [] [AggA [SlcA kNodeType a0.fNodes, SlcA kEdgeType a0.fEdges], iA a1] (RA (SlcA kAttr r)) := by
 intro k
 induction k with
 | zero => intro a0 a1 r h; cases h
 | succ k ih =>
  intro a0 a1 r h
  change ref04_attrs.main (ref04_attrs k) k a0 a1 = some r at h
  unfold ref04_attrs.main at h
  refine vJ (N := 24) Tryz.func139 R R R fun w0_ fg_ => sr <| p1 R 0 R (q_box R (qy _)) <| ak R <| nt <| qX <| sr <| mv R R <| pk R 5 R (qN R R) <| qx ?_
  refine qq ?_
  refine qZ h R (fun hb100 h => ?_) (fun hb100 h => ?_)
  ·refine sr <| ak R <| nt <| vq <| qQ ?_
   cases h
   exact vW R R (.t R) (.imp (Imp.nil kAttr))
  ·refine qB <| qq <| qX <| W.drawK [(0, false), (1, false), (2, false), (3, false), (4, false), (5, false), (6, false), (7, false), (8, false), (10, false), (11, false), (12, false), (13, false), (14, false), (15, false)] [9, 16, 17] (bm [0, 0, 0, 4, 0, 28, 60, 124, 254, 511, 0, 1024, 0, 7168, 15360, 31744, 65535, 131071]) mx (by kernel_rfl) <| qz R R (.p R .nil R (q_lit0 R el90 gr95)) <| qz R R (.p R (.s 2 R .nil) R (q_loadS R sh35 (leB R) R)) <| df R R R fo35_0 R <| dl R R R sh32 <| dm R R R ?_
   obtain ⟨c115, h⟩ := qK h
   refine qz R R (.p R (.s 10 R (.s 11 R .nil)) R (vX R el32 R c115.1 c115.2)) <| df R R R fo92_1 R <| dl R R R sh3 ?_
   obtain ⟨t116, ht116, h⟩ := vw h
   refine qz R R (.p R (.s 8 R (.s 14 R .nil)) R (vy (f := 139) (A := SlcA kAttr t116) (xs := [.tmp 8, .tmp 14]) («as» := [AggA [SlcA kNodeType a0.fNodes, SlcA kEdgeType a0.fEdges], iA ((rd a0.fNodes a1).fParent)]) R ca139 (ih a0 ((rd a0.fNodes a1).fParent) t116 ht116) R)) ?_
   obtain ⟨c117, h⟩ := qK h
   refine df R R R fo35_0 R <| dl R R R sh32 <| dm R R R ?_
   obtain ⟨c119, h⟩ := qK h
   refine qz R R (.p R (.s 18 R (.s 19 R .nil)) R (vX R el32 R c119.1 c119.2)) <| df R R R fo92_3 R <| dl R R R sh90 ?_
   obtain ⟨c120, h⟩ := qK h
   refine DK.nil <| CSteps.w [] R R R R (.s 7 R (.s 15 R .nil)) R (w_appendZ (kd := kAttr) R el90 R gr95 c117) ?_
   rintro _ _ ⟨v118, rfl, rfl⟩
   refine CSteps.w [0] R R R R (.s 16 R (.s 22 R .nil)) R (w_append (kd := kAttr) R el90 R gr95 c120) ?_
   rintro _ _ ⟨v121, rfl, rfl⟩
   refine CSteps.p R R R (.s 23 R .nil) R (q_assign R) <| CSteps.nil <| qw (env' := [(4, _)]) (.one R (.nil _)) <| qq <| vq ?_
   cases h
   exact vW R R (.t R) (.slc 0 R)
theorem ref04_names.con (k : Nat) (a0 : (List Str)) (r : Int) (h : ref04_names k a0 = some r) : Con Tryz.prog 182 [] [SlcA kStr a0] (RA (iA r)) := by
 unfold ref04_names at h
 refine vJ (N := 34) Tryz.func182 R R R fun w0_ fg_ => sr <| ak R <| nt <| qX <| sr <| mv R R <| p1 R 5 R (vN R elS93) <| pk R 6 R (qN R R) <| qx ?_
 refine qq ?_
 refine qZ h R (fun hb100 h => ?_) (fun hb100 h => ?_)
 ·refine sr <| ak R <| nt <| vq <| qQ ?_
  cases h
  exact vW R R (.t R) (.id _)
 ·refine qB <| qq <| qX <| sr <| ak R <| nt <| vx ?_
  refine W.loop1 (Γ := Unit) (fun (_ : Unit) (x3 : Int) => [(0, SlcA kStr a0), (3, iA x3)]) (fun (_ : Unit) (_ : Int) => []) h () (.o2 R (.nil _)) R (fun rec0 K0 next0 _ x3 h => ?_)
  unfold ref04_names.b0 at h
  refine qX <| sr <| mv R R <| mv R R <| p1 R 9 R (vN R elS93) <| p2 R 8 R 10 R (qN R R) <| nt ?_
  refine qZ h R (fun hb169 h => ?_) (fun hb169 h => ?_)
  ·refine qB <| qq <| qX <| vx <| qX <| sr <| mv R R <| mv R R ?_
   obtain ⟨c170, h⟩ := qK h
   refine p2 R 14 R 15 R (vX R el93 R c170.1 c170.2) <| ld R R sh9 ?_
   obtain ⟨t171, ht171, h⟩ := vw h
   refine p1 R 17 R (vy (f := 152) (A := bA t171) (xs := [.tmp 17]) («as» := [EqA (strV (rd a0 x3))]) R ca152 (ref01_IsName.con k (rd a0 x3) t171 ht171) R) <| p1 R 18 R (q_not R) <| qx <| qw (env' := [(19, _), (3, _), (0, _)]) (.o2 R (.one R (.nil _))) <| qq ?_
   refine qZ h R (fun hb172 h => ?_) (fun hb172 h => ?_)
   ·refine sr <| ak R <| nt <| vq <| qQ <| vz <| qQ <| qQ <| vz <| qQ ?_
    cases h
    exact vW R R (.t R) (.id _)
   ·refine qB <| qq <| sr <| ak R <| nt <| vx ?_
    refine W.loop1 (Γ := Unit) (fun (_ : Unit) (x4 : Int) => [(0, SlcA kStr a0), (3, iA x3), (4, iA x4)]) (fun (_ : Unit) (_ : Int) => []) h () (.o2 R (.one R (.nil _))) R (fun rec1 K1 next1 _ x4 h => ?_)
    unfold ref04_names.b1 at h
    refine qX <| sr <| mv R R <| mv R R <| p2 R 20 R 21 R (qN R R) <| nt ?_
    refine qZ h R (fun hb193 h => ?_) (fun hb193 h => ?_)
    ·refine qB <| qq <| qX <| vx <| qX <| W.drawK [(0, false), (1, false), (2, false), (3, false), (4, false), (5, false), (6, false), (7, false), (8, false)] [] (bm [0, 0, 3, 7, 0, 0, 48, 112, 255]) mx (by kernel_rfl) <| dm R R R <| dm R R R ?_
     obtain ⟨c198, h⟩ := qK h
     refine qz R R (.p R (.s 25 R (.s 26 R .nil)) R (vX R el93 R c198.1 c198.2)) <| dl R R R sh9 <| dm R R R <| dm R R R ?_
     obtain ⟨c199, h⟩ := qK h
     refine qz R R (.p R (.s 29 R (.s 30 R .nil)) R (vX R el93 R c199.1 c199.2)) <| dl R R R sh9 <| qz R R (.p R (.s 28 R (.s 32 R .nil)) R (q_str (s := (rd a0 x4)) (t := (rd a0 x3)) R)) <| DK.nil <| CSteps.nil <| qw (env' := [(33, _), (4, _), (3, _), (0, _)]) (.o4 R (.nil _)) <| qq ?_
     refine qZ h R (fun hb200 h => ?_) (fun hb200 h => ?_)
     ·refine sr <| ak R <| nt <| vq <| vz <| qQ <| qQ <| vz <| vz <| qQ <| qQ ?_
      refine vz <| qQ ?_
      cases h
      exact vW R R (.t R) (.id _)
     ·refine qB <| vZ <| qq <| qJ <| mv R R ?_
      obtain ⟨c201, h⟩ := qK h
      refine pk R 23 R (vK R c201) <| av R R <| qx ?_
      exact next1 () (x4 + 1) _ h (.o2 R (.one R (.nil _)))
    ·refine W.exit <| qV <| qV <| vB <| vZ <| qq <| qJ <| mv R R ?_
     obtain ⟨c202, h⟩ := qK h
     refine pk R 12 R (vK R c202) <| av R R <| qx ?_
     exact next0 () (x3 + 1) _ h (.o2 R (.nil _))
  ·refine W.exit <| qV <| qV <| vB <| qq <| sr <| ak R <| nt <| vq ?_
   cases h
   exact vW R R (.t R) (.id _)
theorem ref04_attribute.con (k : Nat) (a0 : Attr) (r : Int) (h : ref04_attribute k a0 = some r) : Con Tryz.prog 153 [] [AggA [EqA (strV a0.fName), iA a0.fLow, iA a0.fHigh, SlcA kStr a0.fNames]] (RA (iA r)) := by
 unfold ref04_attribute at h
 refine vJ (N := 38) Tryz.func153 R R R fun w0_ fg_ => sr <| p1 R 0 R (q_box R (qy _)) <| ak R <| nt <| qX <| sr <| fd R R fo95_3 R <| ld R R sh93 <| p1 R 5 R (vN R elS93) ?_
 refine pk R 6 R (qN R R) <| nt ?_
 refine qZ h R (fun hb100 h => ?_) (fun hb100 h => ?_)
 ·refine qX <| qX ?_
  refine W.jn1 (Γ := Unit) (fun (_ : Unit) (x19 : Bool) => [(19, bA x19)]) (fun (_ : Unit) (_ : Bool) => []) h (fun _ x19 h => ?_) (fun j105 Kj105 h => ?_)
  ·refine qq ?_
   refine qZ h R (fun hb106 h => ?_) (fun hb106 h => ?_)
   ·refine sr <| ak R <| nt <| vq <| qQ <| qQ ?_
    cases h
    exact vW R R (.t R) (.id _)
   ·refine qB <| qq <| sr <| ak R <| nt <| vq <| qQ ?_
    cases h
    exact vW R R (.t R) (.id _)
  ·refine qJ <| fd R R fo95_1 R <| ld R R sh3 ?_
   obtain ⟨t107, ht107, h⟩ := vw h
   refine WL.p R R R (.s 9 R (.k (.k .nil))) (vy (f := 140) (A := bA t107) (xs := [.tmp 9, .const (.int .i64 (-1000000)), .const (.int .i64 1000000)]) («as» := [iA a0.fLow, iA (-1000000), iA 1000000]) R ca140 (ref04_in.con k a0.fLow (-1000000) 1000000 t107 ht107) R) <| p1 R 10 R (q_not R) <| mv R R ?_
   rcases bif_s h with ⟨hb108, h⟩ | ⟨hb108, h⟩
   ·refine sk R R R hb108 <| sk R R R hb108 <| sk R R R hb108 <| sk R R R hb108 <| sk R R R hb108 <| sk R R R hb108 <| pk R 12 R (vQ R hb108) <| qx ?_
    exact qw (.one R (.nil _)) (Kj105 () true h)
   ·refine wf R R R hb108 R R fo95_2 R <| wl R R R hb108 R R sh3 <| wf R R R hb108 R R fo95_1 R <| wl R R R hb108 R R sh3 ?_
    obtain ⟨t109, ht109, h⟩ := vw h
    refine wq R R R hb108 (.s 14 R (.s 16 R (.k .nil))) (vy (f := 140) (A := bA t109) (xs := [.tmp 14, .tmp 16, .const (.int .i64 1000000)]) («as» := [iA a0.fHigh, iA a0.fLow, iA 1000000]) R ca140 (ref04_in.con k a0.fHigh a0.fLow 1000000 t109 ht109) R).o <| wq R R R hb108 (.s 17 R .nil) (q_not R).o <| p2 R 12 R 18 R (vj R hb108) <| qx ?_
    exact qw (.one R (.nil _)) (Kj105 () (!t109) h)
 ·refine qB <| qq <| qX <| sr <| fd R R fo95_3 R <| ld R R sh93 ?_
  obtain ⟨t110, ht110, h⟩ := vw h
  refine p1 R 21 R (vy (f := 182) (A := iA t110) (xs := [.tmp 21]) («as» := [SlcA kStr a0.fNames]) R ca182 (ref04_names.con k a0.fNames t110 ht110) R) <| av R R <| qx <| qw (env' := [(3, _), (1, _)]) (.o2 R (.nil _)) <| qq <| sr <| mv R R <| pk R 23 R (qN R R) <| nt ?_
  refine qZ h R (fun hb111 h => ?_) (fun hb111 h => ?_)
  ·refine sr <| mv R R <| av R R <| nt <| vq <| qQ ?_
   cases h
   exact vW R R (.t R) (.id _)
  ·refine qB <| qq <| qX <| qX ?_
   refine W.jn1 (Γ := Unit) (fun (_ : Unit) (x37 : Bool) => [(37, bA x37)]) (fun (_ : Unit) (_ : Bool) => []) h (fun _ x37 h => ?_) (fun j115 Kj115 h => ?_)
   ·refine qq ?_
    refine qZ h R (fun hb116 h => ?_) (fun hb116 h => ?_)
    ·refine sr <| ak R <| nt <| vq <| qQ ?_
     cases h
     exact vW R R (.t R) (.id _)
    ·refine qB <| qq <| sr <| ak R <| nt <| vq ?_
     cases h
     exact vW R R (.t R) (.id _)
   ·refine qJ <| fd R R fo95_1 R <| ld R R sh3 <| pk R 27 R (qN R R) <| mv R R ?_
    rcases bif_s h with ⟨hb117, h⟩ | ⟨hb117, h⟩
    ·refine sk R R R hb117 <| sk R R R hb117 <| sk R R R hb117 <| sk R R R hb117 <| sk R R R hb117 <| sk R R R hb117 <| sk R R R hb117 <| pk R 29 R (vQ R hb117) <| qx ?_
     exact qw (.one R (.nil _)) (Kj115 () true h)
    ·refine wf R R R hb117 R R fo95_2 R <| wl R R R hb117 R R sh3 <| wf R R R hb117 R R fo95_3 R <| wl R R R hb117 R R sh93 <| wq R R R hb117 (.s 33 R .nil) (vN R elS93).o ?_
     obtain ⟨c118, h⟩ := qK h
     refine wq R R R hb117 (.s 34 R (.k .nil)) (q_subR R c118).o <| wq R R R hb117 (.s 31 R (.s 35 R .nil)) (qN R R).o <| p2 R 29 R 36 R (vj R hb117) <| qx ?_
     exact qw (.one R (.nil _)) (Kj115 () (a0.fHigh != ((a0.fNames.length : Int) - 1)) h)
theorem ref04_node.con (k : Nat) (a0 : Types) (a1 : Int) (r : Int) (h : ref04_node k a0 a1 = some r) : Con Tryz.prog 111 [] [AggA [SlcA kNodeType a0.fNodes, SlcA kEdgeType a0.fEdges], iA a1] (RA (iA r)) := by
 unfold ref04_node at h
 refine vJ (N := 95) Tryz.func111 R R R fun w0_ fg_ => sr <| p1 R 0 R (q_box R (qy _)) <| ak R <| nx <| fd R R fo35_0 R <| ld R R sh32 <| mv R R ?_
 obtain ⟨c100, h⟩ := qK h
 refine p2 R 12 R 13 R (vX R el32 R c100.1 c100.2) <| lS R R sh92 R R <| WL.w [] R (qj R) R R .nil (w_alloc R z92 (l := [EqA (strV ([] : Str)), iA 0, bA false, EqA (.slice none 0 0)]) R) ?_
 rintro _ _ ⟨b101, rfl, rfl⟩
 refine WL.w0 [0] R (qj R) R (.s 5 R (.s 15 R .nil)) (w_store (L := [EqA (strV ((rd a0.fNodes a1).fName)), iA ((rd a0.fNodes a1).fParent), bA ((rd a0.fNodes a1).fAbstract), SlcA kAttr ((rd a0.fNodes a1).fAttrs)]) R sh92 (qy _) R R (leB R) R) ?_
 rintro _ _ ⟨rfl, rfl⟩
 refine qx <| QN.to (StTo.still [0] 5 R R) <| qw (env' := [(5, _), (2, _), (1, _)]) (.o2 R (.one R (.nil _))) <| qq <| qX <| sr <| fd R R fo92_0 R <| ld R R sh9 ?_
 obtain ⟨t102, ht102, h⟩ := vw h
 refine p1 R 17 R (vy (f := 152) (A := bA t102) (xs := [.tmp 17]) («as» := [EqA (strV ((rd a0.fNodes a1).fName))]) R ca152 (ref01_IsName.con k ((rd a0.fNodes a1).fName) t102 ht102) R) <| p1 R 18 R (q_not R) <| nt ?_
 refine qZ h R (fun hb103 h => ?_) (fun hb103 h => ?_)
 ·refine sr <| ak R <| qx <| qw (env' := [(4, _)]) (.one R (.nil _)) <| qq <| vq <| qQ ?_
  cases h
  exact vW R R (.t R) (.id _)
 ·refine qB <| qq <| qX <| sr <| ak R <| nt <| vx ?_
  refine W.loop1 (Γ := Unit) (fun (_ : Unit) (x6 : Int) => [(1, iA a1), (2, PtrA [SlcA kNodeType a0.fNodes, SlcA kEdgeType a0.fEdges]), (5, PtrA [EqA (strV ((rd a0.fNodes a1).fName)), iA ((rd a0.fNodes a1).fParent), bA ((rd a0.fNodes a1).fAbstract), SlcA kAttr ((rd a0.fNodes a1).fAttrs)]), (6, iA x6)]) (fun (_ : Unit) (_ : Int) => []) h () (.o4 R (.nil _)) R (fun rec0 K0 next0 _ x6 h => ?_)
  unfold ref04_node.b0 at h
  refine qX <| sr <| mv R R <| mv R R <| p2 R 20 R 21 R (qN R R) <| nt ?_
  refine qZ h R (fun hb394 h => ?_) (fun hb394 h => ?_)
  ·refine qB <| qq <| qX <| vx <| qX <| W.drawK [(0, false), (1, false), (2, false), (3, false), (4, false), (5, false), (6, false), (7, false), (8, false)] [] (bm [0, 1, 0, 7, 15, 31, 0, 64, 255]) mx (by kernel_rfl) <| df R R R fo35_0 R <| dl R R R sh32 <| dm R R R ?_
   obtain ⟨c397, h⟩ := qK h
   refine qz R R (.p R (.s 26 R (.s 27 R .nil)) R (vX R el32 R c397.1 c397.2)) <| df R R R fo92_0 R <| dl R R R sh9 <| df R R R fo92_0 R <| dl R R R sh9 <| qz R R (.p R (.s 30 R (.s 32 R .nil)) R (q_str (s := (rd a0.fNodes x6).fName) (t := (rd a0.fNodes a1).fName) R)) <| DK.nil <| CSteps.nil <| qw (env' := [(33, _), (6, _), (5, _), (2, _), (1, _)]) (.o4 R (.one R (.nil _))) <| qq ?_
   refine qZ h R (fun hb398 h => ?_) (fun hb398 h => ?_)
   ·refine sr <| ak R <| nt <| vq <| vz <| qQ <| qQ <| vz <| qQ ?_
    cases h
    exact vW R R (.t R) (.id _)
   ·refine qB <| vZ <| qq <| qJ <| mv R R ?_
    obtain ⟨c399, h⟩ := qK h
    refine pk R 23 R (vK R c399) <| av R R <| qx ?_
    exact next0 () (x6 + 1) _ h (.o4 R (.nil _))
  ·refine W.exit <| qV <| qV <| vB <| qq <| qX <| sr <| fd R R fo92_1 R <| ld R R sh3 <| mv R R ?_
   obtain ⟨c400, h⟩ := qK h
   refine pk R 36 R (q_subR R c400) ?_
   obtain ⟨t401, ht401, h⟩ := vw h
   refine WL.p R R R (.s 35 R (.k (.s 37 R .nil))) (vy (f := 140) (A := bA t401) (xs := [.tmp 35, .const (.int .i64 (-1)), .tmp 37]) («as» := [iA ((rd a0.fNodes a1).fParent), iA (-1), iA (a1 - 1)]) R ca140 (ref04_in.con k ((rd a0.fNodes a1).fParent) (-1) (a1 - 1) t401 ht401) R) <| p1 R 38 R (q_not R) <| qx <| qw (env' := [(39, _), (5, _), (2, _), (1, _)]) (.o4 R (.nil _)) <| qq ?_
   refine qZ h R (fun hb402 h => ?_) (fun hb402 h => ?_)
   ·refine sr <| ak R <| nt <| vq <| qQ ?_
    cases h
    exact vW R R (.t R) (.id _)
   ·refine qB <| qq <| sr <| lS R R sh35 R R <| mv R R ?_
    obtain ⟨t403, ht403, h⟩ := vw h
    refine p2 R 40 R 41 R (vy (f := 139) (A := SlcA kAttr t403) (xs := [.tmp 40, .tmp 41]) («as» := [AggA [SlcA kNodeType a0.fNodes, SlcA kEdgeType a0.fEdges], iA a1]) R ca139 (ref04_attrs.con k a0 a1 t403 ht403) R) <| av R R <| nt <| qX <| qX ?_
    refine W.jn1 (Γ := Unit) (fun (_ : Unit) (x51 : Bool) => [(5, PtrA [EqA (strV ((rd a0.fNodes a1).fName)), iA ((rd a0.fNodes a1).fParent), bA ((rd a0.fNodes a1).fAbstract), SlcA kAttr ((rd a0.fNodes a1).fAttrs)]), (7, SlcA kAttr t403), (51, bA x51)]) (fun (_ : Unit) (_ : Bool) => []) h (fun _ x51 h => ?_) (fun j406 Kj406 h => ?_)
    ·refine qq ?_
     refine qZ h R (fun hb407 h => ?_) (fun hb407 h => ?_)
     ·refine sr <| ak R <| nt <| vq <| qQ ?_
      cases h
      exact vW R R (.t R) (.id _)
     ·refine qB <| qq <| qX <| sr <| mv R R <| p1 R 52 R (vN R elS90) <| fd R R fo92_3 R <| ld R R sh90 <| p1 R 55 R (vN R elS90) ?_
      obtain ⟨c408, h⟩ := qK h
      refine p2 R 53 R 56 R (q_subR R c408) <| av R R <| qx <| qw (env' := [(8, _), (7, _)]) (.o2 R (.nil _)) <| qq <| vx ?_
      refine W.loop1 (Γ := Unit) (fun (_ : Unit) (x8 : Int) => [(7, SlcA kAttr t403), (8, iA x8)]) (fun (_ : Unit) (_ : Int) => []) h () (.o2 R (.nil _)) R (fun rec1 K1 next1 _ x8 h => ?_)
      unfold ref04_node.b1 at h
      refine qX <| sr <| mv R R <| mv R R <| p1 R 59 R (vN R elS90) <| p2 R 58 R 60 R (qN R R) <| nt ?_
      refine qZ h R (fun hb495 h => ?_) (fun hb495 h => ?_)
      ·refine qB <| qq <| qX <| vx <| qX <| sr <| mv R R <| mv R R ?_
       obtain ⟨c496, h⟩ := qK h
       refine p2 R 64 R 65 R (vX R el90 R c496.1 c496.2) <| fd R R fo95_0 R <| ld R R sh9 ?_
       obtain ⟨t497, ht497, h⟩ := vw h
       refine p1 R 68 R (vy (f := 152) (A := bA t497) (xs := [.tmp 68]) («as» := [EqA (strV ((rd t403 x8).fName))]) R ca152 (ref01_IsName.con k ((rd t403 x8).fName) t497 ht497) R) <| p1 R 69 R (q_not R) <| qx <| qw (env' := [(70, _), (8, _), (7, _)]) (.o2 R (.one R (.nil _))) <| qq ?_
       refine qZ h R (fun hb498 h => ?_) (fun hb498 h => ?_)
       ·refine sr <| ak R <| nt <| vq <| qQ <| vz <| qQ <| qQ <| vz <| qQ ?_
        cases h
        exact vW R R (.t R) (.id _)
       ·refine qB <| qq <| qX <| sr <| ak R <| nt <| vx ?_
        refine W.loop1 (Γ := Unit) (fun (_ : Unit) (x9 : Int) => [(7, SlcA kAttr t403), (8, iA x8), (9, iA x9)]) (fun (_ : Unit) (_ : Int) => []) h () (.o2 R (.one R (.nil _))) R (fun rec2 K2 next2 _ x9 h => ?_)
        unfold ref04_node.b2 at h
        refine qX <| sr <| mv R R <| mv R R <| p2 R 71 R 72 R (qN R R) <| nt ?_
        refine qZ h R (fun hb525 h => ?_) (fun hb525 h => ?_)
        ·refine qB <| qq <| qX <| vx <| qX <| W.drawK [(0, false), (1, false), (2, false), (3, false), (4, false), (5, false), (6, false), (7, false), (8, false), (9, false), (10, false)] [] (bm [0, 0, 3, 7, 15, 0, 0, 96, 224, 480, 1023]) mx (by kernel_rfl) <| dm R R R <| dm R R R ?_
         obtain ⟨c530, h⟩ := qK h
         refine qz R R (.p R (.s 76 R (.s 77 R .nil)) R (vX R el90 R c530.1 c530.2)) <| df R R R fo95_0 R <| dl R R R sh9 <| dm R R R <| dm R R R ?_
         obtain ⟨c531, h⟩ := qK h
         refine qz R R (.p R (.s 81 R (.s 82 R .nil)) R (vX R el90 R c531.1 c531.2)) <| df R R R fo95_0 R <| dl R R R sh9 <| qz R R (.p R (.s 80 R (.s 85 R .nil)) R (q_str (s := (rd t403 x9).fName) (t := (rd t403 x8).fName) R)) <| DK.nil <| CSteps.nil <| qw (env' := [(86, _), (9, _), (8, _), (7, _)]) (.o4 R (.nil _)) <| qq ?_
         refine qZ h R (fun hb532 h => ?_) (fun hb532 h => ?_)
         ·refine sr <| ak R <| nt <| vq <| vz <| qQ <| qQ <| vz <| qQ <| vz <| qQ ?_
          refine qQ <| vz <| qQ ?_
          cases h
          exact vW R R (.t R) (.id _)
         ·refine qB <| vZ <| qq <| qJ <| mv R R ?_
          obtain ⟨c533, h⟩ := qK h
          refine pk R 74 R (vK R c533) <| av R R <| qx ?_
          exact next2 () (x9 + 1) _ h (.o2 R (.one R (.nil _)))
        ·refine W.exit <| qV <| qV <| vB <| qq <| sr <| mv R R <| mv R R ?_
         obtain ⟨c534, h⟩ := qK h
         refine p2 R 87 R 88 R (vX R el90 R c534.1 c534.2) <| lS R R sh95 R R ?_
         obtain ⟨t535, ht535, h⟩ := vw h
         refine p1 R 90 R (vy (f := 153) (A := iA t535) (xs := [.tmp 90]) («as» := [AggA [EqA (strV ((rd t403 x8).fName)), iA ((rd t403 x8).fLow), iA ((rd t403 x8).fHigh), SlcA kStr ((rd t403 x8).fNames)]]) R ca153 (ref04_attribute.con k (rd t403 x8) t535 ht535) R) <| av R R <| qx <| qw (env' := [(10, _), (8, _), (7, _)]) (.o2 R (.one R (.nil _))) <| qq <| sr <| mv R R <| pk R 92 R (qN R R) <| nt ?_
         refine qZ h R (fun hb536 h => ?_) (fun hb536 h => ?_)
         ·refine sr <| mv R R <| av R R <| nt <| vq <| vz <| qQ <| qQ <| vz <| qQ ?_
          cases h
          exact vW R R (.t R) (.id _)
         ·refine qB <| vZ <| qq <| qJ <| mv R R ?_
          obtain ⟨c537, h⟩ := qK h
          refine pk R 62 R (vK R c537) <| av R R <| qx ?_
          exact next1 () (x8 + 1) _ h (.o2 R (.nil _))
      ·refine W.exit <| qV <| qV <| vB <| qq <| sr <| ak R <| nt <| vq ?_
       cases h
       exact vW R R (.t R) (.id _)
    ·refine qJ <| fd R R fo92_3 R <| ld R R sh90 <| p1 R 44 R (vN R elS90) <| pk R 45 R (qN R R) <| mv R R ?_
     rcases bif_s h with ⟨hb538, h⟩ | ⟨hb538, h⟩
     ·refine sk R R R hb538 <| sk R R R hb538 <| sk R R R hb538 <| pk R 47 R (vQ R hb538) <| qx ?_
      exact qw (.o2 R (.one R (.nil _))) (Kj406 () true h)
     ·refine wm R R R hb538 R R <| wq R R R hb538 (.s 48 R .nil) (vN R elS90).o <| wq R R R hb538 (.s 49 R (.k .nil)) (qN R R).o <| p2 R 47 R 50 R (vj R hb538) <| qx ?_
      exact qw (.o2 R (.one R (.nil _))) (Kj406 () (decide ((t403.length : Int) > 8)) h)
theorem ref04_bound.con (k : Nat) (a0 : Int) (a1 : Int) (r : Bool) (h : ref04_bound k a0 a1 = some r) : Con Tryz.prog 154 [] [iA a0, iA a1] (RA (bA r)) := by
 unfold ref04_bound at h
 refine vJ (N := 16) Tryz.func154 R R R fun w0_ fg_ => sr <| ak R <| nt <| qX ?_
 refine W.jn1 (Γ := Unit) (fun (_ : Unit) (x4 : Bool) => [(4, bA x4)]) (fun (_ : Unit) (_ : Bool) => []) h (fun _ x4 h => ?_) (fun j105 Kj105 h => ?_)
 ·refine qq <| vq ?_
  cases h
  exact vW R R (.t R) (.id _)
 ·refine qJ <| mv R R ?_
  obtain ⟨t106, ht106, h⟩ := vw h
  refine WL.p R R R (.s 5 R (.k (.k .nil))) (vy (f := 140) (A := bA t106) (xs := [.tmp 5, .const (.int .i64 0), .const (.int .i64 40)]) («as» := [iA a0, iA 0, iA 40]) R ca140 (ref04_in.con k a0 0 40 t106 ht106) R) <| mv R R ?_
  rcases bif_s h with ⟨hb107, h⟩ | ⟨hb107, h⟩
  ·refine wm R R R hb107 R R <| wq R R R hb107 (.s 8 R (.k .nil)) (qN R R).o <| wm R R R hb107 R R ?_
   rcases bif_s h with ⟨hb108, h⟩ | ⟨hb108, h⟩
   ·refine sk R R R hb108 <| sk R R R hb108 <| sk R R R hb108 <| wq R R R hb107 (.s 10 R (.k .nil)) (vQ R hb108).o <| p2 R 7 R 14 R (vQ R hb107) <| av R R <| qx ?_
    exact qw (.one R (.nil _)) (Kj105 () true h)
   ·refine wm R R R hb108 R R <| wm R R R hb108 R R ?_
    obtain ⟨t109, ht109, h⟩ := vw h
    refine wq R R R hb108 (.s 11 R (.s 12 R (.k .nil))) (vy (f := 140) (A := bA t109) (xs := [.tmp 11, .tmp 12, .const (.int .i64 40)]) («as» := [iA a1, iA a0, iA 40]) R ca140 (ref04_in.con k a1 a0 40 t109 ht109) R).o <| wq R R R hb107 (.s 10 R (.s 13 R .nil)) (vj R hb108).o <| p2 R 7 R 14 R (vQ R hb107) <| av R R <| qx ?_
    exact qw (.one R (.nil _)) (Kj105 () t109 h)
  ·refine sk R R R hb107 <| sk R R R hb107 <| sk R R R hb107 <| su R R R <| su R R R <| su R R R <| sk R R R hb107 <| pk R 7 R (vj R hb107) <| av R R <| qx ?_
   exact qw (.one R (.nil _)) (Kj105 () false h)
theorem ref04_edge.con (k : Nat) (a0 : Types) (a1 : Int) (r : Int) (h : ref04_edge k a0 a1 = some r) : Con Tryz.prog 112 [] [AggA [SlcA kNodeType a0.fNodes, SlcA kEdgeType a0.fEdges], iA a1] (RA (iA r)) := by
 unfold ref04_edge at h
 refine vJ (N := 63) Tryz.func112 R R R fun w0_ fg_ => sr <| p1 R 0 R (q_box R (qy _)) <| ak R <| nx <| fd R R fo35_1 R <| ld R R sh33 <| mv R R ?_
 obtain ⟨c100, h⟩ := qK h
 refine p2 R 9 R 10 R (vX R el33 R c100.1 c100.2) <| lS R R sh97 R R <| WL.w [] R (qj R) R R .nil (w_alloc R z97 (l := [EqA (strV ([] : Str)), iA 0, iA 0, iA 0, iA 0, iA 0, iA 0]) R) ?_
 rintro _ _ ⟨b101, rfl, rfl⟩
 refine WL.w0 [0] R (qj R) R (.s 5 R (.s 12 R .nil)) (w_store (L := [EqA (strV ((rd a0.fEdges a1).fName)), iA ((rd a0.fEdges a1).fFrom), iA ((rd a0.fEdges a1).fTo), iA ((rd a0.fEdges a1).fOutLow), iA ((rd a0.fEdges a1).fOutHigh), iA ((rd a0.fEdges a1).fInLow), iA ((rd a0.fEdges a1).fInHigh)]) R sh97 (qy _) R R (leB R) R) ?_
 rintro _ _ ⟨rfl, rfl⟩
 refine qx <| QN.to (StTo.still [0] 5 R R) <| qw (env' := [(5, _), (2, _), (1, _)]) (.o2 R (.one R (.nil _))) <| qq <| qX <| sr <| fd R R fo97_0 R <| ld R R sh9 ?_
 obtain ⟨t102, ht102, h⟩ := vw h
 refine p1 R 14 R (vy (f := 152) (A := bA t102) (xs := [.tmp 14]) («as» := [EqA (strV ((rd a0.fEdges a1).fName))]) R ca152 (ref01_IsName.con k ((rd a0.fEdges a1).fName) t102 ht102) R) <| p1 R 15 R (q_not R) <| nt ?_
 refine qZ h R (fun hb103 h => ?_) (fun hb103 h => ?_)
 ·refine sr <| ak R <| qx <| qw (env' := [(4, _)]) (.one R (.nil _)) <| qq <| vq <| qQ ?_
  cases h
  exact vW R R (.t R) (.id _)
 ·refine qB <| qq <| qX <| sr <| ak R <| nt <| vx ?_
  refine W.loop1 (Γ := Unit) (fun (_ : Unit) (x6 : Int) => [(1, iA a1), (2, PtrA [SlcA kNodeType a0.fNodes, SlcA kEdgeType a0.fEdges]), (5, PtrA [EqA (strV ((rd a0.fEdges a1).fName)), iA ((rd a0.fEdges a1).fFrom), iA ((rd a0.fEdges a1).fTo), iA ((rd a0.fEdges a1).fOutLow), iA ((rd a0.fEdges a1).fOutHigh), iA ((rd a0.fEdges a1).fInLow), iA ((rd a0.fEdges a1).fInHigh)]), (6, iA x6)]) (fun (_ : Unit) (_ : Int) => []) h () (.o4 R (.nil _)) R (fun rec0 K0 next0 _ x6 h => ?_)
  unfold ref04_edge.b0 at h
  refine qX <| sr <| mv R R <| mv R R <| p2 R 17 R 18 R (qN R R) <| nt ?_
  refine qZ h R (fun hb152 h => ?_) (fun hb152 h => ?_)
  ·refine qB <| qq <| qX <| vx <| qX <| W.drawK [(0, false), (1, false), (2, false), (3, false), (4, false), (5, false), (6, false), (7, false), (8, false)] [] (bm [0, 1, 0, 7, 15, 31, 0, 64, 255]) mx (by kernel_rfl) <| df R R R fo35_1 R <| dl R R R sh33 <| dm R R R ?_
   obtain ⟨c155, h⟩ := qK h
   refine qz R R (.p R (.s 23 R (.s 24 R .nil)) R (vX R el33 R c155.1 c155.2)) <| df R R R fo97_0 R <| dl R R R sh9 <| df R R R fo97_0 R <| dl R R R sh9 <| qz R R (.p R (.s 27 R (.s 29 R .nil)) R (q_str (s := (rd a0.fEdges x6).fName) (t := (rd a0.fEdges a1).fName) R)) <| DK.nil <| CSteps.nil <| qw (env' := [(30, _), (6, _), (5, _), (2, _), (1, _)]) (.o4 R (.one R (.nil _))) <| qq ?_
   refine qZ h R (fun hb156 h => ?_) (fun hb156 h => ?_)
   ·refine sr <| ak R <| nt <| vq <| vz <| qQ <| qQ <| vz <| qQ ?_
    cases h
    exact vW R R (.t R) (.id _)
   ·refine qB <| vZ <| qq <| qJ <| mv R R ?_
    obtain ⟨c157, h⟩ := qK h
    refine pk R 20 R (vK R c157) <| av R R <| qx ?_
    exact next0 () (x6 + 1) _ h (.o4 R (.nil _))
  ·refine W.exit <| qV <| qV <| vB <| qq <| sr <| fd R R fo35_0 R <| ld R R sh32 <| p1 R 32 R (vN R elS32) ?_
   obtain ⟨c158, h⟩ := qK h
   refine pk R 33 R (q_subR R c158) <| av R R <| qx <| qw (env' := [(7, _), (5, _)]) (.o2 R (.nil _)) <| qq <| qX <| qX ?_
   refine W.jn1 (Γ := Unit) (fun (_ : Unit) (x62 : Bool) => [(62, bA x62)]) (fun (_ : Unit) (_ : Bool) => []) h (fun _ x62 h => ?_) (fun j167 Kj167 h => ?_)
   ·refine qq ?_
    refine qZ h R (fun hb168 h => ?_) (fun hb168 h => ?_)
    ·refine sr <| ak R <| nt <| vq <| qQ ?_
     cases h
     exact vW R R (.t R) (.id _)
    ·refine qB <| qq <| sr <| ak R <| nt <| vq ?_
     cases h
     exact vW R R (.t R) (.id _)
   ·refine qJ <| fd R R fo97_1 R <| ld R R sh3 <| mv R R ?_
    obtain ⟨t169, ht169, h⟩ := vw h
    refine WL.p R R R (.s 36 R (.k (.s 37 R .nil))) (vy (f := 140) (A := bA t169) (xs := [.tmp 36, .const (.int .i64 0), .tmp 37]) («as» := [iA ((rd a0.fEdges a1).fFrom), iA 0, iA ((a0.fNodes.length : Int) - 1)]) R ca140 (ref04_in.con k ((rd a0.fEdges a1).fFrom) 0 ((a0.fNodes.length : Int) - 1) t169 ht169) R) <| p1 R 38 R (q_not R) <| mv R R ?_
    rcases bif_s h with ⟨hb170, h⟩ | ⟨hb170, h⟩
    ·refine sk R R R hb170 <| sk R R R hb170 <| sk R R R hb170 <| sk R R R hb170 <| sk R R R hb170 <| pk R 40 R (vQ R hb170) <| mv R R <| sk R R R R <| sk R R R R <| sk R R R R <| sk R R R R <| sk R R R R <| sk R R R R ?_
     refine pk R 47 R (vQ R R) <| mv R R <| sk R R R R <| sk R R R R <| sk R R R R <| sk R R R R <| sk R R R R <| sk R R R R <| pk R 55 R (vQ R R) <| qx ?_
     exact qw (.one R (.nil _)) (Kj167 () true h)
    ·refine wf R R R hb170 R R fo97_2 R <| wl R R R hb170 R R sh3 <| wm R R R hb170 R R ?_
     obtain ⟨t171, ht171, h⟩ := vw h
     refine wq R R R hb170 (.s 42 R (.k (.s 43 R .nil))) (vy (f := 140) (A := bA t171) (xs := [.tmp 42, .const (.int .i64 0), .tmp 43]) («as» := [iA ((rd a0.fEdges a1).fTo), iA 0, iA ((a0.fNodes.length : Int) - 1)]) R ca140 (ref04_in.con k ((rd a0.fEdges a1).fTo) 0 ((a0.fNodes.length : Int) - 1) t171 ht171) R).o <| wq R R R hb170 (.s 44 R .nil) (q_not R).o <| p2 R 40 R 45 R (vj R hb170) <| mv R R ?_
     rcases bif_s h with ⟨hb172, h⟩ | ⟨hb172, h⟩
     ·refine sk R R R hb172 <| sk R R R hb172 <| sk R R R hb172 <| sk R R R hb172 <| sk R R R hb172 <| sk R R R hb172 <| pk R 47 R (vQ R hb172) <| mv R R <| sk R R R R <| sk R R R R <| sk R R R R <| sk R R R R <| sk R R R R ?_
      refine sk R R R R <| pk R 55 R (vQ R R) <| qx ?_
      exact qw (.one R (.nil _)) (Kj167 () true h)
     ·refine wf R R R hb172 R R fo97_3 R <| wl R R R hb172 R R sh3 <| wf R R R hb172 R R fo97_4 R <| wl R R R hb172 R R sh3 ?_
      obtain ⟨t173, ht173, h⟩ := vw h
      refine wq R R R hb172 (.s 49 R (.s 51 R .nil)) (vy (f := 154) (A := bA t173) (xs := [.tmp 49, .tmp 51]) («as» := [iA ((rd a0.fEdges a1).fOutLow), iA ((rd a0.fEdges a1).fOutHigh)]) R ca154 (ref04_bound.con k ((rd a0.fEdges a1).fOutLow) ((rd a0.fEdges a1).fOutHigh) t173 ht173) R).o <| wq R R R hb172 (.s 52 R .nil) (q_not R).o <| p2 R 47 R 53 R (vj R hb172) <| mv R R ?_
      rcases bif_s h with ⟨hb174, h⟩ | ⟨hb174, h⟩
      ·refine sk R R R hb174 <| sk R R R hb174 <| sk R R R hb174 <| sk R R R hb174 <| sk R R R hb174 <| sk R R R hb174 <| pk R 55 R (vQ R hb174) <| qx ?_
       exact qw (.one R (.nil _)) (Kj167 () true h)
      ·refine wf R R R hb174 R R fo97_5 R <| wl R R R hb174 R R sh3 <| wf R R R hb174 R R fo97_6 R <| wl R R R hb174 R R sh3 ?_
       obtain ⟨t175, ht175, h⟩ := vw h
       refine wq R R R hb174 (.s 57 R (.s 59 R .nil)) (vy (f := 154) (A := bA t175) (xs := [.tmp 57, .tmp 59]) («as» := [iA ((rd a0.fEdges a1).fInLow), iA ((rd a0.fEdges a1).fInHigh)]) R ca154 (ref04_bound.con k ((rd a0.fEdges a1).fInLow) ((rd a0.fEdges a1).fInHigh) t175 ht175) R).o <| wq R R R hb174 (.s 60 R .nil) (q_not R).o <| p2 R 55 R 61 R (vj R hb174) <| qx ?_
       exact qw (.one R (.nil _)) (Kj167 () (!t175) h)
theorem ref04_Valid.con (k : Nat) (a0 : Types) (r : (Str × Int)) (h : ref04_Valid k a0 = some r) : Con Tryz.prog 58 [] [AggA [SlcA kNodeType a0.fNodes, SlcA kEdgeType a0.fEdges]] (RA (TupA [EqA (strV r.1), iA r.2])) := by
 unfold ref04_Valid at h
 refine vJ (N := 60) Tryz.func58 R R R fun w0_ fg_ => sr <| p1 R 0 R (q_box R (qy _)) <| ak R <| ak R <| nt <| qX <| sr <| fd R R fo35_0 R <| ld R R sh32 ?_
 refine p1 R 9 R (vN R elS32) <| pk R 10 R (qN R R) <| nt ?_
 refine qZ h R (fun hb100 h => ?_) (fun hb100 h => ?_)
 ·refine sr <| ak R <| ak R <| nt <| vq <| qQ ?_
  cases h
  exact QR.f2 R R (.t R) (.t R) (.id _)
 ·refine qB <| qw (env' := [(1, _)]) (.one R (.nil _)) <| qq <| qX <| qX ?_
  refine W.jn1 (Γ := Unit) (fun (_ : Unit) (x21 : Bool) => [(1, PtrA [SlcA kNodeType a0.fNodes, SlcA kEdgeType a0.fEdges]), (21, bA x21)]) (fun (_ : Unit) (_ : Bool) => []) h (fun _ x21 h => ?_) (fun j103 Kj103 h => ?_)
  ·refine qq ?_
   refine qZ h R (fun hb104 h => ?_) (fun hb104 h => ?_)
   ·refine sr <| ak R <| ak R <| nt <| vq <| qQ ?_
    cases h
    exact QR.f2 R R (.t R) (.t R) (.id _)
   ·refine qB <| qq <| qX <| sr <| ak R <| nt <| vx ?_
    refine W.loop1 (Γ := Unit) (fun (_ : Unit) (x4 : Int) => [(1, PtrA [SlcA kNodeType a0.fNodes, SlcA kEdgeType a0.fEdges]), (4, iA x4)]) (fun (_ : Unit) (_ : Int) => []) h () (.o2 R (.nil _)) R (fun rec0 K0 next0 _ x4 h => ?_)
    unfold ref04_Valid.b0 at h
    refine qX <| sr <| mv R R <| fd R R fo35_0 R <| ld R R sh32 <| p1 R 24 R (vN R elS32) <| p2 R 22 R 25 R (qN R R) <| nt ?_
    refine qZ h R (fun hb145 h => ?_) (fun hb145 h => ?_)
    ·refine qB <| qq <| qX <| vx <| sr <| lS R R sh35 R R <| mv R R ?_
     obtain ⟨t146, ht146, h⟩ := vw h
     refine p2 R 29 R 30 R (vy (f := 111) (A := iA t146) (xs := [.tmp 29, .tmp 30]) («as» := [AggA [SlcA kNodeType a0.fNodes, SlcA kEdgeType a0.fEdges], iA x4]) R ca111 (ref04_node.con k a0 x4 t146 ht146) R) <| av R R <| qx <| qw (env' := [(5, _), (4, _), (1, _)]) (.o2 R (.one R (.nil _))) <| qq <| sr <| mv R R <| pk R 32 R (qN R R) <| nt ?_
     refine qZ h R (fun hb147 h => ?_) (fun hb147 h => ?_)
     ·refine sr <| fd R R fo35_0 R <| ld R R sh32 <| mv R R ?_
      obtain ⟨c148, h⟩ := qK h
      refine p2 R 35 R 36 R (vX R el32 R c148.1 c148.2) <| fd R R fo92_0 R <| ld R R sh9 <| mv R R <| av R R <| av R R <| qx <| qw (env' := [(3, _), (2, _)]) (.o2 R (.nil _)) <| qq <| vq <| vz <| qQ <| qQ ?_
      refine vz <| qQ ?_
      cases h
      exact QR.f2 R R (.t R) (.t R) (.id _)
     ·refine qB <| vZ <| qq <| qJ <| mv R R ?_
      obtain ⟨c149, h⟩ := qK h
      refine pk R 27 R (vK R c149) <| av R R <| qx ?_
      exact next0 () (x4 + 1) _ h (.o2 R (.nil _))
    ·refine W.exit <| qV <| qV <| vB <| qq <| qX <| sr <| ak R <| nt <| vx ?_
     refine W.loop1 (Γ := Unit) (fun (_ : Unit) (x6 : Int) => [(1, PtrA [SlcA kNodeType a0.fNodes, SlcA kEdgeType a0.fEdges]), (6, iA x6)]) (fun (_ : Unit) (_ : Int) => []) h () (.o2 R (.nil _)) R (fun rec1 K1 next1 _ x6 h => ?_)
     unfold ref04_Valid.b1 at h
     refine qX <| sr <| mv R R <| fd R R fo35_1 R <| ld R R sh33 <| p1 R 43 R (vN R elS33) <| p2 R 41 R 44 R (qN R R) <| nt ?_
     refine qZ h R (fun hb160 h => ?_) (fun hb160 h => ?_)
     ·refine qB <| qq <| qX <| vx <| sr <| lS R R sh35 R R <| mv R R ?_
      obtain ⟨t161, ht161, h⟩ := vw h
      refine p2 R 48 R 49 R (vy (f := 112) (A := iA t161) (xs := [.tmp 48, .tmp 49]) («as» := [AggA [SlcA kNodeType a0.fNodes, SlcA kEdgeType a0.fEdges], iA x6]) R ca112 (ref04_edge.con k a0 x6 t161 ht161) R) <| av R R <| qx <| qw (env' := [(7, _), (6, _), (1, _)]) (.o2 R (.one R (.nil _))) <| qq <| sr <| mv R R <| pk R 51 R (qN R R) <| nt ?_
      refine qZ h R (fun hb162 h => ?_) (fun hb162 h => ?_)
      ·refine sr <| fd R R fo35_1 R <| ld R R sh33 <| mv R R ?_
       obtain ⟨c163, h⟩ := qK h
       refine p2 R 54 R 55 R (vX R el33 R c163.1 c163.2) <| fd R R fo97_0 R <| ld R R sh9 <| mv R R <| av R R <| av R R <| qx <| qw (env' := [(3, _), (2, _)]) (.o2 R (.nil _)) <| qq <| vq <| vz <| qQ <| qQ ?_
       refine vz <| qQ ?_
       cases h
       exact QR.f2 R R (.t R) (.t R) (.id _)
      ·refine qB <| vZ <| qq <| qJ <| mv R R ?_
       obtain ⟨c164, h⟩ := qK h
       refine pk R 46 R (vK R c164) <| av R R <| qx ?_
       exact next1 () (x6 + 1) _ h (.o2 R (.nil _))
     ·refine W.exit <| qV <| qV <| vB <| qw (env' := []) (.nil _) <| qq <| sr <| ak R <| ak R <| nt <| vq ?_
      cases h
      exact QR.f2 R R (.t R) (.t R) (.id _)
  ·refine qJ <| fd R R fo35_0 R <| ld R R sh32 <| p1 R 13 R (vN R elS32) <| pk R 14 R (qN R R) <| mv R R ?_
   rcases bif_s h with ⟨hb165, h⟩ | ⟨hb165, h⟩
   ·refine sk R R R hb165 <| sk R R R hb165 <| sk R R R hb165 <| sk R R R hb165 <| pk R 16 R (vQ R hb165) <| qx ?_
    exact qw (.o2 R (.nil _)) (Kj103 () true h)
   ·refine wf R R R hb165 R R fo35_1 R <| wl R R R hb165 R R sh33 <| wq R R R hb165 (.s 18 R .nil) (vN R elS33).o <| wq R R R hb165 (.s 19 R (.k .nil)) (qN R R).o <| p2 R 16 R 20 R (vj R hb165) <| qx ?_
    exact qw (.o2 R (.nil _)) (Kj103 () (decide ((a0.fEdges.length : Int) > 20)) h)
theorem ref05_kind.con (k : Nat) (a0 : Int) (r : Bool) (h : ref05_kind k a0 = some r) : Con Tryz.prog 113 [] [iA a0] (RA (bA r)) := by
 unfold ref05_kind at h
 refine vJ (N := 9) Tryz.func113 R R R fun w0_ fg_ => sr <| ak R <| nt <| qX ?_
 refine W.jn1 (Γ := Unit) (fun (_ : Unit) (x2 : Bool) => [(2, bA x2)]) (fun (_ : Unit) (_ : Bool) => []) h (fun _ x2 h => ?_) (fun j102 Kj102 h => ?_)
 ·refine qq <| vq ?_
  cases h
  exact vW R R (.t R) (.id _)
 ·refine qJ <| mv R R <| pk R 3 R (qN R R) <| mv R R ?_
  rcases bif_s h with ⟨hb103, h⟩ | ⟨hb103, h⟩
  ·refine wm R R R hb103 R R <| wq R R R hb103 (.s 6 R (.k .nil)) (qN R R).o <| p2 R 5 R 7 R (vQ R hb103) <| av R R <| qx ?_
   exact qw (.one R (.nil _)) (Kj102 () (decide (a0 ≤ 99)) h)
  ·refine sk R R R hb103 <| sk R R R hb103 <| pk R 5 R (vj R hb103) <| av R R <| qx ?_
   exact qw (.one R (.nil _)) (Kj102 () false h)
theorem ref05_right.con (k : Nat) (a0 : Edge) (a1 : Int) (r : Bool) (h : ref05_right k a0 a1 = some r) : Con Tryz.prog 114 [] [AggA [iA a0.fType, iA a0.fFrom, iA a0.fTo], iA a1] (RA (bA r)) := by
 unfold ref05_right at h
 refine vJ (N := 30) Tryz.func114 R R R fun w0_ fg_ => sr <| p1 R 0 R (q_box R (qy _)) <| ak R <| nt <| qX ?_
 refine W.jn1 (Γ := Unit) (fun (_ : Unit) (x4 : Bool) => [(4, bA x4)]) (fun (_ : Unit) (_ : Bool) => []) h (fun _ x4 h => ?_) (fun j106 Kj106 h => ?_)
 ·refine qq <| vq ?_
  cases h
  exact vW R R (.t R) (.id _)
 ·refine qJ <| fd R R fo109_0 R <| ld R R sh3 ?_
  obtain ⟨t107, ht107, h⟩ := vw h
  refine p1 R 6 R (vy (f := 113) (A := bA t107) (xs := [.tmp 6]) («as» := [iA a0.fType]) R ca113 (ref05_kind.con k a0.fType t107 ht107) R) <| mv R R ?_
  rcases bif_s h with ⟨hb108, h⟩ | ⟨hb108, h⟩
  ·refine wf R R R hb108 R R fo109_1 R <| wl R R R hb108 R R sh3 <| wq R R R hb108 (.s 10 R (.k .nil)) (qN R R).o <| p2 R 8 R 11 R (vQ R hb108) <| mv R R ?_
   rcases bif_s h with ⟨hb109, h⟩ | ⟨hb109, h⟩
   ·refine wf R R R hb109 R R fo109_1 R <| wl R R R hb109 R R sh3 <| wm R R R hb109 R R <| wq R R R hb109 (.s 15 R (.s 16 R .nil)) (qN R R).o <| p2 R 13 R 17 R (vQ R hb109) <| mv R R ?_
    rcases bif_s h with ⟨hb110, h⟩ | ⟨hb110, h⟩
    ·refine wf R R R hb110 R R fo109_2 R <| wl R R R hb110 R R sh3 <| wq R R R hb110 (.s 21 R (.k .nil)) (qN R R).o <| p2 R 19 R 22 R (vQ R hb110) <| mv R R ?_
     rcases bif_s h with ⟨hb111, h⟩ | ⟨hb111, h⟩
     ·refine wf R R R hb111 R R fo109_2 R <| wl R R R hb111 R R sh3 <| wm R R R hb111 R R <| wq R R R hb111 (.s 26 R (.s 27 R .nil)) (qN R R).o <| p2 R 24 R 28 R (vQ R hb111) <| av R R <| qx ?_
      exact qw (.one R (.nil _)) (Kj106 () (decide (a0.fTo < a1)) h)
     ·refine sk R R R hb111 <| sk R R R hb111 <| sk R R R hb111 <| sk R R R hb111 <| pk R 24 R (vj R hb111) <| av R R <| qx ?_
      exact qw (.one R (.nil _)) (Kj106 () false h)
    ·refine sk R R R hb110 <| sk R R R hb110 <| sk R R R hb110 <| pk R 19 R (vj R hb110) <| mv R R <| sk R R R R <| sk R R R R <| sk R R R R <| sk R R R R <| pk R 24 R (vj R R) <| av R R <| qx ?_
     exact qw (.one R (.nil _)) (Kj106 () false h)
   ·refine sk R R R hb109 <| sk R R R hb109 <| sk R R R hb109 <| sk R R R hb109 <| pk R 13 R (vj R hb109) <| mv R R <| sk R R R R <| sk R R R R <| sk R R R R <| pk R 19 R (vj R R) <| mv R R <| sk R R R R <| sk R R R R ?_
    refine sk R R R R <| sk R R R R <| pk R 24 R (vj R R) <| av R R <| qx ?_
    exact qw (.one R (.nil _)) (Kj106 () false h)
  ·refine sk R R R hb108 <| sk R R R hb108 <| sk R R R hb108 <| pk R 8 R (vj R hb108) <| mv R R <| sk R R R R <| sk R R R R <| sk R R R R <| sk R R R R <| pk R 13 R (vj R R) <| mv R R <| sk R R R R <| sk R R R R ?_
   refine sk R R R R <| pk R 19 R (vj R R) <| mv R R <| sk R R R R <| sk R R R R <| sk R R R R <| sk R R R R <| pk R 24 R (vj R R) <| av R R <| qx ?_
   exact qw (.one R (.nil _)) (Kj106 () false h)
theorem ref05_Valid.con (k : Nat) (a0 : Graph) (r : Int) (h : ref05_Valid k a0 = some r) : Con Tryz.prog 59 [] [AggA [SlcA kInt a0.fNodes, SlcA kEdge a0.fEdges]] (RA (iA r)) := by
 unfold ref05_Valid at h
 refine vJ (N := 46) Tryz.func59 R R R fun w0_ fg_ => sr <| p1 R 0 R (q_box R (qy _)) <| ak R <| nt <| qX <| qX ?_
 refine W.jn1 (Γ := Unit) (fun (_ : Unit) (x14 : Bool) => [(1, PtrA [SlcA kInt a0.fNodes, SlcA kEdge a0.fEdges]), (14, bA x14)]) (fun (_ : Unit) (_ : Bool) => []) h (fun _ x14 h => ?_) (fun j102 Kj102 h => ?_)
 ·refine qq ?_
  refine qZ h R (fun hb103 h => ?_) (fun hb103 h => ?_)
  ·refine sr <| ak R <| nt <| vq <| qQ ?_
   cases h
   exact vW R R (.t R) (.id _)
  ·refine qB <| qq <| qX <| sr <| ak R <| nt <| vx ?_
   refine W.loop1 (Γ := Unit) (fun (_ : Unit) (x3 : Int) => [(1, PtrA [SlcA kInt a0.fNodes, SlcA kEdge a0.fEdges]), (3, iA x3)]) (fun (_ : Unit) (_ : Int) => []) h () (.o2 R (.nil _)) R (fun rec0 K0 next0 _ x3 h => ?_)
   unfold ref05_Valid.b0 at h
   refine qX <| sr <| mv R R <| fd R R fo38_0 R <| ld R R sh26 <| p1 R 17 R (vN R elS26) <| p2 R 15 R 18 R (qN R R) <| nt ?_
   refine qZ h R (fun hb168 h => ?_) (fun hb168 h => ?_)
   ·refine qB <| qq <| qX <| vx <| sr <| fd R R fo38_0 R <| ld R R sh26 <| mv R R ?_
    obtain ⟨c169, h⟩ := qK h
    refine p2 R 23 R 24 R (vX R el26 R c169.1 c169.2) <| ld R R sh3 ?_
    obtain ⟨t170, ht170, h⟩ := vw h
    refine p1 R 26 R (vy (f := 113) (A := bA t170) (xs := [.tmp 26]) («as» := [iA (rd a0.fNodes x3)]) R ca113 (ref05_kind.con k (rd a0.fNodes x3) t170 ht170) R) <| p1 R 27 R (q_not R) <| qx <| qw (env' := [(28, _), (3, _), (1, _)]) (.o2 R (.one R (.nil _))) <| qq ?_
    refine qZ h R (fun hb171 h => ?_) (fun hb171 h => ?_)
    ·refine sr <| ak R <| nt <| vq <| vz <| qQ <| qQ <| vz <| qQ ?_
     cases h
     exact vW R R (.t R) (.id _)
    ·refine qB <| vZ <| qq <| qJ <| mv R R ?_
     obtain ⟨c172, h⟩ := qK h
     refine pk R 20 R (vK R c172) <| av R R <| qx ?_
     exact next0 () (x3 + 1) _ h (.o2 R (.nil _))
   ·refine W.exit <| qV <| qV <| vB <| qq <| qX <| sr <| ak R <| nt <| vx ?_
    refine W.loop1 (Γ := Unit) (fun (_ : Unit) (x4 : Int) => [(1, PtrA [SlcA kInt a0.fNodes, SlcA kEdge a0.fEdges]), (4, iA x4)]) (fun (_ : Unit) (_ : Int) => []) h () (.o2 R (.nil _)) R (fun rec1 K1 next1 _ x4 h => ?_)
    unfold ref05_Valid.b1 at h
    refine qX <| sr <| mv R R <| fd R R fo38_1 R <| ld R R sh36 <| p1 R 31 R (vN R elS36) <| p2 R 29 R 32 R (qN R R) <| nt ?_
    refine qZ h R (fun hb191 h => ?_) (fun hb191 h => ?_)
    ·refine qB <| qq <| qX <| vx <| qX <| W.drawK [(0, false), (1, false), (2, false), (3, false), (4, false), (5, false), (6, false), (7, false), (8, false), (9, false)] [] (bm [0, 1, 0, 7, 15, 0, 32, 96, 255, 511]) mx (by kernel_rfl) <| df R R R fo38_1 R <| dl R R R sh36 <| dm R R R ?_
     obtain ⟨c196, h⟩ := qK h
     refine qz R R (.p R (.s 37 R (.s 38 R .nil)) R (vX R el36 R c196.1 c196.2)) <| qz R R (.p R (.s 39 R .nil) R (q_loadS R sh109 (leB R) R)) <| df R R R fo38_0 R <| dl R R R sh26 <| qz R R (.p R (.s 42 R .nil) R (vN R elS26)) ?_
     obtain ⟨t197, ht197, h⟩ := vw h
     refine qz R R (.p R (.s 40 R (.s 43 R .nil)) R (vy (f := 114) (A := bA t197) (xs := [.tmp 40, .tmp 43]) («as» := [AggA [iA ((rd a0.fEdges x4).fType), iA ((rd a0.fEdges x4).fFrom), iA ((rd a0.fEdges x4).fTo)], iA (a0.fNodes.length : Int)]) R ca114 (ref05_right.con k (rd a0.fEdges x4) (a0.fNodes.length : Int) t197 ht197) R)) <| qz R R (.p R (.s 44 R .nil) R (q_not R)) <| DK.nil <| CSteps.nil <| qw (env' := [(45, _), (4, _), (1, _)]) (.o2 R (.one R (.nil _))) <| qq ?_
     refine qZ h R (fun hb198 h => ?_) (fun hb198 h => ?_)
     ·refine sr <| ak R <| nt <| vq <| vz <| qQ <| qQ <| vz <| qQ ?_
      cases h
      exact vW R R (.t R) (.id _)
     ·refine qB <| vZ <| qq <| qJ <| mv R R ?_
      obtain ⟨c199, h⟩ := qK h
      refine pk R 34 R (vK R c199) <| av R R <| qx ?_
      exact next1 () (x4 + 1) _ h (.o2 R (.nil _))
    ·refine W.exit <| qV <| qV <| vB <| qw (env' := []) (.nil _) <| qq <| sr <| ak R <| nt <| vq ?_
     cases h
     exact vW R R (.t R) (.id _)
 ·refine qJ <| fd R R fo38_0 R <| ld R R sh26 <| p1 R 6 R (vN R elS26) <| pk R 7 R (qN R R) <| mv R R ?_
  rcases bif_s h with ⟨hb200, h⟩ | ⟨hb200, h⟩
  ·refine sk R R R hb200 <| sk R R R hb200 <| sk R R R hb200 <| sk R R R hb200 <| pk R 9 R (vQ R hb200) <| qx ?_
   exact qw (.o2 R (.nil _)) (Kj102 () true h)
  ·refine wf R R R hb200 R R fo38_1 R <| wl R R R hb200 R R sh36 <| wq R R R hb200 (.s 11 R .nil) (vN R elS36).o <| wq R R R hb200 (.s 12 R (.k .nil)) (qN R R).o <| p2 R 9 R 13 R (vj R hb200) <| qx ?_
   exact qw (.o2 R (.nil _)) (Kj102 () (decide ((a0.fEdges.length : Int) > 80)) h)
theorem ref17_Typed.con (k : Nat) (a0 : Types) (a1 : Graph) (r : Bool) (h : ref17_Typed k a0 a1 = some r) : Con Tryz.prog 60 [] [AggA [SlcA kNodeType a0.fNodes, SlcA kEdgeType a0.fEdges], AggA [SlcA kInt a1.fNodes, SlcA kEdge a1.fEdges]] (RA (bA r)) := by
 unfold ref17_Typed at h
 refine vJ (N := 57) Tryz.func60 R R R fun w0_ fg_ => sr <| p1 R 0 R (q_box R (qy _)) <| p1 R 1 R (q_box R (qy _)) <| ak R <| nt <| qX <| sr <| ak R <| qx ?_
 refine qq <| vx ?_
 refine W.loop1 (Γ := Unit) (fun (_ : Unit) (x5 : Int) => [(2, PtrA [SlcA kNodeType a0.fNodes, SlcA kEdgeType a0.fEdges]), (3, PtrA [SlcA kInt a1.fNodes, SlcA kEdge a1.fEdges]), (5, iA x5)]) (fun (_ : Unit) (_ : Int) => []) h () (.o2 R (.one R (.nil _))) R (fun rec0 K0 next0 _ x5 h => ?_)
 unfold ref17_Typed.b0 at h
 refine qX <| sr <| mv R R <| fd R R fo38_0 R <| ld R R sh26 <| p1 R 9 R (vN R elS26) <| p2 R 7 R 10 R (qN R R) <| nt ?_
 refine qZ h R (fun hb212 h => ?_) (fun hb212 h => ?_)
 ·refine qB <| qq <| qX <| vx <| qX ?_
  refine W.jn1 (Γ := Unit) (fun (_ : Unit) (x30 : Bool) => [(2, PtrA [SlcA kNodeType a0.fNodes, SlcA kEdgeType a0.fEdges]), (3, PtrA [SlcA kInt a1.fNodes, SlcA kEdge a1.fEdges]), (5, iA x5), (30, bA x30)]) (fun (_ : Unit) (_ : Bool) => []) h (fun _ x30 h => ?_) (fun j220 Kj220 h => ?_)
  ·refine qq ?_
   refine qZ h R (fun hb221 h => ?_) (fun hb221 h => ?_)
   ·refine sr <| ak R <| nt <| vq <| vz <| qQ <| qQ <| vz <| qQ ?_
    cases h
    exact vW R R (.t R) (.id _)
   ·refine qB <| vZ <| qq <| qJ <| mv R R ?_
    obtain ⟨c222, h⟩ := qK h
    refine pk R 12 R (vK R c222) <| av R R <| qx ?_
    exact next0 () (x5 + 1) _ h (.o2 R (.one R (.nil _)))
  ·refine W.drawK [(0, false), (1, false), (2, false), (3, false), (4, false), (5, false), (6, false), (7, false), (8, false), (9, false), (10, false), (11, false), (12, false), (13, false), (14, false), (15, false), (16, false)] [] (bm [0, 1, 0, 7, 15, 31, 63, 127, 255, 127, 1023, 2047, 127, 4223, 12415, 32767, 65535]) mx (by kernel_rfl) <| df R R R fo38_0 R <| dl R R R sh26 <| dm R R R ?_
   obtain ⟨c223, h⟩ := qK h
   refine qz R R (.p R (.s 15 R (.s 16 R .nil)) R (vX R el26 R c223.1 c223.2)) <| dl R R R sh3 <| qz R R (.p R (.s 18 R (.k .nil)) R (qN R R)) <| dm R R R ?_
   rcases bif_s h with ⟨hb224, h⟩ | ⟨hb224, h⟩
   ·refine dx R R R hb224 <| dx R R R hb224 <| dx R R R hb224 <| dx R R R hb224 <| dx R R R hb224 <| dx R R R hb224 <| dx R R R hb224 <| dx R R R hb224 <| dx R R R hb224 <| qz R R (.p R (.s 20 R (.k .nil)) R (vQ R hb224)) <| DK.nil <| CSteps.nil ?_
    exact qw (.o4 R (.nil _)) (Kj220 () true h)
   ·refine qz R R (.gp R R R hb224 (.s 3 R .nil) R (q_field R fo38_0 R)) <| qz R R (.gp R R R hb224 (.s 21 R .nil) R (q_load R sh26)) <| qz R R (.gp R R R hb224 (.s 5 R .nil) R (q_move R)) ?_
    obtain ⟨c225, h⟩ := qK h
    refine qz R R (.gp R R R hb224 (.s 22 R (.s 23 R .nil)) R (vX R el26 R c225.1 c225.2)) <| qz R R (.gp R R R hb224 (.s 24 R .nil) R (q_load R sh3)) <| qz R R (.gp R R R hb224 (.s 2 R .nil) R (q_field R fo35_0 R)) <| qz R R (.gp R R R hb224 (.s 26 R .nil) R (q_load R sh32)) <| qz R R (.gp R R R hb224 (.s 27 R .nil) R (vN R elS32)) <| qz R R (.gp R R R hb224 (.s 25 R (.s 28 R .nil)) R (qN R R)) <| qz R R (.p R (.s 20 R (.s 29 R .nil)) R (vj R hb224)) <| DK.nil <| CSteps.nil ?_
    exact qw (.o4 R (.nil _)) (Kj220 () (decide ((rd a1.fNodes x5) ≥ (a0.fNodes.length : Int))) h)
 ·refine W.exit <| qV <| qV <| vB <| qq <| qX <| sr <| ak R <| nt <| vx ?_
  refine W.loop1 (Γ := Unit) (fun (_ : Unit) (x6 : Int) => [(2, PtrA [SlcA kNodeType a0.fNodes, SlcA kEdgeType a0.fEdges]), (3, PtrA [SlcA kInt a1.fNodes, SlcA kEdge a1.fEdges]), (6, iA x6)]) (fun (_ : Unit) (_ : Int) => []) h () (.o2 R (.one R (.nil _))) R (fun rec1 K1 next1 _ x6 h => ?_)
  unfold ref17_Typed.b1 at h
  refine qX <| sr <| mv R R <| fd R R fo38_1 R <| ld R R sh36 <| p1 R 33 R (vN R elS36) <| p2 R 31 R 34 R (qN R R) <| nt ?_
  refine qZ h R (fun hb254 h => ?_) (fun hb254 h => ?_)
  ·refine qB <| qq <| qX <| vx <| qX ?_
   refine W.jn1 (Γ := Unit) (fun (_ : Unit) (x56 : Bool) => [(2, PtrA [SlcA kNodeType a0.fNodes, SlcA kEdgeType a0.fEdges]), (3, PtrA [SlcA kInt a1.fNodes, SlcA kEdge a1.fEdges]), (6, iA x6), (56, bA x56)]) (fun (_ : Unit) (_ : Bool) => []) h (fun _ x56 h => ?_) (fun j262 Kj262 h => ?_)
   ·refine qq ?_
    refine qZ h R (fun hb263 h => ?_) (fun hb263 h => ?_)
    ·refine sr <| ak R <| nt <| vq <| vz <| qQ <| qQ <| vz <| qQ ?_
     cases h
     exact vW R R (.t R) (.id _)
    ·refine qB <| vZ <| qq <| qJ <| mv R R ?_
     obtain ⟨c264, h⟩ := qK h
     refine pk R 36 R (vK R c264) <| av R R <| qx ?_
     exact next1 () (x6 + 1) _ h (.o2 R (.one R (.nil _)))
   ·refine W.drawK [(0, false), (1, false), (2, false), (3, false), (4, false), (5, false), (6, false), (7, false), (8, false), (9, false), (10, false), (11, false), (12, false), (13, false), (14, false), (15, false), (16, false), (17, false), (18, false)] [] (bm [0, 1, 0, 7, 15, 31, 63, 127, 255, 511, 255, 2047, 4095, 8191, 255, 16639, 49407, 131071, 262143]) mx (by kernel_rfl) <| df R R R fo38_1 R <| dl R R R sh36 <| dm R R R ?_
    obtain ⟨c265, h⟩ := qK h
    refine qz R R (.p R (.s 39 R (.s 40 R .nil)) R (vX R el36 R c265.1 c265.2)) <| df R R R fo109_0 R <| dl R R R sh3 <| qz R R (.p R (.s 43 R (.k .nil)) R (qN R R)) <| dm R R R ?_
    rcases bif_s h with ⟨hb266, h⟩ | ⟨hb266, h⟩
    ·refine dx R R R hb266 <| dx R R R hb266 <| dx R R R hb266 <| dx R R R hb266 <| dx R R R hb266 <| dx R R R hb266 <| dx R R R hb266 <| dx R R R hb266 <| dx R R R hb266 <| dx R R R hb266 <| qz R R (.p R (.s 45 R (.k .nil)) R (vQ R hb266)) <| DK.nil <| CSteps.nil ?_
     exact qw (.o4 R (.nil _)) (Kj262 () true h)
    ·refine qz R R (.gp R R R hb266 (.s 3 R .nil) R (q_field R fo38_1 R)) <| qz R R (.gp R R R hb266 (.s 46 R .nil) R (q_load R sh36)) <| qz R R (.gp R R R hb266 (.s 6 R .nil) R (q_move R)) ?_
     obtain ⟨c267, h⟩ := qK h
     refine qz R R (.gp R R R hb266 (.s 47 R (.s 48 R .nil)) R (vX R el36 R c267.1 c267.2)) <| qz R R (.gp R R R hb266 (.s 49 R .nil) R (q_field R fo109_0 R)) <| qz R R (.gp R R R hb266 (.s 50 R .nil) R (q_load R sh3)) <| qz R R (.gp R R R hb266 (.s 2 R .nil) R (q_field R fo35_1 R)) <| qz R R (.gp R R R hb266 (.s 52 R .nil) R (q_load R sh33)) <| qz R R (.gp R R R hb266 (.s 53 R .nil) R (vN R elS33)) <| qz R R (.gp R R R hb266 (.s 51 R (.s 54 R .nil)) R (qN R R)) <| qz R R (.p R (.s 45 R (.s 55 R .nil)) R (vj R hb266)) <| DK.nil <| CSteps.nil ?_
     exact qw (.o4 R (.nil _)) (Kj262 () (decide ((rd a1.fEdges x6).fType ≥ (a0.fEdges.length : Int))) h)
  ·refine W.exit <| qV <| qV <| vB <| qw (env' := []) (.nil _) <| qq <| sr <| ak R <| nt <| vq ?_
   cases h
   exact vW R R (.t R) (.id _)
end Go.Proofs.YtcgdfjpeboiioaaGreat
