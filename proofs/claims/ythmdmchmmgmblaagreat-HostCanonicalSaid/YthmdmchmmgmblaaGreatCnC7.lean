/- The Go functions compute the pure ones. (Printed by gen.py.) -/
import Derived.Test.YthmdmchmmgmblaaGreatCnC6
namespace Go.Proofs.YthmdmchmmgmblaaGreat
open Go Go.Abs
attribute [local irreducible] Tryz.prog
theorem ref01_Right.con (k : Nat) (a0 : Token) (r : Bool) (h : ref01_Right k a0 = some r) : Con Tryz.prog 156 [] [AggA [iA a0.fKind, EqA (strV a0.fText), iA a0.fLine]] (RA (bA r)) := by
 unfold ref01_Right at h
 refine Con.of (N := 32) Tryz.func156 rfl rfl rfl fun w0_ fg_ => sr <| p1 rfl 0 rfl (q_box rfl (CellsOf.agg _)) <| ak rfl <| nx <| lS rfl rfl sh185 rfl rfl ?_
 obtain ⟨t100, ht100, h⟩ := bind_s h
 refine p1 rfl 7 rfl (q_call (f := 169) (A := EqA (strV t100)) (xs := [.tmp 7]) («as» := [AggA [iA a0.fKind, EqA (strV a0.fText), iA a0.fLine]]) rfl ca169 (ref01_text.con k a0 t100 ht100) rfl) <| av rfl rfl <| nt <| W.seq <| sr <| mv rfl rfl <| pk rfl 9 rfl (q_str (s := t100) (t := ([] : Str)) rfl) <| nt ?_
 refine W.condP h rfl (fun hb101 h => ?_) (fun hb101 h => ?_)
 ·refine sr <| ak rfl <| WL.nil <| QN.weaken (env' := [(2, _)]) (.one rfl (.nil _)) <| QN.then_ <| W.ret <| QR.then_ ?_
  cases h
  exact QR.f1 rfl rfl (.t rfl) (.id _)
 ·refine W.skip <| QN.then_ <| sr <| mv rfl rfl ?_
  obtain ⟨t102, ht102, h⟩ := bind_s h
  refine pk rfl 12 rfl (q_call (f := 170) (A := TupA [AggA [iA t102.1.fKind, EqA (strV t102.1.fText), iA t102.1.fLine], iA t102.2.1, iA t102.2.2]) (xs := [.tmp 12, .const (.int .i64 0)]) («as» := [EqA (strV t100), iA 0]) rfl ca170 (ref01_one.con k t100 0 t102 ht102) rfl) <| mv rfl rfl <| p1 rfl 11 rfl (q_extract rfl rfl) <| p1 rfl 11 rfl (q_extract rfl rfl) <| p1 rfl 11 rfl (q_extract rfl rfl) <| WL.w [] rfl (Wanted.plain rfl) rfl rfl .nil (w_alloc rfl z185 (l := [iA 0, EqA (strV ([] : Str)), iA 0]) rfl) ?_
  rintro _ _ ⟨b103, rfl, rfl⟩
  refine WL.w0 [0] rfl (Wanted.plain rfl) rfl (.s 4 rfl (.s 14 rfl .nil)) (w_store (L := [iA t102.1.fKind, EqA (strV t102.1.fText), iA t102.1.fLine]) rfl sh185 (CellsOf.agg _) rfl rfl (leB rfl) rfl) ?_
  rintro _ _ ⟨rfl, rfl⟩
  refine av rfl rfl <| av rfl rfl <| WL.nil <| QN.to (StTo.still [0] 4 rfl rfl) <| QN.weaken (env' := [(6, _), (5, _), (4, _), (3, _), (1, _)]) (.o4 rfl (.one rfl (.nil _))) <| QN.then_ <| W.seq ?_
  refine W.jn1 (Γ := Unit) (fun (_ : Unit) (x2 : Bool) => [(2, bA x2)]) (fun (_ : Unit) (_ : Bool) => []) h (fun _ x2 h => ?_) (fun j107 Kj107 h => ?_)
  ·refine QN.then_ <| W.ret ?_
   cases h
   exact QR.f1 rfl rfl (.t rfl) (.id _)
  ·refine W.region <| mv rfl rfl <| pk rfl 17 rfl (q_int rfl rfl) <| mv rfl rfl ?_
   rcases bif_s h with ⟨hb108, h⟩ | ⟨hb108, h⟩
   ·refine wm rfl rfl rfl hb108 rfl rfl <| wm rfl rfl rfl hb108 rfl rfl <| wq rfl rfl rfl hb108 (.s 21 rfl .nil) (q_slen (s := t100) rfl iss9).o <| wq rfl rfl rfl hb108 (.s 20 rfl (.s 22 rfl .nil)) (q_int rfl rfl).o <| p2 rfl 19 rfl 23 rfl (q_pickT rfl hb108) <| mv rfl rfl ?_
    rcases bif_s h with ⟨hb109, h⟩ | ⟨hb109, h⟩
    ·refine wf rfl rfl rfl hb109 rfl rfl fo185_0 rfl <| wl rfl rfl rfl hb109 rfl rfl sh3 <| wf rfl rfl rfl hb109 rfl rfl fo185_0 rfl <| wl rfl rfl rfl hb109 rfl rfl sh3 <| wq rfl rfl rfl hb109 (.s 27 rfl (.s 29 rfl .nil)) (q_int rfl rfl).o <| p2 rfl 25 rfl 30 rfl (q_pickT rfl hb109) <| av rfl rfl <| WL.nil ?_
     exact QN.weaken (.one rfl (.nil _)) (Kj107 () (t102.1.fKind == a0.fKind) h)
    ·refine sk rfl rfl rfl hb109 <| sk rfl rfl rfl hb109 <| sk rfl rfl rfl hb109 <| sk rfl rfl rfl hb109 <| sk rfl rfl rfl hb109 <| pk rfl 25 rfl (q_pickF rfl hb109) <| av rfl rfl <| WL.nil ?_
     exact QN.weaken (.one rfl (.nil _)) (Kj107 () false h)
   ·refine sk rfl rfl rfl hb108 <| sk rfl rfl rfl hb108 <| sk rfl rfl rfl hb108 <| sk rfl rfl rfl hb108 <| pk rfl 19 rfl (q_pickF rfl hb108) <| mv rfl rfl <| sk rfl rfl rfl rfl <| sk rfl rfl rfl rfl <| sk rfl rfl rfl rfl <| sk rfl rfl rfl rfl <| sk rfl rfl rfl rfl <| pk rfl 25 rfl (q_pickF rfl rfl) <| av rfl rfl ?_
    refine WL.nil ?_
    exact QN.weaken (.one rfl (.nil _)) (Kj107 () false h)
theorem ref01_IsName.con (k : Nat) (a0 : Str) (r : Bool) (h : ref01_IsName k a0 = some r) : Con Tryz.prog 137 [] [EqA (strV a0)] (RA (bA r)) := by
 unfold ref01_IsName at h
 refine Con.of (N := 6) Tryz.func137 rfl rfl rfl fun w0_ fg_ => sr <| ak rfl <| nx <| mv rfl rfl <| WL.p rfl rfl rfl (.k (.s 3 rfl .nil)) (q_build (is := [0, 1]) (xs := [.const (.int .i64 1), .tmp 3]) (L := [iA 1, EqA (strV a0), iA 0]) rfl rfl z185 pl185 rfl rfl (.cons (CellsOf.one rfl) (.cons (CellsOf.one rfl) .nil)) rfl) ?_
 obtain ⟨t100, ht100, h⟩ := bind_s h
 refine p1 rfl 4 rfl (q_call (f := 156) (A := bA t100) (xs := [.tmp 4]) («as» := [AggA [iA 1, EqA (strV a0), iA 0]]) rfl ca156 (ref01_Right.con k (Token.mk 1 a0 0) t100 ht100) rfl) <| av rfl rfl <| nt <| W.ret ?_
 cases h
 exact QR.f1 rfl rfl (.t rfl) (.id _)
theorem ref04_in.con (k : Nat) (a0 : Int) (a1 : Int) (a2 : Int) (r : Bool) (h : ref04_in k a0 a1 a2 = some r) : Con Tryz.prog 101 [] [iA a0, iA a1, iA a2] (RA (bA r)) := by
 unfold ref04_in at h
 refine Con.of (N := 15) Tryz.func101 rfl rfl rfl fun w0_ fg_ => sr <| ak rfl <| nt <| W.seq ?_
 refine W.jn1 (Γ := Unit) (fun (_ : Unit) (x6 : Bool) => [(6, bA x6)]) (fun (_ : Unit) (_ : Bool) => []) h (fun _ x6 h => ?_) (fun j102 Kj102 h => ?_)
 ·refine QN.then_ <| W.ret ?_
  cases h
  exact QR.f1 rfl rfl (.t rfl) (.id _)
 ·refine W.region <| mv rfl rfl <| mv rfl rfl <| p2 rfl 7 rfl 8 rfl (q_int rfl rfl) <| mv rfl rfl ?_
  rcases bif_s h with ⟨hb103, h⟩ | ⟨hb103, h⟩
  ·refine wm rfl rfl rfl hb103 rfl rfl <| wm rfl rfl rfl hb103 rfl rfl <| wq rfl rfl rfl hb103 (.s 11 rfl (.s 12 rfl .nil)) (q_int rfl rfl).o <| p2 rfl 10 rfl 13 rfl (q_pickT rfl hb103) <| av rfl rfl <| WL.nil ?_
   exact QN.weaken (.one rfl (.nil _)) (Kj102 () (decide (a0 ≤ a2)) h)
  ·refine sk rfl rfl rfl hb103 <| sk rfl rfl rfl hb103 <| sk rfl rfl rfl hb103 <| pk rfl 10 rfl (q_pickF rfl hb103) <| av rfl rfl <| WL.nil ?_
   exact QN.weaken (.one rfl (.nil _)) (Kj102 () false h)
theorem ref04_attrs.con : ∀ (k : Nat) (a0 : Types) (a1 : Int) (r : (List Attr)) (_ : ref04_attrs k a0 a1 = some r), Con Tryz.prog 113 [] [AggA [SlcA kNodeType a0.fNodes, SlcA kEdgeType a0.fEdges], iA a1] (RA (SlcA kAttr r)) := by
 intro k
 induction k with
 | zero => intro a0 a1 r h; cases h
 | succ k ih =>
  intro a0 a1 r h
  change ref04_attrs.main (ref04_attrs k) k a0 a1 = some r at h
  unfold ref04_attrs.main at h
  refine Con.of (N := 24) Tryz.func113 rfl rfl rfl fun w0_ fg_ => sr <| p1 rfl 0 rfl (q_box rfl (CellsOf.agg _)) <| ak rfl <| nt <| W.seq <| sr <| mv rfl rfl <| pk rfl 5 rfl (q_int rfl rfl) <| WL.nil ?_
  refine QN.then_ ?_
  refine W.condP h rfl (fun hb100 h => ?_) (fun hb100 h => ?_)
  ·refine sr <| ak rfl <| nt <| W.ret <| QR.then_ ?_
   cases h
   exact QR.f1 rfl rfl (.t rfl) (.imp (Imp.nil kAttr))
  ·refine W.skip <| QN.then_ <| W.seq <| W.drawK [(0, false), (1, false), (2, false), (3, false), (4, false), (5, false), (6, false), (7, false), (8, false), (10, false), (11, false), (12, false), (13, false), (14, false), (15, false)] [9, 16, 17] (bm [0, 0, 0, 4, 0, 28, 60, 124, 254, 511, 0, 1024, 0, 7168, 15360, 31744, 65535, 131071]) mx (by kernel_rfl) <| DK.cons rfl rfl (.p rfl .nil rfl (q_lit0 rfl el118 gr117)) <| DK.cons rfl rfl (.p rfl (.s 2 rfl .nil) rfl (q_loadS rfl sh25 (leB rfl) rfl)) <| df rfl rfl rfl fo25_0 rfl <| dl rfl rfl rfl sh22 <| dm rfl rfl rfl ?_
   obtain ⟨c115, h⟩ := ite_n h
   refine DK.cons rfl rfl (.p rfl (.s 10 rfl (.s 11 rfl .nil)) rfl (q_index rfl el22 rfl c115.1 c115.2)) <| df rfl rfl rfl fo120_1 rfl <| dl rfl rfl rfl sh3 ?_
   obtain ⟨t116, ht116, h⟩ := bind_s h
   refine DK.cons rfl rfl (.p rfl (.s 8 rfl (.s 14 rfl .nil)) rfl (q_call (f := 113) (A := SlcA kAttr t116) (xs := [.tmp 8, .tmp 14]) («as» := [AggA [SlcA kNodeType a0.fNodes, SlcA kEdgeType a0.fEdges], iA ((rd a0.fNodes a1).fParent)]) rfl ca113 (ih a0 ((rd a0.fNodes a1).fParent) t116 ht116) rfl)) ?_
   obtain ⟨c117, h⟩ := ite_n h
   refine df rfl rfl rfl fo25_0 rfl <| dl rfl rfl rfl sh22 <| dm rfl rfl rfl ?_
   obtain ⟨c119, h⟩ := ite_n h
   refine DK.cons rfl rfl (.p rfl (.s 18 rfl (.s 19 rfl .nil)) rfl (q_index rfl el22 rfl c119.1 c119.2)) <| df rfl rfl rfl fo120_3 rfl <| dl rfl rfl rfl sh118 ?_
   obtain ⟨c120, h⟩ := ite_n h
   refine DK.nil <| CSteps.w [] rfl rfl rfl rfl (.s 7 rfl (.s 15 rfl .nil)) rfl (w_appendZ (kd := kAttr) rfl el118 rfl gr117 c117) ?_
   rintro _ _ ⟨v118, rfl, rfl⟩
   refine CSteps.w [0] rfl rfl rfl rfl (.s 16 rfl (.s 22 rfl .nil)) rfl (w_append (kd := kAttr) rfl el118 rfl gr117 c120) ?_
   rintro _ _ ⟨v121, rfl, rfl⟩
   refine CSteps.p rfl rfl rfl (.s 23 rfl .nil) rfl (q_assign rfl) <| CSteps.nil <| QN.weaken (env' := [(4, _)]) (.one rfl (.nil _)) <| QN.then_ <| W.ret ?_
   cases h
   exact QR.f1 rfl rfl (.t rfl) (.slc 0 rfl)
theorem ref04_names.con (k : Nat) (a0 : (List Str)) (r : Int) (h : ref04_names k a0 = some r) : Con Tryz.prog 157 [] [SlcA kStr a0] (RA (iA r)) := by
 unfold ref04_names at h
 refine Con.of (N := 34) Tryz.func157 rfl rfl rfl fun w0_ fg_ => sr <| ak rfl <| nt <| W.seq <| sr <| mv rfl rfl <| p1 rfl 5 rfl (q_len rfl elS115) <| pk rfl 6 rfl (q_int rfl rfl) <| WL.nil ?_
 refine QN.then_ ?_
 refine W.condP h rfl (fun hb100 h => ?_) (fun hb100 h => ?_)
 ·refine sr <| ak rfl <| nt <| W.ret <| QR.then_ ?_
  cases h
  exact QR.f1 rfl rfl (.t rfl) (.id _)
 ·refine W.skip <| QN.then_ <| W.seq <| sr <| ak rfl <| nt <| W.block ?_
  refine W.loop1 (Γ := Unit) (fun (_ : Unit) (x3 : Int) => [(0, SlcA kStr a0), (3, iA x3)]) (fun (_ : Unit) (_ : Int) => []) h () (.o2 rfl (.nil _)) rfl (fun rec0 K0 next0 _ x3 h => ?_)
  unfold ref04_names.b0 at h
  refine W.seq <| sr <| mv rfl rfl <| mv rfl rfl <| p1 rfl 9 rfl (q_len rfl elS115) <| p2 rfl 8 rfl 10 rfl (q_int rfl rfl) <| nt ?_
  refine W.condP h rfl (fun hb169 h => ?_) (fun hb169 h => ?_)
  ·refine W.skip <| QN.then_ <| W.seq <| W.block <| W.seq <| sr <| mv rfl rfl <| mv rfl rfl ?_
   obtain ⟨c170, h⟩ := ite_n h
   refine p2 rfl 14 rfl 15 rfl (q_index rfl el115 rfl c170.1 c170.2) <| ld rfl rfl sh9 ?_
   obtain ⟨t171, ht171, h⟩ := bind_s h
   refine p1 rfl 17 rfl (q_call (f := 137) (A := bA t171) (xs := [.tmp 17]) («as» := [EqA (strV (rd a0 x3))]) rfl ca137 (ref01_IsName.con k (rd a0 x3) t171 ht171) rfl) <| p1 rfl 18 rfl (q_not rfl) <| WL.nil <| QN.weaken (env' := [(19, _), (3, _), (0, _)]) (.o2 rfl (.one rfl (.nil _))) <| QN.then_ ?_
   refine W.condP h rfl (fun hb172 h => ?_) (fun hb172 h => ?_)
   ·refine sr <| ak rfl <| nt <| W.ret <| QR.then_ <| QR.block <| QR.then_ <| QR.then_ <| QR.block <| QR.then_ ?_
    cases h
    exact QR.f1 rfl rfl (.t rfl) (.id _)
   ·refine W.skip <| QN.then_ <| sr <| ak rfl <| nt <| W.block ?_
    refine W.loop1 (Γ := Unit) (fun (_ : Unit) (x4 : Int) => [(0, SlcA kStr a0), (3, iA x3), (4, iA x4)]) (fun (_ : Unit) (_ : Int) => []) h () (.o2 rfl (.one rfl (.nil _))) rfl (fun rec1 K1 next1 _ x4 h => ?_)
    unfold ref04_names.b1 at h
    refine W.seq <| sr <| mv rfl rfl <| mv rfl rfl <| p2 rfl 20 rfl 21 rfl (q_int rfl rfl) <| nt ?_
    refine W.condP h rfl (fun hb193 h => ?_) (fun hb193 h => ?_)
    ·refine W.skip <| QN.then_ <| W.seq <| W.block <| W.seq <| W.drawK [(0, false), (1, false), (2, false), (3, false), (4, false), (5, false), (6, false), (7, false), (8, false)] [] (bm [0, 0, 3, 7, 0, 0, 48, 112, 255]) mx (by kernel_rfl) <| dm rfl rfl rfl <| dm rfl rfl rfl ?_
     obtain ⟨c198, h⟩ := ite_n h
     refine DK.cons rfl rfl (.p rfl (.s 25 rfl (.s 26 rfl .nil)) rfl (q_index rfl el115 rfl c198.1 c198.2)) <| dl rfl rfl rfl sh9 <| dm rfl rfl rfl <| dm rfl rfl rfl ?_
     obtain ⟨c199, h⟩ := ite_n h
     refine DK.cons rfl rfl (.p rfl (.s 29 rfl (.s 30 rfl .nil)) rfl (q_index rfl el115 rfl c199.1 c199.2)) <| dl rfl rfl rfl sh9 <| DK.cons rfl rfl (.p rfl (.s 28 rfl (.s 32 rfl .nil)) rfl (q_str (s := (rd a0 x4)) (t := (rd a0 x3)) rfl)) <| DK.nil <| CSteps.nil <| QN.weaken (env' := [(33, _), (4, _), (3, _), (0, _)]) (.o4 rfl (.nil _)) <| QN.then_ ?_
     refine W.condP h rfl (fun hb200 h => ?_) (fun hb200 h => ?_)
     ·refine sr <| ak rfl <| nt <| W.ret <| QR.block <| QR.then_ <| QR.then_ <| QR.block <| QR.block <| QR.then_ <| QR.then_ ?_
      refine QR.block <| QR.then_ ?_
      cases h
      exact QR.f1 rfl rfl (.t rfl) (.id _)
     ·refine W.skip <| QN.block <| QN.then_ <| W.region <| mv rfl rfl ?_
      obtain ⟨c201, h⟩ := ite_n h
      refine pk rfl 23 rfl (q_addR rfl c201) <| av rfl rfl <| WL.nil ?_
      exact next1 () (x4 + 1) _ h (.o2 rfl (.one rfl (.nil _)))
    ·refine W.exit <| QX.then_ <| QX.then_ <| QX.here <| QN.block <| QN.then_ <| W.region <| mv rfl rfl ?_
     obtain ⟨c202, h⟩ := ite_n h
     refine pk rfl 12 rfl (q_addR rfl c202) <| av rfl rfl <| WL.nil ?_
     exact next0 () (x3 + 1) _ h (.o2 rfl (.nil _))
  ·refine W.exit <| QX.then_ <| QX.then_ <| QX.here <| QN.then_ <| sr <| ak rfl <| nt <| W.ret ?_
   cases h
   exact QR.f1 rfl rfl (.t rfl) (.id _)
theorem ref04_attribute.con (k : Nat) (a0 : Attr) (r : Int) (h : ref04_attribute k a0 = some r) : Con Tryz.prog 138 [] [AggA [EqA (strV a0.fName), iA a0.fLow, iA a0.fHigh, SlcA kStr a0.fNames]] (RA (iA r)) := by
 unfold ref04_attribute at h
 refine Con.of (N := 38) Tryz.func138 rfl rfl rfl fun w0_ fg_ => sr <| p1 rfl 0 rfl (q_box rfl (CellsOf.agg _)) <| ak rfl <| nt <| W.seq <| sr <| fd rfl rfl fo117_3 rfl <| ld rfl rfl sh115 <| p1 rfl 5 rfl (q_len rfl elS115) ?_
 refine pk rfl 6 rfl (q_int rfl rfl) <| nt ?_
 refine W.condP h rfl (fun hb100 h => ?_) (fun hb100 h => ?_)
 ·refine W.seq <| W.seq ?_
  refine W.jn1 (Γ := Unit) (fun (_ : Unit) (x19 : Bool) => [(19, bA x19)]) (fun (_ : Unit) (_ : Bool) => []) h (fun _ x19 h => ?_) (fun j105 Kj105 h => ?_)
  ·refine QN.then_ ?_
   refine W.condP h rfl (fun hb106 h => ?_) (fun hb106 h => ?_)
   ·refine sr <| ak rfl <| nt <| W.ret <| QR.then_ <| QR.then_ ?_
    cases h
    exact QR.f1 rfl rfl (.t rfl) (.id _)
   ·refine W.skip <| QN.then_ <| sr <| ak rfl <| nt <| W.ret <| QR.then_ ?_
    cases h
    exact QR.f1 rfl rfl (.t rfl) (.id _)
  ·refine W.region <| fd rfl rfl fo117_1 rfl <| ld rfl rfl sh3 ?_
   obtain ⟨t107, ht107, h⟩ := bind_s h
   refine WL.p rfl rfl rfl (.s 9 rfl (.k (.k .nil))) (q_call (f := 101) (A := bA t107) (xs := [.tmp 9, .const (.int .i64 (-1000000)), .const (.int .i64 1000000)]) («as» := [iA a0.fLow, iA (-1000000), iA 1000000]) rfl ca101 (ref04_in.con k a0.fLow (-1000000) 1000000 t107 ht107) rfl) <| p1 rfl 10 rfl (q_not rfl) <| mv rfl rfl ?_
   rcases bif_s h with ⟨hb108, h⟩ | ⟨hb108, h⟩
   ·refine sk rfl rfl rfl hb108 <| sk rfl rfl rfl hb108 <| sk rfl rfl rfl hb108 <| sk rfl rfl rfl hb108 <| sk rfl rfl rfl hb108 <| sk rfl rfl rfl hb108 <| pk rfl 12 rfl (q_pickT rfl hb108) <| WL.nil ?_
    exact QN.weaken (.one rfl (.nil _)) (Kj105 () true h)
   ·refine wf rfl rfl rfl hb108 rfl rfl fo117_2 rfl <| wl rfl rfl rfl hb108 rfl rfl sh3 <| wf rfl rfl rfl hb108 rfl rfl fo117_1 rfl <| wl rfl rfl rfl hb108 rfl rfl sh3 ?_
    obtain ⟨t109, ht109, h⟩ := bind_s h
    refine wq rfl rfl rfl hb108 (.s 14 rfl (.s 16 rfl (.k .nil))) (q_call (f := 101) (A := bA t109) (xs := [.tmp 14, .tmp 16, .const (.int .i64 1000000)]) («as» := [iA a0.fHigh, iA a0.fLow, iA 1000000]) rfl ca101 (ref04_in.con k a0.fHigh a0.fLow 1000000 t109 ht109) rfl).o <| wq rfl rfl rfl hb108 (.s 17 rfl .nil) (q_not rfl).o <| p2 rfl 12 rfl 18 rfl (q_pickF rfl hb108) <| WL.nil ?_
    exact QN.weaken (.one rfl (.nil _)) (Kj105 () (!t109) h)
 ·refine W.skip <| QN.then_ <| W.seq <| sr <| fd rfl rfl fo117_3 rfl <| ld rfl rfl sh115 ?_
  obtain ⟨t110, ht110, h⟩ := bind_s h
  refine p1 rfl 21 rfl (q_call (f := 157) (A := iA t110) (xs := [.tmp 21]) («as» := [SlcA kStr a0.fNames]) rfl ca157 (ref04_names.con k a0.fNames t110 ht110) rfl) <| av rfl rfl <| WL.nil <| QN.weaken (env' := [(3, _), (1, _)]) (.o2 rfl (.nil _)) <| QN.then_ <| sr <| mv rfl rfl <| pk rfl 23 rfl (q_int rfl rfl) <| nt ?_
  refine W.condP h rfl (fun hb111 h => ?_) (fun hb111 h => ?_)
  ·refine sr <| mv rfl rfl <| av rfl rfl <| nt <| W.ret <| QR.then_ ?_
   cases h
   exact QR.f1 rfl rfl (.t rfl) (.id _)
  ·refine W.skip <| QN.then_ <| W.seq <| W.seq ?_
   refine W.jn1 (Γ := Unit) (fun (_ : Unit) (x37 : Bool) => [(37, bA x37)]) (fun (_ : Unit) (_ : Bool) => []) h (fun _ x37 h => ?_) (fun j115 Kj115 h => ?_)
   ·refine QN.then_ ?_
    refine W.condP h rfl (fun hb116 h => ?_) (fun hb116 h => ?_)
    ·refine sr <| ak rfl <| nt <| W.ret <| QR.then_ ?_
     cases h
     exact QR.f1 rfl rfl (.t rfl) (.id _)
    ·refine W.skip <| QN.then_ <| sr <| ak rfl <| nt <| W.ret ?_
     cases h
     exact QR.f1 rfl rfl (.t rfl) (.id _)
   ·refine W.region <| fd rfl rfl fo117_1 rfl <| ld rfl rfl sh3 <| pk rfl 27 rfl (q_int rfl rfl) <| mv rfl rfl ?_
    rcases bif_s h with ⟨hb117, h⟩ | ⟨hb117, h⟩
    ·refine sk rfl rfl rfl hb117 <| sk rfl rfl rfl hb117 <| sk rfl rfl rfl hb117 <| sk rfl rfl rfl hb117 <| sk rfl rfl rfl hb117 <| sk rfl rfl rfl hb117 <| sk rfl rfl rfl hb117 <| pk rfl 29 rfl (q_pickT rfl hb117) <| WL.nil ?_
     exact QN.weaken (.one rfl (.nil _)) (Kj115 () true h)
    ·refine wf rfl rfl rfl hb117 rfl rfl fo117_2 rfl <| wl rfl rfl rfl hb117 rfl rfl sh3 <| wf rfl rfl rfl hb117 rfl rfl fo117_3 rfl <| wl rfl rfl rfl hb117 rfl rfl sh115 <| wq rfl rfl rfl hb117 (.s 33 rfl .nil) (q_len rfl elS115).o ?_
     obtain ⟨c118, h⟩ := ite_n h
     refine wq rfl rfl rfl hb117 (.s 34 rfl (.k .nil)) (q_subR rfl c118).o <| wq rfl rfl rfl hb117 (.s 31 rfl (.s 35 rfl .nil)) (q_int rfl rfl).o <| p2 rfl 29 rfl 36 rfl (q_pickF rfl hb117) <| WL.nil ?_
     exact QN.weaken (.one rfl (.nil _)) (Kj115 () (a0.fHigh != ((a0.fNames.length : Int) - 1)) h)
theorem ref04_node.con (k : Nat) (a0 : Types) (a1 : Int) (r : Int) (h : ref04_node k a0 a1 = some r) : Con Tryz.prog 96 [] [AggA [SlcA kNodeType a0.fNodes, SlcA kEdgeType a0.fEdges], iA a1] (RA (iA r)) := by
 unfold ref04_node at h
 refine Con.of (N := 95) Tryz.func96 rfl rfl rfl fun w0_ fg_ => sr <| p1 rfl 0 rfl (q_box rfl (CellsOf.agg _)) <| ak rfl <| nx <| fd rfl rfl fo25_0 rfl <| ld rfl rfl sh22 <| mv rfl rfl ?_
 obtain ⟨c100, h⟩ := ite_n h
 refine p2 rfl 12 rfl 13 rfl (q_index rfl el22 rfl c100.1 c100.2) <| lS rfl rfl sh120 rfl rfl <| WL.w [] rfl (Wanted.plain rfl) rfl rfl .nil (w_alloc rfl z120 (l := [EqA (strV ([] : Str)), iA 0, bA false, EqA (.slice none 0 0)]) rfl) ?_
 rintro _ _ ⟨b101, rfl, rfl⟩
 refine WL.w0 [0] rfl (Wanted.plain rfl) rfl (.s 5 rfl (.s 15 rfl .nil)) (w_store (L := [EqA (strV ((rd a0.fNodes a1).fName)), iA ((rd a0.fNodes a1).fParent), bA ((rd a0.fNodes a1).fAbstract), SlcA kAttr ((rd a0.fNodes a1).fAttrs)]) rfl sh120 (CellsOf.agg _) rfl rfl (leB rfl) rfl) ?_
 rintro _ _ ⟨rfl, rfl⟩
 refine WL.nil <| QN.to (StTo.still [0] 5 rfl rfl) <| QN.weaken (env' := [(5, _), (2, _), (1, _)]) (.o2 rfl (.one rfl (.nil _))) <| QN.then_ <| W.seq <| sr <| fd rfl rfl fo120_0 rfl <| ld rfl rfl sh9 ?_
 obtain ⟨t102, ht102, h⟩ := bind_s h
 refine p1 rfl 17 rfl (q_call (f := 137) (A := bA t102) (xs := [.tmp 17]) («as» := [EqA (strV ((rd a0.fNodes a1).fName))]) rfl ca137 (ref01_IsName.con k ((rd a0.fNodes a1).fName) t102 ht102) rfl) <| p1 rfl 18 rfl (q_not rfl) <| nt ?_
 refine W.condP h rfl (fun hb103 h => ?_) (fun hb103 h => ?_)
 ·refine sr <| ak rfl <| WL.nil <| QN.weaken (env' := [(4, _)]) (.one rfl (.nil _)) <| QN.then_ <| W.ret <| QR.then_ ?_
  cases h
  exact QR.f1 rfl rfl (.t rfl) (.id _)
 ·refine W.skip <| QN.then_ <| W.seq <| sr <| ak rfl <| nt <| W.block ?_
  refine W.loop1 (Γ := Unit) (fun (_ : Unit) (x6 : Int) => [(1, iA a1), (2, PtrA [SlcA kNodeType a0.fNodes, SlcA kEdgeType a0.fEdges]), (5, PtrA [EqA (strV ((rd a0.fNodes a1).fName)), iA ((rd a0.fNodes a1).fParent), bA ((rd a0.fNodes a1).fAbstract), SlcA kAttr ((rd a0.fNodes a1).fAttrs)]), (6, iA x6)]) (fun (_ : Unit) (_ : Int) => []) h () (.o4 rfl (.nil _)) rfl (fun rec0 K0 next0 _ x6 h => ?_)
  unfold ref04_node.b0 at h
  refine W.seq <| sr <| mv rfl rfl <| mv rfl rfl <| p2 rfl 20 rfl 21 rfl (q_int rfl rfl) <| nt ?_
  refine W.condP h rfl (fun hb394 h => ?_) (fun hb394 h => ?_)
  ·refine W.skip <| QN.then_ <| W.seq <| W.block <| W.seq <| W.drawK [(0, false), (1, false), (2, false), (3, false), (4, false), (5, false), (6, false), (7, false), (8, false)] [] (bm [0, 1, 0, 7, 15, 31, 0, 64, 255]) mx (by kernel_rfl) <| df rfl rfl rfl fo25_0 rfl <| dl rfl rfl rfl sh22 <| dm rfl rfl rfl ?_
   obtain ⟨c397, h⟩ := ite_n h
   refine DK.cons rfl rfl (.p rfl (.s 26 rfl (.s 27 rfl .nil)) rfl (q_index rfl el22 rfl c397.1 c397.2)) <| df rfl rfl rfl fo120_0 rfl <| dl rfl rfl rfl sh9 <| df rfl rfl rfl fo120_0 rfl <| dl rfl rfl rfl sh9 <| DK.cons rfl rfl (.p rfl (.s 30 rfl (.s 32 rfl .nil)) rfl (q_str (s := (rd a0.fNodes x6).fName) (t := (rd a0.fNodes a1).fName) rfl)) <| DK.nil <| CSteps.nil <| QN.weaken (env' := [(33, _), (6, _), (5, _), (2, _), (1, _)]) (.o4 rfl (.one rfl (.nil _))) <| QN.then_ ?_
   refine W.condP h rfl (fun hb398 h => ?_) (fun hb398 h => ?_)
   ·refine sr <| ak rfl <| nt <| W.ret <| QR.block <| QR.then_ <| QR.then_ <| QR.block <| QR.then_ ?_
    cases h
    exact QR.f1 rfl rfl (.t rfl) (.id _)
   ·refine W.skip <| QN.block <| QN.then_ <| W.region <| mv rfl rfl ?_
    obtain ⟨c399, h⟩ := ite_n h
    refine pk rfl 23 rfl (q_addR rfl c399) <| av rfl rfl <| WL.nil ?_
    exact next0 () (x6 + 1) _ h (.o4 rfl (.nil _))
  ·refine W.exit <| QX.then_ <| QX.then_ <| QX.here <| QN.then_ <| W.seq <| sr <| fd rfl rfl fo120_1 rfl <| ld rfl rfl sh3 <| mv rfl rfl ?_
   obtain ⟨c400, h⟩ := ite_n h
   refine pk rfl 36 rfl (q_subR rfl c400) ?_
   obtain ⟨t401, ht401, h⟩ := bind_s h
   refine WL.p rfl rfl rfl (.s 35 rfl (.k (.s 37 rfl .nil))) (q_call (f := 101) (A := bA t401) (xs := [.tmp 35, .const (.int .i64 (-1)), .tmp 37]) («as» := [iA ((rd a0.fNodes a1).fParent), iA (-1), iA (a1 - 1)]) rfl ca101 (ref04_in.con k ((rd a0.fNodes a1).fParent) (-1) (a1 - 1) t401 ht401) rfl) <| p1 rfl 38 rfl (q_not rfl) <| WL.nil <| QN.weaken (env' := [(39, _), (5, _), (2, _), (1, _)]) (.o4 rfl (.nil _)) <| QN.then_ ?_
   refine W.condP h rfl (fun hb402 h => ?_) (fun hb402 h => ?_)
   ·refine sr <| ak rfl <| nt <| W.ret <| QR.then_ ?_
    cases h
    exact QR.f1 rfl rfl (.t rfl) (.id _)
   ·refine W.skip <| QN.then_ <| sr <| lS rfl rfl sh25 rfl rfl <| mv rfl rfl ?_
    obtain ⟨t403, ht403, h⟩ := bind_s h
    refine p2 rfl 40 rfl 41 rfl (q_call (f := 113) (A := SlcA kAttr t403) (xs := [.tmp 40, .tmp 41]) («as» := [AggA [SlcA kNodeType a0.fNodes, SlcA kEdgeType a0.fEdges], iA a1]) rfl ca113 (ref04_attrs.con k a0 a1 t403 ht403) rfl) <| av rfl rfl <| nt <| W.seq <| W.seq ?_
    refine W.jn1 (Γ := Unit) (fun (_ : Unit) (x51 : Bool) => [(5, PtrA [EqA (strV ((rd a0.fNodes a1).fName)), iA ((rd a0.fNodes a1).fParent), bA ((rd a0.fNodes a1).fAbstract), SlcA kAttr ((rd a0.fNodes a1).fAttrs)]), (7, SlcA kAttr t403), (51, bA x51)]) (fun (_ : Unit) (_ : Bool) => []) h (fun _ x51 h => ?_) (fun j406 Kj406 h => ?_)
    ·refine QN.then_ ?_
     refine W.condP h rfl (fun hb407 h => ?_) (fun hb407 h => ?_)
     ·refine sr <| ak rfl <| nt <| W.ret <| QR.then_ ?_
      cases h
      exact QR.f1 rfl rfl (.t rfl) (.id _)
     ·refine W.skip <| QN.then_ <| W.seq <| sr <| mv rfl rfl <| p1 rfl 52 rfl (q_len rfl elS118) <| fd rfl rfl fo120_3 rfl <| ld rfl rfl sh118 <| p1 rfl 55 rfl (q_len rfl elS118) ?_
      obtain ⟨c408, h⟩ := ite_n h
      refine p2 rfl 53 rfl 56 rfl (q_subR rfl c408) <| av rfl rfl <| WL.nil <| QN.weaken (env' := [(8, _), (7, _)]) (.o2 rfl (.nil _)) <| QN.then_ <| W.block ?_
      refine W.loop1 (Γ := Unit) (fun (_ : Unit) (x8 : Int) => [(7, SlcA kAttr t403), (8, iA x8)]) (fun (_ : Unit) (_ : Int) => []) h () (.o2 rfl (.nil _)) rfl (fun rec1 K1 next1 _ x8 h => ?_)
      unfold ref04_node.b1 at h
      refine W.seq <| sr <| mv rfl rfl <| mv rfl rfl <| p1 rfl 59 rfl (q_len rfl elS118) <| p2 rfl 58 rfl 60 rfl (q_int rfl rfl) <| nt ?_
      refine W.condP h rfl (fun hb495 h => ?_) (fun hb495 h => ?_)
      ·refine W.skip <| QN.then_ <| W.seq <| W.block <| W.seq <| sr <| mv rfl rfl <| mv rfl rfl ?_
       obtain ⟨c496, h⟩ := ite_n h
       refine p2 rfl 64 rfl 65 rfl (q_index rfl el118 rfl c496.1 c496.2) <| fd rfl rfl fo117_0 rfl <| ld rfl rfl sh9 ?_
       obtain ⟨t497, ht497, h⟩ := bind_s h
       refine p1 rfl 68 rfl (q_call (f := 137) (A := bA t497) (xs := [.tmp 68]) («as» := [EqA (strV ((rd t403 x8).fName))]) rfl ca137 (ref01_IsName.con k ((rd t403 x8).fName) t497 ht497) rfl) <| p1 rfl 69 rfl (q_not rfl) <| WL.nil <| QN.weaken (env' := [(70, _), (8, _), (7, _)]) (.o2 rfl (.one rfl (.nil _))) <| QN.then_ ?_
       refine W.condP h rfl (fun hb498 h => ?_) (fun hb498 h => ?_)
       ·refine sr <| ak rfl <| nt <| W.ret <| QR.then_ <| QR.block <| QR.then_ <| QR.then_ <| QR.block <| QR.then_ ?_
        cases h
        exact QR.f1 rfl rfl (.t rfl) (.id _)
       ·refine W.skip <| QN.then_ <| W.seq <| sr <| ak rfl <| nt <| W.block ?_
        refine W.loop1 (Γ := Unit) (fun (_ : Unit) (x9 : Int) => [(7, SlcA kAttr t403), (8, iA x8), (9, iA x9)]) (fun (_ : Unit) (_ : Int) => []) h () (.o2 rfl (.one rfl (.nil _))) rfl (fun rec2 K2 next2 _ x9 h => ?_)
        unfold ref04_node.b2 at h
        refine W.seq <| sr <| mv rfl rfl <| mv rfl rfl <| p2 rfl 71 rfl 72 rfl (q_int rfl rfl) <| nt ?_
        refine W.condP h rfl (fun hb525 h => ?_) (fun hb525 h => ?_)
        ·refine W.skip <| QN.then_ <| W.seq <| W.block <| W.seq <| W.drawK [(0, false), (1, false), (2, false), (3, false), (4, false), (5, false), (6, false), (7, false), (8, false), (9, false), (10, false)] [] (bm [0, 0, 3, 7, 15, 0, 0, 96, 224, 480, 1023]) mx (by kernel_rfl) <| dm rfl rfl rfl <| dm rfl rfl rfl ?_
         obtain ⟨c530, h⟩ := ite_n h
         refine DK.cons rfl rfl (.p rfl (.s 76 rfl (.s 77 rfl .nil)) rfl (q_index rfl el118 rfl c530.1 c530.2)) <| df rfl rfl rfl fo117_0 rfl <| dl rfl rfl rfl sh9 <| dm rfl rfl rfl <| dm rfl rfl rfl ?_
         obtain ⟨c531, h⟩ := ite_n h
         refine DK.cons rfl rfl (.p rfl (.s 81 rfl (.s 82 rfl .nil)) rfl (q_index rfl el118 rfl c531.1 c531.2)) <| df rfl rfl rfl fo117_0 rfl <| dl rfl rfl rfl sh9 <| DK.cons rfl rfl (.p rfl (.s 80 rfl (.s 85 rfl .nil)) rfl (q_str (s := (rd t403 x9).fName) (t := (rd t403 x8).fName) rfl)) <| DK.nil <| CSteps.nil <| QN.weaken (env' := [(86, _), (9, _), (8, _), (7, _)]) (.o4 rfl (.nil _)) <| QN.then_ ?_
         refine W.condP h rfl (fun hb532 h => ?_) (fun hb532 h => ?_)
         ·refine sr <| ak rfl <| nt <| W.ret <| QR.block <| QR.then_ <| QR.then_ <| QR.block <| QR.then_ <| QR.block <| QR.then_ ?_
          refine QR.then_ <| QR.block <| QR.then_ ?_
          cases h
          exact QR.f1 rfl rfl (.t rfl) (.id _)
         ·refine W.skip <| QN.block <| QN.then_ <| W.region <| mv rfl rfl ?_
          obtain ⟨c533, h⟩ := ite_n h
          refine pk rfl 74 rfl (q_addR rfl c533) <| av rfl rfl <| WL.nil ?_
          exact next2 () (x9 + 1) _ h (.o2 rfl (.one rfl (.nil _)))
        ·refine W.exit <| QX.then_ <| QX.then_ <| QX.here <| QN.then_ <| sr <| mv rfl rfl <| mv rfl rfl ?_
         obtain ⟨c534, h⟩ := ite_n h
         refine p2 rfl 87 rfl 88 rfl (q_index rfl el118 rfl c534.1 c534.2) <| lS rfl rfl sh117 rfl rfl ?_
         obtain ⟨t535, ht535, h⟩ := bind_s h
         refine p1 rfl 90 rfl (q_call (f := 138) (A := iA t535) (xs := [.tmp 90]) («as» := [AggA [EqA (strV ((rd t403 x8).fName)), iA ((rd t403 x8).fLow), iA ((rd t403 x8).fHigh), SlcA kStr ((rd t403 x8).fNames)]]) rfl ca138 (ref04_attribute.con k (rd t403 x8) t535 ht535) rfl) <| av rfl rfl <| WL.nil <| QN.weaken (env' := [(10, _), (8, _), (7, _)]) (.o2 rfl (.one rfl (.nil _))) <| QN.then_ <| sr <| mv rfl rfl <| pk rfl 92 rfl (q_int rfl rfl) <| nt ?_
         refine W.condP h rfl (fun hb536 h => ?_) (fun hb536 h => ?_)
         ·refine sr <| mv rfl rfl <| av rfl rfl <| nt <| W.ret <| QR.block <| QR.then_ <| QR.then_ <| QR.block <| QR.then_ ?_
          cases h
          exact QR.f1 rfl rfl (.t rfl) (.id _)
         ·refine W.skip <| QN.block <| QN.then_ <| W.region <| mv rfl rfl ?_
          obtain ⟨c537, h⟩ := ite_n h
          refine pk rfl 62 rfl (q_addR rfl c537) <| av rfl rfl <| WL.nil ?_
          exact next1 () (x8 + 1) _ h (.o2 rfl (.nil _))
      ·refine W.exit <| QX.then_ <| QX.then_ <| QX.here <| QN.then_ <| sr <| ak rfl <| nt <| W.ret ?_
       cases h
       exact QR.f1 rfl rfl (.t rfl) (.id _)
    ·refine W.region <| fd rfl rfl fo120_3 rfl <| ld rfl rfl sh118 <| p1 rfl 44 rfl (q_len rfl elS118) <| pk rfl 45 rfl (q_int rfl rfl) <| mv rfl rfl ?_
     rcases bif_s h with ⟨hb538, h⟩ | ⟨hb538, h⟩
     ·refine sk rfl rfl rfl hb538 <| sk rfl rfl rfl hb538 <| sk rfl rfl rfl hb538 <| pk rfl 47 rfl (q_pickT rfl hb538) <| WL.nil ?_
      exact QN.weaken (.o2 rfl (.one rfl (.nil _))) (Kj406 () true h)
     ·refine wm rfl rfl rfl hb538 rfl rfl <| wq rfl rfl rfl hb538 (.s 48 rfl .nil) (q_len rfl elS118).o <| wq rfl rfl rfl hb538 (.s 49 rfl (.k .nil)) (q_int rfl rfl).o <| p2 rfl 47 rfl 50 rfl (q_pickF rfl hb538) <| WL.nil ?_
      exact QN.weaken (.o2 rfl (.one rfl (.nil _))) (Kj406 () (decide ((t403.length : Int) > 8)) h)
theorem ref04_bound.con (k : Nat) (a0 : Int) (a1 : Int) (r : Bool) (h : ref04_bound k a0 a1 = some r) : Con Tryz.prog 139 [] [iA a0, iA a1] (RA (bA r)) := by
 unfold ref04_bound at h
 refine Con.of (N := 16) Tryz.func139 rfl rfl rfl fun w0_ fg_ => sr <| ak rfl <| nt <| W.seq ?_
 refine W.jn1 (Γ := Unit) (fun (_ : Unit) (x4 : Bool) => [(4, bA x4)]) (fun (_ : Unit) (_ : Bool) => []) h (fun _ x4 h => ?_) (fun j105 Kj105 h => ?_)
 ·refine QN.then_ <| W.ret ?_
  cases h
  exact QR.f1 rfl rfl (.t rfl) (.id _)
 ·refine W.region <| mv rfl rfl ?_
  obtain ⟨t106, ht106, h⟩ := bind_s h
  refine WL.p rfl rfl rfl (.s 5 rfl (.k (.k .nil))) (q_call (f := 101) (A := bA t106) (xs := [.tmp 5, .const (.int .i64 0), .const (.int .i64 40)]) («as» := [iA a0, iA 0, iA 40]) rfl ca101 (ref04_in.con k a0 0 40 t106 ht106) rfl) <| mv rfl rfl ?_
  rcases bif_s h with ⟨hb107, h⟩ | ⟨hb107, h⟩
  ·refine wm rfl rfl rfl hb107 rfl rfl <| wq rfl rfl rfl hb107 (.s 8 rfl (.k .nil)) (q_int rfl rfl).o <| wm rfl rfl rfl hb107 rfl rfl ?_
   rcases bif_s h with ⟨hb108, h⟩ | ⟨hb108, h⟩
   ·refine sk rfl rfl rfl hb108 <| sk rfl rfl rfl hb108 <| sk rfl rfl rfl hb108 <| wq rfl rfl rfl hb107 (.s 10 rfl (.k .nil)) (q_pickT rfl hb108).o <| p2 rfl 7 rfl 14 rfl (q_pickT rfl hb107) <| av rfl rfl <| WL.nil ?_
    exact QN.weaken (.one rfl (.nil _)) (Kj105 () true h)
   ·refine wm rfl rfl rfl hb108 rfl rfl <| wm rfl rfl rfl hb108 rfl rfl ?_
    obtain ⟨t109, ht109, h⟩ := bind_s h
    refine wq rfl rfl rfl hb108 (.s 11 rfl (.s 12 rfl (.k .nil))) (q_call (f := 101) (A := bA t109) (xs := [.tmp 11, .tmp 12, .const (.int .i64 40)]) («as» := [iA a1, iA a0, iA 40]) rfl ca101 (ref04_in.con k a1 a0 40 t109 ht109) rfl).o <| wq rfl rfl rfl hb107 (.s 10 rfl (.s 13 rfl .nil)) (q_pickF rfl hb108).o <| p2 rfl 7 rfl 14 rfl (q_pickT rfl hb107) <| av rfl rfl <| WL.nil ?_
    exact QN.weaken (.one rfl (.nil _)) (Kj105 () t109 h)
  ·refine sk rfl rfl rfl hb107 <| sk rfl rfl rfl hb107 <| sk rfl rfl rfl hb107 <| su rfl rfl rfl <| su rfl rfl rfl <| su rfl rfl rfl <| sk rfl rfl rfl hb107 <| pk rfl 7 rfl (q_pickF rfl hb107) <| av rfl rfl <| WL.nil ?_
   exact QN.weaken (.one rfl (.nil _)) (Kj105 () false h)
theorem ref04_edge.con (k : Nat) (a0 : Types) (a1 : Int) (r : Int) (h : ref04_edge k a0 a1 = some r) : Con Tryz.prog 97 [] [AggA [SlcA kNodeType a0.fNodes, SlcA kEdgeType a0.fEdges], iA a1] (RA (iA r)) := by
 unfold ref04_edge at h
 refine Con.of (N := 63) Tryz.func97 rfl rfl rfl fun w0_ fg_ => sr <| p1 rfl 0 rfl (q_box rfl (CellsOf.agg _)) <| ak rfl <| nx <| fd rfl rfl fo25_1 rfl <| ld rfl rfl sh23 <| mv rfl rfl ?_
 obtain ⟨c100, h⟩ := ite_n h
 refine p2 rfl 9 rfl 10 rfl (q_index rfl el23 rfl c100.1 c100.2) <| lS rfl rfl sh60 rfl rfl <| WL.w [] rfl (Wanted.plain rfl) rfl rfl .nil (w_alloc rfl z60 (l := [EqA (strV ([] : Str)), iA 0, iA 0, iA 0, iA 0, iA 0, iA 0]) rfl) ?_
 rintro _ _ ⟨b101, rfl, rfl⟩
 refine WL.w0 [0] rfl (Wanted.plain rfl) rfl (.s 5 rfl (.s 12 rfl .nil)) (w_store (L := [EqA (strV ((rd a0.fEdges a1).fName)), iA ((rd a0.fEdges a1).fFrom), iA ((rd a0.fEdges a1).fTo), iA ((rd a0.fEdges a1).fOutLow), iA ((rd a0.fEdges a1).fOutHigh), iA ((rd a0.fEdges a1).fInLow), iA ((rd a0.fEdges a1).fInHigh)]) rfl sh60 (CellsOf.agg _) rfl rfl (leB rfl) rfl) ?_
 rintro _ _ ⟨rfl, rfl⟩
 refine WL.nil <| QN.to (StTo.still [0] 5 rfl rfl) <| QN.weaken (env' := [(5, _), (2, _), (1, _)]) (.o2 rfl (.one rfl (.nil _))) <| QN.then_ <| W.seq <| sr <| fd rfl rfl fo60_0 rfl <| ld rfl rfl sh9 ?_
 obtain ⟨t102, ht102, h⟩ := bind_s h
 refine p1 rfl 14 rfl (q_call (f := 137) (A := bA t102) (xs := [.tmp 14]) («as» := [EqA (strV ((rd a0.fEdges a1).fName))]) rfl ca137 (ref01_IsName.con k ((rd a0.fEdges a1).fName) t102 ht102) rfl) <| p1 rfl 15 rfl (q_not rfl) <| nt ?_
 refine W.condP h rfl (fun hb103 h => ?_) (fun hb103 h => ?_)
 ·refine sr <| ak rfl <| WL.nil <| QN.weaken (env' := [(4, _)]) (.one rfl (.nil _)) <| QN.then_ <| W.ret <| QR.then_ ?_
  cases h
  exact QR.f1 rfl rfl (.t rfl) (.id _)
 ·refine W.skip <| QN.then_ <| W.seq <| sr <| ak rfl <| nt <| W.block ?_
  refine W.loop1 (Γ := Unit) (fun (_ : Unit) (x6 : Int) => [(1, iA a1), (2, PtrA [SlcA kNodeType a0.fNodes, SlcA kEdgeType a0.fEdges]), (5, PtrA [EqA (strV ((rd a0.fEdges a1).fName)), iA ((rd a0.fEdges a1).fFrom), iA ((rd a0.fEdges a1).fTo), iA ((rd a0.fEdges a1).fOutLow), iA ((rd a0.fEdges a1).fOutHigh), iA ((rd a0.fEdges a1).fInLow), iA ((rd a0.fEdges a1).fInHigh)]), (6, iA x6)]) (fun (_ : Unit) (_ : Int) => []) h () (.o4 rfl (.nil _)) rfl (fun rec0 K0 next0 _ x6 h => ?_)
  unfold ref04_edge.b0 at h
  refine W.seq <| sr <| mv rfl rfl <| mv rfl rfl <| p2 rfl 17 rfl 18 rfl (q_int rfl rfl) <| nt ?_
  refine W.condP h rfl (fun hb152 h => ?_) (fun hb152 h => ?_)
  ·refine W.skip <| QN.then_ <| W.seq <| W.block <| W.seq <| W.drawK [(0, false), (1, false), (2, false), (3, false), (4, false), (5, false), (6, false), (7, false), (8, false)] [] (bm [0, 1, 0, 7, 15, 31, 0, 64, 255]) mx (by kernel_rfl) <| df rfl rfl rfl fo25_1 rfl <| dl rfl rfl rfl sh23 <| dm rfl rfl rfl ?_
   obtain ⟨c155, h⟩ := ite_n h
   refine DK.cons rfl rfl (.p rfl (.s 23 rfl (.s 24 rfl .nil)) rfl (q_index rfl el23 rfl c155.1 c155.2)) <| df rfl rfl rfl fo60_0 rfl <| dl rfl rfl rfl sh9 <| df rfl rfl rfl fo60_0 rfl <| dl rfl rfl rfl sh9 <| DK.cons rfl rfl (.p rfl (.s 27 rfl (.s 29 rfl .nil)) rfl (q_str (s := (rd a0.fEdges x6).fName) (t := (rd a0.fEdges a1).fName) rfl)) <| DK.nil <| CSteps.nil <| QN.weaken (env' := [(30, _), (6, _), (5, _), (2, _), (1, _)]) (.o4 rfl (.one rfl (.nil _))) <| QN.then_ ?_
   refine W.condP h rfl (fun hb156 h => ?_) (fun hb156 h => ?_)
   ·refine sr <| ak rfl <| nt <| W.ret <| QR.block <| QR.then_ <| QR.then_ <| QR.block <| QR.then_ ?_
    cases h
    exact QR.f1 rfl rfl (.t rfl) (.id _)
   ·refine W.skip <| QN.block <| QN.then_ <| W.region <| mv rfl rfl ?_
    obtain ⟨c157, h⟩ := ite_n h
    refine pk rfl 20 rfl (q_addR rfl c157) <| av rfl rfl <| WL.nil ?_
    exact next0 () (x6 + 1) _ h (.o4 rfl (.nil _))
  ·refine W.exit <| QX.then_ <| QX.then_ <| QX.here <| QN.then_ <| sr <| fd rfl rfl fo25_0 rfl <| ld rfl rfl sh22 <| p1 rfl 32 rfl (q_len rfl elS22) ?_
   obtain ⟨c158, h⟩ := ite_n h
   refine pk rfl 33 rfl (q_subR rfl c158) <| av rfl rfl <| WL.nil <| QN.weaken (env' := [(7, _), (5, _)]) (.o2 rfl (.nil _)) <| QN.then_ <| W.seq <| W.seq ?_
   refine W.jn1 (Γ := Unit) (fun (_ : Unit) (x62 : Bool) => [(62, bA x62)]) (fun (_ : Unit) (_ : Bool) => []) h (fun _ x62 h => ?_) (fun j167 Kj167 h => ?_)
   ·refine QN.then_ ?_
    refine W.condP h rfl (fun hb168 h => ?_) (fun hb168 h => ?_)
    ·refine sr <| ak rfl <| nt <| W.ret <| QR.then_ ?_
     cases h
     exact QR.f1 rfl rfl (.t rfl) (.id _)
    ·refine W.skip <| QN.then_ <| sr <| ak rfl <| nt <| W.ret ?_
     cases h
     exact QR.f1 rfl rfl (.t rfl) (.id _)
   ·refine W.region <| fd rfl rfl fo60_1 rfl <| ld rfl rfl sh3 <| mv rfl rfl ?_
    obtain ⟨t169, ht169, h⟩ := bind_s h
    refine WL.p rfl rfl rfl (.s 36 rfl (.k (.s 37 rfl .nil))) (q_call (f := 101) (A := bA t169) (xs := [.tmp 36, .const (.int .i64 0), .tmp 37]) («as» := [iA ((rd a0.fEdges a1).fFrom), iA 0, iA ((a0.fNodes.length : Int) - 1)]) rfl ca101 (ref04_in.con k ((rd a0.fEdges a1).fFrom) 0 ((a0.fNodes.length : Int) - 1) t169 ht169) rfl) <| p1 rfl 38 rfl (q_not rfl) <| mv rfl rfl ?_
    rcases bif_s h with ⟨hb170, h⟩ | ⟨hb170, h⟩
    ·refine sk rfl rfl rfl hb170 <| sk rfl rfl rfl hb170 <| sk rfl rfl rfl hb170 <| sk rfl rfl rfl hb170 <| sk rfl rfl rfl hb170 <| pk rfl 40 rfl (q_pickT rfl hb170) <| mv rfl rfl <| sk rfl rfl rfl rfl <| sk rfl rfl rfl rfl <| sk rfl rfl rfl rfl <| sk rfl rfl rfl rfl <| sk rfl rfl rfl rfl <| sk rfl rfl rfl rfl ?_
     refine pk rfl 47 rfl (q_pickT rfl rfl) <| mv rfl rfl <| sk rfl rfl rfl rfl <| sk rfl rfl rfl rfl <| sk rfl rfl rfl rfl <| sk rfl rfl rfl rfl <| sk rfl rfl rfl rfl <| sk rfl rfl rfl rfl <| pk rfl 55 rfl (q_pickT rfl rfl) <| WL.nil ?_
     exact QN.weaken (.one rfl (.nil _)) (Kj167 () true h)
    ·refine wf rfl rfl rfl hb170 rfl rfl fo60_2 rfl <| wl rfl rfl rfl hb170 rfl rfl sh3 <| wm rfl rfl rfl hb170 rfl rfl ?_
     obtain ⟨t171, ht171, h⟩ := bind_s h
     refine wq rfl rfl rfl hb170 (.s 42 rfl (.k (.s 43 rfl .nil))) (q_call (f := 101) (A := bA t171) (xs := [.tmp 42, .const (.int .i64 0), .tmp 43]) («as» := [iA ((rd a0.fEdges a1).fTo), iA 0, iA ((a0.fNodes.length : Int) - 1)]) rfl ca101 (ref04_in.con k ((rd a0.fEdges a1).fTo) 0 ((a0.fNodes.length : Int) - 1) t171 ht171) rfl).o <| wq rfl rfl rfl hb170 (.s 44 rfl .nil) (q_not rfl).o <| p2 rfl 40 rfl 45 rfl (q_pickF rfl hb170) <| mv rfl rfl ?_
     rcases bif_s h with ⟨hb172, h⟩ | ⟨hb172, h⟩
     ·refine sk rfl rfl rfl hb172 <| sk rfl rfl rfl hb172 <| sk rfl rfl rfl hb172 <| sk rfl rfl rfl hb172 <| sk rfl rfl rfl hb172 <| sk rfl rfl rfl hb172 <| pk rfl 47 rfl (q_pickT rfl hb172) <| mv rfl rfl <| sk rfl rfl rfl rfl <| sk rfl rfl rfl rfl <| sk rfl rfl rfl rfl <| sk rfl rfl rfl rfl <| sk rfl rfl rfl rfl ?_
      refine sk rfl rfl rfl rfl <| pk rfl 55 rfl (q_pickT rfl rfl) <| WL.nil ?_
      exact QN.weaken (.one rfl (.nil _)) (Kj167 () true h)
     ·refine wf rfl rfl rfl hb172 rfl rfl fo60_3 rfl <| wl rfl rfl rfl hb172 rfl rfl sh3 <| wf rfl rfl rfl hb172 rfl rfl fo60_4 rfl <| wl rfl rfl rfl hb172 rfl rfl sh3 ?_
      obtain ⟨t173, ht173, h⟩ := bind_s h
      refine wq rfl rfl rfl hb172 (.s 49 rfl (.s 51 rfl .nil)) (q_call (f := 139) (A := bA t173) (xs := [.tmp 49, .tmp 51]) («as» := [iA ((rd a0.fEdges a1).fOutLow), iA ((rd a0.fEdges a1).fOutHigh)]) rfl ca139 (ref04_bound.con k ((rd a0.fEdges a1).fOutLow) ((rd a0.fEdges a1).fOutHigh) t173 ht173) rfl).o <| wq rfl rfl rfl hb172 (.s 52 rfl .nil) (q_not rfl).o <| p2 rfl 47 rfl 53 rfl (q_pickF rfl hb172) <| mv rfl rfl ?_
      rcases bif_s h with ⟨hb174, h⟩ | ⟨hb174, h⟩
      ·refine sk rfl rfl rfl hb174 <| sk rfl rfl rfl hb174 <| sk rfl rfl rfl hb174 <| sk rfl rfl rfl hb174 <| sk rfl rfl rfl hb174 <| sk rfl rfl rfl hb174 <| pk rfl 55 rfl (q_pickT rfl hb174) <| WL.nil ?_
       exact QN.weaken (.one rfl (.nil _)) (Kj167 () true h)
      ·refine wf rfl rfl rfl hb174 rfl rfl fo60_5 rfl <| wl rfl rfl rfl hb174 rfl rfl sh3 <| wf rfl rfl rfl hb174 rfl rfl fo60_6 rfl <| wl rfl rfl rfl hb174 rfl rfl sh3 ?_
       obtain ⟨t175, ht175, h⟩ := bind_s h
       refine wq rfl rfl rfl hb174 (.s 57 rfl (.s 59 rfl .nil)) (q_call (f := 139) (A := bA t175) (xs := [.tmp 57, .tmp 59]) («as» := [iA ((rd a0.fEdges a1).fInLow), iA ((rd a0.fEdges a1).fInHigh)]) rfl ca139 (ref04_bound.con k ((rd a0.fEdges a1).fInLow) ((rd a0.fEdges a1).fInHigh) t175 ht175) rfl).o <| wq rfl rfl rfl hb174 (.s 60 rfl .nil) (q_not rfl).o <| p2 rfl 55 rfl 61 rfl (q_pickF rfl hb174) <| WL.nil ?_
       exact QN.weaken (.one rfl (.nil _)) (Kj167 () (!t175) h)
theorem ref04_Valid.con (k : Nat) (a0 : Types) (r : (Str × Int)) (h : ref04_Valid k a0 = some r) : Con Tryz.prog 50 [] [AggA [SlcA kNodeType a0.fNodes, SlcA kEdgeType a0.fEdges]] (RA (TupA [EqA (strV r.1), iA r.2])) := by
 unfold ref04_Valid at h
 refine Con.of (N := 60) Tryz.func50 rfl rfl rfl fun w0_ fg_ => sr <| p1 rfl 0 rfl (q_box rfl (CellsOf.agg _)) <| ak rfl <| ak rfl <| nt <| W.seq <| sr <| fd rfl rfl fo25_0 rfl <| ld rfl rfl sh22 ?_
 refine p1 rfl 9 rfl (q_len rfl elS22) <| pk rfl 10 rfl (q_int rfl rfl) <| nt ?_
 refine W.condP h rfl (fun hb100 h => ?_) (fun hb100 h => ?_)
 ·refine sr <| ak rfl <| ak rfl <| nt <| W.ret <| QR.then_ ?_
  cases h
  exact QR.f2 rfl rfl (.t rfl) (.t rfl) (.id _)
 ·refine W.skip <| QN.weaken (env' := [(1, _)]) (.one rfl (.nil _)) <| QN.then_ <| W.seq <| W.seq ?_
  refine W.jn1 (Γ := Unit) (fun (_ : Unit) (x21 : Bool) => [(1, PtrA [SlcA kNodeType a0.fNodes, SlcA kEdgeType a0.fEdges]), (21, bA x21)]) (fun (_ : Unit) (_ : Bool) => []) h (fun _ x21 h => ?_) (fun j103 Kj103 h => ?_)
  ·refine QN.then_ ?_
   refine W.condP h rfl (fun hb104 h => ?_) (fun hb104 h => ?_)
   ·refine sr <| ak rfl <| ak rfl <| nt <| W.ret <| QR.then_ ?_
    cases h
    exact QR.f2 rfl rfl (.t rfl) (.t rfl) (.id _)
   ·refine W.skip <| QN.then_ <| W.seq <| sr <| ak rfl <| nt <| W.block ?_
    refine W.loop1 (Γ := Unit) (fun (_ : Unit) (x4 : Int) => [(1, PtrA [SlcA kNodeType a0.fNodes, SlcA kEdgeType a0.fEdges]), (4, iA x4)]) (fun (_ : Unit) (_ : Int) => []) h () (.o2 rfl (.nil _)) rfl (fun rec0 K0 next0 _ x4 h => ?_)
    unfold ref04_Valid.b0 at h
    refine W.seq <| sr <| mv rfl rfl <| fd rfl rfl fo25_0 rfl <| ld rfl rfl sh22 <| p1 rfl 24 rfl (q_len rfl elS22) <| p2 rfl 22 rfl 25 rfl (q_int rfl rfl) <| nt ?_
    refine W.condP h rfl (fun hb145 h => ?_) (fun hb145 h => ?_)
    ·refine W.skip <| QN.then_ <| W.seq <| W.block <| sr <| lS rfl rfl sh25 rfl rfl <| mv rfl rfl ?_
     obtain ⟨t146, ht146, h⟩ := bind_s h
     refine p2 rfl 29 rfl 30 rfl (q_call (f := 96) (A := iA t146) (xs := [.tmp 29, .tmp 30]) («as» := [AggA [SlcA kNodeType a0.fNodes, SlcA kEdgeType a0.fEdges], iA x4]) rfl ca96 (ref04_node.con k a0 x4 t146 ht146) rfl) <| av rfl rfl <| WL.nil <| QN.weaken (env' := [(5, _), (4, _), (1, _)]) (.o2 rfl (.one rfl (.nil _))) <| QN.then_ <| sr <| mv rfl rfl <| pk rfl 32 rfl (q_int rfl rfl) <| nt ?_
     refine W.condP h rfl (fun hb147 h => ?_) (fun hb147 h => ?_)
     ·refine sr <| fd rfl rfl fo25_0 rfl <| ld rfl rfl sh22 <| mv rfl rfl ?_
      obtain ⟨c148, h⟩ := ite_n h
      refine p2 rfl 35 rfl 36 rfl (q_index rfl el22 rfl c148.1 c148.2) <| fd rfl rfl fo120_0 rfl <| ld rfl rfl sh9 <| mv rfl rfl <| av rfl rfl <| av rfl rfl <| WL.nil <| QN.weaken (env' := [(3, _), (2, _)]) (.o2 rfl (.nil _)) <| QN.then_ <| W.ret <| QR.block <| QR.then_ <| QR.then_ ?_
      refine QR.block <| QR.then_ ?_
      cases h
      exact QR.f2 rfl rfl (.t rfl) (.t rfl) (.id _)
     ·refine W.skip <| QN.block <| QN.then_ <| W.region <| mv rfl rfl ?_
      obtain ⟨c149, h⟩ := ite_n h
      refine pk rfl 27 rfl (q_addR rfl c149) <| av rfl rfl <| WL.nil ?_
      exact next0 () (x4 + 1) _ h (.o2 rfl (.nil _))
    ·refine W.exit <| QX.then_ <| QX.then_ <| QX.here <| QN.then_ <| W.seq <| sr <| ak rfl <| nt <| W.block ?_
     refine W.loop1 (Γ := Unit) (fun (_ : Unit) (x6 : Int) => [(1, PtrA [SlcA kNodeType a0.fNodes, SlcA kEdgeType a0.fEdges]), (6, iA x6)]) (fun (_ : Unit) (_ : Int) => []) h () (.o2 rfl (.nil _)) rfl (fun rec1 K1 next1 _ x6 h => ?_)
     unfold ref04_Valid.b1 at h
     refine W.seq <| sr <| mv rfl rfl <| fd rfl rfl fo25_1 rfl <| ld rfl rfl sh23 <| p1 rfl 43 rfl (q_len rfl elS23) <| p2 rfl 41 rfl 44 rfl (q_int rfl rfl) <| nt ?_
     refine W.condP h rfl (fun hb160 h => ?_) (fun hb160 h => ?_)
     ·refine W.skip <| QN.then_ <| W.seq <| W.block <| sr <| lS rfl rfl sh25 rfl rfl <| mv rfl rfl ?_
      obtain ⟨t161, ht161, h⟩ := bind_s h
      refine p2 rfl 48 rfl 49 rfl (q_call (f := 97) (A := iA t161) (xs := [.tmp 48, .tmp 49]) («as» := [AggA [SlcA kNodeType a0.fNodes, SlcA kEdgeType a0.fEdges], iA x6]) rfl ca97 (ref04_edge.con k a0 x6 t161 ht161) rfl) <| av rfl rfl <| WL.nil <| QN.weaken (env' := [(7, _), (6, _), (1, _)]) (.o2 rfl (.one rfl (.nil _))) <| QN.then_ <| sr <| mv rfl rfl <| pk rfl 51 rfl (q_int rfl rfl) <| nt ?_
      refine W.condP h rfl (fun hb162 h => ?_) (fun hb162 h => ?_)
      ·refine sr <| fd rfl rfl fo25_1 rfl <| ld rfl rfl sh23 <| mv rfl rfl ?_
       obtain ⟨c163, h⟩ := ite_n h
       refine p2 rfl 54 rfl 55 rfl (q_index rfl el23 rfl c163.1 c163.2) <| fd rfl rfl fo60_0 rfl <| ld rfl rfl sh9 <| mv rfl rfl <| av rfl rfl <| av rfl rfl <| WL.nil <| QN.weaken (env' := [(3, _), (2, _)]) (.o2 rfl (.nil _)) <| QN.then_ <| W.ret <| QR.block <| QR.then_ <| QR.then_ ?_
       refine QR.block <| QR.then_ ?_
       cases h
       exact QR.f2 rfl rfl (.t rfl) (.t rfl) (.id _)
      ·refine W.skip <| QN.block <| QN.then_ <| W.region <| mv rfl rfl ?_
       obtain ⟨c164, h⟩ := ite_n h
       refine pk rfl 46 rfl (q_addR rfl c164) <| av rfl rfl <| WL.nil ?_
       exact next1 () (x6 + 1) _ h (.o2 rfl (.nil _))
     ·refine W.exit <| QX.then_ <| QX.then_ <| QX.here <| QN.weaken (env' := []) (.nil _) <| QN.then_ <| sr <| ak rfl <| ak rfl <| nt <| W.ret ?_
      cases h
      exact QR.f2 rfl rfl (.t rfl) (.t rfl) (.id _)
  ·refine W.region <| fd rfl rfl fo25_0 rfl <| ld rfl rfl sh22 <| p1 rfl 13 rfl (q_len rfl elS22) <| pk rfl 14 rfl (q_int rfl rfl) <| mv rfl rfl ?_
   rcases bif_s h with ⟨hb165, h⟩ | ⟨hb165, h⟩
   ·refine sk rfl rfl rfl hb165 <| sk rfl rfl rfl hb165 <| sk rfl rfl rfl hb165 <| sk rfl rfl rfl hb165 <| pk rfl 16 rfl (q_pickT rfl hb165) <| WL.nil ?_
    exact QN.weaken (.o2 rfl (.nil _)) (Kj103 () true h)
   ·refine wf rfl rfl rfl hb165 rfl rfl fo25_1 rfl <| wl rfl rfl rfl hb165 rfl rfl sh23 <| wq rfl rfl rfl hb165 (.s 18 rfl .nil) (q_len rfl elS23).o <| wq rfl rfl rfl hb165 (.s 19 rfl (.k .nil)) (q_int rfl rfl).o <| p2 rfl 16 rfl 20 rfl (q_pickF rfl hb165) <| WL.nil ?_
    exact QN.weaken (.o2 rfl (.nil _)) (Kj103 () (decide ((a0.fEdges.length : Int) > 20)) h)
theorem ref05_kind.con (k : Nat) (a0 : Int) (r : Bool) (h : ref05_kind k a0 = some r) : Con Tryz.prog 98 [] [iA a0] (RA (bA r)) := by
 unfold ref05_kind at h
 refine Con.of (N := 9) Tryz.func98 rfl rfl rfl fun w0_ fg_ => sr <| ak rfl <| nt <| W.seq ?_
 refine W.jn1 (Γ := Unit) (fun (_ : Unit) (x2 : Bool) => [(2, bA x2)]) (fun (_ : Unit) (_ : Bool) => []) h (fun _ x2 h => ?_) (fun j102 Kj102 h => ?_)
 ·refine QN.then_ <| W.ret ?_
  cases h
  exact QR.f1 rfl rfl (.t rfl) (.id _)
 ·refine W.region <| mv rfl rfl <| pk rfl 3 rfl (q_int rfl rfl) <| mv rfl rfl ?_
  rcases bif_s h with ⟨hb103, h⟩ | ⟨hb103, h⟩
  ·refine wm rfl rfl rfl hb103 rfl rfl <| wq rfl rfl rfl hb103 (.s 6 rfl (.k .nil)) (q_int rfl rfl).o <| p2 rfl 5 rfl 7 rfl (q_pickT rfl hb103) <| av rfl rfl <| WL.nil ?_
   exact QN.weaken (.one rfl (.nil _)) (Kj102 () (decide (a0 ≤ 99)) h)
  ·refine sk rfl rfl rfl hb103 <| sk rfl rfl rfl hb103 <| pk rfl 5 rfl (q_pickF rfl hb103) <| av rfl rfl <| WL.nil ?_
   exact QN.weaken (.one rfl (.nil _)) (Kj102 () false h)
theorem ref05_right.con (k : Nat) (a0 : Edge) (a1 : Int) (r : Bool) (h : ref05_right k a0 a1 = some r) : Con Tryz.prog 99 [] [AggA [iA a0.fType, iA a0.fFrom, iA a0.fTo], iA a1] (RA (bA r)) := by
 unfold ref05_right at h
 refine Con.of (N := 30) Tryz.func99 rfl rfl rfl fun w0_ fg_ => sr <| p1 rfl 0 rfl (q_box rfl (CellsOf.agg _)) <| ak rfl <| nt <| W.seq ?_
 refine W.jn1 (Γ := Unit) (fun (_ : Unit) (x4 : Bool) => [(4, bA x4)]) (fun (_ : Unit) (_ : Bool) => []) h (fun _ x4 h => ?_) (fun j106 Kj106 h => ?_)
 ·refine QN.then_ <| W.ret ?_
  cases h
  exact QR.f1 rfl rfl (.t rfl) (.id _)
 ·refine W.region <| fd rfl rfl fo63_0 rfl <| ld rfl rfl sh3 ?_
  obtain ⟨t107, ht107, h⟩ := bind_s h
  refine p1 rfl 6 rfl (q_call (f := 98) (A := bA t107) (xs := [.tmp 6]) («as» := [iA a0.fType]) rfl ca98 (ref05_kind.con k a0.fType t107 ht107) rfl) <| mv rfl rfl ?_
  rcases bif_s h with ⟨hb108, h⟩ | ⟨hb108, h⟩
  ·refine wf rfl rfl rfl hb108 rfl rfl fo63_1 rfl <| wl rfl rfl rfl hb108 rfl rfl sh3 <| wq rfl rfl rfl hb108 (.s 10 rfl (.k .nil)) (q_int rfl rfl).o <| p2 rfl 8 rfl 11 rfl (q_pickT rfl hb108) <| mv rfl rfl ?_
   rcases bif_s h with ⟨hb109, h⟩ | ⟨hb109, h⟩
   ·refine wf rfl rfl rfl hb109 rfl rfl fo63_1 rfl <| wl rfl rfl rfl hb109 rfl rfl sh3 <| wm rfl rfl rfl hb109 rfl rfl <| wq rfl rfl rfl hb109 (.s 15 rfl (.s 16 rfl .nil)) (q_int rfl rfl).o <| p2 rfl 13 rfl 17 rfl (q_pickT rfl hb109) <| mv rfl rfl ?_
    rcases bif_s h with ⟨hb110, h⟩ | ⟨hb110, h⟩
    ·refine wf rfl rfl rfl hb110 rfl rfl fo63_2 rfl <| wl rfl rfl rfl hb110 rfl rfl sh3 <| wq rfl rfl rfl hb110 (.s 21 rfl (.k .nil)) (q_int rfl rfl).o <| p2 rfl 19 rfl 22 rfl (q_pickT rfl hb110) <| mv rfl rfl ?_
     rcases bif_s h with ⟨hb111, h⟩ | ⟨hb111, h⟩
     ·refine wf rfl rfl rfl hb111 rfl rfl fo63_2 rfl <| wl rfl rfl rfl hb111 rfl rfl sh3 <| wm rfl rfl rfl hb111 rfl rfl <| wq rfl rfl rfl hb111 (.s 26 rfl (.s 27 rfl .nil)) (q_int rfl rfl).o <| p2 rfl 24 rfl 28 rfl (q_pickT rfl hb111) <| av rfl rfl <| WL.nil ?_
      exact QN.weaken (.one rfl (.nil _)) (Kj106 () (decide (a0.fTo < a1)) h)
     ·refine sk rfl rfl rfl hb111 <| sk rfl rfl rfl hb111 <| sk rfl rfl rfl hb111 <| sk rfl rfl rfl hb111 <| pk rfl 24 rfl (q_pickF rfl hb111) <| av rfl rfl <| WL.nil ?_
      exact QN.weaken (.one rfl (.nil _)) (Kj106 () false h)
    ·refine sk rfl rfl rfl hb110 <| sk rfl rfl rfl hb110 <| sk rfl rfl rfl hb110 <| pk rfl 19 rfl (q_pickF rfl hb110) <| mv rfl rfl <| sk rfl rfl rfl rfl <| sk rfl rfl rfl rfl <| sk rfl rfl rfl rfl <| sk rfl rfl rfl rfl <| pk rfl 24 rfl (q_pickF rfl rfl) <| av rfl rfl <| WL.nil ?_
     exact QN.weaken (.one rfl (.nil _)) (Kj106 () false h)
   ·refine sk rfl rfl rfl hb109 <| sk rfl rfl rfl hb109 <| sk rfl rfl rfl hb109 <| sk rfl rfl rfl hb109 <| pk rfl 13 rfl (q_pickF rfl hb109) <| mv rfl rfl <| sk rfl rfl rfl rfl <| sk rfl rfl rfl rfl <| sk rfl rfl rfl rfl <| pk rfl 19 rfl (q_pickF rfl rfl) <| mv rfl rfl <| sk rfl rfl rfl rfl <| sk rfl rfl rfl rfl ?_
    refine sk rfl rfl rfl rfl <| sk rfl rfl rfl rfl <| pk rfl 24 rfl (q_pickF rfl rfl) <| av rfl rfl <| WL.nil ?_
    exact QN.weaken (.one rfl (.nil _)) (Kj106 () false h)
  ·refine sk rfl rfl rfl hb108 <| sk rfl rfl rfl hb108 <| sk rfl rfl rfl hb108 <| pk rfl 8 rfl (q_pickF rfl hb108) <| mv rfl rfl <| sk rfl rfl rfl rfl <| sk rfl rfl rfl rfl <| sk rfl rfl rfl rfl <| sk rfl rfl rfl rfl <| pk rfl 13 rfl (q_pickF rfl rfl) <| mv rfl rfl <| sk rfl rfl rfl rfl <| sk rfl rfl rfl rfl ?_
   refine sk rfl rfl rfl rfl <| pk rfl 19 rfl (q_pickF rfl rfl) <| mv rfl rfl <| sk rfl rfl rfl rfl <| sk rfl rfl rfl rfl <| sk rfl rfl rfl rfl <| sk rfl rfl rfl rfl <| pk rfl 24 rfl (q_pickF rfl rfl) <| av rfl rfl <| WL.nil ?_
   exact QN.weaken (.one rfl (.nil _)) (Kj106 () false h)
theorem ref05_Valid.con (k : Nat) (a0 : Graph) (r : Int) (h : ref05_Valid k a0 = some r) : Con Tryz.prog 51 [] [AggA [SlcA kInt a0.fNodes, SlcA kEdge a0.fEdges]] (RA (iA r)) := by
 unfold ref05_Valid at h
 refine Con.of (N := 46) Tryz.func51 rfl rfl rfl fun w0_ fg_ => sr <| p1 rfl 0 rfl (q_box rfl (CellsOf.agg _)) <| ak rfl <| nt <| W.seq <| W.seq ?_
 refine W.jn1 (Γ := Unit) (fun (_ : Unit) (x14 : Bool) => [(1, PtrA [SlcA kInt a0.fNodes, SlcA kEdge a0.fEdges]), (14, bA x14)]) (fun (_ : Unit) (_ : Bool) => []) h (fun _ x14 h => ?_) (fun j102 Kj102 h => ?_)
 ·refine QN.then_ ?_
  refine W.condP h rfl (fun hb103 h => ?_) (fun hb103 h => ?_)
  ·refine sr <| ak rfl <| nt <| W.ret <| QR.then_ ?_
   cases h
   exact QR.f1 rfl rfl (.t rfl) (.id _)
  ·refine W.skip <| QN.then_ <| W.seq <| sr <| ak rfl <| nt <| W.block ?_
   refine W.loop1 (Γ := Unit) (fun (_ : Unit) (x3 : Int) => [(1, PtrA [SlcA kInt a0.fNodes, SlcA kEdge a0.fEdges]), (3, iA x3)]) (fun (_ : Unit) (_ : Int) => []) h () (.o2 rfl (.nil _)) rfl (fun rec0 K0 next0 _ x3 h => ?_)
   unfold ref05_Valid.b0 at h
   refine W.seq <| sr <| mv rfl rfl <| fd rfl rfl fo29_0 rfl <| ld rfl rfl sh26 <| p1 rfl 17 rfl (q_len rfl elS26) <| p2 rfl 15 rfl 18 rfl (q_int rfl rfl) <| nt ?_
   refine W.condP h rfl (fun hb168 h => ?_) (fun hb168 h => ?_)
   ·refine W.skip <| QN.then_ <| W.seq <| W.block <| sr <| fd rfl rfl fo29_0 rfl <| ld rfl rfl sh26 <| mv rfl rfl ?_
    obtain ⟨c169, h⟩ := ite_n h
    refine p2 rfl 23 rfl 24 rfl (q_index rfl el26 rfl c169.1 c169.2) <| ld rfl rfl sh3 ?_
    obtain ⟨t170, ht170, h⟩ := bind_s h
    refine p1 rfl 26 rfl (q_call (f := 98) (A := bA t170) (xs := [.tmp 26]) («as» := [iA (rd a0.fNodes x3)]) rfl ca98 (ref05_kind.con k (rd a0.fNodes x3) t170 ht170) rfl) <| p1 rfl 27 rfl (q_not rfl) <| WL.nil <| QN.weaken (env' := [(28, _), (3, _), (1, _)]) (.o2 rfl (.one rfl (.nil _))) <| QN.then_ ?_
    refine W.condP h rfl (fun hb171 h => ?_) (fun hb171 h => ?_)
    ·refine sr <| ak rfl <| nt <| W.ret <| QR.block <| QR.then_ <| QR.then_ <| QR.block <| QR.then_ ?_
     cases h
     exact QR.f1 rfl rfl (.t rfl) (.id _)
    ·refine W.skip <| QN.block <| QN.then_ <| W.region <| mv rfl rfl ?_
     obtain ⟨c172, h⟩ := ite_n h
     refine pk rfl 20 rfl (q_addR rfl c172) <| av rfl rfl <| WL.nil ?_
     exact next0 () (x3 + 1) _ h (.o2 rfl (.nil _))
   ·refine W.exit <| QX.then_ <| QX.then_ <| QX.here <| QN.then_ <| W.seq <| sr <| ak rfl <| nt <| W.block ?_
    refine W.loop1 (Γ := Unit) (fun (_ : Unit) (x4 : Int) => [(1, PtrA [SlcA kInt a0.fNodes, SlcA kEdge a0.fEdges]), (4, iA x4)]) (fun (_ : Unit) (_ : Int) => []) h () (.o2 rfl (.nil _)) rfl (fun rec1 K1 next1 _ x4 h => ?_)
    unfold ref05_Valid.b1 at h
    refine W.seq <| sr <| mv rfl rfl <| fd rfl rfl fo29_1 rfl <| ld rfl rfl sh27 <| p1 rfl 31 rfl (q_len rfl elS27) <| p2 rfl 29 rfl 32 rfl (q_int rfl rfl) <| nt ?_
    refine W.condP h rfl (fun hb191 h => ?_) (fun hb191 h => ?_)
    ·refine W.skip <| QN.then_ <| W.seq <| W.block <| W.seq <| W.drawK [(0, false), (1, false), (2, false), (3, false), (4, false), (5, false), (6, false), (7, false), (8, false), (9, false)] [] (bm [0, 1, 0, 7, 15, 0, 32, 96, 255, 511]) mx (by kernel_rfl) <| df rfl rfl rfl fo29_1 rfl <| dl rfl rfl rfl sh27 <| dm rfl rfl rfl ?_
     obtain ⟨c196, h⟩ := ite_n h
     refine DK.cons rfl rfl (.p rfl (.s 37 rfl (.s 38 rfl .nil)) rfl (q_index rfl el27 rfl c196.1 c196.2)) <| DK.cons rfl rfl (.p rfl (.s 39 rfl .nil) rfl (q_loadS rfl sh63 (leB rfl) rfl)) <| df rfl rfl rfl fo29_0 rfl <| dl rfl rfl rfl sh26 <| DK.cons rfl rfl (.p rfl (.s 42 rfl .nil) rfl (q_len rfl elS26)) ?_
     obtain ⟨t197, ht197, h⟩ := bind_s h
     refine DK.cons rfl rfl (.p rfl (.s 40 rfl (.s 43 rfl .nil)) rfl (q_call (f := 99) (A := bA t197) (xs := [.tmp 40, .tmp 43]) («as» := [AggA [iA ((rd a0.fEdges x4).fType), iA ((rd a0.fEdges x4).fFrom), iA ((rd a0.fEdges x4).fTo)], iA (a0.fNodes.length : Int)]) rfl ca99 (ref05_right.con k (rd a0.fEdges x4) (a0.fNodes.length : Int) t197 ht197) rfl)) <| DK.cons rfl rfl (.p rfl (.s 44 rfl .nil) rfl (q_not rfl)) <| DK.nil <| CSteps.nil <| QN.weaken (env' := [(45, _), (4, _), (1, _)]) (.o2 rfl (.one rfl (.nil _))) <| QN.then_ ?_
     refine W.condP h rfl (fun hb198 h => ?_) (fun hb198 h => ?_)
     ·refine sr <| ak rfl <| nt <| W.ret <| QR.block <| QR.then_ <| QR.then_ <| QR.block <| QR.then_ ?_
      cases h
      exact QR.f1 rfl rfl (.t rfl) (.id _)
     ·refine W.skip <| QN.block <| QN.then_ <| W.region <| mv rfl rfl ?_
      obtain ⟨c199, h⟩ := ite_n h
      refine pk rfl 34 rfl (q_addR rfl c199) <| av rfl rfl <| WL.nil ?_
      exact next1 () (x4 + 1) _ h (.o2 rfl (.nil _))
    ·refine W.exit <| QX.then_ <| QX.then_ <| QX.here <| QN.weaken (env' := []) (.nil _) <| QN.then_ <| sr <| ak rfl <| nt <| W.ret ?_
     cases h
     exact QR.f1 rfl rfl (.t rfl) (.id _)
 ·refine W.region <| fd rfl rfl fo29_0 rfl <| ld rfl rfl sh26 <| p1 rfl 6 rfl (q_len rfl elS26) <| pk rfl 7 rfl (q_int rfl rfl) <| mv rfl rfl ?_
  rcases bif_s h with ⟨hb200, h⟩ | ⟨hb200, h⟩
  ·refine sk rfl rfl rfl hb200 <| sk rfl rfl rfl hb200 <| sk rfl rfl rfl hb200 <| sk rfl rfl rfl hb200 <| pk rfl 9 rfl (q_pickT rfl hb200) <| WL.nil ?_
   exact QN.weaken (.o2 rfl (.nil _)) (Kj102 () true h)
  ·refine wf rfl rfl rfl hb200 rfl rfl fo29_1 rfl <| wl rfl rfl rfl hb200 rfl rfl sh27 <| wq rfl rfl rfl hb200 (.s 11 rfl .nil) (q_len rfl elS27).o <| wq rfl rfl rfl hb200 (.s 12 rfl (.k .nil)) (q_int rfl rfl).o <| p2 rfl 9 rfl 13 rfl (q_pickF rfl hb200) <| WL.nil ?_
   exact QN.weaken (.o2 rfl (.nil _)) (Kj102 () (decide ((a0.fEdges.length : Int) > 80)) h)
theorem ref04_given.con (k : Nat) (a0 : Types) (a1 : Int) (a2 : Int) (r : Int) (h : ref04_given k a0 a1 a2 = some r) : Con Tryz.prog 100 [] [AggA [SlcA kNodeType a0.fNodes, SlcA kEdgeType a0.fEdges], iA a1, iA a2] (RA (iA r)) := by
 unfold ref04_given at h
 refine Con.of (N := 33) Tryz.func100 rfl rfl rfl fun w0_ fg_ => sr <| p1 rfl 0 rfl (q_box rfl (CellsOf.agg _)) <| ak rfl <| nt <| W.seq <| sr <| lS rfl rfl sh25 rfl rfl ?_
 obtain ⟨t100, ht100, h⟩ := bind_s h
 refine p1 rfl 10 rfl (q_call (f := 50) (A := TupA [EqA (strV t100.1), iA t100.2]) (xs := [.tmp 10]) («as» := [AggA [SlcA kNodeType a0.fNodes, SlcA kEdgeType a0.fEdges]]) rfl ca50 (ref04_Valid.con k a0 t100 ht100) rfl) <| mv rfl rfl <| p1 rfl 9 rfl (q_extract rfl rfl) <| p1 rfl 9 rfl (q_extract rfl rfl) <| av rfl rfl <| av rfl rfl <| WL.nil <| QN.weaken (env' := [(8, _), (3, _), (2, _), (1, _)]) (.o4 rfl (.nil _)) <| QN.then_ <| sr <| mv rfl rfl <| pk rfl 14 rfl (q_int rfl rfl) ?_
 refine nt ?_
 refine W.condP h rfl (fun hb101 h => ?_) (fun hb101 h => ?_)
 ·refine sr <| mv rfl rfl <| av rfl rfl <| WL.nil <| QN.weaken (env' := [(6, _)]) (.one rfl (.nil _)) <| QN.then_ <| W.ret <| QR.then_ ?_
  cases h
  exact QR.f1 rfl rfl (.t rfl) (.id _)
 ·refine W.skip <| QN.then_ <| W.seq <| W.seq ?_
  refine W.jn1 (Γ := Unit) (fun (_ : Unit) (x32 : Bool) => [(32, bA x32)]) (fun (_ : Unit) (_ : Bool) => []) h (fun _ x32 h => ?_) (fun j108 Kj108 h => ?_)
  ·refine QN.then_ ?_
   refine W.condP h rfl (fun hb109 h => ?_) (fun hb109 h => ?_)
   ·refine sr <| ak rfl <| nt <| W.ret <| QR.then_ ?_
    cases h
    exact QR.f1 rfl rfl (.t rfl) (.id _)
   ·refine W.skip <| QN.then_ <| sr <| ak rfl <| nt <| W.ret ?_
    cases h
    exact QR.f1 rfl rfl (.t rfl) (.id _)
  ·refine W.region <| mv rfl rfl <| fd rfl rfl fo25_0 rfl <| ld rfl rfl sh22 <| p1 rfl 19 rfl (q_len rfl elS22) ?_
   obtain ⟨c110, h⟩ := ite_n h
   refine pk rfl 20 rfl (q_subR rfl c110) ?_
   obtain ⟨t111, ht111, h⟩ := bind_s h
   refine WL.p rfl rfl rfl (.s 17 rfl (.k (.s 21 rfl .nil))) (q_call (f := 101) (A := bA t111) (xs := [.tmp 17, .const (.int .i64 0), .tmp 21]) («as» := [iA a1, iA 0, iA ((a0.fNodes.length : Int) - 1)]) rfl ca101 (ref04_in.con k a1 0 ((a0.fNodes.length : Int) - 1) t111 ht111) rfl) <| p1 rfl 22 rfl (q_not rfl) <| mv rfl rfl ?_
   rcases bif_s h with ⟨hb112, h⟩ | ⟨hb112, h⟩
   ·refine sk rfl rfl rfl hb112 <| sk rfl rfl rfl hb112 <| sk rfl rfl rfl hb112 <| sk rfl rfl rfl hb112 <| sk rfl rfl rfl hb112 <| sk rfl rfl rfl hb112 <| sk rfl rfl rfl hb112 <| pk rfl 24 rfl (q_pickT rfl hb112) <| WL.nil ?_
    exact QN.weaken (.one rfl (.nil _)) (Kj108 () true h)
   ·refine wm rfl rfl rfl hb112 rfl rfl <| wf rfl rfl rfl hb112 rfl rfl fo25_0 rfl <| wl rfl rfl rfl hb112 rfl rfl sh22 <| wq rfl rfl rfl hb112 (.s 27 rfl .nil) (q_len rfl elS22).o ?_
    obtain ⟨c113, h⟩ := ite_n h
    refine wq rfl rfl rfl hb112 (.s 28 rfl (.k .nil)) (q_subR rfl c113).o ?_
    obtain ⟨t114, ht114, h⟩ := bind_s h
    refine wq rfl rfl rfl hb112 (.s 25 rfl (.k (.s 29 rfl .nil))) (q_call (f := 101) (A := bA t114) (xs := [.tmp 25, .const (.int .i64 0), .tmp 29]) («as» := [iA a2, iA 0, iA ((a0.fNodes.length : Int) - 1)]) rfl ca101 (ref04_in.con k a2 0 ((a0.fNodes.length : Int) - 1) t114 ht114) rfl).o <| wq rfl rfl rfl hb112 (.s 30 rfl .nil) (q_not rfl).o <| p2 rfl 24 rfl 31 rfl (q_pickF rfl hb112) <| WL.nil ?_
    exact QN.weaken (.one rfl (.nil _)) (Kj108 () (!t114) h)
theorem ref04_Attrs.con (k : Nat) (a0 : Types) (a1 : Int) (r : ((List Attr) × Int)) (h : ref04_Attrs k a0 a1 = some r) : Con Tryz.prog 68 [] [AggA [SlcA kNodeType a0.fNodes, SlcA kEdgeType a0.fEdges], iA a1] (RA (TupA [SlcA kAttr r.1, iA r.2])) := by
 unfold ref04_Attrs at h
 refine Con.of (N := 41) Tryz.func68 rfl rfl rfl fun w0_ fg_ => sr <| p1 rfl 0 rfl (q_box rfl (CellsOf.agg _)) <| ak rfl <| ak rfl <| nt <| W.seq <| sr <| lS rfl rfl sh25 rfl rfl <| mv rfl rfl ?_
 refine mv rfl rfl ?_
 obtain ⟨t100, ht100, h⟩ := bind_s h
 refine WL.p rfl rfl rfl (.s 11 rfl (.s 12 rfl (.s 13 rfl .nil))) (q_call (f := 100) (A := iA t100) (xs := [.tmp 11, .tmp 12, .tmp 13]) («as» := [AggA [SlcA kNodeType a0.fNodes, SlcA kEdgeType a0.fEdges], iA a1, iA a1]) rfl ca100 (ref04_given.con k a0 a1 a1 t100 ht100) rfl) <| av rfl rfl <| WL.nil <| QN.weaken (env' := [(6, _), (2, _), (1, _)]) (.o2 rfl (.one rfl (.nil _))) <| QN.then_ <| sr <| mv rfl rfl <| pk rfl 15 rfl (q_int rfl rfl) <| nt ?_
 refine W.condP h rfl (fun hb101 h => ?_) (fun hb101 h => ?_)
 ·refine sr <| mv rfl rfl <| ak rfl <| av rfl rfl <| nt <| W.ret <| QR.then_ ?_
  cases h
  exact QR.f2 rfl rfl (.t rfl) (.t rfl) (.imp (Imp.tup (.cons (Imp.nil kAttr) (.cons (Imp.id _) .nil))))
 ·refine W.skip <| QN.then_ <| sr <| ak rfl <| nx <| lS rfl rfl sh25 rfl rfl <| mv rfl rfl ?_
  obtain ⟨t102, ht102, h⟩ := bind_s h
  refine p2 rfl 18 rfl 19 rfl (q_call (f := 113) (A := SlcA kAttr t102) (xs := [.tmp 18, .tmp 19]) («as» := [AggA [SlcA kNodeType a0.fNodes, SlcA kEdgeType a0.fEdges], iA a1]) rfl ca113 (ref04_attrs.con k a0 a1 t102 ht102) rfl) <| av rfl rfl <| WL.nil <| QN.weaken (env' := [(8, _), (7, _)]) (.o2 rfl (.nil _)) <| QN.then_ <| W.seq <| sr <| ak rfl <| nt <| W.block <| W.to (StTo.newNil 117 kAttr) ?_
  refine W.to (StTo.as 7 rfl Imp.nilHd) ?_
  refine W.loop2 (Γ := Value) (fun (g0 : Value) (_ : (List Attr)) (x9 : Int) => [(7, HdA g0), (8, SlcA kAttr t102), (9, iA x9)]) (fun (g0 : Value) (x7 : (List Attr)) (_ : Int) => [SlE 117 g0 kAttr x7]) h (.slice none 0 0) (.o2 rfl (.one rfl (.nil _))) rfl (fun rec0 K0 next0 g0 x7 x9 h => ?_)
  unfold ref04_Attrs.b0 at h
  refine W.seq <| sr <| mv rfl rfl <| mv rfl rfl <| p1 rfl 22 rfl (q_len rfl elS118) <| p2 rfl 21 rfl 23 rfl (q_int rfl rfl) <| nt ?_
  refine W.condP h rfl (fun hb124 h => ?_) (fun hb124 h => ?_)
  ·refine W.skip <| QN.then_ <| W.seq <| W.block <| sr <| mv rfl rfl <| mv rfl rfl ?_
   obtain ⟨c125, h⟩ := ite_n h
   refine p2 rfl 27 rfl 28 rfl (q_index rfl el118 rfl c125.1 c125.2) <| lS rfl rfl sh117 rfl rfl <| WL.w [] rfl (Wanted.plain rfl) rfl rfl .nil (w_alloc rfl z117 (l := [EqA (strV ([] : Str)), iA 0, iA 0, EqA (.slice none 0 0)]) rfl) ?_
   rintro _ _ ⟨b126, rfl, rfl⟩
   refine WL.w0 [0] rfl (Wanted.plain rfl) rfl (.s 10 rfl (.s 30 rfl .nil)) (w_store (L := [EqA (strV ((rd t102 x9).fName)), iA ((rd t102 x9).fLow), iA ((rd t102 x9).fHigh), SlcA kStr ((rd t102 x9).fNames)]) rfl sh117 (CellsOf.agg _) rfl rfl (leB rfl) rfl) ?_
   rintro _ _ ⟨rfl, rfl⟩
   refine WL.nil <| QN.weaken (env' := [(10, _), (9, _), (8, _), (7, _)]) (.o4 rfl (.nil _)) <| QN.then_ <| sr <| WL.p rfl rfl rfl .nil (q_lit0 rfl el115 gr9) <| p1 rfl 10 rfl (q_fieldP rfl fo117_3) <| WL.q (Wanted.plain rfl) rfl rfl (.s 32 rfl .nil) (q_loadB rfl sh115 (i := 0) rfl rfl) ?_
   obtain ⟨c127, h⟩ := ite_n h
   refine p2 rfl 31 rfl 33 rfl (QS.of_new (w_appendZ (kd := kStr) rfl el115 rfl gr9 c127)) <| p1 rfl 10 rfl (q_fieldP rfl fo117_3) <| WL.w0 [0] rfl (Wanted.plain rfl) rfl (.s 35 rfl (.s 34 rfl .nil)) (w_store (L := [EqA (strV ((rd t102 x9).fName)), iA ((rd t102 x9).fLow), iA ((rd t102 x9).fHigh), SlcA kStr ((rd t102 x9).fNames)]) rfl sh115 (CellsOf.one rfl) rfl rfl (leB rfl) rfl) ?_
   rintro _ _ ⟨rfl, rfl⟩
   refine nt <| W.region <| mv rfl rfl <| WL.q (Wanted.plain rfl) rfl rfl (.s 10 rfl .nil) (q_loadBS (l' := [EqA (strV ((rd t102 x9).fName)), iA ((rd t102 x9).fLow), iA ((rd t102 x9).fHigh), SlcA kStr ((rd t102 x9).fNames)]) rfl sh117 (i := 0) rfl rfl rfl) <| p1 rfl 37 rfl (q_lit (kd := kAttr) (ps := [(0, .tmp 37)]) (xs := [.tmp 37]) («as» := [AggA [EqA (strV ((rd t102 x9).fName)), iA ((rd t102 x9).fLow), iA ((rd t102 x9).fHigh), SlcA kStr ((rd t102 x9).fNames)]]) (ys := [(rd t102 x9)]) rfl rfl el118 rfl gr117 rfl rfl rfl (.cons (CellsOf.agg _) .nil)) ?_
   obtain ⟨c128, h⟩ := ite_n h
   refine WL.w [1] rfl (Wanted.plain rfl) rfl rfl (.s 36 rfl (.s 38 rfl .nil)) (w_append (kd := kAttr) rfl el118 rfl gr117 c128) ?_
   rintro _ _ ⟨v129, rfl, rfl⟩
   refine av rfl rfl <| WL.nil <| QN.block <| QN.weaken (env' := [(7, _), (9, _), (8, _)]) (.o2 rfl (.one rfl (.nil _))) <| QN.then_ <| W.region <| mv rfl rfl ?_
   obtain ⟨c130, h⟩ := ite_n h
   refine pk rfl 25 rfl (q_addR rfl c130) <| av rfl rfl <| WL.nil <| QN.drop [1] rfl ?_
   exact next0 v129 (x7 ++ [(rd t102 x9)]) (x9 + 1) _ h (.o2 rfl (.one rfl (.nil _)))
  ·refine W.exit <| QX.then_ <| QX.then_ <| QX.here <| QN.then_ <| sr <| mv rfl rfl <| av rfl rfl <| ak rfl <| WL.nil <| QN.weaken (env' := [(5, _), (4, _)]) (.o2 rfl (.nil _)) <| QN.then_ ?_
   refine W.ret ?_
   cases h
   exact QR.f2 rfl rfl (.t rfl) (.t rfl) (.tup (.cons (.slc 0 rfl) (.cons (.id _) .nil)))
end Go.Proofs.YthmdmchmmgmblaaGreat
