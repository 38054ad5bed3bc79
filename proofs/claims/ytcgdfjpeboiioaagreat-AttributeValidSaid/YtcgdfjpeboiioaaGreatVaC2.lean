import Derived.Test.YtcgdfjpeboiioaaGreatVaC1
namespace Go.Proofs.YtcgdfjpeboiioaaGreat
open Go Go.Abs
attribute [local irreducible] Tryz.prog
theorem types_attribute.con (k : Nat) (a0 : Attr) (a1 : (List Attr)) (r : Int) (h : types_attribute k a0 a1 = some r) : Con Tryz.prog 146 [] [AggA [EqA (strV a0.fName), iA a0.fLow, iA a0.fHigh, SlcA kStr a0.fNames], SlcA kAttr a1] (RA (iA r)) := by
 unfold types_attribute at h
 refine vJ (N := 55) Tryz.func146 R R R fun w0_ fg_ => sr <| p1 R 0 R (q_box R (qy _)) <| ak R <| nt <| qX <| vx <| sr <| fd R R fo95_0 R <| ld R R sh9 ?_
 obtain ⟨t100, ht100, h⟩ := vw h
 refine p1 R 9 R (vy (f := 143) (A := bA t100) (xs := [.tmp 9]) («as» := [EqA (strV a0.fName)]) R ca143 (token_IsName.con k a0.fName t100 ht100) R) <| p1 R 10 R (q_not R) <| av R R <| nt ?_
 refine qZ h R (fun hb101 h => ?_) (fun hb101 h => ?_)
 ·refine sr <| ak R <| qx <| qw (env' := [(4, _)]) (.one R (.nil _)) <| qq <| vq <| vz <| qQ ?_
  cases h
  exact vW R R (.t R) (.id _)
 ·refine sr <| mv R R <| p1 R 2 R (q_makeFunc (xs := [.tmp 2]) (L := [PtrA [EqA (strV a0.fName), iA a0.fLow, iA a0.fHigh, SlcA kStr a0.fNames]]) («as» := (fun (x : Attr) => [AggA [EqA (strV x.fName), iA x.fLow, iA x.fHigh, SlcA kStr x.fNames]])) (res := (fun (y : Bool) => bA y)) (p := (fun x => types_attribute_1 k x a0)) R ca178 R (fun x y hp => (types_attribute_1.con k x a0 y hp))) ?_
  obtain ⟨t102, ht102, h⟩ := vw h
  refine p2 R 13 R 14 R (vy (f := 177) (A := bA t102) (xs := [.tmp 13, .tmp 14]) («as» := [SlcA kAttr a1, FnA Tryz.prog (fun (x : Attr) => [AggA [EqA (strV x.fName), iA x.fLow, iA x.fHigh, SlcA kStr x.fNames]]) (fun (y : Bool) => bA y) (fun x => types_attribute_1 k x a0)]) R ca177 (slices_ContainsFunc_Attr.con k a1 (fun x => types_attribute_1 k x a0) t102 ht102) R) <| av R R <| qx <| qw (env' := [(12, _), (2, _)]) (.o2 R (.nil _)) <| qq ?_
  refine qZ h R (fun hb103 h => ?_) (fun hb103 h => ?_)
  ·refine sr <| ak R <| nt <| vq <| vz <| qQ ?_
   cases h
   exact vW R R (.t R) (.id _)
  ·refine qB <| vZ <| qq <| qX <| sr <| fd R R fo95_3 R <| ld R R sh93 ?_
   obtain ⟨t104, ht104, h⟩ := vw h
   refine p1 R 17 R (vy (f := 179) (A := iA t104) (xs := [.tmp 17]) («as» := [SlcA kStr a0.fNames]) R ca179 (types_names.con k a0.fNames t104 ht104) R) <| av R R <| nx <| mv R R <| pk R 19 R (qN R R) <| nt ?_
   refine qZ h R (fun hb105 h => ?_) (fun hb105 h => ?_)
   ·refine sr <| mv R R <| av R R <| qx <| qw (env' := [(4, _)]) (.one R (.nil _)) <| qq <| vq <| qQ ?_
    cases h
    exact vW R R (.t R) (.id _)
   ·refine qB <| qw (env' := [(2, _)]) (.one R (.nil _)) <| qq <| qX ?_
    refine W.jn1 (Γ := Unit) (fun (_ : Unit) (x6 : Bool) => [(2, PtrA [EqA (strV a0.fName), iA a0.fLow, iA a0.fHigh, SlcA kStr a0.fNames]), (6, bA x6)]) (fun (_ : Unit) (_ : Bool) => []) h (fun _ x6 h => ?_) (fun j109 Kj109 h => ?_)
    ·refine qq <| qX <| sr <| fd R R fo95_3 R <| ld R R sh93 <| p1 R 38 R (vN R elS93) <| pk R 39 R (qN R R) <| nt ?_
     refine qZ h R (fun hb117 h => ?_) (fun hb117 h => ?_)
     ·refine W.jn1 (Γ := Unit) (fun (_ : Unit) (x6' : Bool) => [(6, bA x6')]) (fun (_ : Unit) (_ : Bool) => []) h (fun _ x6' h => ?_) (fun j121 Kj121 h => ?_)
      ·refine qq <| qX <| sr <| mv R R <| p1 R 53 R (q_not R) <| nt ?_
       refine qZ h R (fun hb122 h => ?_) (fun hb122 h => ?_)
       ·refine sr <| ak R <| nt <| vq <| qQ ?_
        cases h
        exact vW R R (.t R) (.id _)
       ·refine qB <| qq <| sr <| ak R <| nt <| vq ?_
        cases h
        exact vW R R (.t R) (.id _)
      ·refine qJ <| fd R R fo95_1 R <| ld R R sh3 <| pk R 42 R (qN R R) <| mv R R ?_
       rcases bif_s h with ⟨hb123, h⟩ | ⟨hb123, h⟩
       ·refine wf R R R hb123 R R fo95_2 R <| wl R R R hb123 R R sh3 <| wf R R R hb123 R R fo95_3 R <| wl R R R hb123 R R sh93 <| wq R R R hb123 (.s 48 R .nil) (vN R elS93).o ?_
        obtain ⟨c124, h⟩ := qK h
        refine wq R R R hb123 (.s 49 R (.k .nil)) (q_subR R c124).o <| wq R R R hb123 (.s 46 R (.s 50 R .nil)) (qN R R).o <| p2 R 44 R 51 R (vQ R hb123) <| av R R <| qx ?_
        exact qw (.one R (.nil _)) (Kj121 () (a0.fHigh == ((a0.fNames.length : Int) - 1)) h)
       ·refine sk R R R hb123 <| sk R R R hb123 <| sk R R R hb123 <| sk R R R hb123 <| sk R R R hb123 <| sk R R R hb123 <| sk R R R hb123 <| pk R 44 R (vj R hb123) <| av R R <| qx ?_
        exact qw (.one R (.nil _)) (Kj121 () false h)
     ·refine qB <| qq <| qX <| sr <| mv R R <| p1 R 53 R (q_not R) <| qx <| qw (env' := [(54, _)]) (.one R (.nil _)) <| qq ?_
      refine qZ h R (fun hb125 h => ?_) (fun hb125 h => ?_)
      ·refine sr <| ak R <| nt <| vq <| qQ ?_
       cases h
       exact vW R R (.t R) (.id _)
      ·refine qB <| qq <| sr <| ak R <| nt <| vq ?_
       cases h
       exact vW R R (.t R) (.id _)
    ·refine qJ <| fd R R fo95_1 R <| ld R R sh3 <| WL.p R R R (.k (.s 23 R .nil)) (qN R R) <| mv R R ?_
     rcases bif_s h with ⟨hb126, h⟩ | ⟨hb126, h⟩
     ·refine wf R R R hb126 R R fo95_1 R <| wl R R R hb126 R R sh3 <| wf R R R hb126 R R fo95_2 R <| wl R R R hb126 R R sh3 <| wq R R R hb126 (.s 27 R (.s 29 R .nil)) (qN R R).o <| p2 R 25 R 30 R (vQ R hb126) <| mv R R ?_
      rcases bif_s h with ⟨hb127, h⟩ | ⟨hb127, h⟩
      ·refine wf R R R hb127 R R fo95_2 R <| wl R R R hb127 R R sh3 <| wq R R R hb127 (.s 34 R (.k .nil)) (qN R R).o <| p2 R 32 R 35 R (vQ R hb127) <| av R R <| qx ?_
       exact qw (.o2 R (.nil _)) (Kj109 () (decide (a0.fHigh ≤ 1000000)) h)
      ·refine sk R R R hb127 <| sk R R R hb127 <| sk R R R hb127 <| pk R 32 R (vj R hb127) <| av R R <| qx ?_
       exact qw (.o2 R (.nil _)) (Kj109 () false h)
     ·refine sk R R R hb126 <| sk R R R hb126 <| sk R R R hb126 <| sk R R R hb126 <| sk R R R hb126 <| pk R 25 R (vj R hb126) <| mv R R <| sk R R R R <| sk R R R R <| sk R R R R <| pk R 32 R (vj R R) <| av R R <| qx ?_
      exact qw (.o2 R (.nil _)) (Kj109 () false h)
theorem types_node.con (k : Nat) (a0 : Types) (a1 : Int) (r : Int) (h : types_node k a0 a1 = some r) : Con Tryz.prog 101 [] [AggA [SlcA kNodeType a0.fNodes, SlcA kEdgeType a0.fEdges], iA a1] (RA (iA r)) := by
 unfold types_node at h
 refine vJ (N := 70) Tryz.func101 R R R fun w0_ fg_ => sr <| p1 R 0 R (q_box R (qy _)) <| ak R <| nx <| fd R R fo35_0 R <| ld R R sh32 <| mv R R ?_
 obtain ⟨c100, h⟩ := qK h
 refine p2 R 10 R 11 R (vX R el32 R c100.1 c100.2) <| lS R R sh92 R R <| WL.w [] R (qj R) R R .nil (w_alloc R z92 (l := [EqA (strV ([] : Str)), iA 0, bA false, EqA (.slice none 0 0)]) R) ?_
 rintro _ _ ⟨b101, rfl, rfl⟩
 refine WL.w0 [0] R (qj R) R (.s 5 R (.s 13 R .nil)) (w_store (L := [EqA (strV ((rd a0.fNodes a1).fName)), iA ((rd a0.fNodes a1).fParent), bA ((rd a0.fNodes a1).fAbstract), SlcA kAttr ((rd a0.fNodes a1).fAttrs)]) R sh92 (qy _) R R (leB R) R) ?_
 rintro _ _ ⟨rfl, rfl⟩
 refine qx <| QN.to (StTo.still [0] 5 R R) <| qw (env' := [(5, _), (2, _), (1, _)]) (.o2 R (.one R (.nil _))) <| qq <| qX <| vx <| sr <| fd R R fo92_0 R <| ld R R sh9 ?_
 obtain ⟨t102, ht102, h⟩ := vw h
 refine p1 R 16 R (vy (f := 143) (A := bA t102) (xs := [.tmp 16]) («as» := [EqA (strV ((rd a0.fNodes a1).fName))]) R ca143 (token_IsName.con k ((rd a0.fNodes a1).fName) t102 ht102) R) <| p1 R 17 R (q_not R) <| av R R <| nt ?_
 refine qZ h R (fun hb103 h => ?_) (fun hb103 h => ?_)
 ·refine sr <| ak R <| qx <| qw (env' := [(4, _)]) (.one R (.nil _)) <| qq <| vq <| vz <| qQ ?_
  cases h
  exact vW R R (.t R) (.id _)
 ·refine sr <| fd R R fo35_0 R <| ld R R sh32 <| mv R R ?_
  obtain ⟨c104, h⟩ := qK h
  refine p2 R 21 R 22 R (q_subH R el32 R c104.1 c104.2) <| p1 R 5 R (q_makeFunc (xs := [.tmp 5]) (L := [PtrA [EqA (strV ((rd a0.fNodes a1).fName)), iA ((rd a0.fNodes a1).fParent), bA ((rd a0.fNodes a1).fAbstract), SlcA kAttr ((rd a0.fNodes a1).fAttrs)]]) («as» := (fun (x : NodeType) => [AggA [EqA (strV x.fName), iA x.fParent, bA x.fAbstract, SlcA kAttr x.fAttrs]])) (res := (fun (y : Bool) => bA y)) (p := (fun x => types_node_1 k x (rd a0.fNodes a1))) R ca145 R (fun x y hp => (types_node_1.con k x (rd a0.fNodes a1) y hp))) ?_
  obtain ⟨t105, ht105, h⟩ := vw h
  refine p2 R 23 R 24 R (vy (f := 144) (A := bA t105) (xs := [.tmp 23, .tmp 24]) («as» := [SlcA kNodeType (a0.fNodes.take (a1 : Int).toNat), FnA Tryz.prog (fun (x : NodeType) => [AggA [EqA (strV x.fName), iA x.fParent, bA x.fAbstract, SlcA kAttr x.fAttrs]]) (fun (y : Bool) => bA y) (fun x => types_node_1 k x (rd a0.fNodes a1))]) R ca144 (slices_ContainsFunc_NodeType.con k (a0.fNodes.take (a1 : Int).toNat) (fun x => types_node_1 k x (rd a0.fNodes a1)) t105 ht105) R) <| av R R <| qx <| qw (env' := [(19, _), (5, _), (2, _), (1, _)]) (.o4 R (.nil _)) <| qq ?_
  refine qZ h R (fun hb106 h => ?_) (fun hb106 h => ?_)
  ·refine sr <| ak R <| nt <| vq <| vz <| qQ ?_
   cases h
   exact vW R R (.t R) (.id _)
  ·refine qX ?_
   refine W.jn1 (Γ := Unit) (fun (_ : Unit) (x26 : Bool) => [(1, iA a1), (2, PtrA [SlcA kNodeType a0.fNodes, SlcA kEdgeType a0.fEdges]), (5, PtrA [EqA (strV ((rd a0.fNodes a1).fName)), iA ((rd a0.fNodes a1).fParent), bA ((rd a0.fNodes a1).fAbstract), SlcA kAttr ((rd a0.fNodes a1).fAttrs)]), (26, bA x26)]) (fun (_ : Unit) (_ : Bool) => []) h (fun _ x26 h => ?_) (fun j109 Kj109 h => ?_)
   ·refine qq ?_
    refine qZ h R (fun hb110 h => ?_) (fun hb110 h => ?_)
    ·refine sr <| ak R <| nt <| vq <| vz <| qQ ?_
     cases h
     exact vW R R (.t R) (.id _)
    ·refine sr <| fd R R fo92_3 R <| ld R R sh90 <| p1 R 38 R (vN R elS90) <| pk R 39 R (qN R R) <| av R R <| nt ?_
     refine qZ h R (fun hb111 h => ?_) (fun hb111 h => ?_)
     ·refine sr <| ak R <| qx <| qw (env' := [(4, _)]) (.one R (.nil _)) <| qq <| vq <| vz <| qQ ?_
      cases h
      exact vW R R (.t R) (.id _)
     ·refine qB <| vZ <| qq <| sr <| lS R R sh35 R R <| mv R R ?_
      obtain ⟨t112, ht112, h⟩ := vw h
      refine p2 R 41 R 42 R (vy (f := 134) (A := SlcA kAttr t112) (xs := [.tmp 41, .tmp 42]) («as» := [AggA [SlcA kNodeType a0.fNodes, SlcA kEdgeType a0.fEdges], iA a1]) R ca134 (Con.free (types_attrs.con k a0 a1 t112 ht112)) R) <| av R R <| qx <| qw (env' := [(6, _), (5, _)]) (.o2 R (.nil _)) <| qq <| qX <| sr <| mv R R <| p1 R 44 R (vN R elS90) <| pk R 45 R (qN R R) <| nt ?_
      refine qZ h R (fun hb113 h => ?_) (fun hb113 h => ?_)
      ·refine sr <| ak R <| nt <| vq <| qQ ?_
       cases h
       exact vW R R (.t R) (.id _)
      ·refine qB <| qq <| qX <| sr <| mv R R <| p1 R 47 R (vN R elS90) <| fd R R fo92_3 R <| ld R R sh90 <| p1 R 50 R (vN R elS90) ?_
       obtain ⟨c114, h⟩ := qK h
       refine p2 R 48 R 51 R (q_subR R c114) <| av R R <| qx <| qw (env' := [(7, _), (6, _)]) (.o2 R (.nil _)) <| qq <| vx ?_
       refine W.loop1 (Γ := Unit) (fun (_ : Unit) (x7 : Int) => [(6, SlcA kAttr t112), (7, iA x7)]) (fun (_ : Unit) (_ : Int) => []) h () (.o2 R (.nil _)) R (fun rec0 K0 next0 _ x7 h => ?_)
       unfold types_node.b0 at h
       refine qX <| sr <| mv R R <| mv R R <| p1 R 54 R (vN R elS90) <| p2 R 53 R 55 R (qN R R) <| nt ?_
       refine qZ h R (fun hb139 h => ?_) (fun hb139 h => ?_)
       ·refine qB <| qq <| qX <| vx <| qX <| W.drawK [(0, false), (1, false), (2, false), (3, false), (4, false), (5, false), (6, false), (7, false), (8, false)] [] (bm [0, 0, 3, 7, 0, 0, 48, 127, 255]) mx (by kernel_rfl) <| dm R R R <| dm R R R ?_
        obtain ⟨c146, h⟩ := qK h
        refine qz R R (.p R (.s 59 R (.s 60 R .nil)) R (vX R el90 R c146.1 c146.2)) <| qz R R (.p R (.s 61 R .nil) R (q_loadS R sh95 (leB R) R)) <| dm R R R <| dm R R R ?_
        obtain ⟨c147, h⟩ := qK h
        refine qz R R (.p R (.s 63 R (.s 64 R .nil)) R (q_subH R el90 R c147.1 c147.2)) ?_
        obtain ⟨t148, ht148, h⟩ := vw h
        refine qz R R (.p R (.s 62 R (.s 65 R .nil)) R (vy (f := 146) (A := iA t148) (xs := [.tmp 62, .tmp 65]) («as» := [AggA [EqA (strV ((rd t112 x7).fName)), iA ((rd t112 x7).fLow), iA ((rd t112 x7).fHigh), SlcA kStr ((rd t112 x7).fNames)], SlcA kAttr (t112.take (x7 : Int).toNat)]) R ca146 (types_attribute.con k (rd t112 x7) (t112.take (x7 : Int).toNat) t148 ht148) R)) <| qz R R (.p R (.s 66 R .nil) R (q_assign R)) <| DK.nil <| CSteps.nil <| qw (env' := [(8, _), (7, _), (6, _)]) (.o2 R (.one R (.nil _))) <| qq <| sr <| mv R R <| pk R 67 R (qN R R) <| nt ?_
        refine qZ h R (fun hb149 h => ?_) (fun hb149 h => ?_)
        ·refine sr <| mv R R <| av R R <| nt <| vq <| vz <| qQ <| qQ <| vz <| qQ ?_
         cases h
         exact vW R R (.t R) (.id _)
        ·refine qB <| vZ <| qq <| qJ <| mv R R ?_
         obtain ⟨c150, h⟩ := qK h
         refine pk R 57 R (vK R c150) <| av R R <| qx ?_
         exact next0 () (x7 + 1) _ h (.o2 R (.nil _))
       ·refine W.exit <| qV <| qV <| vB <| qq <| sr <| ak R <| nt <| vq ?_
        cases h
        exact vW R R (.t R) (.id _)
   ·refine qJ <| fd R R fo92_1 R <| ld R R sh3 <| pk R 28 R (qN R R) <| mv R R ?_
    rcases bif_s h with ⟨hb151, h⟩ | ⟨hb151, h⟩
    ·refine sk R R R hb151 <| sk R R R hb151 <| sk R R R hb151 <| sk R R R hb151 <| pk R 30 R (vQ R hb151) <| av R R <| qx ?_
     exact qw (.o4 R (.nil _)) (Kj109 () true h)
    ·refine wf R R R hb151 R R fo92_1 R <| wl R R R hb151 R R sh3 <| wm R R R hb151 R R <| wq R R R hb151 (.s 32 R (.s 33 R .nil)) (qN R R).o <| p2 R 30 R 34 R (vj R hb151) <| av R R <| qx ?_
     exact qw (.o4 R (.nil _)) (Kj109 () (decide ((rd a0.fNodes a1).fParent ≥ a1)) h)
theorem types_edge_1.con (k : Nat) (a0 : Int) (a1 : Types) (r : Bool) (h : types_edge_1 k a0 a1 = some r) : Con Tryz.prog 147 [] [iA a0, PtrA [SlcA kNodeType a1.fNodes, SlcA kEdgeType a1.fEdges]] (RA (bA r)) := by
 unfold types_edge_1 at h
 refine vJ (N := 13) Tryz.func147 R R R fun w0_ fg_ => sr <| ak R <| nt <| qX ?_
 refine W.jn1 (Γ := Unit) (fun (_ : Unit) (x3 : Bool) => [(3, bA x3)]) (fun (_ : Unit) (_ : Bool) => []) h (fun _ x3 h => ?_) (fun j102 Kj102 h => ?_)
 ·refine qq <| vq ?_
  cases h
  exact vW R R (.t R) (.id _)
 ·refine qJ <| mv R R <| pk R 4 R (qN R R) <| mv R R ?_
  rcases bif_s h with ⟨hb103, h⟩ | ⟨hb103, h⟩
  ·refine wm R R R hb103 R R <| wf R R R hb103 R R fo35_0 R <| wl R R R hb103 R R sh32 <| wq R R R hb103 (.s 9 R .nil) (vN R elS32).o <| wq R R R hb103 (.s 7 R (.s 10 R .nil)) (qN R R).o <| p2 R 6 R 11 R (vQ R hb103) <| av R R <| qx ?_
   exact qw (.one R (.nil _)) (Kj102 () (decide (a0 < (a1.fNodes.length : Int))) h)
  ·refine sk R R R hb103 <| sk R R R hb103 <| sk R R R hb103 <| sk R R R hb103 <| sk R R R hb103 <| pk R 6 R (vj R hb103) <| av R R <| qx ?_
   exact qw (.one R (.nil _)) (Kj102 () false h)
theorem types_edge_2.con (k : Nat) (a0 : EdgeType) (a1 : EdgeType) (r : Bool) (h : types_edge_2 k a0 a1 = some r) : Con Tryz.prog 149 [] [AggA [EqA (strV a0.fName), iA a0.fFrom, iA a0.fTo, iA a0.fOutLow, iA a0.fOutHigh, iA a0.fInLow, iA a0.fInHigh], PtrA [EqA (strV a1.fName), iA a1.fFrom, iA a1.fTo, iA a1.fOutLow, iA a1.fOutHigh, iA a1.fInLow, iA a1.fInHigh]] (RA (bA r)) := by
 unfold types_edge_2 at h
 refine vJ (N := 9) Tryz.func149 R R R fun w0_ fg_ => sr <| p1 R 0 R (q_box R (qy _)) <| ak R <| nx <| fd R R fo97_0 R <| ld R R sh9 <| fd R R fo97_0 R <| ld R R sh9 ?_
 refine p2 R 5 R 7 R (q_str (s := a0.fName) (t := a1.fName) R) <| av R R <| qx <| qw (env' := [(3, _)]) (.one R (.nil _)) <| qq <| vq ?_
 cases h
 exact vW R R (.t R) (.id _)
theorem slices_IndexFunc_EdgeType.con (k : Nat) (a0 : (List EdgeType)) (a1 : (EdgeType → Option Bool)) (r : Int) (h : slices_IndexFunc_EdgeType k a0 a1 = some r) : Con Tryz.prog 180 [] [SlcA kEdgeType a0, FnA Tryz.prog (fun (x : EdgeType) => [AggA [EqA (strV x.fName), iA x.fFrom, iA x.fTo, iA x.fOutLow, iA x.fOutHigh, iA x.fInLow, iA x.fInHigh]]) (fun (y : Bool) => bA y) a1] (RA (iA r)) := by
 unfold slices_IndexFunc_EdgeType at h
 refine vJ (N := 19) Tryz.func180 R R R fun w0_ fg_ => sr <| ak R <| nt <| qX <| sr <| mv R R <| p1 R 6 R (vN R elS33) <| mk_ R <| qx ?_
 refine qq <| vx ?_
 refine W.loop1 (Γ := Unit) (fun (_ : Unit) (x8 : Int) => [(0, SlcA kEdgeType a0), (1, FnA Tryz.prog (fun (x : EdgeType) => [AggA [EqA (strV x.fName), iA x.fFrom, iA x.fTo, iA x.fOutLow, iA x.fOutHigh, iA x.fInLow, iA x.fInHigh]]) (fun (y : Bool) => bA y) a1), (7, iA (a0.length : Int)), (8, iA x8)]) (fun (_ : Unit) (_ : Int) => []) h () (.o4 R (.nil _)) R (fun rec0 K0 next0 _ x8 h => ?_)
 unfold slices_IndexFunc_EdgeType.b0 at h
 refine sr <| p2 R 8 R 7 R (qN R R) <| nt <| qX ?_
 refine qZ h R (fun hb110 h => ?_) (fun hb110 h => ?_)
 ·refine qB <| qq <| qX <| vx <| sr <| mv R R <| av R R <| nx <| mv R R ?_
  refine mv R R <| mv R R ?_
  obtain ⟨c111, h⟩ := qK h
  refine p2 R 12 R 13 R (vX R el33 R c111.1 c111.2) <| lS R R sh97 R R ?_
  obtain ⟨t112, ht112, h⟩ := vw h
  refine p2 R 11 R 15 R (q_callV («as» := (fun (x : EdgeType) => [AggA [EqA (strV x.fName), iA x.fFrom, iA x.fTo, iA x.fOutLow, iA x.fOutHigh, iA x.fInLow, iA x.fInHigh]])) (res := (fun (y : Bool) => bA y)) (x := (rd a0 x8)) (y := t112) (xs := [.tmp 15]) R ht112 R) <| qx <| qw (env' := [(16, _), (5, _), (8, _), (7, _), (1, _), (0, _)]) (.o4 R (.o2 R (.nil _))) <| qq ?_
  refine qZ h R (fun hb113 h => ?_) (fun hb113 h => ?_)
  ·refine sr <| mv R R <| av R R <| qx <| qw (env' := [(4, _)]) (.one R (.nil _)) <| qq <| vq <| vz <| qQ <| qQ <| vz <| qQ ?_
   cases h
   exact vW R R (.t R) (.id _)
  ·refine qB <| vZ <| qq <| qJ ?_
   obtain ⟨c114, h⟩ := qK h
   refine pk R 8 R (vK R c114) <| mv R R <| qx ?_
   exact next0 () (x8 + 1) _ h (.o4 R (.nil _))
 ·refine W.exit <| qV <| qV <| vB <| qq <| sr <| ak R <| nt <| vq ?_
  cases h
  exact vW R R (.t R) (.id _)
theorem slices_ContainsFunc_EdgeType.con (k : Nat) (a0 : (List EdgeType)) (a1 : (EdgeType → Option Bool)) (r : Bool) (h : slices_ContainsFunc_EdgeType k a0 a1 = some r) : Con Tryz.prog 148 [] [SlcA kEdgeType a0, FnA Tryz.prog (fun (x : EdgeType) => [AggA [EqA (strV x.fName), iA x.fFrom, iA x.fTo, iA x.fOutLow, iA x.fOutHigh, iA x.fInLow, iA x.fInHigh]]) (fun (y : Bool) => bA y) a1] (RA (bA r)) := by
 unfold slices_ContainsFunc_EdgeType at h
 refine vJ (N := 9) Tryz.func148 R R R fun w0_ fg_ => sr <| ak R <| nx <| mv R R <| mv R R ?_
 obtain ⟨t100, ht100, h⟩ := vw h
 refine p2 R 5 R 6 R (vy (f := 180) (A := iA t100) (xs := [.tmp 5, .tmp 6]) («as» := [SlcA kEdgeType a0, FnA Tryz.prog (fun (x : EdgeType) => [AggA [EqA (strV x.fName), iA x.fFrom, iA x.fTo, iA x.fOutLow, iA x.fOutHigh, iA x.fInLow, iA x.fInHigh]]) (fun (y : Bool) => bA y) a1]) R ca180 (slices_IndexFunc_EdgeType.con k a0 a1 t100 ht100) R) <| pk R 7 R (qN R R) <| av R R <| nt <| vq ?_
 cases h
 exact vW R R (.t R) (.id _)
theorem types_bounded.con (k : Nat) (a0 : Int) (a1 : Int) (r : Bool) (h : types_bounded k a0 a1 = some r) : Con Tryz.prog 150 [] [iA a0, iA a1] (RA (bA r)) := by
 unfold types_bounded at h
 refine vJ (N := 24) Tryz.func150 R R R fun w0_ fg_ => sr <| ak R <| nt <| qX ?_
 refine W.jn1 (Γ := Unit) (fun (_ : Unit) (x4 : Bool) => [(4, bA x4)]) (fun (_ : Unit) (_ : Bool) => []) h (fun _ x4 h => ?_) (fun j105 Kj105 h => ?_)
 ·refine qq <| vq ?_
  cases h
  exact vW R R (.t R) (.id _)
 ·refine qJ <| mv R R <| pk R 5 R (qN R R) <| mv R R ?_
  rcases bif_s h with ⟨hb106, h⟩ | ⟨hb106, h⟩
  ·refine wm R R R hb106 R R <| wq R R R hb106 (.s 8 R (.k .nil)) (qN R R).o <| p2 R 7 R 9 R (vQ R hb106) <| mv R R ?_
   rcases bif_s h with ⟨hb107, h⟩ | ⟨hb107, h⟩
   ·refine wm R R R hb107 R R <| wq R R R hb107 (.s 12 R (.k .nil)) (qN R R).o <| wm R R R hb107 R R ?_
    rcases bif_s h with ⟨hb108, h⟩ | ⟨hb108, h⟩
    ·refine sk R R R hb108 <| sk R R R hb108 <| sk R R R hb108 <| sk R R R hb108 <| su R R R <| su R R R <| sk R R R hb108 <| wq R R R hb107 (.s 14 R (.k .nil)) (vQ R hb108).o <| p2 R 11 R 22 R (vQ R hb107) <| av R R <| qx ?_
     exact qw (.one R (.nil _)) (Kj105 () true h)
    ·refine wm R R R hb108 R R <| wm R R R hb108 R R <| wq R R R hb108 (.s 15 R (.s 16 R .nil)) (qN R R).o <| wm R R R hb108 R R ?_
     rcases bif_s h with ⟨hb109, h⟩ | ⟨hb109, h⟩
     ·refine wm R R R hb109 R R <| wq R R R hb109 (.s 19 R (.k .nil)) (qN R R).o <| wq R R R hb108 (.s 18 R (.s 20 R .nil)) (vQ R hb109).o <| wq R R R hb107 (.s 14 R (.s 21 R .nil)) (vj R hb108).o <| p2 R 11 R 22 R (vQ R hb107) <| av R R <| qx ?_
      exact qw (.one R (.nil _)) (Kj105 () (decide (a1 ≤ 40)) h)
     ·refine sk R R R hb109 <| sk R R R hb109 <| wq R R R hb108 (.s 18 R (.k .nil)) (vj R hb109).o <| wq R R R hb107 (.s 14 R (.s 21 R .nil)) (vj R hb108).o <| p2 R 11 R 22 R (vQ R hb107) <| av R R <| qx ?_
      exact qw (.one R (.nil _)) (Kj105 () false h)
   ·refine sk R R R hb107 <| sk R R R hb107 <| sk R R R hb107 <| su R R R <| su R R R <| su R R R <| su R R R <| su R R R <| su R R R <| su R R R <| sk R R R hb107 <| pk R 11 R (vj R hb107) <| av R R ?_
    refine qx ?_
    exact qw (.one R (.nil _)) (Kj105 () false h)
  ·refine sk R R R hb106 <| sk R R R hb106 <| pk R 7 R (vj R hb106) <| mv R R <| sk R R R R <| sk R R R R <| sk R R R R <| su R R R <| su R R R <| su R R R <| su R R R <| su R R R <| su R R R ?_
   refine su R R R <| sk R R R R <| pk R 11 R (vj R R) <| av R R <| qx ?_
   exact qw (.one R (.nil _)) (Kj105 () false h)
theorem types_edge.con (k : Nat) (a0 : Types) (a1 : Int) (r : Int) (h : types_edge k a0 a1 = some r) : Con Tryz.prog 102 [] [AggA [SlcA kNodeType a0.fNodes, SlcA kEdgeType a0.fEdges], iA a1] (RA (iA r)) := by
 unfold types_edge at h
 refine vJ (N := 52) Tryz.func102 R R R fun w0_ fg_ => sr <| p1 R 0 R (q_box R (qy _)) <| ak R <| nx <| fd R R fo35_1 R <| ld R R sh33 <| mv R R ?_
 obtain ⟨c100, h⟩ := qK h
 refine p2 R 8 R 9 R (vX R el33 R c100.1 c100.2) <| lS R R sh97 R R <| WL.w [] R (qj R) R R .nil (w_alloc R z97 (l := [EqA (strV ([] : Str)), iA 0, iA 0, iA 0, iA 0, iA 0, iA 0]) R) ?_
 rintro _ _ ⟨b101, rfl, rfl⟩
 refine WL.w0 [0] R (qj R) R (.s 5 R (.s 11 R .nil)) (w_store (L := [EqA (strV ((rd a0.fEdges a1).fName)), iA ((rd a0.fEdges a1).fFrom), iA ((rd a0.fEdges a1).fTo), iA ((rd a0.fEdges a1).fOutLow), iA ((rd a0.fEdges a1).fOutHigh), iA ((rd a0.fEdges a1).fInLow), iA ((rd a0.fEdges a1).fInHigh)]) R sh97 (qy _) R R (leB R) R) ?_
 rintro _ _ ⟨rfl, rfl⟩
 refine qx <| QN.to (StTo.still [0] 5 R R) <| qw (env' := [(5, _), (2, _), (1, _)]) (.o2 R (.one R (.nil _))) <| qq <| sr <| p1 R 2 R (q_makeFunc (xs := [.tmp 2]) (L := [PtrA [SlcA kNodeType a0.fNodes, SlcA kEdgeType a0.fEdges]]) («as» := (fun (x : Int) => [iA x])) (res := (fun (y : Bool) => bA y)) (p := (fun x => types_edge_1 k x a0)) R ca147 R (fun x y hp => (types_edge_1.con k x a0 y hp))) <| av R R <| nt <| qX <| vx <| qX ?_
 refine qJ <| fd R R fo97_0 R <| ld R R sh9 ?_
 obtain ⟨t102, ht102, h⟩ := vw h
 refine p1 R 15 R (vy (f := 143) (A := bA t102) (xs := [.tmp 15]) («as» := [EqA (strV ((rd a0.fEdges a1).fName))]) R ca143 (token_IsName.con k ((rd a0.fEdges a1).fName) t102 ht102) R) <| p1 R 16 R (q_not R) <| av R R <| nt ?_
 refine qZ h R (fun hb103 h => ?_) (fun hb103 h => ?_)
 ·refine sr <| ak R <| qx <| qw (env' := [(4, _)]) (.one R (.nil _)) <| qq <| vq <| vz <| qQ ?_
  cases h
  exact vW R R (.t R) (.id _)
 ·refine sr <| fd R R fo35_1 R <| ld R R sh33 <| mv R R ?_
  obtain ⟨c104, h⟩ := qK h
  refine p2 R 20 R 21 R (q_subH R el33 R c104.1 c104.2) <| p1 R 5 R (q_makeFunc (xs := [.tmp 5]) (L := [PtrA [EqA (strV ((rd a0.fEdges a1).fName)), iA ((rd a0.fEdges a1).fFrom), iA ((rd a0.fEdges a1).fTo), iA ((rd a0.fEdges a1).fOutLow), iA ((rd a0.fEdges a1).fOutHigh), iA ((rd a0.fEdges a1).fInLow), iA ((rd a0.fEdges a1).fInHigh)]]) («as» := (fun (x : EdgeType) => [AggA [EqA (strV x.fName), iA x.fFrom, iA x.fTo, iA x.fOutLow, iA x.fOutHigh, iA x.fInLow, iA x.fInHigh]])) (res := (fun (y : Bool) => bA y)) (p := (fun x => types_edge_2 k x (rd a0.fEdges a1))) R ca149 R (fun x y hp => (types_edge_2.con k x (rd a0.fEdges a1) y hp))) ?_
  obtain ⟨t105, ht105, h⟩ := vw h
  refine p2 R 22 R 23 R (vy (f := 148) (A := bA t105) (xs := [.tmp 22, .tmp 23]) («as» := [SlcA kEdgeType (a0.fEdges.take (a1 : Int).toNat), FnA Tryz.prog (fun (x : EdgeType) => [AggA [EqA (strV x.fName), iA x.fFrom, iA x.fTo, iA x.fOutLow, iA x.fOutHigh, iA x.fInLow, iA x.fInHigh]]) (fun (y : Bool) => bA y) (fun x => types_edge_2 k x (rd a0.fEdges a1))]) R ca148 (slices_ContainsFunc_EdgeType.con k (a0.fEdges.take (a1 : Int).toNat) (fun x => types_edge_2 k x (rd a0.fEdges a1)) t105 ht105) R) <| av R R <| qx <| qw (env' := [(18, _), (6, _), (5, _)]) (.o2 R (.one R (.nil _))) <| qq ?_
  refine qZ h R (fun hb106 h => ?_) (fun hb106 h => ?_)
  ·refine sr <| ak R <| nt <| vq <| vz <| qQ ?_
   cases h
   exact vW R R (.t R) (.id _)
  ·refine qX <| qX ?_
   refine W.jn1 (Γ := Unit) (fun (_ : Unit) (x25 : Bool) => [(5, PtrA [EqA (strV ((rd a0.fEdges a1).fName)), iA ((rd a0.fEdges a1).fFrom), iA ((rd a0.fEdges a1).fTo), iA ((rd a0.fEdges a1).fOutLow), iA ((rd a0.fEdges a1).fOutHigh), iA ((rd a0.fEdges a1).fInLow), iA ((rd a0.fEdges a1).fInHigh)]), (25, bA x25)]) (fun (_ : Unit) (_ : Bool) => []) h (fun _ x25 h => ?_) (fun j111 Kj111 h => ?_)
   ·refine qq ?_
    refine qZ h R (fun hb121 h => ?_) (fun hb121 h => ?_)
    ·refine qB <| qq <| W.condT R hb121 <| sr <| ak R <| nt <| vq <| vz <| qQ ?_
     cases h
     exact vW R R (.t R) (.id _)
    ·refine W.jn1 (Γ := Unit) (fun (_ : Unit) (x25' : Bool) => [(25, bA x25')]) (fun (_ : Unit) (_ : Bool) => []) h (fun _ x25' h => ?_) (fun j126 Kj126 h => ?_)
     ·refine qq ?_
      refine qZ h R (fun hb127 h => ?_) (fun hb127 h => ?_)
      ·refine sr <| ak R <| nt <| vq <| vz <| qQ ?_
       cases h
       exact vW R R (.t R) (.id _)
      ·refine qB <| vZ <| qq <| sr <| ak R <| nt <| vq ?_
       cases h
       exact vW R R (.t R) (.id _)
     ·refine qJ <| fd R R fo97_3 R <| ld R R sh3 <| fd R R fo97_4 R <| ld R R sh3 ?_
      obtain ⟨t128, ht128, h⟩ := vw h
      refine p2 R 39 R 41 R (vy (f := 150) (A := bA t128) (xs := [.tmp 39, .tmp 41]) («as» := [iA ((rd a0.fEdges a1).fOutLow), iA ((rd a0.fEdges a1).fOutHigh)]) R ca150 (types_bounded.con k ((rd a0.fEdges a1).fOutLow) ((rd a0.fEdges a1).fOutHigh) t128 ht128) R) <| p1 R 42 R (q_not R) <| mv R R ?_
      rcases bif_s h with ⟨hb129, h⟩ | ⟨hb129, h⟩
      ·refine sk R R R hb129 <| sk R R R hb129 <| sk R R R hb129 <| sk R R R hb129 <| sk R R R hb129 <| sk R R R hb129 <| pk R 44 R (vQ R hb129) <| av R R <| qx ?_
       exact qw (.one R (.nil _)) (Kj126 () true h)
      ·refine wf R R R hb129 R R fo97_5 R <| wl R R R hb129 R R sh3 <| wf R R R hb129 R R fo97_6 R <| wl R R R hb129 R R sh3 ?_
       obtain ⟨t130, ht130, h⟩ := vw h
       refine wq R R R hb129 (.s 46 R (.s 48 R .nil)) (vy (f := 150) (A := bA t130) (xs := [.tmp 46, .tmp 48]) («as» := [iA ((rd a0.fEdges a1).fInLow), iA ((rd a0.fEdges a1).fInHigh)]) R ca150 (types_bounded.con k ((rd a0.fEdges a1).fInLow) ((rd a0.fEdges a1).fInHigh) t130 ht130) R).o <| wq R R R hb129 (.s 49 R .nil) (q_not R).o <| p2 R 44 R 50 R (vj R hb129) <| av R R <| qx ?_
       exact qw (.one R (.nil _)) (Kj126 () (!t130) h)
   ·refine qJ <| mv R R <| fd R R fo97_1 R <| ld R R sh3 ?_
    obtain ⟨t131, ht131, h⟩ := vw h
    refine p2 R 26 R 28 R (q_callV («as» := (fun (x : Int) => [iA x])) (res := (fun (y : Bool) => bA y)) (x := (rd a0.fEdges a1).fFrom) (y := t131) (xs := [.tmp 28]) R ht131 R) <| p1 R 29 R (q_not R) <| mv R R ?_
    rcases bif_s h with ⟨hb132, h⟩ | ⟨hb132, h⟩
    ·refine sk R R R hb132 <| sk R R R hb132 <| sk R R R hb132 <| sk R R R hb132 <| sk R R R hb132 <| pk R 31 R (vQ R hb132) <| av R R <| qx ?_
     exact qw (.o2 R (.nil _)) (Kj111 () true h)
    ·refine wm R R R hb132 R R <| wf R R R hb132 R R fo97_2 R <| wl R R R hb132 R R sh3 ?_
     obtain ⟨t133, ht133, h⟩ := vw h
     refine wq R R R hb132 (.s 32 R (.s 34 R .nil)) (q_callV («as» := (fun (x : Int) => [iA x])) (res := (fun (y : Bool) => bA y)) (x := (rd a0.fEdges a1).fTo) (y := t133) (xs := [.tmp 34]) R ht133 R).o <| wq R R R hb132 (.s 35 R .nil) (q_not R).o <| p2 R 31 R 36 R (vj R hb132) <| av R R <| qx ?_
     exact qw (.o2 R (.nil _)) (Kj111 () (!t133) h)
theorem types_Valid.con (k : Nat) (a0 : Types) (r : (Str × Int)) (h : types_Valid k a0 = some r) : Con Tryz.prog 49 [] [AggA [SlcA kNodeType a0.fNodes, SlcA kEdgeType a0.fEdges]] (RA (TupA [EqA (strV r.1), iA r.2])) := by
 unfold types_Valid at h
 refine vJ (N := 60) Tryz.func49 R R R fun w0_ fg_ => sr <| p1 R 0 R (q_box R (qy _)) <| ak R <| ak R <| nt <| qX <| vx <| sr <| fd R R fo35_0 R ?_
 refine ld R R sh32 <| p1 R 12 R (vN R elS32) <| pk R 13 R (qN R R) <| av R R <| qx <| qw (env' := [(10, _), (1, _)]) (.o2 R (.nil _)) <| qq ?_
 refine qZ h R (fun hb100 h => ?_) (fun hb100 h => ?_)
 ·refine sr <| ak R <| ak R <| nt <| vq <| vz <| qQ ?_
  cases h
  exact QR.f2 R R (.t R) (.t R) (.id _)
 ·refine qX ?_
  refine W.jn1 (Γ := Unit) (fun (_ : Unit) (x15 : Bool) => [(1, PtrA [SlcA kNodeType a0.fNodes, SlcA kEdgeType a0.fEdges]), (15, bA x15)]) (fun (_ : Unit) (_ : Bool) => []) h (fun _ x15 h => ?_) (fun j103 Kj103 h => ?_)
  ·refine qq ?_
   refine qZ h R (fun hb104 h => ?_) (fun hb104 h => ?_)
   ·refine sr <| ak R <| ak R <| nt <| vq <| vz <| qQ ?_
    cases h
    exact QR.f2 R R (.t R) (.t R) (.id _)
   ·refine qB <| vZ <| qq <| qX <| sr <| fd R R fo35_0 R <| ld R R sh32 <| p1 R 27 R (vN R elS32) <| mk_ R <| nt <| vx ?_
    refine W.loop1 (Γ := Unit) (fun (_ : Unit) (x29 : Int) => [(1, PtrA [SlcA kNodeType a0.fNodes, SlcA kEdgeType a0.fEdges]), (27, SlcA kNodeType a0.fNodes), (28, iA (a0.fNodes.length : Int)), (29, iA x29)]) (fun (_ : Unit) (_ : Int) => []) h () (.o4 R (.nil _)) R (fun rec0 K0 next0 _ x29 h => ?_)
    unfold types_Valid.b0 at h
    refine sr <| p2 R 29 R 28 R (qN R R) <| nt <| qX ?_
    refine qZ h R (fun hb153 h => ?_) (fun hb153 h => ?_)
    ·refine qB <| qq <| qX <| vx <| sr <| mv R R ?_
     obtain ⟨c154, h⟩ := qK h
     refine p2 R 27 R 29 R (vX R el32 R c154.1 c154.2) <| lS R R sh92 R R <| WL.w [] R (qj R) R R .nil (w_alloc R z92 (l := [EqA (strV ([] : Str)), iA 0, bA false, EqA (.slice none 0 0)]) R) ?_
     rintro _ _ ⟨b155, rfl, rfl⟩
     refine av R R <| WL.w0 [0] R (qj R) R (.s 5 R (.s 33 R .nil)) (w_store (L := [EqA (strV ((rd a0.fNodes x29).fName)), iA ((rd a0.fNodes x29).fParent), bA ((rd a0.fNodes x29).fAbstract), SlcA kAttr ((rd a0.fNodes x29).fAttrs)]) R sh92 (qy _) R R (leB R) R) ?_
     rintro _ _ ⟨rfl, rfl⟩
     refine qx <| QN.to (StTo.still [0] 5 R R) <| qq <| sr <| lS R R sh35 R R <| mv R R ?_
     obtain ⟨t156, ht156, h⟩ := vw h
     refine p2 R 34 R 35 R (vy (f := 101) (A := iA t156) (xs := [.tmp 34, .tmp 35]) («as» := [AggA [SlcA kNodeType a0.fNodes, SlcA kEdgeType a0.fEdges], iA x29]) R ca101 (types_node.con k a0 x29 t156 ht156) R) <| av R R <| qx <| qw (env' := [(6, _), (5, _), (29, _), (28, _), (27, _), (1, _)]) (.o4 R (.o2 R (.nil _))) <| qq <| sr <| mv R R <| pk R 37 R (qN R R) <| nt ?_
     refine qZ h R (fun hb157 h => ?_) (fun hb157 h => ?_)
     ·refine sr <| fd R R fo92_0 R <| ld R R sh9 <| mv R R <| av R R <| av R R <| qx <| qw (env' := [(3, _), (2, _)]) (.o2 R (.nil _)) <| qq <| vq <| vz <| qQ ?_
      refine qQ <| vz <| qQ ?_
      cases h
      exact QR.f2 R R (.t R) (.t R) (.id _)
     ·refine qB <| vZ <| qq <| qJ ?_
      obtain ⟨c158, h⟩ := qK h
      refine pk R 29 R (vK R c158) <| mv R R <| qx ?_
      exact next0 () (x29 + 1) _ h (.o4 R (.nil _))
    ·refine W.exit <| qV <| qV <| vB <| qq <| qX <| sr <| fd R R fo35_1 R <| ld R R sh33 <| p1 R 44 R (vN R elS33) <| mk_ R <| qx ?_
     refine qq <| vx ?_
     refine W.loop1 (Γ := Unit) (fun (_ : Unit) (x46 : Int) => [(1, PtrA [SlcA kNodeType a0.fNodes, SlcA kEdgeType a0.fEdges]), (44, SlcA kEdgeType a0.fEdges), (45, iA (a0.fEdges.length : Int)), (46, iA x46)]) (fun (_ : Unit) (_ : Int) => []) h () (.o4 R (.nil _)) R (fun rec1 K1 next1 _ x46 h => ?_)
     unfold types_Valid.b1 at h
     refine sr <| p2 R 46 R 45 R (qN R R) <| nt <| qX ?_
     refine qZ h R (fun hb171 h => ?_) (fun hb171 h => ?_)
     ·refine qB <| qq <| qX <| vx <| sr <| mv R R ?_
      obtain ⟨c172, h⟩ := qK h
      refine p2 R 44 R 46 R (vX R el33 R c172.1 c172.2) <| lS R R sh97 R R <| WL.w [] R (qj R) R R .nil (w_alloc R z97 (l := [EqA (strV ([] : Str)), iA 0, iA 0, iA 0, iA 0, iA 0, iA 0]) R) ?_
      rintro _ _ ⟨b173, rfl, rfl⟩
      refine av R R <| WL.w0 [0] R (qj R) R (.s 8 R (.s 50 R .nil)) (w_store (L := [EqA (strV ((rd a0.fEdges x46).fName)), iA ((rd a0.fEdges x46).fFrom), iA ((rd a0.fEdges x46).fTo), iA ((rd a0.fEdges x46).fOutLow), iA ((rd a0.fEdges x46).fOutHigh), iA ((rd a0.fEdges x46).fInLow), iA ((rd a0.fEdges x46).fInHigh)]) R sh97 (qy _) R R (leB R) R) ?_
      rintro _ _ ⟨rfl, rfl⟩
      refine qx <| QN.to (StTo.still [0] 8 R R) <| qq <| sr <| lS R R sh35 R R <| mv R R ?_
      obtain ⟨t174, ht174, h⟩ := vw h
      refine p2 R 51 R 52 R (vy (f := 102) (A := iA t174) (xs := [.tmp 51, .tmp 52]) («as» := [AggA [SlcA kNodeType a0.fNodes, SlcA kEdgeType a0.fEdges], iA x46]) R ca102 (types_edge.con k a0 x46 t174 ht174) R) <| av R R <| qx <| qw (env' := [(9, _), (8, _), (46, _), (45, _), (44, _), (1, _)]) (.o4 R (.o2 R (.nil _))) <| qq <| sr <| mv R R <| pk R 54 R (qN R R) <| nt ?_
      refine qZ h R (fun hb175 h => ?_) (fun hb175 h => ?_)
      ·refine sr <| fd R R fo97_0 R <| ld R R sh9 <| mv R R <| av R R <| av R R <| qx <| qw (env' := [(3, _), (2, _)]) (.o2 R (.nil _)) <| qq <| vq <| vz <| qQ ?_
       refine qQ <| vz <| qQ ?_
       cases h
       exact QR.f2 R R (.t R) (.t R) (.id _)
      ·refine qB <| vZ <| qq <| qJ ?_
       obtain ⟨c176, h⟩ := qK h
       refine pk R 46 R (vK R c176) <| mv R R <| qx ?_
       exact next1 () (x46 + 1) _ h (.o4 R (.nil _))
     ·refine W.exit <| qV <| qV <| vB <| qq <| sr <| ak R <| ak R <| nt <| vq ?_
      cases h
      exact QR.f2 R R (.t R) (.t R) (.id _)
  ·refine qJ <| fd R R fo35_0 R <| ld R R sh32 <| p1 R 17 R (vN R elS32) <| pk R 18 R (qN R R) <| mv R R ?_
   rcases bif_s h with ⟨hb177, h⟩ | ⟨hb177, h⟩
   ·refine sk R R R hb177 <| sk R R R hb177 <| sk R R R hb177 <| sk R R R hb177 <| pk R 20 R (vQ R hb177) <| av R R <| qx ?_
    exact qw (.o2 R (.nil _)) (Kj103 () true h)
   ·refine wf R R R hb177 R R fo35_1 R <| wl R R R hb177 R R sh33 <| wq R R R hb177 (.s 22 R .nil) (vN R elS33).o <| wq R R R hb177 (.s 23 R (.k .nil)) (qN R R).o <| p2 R 20 R 24 R (vj R hb177) <| av R R <| qx ?_
    exact qw (.o2 R (.nil _)) (Kj103 () (decide ((a0.fEdges.length : Int) > 20)) h)
theorem slices_IndexFunc_int.con (k : Nat) (a0 : (List Int)) (a1 : (Int → Option Bool)) (r : Int) (h : slices_IndexFunc_int k a0 a1 = some r) : Con Tryz.prog 107 [] [SlcA kInt a0, FnA Tryz.prog (fun (x : Int) => [iA x]) (fun (y : Bool) => bA y) a1] (RA (iA r)) := by
 unfold slices_IndexFunc_int at h
 refine vJ (N := 19) Tryz.func107 R R R fun w0_ fg_ => sr <| ak R <| nt <| qX <| sr <| mv R R <| p1 R 6 R (vN R elS26) <| mk_ R <| qx ?_
 refine qq <| vx ?_
 refine W.loop1 (Γ := Unit) (fun (_ : Unit) (x8 : Int) => [(0, SlcA kInt a0), (1, FnA Tryz.prog (fun (x : Int) => [iA x]) (fun (y : Bool) => bA y) a1), (7, iA (a0.length : Int)), (8, iA x8)]) (fun (_ : Unit) (_ : Int) => []) h () (.o4 R (.nil _)) R (fun rec0 K0 next0 _ x8 h => ?_)
 unfold slices_IndexFunc_int.b0 at h
 refine sr <| p2 R 8 R 7 R (qN R R) <| nt <| qX ?_
 refine qZ h R (fun hb110 h => ?_) (fun hb110 h => ?_)
 ·refine qB <| qq <| qX <| vx <| sr <| mv R R <| av R R <| nx <| mv R R ?_
  refine mv R R <| mv R R ?_
  obtain ⟨c111, h⟩ := qK h
  refine p2 R 12 R 13 R (vX R el26 R c111.1 c111.2) <| ld R R sh3 ?_
  obtain ⟨t112, ht112, h⟩ := vw h
  refine p2 R 11 R 15 R (q_callV («as» := (fun (x : Int) => [iA x])) (res := (fun (y : Bool) => bA y)) (x := (rd a0 x8)) (y := t112) (xs := [.tmp 15]) R ht112 R) <| qx <| qw (env' := [(16, _), (5, _), (8, _), (7, _), (1, _), (0, _)]) (.o4 R (.o2 R (.nil _))) <| qq ?_
  refine qZ h R (fun hb113 h => ?_) (fun hb113 h => ?_)
  ·refine sr <| mv R R <| av R R <| qx <| qw (env' := [(4, _)]) (.one R (.nil _)) <| qq <| vq <| vz <| qQ <| qQ <| vz <| qQ ?_
   cases h
   exact vW R R (.t R) (.id _)
  ·refine qB <| vZ <| qq <| qJ ?_
   obtain ⟨c114, h⟩ := qK h
   refine pk R 8 R (vK R c114) <| mv R R <| qx ?_
   exact next0 () (x8 + 1) _ h (.o4 R (.nil _))
 ·refine W.exit <| qV <| qV <| vB <| qq <| sr <| ak R <| nt <| vq ?_
  cases h
  exact vW R R (.t R) (.id _)
theorem slices_ContainsFunc_int.con (k : Nat) (a0 : (List Int)) (a1 : (Int → Option Bool)) (r : Bool) (h : slices_ContainsFunc_int k a0 a1 = some r) : Con Tryz.prog 51 [] [SlcA kInt a0, FnA Tryz.prog (fun (x : Int) => [iA x]) (fun (y : Bool) => bA y) a1] (RA (bA r)) := by
 unfold slices_ContainsFunc_int at h
 refine vJ (N := 9) Tryz.func51 R R R fun w0_ fg_ => sr <| ak R <| nx <| mv R R <| mv R R ?_
 obtain ⟨t100, ht100, h⟩ := vw h
 refine p2 R 5 R 6 R (vy (f := 107) (A := iA t100) (xs := [.tmp 5, .tmp 6]) («as» := [SlcA kInt a0, FnA Tryz.prog (fun (x : Int) => [iA x]) (fun (y : Bool) => bA y) a1]) R ca107 (slices_IndexFunc_int.con k a0 a1 t100 ht100) R) <| pk R 7 R (qN R R) <| av R R <| nt <| vq ?_
 cases h
 exact vW R R (.t R) (.id _)
theorem graph_within.con (k : Nat) (a0 : Int) (a1 : Int) (r : Bool) (h : graph_within k a0 a1 = some r) : Con Tryz.prog 104 [] [iA a0, iA a1] (RA (bA r)) := by
 unfold graph_within at h
 refine vJ (N := 12) Tryz.func104 R R R fun w0_ fg_ => sr <| ak R <| nt <| qX ?_
 refine W.jn1 (Γ := Unit) (fun (_ : Unit) (x4 : Bool) => [(4, bA x4)]) (fun (_ : Unit) (_ : Bool) => []) h (fun _ x4 h => ?_) (fun j102 Kj102 h => ?_)
 ·refine qq <| vq ?_
  cases h
  exact vW R R (.t R) (.id _)
 ·refine qJ <| mv R R <| pk R 5 R (qN R R) <| mv R R ?_
  rcases bif_s h with ⟨hb103, h⟩ | ⟨hb103, h⟩
  ·refine wm R R R hb103 R R <| wm R R R hb103 R R <| wq R R R hb103 (.s 8 R (.s 9 R .nil)) (qN R R).o <| p2 R 7 R 10 R (vQ R hb103) <| av R R <| qx ?_
   exact qw (.one R (.nil _)) (Kj102 () (decide (a0 ≤ a1)) h)
  ·refine sk R R R hb103 <| sk R R R hb103 <| sk R R R hb103 <| pk R 7 R (vj R hb103) <| av R R <| qx ?_
   exact qw (.one R (.nil _)) (Kj102 () false h)
theorem graph_Valid_1.con (k : Nat) (a0 : Int) (r : Bool) (h : graph_Valid_1 k a0 = some r) : Con Tryz.prog 103 [] [iA a0] (RA (bA r)) := by
 unfold graph_Valid_1 at h
 refine vJ (N := 6) Tryz.func103 R R R fun w0_ fg_ => sr <| ak R <| nx <| mv R R ?_
 obtain ⟨t100, ht100, h⟩ := vw h
 refine pk R 3 R (vy (f := 104) (A := bA t100) (xs := [.tmp 3, .const (.int .i64 99)]) («as» := [iA a0, iA 99]) R ca104 (graph_within.con k a0 99 t100 ht100) R) <| p1 R 4 R (q_not R) <| av R R <| nt <| vq ?_
 cases h
 exact vW R R (.t R) (.id _)
theorem graph_fits.con (k : Nat) (a0 : Edge) (a1 : Int) (r : Bool) (h : graph_fits k a0 a1 = some r) : Con Tryz.prog 106 [] [AggA [iA a0.fType, iA a0.fFrom, iA a0.fTo], iA a1] (RA (bA r)) := by
 unfold graph_fits at h
 refine vJ (N := 22) Tryz.func106 R R R fun w0_ fg_ => sr <| p1 R 0 R (q_box R (qy _)) <| ak R <| nt <| qX ?_
 refine W.jn1 (Γ := Unit) (fun (_ : Unit) (x4 : Bool) => [(4, bA x4)]) (fun (_ : Unit) (_ : Bool) => []) h (fun _ x4 h => ?_) (fun j108 Kj108 h => ?_)
 ·refine qq <| vq ?_
  cases h
  exact vW R R (.t R) (.id _)
 ·refine qJ <| fd R R fo109_0 R <| ld R R sh3 ?_
  obtain ⟨t109, ht109, h⟩ := vw h
  refine pk R 6 R (vy (f := 104) (A := bA t109) (xs := [.tmp 6, .const (.int .i64 99)]) («as» := [iA a0.fType, iA 99]) R ca104 (graph_within.con k a0.fType 99 t109 ht109) R) <| mv R R ?_
  rcases bif_s h with ⟨hb110, h⟩ | ⟨hb110, h⟩
  ·refine wf R R R hb110 R R fo109_1 R <| wl R R R hb110 R R sh3 <| wm R R R hb110 R R ?_
   obtain ⟨c111, h⟩ := qK h
   refine wq R R R hb110 (.s 11 R (.k .nil)) (q_subR R c111).o ?_
   obtain ⟨t112, ht112, h⟩ := vw h
   refine wq R R R hb110 (.s 10 R (.s 12 R .nil)) (vy (f := 104) (A := bA t112) (xs := [.tmp 10, .tmp 12]) («as» := [iA a0.fFrom, iA (a1 - 1)]) R ca104 (graph_within.con k a0.fFrom (a1 - 1) t112 ht112) R).o <| p2 R 8 R 13 R (vQ R hb110) <| mv R R ?_
   rcases bif_s h with ⟨hb113, h⟩ | ⟨hb113, h⟩
   ·refine wf R R R hb113 R R fo109_2 R <| wl R R R hb113 R R sh3 <| wm R R R hb113 R R ?_
    obtain ⟨c114, h⟩ := qK h
    refine wq R R R hb113 (.s 18 R (.k .nil)) (q_subR R c114).o ?_
    obtain ⟨t115, ht115, h⟩ := vw h
    refine wq R R R hb113 (.s 17 R (.s 19 R .nil)) (vy (f := 104) (A := bA t115) (xs := [.tmp 17, .tmp 19]) («as» := [iA a0.fTo, iA (a1 - 1)]) R ca104 (graph_within.con k a0.fTo (a1 - 1) t115 ht115) R).o <| p2 R 15 R 20 R (vQ R hb113) <| av R R <| qx ?_
    exact qw (.one R (.nil _)) (Kj108 () t115 h)
   ·refine sk R R R hb113 <| sk R R R hb113 <| sk R R R hb113 <| sk R R R hb113 <| sk R R R hb113 <| pk R 15 R (vj R hb113) <| av R R <| qx ?_
    exact qw (.one R (.nil _)) (Kj108 () false h)
  ·refine sk R R R hb110 <| sk R R R hb110 <| sk R R R hb110 <| sk R R R hb110 <| sk R R R hb110 <| pk R 8 R (vj R hb110) <| mv R R <| sk R R R R <| sk R R R R <| sk R R R R <| sk R R R R <| sk R R R R <| pk R 15 R (vj R R) ?_
   refine av R R <| qx ?_
   exact qw (.one R (.nil _)) (Kj108 () false h)
theorem graph_Valid_2.con (k : Nat) (a0 : Edge) (a1 : Graph) (r : Bool) (h : graph_Valid_2 k a0 a1 = some r) : Con Tryz.prog 105 [] [AggA [iA a0.fType, iA a0.fFrom, iA a0.fTo], PtrA [SlcA kInt a1.fNodes, SlcA kEdge a1.fEdges]] (RA (bA r)) := by
 unfold graph_Valid_2 at h
 refine vJ (N := 10) Tryz.func105 R R R fun w0_ fg_ => sr <| p1 R 0 R (q_box R (qy _)) <| ak R <| nx <| lS R R sh109 R R <| fd R R fo38_0 R <| ld R R sh26 <| p1 R 6 R (vN R elS26) ?_
 obtain ⟨t100, ht100, h⟩ := vw h
 refine p2 R 4 R 7 R (vy (f := 106) (A := bA t100) (xs := [.tmp 4, .tmp 7]) («as» := [AggA [iA a0.fType, iA a0.fFrom, iA a0.fTo], iA (a1.fNodes.length : Int)]) R ca106 (graph_fits.con k a0 (a1.fNodes.length : Int) t100 ht100) R) <| p1 R 8 R (q_not R) <| av R R <| qx <| qw (env' := [(3, _)]) (.one R (.nil _)) <| qq <| vq ?_
 cases h
 exact vW R R (.t R) (.id _)
theorem slices_IndexFunc_Edge.con (k : Nat) (a0 : (List Edge)) (a1 : (Edge → Option Bool)) (r : Int) (h : slices_IndexFunc_Edge k a0 a1 = some r) : Con Tryz.prog 108 [] [SlcA kEdge a0, FnA Tryz.prog (fun (x : Edge) => [AggA [iA x.fType, iA x.fFrom, iA x.fTo]]) (fun (y : Bool) => bA y) a1] (RA (iA r)) := by
 unfold slices_IndexFunc_Edge at h
 refine vJ (N := 19) Tryz.func108 R R R fun w0_ fg_ => sr <| ak R <| nt <| qX <| sr <| mv R R <| p1 R 6 R (vN R elS36) <| mk_ R <| qx ?_
 refine qq <| vx ?_
 refine W.loop1 (Γ := Unit) (fun (_ : Unit) (x8 : Int) => [(0, SlcA kEdge a0), (1, FnA Tryz.prog (fun (x : Edge) => [AggA [iA x.fType, iA x.fFrom, iA x.fTo]]) (fun (y : Bool) => bA y) a1), (7, iA (a0.length : Int)), (8, iA x8)]) (fun (_ : Unit) (_ : Int) => []) h () (.o4 R (.nil _)) R (fun rec0 K0 next0 _ x8 h => ?_)
 unfold slices_IndexFunc_Edge.b0 at h
 refine sr <| p2 R 8 R 7 R (qN R R) <| nt <| qX ?_
 refine qZ h R (fun hb110 h => ?_) (fun hb110 h => ?_)
 ·refine qB <| qq <| qX <| vx <| sr <| mv R R <| av R R <| nx <| mv R R ?_
  refine mv R R <| mv R R ?_
  obtain ⟨c111, h⟩ := qK h
  refine p2 R 12 R 13 R (vX R el36 R c111.1 c111.2) <| lS R R sh109 R R ?_
  obtain ⟨t112, ht112, h⟩ := vw h
  refine p2 R 11 R 15 R (q_callV («as» := (fun (x : Edge) => [AggA [iA x.fType, iA x.fFrom, iA x.fTo]])) (res := (fun (y : Bool) => bA y)) (x := (rd a0 x8)) (y := t112) (xs := [.tmp 15]) R ht112 R) <| qx <| qw (env' := [(16, _), (5, _), (8, _), (7, _), (1, _), (0, _)]) (.o4 R (.o2 R (.nil _))) <| qq ?_
  refine qZ h R (fun hb113 h => ?_) (fun hb113 h => ?_)
  ·refine sr <| mv R R <| av R R <| qx <| qw (env' := [(4, _)]) (.one R (.nil _)) <| qq <| vq <| vz <| qQ <| qQ <| vz <| qQ ?_
   cases h
   exact vW R R (.t R) (.id _)
  ·refine qB <| vZ <| qq <| qJ ?_
   obtain ⟨c114, h⟩ := qK h
   refine pk R 8 R (vK R c114) <| mv R R <| qx ?_
   exact next0 () (x8 + 1) _ h (.o4 R (.nil _))
 ·refine W.exit <| qV <| qV <| vB <| qq <| sr <| ak R <| nt <| vq ?_
  cases h
  exact vW R R (.t R) (.id _)
theorem slices_ContainsFunc_Edge.con (k : Nat) (a0 : (List Edge)) (a1 : (Edge → Option Bool)) (r : Bool) (h : slices_ContainsFunc_Edge k a0 a1 = some r) : Con Tryz.prog 53 [] [SlcA kEdge a0, FnA Tryz.prog (fun (x : Edge) => [AggA [iA x.fType, iA x.fFrom, iA x.fTo]]) (fun (y : Bool) => bA y) a1] (RA (bA r)) := by
 unfold slices_ContainsFunc_Edge at h
 refine vJ (N := 9) Tryz.func53 R R R fun w0_ fg_ => sr <| ak R <| nx <| mv R R <| mv R R ?_
 obtain ⟨t100, ht100, h⟩ := vw h
 refine p2 R 5 R 6 R (vy (f := 108) (A := iA t100) (xs := [.tmp 5, .tmp 6]) («as» := [SlcA kEdge a0, FnA Tryz.prog (fun (x : Edge) => [AggA [iA x.fType, iA x.fFrom, iA x.fTo]]) (fun (y : Bool) => bA y) a1]) R ca108 (slices_IndexFunc_Edge.con k a0 a1 t100 ht100) R) <| pk R 7 R (qN R R) <| av R R <| nt <| vq ?_
 cases h
 exact vW R R (.t R) (.id _)
theorem graph_Valid.con (k : Nat) (a0 : Graph) (r : Int) (h : graph_Valid k a0 = some r) : Con Tryz.prog 50 [] [AggA [SlcA kInt a0.fNodes, SlcA kEdge a0.fEdges]] (RA (iA r)) := by
 unfold graph_Valid at h
 refine vJ (N := 20) Tryz.func50 R R R fun w0_ fg_ => sr <| p1 R 0 R (q_box R (qy _)) <| ak R <| nt <| qX <| qX ?_
 refine W.jn1 (Γ := Unit) (fun (_ : Unit) (x12 : Bool) => [(1, PtrA [SlcA kInt a0.fNodes, SlcA kEdge a0.fEdges]), (12, bA x12)]) (fun (_ : Unit) (_ : Bool) => []) h (fun _ x12 h => ?_) (fun j102 Kj102 h => ?_)
 ·refine qq ?_
  refine qZ h R (fun hb103 h => ?_) (fun hb103 h => ?_)
  ·refine sr <| ak R <| nt <| vq <| qQ ?_
   cases h
   exact vW R R (.t R) (.id _)
  ·refine qB <| qq <| qX <| sr <| fd R R fo38_0 R <| ld R R sh26 ?_
   obtain ⟨t104, ht104, h⟩ := vw h
   refine WL.p R R R (.s 14 R (.f («as» := (fun (x : Int) => [iA x])) (res := (fun (y : Bool) => bA y)) (p := fun x => graph_Valid_1 k x) ca103 (fun x y hp => graph_Valid_1.con k x y hp) .nil)) (vy (f := 51) (A := bA t104) (xs := [.tmp 14, .func 103]) («as» := [SlcA kInt a0.fNodes, FnA Tryz.prog (fun (x : Int) => [iA x]) (fun (y : Bool) => bA y) (fun x => graph_Valid_1 k x)]) R ca51 (slices_ContainsFunc_int.con k a0.fNodes (fun x => graph_Valid_1 k x) t104 ht104) R) <| nt ?_
   refine qZ h R (fun hb105 h => ?_) (fun hb105 h => ?_)
   ·refine sr <| ak R <| nt <| vq <| qQ ?_
    cases h
    exact vW R R (.t R) (.id _)
   ·refine qB <| qq <| qX <| sr <| fd R R fo38_1 R <| ld R R sh36 <| p1 R 1 R (q_makeFunc (xs := [.tmp 1]) (L := [PtrA [SlcA kInt a0.fNodes, SlcA kEdge a0.fEdges]]) («as» := (fun (x : Edge) => [AggA [iA x.fType, iA x.fFrom, iA x.fTo]])) (res := (fun (y : Bool) => bA y)) (p := (fun x => graph_Valid_2 k x a0)) R ca105 R (fun x y hp => (graph_Valid_2.con k x a0 y hp))) ?_
    obtain ⟨t106, ht106, h⟩ := vw h
    refine p2 R 17 R 18 R (vy (f := 53) (A := bA t106) (xs := [.tmp 17, .tmp 18]) («as» := [SlcA kEdge a0.fEdges, FnA Tryz.prog (fun (x : Edge) => [AggA [iA x.fType, iA x.fFrom, iA x.fTo]]) (fun (y : Bool) => bA y) (fun x => graph_Valid_2 k x a0)]) R ca53 (slices_ContainsFunc_Edge.con k a0.fEdges (fun x => graph_Valid_2 k x a0) t106 ht106) R) <| qx <| qw (env' := [(19, _)]) (.one R (.nil _)) <| qq ?_
    refine qZ h R (fun hb107 h => ?_) (fun hb107 h => ?_)
    ·refine sr <| ak R <| nt <| vq <| qQ ?_
     cases h
     exact vW R R (.t R) (.id _)
    ·refine qB <| qq <| sr <| ak R <| nt <| vq ?_
     cases h
     exact vW R R (.t R) (.id _)
 ·refine qJ <| fd R R fo38_0 R <| ld R R sh26 <| p1 R 4 R (vN R elS26) <| pk R 5 R (qN R R) <| mv R R ?_
  rcases bif_s h with ⟨hb108, h⟩ | ⟨hb108, h⟩
  ·refine sk R R R hb108 <| sk R R R hb108 <| sk R R R hb108 <| sk R R R hb108 <| pk R 7 R (vQ R hb108) <| qx ?_
   exact qw (.o2 R (.nil _)) (Kj102 () true h)
  ·refine wf R R R hb108 R R fo38_1 R <| wl R R R hb108 R R sh36 <| wq R R R hb108 (.s 9 R .nil) (vN R elS36).o <| wq R R R hb108 (.s 10 R (.k .nil)) (qN R R).o <| p2 R 7 R 11 R (vj R hb108) <| qx ?_
   exact qw (.o2 R (.nil _)) (Kj102 () (decide ((a0.fEdges.length : Int) > 80)) h)
theorem attribute_Valid_1.con (k : Nat) (a0 : Int) (a1 : Types) (r : Bool) (h : attribute_Valid_1 k a0 a1 = some r) : Con Tryz.prog 52 [] [iA a0, PtrA [SlcA kNodeType a1.fNodes, SlcA kEdgeType a1.fEdges]] (RA (bA r)) := by
 unfold attribute_Valid_1 at h
 refine vJ (N := 9) Tryz.func52 R R R fun w0_ fg_ => sr <| ak R <| nx <| mv R R <| fd R R fo35_0 R <| ld R R sh32 <| p1 R 6 R (vN R elS32) <| p2 R 4 R 7 R (qN R R) ?_
 refine av R R <| qx <| qw (env' := [(3, _)]) (.one R (.nil _)) <| qq <| vq ?_
 cases h
 exact vW R R (.t R) (.id _)
theorem attribute_Valid_2.con (k : Nat) (a0 : Edge) (a1 : Types) (r : Bool) (h : attribute_Valid_2 k a0 a1 = some r) : Con Tryz.prog 54 [] [AggA [iA a0.fType, iA a0.fFrom, iA a0.fTo], PtrA [SlcA kNodeType a1.fNodes, SlcA kEdgeType a1.fEdges]] (RA (bA r)) := by
 unfold attribute_Valid_2 at h
 refine vJ (N := 10) Tryz.func54 R R R fun w0_ fg_ => sr <| p1 R 0 R (q_box R (qy _)) <| ak R <| nx <| fd R R fo109_0 R <| ld R R sh3 <| fd R R fo35_1 R <| ld R R sh33 ?_
 refine p1 R 7 R (vN R elS33) <| p2 R 5 R 8 R (qN R R) <| av R R <| qx <| qw (env' := [(3, _)]) (.one R (.nil _)) <| qq <| vq ?_
 cases h
 exact vW R R (.t R) (.id _)
theorem attribute_within.con (k : Nat) (a0 : Int) (a1 : Int) (a2 : Int) (r : Bool) (h : attribute_within k a0 a1 a2 = some r) : Con Tryz.prog 40 [] [iA a0, iA a1, iA a2] (RA (bA r)) := by
 unfold attribute_within at h
 refine vJ (N := 15) Tryz.func40 R R R fun w0_ fg_ => sr <| ak R <| nt <| qX ?_
 refine W.jn1 (Γ := Unit) (fun (_ : Unit) (x6 : Bool) => [(6, bA x6)]) (fun (_ : Unit) (_ : Bool) => []) h (fun _ x6 h => ?_) (fun j102 Kj102 h => ?_)
 ·refine qq <| vq ?_
  cases h
  exact vW R R (.t R) (.id _)
 ·refine qJ <| mv R R <| mv R R <| p2 R 7 R 8 R (qN R R) <| mv R R ?_
  rcases bif_s h with ⟨hb103, h⟩ | ⟨hb103, h⟩
  ·refine wm R R R hb103 R R <| wm R R R hb103 R R <| wq R R R hb103 (.s 11 R (.s 12 R .nil)) (qN R R).o <| p2 R 10 R 13 R (vQ R hb103) <| av R R <| qx ?_
   exact qw (.one R (.nil _)) (Kj102 () (decide (a0 ≤ a2)) h)
  ·refine sk R R R hb103 <| sk R R R hb103 <| sk R R R hb103 <| pk R 10 R (vj R hb103) <| av R R <| qx ?_
   exact qw (.one R (.nil _)) (Kj102 () false h)
theorem types_given_1.con (k : Nat) (a0 : Int) (a1 : Types) (r : Bool) (h : types_given_1 k a0 a1 = some r) : Con Tryz.prog 173 [] [iA a0, PtrA [SlcA kNodeType a1.fNodes, SlcA kEdgeType a1.fEdges]] (RA (bA r)) := by
 unfold types_given_1 at h
 refine vJ (N := 13) Tryz.func173 R R R fun w0_ fg_ => sr <| ak R <| nt <| qX ?_
 refine W.jn1 (Γ := Unit) (fun (_ : Unit) (x3 : Bool) => [(3, bA x3)]) (fun (_ : Unit) (_ : Bool) => []) h (fun _ x3 h => ?_) (fun j102 Kj102 h => ?_)
 ·refine qq <| vq ?_
  cases h
  exact vW R R (.t R) (.id _)
 ·refine qJ <| mv R R <| pk R 4 R (qN R R) <| mv R R ?_
  rcases bif_s h with ⟨hb103, h⟩ | ⟨hb103, h⟩
  ·refine sk R R R hb103 <| sk R R R hb103 <| sk R R R hb103 <| sk R R R hb103 <| sk R R R hb103 <| pk R 6 R (vQ R hb103) <| av R R <| qx ?_
   exact qw (.one R (.nil _)) (Kj102 () true h)
  ·refine wm R R R hb103 R R <| wf R R R hb103 R R fo35_0 R <| wl R R R hb103 R R sh32 <| wq R R R hb103 (.s 9 R .nil) (vN R elS32).o <| wq R R R hb103 (.s 7 R (.s 10 R .nil)) (qN R R).o <| p2 R 6 R 11 R (vj R hb103) <| av R R <| qx ?_
   exact qw (.one R (.nil _)) (Kj102 () (decide (a0 ≥ (a1.fNodes.length : Int))) h)
theorem types_given.con (k : Nat) (a0 : Types) (a1 : (List Int)) (r : Int) (h : types_given k a0 a1 = some r) : Con Tryz.prog 133 [] [AggA [SlcA kNodeType a0.fNodes, SlcA kEdgeType a0.fEdges], SlcA kInt a1] (RA (iA r)) := by
 unfold types_given at h
 refine vJ (N := 18) Tryz.func133 R R R fun w0_ fg_ => sr <| p1 R 0 R (q_box R (qy _)) <| ak R <| nt <| qX <| sr <| lS R R sh35 R R ?_
 obtain ⟨t100, ht100, h⟩ := vw h
 refine p1 R 8 R (vy (f := 49) (A := TupA [EqA (strV t100.1), iA t100.2]) (xs := [.tmp 8]) («as» := [AggA [SlcA kNodeType a0.fNodes, SlcA kEdgeType a0.fEdges]]) R ca49 (types_Valid.con k a0 t100 ht100) R) <| mv R R <| p1 R 7 R (vV R R) <| p1 R 7 R (vV R R) <| av R R <| av R R <| qx <| qw (env' := [(6, _), (2, _), (1, _)]) (.o2 R (.one R (.nil _))) <| qq <| sr <| mv R R <| pk R 12 R (qN R R) ?_
 refine nt ?_
 refine qZ h R (fun hb101 h => ?_) (fun hb101 h => ?_)
 ·refine sr <| mv R R <| av R R <| nt <| vq <| qQ ?_
  cases h
  exact vW R R (.t R) (.id _)
 ·refine qB <| qq <| qX <| sr <| mv R R <| p1 R 2 R (q_makeFunc (xs := [.tmp 2]) (L := [PtrA [SlcA kNodeType a0.fNodes, SlcA kEdgeType a0.fEdges]]) («as» := (fun (x : Int) => [iA x])) (res := (fun (y : Bool) => bA y)) (p := (fun x => types_given_1 k x a0)) R ca173 R (fun x y hp => (types_given_1.con k x a0 y hp))) ?_
  obtain ⟨t102, ht102, h⟩ := vw h
  refine p2 R 15 R 16 R (vy (f := 51) (A := bA t102) (xs := [.tmp 15, .tmp 16]) («as» := [SlcA kInt a1, FnA Tryz.prog (fun (x : Int) => [iA x]) (fun (y : Bool) => bA y) (fun x => types_given_1 k x a0)]) R ca51 (slices_ContainsFunc_int.con k a1 (fun x => types_given_1 k x a0) t102 ht102) R) <| qx <| qw (env' := [(17, _)]) (.one R (.nil _)) <| qq ?_
  refine qZ h R (fun hb103 h => ?_) (fun hb103 h => ?_)
  ·refine sr <| ak R <| nt <| vq <| qQ ?_
   cases h
   exact vW R R (.t R) (.id _)
  ·refine qB <| qq <| sr <| ak R <| nt <| vq ?_
   cases h
   exact vW R R (.t R) (.id _)
end Go.Proofs.YtcgdfjpeboiioaaGreat
