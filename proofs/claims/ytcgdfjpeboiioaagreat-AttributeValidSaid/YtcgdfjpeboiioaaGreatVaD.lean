import Derived.Test.YtcgdfjpeboiioaaGreatVaAH
namespace Go.Proofs.YtcgdfjpeboiioaaGreat
open Go Go.Abs
structure Attr where
  fName : Str
  fLow : Int
  fHigh : Int
  fNames : (List Str)
  deriving Inhabited, DecidableEq
def kAttr : Kd Attr := ⟨4, fun x => [EqA (strV x.fName), EqA (.int .i64 x.fLow), EqA (.int .i64 x.fHigh), SlcA kStr x.fNames], fun _ => rfl, fun _ => rfl⟩
structure NodeType where
  fName : Str
  fParent : Int
  fAbstract : Bool
  fAttrs : (List Attr)
  deriving Inhabited, DecidableEq
def kNodeType : Kd NodeType := ⟨4, fun x => [EqA (strV x.fName), EqA (.int .i64 x.fParent), EqA (.bool x.fAbstract), SlcA kAttr x.fAttrs], fun _ => rfl, fun _ => rfl⟩
structure EdgeType where
  fName : Str
  fFrom : Int
  fTo : Int
  fOutLow : Int
  fOutHigh : Int
  fInLow : Int
  fInHigh : Int
  deriving Inhabited, DecidableEq
def kEdgeType : Kd EdgeType := ⟨7, fun x => [EqA (strV x.fName), EqA (.int .i64 x.fFrom), EqA (.int .i64 x.fTo), EqA (.int .i64 x.fOutLow), EqA (.int .i64 x.fOutHigh), EqA (.int .i64 x.fInLow), EqA (.int .i64 x.fInHigh)], fun _ => rfl, fun _ => rfl⟩
structure Types where
  fNodes : (List NodeType)
  fEdges : (List EdgeType)
  deriving Inhabited, DecidableEq
def kTypes : Kd Types := ⟨2, fun x => [SlcA kNodeType x.fNodes, SlcA kEdgeType x.fEdges], fun _ => rfl, fun _ => rfl⟩
structure Edge where
  fType : Int
  fFrom : Int
  fTo : Int
  deriving Inhabited, DecidableEq
def kEdge : Kd Edge := ⟨3, fun x => [EqA (.int .i64 x.fType), EqA (.int .i64 x.fFrom), EqA (.int .i64 x.fTo)], fun _ => rfl, fun _ => rfl⟩
structure Graph where
  fNodes : (List Int)
  fEdges : (List Edge)
  deriving Inhabited, DecidableEq
def kGraph : Kd Graph := ⟨2, fun x => [SlcA kInt x.fNodes, SlcA kEdge x.fEdges], fun _ => rfl, fun _ => rfl⟩
structure Term where
  fVar : Int
  fAdd : Int
  deriving Inhabited, DecidableEq
def kTerm : Kd Term := ⟨2, fun x => [EqA (.int .i64 x.fVar), EqA (.int .i64 x.fAdd)], fun _ => rfl, fun _ => rfl⟩
structure Slot where
  fNode : Int
  fAttr : Int
  fTerm : Term
  deriving Inhabited, DecidableEq
def kSlot : Kd Slot := ⟨4, fun x => [EqA (.int .i64 x.fNode), EqA (.int .i64 x.fAttr), EqA (.int .i64 x.fTerm.fVar), EqA (.int .i64 x.fTerm.fAdd)], fun _ => rfl, fun _ => rfl⟩
structure Test where
  fKind : Int
  fLeft : Term
  fRight : Term
  deriving Inhabited, DecidableEq
def kTest : Kd Test := ⟨5, fun x => [EqA (.int .i64 x.fKind), EqA (.int .i64 x.fLeft.fVar), EqA (.int .i64 x.fLeft.fAdd), EqA (.int .i64 x.fRight.fVar), EqA (.int .i64 x.fRight.fAdd)], fun _ => rfl, fun _ => rfl⟩
structure Pattern where
  fGraph : Graph
  fSlots : (List Slot)
  fVars : Int
  fTests : (List Test)
  deriving Inhabited, DecidableEq
def kPattern : Kd Pattern := ⟨5, fun x => [SlcA kInt x.fGraph.fNodes, SlcA kEdge x.fGraph.fEdges, SlcA kSlot x.fSlots, EqA (.int .i64 x.fVars), SlcA kTest x.fTests], fun _ => rfl, fun _ => rfl⟩
structure Host where
  fGraph : Graph
  fValues : (List (List Int))
  deriving Inhabited, DecidableEq
def kHost : Kd Host := ⟨3, fun x => [SlcA kInt x.fGraph.fNodes, SlcA kEdge x.fGraph.fEdges, SlcA (kSl kInt) x.fValues], fun _ => rfl, fun _ => rfl⟩
structure Token where
  fKind : Int
  fText : Str
  fLine : Int
  deriving Inhabited, DecidableEq
def kToken : Kd Token := ⟨3, fun x => [EqA (.int .i64 x.fKind), EqA (strV x.fText), EqA (.int .i64 x.fLine)], fun _ => rfl, fun _ => rfl⟩
structure OMorphism where
  fNodes : (Option (List Int))
  fEdges : (Option (List Int))
  deriving Inhabited, DecidableEq
def kOMorphism : Kd OMorphism := ⟨2, fun x => [OptA kInt x.fNodes, OptA kInt x.fEdges], fun _ => rfl, fun _ => rfl⟩
structure Morphism where
  fNodes : (List Int)
  fEdges : (List Int)
  deriving Inhabited, DecidableEq
def kMorphism : Kd Morphism := ⟨2, fun x => [SlcA kInt x.fNodes, SlcA kInt x.fEdges], fun _ => rfl, fun _ => rfl⟩
structure Finder where
  fp : Graph
  fg : Graph
  fis : (List (List Bool))
  fpartial : OMorphism
  finjective : Bool
  fmost : Int
  fnodes : (List Int)
  fedges : (List Int)
  fout : (List Morphism)
  deriving Inhabited, DecidableEq
def kFinder : Kd Finder := ⟨12, fun x => [SlcA kInt x.fp.fNodes, SlcA kEdge x.fp.fEdges, SlcA kInt x.fg.fNodes, SlcA kEdge x.fg.fEdges, SlcA (kSl kBool) x.fis, OptA kInt x.fpartial.fNodes, OptA kInt x.fpartial.fEdges, EqA (.bool x.finjective), EqA (.int .i64 x.fmost), SlcA kInt x.fnodes, SlcA kInt x.fedges, SlcA kMorphism x.fout], fun _ => rfl, fun _ => rfl⟩
structure Match where
  fMorphism : Morphism
  fVars : (List Int)
  deriving Inhabited, DecidableEq
def kMatch : Kd Match := ⟨3, fun x => [SlcA kInt x.fMorphism.fNodes, SlcA kInt x.fMorphism.fEdges, SlcA kInt x.fVars], fun _ => rfl, fun _ => rfl⟩
structure Use where
  fTest : Int
  fSign : Int
  deriving Inhabited, DecidableEq
def kUse : Kd Use := ⟨2, fun x => [EqA (.int .i64 x.fTest), EqA (.int .i64 x.fSign)], fun _ => rfl, fun _ => rfl⟩
structure Arc where
  fuse : Use
  ffrom : Int
  fto : Int
  fmost : Int
  deriving Inhabited, DecidableEq
def kArc : Kd Arc := ⟨5, fun x => [EqA (.int .i64 x.fuse.fTest), EqA (.int .i64 x.fuse.fSign), EqA (.int .i64 x.ffrom), EqA (.int .i64 x.fto), EqA (.int .i64 x.fmost)], fun _ => rfl, fun _ => rfl⟩
structure Arc3 where
  fuse : Use
  ffrom : Int
  fto : Int
  fc : Int
  deriving Inhabited, DecidableEq
def kArc3 : Kd Arc3 := ⟨5, fun x => [EqA (.int .i64 x.fuse.fTest), EqA (.int .i64 x.fuse.fSign), EqA (.int .i64 x.ffrom), EqA (.int .i64 x.fto), EqA (.int .i64 x.fc)], fun _ => rfl, fun _ => rfl⟩
def ref04_Example (k : Nat) : Option Types :=
  (some (Types.mk ([(NodeType.mk ([65, 99, 99, 111, 117, 110, 116] : Str) (-1) true ([(Attr.mk ([98, 97, 108, 97, 110, 99, 101] : Str) (-1000) 1000 [])])), (NodeType.mk ([67, 97, 115, 104] : Str) 0 false []), (NodeType.mk ([76, 111, 97, 110] : Str) 0 false ([(Attr.mk ([115, 116, 97, 116, 101] : Str) 0 1 ([([111, 112, 101, 110] : Str), ([99, 108, 111, 115, 101, 100] : Str)]))])), (NodeType.mk ([80, 101, 114, 115, 111, 110] : Str) (-1) false [])]) ([(EdgeType.mk ([111, 119, 110, 115] : Str) 3 0 0 (-1) 1 1), (EdgeType.mk ([112, 97, 121, 115] : Str) 1 1 0 (-1) 0 (-1))])))
def law21_two (k : Nat) (a0 : Test) : Option Pattern :=
  (some (Pattern.mk (Graph.mk [0, 0] []) [(Slot.mk 0 0 (Term.mk 0 0)), (Slot.mk 1 0 (Term.mk 1 0))] 2 [a0]))
def law21_bank (k : Nat) : Option Host :=
  (some (Host.mk (Graph.mk [3, 1, 1] [(Edge.mk 0 0 1), (Edge.mk 0 0 2)]) ([[], [10], [5]])))
def token_letter (k : Nat) (a0 : Int) : Option Bool :=
  (jn (κ := Bool → Option Bool) (fun (x2 : Bool) => (some x2)) (fun j105 => (bif (decide (a0 ≥ 97)) then (bif (decide (a0 ≤ 122)) then (j105 true) else (bif (decide (a0 ≥ 65)) then (j105 (decide (a0 ≤ 90))) else (j105 false))) else (bif (decide (a0 ≥ 65)) then (j105 (decide (a0 ≤ 90))) else (j105 false)))))
def token_run.b0 (a0 : Str) (a1 : (Int → Option Bool)) (rec0 : Int → Option Int) (x5 : Int) : Option Int :=
  (jn (κ := Bool → Option Int) (fun (x16 : Bool) => (bif x16 then (if inR (x5 + 1) then (rec0 (x5 + 1)) else none) else (some x5))) (fun j124 => (bif (decide (x5 < (a0.length : Int))) then (if (0 : Int) ≤ x5 ∧ x5 < (a0.length : Int) then ((a1 (bt a0 x5)).bind fun t129 => (j124 t129)) else none) else (j124 false))))
def token_run (k : Nat) (a0 : Str) (a1 : (Int → Option Bool)) : Option Int :=
  (loop1 k (token_run.b0 a0 a1) 0)
def token_digit (k : Nat) (a0 : Int) : Option Bool :=
  (jn (κ := Bool → Option Bool) (fun (x2 : Bool) => (some x2)) (fun j102 => (bif (decide (a0 ≥ 48)) then (j102 (decide (a0 ≤ 57))) else (j102 false))))
def token_part (k : Nat) (a0 : Int) : Option Bool :=
  (jn (κ := Bool → Option Bool) (fun (x2 : Bool) => (some x2)) (fun j105 => ((token_letter k a0).bind fun t106 => (bif t106 then (j105 true) else ((token_digit k a0).bind fun t108 => (bif t108 then (j105 true) else (j105 (a0 == 95))))))))
def token_quoted_1 (k : Nat) (a0 : Int) : Option Bool :=
  (jn (κ := Bool → Option Bool) (fun (x2 : Bool) => (some x2)) (fun j103 => (bif (decide (a0 ≥ 32)) then (bif (decide (a0 ≤ 126)) then (j103 (a0 != 34)) else (j103 false)) else (j103 false))))
def token_quoted (k : Nat) (a0 : Str) : Option (Int × Int) :=
  (if (0 : Int) ≤ 1 ∧ 1 ≤ (a0.length : Int) then ((token_run k (a0.drop (1 : Int).toNat) (fun x => token_quoted_1 k x)).bind fun t101 => (jn (κ := Bool → Option (Int × Int)) (fun (x19 : Bool) => (bif x19 then (some (0, 2)) else (bif (decide (t101 > 60)) then (some (0, 3)) else (if inR (t101 + 2) then (some ((t101 + 2), 0)) else none)))) (fun j107 => (if inR (1 + t101) then (bif ((1 + t101) == (a0.length : Int)) then (j107 true) else (if inR (1 + t101) then (if (0 : Int) ≤ (1 + t101) ∧ (1 + t101) < (a0.length : Int) then (j107 ((bt a0 (1 + t101)) != 34)) else none) else none)) else none)))) else none)
def slices_Index_string.b0 (a0 : (List Str)) (a1 : Str) (rec0 : Int → Option Int) (x8 : Int) : Option Int :=
  (bif (decide (x8 < (a0.length : Int))) then (if (0 : Int) ≤ x8 ∧ x8 < (a0.length : Int) then (bif (a1 == (rd a0 x8)) then (some x8) else (if inR (x8 + 1) then (rec0 (x8 + 1)) else none)) else none) else (some (-1)))
def slices_Index_string (k : Nat) (a0 : (List Str)) (a1 : Str) : Option Int :=
  (loop1 k (slices_Index_string.b0 a0 a1) 0)
def slices_Contains_string (k : Nat) (a0 : (List Str)) (a1 : Str) : Option Bool :=
  ((slices_Index_string k a0 a1).bind fun t100 => (some (decide (t100 ≥ 0))))
def token_pair (k : Nat) (a0 : Str) : Option Bool :=
  (jn (κ := Bool → Option Bool) (fun (x2 : Bool) => (some x2)) (fun j104 => (bif (decide ((a0.length : Int) ≥ 2)) then (if (0 : Int) ≤ 2 ∧ 2 ≤ (a0.length : Int) then ((slices_Contains_string k ([([45, 62] : Str), ([60, 61] : Str), ([62, 61] : Str), ([61, 61] : Str), ([33, 61] : Str)]) (a0.take (2 : Int).toNat)).bind fun t107 => (j104 t107)) else none) else (j104 false))))
def stringslite_IndexByte (_k : Nat) (a0 : Str) (a1 : Int) : Option Int := some (Lib.indexByte a0 a1.toNat.toUInt8)
def strings_IndexByte (k : Nat) (a0 : Str) (a1 : Int) : Option Int :=
  ((stringslite_IndexByte k a0 a1).bind fun t100 => (some t100))
def token_next (k : Nat) (a0 : Str) : Option (Int × Int × Int) :=
  (if (0 : Int) ≤ 0 ∧ 0 < (a0.length : Int) then ((token_letter k (bt a0 0)).bind fun t101 => (bif t101 then ((token_run k a0 (fun x => token_part k x)).bind fun t103 => (bif (decide (t103 > 20)) then (some (0, 0, 3)) else (some (1, t103, 0)))) else ((token_digit k (bt a0 0)).bind fun t105 => (bif t105 then ((token_run k a0 (fun x => token_digit k x)).bind fun t107 => (bif (decide (t107 > 9)) then (some (0, 0, 3)) else (some (2, t107, 0)))) else (bif ((bt a0 0) == 34) then ((token_quoted k a0).bind fun t110 => (some (3, t110.1, t110.2))) else ((token_pair k a0).bind fun t111 => (bif t111 then (some (4, 2, 0)) else ((strings_IndexByte k ([123, 125, 40, 41, 91, 93, 44, 59, 58, 61, 43, 45, 42, 60, 62, 33, 38, 124, 46, 63] : Str) (bt a0 0)).bind fun t113 => (bif (decide (t113 ≥ 0)) then (some (4, 1, 0)) else (some (0, 0, 2))))))))))) else none)
def token_whole (k : Nat) (a0 : Token) : Option (Str × Bool) :=
  (jn (κ := Str → Option (Str × Bool)) (fun (x4 : Str) => (bif (x4 == ([] : Str)) then (some (([] : Str), false)) else ((token_next k x4).bind fun t106 => (jn (κ := Bool → Option (Str × Bool)) (fun (x3 : Bool) => (some (x4, x3))) (fun j110 => (bif (t106.2.2 == 0) then (bif (t106.1 == a0.fKind) then (j110 (t106.2.1 == (x4.length : Int))) else (j110 false)) else (j110 false))))))) (fun j104 => (bif (a0.fKind == 3) then (if (([34] : Str).length : Int) + (a0.fText.length : Int) ≤ 9223372036854775807 then (if ((([34] : Str) ++ a0.fText).length : Int) + (([34] : Str).length : Int) ≤ 9223372036854775807 then (j104 ((([34] : Str) ++ a0.fText) ++ ([34] : Str))) else none) else none) else (j104 a0.fText))))
def token_IsName (k : Nat) (a0 : Str) : Option Bool :=
  ((token_whole k (Token.mk 1 a0 0)).bind fun t100 => (some t100.2))
def types_node_1 (k : Nat) (a0 : NodeType) (a1 : NodeType) : Option Bool :=
  (some (a0.fName == a1.fName))
def slices_IndexFunc_NodeType.b0 (a0 : (List NodeType)) (a1 : (NodeType → Option Bool)) (rec0 : Int → Option Int) (x8 : Int) : Option Int :=
  (bif (decide (x8 < (a0.length : Int))) then (if (0 : Int) ≤ x8 ∧ x8 < (a0.length : Int) then ((a1 (rd a0 x8)).bind fun t112 => (bif t112 then (some x8) else (if inR (x8 + 1) then (rec0 (x8 + 1)) else none))) else none) else (some (-1)))
def slices_IndexFunc_NodeType (k : Nat) (a0 : (List NodeType)) (a1 : (NodeType → Option Bool)) : Option Int :=
  (loop1 k (slices_IndexFunc_NodeType.b0 a0 a1) 0)
def slices_ContainsFunc_NodeType (k : Nat) (a0 : (List NodeType)) (a1 : (NodeType → Option Bool)) : Option Bool :=
  ((slices_IndexFunc_NodeType k a0 a1).bind fun t100 => (some (decide (t100 ≥ 0))))
def types_attrs.main (self : Types → Int → Option (List Attr)) (k : Nat) (a0 : Types) (a1 : Int) : Option (List Attr) :=
  (if (0 : Int) ≤ a1 ∧ a1 < (a0.fNodes.length : Int) then (jn (κ := (List Attr) → Option (List Attr)) (fun (x5 : (List Attr)) => (if (0 : Int) ≤ a1 ∧ a1 < (a0.fNodes.length : Int) then (if x5.length + ((rd a0.fNodes a1).fAttrs).length ≤ lim then (some (x5 ++ (rd a0.fNodes a1).fAttrs)) else none) else none)) (fun j108 => (bif (decide ((rd a0.fNodes a1).fParent ≥ 0)) then ((self a0 ((rd a0.fNodes a1).fParent)).bind fun t113 => (j108 t113)) else (j108 [])))) else none)
def types_attrs : Nat → Types → Int → Option (List Attr)
  | 0, _, _ => none
  | k + 1, a0, a1 => types_attrs.main (types_attrs k) k a0 a1
def types_attribute_1 (k : Nat) (a0 : Attr) (a1 : Attr) : Option Bool :=
  (some (a0.fName == a1.fName))
def slices_IndexFunc_Attr.b0 (a0 : (List Attr)) (a1 : (Attr → Option Bool)) (rec0 : Int → Option Int) (x8 : Int) : Option Int :=
  (bif (decide (x8 < (a0.length : Int))) then (if (0 : Int) ≤ x8 ∧ x8 < (a0.length : Int) then ((a1 (rd a0 x8)).bind fun t112 => (bif t112 then (some x8) else (if inR (x8 + 1) then (rec0 (x8 + 1)) else none))) else none) else (some (-1)))
def slices_IndexFunc_Attr (k : Nat) (a0 : (List Attr)) (a1 : (Attr → Option Bool)) : Option Int :=
  (loop1 k (slices_IndexFunc_Attr.b0 a0 a1) 0)
def slices_ContainsFunc_Attr (k : Nat) (a0 : (List Attr)) (a1 : (Attr → Option Bool)) : Option Bool :=
  ((slices_IndexFunc_Attr k a0 a1).bind fun t100 => (some (decide (t100 ≥ 0))))
def types_names.b0 (k : Nat) (a0 : (List Str)) (rec0 : Int → Option Int) (x10 : Int) : Option Int :=
  (bif (decide (x10 < (a0.length : Int))) then (if (0 : Int) ≤ x10 ∧ x10 < (a0.length : Int) then ((token_IsName k (rd a0 x10)).bind fun t119 => (bif (!t119) then (some 2) else (if (0 : Int) ≤ x10 ∧ x10 ≤ (a0.length : Int) then ((slices_Contains_string k (a0.take (x10 : Int).toNat) (rd a0 x10)).bind fun t122 => (bif t122 then (some 5) else (if inR (x10 + 1) then (rec0 (x10 + 1)) else none))) else none))) else none) else (some 0))
def types_names (k : Nat) (a0 : (List Str)) : Option Int :=
  (bif (decide ((a0.length : Int) > 20)) then (some 3) else (loop1 k (types_names.b0 k a0) 0))
def types_attribute (k : Nat) (a0 : Attr) (a1 : (List Attr)) : Option Int :=
  ((token_IsName k a0.fName).bind fun t100 => (bif (!t100) then (some 2) else ((slices_ContainsFunc_Attr k a1 (fun x => types_attribute_1 k x a0)).bind fun t102 => (bif t102 then (some 5) else ((types_names k a0.fNames).bind fun t104 => (bif (t104 != 0) then (some t104) else (jn (κ := Bool → Option Int) (fun (x6 : Bool) => (bif (decide ((a0.fNames.length : Int) > 0)) then (jn (κ := Bool → Option Int) (fun (x6' : Bool) => (bif (!x6') then (some 6) else (some 0))) (fun j121 => (bif (a0.fLow == 0) then (if inR ((a0.fNames.length : Int) - 1) then (j121 (a0.fHigh == ((a0.fNames.length : Int) - 1))) else none) else (j121 false)))) else (bif (!x6) then (some 6) else (some 0)))) (fun j109 => (bif (decide ((-1000000) ≤ a0.fLow)) then (bif (decide (a0.fLow ≤ a0.fHigh)) then (j109 (decide (a0.fHigh ≤ 1000000))) else (j109 false)) else (j109 false))))))))))
def types_node.b0 (k : Nat) (t112 : (List Attr)) (rec0 : Int → Option Int) (x7 : Int) : Option Int :=
  (bif (decide (x7 < (t112.length : Int))) then (if (0 : Int) ≤ x7 ∧ x7 < (t112.length : Int) then (if (0 : Int) ≤ x7 ∧ x7 ≤ (t112.length : Int) then ((types_attribute k (rd t112 x7) (t112.take (x7 : Int).toNat)).bind fun t148 => (bif (t148 != 0) then (some t148) else (if inR (x7 + 1) then (rec0 (x7 + 1)) else none))) else none) else none) else (some 0))
def types_node (k : Nat) (a0 : Types) (a1 : Int) : Option Int :=
  (if (0 : Int) ≤ a1 ∧ a1 < (a0.fNodes.length : Int) then ((token_IsName k ((rd a0.fNodes a1).fName)).bind fun t102 => (bif (!t102) then (some 2) else (if (0 : Int) ≤ a1 ∧ a1 ≤ (a0.fNodes.length : Int) then ((slices_ContainsFunc_NodeType k (a0.fNodes.take (a1 : Int).toNat) (fun x => types_node_1 k x (rd a0.fNodes a1))).bind fun t105 => (bif t105 then (some 5) else (jn (κ := Bool → Option Int) (fun (x26 : Bool) => (bif x26 then (some 6) else (bif (decide ((((rd a0.fNodes a1).fAttrs).length : Int) > 4)) then (some 3) else ((types_attrs k a0 a1).bind fun t112 => (bif (decide ((t112.length : Int) > 8)) then (some 3) else (if inR ((t112.length : Int) - (((rd a0.fNodes a1).fAttrs).length : Int)) then (loop1 k (types_node.b0 k t112) ((t112.length : Int) - (((rd a0.fNodes a1).fAttrs).length : Int))) else none)))))) (fun j109 => (bif (decide ((rd a0.fNodes a1).fParent < (-1))) then (j109 true) else (j109 (decide ((rd a0.fNodes a1).fParent ≥ a1)))))))) else none))) else none)
def types_edge_1 (k : Nat) (a0 : Int) (a1 : Types) : Option Bool :=
  (jn (κ := Bool → Option Bool) (fun (x3 : Bool) => (some x3)) (fun j102 => (bif (decide (a0 ≥ 0)) then (j102 (decide (a0 < (a1.fNodes.length : Int)))) else (j102 false))))
def types_edge_2 (k : Nat) (a0 : EdgeType) (a1 : EdgeType) : Option Bool :=
  (some (a0.fName == a1.fName))
def slices_IndexFunc_EdgeType.b0 (a0 : (List EdgeType)) (a1 : (EdgeType → Option Bool)) (rec0 : Int → Option Int) (x8 : Int) : Option Int :=
  (bif (decide (x8 < (a0.length : Int))) then (if (0 : Int) ≤ x8 ∧ x8 < (a0.length : Int) then ((a1 (rd a0 x8)).bind fun t112 => (bif t112 then (some x8) else (if inR (x8 + 1) then (rec0 (x8 + 1)) else none))) else none) else (some (-1)))
def slices_IndexFunc_EdgeType (k : Nat) (a0 : (List EdgeType)) (a1 : (EdgeType → Option Bool)) : Option Int :=
  (loop1 k (slices_IndexFunc_EdgeType.b0 a0 a1) 0)
def slices_ContainsFunc_EdgeType (k : Nat) (a0 : (List EdgeType)) (a1 : (EdgeType → Option Bool)) : Option Bool :=
  ((slices_IndexFunc_EdgeType k a0 a1).bind fun t100 => (some (decide (t100 ≥ 0))))
def types_bounded (k : Nat) (a0 : Int) (a1 : Int) : Option Bool :=
  (jn (κ := Bool → Option Bool) (fun (x4 : Bool) => (some x4)) (fun j105 => (bif (decide (a0 ≥ 0)) then (bif (decide (a0 ≤ 40)) then (bif (a1 == (-1)) then (j105 true) else (bif (decide (a1 ≥ a0)) then (j105 (decide (a1 ≤ 40))) else (j105 false))) else (j105 false)) else (j105 false))))
def types_edge (k : Nat) (a0 : Types) (a1 : Int) : Option Int :=
  (if (0 : Int) ≤ a1 ∧ a1 < (a0.fEdges.length : Int) then ((token_IsName k ((rd a0.fEdges a1).fName)).bind fun t102 => (bif (!t102) then (some 2) else (if (0 : Int) ≤ a1 ∧ a1 ≤ (a0.fEdges.length : Int) then ((slices_ContainsFunc_EdgeType k (a0.fEdges.take (a1 : Int).toNat) (fun x => types_edge_2 k x (rd a0.fEdges a1))).bind fun t105 => (bif t105 then (some 5) else (jn (κ := Bool → Option Int) (fun (x25 : Bool) => (bif x25 then (some 6) else (jn (κ := Bool → Option Int) (fun (x25' : Bool) => (bif x25' then (some 6) else (some 0))) (fun j126 => ((types_bounded k ((rd a0.fEdges a1).fOutLow) ((rd a0.fEdges a1).fOutHigh)).bind fun t128 => (bif (!t128) then (j126 true) else ((types_bounded k ((rd a0.fEdges a1).fInLow) ((rd a0.fEdges a1).fInHigh)).bind fun t130 => (j126 (!t130))))))))) (fun j111 => (((fun x => types_edge_1 k x a0) ((rd a0.fEdges a1).fFrom)).bind fun t131 => (bif (!t131) then (j111 true) else (((fun x => types_edge_1 k x a0) ((rd a0.fEdges a1).fTo)).bind fun t133 => (j111 (!t133))))))))) else none))) else none)
def types_Valid.b1 (k : Nat) (a0 : Types) (rec1 : Int → Option (Str × Int)) (x46 : Int) : Option (Str × Int) :=
  (bif (decide (x46 < (a0.fEdges.length : Int))) then (if (0 : Int) ≤ x46 ∧ x46 < (a0.fEdges.length : Int) then ((types_edge k a0 x46).bind fun t174 => (bif (t174 != 0) then (some ((rd a0.fEdges x46).fName, t174)) else (if inR (x46 + 1) then (rec1 (x46 + 1)) else none))) else none) else (some (([] : Str), 0)))
def types_Valid.b0 (k : Nat) (a0 : Types) (rec0 : Int → Option (Str × Int)) (x29 : Int) : Option (Str × Int) :=
  (bif (decide (x29 < (a0.fNodes.length : Int))) then (if (0 : Int) ≤ x29 ∧ x29 < (a0.fNodes.length : Int) then ((types_node k a0 x29).bind fun t156 => (bif (t156 != 0) then (some ((rd a0.fNodes x29).fName, t156)) else (if inR (x29 + 1) then (rec0 (x29 + 1)) else none))) else none) else (loop1 k (types_Valid.b1 k a0) 0))
def types_Valid (k : Nat) (a0 : Types) : Option (Str × Int) :=
  (bif ((a0.fNodes.length : Int) == 0) then (some (([] : Str), 7)) else (jn (κ := Bool → Option (Str × Int)) (fun (x15 : Bool) => (bif x15 then (some (([] : Str), 3)) else (loop1 k (types_Valid.b0 k a0) 0))) (fun j103 => (bif (decide ((a0.fNodes.length : Int) > 12)) then (j103 true) else (j103 (decide ((a0.fEdges.length : Int) > 20)))))))
def slices_IndexFunc_int.b0 (a0 : (List Int)) (a1 : (Int → Option Bool)) (rec0 : Int → Option Int) (x8 : Int) : Option Int :=
  (bif (decide (x8 < (a0.length : Int))) then (if (0 : Int) ≤ x8 ∧ x8 < (a0.length : Int) then ((a1 (rd a0 x8)).bind fun t112 => (bif t112 then (some x8) else (if inR (x8 + 1) then (rec0 (x8 + 1)) else none))) else none) else (some (-1)))
def slices_IndexFunc_int (k : Nat) (a0 : (List Int)) (a1 : (Int → Option Bool)) : Option Int :=
  (loop1 k (slices_IndexFunc_int.b0 a0 a1) 0)
def slices_ContainsFunc_int (k : Nat) (a0 : (List Int)) (a1 : (Int → Option Bool)) : Option Bool :=
  ((slices_IndexFunc_int k a0 a1).bind fun t100 => (some (decide (t100 ≥ 0))))
def graph_within (k : Nat) (a0 : Int) (a1 : Int) : Option Bool :=
  (jn (κ := Bool → Option Bool) (fun (x4 : Bool) => (some x4)) (fun j102 => (bif (decide (a0 ≥ 0)) then (j102 (decide (a0 ≤ a1))) else (j102 false))))
def graph_Valid_1 (k : Nat) (a0 : Int) : Option Bool :=
  ((graph_within k a0 99).bind fun t100 => (some (!t100)))
def graph_fits (k : Nat) (a0 : Edge) (a1 : Int) : Option Bool :=
  (jn (κ := Bool → Option Bool) (fun (x4 : Bool) => (some x4)) (fun j108 => ((graph_within k a0.fType 99).bind fun t109 => (bif t109 then (if inR (a1 - 1) then ((graph_within k a0.fFrom (a1 - 1)).bind fun t112 => (bif t112 then (if inR (a1 - 1) then ((graph_within k a0.fTo (a1 - 1)).bind fun t115 => (j108 t115)) else none) else (j108 false))) else none) else (j108 false)))))
def graph_Valid_2 (k : Nat) (a0 : Edge) (a1 : Graph) : Option Bool :=
  ((graph_fits k a0 (a1.fNodes.length : Int)).bind fun t100 => (some (!t100)))
def slices_IndexFunc_Edge.b0 (a0 : (List Edge)) (a1 : (Edge → Option Bool)) (rec0 : Int → Option Int) (x8 : Int) : Option Int :=
  (bif (decide (x8 < (a0.length : Int))) then (if (0 : Int) ≤ x8 ∧ x8 < (a0.length : Int) then ((a1 (rd a0 x8)).bind fun t112 => (bif t112 then (some x8) else (if inR (x8 + 1) then (rec0 (x8 + 1)) else none))) else none) else (some (-1)))
def slices_IndexFunc_Edge (k : Nat) (a0 : (List Edge)) (a1 : (Edge → Option Bool)) : Option Int :=
  (loop1 k (slices_IndexFunc_Edge.b0 a0 a1) 0)
def slices_ContainsFunc_Edge (k : Nat) (a0 : (List Edge)) (a1 : (Edge → Option Bool)) : Option Bool :=
  ((slices_IndexFunc_Edge k a0 a1).bind fun t100 => (some (decide (t100 ≥ 0))))
def graph_Valid (k : Nat) (a0 : Graph) : Option Int :=
  (jn (κ := Bool → Option Int) (fun (x12 : Bool) => (bif x12 then (some 3) else ((slices_ContainsFunc_int k a0.fNodes (fun x => graph_Valid_1 k x)).bind fun t104 => (bif t104 then (some 6) else ((slices_ContainsFunc_Edge k a0.fEdges (fun x => graph_Valid_2 k x a0)).bind fun t106 => (bif t106 then (some 6) else (some 0))))))) (fun j102 => (bif (decide ((a0.fNodes.length : Int) > 40)) then (j102 true) else (j102 (decide ((a0.fEdges.length : Int) > 80))))))
def attribute_Valid_1 (k : Nat) (a0 : Int) (a1 : Types) : Option Bool :=
  (some (decide (a0 ≥ (a1.fNodes.length : Int))))
def attribute_Valid_2 (k : Nat) (a0 : Edge) (a1 : Types) : Option Bool :=
  (some (decide (a0.fType ≥ (a1.fEdges.length : Int))))
def attribute_within (k : Nat) (a0 : Int) (a1 : Int) (a2 : Int) : Option Bool :=
  (jn (κ := Bool → Option Bool) (fun (x6 : Bool) => (some x6)) (fun j102 => (bif (decide (a0 ≥ a1)) then (j102 (decide (a0 ≤ a2))) else (j102 false))))
def types_given_1 (k : Nat) (a0 : Int) (a1 : Types) : Option Bool :=
  (jn (κ := Bool → Option Bool) (fun (x3 : Bool) => (some x3)) (fun j102 => (bif (decide (a0 < 0)) then (j102 true) else (j102 (decide (a0 ≥ (a1.fNodes.length : Int)))))))
def types_given (k : Nat) (a0 : Types) (a1 : (List Int)) : Option Int :=
  ((types_Valid k a0).bind fun t100 => (bif (t100.2 != 0) then (some t100.2) else ((slices_ContainsFunc_int k a1 (fun x => types_given_1 k x a0)).bind fun t102 => (bif t102 then (some 6) else (some 0)))))
def slices_Clone_string (_k : Nat) (a0 : (List Str)) : Option (List Str) := if a0.length ≤ lim then some a0 else none
def types_Attrs.b0 (k : Nat) (t102 : (List Attr)) (rec0 : (List Attr) → Int → Option ((List Attr) × Int)) (x7 : (List Attr)) (x21 : Int) : Option ((List Attr) × Int) :=
  (bif (decide (x21 < (t102.length : Int))) then (if (0 : Int) ≤ x21 ∧ x21 < (x7.length : Int) then ((slices_Clone_string k ((rd x7 x21).fNames)).bind fun t116 => (if (0 : Int) ≤ x21 ∧ x21 < (x7.length : Int) then (if inR (x21 + 1) then (rec0 (x7.set (x21 : Int).toNat (Attr.mk ((rd x7 x21).fName) ((rd x7 x21).fLow) ((rd x7 x21).fHigh) t116)) (x21 + 1)) else none) else none)) else none) else (some (x7, 0)))
def types_Attrs (k : Nat) (a0 : Types) (a1 : Int) : Option ((List Attr) × Int) :=
  ((types_given k a0 [a1]).bind fun t100 => (bif (t100 != 0) then (some ([], t100)) else ((types_attrs k a0 a1).bind fun t102 => (loop2 k (types_Attrs.b0 k t102) t102 0))))
def attribute_attr (k : Nat) (a0 : Types) (a1 : Pattern) (a2 : Slot) : Option (Attr × Bool) :=
  (if inR ((a1.fGraph.fNodes.length : Int) - 1) then ((attribute_within k a2.fNode 0 ((a1.fGraph.fNodes.length : Int) - 1)).bind fun t102 => (bif (!t102) then (some ((Attr.mk ([] : Str) 0 0 []), false)) else (if (0 : Int) ≤ a2.fNode ∧ a2.fNode < (a1.fGraph.fNodes.length : Int) then ((types_Attrs k a0 (rd a1.fGraph.fNodes a2.fNode)).bind fun t109 => (if inR ((t109.1.length : Int) - 1) then ((attribute_within k a2.fAttr 0 ((t109.1.length : Int) - 1)).bind fun t111 => (bif (!t111) then (some ((Attr.mk ([] : Str) 0 0 []), false)) else (if (0 : Int) ≤ a2.fAttr ∧ a2.fAttr < (t109.1.length : Int) then (some ((rd t109.1 a2.fAttr), true)) else none))) else none)) else none))) else none)
def difference_term (k : Nat) (a0 : Int) (a1 : Term) : Option Bool :=
  (jn (κ := Bool → Option Bool) (fun (x4 : Bool) => (some x4)) (fun j104 => (bif (decide (a1.fVar ≥ (-1))) then (bif (decide (a1.fVar < a0)) then (bif (decide (a1.fAdd ≥ (-1000000))) then (j104 (decide (a1.fAdd ≤ 1000000))) else (j104 false)) else (j104 false)) else (j104 false))))
def difference_one (k : Nat) (a0 : Int) (a1 : Test) : Option Int :=
  (jn (κ := Bool → Option Int) (fun (x5 : Bool) => (bif x5 then (some 1) else (jn (κ := Bool → Option Int) (fun (x14 : Bool) => (bif x14 then (some 6) else (some 0))) (fun j108 => ((difference_term k a0 a1.fLeft).bind fun t110 => (bif (!t110) then (j108 true) else ((difference_term k a0 a1.fRight).bind fun t112 => (j108 (!t112))))))))) (fun j102 => (bif (a1.fKind != 1) then (j102 (a1.fKind != 2)) else (j102 false))))
def difference_Valid.b0 (k : Nat) (a0 : Int) (a1 : (List Test)) (rec0 : Int → Option Int) (x19 : Int) : Option Int :=
  (bif (decide (x19 < (a1.length : Int))) then (if (0 : Int) ≤ x19 ∧ x19 < (a1.length : Int) then ((difference_one k a0 (rd a1 x19)).bind fun t120 => (bif (t120 != 0) then (some t120) else (if inR (x19 + 1) then (rec0 (x19 + 1)) else none))) else none) else (some 0))
def difference_Valid (k : Nat) (a0 : Int) (a1 : (List Test)) : Option Int :=
  (jn (κ := Bool → Option Int) (fun (x13 : Bool) => (bif x13 then (some 6) else (bif (decide ((a1.length : Int) > 40)) then (some 3) else (loop1 k (difference_Valid.b0 k a0 a1) 0)))) (fun j102 => (bif (decide (a0 < 0)) then (j102 true) else (j102 (decide (a0 > 12))))))
def slices_Index_bool.b0 (a0 : (List Bool)) (a1 : Bool) (rec0 : Int → Option Int) (x8 : Int) : Option Int :=
  (bif (decide (x8 < (a0.length : Int))) then (if (0 : Int) ≤ x8 ∧ x8 < (a0.length : Int) then (bif (a1 == (rd a0 x8)) then (some x8) else (if inR (x8 + 1) then (rec0 (x8 + 1)) else none)) else none) else (some (-1)))
def slices_Index_bool (k : Nat) (a0 : (List Bool)) (a1 : Bool) : Option Int :=
  (loop1 k (slices_Index_bool.b0 a0 a1) 0)
def slices_Contains_bool (k : Nat) (a0 : (List Bool)) (a1 : Bool) : Option Bool :=
  ((slices_Index_bool k a0 a1).bind fun t100 => (some (decide (t100 ≥ 0))))
def attribute_Valid.b0 (k : Nat) (a0 : Types) (a1 : Pattern) (rec0 : (List Bool) → Int → Option Int) (x8 : (List Bool)) (x60 : Int) : Option Int :=
  (bif (decide (x60 < (a1.fSlots.length : Int))) then (if (0 : Int) ≤ x60 ∧ x60 < (a1.fSlots.length : Int) then ((attribute_attr k a0 a1 (rd a1.fSlots x60)).bind fun t177 => (jn (κ := Bool → Option Int) (fun (x89 : Bool) => (bif x89 then (some 6) else (bif (decide ((rd a1.fSlots x60).fTerm.fVar ≥ 0)) then (if (0 : Int) ≤ (rd a1.fSlots x60).fTerm.fVar ∧ (rd a1.fSlots x60).fTerm.fVar < (x8.length : Int) then (if inR (x60 + 1) then (rec0 (x8.set ((rd a1.fSlots x60).fTerm.fVar : Int).toNat true) (x60 + 1)) else none) else none) else (if inR (x60 + 1) then (rec0 x8 (x60 + 1)) else none)))) (fun j185 => (bif (!t177.2) then (j185 true) else (if inR (a1.fVars - 1) then ((attribute_within k ((rd a1.fSlots x60).fTerm.fVar) (-1) (a1.fVars - 1)).bind fun t195 => (bif (!t195) then (j185 true) else ((attribute_within k ((rd a1.fSlots x60).fTerm.fAdd) (-1000000) 1000000).bind fun t197 => (j185 (!t197))))) else none))))) else none) else ((difference_Valid k a1.fVars a1.fTests).bind fun t198 => (bif (t198 != 0) then (some t198) else ((slices_Contains_bool k x8 false).bind fun t200 => (bif t200 then (some 9) else (some 0))))))
def attribute_Valid (k : Nat) (a0 : Types) (a1 : Pattern) : Option Int :=
  ((types_Valid k a0).bind fun t100 => (bif (t100.2 != 0) then (some t100.2) else ((graph_Valid k a1.fGraph).bind fun t102 => (bif (t102 != 0) then (some t102) else (jn (κ := Bool → Option Int) (fun (x39 : Bool) => (bif x39 then (some 13) else ((attribute_within k a1.fVars 0 12).bind fun t110 => (bif (!t110) then (some 6) else (jn (κ := Bool → Option Int) (fun (x53 : Bool) => (bif x53 then (some 3) else (if (0 : Int) ≤ a1.fVars ∧ a1.fVars ≤ (lim : Int) then (loop2 k (attribute_Valid.b0 k a0 a1) (List.replicate (a1.fVars : Int).toNat false) 0) else none))) (fun j114 => (bif (decide ((a1.fSlots.length : Int) > 10)) then (j114 true) else (j114 (decide ((a1.fTests.length : Int) > 10)))))))))) (fun j108 => ((slices_ContainsFunc_int k a1.fGraph.fNodes (fun x => attribute_Valid_1 k x a0)).bind fun t203 => (bif t203 then (j108 true) else ((slices_ContainsFunc_Edge k a1.fGraph.fEdges (fun x => attribute_Valid_2 k x a0)).bind fun t205 => (j108 t205))))))))))
def host_node.b0 (a2 : (List Int)) (t103 : ((List Attr) × Int)) (rec0 : Int → Option Int) (x35 : Int) : Option Int :=
  (bif (decide (x35 < (t103.1.length : Int))) then (if (0 : Int) ≤ x35 ∧ x35 < (t103.1.length : Int) then (jn (κ := Bool → Option Int) (fun (x55 : Bool) => (bif x55 then (some 6) else (if inR (x35 + 1) then (rec0 (x35 + 1)) else none))) (fun j147 => (if (0 : Int) ≤ x35 ∧ x35 < (a2.length : Int) then (bif (decide ((rd a2 x35) < (rd t103.1 x35).fLow)) then (j147 true) else (if (0 : Int) ≤ x35 ∧ x35 < (a2.length : Int) then (j147 (decide ((rd a2 x35) > (rd t103.1 x35).fHigh))) else none)) else none))) else none) else (some 0))
def host_node (k : Nat) (a0 : Types) (a1 : Int) (a2 : (List Int)) : Option Int :=
  (bif (decide (a1 ≥ (a0.fNodes.length : Int))) then (some 6) else (if (0 : Int) ≤ a1 ∧ a1 < (a0.fNodes.length : Int) then (bif (rd a0.fNodes a1).fAbstract then (some 13) else ((types_Attrs k a0 a1).bind fun t103 => (bif ((a2.length : Int) != (t103.1.length : Int)) then (some 20) else (loop1 k (host_node.b0 a2 t103) 0)))) else none))
def slices_Reverse_int.b0 (rec0 : (List Int) → Int → Int → Option (List Int)) (x0 : (List Int)) (x2 : Int) (x3 : Int) : Option (List Int) :=
  (bif (decide (x2 < x3)) then (if (0 : Int) ≤ x3 ∧ x3 < (x0.length : Int) then (if (0 : Int) ≤ x2 ∧ x2 < (x0.length : Int) then (if (0 : Int) ≤ x2 ∧ x2 < (x0.length : Int) then (if (0 : Int) ≤ x3 ∧ x3 < ((x0.set (x2 : Int).toNat (rd x0 x3)).length : Int) then (if inR (x2 + 1) then (if inR (x3 - 1) then (rec0 ((x0.set (x2 : Int).toNat (rd x0 x3)).set (x3 : Int).toNat (rd x0 x2)) (x2 + 1) (x3 - 1)) else none) else none) else none) else none) else none) else none) else (some x0))
def slices_Reverse_int (k : Nat) (a0 : (List Int)) : Option (List Int) :=
  (if inR ((a0.length : Int) - 1) then (loop3 k (slices_Reverse_int.b0) a0 0 ((a0.length : Int) - 1)) else none)
def types_line.b0 (k : Nat) (a0 : Types) (rec0 : Int → (List Int) → Option (List Int)) (x1 : Int) (x5 : (List Int)) : Option (List Int) :=
  (bif (decide (x1 ≥ 0)) then (if x5.length + [x1].length ≤ lim then (if (0 : Int) ≤ x1 ∧ x1 < (a0.fNodes.length : Int) then (rec0 ((rd a0.fNodes x1).fParent) (x5 ++ [x1])) else none) else none) else ((slices_Reverse_int k x5).bind fun t122 => (some t122)))
def types_line (k : Nat) (a0 : Types) (a1 : Int) : Option (List Int) :=
  (loop2 k (types_line.b0 k a0) a1 [])
def slices_Index_int.b0 (a0 : (List Int)) (a1 : Int) (rec0 : Int → Option Int) (x8 : Int) : Option Int :=
  (bif (decide (x8 < (a0.length : Int))) then (if (0 : Int) ≤ x8 ∧ x8 < (a0.length : Int) then (bif (a1 == (rd a0 x8)) then (some x8) else (if inR (x8 + 1) then (rec0 (x8 + 1)) else none)) else none) else (some (-1)))
def slices_Index_int (k : Nat) (a0 : (List Int)) (a1 : Int) : Option Int :=
  (loop1 k (slices_Index_int.b0 a0 a1) 0)
def slices_Contains_int (k : Nat) (a0 : (List Int)) (a1 : Int) : Option Bool :=
  ((slices_Index_int k a0 a1).bind fun t100 => (some (decide (t100 ≥ 0))))
def types_is (k : Nat) (a0 : Types) (a1 : Int) (a2 : Int) : Option Bool :=
  ((types_line k a0 a1).bind fun t100 => ((slices_Contains_int k t100 a2).bind fun t101 => (some t101)))
def types_Fits (k : Nat) (a0 : Types) (a1 : Int) (a2 : Int) (a3 : Int) : Option Bool :=
  (jn (κ := Bool → Option Bool) (fun (x25 : Bool) => (bif x25 then (some false) else (jn (κ := Bool → Option Bool) (fun (x8 : Bool) => (some x8)) (fun j117 => (if (0 : Int) ≤ a1 ∧ a1 < (a0.fEdges.length : Int) then ((types_is k a0 a2 ((rd a0.fEdges a1).fFrom)).bind fun t119 => (bif t119 then (if (0 : Int) ≤ a1 ∧ a1 < (a0.fEdges.length : Int) then ((types_is k a0 a3 ((rd a0.fEdges a1).fTo)).bind fun t122 => (j117 t122)) else none) else (j117 false))) else none))))) (fun j104 => ((types_given k a0 [a2, a3]).bind fun t123 => (bif (t123 != 0) then (j104 true) else (bif (decide (a1 < 0)) then (j104 true) else (j104 (decide (a1 ≥ (a0.fEdges.length : Int)))))))))
def host_Valid.b1 (k : Nat) (a0 : Types) (a1 : Host) (rec1 : Int → Option (Int × Int)) (x62 : Int) : Option (Int × Int) :=
  (bif (decide (x62 < (a1.fGraph.fEdges.length : Int))) then (if (0 : Int) ≤ x62 ∧ x62 < (a1.fGraph.fEdges.length : Int) then (bif (decide ((rd a1.fGraph.fEdges x62).fType ≥ (a0.fEdges.length : Int))) then (some (x62, 6)) else (if (0 : Int) ≤ (rd a1.fGraph.fEdges x62).fFrom ∧ (rd a1.fGraph.fEdges x62).fFrom < (a1.fGraph.fNodes.length : Int) then (if (0 : Int) ≤ (rd a1.fGraph.fEdges x62).fTo ∧ (rd a1.fGraph.fEdges x62).fTo < (a1.fGraph.fNodes.length : Int) then ((types_Fits k a0 ((rd a1.fGraph.fEdges x62).fType) (rd a1.fGraph.fNodes ((rd a1.fGraph.fEdges x62).fFrom)) (rd a1.fGraph.fNodes ((rd a1.fGraph.fEdges x62).fTo))).bind fun t267 => (bif (!t267) then (some (x62, 13)) else (if inR (x62 + 1) then (rec1 (x62 + 1)) else none))) else none) else none)) else none) else (some ((-1), 0)))
def host_Valid.b0 (k : Nat) (a0 : Types) (a1 : Host) (rec0 : Int → Option (Int × Int)) (x40 : Int) : Option (Int × Int) :=
  (bif (decide (x40 < (a1.fGraph.fNodes.length : Int))) then (if (0 : Int) ≤ x40 ∧ x40 < (a1.fGraph.fNodes.length : Int) then (if (0 : Int) ≤ x40 ∧ x40 < (a1.fValues.length : Int) then ((host_node k a0 (rd a1.fGraph.fNodes x40) (rd a1.fValues x40)).bind fun t222 => (bif (t222 != 0) then (some (x40, t222)) else (if inR (x40 + 1) then (rec0 (x40 + 1)) else none))) else none) else none) else (loop1 k (host_Valid.b1 k a0 a1) 0))
def host_Valid (k : Nat) (a0 : Types) (a1 : Host) : Option (Int × Int) :=
  ((types_Valid k a0).bind fun t100 => (bif (t100.2 != 0) then (some ((-1), t100.2)) else ((graph_Valid k a1.fGraph).bind fun t102 => (bif (t102 != 0) then (some ((-1), t102)) else (bif ((a1.fValues.length : Int) != (a1.fGraph.fNodes.length : Int)) then (some ((-1), 20)) else (loop1 k (host_Valid.b0 k a0 a1) 0))))))
def attribute_given (k : Nat) (a0 : Types) (a1 : Pattern) (a2 : Host) : Option Int :=
  ((attribute_Valid k a0 a1).bind fun t100 => (bif (t100 != 0) then (some t100) else ((host_Valid k a0 a2).bind fun t102 => (some t102.2))))
def search_within_1 (k : Nat) (a0 : Int) (a1 : Types) : Option Bool :=
  (some (decide (a0 ≥ (a1.fNodes.length : Int))))
def search_within_2 (k : Nat) (a0 : Edge) (a1 : Types) : Option Bool :=
  (some (decide (a0.fType ≥ (a1.fEdges.length : Int))))
def search_within (k : Nat) (a0 : Types) (a1 : Graph) : Option Bool :=
  (jn (κ := Bool → Option Bool) (fun (x4 : Bool) => (some x4)) (fun j104 => ((slices_ContainsFunc_int k a1.fNodes (fun x => search_within_1 k x a0)).bind fun t105 => (bif (!t105) then ((slices_ContainsFunc_Edge k a1.fEdges (fun x => search_within_2 k x a0)).bind fun t107 => (j104 (!t107))) else (j104 false)))))
def search_valid.b0 (k : Nat) (a0 : Types) (a1 : Graph) (a2 : Graph) (rec0 : Int → Option Int) (x24 : Int) : Option Int :=
  (bif (decide (x24 < ([a1, a2].length : Int))) then (if (0 : Int) ≤ x24 ∧ x24 < ([a1, a2].length : Int) then ((graph_Valid k (rd [a1, a2] x24)).bind fun t135 => (bif (t135 != 0) then (some t135) else (if inR (x24 + 1) then (rec0 (x24 + 1)) else none))) else none) else (jn (κ := Bool → Option Int) (fun (x43 : Bool) => (bif x43 then (some 13) else (some 0))) (fun j142 => ((search_within k a0 a1).bind fun t144 => (bif (!t144) then (j142 true) else ((search_within k a0 a2).bind fun t146 => (j142 (!t146))))))))
def search_valid (k : Nat) (a0 : Types) (a1 : Graph) (a2 : Graph) : Option Int :=
  ((types_Valid k a0).bind fun t100 => (bif (t100.2 != 0) then (some t100.2) else (loop1 k (search_valid.b0 k a0 a1 a2) 0)))
def types_Below.b0 (k : Nat) (a0 : Types) (a1 : Int) (rec0 : (List Int) → Int → Option ((List Int) × Int)) (x7 : (List Int)) (x19 : Int) : Option ((List Int) × Int) :=
  (bif (decide (x19 < (a0.fNodes.length : Int))) then ((types_is k a0 x19 a1).bind fun t131 => (bif t131 then (if x7.length + [x19].length ≤ lim then (if inR (x19 + 1) then (rec0 (x7 ++ [x19]) (x19 + 1)) else none) else none) else (if inR (x19 + 1) then (rec0 x7 (x19 + 1)) else none))) else (some (x7, 0)))
def types_Below (k : Nat) (a0 : Types) (a1 : Int) : Option ((List Int) × Int) :=
  ((types_given k a0 [a1]).bind fun t100 => (bif (t100 != 0) then (some ([], t100)) else (loop2 k (types_Below.b0 k a0 a1) [] 0)))
def search_below.b1 (x3 : (List (List Bool))) (x13 : Int) (rec0 : (List (List Bool)) → Int → Option (List (List Bool))) (t160 : ((List Int) × Int)) (rec1 : (List Bool) → Int → Option (List (List Bool))) (x5 : (List Bool)) (x28 : Int) : Option (List (List Bool)) :=
  (bif (decide (x28 < (t160.1.length : Int))) then (if (0 : Int) ≤ x28 ∧ x28 < (t160.1.length : Int) then (if (0 : Int) ≤ (rd t160.1 x28) ∧ (rd t160.1 x28) < (x5.length : Int) then (if inR (x28 + 1) then (rec1 (x5.set ((rd t160.1 x28) : Int).toNat true) (x28 + 1)) else none) else none) else none) else (if x3.length + [x5].length ≤ lim then (if inR (x13 + 1) then (rec0 (x3 ++ [x5]) (x13 + 1)) else none) else none))
def search_below.b0 (k : Nat) (a0 : Types) (rec0 : (List (List Bool)) → Int → Option (List (List Bool))) (x3 : (List (List Bool))) (x13 : Int) : Option (List (List Bool)) :=
  (bif (decide (x13 < (a0.fNodes.length : Int))) then (if (0 : Int) ≤ (a0.fNodes.length : Int) ∧ (a0.fNodes.length : Int) ≤ (lim : Int) then ((types_Below k a0 x13).bind fun t160 => (loop2 k (search_below.b1 x3 x13 rec0 t160) (List.replicate ((a0.fNodes.length : Int) : Int).toNat false) 0)) else none) else (some x3))
def search_below (k : Nat) (a0 : Types) : Option (List (List Bool)) :=
  (loop2 k (search_below.b0 k a0) [] 0)
def search_given (_k : Nat) (a0 : (Option (List Int))) (a1 : Int) : Option Int := match a0 with
  | none => some (-1)
  | some l => if (0 : Int) ≤ a1 ∧ a1 < (l.length : Int) then some (rd l a1) else none
def search_finder_fits (k : Nat) (a0 : Finder) (a1 : Int) (a2 : Int) : Option Bool :=
  (if (0 : Int) ≤ a1 ∧ a1 < (a0.fp.fEdges.length : Int) then ((search_given k a0.fpartial.fEdges a1).bind fun t102 => (jn (κ := Bool → Option Bool) (fun (x30 : Bool) => (bif x30 then (some false) else (if (0 : Int) ≤ a2 ∧ a2 < (a0.fg.fEdges.length : Int) then (if (0 : Int) ≤ (rd a0.fp.fEdges a1).fFrom ∧ (rd a0.fp.fEdges a1).fFrom < (a0.fnodes.length : Int) then (if (0 : Int) ≤ (rd a0.fp.fEdges a1).fTo ∧ (rd a0.fp.fEdges a1).fTo < (a0.fnodes.length : Int) then (some ([(rd a0.fg.fEdges a2).fType, (rd a0.fg.fEdges a2).fFrom, (rd a0.fg.fEdges a2).fTo] == [(rd a0.fp.fEdges a1).fType, (rd a0.fnodes ((rd a0.fp.fEdges a1).fFrom)), (rd a0.fnodes ((rd a0.fp.fEdges a1).fTo))])) else none) else none) else none))) (fun j105 => (bif (decide (t102 ≥ 0)) then (j105 (t102 != a2)) else (j105 false))))) else none)
def search_finder_possible.b1 (k : Nat) (a0 : Finder) (x20 : Int) (rec0 : Int → Option Bool) (rec1 : Int → Option Bool) (x38 : Int) : Option Bool :=
  (bif (decide (x38 < (a0.fg.fEdges.length : Int))) then ((search_finder_fits k a0 x20 x38).bind fun t274 => (bif t274 then (if inR (x20 + 1) then (rec0 (x20 + 1)) else none) else (if inR (x38 + 1) then (rec1 (x38 + 1)) else none))) else (some false))
def search_finder_possible.b0 (k : Nat) (a0 : Finder) (rec0 : Int → Option Bool) (x20 : Int) : Option Bool :=
  (bif (decide (x20 < (a0.fp.fEdges.length : Int))) then (if (0 : Int) ≤ x20 ∧ x20 < (a0.fp.fEdges.length : Int) then (bif ((if (rd a0.fp.fEdges x20).fTo > (rd a0.fp.fEdges x20).fFrom then (rd a0.fp.fEdges x20).fTo else (rd a0.fp.fEdges x20).fFrom) != ((a0.fnodes.length : Int) - 1)) then (if inR (x20 + 1) then (rec0 (x20 + 1)) else none) else (loop1 k (search_finder_possible.b1 k a0 x20 rec0) 0)) else none) else (some true))
def search_finder_possible (k : Nat) (a0 : Finder) : Option Bool :=
  (if inR ((a0.fnodes.length : Int) - 1) then (loop1 k (search_finder_possible.b0 k a0) 0) else none)
def slices_Clone_int (_k : Nat) (a0 : (List Int)) : Option (List Int) := if a0.length ≤ lim then some a0 else none
def search_finder_find.b0 (k : Nat) (self : Finder → Option ((List Int) × (List Int) × (List Morphism))) (a0 : Finder) (j2331 : (List Int) → (List Int) → (List Morphism) → Option ((List Int) × (List Int) × (List Morphism))) (rec0 : (List Int) → (List Int) → (List Morphism) → Int → Option ((List Int) × (List Int) × (List Morphism))) (y9 : (List Int)) (y10 : (List Int)) (y11 : (List Morphism)) (x63 : Int) : Option ((List Int) × (List Int) × (List Morphism)) :=
  (bif (decide (x63 < (a0.fg.fNodes.length : Int))) then (if (0 : Int) ≤ x63 ∧ x63 < (a0.fg.fNodes.length : Int) then ((search_given k a0.fpartial.fNodes (a0.fnodes.length : Int)).bind fun t2703 => (jn (κ := Bool → Option ((List Int) × (List Int) × (List Morphism))) (fun (x115 : Bool) => (bif x115 then (if inR (x63 + 1) then (rec0 y9 y10 y11 (x63 + 1)) else none) else (if y9.length + [x63].length ≤ lim then ((search_finder_possible k (Finder.mk a0.fp a0.fg a0.fis a0.fpartial a0.finjective a0.fmost (y9 ++ [x63]) y10 y11)).bind fun t2738 => (jn (κ := (List Int) → (List Int) → (List Morphism) → Option ((List Int) × (List Int) × (List Morphism))) (fun (y9' : (List Int)) (y10' : (List Int)) (y11' : (List Morphism)) => (if (0 : Int) ≤ (a0.fnodes.length : Int) ∧ (a0.fnodes.length : Int) ≤ (y9'.length : Int) then (if inR (x63 + 1) then (rec0 (y9'.take ((a0.fnodes.length : Int) : Int).toNat) y10' y11' (x63 + 1)) else none) else none)) (fun j2751 => (bif t2738 then ((self (Finder.mk a0.fp a0.fg a0.fis a0.fpartial a0.finjective a0.fmost (y9 ++ [x63]) y10 y11)).bind fun t2756 => (j2751 t2756.1 t2756.2.1 t2756.2.2)) else (j2751 (y9 ++ [x63]) y10 y11))))) else none))) (fun j2733 => (bif (decide (t2703 ≥ 0)) then (bif (t2703 != x63) then (j2733 true) else (if (0 : Int) ≤ (a0.fnodes.length : Int) ∧ (a0.fnodes.length : Int) < (a0.fp.fNodes.length : Int) then (if (0 : Int) ≤ (rd a0.fp.fNodes (a0.fnodes.length : Int)) ∧ (rd a0.fp.fNodes (a0.fnodes.length : Int)) < (a0.fis.length : Int) then (if (0 : Int) ≤ (rd a0.fg.fNodes x63) ∧ (rd a0.fg.fNodes x63) < ((rd a0.fis (rd a0.fp.fNodes (a0.fnodes.length : Int))).length : Int) then (bif (!(rd (rd a0.fis (rd a0.fp.fNodes (a0.fnodes.length : Int))) (rd a0.fg.fNodes x63))) then (j2733 true) else (bif a0.finjective then ((slices_Contains_int k y9 x63).bind fun t2767 => (j2733 t2767)) else (j2733 false))) else none) else none) else none)) else (if (0 : Int) ≤ (a0.fnodes.length : Int) ∧ (a0.fnodes.length : Int) < (a0.fp.fNodes.length : Int) then (if (0 : Int) ≤ (rd a0.fp.fNodes (a0.fnodes.length : Int)) ∧ (rd a0.fp.fNodes (a0.fnodes.length : Int)) < (a0.fis.length : Int) then (if (0 : Int) ≤ (rd a0.fg.fNodes x63) ∧ (rd a0.fg.fNodes x63) < ((rd a0.fis (rd a0.fp.fNodes (a0.fnodes.length : Int))).length : Int) then (bif (!(rd (rd a0.fis (rd a0.fp.fNodes (a0.fnodes.length : Int))) (rd a0.fg.fNodes x63))) then (j2733 true) else (bif a0.finjective then ((slices_Contains_int k y9 x63).bind fun t2773 => (j2733 t2773)) else (j2733 false))) else none) else none) else none))))) else none) else (j2331 y9 y10 y11))
def search_finder_find.b1 (k : Nat) (self : Finder → Option ((List Int) × (List Int) × (List Morphism))) (a0 : Finder) (j2331 : (List Int) → (List Int) → (List Morphism) → Option ((List Int) × (List Int) × (List Morphism))) (rec1 : (List Int) → (List Int) → (List Morphism) → Int → Option ((List Int) × (List Int) × (List Morphism))) (y9 : (List Int)) (y10 : (List Int)) (y11 : (List Morphism)) (x164 : Int) : Option ((List Int) × (List Int) × (List Morphism)) :=
  (bif (decide (x164 < (a0.fg.fEdges.length : Int))) then (jn (κ := Bool → Option ((List Int) × (List Int) × (List Morphism))) (fun (x185 : Bool) => (bif x185 then (if inR (x164 + 1) then (rec1 y9 y10 y11 (x164 + 1)) else none) else (if y10.length + [x164].length ≤ lim then ((self (Finder.mk a0.fp a0.fg a0.fis a0.fpartial a0.finjective a0.fmost y9 (y10 ++ [x164]) y11)).bind fun t3047 => (if (0 : Int) ≤ (a0.fedges.length : Int) ∧ (a0.fedges.length : Int) ≤ (t3047.2.1.length : Int) then (if inR (x164 + 1) then (rec1 t3047.1 (t3047.2.1.take ((a0.fedges.length : Int) : Int).toNat) t3047.2.2 (x164 + 1)) else none) else none)) else none))) (fun j3042 => ((search_finder_fits k (Finder.mk a0.fp a0.fg a0.fis a0.fpartial a0.finjective a0.fmost y9 y10 y11) (a0.fedges.length : Int) x164).bind fun t3054 => (bif (!t3054) then (j3042 true) else (bif a0.finjective then ((slices_Contains_int k y10 x164).bind fun t3057 => (j3042 t3057)) else (j3042 false)))))) else (j2331 y9 y10 y11))
def search_finder_find.main (self : Finder → Option ((List Int) × (List Int) × (List Morphism))) (k : Nat) (a0 : Finder) : Option ((List Int) × (List Int) × (List Morphism)) :=
  (bif ((a0.fout.length : Int) == a0.fmost) then (some (a0.fnodes, a0.fedges, a0.fout)) else (jn (κ := (List Int) → (List Int) → (List Morphism) → Option ((List Int) × (List Int) × (List Morphism))) (fun (y9 : (List Int)) (y10 : (List Int)) (y11 : (List Morphism)) => (some (y9, y10, y11))) (fun j2331 => (bif (decide ((a0.fnodes.length : Int) < (a0.fp.fNodes.length : Int))) then (loop4 k (search_finder_find.b0 k self a0 j2331) a0.fnodes a0.fedges a0.fout 0) else (bif (decide ((a0.fedges.length : Int) < (a0.fp.fEdges.length : Int))) then (loop4 k (search_finder_find.b1 k self a0 j2331) a0.fnodes a0.fedges a0.fout 0) else ((slices_Clone_int k a0.fnodes).bind fun t3066 => ((slices_Clone_int k a0.fedges).bind fun t3067 => (if a0.fout.length + [(Morphism.mk t3066 t3067)].length ≤ lim then (j2331 a0.fnodes a0.fedges (a0.fout ++ [(Morphism.mk t3066 t3067)])) else none))))))))
def search_finder_find : Nat → Finder → Option ((List Int) × (List Int) × (List Morphism))
  | 0, _ => none
  | k + 1, a0 => search_finder_find.main (search_finder_find k) k a0
def search_found (k : Nat) (a0 : Types) (a1 : Graph) (a2 : Graph) (a3 : OMorphism) (a4 : Bool) (a5 : Int) : Option (List Morphism) :=
  ((search_below k a0).bind fun t104 => ((search_finder_find k (Finder.mk a1 a2 t104 a3 a4 a5 [] [] [])).bind fun t109 => (some t109.2.2)))
def search_all (k : Nat) (a0 : Types) (a1 : Graph) (a2 : Graph) (a3 : OMorphism) (a4 : Bool) : Option ((List Morphism) × Int) :=
  ((search_found k a0 a1 a2 a3 a4 5001).bind fun t100 => (bif (decide ((t100.length : Int) > 5000)) then (some ([], 3)) else (some (t100, 0))))
def search_All (k : Nat) (a0 : Types) (a1 : Graph) (a2 : Graph) (a3 : Bool) : Option ((List Morphism) × Int) :=
  ((search_valid k a0 a1 a2).bind fun t100 => (bif (t100 != 0) then (some ([], t100)) else ((search_all k a0 a1 a2 (OMorphism.mk none none) a3).bind fun t102 => (some (t102.1, t102.2)))))
def attribute_value (k : Nat) (a0 : Term) (a1 : (List Int)) : Option Int :=
  (bif (decide (a0.fVar < 0)) then (some a0.fAdd) else (if (0 : Int) ≤ a0.fVar ∧ a0.fVar < (a1.length : Int) then (if inR ((rd a1 a0.fVar) + a0.fAdd) then (some ((rd a1 a0.fVar) + a0.fAdd)) else none) else none))
def difference_wide (k : Nat) (a0 : Int) (a1 : Int) : Option (Int × Int) :=
  (if (0 : Int) ≤ (IntKind.u64.wrap a0) ∧ (0 : Int) ≤ (IntKind.u64.wrap a1) ∧ (0 : Int) ≤ 0 ∧ 0 ≤ (1 : Int) then (if inR ((shR .i64 a0 63) + (shR .i64 a1 63)) then (if inR (((shR .i64 a0 63) + (shR .i64 a1 63)) + (IntKind.i64.wrap (((IntKind.u64.wrap a0) + (IntKind.u64.wrap a1) + 0) / 18446744073709551616))) then (some ((((shR .i64 a0 63) + (shR .i64 a1 63)) + (IntKind.i64.wrap (((IntKind.u64.wrap a0) + (IntKind.u64.wrap a1) + 0) / 18446744073709551616))), (((IntKind.u64.wrap a0) + (IntKind.u64.wrap a1) + 0) % 18446744073709551616))) else none) else none) else none)
def difference_Holds_1 (k : Nat) (a0 : Term) (a1 : (List Int)) : Option (Int × Int × Bool) :=
  (bif (a0.fVar == (-1)) then ((difference_wide k 0 a0.fAdd).bind fun t101 => (some (t101.1, t101.2, true))) else (jn (κ := Bool → Option (Int × Int × Bool)) (fun (x22 : Bool) => (bif x22 then (some (0, 0, false)) else (if (0 : Int) ≤ a0.fVar ∧ a0.fVar < (a1.length : Int) then ((difference_wide k (rd a1 a0.fVar) a0.fAdd).bind fun t111 => (some (t111.1, t111.2, true))) else none))) (fun j104 => (bif (decide (a0.fVar < 0)) then (j104 true) else (j104 (decide (a0.fVar ≥ (a1.length : Int))))))))
def cmp_isNaN_int (k : Nat) (a0 : Int) : Option Bool :=
  (some (a0 != a0))
def cmp_Compare_int (k : Nat) (a0 : Int) (a1 : Int) : Option Int :=
  ((cmp_isNaN_int k a0).bind fun t100 => ((cmp_isNaN_int k a1).bind fun t101 => (bif t100 then (bif t101 then (some 0) else (some (-1))) else (bif t101 then (some 1) else (bif (decide (a0 < a1)) then (some (-1)) else (bif (decide (a0 > a1)) then (some 1) else (some 0)))))))
def cmp_isNaN_uint64 (k : Nat) (a0 : Int) : Option Bool :=
  (some (a0 != a0))
def cmp_Compare_uint64 (k : Nat) (a0 : Int) (a1 : Int) : Option Int :=
  ((cmp_isNaN_uint64 k a0).bind fun t100 => ((cmp_isNaN_uint64 k a1).bind fun t101 => (bif t100 then (bif t101 then (some 0) else (some (-1))) else (bif t101 then (some 1) else (bif (decide (a0 < a1)) then (some (-1)) else (bif (decide (a0 > a1)) then (some 1) else (some 0)))))))
def cmp_Or_int.b0 (a0 : (List Int)) (rec0 : Int → Option Int) (x8 : Int) : Option Int :=
  (bif (decide (x8 < (a0.length : Int))) then (if (0 : Int) ≤ x8 ∧ x8 < (a0.length : Int) then (bif ((rd a0 x8) != 0) then (some (rd a0 x8)) else (if inR (x8 + 1) then (rec0 (x8 + 1)) else none)) else none) else (some 0))
def cmp_Or_int (k : Nat) (a0 : (List Int)) : Option Int :=
  (loop1 k (cmp_Or_int.b0 a0) 0)
def difference_Holds (k : Nat) (a0 : Test) (a1 : (List Int)) : Option Bool :=
  (((fun x => difference_Holds_1 k x a1) a0.fLeft).bind fun t100 => (((fun x => difference_Holds_1 k x a1) a0.fRight).bind fun t101 => (jn (κ := Bool → Option Bool) (fun (x35 : Bool) => (bif x35 then (some false) else ((cmp_Compare_int k t100.1 t101.1).bind fun t106 => ((cmp_Compare_uint64 k t100.2.1 t101.2.1).bind fun t107 => ((cmp_Or_int k [t106, t107]).bind fun t108 => (jn (κ := Bool → Option Bool) (fun (x4 : Bool) => (some x4)) (fun j114 => (bif (a0.fKind == 1) then (bif (decide (t108 ≤ 0)) then (j114 true) else (bif (a0.fKind == 2) then (j114 (t108 == 0)) else (j114 false))) else (bif (a0.fKind == 2) then (j114 (t108 == 0)) else (j114 false)))))))))) (fun j104 => (bif (!t100.2.2) then (j104 true) else (j104 (!t101.2.2)))))))
def attribute_solve.b1 (k : Nat) (a0 : Pattern) (x8 : (List Int)) (rec1 : Int → Option ((List Int) × Int)) (x76 : Int) : Option ((List Int) × Int) :=
  (bif (decide (x76 < (a0.fTests.length : Int))) then (if (0 : Int) ≤ x76 ∧ x76 < (a0.fTests.length : Int) then ((difference_Holds k (rd a0.fTests x76) x8).bind fun t258 => (bif (!t258) then (some ([], 16)) else (if inR (x76 + 1) then (rec1 (x76 + 1)) else none))) else none) else (some (x8, 0)))
def attribute_solve.b0 (k : Nat) (a0 : Pattern) (a1 : Host) (a2 : Morphism) (rec0 : (List Int) → (List Bool) → Int → Option ((List Int) × Int)) (x8 : (List Int)) (x9 : (List Bool)) (x25 : Int) : Option ((List Int) × Int) :=
  (bif (decide (x25 < (a0.fSlots.length : Int))) then (if (0 : Int) ≤ x25 ∧ x25 < (a0.fSlots.length : Int) then (if (0 : Int) ≤ (rd a0.fSlots x25).fNode ∧ (rd a0.fSlots x25).fNode < (a2.fNodes.length : Int) then (if (0 : Int) ≤ (rd a2.fNodes ((rd a0.fSlots x25).fNode)) ∧ (rd a2.fNodes ((rd a0.fSlots x25).fNode)) < (a1.fValues.length : Int) then (if (0 : Int) ≤ (rd a0.fSlots x25).fAttr ∧ (rd a0.fSlots x25).fAttr < ((rd a1.fValues (rd a2.fNodes ((rd a0.fSlots x25).fNode))).length : Int) then (jn (κ := Bool → Option ((List Int) × Int)) (fun (x54 : Bool) => (jn (κ := (List Int) → (List Bool) → Option ((List Int) × Int)) (fun (x8' : (List Int)) (x9' : (List Bool)) => ((attribute_value k ((rd a0.fSlots x25).fTerm) x8').bind fun t234 => (bif (t234 != (rd (rd a1.fValues (rd a2.fNodes ((rd a0.fSlots x25).fNode))) ((rd a0.fSlots x25).fAttr))) then (some ([], 11)) else (if inR (x25 + 1) then (rec0 x8' x9' (x25 + 1)) else none)))) (fun j233 => (bif x54 then (if inR ((rd (rd a1.fValues (rd a2.fNodes ((rd a0.fSlots x25).fNode))) ((rd a0.fSlots x25).fAttr)) - (rd a0.fSlots x25).fTerm.fAdd) then (if (0 : Int) ≤ (rd a0.fSlots x25).fTerm.fVar ∧ (rd a0.fSlots x25).fTerm.fVar < (x8.length : Int) then (if (0 : Int) ≤ (rd a0.fSlots x25).fTerm.fVar ∧ (rd a0.fSlots x25).fTerm.fVar < (x9.length : Int) then (j233 (x8.set ((rd a0.fSlots x25).fTerm.fVar : Int).toNat ((rd (rd a1.fValues (rd a2.fNodes ((rd a0.fSlots x25).fNode))) ((rd a0.fSlots x25).fAttr)) - (rd a0.fSlots x25).fTerm.fAdd)) (x9.set ((rd a0.fSlots x25).fTerm.fVar : Int).toNat true)) else none) else none) else none) else (j233 x8 x9))))) (fun j227 => (bif (decide ((rd a0.fSlots x25).fTerm.fVar ≥ 0)) then (if (0 : Int) ≤ (rd a0.fSlots x25).fTerm.fVar ∧ (rd a0.fSlots x25).fTerm.fVar < (x9.length : Int) then (j227 (!(rd x9 ((rd a0.fSlots x25).fTerm.fVar)))) else none) else (j227 false)))) else none) else none) else none) else none) else (loop1 k (attribute_solve.b1 k a0 x8) 0))
def attribute_solve (k : Nat) (a0 : Pattern) (a1 : Host) (a2 : Morphism) : Option ((List Int) × Int) :=
  (jn (κ := Option ((List Int) × Int)) ((loop3 k (attribute_solve.b0 k a0 a1 a2) (List.replicate (a0.fVars : Int).toNat (0 : Int)) (List.replicate (a0.fVars : Int).toNat false) 0)) (fun j113 => (if (0 : Int) ≤ a0.fVars ∧ a0.fVars ≤ (lim : Int) then (if (0 : Int) ≤ a0.fVars ∧ a0.fVars ≤ (lim : Int) then j113 else none) else none)))
def attribute_Matches.b0 (k : Nat) (a1 : Pattern) (a2 : Host) (t102 : ((List Morphism) × Int)) (rec0 : (List Match) → Int → Option ((List Match) × Int)) (x13 : (List Match)) (x40 : Int) : Option ((List Match) × Int) :=
  (bif (decide (x40 < (t102.1.length : Int))) then (if (0 : Int) ≤ x40 ∧ x40 < (t102.1.length : Int) then ((attribute_solve k a1 a2 (rd t102.1 x40)).bind fun t139 => (bif (t139.2 == 0) then (if x13.length + [(Match.mk (rd t102.1 x40) t139.1)].length ≤ lim then (if inR (x40 + 1) then (rec0 (x13 ++ [(Match.mk (rd t102.1 x40) t139.1)]) (x40 + 1)) else none) else none) else (if inR (x40 + 1) then (rec0 x13 (x40 + 1)) else none))) else none) else (some (x13, 0)))
def attribute_Matches (k : Nat) (a0 : Types) (a1 : Pattern) (a2 : Host) (a3 : Bool) : Option ((List Match) × Int) :=
  ((attribute_given k a0 a1 a2).bind fun t100 => (bif (t100 != 0) then (some ([], t100)) else ((search_All k a0 a1.fGraph a2.fGraph a3).bind fun t102 => (bif (t102.2 != 0) then (some ([], t102.2)) else (loop2 k (attribute_Matches.b0 k a1 a2 t102) [] 0)))))
def slices_Clone_Test (_k : Nat) (a0 : (List Test)) : Option (List Test) := if a0.length ≤ lim then some a0 else none
def attribute_system_1 (k : Nat) (a0 : Int) : Option Term :=
  (some (Term.mk (-1) a0))
def attribute_system.b1 (a1 : Pattern) (x5 : (List Test)) (x19 : Int) (rec0 : (List Test) → Int → Option (List Test)) (t299 : Term) (t300 : Term) (rec1 : Int → Option (List Test)) (x11 : Int) : Option (List Test) :=
  (bif (decide (x11 ≥ 0)) then (if (0 : Int) ≤ x11 ∧ x11 < (a1.fSlots.length : Int) then (jn (κ := Bool → Option (List Test)) (fun (x70 : Bool) => (bif x70 then (if (x5 ++ [(Test.mk 1 t299 ((rd a1.fSlots x19).fTerm)), (Test.mk 1 ((rd a1.fSlots x19).fTerm) t300)]).length + [(Test.mk 2 ((rd a1.fSlots x11).fTerm) ((rd a1.fSlots x19).fTerm))].length ≤ lim then (if inR (x19 + 1) then (rec0 ((x5 ++ [(Test.mk 1 t299 ((rd a1.fSlots x19).fTerm)), (Test.mk 1 ((rd a1.fSlots x19).fTerm) t300)]) ++ [(Test.mk 2 ((rd a1.fSlots x11).fTerm) ((rd a1.fSlots x19).fTerm))]) (x19 + 1)) else none) else none) else (if inR (x11 - 1) then (rec1 (x11 - 1)) else none))) (fun j368 => (bif ((rd a1.fSlots x11).fNode == (rd a1.fSlots x19).fNode) then (j368 ((rd a1.fSlots x11).fAttr == (rd a1.fSlots x19).fAttr)) else (j368 false)))) else none) else (if inR (x19 + 1) then (rec0 (x5 ++ [(Test.mk 1 t299 ((rd a1.fSlots x19).fTerm)), (Test.mk 1 ((rd a1.fSlots x19).fTerm) t300)]) (x19 + 1)) else none))
def attribute_system.b0 (k : Nat) (a0 : Types) (a1 : Pattern) (rec0 : (List Test) → Int → Option (List Test)) (x5 : (List Test)) (x19 : Int) : Option (List Test) :=
  (bif (decide (x19 < (a1.fSlots.length : Int))) then (if (0 : Int) ≤ x19 ∧ x19 < (a1.fSlots.length : Int) then ((attribute_attr k a0 a1 (rd a1.fSlots x19)).bind fun t289 => (((fun x => attribute_system_1 k x) t289.1.fLow).bind fun t299 => (((fun x => attribute_system_1 k x) t289.1.fHigh).bind fun t300 => (if x5.length + [(Test.mk 1 t299 ((rd a1.fSlots x19).fTerm)), (Test.mk 1 ((rd a1.fSlots x19).fTerm) t300)].length ≤ lim then (if inR (x19 - 1) then (loop1 k (attribute_system.b1 a1 x5 x19 rec0 t299 t300) (x19 - 1)) else none) else none)))) else none) else (some x5))
def attribute_system (k : Nat) (a0 : Types) (a1 : Pattern) : Option (List Test) :=
  ((slices_Clone_Test k a1.fTests).bind fun t100 => (loop2 k (attribute_system.b0 k a0 a1) t100 0))
def difference_arcs.b0 (a0 : (List Test)) (rec0 : (List Arc) → Int → Option (List Arc)) (x3 : (List Arc)) (x9 : Int) : Option (List Arc) :=
  (bif (decide (x9 < (a0.length : Int))) then (if (0 : Int) ≤ x9 ∧ x9 < (a0.length : Int) then (if inR ((rd a0 x9).fLeft.fVar + 1) then (if inR ((rd a0 x9).fRight.fVar + 1) then (if inR ((rd a0 x9).fRight.fAdd - (rd a0 x9).fLeft.fAdd) then (if x3.length + [(Arc.mk (Use.mk x9 1) ((rd a0 x9).fLeft.fVar + 1) ((rd a0 x9).fRight.fVar + 1) ((rd a0 x9).fRight.fAdd - (rd a0 x9).fLeft.fAdd))].length ≤ lim then (bif ((rd a0 x9).fKind == 2) then (if inR (0 - ((rd a0 x9).fRight.fAdd - (rd a0 x9).fLeft.fAdd)) then (if (x3 ++ [(Arc.mk (Use.mk x9 1) ((rd a0 x9).fLeft.fVar + 1) ((rd a0 x9).fRight.fVar + 1) ((rd a0 x9).fRight.fAdd - (rd a0 x9).fLeft.fAdd))]).length + [(Arc.mk (Use.mk x9 (-1)) ((rd a0 x9).fRight.fVar + 1) ((rd a0 x9).fLeft.fVar + 1) (0 - ((rd a0 x9).fRight.fAdd - (rd a0 x9).fLeft.fAdd)))].length ≤ lim then (if inR (x9 + 1) then (rec0 ((x3 ++ [(Arc.mk (Use.mk x9 1) ((rd a0 x9).fLeft.fVar + 1) ((rd a0 x9).fRight.fVar + 1) ((rd a0 x9).fRight.fAdd - (rd a0 x9).fLeft.fAdd))]) ++ [(Arc.mk (Use.mk x9 (-1)) ((rd a0 x9).fRight.fVar + 1) ((rd a0 x9).fLeft.fVar + 1) (0 - ((rd a0 x9).fRight.fAdd - (rd a0 x9).fLeft.fAdd)))]) (x9 + 1)) else none) else none) else none) else (if inR (x9 + 1) then (rec0 (x3 ++ [(Arc.mk (Use.mk x9 1) ((rd a0 x9).fLeft.fVar + 1) ((rd a0 x9).fRight.fVar + 1) ((rd a0 x9).fRight.fAdd - (rd a0 x9).fLeft.fAdd))]) (x9 + 1)) else none)) else none) else none) else none) else none) else none) else (some x3))
def difference_arcs (k : Nat) (a0 : (List Test)) : Option (List Arc) :=
  (loop2 k (difference_arcs.b0 a0) [] 0)
def difference_distances.b1 (a1 : (List Arc)) (x16 : Int) (rec0 : (List Int) → Int → Option ((List Int) × Bool)) (rec1 : (List Int) → Bool → Int → Option ((List Int) × Bool)) (x6' : (List Int)) (x7 : Bool) (x20 : Int) : Option ((List Int) × Bool) :=
  (bif (decide (x20 < (a1.length : Int))) then (if (0 : Int) ≤ x20 ∧ x20 < (a1.length : Int) then (if (0 : Int) ≤ (rd a1 x20).fto ∧ (rd a1 x20).fto < (x6'.length : Int) then (if inR ((rd x6' ((rd a1 x20).fto)) + (rd a1 x20).fmost) then (if (0 : Int) ≤ (rd a1 x20).ffrom ∧ (rd a1 x20).ffrom < (x6'.length : Int) then (bif (decide (((rd x6' ((rd a1 x20).fto)) + (rd a1 x20).fmost) < (rd x6' ((rd a1 x20).ffrom)))) then (if (0 : Int) ≤ (rd a1 x20).ffrom ∧ (rd a1 x20).ffrom < (x6'.length : Int) then (if inR (x20 + 1) then (rec1 (x6'.set ((rd a1 x20).ffrom : Int).toNat ((rd x6' ((rd a1 x20).fto)) + (rd a1 x20).fmost)) true (x20 + 1)) else none) else none) else (if inR (x20 + 1) then (rec1 x6' x7 (x20 + 1)) else none)) else none) else none) else none) else none) else (bif (!x7) then (some (x6', true)) else (if inR (x16 + 1) then (rec0 x6' (x16 + 1)) else none)))
def difference_distances.b0 (k : Nat) (a0 : Int) (a1 : (List Arc)) (rec0 : (List Int) → Int → Option ((List Int) × Bool)) (x6 : (List Int)) (x16 : Int) : Option ((List Int) × Bool) :=
  (bif (decide (x16 < (a0 + 2))) then (loop3 k (difference_distances.b1 a1 x16 rec0) x6 false 0) else (some ([], false)))
def difference_distances (k : Nat) (a0 : Int) (a1 : (List Arc)) : Option ((List Int) × Bool) :=
  (if inR (a0 + 1) then (if (0 : Int) ≤ (a0 + 1) ∧ (a0 + 1) ≤ (lim : Int) then (if inR (a0 + 2) then (loop2 k (difference_distances.b0 k a0 a1) (List.replicate ((a0 + 1) : Int).toNat (0 : Int)) 0) else none) else none) else none)
def bits_Mul32 (k : Nat) (a0 : Int) (a1 : Int) : Option (Int × Int) :=
  (some ((IntKind.u32.wrap (shR .u64 (IntKind.u64.wrap ((IntKind.u64.wrap a0) * (IntKind.u64.wrap a1))) 32)), (IntKind.u32.wrap (IntKind.u64.wrap ((IntKind.u64.wrap a0) * (IntKind.u64.wrap a1))))))
def bits_Mul64 (k : Nat) (a0 : Int) (a1 : Int) : Option (Int × Int) :=
  (some ((IntKind.u64.wrap ((IntKind.u64.wrap ((IntKind.u64.wrap ((shR .u64 a0 32) * (shR .u64 a1 32))) + (shR .u64 (IntKind.u64.wrap ((IntKind.u64.wrap ((shR .u64 a0 32) * (bAnd .u64 a1 4294967295))) + (shR .u64 (IntKind.u64.wrap ((bAnd .u64 a0 4294967295) * (bAnd .u64 a1 4294967295))) 32))) 32))) + (shR .u64 (IntKind.u64.wrap ((bAnd .u64 (IntKind.u64.wrap ((IntKind.u64.wrap ((shR .u64 a0 32) * (bAnd .u64 a1 4294967295))) + (shR .u64 (IntKind.u64.wrap ((bAnd .u64 a0 4294967295) * (bAnd .u64 a1 4294967295))) 32))) 4294967295) + (IntKind.u64.wrap ((bAnd .u64 a0 4294967295) * (shR .u64 a1 32))))) 32))), (IntKind.u64.wrap (a0 * a1))))
def bits_Mul (k : Nat) (a0 : Int) (a1 : Int) : Option (Int × Int) :=
  ((bits_Mul64 k a0 a1).bind fun t100 => (some (t100.1, t100.2)))
def slices_Repeat_int.b0 (rec0 : (List Int) → Int → Option (List Int)) (x7 : (List Int)) (x8 : Int) : Option (List Int) :=
  (bif (decide (x8 < (x7.length : Int))) then (if (0 : Int) ≤ x8 ∧ x8 < (x7.length : Int) then (if (0 : Int) ≤ x8 ∧ x8 < (x7.length : Int) then (if (x8 : Int).toNat < x7.length ∧ (x8 : Int).toNat < x7.length then (if inR (x8 + ((min (x8 : Int).toNat (x7.length - (x8 : Int).toNat)) : Nat)) then (rec0 (cpy x7 (x8 : Int).toNat (x7.take (min (x8 : Int).toNat (x7.length - (x8 : Int).toNat)))) (x8 + ((min (x8 : Int).toNat (x7.length - (x8 : Int).toNat)) : Nat))) else none) else none) else none) else none) else (some x7))
def slices_Repeat_int (k : Nat) (a0 : (List Int)) (a1 : Int) : Option (List Int) :=
  (bif (decide (a1 < 0)) then none else ((bits_Mul k (IntKind.u64.wrap (a0.length : Int)) (IntKind.u64.wrap a1)).bind fun t102 => (jn (κ := Bool → Option (List Int)) (fun (x26 : Bool) => (bif x26 then none else (if (0 : Int) ≤ (IntKind.i64.wrap t102.2) ∧ (IntKind.i64.wrap t102.2) ≤ (lim : Int) then (if 0 < a0.length ∧ a0.length ≤ (List.replicate ((IntKind.i64.wrap t102.2) : Int).toNat (0 : Int)).length then (loop2 k (slices_Repeat_int.b0) (cpy (List.replicate ((IntKind.i64.wrap t102.2) : Int).toNat (0 : Int)) 0 a0) (a0.length : Nat)) else none) else none))) (fun j105 => (bif (decide (t102.1 > 0)) then (j105 true) else (j105 (decide (t102.2 > 9223372036854775807))))))))
def difference_fresh.b0 (k : Nat) (a0 : Int) (rec0 : (List (List Int)) → Int → Option (List (List Int))) (x3 : (List (List Int))) (x8 : Int) : Option (List (List Int)) :=
  (bif (decide (x8 < (a0 + 1))) then (if inR (a0 + 1) then ((slices_Repeat_int k [1125899906842624] (a0 + 1)).bind fun t126 => (if (0 : Int) ≤ x8 ∧ x8 < (t126.length : Int) then (if x3.length + [(t126.set (x8 : Int).toNat 0)].length ≤ lim then (if inR (x8 + 1) then (rec0 (x3 ++ [(t126.set (x8 : Int).toNat 0)]) (x8 + 1)) else none) else none) else none)) else none) else (some x3))
def difference_fresh (k : Nat) (a0 : Int) : Option (List (List Int)) :=
  (if inR (a0 + 1) then (loop2 k (difference_fresh.b0 k a0) [] 0) else none)
def difference_closed.b0 (a0 : (List (List Int))) (rec0 : Int → Option Bool) (x6 : Int) : Option Bool :=
  (bif (decide (x6 < (a0.length : Int))) then (if (0 : Int) ≤ x6 ∧ x6 < (a0.length : Int) then (if (0 : Int) ≤ x6 ∧ x6 < ((rd a0 x6).length : Int) then (bif (decide ((rd (rd a0 x6) x6) < 0)) then (some true) else (if inR (x6 + 1) then (rec0 (x6 + 1)) else none)) else none) else none) else (some false))
def difference_closed (k : Nat) (a0 : (List (List Int))) : Option Bool :=
  (loop1 k (difference_closed.b0 a0) 0)
def difference_longer.b2 (a0 : (List (List Int))) (a1 : (List Arc)) (x27 : Int) (rec1 : (List (List Int)) → Int → Option (List (List Int))) (rec2 : (List (List Int)) → Int → Option (List (List Int))) (x6'' : (List (List Int))) (x33 : Int) : Option (List (List Int)) :=
  (bif (decide (x33 < (((a0.length : Int) - 1) + 1))) then (if (0 : Int) ≤ (rd a1 x27).fto ∧ (rd a1 x27).fto < (a0.length : Int) then (if (0 : Int) ≤ x33 ∧ x33 < ((rd a0 ((rd a1 x27).fto)).length : Int) then (bif (decide ((rd (rd a0 ((rd a1 x27).fto)) x33) < 1125899906842624)) then (if (0 : Int) ≤ (rd a1 x27).ffrom ∧ (rd a1 x27).ffrom < (x6''.length : Int) then (if (0 : Int) ≤ (rd a1 x27).ffrom ∧ (rd a1 x27).ffrom < (x6''.length : Int) then (if (0 : Int) ≤ x33 ∧ x33 < ((rd x6'' ((rd a1 x27).ffrom)).length : Int) then (if (0 : Int) ≤ (rd a1 x27).fto ∧ (rd a1 x27).fto < (a0.length : Int) then (if (0 : Int) ≤ x33 ∧ x33 < ((rd a0 ((rd a1 x27).fto)).length : Int) then (if inR ((rd a1 x27).fmost + (rd (rd a0 ((rd a1 x27).fto)) x33)) then (if (0 : Int) ≤ x33 ∧ x33 < ((rd x6'' ((rd a1 x27).ffrom)).length : Int) then (if inR (x33 + 1) then (rec2 (x6''.set ((rd a1 x27).ffrom : Int).toNat ((rd x6'' ((rd a1 x27).ffrom)).set (x33 : Int).toNat (minI (rd (rd x6'' ((rd a1 x27).ffrom)) x33) ((rd a1 x27).fmost + (rd (rd a0 ((rd a1 x27).fto)) x33))))) (x33 + 1)) else none) else none) else none) else none) else none) else none) else none) else none) else (if inR (x33 + 1) then (rec2 x6'' (x33 + 1)) else none)) else none) else none) else (if inR (x27 + 1) then (rec1 x6'' (x27 + 1)) else none))
def difference_longer.b1 (k : Nat) (a0 : (List (List Int))) (a1 : (List Arc)) (rec1 : (List (List Int)) → Int → Option (List (List Int))) (x6' : (List (List Int))) (x27 : Int) : Option (List (List Int)) :=
  (bif (decide (x27 < (a1.length : Int))) then (if (0 : Int) ≤ x27 ∧ x27 < (a1.length : Int) then (if inR (((a0.length : Int) - 1) + 1) then (loop2 k (difference_longer.b2 a0 a1 x27 rec1) x6' 0) else none) else none) else (some x6'))
def difference_longer.b0 (k : Nat) (a0 : (List (List Int))) (a1 : (List Arc)) (rec0 : (List (List Int)) → Int → Option (List (List Int))) (x6 : (List (List Int))) (x15 : Int) : Option (List (List Int)) :=
  (bif (decide (x15 < (((a0.length : Int) - 1) + 1))) then (if inR (((a0.length : Int) - 1) + 1) then ((slices_Repeat_int k [1125899906842624] (((a0.length : Int) - 1) + 1)).bind fun t608 => (if x6.length + 1 ≤ lim then (if inR (x15 + 1) then (rec0 (x6 ++ [t608]) (x15 + 1)) else none) else none)) else none) else (loop2 k (difference_longer.b1 k a0 a1) x6 0))
def difference_longer (k : Nat) (a0 : (List (List Int))) (a1 : (List Arc)) : Option (List (List Int)) :=
  (if inR ((a0.length : Int) - 1) then (if inR (((a0.length : Int) - 1) + 1) then (loop2 k (difference_longer.b0 k a0 a1) ([] : List (List Int)) 0) else none) else none)
def difference_Refute.b2 (t102 : (List Arc)) (x10 : (List (List (List Int)))) (x11 : (List Use)) (x12 : Int) (x13 : Int) (x14 : Int) (x15 : Int) (j3598 : (List Use) → Int → Int → Int → Option ((List Use) × Int)) (rec2 : Int → Option ((List Use) × Int)) (x66 : Int) : Option ((List Use) × Int) :=
  (bif (decide (x66 < (t102.length : Int))) then (if (0 : Int) ≤ x66 ∧ x66 < (t102.length : Int) then (jn (κ := Int → Option ((List Use) × Int)) (fun (x18 : Int) => (if (0 : Int) ≤ x15 ∧ x15 < (x10.length : Int) then (if (0 : Int) ≤ (rd t102 x66).fto ∧ (rd t102 x66).fto < ((rd x10 x15).length : Int) then (if (0 : Int) ≤ x18 ∧ x18 < ((rd (rd x10 x15) ((rd t102 x66).fto)).length : Int) then (jn (κ := Bool → Option ((List Use) × Int)) (fun (x100 : Bool) => (bif x100 then (if x11.length + [(rd t102 x66).fuse].length ≤ lim then (if inR (x14 + (rd t102 x66).fmost) then (j3598 (x11 ++ [(rd t102 x66).fuse]) x18 ((rd t102 x66).fto) (x14 + (rd t102 x66).fmost)) else none) else none) else (if inR (x66 + 1) then (rec2 (x66 + 1)) else none))) (fun j3784 => (bif (decide ((rd (rd (rd x10 x15) ((rd t102 x66).fto)) x18) < 1125899906842624)) then (if inR (x14 + (rd t102 x66).fmost) then (if inR ((x14 + (rd t102 x66).fmost) + (rd (rd (rd x10 x15) ((rd t102 x66).fto)) x18)) then (j3784 (decide (((x14 + (rd t102 x66).fmost) + (rd (rd (rd x10 x15) ((rd t102 x66).fto)) x18)) < 0))) else none) else none) else (j3784 false)))) else none) else none) else none)) (fun j3770 => (bif (decide (x12 < 0)) then (j3770 ((rd t102 x66).ffrom)) else (bif ((rd t102 x66).ffrom != x13) then (if inR (x66 + 1) then (rec2 (x66 + 1)) else none) else (j3770 x12))))) else none) else (j3598 x11 x12 x13 x14))
def difference_Refute.b1 (k : Nat) (t102 : (List Arc)) (x10 : (List (List (List Int)))) (rec1 : (List Use) → Int → Int → Int → Int → Option ((List Use) × Int)) (x11 : (List Use)) (x12 : Int) (x13 : Int) (x14 : Int) (x15 : Int) : Option ((List Use) × Int) :=
  (bif (decide (x15 ≥ 0)) then (jn (κ := (List Use) → Int → Int → Int → Option ((List Use) × Int)) (fun (x11' : (List Use)) (x12' : Int) (x13' : Int) (x14' : Int) => (if inR (x15 - 1) then (rec1 x11' x12' x13' x14' (x15 - 1)) else none)) (fun j3598 => (loop1 k (difference_Refute.b2 t102 x10 x11 x12 x13 x14 x15 j3598) 0))) else (some (x11, 0)))
def difference_Refute.b0 (k : Nat) (t102 : (List Arc)) (rec0 : (List (List (List Int))) → Option ((List Use) × Int)) (x10 : (List (List (List Int)))) : Option ((List Use) × Int) :=
  (if inR ((x10.length : Int) - 1) then (if (0 : Int) ≤ ((x10.length : Int) - 1) ∧ ((x10.length : Int) - 1) < (x10.length : Int) then ((difference_closed k (rd x10 ((x10.length : Int) - 1))).bind fun t2571 => (bif (!t2571) then (if inR ((x10.length : Int) - 1) then (if (0 : Int) ≤ ((x10.length : Int) - 1) ∧ ((x10.length : Int) - 1) < (x10.length : Int) then ((difference_longer k (rd x10 ((x10.length : Int) - 1)) t102).bind fun t2575 => (if x10.length + [t2575].length ≤ lim then (rec0 (x10 ++ [t2575])) else none)) else none) else none) else (if inR ((x10.length : Int) - 2) then (loop5 k (difference_Refute.b1 k t102 x10) [] (-1) 0 0 ((x10.length : Int) - 2)) else none))) else none) else none)
def difference_Refute (k : Nat) (a0 : Int) (a1 : (List Test)) : Option ((List Use) × Int) :=
  ((difference_Valid k a0 a1).bind fun t100 => (bif (t100 != 0) then (some ([], t100)) else ((difference_arcs k a1).bind fun t102 => ((difference_distances k a0 t102).bind fun t103 => (bif t103.2 then (some ([], 10)) else ((difference_fresh k a0).bind fun t105 => (loop1 k (difference_Refute.b0 k t102) [t105])))))))
def attribute_Contradiction (k : Nat) (a0 : Types) (a1 : Pattern) : Option ((List Use) × Int) :=
  ((attribute_Valid k a0 a1).bind fun t100 => (bif (t100 != 0) then (some ([], t100)) else ((attribute_system k a0 a1).bind fun t106 => ((difference_Refute k a1.fVars t106).bind fun t107 => (some (t107.1, t107.2))))))
def ref05_SameInts.b0 (a0 : (List Int)) (a1 : (List Int)) (rec0 : Int → Option Bool) (x5 : Int) : Option Bool :=
  (bif (decide (x5 < (a0.length : Int))) then (if (0 : Int) ≤ x5 ∧ x5 < (a0.length : Int) then (if (0 : Int) ≤ x5 ∧ x5 < (a1.length : Int) then (bif ((rd a0 x5) != (rd a1 x5)) then (some false) else (if inR (x5 + 1) then (rec0 (x5 + 1)) else none)) else none) else none) else (some true))
def ref05_SameInts (k : Nat) (a0 : (List Int)) (a1 : (List Int)) : Option Bool :=
  (bif ((a0.length : Int) != (a1.length : Int)) then (some false) else (loop1 k (ref05_SameInts.b0 a0 a1) 0))
def ref21_SameMatch (k : Nat) (a0 : Match) (a1 : Match) : Option Bool :=
  (jn (κ := Bool → Option Bool) (fun (x4 : Bool) => (some x4)) (fun j106 => ((ref05_SameInts k a0.fMorphism.fNodes a1.fMorphism.fNodes).bind fun t107 => (bif t107 then ((ref05_SameInts k a0.fMorphism.fEdges a1.fMorphism.fEdges).bind fun t109 => (bif t109 then ((ref05_SameInts k a0.fVars a1.fVars).bind fun t111 => (j106 t111)) else (j106 false))) else (j106 false)))))
def ref21_SameMatches.b0 (k : Nat) (a0 : (List Match)) (a1 : (List Match)) (rec0 : Int → Option Bool) (x5 : Int) : Option Bool :=
  (bif (decide (x5 < (a0.length : Int))) then (if (0 : Int) ≤ x5 ∧ x5 < (a0.length : Int) then (if (0 : Int) ≤ x5 ∧ x5 < (a1.length : Int) then ((ref21_SameMatch k (rd a0 x5) (rd a1 x5)).bind fun t134 => (bif (!t134) then (some false) else (if inR (x5 + 1) then (rec0 (x5 + 1)) else none))) else none) else none) else (some true))
def ref21_SameMatches (k : Nat) (a0 : (List Match)) (a1 : (List Match)) : Option Bool :=
  (bif ((a0.length : Int) != (a1.length : Int)) then (some false) else (loop1 k (ref21_SameMatches.b0 k a0 a1) 0))
def law21_awake (k : Nat) : Option Bool :=
  ((ref04_Example k).bind fun t100 => ((law21_two k (Test.mk 1 (Term.mk 0 0) (Term.mk 1 4))).bind fun t101 => ((law21_bank k).bind fun t102 => ((attribute_Matches k t100 t101 t102 true).bind fun t103 => ((ref04_Example k).bind fun t104 => ((law21_two k (Test.mk 1 (Term.mk (-1) 2000) (Term.mk 0 0))).bind fun t105 => ((attribute_Contradiction k t104 t105).bind fun t106 => (jn (κ := Bool → Option Bool) (fun (x0 : Bool) => (some x0)) (fun j112 => (bif (t103.2 == 0) then ((ref21_SameMatches k t103.1 ([(Match.mk (Morphism.mk [2, 1] []) [5, 10])])).bind fun t114 => (bif t114 then (bif (t106.2 == 0) then (j112 ((t106.1.length : Int) == 2)) else (j112 false)) else (j112 false))) else (j112 false)))))))))))
def ref04_Few.b2 (a0 : Types) (x4 : Int) (x5 : Int) (rec1 : Int → Option Bool) (rec2 : Int → Option Bool) (x7 : Int) : Option Bool :=
  (bif (decide (x7 < (((rd ((rd a0.fNodes x4).fAttrs) x5).fNames).length : Int))) then (if (0 : Int) ≤ x7 ∧ x7 < (((rd ((rd a0.fNodes x4).fAttrs) x5).fNames).length : Int) then (bif (decide (((rd ((rd ((rd a0.fNodes x4).fAttrs) x5).fNames) x7).length : Int) > 40)) then (some false) else (if inR (x7 + 1) then (rec2 (x7 + 1)) else none)) else none) else (if inR (x5 + 1) then (rec1 (x5 + 1)) else none))
def ref04_Few.b1 (k : Nat) (a0 : Types) (x3 : Int) (x4 : Int) (rec0 : Int → Int → Option Bool) (rec1 : Int → Option Bool) (x5 : Int) : Option Bool :=
  (if (0 : Int) ≤ x4 ∧ x4 < (a0.fNodes.length : Int) then (bif (decide (x5 < (((rd a0.fNodes x4).fAttrs).length : Int))) then (if (0 : Int) ≤ x4 ∧ x4 < (a0.fNodes.length : Int) then (if (0 : Int) ≤ x5 ∧ x5 < (((rd a0.fNodes x4).fAttrs).length : Int) then (jn (κ := Bool → Option Bool) (fun (x76 : Bool) => (bif x76 then (some false) else (loop1 k (ref04_Few.b2 a0 x4 x5 rec1) 0))) (fun j371 => (bif (decide ((((rd ((rd a0.fNodes x4).fAttrs) x5).fName).length : Int) > 40)) then (j371 true) else (j371 (decide ((((rd ((rd a0.fNodes x4).fAttrs) x5).fNames).length : Int) > 25)))))) else none) else none) else (if inR (x4 + 1) then (rec0 (x3 + (((rd a0.fNodes x4).fAttrs).length : Int)) (x4 + 1)) else none)) else none)
def ref04_Few.b3 (a0 : Types) (rec3 : Int → Option Bool) (x8 : Int) : Option Bool :=
  (bif (decide (x8 < (a0.fEdges.length : Int))) then (if (0 : Int) ≤ x8 ∧ x8 < (a0.fEdges.length : Int) then (bif (decide ((((rd a0.fEdges x8).fName).length : Int) > 40)) then (some false) else (if inR (x8 + 1) then (rec3 (x8 + 1)) else none)) else none) else (some true))
def ref04_Few.b0 (k : Nat) (a0 : Types) (rec0 : Int → Int → Option Bool) (x3 : Int) (x4 : Int) : Option Bool :=
  (bif (decide (x4 < (a0.fNodes.length : Int))) then (if (0 : Int) ≤ x4 ∧ x4 < (a0.fNodes.length : Int) then (if inR (x3 + (((rd a0.fNodes x4).fAttrs).length : Int)) then (jn (κ := Bool → Option Bool) (fun (x46 : Bool) => (bif x46 then (some false) else (loop1 k (ref04_Few.b1 k a0 x3 x4 rec0) 0))) (fun j310 => (bif (decide ((x3 + (((rd a0.fNodes x4).fAttrs).length : Int)) > 30)) then (j310 true) else (if (0 : Int) ≤ x4 ∧ x4 < (a0.fNodes.length : Int) then (j310 (decide ((((rd a0.fNodes x4).fName).length : Int) > 40))) else none)))) else none) else none) else (loop1 k (ref04_Few.b3 a0) 0))
def ref04_Few (k : Nat) (a0 : Types) : Option Bool :=
  (jn (κ := Bool → Option Bool) (fun (x18 : Bool) => (bif x18 then (some false) else (loop2 k (ref04_Few.b0 k a0) 0 0))) (fun j102 => (bif (decide ((a0.fNodes.length : Int) > 20)) then (j102 true) else (j102 (decide ((a0.fEdges.length : Int) > 30))))))
def ref05_Few (k : Nat) (a0 : Graph) : Option Bool :=
  (jn (κ := Bool → Option Bool) (fun (x2 : Bool) => (some x2)) (fun j102 => (bif (decide ((a0.fNodes.length : Int) ≤ 45)) then (j102 (decide ((a0.fEdges.length : Int) ≤ 90))) else (j102 false))))
def ref21_Few (k : Nat) (a0 : Pattern) : Option Bool :=
  (jn (κ := Bool → Option Bool) (fun (x2 : Bool) => (some x2)) (fun j104 => ((ref05_Few k a0.fGraph).bind fun t105 => (bif t105 then (bif (decide ((a0.fSlots.length : Int) ≤ 15)) then (j104 (decide ((a0.fTests.length : Int) ≤ 15))) else (j104 false)) else (j104 false)))))
def ref05_Copied (k : Nat) (a0 : Graph) : Option Graph :=
  (if a0.fNodes.length ≤ lim then (if a0.fEdges.length ≤ lim then (some a0) else none) else none)
def ref21_Copied (k : Nat) (a0 : Pattern) : Option Pattern :=
  ((ref05_Copied k a0.fGraph).bind fun t111 => (if a0.fSlots.length ≤ lim then (if a0.fTests.length ≤ lim then (some (Pattern.mk t111 a0.fSlots a0.fVars a0.fTests)) else none) else none))
def ref01_text (k : Nat) (a0 : Token) : Option Str :=
  (bif (a0.fKind == 3) then (if (([34] : Str).length : Int) + (a0.fText.length : Int) ≤ 9223372036854775807 then (if ((([34] : Str) ++ a0.fText).length : Int) + (([34] : Str).length : Int) ≤ 9223372036854775807 then (some ((([34] : Str) ++ a0.fText) ++ ([34] : Str))) else none) else none) else (some a0.fText))
def ref01_letter (k : Nat) (a0 : Int) : Option Bool :=
  (jn (κ := Bool → Option Bool) (fun (x2 : Bool) => (some x2)) (fun j105 => (bif (decide (a0 ≥ 97)) then (bif (decide (a0 ≤ 122)) then (j105 true) else (bif (decide (a0 ≥ 65)) then (j105 (decide (a0 ≤ 90))) else (j105 false))) else (bif (decide (a0 ≥ 65)) then (j105 (decide (a0 ≤ 90))) else (j105 false)))))
def ref01_digit (k : Nat) (a0 : Int) : Option Bool :=
  (jn (κ := Bool → Option Bool) (fun (x2 : Bool) => (some x2)) (fun j102 => (bif (decide (a0 ≥ 48)) then (j102 (decide (a0 ≤ 57))) else (j102 false))))
def ref01_run.b0 (k : Nat) (a0 : Str) (a1 : Int) (a2 : Bool) (rec0 : Int → Option Int) (x7 : Int) : Option Int :=
  (jn (κ := Bool → Option Int) (fun (x41 : Bool) => (bif x41 then (if inR (x7 + 1) then (rec0 (x7 + 1)) else none) else (some x7))) (fun j174 => (if inR (a1 + x7) then (bif (decide ((a1 + x7) < (a0.length : Int))) then (if inR (a1 + x7) then (if (0 : Int) ≤ (a1 + x7) ∧ (a1 + x7) < (a0.length : Int) then ((ref01_digit k (bt a0 (a1 + x7))).bind fun t181 => (bif t181 then (j174 true) else (bif (!a2) then (if inR (a1 + x7) then (if (0 : Int) ≤ (a1 + x7) ∧ (a1 + x7) < (a0.length : Int) then ((ref01_letter k (bt a0 (a1 + x7))).bind fun t186 => (bif t186 then (j174 true) else (if inR (a1 + x7) then (if (0 : Int) ≤ (a1 + x7) ∧ (a1 + x7) < (a0.length : Int) then (j174 ((bt a0 (a1 + x7)) == 95)) else none) else none))) else none) else none) else (j174 false)))) else none) else none) else (j174 false)) else none)))
def ref01_run (k : Nat) (a0 : Str) (a1 : Int) (a2 : Bool) : Option Int :=
  (loop1 k (ref01_run.b0 k a0 a1 a2) 0)
def ref01_quoted.b0 (a0 : Str) (a1 : Int) (rec0 : Int → Option Int) (x5 : Int) : Option Int :=
  (if inR (a1 + x5) then (bif (decide ((a1 + x5) < (a0.length : Int))) then (if inR (a1 + x5) then (if (0 : Int) ≤ (a1 + x5) ∧ (a1 + x5) < (a0.length : Int) then (bif ((bt a0 (a1 + x5)) == 34) then (if inR (x5 + 1) then (some (x5 + 1)) else none) else (jn (κ := Bool → Option Int) (fun (x29 : Bool) => (bif x29 then (some 0) else (if inR (x5 + 1) then (rec0 (x5 + 1)) else none))) (fun j132 => (bif (decide ((bt a0 (a1 + x5)) < 32)) then (j132 true) else (j132 (decide ((bt a0 (a1 + x5)) > 126))))))) else none) else none) else (some 0)) else none)
def ref01_quoted (k : Nat) (a0 : Str) (a1 : Int) : Option Int :=
  (loop1 k (ref01_quoted.b0 a0 a1) 1)
def ref01_signs (k : Nat) : Option (List Str) :=
  (some ([([45, 62] : Str), ([60, 61] : Str), ([62, 61] : Str), ([61, 61] : Str), ([33, 61] : Str), ([123] : Str), ([125] : Str), ([40] : Str), ([41] : Str), ([91] : Str), ([93] : Str), ([44] : Str), ([59] : Str), ([58] : Str), ([61] : Str), ([43] : Str), ([45] : Str), ([42] : Str), ([60] : Str), ([62] : Str), ([33] : Str), ([38] : Str), ([124] : Str), ([46] : Str), ([63] : Str)]))
def ref01_one.b0 (a0 : Str) (a1 : Int) (t127 : (List Str)) (rec0 : Int → Option (Token × Int × Int)) (x13 : Int) : Option (Token × Int × Int) :=
  (bif (decide (x13 < (t127.length : Int))) then (jn (κ := Bool → Option (Token × Int × Int)) (fun (x98 : Bool) => (bif x98 then (if (0 : Int) ≤ x13 ∧ x13 < (t127.length : Int) then (if (0 : Int) ≤ x13 ∧ x13 < (t127.length : Int) then (some ((Token.mk 4 (rd t127 x13) 0), ((rd t127 x13).length : Int), 0)) else none) else none) else (if inR (x13 + 1) then (rec0 (x13 + 1)) else none))) (fun j208 => (if (0 : Int) ≤ x13 ∧ x13 < (t127.length : Int) then (if inR (a1 + ((rd t127 x13).length : Int)) then (bif (decide ((a1 + ((rd t127 x13).length : Int)) ≤ (a0.length : Int))) then (if (0 : Int) ≤ x13 ∧ x13 < (t127.length : Int) then (if inR (a1 + ((rd t127 x13).length : Int)) then (if (0 : Int) ≤ a1 ∧ (a1 : Int) ≤ (a1 + ((rd t127 x13).length : Int)) ∧ ((a1 + ((rd t127 x13).length : Int)) : Int) ≤ (a0.length : Int) then (if (0 : Int) ≤ x13 ∧ x13 < (t127.length : Int) then (j208 (((a0.take ((a1 + ((rd t127 x13).length : Int)) : Int).toNat).drop (a1 : Int).toNat) == (rd t127 x13))) else none) else none) else none) else none) else (j208 false)) else none) else none))) else (some ((Token.mk 0 ([] : Str) 0), 0, 2)))
def ref01_one (k : Nat) (a0 : Str) (a1 : Int) : Option (Token × Int × Int) :=
  (if (0 : Int) ≤ a1 ∧ a1 < (a0.length : Int) then (jn (κ := Bool → Option (Token × Int × Int)) (fun (x22 : Bool) => (bif x22 then ((ref01_digit k (bt a0 a1)).bind fun t108 => ((ref01_run k a0 a1 t108).bind fun t109 => ((ref01_digit k (bt a0 a1)).bind fun t110 => (jn (κ := Int → Int → Option (Token × Int × Int)) (fun (x9 : Int) (x10 : Int) => (bif (decide (t109 > x10)) then (some ((Token.mk 0 ([] : Str) 0), 0, 3)) else (if inR (a1 + t109) then (if (0 : Int) ≤ a1 ∧ (a1 : Int) ≤ (a1 + t109) ∧ ((a1 + t109) : Int) ≤ (a0.length : Int) then (some ((Token.mk x9 ((a0.take ((a1 + t109) : Int).toNat).drop (a1 : Int).toNat) 0), t109, 0)) else none) else none))) (fun j113 => (bif t110 then (j113 2 9) else (j113 1 20))))))) else (bif ((bt a0 a1) == 34) then ((ref01_quoted k a0 a1).bind fun t119 => (bif (t119 == 0) then (some ((Token.mk 0 ([] : Str) 0), 0, 2)) else (if inR (t119 - 2) then (bif (decide ((t119 - 2) > 60)) then (some ((Token.mk 0 ([] : Str) 0), 0, 3)) else (if inR (a1 + 1) then (if inR (a1 + t119) then (if inR ((a1 + t119) - 1) then (if (0 : Int) ≤ (a1 + 1) ∧ ((a1 + 1) : Int) ≤ ((a1 + t119) - 1) ∧ (((a1 + t119) - 1) : Int) ≤ (a0.length : Int) then (some ((Token.mk 3 ((a0.take (((a1 + t119) - 1) : Int).toNat).drop ((a1 + 1) : Int).toNat) 0), t119, 0)) else none) else none) else none) else none)) else none))) else ((ref01_signs k).bind fun t127 => (loop1 k (ref01_one.b0 a0 a1 t127) 0))))) (fun j106 => ((ref01_letter k (bt a0 a1)).bind fun t224 => (bif t224 then (j106 true) else ((ref01_digit k (bt a0 a1)).bind fun t226 => (j106 t226)))))) else none)
def ref01_Right (k : Nat) (a0 : Token) : Option Bool :=
  ((ref01_text k a0).bind fun t100 => (bif (t100 == ([] : Str)) then (some false) else ((ref01_one k t100 0).bind fun t102 => (jn (κ := Bool → Option Bool) (fun (x2 : Bool) => (some x2)) (fun j107 => (bif (t102.2.2 == 0) then (bif (t102.2.1 == (t100.length : Int)) then (j107 (t102.1.fKind == a0.fKind)) else (j107 false)) else (j107 false)))))))
def ref01_IsName (k : Nat) (a0 : Str) : Option Bool :=
  ((ref01_Right k (Token.mk 1 a0 0)).bind fun t100 => (some t100))
def ref04_in (k : Nat) (a0 : Int) (a1 : Int) (a2 : Int) : Option Bool :=
  (jn (κ := Bool → Option Bool) (fun (x6 : Bool) => (some x6)) (fun j102 => (bif (decide (a0 ≥ a1)) then (j102 (decide (a0 ≤ a2))) else (j102 false))))
def ref04_attrs.main (self : Types → Int → Option (List Attr)) (k : Nat) (a0 : Types) (a1 : Int) : Option (List Attr) :=
  (bif (decide (a1 < 0)) then (some []) else (if (0 : Int) ≤ a1 ∧ a1 < (a0.fNodes.length : Int) then ((self a0 ((rd a0.fNodes a1).fParent)).bind fun t116 => (if t116.length ≤ lim then (if (0 : Int) ≤ a1 ∧ a1 < (a0.fNodes.length : Int) then (if t116.length + ((rd a0.fNodes a1).fAttrs).length ≤ lim then (some (t116 ++ (rd a0.fNodes a1).fAttrs)) else none) else none) else none)) else none))
def ref04_attrs : Nat → Types → Int → Option (List Attr)
  | 0, _, _ => none
  | k + 1, a0, a1 => ref04_attrs.main (ref04_attrs k) k a0 a1
def ref04_names.b1 (a0 : (List Str)) (x3 : Int) (rec0 : Int → Option Int) (rec1 : Int → Option Int) (x4 : Int) : Option Int :=
  (bif (decide (x4 < x3)) then (if (0 : Int) ≤ x4 ∧ x4 < (a0.length : Int) then (if (0 : Int) ≤ x3 ∧ x3 < (a0.length : Int) then (bif ((rd a0 x4) == (rd a0 x3)) then (some 5) else (if inR (x4 + 1) then (rec1 (x4 + 1)) else none)) else none) else none) else (if inR (x3 + 1) then (rec0 (x3 + 1)) else none))
def ref04_names.b0 (k : Nat) (a0 : (List Str)) (rec0 : Int → Option Int) (x3 : Int) : Option Int :=
  (bif (decide (x3 < (a0.length : Int))) then (if (0 : Int) ≤ x3 ∧ x3 < (a0.length : Int) then ((ref01_IsName k (rd a0 x3)).bind fun t171 => (bif (!t171) then (some 2) else (loop1 k (ref04_names.b1 a0 x3 rec0) 0))) else none) else (some 0))
def ref04_names (k : Nat) (a0 : (List Str)) : Option Int :=
  (bif (decide ((a0.length : Int) > 20)) then (some 3) else (loop1 k (ref04_names.b0 k a0) 0))
def ref04_attribute (k : Nat) (a0 : Attr) : Option Int :=
  (bif ((a0.fNames.length : Int) == 0) then (jn (κ := Bool → Option Int) (fun (x19 : Bool) => (bif x19 then (some 6) else (some 0))) (fun j105 => ((ref04_in k a0.fLow (-1000000) 1000000).bind fun t107 => (bif (!t107) then (j105 true) else ((ref04_in k a0.fHigh a0.fLow 1000000).bind fun t109 => (j105 (!t109))))))) else ((ref04_names k a0.fNames).bind fun t110 => (bif (t110 != 0) then (some t110) else (jn (κ := Bool → Option Int) (fun (x37 : Bool) => (bif x37 then (some 6) else (some 0))) (fun j115 => (bif (a0.fLow != 0) then (j115 true) else (if inR ((a0.fNames.length : Int) - 1) then (j115 (a0.fHigh != ((a0.fNames.length : Int) - 1))) else none)))))))
def ref04_node.b2 (k : Nat) (t403 : (List Attr)) (x8 : Int) (rec1 : Int → Option Int) (rec2 : Int → Option Int) (x9 : Int) : Option Int :=
  (bif (decide (x9 < x8)) then (if (0 : Int) ≤ x9 ∧ x9 < (t403.length : Int) then (if (0 : Int) ≤ x8 ∧ x8 < (t403.length : Int) then (bif ((rd t403 x9).fName == (rd t403 x8).fName) then (some 5) else (if inR (x9 + 1) then (rec2 (x9 + 1)) else none)) else none) else none) else (if (0 : Int) ≤ x8 ∧ x8 < (t403.length : Int) then ((ref04_attribute k (rd t403 x8)).bind fun t535 => (bif (t535 != 0) then (some t535) else (if inR (x8 + 1) then (rec1 (x8 + 1)) else none))) else none))
def ref04_node.b1 (k : Nat) (t403 : (List Attr)) (rec1 : Int → Option Int) (x8 : Int) : Option Int :=
  (bif (decide (x8 < (t403.length : Int))) then (if (0 : Int) ≤ x8 ∧ x8 < (t403.length : Int) then ((ref01_IsName k ((rd t403 x8).fName)).bind fun t497 => (bif (!t497) then (some 2) else (loop1 k (ref04_node.b2 k t403 x8 rec1) 0))) else none) else (some 0))
def ref04_node.b0 (k : Nat) (a0 : Types) (a1 : Int) (rec0 : Int → Option Int) (x6 : Int) : Option Int :=
  (bif (decide (x6 < a1)) then (if (0 : Int) ≤ x6 ∧ x6 < (a0.fNodes.length : Int) then (bif ((rd a0.fNodes x6).fName == (rd a0.fNodes a1).fName) then (some 5) else (if inR (x6 + 1) then (rec0 (x6 + 1)) else none)) else none) else (if inR (a1 - 1) then ((ref04_in k ((rd a0.fNodes a1).fParent) (-1) (a1 - 1)).bind fun t401 => (bif (!t401) then (some 6) else ((ref04_attrs k a0 a1).bind fun t403 => (jn (κ := Bool → Option Int) (fun (x51 : Bool) => (bif x51 then (some 3) else (if inR ((t403.length : Int) - (((rd a0.fNodes a1).fAttrs).length : Int)) then (loop1 k (ref04_node.b1 k t403) ((t403.length : Int) - (((rd a0.fNodes a1).fAttrs).length : Int))) else none))) (fun j406 => (bif (decide ((((rd a0.fNodes a1).fAttrs).length : Int) > 4)) then (j406 true) else (j406 (decide ((t403.length : Int) > 8))))))))) else none))
def ref04_node (k : Nat) (a0 : Types) (a1 : Int) : Option Int :=
  (if (0 : Int) ≤ a1 ∧ a1 < (a0.fNodes.length : Int) then ((ref01_IsName k ((rd a0.fNodes a1).fName)).bind fun t102 => (bif (!t102) then (some 2) else (loop1 k (ref04_node.b0 k a0 a1) 0))) else none)
def ref04_bound (k : Nat) (a0 : Int) (a1 : Int) : Option Bool :=
  (jn (κ := Bool → Option Bool) (fun (x4 : Bool) => (some x4)) (fun j105 => ((ref04_in k a0 0 40).bind fun t106 => (bif t106 then (bif (a1 == (-1)) then (j105 true) else ((ref04_in k a1 a0 40).bind fun t109 => (j105 t109))) else (j105 false)))))
def ref04_edge.b0 (k : Nat) (a0 : Types) (a1 : Int) (rec0 : Int → Option Int) (x6 : Int) : Option Int :=
  (bif (decide (x6 < a1)) then (if (0 : Int) ≤ x6 ∧ x6 < (a0.fEdges.length : Int) then (bif ((rd a0.fEdges x6).fName == (rd a0.fEdges a1).fName) then (some 5) else (if inR (x6 + 1) then (rec0 (x6 + 1)) else none)) else none) else (if inR ((a0.fNodes.length : Int) - 1) then (jn (κ := Bool → Option Int) (fun (x62 : Bool) => (bif x62 then (some 6) else (some 0))) (fun j167 => ((ref04_in k ((rd a0.fEdges a1).fFrom) 0 ((a0.fNodes.length : Int) - 1)).bind fun t169 => (bif (!t169) then (j167 true) else ((ref04_in k ((rd a0.fEdges a1).fTo) 0 ((a0.fNodes.length : Int) - 1)).bind fun t171 => (bif (!t171) then (j167 true) else ((ref04_bound k ((rd a0.fEdges a1).fOutLow) ((rd a0.fEdges a1).fOutHigh)).bind fun t173 => (bif (!t173) then (j167 true) else ((ref04_bound k ((rd a0.fEdges a1).fInLow) ((rd a0.fEdges a1).fInHigh)).bind fun t175 => (j167 (!t175))))))))))) else none))
def ref04_edge (k : Nat) (a0 : Types) (a1 : Int) : Option Int :=
  (if (0 : Int) ≤ a1 ∧ a1 < (a0.fEdges.length : Int) then ((ref01_IsName k ((rd a0.fEdges a1).fName)).bind fun t102 => (bif (!t102) then (some 2) else (loop1 k (ref04_edge.b0 k a0 a1) 0))) else none)
def ref04_Valid.b1 (k : Nat) (a0 : Types) (rec1 : Int → Option (Str × Int)) (x6 : Int) : Option (Str × Int) :=
  (bif (decide (x6 < (a0.fEdges.length : Int))) then ((ref04_edge k a0 x6).bind fun t161 => (bif (t161 != 0) then (if (0 : Int) ≤ x6 ∧ x6 < (a0.fEdges.length : Int) then (some ((rd a0.fEdges x6).fName, t161)) else none) else (if inR (x6 + 1) then (rec1 (x6 + 1)) else none))) else (some (([] : Str), 0)))
def ref04_Valid.b0 (k : Nat) (a0 : Types) (rec0 : Int → Option (Str × Int)) (x4 : Int) : Option (Str × Int) :=
  (bif (decide (x4 < (a0.fNodes.length : Int))) then ((ref04_node k a0 x4).bind fun t146 => (bif (t146 != 0) then (if (0 : Int) ≤ x4 ∧ x4 < (a0.fNodes.length : Int) then (some ((rd a0.fNodes x4).fName, t146)) else none) else (if inR (x4 + 1) then (rec0 (x4 + 1)) else none))) else (loop1 k (ref04_Valid.b1 k a0) 0))
def ref04_Valid (k : Nat) (a0 : Types) : Option (Str × Int) :=
  (bif ((a0.fNodes.length : Int) == 0) then (some (([] : Str), 7)) else (jn (κ := Bool → Option (Str × Int)) (fun (x21 : Bool) => (bif x21 then (some (([] : Str), 3)) else (loop1 k (ref04_Valid.b0 k a0) 0))) (fun j103 => (bif (decide ((a0.fNodes.length : Int) > 12)) then (j103 true) else (j103 (decide ((a0.fEdges.length : Int) > 20)))))))
def ref05_kind (k : Nat) (a0 : Int) : Option Bool :=
  (jn (κ := Bool → Option Bool) (fun (x2 : Bool) => (some x2)) (fun j102 => (bif (decide (a0 ≥ 0)) then (j102 (decide (a0 ≤ 99))) else (j102 false))))
def ref05_right (k : Nat) (a0 : Edge) (a1 : Int) : Option Bool :=
  (jn (κ := Bool → Option Bool) (fun (x4 : Bool) => (some x4)) (fun j106 => ((ref05_kind k a0.fType).bind fun t107 => (bif t107 then (bif (decide (a0.fFrom ≥ 0)) then (bif (decide (a0.fFrom < a1)) then (bif (decide (a0.fTo ≥ 0)) then (j106 (decide (a0.fTo < a1))) else (j106 false)) else (j106 false)) else (j106 false)) else (j106 false)))))
def ref05_Valid.b1 (k : Nat) (a0 : Graph) (rec1 : Int → Option Int) (x4 : Int) : Option Int :=
  (bif (decide (x4 < (a0.fEdges.length : Int))) then (if (0 : Int) ≤ x4 ∧ x4 < (a0.fEdges.length : Int) then ((ref05_right k (rd a0.fEdges x4) (a0.fNodes.length : Int)).bind fun t197 => (bif (!t197) then (some 6) else (if inR (x4 + 1) then (rec1 (x4 + 1)) else none))) else none) else (some 0))
def ref05_Valid.b0 (k : Nat) (a0 : Graph) (rec0 : Int → Option Int) (x3 : Int) : Option Int :=
  (bif (decide (x3 < (a0.fNodes.length : Int))) then (if (0 : Int) ≤ x3 ∧ x3 < (a0.fNodes.length : Int) then ((ref05_kind k (rd a0.fNodes x3)).bind fun t170 => (bif (!t170) then (some 6) else (if inR (x3 + 1) then (rec0 (x3 + 1)) else none))) else none) else (loop1 k (ref05_Valid.b1 k a0) 0))
def ref05_Valid (k : Nat) (a0 : Graph) : Option Int :=
  (jn (κ := Bool → Option Int) (fun (x14 : Bool) => (bif x14 then (some 3) else (loop1 k (ref05_Valid.b0 k a0) 0))) (fun j102 => (bif (decide ((a0.fNodes.length : Int) > 40)) then (j102 true) else (j102 (decide ((a0.fEdges.length : Int) > 80))))))
def ref17_Typed.b1 (a0 : Types) (a1 : Graph) (rec1 : Int → Option Bool) (x6 : Int) : Option Bool :=
  (bif (decide (x6 < (a1.fEdges.length : Int))) then (jn (κ := Bool → Option Bool) (fun (x56 : Bool) => (bif x56 then (some false) else (if inR (x6 + 1) then (rec1 (x6 + 1)) else none))) (fun j262 => (if (0 : Int) ≤ x6 ∧ x6 < (a1.fEdges.length : Int) then (bif (decide ((rd a1.fEdges x6).fType < 0)) then (j262 true) else (if (0 : Int) ≤ x6 ∧ x6 < (a1.fEdges.length : Int) then (j262 (decide ((rd a1.fEdges x6).fType ≥ (a0.fEdges.length : Int)))) else none)) else none))) else (some true))
def ref17_Typed.b0 (k : Nat) (a0 : Types) (a1 : Graph) (rec0 : Int → Option Bool) (x5 : Int) : Option Bool :=
  (bif (decide (x5 < (a1.fNodes.length : Int))) then (jn (κ := Bool → Option Bool) (fun (x30 : Bool) => (bif x30 then (some false) else (if inR (x5 + 1) then (rec0 (x5 + 1)) else none))) (fun j220 => (if (0 : Int) ≤ x5 ∧ x5 < (a1.fNodes.length : Int) then (bif (decide ((rd a1.fNodes x5) < 0)) then (j220 true) else (if (0 : Int) ≤ x5 ∧ x5 < (a1.fNodes.length : Int) then (j220 (decide ((rd a1.fNodes x5) ≥ (a0.fNodes.length : Int)))) else none)) else none))) else (loop1 k (ref17_Typed.b1 a0 a1) 0))
def ref17_Typed (k : Nat) (a0 : Types) (a1 : Graph) : Option Bool :=
  (loop1 k (ref17_Typed.b0 k a0 a1) 0)
def ref04_given (k : Nat) (a0 : Types) (a1 : Int) (a2 : Int) : Option Int :=
  ((ref04_Valid k a0).bind fun t100 => (bif (t100.2 != 0) then (some t100.2) else (jn (κ := Bool → Option Int) (fun (x32 : Bool) => (bif x32 then (some 6) else (some 0))) (fun j108 => (if inR ((a0.fNodes.length : Int) - 1) then ((ref04_in k a1 0 ((a0.fNodes.length : Int) - 1)).bind fun t111 => (bif (!t111) then (j108 true) else (if inR ((a0.fNodes.length : Int) - 1) then ((ref04_in k a2 0 ((a0.fNodes.length : Int) - 1)).bind fun t114 => (j108 (!t114))) else none))) else none)))))
def ref04_Attrs.b0 (t102 : (List Attr)) (rec0 : (List Attr) → Int → Option ((List Attr) × Int)) (x7 : (List Attr)) (x9 : Int) : Option ((List Attr) × Int) :=
  (bif (decide (x9 < (t102.length : Int))) then (if (0 : Int) ≤ x9 ∧ x9 < (t102.length : Int) then (if ((rd t102 x9).fNames).length ≤ lim then (if x7.length + [(rd t102 x9)].length ≤ lim then (if inR (x9 + 1) then (rec0 (x7 ++ [(rd t102 x9)]) (x9 + 1)) else none) else none) else none) else none) else (some (x7, 0)))
def ref04_Attrs (k : Nat) (a0 : Types) (a1 : Int) : Option ((List Attr) × Int) :=
  ((ref04_given k a0 a1 a1).bind fun t100 => (bif (t100 != 0) then (some ([], t100)) else ((ref04_attrs k a0 a1).bind fun t102 => (loop2 k (ref04_Attrs.b0 t102) [] 0))))
def ref21_attr (k : Nat) (a0 : Types) (a1 : Pattern) (a2 : Int) (a3 : Int) : Option (Attr × Bool) :=
  (jn (κ := Bool → Option (Attr × Bool)) (fun (x21 : Bool) => (bif x21 then (some ((Attr.mk ([] : Str) 0 0 []), false)) else (if (0 : Int) ≤ a2 ∧ a2 < (a1.fGraph.fNodes.length : Int) then ((ref04_Attrs k a0 (rd a1.fGraph.fNodes a2)).bind fun t110 => (jn (κ := Bool → Option (Attr × Bool)) (fun (x45 : Bool) => (bif x45 then (some ((Attr.mk ([] : Str) 0 0 []), false)) else (if (0 : Int) ≤ a3 ∧ a3 < (t110.1.length : Int) then (some ((rd t110.1 a3), true)) else none))) (fun j114 => (bif (t110.2 != 0) then (j114 true) else (bif (decide (a3 < 0)) then (j114 true) else (j114 (decide (a3 ≥ (t110.1.length : Int))))))))) else none))) (fun j103 => (bif (decide (a2 < 0)) then (j103 true) else (j103 (decide (a2 ≥ (a1.fGraph.fNodes.length : Int)))))))
def ref21_bounded (k : Nat) (a0 : Int) : Option Bool :=
  (jn (κ := Bool → Option Bool) (fun (x2 : Bool) => (some x2)) (fun j102 => (bif (decide (a0 ≥ (-1000000))) then (j102 (decide (a0 ≤ 1000000))) else (j102 false))))
def ref03_within (k : Nat) (a0 : Int) (a1 : Term) : Option Int :=
  (jn (κ := Bool → Option Int) (fun (x23 : Bool) => (bif x23 then (some 6) else (some 0))) (fun j104 => (bif (decide (a1.fVar < (-1))) then (j104 true) else (bif (decide (a1.fVar ≥ a0)) then (j104 true) else (bif (decide (a1.fAdd < (-1000000))) then (j104 true) else (j104 (decide (a1.fAdd > 1000000))))))))
def ref03_One (k : Nat) (a0 : Int) (a1 : Test) : Option Int :=
  (jn (κ := Bool → Option Int) (fun (x13 : Bool) => (bif x13 then (some 1) else ((ref03_within k a0 a1.fLeft).bind fun t104 => (bif (t104 != 0) then (some t104) else ((ref03_within k a0 a1.fRight).bind fun t106 => (some t106)))))) (fun j102 => (bif (a1.fKind != 1) then (j102 (a1.fKind != 2)) else (j102 false))))
def ref03_Valid.b0 (k : Nat) (a0 : Int) (a1 : (List Test)) (rec0 : Int → Option Int) (x5 : Int) : Option Int :=
  (bif (decide (x5 < (a1.length : Int))) then (if (0 : Int) ≤ x5 ∧ x5 < (a1.length : Int) then ((ref03_One k a0 (rd a1 x5)).bind fun t117 => (bif (t117 != 0) then (some t117) else (if inR (x5 + 1) then (rec0 (x5 + 1)) else none))) else none) else (some 0))
def ref03_Valid (k : Nat) (a0 : Int) (a1 : (List Test)) : Option Int :=
  (jn (κ := Bool → Option Int) (fun (x12 : Bool) => (bif x12 then (some 6) else (bif (decide ((a1.length : Int) > 40)) then (some 3) else (loop1 k (ref03_Valid.b0 k a0 a1) 0)))) (fun j102 => (bif (decide (a0 < 0)) then (j102 true) else (j102 (decide (a0 > 12))))))
def ref21_occurs.b0 (a0 : Pattern) (a1 : Int) (rec0 : Int → Option Bool) (x5 : Int) : Option Bool :=
  (bif (decide (x5 < (a0.fSlots.length : Int))) then (if (0 : Int) ≤ x5 ∧ x5 < (a0.fSlots.length : Int) then (bif ((rd a0.fSlots x5).fTerm.fVar == a1) then (some true) else (if inR (x5 + 1) then (rec0 (x5 + 1)) else none)) else none) else (some false))
def ref21_occurs (k : Nat) (a0 : Pattern) (a1 : Int) : Option Bool :=
  (loop1 k (ref21_occurs.b0 a0 a1) 0)
def ref21_Valid.b1 (k : Nat) (a1 : Pattern) (rec1 : Int → Option Int) (x13 : Int) : Option Int :=
  (bif (decide (x13 < a1.fVars)) then ((ref21_occurs k a1 x13).bind fun t204 => (bif (!t204) then (some 9) else (if inR (x13 + 1) then (rec1 (x13 + 1)) else none))) else (some 0))
def ref21_Valid.b0 (k : Nat) (a0 : Types) (a1 : Pattern) (rec0 : Int → Option Int) (x8 : Int) : Option Int :=
  (bif (decide (x8 < (a1.fSlots.length : Int))) then (if (0 : Int) ≤ x8 ∧ x8 < (a1.fSlots.length : Int) then ((ref21_attr k a0 a1 ((rd a1.fSlots x8).fNode) ((rd a1.fSlots x8).fAttr)).bind fun t179 => (jn (κ := Bool → Option Int) (fun (x95 : Bool) => (bif x95 then (some 6) else (if inR (x8 + 1) then (rec0 (x8 + 1)) else none))) (fun j186 => (bif (!t179.2) then (j186 true) else (bif (decide ((rd a1.fSlots x8).fTerm.fVar < (-1))) then (j186 true) else (bif (decide ((rd a1.fSlots x8).fTerm.fVar ≥ a1.fVars)) then (j186 true) else ((ref21_bounded k ((rd a1.fSlots x8).fTerm.fAdd)).bind fun t192 => (j186 (!t192))))))))) else none) else ((ref03_Valid k a1.fVars a1.fTests).bind fun t193 => (bif (t193 != 0) then (some t193) else (loop1 k (ref21_Valid.b1 k a1) 0))))
def ref21_Valid (k : Nat) (a0 : Types) (a1 : Pattern) : Option Int :=
  ((ref04_Valid k a0).bind fun t100 => (bif (t100.2 != 0) then (some t100.2) else ((ref05_Valid k a1.fGraph).bind fun t102 => (bif (t102 != 0) then (some t102) else ((ref17_Typed k a0 a1.fGraph).bind fun t104 => (bif (!t104) then (some 13) else (jn (κ := Bool → Option Int) (fun (x40 : Bool) => (bif x40 then (some 6) else (jn (κ := Bool → Option Int) (fun (x50 : Bool) => (bif x50 then (some 3) else (loop1 k (ref21_Valid.b0 k a0 a1) 0))) (fun j112 => (bif (decide ((a1.fSlots.length : Int) > 10)) then (j112 true) else (j112 (decide ((a1.fTests.length : Int) > 10)))))))) (fun j108 => (bif (decide (a1.fVars < 0)) then (j108 true) else (j108 (decide (a1.fVars > 12))))))))))))
def ref21_System.b1 (a1 : Pattern) (x5 : (List Test)) (x6 : Int) (rec0 : (List Test) → Int → Option (List Test)) (t413 : (Attr × Bool)) (rec1 : Int → Option (List Test)) (x10 : Int) : Option (List Test) :=
  (bif (decide (x10 ≥ 0)) then (jn (κ := Bool → Option (List Test)) (fun (x77 : Bool) => (bif x77 then (if (0 : Int) ≤ x10 ∧ x10 < (a1.fSlots.length : Int) then (if (x5 ++ [(Test.mk 1 (Term.mk (-1) t413.1.fLow) ((rd a1.fSlots x6).fTerm)), (Test.mk 1 ((rd a1.fSlots x6).fTerm) (Term.mk (-1) t413.1.fHigh))]).length + [(Test.mk 2 ((rd a1.fSlots x10).fTerm) ((rd a1.fSlots x6).fTerm))].length ≤ lim then (if inR (x6 + 1) then (rec0 ((x5 ++ [(Test.mk 1 (Term.mk (-1) t413.1.fLow) ((rd a1.fSlots x6).fTerm)), (Test.mk 1 ((rd a1.fSlots x6).fTerm) (Term.mk (-1) t413.1.fHigh))]) ++ [(Test.mk 2 ((rd a1.fSlots x10).fTerm) ((rd a1.fSlots x6).fTerm))]) (x6 + 1)) else none) else none) else none) else (if inR (x10 - 1) then (rec1 (x10 - 1)) else none))) (fun j545 => (if (0 : Int) ≤ x10 ∧ x10 < (a1.fSlots.length : Int) then (bif ((rd a1.fSlots x10).fNode == (rd a1.fSlots x6).fNode) then (if (0 : Int) ≤ x10 ∧ x10 < (a1.fSlots.length : Int) then (j545 ((rd a1.fSlots x10).fAttr == (rd a1.fSlots x6).fAttr)) else none) else (j545 false)) else none))) else (if inR (x6 + 1) then (rec0 (x5 ++ [(Test.mk 1 (Term.mk (-1) t413.1.fLow) ((rd a1.fSlots x6).fTerm)), (Test.mk 1 ((rd a1.fSlots x6).fTerm) (Term.mk (-1) t413.1.fHigh))]) (x6 + 1)) else none))
def ref21_System.b0 (k : Nat) (a0 : Types) (a1 : Pattern) (rec0 : (List Test) → Int → Option (List Test)) (x5 : (List Test)) (x6 : Int) : Option (List Test) :=
  (bif (decide (x6 < (a1.fSlots.length : Int))) then (if (0 : Int) ≤ x6 ∧ x6 < (a1.fSlots.length : Int) then ((ref21_attr k a0 a1 ((rd a1.fSlots x6).fNode) ((rd a1.fSlots x6).fAttr)).bind fun t413 => (if x5.length + [(Test.mk 1 (Term.mk (-1) t413.1.fLow) ((rd a1.fSlots x6).fTerm)), (Test.mk 1 ((rd a1.fSlots x6).fTerm) (Term.mk (-1) t413.1.fHigh))].length ≤ lim then (if inR (x6 - 1) then (loop1 k (ref21_System.b1 a1 x5 x6 rec0 t413) (x6 - 1)) else none) else none)) else none) else (some x5))
def ref21_System (k : Nat) (a0 : Types) (a1 : Pattern) : Option (List Test) :=
  (if a1.fTests.length ≤ lim then (loop2 k (ref21_System.b0 k a0 a1) a1.fTests 0) else none)
def ref03_arcs.b0 (a0 : (List Test)) (rec0 : (List Arc3) → Int → Option (List Arc3)) (x3 : (List Arc3)) (x4 : Int) : Option (List Arc3) :=
  (bif (decide (x4 < (a0.length : Int))) then (if (0 : Int) ≤ x4 ∧ x4 < (a0.length : Int) then (if inR ((rd a0 x4).fLeft.fVar + 1) then (if (0 : Int) ≤ x4 ∧ x4 < (a0.length : Int) then (if inR ((rd a0 x4).fRight.fVar + 1) then (if (0 : Int) ≤ x4 ∧ x4 < (a0.length : Int) then (if (0 : Int) ≤ x4 ∧ x4 < (a0.length : Int) then (if inR ((rd a0 x4).fRight.fAdd - (rd a0 x4).fLeft.fAdd) then (if x3.length + [(Arc3.mk (Use.mk x4 1) ((rd a0 x4).fLeft.fVar + 1) ((rd a0 x4).fRight.fVar + 1) ((rd a0 x4).fRight.fAdd - (rd a0 x4).fLeft.fAdd))].length ≤ lim then (if (0 : Int) ≤ x4 ∧ x4 < (a0.length : Int) then (bif ((rd a0 x4).fKind == 2) then (if inR (0 - ((rd a0 x4).fRight.fAdd - (rd a0 x4).fLeft.fAdd)) then (if (x3 ++ [(Arc3.mk (Use.mk x4 1) ((rd a0 x4).fLeft.fVar + 1) ((rd a0 x4).fRight.fVar + 1) ((rd a0 x4).fRight.fAdd - (rd a0 x4).fLeft.fAdd))]).length + [(Arc3.mk (Use.mk x4 (-1)) ((rd a0 x4).fRight.fVar + 1) ((rd a0 x4).fLeft.fVar + 1) (0 - ((rd a0 x4).fRight.fAdd - (rd a0 x4).fLeft.fAdd)))].length ≤ lim then (if inR (x4 + 1) then (rec0 ((x3 ++ [(Arc3.mk (Use.mk x4 1) ((rd a0 x4).fLeft.fVar + 1) ((rd a0 x4).fRight.fVar + 1) ((rd a0 x4).fRight.fAdd - (rd a0 x4).fLeft.fAdd))]) ++ [(Arc3.mk (Use.mk x4 (-1)) ((rd a0 x4).fRight.fVar + 1) ((rd a0 x4).fLeft.fVar + 1) (0 - ((rd a0 x4).fRight.fAdd - (rd a0 x4).fLeft.fAdd)))]) (x4 + 1)) else none) else none) else none) else (if inR (x4 + 1) then (rec0 (x3 ++ [(Arc3.mk (Use.mk x4 1) ((rd a0 x4).fLeft.fVar + 1) ((rd a0 x4).fRight.fVar + 1) ((rd a0 x4).fRight.fAdd - (rd a0 x4).fLeft.fAdd))]) (x4 + 1)) else none)) else none) else none) else none) else none) else none) else none) else none) else none) else none) else (some x3))
def ref03_arcs (k : Nat) (a0 : (List Test)) : Option (List Arc3) :=
  (loop2 k (ref03_arcs.b0 a0) [] 0)
def ref03_square.b1 (a0 : Int) (a1 : Int) (a2 : Int) (x7 : (List (List Int))) (x8 : Int) (rec0 : (List (List Int)) → Int → Option (List (List Int))) (rec1 : (List Int) → Int → Option (List (List Int))) (x9 : (List Int)) (x10 : Int) : Option (List (List Int)) :=
  (bif (decide (x10 ≤ a0)) then (bif (x8 == x10) then (if x9.length + [a2].length ≤ lim then (if inR (x10 + 1) then (rec1 (x9 ++ [a2]) (x10 + 1)) else none) else none) else (if x9.length + [a1].length ≤ lim then (if inR (x10 + 1) then (rec1 (x9 ++ [a1]) (x10 + 1)) else none) else none)) else (if x7.length + 1 ≤ lim then (if inR (x8 + 1) then (rec0 (x7 ++ [x9]) (x8 + 1)) else none) else none))
def ref03_square.b0 (k : Nat) (a0 : Int) (a1 : Int) (a2 : Int) (rec0 : (List (List Int)) → Int → Option (List (List Int))) (x7 : (List (List Int))) (x8 : Int) : Option (List (List Int)) :=
  (bif (decide (x8 ≤ a0)) then (loop2 k (ref03_square.b1 a0 a1 a2 x7 x8 rec0) [] 0) else (some x7))
def ref03_square (k : Nat) (a0 : Int) (a1 : Int) (a2 : Int) : Option (List (List Int)) :=
  (loop2 k (ref03_square.b0 k a0 a1 a2) ([] : List (List Int)) 0)
def ref03_further.b1 (a0 : Int) (a1 : (List Arc3)) (a2 : (List (List Int))) (x8 : Int) (rec0 : (List (List Int)) → Int → Option (List (List Int))) (rec1 : (List (List Int)) → Int → Option (List (List Int))) (x7' : (List (List Int))) (x10 : Int) : Option (List (List Int)) :=
  (bif (decide (x10 ≤ a0)) then (if (0 : Int) ≤ (rd a1 x8).fto ∧ (rd a1 x8).fto < (a2.length : Int) then (if (0 : Int) ≤ x10 ∧ x10 < ((rd a2 ((rd a1 x8).fto)).length : Int) then (bif (decide ((rd (rd a2 ((rd a1 x8).fto)) x10) < 1125899906842624)) then (if (0 : Int) ≤ (rd a1 x8).ffrom ∧ (rd a1 x8).ffrom < (x7'.length : Int) then (if (0 : Int) ≤ (rd a1 x8).ffrom ∧ (rd a1 x8).ffrom < (x7'.length : Int) then (if (0 : Int) ≤ x10 ∧ x10 < ((rd x7' ((rd a1 x8).ffrom)).length : Int) then (if (0 : Int) ≤ (rd a1 x8).fto ∧ (rd a1 x8).fto < (a2.length : Int) then (if (0 : Int) ≤ x10 ∧ x10 < ((rd a2 ((rd a1 x8).fto)).length : Int) then (if inR ((rd a1 x8).fc + (rd (rd a2 ((rd a1 x8).fto)) x10)) then (if (0 : Int) ≤ x10 ∧ x10 < ((rd x7' ((rd a1 x8).ffrom)).length : Int) then (if inR (x10 + 1) then (rec1 (x7'.set ((rd a1 x8).ffrom : Int).toNat ((rd x7' ((rd a1 x8).ffrom)).set (x10 : Int).toNat (minI (rd (rd x7' ((rd a1 x8).ffrom)) x10) ((rd a1 x8).fc + (rd (rd a2 ((rd a1 x8).fto)) x10))))) (x10 + 1)) else none) else none) else none) else none) else none) else none) else none) else none) else (if inR (x10 + 1) then (rec1 x7' (x10 + 1)) else none)) else none) else none) else (if inR (x8 + 1) then (rec0 x7' (x8 + 1)) else none))
def ref03_further.b0 (k : Nat) (a0 : Int) (a1 : (List Arc3)) (a2 : (List (List Int))) (rec0 : (List (List Int)) → Int → Option (List (List Int))) (x7 : (List (List Int))) (x8 : Int) : Option (List (List Int)) :=
  (bif (decide (x8 < (a1.length : Int))) then (if (0 : Int) ≤ x8 ∧ x8 < (a1.length : Int) then (loop2 k (ref03_further.b1 a0 a1 a2 x8 rec0) x7 0) else none) else (some x7))
def ref03_further (k : Nat) (a0 : Int) (a1 : (List Arc3)) (a2 : (List (List Int))) : Option (List (List Int)) :=
  ((ref03_square k a0 1125899906842624 1125899906842624).bind fun t100 => (loop2 k (ref03_further.b0 k a0 a1 a2) t100 0))
def ref03_distances.b2 (a0 : Int) (t529 : (List (List Int))) (x10 : Int) (rec1 : (List (List Int)) → Int → Option ((List (List Int)) × Bool)) (rec2 : (List (List Int)) → Int → Option ((List (List Int)) × Bool)) (x7'' : (List (List Int))) (x11 : Int) : Option ((List (List Int)) × Bool) :=
  (bif (decide (x11 ≤ a0)) then (if (0 : Int) ≤ x10 ∧ x10 < (x7''.length : Int) then (if (0 : Int) ≤ x10 ∧ x10 < (x7''.length : Int) then (if (0 : Int) ≤ x11 ∧ x11 < ((rd x7'' x10).length : Int) then (if (0 : Int) ≤ x10 ∧ x10 < (t529.length : Int) then (if (0 : Int) ≤ x11 ∧ x11 < ((rd t529 x10).length : Int) then (if (0 : Int) ≤ x11 ∧ x11 < ((rd x7'' x10).length : Int) then (if inR (x11 + 1) then (rec2 (x7''.set (x10 : Int).toNat ((rd x7'' x10).set (x11 : Int).toNat (minI (rd (rd x7'' x10) x11) (rd (rd t529 x10) x11)))) (x11 + 1)) else none) else none) else none) else none) else none) else none) else none) else (if inR (x10 + 1) then (rec1 x7'' (x10 + 1)) else none))
def ref03_distances.b1 (k : Nat) (a0 : Int) (x9 : Int) (rec0 : (List (List Int)) → (List (List Int)) → Int → Option ((List (List Int)) × Bool)) (t529 : (List (List Int))) (rec1 : (List (List Int)) → Int → Option ((List (List Int)) × Bool)) (x7' : (List (List Int))) (x10 : Int) : Option ((List (List Int)) × Bool) :=
  (bif (decide (x10 ≤ a0)) then (loop2 k (ref03_distances.b2 a0 t529 x10 rec1) x7' 0) else (if inR (x9 + 1) then (rec0 x7' t529 (x9 + 1)) else none))
def ref03_distances.b3 (a0 : Int) (x7 : (List (List Int))) (rec3 : Int → Option ((List (List Int)) × Bool)) (x12 : Int) : Option ((List (List Int)) × Bool) :=
  (bif (decide (x12 ≤ a0)) then (if (0 : Int) ≤ x12 ∧ x12 < (x7.length : Int) then (if (0 : Int) ≤ x12 ∧ x12 < ((rd x7 x12).length : Int) then (bif (decide ((rd (rd x7 x12) x12) < 0)) then (some ([], false)) else (if inR (x12 + 1) then (rec3 (x12 + 1)) else none)) else none) else none) else (some (x7, true)))
def ref03_distances.b0 (k : Nat) (a0 : Int) (t100 : (List Arc3)) (rec0 : (List (List Int)) → (List (List Int)) → Int → Option ((List (List Int)) × Bool)) (x7 : (List (List Int))) (x8 : (List (List Int))) (x9 : Int) : Option ((List (List Int)) × Bool) :=
  (if inR (a0 + 1) then (bif (decide (x9 ≤ (a0 + 1))) then ((ref03_further k a0 t100 x8).bind fun t529 => (loop2 k (ref03_distances.b1 k a0 x9 rec0 t529) x7 0)) else (loop1 k (ref03_distances.b3 a0 x7) 0)) else none)
def ref03_distances (k : Nat) (a0 : Int) (a1 : (List Test)) : Option ((List (List Int)) × Bool) :=
  ((ref03_arcs k a1).bind fun t100 => ((ref03_square k a0 1125899906842624 0).bind fun t101 => ((ref03_square k a0 1125899906842624 0).bind fun t104 => (loop3 k (ref03_distances.b0 k a0 t100) t101 t104 0))))
def ref03_Refute.b1 (a0 : Int) (x10 : (List (List (List Int)))) (rec0 : (List (List (List Int))) → Bool → Option ((List Use) × Int)) (t1995 : (List (List Int))) (rec1 : Bool → Int → Option ((List Use) × Int)) (x11' : Bool) (x13 : Int) : Option ((List Use) × Int) :=
  (bif (decide (x13 ≤ a0)) then (jn (κ := Bool → Option ((List Use) × Int)) (fun (x11'' : Bool) => (if inR (x13 + 1) then (rec1 x11'' (x13 + 1)) else none)) (fun j2023 => (bif x11' then (j2023 true) else (if (0 : Int) ≤ x13 ∧ x13 < (t1995.length : Int) then (if (0 : Int) ≤ x13 ∧ x13 < ((rd t1995 x13).length : Int) then (j2023 (decide ((rd (rd t1995 x13) x13) < 0))) else none) else none)))) else (rec0 (x10 ++ [t1995]) x11'))
def ref03_Refute.b3 (t104 : (List Arc3)) (x10 : (List (List (List Int)))) (x14 : (List Use)) (x15 : Int) (x16 : Int) (x17 : Int) (x18 : Int) (j3543 : (List Use) → Int → Int → Int → Option ((List Use) × Int)) (rec3 : Int → Option ((List Use) × Int)) (x19 : Int) : Option ((List Use) × Int) :=
  (bif (decide (x19 < (t104.length : Int))) then (jn (κ := Bool → Option ((List Use) × Int)) (fun (x94 : Bool) => (bif x94 then (if inR (x19 + 1) then (rec3 (x19 + 1)) else none) else (jn (κ := Int → Option ((List Use) × Int)) (fun (x20 : Int) => (if (0 : Int) ≤ x18 ∧ x18 < (x10.length : Int) then (if (0 : Int) ≤ x19 ∧ x19 < (t104.length : Int) then (if (0 : Int) ≤ (rd t104 x19).fto ∧ (rd t104 x19).fto < ((rd x10 x18).length : Int) then (if (0 : Int) ≤ x20 ∧ x20 < ((rd (rd x10 x18) ((rd t104 x19).fto)).length : Int) then (jn (κ := Bool → Option ((List Use) × Int)) (fun (x130 : Bool) => (bif x130 then (if (0 : Int) ≤ x19 ∧ x19 < (t104.length : Int) then (if x14.length + [(rd t104 x19).fuse].length ≤ lim then (if (0 : Int) ≤ x19 ∧ x19 < (t104.length : Int) then (if (0 : Int) ≤ x19 ∧ x19 < (t104.length : Int) then (if inR (x17 + (rd t104 x19).fc) then (j3543 (x14 ++ [(rd t104 x19).fuse]) x20 ((rd t104 x19).fto) (x17 + (rd t104 x19).fc)) else none) else none) else none) else none) else none) else (if inR (x19 + 1) then (rec3 (x19 + 1)) else none))) (fun j3819 => (bif (decide ((rd (rd (rd x10 x18) ((rd t104 x19).fto)) x20) < 1125899906842624)) then (if (0 : Int) ≤ x19 ∧ x19 < (t104.length : Int) then (if inR (x17 + (rd t104 x19).fc) then (if inR ((x17 + (rd t104 x19).fc) + (rd (rd (rd x10 x18) ((rd t104 x19).fto)) x20)) then (j3819 (decide (((x17 + (rd t104 x19).fc) + (rd (rd (rd x10 x18) ((rd t104 x19).fto)) x20)) < 0))) else none) else none) else none) else (j3819 false)))) else none) else none) else none) else none)) (fun j3801 => (bif (decide (x15 < 0)) then (if (0 : Int) ≤ x19 ∧ x19 < (t104.length : Int) then (j3801 ((rd t104 x19).ffrom)) else none) else (j3801 x15)))))) (fun j3795 => (bif (decide (x15 ≥ 0)) then (if (0 : Int) ≤ x19 ∧ x19 < (t104.length : Int) then (j3795 ((rd t104 x19).ffrom != x16)) else none) else (j3795 false)))) else (j3543 x14 x15 x16 x17))
def ref03_Refute.b2 (k : Nat) (t104 : (List Arc3)) (x10 : (List (List (List Int)))) (rec2 : (List Use) → Int → Int → Int → Int → Option ((List Use) × Int)) (x14 : (List Use)) (x15 : Int) (x16 : Int) (x17 : Int) (x18 : Int) : Option ((List Use) × Int) :=
  (bif (decide (x18 ≥ 0)) then (jn (κ := (List Use) → Int → Int → Int → Option ((List Use) × Int)) (fun (x14' : (List Use)) (x15' : Int) (x16' : Int) (x17' : Int) => (if inR (x18 - 1) then (rec2 x14' x15' x16' x17' (x18 - 1)) else none)) (fun j3543 => (loop1 k (ref03_Refute.b3 t104 x10 x14 x15 x16 x17 x18 j3543) 0))) else (some (x14, 0)))
def ref03_Refute.b0 (k : Nat) (a0 : Int) (t104 : (List Arc3)) (rec0 : (List (List (List Int))) → Bool → Option ((List Use) × Int)) (x10 : (List (List (List Int)))) (x11 : Bool) : Option ((List Use) × Int) :=
  (bif (!x11) then (if inR ((x10.length : Int) - 1) then (if (0 : Int) ≤ ((x10.length : Int) - 1) ∧ ((x10.length : Int) - 1) < (x10.length : Int) then ((ref03_further k a0 t104 (rd x10 ((x10.length : Int) - 1))).bind fun t1995 => (if x10.length + [t1995].length ≤ lim then (loop2 k (ref03_Refute.b1 a0 x10 rec0 t1995) x11 0) else none)) else none) else none) else (if inR ((x10.length : Int) - 2) then (loop5 k (ref03_Refute.b2 k t104 x10) [] (-1) (-1) 0 ((x10.length : Int) - 2)) else none))
def ref03_Refute (k : Nat) (a0 : Int) (a1 : (List Test)) : Option ((List Use) × Int) :=
  ((ref03_Valid k a0 a1).bind fun t100 => (bif (t100 != 0) then (some ([], t100)) else ((ref03_distances k a0 a1).bind fun t102 => (bif t102.2 then (some ([], 10)) else ((ref03_arcs k a1).bind fun t104 => ((ref03_square k a0 1125899906842624 0).bind fun t105 => (loop2 k (ref03_Refute.b0 k a0 t104) [t105] false)))))))
def ref21_Contradiction (k : Nat) (a0 : Types) (a1 : Pattern) : Option ((List Use) × Int) :=
  ((ref21_Valid k a0 a1).bind fun t100 => (bif (t100 != 0) then (some ([], t100)) else ((ref21_System k a0 a1).bind fun t106 => ((ref03_Refute k a1.fVars t106).bind fun t107 => (some (t107.1, t107.2))))))
def slices_Equal_Use.b0 (a0 : (List Use)) (a1 : (List Use)) (rec0 : Int → Option Bool) (x13 : Int) : Option Bool :=
  (bif (decide (x13 < (a0.length : Int))) then (if (0 : Int) ≤ x13 ∧ x13 < (a0.length : Int) then (if (0 : Int) ≤ x13 ∧ x13 < (a1.length : Int) then (bif (!([(rd a0 x13).fTest, (rd a0 x13).fSign] == [(rd a1 x13).fTest, (rd a1 x13).fSign])) then (some false) else (if inR (x13 + 1) then (rec0 (x13 + 1)) else none)) else none) else none) else (some true))
def slices_Equal_Use (k : Nat) (a0 : (List Use)) (a1 : (List Use)) : Option Bool :=
  (bif ((a0.length : Int) != (a1.length : Int)) then (some false) else (loop1 k (slices_Equal_Use.b0 a0 a1) 0))
def law21_AttributeValid (k : Nat) (a0 : Types) (a1 : Pattern) : Option Bool :=
  (jn (κ := Bool → Option Bool) (fun (x20 : Bool) => (bif x20 then ((law21_awake k).bind fun t108 => (some t108)) else ((ref21_Copied k a1).bind fun t113 => ((attribute_Contradiction k a0 t113).bind fun t114 => ((ref21_Contradiction k a0 a1).bind fun t115 => (jn (κ := Bool → Option Bool) (fun (x4 : Bool) => (some x4)) (fun j129 => ((ref21_Copied k a1).bind fun t130 => ((attribute_Valid k a0 t130).bind fun t131 => ((ref21_Valid k a0 a1).bind fun t132 => (bif (t131 == t132) then (bif (t114.2 == t115.2) then ((slices_Equal_Use k t114.1 t115.1).bind fun t135 => (j129 t135)) else (j129 false)) else (j129 false)))))))))))) (fun j106 => ((law21_awake k).bind fun t136 => (bif (!t136) then (j106 true) else ((ref04_Few k a0).bind fun t138 => (bif (!t138) then (j106 true) else ((ref21_Few k a1).bind fun t140 => (j106 (!t140)))))))))
end Go.Proofs.YtcgdfjpeboiioaaGreat
