/- The pure functions: what the Go functions compute. 'none': not told, or a panic. (Printed by gen.py.) -/
import Derived.Test.YtcgdfjpeboiioaaGreatAF
namespace Go.Proofs.YtcgdfjpeboiioaaGreat
open Go Go.Abs
structure Attr where
  fName : Str
  fLow : Int
  fHigh : Int
  fNames : (List Str)
  deriving Inhabited, DecidableEq
def kAttr : Kd Attr := ⟨4, fun x => [EqA (strV x.fName), EqA (.int .i64 x.fLow), EqA (.int .i64 x.fHigh), SlcA kStr x.fNames], fun _ => rfl, fun _ => rfl⟩
structure NodeType where
  fName : Str
  fParent : Int
  fAbstract : Bool
  fAttrs : (List Attr)
  deriving Inhabited, DecidableEq
def kNodeType : Kd NodeType := ⟨4, fun x => [EqA (strV x.fName), EqA (.int .i64 x.fParent), EqA (.bool x.fAbstract), SlcA kAttr x.fAttrs], fun _ => rfl, fun _ => rfl⟩
structure EdgeType where
  fName : Str
  fFrom : Int
  fTo : Int
  fOutLow : Int
  fOutHigh : Int
  fInLow : Int
  fInHigh : Int
  deriving Inhabited, DecidableEq
def kEdgeType : Kd EdgeType := ⟨7, fun x => [EqA (strV x.fName), EqA (.int .i64 x.fFrom), EqA (.int .i64 x.fTo), EqA (.int .i64 x.fOutLow), EqA (.int .i64 x.fOutHigh), EqA (.int .i64 x.fInLow), EqA (.int .i64 x.fInHigh)], fun _ => rfl, fun _ => rfl⟩
structure Types where
  fNodes : (List NodeType)
  fEdges : (List EdgeType)
  deriving Inhabited, DecidableEq
def kTypes : Kd Types := ⟨2, fun x => [SlcA kNodeType x.fNodes, SlcA kEdgeType x.fEdges], fun _ => rfl, fun _ => rfl⟩
structure Edge where
  fType : Int
  fFrom : Int
  fTo : Int
  deriving Inhabited, DecidableEq
def kEdge : Kd Edge := ⟨3, fun x => [EqA (.int .i64 x.fType), EqA (.int .i64 x.fFrom), EqA (.int .i64 x.fTo)], fun _ => rfl, fun _ => rfl⟩
structure Graph where
  fNodes : (List Int)
  fEdges : (List Edge)
  deriving Inhabited, DecidableEq
def kGraph : Kd Graph := ⟨2, fun x => [SlcA kInt x.fNodes, SlcA kEdge x.fEdges], fun _ => rfl, fun _ => rfl⟩
structure Term where
  fVar : Int
  fAdd : Int
  deriving Inhabited, DecidableEq
def kTerm : Kd Term := ⟨2, fun x => [EqA (.int .i64 x.fVar), EqA (.int .i64 x.fAdd)], fun _ => rfl, fun _ => rfl⟩
structure Slot where
  fNode : Int
  fAttr : Int
  fTerm : Term
  deriving Inhabited, DecidableEq
def kSlot : Kd Slot := ⟨4, fun x => [EqA (.int .i64 x.fNode), EqA (.int .i64 x.fAttr), EqA (.int .i64 x.fTerm.fVar), EqA (.int .i64 x.fTerm.fAdd)], fun _ => rfl, fun _ => rfl⟩
structure Test where
  fKind : Int
  fLeft : Term
  fRight : Term
  deriving Inhabited, DecidableEq
def kTest : Kd Test := ⟨5, fun x => [EqA (.int .i64 x.fKind), EqA (.int .i64 x.fLeft.fVar), EqA (.int .i64 x.fLeft.fAdd), EqA (.int .i64 x.fRight.fVar), EqA (.int .i64 x.fRight.fAdd)], fun _ => rfl, fun _ => rfl⟩
structure Pattern where
  fGraph : Graph
  fSlots : (List Slot)
  fVars : Int
  fTests : (List Test)
  deriving Inhabited, DecidableEq
def kPattern : Kd Pattern := ⟨5, fun x => [SlcA kInt x.fGraph.fNodes, SlcA kEdge x.fGraph.fEdges, SlcA kSlot x.fSlots, EqA (.int .i64 x.fVars), SlcA kTest x.fTests], fun _ => rfl, fun _ => rfl⟩
structure Host where
  fGraph : Graph
  fValues : (List (List Int))
  deriving Inhabited, DecidableEq
def kHost : Kd Host := ⟨3, fun x => [SlcA kInt x.fGraph.fNodes, SlcA kEdge x.fGraph.fEdges, SlcA (kSl kInt) x.fValues], fun _ => rfl, fun _ => rfl⟩
structure Token where
  fKind : Int
  fText : Str
  fLine : Int
  deriving Inhabited, DecidableEq
def kToken : Kd Token := ⟨3, fun x => [EqA (.int .i64 x.fKind), EqA (strV x.fText), EqA (.int .i64 x.fLine)], fun _ => rfl, fun _ => rfl⟩
structure OMorphism where
  fNodes : (Option (List Int))
  fEdges : (Option (List Int))
  deriving Inhabited, DecidableEq
def kOMorphism : Kd OMorphism := ⟨2, fun x => [OptA kInt x.fNodes, OptA kInt x.fEdges], fun _ => rfl, fun _ => rfl⟩
structure Morphism where
  fNodes : (List Int)
  fEdges : (List Int)
  deriving Inhabited, DecidableEq
def kMorphism : Kd Morphism := ⟨2, fun x => [SlcA kInt x.fNodes, SlcA kInt x.fEdges], fun _ => rfl, fun _ => rfl⟩
structure Finder where
  fp : Graph
  fg : Graph
  fis : (List (List Bool))
  fpartial : OMorphism
  finjective : Bool
  fmost : Int
  fnodes : (List Int)
  fedges : (List Int)
  fout : (List Morphism)
  deriving Inhabited, DecidableEq
def kFinder : Kd Finder := ⟨12, fun x => [SlcA kInt x.fp.fNodes, SlcA kEdge x.fp.fEdges, SlcA kInt x.fg.fNodes, SlcA kEdge x.fg.fEdges, SlcA (kSl kBool) x.fis, OptA kInt x.fpartial.fNodes, OptA kInt x.fpartial.fEdges, EqA (.bool x.finjective), EqA (.int .i64 x.fmost), SlcA kInt x.fnodes, SlcA kInt x.fedges, SlcA kMorphism x.fout], fun _ => rfl, fun _ => rfl⟩
structure Match where
  fMorphism : Morphism
  fVars : (List Int)
  deriving Inhabited, DecidableEq
def kMatch : Kd Match := ⟨3, fun x => [SlcA kInt x.fMorphism.fNodes, SlcA kInt x.fMorphism.fEdges, SlcA kInt x.fVars], fun _ => rfl, fun _ => rfl⟩
structure Use where
  fTest : Int
  fSign : Int
  deriving Inhabited, DecidableEq
def kUse : Kd Use := ⟨2, fun x => [EqA (.int .i64 x.fTest), EqA (.int .i64 x.fSign)], fun _ => rfl, fun _ => rfl⟩
structure Arc where
  fuse : Use
  ffrom : Int
  fto : Int
  fmost : Int
  deriving Inhabited, DecidableEq
def kArc : Kd Arc := ⟨5, fun x => [EqA (.int .i64 x.fuse.fTest), EqA (.int .i64 x.fuse.fSign), EqA (.int .i64 x.ffrom), EqA (.int .i64 x.fto), EqA (.int .i64 x.fmost)], fun _ => rfl, fun _ => rfl⟩

def ref04_Example (k : Nat) : Option Types :=
  (some (Types.mk ([(NodeType.mk ([65, 99, 99, 111, 117, 110, 116] : Str) (-1) true ([(Attr.mk ([98, 97, 108, 97, 110, 99, 101] : Str) (-1000) 1000 [])])), (NodeType.mk ([67, 97, 115, 104] : Str) 0 false []), (NodeType.mk ([76, 111, 97, 110] : Str) 0 false ([(Attr.mk ([115, 116, 97, 116, 101] : Str) 0 1 ([([111, 112, 101, 110] : Str), ([99, 108, 111, 115, 101, 100] : Str)]))])), (NodeType.mk ([80, 101, 114, 115, 111, 110] : Str) (-1) false [])]) ([(EdgeType.mk ([111, 119, 110, 115] : Str) 3 0 0 (-1) 1 1), (EdgeType.mk ([112, 97, 121, 115] : Str) 1 1 0 (-1) 0 (-1))])))
def law21_two (k : Nat) (a0 : Test) : Option Pattern :=
  (some (Pattern.mk (Graph.mk [0, 0] []) [(Slot.mk 0 0 (Term.mk 0 0)), (Slot.mk 1 0 (Term.mk 1 0))] 2 [a0]))
def law21_bank (k : Nat) : Option Host :=
  (some (Host.mk (Graph.mk [3, 1, 1] [(Edge.mk 0 0 1), (Edge.mk 0 0 2)]) ([[], [10], [5]])))
def token_letter (k : Nat) (a0 : Int) : Option Bool :=
  (jn (κ := Bool → Option Bool) (fun (x2 : Bool) => (some x2)) (fun j9 => (bif (decide (a0 ≥ 97)) then (bif (decide (a0 ≤ 122)) then (j9 true) else (bif (decide (a0 ≥ 65)) then (j9 (decide (a0 ≤ 90))) else (j9 false))) else (bif (decide (a0 ≥ 65)) then (j9 (decide (a0 ≤ 90))) else (j9 false)))))
def token_run.b0 (a0 : Str) (a1 : (Int → Option Bool)) (rec0 : Int → Option Int) (x5 : Int) : Option Int :=
  (jn (κ := Bool → Option Int) (fun (x16 : Bool) => (bif x16 then (if inR (x5 + 1) then (rec0 (x5 + 1)) else none) else (some x5))) (fun j38 => (bif (decide (x5 < (a0.length : Int))) then (if (0 : Int) ≤ x5 ∧ x5 < (a0.length : Int) then ((a1 (bt a0 x5)).bind fun t43 => (j38 t43)) else none) else (j38 false))))
def token_run (k : Nat) (a0 : Str) (a1 : (Int → Option Bool)) : Option Int :=
  (loop1 k (token_run.b0 a0 a1) 0)
def token_digit (k : Nat) (a0 : Int) : Option Bool :=
  (jn (κ := Bool → Option Bool) (fun (x2 : Bool) => (some x2)) (fun j46 => (bif (decide (a0 ≥ 48)) then (j46 (decide (a0 ≤ 57))) else (j46 false))))
def token_part (k : Nat) (a0 : Int) : Option Bool :=
  (jn (κ := Bool → Option Bool) (fun (x2 : Bool) => (some x2)) (fun j53 => ((token_letter k a0).bind fun t54 => (bif t54 then (j53 true) else ((token_digit k a0).bind fun t56 => (bif t56 then (j53 true) else (j53 (a0 == 95))))))))
def token_quoted_1 (k : Nat) (a0 : Int) : Option Bool :=
  (jn (κ := Bool → Option Bool) (fun (x2 : Bool) => (some x2)) (fun j61 => (bif (decide (a0 ≥ 32)) then (bif (decide (a0 ≤ 126)) then (j61 (a0 != 34)) else (j61 false)) else (j61 false))))
def token_quoted (k : Nat) (a0 : Str) : Option (Int × Int) :=
  (if (0 : Int) ≤ 1 ∧ 1 ≤ (a0.length : Int) then ((token_run k (a0.drop (1 : Int).toNat) (fun x => token_quoted_1 k x)).bind fun t65 => (jn (κ := Bool → Option (Int × Int)) (fun (x19 : Bool) => (bif x19 then (some (0, 2)) else (bif (decide (t65 > 60)) then (some (0, 3)) else (if inR (t65 + 2) then (some ((t65 + 2), 0)) else none)))) (fun j71 => (if inR (1 + t65) then (bif ((1 + t65) == (a0.length : Int)) then (j71 true) else (if inR (1 + t65) then (if (0 : Int) ≤ (1 + t65) ∧ (1 + t65) < (a0.length : Int) then (j71 ((bt a0 (1 + t65)) != 34)) else none) else none)) else none)))) else none)
def slices_Index_string.b0 (a0 : (List Str)) (a1 : Str) (rec0 : Int → Option Int) (x8 : Int) : Option Int :=
  (bif (decide (x8 < (a0.length : Int))) then (if (0 : Int) ≤ x8 ∧ x8 < (a0.length : Int) then (bif (a1 == (rd a0 x8)) then (some x8) else (if inR (x8 + 1) then (rec0 (x8 + 1)) else none)) else none) else (some (-1)))
def slices_Index_string (k : Nat) (a0 : (List Str)) (a1 : Str) : Option Int :=
  (loop1 k (slices_Index_string.b0 a0 a1) 0)
def slices_Contains_string (k : Nat) (a0 : (List Str)) (a1 : Str) : Option Bool :=
  ((slices_Index_string k a0 a1).bind fun t91 => (some (decide (t91 ≥ 0))))
def token_pair (k : Nat) (a0 : Str) : Option Bool :=
  (jn (κ := Bool → Option Bool) (fun (x2 : Bool) => (some x2)) (fun j96 => (bif (decide ((a0.length : Int) ≥ 2)) then (if (0 : Int) ≤ 2 ∧ 2 ≤ (a0.length : Int) then ((slices_Contains_string k ([([45, 62] : Str), ([60, 61] : Str), ([62, 61] : Str), ([61, 61] : Str), ([33, 61] : Str)]) (a0.take (2 : Int).toNat)).bind fun t99 => (j96 t99)) else none) else (j96 false))))
def stringslite_IndexByte (_k : Nat) (a0 : Str) (a1 : Int) : Option Int := some (Lib.indexByte a0 a1.toNat.toUInt8)
def strings_IndexByte (k : Nat) (a0 : Str) (a1 : Int) : Option Int :=
  ((stringslite_IndexByte k a0 a1).bind fun t100 => (some t100))
def token_next (k : Nat) (a0 : Str) : Option (Int × Int × Int) :=
  (if (0 : Int) ≤ 0 ∧ 0 < (a0.length : Int) then ((token_letter k (bt a0 0)).bind fun t102 => (bif t102 then ((token_run k a0 (fun x => token_part k x)).bind fun t104 => (bif (decide (t104 > 20)) then (some (0, 0, 3)) else (some (1, t104, 0)))) else ((token_digit k (bt a0 0)).bind fun t106 => (bif t106 then ((token_run k a0 (fun x => token_digit k x)).bind fun t108 => (bif (decide (t108 > 9)) then (some (0, 0, 3)) else (some (2, t108, 0)))) else (bif ((bt a0 0) == 34) then ((token_quoted k a0).bind fun t111 => (some (3, t111.1, t111.2))) else ((token_pair k a0).bind fun t112 => (bif t112 then (some (4, 2, 0)) else ((strings_IndexByte k ([123, 125, 40, 41, 91, 93, 44, 59, 58, 61, 43, 45, 42, 60, 62, 33, 38, 124, 46, 63] : Str) (bt a0 0)).bind fun t114 => (bif (decide (t114 ≥ 0)) then (some (4, 1, 0)) else (some (0, 0, 2))))))))))) else none)
def token_whole (k : Nat) (a0 : Token) : Option (Str × Bool) :=
  (jn (κ := Str → Option (Str × Bool)) (fun (x4 : Str) => (bif (x4 == ([] : Str)) then (some (([] : Str), false)) else ((token_next k x4).bind fun t122 => (jn (κ := Bool → Option (Str × Bool)) (fun (x3 : Bool) => (some (x4, x3))) (fun j126 => (bif (t122.2.2 == 0) then (bif (t122.1 == a0.fKind) then (j126 (t122.2.1 == (x4.length : Int))) else (j126 false)) else (j126 false))))))) (fun j120 => (bif (a0.fKind == 3) then (if (([34] : Str).length : Int) + (a0.fText.length : Int) ≤ 9223372036854775807 then (if ((([34] : Str) ++ a0.fText).length : Int) + (([34] : Str).length : Int) ≤ 9223372036854775807 then (j120 ((([34] : Str) ++ a0.fText) ++ ([34] : Str))) else none) else none) else (j120 a0.fText))))
def token_IsName (k : Nat) (a0 : Str) : Option Bool :=
  ((token_whole k (Token.mk 1 a0 0)).bind fun t132 => (some t132.2))
def types_node_1 (k : Nat) (a0 : NodeType) (a1 : NodeType) : Option Bool :=
  (some (a0.fName == a1.fName))
def slices_IndexFunc_NodeType.b0 (a0 : (List NodeType)) (a1 : (NodeType → Option Bool)) (rec0 : Int → Option Int) (x8 : Int) : Option Int :=
  (bif (decide (x8 < (a0.length : Int))) then (if (0 : Int) ≤ x8 ∧ x8 < (a0.length : Int) then ((a1 (rd a0 x8)).bind fun t145 => (bif t145 then (some x8) else (if inR (x8 + 1) then (rec0 (x8 + 1)) else none))) else none) else (some (-1)))
def slices_IndexFunc_NodeType (k : Nat) (a0 : (List NodeType)) (a1 : (NodeType → Option Bool)) : Option Int :=
  (loop1 k (slices_IndexFunc_NodeType.b0 a0 a1) 0)
def slices_ContainsFunc_NodeType (k : Nat) (a0 : (List NodeType)) (a1 : (NodeType → Option Bool)) : Option Bool :=
  ((slices_IndexFunc_NodeType k a0 a1).bind fun t148 => (some (decide (t148 ≥ 0))))
def types_attrs.main (self : Types → Int → Option (List Attr)) (k : Nat) (a0 : Types) (a1 : Int) : Option (List Attr) :=
  (if (0 : Int) ≤ a1 ∧ a1 < (a0.fNodes.length : Int) then (jn (κ := (List Attr) → Option (List Attr)) (fun (x5 : (List Attr)) => (if (0 : Int) ≤ a1 ∧ a1 < (a0.fNodes.length : Int) then (if x5.length + ((rd a0.fNodes a1).fAttrs).length ≤ lim then (some (x5 ++ (rd a0.fNodes a1).fAttrs)) else none) else none)) (fun j157 => (bif (decide ((rd a0.fNodes a1).fParent ≥ 0)) then ((self a0 ((rd a0.fNodes a1).fParent)).bind fun t162 => (j157 t162)) else (j157 [])))) else none)
def types_attrs : Nat → Types → Int → Option (List Attr)
  | 0, _, _ => none
  | k + 1, a0, a1 => types_attrs.main (types_attrs k) k a0 a1
def types_attribute_1 (k : Nat) (a0 : Attr) (a1 : Attr) : Option Bool :=
  (some (a0.fName == a1.fName))
def slices_IndexFunc_Attr.b0 (a0 : (List Attr)) (a1 : (Attr → Option Bool)) (rec0 : Int → Option Int) (x8 : Int) : Option Int :=
  (bif (decide (x8 < (a0.length : Int))) then (if (0 : Int) ≤ x8 ∧ x8 < (a0.length : Int) then ((a1 (rd a0 x8)).bind fun t177 => (bif t177 then (some x8) else (if inR (x8 + 1) then (rec0 (x8 + 1)) else none))) else none) else (some (-1)))
def slices_IndexFunc_Attr (k : Nat) (a0 : (List Attr)) (a1 : (Attr → Option Bool)) : Option Int :=
  (loop1 k (slices_IndexFunc_Attr.b0 a0 a1) 0)
def slices_ContainsFunc_Attr (k : Nat) (a0 : (List Attr)) (a1 : (Attr → Option Bool)) : Option Bool :=
  ((slices_IndexFunc_Attr k a0 a1).bind fun t180 => (some (decide (t180 ≥ 0))))
def types_names.b0 (k : Nat) (a0 : (List Str)) (rec0 : Int → Option Int) (x10 : Int) : Option Int :=
  (bif (decide (x10 < (a0.length : Int))) then (if (0 : Int) ≤ x10 ∧ x10 < (a0.length : Int) then ((token_IsName k (rd a0 x10)).bind fun t200 => (bif (!t200) then (some 2) else (if (0 : Int) ≤ x10 ∧ x10 ≤ (a0.length : Int) then ((slices_Contains_string k (a0.take (x10 : Int).toNat) (rd a0 x10)).bind fun t203 => (bif t203 then (some 5) else (if inR (x10 + 1) then (rec0 (x10 + 1)) else none))) else none))) else none) else (some 0))
def types_names (k : Nat) (a0 : (List Str)) : Option Int :=
  (bif (decide ((a0.length : Int) > 20)) then (some 3) else (loop1 k (types_names.b0 k a0) 0))
def types_attribute (k : Nat) (a0 : Attr) (a1 : (List Attr)) : Option Int :=
  ((token_IsName k a0.fName).bind fun t206 => (bif (!t206) then (some 2) else ((slices_ContainsFunc_Attr k a1 (fun x => types_attribute_1 k x a0)).bind fun t208 => (bif t208 then (some 5) else ((types_names k a0.fNames).bind fun t210 => (bif (t210 != 0) then (some t210) else (jn (κ := Bool → Option Int) (fun (x6 : Bool) => (bif (decide ((a0.fNames.length : Int) > 0)) then (jn (κ := Bool → Option Int) (fun (x6' : Bool) => (bif (!x6') then (some 6) else (some 0))) (fun j227 => (bif (a0.fLow == 0) then (if inR ((a0.fNames.length : Int) - 1) then (j227 (a0.fHigh == ((a0.fNames.length : Int) - 1))) else none) else (j227 false)))) else (bif (!x6) then (some 6) else (some 0)))) (fun j215 => (bif (decide ((-1000000) ≤ a0.fLow)) then (bif (decide (a0.fLow ≤ a0.fHigh)) then (j215 (decide (a0.fHigh ≤ 1000000))) else (j215 false)) else (j215 false))))))))))
def types_node.b0 (k : Nat) (t246 : (List Attr)) (rec0 : Int → Option Int) (x7 : Int) : Option Int :=
  (bif (decide (x7 < (t246.length : Int))) then (if (0 : Int) ≤ x7 ∧ x7 < (t246.length : Int) then (if (0 : Int) ≤ x7 ∧ x7 ≤ (t246.length : Int) then ((types_attribute k (rd t246 x7) (t246.take (x7 : Int).toNat)).bind fun t282 => (bif (t282 != 0) then (some t282) else (if inR (x7 + 1) then (rec0 (x7 + 1)) else none))) else none) else none) else (some 0))
def types_node (k : Nat) (a0 : Types) (a1 : Int) : Option Int :=
  (if (0 : Int) ≤ a1 ∧ a1 < (a0.fNodes.length : Int) then ((token_IsName k ((rd a0.fNodes a1).fName)).bind fun t236 => (bif (!t236) then (some 2) else (if (0 : Int) ≤ a1 ∧ a1 ≤ (a0.fNodes.length : Int) then ((slices_ContainsFunc_NodeType k (a0.fNodes.take (a1 : Int).toNat) (fun x => types_node_1 k x (rd a0.fNodes a1))).bind fun t239 => (bif t239 then (some 5) else (jn (κ := Bool → Option Int) (fun (x26 : Bool) => (bif x26 then (some 6) else (bif (decide ((((rd a0.fNodes a1).fAttrs).length : Int) > 4)) then (some 3) else ((types_attrs k a0 a1).bind fun t246 => (bif (decide ((t246.length : Int) > 8)) then (some 3) else (if inR ((t246.length : Int) - (((rd a0.fNodes a1).fAttrs).length : Int)) then (loop1 k (types_node.b0 k t246) ((t246.length : Int) - (((rd a0.fNodes a1).fAttrs).length : Int))) else none)))))) (fun j243 => (bif (decide ((rd a0.fNodes a1).fParent < (-1))) then (j243 true) else (j243 (decide ((rd a0.fNodes a1).fParent ≥ a1)))))))) else none))) else none)
def types_edge_1 (k : Nat) (a0 : Int) (a1 : Types) : Option Bool :=
  (jn (κ := Bool → Option Bool) (fun (x3 : Bool) => (some x3)) (fun j288 => (bif (decide (a0 ≥ 0)) then (j288 (decide (a0 < (a1.fNodes.length : Int)))) else (j288 false))))
def types_edge_2 (k : Nat) (a0 : EdgeType) (a1 : EdgeType) : Option Bool :=
  (some (a0.fName == a1.fName))
def slices_IndexFunc_EdgeType.b0 (a0 : (List EdgeType)) (a1 : (EdgeType → Option Bool)) (rec0 : Int → Option Int) (x8 : Int) : Option Int :=
  (bif (decide (x8 < (a0.length : Int))) then (if (0 : Int) ≤ x8 ∧ x8 < (a0.length : Int) then ((a1 (rd a0 x8)).bind fun t302 => (bif t302 then (some x8) else (if inR (x8 + 1) then (rec0 (x8 + 1)) else none))) else none) else (some (-1)))
def slices_IndexFunc_EdgeType (k : Nat) (a0 : (List EdgeType)) (a1 : (EdgeType → Option Bool)) : Option Int :=
  (loop1 k (slices_IndexFunc_EdgeType.b0 a0 a1) 0)
def slices_ContainsFunc_EdgeType (k : Nat) (a0 : (List EdgeType)) (a1 : (EdgeType → Option Bool)) : Option Bool :=
  ((slices_IndexFunc_EdgeType k a0 a1).bind fun t305 => (some (decide (t305 ≥ 0))))
def types_bounded (k : Nat) (a0 : Int) (a1 : Int) : Option Bool :=
  (jn (κ := Bool → Option Bool) (fun (x4 : Bool) => (some x4)) (fun j311 => (bif (decide (a0 ≥ 0)) then (bif (decide (a0 ≤ 40)) then (bif (a1 == (-1)) then (j311 true) else (bif (decide (a1 ≥ a0)) then (j311 (decide (a1 ≤ 40))) else (j311 false))) else (j311 false)) else (j311 false))))
def types_edge (k : Nat) (a0 : Types) (a1 : Int) : Option Int :=
  (if (0 : Int) ≤ a1 ∧ a1 < (a0.fEdges.length : Int) then ((token_IsName k ((rd a0.fEdges a1).fName)).bind fun t318 => (bif (!t318) then (some 2) else (if (0 : Int) ≤ a1 ∧ a1 ≤ (a0.fEdges.length : Int) then ((slices_ContainsFunc_EdgeType k (a0.fEdges.take (a1 : Int).toNat) (fun x => types_edge_2 k x (rd a0.fEdges a1))).bind fun t321 => (bif t321 then (some 5) else (jn (κ := Bool → Option Int) (fun (x25 : Bool) => (bif x25 then (some 6) else (jn (κ := Bool → Option Int) (fun (x25' : Bool) => (bif x25' then (some 6) else (some 0))) (fun j342 => ((types_bounded k ((rd a0.fEdges a1).fOutLow) ((rd a0.fEdges a1).fOutHigh)).bind fun t344 => (bif (!t344) then (j342 true) else ((types_bounded k ((rd a0.fEdges a1).fInLow) ((rd a0.fEdges a1).fInHigh)).bind fun t346 => (j342 (!t346))))))))) (fun j327 => (((fun x => types_edge_1 k x a0) ((rd a0.fEdges a1).fFrom)).bind fun t347 => (bif (!t347) then (j327 true) else (((fun x => types_edge_1 k x a0) ((rd a0.fEdges a1).fTo)).bind fun t349 => (j327 (!t349))))))))) else none))) else none)
def types_Valid.b1 (k : Nat) (a0 : Types) (rec1 : Int → Option (Str × Int)) (x46 : Int) : Option (Str × Int) :=
  (bif (decide (x46 < (a0.fEdges.length : Int))) then (if (0 : Int) ≤ x46 ∧ x46 < (a0.fEdges.length : Int) then ((types_edge k a0 x46).bind fun t424 => (bif (t424 != 0) then (some ((rd a0.fEdges x46).fName, t424)) else (if inR (x46 + 1) then (rec1 (x46 + 1)) else none))) else none) else (some (([] : Str), 0)))
def types_Valid.b0 (k : Nat) (a0 : Types) (rec0 : Int → Option (Str × Int)) (x29 : Int) : Option (Str × Int) :=
  (bif (decide (x29 < (a0.fNodes.length : Int))) then (if (0 : Int) ≤ x29 ∧ x29 < (a0.fNodes.length : Int) then ((types_node k a0 x29).bind fun t406 => (bif (t406 != 0) then (some ((rd a0.fNodes x29).fName, t406)) else (if inR (x29 + 1) then (rec0 (x29 + 1)) else none))) else none) else (loop1 k (types_Valid.b1 k a0) 0))
def types_Valid (k : Nat) (a0 : Types) : Option (Str × Int) :=
  (bif ((a0.fNodes.length : Int) == 0) then (some (([] : Str), 7)) else (jn (κ := Bool → Option (Str × Int)) (fun (x15 : Bool) => (bif x15 then (some (([] : Str), 3)) else (loop1 k (types_Valid.b0 k a0) 0))) (fun j353 => (bif (decide ((a0.fNodes.length : Int) > 12)) then (j353 true) else (j353 (decide ((a0.fEdges.length : Int) > 20)))))))
def slices_IndexFunc_int.b0 (a0 : (List Int)) (a1 : (Int → Option Bool)) (rec0 : Int → Option Int) (x8 : Int) : Option Int :=
  (bif (decide (x8 < (a0.length : Int))) then (if (0 : Int) ≤ x8 ∧ x8 < (a0.length : Int) then ((a1 (rd a0 x8)).bind fun t440 => (bif t440 then (some x8) else (if inR (x8 + 1) then (rec0 (x8 + 1)) else none))) else none) else (some (-1)))
def slices_IndexFunc_int (k : Nat) (a0 : (List Int)) (a1 : (Int → Option Bool)) : Option Int :=
  (loop1 k (slices_IndexFunc_int.b0 a0 a1) 0)
def slices_ContainsFunc_int (k : Nat) (a0 : (List Int)) (a1 : (Int → Option Bool)) : Option Bool :=
  ((slices_IndexFunc_int k a0 a1).bind fun t443 => (some (decide (t443 ≥ 0))))
def graph_within (k : Nat) (a0 : Int) (a1 : Int) : Option Bool :=
  (jn (κ := Bool → Option Bool) (fun (x4 : Bool) => (some x4)) (fun j446 => (bif (decide (a0 ≥ 0)) then (j446 (decide (a0 ≤ a1))) else (j446 false))))
def graph_Valid_1 (k : Nat) (a0 : Int) : Option Bool :=
  ((graph_within k a0 99).bind fun t448 => (some (!t448)))
def graph_fits (k : Nat) (a0 : Edge) (a1 : Int) : Option Bool :=
  (jn (κ := Bool → Option Bool) (fun (x4 : Bool) => (some x4)) (fun j457 => ((graph_within k a0.fType 99).bind fun t458 => (bif t458 then (if inR (a1 - 1) then ((graph_within k a0.fFrom (a1 - 1)).bind fun t461 => (bif t461 then (if inR (a1 - 1) then ((graph_within k a0.fTo (a1 - 1)).bind fun t464 => (j457 t464)) else none) else (j457 false))) else none) else (j457 false)))))
def graph_Valid_2 (k : Nat) (a0 : Edge) (a1 : Graph) : Option Bool :=
  ((graph_fits k a0 (a1.fNodes.length : Int)).bind fun t465 => (some (!t465)))
def slices_IndexFunc_Edge.b0 (a0 : (List Edge)) (a1 : (Edge → Option Bool)) (rec0 : Int → Option Int) (x8 : Int) : Option Int :=
  (bif (decide (x8 < (a0.length : Int))) then (if (0 : Int) ≤ x8 ∧ x8 < (a0.length : Int) then ((a1 (rd a0 x8)).bind fun t478 => (bif t478 then (some x8) else (if inR (x8 + 1) then (rec0 (x8 + 1)) else none))) else none) else (some (-1)))
def slices_IndexFunc_Edge (k : Nat) (a0 : (List Edge)) (a1 : (Edge → Option Bool)) : Option Int :=
  (loop1 k (slices_IndexFunc_Edge.b0 a0 a1) 0)
def slices_ContainsFunc_Edge (k : Nat) (a0 : (List Edge)) (a1 : (Edge → Option Bool)) : Option Bool :=
  ((slices_IndexFunc_Edge k a0 a1).bind fun t481 => (some (decide (t481 ≥ 0))))
def graph_Valid (k : Nat) (a0 : Graph) : Option Int :=
  (jn (κ := Bool → Option Int) (fun (x12 : Bool) => (bif x12 then (some 3) else ((slices_ContainsFunc_int k a0.fNodes (fun x => graph_Valid_1 k x)).bind fun t486 => (bif t486 then (some 6) else ((slices_ContainsFunc_Edge k a0.fEdges (fun x => graph_Valid_2 k x a0)).bind fun t488 => (bif t488 then (some 6) else (some 0))))))) (fun j484 => (bif (decide ((a0.fNodes.length : Int) > 40)) then (j484 true) else (j484 (decide ((a0.fEdges.length : Int) > 80))))))
def attribute_Valid_1 (k : Nat) (a0 : Int) (a1 : Types) : Option Bool :=
  (some (decide (a0 ≥ (a1.fNodes.length : Int))))
def attribute_Valid_2 (k : Nat) (a0 : Edge) (a1 : Types) : Option Bool :=
  (some (decide (a0.fType ≥ (a1.fEdges.length : Int))))
def attribute_within (k : Nat) (a0 : Int) (a1 : Int) (a2 : Int) : Option Bool :=
  (jn (κ := Bool → Option Bool) (fun (x6 : Bool) => (some x6)) (fun j493 => (bif (decide (a0 ≥ a1)) then (j493 (decide (a0 ≤ a2))) else (j493 false))))
def types_given_1 (k : Nat) (a0 : Int) (a1 : Types) : Option Bool :=
  (jn (κ := Bool → Option Bool) (fun (x3 : Bool) => (some x3)) (fun j497 => (bif (decide (a0 < 0)) then (j497 true) else (j497 (decide (a0 ≥ (a1.fNodes.length : Int)))))))
def types_given (k : Nat) (a0 : Types) (a1 : (List Int)) : Option Int :=
  ((types_Valid k a0).bind fun t499 => (bif (t499.2 != 0) then (some t499.2) else ((slices_ContainsFunc_int k a1 (fun x => types_given_1 k x a0)).bind fun t501 => (bif t501 then (some 6) else (some 0)))))
def slices_Clone_string (_k : Nat) (a0 : (List Str)) : Option (List Str) := if a0.length ≤ lim then some a0 else none
def types_Attrs.b0 (k : Nat) (t512 : (List Attr)) (rec0 : (List Attr) → Int → Option ((List Attr) × Int)) (x7 : (List Attr)) (x21 : Int) : Option ((List Attr) × Int) :=
  (bif (decide (x21 < (t512.length : Int))) then (if (0 : Int) ≤ x21 ∧ x21 < (x7.length : Int) then ((slices_Clone_string k ((rd x7 x21).fNames)).bind fun t526 => (if (0 : Int) ≤ x21 ∧ x21 < (x7.length : Int) then (if inR (x21 + 1) then (rec0 (x7.set (x21 : Int).toNat (Attr.mk ((rd x7 x21).fName) ((rd x7 x21).fLow) ((rd x7 x21).fHigh) t526)) (x21 + 1)) else none) else none)) else none) else (some (x7, 0)))
def types_Attrs (k : Nat) (a0 : Types) (a1 : Int) : Option ((List Attr) × Int) :=
  ((types_given k a0 [a1]).bind fun t510 => (bif (t510 != 0) then (some ([], t510)) else ((types_attrs k a0 a1).bind fun t512 => (loop2 k (types_Attrs.b0 k t512) t512 0))))
def attribute_attr (k : Nat) (a0 : Types) (a1 : Pattern) (a2 : Slot) : Option (Attr × Bool) :=
  (if inR ((a1.fGraph.fNodes.length : Int) - 1) then ((attribute_within k a2.fNode 0 ((a1.fGraph.fNodes.length : Int) - 1)).bind fun t531 => (bif (!t531) then (some ((Attr.mk ([] : Str) 0 0 []), false)) else (if (0 : Int) ≤ a2.fNode ∧ a2.fNode < (a1.fGraph.fNodes.length : Int) then ((types_Attrs k a0 (rd a1.fGraph.fNodes a2.fNode)).bind fun t538 => (if inR ((t538.1.length : Int) - 1) then ((attribute_within k a2.fAttr 0 ((t538.1.length : Int) - 1)).bind fun t540 => (bif (!t540) then (some ((Attr.mk ([] : Str) 0 0 []), false)) else (if (0 : Int) ≤ a2.fAttr ∧ a2.fAttr < (t538.1.length : Int) then (some ((rd t538.1 a2.fAttr), true)) else none))) else none)) else none))) else none)
def difference_term (k : Nat) (a0 : Int) (a1 : Term) : Option Bool :=
  (jn (κ := Bool → Option Bool) (fun (x4 : Bool) => (some x4)) (fun j547 => (bif (decide (a1.fVar ≥ (-1))) then (bif (decide (a1.fVar < a0)) then (bif (decide (a1.fAdd ≥ (-1000000))) then (j547 (decide (a1.fAdd ≤ 1000000))) else (j547 false)) else (j547 false)) else (j547 false))))
def difference_one (k : Nat) (a0 : Int) (a1 : Test) : Option Int :=
  (jn (κ := Bool → Option Int) (fun (x5 : Bool) => (bif x5 then (some 1) else (jn (κ := Bool → Option Int) (fun (x14 : Bool) => (bif x14 then (some 6) else (some 0))) (fun j559 => ((difference_term k a0 a1.fLeft).bind fun t561 => (bif (!t561) then (j559 true) else ((difference_term k a0 a1.fRight).bind fun t563 => (j559 (!t563))))))))) (fun j553 => (bif (a1.fKind != 1) then (j553 (a1.fKind != 2)) else (j553 false))))
def difference_Valid.b0 (k : Nat) (a0 : Int) (a1 : (List Test)) (rec0 : Int → Option Int) (x19 : Int) : Option Int :=
  (bif (decide (x19 < (a1.length : Int))) then (if (0 : Int) ≤ x19 ∧ x19 < (a1.length : Int) then ((difference_one k a0 (rd a1 x19)).bind fun t585 => (bif (t585 != 0) then (some t585) else (if inR (x19 + 1) then (rec0 (x19 + 1)) else none))) else none) else (some 0))
def difference_Valid (k : Nat) (a0 : Int) (a1 : (List Test)) : Option Int :=
  (jn (κ := Bool → Option Int) (fun (x13 : Bool) => (bif x13 then (some 6) else (bif (decide ((a1.length : Int) > 40)) then (some 3) else (loop1 k (difference_Valid.b0 k a0 a1) 0)))) (fun j567 => (bif (decide (a0 < 0)) then (j567 true) else (j567 (decide (a0 > 12))))))
def slices_Index_bool.b0 (a0 : (List Bool)) (a1 : Bool) (rec0 : Int → Option Int) (x8 : Int) : Option Int :=
  (bif (decide (x8 < (a0.length : Int))) then (if (0 : Int) ≤ x8 ∧ x8 < (a0.length : Int) then (bif (a1 == (rd a0 x8)) then (some x8) else (if inR (x8 + 1) then (rec0 (x8 + 1)) else none)) else none) else (some (-1)))
def slices_Index_bool (k : Nat) (a0 : (List Bool)) (a1 : Bool) : Option Int :=
  (loop1 k (slices_Index_bool.b0 a0 a1) 0)
def slices_Contains_bool (k : Nat) (a0 : (List Bool)) (a1 : Bool) : Option Bool :=
  ((slices_Index_bool k a0 a1).bind fun t601 => (some (decide (t601 ≥ 0))))
def attribute_Valid.b0 (k : Nat) (a0 : Types) (a1 : Pattern) (rec0 : (List Bool) → Int → Option Int) (x8 : (List Bool)) (x60 : Int) : Option Int :=
  (bif (decide (x60 < (a1.fSlots.length : Int))) then (if (0 : Int) ≤ x60 ∧ x60 < (a1.fSlots.length : Int) then ((attribute_attr k a0 a1 (rd a1.fSlots x60)).bind fun t679 => (jn (κ := Bool → Option Int) (fun (x89 : Bool) => (bif x89 then (some 6) else (bif (decide ((rd a1.fSlots x60).fTerm.fVar ≥ 0)) then (if (0 : Int) ≤ (rd a1.fSlots x60).fTerm.fVar ∧ (rd a1.fSlots x60).fTerm.fVar < (x8.length : Int) then (if inR (x60 + 1) then (rec0 (x8.set ((rd a1.fSlots x60).fTerm.fVar : Int).toNat true) (x60 + 1)) else none) else none) else (if inR (x60 + 1) then (rec0 x8 (x60 + 1)) else none)))) (fun j687 => (bif (!t679.2) then (j687 true) else (if inR (a1.fVars - 1) then ((attribute_within k ((rd a1.fSlots x60).fTerm.fVar) (-1) (a1.fVars - 1)).bind fun t697 => (bif (!t697) then (j687 true) else ((attribute_within k ((rd a1.fSlots x60).fTerm.fAdd) (-1000000) 1000000).bind fun t699 => (j687 (!t699))))) else none))))) else none) else ((difference_Valid k a1.fVars a1.fTests).bind fun t700 => (bif (t700 != 0) then (some t700) else ((slices_Contains_bool k x8 false).bind fun t702 => (bif t702 then (some 9) else (some 0))))))
def attribute_Valid (k : Nat) (a0 : Types) (a1 : Pattern) : Option Int :=
  ((types_Valid k a0).bind fun t602 => (bif (t602.2 != 0) then (some t602.2) else ((graph_Valid k a1.fGraph).bind fun t604 => (bif (t604 != 0) then (some t604) else (jn (κ := Bool → Option Int) (fun (x39 : Bool) => (bif x39 then (some 13) else ((attribute_within k a1.fVars 0 12).bind fun t612 => (bif (!t612) then (some 6) else (jn (κ := Bool → Option Int) (fun (x53 : Bool) => (bif x53 then (some 3) else (if (0 : Int) ≤ a1.fVars ∧ a1.fVars ≤ (lim : Int) then (loop2 k (attribute_Valid.b0 k a0 a1) (List.replicate (a1.fVars : Int).toNat false) 0) else none))) (fun j616 => (bif (decide ((a1.fSlots.length : Int) > 10)) then (j616 true) else (j616 (decide ((a1.fTests.length : Int) > 10)))))))))) (fun j610 => ((slices_ContainsFunc_int k a1.fGraph.fNodes (fun x => attribute_Valid_1 k x a0)).bind fun t705 => (bif t705 then (j610 true) else ((slices_ContainsFunc_Edge k a1.fGraph.fEdges (fun x => attribute_Valid_2 k x a0)).bind fun t707 => (j610 t707))))))))))
def host_node.b0 (a2 : (List Int)) (t711 : ((List Attr) × Int)) (rec0 : Int → Option Int) (x35 : Int) : Option Int :=
  (bif (decide (x35 < (t711.1.length : Int))) then (if (0 : Int) ≤ x35 ∧ x35 < (t711.1.length : Int) then (jn (κ := Bool → Option Int) (fun (x55 : Bool) => (bif x55 then (some 6) else (if inR (x35 + 1) then (rec0 (x35 + 1)) else none))) (fun j755 => (if (0 : Int) ≤ x35 ∧ x35 < (a2.length : Int) then (bif (decide ((rd a2 x35) < (rd t711.1 x35).fLow)) then (j755 true) else (if (0 : Int) ≤ x35 ∧ x35 < (a2.length : Int) then (j755 (decide ((rd a2 x35) > (rd t711.1 x35).fHigh))) else none)) else none))) else none) else (some 0))
def host_node (k : Nat) (a0 : Types) (a1 : Int) (a2 : (List Int)) : Option Int :=
  (bif (decide (a1 ≥ (a0.fNodes.length : Int))) then (some 6) else (if (0 : Int) ≤ a1 ∧ a1 < (a0.fNodes.length : Int) then (bif (rd a0.fNodes a1).fAbstract then (some 13) else ((types_Attrs k a0 a1).bind fun t711 => (bif ((a2.length : Int) != (t711.1.length : Int)) then (some 20) else (loop1 k (host_node.b0 a2 t711) 0)))) else none))
def slices_Reverse_int.b0 (rec0 : (List Int) → Int → Int → Option (List Int)) (x0 : (List Int)) (x2 : Int) (x3 : Int) : Option (List Int) :=
  (bif (decide (x2 < x3)) then (if (0 : Int) ≤ x3 ∧ x3 < (x0.length : Int) then (if (0 : Int) ≤ x2 ∧ x2 < (x0.length : Int) then (if (0 : Int) ≤ x2 ∧ x2 < (x0.length : Int) then (if (0 : Int) ≤ x3 ∧ x3 < ((x0.set (x2 : Int).toNat (rd x0 x3)).length : Int) then (if inR (x2 + 1) then (if inR (x3 - 1) then (rec0 ((x0.set (x2 : Int).toNat (rd x0 x3)).set (x3 : Int).toNat (rd x0 x2)) (x2 + 1) (x3 - 1)) else none) else none) else none) else none) else none) else none) else (some x0))
def slices_Reverse_int (k : Nat) (a0 : (List Int)) : Option (List Int) :=
  (if inR ((a0.length : Int) - 1) then (loop3 k (slices_Reverse_int.b0) a0 0 ((a0.length : Int) - 1)) else none)
def types_line.b0 (k : Nat) (a0 : Types) (rec0 : Int → (List Int) → Option (List Int)) (x1 : Int) (x5 : (List Int)) : Option (List Int) :=
  (bif (decide (x1 ≥ 0)) then (if x5.length + [x1].length ≤ lim then (if (0 : Int) ≤ x1 ∧ x1 < (a0.fNodes.length : Int) then (rec0 ((rd a0.fNodes x1).fParent) (x5 ++ [x1])) else none) else none) else ((slices_Reverse_int k x5).bind fun t829 => (some t829)))
def types_line (k : Nat) (a0 : Types) (a1 : Int) : Option (List Int) :=
  (loop2 k (types_line.b0 k a0) a1 [])
def slices_Index_int.b0 (a0 : (List Int)) (a1 : Int) (rec0 : Int → Option Int) (x8 : Int) : Option Int :=
  (bif (decide (x8 < (a0.length : Int))) then (if (0 : Int) ≤ x8 ∧ x8 < (a0.length : Int) then (bif (a1 == (rd a0 x8)) then (some x8) else (if inR (x8 + 1) then (rec0 (x8 + 1)) else none)) else none) else (some (-1)))
def slices_Index_int (k : Nat) (a0 : (List Int)) (a1 : Int) : Option Int :=
  (loop1 k (slices_Index_int.b0 a0 a1) 0)
def slices_Contains_int (k : Nat) (a0 : (List Int)) (a1 : Int) : Option Bool :=
  ((slices_Index_int k a0 a1).bind fun t842 => (some (decide (t842 ≥ 0))))
def types_is (k : Nat) (a0 : Types) (a1 : Int) (a2 : Int) : Option Bool :=
  ((types_line k a0 a1).bind fun t843 => ((slices_Contains_int k t843 a2).bind fun t844 => (some t844)))
def types_Fits (k : Nat) (a0 : Types) (a1 : Int) (a2 : Int) (a3 : Int) : Option Bool :=
  (jn (κ := Bool → Option Bool) (fun (x25 : Bool) => (bif x25 then (some false) else (jn (κ := Bool → Option Bool) (fun (x8 : Bool) => (some x8)) (fun j862 => (if (0 : Int) ≤ a1 ∧ a1 < (a0.fEdges.length : Int) then ((types_is k a0 a2 ((rd a0.fEdges a1).fFrom)).bind fun t864 => (bif t864 then (if (0 : Int) ≤ a1 ∧ a1 < (a0.fEdges.length : Int) then ((types_is k a0 a3 ((rd a0.fEdges a1).fTo)).bind fun t867 => (j862 t867)) else none) else (j862 false))) else none))))) (fun j849 => ((types_given k a0 [a2, a3]).bind fun t868 => (bif (t868 != 0) then (j849 true) else (bif (decide (a1 < 0)) then (j849 true) else (j849 (decide (a1 ≥ (a0.fEdges.length : Int)))))))))
def host_Valid.b1 (k : Nat) (a0 : Types) (a1 : Host) (rec1 : Int → Option (Int × Int)) (x62 : Int) : Option (Int × Int) :=
  (bif (decide (x62 < (a1.fGraph.fEdges.length : Int))) then (if (0 : Int) ≤ x62 ∧ x62 < (a1.fGraph.fEdges.length : Int) then (bif (decide ((rd a1.fGraph.fEdges x62).fType ≥ (a0.fEdges.length : Int))) then (some (x62, 6)) else (if (0 : Int) ≤ (rd a1.fGraph.fEdges x62).fFrom ∧ (rd a1.fGraph.fEdges x62).fFrom < (a1.fGraph.fNodes.length : Int) then (if (0 : Int) ≤ (rd a1.fGraph.fEdges x62).fTo ∧ (rd a1.fGraph.fEdges x62).fTo < (a1.fGraph.fNodes.length : Int) then ((types_Fits k a0 ((rd a1.fGraph.fEdges x62).fType) (rd a1.fGraph.fNodes ((rd a1.fGraph.fEdges x62).fFrom)) (rd a1.fGraph.fNodes ((rd a1.fGraph.fEdges x62).fTo))).bind fun t1038 => (bif (!t1038) then (some (x62, 13)) else (if inR (x62 + 1) then (rec1 (x62 + 1)) else none))) else none) else none)) else none) else (some ((-1), 0)))
def host_Valid.b0 (k : Nat) (a0 : Types) (a1 : Host) (rec0 : Int → Option (Int × Int)) (x40 : Int) : Option (Int × Int) :=
  (bif (decide (x40 < (a1.fGraph.fNodes.length : Int))) then (if (0 : Int) ≤ x40 ∧ x40 < (a1.fGraph.fNodes.length : Int) then (if (0 : Int) ≤ x40 ∧ x40 < (a1.fValues.length : Int) then ((host_node k a0 (rd a1.fGraph.fNodes x40) (rd a1.fValues x40)).bind fun t993 => (bif (t993 != 0) then (some (x40, t993)) else (if inR (x40 + 1) then (rec0 (x40 + 1)) else none))) else none) else none) else (loop1 k (host_Valid.b1 k a0 a1) 0))
def host_Valid (k : Nat) (a0 : Types) (a1 : Host) : Option (Int × Int) :=
  ((types_Valid k a0).bind fun t871 => (bif (t871.2 != 0) then (some ((-1), t871.2)) else ((graph_Valid k a1.fGraph).bind fun t873 => (bif (t873 != 0) then (some ((-1), t873)) else (bif ((a1.fValues.length : Int) != (a1.fGraph.fNodes.length : Int)) then (some ((-1), 20)) else (loop1 k (host_Valid.b0 k a0 a1) 0))))))
def attribute_given (k : Nat) (a0 : Types) (a1 : Pattern) (a2 : Host) : Option Int :=
  ((attribute_Valid k a0 a1).bind fun t1041 => (bif (t1041 != 0) then (some t1041) else ((host_Valid k a0 a2).bind fun t1043 => (some t1043.2))))
def search_within_1 (k : Nat) (a0 : Int) (a1 : Types) : Option Bool :=
  (some (decide (a0 ≥ (a1.fNodes.length : Int))))
def search_within_2 (k : Nat) (a0 : Edge) (a1 : Types) : Option Bool :=
  (some (decide (a0.fType ≥ (a1.fEdges.length : Int))))
def search_within (k : Nat) (a0 : Types) (a1 : Graph) : Option Bool :=
  (jn (κ := Bool → Option Bool) (fun (x4 : Bool) => (some x4)) (fun j1048 => ((slices_ContainsFunc_int k a1.fNodes (fun x => search_within_1 k x a0)).bind fun t1049 => (bif (!t1049) then ((slices_ContainsFunc_Edge k a1.fEdges (fun x => search_within_2 k x a0)).bind fun t1051 => (j1048 (!t1051))) else (j1048 false)))))
def search_valid.b0 (k : Nat) (a0 : Types) (a1 : Graph) (a2 : Graph) (rec0 : Int → Option Int) (x24 : Int) : Option Int :=
  (bif (decide (x24 < ([a1, a2].length : Int))) then (if (0 : Int) ≤ x24 ∧ x24 < ([a1, a2].length : Int) then ((graph_Valid k (rd [a1, a2] x24)).bind fun t1087 => (bif (t1087 != 0) then (some t1087) else (if inR (x24 + 1) then (rec0 (x24 + 1)) else none))) else none) else (jn (κ := Bool → Option Int) (fun (x43 : Bool) => (bif x43 then (some 13) else (some 0))) (fun j1094 => ((search_within k a0 a1).bind fun t1096 => (bif (!t1096) then (j1094 true) else ((search_within k a0 a2).bind fun t1098 => (j1094 (!t1098))))))))
def search_valid (k : Nat) (a0 : Types) (a1 : Graph) (a2 : Graph) : Option Int :=
  ((types_Valid k a0).bind fun t1052 => (bif (t1052.2 != 0) then (some t1052.2) else (loop1 k (search_valid.b0 k a0 a1 a2) 0)))
def types_Below.b0 (k : Nat) (a0 : Types) (a1 : Int) (rec0 : (List Int) → Int → Option ((List Int) × Int)) (x7 : (List Int)) (x19 : Int) : Option ((List Int) × Int) :=
  (bif (decide (x19 < (a0.fNodes.length : Int))) then ((types_is k a0 x19 a1).bind fun t1130 => (bif t1130 then (if x7.length + [x19].length ≤ lim then (if inR (x19 + 1) then (rec0 (x7 ++ [x19]) (x19 + 1)) else none) else none) else (if inR (x19 + 1) then (rec0 x7 (x19 + 1)) else none))) else (some (x7, 0)))
def types_Below (k : Nat) (a0 : Types) (a1 : Int) : Option ((List Int) × Int) :=
  ((types_given k a0 [a1]).bind fun t1099 => (bif (t1099 != 0) then (some ([], t1099)) else (loop2 k (types_Below.b0 k a0 a1) [] 0)))
def search_below.b1 (x3 : (List (List Bool))) (x13 : Int) (rec0 : (List (List Bool)) → Int → Option (List (List Bool))) (t1199 : ((List Int) × Int)) (rec1 : (List Bool) → Int → Option (List (List Bool))) (x5 : (List Bool)) (x28 : Int) : Option (List (List Bool)) :=
  (bif (decide (x28 < (t1199.1.length : Int))) then (if (0 : Int) ≤ x28 ∧ x28 < (t1199.1.length : Int) then (if (0 : Int) ≤ (rd t1199.1 x28) ∧ (rd t1199.1 x28) < (x5.length : Int) then (if inR (x28 + 1) then (rec1 (x5.set ((rd t1199.1 x28) : Int).toNat true) (x28 + 1)) else none) else none) else none) else (if x3.length + [x5].length ≤ lim then (if inR (x13 + 1) then (rec0 (x3 ++ [x5]) (x13 + 1)) else none) else none))
def search_below.b0 (k : Nat) (a0 : Types) (rec0 : (List (List Bool)) → Int → Option (List (List Bool))) (x3 : (List (List Bool))) (x13 : Int) : Option (List (List Bool)) :=
  (bif (decide (x13 < (a0.fNodes.length : Int))) then (if (0 : Int) ≤ (a0.fNodes.length : Int) ∧ (a0.fNodes.length : Int) ≤ (lim : Int) then ((types_Below k a0 x13).bind fun t1199 => (loop2 k (search_below.b1 x3 x13 rec0 t1199) (List.replicate ((a0.fNodes.length : Int) : Int).toNat false) 0)) else none) else (some x3))
def search_below (k : Nat) (a0 : Types) : Option (List (List Bool)) :=
  (loop2 k (search_below.b0 k a0) [] 0)
def search_given (_k : Nat) (a0 : (Option (List Int))) (a1 : Int) : Option Int := match a0 with
  | none => some (-1)
  | some l => if (0 : Int) ≤ a1 ∧ a1 < (l.length : Int) then some (rd l a1) else none
def search_finder_fits (k : Nat) (a0 : Finder) (a1 : Int) (a2 : Int) : Option Bool :=
  (if (0 : Int) ≤ a1 ∧ a1 < (a0.fp.fEdges.length : Int) then ((search_given k a0.fpartial.fEdges a1).bind fun t1223 => (jn (κ := Bool → Option Bool) (fun (x30 : Bool) => (bif x30 then (some false) else (if (0 : Int) ≤ a2 ∧ a2 < (a0.fg.fEdges.length : Int) then (if (0 : Int) ≤ (rd a0.fp.fEdges a1).fFrom ∧ (rd a0.fp.fEdges a1).fFrom < (a0.fnodes.length : Int) then (if (0 : Int) ≤ (rd a0.fp.fEdges a1).fTo ∧ (rd a0.fp.fEdges a1).fTo < (a0.fnodes.length : Int) then (some ([(rd a0.fg.fEdges a2).fType, (rd a0.fg.fEdges a2).fFrom, (rd a0.fg.fEdges a2).fTo] == [(rd a0.fp.fEdges a1).fType, (rd a0.fnodes ((rd a0.fp.fEdges a1).fFrom)), (rd a0.fnodes ((rd a0.fp.fEdges a1).fTo))])) else none) else none) else none))) (fun j1226 => (bif (decide (t1223 ≥ 0)) then (j1226 (t1223 != a2)) else (j1226 false))))) else none)
def search_finder_possible.b1 (k : Nat) (a0 : Finder) (x20 : Int) (rec0 : Int → Option Bool) (rec1 : Int → Option Bool) (x38 : Int) : Option Bool :=
  (bif (decide (x38 < (a0.fg.fEdges.length : Int))) then ((search_finder_fits k a0 x20 x38).bind fun t1412 => (bif t1412 then (if inR (x20 + 1) then (rec0 (x20 + 1)) else none) else (if inR (x38 + 1) then (rec1 (x38 + 1)) else none))) else (some false))
def search_finder_possible.b0 (k : Nat) (a0 : Finder) (rec0 : Int → Option Bool) (x20 : Int) : Option Bool :=
  (bif (decide (x20 < (a0.fp.fEdges.length : Int))) then (if (0 : Int) ≤ x20 ∧ x20 < (a0.fp.fEdges.length : Int) then (bif ((if (rd a0.fp.fEdges x20).fTo > (rd a0.fp.fEdges x20).fFrom then (rd a0.fp.fEdges x20).fTo else (rd a0.fp.fEdges x20).fFrom) != ((a0.fnodes.length : Int) - 1)) then (if inR (x20 + 1) then (rec0 (x20 + 1)) else none) else (loop1 k (search_finder_possible.b1 k a0 x20 rec0) 0)) else none) else (some true))
def search_finder_possible (k : Nat) (a0 : Finder) : Option Bool :=
  (if inR ((a0.fnodes.length : Int) - 1) then (loop1 k (search_finder_possible.b0 k a0) 0) else none)
def slices_Clone_int (_k : Nat) (a0 : (List Int)) : Option (List Int) := if a0.length ≤ lim then some a0 else none
def search_finder_find.b0 (k : Nat) (self : Finder → Option ((List Int) × (List Int) × (List Morphism))) (a0 : Finder) (j3647 : (List Int) → (List Int) → (List Morphism) → Option ((List Int) × (List Int) × (List Morphism))) (rec0 : (List Int) → (List Int) → (List Morphism) → Int → Option ((List Int) × (List Int) × (List Morphism))) (y9 : (List Int)) (y10 : (List Int)) (y11 : (List Morphism)) (x63 : Int) : Option ((List Int) × (List Int) × (List Morphism)) :=
  (bif (decide (x63 < (a0.fg.fNodes.length : Int))) then (if (0 : Int) ≤ x63 ∧ x63 < (a0.fg.fNodes.length : Int) then ((search_given k a0.fpartial.fNodes (a0.fnodes.length : Int)).bind fun t4019 => (jn (κ := Bool → Option ((List Int) × (List Int) × (List Morphism))) (fun (x115 : Bool) => (bif x115 then (if inR (x63 + 1) then (rec0 y9 y10 y11 (x63 + 1)) else none) else (if y9.length + [x63].length ≤ lim then ((search_finder_possible k (Finder.mk a0.fp a0.fg a0.fis a0.fpartial a0.finjective a0.fmost (y9 ++ [x63]) y10 y11)).bind fun t4054 => (jn (κ := (List Int) → (List Int) → (List Morphism) → Option ((List Int) × (List Int) × (List Morphism))) (fun (y9' : (List Int)) (y10' : (List Int)) (y11' : (List Morphism)) => (if (0 : Int) ≤ (a0.fnodes.length : Int) ∧ (a0.fnodes.length : Int) ≤ (y9'.length : Int) then (if inR (x63 + 1) then (rec0 (y9'.take ((a0.fnodes.length : Int) : Int).toNat) y10' y11' (x63 + 1)) else none) else none)) (fun j4067 => (bif t4054 then ((self (Finder.mk a0.fp a0.fg a0.fis a0.fpartial a0.finjective a0.fmost (y9 ++ [x63]) y10 y11)).bind fun t4072 => (j4067 t4072.1 t4072.2.1 t4072.2.2)) else (j4067 (y9 ++ [x63]) y10 y11))))) else none))) (fun j4049 => (bif (decide (t4019 ≥ 0)) then (bif (t4019 != x63) then (j4049 true) else (if (0 : Int) ≤ (a0.fnodes.length : Int) ∧ (a0.fnodes.length : Int) < (a0.fp.fNodes.length : Int) then (if (0 : Int) ≤ (rd a0.fp.fNodes (a0.fnodes.length : Int)) ∧ (rd a0.fp.fNodes (a0.fnodes.length : Int)) < (a0.fis.length : Int) then (if (0 : Int) ≤ (rd a0.fg.fNodes x63) ∧ (rd a0.fg.fNodes x63) < ((rd a0.fis (rd a0.fp.fNodes (a0.fnodes.length : Int))).length : Int) then (bif (!(rd (rd a0.fis (rd a0.fp.fNodes (a0.fnodes.length : Int))) (rd a0.fg.fNodes x63))) then (j4049 true) else (bif a0.finjective then ((slices_Contains_int k y9 x63).bind fun t4083 => (j4049 t4083)) else (j4049 false))) else none) else none) else none)) else (if (0 : Int) ≤ (a0.fnodes.length : Int) ∧ (a0.fnodes.length : Int) < (a0.fp.fNodes.length : Int) then (if (0 : Int) ≤ (rd a0.fp.fNodes (a0.fnodes.length : Int)) ∧ (rd a0.fp.fNodes (a0.fnodes.length : Int)) < (a0.fis.length : Int) then (if (0 : Int) ≤ (rd a0.fg.fNodes x63) ∧ (rd a0.fg.fNodes x63) < ((rd a0.fis (rd a0.fp.fNodes (a0.fnodes.length : Int))).length : Int) then (bif (!(rd (rd a0.fis (rd a0.fp.fNodes (a0.fnodes.length : Int))) (rd a0.fg.fNodes x63))) then (j4049 true) else (bif a0.finjective then ((slices_Contains_int k y9 x63).bind fun t4089 => (j4049 t4089)) else (j4049 false))) else none) else none) else none))))) else none) else (j3647 y9 y10 y11))
def search_finder_find.b1 (k : Nat) (self : Finder → Option ((List Int) × (List Int) × (List Morphism))) (a0 : Finder) (j3647 : (List Int) → (List Int) → (List Morphism) → Option ((List Int) × (List Int) × (List Morphism))) (rec1 : (List Int) → (List Int) → (List Morphism) → Int → Option ((List Int) × (List Int) × (List Morphism))) (y9 : (List Int)) (y10 : (List Int)) (y11 : (List Morphism)) (x164 : Int) : Option ((List Int) × (List Int) × (List Morphism)) :=
  (bif (decide (x164 < (a0.fg.fEdges.length : Int))) then (jn (κ := Bool → Option ((List Int) × (List Int) × (List Morphism))) (fun (x185 : Bool) => (bif x185 then (if inR (x164 + 1) then (rec1 y9 y10 y11 (x164 + 1)) else none) else (if y10.length + [x164].length ≤ lim then ((self (Finder.mk a0.fp a0.fg a0.fis a0.fpartial a0.finjective a0.fmost y9 (y10 ++ [x164]) y11)).bind fun t4363 => (if (0 : Int) ≤ (a0.fedges.length : Int) ∧ (a0.fedges.length : Int) ≤ (t4363.2.1.length : Int) then (if inR (x164 + 1) then (rec1 t4363.1 (t4363.2.1.take ((a0.fedges.length : Int) : Int).toNat) t4363.2.2 (x164 + 1)) else none) else none)) else none))) (fun j4358 => ((search_finder_fits k (Finder.mk a0.fp a0.fg a0.fis a0.fpartial a0.finjective a0.fmost y9 y10 y11) (a0.fedges.length : Int) x164).bind fun t4370 => (bif (!t4370) then (j4358 true) else (bif a0.finjective then ((slices_Contains_int k y10 x164).bind fun t4373 => (j4358 t4373)) else (j4358 false)))))) else (j3647 y9 y10 y11))
def search_finder_find.main (self : Finder → Option ((List Int) × (List Int) × (List Morphism))) (k : Nat) (a0 : Finder) : Option ((List Int) × (List Int) × (List Morphism)) :=
  (bif ((a0.fout.length : Int) == a0.fmost) then (some (a0.fnodes, a0.fedges, a0.fout)) else (jn (κ := (List Int) → (List Int) → (List Morphism) → Option ((List Int) × (List Int) × (List Morphism))) (fun (y9 : (List Int)) (y10 : (List Int)) (y11 : (List Morphism)) => (some (y9, y10, y11))) (fun j3647 => (bif (decide ((a0.fnodes.length : Int) < (a0.fp.fNodes.length : Int))) then (loop4 k (search_finder_find.b0 k self a0 j3647) a0.fnodes a0.fedges a0.fout 0) else (bif (decide ((a0.fedges.length : Int) < (a0.fp.fEdges.length : Int))) then (loop4 k (search_finder_find.b1 k self a0 j3647) a0.fnodes a0.fedges a0.fout 0) else ((slices_Clone_int k a0.fnodes).bind fun t4382 => ((slices_Clone_int k a0.fedges).bind fun t4383 => (if a0.fout.length + [(Morphism.mk t4382 t4383)].length ≤ lim then (j3647 a0.fnodes a0.fedges (a0.fout ++ [(Morphism.mk t4382 t4383)])) else none))))))))
def search_finder_find : Nat → Finder → Option ((List Int) × (List Int) × (List Morphism))
  | 0, _ => none
  | k + 1, a0 => search_finder_find.main (search_finder_find k) k a0
def search_found (k : Nat) (a0 : Types) (a1 : Graph) (a2 : Graph) (a3 : OMorphism) (a4 : Bool) (a5 : Int) : Option (List Morphism) :=
  ((search_below k a0).bind fun t4390 => ((search_finder_find k (Finder.mk a1 a2 t4390 a3 a4 a5 [] [] [])).bind fun t4395 => (some t4395.2.2)))
def search_all (k : Nat) (a0 : Types) (a1 : Graph) (a2 : Graph) (a3 : OMorphism) (a4 : Bool) : Option ((List Morphism) × Int) :=
  ((search_found k a0 a1 a2 a3 a4 5001).bind fun t4399 => (bif (decide ((t4399.length : Int) > 5000)) then (some ([], 3)) else (some (t4399, 0))))
def search_All (k : Nat) (a0 : Types) (a1 : Graph) (a2 : Graph) (a3 : Bool) : Option ((List Morphism) × Int) :=
  ((search_valid k a0 a1 a2).bind fun t4401 => (bif (t4401 != 0) then (some ([], t4401)) else ((search_all k a0 a1 a2 (OMorphism.mk none none) a3).bind fun t4403 => (some (t4403.1, t4403.2)))))
def attribute_value (k : Nat) (a0 : Term) (a1 : (List Int)) : Option Int :=
  (bif (decide (a0.fVar < 0)) then (some a0.fAdd) else (if (0 : Int) ≤ a0.fVar ∧ a0.fVar < (a1.length : Int) then (if inR ((rd a1 a0.fVar) + a0.fAdd) then (some ((rd a1 a0.fVar) + a0.fAdd)) else none) else none))
def difference_wide (k : Nat) (a0 : Int) (a1 : Int) : Option (Int × Int) :=
  (if (0 : Int) ≤ (IntKind.u64.wrap a0) ∧ (0 : Int) ≤ (IntKind.u64.wrap a1) ∧ (0 : Int) ≤ 0 ∧ 0 ≤ (1 : Int) then (if inR ((shR .i64 a0 63) + (shR .i64 a1 63)) then (if inR (((shR .i64 a0 63) + (shR .i64 a1 63)) + (IntKind.i64.wrap (((IntKind.u64.wrap a0) + (IntKind.u64.wrap a1) + 0) / 18446744073709551616))) then (some ((((shR .i64 a0 63) + (shR .i64 a1 63)) + (IntKind.i64.wrap (((IntKind.u64.wrap a0) + (IntKind.u64.wrap a1) + 0) / 18446744073709551616))), (((IntKind.u64.wrap a0) + (IntKind.u64.wrap a1) + 0) % 18446744073709551616))) else none) else none) else none)
def difference_Holds_1 (k : Nat) (a0 : Term) (a1 : (List Int)) : Option (Int × Int × Bool) :=
  (bif (a0.fVar == (-1)) then ((difference_wide k 0 a0.fAdd).bind fun t4415 => (some (t4415.1, t4415.2, true))) else (jn (κ := Bool → Option (Int × Int × Bool)) (fun (x22 : Bool) => (bif x22 then (some (0, 0, false)) else (if (0 : Int) ≤ a0.fVar ∧ a0.fVar < (a1.length : Int) then ((difference_wide k (rd a1 a0.fVar) a0.fAdd).bind fun t4425 => (some (t4425.1, t4425.2, true))) else none))) (fun j4418 => (bif (decide (a0.fVar < 0)) then (j4418 true) else (j4418 (decide (a0.fVar ≥ (a1.length : Int))))))))
def cmp_isNaN_int (k : Nat) (a0 : Int) : Option Bool :=
  (some (a0 != a0))
def cmp_Compare_int (k : Nat) (a0 : Int) (a1 : Int) : Option Int :=
  ((cmp_isNaN_int k a0).bind fun t4427 => ((cmp_isNaN_int k a1).bind fun t4428 => (bif t4427 then (bif t4428 then (some 0) else (some (-1))) else (bif t4428 then (some 1) else (bif (decide (a0 < a1)) then (some (-1)) else (bif (decide (a0 > a1)) then (some 1) else (some 0)))))))
def cmp_isNaN_uint64 (k : Nat) (a0 : Int) : Option Bool :=
  (some (a0 != a0))
def cmp_Compare_uint64 (k : Nat) (a0 : Int) (a1 : Int) : Option Int :=
  ((cmp_isNaN_uint64 k a0).bind fun t4434 => ((cmp_isNaN_uint64 k a1).bind fun t4435 => (bif t4434 then (bif t4435 then (some 0) else (some (-1))) else (bif t4435 then (some 1) else (bif (decide (a0 < a1)) then (some (-1)) else (bif (decide (a0 > a1)) then (some 1) else (some 0)))))))
def cmp_Or_int.b0 (a0 : (List Int)) (rec0 : Int → Option Int) (x8 : Int) : Option Int :=
  (bif (decide (x8 < (a0.length : Int))) then (if (0 : Int) ≤ x8 ∧ x8 < (a0.length : Int) then (bif ((rd a0 x8) != 0) then (some (rd a0 x8)) else (if inR (x8 + 1) then (rec0 (x8 + 1)) else none)) else none) else (some 0))
def cmp_Or_int (k : Nat) (a0 : (List Int)) : Option Int :=
  (loop1 k (cmp_Or_int.b0 a0) 0)
def difference_Holds (k : Nat) (a0 : Test) (a1 : (List Int)) : Option Bool :=
  (((fun x => difference_Holds_1 k x a1) a0.fLeft).bind fun t4453 => (((fun x => difference_Holds_1 k x a1) a0.fRight).bind fun t4454 => (jn (κ := Bool → Option Bool) (fun (x35 : Bool) => (bif x35 then (some false) else ((cmp_Compare_int k t4453.1 t4454.1).bind fun t4459 => ((cmp_Compare_uint64 k t4453.2.1 t4454.2.1).bind fun t4460 => ((cmp_Or_int k [t4459, t4460]).bind fun t4461 => (jn (κ := Bool → Option Bool) (fun (x4 : Bool) => (some x4)) (fun j4467 => (bif (a0.fKind == 1) then (bif (decide (t4461 ≤ 0)) then (j4467 true) else (bif (a0.fKind == 2) then (j4467 (t4461 == 0)) else (j4467 false))) else (bif (a0.fKind == 2) then (j4467 (t4461 == 0)) else (j4467 false)))))))))) (fun j4457 => (bif (!t4453.2.2) then (j4457 true) else (j4457 (!t4454.2.2)))))))
def attribute_solve.b1 (k : Nat) (a0 : Pattern) (x8 : (List Int)) (rec1 : Int → Option ((List Int) × Int)) (x76 : Int) : Option ((List Int) × Int) :=
  (bif (decide (x76 < (a0.fTests.length : Int))) then (if (0 : Int) ≤ x76 ∧ x76 < (a0.fTests.length : Int) then ((difference_Holds k (rd a0.fTests x76) x8).bind fun t4631 => (bif (!t4631) then (some ([], 16)) else (if inR (x76 + 1) then (rec1 (x76 + 1)) else none))) else none) else (some (x8, 0)))
def attribute_solve.b0 (k : Nat) (a0 : Pattern) (a1 : Host) (a2 : Morphism) (rec0 : (List Int) → (List Bool) → Int → Option ((List Int) × Int)) (x8 : (List Int)) (x9 : (List Bool)) (x25 : Int) : Option ((List Int) × Int) :=
  (bif (decide (x25 < (a0.fSlots.length : Int))) then (if (0 : Int) ≤ x25 ∧ x25 < (a0.fSlots.length : Int) then (if (0 : Int) ≤ (rd a0.fSlots x25).fNode ∧ (rd a0.fSlots x25).fNode < (a2.fNodes.length : Int) then (if (0 : Int) ≤ (rd a2.fNodes ((rd a0.fSlots x25).fNode)) ∧ (rd a2.fNodes ((rd a0.fSlots x25).fNode)) < (a1.fValues.length : Int) then (if (0 : Int) ≤ (rd a0.fSlots x25).fAttr ∧ (rd a0.fSlots x25).fAttr < ((rd a1.fValues (rd a2.fNodes ((rd a0.fSlots x25).fNode))).length : Int) then (jn (κ := Bool → Option ((List Int) × Int)) (fun (x54 : Bool) => (jn (κ := (List Int) → (List Bool) → Option ((List Int) × Int)) (fun (x8' : (List Int)) (x9' : (List Bool)) => ((attribute_value k ((rd a0.fSlots x25).fTerm) x8').bind fun t4607 => (bif (t4607 != (rd (rd a1.fValues (rd a2.fNodes ((rd a0.fSlots x25).fNode))) ((rd a0.fSlots x25).fAttr))) then (some ([], 11)) else (if inR (x25 + 1) then (rec0 x8' x9' (x25 + 1)) else none)))) (fun j4606 => (bif x54 then (if inR ((rd (rd a1.fValues (rd a2.fNodes ((rd a0.fSlots x25).fNode))) ((rd a0.fSlots x25).fAttr)) - (rd a0.fSlots x25).fTerm.fAdd) then (if (0 : Int) ≤ (rd a0.fSlots x25).fTerm.fVar ∧ (rd a0.fSlots x25).fTerm.fVar < (x8.length : Int) then (if (0 : Int) ≤ (rd a0.fSlots x25).fTerm.fVar ∧ (rd a0.fSlots x25).fTerm.fVar < (x9.length : Int) then (j4606 (x8.set ((rd a0.fSlots x25).fTerm.fVar : Int).toNat ((rd (rd a1.fValues (rd a2.fNodes ((rd a0.fSlots x25).fNode))) ((rd a0.fSlots x25).fAttr)) - (rd a0.fSlots x25).fTerm.fAdd)) (x9.set ((rd a0.fSlots x25).fTerm.fVar : Int).toNat true)) else none) else none) else none) else (j4606 x8 x9))))) (fun j4600 => (bif (decide ((rd a0.fSlots x25).fTerm.fVar ≥ 0)) then (if (0 : Int) ≤ (rd a0.fSlots x25).fTerm.fVar ∧ (rd a0.fSlots x25).fTerm.fVar < (x9.length : Int) then (j4600 (!(rd x9 ((rd a0.fSlots x25).fTerm.fVar)))) else none) else (j4600 false)))) else none) else none) else none) else none) else (loop1 k (attribute_solve.b1 k a0 x8) 0))
def attribute_solve (k : Nat) (a0 : Pattern) (a1 : Host) (a2 : Morphism) : Option ((List Int) × Int) :=
  (jn (κ := Option ((List Int) × Int)) ((loop3 k (attribute_solve.b0 k a0 a1 a2) (List.replicate (a0.fVars : Int).toNat (0 : Int)) (List.replicate (a0.fVars : Int).toNat false) 0)) (fun j4486 => (if (0 : Int) ≤ a0.fVars ∧ a0.fVars ≤ (lim : Int) then (if (0 : Int) ≤ a0.fVars ∧ a0.fVars ≤ (lim : Int) then j4486 else none) else none)))
def attribute_Matches.b0 (k : Nat) (a1 : Pattern) (a2 : Host) (t4640 : ((List Morphism) × Int)) (rec0 : (List Match) → Int → Option ((List Match) × Int)) (x13 : (List Match)) (x40 : Int) : Option ((List Match) × Int) :=
  (bif (decide (x40 < (t4640.1.length : Int))) then (if (0 : Int) ≤ x40 ∧ x40 < (t4640.1.length : Int) then ((attribute_solve k a1 a2 (rd t4640.1 x40)).bind fun t4677 => (bif (t4677.2 == 0) then (if x13.length + [(Match.mk (rd t4640.1 x40) t4677.1)].length ≤ lim then (if inR (x40 + 1) then (rec0 (x13 ++ [(Match.mk (rd t4640.1 x40) t4677.1)]) (x40 + 1)) else none) else none) else (if inR (x40 + 1) then (rec0 x13 (x40 + 1)) else none))) else none) else (some (x13, 0)))
def attribute_Matches (k : Nat) (a0 : Types) (a1 : Pattern) (a2 : Host) (a3 : Bool) : Option ((List Match) × Int) :=
  ((attribute_given k a0 a1 a2).bind fun t4638 => (bif (t4638 != 0) then (some ([], t4638)) else ((search_All k a0 a1.fGraph a2.fGraph a3).bind fun t4640 => (bif (t4640.2 != 0) then (some ([], t4640.2)) else (loop2 k (attribute_Matches.b0 k a1 a2 t4640) [] 0)))))
def slices_Clone_Test (_k : Nat) (a0 : (List Test)) : Option (List Test) := if a0.length ≤ lim then some a0 else none
def attribute_system_1 (k : Nat) (a0 : Int) : Option Term :=
  (some (Term.mk (-1) a0))
def attribute_system.b1 (a1 : Pattern) (x5 : (List Test)) (x19 : Int) (rec0 : (List Test) → Int → Option (List Test)) (t4886 : Term) (t4887 : Term) (rec1 : Int → Option (List Test)) (x11 : Int) : Option (List Test) :=
  (bif (decide (x11 ≥ 0)) then (if (0 : Int) ≤ x11 ∧ x11 < (a1.fSlots.length : Int) then (jn (κ := Bool → Option (List Test)) (fun (x70 : Bool) => (bif x70 then (if (x5 ++ [(Test.mk 1 t4886 ((rd a1.fSlots x19).fTerm)), (Test.mk 1 ((rd a1.fSlots x19).fTerm) t4887)]).length + [(Test.mk 2 ((rd a1.fSlots x11).fTerm) ((rd a1.fSlots x19).fTerm))].length ≤ lim then (if inR (x19 + 1) then (rec0 ((x5 ++ [(Test.mk 1 t4886 ((rd a1.fSlots x19).fTerm)), (Test.mk 1 ((rd a1.fSlots x19).fTerm) t4887)]) ++ [(Test.mk 2 ((rd a1.fSlots x11).fTerm) ((rd a1.fSlots x19).fTerm))]) (x19 + 1)) else none) else none) else (if inR (x11 - 1) then (rec1 (x11 - 1)) else none))) (fun j4955 => (bif ((rd a1.fSlots x11).fNode == (rd a1.fSlots x19).fNode) then (j4955 ((rd a1.fSlots x11).fAttr == (rd a1.fSlots x19).fAttr)) else (j4955 false)))) else none) else (if inR (x19 + 1) then (rec0 (x5 ++ [(Test.mk 1 t4886 ((rd a1.fSlots x19).fTerm)), (Test.mk 1 ((rd a1.fSlots x19).fTerm) t4887)]) (x19 + 1)) else none))
def attribute_system.b0 (k : Nat) (a0 : Types) (a1 : Pattern) (rec0 : (List Test) → Int → Option (List Test)) (x5 : (List Test)) (x19 : Int) : Option (List Test) :=
  (bif (decide (x19 < (a1.fSlots.length : Int))) then (if (0 : Int) ≤ x19 ∧ x19 < (a1.fSlots.length : Int) then ((attribute_attr k a0 a1 (rd a1.fSlots x19)).bind fun t4876 => (((fun x => attribute_system_1 k x) t4876.1.fLow).bind fun t4886 => (((fun x => attribute_system_1 k x) t4876.1.fHigh).bind fun t4887 => (if x5.length + [(Test.mk 1 t4886 ((rd a1.fSlots x19).fTerm)), (Test.mk 1 ((rd a1.fSlots x19).fTerm) t4887)].length ≤ lim then (if inR (x19 - 1) then (loop1 k (attribute_system.b1 a1 x5 x19 rec0 t4886 t4887) (x19 - 1)) else none) else none)))) else none) else (some x5))
def attribute_system (k : Nat) (a0 : Types) (a1 : Pattern) : Option (List Test) :=
  ((slices_Clone_Test k a1.fTests).bind fun t4687 => (loop2 k (attribute_system.b0 k a0 a1) t4687 0))
def difference_arcs.b0 (a0 : (List Test)) (rec0 : (List Arc) → Int → Option (List Arc)) (x3 : (List Arc)) (x9 : Int) : Option (List Arc) :=
  (bif (decide (x9 < (a0.length : Int))) then (if (0 : Int) ≤ x9 ∧ x9 < (a0.length : Int) then (if inR ((rd a0 x9).fLeft.fVar + 1) then (if inR ((rd a0 x9).fRight.fVar + 1) then (if inR ((rd a0 x9).fRight.fAdd - (rd a0 x9).fLeft.fAdd) then (if x3.length + [(Arc.mk (Use.mk x9 1) ((rd a0 x9).fLeft.fVar + 1) ((rd a0 x9).fRight.fVar + 1) ((rd a0 x9).fRight.fAdd - (rd a0 x9).fLeft.fAdd))].length ≤ lim then (bif ((rd a0 x9).fKind == 2) then (if inR (0 - ((rd a0 x9).fRight.fAdd - (rd a0 x9).fLeft.fAdd)) then (if (x3 ++ [(Arc.mk (Use.mk x9 1) ((rd a0 x9).fLeft.fVar + 1) ((rd a0 x9).fRight.fVar + 1) ((rd a0 x9).fRight.fAdd - (rd a0 x9).fLeft.fAdd))]).length + [(Arc.mk (Use.mk x9 (-1)) ((rd a0 x9).fRight.fVar + 1) ((rd a0 x9).fLeft.fVar + 1) (0 - ((rd a0 x9).fRight.fAdd - (rd a0 x9).fLeft.fAdd)))].length ≤ lim then (if inR (x9 + 1) then (rec0 ((x3 ++ [(Arc.mk (Use.mk x9 1) ((rd a0 x9).fLeft.fVar + 1) ((rd a0 x9).fRight.fVar + 1) ((rd a0 x9).fRight.fAdd - (rd a0 x9).fLeft.fAdd))]) ++ [(Arc.mk (Use.mk x9 (-1)) ((rd a0 x9).fRight.fVar + 1) ((rd a0 x9).fLeft.fVar + 1) (0 - ((rd a0 x9).fRight.fAdd - (rd a0 x9).fLeft.fAdd)))]) (x9 + 1)) else none) else none) else none) else (if inR (x9 + 1) then (rec0 (x3 ++ [(Arc.mk (Use.mk x9 1) ((rd a0 x9).fLeft.fVar + 1) ((rd a0 x9).fRight.fVar + 1) ((rd a0 x9).fRight.fAdd - (rd a0 x9).fLeft.fAdd))]) (x9 + 1)) else none)) else none) else none) else none) else none) else none) else (some x3))
def difference_arcs (k : Nat) (a0 : (List Test)) : Option (List Arc) :=
  (loop2 k (difference_arcs.b0 a0) [] 0)
def difference_distances.b1 (a1 : (List Arc)) (x16 : Int) (rec0 : (List Int) → Int → Option ((List Int) × Bool)) (rec1 : (List Int) → Bool → Int → Option ((List Int) × Bool)) (x6' : (List Int)) (x7 : Bool) (x20 : Int) : Option ((List Int) × Bool) :=
  (bif (decide (x20 < (a1.length : Int))) then (if (0 : Int) ≤ x20 ∧ x20 < (a1.length : Int) then (if (0 : Int) ≤ (rd a1 x20).fto ∧ (rd a1 x20).fto < (x6'.length : Int) then (if inR ((rd x6' ((rd a1 x20).fto)) + (rd a1 x20).fmost) then (if (0 : Int) ≤ (rd a1 x20).ffrom ∧ (rd a1 x20).ffrom < (x6'.length : Int) then (bif (decide (((rd x6' ((rd a1 x20).fto)) + (rd a1 x20).fmost) < (rd x6' ((rd a1 x20).ffrom)))) then (if (0 : Int) ≤ (rd a1 x20).ffrom ∧ (rd a1 x20).ffrom < (x6'.length : Int) then (if inR (x20 + 1) then (rec1 (x6'.set ((rd a1 x20).ffrom : Int).toNat ((rd x6' ((rd a1 x20).fto)) + (rd a1 x20).fmost)) true (x20 + 1)) else none) else none) else (if inR (x20 + 1) then (rec1 x6' x7 (x20 + 1)) else none)) else none) else none) else none) else none) else (bif (!x7) then (some (x6', true)) else (if inR (x16 + 1) then (rec0 x6' (x16 + 1)) else none)))
def difference_distances.b0 (k : Nat) (a0 : Int) (a1 : (List Arc)) (rec0 : (List Int) → Int → Option ((List Int) × Bool)) (x6 : (List Int)) (x16 : Int) : Option ((List Int) × Bool) :=
  (bif (decide (x16 < (a0 + 2))) then (loop3 k (difference_distances.b1 a1 x16 rec0) x6 false 0) else (some ([], false)))
def difference_distances (k : Nat) (a0 : Int) (a1 : (List Arc)) : Option ((List Int) × Bool) :=
  (if inR (a0 + 1) then (if (0 : Int) ≤ (a0 + 1) ∧ (a0 + 1) ≤ (lim : Int) then (if inR (a0 + 2) then (loop2 k (difference_distances.b0 k a0 a1) (List.replicate ((a0 + 1) : Int).toNat (0 : Int)) 0) else none) else none) else none)
def bits_Mul32 (k : Nat) (a0 : Int) (a1 : Int) : Option (Int × Int) :=
  (some ((IntKind.u32.wrap (shR .u64 (IntKind.u64.wrap ((IntKind.u64.wrap a0) * (IntKind.u64.wrap a1))) 32)), (IntKind.u32.wrap (IntKind.u64.wrap ((IntKind.u64.wrap a0) * (IntKind.u64.wrap a1))))))
def bits_Mul64 (k : Nat) (a0 : Int) (a1 : Int) : Option (Int × Int) :=
  (some ((IntKind.u64.wrap ((IntKind.u64.wrap ((IntKind.u64.wrap ((shR .u64 a0 32) * (shR .u64 a1 32))) + (shR .u64 (IntKind.u64.wrap ((IntKind.u64.wrap ((shR .u64 a0 32) * (bAnd .u64 a1 4294967295))) + (shR .u64 (IntKind.u64.wrap ((bAnd .u64 a0 4294967295) * (bAnd .u64 a1 4294967295))) 32))) 32))) + (shR .u64 (IntKind.u64.wrap ((bAnd .u64 (IntKind.u64.wrap ((IntKind.u64.wrap ((shR .u64 a0 32) * (bAnd .u64 a1 4294967295))) + (shR .u64 (IntKind.u64.wrap ((bAnd .u64 a0 4294967295) * (bAnd .u64 a1 4294967295))) 32))) 4294967295) + (IntKind.u64.wrap ((bAnd .u64 a0 4294967295) * (shR .u64 a1 32))))) 32))), (IntKind.u64.wrap (a0 * a1))))
def bits_Mul (k : Nat) (a0 : Int) (a1 : Int) : Option (Int × Int) :=
  ((bits_Mul64 k a0 a1).bind fun t5190 => (some (t5190.1, t5190.2)))
def slices_Repeat_int.b0 (rec0 : (List Int) → Int → Option (List Int)) (x7 : (List Int)) (x8 : Int) : Option (List Int) :=
  (bif (decide (x8 < (x7.length : Int))) then (if (0 : Int) ≤ x8 ∧ x8 < (x7.length : Int) then (if (0 : Int) ≤ x8 ∧ x8 < (x7.length : Int) then (if (x8 : Int).toNat < x7.length ∧ (x8 : Int).toNat < x7.length then (if inR (x8 + ((min (x8 : Int).toNat (x7.length - (x8 : Int).toNat)) : Nat)) then (rec0 (cpy x7 (x8 : Int).toNat (x7.take (min (x8 : Int).toNat (x7.length - (x8 : Int).toNat)))) (x8 + ((min (x8 : Int).toNat (x7.length - (x8 : Int).toNat)) : Nat))) else none) else none) else none) else none) else (some x7))
def slices_Repeat_int (k : Nat) (a0 : (List Int)) (a1 : Int) : Option (List Int) :=
  (bif (decide (a1 < 0)) then none else ((bits_Mul k (IntKind.u64.wrap (a0.length : Int)) (IntKind.u64.wrap a1)).bind fun t5193 => (jn (κ := Bool → Option (List Int)) (fun (x26 : Bool) => (bif x26 then none else (if (0 : Int) ≤ (IntKind.i64.wrap t5193.2) ∧ (IntKind.i64.wrap t5193.2) ≤ (lim : Int) then (if 0 < a0.length ∧ a0.length ≤ (List.replicate ((IntKind.i64.wrap t5193.2) : Int).toNat (0 : Int)).length then (loop2 k (slices_Repeat_int.b0) (cpy (List.replicate ((IntKind.i64.wrap t5193.2) : Int).toNat (0 : Int)) 0 a0) (a0.length : Nat)) else none) else none))) (fun j5196 => (bif (decide (t5193.1 > 0)) then (j5196 true) else (j5196 (decide (t5193.2 > 9223372036854775807))))))))
def difference_fresh.b0 (k : Nat) (a0 : Int) (rec0 : (List (List Int)) → Int → Option (List (List Int))) (x3 : (List (List Int))) (x8 : Int) : Option (List (List Int)) :=
  (bif (decide (x8 < (a0 + 1))) then (if inR (a0 + 1) then ((slices_Repeat_int k [1125899906842624] (a0 + 1)).bind fun t5273 => (if (0 : Int) ≤ x8 ∧ x8 < (t5273.length : Int) then (if x3.length + [(t5273.set (x8 : Int).toNat 0)].length ≤ lim then (if inR (x8 + 1) then (rec0 (x3 ++ [(t5273.set (x8 : Int).toNat 0)]) (x8 + 1)) else none) else none) else none)) else none) else (some x3))
def difference_fresh (k : Nat) (a0 : Int) : Option (List (List Int)) :=
  (if inR (a0 + 1) then (loop2 k (difference_fresh.b0 k a0) [] 0) else none)
def difference_closed.b0 (a0 : (List (List Int))) (rec0 : Int → Option Bool) (x6 : Int) : Option Bool :=
  (bif (decide (x6 < (a0.length : Int))) then (if (0 : Int) ≤ x6 ∧ x6 < (a0.length : Int) then (if (0 : Int) ≤ x6 ∧ x6 < ((rd a0 x6).length : Int) then (bif (decide ((rd (rd a0 x6) x6) < 0)) then (some true) else (if inR (x6 + 1) then (rec0 (x6 + 1)) else none)) else none) else none) else (some false))
def difference_closed (k : Nat) (a0 : (List (List Int))) : Option Bool :=
  (loop1 k (difference_closed.b0 a0) 0)
def difference_longer.b2 (a0 : (List (List Int))) (a1 : (List Arc)) (x27 : Int) (rec1 : (List (List Int)) → Int → Option (List (List Int))) (rec2 : (List (List Int)) → Int → Option (List (List Int))) (x6'' : (List (List Int))) (x33 : Int) : Option (List (List Int)) :=
  (bif (decide (x33 < (((a0.length : Int) - 1) + 1))) then (if (0 : Int) ≤ (rd a1 x27).fto ∧ (rd a1 x27).fto < (a0.length : Int) then (if (0 : Int) ≤ x33 ∧ x33 < ((rd a0 ((rd a1 x27).fto)).length : Int) then (bif (decide ((rd (rd a0 ((rd a1 x27).fto)) x33) < 1125899906842624)) then (if (0 : Int) ≤ (rd a1 x27).ffrom ∧ (rd a1 x27).ffrom < (x6''.length : Int) then (if (0 : Int) ≤ (rd a1 x27).ffrom ∧ (rd a1 x27).ffrom < (x6''.length : Int) then (if (0 : Int) ≤ x33 ∧ x33 < ((rd x6'' ((rd a1 x27).ffrom)).length : Int) then (if (0 : Int) ≤ (rd a1 x27).fto ∧ (rd a1 x27).fto < (a0.length : Int) then (if (0 : Int) ≤ x33 ∧ x33 < ((rd a0 ((rd a1 x27).fto)).length : Int) then (if inR ((rd a1 x27).fmost + (rd (rd a0 ((rd a1 x27).fto)) x33)) then (if (0 : Int) ≤ x33 ∧ x33 < ((rd x6'' ((rd a1 x27).ffrom)).length : Int) then (if inR (x33 + 1) then (rec2 (x6''.set ((rd a1 x27).ffrom : Int).toNat ((rd x6'' ((rd a1 x27).ffrom)).set (x33 : Int).toNat (minI (rd (rd x6'' ((rd a1 x27).ffrom)) x33) ((rd a1 x27).fmost + (rd (rd a0 ((rd a1 x27).fto)) x33))))) (x33 + 1)) else none) else none) else none) else none) else none) else none) else none) else none) else (if inR (x33 + 1) then (rec2 x6'' (x33 + 1)) else none)) else none) else none) else (if inR (x27 + 1) then (rec1 x6'' (x27 + 1)) else none))
def difference_longer.b1 (k : Nat) (a0 : (List (List Int))) (a1 : (List Arc)) (rec1 : (List (List Int)) → Int → Option (List (List Int))) (x6' : (List (List Int))) (x27 : Int) : Option (List (List Int)) :=
  (bif (decide (x27 < (a1.length : Int))) then (if (0 : Int) ≤ x27 ∧ x27 < (a1.length : Int) then (if inR (((a0.length : Int) - 1) + 1) then (loop2 k (difference_longer.b2 a0 a1 x27 rec1) x6' 0) else none) else none) else (some x6'))
def difference_longer.b0 (k : Nat) (a0 : (List (List Int))) (a1 : (List Arc)) (rec0 : (List (List Int)) → Int → Option (List (List Int))) (x6 : (List (List Int))) (x15 : Int) : Option (List (List Int)) :=
  (bif (decide (x15 < (((a0.length : Int) - 1) + 1))) then (if inR (((a0.length : Int) - 1) + 1) then ((slices_Repeat_int k [1125899906842624] (((a0.length : Int) - 1) + 1)).bind fun t5807 => (if x6.length + 1 ≤ lim then (if inR (x15 + 1) then (rec0 (x6 ++ [t5807]) (x15 + 1)) else none) else none)) else none) else (loop2 k (difference_longer.b1 k a0 a1) x6 0))
def difference_longer (k : Nat) (a0 : (List (List Int))) (a1 : (List Arc)) : Option (List (List Int)) :=
  (if inR ((a0.length : Int) - 1) then (if inR (((a0.length : Int) - 1) + 1) then (loop2 k (difference_longer.b0 k a0 a1) ([] : List (List Int)) 0) else none) else none)
def difference_Refute.b2 (t6277 : (List Arc)) (x10 : (List (List (List Int)))) (x11 : (List Use)) (x12 : Int) (x13 : Int) (x14 : Int) (x15 : Int) (j9773 : (List Use) → Int → Int → Int → Option ((List Use) × Int)) (rec2 : Int → Option ((List Use) × Int)) (x66 : Int) : Option ((List Use) × Int) :=
  (bif (decide (x66 < (t6277.length : Int))) then (if (0 : Int) ≤ x66 ∧ x66 < (t6277.length : Int) then (jn (κ := Int → Option ((List Use) × Int)) (fun (x18 : Int) => (if (0 : Int) ≤ x15 ∧ x15 < (x10.length : Int) then (if (0 : Int) ≤ (rd t6277 x66).fto ∧ (rd t6277 x66).fto < ((rd x10 x15).length : Int) then (if (0 : Int) ≤ x18 ∧ x18 < ((rd (rd x10 x15) ((rd t6277 x66).fto)).length : Int) then (jn (κ := Bool → Option ((List Use) × Int)) (fun (x100 : Bool) => (bif x100 then (if x11.length + [(rd t6277 x66).fuse].length ≤ lim then (if inR (x14 + (rd t6277 x66).fmost) then (j9773 (x11 ++ [(rd t6277 x66).fuse]) x18 ((rd t6277 x66).fto) (x14 + (rd t6277 x66).fmost)) else none) else none) else (if inR (x66 + 1) then (rec2 (x66 + 1)) else none))) (fun j9959 => (bif (decide ((rd (rd (rd x10 x15) ((rd t6277 x66).fto)) x18) < 1125899906842624)) then (if inR (x14 + (rd t6277 x66).fmost) then (if inR ((x14 + (rd t6277 x66).fmost) + (rd (rd (rd x10 x15) ((rd t6277 x66).fto)) x18)) then (j9959 (decide (((x14 + (rd t6277 x66).fmost) + (rd (rd (rd x10 x15) ((rd t6277 x66).fto)) x18)) < 0))) else none) else none) else (j9959 false)))) else none) else none) else none)) (fun j9945 => (bif (decide (x12 < 0)) then (j9945 ((rd t6277 x66).ffrom)) else (bif ((rd t6277 x66).ffrom != x13) then (if inR (x66 + 1) then (rec2 (x66 + 1)) else none) else (j9945 x12))))) else none) else (j9773 x11 x12 x13 x14))
def difference_Refute.b1 (k : Nat) (t6277 : (List Arc)) (x10 : (List (List (List Int)))) (rec1 : (List Use) → Int → Int → Int → Int → Option ((List Use) × Int)) (x11 : (List Use)) (x12 : Int) (x13 : Int) (x14 : Int) (x15 : Int) : Option ((List Use) × Int) :=
  (bif (decide (x15 ≥ 0)) then (jn (κ := (List Use) → Int → Int → Int → Option ((List Use) × Int)) (fun (x11' : (List Use)) (x12' : Int) (x13' : Int) (x14' : Int) => (if inR (x15 - 1) then (rec1 x11' x12' x13' x14' (x15 - 1)) else none)) (fun j9773 => (loop1 k (difference_Refute.b2 t6277 x10 x11 x12 x13 x14 x15 j9773) 0))) else (some (x11, 0)))
def difference_Refute.b0 (k : Nat) (t6277 : (List Arc)) (rec0 : (List (List (List Int))) → Option ((List Use) × Int)) (x10 : (List (List (List Int)))) : Option ((List Use) × Int) :=
  (if inR ((x10.length : Int) - 1) then (if (0 : Int) ≤ ((x10.length : Int) - 1) ∧ ((x10.length : Int) - 1) < (x10.length : Int) then ((difference_closed k (rd x10 ((x10.length : Int) - 1))).bind fun t8746 => (bif (!t8746) then (if inR ((x10.length : Int) - 1) then (if (0 : Int) ≤ ((x10.length : Int) - 1) ∧ ((x10.length : Int) - 1) < (x10.length : Int) then ((difference_longer k (rd x10 ((x10.length : Int) - 1)) t6277).bind fun t8750 => (if x10.length + [t8750].length ≤ lim then (rec0 (x10 ++ [t8750])) else none)) else none) else none) else (if inR ((x10.length : Int) - 2) then (loop5 k (difference_Refute.b1 k t6277 x10) [] (-1) 0 0 ((x10.length : Int) - 2)) else none))) else none) else none)
def difference_Refute (k : Nat) (a0 : Int) (a1 : (List Test)) : Option ((List Use) × Int) :=
  ((difference_Valid k a0 a1).bind fun t6275 => (bif (t6275 != 0) then (some ([], t6275)) else ((difference_arcs k a1).bind fun t6277 => ((difference_distances k a0 t6277).bind fun t6278 => (bif t6278.2 then (some ([], 10)) else ((difference_fresh k a0).bind fun t6280 => (loop1 k (difference_Refute.b0 k t6277) [t6280])))))))
def attribute_Contradiction (k : Nat) (a0 : Types) (a1 : Pattern) : Option ((List Use) × Int) :=
  ((attribute_Valid k a0 a1).bind fun t9973 => (bif (t9973 != 0) then (some ([], t9973)) else ((attribute_system k a0 a1).bind fun t9979 => ((difference_Refute k a1.fVars t9979).bind fun t9980 => (some (t9980.1, t9980.2))))))
def ref05_SameInts.b0 (a0 : (List Int)) (a1 : (List Int)) (rec0 : Int → Option Bool) (x5 : Int) : Option Bool :=
  (bif (decide (x5 < (a0.length : Int))) then (if (0 : Int) ≤ x5 ∧ x5 < (a0.length : Int) then (if (0 : Int) ≤ x5 ∧ x5 < (a1.length : Int) then (bif ((rd a0 x5) != (rd a1 x5)) then (some false) else (if inR (x5 + 1) then (rec0 (x5 + 1)) else none)) else none) else none) else (some true))
def ref05_SameInts (k : Nat) (a0 : (List Int)) (a1 : (List Int)) : Option Bool :=
  (bif ((a0.length : Int) != (a1.length : Int)) then (some false) else (loop1 k (ref05_SameInts.b0 a0 a1) 0))
def ref21_SameMatch (k : Nat) (a0 : Match) (a1 : Match) : Option Bool :=
  (jn (κ := Bool → Option Bool) (fun (x4 : Bool) => (some x4)) (fun j10015 => ((ref05_SameInts k a0.fMorphism.fNodes a1.fMorphism.fNodes).bind fun t10016 => (bif t10016 then ((ref05_SameInts k a0.fMorphism.fEdges a1.fMorphism.fEdges).bind fun t10018 => (bif t10018 then ((ref05_SameInts k a0.fVars a1.fVars).bind fun t10020 => (j10015 t10020)) else (j10015 false))) else (j10015 false)))))
def ref21_SameMatches.b0 (k : Nat) (a0 : (List Match)) (a1 : (List Match)) (rec0 : Int → Option Bool) (x5 : Int) : Option Bool :=
  (bif (decide (x5 < (a0.length : Int))) then (if (0 : Int) ≤ x5 ∧ x5 < (a0.length : Int) then (if (0 : Int) ≤ x5 ∧ x5 < (a1.length : Int) then ((ref21_SameMatch k (rd a0 x5) (rd a1 x5)).bind fun t10055 => (bif (!t10055) then (some false) else (if inR (x5 + 1) then (rec0 (x5 + 1)) else none))) else none) else none) else (some true))
def ref21_SameMatches (k : Nat) (a0 : (List Match)) (a1 : (List Match)) : Option Bool :=
  (bif ((a0.length : Int) != (a1.length : Int)) then (some false) else (loop1 k (ref21_SameMatches.b0 k a0 a1) 0))
def law21_awake (k : Nat) : Option Bool :=
  ((ref04_Example k).bind fun t10058 => ((law21_two k (Test.mk 1 (Term.mk 0 0) (Term.mk 1 4))).bind fun t10059 => ((law21_bank k).bind fun t10060 => ((attribute_Matches k t10058 t10059 t10060 true).bind fun t10061 => ((ref04_Example k).bind fun t10062 => ((law21_two k (Test.mk 1 (Term.mk (-1) 2000) (Term.mk 0 0))).bind fun t10063 => ((attribute_Contradiction k t10062 t10063).bind fun t10064 => (jn (κ := Bool → Option Bool) (fun (x0 : Bool) => (some x0)) (fun j10070 => (bif (t10061.2 == 0) then ((ref21_SameMatches k t10061.1 ([(Match.mk (Morphism.mk [2, 1] []) [5, 10])])).bind fun t10072 => (bif t10072 then (bif (t10064.2 == 0) then (j10070 ((t10064.1.length : Int) == 2)) else (j10070 false)) else (j10070 false))) else (j10070 false)))))))))))
def attribute_Term (k : Nat) (a0 : Term) (a1 : (List Int)) : Option (Int × Int) :=
  (if inR ((a1.length : Int) - 1) then ((attribute_within k a0.fVar (-1) ((a1.length : Int) - 1)).bind fun t10076 => (bif (!t10076) then (some (0, 6)) else ((attribute_value k a0 a1).bind fun t10078 => (some (t10078, 0))))) else none)
def ref21_value (k : Nat) (a0 : Term) (a1 : (List Int)) : Option Int :=
  (bif (decide (a0.fVar < 0)) then (some a0.fAdd) else (if (0 : Int) ≤ a0.fVar ∧ a0.fVar < (a1.length : Int) then (if inR ((rd a1 a0.fVar) + a0.fAdd) then (some ((rd a1 a0.fVar) + a0.fAdd)) else none) else none))
def ref21_Term (k : Nat) (a0 : Term) (a1 : (List Int)) : Option (Int × Int) :=
  (jn (κ := Bool → Option (Int × Int)) (fun (x15 : Bool) => (bif x15 then (some (0, 6)) else ((ref21_value k a0 a1).bind fun t10090 => (some (t10090, 0))))) (fun j10088 => (bif (decide (a0.fVar < (-1))) then (j10088 true) else (j10088 (decide (a0.fVar ≥ (a1.length : Int)))))))
def law21_AttributeTerm.b0 (k : Nat) (a0 : Term) (a1 : (List Int)) (rec0 : (List Int) → Int → Option Bool) (x5 : (List Int)) (x32 : Int) : Option Bool :=
  (bif (decide (x32 < (a1.length : Int))) then (if (0 : Int) ≤ x32 ∧ x32 < (a1.length : Int) then (if x5.length + [(IntKind.i64.wrap (rd a1 x32))].length ≤ lim then (if inR (x32 + 1) then (rec0 (x5 ++ [(IntKind.i64.wrap (rd a1 x32))]) (x32 + 1)) else none) else none) else none) else ((slices_Clone_int k x5).bind fun t10148 => ((attribute_Term k a0 t10148).bind fun t10149 => ((ref21_Term k a0 x5).bind fun t10150 => (jn (κ := Bool → Option Bool) (fun (x4 : Bool) => (some x4)) (fun j10153 => (bif (t10149.1 == t10150.1) then (j10153 (t10149.2 == t10150.2)) else (j10153 false))))))))
def law21_AttributeTerm (k : Nat) (a0 : Term) (a1 : (List Int)) : Option Bool :=
  (jn (κ := Bool → Option Bool) (fun (x28 : Bool) => (bif x28 then ((law21_awake k).bind fun t10099 => (some t10099)) else (loop2 k (law21_AttributeTerm.b0 k a0 a1) [] 0))) (fun j10097 => ((law21_awake k).bind fun t10155 => (bif (!t10155) then (j10097 true) else (bif (decide ((a1.length : Int) > 100)) then (j10097 true) else (bif (decide (a0.fAdd < (-1099511627776))) then (j10097 true) else (j10097 (decide (a0.fAdd > 1099511627776)))))))))
end Go.Proofs.YtcgdfjpeboiioaaGreat
