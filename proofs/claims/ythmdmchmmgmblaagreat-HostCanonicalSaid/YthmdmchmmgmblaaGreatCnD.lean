/- The pure functions: what the Go functions compute. 'none': not told, or a panic. (Printed by gen.py.) -/
import Derived.Test.YthmdmchmmgmblaaGreatAH
namespace Go.Proofs.YthmdmchmmgmblaaGreat
open Go Go.Abs
structure Attr where
  fName : Str
  fLow : Int
  fHigh : Int
  fNames : (List Str)
  deriving Inhabited, DecidableEq
def kAttr : Kd Attr := ⟨4, fun x => [EqA (strV x.fName), EqA (.int .i64 x.fLow), EqA (.int .i64 x.fHigh), SlcA kStr x.fNames], fun _ => rfl, fun _ => rfl⟩
structure NodeType where
  fName : Str
  fParent : Int
  fAbstract : Bool
  fAttrs : (List Attr)
  deriving Inhabited, DecidableEq
def kNodeType : Kd NodeType := ⟨4, fun x => [EqA (strV x.fName), EqA (.int .i64 x.fParent), EqA (.bool x.fAbstract), SlcA kAttr x.fAttrs], fun _ => rfl, fun _ => rfl⟩
structure EdgeType where
  fName : Str
  fFrom : Int
  fTo : Int
  fOutLow : Int
  fOutHigh : Int
  fInLow : Int
  fInHigh : Int
  deriving Inhabited, DecidableEq
def kEdgeType : Kd EdgeType := ⟨7, fun x => [EqA (strV x.fName), EqA (.int .i64 x.fFrom), EqA (.int .i64 x.fTo), EqA (.int .i64 x.fOutLow), EqA (.int .i64 x.fOutHigh), EqA (.int .i64 x.fInLow), EqA (.int .i64 x.fInHigh)], fun _ => rfl, fun _ => rfl⟩
structure Types where
  fNodes : (List NodeType)
  fEdges : (List EdgeType)
  deriving Inhabited, DecidableEq
def kTypes : Kd Types := ⟨2, fun x => [SlcA kNodeType x.fNodes, SlcA kEdgeType x.fEdges], fun _ => rfl, fun _ => rfl⟩
structure Edge where
  fType : Int
  fFrom : Int
  fTo : Int
  deriving Inhabited, DecidableEq
def kEdge : Kd Edge := ⟨3, fun x => [EqA (.int .i64 x.fType), EqA (.int .i64 x.fFrom), EqA (.int .i64 x.fTo)], fun _ => rfl, fun _ => rfl⟩
structure Graph where
  fNodes : (List Int)
  fEdges : (List Edge)
  deriving Inhabited, DecidableEq
def kGraph : Kd Graph := ⟨2, fun x => [SlcA kInt x.fNodes, SlcA kEdge x.fEdges], fun _ => rfl, fun _ => rfl⟩
structure Host where
  fGraph : Graph
  fValues : (List (List Int))
  deriving Inhabited, DecidableEq
def kHost : Kd Host := ⟨3, fun x => [SlcA kInt x.fGraph.fNodes, SlcA kEdge x.fGraph.fEdges, SlcA (kSl kInt) x.fValues], fun _ => rfl, fun _ => rfl⟩
structure Token where
  fKind : Int
  fText : Str
  fLine : Int
  deriving Inhabited, DecidableEq
def kToken : Kd Token := ⟨3, fun x => [EqA (.int .i64 x.fKind), EqA (strV x.fText), EqA (.int .i64 x.fLine)], fun _ => rfl, fun _ => rfl⟩
structure Excess where
  fEdge : Int
  fNode : Int
  fCount : Int
  fOut : Bool
  deriving Inhabited, DecidableEq
def kExcess : Kd Excess := ⟨4, fun x => [EqA (.int .i64 x.fEdge), EqA (.int .i64 x.fNode), EqA (.int .i64 x.fCount), EqA (.bool x.fOut)], fun _ => rfl, fun _ => rfl⟩
structure Canon where
  fh : Host
  forder : (List Int)
  fcode : (List Int)
  fbest : (List Int)
  fleast : (List Int)
  ffound : Bool
  deriving Inhabited, DecidableEq
def kCanon : Kd Canon := ⟨8, fun x => [SlcA kInt x.fh.fGraph.fNodes, SlcA kEdge x.fh.fGraph.fEdges, SlcA (kSl kInt) x.fh.fValues, SlcA kInt x.forder, SlcA kInt x.fcode, SlcA kInt x.fbest, SlcA kInt x.fleast, EqA (.bool x.ffound)], fun _ => rfl, fun _ => rfl⟩
structure Morphism where
  fNodes : (List Int)
  fEdges : (List Int)
  deriving Inhabited, DecidableEq
def kMorphism : Kd Morphism := ⟨2, fun x => [SlcA kInt x.fNodes, SlcA kInt x.fEdges], fun _ => rfl, fun _ => rfl⟩

def ref04_Example (k : Nat) : Option Types :=
  (some (Types.mk ([(NodeType.mk ([65, 99, 99, 111, 117, 110, 116] : Str) (-1) true ([(Attr.mk ([98, 97, 108, 97, 110, 99, 101] : Str) (-1000) 1000 [])])), (NodeType.mk ([67, 97, 115, 104] : Str) 0 false []), (NodeType.mk ([76, 111, 97, 110] : Str) 0 false ([(Attr.mk ([115, 116, 97, 116, 101] : Str) 0 1 ([([111, 112, 101, 110] : Str), ([99, 108, 111, 115, 101, 100] : Str)]))])), (NodeType.mk ([80, 101, 114, 115, 111, 110] : Str) (-1) false [])]) ([(EdgeType.mk ([111, 119, 110, 115] : Str) 3 0 0 (-1) 1 1), (EdgeType.mk ([112, 97, 121, 115] : Str) 1 1 0 (-1) 0 (-1))])))
def law15_example (k : Nat) : Option Host :=
  (some (Host.mk (Graph.mk [3, 1, 1] [(Edge.mk 0 0 1), (Edge.mk 0 0 2)]) ([[], [10], [5]])))
def token_letter (k : Nat) (a0 : Int) : Option Bool :=
  (jn (κ := Bool → Option Bool) (fun (x2 : Bool) => (some x2)) (fun j105 => (bif (decide (a0 ≥ 97)) then (bif (decide (a0 ≤ 122)) then (j105 true) else (bif (decide (a0 ≥ 65)) then (j105 (decide (a0 ≤ 90))) else (j105 false))) else (bif (decide (a0 ≥ 65)) then (j105 (decide (a0 ≤ 90))) else (j105 false)))))
def token_run.b0 (a0 : Str) (a1 : (Int → Option Bool)) (rec0 : Int → Option Int) (x5 : Int) : Option Int :=
  (jn (κ := Bool → Option Int) (fun (x16 : Bool) => (bif x16 then (if inR (x5 + 1) then (rec0 (x5 + 1)) else none) else (some x5))) (fun j124 => (bif (decide (x5 < (a0.length : Int))) then (if (0 : Int) ≤ x5 ∧ x5 < (a0.length : Int) then ((a1 (bt a0 x5)).bind fun t129 => (j124 t129)) else none) else (j124 false))))
def token_run (k : Nat) (a0 : Str) (a1 : (Int → Option Bool)) : Option Int :=
  (loop1 k (token_run.b0 a0 a1) 0)
def token_digit (k : Nat) (a0 : Int) : Option Bool :=
  (jn (κ := Bool → Option Bool) (fun (x2 : Bool) => (some x2)) (fun j102 => (bif (decide (a0 ≥ 48)) then (j102 (decide (a0 ≤ 57))) else (j102 false))))
def token_part (k : Nat) (a0 : Int) : Option Bool :=
  (jn (κ := Bool → Option Bool) (fun (x2 : Bool) => (some x2)) (fun j105 => ((token_letter k a0).bind fun t106 => (bif t106 then (j105 true) else ((token_digit k a0).bind fun t108 => (bif t108 then (j105 true) else (j105 (a0 == 95))))))))
def token_quoted_1 (k : Nat) (a0 : Int) : Option Bool :=
  (jn (κ := Bool → Option Bool) (fun (x2 : Bool) => (some x2)) (fun j103 => (bif (decide (a0 ≥ 32)) then (bif (decide (a0 ≤ 126)) then (j103 (a0 != 34)) else (j103 false)) else (j103 false))))
def token_quoted (k : Nat) (a0 : Str) : Option (Int × Int) :=
  (if (0 : Int) ≤ 1 ∧ 1 ≤ (a0.length : Int) then ((token_run k (a0.drop (1 : Int).toNat) (fun x => token_quoted_1 k x)).bind fun t101 => (jn (κ := Bool → Option (Int × Int)) (fun (x19 : Bool) => (bif x19 then (some (0, 2)) else (bif (decide (t101 > 60)) then (some (0, 3)) else (if inR (t101 + 2) then (some ((t101 + 2), 0)) else none)))) (fun j107 => (if inR (1 + t101) then (bif ((1 + t101) == (a0.length : Int)) then (j107 true) else (if inR (1 + t101) then (if (0 : Int) ≤ (1 + t101) ∧ (1 + t101) < (a0.length : Int) then (j107 ((bt a0 (1 + t101)) != 34)) else none) else none)) else none)))) else none)
def slices_Index_string.b0 (a0 : (List Str)) (a1 : Str) (rec0 : Int → Option Int) (x8 : Int) : Option Int :=
  (bif (decide (x8 < (a0.length : Int))) then (if (0 : Int) ≤ x8 ∧ x8 < (a0.length : Int) then (bif (a1 == (rd a0 x8)) then (some x8) else (if inR (x8 + 1) then (rec0 (x8 + 1)) else none)) else none) else (some (-1)))
def slices_Index_string (k : Nat) (a0 : (List Str)) (a1 : Str) : Option Int :=
  (loop1 k (slices_Index_string.b0 a0 a1) 0)
def slices_Contains_string (k : Nat) (a0 : (List Str)) (a1 : Str) : Option Bool :=
  ((slices_Index_string k a0 a1).bind fun t100 => (some (decide (t100 ≥ 0))))
def token_pair (k : Nat) (a0 : Str) : Option Bool :=
  (jn (κ := Bool → Option Bool) (fun (x2 : Bool) => (some x2)) (fun j104 => (bif (decide ((a0.length : Int) ≥ 2)) then (if (0 : Int) ≤ 2 ∧ 2 ≤ (a0.length : Int) then ((slices_Contains_string k ([([45, 62] : Str), ([60, 61] : Str), ([62, 61] : Str), ([61, 61] : Str), ([33, 61] : Str)]) (a0.take (2 : Int).toNat)).bind fun t107 => (j104 t107)) else none) else (j104 false))))
def stringslite_IndexByte (_k : Nat) (a0 : Str) (a1 : Int) : Option Int := some (Lib.indexByte a0 a1.toNat.toUInt8)
def strings_IndexByte (k : Nat) (a0 : Str) (a1 : Int) : Option Int :=
  ((stringslite_IndexByte k a0 a1).bind fun t100 => (some t100))
def token_next (k : Nat) (a0 : Str) : Option (Int × Int × Int) :=
  (if (0 : Int) ≤ 0 ∧ 0 < (a0.length : Int) then ((token_letter k (bt a0 0)).bind fun t101 => (bif t101 then ((token_run k a0 (fun x => token_part k x)).bind fun t103 => (bif (decide (t103 > 20)) then (some (0, 0, 3)) else (some (1, t103, 0)))) else ((token_digit k (bt a0 0)).bind fun t105 => (bif t105 then ((token_run k a0 (fun x => token_digit k x)).bind fun t107 => (bif (decide (t107 > 9)) then (some (0, 0, 3)) else (some (2, t107, 0)))) else (bif ((bt a0 0) == 34) then ((token_quoted k a0).bind fun t110 => (some (3, t110.1, t110.2))) else ((token_pair k a0).bind fun t111 => (bif t111 then (some (4, 2, 0)) else ((strings_IndexByte k ([123, 125, 40, 41, 91, 93, 44, 59, 58, 61, 43, 45, 42, 60, 62, 33, 38, 124, 46, 63] : Str) (bt a0 0)).bind fun t113 => (bif (decide (t113 ≥ 0)) then (some (4, 1, 0)) else (some (0, 0, 2))))))))))) else none)
def token_whole (k : Nat) (a0 : Token) : Option (Str × Bool) :=
  (jn (κ := Str → Option (Str × Bool)) (fun (x4 : Str) => (bif (x4 == ([] : Str)) then (some (([] : Str), false)) else ((token_next k x4).bind fun t106 => (jn (κ := Bool → Option (Str × Bool)) (fun (x3 : Bool) => (some (x4, x3))) (fun j110 => (bif (t106.2.2 == 0) then (bif (t106.1 == a0.fKind) then (j110 (t106.2.1 == (x4.length : Int))) else (j110 false)) else (j110 false))))))) (fun j104 => (bif (a0.fKind == 3) then (if (([34] : Str).length : Int) + (a0.fText.length : Int) ≤ 9223372036854775807 then (if ((([34] : Str) ++ a0.fText).length : Int) + (([34] : Str).length : Int) ≤ 9223372036854775807 then (j104 ((([34] : Str) ++ a0.fText) ++ ([34] : Str))) else none) else none) else (j104 a0.fText))))
def token_IsName (k : Nat) (a0 : Str) : Option Bool :=
  ((token_whole k (Token.mk 1 a0 0)).bind fun t100 => (some t100.2))
def types_node_1 (k : Nat) (a0 : NodeType) (a1 : NodeType) : Option Bool :=
  (some (a0.fName == a1.fName))
def slices_IndexFunc_NodeType.b0 (a0 : (List NodeType)) (a1 : (NodeType → Option Bool)) (rec0 : Int → Option Int) (x8 : Int) : Option Int :=
  (bif (decide (x8 < (a0.length : Int))) then (if (0 : Int) ≤ x8 ∧ x8 < (a0.length : Int) then ((a1 (rd a0 x8)).bind fun t112 => (bif t112 then (some x8) else (if inR (x8 + 1) then (rec0 (x8 + 1)) else none))) else none) else (some (-1)))
def slices_IndexFunc_NodeType (k : Nat) (a0 : (List NodeType)) (a1 : (NodeType → Option Bool)) : Option Int :=
  (loop1 k (slices_IndexFunc_NodeType.b0 a0 a1) 0)
def slices_ContainsFunc_NodeType (k : Nat) (a0 : (List NodeType)) (a1 : (NodeType → Option Bool)) : Option Bool :=
  ((slices_IndexFunc_NodeType k a0 a1).bind fun t100 => (some (decide (t100 ≥ 0))))
def types_attrs.main (self : Types → Int → Option (List Attr)) (k : Nat) (a0 : Types) (a1 : Int) : Option (List Attr) :=
  (if (0 : Int) ≤ a1 ∧ a1 < (a0.fNodes.length : Int) then (jn (κ := (List Attr) → Option (List Attr)) (fun (x5 : (List Attr)) => (if (0 : Int) ≤ a1 ∧ a1 < (a0.fNodes.length : Int) then (if x5.length + ((rd a0.fNodes a1).fAttrs).length ≤ lim then (some (x5 ++ (rd a0.fNodes a1).fAttrs)) else none) else none)) (fun j108 => (bif (decide ((rd a0.fNodes a1).fParent ≥ 0)) then ((self a0 ((rd a0.fNodes a1).fParent)).bind fun t113 => (j108 t113)) else (j108 [])))) else none)
def types_attrs : Nat → Types → Int → Option (List Attr)
  | 0, _, _ => none
  | k + 1, a0, a1 => types_attrs.main (types_attrs k) k a0 a1
def types_attribute_1 (k : Nat) (a0 : Attr) (a1 : Attr) : Option Bool :=
  (some (a0.fName == a1.fName))
def slices_IndexFunc_Attr.b0 (a0 : (List Attr)) (a1 : (Attr → Option Bool)) (rec0 : Int → Option Int) (x8 : Int) : Option Int :=
  (bif (decide (x8 < (a0.length : Int))) then (if (0 : Int) ≤ x8 ∧ x8 < (a0.length : Int) then ((a1 (rd a0 x8)).bind fun t112 => (bif t112 then (some x8) else (if inR (x8 + 1) then (rec0 (x8 + 1)) else none))) else none) else (some (-1)))
def slices_IndexFunc_Attr (k : Nat) (a0 : (List Attr)) (a1 : (Attr → Option Bool)) : Option Int :=
  (loop1 k (slices_IndexFunc_Attr.b0 a0 a1) 0)
def slices_ContainsFunc_Attr (k : Nat) (a0 : (List Attr)) (a1 : (Attr → Option Bool)) : Option Bool :=
  ((slices_IndexFunc_Attr k a0 a1).bind fun t100 => (some (decide (t100 ≥ 0))))
def types_names.b0 (k : Nat) (a0 : (List Str)) (rec0 : Int → Option Int) (x10 : Int) : Option Int :=
  (bif (decide (x10 < (a0.length : Int))) then (if (0 : Int) ≤ x10 ∧ x10 < (a0.length : Int) then ((token_IsName k (rd a0 x10)).bind fun t119 => (bif (!t119) then (some 2) else (if (0 : Int) ≤ x10 ∧ x10 ≤ (a0.length : Int) then ((slices_Contains_string k (a0.take (x10 : Int).toNat) (rd a0 x10)).bind fun t122 => (bif t122 then (some 5) else (if inR (x10 + 1) then (rec0 (x10 + 1)) else none))) else none))) else none) else (some 0))
def types_names (k : Nat) (a0 : (List Str)) : Option Int :=
  (bif (decide ((a0.length : Int) > 20)) then (some 3) else (loop1 k (types_names.b0 k a0) 0))
def types_attribute (k : Nat) (a0 : Attr) (a1 : (List Attr)) : Option Int :=
  ((token_IsName k a0.fName).bind fun t100 => (bif (!t100) then (some 2) else ((slices_ContainsFunc_Attr k a1 (fun x => types_attribute_1 k x a0)).bind fun t102 => (bif t102 then (some 5) else ((types_names k a0.fNames).bind fun t104 => (bif (t104 != 0) then (some t104) else (jn (κ := Bool → Option Int) (fun (x6 : Bool) => (bif (decide ((a0.fNames.length : Int) > 0)) then (jn (κ := Bool → Option Int) (fun (x6' : Bool) => (bif (!x6') then (some 6) else (some 0))) (fun j121 => (bif (a0.fLow == 0) then (if inR ((a0.fNames.length : Int) - 1) then (j121 (a0.fHigh == ((a0.fNames.length : Int) - 1))) else none) else (j121 false)))) else (bif (!x6) then (some 6) else (some 0)))) (fun j109 => (bif (decide ((-1000000) ≤ a0.fLow)) then (bif (decide (a0.fLow ≤ a0.fHigh)) then (j109 (decide (a0.fHigh ≤ 1000000))) else (j109 false)) else (j109 false))))))))))
def types_node.b0 (k : Nat) (t112 : (List Attr)) (rec0 : Int → Option Int) (x7 : Int) : Option Int :=
  (bif (decide (x7 < (t112.length : Int))) then (if (0 : Int) ≤ x7 ∧ x7 < (t112.length : Int) then (if (0 : Int) ≤ x7 ∧ x7 ≤ (t112.length : Int) then ((types_attribute k (rd t112 x7) (t112.take (x7 : Int).toNat)).bind fun t148 => (bif (t148 != 0) then (some t148) else (if inR (x7 + 1) then (rec0 (x7 + 1)) else none))) else none) else none) else (some 0))
def types_node (k : Nat) (a0 : Types) (a1 : Int) : Option Int :=
  (if (0 : Int) ≤ a1 ∧ a1 < (a0.fNodes.length : Int) then ((token_IsName k ((rd a0.fNodes a1).fName)).bind fun t102 => (bif (!t102) then (some 2) else (if (0 : Int) ≤ a1 ∧ a1 ≤ (a0.fNodes.length : Int) then ((slices_ContainsFunc_NodeType k (a0.fNodes.take (a1 : Int).toNat) (fun x => types_node_1 k x (rd a0.fNodes a1))).bind fun t105 => (bif t105 then (some 5) else (jn (κ := Bool → Option Int) (fun (x26 : Bool) => (bif x26 then (some 6) else (bif (decide ((((rd a0.fNodes a1).fAttrs).length : Int) > 4)) then (some 3) else ((types_attrs k a0 a1).bind fun t112 => (bif (decide ((t112.length : Int) > 8)) then (some 3) else (if inR ((t112.length : Int) - (((rd a0.fNodes a1).fAttrs).length : Int)) then (loop1 k (types_node.b0 k t112) ((t112.length : Int) - (((rd a0.fNodes a1).fAttrs).length : Int))) else none)))))) (fun j109 => (bif (decide ((rd a0.fNodes a1).fParent < (-1))) then (j109 true) else (j109 (decide ((rd a0.fNodes a1).fParent ≥ a1)))))))) else none))) else none)
def types_edge_1 (k : Nat) (a0 : Int) (a1 : Types) : Option Bool :=
  (jn (κ := Bool → Option Bool) (fun (x3 : Bool) => (some x3)) (fun j102 => (bif (decide (a0 ≥ 0)) then (j102 (decide (a0 < (a1.fNodes.length : Int)))) else (j102 false))))
def types_edge_2 (k : Nat) (a0 : EdgeType) (a1 : EdgeType) : Option Bool :=
  (some (a0.fName == a1.fName))
def slices_IndexFunc_EdgeType.b0 (a0 : (List EdgeType)) (a1 : (EdgeType → Option Bool)) (rec0 : Int → Option Int) (x8 : Int) : Option Int :=
  (bif (decide (x8 < (a0.length : Int))) then (if (0 : Int) ≤ x8 ∧ x8 < (a0.length : Int) then ((a1 (rd a0 x8)).bind fun t112 => (bif t112 then (some x8) else (if inR (x8 + 1) then (rec0 (x8 + 1)) else none))) else none) else (some (-1)))
def slices_IndexFunc_EdgeType (k : Nat) (a0 : (List EdgeType)) (a1 : (EdgeType → Option Bool)) : Option Int :=
  (loop1 k (slices_IndexFunc_EdgeType.b0 a0 a1) 0)
def slices_ContainsFunc_EdgeType (k : Nat) (a0 : (List EdgeType)) (a1 : (EdgeType → Option Bool)) : Option Bool :=
  ((slices_IndexFunc_EdgeType k a0 a1).bind fun t100 => (some (decide (t100 ≥ 0))))
def types_bounded (k : Nat) (a0 : Int) (a1 : Int) : Option Bool :=
  (jn (κ := Bool → Option Bool) (fun (x4 : Bool) => (some x4)) (fun j105 => (bif (decide (a0 ≥ 0)) then (bif (decide (a0 ≤ 40)) then (bif (a1 == (-1)) then (j105 true) else (bif (decide (a1 ≥ a0)) then (j105 (decide (a1 ≤ 40))) else (j105 false))) else (j105 false)) else (j105 false))))
def types_edge (k : Nat) (a0 : Types) (a1 : Int) : Option Int :=
  (if (0 : Int) ≤ a1 ∧ a1 < (a0.fEdges.length : Int) then ((token_IsName k ((rd a0.fEdges a1).fName)).bind fun t102 => (bif (!t102) then (some 2) else (if (0 : Int) ≤ a1 ∧ a1 ≤ (a0.fEdges.length : Int) then ((slices_ContainsFunc_EdgeType k (a0.fEdges.take (a1 : Int).toNat) (fun x => types_edge_2 k x (rd a0.fEdges a1))).bind fun t105 => (bif t105 then (some 5) else (jn (κ := Bool → Option Int) (fun (x25 : Bool) => (bif x25 then (some 6) else (jn (κ := Bool → Option Int) (fun (x25' : Bool) => (bif x25' then (some 6) else (some 0))) (fun j126 => ((types_bounded k ((rd a0.fEdges a1).fOutLow) ((rd a0.fEdges a1).fOutHigh)).bind fun t128 => (bif (!t128) then (j126 true) else ((types_bounded k ((rd a0.fEdges a1).fInLow) ((rd a0.fEdges a1).fInHigh)).bind fun t130 => (j126 (!t130))))))))) (fun j111 => (((fun x => types_edge_1 k x a0) ((rd a0.fEdges a1).fFrom)).bind fun t131 => (bif (!t131) then (j111 true) else (((fun x => types_edge_1 k x a0) ((rd a0.fEdges a1).fTo)).bind fun t133 => (j111 (!t133))))))))) else none))) else none)
def types_Valid.b1 (k : Nat) (a0 : Types) (rec1 : Int → Option (Str × Int)) (x46 : Int) : Option (Str × Int) :=
  (bif (decide (x46 < (a0.fEdges.length : Int))) then (if (0 : Int) ≤ x46 ∧ x46 < (a0.fEdges.length : Int) then ((types_edge k a0 x46).bind fun t174 => (bif (t174 != 0) then (some ((rd a0.fEdges x46).fName, t174)) else (if inR (x46 + 1) then (rec1 (x46 + 1)) else none))) else none) else (some (([] : Str), 0)))
def types_Valid.b0 (k : Nat) (a0 : Types) (rec0 : Int → Option (Str × Int)) (x29 : Int) : Option (Str × Int) :=
  (bif (decide (x29 < (a0.fNodes.length : Int))) then (if (0 : Int) ≤ x29 ∧ x29 < (a0.fNodes.length : Int) then ((types_node k a0 x29).bind fun t156 => (bif (t156 != 0) then (some ((rd a0.fNodes x29).fName, t156)) else (if inR (x29 + 1) then (rec0 (x29 + 1)) else none))) else none) else (loop1 k (types_Valid.b1 k a0) 0))
def types_Valid (k : Nat) (a0 : Types) : Option (Str × Int) :=
  (bif ((a0.fNodes.length : Int) == 0) then (some (([] : Str), 7)) else (jn (κ := Bool → Option (Str × Int)) (fun (x15 : Bool) => (bif x15 then (some (([] : Str), 3)) else (loop1 k (types_Valid.b0 k a0) 0))) (fun j103 => (bif (decide ((a0.fNodes.length : Int) > 12)) then (j103 true) else (j103 (decide ((a0.fEdges.length : Int) > 20)))))))
def slices_IndexFunc_int.b0 (a0 : (List Int)) (a1 : (Int → Option Bool)) (rec0 : Int → Option Int) (x8 : Int) : Option Int :=
  (bif (decide (x8 < (a0.length : Int))) then (if (0 : Int) ≤ x8 ∧ x8 < (a0.length : Int) then ((a1 (rd a0 x8)).bind fun t112 => (bif t112 then (some x8) else (if inR (x8 + 1) then (rec0 (x8 + 1)) else none))) else none) else (some (-1)))
def slices_IndexFunc_int (k : Nat) (a0 : (List Int)) (a1 : (Int → Option Bool)) : Option Int :=
  (loop1 k (slices_IndexFunc_int.b0 a0 a1) 0)
def slices_ContainsFunc_int (k : Nat) (a0 : (List Int)) (a1 : (Int → Option Bool)) : Option Bool :=
  ((slices_IndexFunc_int k a0 a1).bind fun t100 => (some (decide (t100 ≥ 0))))
def graph_within (k : Nat) (a0 : Int) (a1 : Int) : Option Bool :=
  (jn (κ := Bool → Option Bool) (fun (x4 : Bool) => (some x4)) (fun j102 => (bif (decide (a0 ≥ 0)) then (j102 (decide (a0 ≤ a1))) else (j102 false))))
def graph_Valid_1 (k : Nat) (a0 : Int) : Option Bool :=
  ((graph_within k a0 99).bind fun t100 => (some (!t100)))
def graph_fits (k : Nat) (a0 : Edge) (a1 : Int) : Option Bool :=
  (jn (κ := Bool → Option Bool) (fun (x4 : Bool) => (some x4)) (fun j108 => ((graph_within k a0.fType 99).bind fun t109 => (bif t109 then (if inR (a1 - 1) then ((graph_within k a0.fFrom (a1 - 1)).bind fun t112 => (bif t112 then (if inR (a1 - 1) then ((graph_within k a0.fTo (a1 - 1)).bind fun t115 => (j108 t115)) else none) else (j108 false))) else none) else (j108 false)))))
def graph_Valid_2 (k : Nat) (a0 : Edge) (a1 : Graph) : Option Bool :=
  ((graph_fits k a0 (a1.fNodes.length : Int)).bind fun t100 => (some (!t100)))
def slices_IndexFunc_Edge.b0 (a0 : (List Edge)) (a1 : (Edge → Option Bool)) (rec0 : Int → Option Int) (x8 : Int) : Option Int :=
  (bif (decide (x8 < (a0.length : Int))) then (if (0 : Int) ≤ x8 ∧ x8 < (a0.length : Int) then ((a1 (rd a0 x8)).bind fun t112 => (bif t112 then (some x8) else (if inR (x8 + 1) then (rec0 (x8 + 1)) else none))) else none) else (some (-1)))
def slices_IndexFunc_Edge (k : Nat) (a0 : (List Edge)) (a1 : (Edge → Option Bool)) : Option Int :=
  (loop1 k (slices_IndexFunc_Edge.b0 a0 a1) 0)
def slices_ContainsFunc_Edge (k : Nat) (a0 : (List Edge)) (a1 : (Edge → Option Bool)) : Option Bool :=
  ((slices_IndexFunc_Edge k a0 a1).bind fun t100 => (some (decide (t100 ≥ 0))))
def graph_Valid (k : Nat) (a0 : Graph) : Option Int :=
  (jn (κ := Bool → Option Int) (fun (x12 : Bool) => (bif x12 then (some 3) else ((slices_ContainsFunc_int k a0.fNodes (fun x => graph_Valid_1 k x)).bind fun t104 => (bif t104 then (some 6) else ((slices_ContainsFunc_Edge k a0.fEdges (fun x => graph_Valid_2 k x a0)).bind fun t106 => (bif t106 then (some 6) else (some 0))))))) (fun j102 => (bif (decide ((a0.fNodes.length : Int) > 40)) then (j102 true) else (j102 (decide ((a0.fEdges.length : Int) > 80))))))
def types_given_1 (k : Nat) (a0 : Int) (a1 : Types) : Option Bool :=
  (jn (κ := Bool → Option Bool) (fun (x3 : Bool) => (some x3)) (fun j102 => (bif (decide (a0 < 0)) then (j102 true) else (j102 (decide (a0 ≥ (a1.fNodes.length : Int)))))))
def types_given (k : Nat) (a0 : Types) (a1 : (List Int)) : Option Int :=
  ((types_Valid k a0).bind fun t100 => (bif (t100.2 != 0) then (some t100.2) else ((slices_ContainsFunc_int k a1 (fun x => types_given_1 k x a0)).bind fun t102 => (bif t102 then (some 6) else (some 0)))))
def slices_Clone_string (_k : Nat) (a0 : (List Str)) : Option (List Str) := if a0.length ≤ lim then some a0 else none
def types_Attrs.b0 (k : Nat) (t102 : (List Attr)) (rec0 : (List Attr) → Int → Option ((List Attr) × Int)) (x7 : (List Attr)) (x21 : Int) : Option ((List Attr) × Int) :=
  (bif (decide (x21 < (t102.length : Int))) then (if (0 : Int) ≤ x21 ∧ x21 < (x7.length : Int) then ((slices_Clone_string k ((rd x7 x21).fNames)).bind fun t116 => (if (0 : Int) ≤ x21 ∧ x21 < (x7.length : Int) then (if inR (x21 + 1) then (rec0 (x7.set (x21 : Int).toNat (Attr.mk ((rd x7 x21).fName) ((rd x7 x21).fLow) ((rd x7 x21).fHigh) t116)) (x21 + 1)) else none) else none)) else none) else (some (x7, 0)))
def types_Attrs (k : Nat) (a0 : Types) (a1 : Int) : Option ((List Attr) × Int) :=
  ((types_given k a0 [a1]).bind fun t100 => (bif (t100 != 0) then (some ([], t100)) else ((types_attrs k a0 a1).bind fun t102 => (loop2 k (types_Attrs.b0 k t102) t102 0))))
def host_node.b0 (a2 : (List Int)) (t103 : ((List Attr) × Int)) (rec0 : Int → Option Int) (x35 : Int) : Option Int :=
  (bif (decide (x35 < (t103.1.length : Int))) then (if (0 : Int) ≤ x35 ∧ x35 < (t103.1.length : Int) then (jn (κ := Bool → Option Int) (fun (x55 : Bool) => (bif x55 then (some 6) else (if inR (x35 + 1) then (rec0 (x35 + 1)) else none))) (fun j147 => (if (0 : Int) ≤ x35 ∧ x35 < (a2.length : Int) then (bif (decide ((rd a2 x35) < (rd t103.1 x35).fLow)) then (j147 true) else (if (0 : Int) ≤ x35 ∧ x35 < (a2.length : Int) then (j147 (decide ((rd a2 x35) > (rd t103.1 x35).fHigh))) else none)) else none))) else none) else (some 0))
def host_node (k : Nat) (a0 : Types) (a1 : Int) (a2 : (List Int)) : Option Int :=
  (bif (decide (a1 ≥ (a0.fNodes.length : Int))) then (some 6) else (if (0 : Int) ≤ a1 ∧ a1 < (a0.fNodes.length : Int) then (bif (rd a0.fNodes a1).fAbstract then (some 13) else ((types_Attrs k a0 a1).bind fun t103 => (bif ((a2.length : Int) != (t103.1.length : Int)) then (some 20) else (loop1 k (host_node.b0 a2 t103) 0)))) else none))
def slices_Reverse_int.b0 (rec0 : (List Int) → Int → Int → Option (List Int)) (x0 : (List Int)) (x2 : Int) (x3 : Int) : Option (List Int) :=
  (bif (decide (x2 < x3)) then (if (0 : Int) ≤ x3 ∧ x3 < (x0.length : Int) then (if (0 : Int) ≤ x2 ∧ x2 < (x0.length : Int) then (if (0 : Int) ≤ x2 ∧ x2 < (x0.length : Int) then (if (0 : Int) ≤ x3 ∧ x3 < ((x0.set (x2 : Int).toNat (rd x0 x3)).length : Int) then (if inR (x2 + 1) then (if inR (x3 - 1) then (rec0 ((x0.set (x2 : Int).toNat (rd x0 x3)).set (x3 : Int).toNat (rd x0 x2)) (x2 + 1) (x3 - 1)) else none) else none) else none) else none) else none) else none) else (some x0))
def slices_Reverse_int (k : Nat) (a0 : (List Int)) : Option (List Int) :=
  (if inR ((a0.length : Int) - 1) then (loop3 k (slices_Reverse_int.b0) a0 0 ((a0.length : Int) - 1)) else none)
def types_line.b0 (k : Nat) (a0 : Types) (rec0 : Int → (List Int) → Option (List Int)) (x1 : Int) (x5 : (List Int)) : Option (List Int) :=
  (bif (decide (x1 ≥ 0)) then (if x5.length + [x1].length ≤ lim then (if (0 : Int) ≤ x1 ∧ x1 < (a0.fNodes.length : Int) then (rec0 ((rd a0.fNodes x1).fParent) (x5 ++ [x1])) else none) else none) else ((slices_Reverse_int k x5).bind fun t122 => (some t122)))
def types_line (k : Nat) (a0 : Types) (a1 : Int) : Option (List Int) :=
  (loop2 k (types_line.b0 k a0) a1 [])
def slices_Index_int.b0 (a0 : (List Int)) (a1 : Int) (rec0 : Int → Option Int) (x8 : Int) : Option Int :=
  (bif (decide (x8 < (a0.length : Int))) then (if (0 : Int) ≤ x8 ∧ x8 < (a0.length : Int) then (bif (a1 == (rd a0 x8)) then (some x8) else (if inR (x8 + 1) then (rec0 (x8 + 1)) else none)) else none) else (some (-1)))
def slices_Index_int (k : Nat) (a0 : (List Int)) (a1 : Int) : Option Int :=
  (loop1 k (slices_Index_int.b0 a0 a1) 0)
def slices_Contains_int (k : Nat) (a0 : (List Int)) (a1 : Int) : Option Bool :=
  ((slices_Index_int k a0 a1).bind fun t100 => (some (decide (t100 ≥ 0))))
def types_is (k : Nat) (a0 : Types) (a1 : Int) (a2 : Int) : Option Bool :=
  ((types_line k a0 a1).bind fun t100 => ((slices_Contains_int k t100 a2).bind fun t101 => (some t101)))
def types_Fits (k : Nat) (a0 : Types) (a1 : Int) (a2 : Int) (a3 : Int) : Option Bool :=
  (jn (κ := Bool → Option Bool) (fun (x25 : Bool) => (bif x25 then (some false) else (jn (κ := Bool → Option Bool) (fun (x8 : Bool) => (some x8)) (fun j117 => (if (0 : Int) ≤ a1 ∧ a1 < (a0.fEdges.length : Int) then ((types_is k a0 a2 ((rd a0.fEdges a1).fFrom)).bind fun t119 => (bif t119 then (if (0 : Int) ≤ a1 ∧ a1 < (a0.fEdges.length : Int) then ((types_is k a0 a3 ((rd a0.fEdges a1).fTo)).bind fun t122 => (j117 t122)) else none) else (j117 false))) else none))))) (fun j104 => ((types_given k a0 [a2, a3]).bind fun t123 => (bif (t123 != 0) then (j104 true) else (bif (decide (a1 < 0)) then (j104 true) else (j104 (decide (a1 ≥ (a0.fEdges.length : Int)))))))))
def host_Valid.b1 (k : Nat) (a0 : Types) (a1 : Host) (rec1 : Int → Option (Int × Int)) (x62 : Int) : Option (Int × Int) :=
  (bif (decide (x62 < (a1.fGraph.fEdges.length : Int))) then (if (0 : Int) ≤ x62 ∧ x62 < (a1.fGraph.fEdges.length : Int) then (bif (decide ((rd a1.fGraph.fEdges x62).fType ≥ (a0.fEdges.length : Int))) then (some (x62, 6)) else (if (0 : Int) ≤ (rd a1.fGraph.fEdges x62).fFrom ∧ (rd a1.fGraph.fEdges x62).fFrom < (a1.fGraph.fNodes.length : Int) then (if (0 : Int) ≤ (rd a1.fGraph.fEdges x62).fTo ∧ (rd a1.fGraph.fEdges x62).fTo < (a1.fGraph.fNodes.length : Int) then ((types_Fits k a0 ((rd a1.fGraph.fEdges x62).fType) (rd a1.fGraph.fNodes ((rd a1.fGraph.fEdges x62).fFrom)) (rd a1.fGraph.fNodes ((rd a1.fGraph.fEdges x62).fTo))).bind fun t267 => (bif (!t267) then (some (x62, 13)) else (if inR (x62 + 1) then (rec1 (x62 + 1)) else none))) else none) else none)) else none) else (some ((-1), 0)))
def host_Valid.b0 (k : Nat) (a0 : Types) (a1 : Host) (rec0 : Int → Option (Int × Int)) (x40 : Int) : Option (Int × Int) :=
  (bif (decide (x40 < (a1.fGraph.fNodes.length : Int))) then (if (0 : Int) ≤ x40 ∧ x40 < (a1.fGraph.fNodes.length : Int) then (if (0 : Int) ≤ x40 ∧ x40 < (a1.fValues.length : Int) then ((host_node k a0 (rd a1.fGraph.fNodes x40) (rd a1.fValues x40)).bind fun t222 => (bif (t222 != 0) then (some (x40, t222)) else (if inR (x40 + 1) then (rec0 (x40 + 1)) else none))) else none) else none) else (loop1 k (host_Valid.b1 k a0 a1) 0))
def host_Valid (k : Nat) (a0 : Types) (a1 : Host) : Option (Int × Int) :=
  ((types_Valid k a0).bind fun t100 => (bif (t100.2 != 0) then (some ((-1), t100.2)) else ((graph_Valid k a1.fGraph).bind fun t102 => (bif (t102 != 0) then (some ((-1), t102)) else (bif ((a1.fValues.length : Int) != (a1.fGraph.fNodes.length : Int)) then (some ((-1), 20)) else (loop1 k (host_Valid.b0 k a0 a1) 0))))))
def host_valid (k : Nat) (a0 : Types) (a1 : Host) : Option Int :=
  ((host_Valid k a0 a1).bind fun t100 => (some t100.2))
def types_Is (k : Nat) (a0 : Types) (a1 : Int) (a2 : Int) : Option Bool :=
  (jn (κ := Bool → Option Bool) (fun (x6 : Bool) => (some x6)) (fun j104 => ((types_given k a0 [a1, a2]).bind fun t105 => (bif (t105 == 0) then ((types_is k a0 a1 a2).bind fun t107 => (j104 t107)) else (j104 false)))))
def host_excesses.b1 (a1 : Host) (a2 : Int) (a3 : Bool) (a5 : Int) (a6 : Int) (x15 : (List Excess)) (x25 : Int) (j641 : (List Excess) → Option (List Excess)) (rec1 : Int → Int → Option (List Excess)) (x18 : Int) (x39 : Int) : Option (List Excess) :=
  (bif (decide (x39 < (a1.fGraph.fEdges.length : Int))) then (if (0 : Int) ≤ x39 ∧ x39 < (a1.fGraph.fEdges.length : Int) then (jn (κ := Bool → Option (List Excess)) (fun (x65 : Bool) => (bif x65 then (if inR (x18 + 1) then (if inR (x39 + 1) then (rec1 (x18 + 1) (x39 + 1)) else none) else none) else (if inR (x39 + 1) then (rec1 x18 (x39 + 1)) else none))) (fun j721 => (bif ((rd a1.fGraph.fEdges x39).fType == a2) then (bif a3 then (bif ((rd a1.fGraph.fEdges x39).fFrom == x25) then (j721 true) else (bif (!a3) then (j721 ((rd a1.fGraph.fEdges x39).fTo == x25)) else (j721 false))) else (bif (!a3) then (j721 ((rd a1.fGraph.fEdges x39).fTo == x25)) else (j721 false))) else (j721 false)))) else none) else (jn (κ := Bool → Option (List Excess)) (fun (x80 : Bool) => (bif x80 then (if x15.length + [(Excess.mk a2 x25 x18 a3)].length ≤ lim then (j641 (x15 ++ [(Excess.mk a2 x25 x18 a3)])) else none) else (j641 x15))) (fun j736 => (bif (decide (x18 < a5)) then (j736 true) else (bif (decide (a6 ≥ 0)) then (j736 (decide (x18 > a6))) else (j736 false))))))
def host_excesses.b0 (k : Nat) (a0 : Types) (a1 : Host) (a2 : Int) (a3 : Bool) (a4 : Int) (a5 : Int) (a6 : Int) (rec0 : (List Excess) → Int → Option (List Excess)) (x15 : (List Excess)) (x25 : Int) : Option (List Excess) :=
  (bif (decide (x25 < (a1.fGraph.fNodes.length : Int))) then (jn (κ := (List Excess) → Option (List Excess)) (fun (x15' : (List Excess)) => (if inR (x25 + 1) then (rec0 x15' (x25 + 1)) else none)) (fun j641 => (if (0 : Int) ≤ x25 ∧ x25 < (a1.fGraph.fNodes.length : Int) then ((types_Is k a0 (rd a1.fGraph.fNodes x25) a4).bind fun t644 => (bif (!t644) then (j641 x15) else (loop2 k (host_excesses.b1 a1 a2 a3 a5 a6 x15 x25 j641) 0 0))) else none))) else (some x15))
def host_excesses (k : Nat) (a0 : Types) (a1 : Host) (a2 : Int) (a3 : Bool) (a4 : Int) (a5 : Int) (a6 : Int) : Option (List Excess) :=
  (loop2 k (host_excesses.b0 k a0 a1 a2 a3 a4 a5 a6) [] 0)
def host_Excesses.b0 (k : Nat) (a0 : Types) (a1 : Host) (rec0 : (List Excess) → Int → Option ((List Excess) × Int)) (x7 : (List Excess)) (x19 : Int) : Option ((List Excess) × Int) :=
  (bif (decide (x19 < (a0.fEdges.length : Int))) then (if (0 : Int) ≤ x19 ∧ x19 < (a0.fEdges.length : Int) then ((host_excesses k a0 a1 x19 true ((rd a0.fEdges x19).fFrom) ((rd a0.fEdges x19).fOutLow) ((rd a0.fEdges x19).fOutHigh)).bind fun t132 => (if x7.length + t132.length ≤ lim then ((host_excesses k a0 a1 x19 false ((rd a0.fEdges x19).fTo) ((rd a0.fEdges x19).fInLow) ((rd a0.fEdges x19).fInHigh)).bind fun t135 => (if (x7 ++ t132).length + t135.length ≤ lim then (if inR (x19 + 1) then (rec0 ((x7 ++ t132) ++ t135) (x19 + 1)) else none) else none)) else none)) else none) else (some (x7, 0)))
def host_Excesses (k : Nat) (a0 : Types) (a1 : Host) : Option ((List Excess) × Int) :=
  ((host_valid k a0 a1).bind fun t100 => (bif (t100 != 0) then (some ([], t100)) else (loop2 k (host_Excesses.b0 k a0 a1) [] 0)))
def cmp_isNaN_int (k : Nat) (a0 : Int) : Option Bool :=
  (some (a0 != a0))
def cmp_Compare_int (k : Nat) (a0 : Int) (a1 : Int) : Option Int :=
  ((cmp_isNaN_int k a0).bind fun t100 => ((cmp_isNaN_int k a1).bind fun t101 => (bif t100 then (bif t101 then (some 0) else (some (-1))) else (bif t101 then (some 1) else (bif (decide (a0 < a1)) then (some (-1)) else (bif (decide (a0 > a1)) then (some 1) else (some 0)))))))
def slices_Compare_int.b0 (k : Nat) (a0 : (List Int)) (a1 : (List Int)) (rec0 : Int → Option Int) (x11 : Int) : Option Int :=
  (bif (decide (x11 < (a0.length : Int))) then (if (0 : Int) ≤ x11 ∧ x11 < (a0.length : Int) then (bif (decide (x11 ≥ (a1.length : Int))) then (some 1) else (if (0 : Int) ≤ x11 ∧ x11 < (a1.length : Int) then ((cmp_Compare_int k (rd a0 x11) (rd a1 x11)).bind fun t120 => (bif (t120 != 0) then (some t120) else (if inR (x11 + 1) then (rec0 (x11 + 1)) else none))) else none)) else none) else (bif (decide ((a0.length : Int) < (a1.length : Int))) then (some (-1)) else (some 0)))
def slices_Compare_int (k : Nat) (a0 : (List Int)) (a1 : (List Int)) : Option Int :=
  (loop1 k (slices_Compare_int.b0 k a0 a1) 0)
def slices_Clone_int (_k : Nat) (a0 : (List Int)) : Option (List Int) := if a0.length ≤ lim then some a0 else none
def slices_Sort_int (_k : Nat) (a0 : (List Int)) : Option (List Int) := if a0.length ≤ 1000 then some (a0.mergeSort fun x y => decide (x ≤ y)) else none
def host_between.b0 (k : Nat) (a0 : Graph) (a1 : Int) (a2 : Int) (rec0 : (List Int) → Int → Option (List Int)) (x7 : (List Int)) (x13 : Int) : Option (List Int) :=
  (bif (decide (x13 < (a0.fEdges.length : Int))) then (if (0 : Int) ≤ x13 ∧ x13 < (a0.fEdges.length : Int) then (jn (κ := Bool → Option (List Int)) (fun (x26 : Bool) => (bif x26 then (if x7.length + [(rd a0.fEdges x13).fType].length ≤ lim then (if inR (x13 + 1) then (rec0 (x7 ++ [(rd a0.fEdges x13).fType]) (x13 + 1)) else none) else none) else (if inR (x13 + 1) then (rec0 x7 (x13 + 1)) else none))) (fun j146 => (bif ((rd a0.fEdges x13).fFrom == a1) then (j146 ((rd a0.fEdges x13).fTo == a2)) else (j146 false)))) else none) else ((slices_Sort_int k x7).bind fun t156 => (some t156)))
def host_between (k : Nat) (a0 : Graph) (a1 : Int) (a2 : Int) : Option (List Int) :=
  (loop2 k (host_between.b0 k a0 a1 a2) [] 0)
def host_listed (k : Nat) (a0 : (List Int)) : Option (List Int) :=
  (if [(a0.length : Int)].length + a0.length ≤ lim then (some ([(a0.length : Int)] ++ a0)) else none)
def host_place.b0 (k : Nat) (a0 : Host) (a1 : (List Int)) (rec0 : (List Int) → Int → Option (List Int)) (x6 : (List Int)) (x34 : Int) : Option (List Int) :=
  (bif (decide (x34 < ((a1.take (((a1.length : Int) - 1) : Int).toNat).length : Int))) then (if (0 : Int) ≤ x34 ∧ x34 < ((a1.take (((a1.length : Int) - 1) : Int).toNat).length : Int) then ((host_between k a0.fGraph (rd (a1.take (((a1.length : Int) - 1) : Int).toNat) x34) (rd a1 ((a1.length : Int) - 1))).bind fun t155 => ((host_listed k t155).bind fun t156 => (if x6.length + t156.length ≤ lim then ((host_between k a0.fGraph (rd a1 ((a1.length : Int) - 1)) (rd (a1.take (((a1.length : Int) - 1) : Int).toNat) x34)).bind fun t159 => ((host_listed k t159).bind fun t160 => (if (x6 ++ t156).length + t160.length ≤ lim then (if inR (x34 + 1) then (rec0 ((x6 ++ t156) ++ t160) (x34 + 1)) else none) else none))) else none))) else none) else ((host_between k a0.fGraph (rd a1 ((a1.length : Int) - 1)) (rd a1 ((a1.length : Int) - 1))).bind fun t164 => ((host_listed k t164).bind fun t165 => (if x6.length + t165.length ≤ lim then (some (x6 ++ t165)) else none))))
def host_place (k : Nat) (a0 : Host) (a1 : (List Int)) : Option (List Int) :=
  (if inR ((a1.length : Int) - 1) then (if (0 : Int) ≤ ((a1.length : Int) - 1) ∧ ((a1.length : Int) - 1) < (a1.length : Int) then (if (0 : Int) ≤ (rd a1 ((a1.length : Int) - 1)) ∧ (rd a1 ((a1.length : Int) - 1)) < (a0.fGraph.fNodes.length : Int) then (if (0 : Int) ≤ (rd a1 ((a1.length : Int) - 1)) ∧ (rd a1 ((a1.length : Int) - 1)) < (a0.fValues.length : Int) then (if [(rd a0.fGraph.fNodes (rd a1 ((a1.length : Int) - 1)))].length + (rd a0.fValues (rd a1 ((a1.length : Int) - 1))).length ≤ lim then (if inR ((a1.length : Int) - 1) then (if (0 : Int) ≤ ((a1.length : Int) - 1) ∧ ((a1.length : Int) - 1) ≤ (a1.length : Int) then (loop2 k (host_place.b0 k a0 a1) ([(rd a0.fGraph.fNodes (rd a1 ((a1.length : Int) - 1)))] ++ (rd a0.fValues (rd a1 ((a1.length : Int) - 1)))) 0) else none) else none) else none) else none) else none) else none) else none)
def host_canon_search.b0 (k : Nat) (self : Canon → Option ((List Int) × (List Int) × (List Int) × (List Int) × Bool)) (a0 : Canon) (rec0 : (List Int) → (List Int) → Bool → Int → Option ((List Int) × (List Int) × (List Int) × (List Int) × Bool)) (y5 : (List Int)) (y6 : (List Int)) (y7 : Bool) (x61 : Int) : Option ((List Int) × (List Int) × (List Int) × (List Int) × Bool) :=
  (bif (decide (x61 < (a0.fh.fGraph.fNodes.length : Int))) then ((slices_Contains_int k a0.forder x61).bind fun t320 => (bif t320 then (if inR (x61 + 1) then (rec0 y5 y6 y7 (x61 + 1)) else none) else ((slices_Clone_int k a0.forder).bind fun t323 => (if t323.length + [x61].length ≤ lim then ((slices_Clone_int k a0.fcode).bind fun t337 => ((host_place k a0.fh (t323 ++ [x61])).bind fun t339 => (if t337.length + t339.length ≤ lim then (jn (κ := Bool → Option ((List Int) × (List Int) × (List Int) × (List Int) × Bool)) (fun (x129 : Bool) => (jn (κ := (List Int) → (List Int) → (List Int) → (List Int) → Bool → Option ((List Int) × (List Int) × (List Int) × (List Int) × Bool)) (fun (y3 : (List Int)) (y4 : (List Int)) (y5' : (List Int)) (y6' : (List Int)) (y7' : Bool) => (if inR (x61 + 1) then (rec0 y5' y6' y7' (x61 + 1)) else none)) (fun j353 => (bif x129 then ((self (Canon.mk a0.fh (t323 ++ [x61]) (t337 ++ t339) y5 y6 y7)).bind fun t356 => (j353 t356.1 t356.2.1 t356.2.2.1 t356.2.2.2.1 t356.2.2.2.2)) else (j353 (t323 ++ [x61]) (t337 ++ t339) y5 y6 y7))))) (fun j349 => (bif (!y7) then (j349 true) else (if (0 : Int) ≤ (minI ((t337 ++ t339).length : Int) (y6.length : Int)) ∧ (minI ((t337 ++ t339).length : Int) (y6.length : Int)) ≤ (y6.length : Int) then ((slices_Compare_int k (t337 ++ t339) (y6.take ((minI ((t337 ++ t339).length : Int) (y6.length : Int)) : Int).toNat)).bind fun t359 => (j349 (decide (t359 ≤ 0)))) else none)))) else none))) else none)))) else (some (a0.forder, a0.fcode, y5, y6, y7)))
def host_canon_search.main (self : Canon → Option ((List Int) × (List Int) × (List Int) × (List Int) × Bool)) (k : Nat) (a0 : Canon) : Option ((List Int) × (List Int) × (List Int) × (List Int) × Bool) :=
  (bif ((a0.forder.length : Int) == (a0.fh.fGraph.fNodes.length : Int)) then (jn (κ := Bool → Option ((List Int) × (List Int) × (List Int) × (List Int) × Bool)) (fun (x34 : Bool) => (bif x34 then ((slices_Clone_int k a0.forder).bind fun t119 => ((slices_Clone_int k a0.fcode).bind fun t120 => (some (a0.forder, a0.fcode, t119, t120, true)))) else (some (a0.forder, a0.fcode, a0.fbest, a0.fleast, a0.ffound)))) (fun j106 => (bif (!a0.ffound) then (j106 true) else ((slices_Compare_int k a0.fcode a0.fleast).bind fun t122 => (j106 (decide (t122 < 0))))))) else (loop4 k (host_canon_search.b0 k self a0) a0.fbest a0.fleast a0.ffound 0))
def host_canon_search : Nat → Canon → Option ((List Int) × (List Int) × (List Int) × (List Int) × Bool)
  | 0, _ => none
  | k + 1, a0 => host_canon_search.main (host_canon_search k) k a0
def host_listedEdges_1 (k : Nat) (a0 : Int) (a1 : Graph) (a2 : (List Int)) : Option (Int × Int × Int × Int) :=
  (if (0 : Int) ≤ a0 ∧ a0 < (a1.fEdges.length : Int) then (if (0 : Int) ≤ (rd a1.fEdges a0).fFrom ∧ (rd a1.fEdges a0).fFrom < (a2.length : Int) then (if (0 : Int) ≤ (rd a1.fEdges a0).fTo ∧ (rd a1.fEdges a0).fTo < (a2.length : Int) then (bif (decide ((rd a2 ((rd a1.fEdges a0).fFrom)) < (rd a2 ((rd a1.fEdges a0).fTo)))) then (some ((rd a2 ((rd a1.fEdges a0).fTo)), (rd a2 ((rd a1.fEdges a0).fFrom)), 0, (rd a1.fEdges a0).fType)) else (bif (decide ((rd a2 ((rd a1.fEdges a0).fFrom)) > (rd a2 ((rd a1.fEdges a0).fTo)))) then (some ((rd a2 ((rd a1.fEdges a0).fFrom)), (rd a2 ((rd a1.fEdges a0).fTo)), 1, (rd a1.fEdges a0).fType)) else (some ((rd a2 ((rd a1.fEdges a0).fTo)), 8, 0, (rd a1.fEdges a0).fType)))) else none) else none) else none)
def cmp_Or_int.b0 (a0 : (List Int)) (rec0 : Int → Option Int) (x8 : Int) : Option Int :=
  (bif (decide (x8 < (a0.length : Int))) then (if (0 : Int) ≤ x8 ∧ x8 < (a0.length : Int) then (bif ((rd a0 x8) != 0) then (some (rd a0 x8)) else (if inR (x8 + 1) then (rec0 (x8 + 1)) else none)) else none) else (some 0))
def cmp_Or_int (k : Nat) (a0 : (List Int)) : Option Int :=
  (loop1 k (cmp_Or_int.b0 a0) 0)
def host_listedEdges_2 (k : Nat) (a0 : Int) (a1 : Int) (a2 : (Int → Option (Int × Int × Int × Int))) : Option Int :=
  ((a2 a0).bind fun t100 => ((a2 a1).bind fun t101 => ((cmp_Compare_int k t100.1 t101.1).bind fun t102 => ((cmp_Compare_int k t100.2.1 t101.2.1).bind fun t103 => ((cmp_Compare_int k t100.2.2.1 t101.2.2.1).bind fun t104 => ((cmp_Compare_int k t100.2.2.2 t101.2.2.2).bind fun t105 => ((cmp_Or_int k [t102, t103, t104, t105]).bind fun t106 => (some t106))))))))
def slices_insertionSortCmpFunc_int.b1 (a1 : Int) (a3 : ((Int × Int) → Option Int)) (x8 : Int) (rec0 : (List Int) → Int → Option (List Int)) (rec1 : (List Int) → Int → Option (List Int)) (x0' : (List Int)) (x9 : Int) : Option (List Int) :=
  (jn (κ := Bool → Option (List Int)) (fun (x34 : Bool) => (bif x34 then (if inR (x9 - 1) then (if inR (x9 - 1) then (if (0 : Int) ≤ (x9 - 1) ∧ (x9 - 1) < (x0'.length : Int) then (if (0 : Int) ≤ x9 ∧ x9 < (x0'.length : Int) then (if (0 : Int) ≤ x9 ∧ x9 < (x0'.length : Int) then (if (0 : Int) ≤ (x9 - 1) ∧ (x9 - 1) < ((x0'.set (x9 : Int).toNat (rd x0' (x9 - 1))).length : Int) then (if inR (x9 - 1) then (rec1 ((x0'.set (x9 : Int).toNat (rd x0' (x9 - 1))).set ((x9 - 1) : Int).toNat (rd x0' x9)) (x9 - 1)) else none) else none) else none) else none) else none) else none) else none) else (if inR (x8 + 1) then (rec0 x0' (x8 + 1)) else none))) (fun j419 => (bif (decide (x9 > a1)) then (if (0 : Int) ≤ x9 ∧ x9 < (x0'.length : Int) then (if inR (x9 - 1) then (if (0 : Int) ≤ (x9 - 1) ∧ (x9 - 1) < (x0'.length : Int) then ((a3 ((rd x0' x9), (rd x0' (x9 - 1)))).bind fun t445 => (j419 (decide (t445 < 0)))) else none) else none) else none) else (j419 false))))
def slices_insertionSortCmpFunc_int.b0 (k : Nat) (a1 : Int) (a2 : Int) (a3 : ((Int × Int) → Option Int)) (rec0 : (List Int) → Int → Option (List Int)) (x0 : (List Int)) (x8 : Int) : Option (List Int) :=
  (bif (decide (x8 < a2)) then (loop2 k (slices_insertionSortCmpFunc_int.b1 a1 a3 x8 rec0) x0 x8) else (some x0))
def slices_insertionSortCmpFunc_int (k : Nat) (a0 : (List Int)) (a1 : Int) (a2 : Int) (a3 : ((Int × Int) → Option Int)) : Option (List Int) :=
  (if inR (a1 + 1) then (loop2 k (slices_insertionSortCmpFunc_int.b0 k a1 a2 a3) a0 (a1 + 1)) else none)
def slices_stableCmpFunc_int.b2 (a1 : Int) (x6 : Int) (rec1 : Int → Option (List Int)) (rec2 : Option (List Int)) : Option (List Int) :=
  (bif (decide ((2 * x6) ≤ a1)) then none else (if inR (0 + x6) then (bif (decide ((0 + x6) < a1)) then none else (if inR (x6 * 2) then (rec1 (x6 * 2)) else none)) else none))
def slices_stableCmpFunc_int.b1 (k : Nat) (a1 : Int) (t183 : (List Int)) (rec1 : Int → Option (List Int)) (x6 : Int) : Option (List Int) :=
  (bif (decide (x6 < a1)) then (if inR (2 * x6) then (loop0 k (slices_stableCmpFunc_int.b2 a1 x6 rec1)) else none) else (some t183))
def slices_stableCmpFunc_int.b0 (k : Nat) (a1 : Int) (a2 : ((Int × Int) → Option Int)) (rec0 : (List Int) → Int → Int → Option (List Int)) (x0 : (List Int)) (x7 : Int) (x8 : Int) : Option (List Int) :=
  (bif (decide (x8 ≤ a1)) then ((slices_insertionSortCmpFunc_int k x0 x7 x8 a2).bind fun t181 => (if inR (x8 + 20) then (rec0 t181 x8 (x8 + 20)) else none)) else ((slices_insertionSortCmpFunc_int k x0 x7 a1 a2).bind fun t183 => (loop1 k (slices_stableCmpFunc_int.b1 k a1 t183) 20)))
def slices_stableCmpFunc_int (k : Nat) (a0 : (List Int)) (a1 : Int) (a2 : ((Int × Int) → Option Int)) : Option (List Int) :=
  (loop3 k (slices_stableCmpFunc_int.b0 k a1 a2) a0 0 20)
def slices_SortStableFunc_int (k : Nat) (a0 : (List Int)) (a1 : ((Int × Int) → Option Int)) : Option (List Int) :=
  ((slices_stableCmpFunc_int k a0 (a0.length : Int) a1).bind fun t100 => (some t100))
def host_listedEdges.b0 (k : Nat) (a0 : Graph) (a1 : (List Int)) (rec0 : (List Int) → Int → Option (List Int)) (x5 : (List Int)) (x11 : Int) : Option (List Int) :=
  (bif (decide (x11 < (a0.fEdges.length : Int))) then (if x5.length + [x11].length ≤ lim then (if inR (x11 + 1) then (rec0 (x5 ++ [x11]) (x11 + 1)) else none) else none) else ((slices_SortStableFunc_int k x5 (fun x => host_listedEdges_2 k x.1 x.2 (fun x => host_listedEdges_1 k x a0 a1))).bind fun t125 => (some t125)))
def host_listedEdges (k : Nat) (a0 : Graph) (a1 : (List Int)) : Option (List Int) :=
  (loop2 k (host_listedEdges.b0 k a0 a1) [] 0)
def host_Canonical.b1 (a1 : Host) (y0 : (List Int)) (y2 : (List (List Int))) (x10_0 : (List Int)) (t338 : (List Int)) (rec1 : (List Edge) → (List Int) → Int → Option (Host × Morphism × Int)) (y1 : (List Edge)) (x10_1 : (List Int)) (x94 : Int) : Option (Host × Morphism × Int) :=
  (bif (decide (x94 < (t338.length : Int))) then (if (0 : Int) ≤ x94 ∧ x94 < (t338.length : Int) then (if (0 : Int) ≤ (rd t338 x94) ∧ (rd t338 x94) < (a1.fGraph.fEdges.length : Int) then (if (0 : Int) ≤ (rd t338 x94) ∧ (rd t338 x94) < (x10_1.length : Int) then (if (0 : Int) ≤ (rd a1.fGraph.fEdges (rd t338 x94)).fFrom ∧ (rd a1.fGraph.fEdges (rd t338 x94)).fFrom < (x10_0.length : Int) then (if (0 : Int) ≤ (rd a1.fGraph.fEdges (rd t338 x94)).fTo ∧ (rd a1.fGraph.fEdges (rd t338 x94)).fTo < (x10_0.length : Int) then (if y1.length + [(Edge.mk ((rd a1.fGraph.fEdges (rd t338 x94)).fType) (rd x10_0 ((rd a1.fGraph.fEdges (rd t338 x94)).fFrom)) (rd x10_0 ((rd a1.fGraph.fEdges (rd t338 x94)).fTo)))].length ≤ lim then (if inR (x94 + 1) then (rec1 (y1 ++ [(Edge.mk ((rd a1.fGraph.fEdges (rd t338 x94)).fType) (rd x10_0 ((rd a1.fGraph.fEdges (rd t338 x94)).fFrom)) (rd x10_0 ((rd a1.fGraph.fEdges (rd t338 x94)).fTo)))]) (x10_1.set ((rd t338 x94) : Int).toNat x94) (x94 + 1)) else none) else none) else none) else none) else none) else none) else none) else (some ((Host.mk (Graph.mk y0 y1) y2), (Morphism.mk x10_0 x10_1), 0)))
def host_Canonical.b0 (k : Nat) (a1 : Host) (t106 : ((List Int) × (List Int) × (List Int) × (List Int) × Bool)) (rec0 : (List Int) → (List (List Int)) → (List Int) → Int → Option (Host × Morphism × Int)) (y0 : (List Int)) (y2 : (List (List Int))) (x10_0 : (List Int)) (x53 : Int) : Option (Host × Morphism × Int) :=
  (bif (decide (x53 < (t106.2.2.1.length : Int))) then (if (0 : Int) ≤ x53 ∧ x53 < (t106.2.2.1.length : Int) then (if (0 : Int) ≤ (rd t106.2.2.1 x53) ∧ (rd t106.2.2.1 x53) < (x10_0.length : Int) then (if (0 : Int) ≤ (rd t106.2.2.1 x53) ∧ (rd t106.2.2.1 x53) < (a1.fGraph.fNodes.length : Int) then (if y0.length + [(rd a1.fGraph.fNodes (rd t106.2.2.1 x53))].length ≤ lim then (if (0 : Int) ≤ (rd t106.2.2.1 x53) ∧ (rd t106.2.2.1 x53) < (a1.fValues.length : Int) then ((slices_Clone_int k (rd a1.fValues (rd t106.2.2.1 x53))).bind fun t334 => (if y2.length + [t334].length ≤ lim then (if inR (x53 + 1) then (rec0 (y0 ++ [(rd a1.fGraph.fNodes (rd t106.2.2.1 x53))]) (y2 ++ [t334]) (x10_0.set ((rd t106.2.2.1 x53) : Int).toNat x53) (x53 + 1)) else none) else none)) else none) else none) else none) else none) else none) else ((host_listedEdges k a1.fGraph x10_0).bind fun t338 => (loop3 k (host_Canonical.b1 a1 y0 y2 x10_0 t338) [] (List.replicate ((a1.fGraph.fEdges.length : Int) : Int).toNat (0 : Int)) 0)))
def host_Canonical (k : Nat) (a0 : Types) (a1 : Host) : Option (Host × Morphism × Int) :=
  ((host_valid k a0 a1).bind fun t102 => (bif (t102 != 0) then (some ((Host.mk (Graph.mk [] []) []), (Morphism.mk [] []), t102)) else (bif (decide ((a1.fGraph.fNodes.length : Int) > 8)) then (some ((Host.mk (Graph.mk [] []) []), (Morphism.mk [] []), 3)) else ((host_canon_search k (Canon.mk a1 [] [] [] [] false)).bind fun t106 => (jn (κ := Option (Host × Morphism × Int)) ((loop4 k (host_Canonical.b0 k a1 t106) [] [] (List.replicate ((t106.2.2.1.length : Int) : Int).toNat (0 : Int)) 0)) (fun j123 => (if (0 : Int) ≤ (t106.2.2.1.length : Int) ∧ (t106.2.2.1.length : Int) ≤ (lim : Int) then (if (0 : Int) ≤ (a1.fGraph.fEdges.length : Int) ∧ (a1.fGraph.fEdges.length : Int) ≤ (lim : Int) then j123 else none) else none)))))))
def ref05_SameInts.b0 (a0 : (List Int)) (a1 : (List Int)) (rec0 : Int → Option Bool) (x5 : Int) : Option Bool :=
  (bif (decide (x5 < (a0.length : Int))) then (if (0 : Int) ≤ x5 ∧ x5 < (a0.length : Int) then (if (0 : Int) ≤ x5 ∧ x5 < (a1.length : Int) then (bif ((rd a0 x5) != (rd a1 x5)) then (some false) else (if inR (x5 + 1) then (rec0 (x5 + 1)) else none)) else none) else none) else (some true))
def ref05_SameInts (k : Nat) (a0 : (List Int)) (a1 : (List Int)) : Option Bool :=
  (bif ((a0.length : Int) != (a1.length : Int)) then (some false) else (loop1 k (ref05_SameInts.b0 a0 a1) 0))
def ref05_Same.b0 (a0 : Graph) (a1 : Graph) (rec0 : Int → Option Bool) (x5 : Int) : Option Bool :=
  (bif (decide (x5 < (a0.fEdges.length : Int))) then (if (0 : Int) ≤ x5 ∧ x5 < (a0.fEdges.length : Int) then (if (0 : Int) ≤ x5 ∧ x5 < (a1.fEdges.length : Int) then (bif (!([(rd a0.fEdges x5).fType, (rd a0.fEdges x5).fFrom, (rd a0.fEdges x5).fTo] == [(rd a1.fEdges x5).fType, (rd a1.fEdges x5).fFrom, (rd a1.fEdges x5).fTo])) then (some false) else (if inR (x5 + 1) then (rec0 (x5 + 1)) else none)) else none) else none) else (some true))
def ref05_Same (k : Nat) (a0 : Graph) (a1 : Graph) : Option Bool :=
  (jn (κ := Bool → Option Bool) (fun (x20 : Bool) => (bif x20 then (some false) else (loop1 k (ref05_Same.b0 a0 a1) 0))) (fun j103 => ((ref05_SameInts k a0.fNodes a1.fNodes).bind fun t132 => (bif (!t132) then (j103 true) else (j103 ((a0.fEdges.length : Int) != (a1.fEdges.length : Int)))))))
def ref15_compare.b0 (a0 : (List Int)) (a1 : (List Int)) (rec0 : Int → Option Int) (x5 : Int) : Option Int :=
  (jn (κ := Bool → Option Int) (fun (x15 : Bool) => (bif x15 then (if (0 : Int) ≤ x5 ∧ x5 < (a0.length : Int) then (if (0 : Int) ≤ x5 ∧ x5 < (a1.length : Int) then (bif ((rd a0 x5) != (rd a1 x5)) then (if (0 : Int) ≤ x5 ∧ x5 < (a0.length : Int) then (if (0 : Int) ≤ x5 ∧ x5 < (a1.length : Int) then (some (IntKind.i64.wrap ((rd a0 x5) - (rd a1 x5)))) else none) else none) else (if inR (x5 + 1) then (rec0 (x5 + 1)) else none)) else none) else none) else (some (IntKind.i64.wrap ((a0.length : Int) - (a1.length : Int)))))) (fun j140 => (bif (decide (x5 < (a0.length : Int))) then (j140 (decide (x5 < (a1.length : Int)))) else (j140 false))))
def ref15_compare (k : Nat) (a0 : (List Int)) (a1 : (List Int)) : Option Int :=
  (loop1 k (ref15_compare.b0 a0 a1) 0)
def ref15_Same.b0 (k : Nat) (a0 : Host) (a1 : Host) (rec0 : Int → Option Bool) (x5 : Int) : Option Bool :=
  (bif (decide (x5 < (a0.fValues.length : Int))) then (if (0 : Int) ≤ x5 ∧ x5 < (a0.fValues.length : Int) then (if (0 : Int) ≤ x5 ∧ x5 < (a1.fValues.length : Int) then ((ref15_compare k (rd a0.fValues x5) (rd a1.fValues x5)).bind fun t138 => (bif (t138 != 0) then (some false) else (if inR (x5 + 1) then (rec0 (x5 + 1)) else none))) else none) else none) else (some true))
def ref15_Same (k : Nat) (a0 : Host) (a1 : Host) : Option Bool :=
  (jn (κ := Bool → Option Bool) (fun (x20 : Bool) => (bif x20 then (some false) else (loop1 k (ref15_Same.b0 k a0 a1) 0))) (fun j103 => ((ref05_Same k a0.fGraph a1.fGraph).bind fun t141 => (bif (!t141) then (j103 true) else (j103 ((a0.fValues.length : Int) != (a1.fValues.length : Int)))))))
def slices_Equal_int.b0 (a0 : (List Int)) (a1 : (List Int)) (rec0 : Int → Option Bool) (x13 : Int) : Option Bool :=
  (bif (decide (x13 < (a0.length : Int))) then (if (0 : Int) ≤ x13 ∧ x13 < (a0.length : Int) then (if (0 : Int) ≤ x13 ∧ x13 < (a1.length : Int) then (bif ((rd a0 x13) != (rd a1 x13)) then (some false) else (if inR (x13 + 1) then (rec0 (x13 + 1)) else none)) else none) else none) else (some true))
def slices_Equal_int (k : Nat) (a0 : (List Int)) (a1 : (List Int)) : Option Bool :=
  (bif ((a0.length : Int) != (a1.length : Int)) then (some false) else (loop1 k (slices_Equal_int.b0 a0 a1) 0))
def slices_Equal_Excess.b0 (a0 : (List Excess)) (a1 : (List Excess)) (rec0 : Int → Option Bool) (x13 : Int) : Option Bool :=
  (bif (decide (x13 < (a0.length : Int))) then (if (0 : Int) ≤ x13 ∧ x13 < (a0.length : Int) then (if (0 : Int) ≤ x13 ∧ x13 < (a1.length : Int) then (bif (!([Lf.i ((rd a0 x13).fEdge), Lf.i ((rd a0 x13).fNode), Lf.i ((rd a0 x13).fCount), Lf.b ((rd a0 x13).fOut)] == [Lf.i ((rd a1 x13).fEdge), Lf.i ((rd a1 x13).fNode), Lf.i ((rd a1 x13).fCount), Lf.b ((rd a1 x13).fOut)])) then (some false) else (if inR (x13 + 1) then (rec0 (x13 + 1)) else none)) else none) else none) else (some true))
def slices_Equal_Excess (k : Nat) (a0 : (List Excess)) (a1 : (List Excess)) : Option Bool :=
  (bif ((a0.length : Int) != (a1.length : Int)) then (some false) else (loop1 k (slices_Equal_Excess.b0 a0 a1) 0))
def law15_awake (k : Nat) : Option Bool :=
  ((ref04_Example k).bind fun t100 => ((law15_example k).bind fun t101 => ((host_Valid k t100 t101).bind fun t104 => ((host_Excesses k t100 t101).bind fun t105 => ((host_Canonical k t100 t101).bind fun t106 => (if (0 : Int) ≤ 1 ∧ 1 ≤ (t101.fGraph.fEdges.length : Int) then ((host_Excesses k t100 (Host.mk (Graph.mk t101.fGraph.fNodes (t101.fGraph.fEdges.take (1 : Int).toNat)) t101.fValues)).bind fun t110 => (jn (κ := Bool → Option Bool) (fun (x0 : Bool) => (some x0)) (fun j124 => (bif (t104.1 == (-1)) then (bif (t104.2 == 0) then (bif (t105.2 == 0) then (bif (t106.2.2 == 0) then (bif (t110.2 == 0) then (bif ((t105.1.length : Int) == 0) then ((ref15_Same k t106.1 (Host.mk (Graph.mk [1, 1, 3] [(Edge.mk 0 2 0), (Edge.mk 0 2 1)]) ([[5], [10], []]))).bind fun t131 => (bif t131 then ((slices_Equal_int k t106.2.1.fNodes [2, 1, 0]).bind fun t133 => (bif t133 then ((slices_Equal_Excess k t110.1 [(Excess.mk 0 2 0 false)]).bind fun t135 => (j124 t135)) else (j124 false))) else (j124 false))) else (j124 false)) else (j124 false)) else (j124 false)) else (j124 false)) else (j124 false)) else (j124 false))))) else none))))))
def ref04_Few.b2 (a0 : Types) (x4 : Int) (x5 : Int) (rec1 : Int → Option Bool) (rec2 : Int → Option Bool) (x7 : Int) : Option Bool :=
  (bif (decide (x7 < (((rd ((rd a0.fNodes x4).fAttrs) x5).fNames).length : Int))) then (if (0 : Int) ≤ x7 ∧ x7 < (((rd ((rd a0.fNodes x4).fAttrs) x5).fNames).length : Int) then (bif (decide (((rd ((rd ((rd a0.fNodes x4).fAttrs) x5).fNames) x7).length : Int) > 40)) then (some false) else (if inR (x7 + 1) then (rec2 (x7 + 1)) else none)) else none) else (if inR (x5 + 1) then (rec1 (x5 + 1)) else none))
def ref04_Few.b1 (k : Nat) (a0 : Types) (x3 : Int) (x4 : Int) (rec0 : Int → Int → Option Bool) (rec1 : Int → Option Bool) (x5 : Int) : Option Bool :=
  (if (0 : Int) ≤ x4 ∧ x4 < (a0.fNodes.length : Int) then (bif (decide (x5 < (((rd a0.fNodes x4).fAttrs).length : Int))) then (if (0 : Int) ≤ x4 ∧ x4 < (a0.fNodes.length : Int) then (if (0 : Int) ≤ x5 ∧ x5 < (((rd a0.fNodes x4).fAttrs).length : Int) then (jn (κ := Bool → Option Bool) (fun (x76 : Bool) => (bif x76 then (some false) else (loop1 k (ref04_Few.b2 a0 x4 x5 rec1) 0))) (fun j371 => (bif (decide ((((rd ((rd a0.fNodes x4).fAttrs) x5).fName).length : Int) > 40)) then (j371 true) else (j371 (decide ((((rd ((rd a0.fNodes x4).fAttrs) x5).fNames).length : Int) > 25)))))) else none) else none) else (if inR (x4 + 1) then (rec0 (x3 + (((rd a0.fNodes x4).fAttrs).length : Int)) (x4 + 1)) else none)) else none)
def ref04_Few.b3 (a0 : Types) (rec3 : Int → Option Bool) (x8 : Int) : Option Bool :=
  (bif (decide (x8 < (a0.fEdges.length : Int))) then (if (0 : Int) ≤ x8 ∧ x8 < (a0.fEdges.length : Int) then (bif (decide ((((rd a0.fEdges x8).fName).length : Int) > 40)) then (some false) else (if inR (x8 + 1) then (rec3 (x8 + 1)) else none)) else none) else (some true))
def ref04_Few.b0 (k : Nat) (a0 : Types) (rec0 : Int → Int → Option Bool) (x3 : Int) (x4 : Int) : Option Bool :=
  (bif (decide (x4 < (a0.fNodes.length : Int))) then (if (0 : Int) ≤ x4 ∧ x4 < (a0.fNodes.length : Int) then (if inR (x3 + (((rd a0.fNodes x4).fAttrs).length : Int)) then (jn (κ := Bool → Option Bool) (fun (x46 : Bool) => (bif x46 then (some false) else (loop1 k (ref04_Few.b1 k a0 x3 x4 rec0) 0))) (fun j310 => (bif (decide ((x3 + (((rd a0.fNodes x4).fAttrs).length : Int)) > 30)) then (j310 true) else (if (0 : Int) ≤ x4 ∧ x4 < (a0.fNodes.length : Int) then (j310 (decide ((((rd a0.fNodes x4).fName).length : Int) > 40))) else none)))) else none) else none) else (loop1 k (ref04_Few.b3 a0) 0))
def ref04_Few (k : Nat) (a0 : Types) : Option Bool :=
  (jn (κ := Bool → Option Bool) (fun (x18 : Bool) => (bif x18 then (some false) else (loop2 k (ref04_Few.b0 k a0) 0 0))) (fun j102 => (bif (decide ((a0.fNodes.length : Int) > 20)) then (j102 true) else (j102 (decide ((a0.fEdges.length : Int) > 30))))))
def slices_IndexFunc_Host.b0 (a0 : (List Host)) (a1 : (Host → Option Bool)) (rec0 : Int → Option Int) (x8 : Int) : Option Int :=
  (bif (decide (x8 < (a0.length : Int))) then (if (0 : Int) ≤ x8 ∧ x8 < (a0.length : Int) then ((a1 (rd a0 x8)).bind fun t112 => (bif t112 then (some x8) else (if inR (x8 + 1) then (rec0 (x8 + 1)) else none))) else none) else (some (-1)))
def slices_IndexFunc_Host (k : Nat) (a0 : (List Host)) (a1 : (Host → Option Bool)) : Option Int :=
  (loop1 k (slices_IndexFunc_Host.b0 a0 a1) 0)
def slices_ContainsFunc_Host (k : Nat) (a0 : (List Host)) (a1 : (Host → Option Bool)) : Option Bool :=
  ((slices_IndexFunc_Host k a0 a1).bind fun t100 => (some (decide (t100 ≥ 0))))
def ref05_Few (k : Nat) (a0 : Graph) : Option Bool :=
  (jn (κ := Bool → Option Bool) (fun (x2 : Bool) => (some x2)) (fun j102 => (bif (decide ((a0.fNodes.length : Int) ≤ 45)) then (j102 (decide ((a0.fEdges.length : Int) ≤ 90))) else (j102 false))))
def ref15_Few.b0 (a0 : Host) (rec0 : Int → Option Bool) (x3 : Int) : Option Bool :=
  (bif (decide (x3 < (a0.fValues.length : Int))) then (if (0 : Int) ≤ x3 ∧ x3 < (a0.fValues.length : Int) then (bif (decide (((rd a0.fValues x3).length : Int) > 12)) then (some false) else (if inR (x3 + 1) then (rec0 (x3 + 1)) else none)) else none) else (some true))
def ref15_Few (k : Nat) (a0 : Host) : Option Bool :=
  (jn (κ := Bool → Option Bool) (fun (x13 : Bool) => (bif x13 then (some false) else (loop1 k (ref15_Few.b0 a0) 0))) (fun j103 => ((ref05_Few k a0.fGraph).bind fun t117 => (bif (!t117) then (j103 true) else (j103 (decide ((a0.fValues.length : Int) > 45)))))))
def law15_small_1 (k : Nat) (a0 : Host) : Option Bool :=
  ((ref15_Few k a0).bind fun t100 => (some (!t100)))
def law15_small (k : Nat) (a0 : Types) (a1 : (List Host)) : Option Bool :=
  (jn (κ := Bool → Option Bool) (fun (x4 : Bool) => (some x4)) (fun j104 => ((ref04_Few k a0).bind fun t105 => (bif t105 then ((slices_ContainsFunc_Host k a1 (fun x => law15_small_1 k x)).bind fun t107 => (j104 (!t107))) else (j104 false)))))
def law15_light (k : Nat) (a0 : Types) (a1 : Host) : Option Bool :=
  (jn (κ := Bool → Option Bool) (fun (x4 : Bool) => (some x4)) (fun j105 => ((law15_small k a0 [a1]).bind fun t106 => (bif t106 then (bif (decide ((a1.fGraph.fNodes.length : Int) ≤ 7)) then (j105 (decide ((a1.fGraph.fEdges.length : Int) ≤ 20))) else (bif (decide ((a1.fGraph.fNodes.length : Int) > 8)) then (j105 (decide ((a1.fGraph.fEdges.length : Int) ≤ 20))) else (j105 false))) else (j105 false)))))
def ref05_Copied (k : Nat) (a0 : Graph) : Option Graph :=
  (if a0.fNodes.length ≤ lim then (if a0.fEdges.length ≤ lim then (some a0) else none) else none)
def ref15_Copied.b0 (a0 : Host) (t101 : Graph) (rec0 : (List (List Int)) → Int → Option Host) (y2 : (List (List Int))) (x4 : Int) : Option Host :=
  (bif (decide (x4 < (a0.fValues.length : Int))) then (if (0 : Int) ≤ x4 ∧ x4 < (a0.fValues.length : Int) then (if (rd a0.fValues x4).length ≤ lim then (if y2.length + 1 ≤ lim then (if inR (x4 + 1) then (rec0 (y2 ++ [(rd a0.fValues x4)]) (x4 + 1)) else none) else none) else none) else none) else (some (Host.mk t101 y2)))
def ref15_Copied (k : Nat) (a0 : Host) : Option Host :=
  ((ref05_Copied k a0.fGraph).bind fun t101 => (loop2 k (ref15_Copied.b0 a0 t101) ([] : List (List Int)) 0))
def ref01_text (k : Nat) (a0 : Token) : Option Str :=
  (bif (a0.fKind == 3) then (if (([34] : Str).length : Int) + (a0.fText.length : Int) ≤ 9223372036854775807 then (if ((([34] : Str) ++ a0.fText).length : Int) + (([34] : Str).length : Int) ≤ 9223372036854775807 then (some ((([34] : Str) ++ a0.fText) ++ ([34] : Str))) else none) else none) else (some a0.fText))
def ref01_letter (k : Nat) (a0 : Int) : Option Bool :=
  (jn (κ := Bool → Option Bool) (fun (x2 : Bool) => (some x2)) (fun j105 => (bif (decide (a0 ≥ 97)) then (bif (decide (a0 ≤ 122)) then (j105 true) else (bif (decide (a0 ≥ 65)) then (j105 (decide (a0 ≤ 90))) else (j105 false))) else (bif (decide (a0 ≥ 65)) then (j105 (decide (a0 ≤ 90))) else (j105 false)))))
def ref01_digit (k : Nat) (a0 : Int) : Option Bool :=
  (jn (κ := Bool → Option Bool) (fun (x2 : Bool) => (some x2)) (fun j102 => (bif (decide (a0 ≥ 48)) then (j102 (decide (a0 ≤ 57))) else (j102 false))))
def ref01_run.b0 (k : Nat) (a0 : Str) (a1 : Int) (a2 : Bool) (rec0 : Int → Option Int) (x7 : Int) : Option Int :=
  (jn (κ := Bool → Option Int) (fun (x41 : Bool) => (bif x41 then (if inR (x7 + 1) then (rec0 (x7 + 1)) else none) else (some x7))) (fun j174 => (if inR (a1 + x7) then (bif (decide ((a1 + x7) < (a0.length : Int))) then (if inR (a1 + x7) then (if (0 : Int) ≤ (a1 + x7) ∧ (a1 + x7) < (a0.length : Int) then ((ref01_digit k (bt a0 (a1 + x7))).bind fun t181 => (bif t181 then (j174 true) else (bif (!a2) then (if inR (a1 + x7) then (if (0 : Int) ≤ (a1 + x7) ∧ (a1 + x7) < (a0.length : Int) then ((ref01_letter k (bt a0 (a1 + x7))).bind fun t186 => (bif t186 then (j174 true) else (if inR (a1 + x7) then (if (0 : Int) ≤ (a1 + x7) ∧ (a1 + x7) < (a0.length : Int) then (j174 ((bt a0 (a1 + x7)) == 95)) else none) else none))) else none) else none) else (j174 false)))) else none) else none) else (j174 false)) else none)))
def ref01_run (k : Nat) (a0 : Str) (a1 : Int) (a2 : Bool) : Option Int :=
  (loop1 k (ref01_run.b0 k a0 a1 a2) 0)
def ref01_quoted.b0 (a0 : Str) (a1 : Int) (rec0 : Int → Option Int) (x5 : Int) : Option Int :=
  (if inR (a1 + x5) then (bif (decide ((a1 + x5) < (a0.length : Int))) then (if inR (a1 + x5) then (if (0 : Int) ≤ (a1 + x5) ∧ (a1 + x5) < (a0.length : Int) then (bif ((bt a0 (a1 + x5)) == 34) then (if inR (x5 + 1) then (some (x5 + 1)) else none) else (jn (κ := Bool → Option Int) (fun (x29 : Bool) => (bif x29 then (some 0) else (if inR (x5 + 1) then (rec0 (x5 + 1)) else none))) (fun j132 => (bif (decide ((bt a0 (a1 + x5)) < 32)) then (j132 true) else (j132 (decide ((bt a0 (a1 + x5)) > 126))))))) else none) else none) else (some 0)) else none)
def ref01_quoted (k : Nat) (a0 : Str) (a1 : Int) : Option Int :=
  (loop1 k (ref01_quoted.b0 a0 a1) 1)
def ref01_signs (k : Nat) : Option (List Str) :=
  (some ([([45, 62] : Str), ([60, 61] : Str), ([62, 61] : Str), ([61, 61] : Str), ([33, 61] : Str), ([123] : Str), ([125] : Str), ([40] : Str), ([41] : Str), ([91] : Str), ([93] : Str), ([44] : Str), ([59] : Str), ([58] : Str), ([61] : Str), ([43] : Str), ([45] : Str), ([42] : Str), ([60] : Str), ([62] : Str), ([33] : Str), ([38] : Str), ([124] : Str), ([46] : Str), ([63] : Str)]))
def ref01_one.b0 (a0 : Str) (a1 : Int) (t127 : (List Str)) (rec0 : Int → Option (Token × Int × Int)) (x13 : Int) : Option (Token × Int × Int) :=
  (bif (decide (x13 < (t127.length : Int))) then (jn (κ := Bool → Option (Token × Int × Int)) (fun (x98 : Bool) => (bif x98 then (if (0 : Int) ≤ x13 ∧ x13 < (t127.length : Int) then (if (0 : Int) ≤ x13 ∧ x13 < (t127.length : Int) then (some ((Token.mk 4 (rd t127 x13) 0), ((rd t127 x13).length : Int), 0)) else none) else none) else (if inR (x13 + 1) then (rec0 (x13 + 1)) else none))) (fun j208 => (if (0 : Int) ≤ x13 ∧ x13 < (t127.length : Int) then (if inR (a1 + ((rd t127 x13).length : Int)) then (bif (decide ((a1 + ((rd t127 x13).length : Int)) ≤ (a0.length : Int))) then (if (0 : Int) ≤ x13 ∧ x13 < (t127.length : Int) then (if inR (a1 + ((rd t127 x13).length : Int)) then (if (0 : Int) ≤ a1 ∧ (a1 : Int) ≤ (a1 + ((rd t127 x13).length : Int)) ∧ ((a1 + ((rd t127 x13).length : Int)) : Int) ≤ (a0.length : Int) then (if (0 : Int) ≤ x13 ∧ x13 < (t127.length : Int) then (j208 (((a0.take ((a1 + ((rd t127 x13).length : Int)) : Int).toNat).drop (a1 : Int).toNat) == (rd t127 x13))) else none) else none) else none) else none) else (j208 false)) else none) else none))) else (some ((Token.mk 0 ([] : Str) 0), 0, 2)))
def ref01_one (k : Nat) (a0 : Str) (a1 : Int) : Option (Token × Int × Int) :=
  (if (0 : Int) ≤ a1 ∧ a1 < (a0.length : Int) then (jn (κ := Bool → Option (Token × Int × Int)) (fun (x22 : Bool) => (bif x22 then ((ref01_digit k (bt a0 a1)).bind fun t108 => ((ref01_run k a0 a1 t108).bind fun t109 => ((ref01_digit k (bt a0 a1)).bind fun t110 => (jn (κ := Int → Int → Option (Token × Int × Int)) (fun (x9 : Int) (x10 : Int) => (bif (decide (t109 > x10)) then (some ((Token.mk 0 ([] : Str) 0), 0, 3)) else (if inR (a1 + t109) then (if (0 : Int) ≤ a1 ∧ (a1 : Int) ≤ (a1 + t109) ∧ ((a1 + t109) : Int) ≤ (a0.length : Int) then (some ((Token.mk x9 ((a0.take ((a1 + t109) : Int).toNat).drop (a1 : Int).toNat) 0), t109, 0)) else none) else none))) (fun j113 => (bif t110 then (j113 2 9) else (j113 1 20))))))) else (bif ((bt a0 a1) == 34) then ((ref01_quoted k a0 a1).bind fun t119 => (bif (t119 == 0) then (some ((Token.mk 0 ([] : Str) 0), 0, 2)) else (if inR (t119 - 2) then (bif (decide ((t119 - 2) > 60)) then (some ((Token.mk 0 ([] : Str) 0), 0, 3)) else (if inR (a1 + 1) then (if inR (a1 + t119) then (if inR ((a1 + t119) - 1) then (if (0 : Int) ≤ (a1 + 1) ∧ ((a1 + 1) : Int) ≤ ((a1 + t119) - 1) ∧ (((a1 + t119) - 1) : Int) ≤ (a0.length : Int) then (some ((Token.mk 3 ((a0.take (((a1 + t119) - 1) : Int).toNat).drop ((a1 + 1) : Int).toNat) 0), t119, 0)) else none) else none) else none) else none)) else none))) else ((ref01_signs k).bind fun t127 => (loop1 k (ref01_one.b0 a0 a1 t127) 0))))) (fun j106 => ((ref01_letter k (bt a0 a1)).bind fun t224 => (bif t224 then (j106 true) else ((ref01_digit k (bt a0 a1)).bind fun t226 => (j106 t226)))))) else none)
def ref01_Right (k : Nat) (a0 : Token) : Option Bool :=
  ((ref01_text k a0).bind fun t100 => (bif (t100 == ([] : Str)) then (some false) else ((ref01_one k t100 0).bind fun t102 => (jn (κ := Bool → Option Bool) (fun (x2 : Bool) => (some x2)) (fun j107 => (bif (t102.2.2 == 0) then (bif (t102.2.1 == (t100.length : Int)) then (j107 (t102.1.fKind == a0.fKind)) else (j107 false)) else (j107 false)))))))
def ref01_IsName (k : Nat) (a0 : Str) : Option Bool :=
  ((ref01_Right k (Token.mk 1 a0 0)).bind fun t100 => (some t100))
def ref04_in (k : Nat) (a0 : Int) (a1 : Int) (a2 : Int) : Option Bool :=
  (jn (κ := Bool → Option Bool) (fun (x6 : Bool) => (some x6)) (fun j102 => (bif (decide (a0 ≥ a1)) then (j102 (decide (a0 ≤ a2))) else (j102 false))))
def ref04_attrs.main (self : Types → Int → Option (List Attr)) (k : Nat) (a0 : Types) (a1 : Int) : Option (List Attr) :=
  (bif (decide (a1 < 0)) then (some []) else (if (0 : Int) ≤ a1 ∧ a1 < (a0.fNodes.length : Int) then ((self a0 ((rd a0.fNodes a1).fParent)).bind fun t116 => (if t116.length ≤ lim then (if (0 : Int) ≤ a1 ∧ a1 < (a0.fNodes.length : Int) then (if t116.length + ((rd a0.fNodes a1).fAttrs).length ≤ lim then (some (t116 ++ (rd a0.fNodes a1).fAttrs)) else none) else none) else none)) else none))
def ref04_attrs : Nat → Types → Int → Option (List Attr)
  | 0, _, _ => none
  | k + 1, a0, a1 => ref04_attrs.main (ref04_attrs k) k a0 a1
def ref04_names.b1 (a0 : (List Str)) (x3 : Int) (rec0 : Int → Option Int) (rec1 : Int → Option Int) (x4 : Int) : Option Int :=
  (bif (decide (x4 < x3)) then (if (0 : Int) ≤ x4 ∧ x4 < (a0.length : Int) then (if (0 : Int) ≤ x3 ∧ x3 < (a0.length : Int) then (bif ((rd a0 x4) == (rd a0 x3)) then (some 5) else (if inR (x4 + 1) then (rec1 (x4 + 1)) else none)) else none) else none) else (if inR (x3 + 1) then (rec0 (x3 + 1)) else none))
def ref04_names.b0 (k : Nat) (a0 : (List Str)) (rec0 : Int → Option Int) (x3 : Int) : Option Int :=
  (bif (decide (x3 < (a0.length : Int))) then (if (0 : Int) ≤ x3 ∧ x3 < (a0.length : Int) then ((ref01_IsName k (rd a0 x3)).bind fun t171 => (bif (!t171) then (some 2) else (loop1 k (ref04_names.b1 a0 x3 rec0) 0))) else none) else (some 0))
def ref04_names (k : Nat) (a0 : (List Str)) : Option Int :=
  (bif (decide ((a0.length : Int) > 20)) then (some 3) else (loop1 k (ref04_names.b0 k a0) 0))
def ref04_attribute (k : Nat) (a0 : Attr) : Option Int :=
  (bif ((a0.fNames.length : Int) == 0) then (jn (κ := Bool → Option Int) (fun (x19 : Bool) => (bif x19 then (some 6) else (some 0))) (fun j105 => ((ref04_in k a0.fLow (-1000000) 1000000).bind fun t107 => (bif (!t107) then (j105 true) else ((ref04_in k a0.fHigh a0.fLow 1000000).bind fun t109 => (j105 (!t109))))))) else ((ref04_names k a0.fNames).bind fun t110 => (bif (t110 != 0) then (some t110) else (jn (κ := Bool → Option Int) (fun (x37 : Bool) => (bif x37 then (some 6) else (some 0))) (fun j115 => (bif (a0.fLow != 0) then (j115 true) else (if inR ((a0.fNames.length : Int) - 1) then (j115 (a0.fHigh != ((a0.fNames.length : Int) - 1))) else none)))))))
def ref04_node.b2 (k : Nat) (t403 : (List Attr)) (x8 : Int) (rec1 : Int → Option Int) (rec2 : Int → Option Int) (x9 : Int) : Option Int :=
  (bif (decide (x9 < x8)) then (if (0 : Int) ≤ x9 ∧ x9 < (t403.length : Int) then (if (0 : Int) ≤ x8 ∧ x8 < (t403.length : Int) then (bif ((rd t403 x9).fName == (rd t403 x8).fName) then (some 5) else (if inR (x9 + 1) then (rec2 (x9 + 1)) else none)) else none) else none) else (if (0 : Int) ≤ x8 ∧ x8 < (t403.length : Int) then ((ref04_attribute k (rd t403 x8)).bind fun t535 => (bif (t535 != 0) then (some t535) else (if inR (x8 + 1) then (rec1 (x8 + 1)) else none))) else none))
def ref04_node.b1 (k : Nat) (t403 : (List Attr)) (rec1 : Int → Option Int) (x8 : Int) : Option Int :=
  (bif (decide (x8 < (t403.length : Int))) then (if (0 : Int) ≤ x8 ∧ x8 < (t403.length : Int) then ((ref01_IsName k ((rd t403 x8).fName)).bind fun t497 => (bif (!t497) then (some 2) else (loop1 k (ref04_node.b2 k t403 x8 rec1) 0))) else none) else (some 0))
def ref04_node.b0 (k : Nat) (a0 : Types) (a1 : Int) (rec0 : Int → Option Int) (x6 : Int) : Option Int :=
  (bif (decide (x6 < a1)) then (if (0 : Int) ≤ x6 ∧ x6 < (a0.fNodes.length : Int) then (bif ((rd a0.fNodes x6).fName == (rd a0.fNodes a1).fName) then (some 5) else (if inR (x6 + 1) then (rec0 (x6 + 1)) else none)) else none) else (if inR (a1 - 1) then ((ref04_in k ((rd a0.fNodes a1).fParent) (-1) (a1 - 1)).bind fun t401 => (bif (!t401) then (some 6) else ((ref04_attrs k a0 a1).bind fun t403 => (jn (κ := Bool → Option Int) (fun (x51 : Bool) => (bif x51 then (some 3) else (if inR ((t403.length : Int) - (((rd a0.fNodes a1).fAttrs).length : Int)) then (loop1 k (ref04_node.b1 k t403) ((t403.length : Int) - (((rd a0.fNodes a1).fAttrs).length : Int))) else none))) (fun j406 => (bif (decide ((((rd a0.fNodes a1).fAttrs).length : Int) > 4)) then (j406 true) else (j406 (decide ((t403.length : Int) > 8))))))))) else none))
def ref04_node (k : Nat) (a0 : Types) (a1 : Int) : Option Int :=
  (if (0 : Int) ≤ a1 ∧ a1 < (a0.fNodes.length : Int) then ((ref01_IsName k ((rd a0.fNodes a1).fName)).bind fun t102 => (bif (!t102) then (some 2) else (loop1 k (ref04_node.b0 k a0 a1) 0))) else none)
def ref04_bound (k : Nat) (a0 : Int) (a1 : Int) : Option Bool :=
  (jn (κ := Bool → Option Bool) (fun (x4 : Bool) => (some x4)) (fun j105 => ((ref04_in k a0 0 40).bind fun t106 => (bif t106 then (bif (a1 == (-1)) then (j105 true) else ((ref04_in k a1 a0 40).bind fun t109 => (j105 t109))) else (j105 false)))))
def ref04_edge.b0 (k : Nat) (a0 : Types) (a1 : Int) (rec0 : Int → Option Int) (x6 : Int) : Option Int :=
  (bif (decide (x6 < a1)) then (if (0 : Int) ≤ x6 ∧ x6 < (a0.fEdges.length : Int) then (bif ((rd a0.fEdges x6).fName == (rd a0.fEdges a1).fName) then (some 5) else (if inR (x6 + 1) then (rec0 (x6 + 1)) else none)) else none) else (if inR ((a0.fNodes.length : Int) - 1) then (jn (κ := Bool → Option Int) (fun (x62 : Bool) => (bif x62 then (some 6) else (some 0))) (fun j167 => ((ref04_in k ((rd a0.fEdges a1).fFrom) 0 ((a0.fNodes.length : Int) - 1)).bind fun t169 => (bif (!t169) then (j167 true) else ((ref04_in k ((rd a0.fEdges a1).fTo) 0 ((a0.fNodes.length : Int) - 1)).bind fun t171 => (bif (!t171) then (j167 true) else ((ref04_bound k ((rd a0.fEdges a1).fOutLow) ((rd a0.fEdges a1).fOutHigh)).bind fun t173 => (bif (!t173) then (j167 true) else ((ref04_bound k ((rd a0.fEdges a1).fInLow) ((rd a0.fEdges a1).fInHigh)).bind fun t175 => (j167 (!t175))))))))))) else none))
def ref04_edge (k : Nat) (a0 : Types) (a1 : Int) : Option Int :=
  (if (0 : Int) ≤ a1 ∧ a1 < (a0.fEdges.length : Int) then ((ref01_IsName k ((rd a0.fEdges a1).fName)).bind fun t102 => (bif (!t102) then (some 2) else (loop1 k (ref04_edge.b0 k a0 a1) 0))) else none)
def ref04_Valid.b1 (k : Nat) (a0 : Types) (rec1 : Int → Option (Str × Int)) (x6 : Int) : Option (Str × Int) :=
  (bif (decide (x6 < (a0.fEdges.length : Int))) then ((ref04_edge k a0 x6).bind fun t161 => (bif (t161 != 0) then (if (0 : Int) ≤ x6 ∧ x6 < (a0.fEdges.length : Int) then (some ((rd a0.fEdges x6).fName, t161)) else none) else (if inR (x6 + 1) then (rec1 (x6 + 1)) else none))) else (some (([] : Str), 0)))
def ref04_Valid.b0 (k : Nat) (a0 : Types) (rec0 : Int → Option (Str × Int)) (x4 : Int) : Option (Str × Int) :=
  (bif (decide (x4 < (a0.fNodes.length : Int))) then ((ref04_node k a0 x4).bind fun t146 => (bif (t146 != 0) then (if (0 : Int) ≤ x4 ∧ x4 < (a0.fNodes.length : Int) then (some ((rd a0.fNodes x4).fName, t146)) else none) else (if inR (x4 + 1) then (rec0 (x4 + 1)) else none))) else (loop1 k (ref04_Valid.b1 k a0) 0))
def ref04_Valid (k : Nat) (a0 : Types) : Option (Str × Int) :=
  (bif ((a0.fNodes.length : Int) == 0) then (some (([] : Str), 7)) else (jn (κ := Bool → Option (Str × Int)) (fun (x21 : Bool) => (bif x21 then (some (([] : Str), 3)) else (loop1 k (ref04_Valid.b0 k a0) 0))) (fun j103 => (bif (decide ((a0.fNodes.length : Int) > 12)) then (j103 true) else (j103 (decide ((a0.fEdges.length : Int) > 20)))))))
def ref05_kind (k : Nat) (a0 : Int) : Option Bool :=
  (jn (κ := Bool → Option Bool) (fun (x2 : Bool) => (some x2)) (fun j102 => (bif (decide (a0 ≥ 0)) then (j102 (decide (a0 ≤ 99))) else (j102 false))))
def ref05_right (k : Nat) (a0 : Edge) (a1 : Int) : Option Bool :=
  (jn (κ := Bool → Option Bool) (fun (x4 : Bool) => (some x4)) (fun j106 => ((ref05_kind k a0.fType).bind fun t107 => (bif t107 then (bif (decide (a0.fFrom ≥ 0)) then (bif (decide (a0.fFrom < a1)) then (bif (decide (a0.fTo ≥ 0)) then (j106 (decide (a0.fTo < a1))) else (j106 false)) else (j106 false)) else (j106 false)) else (j106 false)))))
def ref05_Valid.b1 (k : Nat) (a0 : Graph) (rec1 : Int → Option Int) (x4 : Int) : Option Int :=
  (bif (decide (x4 < (a0.fEdges.length : Int))) then (if (0 : Int) ≤ x4 ∧ x4 < (a0.fEdges.length : Int) then ((ref05_right k (rd a0.fEdges x4) (a0.fNodes.length : Int)).bind fun t197 => (bif (!t197) then (some 6) else (if inR (x4 + 1) then (rec1 (x4 + 1)) else none))) else none) else (some 0))
def ref05_Valid.b0 (k : Nat) (a0 : Graph) (rec0 : Int → Option Int) (x3 : Int) : Option Int :=
  (bif (decide (x3 < (a0.fNodes.length : Int))) then (if (0 : Int) ≤ x3 ∧ x3 < (a0.fNodes.length : Int) then ((ref05_kind k (rd a0.fNodes x3)).bind fun t170 => (bif (!t170) then (some 6) else (if inR (x3 + 1) then (rec0 (x3 + 1)) else none))) else none) else (loop1 k (ref05_Valid.b1 k a0) 0))
def ref05_Valid (k : Nat) (a0 : Graph) : Option Int :=
  (jn (κ := Bool → Option Int) (fun (x14 : Bool) => (bif x14 then (some 3) else (loop1 k (ref05_Valid.b0 k a0) 0))) (fun j102 => (bif (decide ((a0.fNodes.length : Int) > 40)) then (j102 true) else (j102 (decide ((a0.fEdges.length : Int) > 80))))))
def ref04_given (k : Nat) (a0 : Types) (a1 : Int) (a2 : Int) : Option Int :=
  ((ref04_Valid k a0).bind fun t100 => (bif (t100.2 != 0) then (some t100.2) else (jn (κ := Bool → Option Int) (fun (x32 : Bool) => (bif x32 then (some 6) else (some 0))) (fun j108 => (if inR ((a0.fNodes.length : Int) - 1) then ((ref04_in k a1 0 ((a0.fNodes.length : Int) - 1)).bind fun t111 => (bif (!t111) then (j108 true) else (if inR ((a0.fNodes.length : Int) - 1) then ((ref04_in k a2 0 ((a0.fNodes.length : Int) - 1)).bind fun t114 => (j108 (!t114))) else none))) else none)))))
def ref04_Attrs.b0 (t102 : (List Attr)) (rec0 : (List Attr) → Int → Option ((List Attr) × Int)) (x7 : (List Attr)) (x9 : Int) : Option ((List Attr) × Int) :=
  (bif (decide (x9 < (t102.length : Int))) then (if (0 : Int) ≤ x9 ∧ x9 < (t102.length : Int) then (if ((rd t102 x9).fNames).length ≤ lim then (if x7.length + [(rd t102 x9)].length ≤ lim then (if inR (x9 + 1) then (rec0 (x7 ++ [(rd t102 x9)]) (x9 + 1)) else none) else none) else none) else none) else (some (x7, 0)))
def ref04_Attrs (k : Nat) (a0 : Types) (a1 : Int) : Option ((List Attr) × Int) :=
  ((ref04_given k a0 a1 a1).bind fun t100 => (bif (t100 != 0) then (some ([], t100)) else ((ref04_attrs k a0 a1).bind fun t102 => (loop2 k (ref04_Attrs.b0 t102) [] 0))))
def ref15_node.b0 (a2 : (List Int)) (t103 : ((List Attr) × Int)) (rec0 : Int → Option Int) (x9 : Int) : Option Int :=
  (bif (decide (x9 < (t103.1.length : Int))) then (jn (κ := Bool → Option Int) (fun (x59 : Bool) => (bif x59 then (some 6) else (if inR (x9 + 1) then (rec0 (x9 + 1)) else none))) (fun j157 => (if (0 : Int) ≤ x9 ∧ x9 < (a2.length : Int) then (if (0 : Int) ≤ x9 ∧ x9 < (t103.1.length : Int) then (bif (decide ((rd a2 x9) < (rd t103.1 x9).fLow)) then (j157 true) else (if (0 : Int) ≤ x9 ∧ x9 < (a2.length : Int) then (if (0 : Int) ≤ x9 ∧ x9 < (t103.1.length : Int) then (j157 (decide ((rd a2 x9) > (rd t103.1 x9).fHigh))) else none) else none)) else none) else none))) else (some 0))
def ref15_node (k : Nat) (a0 : Types) (a1 : Int) (a2 : (List Int)) : Option Int :=
  (bif (decide (a1 ≥ (a0.fNodes.length : Int))) then (some 6) else (if (0 : Int) ≤ a1 ∧ a1 < (a0.fNodes.length : Int) then (bif (rd a0.fNodes a1).fAbstract then (some 13) else ((ref04_Attrs k a0 a1).bind fun t103 => (bif ((a2.length : Int) != (t103.1.length : Int)) then (some 20) else (loop1 k (ref15_node.b0 a2 t103) 0)))) else none))
def ref04_Below1.main (self : Types → Int → Int → Option Bool) (k : Nat) (a0 : Types) (a1 : Int) (a2 : Int) : Option Bool :=
  (jn (κ := Bool → Option Bool) (fun (x6 : Bool) => (some x6)) (fun j109 => (bif (a1 == a2) then (j109 true) else (bif (decide (a1 ≥ 0)) then (if (0 : Int) ≤ a1 ∧ a1 < (a0.fNodes.length : Int) then ((self a0 ((rd a0.fNodes a1).fParent) a2).bind fun t113 => (j109 t113)) else none) else (j109 false)))))
def ref04_Below1 : Nat → Types → Int → Int → Option Bool
  | 0, _, _, _ => none
  | k + 1, a0, a1, a2 => ref04_Below1.main (ref04_Below1 k) k a0 a1 a2
def ref04_Fits (k : Nat) (a0 : Types) (a1 : Int) (a2 : Int) (a3 : Int) : Option Bool :=
  (jn (κ := Bool → Option Bool) (fun (x22 : Bool) => (bif x22 then (some false) else (jn (κ := Bool → Option Bool) (fun (x8 : Bool) => (some x8)) (fun j118 => (if (0 : Int) ≤ a1 ∧ a1 < (a0.fEdges.length : Int) then ((ref04_Below1 k a0 a2 ((rd a0.fEdges a1).fFrom)).bind fun t120 => (bif t120 then (if (0 : Int) ≤ a1 ∧ a1 < (a0.fEdges.length : Int) then ((ref04_Below1 k a0 a3 ((rd a0.fEdges a1).fTo)).bind fun t123 => (j118 t123)) else none) else (j118 false))) else none))))) (fun j105 => ((ref04_given k a0 a2 a3).bind fun t124 => (bif (t124 != 0) then (j105 true) else (if inR ((a0.fEdges.length : Int) - 1) then ((ref04_in k a1 0 ((a0.fEdges.length : Int) - 1)).bind fun t127 => (j105 (!t127))) else none)))))
def ref15_Valid.b1 (k : Nat) (a0 : Types) (a1 : Host) (rec1 : Int → Option (Int × Int)) (x11 : Int) : Option (Int × Int) :=
  (bif (decide (x11 < (a1.fGraph.fEdges.length : Int))) then (if (0 : Int) ≤ x11 ∧ x11 < (a1.fGraph.fEdges.length : Int) then (bif (decide ((rd a1.fGraph.fEdges x11).fType ≥ (a0.fEdges.length : Int))) then (some (x11, 6)) else (if (0 : Int) ≤ (rd a1.fGraph.fEdges x11).fFrom ∧ (rd a1.fGraph.fEdges x11).fFrom < (a1.fGraph.fNodes.length : Int) then (if (0 : Int) ≤ (rd a1.fGraph.fEdges x11).fTo ∧ (rd a1.fGraph.fEdges x11).fTo < (a1.fGraph.fNodes.length : Int) then ((ref04_Fits k a0 ((rd a1.fGraph.fEdges x11).fType) (rd a1.fGraph.fNodes ((rd a1.fGraph.fEdges x11).fFrom)) (rd a1.fGraph.fNodes ((rd a1.fGraph.fEdges x11).fTo))).bind fun t273 => (bif (!t273) then (some (x11, 13)) else (if inR (x11 + 1) then (rec1 (x11 + 1)) else none))) else none) else none)) else none) else (some ((-1), 0)))
def ref15_Valid.b0 (k : Nat) (a0 : Types) (a1 : Host) (rec0 : Int → Option (Int × Int)) (x9 : Int) : Option (Int × Int) :=
  (bif (decide (x9 < (a1.fGraph.fNodes.length : Int))) then (if (0 : Int) ≤ x9 ∧ x9 < (a1.fGraph.fNodes.length : Int) then (if (0 : Int) ≤ x9 ∧ x9 < (a1.fValues.length : Int) then ((ref15_node k a0 (rd a1.fGraph.fNodes x9) (rd a1.fValues x9)).bind fun t228 => (bif (t228 != 0) then (some (x9, t228)) else (if inR (x9 + 1) then (rec0 (x9 + 1)) else none))) else none) else none) else (loop1 k (ref15_Valid.b1 k a0 a1) 0))
def ref15_Valid (k : Nat) (a0 : Types) (a1 : Host) : Option (Int × Int) :=
  ((ref04_Valid k a0).bind fun t100 => (bif (t100.2 != 0) then (some ((-1), t100.2)) else ((ref05_Valid k a1.fGraph).bind fun t102 => (bif (t102 != 0) then (some ((-1), t102)) else (bif ((a1.fValues.length : Int) != (a1.fGraph.fNodes.length : Int)) then (some ((-1), 20)) else (loop1 k (ref15_Valid.b0 k a0 a1) 0))))))
def ref15_small (k : Nat) (a0 : Types) (a1 : Host) : Option Int :=
  ((ref15_Valid k a0 a1).bind fun t100 => (bif (t100.2 != 0) then (some t100.2) else (bif (decide ((a1.fGraph.fNodes.length : Int) > 8)) then (some 3) else (some 0))))
def ref15_has.b0 (a0 : (List Int)) (a1 : Int) (rec0 : Int → Option Bool) (x5 : Int) : Option Bool :=
  (bif (decide (x5 < (a0.length : Int))) then (if (0 : Int) ≤ x5 ∧ x5 < (a0.length : Int) then (bif ((rd a0 x5) == a1) then (some true) else (if inR (x5 + 1) then (rec0 (x5 + 1)) else none)) else none) else (some false))
def ref15_has (k : Nat) (a0 : (List Int)) (a1 : Int) : Option Bool :=
  (loop1 k (ref15_has.b0 a0 a1) 0)
def ref15_between.b1 (a0 : Graph) (x7 : (List Int)) (x8 : Int) (rec0 : (List Int) → Int → Option (List Int)) (rec1 : Int → Option (List Int)) (x9 : Int) : Option (List Int) :=
  (jn (κ := Bool → Option (List Int)) (fun (x57 : Bool) => (bif x57 then (if inR (x9 - 1) then (rec1 (x9 - 1)) else none) else (if (0 : Int) ≤ x9 ∧ x9 ≤ (x7.length : Int) then (if (x7.take (x9 : Int).toNat).length ≤ lim then (if (x7.take (x9 : Int).toNat).length + [x8].length ≤ lim then (if (0 : Int) ≤ x9 ∧ x9 ≤ (x7.length : Int) then (if ((x7.take (x9 : Int).toNat) ++ [x8]).length + (x7.drop (x9 : Int).toNat).length ≤ lim then (if inR (x8 + 1) then (rec0 (((x7.take (x9 : Int).toNat) ++ [x8]) ++ (x7.drop (x9 : Int).toNat)) (x8 + 1)) else none) else none) else none) else none) else none) else none))) (fun j907 => (bif (decide (x9 > 0)) then (if inR (x9 - 1) then (if (0 : Int) ≤ (x9 - 1) ∧ (x9 - 1) < (x7.length : Int) then (if (0 : Int) ≤ (rd x7 (x9 - 1)) ∧ (rd x7 (x9 - 1)) < (a0.fEdges.length : Int) then (if (0 : Int) ≤ x8 ∧ x8 < (a0.fEdges.length : Int) then (j907 (decide ((rd a0.fEdges (rd x7 (x9 - 1))).fType > (rd a0.fEdges x8).fType))) else none) else none) else none) else none) else (j907 false))))
def ref15_between.b0 (k : Nat) (a0 : Graph) (a1 : Int) (a2 : Int) (rec0 : (List Int) → Int → Option (List Int)) (x7 : (List Int)) (x8 : Int) : Option (List Int) :=
  (bif (decide (x8 < (a0.fEdges.length : Int))) then (jn (κ := Bool → Option (List Int)) (fun (x34 : Bool) => (bif x34 then (if inR (x8 + 1) then (rec0 x7 (x8 + 1)) else none) else (loop1 k (ref15_between.b1 a0 x7 x8 rec0) (x7.length : Int)))) (fun j805 => (if (0 : Int) ≤ x8 ∧ x8 < (a0.fEdges.length : Int) then (bif ((rd a0.fEdges x8).fFrom != a1) then (j805 true) else (if (0 : Int) ≤ x8 ∧ x8 < (a0.fEdges.length : Int) then (j805 ((rd a0.fEdges x8).fTo != a2)) else none)) else none))) else (some x7))
def ref15_between (k : Nat) (a0 : Graph) (a1 : Int) (a2 : Int) : Option (List Int) :=
  (loop2 k (ref15_between.b0 k a0 a1 a2) [] 0)
def ref15_listed.b0 (a0 : Graph) (a1 : (List Int)) (rec0 : (List Int) → Int → Option (List Int)) (x5 : (List Int)) (x6 : Int) : Option (List Int) :=
  (bif (decide (x6 < (a1.length : Int))) then (if (0 : Int) ≤ x6 ∧ x6 < (a1.length : Int) then (if (0 : Int) ≤ (rd a1 x6) ∧ (rd a1 x6) < (a0.fEdges.length : Int) then (if x5.length + [(rd a0.fEdges (rd a1 x6)).fType].length ≤ lim then (if inR (x6 + 1) then (rec0 (x5 ++ [(rd a0.fEdges (rd a1 x6)).fType]) (x6 + 1)) else none) else none) else none) else none) else (some x5))
def ref15_listed (k : Nat) (a0 : Graph) (a1 : (List Int)) : Option (List Int) :=
  (loop2 k (ref15_listed.b0 a0 a1) [(a1.length : Int)] 0)
def ref15_same (k : Nat) (a0 : Graph) (a1 : Int) (a2 : Int) (a3 : Int) (a4 : Int) : Option Bool :=
  ((ref15_between k a0 a1 a2).bind fun t110 => ((ref15_listed k a0 t110).bind fun t111 => ((ref15_between k a0 a3 a4).bind fun t112 => ((ref15_listed k a0 t112).bind fun t113 => ((ref15_compare k t111 t113).bind fun t114 => (some (t114 == 0)))))))
def ref15_twins.b0 (k : Nat) (a0 : Host) (a1 : Int) (a2 : Int) (rec0 : Int → Option Bool) (x8 : Int) : Option Bool :=
  (bif (decide (x8 < (a0.fGraph.fNodes.length : Int))) then (jn (κ := Bool → Option Bool) (fun (x86 : Bool) => (bif x86 then (some false) else (if inR (x8 + 1) then (rec0 (x8 + 1)) else none))) (fun j161 => (bif (x8 != a1) then (bif (x8 != a2) then ((ref15_same k a0.fGraph a1 x8 a2 x8).bind fun t166 => (bif (!t166) then (j161 true) else ((ref15_same k a0.fGraph x8 a1 x8 a2).bind fun t168 => (j161 (!t168))))) else (j161 false)) else (j161 false)))) else (some true))
def ref15_twins (k : Nat) (a0 : Host) (a1 : Int) (a2 : Int) : Option Bool :=
  (jn (κ := Bool → Option Bool) (fun (x53 : Bool) => (bif x53 then (some false) else (loop1 k (ref15_twins.b0 k a0 a1 a2) 0))) (fun j122 => (if (0 : Int) ≤ a1 ∧ a1 < (a0.fGraph.fNodes.length : Int) then (if (0 : Int) ≤ a2 ∧ a2 < (a0.fGraph.fNodes.length : Int) then (bif ((rd a0.fGraph.fNodes a1) != (rd a0.fGraph.fNodes a2)) then (j122 true) else (if (0 : Int) ≤ a1 ∧ a1 < (a0.fValues.length : Int) then (if (0 : Int) ≤ a2 ∧ a2 < (a0.fValues.length : Int) then ((ref15_compare k (rd a0.fValues a1) (rd a0.fValues a2)).bind fun t174 => (bif (t174 != 0) then (j122 true) else ((ref15_same k a0.fGraph a1 a2 a2 a1).bind fun t176 => (bif (!t176) then (j122 true) else ((ref15_same k a0.fGraph a1 a1 a2 a2).bind fun t178 => (j122 (!t178))))))) else none) else none)) else none) else none)))
def ref15_next.b1 (k : Nat) (a0 : Host) (a1 : (List Int)) (x5 : (List Int)) (x6 : Int) (rec0 : (List Int) → Int → Option (List Int)) (rec1 : Bool → Int → Option (List Int)) (x7 : Bool) (x8 : Int) : Option (List Int) :=
  (jn (κ := Bool → Option (List Int)) (fun (x26 : Bool) => (bif x26 then (jn (κ := Bool → Option (List Int)) (fun (x7' : Bool) => (if inR (x8 + 1) then (rec1 x7' (x8 + 1)) else none)) (fun j300 => ((ref15_has k a1 x8).bind fun t302 => (bif t302 then (j300 true) else ((ref15_twins k a0 x8 x6).bind fun t304 => (j300 (!t304))))))) else (bif x7 then (if x5.length + [x6].length ≤ lim then (if inR (x6 + 1) then (rec0 (x5 ++ [x6]) (x6 + 1)) else none) else none) else (if inR (x6 + 1) then (rec0 x5 (x6 + 1)) else none)))) (fun j294 => (bif (decide (x8 < x6)) then (j294 x7) else (j294 false))))
def ref15_next.b0 (k : Nat) (a0 : Host) (a1 : (List Int)) (rec0 : (List Int) → Int → Option (List Int)) (x5 : (List Int)) (x6 : Int) : Option (List Int) :=
  (bif (decide (x6 < (a0.fGraph.fNodes.length : Int))) then ((ref15_has k a1 x6).bind fun t247 => (loop2 k (ref15_next.b1 k a0 a1 x5 x6 rec0) (!t247) 0)) else (some x5))
def ref15_next (k : Nat) (a0 : Host) (a1 : (List Int)) : Option (List Int) :=
  (loop2 k (ref15_next.b0 k a0 a1) [] 0)
def ref15_segment.b0 (k : Nat) (a0 : Host) (a1 : (List Int)) (a2 : Int) (rec0 : (List Int) → (List Int) → Int → Option ((List Int) × (List Int))) (x8 : (List Int)) (x9 : (List Int)) (x10 : Int) : Option ((List Int) × (List Int)) :=
  (bif (decide (x10 < (a1.length : Int))) then (if (0 : Int) ≤ x10 ∧ x10 < (a1.length : Int) then ((ref15_between k a0.fGraph (rd a1 x10) a2).bind fun t220 => (if (0 : Int) ≤ x10 ∧ x10 < (a1.length : Int) then ((ref15_between k a0.fGraph a2 (rd a1 x10)).bind fun t222 => ((ref15_listed k a0.fGraph t220).bind fun t235 => (if x8.length + t235.length ≤ lim then ((ref15_listed k a0.fGraph t222).bind fun t238 => (if (x8 ++ t235).length + t238.length ≤ lim then (if x9.length + t220.length ≤ lim then (if (x9 ++ t220).length + t222.length ≤ lim then (if inR (x10 + 1) then (rec0 ((x8 ++ t235) ++ t238) ((x9 ++ t220) ++ t222) (x10 + 1)) else none) else none) else none) else none)) else none))) else none)) else none) else ((ref15_between k a0.fGraph a2 a2).bind fun t246 => ((ref15_listed k a0.fGraph t246).bind fun t247 => (if x8.length + t247.length ≤ lim then (if x9.length + t246.length ≤ lim then (some ((x8 ++ t247), (x9 ++ t246))) else none) else none))))
def ref15_segment (k : Nat) (a0 : Host) (a1 : (List Int)) (a2 : Int) : Option ((List Int) × (List Int)) :=
  (if (0 : Int) ≤ a2 ∧ a2 < (a0.fGraph.fNodes.length : Int) then (if (0 : Int) ≤ a2 ∧ a2 < (a0.fValues.length : Int) then (if [(rd a0.fGraph.fNodes a2)].length + (rd a0.fValues a2).length ≤ lim then (loop3 k (ref15_segment.b0 k a0 a1 a2) ([(rd a0.fGraph.fNodes a2)] ++ (rd a0.fValues a2)) [] 0) else none) else none) else none)
def ref15_order.b2 (k : Nat) (a0 : Host) (x3 : (List (List Int))) (x7 : Int) (rec1 : (List Int) → (List (List Int)) → Int → Option (List Int)) (t2915 : (List Int)) (rec2 : (List Int) → (List (List Int)) → Int → Option (List Int)) (x5' : (List Int)) (x6' : (List (List Int))) (x9 : Int) : Option (List Int) :=
  (bif (decide (x9 < (t2915.length : Int))) then (if (0 : Int) ≤ x7 ∧ x7 < (x3.length : Int) then (if (0 : Int) ≤ x9 ∧ x9 < (t2915.length : Int) then ((ref15_segment k a0 (rd x3 x7) (rd t2915 x9)).bind fun t3207 => (jn (κ := Bool → Option (List Int)) (fun (x60 : Bool) => (bif x60 then (if inR (x9 + 1) then (rec2 x5' x6' (x9 + 1)) else none) else (jn (κ := Bool → Option (List Int)) (fun (x69 : Bool) => (jn (κ := (List (List Int)) → Option (List Int)) (fun (x6'' : (List (List Int))) => (if (0 : Int) ≤ x7 ∧ x7 < (x3.length : Int) then (if (rd x3 x7).length ≤ lim then (if (0 : Int) ≤ x9 ∧ x9 < (t2915.length : Int) then (if (rd x3 x7).length + [(rd t2915 x9)].length ≤ lim then (if x6''.length + ([((rd x3 x7) ++ [(rd t2915 x9)])]).length ≤ lim then (if inR (x9 + 1) then (rec2 t3207.1 (x6'' ++ [((rd x3 x7) ++ [(rd t2915 x9)])]) (x9 + 1)) else none) else none) else none) else none) else none) else none)) (fun j3223 => (bif x69 then (j3223 []) else (j3223 x6'))))) (fun j3217 => (bif (decide ((x6'.length : Int) > 0)) then ((ref15_compare k t3207.1 x5').bind fun t3252 => (j3217 (decide (t3252 < 0)))) else (j3217 false)))))) (fun j3211 => (bif (decide ((x6'.length : Int) > 0)) then ((ref15_compare k t3207.1 x5').bind fun t3254 => (j3211 (decide (t3254 > 0)))) else (j3211 false))))) else none) else none) else (if inR (x7 + 1) then (rec1 x5' x6' (x7 + 1)) else none))
def ref15_order.b1 (k : Nat) (a0 : Host) (x3 : (List (List Int))) (x4 : Int) (rec0 : (List (List Int)) → Int → Option (List Int)) (rec1 : (List Int) → (List (List Int)) → Int → Option (List Int)) (x5 : (List Int)) (x6 : (List (List Int))) (x7 : Int) : Option (List Int) :=
  (bif (decide (x7 < (x3.length : Int))) then (if (0 : Int) ≤ x7 ∧ x7 < (x3.length : Int) then ((ref15_next k a0 (rd x3 x7)).bind fun t2915 => (loop3 k (ref15_order.b2 k a0 x3 x7 rec1 t2915) x5 x6 0)) else none) else (if inR (x4 + 1) then (rec0 x6 (x4 + 1)) else none))
def ref15_order.b0 (k : Nat) (a0 : Host) (rec0 : (List (List Int)) → Int → Option (List Int)) (x3 : (List (List Int))) (x4 : Int) : Option (List Int) :=
  (bif (decide (x4 < (a0.fGraph.fNodes.length : Int))) then (loop3 k (ref15_order.b1 k a0 x3 x4 rec0) [] [] 0) else (if (0 : Int) ≤ 0 ∧ 0 < (x3.length : Int) then (some (rd x3 0)) else none))
def ref15_order (k : Nat) (a0 : Host) : Option (List Int) :=
  (loop2 k (ref15_order.b0 k a0) ([[]]) 0)
def ref15_Canonical.b2 (a1 : Host) (x9_0 : (List Int)) (x12 : Int) (rec1 : (List Int) → (List Edge) → Int → Option (Host × Morphism × Int)) (t793 : ((List Int) × (List Int))) (rec2 : (List Int) → (List Edge) → Int → Option (Host × Morphism × Int)) (x9_1' : (List Int)) (y1' : (List Edge)) (x15 : Int) : Option (Host × Morphism × Int) :=
  (bif (decide (x15 < (t793.2.length : Int))) then (if (0 : Int) ≤ x15 ∧ x15 < (t793.2.length : Int) then (if (0 : Int) ≤ (rd t793.2 x15) ∧ (rd t793.2 x15) < (a1.fGraph.fEdges.length : Int) then (if (0 : Int) ≤ x15 ∧ x15 < (t793.2.length : Int) then (if (0 : Int) ≤ (rd t793.2 x15) ∧ (rd t793.2 x15) < (x9_1'.length : Int) then (if (0 : Int) ≤ (rd a1.fGraph.fEdges (rd t793.2 x15)).fFrom ∧ (rd a1.fGraph.fEdges (rd t793.2 x15)).fFrom < (x9_0.length : Int) then (if (0 : Int) ≤ (rd a1.fGraph.fEdges (rd t793.2 x15)).fTo ∧ (rd a1.fGraph.fEdges (rd t793.2 x15)).fTo < (x9_0.length : Int) then (if y1'.length + [(Edge.mk ((rd a1.fGraph.fEdges (rd t793.2 x15)).fType) (rd x9_0 ((rd a1.fGraph.fEdges (rd t793.2 x15)).fFrom)) (rd x9_0 ((rd a1.fGraph.fEdges (rd t793.2 x15)).fTo)))].length ≤ lim then (if inR (x15 + 1) then (rec2 (x9_1'.set ((rd t793.2 x15) : Int).toNat (y1'.length : Int)) (y1' ++ [(Edge.mk ((rd a1.fGraph.fEdges (rd t793.2 x15)).fType) (rd x9_0 ((rd a1.fGraph.fEdges (rd t793.2 x15)).fFrom)) (rd x9_0 ((rd a1.fGraph.fEdges (rd t793.2 x15)).fTo)))]) (x15 + 1)) else none) else none) else none) else none) else none) else none) else none) else none) else (if inR (x12 + 1) then (rec1 x9_1' y1' (x12 + 1)) else none))
def ref15_Canonical.b1 (k : Nat) (a1 : Host) (t104 : (List Int)) (x9_0 : (List Int)) (y0 : (List Int)) (y2 : (List (List Int))) (rec1 : (List Int) → (List Edge) → Int → Option (Host × Morphism × Int)) (x9_1 : (List Int)) (y1 : (List Edge)) (x12 : Int) : Option (Host × Morphism × Int) :=
  (bif (decide (x12 < (t104.length : Int))) then (if (0 : Int) ≤ x12 ∧ x12 ≤ (t104.length : Int) then (if (0 : Int) ≤ x12 ∧ x12 < (t104.length : Int) then ((ref15_segment k a1 (t104.take (x12 : Int).toNat) (rd t104 x12)).bind fun t793 => (loop3 k (ref15_Canonical.b2 a1 x9_0 x12 rec1 t793) x9_1 y1 0)) else none) else none) else (some ((Host.mk (Graph.mk y0 y1) y2), (Morphism.mk x9_0 x9_1), 0)))
def ref15_Canonical.b0 (k : Nat) (a1 : Host) (t104 : (List Int)) (rec0 : (List Int) → (List Int) → (List (List Int)) → Int → Option (Host × Morphism × Int)) (x9_0 : (List Int)) (y0 : (List Int)) (y2 : (List (List Int))) (x11 : Int) : Option (Host × Morphism × Int) :=
  (bif (decide (x11 < (t104.length : Int))) then (if (0 : Int) ≤ x11 ∧ x11 < (t104.length : Int) then (if (0 : Int) ≤ (rd t104 x11) ∧ (rd t104 x11) < (x9_0.length : Int) then (if (0 : Int) ≤ x11 ∧ x11 < (t104.length : Int) then (if (0 : Int) ≤ (rd t104 x11) ∧ (rd t104 x11) < (a1.fGraph.fNodes.length : Int) then (if y0.length + [(rd a1.fGraph.fNodes (rd t104 x11))].length ≤ lim then (if (0 : Int) ≤ x11 ∧ x11 < (t104.length : Int) then (if (0 : Int) ≤ (rd t104 x11) ∧ (rd t104 x11) < (a1.fValues.length : Int) then (if (rd a1.fValues (rd t104 x11)).length ≤ lim then (if y2.length + [(rd a1.fValues (rd t104 x11))].length ≤ lim then (if inR (x11 + 1) then (rec0 (x9_0.set ((rd t104 x11) : Int).toNat x11) (y0 ++ [(rd a1.fGraph.fNodes (rd t104 x11))]) (y2 ++ [(rd a1.fValues (rd t104 x11))]) (x11 + 1)) else none) else none) else none) else none) else none) else none) else none) else none) else none) else none) else (loop3 k (ref15_Canonical.b1 k a1 t104 x9_0 y0 y2) (List.replicate ((a1.fGraph.fEdges.length : Int) : Int).toNat (0 : Int)) [] 0))
def ref15_Canonical (k : Nat) (a0 : Types) (a1 : Host) : Option (Host × Morphism × Int) :=
  ((ref15_small k a0 a1).bind fun t102 => (bif (t102 != 0) then (some ((Host.mk (Graph.mk [] []) []), (Morphism.mk [] []), t102)) else ((ref15_order k a1).bind fun t104 => (jn (κ := Option (Host × Morphism × Int)) ((loop4 k (ref15_Canonical.b0 k a1 t104) (List.replicate ((a1.fGraph.fNodes.length : Int) : Int).toNat (0 : Int)) [] [] 0)) (fun j120 => (if (0 : Int) ≤ (a1.fGraph.fNodes.length : Int) ∧ (a1.fGraph.fNodes.length : Int) ≤ (lim : Int) then (if (0 : Int) ≤ (a1.fGraph.fEdges.length : Int) ∧ (a1.fGraph.fEdges.length : Int) ≤ (lim : Int) then j120 else none) else none))))))
def ref02_SameInts.b0 (a0 : (List Int)) (a1 : (List Int)) (rec0 : Int → Option Bool) (x5 : Int) : Option Bool :=
  (bif (decide (x5 < (a0.length : Int))) then (if (0 : Int) ≤ x5 ∧ x5 < (a0.length : Int) then (if (0 : Int) ≤ x5 ∧ x5 < (a1.length : Int) then (bif ((rd a0 x5) != (rd a1 x5)) then (some false) else (if inR (x5 + 1) then (rec0 (x5 + 1)) else none)) else none) else none) else (some true))
def ref02_SameInts (k : Nat) (a0 : (List Int)) (a1 : (List Int)) : Option Bool :=
  (bif ((a0.length : Int) != (a1.length : Int)) then (some false) else (loop1 k (ref02_SameInts.b0 a0 a1) 0))
def ref06_Same (k : Nat) (a0 : Morphism) (a1 : Morphism) : Option Bool :=
  (jn (κ := Bool → Option Bool) (fun (x4 : Bool) => (some x4)) (fun j104 => ((ref02_SameInts k a0.fNodes a1.fNodes).bind fun t105 => (bif t105 then ((ref02_SameInts k a0.fEdges a1.fEdges).bind fun t107 => (j104 t107)) else (j104 false)))))
def law15_HostCanonical (k : Nat) (a0 : Types) (a1 : Host) : Option Bool :=
  (jn (κ := Bool → Option Bool) (fun (x21 : Bool) => (bif x21 then ((law15_awake k).bind fun t106 => (some t106)) else (jn (κ := (List Int) → (List Edge) → (List (List Int)) → (List Int) → (List Int) → Int → Option Bool) (fun (x5_0 : (List Int)) (x5_1 : (List Edge)) (x5_2 : (List (List Int))) (x6_0 : (List Int)) (x6_1 : (List Int)) (x7 : Int) => ((ref15_Canonical k a0 a1).bind fun t117 => (jn (κ := Bool → Option Bool) (fun (x56 : Bool) => (bif x56 then (jn (κ := Bool → Option Bool) (fun (x4 : Bool) => (some x4)) (fun j133 => ((ref15_Same k (Host.mk (Graph.mk x5_0 x5_1) x5_2) t117.1).bind fun t134 => (bif t134 then ((ref06_Same k (Morphism.mk x6_0 x6_1) t117.2.1).bind fun t136 => (bif t136 then (j133 (x7 == t117.2.2)) else (j133 false))) else (j133 false))))) else ((host_Canonical k a0 (Host.mk (Graph.mk x5_0 x5_1) x5_2)).bind fun t138 => (jn (κ := Bool → Option Bool) (fun (x4 : Bool) => (some x4)) (fun j144 => (bif (t138.2.2 == 0) then ((ref15_Same k (Host.mk (Graph.mk x5_0 x5_1) x5_2) t138.1).bind fun t146 => (j144 t146)) else (j144 false))))))) (fun j126 => ((ref15_Same k (Host.mk (Graph.mk x5_0 x5_1) x5_2) t117.1).bind fun t147 => (bif (!t147) then (j126 true) else ((ref06_Same k (Morphism.mk x6_0 x6_1) t117.2.1).bind fun t149 => (bif (!t149) then (j126 true) else (bif (x7 != t117.2.2) then (j126 true) else (j126 (x7 != 0))))))))))) (fun j116 => ((ref15_Copied k a1).bind fun t152 => ((host_Canonical k a0 t152).bind fun t153 => (j116 t153.1.fGraph.fNodes t153.1.fGraph.fEdges t153.1.fValues t153.2.1.fNodes t153.2.1.fEdges t153.2.2))))))) (fun j104 => ((law15_awake k).bind fun t156 => (bif (!t156) then (j104 true) else ((law15_light k a0 a1).bind fun t158 => (j104 (!t158)))))))
end Go.Proofs.YthmdmchmmgmblaaGreat
