/- The pure functions: what the Go functions compute. 'none': not told, or a panic. (Printed by gen.py.) -/
import Derived.Test.YtelpgjfojhcjcaaGreatAC
namespace Go.Proofs.YtelpgjfojhcjcaaGreat
open Go Go.Abs
structure Attr where
  fName : Str
  fLow : Int
  fHigh : Int
  fNames : (List Str)
  deriving Inhabited, DecidableEq
def kAttr : Kd Attr := ⟨4, fun x => [EqA (strV x.fName), EqA (.int .i64 x.fLow), EqA (.int .i64 x.fHigh), SlcA kStr x.fNames], fun _ => rfl, fun _ => rfl⟩
structure NodeType where
  fName : Str
  fParent : Int
  fAbstract : Bool
  fAttrs : (List Attr)
  deriving Inhabited, DecidableEq
def kNodeType : Kd NodeType := ⟨4, fun x => [EqA (strV x.fName), EqA (.int .i64 x.fParent), EqA (.bool x.fAbstract), SlcA kAttr x.fAttrs], fun _ => rfl, fun _ => rfl⟩
structure EdgeType where
  fName : Str
  fFrom : Int
  fTo : Int
  fOutLow : Int
  fOutHigh : Int
  fInLow : Int
  fInHigh : Int
  deriving Inhabited, DecidableEq
def kEdgeType : Kd EdgeType := ⟨7, fun x => [EqA (strV x.fName), EqA (.int .i64 x.fFrom), EqA (.int .i64 x.fTo), EqA (.int .i64 x.fOutLow), EqA (.int .i64 x.fOutHigh), EqA (.int .i64 x.fInLow), EqA (.int .i64 x.fInHigh)], fun _ => rfl, fun _ => rfl⟩
structure Types where
  fNodes : (List NodeType)
  fEdges : (List EdgeType)
  deriving Inhabited, DecidableEq
def kTypes : Kd Types := ⟨2, fun x => [SlcA kNodeType x.fNodes, SlcA kEdgeType x.fEdges], fun _ => rfl, fun _ => rfl⟩
structure Edge where
  fType : Int
  fFrom : Int
  fTo : Int
  deriving Inhabited, DecidableEq
def kEdge : Kd Edge := ⟨3, fun x => [EqA (.int .i64 x.fType), EqA (.int .i64 x.fFrom), EqA (.int .i64 x.fTo)], fun _ => rfl, fun _ => rfl⟩
structure Graph where
  fNodes : (List Int)
  fEdges : (List Edge)
  deriving Inhabited, DecidableEq
def kGraph : Kd Graph := ⟨2, fun x => [SlcA kInt x.fNodes, SlcA kEdge x.fEdges], fun _ => rfl, fun _ => rfl⟩
structure Token where
  fKind : Int
  fText : Str
  fLine : Int
  deriving Inhabited, DecidableEq
def kToken : Kd Token := ⟨3, fun x => [EqA (.int .i64 x.fKind), EqA (strV x.fText), EqA (.int .i64 x.fLine)], fun _ => rfl, fun _ => rfl⟩
structure OMorphism where
  fNodes : (Option (List Int))
  fEdges : (Option (List Int))
  deriving Inhabited, DecidableEq
def kOMorphism : Kd OMorphism := ⟨2, fun x => [OptA kInt x.fNodes, OptA kInt x.fEdges], fun _ => rfl, fun _ => rfl⟩
structure Morphism where
  fNodes : (List Int)
  fEdges : (List Int)
  deriving Inhabited, DecidableEq
def kMorphism : Kd Morphism := ⟨2, fun x => [SlcA kInt x.fNodes, SlcA kInt x.fEdges], fun _ => rfl, fun _ => rfl⟩
structure Finder where
  fp : Graph
  fg : Graph
  fis : (List (List Bool))
  fpartial : OMorphism
  finjective : Bool
  fmost : Int
  fnodes : (List Int)
  fedges : (List Int)
  fout : (List Morphism)
  deriving Inhabited, DecidableEq
def kFinder : Kd Finder := ⟨12, fun x => [SlcA kInt x.fp.fNodes, SlcA kEdge x.fp.fEdges, SlcA kInt x.fg.fNodes, SlcA kEdge x.fg.fEdges, SlcA (kSl kBool) x.fis, OptA kInt x.fpartial.fNodes, OptA kInt x.fpartial.fEdges, EqA (.bool x.finjective), EqA (.int .i64 x.fmost), SlcA kInt x.fnodes, SlcA kInt x.fedges, SlcA kMorphism x.fout], fun _ => rfl, fun _ => rfl⟩
structure Case where
  fT : Types
  fP : Graph
  fG : Graph
  deriving Inhabited, DecidableEq
def kCase : Kd Case := ⟨6, fun x => [SlcA kNodeType x.fT.fNodes, SlcA kEdgeType x.fT.fEdges, SlcA kInt x.fP.fNodes, SlcA kEdge x.fP.fEdges, SlcA kInt x.fG.fNodes, SlcA kEdge x.fG.fEdges], fun _ => rfl, fun _ => rfl⟩
structure Search where
  ft : Types
  fp : Graph
  fg : Graph
  fpartial : Morphism
  finjective : Bool
  fmost : Int
  ffound : (List Morphism)
  deriving Inhabited, DecidableEq
def kSearch : Kd Search := ⟨11, fun x => [SlcA kNodeType x.ft.fNodes, SlcA kEdgeType x.ft.fEdges, SlcA kInt x.fp.fNodes, SlcA kEdge x.fp.fEdges, SlcA kInt x.fg.fNodes, SlcA kEdge x.fg.fEdges, SlcA kInt x.fpartial.fNodes, SlcA kInt x.fpartial.fEdges, EqA (.bool x.finjective), EqA (.int .i64 x.fmost), SlcA kMorphism x.ffound], fun _ => rfl, fun _ => rfl⟩

def ref04_Example (k : Nat) : Option Types :=
  (some (Types.mk ([(NodeType.mk ([65, 99, 99, 111, 117, 110, 116] : Str) (-1) true ([(Attr.mk ([98, 97, 108, 97, 110, 99, 101] : Str) (-1000) 1000 [])])), (NodeType.mk ([67, 97, 115, 104] : Str) 0 false []), (NodeType.mk ([76, 111, 97, 110] : Str) 0 false ([(Attr.mk ([115, 116, 97, 116, 101] : Str) 0 1 ([([111, 112, 101, 110] : Str), ([99, 108, 111, 115, 101, 100] : Str)]))])), (NodeType.mk ([80, 101, 114, 115, 111, 110] : Str) (-1) false [])]) ([(EdgeType.mk ([111, 119, 110, 115] : Str) 3 0 0 (-1) 1 1), (EdgeType.mk ([112, 97, 121, 115] : Str) 1 1 0 (-1) 0 (-1))])))
def law17_bank (k : Nat) : Option Graph :=
  (some (Graph.mk [3, 1, 1] [(Edge.mk 0 0 1), (Edge.mk 0 0 2)]))
def token_letter (k : Nat) (a0 : Int) : Option Bool :=
  (jn (κ := Bool → Option Bool) (fun (x2 : Bool) => (some x2)) (fun j8 => (bif (decide (a0 ≥ 97)) then (bif (decide (a0 ≤ 122)) then (j8 true) else (bif (decide (a0 ≥ 65)) then (j8 (decide (a0 ≤ 90))) else (j8 false))) else (bif (decide (a0 ≥ 65)) then (j8 (decide (a0 ≤ 90))) else (j8 false)))))
def token_run.b0 (a0 : Str) (a1 : (Int → Option Bool)) (rec0 : Int → Option Int) (x5 : Int) : Option Int :=
  (jn (κ := Bool → Option Int) (fun (x16 : Bool) => (bif x16 then (if inR (x5 + 1) then (rec0 (x5 + 1)) else none) else (some x5))) (fun j37 => (bif (decide (x5 < (a0.length : Int))) then (if (0 : Int) ≤ x5 ∧ x5 < (a0.length : Int) then ((a1 (bt a0 x5)).bind fun t42 => (j37 t42)) else none) else (j37 false))))
def token_run (k : Nat) (a0 : Str) (a1 : (Int → Option Bool)) : Option Int :=
  (loop1 k (token_run.b0 a0 a1) 0)
def token_digit (k : Nat) (a0 : Int) : Option Bool :=
  (jn (κ := Bool → Option Bool) (fun (x2 : Bool) => (some x2)) (fun j45 => (bif (decide (a0 ≥ 48)) then (j45 (decide (a0 ≤ 57))) else (j45 false))))
def token_part (k : Nat) (a0 : Int) : Option Bool :=
  (jn (κ := Bool → Option Bool) (fun (x2 : Bool) => (some x2)) (fun j52 => ((token_letter k a0).bind fun t53 => (bif t53 then (j52 true) else ((token_digit k a0).bind fun t55 => (bif t55 then (j52 true) else (j52 (a0 == 95))))))))
def token_quoted_1 (k : Nat) (a0 : Int) : Option Bool :=
  (jn (κ := Bool → Option Bool) (fun (x2 : Bool) => (some x2)) (fun j60 => (bif (decide (a0 ≥ 32)) then (bif (decide (a0 ≤ 126)) then (j60 (a0 != 34)) else (j60 false)) else (j60 false))))
def token_quoted (k : Nat) (a0 : Str) : Option (Int × Int) :=
  (if (0 : Int) ≤ 1 ∧ 1 ≤ (a0.length : Int) then ((token_run k (a0.drop (1 : Int).toNat) (fun x => token_quoted_1 k x)).bind fun t64 => (jn (κ := Bool → Option (Int × Int)) (fun (x19 : Bool) => (bif x19 then (some (0, 2)) else (bif (decide (t64 > 60)) then (some (0, 3)) else (if inR (t64 + 2) then (some ((t64 + 2), 0)) else none)))) (fun j70 => (if inR (1 + t64) then (bif ((1 + t64) == (a0.length : Int)) then (j70 true) else (if inR (1 + t64) then (if (0 : Int) ≤ (1 + t64) ∧ (1 + t64) < (a0.length : Int) then (j70 ((bt a0 (1 + t64)) != 34)) else none) else none)) else none)))) else none)
def slices_Index_string.b0 (a0 : (List Str)) (a1 : Str) (rec0 : Int → Option Int) (x8 : Int) : Option Int :=
  (bif (decide (x8 < (a0.length : Int))) then (if (0 : Int) ≤ x8 ∧ x8 < (a0.length : Int) then (bif (a1 == (rd a0 x8)) then (some x8) else (if inR (x8 + 1) then (rec0 (x8 + 1)) else none)) else none) else (some (-1)))
def slices_Index_string (k : Nat) (a0 : (List Str)) (a1 : Str) : Option Int :=
  (loop1 k (slices_Index_string.b0 a0 a1) 0)
def slices_Contains_string (k : Nat) (a0 : (List Str)) (a1 : Str) : Option Bool :=
  ((slices_Index_string k a0 a1).bind fun t90 => (some (decide (t90 ≥ 0))))
def token_pair (k : Nat) (a0 : Str) : Option Bool :=
  (jn (κ := Bool → Option Bool) (fun (x2 : Bool) => (some x2)) (fun j95 => (bif (decide ((a0.length : Int) ≥ 2)) then (if (0 : Int) ≤ 2 ∧ 2 ≤ (a0.length : Int) then ((slices_Contains_string k ([([45, 62] : Str), ([60, 61] : Str), ([62, 61] : Str), ([61, 61] : Str), ([33, 61] : Str)]) (a0.take (2 : Int).toNat)).bind fun t98 => (j95 t98)) else none) else (j95 false))))
def stringslite_IndexByte (_k : Nat) (a0 : Str) (a1 : Int) : Option Int := some (Lib.indexByte a0 a1.toNat.toUInt8)
def strings_IndexByte (k : Nat) (a0 : Str) (a1 : Int) : Option Int :=
  ((stringslite_IndexByte k a0 a1).bind fun t99 => (some t99))
def token_next (k : Nat) (a0 : Str) : Option (Int × Int × Int) :=
  (if (0 : Int) ≤ 0 ∧ 0 < (a0.length : Int) then ((token_letter k (bt a0 0)).bind fun t101 => (bif t101 then ((token_run k a0 (fun x => token_part k x)).bind fun t103 => (bif (decide (t103 > 20)) then (some (0, 0, 3)) else (some (1, t103, 0)))) else ((token_digit k (bt a0 0)).bind fun t105 => (bif t105 then ((token_run k a0 (fun x => token_digit k x)).bind fun t107 => (bif (decide (t107 > 9)) then (some (0, 0, 3)) else (some (2, t107, 0)))) else (bif ((bt a0 0) == 34) then ((token_quoted k a0).bind fun t110 => (some (3, t110.1, t110.2))) else ((token_pair k a0).bind fun t111 => (bif t111 then (some (4, 2, 0)) else ((strings_IndexByte k ([123, 125, 40, 41, 91, 93, 44, 59, 58, 61, 43, 45, 42, 60, 62, 33, 38, 124, 46, 63] : Str) (bt a0 0)).bind fun t113 => (bif (decide (t113 ≥ 0)) then (some (4, 1, 0)) else (some (0, 0, 2))))))))))) else none)
def token_whole (k : Nat) (a0 : Token) : Option (Str × Bool) :=
  (jn (κ := Str → Option (Str × Bool)) (fun (x4 : Str) => (bif (x4 == ([] : Str)) then (some (([] : Str), false)) else ((token_next k x4).bind fun t121 => (jn (κ := Bool → Option (Str × Bool)) (fun (x3 : Bool) => (some (x4, x3))) (fun j125 => (bif (t121.2.2 == 0) then (bif (t121.1 == a0.fKind) then (j125 (t121.2.1 == (x4.length : Int))) else (j125 false)) else (j125 false))))))) (fun j119 => (bif (a0.fKind == 3) then (if (([34] : Str).length : Int) + (a0.fText.length : Int) ≤ 9223372036854775807 then (if ((([34] : Str) ++ a0.fText).length : Int) + (([34] : Str).length : Int) ≤ 9223372036854775807 then (j119 ((([34] : Str) ++ a0.fText) ++ ([34] : Str))) else none) else none) else (j119 a0.fText))))
def token_IsName (k : Nat) (a0 : Str) : Option Bool :=
  ((token_whole k (Token.mk 1 a0 0)).bind fun t131 => (some t131.2))
def types_node_1 (k : Nat) (a0 : NodeType) (a1 : NodeType) : Option Bool :=
  (some (a0.fName == a1.fName))
def slices_IndexFunc_NodeType.b0 (a0 : (List NodeType)) (a1 : (NodeType → Option Bool)) (rec0 : Int → Option Int) (x8 : Int) : Option Int :=
  (bif (decide (x8 < (a0.length : Int))) then (if (0 : Int) ≤ x8 ∧ x8 < (a0.length : Int) then ((a1 (rd a0 x8)).bind fun t144 => (bif t144 then (some x8) else (if inR (x8 + 1) then (rec0 (x8 + 1)) else none))) else none) else (some (-1)))
def slices_IndexFunc_NodeType (k : Nat) (a0 : (List NodeType)) (a1 : (NodeType → Option Bool)) : Option Int :=
  (loop1 k (slices_IndexFunc_NodeType.b0 a0 a1) 0)
def slices_ContainsFunc_NodeType (k : Nat) (a0 : (List NodeType)) (a1 : (NodeType → Option Bool)) : Option Bool :=
  ((slices_IndexFunc_NodeType k a0 a1).bind fun t147 => (some (decide (t147 ≥ 0))))
def types_attrs.main (self : Types → Int → Option (List Attr)) (k : Nat) (a0 : Types) (a1 : Int) : Option (List Attr) :=
  (if (0 : Int) ≤ a1 ∧ a1 < (a0.fNodes.length : Int) then (jn (κ := (List Attr) → Option (List Attr)) (fun (x5 : (List Attr)) => (if (0 : Int) ≤ a1 ∧ a1 < (a0.fNodes.length : Int) then (if x5.length + ((rd a0.fNodes a1).fAttrs).length ≤ lim then (some (x5 ++ (rd a0.fNodes a1).fAttrs)) else none) else none)) (fun j156 => (bif (decide ((rd a0.fNodes a1).fParent ≥ 0)) then ((self a0 ((rd a0.fNodes a1).fParent)).bind fun t161 => (j156 t161)) else (j156 [])))) else none)
def types_attrs : Nat → Types → Int → Option (List Attr)
  | 0, _, _ => none
  | k + 1, a0, a1 => types_attrs.main (types_attrs k) k a0 a1
def types_attribute_1 (k : Nat) (a0 : Attr) (a1 : Attr) : Option Bool :=
  (some (a0.fName == a1.fName))
def slices_IndexFunc_Attr.b0 (a0 : (List Attr)) (a1 : (Attr → Option Bool)) (rec0 : Int → Option Int) (x8 : Int) : Option Int :=
  (bif (decide (x8 < (a0.length : Int))) then (if (0 : Int) ≤ x8 ∧ x8 < (a0.length : Int) then ((a1 (rd a0 x8)).bind fun t176 => (bif t176 then (some x8) else (if inR (x8 + 1) then (rec0 (x8 + 1)) else none))) else none) else (some (-1)))
def slices_IndexFunc_Attr (k : Nat) (a0 : (List Attr)) (a1 : (Attr → Option Bool)) : Option Int :=
  (loop1 k (slices_IndexFunc_Attr.b0 a0 a1) 0)
def slices_ContainsFunc_Attr (k : Nat) (a0 : (List Attr)) (a1 : (Attr → Option Bool)) : Option Bool :=
  ((slices_IndexFunc_Attr k a0 a1).bind fun t179 => (some (decide (t179 ≥ 0))))
def types_names.b0 (k : Nat) (a0 : (List Str)) (rec0 : Int → Option Int) (x10 : Int) : Option Int :=
  (bif (decide (x10 < (a0.length : Int))) then (if (0 : Int) ≤ x10 ∧ x10 < (a0.length : Int) then ((token_IsName k (rd a0 x10)).bind fun t199 => (bif (!t199) then (some 2) else (if (0 : Int) ≤ x10 ∧ x10 ≤ (a0.length : Int) then ((slices_Contains_string k (a0.take (x10 : Int).toNat) (rd a0 x10)).bind fun t202 => (bif t202 then (some 5) else (if inR (x10 + 1) then (rec0 (x10 + 1)) else none))) else none))) else none) else (some 0))
def types_names (k : Nat) (a0 : (List Str)) : Option Int :=
  (bif (decide ((a0.length : Int) > 20)) then (some 3) else (loop1 k (types_names.b0 k a0) 0))
def types_attribute (k : Nat) (a0 : Attr) (a1 : (List Attr)) : Option Int :=
  ((token_IsName k a0.fName).bind fun t205 => (bif (!t205) then (some 2) else ((slices_ContainsFunc_Attr k a1 (fun x => types_attribute_1 k x a0)).bind fun t207 => (bif t207 then (some 5) else ((types_names k a0.fNames).bind fun t209 => (bif (t209 != 0) then (some t209) else (jn (κ := Bool → Option Int) (fun (x6 : Bool) => (bif (decide ((a0.fNames.length : Int) > 0)) then (jn (κ := Bool → Option Int) (fun (x6' : Bool) => (bif (!x6') then (some 6) else (some 0))) (fun j226 => (bif (a0.fLow == 0) then (if inR ((a0.fNames.length : Int) - 1) then (j226 (a0.fHigh == ((a0.fNames.length : Int) - 1))) else none) else (j226 false)))) else (bif (!x6) then (some 6) else (some 0)))) (fun j214 => (bif (decide ((-1000000) ≤ a0.fLow)) then (bif (decide (a0.fLow ≤ a0.fHigh)) then (j214 (decide (a0.fHigh ≤ 1000000))) else (j214 false)) else (j214 false))))))))))
def types_node.b0 (k : Nat) (t245 : (List Attr)) (rec0 : Int → Option Int) (x7 : Int) : Option Int :=
  (bif (decide (x7 < (t245.length : Int))) then (if (0 : Int) ≤ x7 ∧ x7 < (t245.length : Int) then (if (0 : Int) ≤ x7 ∧ x7 ≤ (t245.length : Int) then ((types_attribute k (rd t245 x7) (t245.take (x7 : Int).toNat)).bind fun t281 => (bif (t281 != 0) then (some t281) else (if inR (x7 + 1) then (rec0 (x7 + 1)) else none))) else none) else none) else (some 0))
def types_node (k : Nat) (a0 : Types) (a1 : Int) : Option Int :=
  (if (0 : Int) ≤ a1 ∧ a1 < (a0.fNodes.length : Int) then ((token_IsName k ((rd a0.fNodes a1).fName)).bind fun t235 => (bif (!t235) then (some 2) else (if (0 : Int) ≤ a1 ∧ a1 ≤ (a0.fNodes.length : Int) then ((slices_ContainsFunc_NodeType k (a0.fNodes.take (a1 : Int).toNat) (fun x => types_node_1 k x (rd a0.fNodes a1))).bind fun t238 => (bif t238 then (some 5) else (jn (κ := Bool → Option Int) (fun (x26 : Bool) => (bif x26 then (some 6) else (bif (decide ((((rd a0.fNodes a1).fAttrs).length : Int) > 4)) then (some 3) else ((types_attrs k a0 a1).bind fun t245 => (bif (decide ((t245.length : Int) > 8)) then (some 3) else (if inR ((t245.length : Int) - (((rd a0.fNodes a1).fAttrs).length : Int)) then (loop1 k (types_node.b0 k t245) ((t245.length : Int) - (((rd a0.fNodes a1).fAttrs).length : Int))) else none)))))) (fun j242 => (bif (decide ((rd a0.fNodes a1).fParent < (-1))) then (j242 true) else (j242 (decide ((rd a0.fNodes a1).fParent ≥ a1)))))))) else none))) else none)
def types_edge_1 (k : Nat) (a0 : Int) (a1 : Types) : Option Bool :=
  (jn (κ := Bool → Option Bool) (fun (x3 : Bool) => (some x3)) (fun j287 => (bif (decide (a0 ≥ 0)) then (j287 (decide (a0 < (a1.fNodes.length : Int)))) else (j287 false))))
def types_edge_2 (k : Nat) (a0 : EdgeType) (a1 : EdgeType) : Option Bool :=
  (some (a0.fName == a1.fName))
def slices_IndexFunc_EdgeType.b0 (a0 : (List EdgeType)) (a1 : (EdgeType → Option Bool)) (rec0 : Int → Option Int) (x8 : Int) : Option Int :=
  (bif (decide (x8 < (a0.length : Int))) then (if (0 : Int) ≤ x8 ∧ x8 < (a0.length : Int) then ((a1 (rd a0 x8)).bind fun t301 => (bif t301 then (some x8) else (if inR (x8 + 1) then (rec0 (x8 + 1)) else none))) else none) else (some (-1)))
def slices_IndexFunc_EdgeType (k : Nat) (a0 : (List EdgeType)) (a1 : (EdgeType → Option Bool)) : Option Int :=
  (loop1 k (slices_IndexFunc_EdgeType.b0 a0 a1) 0)
def slices_ContainsFunc_EdgeType (k : Nat) (a0 : (List EdgeType)) (a1 : (EdgeType → Option Bool)) : Option Bool :=
  ((slices_IndexFunc_EdgeType k a0 a1).bind fun t304 => (some (decide (t304 ≥ 0))))
def types_bounded (k : Nat) (a0 : Int) (a1 : Int) : Option Bool :=
  (jn (κ := Bool → Option Bool) (fun (x4 : Bool) => (some x4)) (fun j310 => (bif (decide (a0 ≥ 0)) then (bif (decide (a0 ≤ 40)) then (bif (a1 == (-1)) then (j310 true) else (bif (decide (a1 ≥ a0)) then (j310 (decide (a1 ≤ 40))) else (j310 false))) else (j310 false)) else (j310 false))))
def types_edge (k : Nat) (a0 : Types) (a1 : Int) : Option Int :=
  (if (0 : Int) ≤ a1 ∧ a1 < (a0.fEdges.length : Int) then ((token_IsName k ((rd a0.fEdges a1).fName)).bind fun t317 => (bif (!t317) then (some 2) else (if (0 : Int) ≤ a1 ∧ a1 ≤ (a0.fEdges.length : Int) then ((slices_ContainsFunc_EdgeType k (a0.fEdges.take (a1 : Int).toNat) (fun x => types_edge_2 k x (rd a0.fEdges a1))).bind fun t320 => (bif t320 then (some 5) else (jn (κ := Bool → Option Int) (fun (x25 : Bool) => (bif x25 then (some 6) else (jn (κ := Bool → Option Int) (fun (x25' : Bool) => (bif x25' then (some 6) else (some 0))) (fun j341 => ((types_bounded k ((rd a0.fEdges a1).fOutLow) ((rd a0.fEdges a1).fOutHigh)).bind fun t343 => (bif (!t343) then (j341 true) else ((types_bounded k ((rd a0.fEdges a1).fInLow) ((rd a0.fEdges a1).fInHigh)).bind fun t345 => (j341 (!t345))))))))) (fun j326 => (((fun x => types_edge_1 k x a0) ((rd a0.fEdges a1).fFrom)).bind fun t346 => (bif (!t346) then (j326 true) else (((fun x => types_edge_1 k x a0) ((rd a0.fEdges a1).fTo)).bind fun t348 => (j326 (!t348))))))))) else none))) else none)
def types_Valid.b1 (k : Nat) (a0 : Types) (rec1 : Int → Option (Str × Int)) (x46 : Int) : Option (Str × Int) :=
  (bif (decide (x46 < (a0.fEdges.length : Int))) then (if (0 : Int) ≤ x46 ∧ x46 < (a0.fEdges.length : Int) then ((types_edge k a0 x46).bind fun t423 => (bif (t423 != 0) then (some ((rd a0.fEdges x46).fName, t423)) else (if inR (x46 + 1) then (rec1 (x46 + 1)) else none))) else none) else (some (([] : Str), 0)))
def types_Valid.b0 (k : Nat) (a0 : Types) (rec0 : Int → Option (Str × Int)) (x29 : Int) : Option (Str × Int) :=
  (bif (decide (x29 < (a0.fNodes.length : Int))) then (if (0 : Int) ≤ x29 ∧ x29 < (a0.fNodes.length : Int) then ((types_node k a0 x29).bind fun t405 => (bif (t405 != 0) then (some ((rd a0.fNodes x29).fName, t405)) else (if inR (x29 + 1) then (rec0 (x29 + 1)) else none))) else none) else (loop1 k (types_Valid.b1 k a0) 0))
def types_Valid (k : Nat) (a0 : Types) : Option (Str × Int) :=
  (bif ((a0.fNodes.length : Int) == 0) then (some (([] : Str), 7)) else (jn (κ := Bool → Option (Str × Int)) (fun (x15 : Bool) => (bif x15 then (some (([] : Str), 3)) else (loop1 k (types_Valid.b0 k a0) 0))) (fun j352 => (bif (decide ((a0.fNodes.length : Int) > 12)) then (j352 true) else (j352 (decide ((a0.fEdges.length : Int) > 20)))))))
def slices_IndexFunc_int.b0 (a0 : (List Int)) (a1 : (Int → Option Bool)) (rec0 : Int → Option Int) (x8 : Int) : Option Int :=
  (bif (decide (x8 < (a0.length : Int))) then (if (0 : Int) ≤ x8 ∧ x8 < (a0.length : Int) then ((a1 (rd a0 x8)).bind fun t439 => (bif t439 then (some x8) else (if inR (x8 + 1) then (rec0 (x8 + 1)) else none))) else none) else (some (-1)))
def slices_IndexFunc_int (k : Nat) (a0 : (List Int)) (a1 : (Int → Option Bool)) : Option Int :=
  (loop1 k (slices_IndexFunc_int.b0 a0 a1) 0)
def slices_ContainsFunc_int (k : Nat) (a0 : (List Int)) (a1 : (Int → Option Bool)) : Option Bool :=
  ((slices_IndexFunc_int k a0 a1).bind fun t442 => (some (decide (t442 ≥ 0))))
def graph_within (k : Nat) (a0 : Int) (a1 : Int) : Option Bool :=
  (jn (κ := Bool → Option Bool) (fun (x4 : Bool) => (some x4)) (fun j445 => (bif (decide (a0 ≥ 0)) then (j445 (decide (a0 ≤ a1))) else (j445 false))))
def graph_Valid_1 (k : Nat) (a0 : Int) : Option Bool :=
  ((graph_within k a0 99).bind fun t447 => (some (!t447)))
def graph_fits (k : Nat) (a0 : Edge) (a1 : Int) : Option Bool :=
  (jn (κ := Bool → Option Bool) (fun (x4 : Bool) => (some x4)) (fun j456 => ((graph_within k a0.fType 99).bind fun t457 => (bif t457 then (if inR (a1 - 1) then ((graph_within k a0.fFrom (a1 - 1)).bind fun t460 => (bif t460 then (if inR (a1 - 1) then ((graph_within k a0.fTo (a1 - 1)).bind fun t463 => (j456 t463)) else none) else (j456 false))) else none) else (j456 false)))))
def graph_Valid_2 (k : Nat) (a0 : Edge) (a1 : Graph) : Option Bool :=
  ((graph_fits k a0 (a1.fNodes.length : Int)).bind fun t464 => (some (!t464)))
def slices_IndexFunc_Edge.b0 (a0 : (List Edge)) (a1 : (Edge → Option Bool)) (rec0 : Int → Option Int) (x8 : Int) : Option Int :=
  (bif (decide (x8 < (a0.length : Int))) then (if (0 : Int) ≤ x8 ∧ x8 < (a0.length : Int) then ((a1 (rd a0 x8)).bind fun t477 => (bif t477 then (some x8) else (if inR (x8 + 1) then (rec0 (x8 + 1)) else none))) else none) else (some (-1)))
def slices_IndexFunc_Edge (k : Nat) (a0 : (List Edge)) (a1 : (Edge → Option Bool)) : Option Int :=
  (loop1 k (slices_IndexFunc_Edge.b0 a0 a1) 0)
def slices_ContainsFunc_Edge (k : Nat) (a0 : (List Edge)) (a1 : (Edge → Option Bool)) : Option Bool :=
  ((slices_IndexFunc_Edge k a0 a1).bind fun t480 => (some (decide (t480 ≥ 0))))
def graph_Valid (k : Nat) (a0 : Graph) : Option Int :=
  (jn (κ := Bool → Option Int) (fun (x12 : Bool) => (bif x12 then (some 3) else ((slices_ContainsFunc_int k a0.fNodes (fun x => graph_Valid_1 k x)).bind fun t485 => (bif t485 then (some 6) else ((slices_ContainsFunc_Edge k a0.fEdges (fun x => graph_Valid_2 k x a0)).bind fun t487 => (bif t487 then (some 6) else (some 0))))))) (fun j483 => (bif (decide ((a0.fNodes.length : Int) > 40)) then (j483 true) else (j483 (decide ((a0.fEdges.length : Int) > 80))))))
def search_within_1 (k : Nat) (a0 : Int) (a1 : Types) : Option Bool :=
  (some (decide (a0 ≥ (a1.fNodes.length : Int))))
def search_within_2 (k : Nat) (a0 : Edge) (a1 : Types) : Option Bool :=
  (some (decide (a0.fType ≥ (a1.fEdges.length : Int))))
def search_within (k : Nat) (a0 : Types) (a1 : Graph) : Option Bool :=
  (jn (κ := Bool → Option Bool) (fun (x4 : Bool) => (some x4)) (fun j494 => ((slices_ContainsFunc_int k a1.fNodes (fun x => search_within_1 k x a0)).bind fun t495 => (bif (!t495) then ((slices_ContainsFunc_Edge k a1.fEdges (fun x => search_within_2 k x a0)).bind fun t497 => (j494 (!t497))) else (j494 false)))))
def search_valid.b0 (k : Nat) (a0 : Types) (a1 : Graph) (a2 : Graph) (rec0 : Int → Option Int) (x24 : Int) : Option Int :=
  (bif (decide (x24 < ([a1, a2].length : Int))) then (if (0 : Int) ≤ x24 ∧ x24 < ([a1, a2].length : Int) then ((graph_Valid k (rd [a1, a2] x24)).bind fun t533 => (bif (t533 != 0) then (some t533) else (if inR (x24 + 1) then (rec0 (x24 + 1)) else none))) else none) else (jn (κ := Bool → Option Int) (fun (x43 : Bool) => (bif x43 then (some 13) else (some 0))) (fun j540 => ((search_within k a0 a1).bind fun t542 => (bif (!t542) then (j540 true) else ((search_within k a0 a2).bind fun t544 => (j540 (!t544))))))))
def search_valid (k : Nat) (a0 : Types) (a1 : Graph) (a2 : Graph) : Option Int :=
  ((types_Valid k a0).bind fun t498 => (bif (t498.2 != 0) then (some t498.2) else (loop1 k (search_valid.b0 k a0 a1 a2) 0)))
def types_given_1 (k : Nat) (a0 : Int) (a1 : Types) : Option Bool :=
  (jn (κ := Bool → Option Bool) (fun (x3 : Bool) => (some x3)) (fun j547 => (bif (decide (a0 < 0)) then (j547 true) else (j547 (decide (a0 ≥ (a1.fNodes.length : Int)))))))
def types_given (k : Nat) (a0 : Types) (a1 : (List Int)) : Option Int :=
  ((types_Valid k a0).bind fun t549 => (bif (t549.2 != 0) then (some t549.2) else ((slices_ContainsFunc_int k a1 (fun x => types_given_1 k x a0)).bind fun t551 => (bif t551 then (some 6) else (some 0)))))
def slices_Reverse_int.b0 (rec0 : (List Int) → Int → Int → Option (List Int)) (x0 : (List Int)) (x2 : Int) (x3 : Int) : Option (List Int) :=
  (bif (decide (x2 < x3)) then (if (0 : Int) ≤ x3 ∧ x3 < (x0.length : Int) then (if (0 : Int) ≤ x2 ∧ x2 < (x0.length : Int) then (if (0 : Int) ≤ x2 ∧ x2 < (x0.length : Int) then (if (0 : Int) ≤ x3 ∧ x3 < ((x0.set (x2 : Int).toNat (rd x0 x3)).length : Int) then (if inR (x2 + 1) then (if inR (x3 - 1) then (rec0 ((x0.set (x2 : Int).toNat (rd x0 x3)).set (x3 : Int).toNat (rd x0 x2)) (x2 + 1) (x3 - 1)) else none) else none) else none) else none) else none) else none) else (some x0))
def slices_Reverse_int (k : Nat) (a0 : (List Int)) : Option (List Int) :=
  (if inR ((a0.length : Int) - 1) then (loop3 k (slices_Reverse_int.b0) a0 0 ((a0.length : Int) - 1)) else none)
def types_line.b0 (k : Nat) (a0 : Types) (rec0 : Int → (List Int) → Option (List Int)) (x1 : Int) (x5 : (List Int)) : Option (List Int) :=
  (bif (decide (x1 ≥ 0)) then (if x5.length + [x1].length ≤ lim then (if (0 : Int) ≤ x1 ∧ x1 < (a0.fNodes.length : Int) then (rec0 ((rd a0.fNodes x1).fParent) (x5 ++ [x1])) else none) else none) else ((slices_Reverse_int k x5).bind fun t621 => (some t621)))
def types_line (k : Nat) (a0 : Types) (a1 : Int) : Option (List Int) :=
  (loop2 k (types_line.b0 k a0) a1 [])
def slices_Index_int.b0 (a0 : (List Int)) (a1 : Int) (rec0 : Int → Option Int) (x8 : Int) : Option Int :=
  (bif (decide (x8 < (a0.length : Int))) then (if (0 : Int) ≤ x8 ∧ x8 < (a0.length : Int) then (bif (a1 == (rd a0 x8)) then (some x8) else (if inR (x8 + 1) then (rec0 (x8 + 1)) else none)) else none) else (some (-1)))
def slices_Index_int (k : Nat) (a0 : (List Int)) (a1 : Int) : Option Int :=
  (loop1 k (slices_Index_int.b0 a0 a1) 0)
def slices_Contains_int (k : Nat) (a0 : (List Int)) (a1 : Int) : Option Bool :=
  ((slices_Index_int k a0 a1).bind fun t634 => (some (decide (t634 ≥ 0))))
def types_is (k : Nat) (a0 : Types) (a1 : Int) (a2 : Int) : Option Bool :=
  ((types_line k a0 a1).bind fun t635 => ((slices_Contains_int k t635 a2).bind fun t636 => (some t636)))
def types_Below.b0 (k : Nat) (a0 : Types) (a1 : Int) (rec0 : (List Int) → Int → Option ((List Int) × Int)) (x7 : (List Int)) (x19 : Int) : Option ((List Int) × Int) :=
  (bif (decide (x19 < (a0.fNodes.length : Int))) then ((types_is k a0 x19 a1).bind fun t668 => (bif t668 then (if x7.length + [x19].length ≤ lim then (if inR (x19 + 1) then (rec0 (x7 ++ [x19]) (x19 + 1)) else none) else none) else (if inR (x19 + 1) then (rec0 x7 (x19 + 1)) else none))) else (some (x7, 0)))
def types_Below (k : Nat) (a0 : Types) (a1 : Int) : Option ((List Int) × Int) :=
  ((types_given k a0 [a1]).bind fun t637 => (bif (t637 != 0) then (some ([], t637)) else (loop2 k (types_Below.b0 k a0 a1) [] 0)))
def search_below.b1 (x3 : (List (List Bool))) (x13 : Int) (rec0 : (List (List Bool)) → Int → Option (List (List Bool))) (t737 : ((List Int) × Int)) (rec1 : (List Bool) → Int → Option (List (List Bool))) (x5 : (List Bool)) (x28 : Int) : Option (List (List Bool)) :=
  (bif (decide (x28 < (t737.1.length : Int))) then (if (0 : Int) ≤ x28 ∧ x28 < (t737.1.length : Int) then (if (0 : Int) ≤ (rd t737.1 x28) ∧ (rd t737.1 x28) < (x5.length : Int) then (if inR (x28 + 1) then (rec1 (x5.set ((rd t737.1 x28) : Int).toNat true) (x28 + 1)) else none) else none) else none) else (if x3.length + [x5].length ≤ lim then (if inR (x13 + 1) then (rec0 (x3 ++ [x5]) (x13 + 1)) else none) else none))
def search_below.b0 (k : Nat) (a0 : Types) (rec0 : (List (List Bool)) → Int → Option (List (List Bool))) (x3 : (List (List Bool))) (x13 : Int) : Option (List (List Bool)) :=
  (bif (decide (x13 < (a0.fNodes.length : Int))) then (if (0 : Int) ≤ (a0.fNodes.length : Int) ∧ (a0.fNodes.length : Int) ≤ (lim : Int) then ((types_Below k a0 x13).bind fun t737 => (loop2 k (search_below.b1 x3 x13 rec0 t737) (List.replicate ((a0.fNodes.length : Int) : Int).toNat false) 0)) else none) else (some x3))
def search_below (k : Nat) (a0 : Types) : Option (List (List Bool)) :=
  (loop2 k (search_below.b0 k a0) [] 0)
def search_given (_k : Nat) (a0 : (Option (List Int))) (a1 : Int) : Option Int := match a0 with
  | none => some (-1)
  | some l => if (0 : Int) ≤ a1 ∧ a1 < (l.length : Int) then some (rd l a1) else none
def search_finder_fits (k : Nat) (a0 : Finder) (a1 : Int) (a2 : Int) : Option Bool :=
  (if (0 : Int) ≤ a1 ∧ a1 < (a0.fp.fEdges.length : Int) then ((search_given k a0.fpartial.fEdges a1).bind fun t761 => (jn (κ := Bool → Option Bool) (fun (x30 : Bool) => (bif x30 then (some false) else (if (0 : Int) ≤ a2 ∧ a2 < (a0.fg.fEdges.length : Int) then (if (0 : Int) ≤ (rd a0.fp.fEdges a1).fFrom ∧ (rd a0.fp.fEdges a1).fFrom < (a0.fnodes.length : Int) then (if (0 : Int) ≤ (rd a0.fp.fEdges a1).fTo ∧ (rd a0.fp.fEdges a1).fTo < (a0.fnodes.length : Int) then (some ([(rd a0.fg.fEdges a2).fType, (rd a0.fg.fEdges a2).fFrom, (rd a0.fg.fEdges a2).fTo] == [(rd a0.fp.fEdges a1).fType, (rd a0.fnodes ((rd a0.fp.fEdges a1).fFrom)), (rd a0.fnodes ((rd a0.fp.fEdges a1).fTo))])) else none) else none) else none))) (fun j764 => (bif (decide (t761 ≥ 0)) then (j764 (t761 != a2)) else (j764 false))))) else none)
def search_finder_possible.b1 (k : Nat) (a0 : Finder) (x20 : Int) (rec0 : Int → Option Bool) (rec1 : Int → Option Bool) (x38 : Int) : Option Bool :=
  (bif (decide (x38 < (a0.fg.fEdges.length : Int))) then ((search_finder_fits k a0 x20 x38).bind fun t950 => (bif t950 then (if inR (x20 + 1) then (rec0 (x20 + 1)) else none) else (if inR (x38 + 1) then (rec1 (x38 + 1)) else none))) else (some false))
def search_finder_possible.b0 (k : Nat) (a0 : Finder) (rec0 : Int → Option Bool) (x20 : Int) : Option Bool :=
  (bif (decide (x20 < (a0.fp.fEdges.length : Int))) then (if (0 : Int) ≤ x20 ∧ x20 < (a0.fp.fEdges.length : Int) then (bif ((if (rd a0.fp.fEdges x20).fTo > (rd a0.fp.fEdges x20).fFrom then (rd a0.fp.fEdges x20).fTo else (rd a0.fp.fEdges x20).fFrom) != ((a0.fnodes.length : Int) - 1)) then (if inR (x20 + 1) then (rec0 (x20 + 1)) else none) else (loop1 k (search_finder_possible.b1 k a0 x20 rec0) 0)) else none) else (some true))
def search_finder_possible (k : Nat) (a0 : Finder) : Option Bool :=
  (if inR ((a0.fnodes.length : Int) - 1) then (loop1 k (search_finder_possible.b0 k a0) 0) else none)
def slices_Clone_int (_k : Nat) (a0 : (List Int)) : Option (List Int) := if a0.length ≤ lim then some a0 else none
def search_finder_find.b0 (k : Nat) (self : Finder → Option ((List Int) × (List Int) × (List Morphism))) (a0 : Finder) (j3185 : (List Int) → (List Int) → (List Morphism) → Option ((List Int) × (List Int) × (List Morphism))) (rec0 : (List Int) → (List Int) → (List Morphism) → Int → Option ((List Int) × (List Int) × (List Morphism))) (y9 : (List Int)) (y10 : (List Int)) (y11 : (List Morphism)) (x63 : Int) : Option ((List Int) × (List Int) × (List Morphism)) :=
  (bif (decide (x63 < (a0.fg.fNodes.length : Int))) then (if (0 : Int) ≤ x63 ∧ x63 < (a0.fg.fNodes.length : Int) then ((search_given k a0.fpartial.fNodes (a0.fnodes.length : Int)).bind fun t3557 => (jn (κ := Bool → Option ((List Int) × (List Int) × (List Morphism))) (fun (x115 : Bool) => (bif x115 then (if inR (x63 + 1) then (rec0 y9 y10 y11 (x63 + 1)) else none) else (if y9.length + [x63].length ≤ lim then ((search_finder_possible k (Finder.mk a0.fp a0.fg a0.fis a0.fpartial a0.finjective a0.fmost (y9 ++ [x63]) y10 y11)).bind fun t3592 => (jn (κ := (List Int) → (List Int) → (List Morphism) → Option ((List Int) × (List Int) × (List Morphism))) (fun (y9' : (List Int)) (y10' : (List Int)) (y11' : (List Morphism)) => (if (0 : Int) ≤ (a0.fnodes.length : Int) ∧ (a0.fnodes.length : Int) ≤ (y9'.length : Int) then (if inR (x63 + 1) then (rec0 (y9'.take ((a0.fnodes.length : Int) : Int).toNat) y10' y11' (x63 + 1)) else none) else none)) (fun j3605 => (bif t3592 then ((self (Finder.mk a0.fp a0.fg a0.fis a0.fpartial a0.finjective a0.fmost (y9 ++ [x63]) y10 y11)).bind fun t3610 => (j3605 t3610.1 t3610.2.1 t3610.2.2)) else (j3605 (y9 ++ [x63]) y10 y11))))) else none))) (fun j3587 => (bif (decide (t3557 ≥ 0)) then (bif (t3557 != x63) then (j3587 true) else (if (0 : Int) ≤ (a0.fnodes.length : Int) ∧ (a0.fnodes.length : Int) < (a0.fp.fNodes.length : Int) then (if (0 : Int) ≤ (rd a0.fp.fNodes (a0.fnodes.length : Int)) ∧ (rd a0.fp.fNodes (a0.fnodes.length : Int)) < (a0.fis.length : Int) then (if (0 : Int) ≤ (rd a0.fg.fNodes x63) ∧ (rd a0.fg.fNodes x63) < ((rd a0.fis (rd a0.fp.fNodes (a0.fnodes.length : Int))).length : Int) then (bif (!(rd (rd a0.fis (rd a0.fp.fNodes (a0.fnodes.length : Int))) (rd a0.fg.fNodes x63))) then (j3587 true) else (bif a0.finjective then ((slices_Contains_int k y9 x63).bind fun t3621 => (j3587 t3621)) else (j3587 false))) else none) else none) else none)) else (if (0 : Int) ≤ (a0.fnodes.length : Int) ∧ (a0.fnodes.length : Int) < (a0.fp.fNodes.length : Int) then (if (0 : Int) ≤ (rd a0.fp.fNodes (a0.fnodes.length : Int)) ∧ (rd a0.fp.fNodes (a0.fnodes.length : Int)) < (a0.fis.length : Int) then (if (0 : Int) ≤ (rd a0.fg.fNodes x63) ∧ (rd a0.fg.fNodes x63) < ((rd a0.fis (rd a0.fp.fNodes (a0.fnodes.length : Int))).length : Int) then (bif (!(rd (rd a0.fis (rd a0.fp.fNodes (a0.fnodes.length : Int))) (rd a0.fg.fNodes x63))) then (j3587 true) else (bif a0.finjective then ((slices_Contains_int k y9 x63).bind fun t3627 => (j3587 t3627)) else (j3587 false))) else none) else none) else none))))) else none) else (j3185 y9 y10 y11))
def search_finder_find.b1 (k : Nat) (self : Finder → Option ((List Int) × (List Int) × (List Morphism))) (a0 : Finder) (j3185 : (List Int) → (List Int) → (List Morphism) → Option ((List Int) × (List Int) × (List Morphism))) (rec1 : (List Int) → (List Int) → (List Morphism) → Int → Option ((List Int) × (List Int) × (List Morphism))) (y9 : (List Int)) (y10 : (List Int)) (y11 : (List Morphism)) (x164 : Int) : Option ((List Int) × (List Int) × (List Morphism)) :=
  (bif (decide (x164 < (a0.fg.fEdges.length : Int))) then (jn (κ := Bool → Option ((List Int) × (List Int) × (List Morphism))) (fun (x185 : Bool) => (bif x185 then (if inR (x164 + 1) then (rec1 y9 y10 y11 (x164 + 1)) else none) else (if y10.length + [x164].length ≤ lim then ((self (Finder.mk a0.fp a0.fg a0.fis a0.fpartial a0.finjective a0.fmost y9 (y10 ++ [x164]) y11)).bind fun t3901 => (if (0 : Int) ≤ (a0.fedges.length : Int) ∧ (a0.fedges.length : Int) ≤ (t3901.2.1.length : Int) then (if inR (x164 + 1) then (rec1 t3901.1 (t3901.2.1.take ((a0.fedges.length : Int) : Int).toNat) t3901.2.2 (x164 + 1)) else none) else none)) else none))) (fun j3896 => ((search_finder_fits k (Finder.mk a0.fp a0.fg a0.fis a0.fpartial a0.finjective a0.fmost y9 y10 y11) (a0.fedges.length : Int) x164).bind fun t3908 => (bif (!t3908) then (j3896 true) else (bif a0.finjective then ((slices_Contains_int k y10 x164).bind fun t3911 => (j3896 t3911)) else (j3896 false)))))) else (j3185 y9 y10 y11))
def search_finder_find.main (self : Finder → Option ((List Int) × (List Int) × (List Morphism))) (k : Nat) (a0 : Finder) : Option ((List Int) × (List Int) × (List Morphism)) :=
  (bif ((a0.fout.length : Int) == a0.fmost) then (some (a0.fnodes, a0.fedges, a0.fout)) else (jn (κ := (List Int) → (List Int) → (List Morphism) → Option ((List Int) × (List Int) × (List Morphism))) (fun (y9 : (List Int)) (y10 : (List Int)) (y11 : (List Morphism)) => (some (y9, y10, y11))) (fun j3185 => (bif (decide ((a0.fnodes.length : Int) < (a0.fp.fNodes.length : Int))) then (loop4 k (search_finder_find.b0 k self a0 j3185) a0.fnodes a0.fedges a0.fout 0) else (bif (decide ((a0.fedges.length : Int) < (a0.fp.fEdges.length : Int))) then (loop4 k (search_finder_find.b1 k self a0 j3185) a0.fnodes a0.fedges a0.fout 0) else ((slices_Clone_int k a0.fnodes).bind fun t3920 => ((slices_Clone_int k a0.fedges).bind fun t3921 => (if a0.fout.length + [(Morphism.mk t3920 t3921)].length ≤ lim then (j3185 a0.fnodes a0.fedges (a0.fout ++ [(Morphism.mk t3920 t3921)])) else none))))))))
def search_finder_find : Nat → Finder → Option ((List Int) × (List Int) × (List Morphism))
  | 0, _ => none
  | k + 1, a0 => search_finder_find.main (search_finder_find k) k a0
def search_found (k : Nat) (a0 : Types) (a1 : Graph) (a2 : Graph) (a3 : OMorphism) (a4 : Bool) (a5 : Int) : Option (List Morphism) :=
  ((search_below k a0).bind fun t3928 => ((search_finder_find k (Finder.mk a1 a2 t3928 a3 a4 a5 [] [] [])).bind fun t3933 => (some t3933.2.2)))
def search_all (k : Nat) (a0 : Types) (a1 : Graph) (a2 : Graph) (a3 : OMorphism) (a4 : Bool) : Option ((List Morphism) × Int) :=
  ((search_found k a0 a1 a2 a3 a4 5001).bind fun t3937 => (bif (decide ((t3937.length : Int) > 5000)) then (some ([], 3)) else (some (t3937, 0))))
def search_All (k : Nat) (a0 : Types) (a1 : Graph) (a2 : Graph) (a3 : Bool) : Option ((List Morphism) × Int) :=
  ((search_valid k a0 a1 a2).bind fun t3939 => (bif (t3939 != 0) then (some ([], t3939)) else ((search_all k a0 a1 a2 (OMorphism.mk none none) a3).bind fun t3941 => (some (t3941.1, t3941.2)))))
def search_Count (k : Nat) (a0 : Types) (a1 : Graph) (a2 : Graph) (a3 : Bool) : Option (Int × Int) :=
  ((search_All k a0 a1 a2 a3).bind fun t3942 => (some ((t3942.1.length : Int), t3942.2)))
def search_shape.b1 (a1 : Graph) (a2 : Graph) (a3 : Morphism) (rec1 : Int → Option Int) (x71 : Int) : Option Int :=
  (bif (decide (x71 < (a3.fEdges.length : Int))) then (if (0 : Int) ≤ x71 ∧ x71 < (a3.fEdges.length : Int) then (jn (κ := Bool → Option Int) (fun (x84 : Bool) => (bif x84 then (some 6) else (jn (κ := Option Int) ((bif ((rd a1.fEdges x71).fType != (rd a2.fEdges (rd a3.fEdges x71)).fType) then (some 13) else (jn (κ := Bool → Option Int) (fun (x119 : Bool) => (bif x119 then (some 11) else (if inR (x71 + 1) then (rec1 (x71 + 1)) else none))) (fun j4315 => (if (0 : Int) ≤ (rd a1.fEdges x71).fFrom ∧ (rd a1.fEdges x71).fFrom < (a3.fNodes.length : Int) then (bif ((rd a3.fNodes ((rd a1.fEdges x71).fFrom)) != (rd a2.fEdges (rd a3.fEdges x71)).fFrom) then (j4315 true) else (if (0 : Int) ≤ (rd a1.fEdges x71).fTo ∧ (rd a1.fEdges x71).fTo < (a3.fNodes.length : Int) then (j4315 ((rd a3.fNodes ((rd a1.fEdges x71).fTo)) != (rd a2.fEdges (rd a3.fEdges x71)).fTo)) else none)) else none))))) (fun j4306 => (if (0 : Int) ≤ x71 ∧ x71 < (a1.fEdges.length : Int) then (if (0 : Int) ≤ (rd a3.fEdges x71) ∧ (rd a3.fEdges x71) < (a2.fEdges.length : Int) then j4306 else none) else none))))) (fun j4295 => (bif (decide ((rd a3.fEdges x71) < 0)) then (j4295 true) else (j4295 (decide ((rd a3.fEdges x71) ≥ (a2.fEdges.length : Int))))))) else none) else (some 0))
def search_shape.b0 (k : Nat) (a1 : Graph) (a2 : Graph) (a3 : Morphism) (t3947 : (List (List Bool))) (rec0 : Int → Option Int) (x37 : Int) : Option Int :=
  (bif (decide (x37 < (a3.fNodes.length : Int))) then (if (0 : Int) ≤ x37 ∧ x37 < (a3.fNodes.length : Int) then (jn (κ := Bool → Option Int) (fun (x50 : Bool) => (bif x50 then (some 6) else (if (0 : Int) ≤ x37 ∧ x37 < (a1.fNodes.length : Int) then (if (0 : Int) ≤ (rd a1.fNodes x37) ∧ (rd a1.fNodes x37) < (t3947.length : Int) then (if (0 : Int) ≤ (rd a3.fNodes x37) ∧ (rd a3.fNodes x37) < (a2.fNodes.length : Int) then (if (0 : Int) ≤ (rd a2.fNodes (rd a3.fNodes x37)) ∧ (rd a2.fNodes (rd a3.fNodes x37)) < ((rd t3947 (rd a1.fNodes x37)).length : Int) then (bif (!(rd (rd t3947 (rd a1.fNodes x37)) (rd a2.fNodes (rd a3.fNodes x37)))) then (some 13) else (if inR (x37 + 1) then (rec0 (x37 + 1)) else none)) else none) else none) else none) else none))) (fun j4204 => (bif (decide ((rd a3.fNodes x37) < 0)) then (j4204 true) else (j4204 (decide ((rd a3.fNodes x37) ≥ (a2.fNodes.length : Int))))))) else none) else (loop1 k (search_shape.b1 a1 a2 a3) 0))
def search_shape (k : Nat) (a0 : Types) (a1 : Graph) (a2 : Graph) (a3 : Morphism) : Option Int :=
  (jn (κ := Bool → Option Int) (fun (x31 : Bool) => (bif x31 then (some 20) else ((search_below k a0).bind fun t3947 => (loop1 k (search_shape.b0 k a1 a2 a3 t3947) 0)))) (fun j3945 => (bif ((a3.fNodes.length : Int) != (a1.fNodes.length : Int)) then (j3945 true) else (j3945 ((a3.fEdges.length : Int) != (a1.fEdges.length : Int))))))
def slices_Clone_Edge (_k : Nat) (a0 : (List Edge)) : Option (List Edge) := if a0.length ≤ lim then some a0 else none
def search_Instance.b0 (a2 : Graph) (a3 : Morphism) (t4332 : (List Edge)) (rec0 : (List Int) → Int → Option (Graph × Int)) (y0 : (List Int)) (x39 : Int) : Option (Graph × Int) :=
  (bif (decide (x39 < (a3.fNodes.length : Int))) then (if (0 : Int) ≤ x39 ∧ x39 < (a3.fNodes.length : Int) then (if (0 : Int) ≤ (rd a3.fNodes x39) ∧ (rd a3.fNodes x39) < (a2.fNodes.length : Int) then (if y0.length + [(rd a2.fNodes (rd a3.fNodes x39))].length ≤ lim then (if inR (x39 + 1) then (rec0 (y0 ++ [(rd a2.fNodes (rd a3.fNodes x39))]) (x39 + 1)) else none) else none) else none) else none) else (some ((Graph.mk y0 t4332), 0)))
def search_Instance (k : Nat) (a0 : Types) (a1 : Graph) (a2 : Graph) (a3 : Morphism) : Option (Graph × Int) :=
  ((search_valid k a0 a1 a2).bind fun t4328 => (bif (t4328 != 0) then (some ((Graph.mk [] []), t4328)) else ((search_shape k a0 a1 a2 a3).bind fun t4330 => (bif (t4330 != 0) then (some ((Graph.mk [] []), t4330)) else ((slices_Clone_Edge k a1.fEdges).bind fun t4332 => (loop2 k (search_Instance.b0 a2 a3 t4332) [] 0))))))
def ref05_SameInts.b0 (a0 : (List Int)) (a1 : (List Int)) (rec0 : Int → Option Bool) (x5 : Int) : Option Bool :=
  (bif (decide (x5 < (a0.length : Int))) then (if (0 : Int) ≤ x5 ∧ x5 < (a0.length : Int) then (if (0 : Int) ≤ x5 ∧ x5 < (a1.length : Int) then (bif ((rd a0 x5) != (rd a1 x5)) then (some false) else (if inR (x5 + 1) then (rec0 (x5 + 1)) else none)) else none) else none) else (some true))
def ref05_SameInts (k : Nat) (a0 : (List Int)) (a1 : (List Int)) : Option Bool :=
  (bif ((a0.length : Int) != (a1.length : Int)) then (some false) else (loop1 k (ref05_SameInts.b0 a0 a1) 0))
def ref17_SameAll.b0 (k : Nat) (a0 : (List Morphism)) (a1 : (List Morphism)) (rec0 : Int → Option Bool) (x5 : Int) : Option Bool :=
  (bif (decide (x5 < (a0.length : Int))) then (jn (κ := Bool → Option Bool) (fun (x42 : Bool) => (bif x42 then (some false) else (if inR (x5 + 1) then (rec0 (x5 + 1)) else none))) (fun j4474 => (if (0 : Int) ≤ x5 ∧ x5 < (a0.length : Int) then (if (0 : Int) ≤ x5 ∧ x5 < (a1.length : Int) then ((ref05_SameInts k ((rd a0 x5).fNodes) ((rd a1 x5).fNodes)).bind fun t4479 => (bif (!t4479) then (j4474 true) else (if (0 : Int) ≤ x5 ∧ x5 < (a0.length : Int) then (if (0 : Int) ≤ x5 ∧ x5 < (a1.length : Int) then ((ref05_SameInts k ((rd a0 x5).fEdges) ((rd a1 x5).fEdges)).bind fun t4483 => (j4474 (!t4483))) else none) else none))) else none) else none))) else (some true))
def ref17_SameAll (k : Nat) (a0 : (List Morphism)) (a1 : (List Morphism)) : Option Bool :=
  (bif ((a0.length : Int) != (a1.length : Int)) then (some false) else (loop1 k (ref17_SameAll.b0 k a0 a1) 0))
def slices_Equal_int.b0 (a0 : (List Int)) (a1 : (List Int)) (rec0 : Int → Option Bool) (x13 : Int) : Option Bool :=
  (bif (decide (x13 < (a0.length : Int))) then (if (0 : Int) ≤ x13 ∧ x13 < (a0.length : Int) then (if (0 : Int) ≤ x13 ∧ x13 < (a1.length : Int) then (bif ((rd a0 x13) != (rd a1 x13)) then (some false) else (if inR (x13 + 1) then (rec0 (x13 + 1)) else none)) else none) else none) else (some true))
def slices_Equal_int (k : Nat) (a0 : (List Int)) (a1 : (List Int)) : Option Bool :=
  (bif ((a0.length : Int) != (a1.length : Int)) then (some false) else (loop1 k (slices_Equal_int.b0 a0 a1) 0))
def law17_awake (k : Nat) : Option Bool :=
  ((ref04_Example k).bind fun t4512 => ((law17_bank k).bind fun t4519 => ((search_All k t4512 (Graph.mk [0, 0] []) t4519 true).bind fun t4520 => ((law17_bank k).bind fun t4525 => ((search_Count k t4512 (Graph.mk [0, 0] []) t4525 false).bind fun t4526 => ((law17_bank k).bind fun t4533 => ((search_Instance k t4512 (Graph.mk [0, 0] []) t4533 (Morphism.mk [1, 2] [])).bind fun t4534 => (jn (κ := Bool → Option Bool) (fun (x0 : Bool) => (some x0)) (fun j4544 => (bif (t4520.2 == 0) then ((ref17_SameAll k t4520.1 ([(Morphism.mk [1, 2] []), (Morphism.mk [2, 1] [])])).bind fun t4546 => (bif t4546 then (bif (t4526.2 == 0) then (bif (t4526.1 == 4) then (bif (t4534.2 == 0) then ((slices_Equal_int k t4534.1.fNodes [1, 1]).bind fun t4551 => (j4544 t4551)) else (j4544 false)) else (j4544 false)) else (j4544 false)) else (j4544 false))) else (j4544 false)))))))))))
def ref04_Few.b2 (a0 : Types) (x4 : Int) (x5 : Int) (rec1 : Int → Option Bool) (rec2 : Int → Option Bool) (x7 : Int) : Option Bool :=
  (bif (decide (x7 < (((rd ((rd a0.fNodes x4).fAttrs) x5).fNames).length : Int))) then (if (0 : Int) ≤ x7 ∧ x7 < (((rd ((rd a0.fNodes x4).fAttrs) x5).fNames).length : Int) then (bif (decide (((rd ((rd ((rd a0.fNodes x4).fAttrs) x5).fNames) x7).length : Int) > 40)) then (some false) else (if inR (x7 + 1) then (rec2 (x7 + 1)) else none)) else none) else (if inR (x5 + 1) then (rec1 (x5 + 1)) else none))
def ref04_Few.b1 (k : Nat) (a0 : Types) (x3 : Int) (x4 : Int) (rec0 : Int → Int → Option Bool) (rec1 : Int → Option Bool) (x5 : Int) : Option Bool :=
  (if (0 : Int) ≤ x4 ∧ x4 < (a0.fNodes.length : Int) then (bif (decide (x5 < (((rd a0.fNodes x4).fAttrs).length : Int))) then (if (0 : Int) ≤ x4 ∧ x4 < (a0.fNodes.length : Int) then (if (0 : Int) ≤ x5 ∧ x5 < (((rd a0.fNodes x4).fAttrs).length : Int) then (jn (κ := Bool → Option Bool) (fun (x76 : Bool) => (bif x76 then (some false) else (loop1 k (ref04_Few.b2 a0 x4 x5 rec1) 0))) (fun j4823 => (bif (decide ((((rd ((rd a0.fNodes x4).fAttrs) x5).fName).length : Int) > 40)) then (j4823 true) else (j4823 (decide ((((rd ((rd a0.fNodes x4).fAttrs) x5).fNames).length : Int) > 25)))))) else none) else none) else (if inR (x4 + 1) then (rec0 (x3 + (((rd a0.fNodes x4).fAttrs).length : Int)) (x4 + 1)) else none)) else none)
def ref04_Few.b3 (a0 : Types) (rec3 : Int → Option Bool) (x8 : Int) : Option Bool :=
  (bif (decide (x8 < (a0.fEdges.length : Int))) then (if (0 : Int) ≤ x8 ∧ x8 < (a0.fEdges.length : Int) then (bif (decide ((((rd a0.fEdges x8).fName).length : Int) > 40)) then (some false) else (if inR (x8 + 1) then (rec3 (x8 + 1)) else none)) else none) else (some true))
def ref04_Few.b0 (k : Nat) (a0 : Types) (rec0 : Int → Int → Option Bool) (x3 : Int) (x4 : Int) : Option Bool :=
  (bif (decide (x4 < (a0.fNodes.length : Int))) then (if (0 : Int) ≤ x4 ∧ x4 < (a0.fNodes.length : Int) then (if inR (x3 + (((rd a0.fNodes x4).fAttrs).length : Int)) then (jn (κ := Bool → Option Bool) (fun (x46 : Bool) => (bif x46 then (some false) else (loop1 k (ref04_Few.b1 k a0 x3 x4 rec0) 0))) (fun j4762 => (bif (decide ((x3 + (((rd a0.fNodes x4).fAttrs).length : Int)) > 30)) then (j4762 true) else (if (0 : Int) ≤ x4 ∧ x4 < (a0.fNodes.length : Int) then (j4762 (decide ((((rd a0.fNodes x4).fName).length : Int) > 40))) else none)))) else none) else none) else (loop1 k (ref04_Few.b3 a0) 0))
def ref04_Few (k : Nat) (a0 : Types) : Option Bool :=
  (jn (κ := Bool → Option Bool) (fun (x18 : Bool) => (bif x18 then (some false) else (loop2 k (ref04_Few.b0 k a0) 0 0))) (fun j4554 => (bif (decide ((a0.fNodes.length : Int) > 20)) then (j4554 true) else (j4554 (decide ((a0.fEdges.length : Int) > 30))))))
def ref05_Few (k : Nat) (a0 : Graph) : Option Bool :=
  (jn (κ := Bool → Option Bool) (fun (x2 : Bool) => (some x2)) (fun j4859 => (bif (decide ((a0.fNodes.length : Int) ≤ 45)) then (j4859 (decide ((a0.fEdges.length : Int) ≤ 90))) else (j4859 false))))
def ref01_text (k : Nat) (a0 : Token) : Option Str :=
  (bif (a0.fKind == 3) then (if (([34] : Str).length : Int) + (a0.fText.length : Int) ≤ 9223372036854775807 then (if ((([34] : Str) ++ a0.fText).length : Int) + (([34] : Str).length : Int) ≤ 9223372036854775807 then (some ((([34] : Str) ++ a0.fText) ++ ([34] : Str))) else none) else none) else (some a0.fText))
def ref01_letter (k : Nat) (a0 : Int) : Option Bool :=
  (jn (κ := Bool → Option Bool) (fun (x2 : Bool) => (some x2)) (fun j4869 => (bif (decide (a0 ≥ 97)) then (bif (decide (a0 ≤ 122)) then (j4869 true) else (bif (decide (a0 ≥ 65)) then (j4869 (decide (a0 ≤ 90))) else (j4869 false))) else (bif (decide (a0 ≥ 65)) then (j4869 (decide (a0 ≤ 90))) else (j4869 false)))))
def ref01_digit (k : Nat) (a0 : Int) : Option Bool :=
  (jn (κ := Bool → Option Bool) (fun (x2 : Bool) => (some x2)) (fun j4876 => (bif (decide (a0 ≥ 48)) then (j4876 (decide (a0 ≤ 57))) else (j4876 false))))
def ref01_run.b0 (k : Nat) (a0 : Str) (a1 : Int) (a2 : Bool) (rec0 : Int → Option Int) (x7 : Int) : Option Int :=
  (jn (κ := Bool → Option Int) (fun (x41 : Bool) => (bif x41 then (if inR (x7 + 1) then (rec0 (x7 + 1)) else none) else (some x7))) (fun j4952 => (if inR (a1 + x7) then (bif (decide ((a1 + x7) < (a0.length : Int))) then (if inR (a1 + x7) then (if (0 : Int) ≤ (a1 + x7) ∧ (a1 + x7) < (a0.length : Int) then ((ref01_digit k (bt a0 (a1 + x7))).bind fun t4959 => (bif t4959 then (j4952 true) else (bif (!a2) then (if inR (a1 + x7) then (if (0 : Int) ≤ (a1 + x7) ∧ (a1 + x7) < (a0.length : Int) then ((ref01_letter k (bt a0 (a1 + x7))).bind fun t4964 => (bif t4964 then (j4952 true) else (if inR (a1 + x7) then (if (0 : Int) ≤ (a1 + x7) ∧ (a1 + x7) < (a0.length : Int) then (j4952 ((bt a0 (a1 + x7)) == 95)) else none) else none))) else none) else none) else (j4952 false)))) else none) else none) else (j4952 false)) else none)))
def ref01_run (k : Nat) (a0 : Str) (a1 : Int) (a2 : Bool) : Option Int :=
  (loop1 k (ref01_run.b0 k a0 a1 a2) 0)
def ref01_quoted.b0 (a0 : Str) (a1 : Int) (rec0 : Int → Option Int) (x5 : Int) : Option Int :=
  (if inR (a1 + x5) then (bif (decide ((a1 + x5) < (a0.length : Int))) then (if inR (a1 + x5) then (if (0 : Int) ≤ (a1 + x5) ∧ (a1 + x5) < (a0.length : Int) then (bif ((bt a0 (a1 + x5)) == 34) then (if inR (x5 + 1) then (some (x5 + 1)) else none) else (jn (κ := Bool → Option Int) (fun (x29 : Bool) => (bif x29 then (some 0) else (if inR (x5 + 1) then (rec0 (x5 + 1)) else none))) (fun j5000 => (bif (decide ((bt a0 (a1 + x5)) < 32)) then (j5000 true) else (j5000 (decide ((bt a0 (a1 + x5)) > 126))))))) else none) else none) else (some 0)) else none)
def ref01_quoted (k : Nat) (a0 : Str) (a1 : Int) : Option Int :=
  (loop1 k (ref01_quoted.b0 a0 a1) 1)
def ref01_signs (k : Nat) : Option (List Str) :=
  (some ([([45, 62] : Str), ([60, 61] : Str), ([62, 61] : Str), ([61, 61] : Str), ([33, 61] : Str), ([123] : Str), ([125] : Str), ([40] : Str), ([41] : Str), ([91] : Str), ([93] : Str), ([44] : Str), ([59] : Str), ([58] : Str), ([61] : Str), ([43] : Str), ([45] : Str), ([42] : Str), ([60] : Str), ([62] : Str), ([33] : Str), ([38] : Str), ([124] : Str), ([46] : Str), ([63] : Str)]))
def ref01_one.b0 (a0 : Str) (a1 : Int) (t5031 : (List Str)) (rec0 : Int → Option (Token × Int × Int)) (x13 : Int) : Option (Token × Int × Int) :=
  (bif (decide (x13 < (t5031.length : Int))) then (jn (κ := Bool → Option (Token × Int × Int)) (fun (x98 : Bool) => (bif x98 then (if (0 : Int) ≤ x13 ∧ x13 < (t5031.length : Int) then (if (0 : Int) ≤ x13 ∧ x13 < (t5031.length : Int) then (some ((Token.mk 4 (rd t5031 x13) 0), ((rd t5031 x13).length : Int), 0)) else none) else none) else (if inR (x13 + 1) then (rec0 (x13 + 1)) else none))) (fun j5112 => (if (0 : Int) ≤ x13 ∧ x13 < (t5031.length : Int) then (if inR (a1 + ((rd t5031 x13).length : Int)) then (bif (decide ((a1 + ((rd t5031 x13).length : Int)) ≤ (a0.length : Int))) then (if (0 : Int) ≤ x13 ∧ x13 < (t5031.length : Int) then (if inR (a1 + ((rd t5031 x13).length : Int)) then (if (0 : Int) ≤ a1 ∧ (a1 : Int) ≤ (a1 + ((rd t5031 x13).length : Int)) ∧ ((a1 + ((rd t5031 x13).length : Int)) : Int) ≤ (a0.length : Int) then (if (0 : Int) ≤ x13 ∧ x13 < (t5031.length : Int) then (j5112 (((a0.take ((a1 + ((rd t5031 x13).length : Int)) : Int).toNat).drop (a1 : Int).toNat) == (rd t5031 x13))) else none) else none) else none) else none) else (j5112 false)) else none) else none))) else (some ((Token.mk 0 ([] : Str) 0), 0, 2)))
def ref01_one (k : Nat) (a0 : Str) (a1 : Int) : Option (Token × Int × Int) :=
  (if (0 : Int) ≤ a1 ∧ a1 < (a0.length : Int) then (jn (κ := Bool → Option (Token × Int × Int)) (fun (x22 : Bool) => (bif x22 then ((ref01_digit k (bt a0 a1)).bind fun t5012 => ((ref01_run k a0 a1 t5012).bind fun t5013 => ((ref01_digit k (bt a0 a1)).bind fun t5014 => (jn (κ := Int → Int → Option (Token × Int × Int)) (fun (x9 : Int) (x10 : Int) => (bif (decide (t5013 > x10)) then (some ((Token.mk 0 ([] : Str) 0), 0, 3)) else (if inR (a1 + t5013) then (if (0 : Int) ≤ a1 ∧ (a1 : Int) ≤ (a1 + t5013) ∧ ((a1 + t5013) : Int) ≤ (a0.length : Int) then (some ((Token.mk x9 ((a0.take ((a1 + t5013) : Int).toNat).drop (a1 : Int).toNat) 0), t5013, 0)) else none) else none))) (fun j5017 => (bif t5014 then (j5017 2 9) else (j5017 1 20))))))) else (bif ((bt a0 a1) == 34) then ((ref01_quoted k a0 a1).bind fun t5023 => (bif (t5023 == 0) then (some ((Token.mk 0 ([] : Str) 0), 0, 2)) else (if inR (t5023 - 2) then (bif (decide ((t5023 - 2) > 60)) then (some ((Token.mk 0 ([] : Str) 0), 0, 3)) else (if inR (a1 + 1) then (if inR (a1 + t5023) then (if inR ((a1 + t5023) - 1) then (if (0 : Int) ≤ (a1 + 1) ∧ ((a1 + 1) : Int) ≤ ((a1 + t5023) - 1) ∧ (((a1 + t5023) - 1) : Int) ≤ (a0.length : Int) then (some ((Token.mk 3 ((a0.take (((a1 + t5023) - 1) : Int).toNat).drop ((a1 + 1) : Int).toNat) 0), t5023, 0)) else none) else none) else none) else none)) else none))) else ((ref01_signs k).bind fun t5031 => (loop1 k (ref01_one.b0 a0 a1 t5031) 0))))) (fun j5010 => ((ref01_letter k (bt a0 a1)).bind fun t5128 => (bif t5128 then (j5010 true) else ((ref01_digit k (bt a0 a1)).bind fun t5130 => (j5010 t5130)))))) else none)
def ref01_Right (k : Nat) (a0 : Token) : Option Bool :=
  ((ref01_text k a0).bind fun t5131 => (bif (t5131 == ([] : Str)) then (some false) else ((ref01_one k t5131 0).bind fun t5133 => (jn (κ := Bool → Option Bool) (fun (x2 : Bool) => (some x2)) (fun j5138 => (bif (t5133.2.2 == 0) then (bif (t5133.2.1 == (t5131.length : Int)) then (j5138 (t5133.1.fKind == a0.fKind)) else (j5138 false)) else (j5138 false)))))))
def ref01_IsName (k : Nat) (a0 : Str) : Option Bool :=
  ((ref01_Right k (Token.mk 1 a0 0)).bind fun t5141 => (some t5141))
def ref04_in (k : Nat) (a0 : Int) (a1 : Int) (a2 : Int) : Option Bool :=
  (jn (κ := Bool → Option Bool) (fun (x6 : Bool) => (some x6)) (fun j5144 => (bif (decide (a0 ≥ a1)) then (j5144 (decide (a0 ≤ a2))) else (j5144 false))))
def ref04_attrs.main (self : Types → Int → Option (List Attr)) (k : Nat) (a0 : Types) (a1 : Int) : Option (List Attr) :=
  (bif (decide (a1 < 0)) then (some []) else (if (0 : Int) ≤ a1 ∧ a1 < (a0.fNodes.length : Int) then ((self a0 ((rd a0.fNodes a1).fParent)).bind fun t5168 => (if t5168.length ≤ lim then (if (0 : Int) ≤ a1 ∧ a1 < (a0.fNodes.length : Int) then (if t5168.length + ((rd a0.fNodes a1).fAttrs).length ≤ lim then (some (t5168 ++ (rd a0.fNodes a1).fAttrs)) else none) else none) else none)) else none))
def ref04_attrs : Nat → Types → Int → Option (List Attr)
  | 0, _, _ => none
  | k + 1, a0, a1 => ref04_attrs.main (ref04_attrs k) k a0 a1
def ref04_names.b1 (a0 : (List Str)) (x3 : Int) (rec0 : Int → Option Int) (rec1 : Int → Option Int) (x4 : Int) : Option Int :=
  (bif (decide (x4 < x3)) then (if (0 : Int) ≤ x4 ∧ x4 < (a0.length : Int) then (if (0 : Int) ≤ x3 ∧ x3 < (a0.length : Int) then (bif ((rd a0 x4) == (rd a0 x3)) then (some 5) else (if inR (x4 + 1) then (rec1 (x4 + 1)) else none)) else none) else none) else (if inR (x3 + 1) then (rec0 (x3 + 1)) else none))
def ref04_names.b0 (k : Nat) (a0 : (List Str)) (rec0 : Int → Option Int) (x3 : Int) : Option Int :=
  (bif (decide (x3 < (a0.length : Int))) then (if (0 : Int) ≤ x3 ∧ x3 < (a0.length : Int) then ((ref01_IsName k (rd a0 x3)).bind fun t5245 => (bif (!t5245) then (some 2) else (loop1 k (ref04_names.b1 a0 x3 rec0) 0))) else none) else (some 0))
def ref04_names (k : Nat) (a0 : (List Str)) : Option Int :=
  (bif (decide ((a0.length : Int) > 20)) then (some 3) else (loop1 k (ref04_names.b0 k a0) 0))
def ref04_attribute (k : Nat) (a0 : Attr) : Option Int :=
  (bif ((a0.fNames.length : Int) == 0) then (jn (κ := Bool → Option Int) (fun (x19 : Bool) => (bif x19 then (some 6) else (some 0))) (fun j5282 => ((ref04_in k a0.fLow (-1000000) 1000000).bind fun t5284 => (bif (!t5284) then (j5282 true) else ((ref04_in k a0.fHigh a0.fLow 1000000).bind fun t5286 => (j5282 (!t5286))))))) else ((ref04_names k a0.fNames).bind fun t5287 => (bif (t5287 != 0) then (some t5287) else (jn (κ := Bool → Option Int) (fun (x37 : Bool) => (bif x37 then (some 6) else (some 0))) (fun j5292 => (bif (a0.fLow != 0) then (j5292 true) else (if inR ((a0.fNames.length : Int) - 1) then (j5292 (a0.fHigh != ((a0.fNames.length : Int) - 1))) else none)))))))
def ref04_node.b2 (k : Nat) (t5599 : (List Attr)) (x8 : Int) (rec1 : Int → Option Int) (rec2 : Int → Option Int) (x9 : Int) : Option Int :=
  (bif (decide (x9 < x8)) then (if (0 : Int) ≤ x9 ∧ x9 < (t5599.length : Int) then (if (0 : Int) ≤ x8 ∧ x8 < (t5599.length : Int) then (bif ((rd t5599 x9).fName == (rd t5599 x8).fName) then (some 5) else (if inR (x9 + 1) then (rec2 (x9 + 1)) else none)) else none) else none) else (if (0 : Int) ≤ x8 ∧ x8 < (t5599.length : Int) then ((ref04_attribute k (rd t5599 x8)).bind fun t5731 => (bif (t5731 != 0) then (some t5731) else (if inR (x8 + 1) then (rec1 (x8 + 1)) else none))) else none))
def ref04_node.b1 (k : Nat) (t5599 : (List Attr)) (rec1 : Int → Option Int) (x8 : Int) : Option Int :=
  (bif (decide (x8 < (t5599.length : Int))) then (if (0 : Int) ≤ x8 ∧ x8 < (t5599.length : Int) then ((ref01_IsName k ((rd t5599 x8).fName)).bind fun t5693 => (bif (!t5693) then (some 2) else (loop1 k (ref04_node.b2 k t5599 x8 rec1) 0))) else none) else (some 0))
def ref04_node.b0 (k : Nat) (a0 : Types) (a1 : Int) (rec0 : Int → Option Int) (x6 : Int) : Option Int :=
  (bif (decide (x6 < a1)) then (if (0 : Int) ≤ x6 ∧ x6 < (a0.fNodes.length : Int) then (bif ((rd a0.fNodes x6).fName == (rd a0.fNodes a1).fName) then (some 5) else (if inR (x6 + 1) then (rec0 (x6 + 1)) else none)) else none) else (if inR (a1 - 1) then ((ref04_in k ((rd a0.fNodes a1).fParent) (-1) (a1 - 1)).bind fun t5597 => (bif (!t5597) then (some 6) else ((ref04_attrs k a0 a1).bind fun t5599 => (jn (κ := Bool → Option Int) (fun (x51 : Bool) => (bif x51 then (some 3) else (if inR ((t5599.length : Int) - (((rd a0.fNodes a1).fAttrs).length : Int)) then (loop1 k (ref04_node.b1 k t5599) ((t5599.length : Int) - (((rd a0.fNodes a1).fAttrs).length : Int))) else none))) (fun j5602 => (bif (decide ((((rd a0.fNodes a1).fAttrs).length : Int) > 4)) then (j5602 true) else (j5602 (decide ((t5599.length : Int) > 8))))))))) else none))
def ref04_node (k : Nat) (a0 : Types) (a1 : Int) : Option Int :=
  (if (0 : Int) ≤ a1 ∧ a1 < (a0.fNodes.length : Int) then ((ref01_IsName k ((rd a0.fNodes a1).fName)).bind fun t5298 => (bif (!t5298) then (some 2) else (loop1 k (ref04_node.b0 k a0 a1) 0))) else none)
def ref04_bound (k : Nat) (a0 : Int) (a1 : Int) : Option Bool :=
  (jn (κ := Bool → Option Bool) (fun (x4 : Bool) => (some x4)) (fun j5740 => ((ref04_in k a0 0 40).bind fun t5741 => (bif t5741 then (bif (a1 == (-1)) then (j5740 true) else ((ref04_in k a1 a0 40).bind fun t5744 => (j5740 t5744))) else (j5740 false)))))
def ref04_edge.b0 (k : Nat) (a0 : Types) (a1 : Int) (rec0 : Int → Option Int) (x6 : Int) : Option Int :=
  (bif (decide (x6 < a1)) then (if (0 : Int) ≤ x6 ∧ x6 < (a0.fEdges.length : Int) then (bif ((rd a0.fEdges x6).fName == (rd a0.fEdges a1).fName) then (some 5) else (if inR (x6 + 1) then (rec0 (x6 + 1)) else none)) else none) else (if inR ((a0.fNodes.length : Int) - 1) then (jn (κ := Bool → Option Int) (fun (x62 : Bool) => (bif x62 then (some 6) else (some 0))) (fun j5812 => ((ref04_in k ((rd a0.fEdges a1).fFrom) 0 ((a0.fNodes.length : Int) - 1)).bind fun t5814 => (bif (!t5814) then (j5812 true) else ((ref04_in k ((rd a0.fEdges a1).fTo) 0 ((a0.fNodes.length : Int) - 1)).bind fun t5816 => (bif (!t5816) then (j5812 true) else ((ref04_bound k ((rd a0.fEdges a1).fOutLow) ((rd a0.fEdges a1).fOutHigh)).bind fun t5818 => (bif (!t5818) then (j5812 true) else ((ref04_bound k ((rd a0.fEdges a1).fInLow) ((rd a0.fEdges a1).fInHigh)).bind fun t5820 => (j5812 (!t5820))))))))))) else none))
def ref04_edge (k : Nat) (a0 : Types) (a1 : Int) : Option Int :=
  (if (0 : Int) ≤ a1 ∧ a1 < (a0.fEdges.length : Int) then ((ref01_IsName k ((rd a0.fEdges a1).fName)).bind fun t5747 => (bif (!t5747) then (some 2) else (loop1 k (ref04_edge.b0 k a0 a1) 0))) else none)
def ref04_Valid.b1 (k : Nat) (a0 : Types) (rec1 : Int → Option (Str × Int)) (x6 : Int) : Option (Str × Int) :=
  (bif (decide (x6 < (a0.fEdges.length : Int))) then ((ref04_edge k a0 x6).bind fun t5882 => (bif (t5882 != 0) then (if (0 : Int) ≤ x6 ∧ x6 < (a0.fEdges.length : Int) then (some ((rd a0.fEdges x6).fName, t5882)) else none) else (if inR (x6 + 1) then (rec1 (x6 + 1)) else none))) else (some (([] : Str), 0)))
def ref04_Valid.b0 (k : Nat) (a0 : Types) (rec0 : Int → Option (Str × Int)) (x4 : Int) : Option (Str × Int) :=
  (bif (decide (x4 < (a0.fNodes.length : Int))) then ((ref04_node k a0 x4).bind fun t5867 => (bif (t5867 != 0) then (if (0 : Int) ≤ x4 ∧ x4 < (a0.fNodes.length : Int) then (some ((rd a0.fNodes x4).fName, t5867)) else none) else (if inR (x4 + 1) then (rec0 (x4 + 1)) else none))) else (loop1 k (ref04_Valid.b1 k a0) 0))
def ref04_Valid (k : Nat) (a0 : Types) : Option (Str × Int) :=
  (bif ((a0.fNodes.length : Int) == 0) then (some (([] : Str), 7)) else (jn (κ := Bool → Option (Str × Int)) (fun (x21 : Bool) => (bif x21 then (some (([] : Str), 3)) else (loop1 k (ref04_Valid.b0 k a0) 0))) (fun j5824 => (bif (decide ((a0.fNodes.length : Int) > 12)) then (j5824 true) else (j5824 (decide ((a0.fEdges.length : Int) > 20)))))))
def ref05_kind (k : Nat) (a0 : Int) : Option Bool :=
  (jn (κ := Bool → Option Bool) (fun (x2 : Bool) => (some x2)) (fun j5889 => (bif (decide (a0 ≥ 0)) then (j5889 (decide (a0 ≤ 99))) else (j5889 false))))
def ref05_right (k : Nat) (a0 : Edge) (a1 : Int) : Option Bool :=
  (jn (κ := Bool → Option Bool) (fun (x4 : Bool) => (some x4)) (fun j5897 => ((ref05_kind k a0.fType).bind fun t5898 => (bif t5898 then (bif (decide (a0.fFrom ≥ 0)) then (bif (decide (a0.fFrom < a1)) then (bif (decide (a0.fTo ≥ 0)) then (j5897 (decide (a0.fTo < a1))) else (j5897 false)) else (j5897 false)) else (j5897 false)) else (j5897 false)))))
def ref05_Valid.b1 (k : Nat) (a0 : Graph) (rec1 : Int → Option Int) (x4 : Int) : Option Int :=
  (bif (decide (x4 < (a0.fEdges.length : Int))) then (if (0 : Int) ≤ x4 ∧ x4 < (a0.fEdges.length : Int) then ((ref05_right k (rd a0.fEdges x4) (a0.fNodes.length : Int)).bind fun t6000 => (bif (!t6000) then (some 6) else (if inR (x4 + 1) then (rec1 (x4 + 1)) else none))) else none) else (some 0))
def ref05_Valid.b0 (k : Nat) (a0 : Graph) (rec0 : Int → Option Int) (x3 : Int) : Option Int :=
  (bif (decide (x3 < (a0.fNodes.length : Int))) then (if (0 : Int) ≤ x3 ∧ x3 < (a0.fNodes.length : Int) then ((ref05_kind k (rd a0.fNodes x3)).bind fun t5973 => (bif (!t5973) then (some 6) else (if inR (x3 + 1) then (rec0 (x3 + 1)) else none))) else none) else (loop1 k (ref05_Valid.b1 k a0) 0))
def ref05_Valid (k : Nat) (a0 : Graph) : Option Int :=
  (jn (κ := Bool → Option Int) (fun (x14 : Bool) => (bif x14 then (some 3) else (loop1 k (ref05_Valid.b0 k a0) 0))) (fun j5905 => (bif (decide ((a0.fNodes.length : Int) > 40)) then (j5905 true) else (j5905 (decide ((a0.fEdges.length : Int) > 80))))))
def ref17_Typed.b1 (a0 : Types) (a1 : Graph) (rec1 : Int → Option Bool) (x6 : Int) : Option Bool :=
  (bif (decide (x6 < (a1.fEdges.length : Int))) then (jn (κ := Bool → Option Bool) (fun (x56 : Bool) => (bif x56 then (some false) else (if inR (x6 + 1) then (rec1 (x6 + 1)) else none))) (fun j6166 => (if (0 : Int) ≤ x6 ∧ x6 < (a1.fEdges.length : Int) then (bif (decide ((rd a1.fEdges x6).fType < 0)) then (j6166 true) else (if (0 : Int) ≤ x6 ∧ x6 < (a1.fEdges.length : Int) then (j6166 (decide ((rd a1.fEdges x6).fType ≥ (a0.fEdges.length : Int)))) else none)) else none))) else (some true))
def ref17_Typed.b0 (k : Nat) (a0 : Types) (a1 : Graph) (rec0 : Int → Option Bool) (x5 : Int) : Option Bool :=
  (bif (decide (x5 < (a1.fNodes.length : Int))) then (jn (κ := Bool → Option Bool) (fun (x30 : Bool) => (bif x30 then (some false) else (if inR (x5 + 1) then (rec0 (x5 + 1)) else none))) (fun j6124 => (if (0 : Int) ≤ x5 ∧ x5 < (a1.fNodes.length : Int) then (bif (decide ((rd a1.fNodes x5) < 0)) then (j6124 true) else (if (0 : Int) ≤ x5 ∧ x5 < (a1.fNodes.length : Int) then (j6124 (decide ((rd a1.fNodes x5) ≥ (a0.fNodes.length : Int)))) else none)) else none))) else (loop1 k (ref17_Typed.b1 a0 a1) 0))
def ref17_Typed (k : Nat) (a0 : Types) (a1 : Graph) : Option Bool :=
  (loop1 k (ref17_Typed.b0 k a0 a1) 0)
def ref17_given (k : Nat) (a0 : Types) (a1 : Graph) (a2 : Graph) : Option Int :=
  ((ref04_Valid k a0).bind fun t6172 => (bif (t6172.2 != 0) then (some t6172.2) else ((ref05_Valid k a1).bind fun t6174 => (bif (t6174 != 0) then (some t6174) else ((ref05_Valid k a2).bind fun t6176 => (bif (t6176 != 0) then (some t6176) else (jn (κ := Bool → Option Int) (fun (x38 : Bool) => (bif x38 then (some 13) else (some 0))) (fun j6182 => ((ref17_Typed k a0 a1).bind fun t6184 => (bif (!t6184) then (j6182 true) else ((ref17_Typed k a0 a2).bind fun t6186 => (j6182 (!t6186)))))))))))))
def ref17_Light (k : Nat) (a0 : Types) (a1 : Graph) (a2 : Graph) : Option Bool :=
  (jn (κ := Bool → Option Bool) (fun (x6 : Bool) => (some x6)) (fun j6199 => ((ref04_Few k a0).bind fun t6200 => (bif t6200 then ((ref05_Few k a1).bind fun t6202 => (bif t6202 then ((ref05_Few k a2).bind fun t6204 => (bif t6204 then ((ref17_given k a0 a1 a2).bind fun t6206 => (bif (t6206 != 0) then (j6199 true) else (if inR ((a1.fNodes.length : Int) + (a1.fEdges.length : Int)) then (bif (decide (((a1.fNodes.length : Int) + (a1.fEdges.length : Int)) ≤ 6)) then (bif (decide ((a2.fNodes.length : Int) ≤ 8)) then (j6199 (decide ((a2.fEdges.length : Int) ≤ 12))) else (j6199 false)) else (j6199 false)) else none))) else (j6199 false))) else (j6199 false))) else (j6199 false)))))
def search_twice (_k : Nat) (a0 : (List Int)) : Option Bool := if a0.length ≤ 1000 then some (!decide a0.Nodup) else none
def search_Check (k : Nat) (a0 : Types) (a1 : Graph) (a2 : Graph) (a3 : Morphism) (a4 : Bool) : Option Int :=
  ((search_valid k a0 a1 a2).bind fun t6211 => (bif (t6211 != 0) then (some t6211) else ((search_shape k a0 a1 a2 a3).bind fun t6213 => (bif (t6213 != 0) then (some t6213) else (jn (κ := Bool → Option Int) (fun (x38 : Bool) => (bif x38 then (some 5) else (some 0))) (fun j6220 => (bif a4 then ((search_twice k a3.fNodes).bind fun t6223 => (bif t6223 then (j6220 true) else ((search_twice k a3.fEdges).bind fun t6225 => (j6220 t6225)))) else (j6220 false))))))))
def ref04_Below1.main (self : Types → Int → Int → Option Bool) (k : Nat) (a0 : Types) (a1 : Int) (a2 : Int) : Option Bool :=
  (jn (κ := Bool → Option Bool) (fun (x6 : Bool) => (some x6)) (fun j6235 => (bif (a1 == a2) then (j6235 true) else (bif (decide (a1 ≥ 0)) then (if (0 : Int) ≤ a1 ∧ a1 < (a0.fNodes.length : Int) then ((self a0 ((rd a0.fNodes a1).fParent) a2).bind fun t6239 => (j6235 t6239)) else none) else (j6235 false)))))
def ref04_Below1 : Nat → Types → Int → Int → Option Bool
  | 0, _, _, _ => none
  | k + 1, a0, a1, a2 => ref04_Below1.main (ref04_Below1 k) k a0 a1 a2
def ref17_distinct.b1 (a0 : (List Int)) (x3 : Int) (rec0 : Int → Option Bool) (rec1 : Int → Option Bool) (x4 : Int) : Option Bool :=
  (bif (decide (x4 < x3)) then (if (0 : Int) ≤ x3 ∧ x3 < (a0.length : Int) then (if (0 : Int) ≤ x4 ∧ x4 < (a0.length : Int) then (bif ((rd a0 x3) == (rd a0 x4)) then (some false) else (if inR (x4 + 1) then (rec1 (x4 + 1)) else none)) else none) else none) else (if inR (x3 + 1) then (rec0 (x3 + 1)) else none))
def ref17_distinct.b0 (k : Nat) (a0 : (List Int)) (rec0 : Int → Option Bool) (x3 : Int) : Option Bool :=
  (bif (decide (x3 < (a0.length : Int))) then (loop1 k (ref17_distinct.b1 a0 x3 rec0) 0) else (some true))
def ref17_distinct (k : Nat) (a0 : (List Int)) : Option Bool :=
  (loop1 k (ref17_distinct.b0 k a0) 0)
def ref17_match.b1 (k : Nat) (a1 : Graph) (a2 : Graph) (a3 : Morphism) (a4 : Bool) (rec1 : Int → Option Int) (x12 : Int) : Option Int :=
  (bif (decide (x12 < (a3.fEdges.length : Int))) then (jn (κ := Bool → Option Int) (fun (x95 : Bool) => (bif x95 then (some 6) else (jn (κ := Option Int) ((bif ((rd a1.fEdges x12).fType != (rd a2.fEdges (rd a3.fEdges x12)).fType) then (some 13) else (jn (κ := Bool → Option Int) (fun (x134 : Bool) => (bif x134 then (some 11) else (if inR (x12 + 1) then (rec1 (x12 + 1)) else none))) (fun j6888 => (if (0 : Int) ≤ (rd a1.fEdges x12).fFrom ∧ (rd a1.fEdges x12).fFrom < (a3.fNodes.length : Int) then (bif ((rd a3.fNodes ((rd a1.fEdges x12).fFrom)) != (rd a2.fEdges (rd a3.fEdges x12)).fFrom) then (j6888 true) else (if (0 : Int) ≤ (rd a1.fEdges x12).fTo ∧ (rd a1.fEdges x12).fTo < (a3.fNodes.length : Int) then (j6888 ((rd a3.fNodes ((rd a1.fEdges x12).fTo)) != (rd a2.fEdges (rd a3.fEdges x12)).fTo)) else none)) else none))))) (fun j6879 => (if (0 : Int) ≤ x12 ∧ x12 < (a1.fEdges.length : Int) then (if (0 : Int) ≤ x12 ∧ x12 < (a3.fEdges.length : Int) then (if (0 : Int) ≤ (rd a3.fEdges x12) ∧ (rd a3.fEdges x12) < (a2.fEdges.length : Int) then j6879 else none) else none) else none))))) (fun j6866 => (if (0 : Int) ≤ x12 ∧ x12 < (a3.fEdges.length : Int) then (bif (decide ((rd a3.fEdges x12) < 0)) then (j6866 true) else (if (0 : Int) ≤ x12 ∧ x12 < (a3.fEdges.length : Int) then (j6866 (decide ((rd a3.fEdges x12) ≥ (a2.fEdges.length : Int)))) else none)) else none))) else (jn (κ := Bool → Option Int) (fun (x147 : Bool) => (bif x147 then (some 5) else (some 0))) (fun j6907 => (bif a4 then ((ref17_distinct k a3.fNodes).bind fun t6910 => (bif (!t6910) then (j6907 true) else ((ref17_distinct k a3.fEdges).bind fun t6912 => (j6907 (!t6912))))) else (j6907 false)))))
def ref17_match.b0 (k : Nat) (a0 : Types) (a1 : Graph) (a2 : Graph) (a3 : Morphism) (a4 : Bool) (rec0 : Int → Option Int) (x11 : Int) : Option Int :=
  (bif (decide (x11 < (a3.fNodes.length : Int))) then (jn (κ := Bool → Option Int) (fun (x54 : Bool) => (bif x54 then (some 6) else (if (0 : Int) ≤ x11 ∧ x11 < (a3.fNodes.length : Int) then (if (0 : Int) ≤ (rd a3.fNodes x11) ∧ (rd a3.fNodes x11) < (a2.fNodes.length : Int) then (if (0 : Int) ≤ x11 ∧ x11 < (a1.fNodes.length : Int) then ((ref04_Below1 k a0 (rd a2.fNodes (rd a3.fNodes x11)) (rd a1.fNodes x11)).bind fun t6742 => (bif (!t6742) then (some 13) else (if inR (x11 + 1) then (rec0 (x11 + 1)) else none))) else none) else none) else none))) (fun j6729 => (if (0 : Int) ≤ x11 ∧ x11 < (a3.fNodes.length : Int) then (bif (decide ((rd a3.fNodes x11) < 0)) then (j6729 true) else (if (0 : Int) ≤ x11 ∧ x11 < (a3.fNodes.length : Int) then (j6729 (decide ((rd a3.fNodes x11) ≥ (a2.fNodes.length : Int)))) else none)) else none))) else (loop1 k (ref17_match.b1 k a1 a2 a3 a4) 0))
def ref17_match (k : Nat) (a0 : Types) (a1 : Graph) (a2 : Graph) (a3 : Morphism) (a4 : Bool) : Option Int :=
  (jn (κ := Bool → Option Int) (fun (x30 : Bool) => (bif x30 then (some 20) else (loop1 k (ref17_match.b0 k a0 a1 a2 a3 a4) 0))) (fun j6335 => (bif ((a3.fNodes.length : Int) != (a1.fNodes.length : Int)) then (j6335 true) else (j6335 ((a3.fEdges.length : Int) != (a1.fEdges.length : Int))))))
def ref17_Check (k : Nat) (a0 : Types) (a1 : Graph) (a2 : Graph) (a3 : Morphism) (a4 : Bool) : Option Int :=
  ((ref17_given k a0 a1 a2).bind fun t6914 => (bif (t6914 != 0) then (some t6914) else ((ref17_match k a0 a1 a2 a3 a4).bind fun t6916 => (some t6916))))
def law17_SearchCheck (k : Nat) (a0 : Case) (a1 : Morphism) (a2 : Bool) : Option Bool :=
  (jn (κ := Bool → Option Bool) (fun (x30 : Bool) => (bif x30 then ((law17_awake k).bind fun t6925 => (some t6925)) else ((search_Check k a0.fT a0.fP a0.fG a1 a2).bind fun t6930 => ((ref17_Check k a0.fT a0.fP a0.fG a1 a2).bind fun t6931 => (some (t6930 == t6931)))))) (fun j6923 => ((law17_awake k).bind fun t6932 => (bif (!t6932) then (j6923 true) else ((ref17_Light k a0.fT a0.fP a0.fG).bind fun t6934 => (bif (!t6934) then (j6923 true) else (bif (decide ((a1.fNodes.length : Int) > 100)) then (j6923 true) else (j6923 (decide ((a1.fEdges.length : Int) > 100))))))))))
def ref17_open.b1 (x3_0 : (List Int)) (rec1 : (List Int) → Int → Option Morphism) (x3_1 : (List Int)) (x5 : Int) : Option Morphism :=
  (bif (decide (x5 < (x3_1.length : Int))) then (if (0 : Int) ≤ x5 ∧ x5 < (x3_1.length : Int) then (if inR (x5 + 1) then (rec1 (x3_1.set (x5 : Int).toNat (-1)) (x5 + 1)) else none) else none) else (some (Morphism.mk x3_0 x3_1)))
def ref17_open.b0 (k : Nat) (a0 : Graph) (rec0 : (List Int) → Int → Option Morphism) (x3_0 : (List Int)) (x4 : Int) : Option Morphism :=
  (bif (decide (x4 < (x3_0.length : Int))) then (if (0 : Int) ≤ x4 ∧ x4 < (x3_0.length : Int) then (if inR (x4 + 1) then (rec0 (x3_0.set (x4 : Int).toNat (-1)) (x4 + 1)) else none) else none) else (loop2 k (ref17_open.b1 x3_0) (List.replicate ((a0.fEdges.length : Int) : Int).toNat (0 : Int)) 0))
def ref17_open (k : Nat) (a0 : Graph) : Option Morphism :=
  (jn (κ := Option Morphism) ((loop2 k (ref17_open.b0 k a0) (List.replicate ((a0.fNodes.length : Int) : Int).toNat (0 : Int)) 0)) (fun j6953 => (if (0 : Int) ≤ (a0.fNodes.length : Int) ∧ (a0.fNodes.length : Int) ≤ (lim : Int) then (if (0 : Int) ≤ (a0.fEdges.length : Int) ∧ (a0.fEdges.length : Int) ≤ (lim : Int) then j6953 else none) else none)))
def ref17_search_fits.b1 (a0 : Search) (a1 : (List Int)) (x5 : Int) (rec0 : Int → Option Bool) (rec1 : Bool → Int → Option Bool) (x7 : Bool) (x8 : Int) : Option Bool :=
  (bif (decide (x8 < (a0.fg.fEdges.length : Int))) then (if (0 : Int) ≤ x8 ∧ x8 < (a0.fg.fEdges.length : Int) then (jn (κ := Bool → Option Bool) (fun (x7' : Bool) => (if inR (x8 + 1) then (rec1 x7' (x8 + 1)) else none)) (fun j7411 => (bif x7 then (j7411 true) else (bif ((rd a0.fp.fEdges x5).fType == (rd a0.fg.fEdges x8).fType) then (if (0 : Int) ≤ (rd a0.fp.fEdges x5).fFrom ∧ (rd a0.fp.fEdges x5).fFrom < (a1.length : Int) then (bif ((rd a0.fg.fEdges x8).fFrom == (rd a1 ((rd a0.fp.fEdges x5).fFrom))) then (if (0 : Int) ≤ (rd a0.fp.fEdges x5).fTo ∧ (rd a0.fp.fEdges x5).fTo < (a1.length : Int) then (j7411 ((rd a0.fg.fEdges x8).fTo == (rd a1 ((rd a0.fp.fEdges x5).fTo)))) else none) else (j7411 false)) else none) else (j7411 false))))) else none) else (bif (!x7) then (some false) else (if inR (x5 + 1) then (rec0 (x5 + 1)) else none)))
def ref17_search_fits.b0 (k : Nat) (a0 : Search) (a1 : (List Int)) (rec0 : Int → Option Bool) (x5 : Int) : Option Bool :=
  (bif (decide (x5 < (a0.fp.fEdges.length : Int))) then (if (0 : Int) ≤ x5 ∧ x5 < (a0.fp.fEdges.length : Int) then (jn (κ := Bool → Option Bool) (fun (x39 : Bool) => (bif x39 then (if inR (x5 + 1) then (rec0 (x5 + 1)) else none) else (loop2 k (ref17_search_fits.b1 a0 a1 x5 rec0) false 0))) (fun j7353 => (bif (decide ((rd a0.fp.fEdges x5).fFrom ≥ (a1.length : Int))) then (j7353 true) else (j7353 (decide ((rd a0.fp.fEdges x5).fTo ≥ (a1.length : Int))))))) else none) else (some true))
def ref17_search_fits (k : Nat) (a0 : Search) (a1 : (List Int)) : Option Bool :=
  (loop1 k (ref17_search_fits.b0 k a0 a1) 0)
def ref17_search_used.b0 (a0 : Search) (a1 : (List Int)) (a2 : Int) (rec0 : Int → Option Bool) (x7 : Int) : Option Bool :=
  (jn (κ := Bool → Option Bool) (fun (x17 : Bool) => (bif x17 then (if (0 : Int) ≤ x7 ∧ x7 < (a1.length : Int) then (bif ((rd a1 x7) == a2) then (some true) else (if inR (x7 + 1) then (rec0 (x7 + 1)) else none)) else none) else (some false))) (fun j7439 => (bif (decide (x7 < (a1.length : Int))) then (j7439 a0.finjective) else (j7439 false))))
def ref17_search_used (k : Nat) (a0 : Search) (a1 : (List Int)) (a2 : Int) : Option Bool :=
  (loop1 k (ref17_search_used.b0 a0 a1 a2) 0)
def ref17_search_edges.b0 (k : Nat) (self : Search → (List Int) → (List Int) → Option (List Morphism)) (a0 : Search) (a1 : (List Int)) (a2 : (List Int)) (rec0 : (List Morphism) → Int → Option (List Morphism)) (y10 : (List Morphism)) (x8 : Int) : Option (List Morphism) :=
  (bif (decide (x8 < (a0.fg.fEdges.length : Int))) then (if (0 : Int) ≤ x8 ∧ x8 < (a0.fg.fEdges.length : Int) then (jn (κ := Bool → Option (List Morphism)) (fun (x125 : Bool) => (bif x125 then (if inR (x8 + 1) then (rec0 y10 (x8 + 1)) else none) else (if a2.length ≤ lim then (if a2.length + [x8].length ≤ lim then ((self (Search.mk a0.ft a0.fp a0.fg a0.fpartial a0.finjective a0.fmost y10) a1 (a2 ++ [x8])).bind fun t7865 => (if inR (x8 + 1) then (rec0 t7865 (x8 + 1)) else none)) else none) else none))) (fun j7858 => (if (0 : Int) ≤ (a2.length : Int) ∧ (a2.length : Int) < (a0.fpartial.fEdges.length : Int) then (bif (decide ((rd a0.fpartial.fEdges (a2.length : Int)) ≥ 0)) then (if (0 : Int) ≤ (a2.length : Int) ∧ (a2.length : Int) < (a0.fpartial.fEdges.length : Int) then (bif ((rd a0.fpartial.fEdges (a2.length : Int)) != x8) then (j7858 true) else ((ref17_search_used k (Search.mk a0.ft a0.fp a0.fg a0.fpartial a0.finjective a0.fmost y10) a2 x8).bind fun t7872 => (bif t7872 then (j7858 true) else (bif ((rd a0.fp.fEdges (a2.length : Int)).fType != (rd a0.fg.fEdges x8).fType) then (j7858 true) else (if (0 : Int) ≤ (rd a0.fp.fEdges (a2.length : Int)).fFrom ∧ (rd a0.fp.fEdges (a2.length : Int)).fFrom < (a1.length : Int) then (bif ((rd a0.fg.fEdges x8).fFrom != (rd a1 ((rd a0.fp.fEdges (a2.length : Int)).fFrom))) then (j7858 true) else (if (0 : Int) ≤ (rd a0.fp.fEdges (a2.length : Int)).fTo ∧ (rd a0.fp.fEdges (a2.length : Int)).fTo < (a1.length : Int) then (j7858 ((rd a0.fg.fEdges x8).fTo != (rd a1 ((rd a0.fp.fEdges (a2.length : Int)).fTo)))) else none)) else none))))) else none) else ((ref17_search_used k (Search.mk a0.ft a0.fp a0.fg a0.fpartial a0.finjective a0.fmost y10) a2 x8).bind fun t7878 => (bif t7878 then (j7858 true) else (bif ((rd a0.fp.fEdges (a2.length : Int)).fType != (rd a0.fg.fEdges x8).fType) then (j7858 true) else (if (0 : Int) ≤ (rd a0.fp.fEdges (a2.length : Int)).fFrom ∧ (rd a0.fp.fEdges (a2.length : Int)).fFrom < (a1.length : Int) then (bif ((rd a0.fg.fEdges x8).fFrom != (rd a1 ((rd a0.fp.fEdges (a2.length : Int)).fFrom))) then (j7858 true) else (if (0 : Int) ≤ (rd a0.fp.fEdges (a2.length : Int)).fTo ∧ (rd a0.fp.fEdges (a2.length : Int)).fTo < (a1.length : Int) then (j7858 ((rd a0.fg.fEdges x8).fTo != (rd a1 ((rd a0.fp.fEdges (a2.length : Int)).fTo)))) else none)) else none))))) else none))) else none) else (some y10))
def ref17_search_edges.main (self : Search → (List Int) → (List Int) → Option (List Morphism)) (k : Nat) (a0 : Search) (a1 : (List Int)) (a2 : (List Int)) : Option (List Morphism) :=
  (bif (decide ((a0.ffound.length : Int) > a0.fmost)) then (some a0.ffound) else (bif ((a2.length : Int) == (a0.fp.fEdges.length : Int)) then (if a1.length ≤ lim then (if a2.length ≤ lim then (if a0.ffound.length + [(Morphism.mk a1 a2)].length ≤ lim then (some (a0.ffound ++ [(Morphism.mk a1 a2)])) else none) else none) else none) else (if (0 : Int) ≤ (a2.length : Int) ∧ (a2.length : Int) < (a0.fp.fEdges.length : Int) then (loop2 k (ref17_search_edges.b0 k self a0 a1 a2) a0.ffound 0) else none)))
def ref17_search_edges : Nat → Search → (List Int) → (List Int) → Option (List Morphism)
  | 0, _, _, _ => none
  | k + 1, a0, a1, a2 => ref17_search_edges.main (ref17_search_edges k) k a0 a1 a2
def ref17_search_nodes.b0 (k : Nat) (self : Search → (List Int) → Option (List Morphism)) (a0 : Search) (a1 : (List Int)) (rec0 : (List Morphism) → Int → Option (List Morphism)) (y10 : (List Morphism)) (x5 : Int) : Option (List Morphism) :=
  (bif (decide (x5 < (a0.fg.fNodes.length : Int))) then (jn (κ := Bool → Option (List Morphism)) (fun (x95 : Bool) => (bif x95 then (if inR (x5 + 1) then (rec0 y10 (x5 + 1)) else none) else (if a1.length ≤ lim then (if a1.length + [x5].length ≤ lim then ((self (Search.mk a0.ft a0.fp a0.fg a0.fpartial a0.finjective a0.fmost y10) (a1 ++ [x5])).bind fun t8240 => (if inR (x5 + 1) then (rec0 t8240 (x5 + 1)) else none)) else none) else none))) (fun j8233 => (if (0 : Int) ≤ (a1.length : Int) ∧ (a1.length : Int) < (a0.fpartial.fNodes.length : Int) then (bif (decide ((rd a0.fpartial.fNodes (a1.length : Int)) ≥ 0)) then (if (0 : Int) ≤ (a1.length : Int) ∧ (a1.length : Int) < (a0.fpartial.fNodes.length : Int) then (bif ((rd a0.fpartial.fNodes (a1.length : Int)) != x5) then (j8233 true) else ((ref17_search_used k (Search.mk a0.ft a0.fp a0.fg a0.fpartial a0.finjective a0.fmost y10) a1 x5).bind fun t8247 => (bif t8247 then (j8233 true) else (if (0 : Int) ≤ x5 ∧ x5 < (a0.fg.fNodes.length : Int) then (if (0 : Int) ≤ (a1.length : Int) ∧ (a1.length : Int) < (a0.fp.fNodes.length : Int) then ((ref04_Below1 k a0.ft (rd a0.fg.fNodes x5) (rd a0.fp.fNodes (a1.length : Int))).bind fun t8251 => (j8233 (!t8251))) else none) else none)))) else none) else ((ref17_search_used k (Search.mk a0.ft a0.fp a0.fg a0.fpartial a0.finjective a0.fmost y10) a1 x5).bind fun t8252 => (bif t8252 then (j8233 true) else (if (0 : Int) ≤ x5 ∧ x5 < (a0.fg.fNodes.length : Int) then (if (0 : Int) ≤ (a1.length : Int) ∧ (a1.length : Int) < (a0.fp.fNodes.length : Int) then ((ref04_Below1 k a0.ft (rd a0.fg.fNodes x5) (rd a0.fp.fNodes (a1.length : Int))).bind fun t8256 => (j8233 (!t8256))) else none) else none)))) else none))) else (some y10))
def ref17_search_nodes.main (self : Search → (List Int) → Option (List Morphism)) (k : Nat) (a0 : Search) (a1 : (List Int)) : Option (List Morphism) :=
  (jn (κ := Bool → Option (List Morphism)) (fun (x21 : Bool) => (bif x21 then (some a0.ffound) else (bif ((a1.length : Int) == (a0.fp.fNodes.length : Int)) then ((ref17_search_edges k (Search.mk a0.ft a0.fp a0.fg a0.fpartial a0.finjective a0.fmost a0.ffound) a1 []).bind fun t7936 => (some t7936)) else (loop2 k (ref17_search_nodes.b0 k self a0 a1) a0.ffound 0)))) (fun j7933 => (bif (decide ((a0.ffound.length : Int) > a0.fmost)) then (j7933 true) else ((ref17_search_fits k a0 a1).bind fun t8258 => (j7933 (!t8258))))))
def ref17_search_nodes : Nat → Search → (List Int) → Option (List Morphism)
  | 0, _, _ => none
  | k + 1, a0, a1 => ref17_search_nodes.main (ref17_search_nodes k) k a0 a1
def ref17_run (k : Nat) (a0 : Types) (a1 : Graph) (a2 : Graph) (a3 : Morphism) (a4 : Bool) (a5 : Int) : Option (List Morphism) :=
  ((ref17_search_nodes k (Search.mk a0 a1 a2 a3 a4 a5 []) []).bind fun t8261 => (some t8261))
def ref17_All (k : Nat) (a0 : Types) (a1 : Graph) (a2 : Graph) (a3 : Bool) : Option ((List Morphism) × Int) :=
  ((ref17_given k a0 a1 a2).bind fun t8263 => (bif (t8263 != 0) then (some ([], t8263)) else ((ref17_open k a1).bind fun t8269 => ((ref17_run k a0 a1 a2 t8269 a3 5000).bind fun t8270 => (bif (decide ((t8270.length : Int) > 5000)) then (some ([], 3)) else (some (t8270, 0)))))))
def cmp_isNaN_int (k : Nat) (a0 : Int) : Option Bool :=
  (some (a0 != a0))
def cmp_Compare_int (k : Nat) (a0 : Int) (a1 : Int) : Option Int :=
  ((cmp_isNaN_int k a0).bind fun t8272 => ((cmp_isNaN_int k a1).bind fun t8273 => (bif t8272 then (bif t8273 then (some 0) else (some (-1))) else (bif t8273 then (some 1) else (bif (decide (a0 < a1)) then (some (-1)) else (bif (decide (a0 > a1)) then (some 1) else (some 0)))))))
def slices_Compare_int.b0 (k : Nat) (a0 : (List Int)) (a1 : (List Int)) (rec0 : Int → Option Int) (x11 : Int) : Option Int :=
  (bif (decide (x11 < (a0.length : Int))) then (if (0 : Int) ≤ x11 ∧ x11 < (a0.length : Int) then (bif (decide (x11 ≥ (a1.length : Int))) then (some 1) else (if (0 : Int) ≤ x11 ∧ x11 < (a1.length : Int) then ((cmp_Compare_int k (rd a0 x11) (rd a1 x11)).bind fun t8299 => (bif (t8299 != 0) then (some t8299) else (if inR (x11 + 1) then (rec0 (x11 + 1)) else none))) else none)) else none) else (bif (decide ((a0.length : Int) < (a1.length : Int))) then (some (-1)) else (some 0)))
def slices_Compare_int (k : Nat) (a0 : (List Int)) (a1 : (List Int)) : Option Int :=
  (loop1 k (slices_Compare_int.b0 k a0 a1) 0)
def law17_SearchAll.b0 (k : Nat) (a0 : Case) (a1 : Bool) (t8310 : ((List Morphism) × Int)) (rec0 : Int → Option Bool) (x83 : Int) : Option Bool :=
  (bif (decide (x83 < (t8310.1.length : Int))) then (if (0 : Int) ≤ x83 ∧ x83 < (t8310.1.length : Int) then ((search_Check k a0.fT a0.fP a0.fG (rd t8310.1 x83) a1).bind fun t8393 => (bif (t8393 != 0) then (some false) else (bif (decide (x83 > 0)) then (if inR (x83 - 1) then (if (0 : Int) ≤ (x83 - 1) ∧ (x83 - 1) < (t8310.1.length : Int) then ((slices_Compare_int k ((rd t8310.1 (x83 - 1)).fNodes) ((rd t8310.1 x83).fNodes)).bind fun t8413 => (jn (κ := Bool → Option Bool) (fun (x123 : Bool) => (bif x123 then (some false) else (if inR (x83 + 1) then (rec0 (x83 + 1)) else none))) (fun j8418 => (bif (decide (t8413 > 0)) then (j8418 true) else (bif (t8413 == 0) then ((slices_Compare_int k ((rd t8310.1 (x83 - 1)).fEdges) ((rd t8310.1 x83).fEdges)).bind fun t8423 => (j8418 (decide (t8423 ≥ 0)))) else (j8418 false)))))) else none) else none) else (if inR (x83 + 1) then (rec0 (x83 + 1)) else none)))) else none) else (some true))
def law17_SearchAll (k : Nat) (a0 : Case) (a1 : Bool) : Option Bool :=
  (jn (κ := Bool → Option Bool) (fun (x26 : Bool) => (bif x26 then ((law17_awake k).bind fun t8309 => (some t8309)) else ((search_All k a0.fT a0.fP a0.fG a1).bind fun t8310 => ((ref17_All k a0.fT a0.fP a0.fG a1).bind fun t8311 => ((search_Count k a0.fT a0.fP a0.fG a1).bind fun t8312 => (jn (κ := Bool → Option Bool) (fun (x80 : Bool) => (bif x80 then (some false) else (loop1 k (law17_SearchAll.b0 k a0 a1 t8310) 0))) (fun j8318 => (bif (t8310.2 != t8311.2) then (j8318 true) else (bif (t8312.2 != t8310.2) then (j8318 true) else (bif (t8312.1 != (t8311.1.length : Int)) then (j8318 true) else ((ref17_SameAll k t8310.1 t8311.1).bind fun t8428 => (j8318 (!t8428))))))))))))) (fun j8307 => ((law17_awake k).bind fun t8429 => (bif (!t8429) then (j8307 true) else ((ref17_Light k a0.fT a0.fP a0.fG).bind fun t8431 => (j8307 (!t8431)))))))
end Go.Proofs.YtelpgjfojhcjcaaGreat
