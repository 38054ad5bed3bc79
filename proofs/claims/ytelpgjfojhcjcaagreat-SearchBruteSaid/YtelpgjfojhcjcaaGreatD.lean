/- The pure functions: what the Go functions compute. 'none': not told, or a panic. (Printed by gen.py.) -/
import Derived.Test.YtelpgjfojhcjcaaGreatAC
namespace Go.Proofs.YtelpgjfojhcjcaaGreat
open Go Go.Abs
structure Attr where
  fName : Str
  fLow : Int
  fHigh : Int
  fNames : (List Str)
  deriving Inhabited, DecidableEq
def kAttr : Kd Attr := ⟨4, fun x => [EqA (strV x.fName), EqA (.int .i64 x.fLow), EqA (.int .i64 x.fHigh), SlcA kStr x.fNames], fun _ => rfl, fun _ => rfl⟩
structure NodeType where
  fName : Str
  fParent : Int
  fAbstract : Bool
  fAttrs : (List Attr)
  deriving Inhabited, DecidableEq
def kNodeType : Kd NodeType := ⟨4, fun x => [EqA (strV x.fName), EqA (.int .i64 x.fParent), EqA (.bool x.fAbstract), SlcA kAttr x.fAttrs], fun _ => rfl, fun _ => rfl⟩
structure EdgeType where
  fName : Str
  fFrom : Int
  fTo : Int
  fOutLow : Int
  fOutHigh : Int
  fInLow : Int
  fInHigh : Int
  deriving Inhabited, DecidableEq
def kEdgeType : Kd EdgeType := ⟨7, fun x => [EqA (strV x.fName), EqA (.int .i64 x.fFrom), EqA (.int .i64 x.fTo), EqA (.int .i64 x.fOutLow), EqA (.int .i64 x.fOutHigh), EqA (.int .i64 x.fInLow), EqA (.int .i64 x.fInHigh)], fun _ => rfl, fun _ => rfl⟩
structure Types where
  fNodes : (List NodeType)
  fEdges : (List EdgeType)
  deriving Inhabited, DecidableEq
def kTypes : Kd Types := ⟨2, fun x => [SlcA kNodeType x.fNodes, SlcA kEdgeType x.fEdges], fun _ => rfl, fun _ => rfl⟩
structure A2Int where
  e0 : Int
  e1 : Int
  deriving Inhabited, DecidableEq
def kA2Int : Kd A2Int := ⟨2, fun x => [EqA (.int .u8 x.e0), EqA (.int .u8 x.e1)], fun _ => rfl, fun _ => rfl⟩
structure Edge where
  fType : Int
  fFrom : Int
  fTo : Int
  deriving Inhabited, DecidableEq
def kEdge : Kd Edge := ⟨3, fun x => [EqA (.int .i64 x.fType), EqA (.int .i64 x.fFrom), EqA (.int .i64 x.fTo)], fun _ => rfl, fun _ => rfl⟩
structure Graph where
  fNodes : (List Int)
  fEdges : (List Edge)
  deriving Inhabited, DecidableEq
def kGraph : Kd Graph := ⟨2, fun x => [SlcA kInt x.fNodes, SlcA kEdge x.fEdges], fun _ => rfl, fun _ => rfl⟩
structure A3Int where
  e0 : Int
  e1 : Int
  e2 : Int
  deriving Inhabited, DecidableEq
def kA3Int : Kd A3Int := ⟨3, fun x => [EqA (.int .u8 x.e0), EqA (.int .u8 x.e1), EqA (.int .u8 x.e2)], fun _ => rfl, fun _ => rfl⟩
structure Draft where
  fNodes : (List Int)
  fEdges : (List A3Int)
  deriving Inhabited, DecidableEq
def kDraft : Kd Draft := ⟨2, fun x => [SlcA kU8 x.fNodes, SlcA kA3Int x.fEdges], fun _ => rfl, fun _ => rfl⟩
structure Drafts where
  fNodes : (List A2Int)
  fEdges : (List A2Int)
  fP : Draft
  fG : Draft
  deriving Inhabited, DecidableEq
def kDrafts : Kd Drafts := ⟨6, fun x => [SlcA kA2Int x.fNodes, SlcA kA2Int x.fEdges, SlcA kU8 x.fP.fNodes, SlcA kA3Int x.fP.fEdges, SlcA kU8 x.fG.fNodes, SlcA kA3Int x.fG.fEdges], fun _ => rfl, fun _ => rfl⟩
structure Token where
  fKind : Int
  fText : Str
  fLine : Int
  deriving Inhabited, DecidableEq
def kToken : Kd Token := ⟨3, fun x => [EqA (.int .i64 x.fKind), EqA (strV x.fText), EqA (.int .i64 x.fLine)], fun _ => rfl, fun _ => rfl⟩
structure OMorphism where
  fNodes : (Option (List Int))
  fEdges : (Option (List Int))
  deriving Inhabited, DecidableEq
def kOMorphism : Kd OMorphism := ⟨2, fun x => [OptA kInt x.fNodes, OptA kInt x.fEdges], fun _ => rfl, fun _ => rfl⟩
structure Morphism where
  fNodes : (List Int)
  fEdges : (List Int)
  deriving Inhabited, DecidableEq
def kMorphism : Kd Morphism := ⟨2, fun x => [SlcA kInt x.fNodes, SlcA kInt x.fEdges], fun _ => rfl, fun _ => rfl⟩
structure Finder where
  fp : Graph
  fg : Graph
  fis : (List (List Bool))
  fpartial : OMorphism
  finjective : Bool
  fmost : Int
  fnodes : (List Int)
  fedges : (List Int)
  fout : (List Morphism)
  deriving Inhabited, DecidableEq
def kFinder : Kd Finder := ⟨12, fun x => [SlcA kInt x.fp.fNodes, SlcA kEdge x.fp.fEdges, SlcA kInt x.fg.fNodes, SlcA kEdge x.fg.fEdges, SlcA (kSl kBool) x.fis, OptA kInt x.fpartial.fNodes, OptA kInt x.fpartial.fEdges, EqA (.bool x.finjective), EqA (.int .i64 x.fmost), SlcA kInt x.fnodes, SlcA kInt x.fedges, SlcA kMorphism x.fout], fun _ => rfl, fun _ => rfl⟩

def ref04_Made.b1 (a1 : (List A2Int)) (y0 : (List NodeType)) (rec1 : (List EdgeType) → Int → Option Types) (y1 : (List EdgeType)) (x10 : Int) : Option Types :=
  (jn (κ := Bool → Option Types) (fun (x91 : Bool) => (bif x91 then (if inR (x10 + 1) then (if (0 : Int) ≤ x10 ∧ (x10 : Int) ≤ (x10 + 1) ∧ ((x10 + 1) : Int) ≤ (([101, 102, 103, 104, 105] : Str).length : Int) then (if (0 : Int) ≤ x10 ∧ x10 < (a1.length : Int) then (if ((y0.length : Int) : Int) ≠ 0 then (if (0 : Int) ≤ x10 ∧ x10 < (a1.length : Int) then (if ((y0.length : Int) : Int) ≠ 0 then (if y1.length + ([(EdgeType.mk ((([101, 102, 103, 104, 105] : Str).take ((x10 + 1) : Int).toNat).drop (x10 : Int).toNat) ((IntKind.i64.wrap ((rd a1 x10).e0)).tmod (y0.length : Int)) ((IntKind.i64.wrap ((rd a1 x10).e1)).tmod (y0.length : Int)) 0 (-1) 0 (-1))]).length ≤ lim then (if inR (x10 + 1) then (rec1 (y1 ++ [(EdgeType.mk ((([101, 102, 103, 104, 105] : Str).take ((x10 + 1) : Int).toNat).drop (x10 : Int).toNat) ((IntKind.i64.wrap ((rd a1 x10).e0)).tmod (y0.length : Int)) ((IntKind.i64.wrap ((rd a1 x10).e1)).tmod (y0.length : Int)) 0 (-1) 0 (-1))]) (x10 + 1)) else none) else none) else none) else none) else none) else none) else none) else none) else (some (Types.mk y0 y1)))) (fun j424 => (bif (decide (x10 < (a1.length : Int))) then (j424 (decide (x10 < 5))) else (j424 false))))
def ref04_Made.b0 (k : Nat) (a0 : (List A2Int)) (a1 : (List A2Int)) (rec0 : (List NodeType) → Int → Option Types) (y0 : (List NodeType)) (x6 : Int) : Option Types :=
  (jn (κ := Bool → Option Types) (fun (x23 : Bool) => (bif x23 then (jn (κ := Int → Int → Option Types) (fun (y0' : Int) (y1 : Int) => (if inR (x6 + 1) then (if (0 : Int) ≤ x6 ∧ (x6 : Int) ≤ (x6 + 1) ∧ ((x6 + 1) : Int) ≤ (([65, 66, 67, 68, 69, 70] : Str).length : Int) then (if inR (x6 + 1) then (if ((x6 + 1) : Int) ≠ 0 then (if inR (((IntKind.i64.wrap y0').tmod (x6 + 1)) - 1) then (if inR (x6 + 1) then (if (0 : Int) ≤ x6 ∧ (x6 : Int) ≤ (x6 + 1) ∧ ((x6 + 1) : Int) ≤ (([117, 118, 119, 120, 121, 122] : Str).length : Int) then (bif ((y1.tmod 4) == 1) then (if inR (3 + ((IntKind.i64.wrap (IntKind.u8.wrap (y1.tdiv 4))).tmod 9)) then (if y0.length + ([(NodeType.mk ((([65, 66, 67, 68, 69, 70] : Str).take ((x6 + 1) : Int).toNat).drop (x6 : Int).toNat) (((IntKind.i64.wrap y0').tmod (x6 + 1)) - 1) (((IntKind.u8.wrap (y0'.tdiv 16)).tmod 4) == 3) ([(Attr.mk ((([117, 118, 119, 120, 121, 122] : Str).take ((x6 + 1) : Int).toNat).drop (x6 : Int).toNat) (-3) (3 + ((IntKind.i64.wrap (IntKind.u8.wrap (y1.tdiv 4))).tmod 9)) [])]))]).length ≤ lim then (if inR (x6 + 1) then (rec0 (y0 ++ [(NodeType.mk ((([65, 66, 67, 68, 69, 70] : Str).take ((x6 + 1) : Int).toNat).drop (x6 : Int).toNat) (((IntKind.i64.wrap y0').tmod (x6 + 1)) - 1) (((IntKind.u8.wrap (y0'.tdiv 16)).tmod 4) == 3) ([(Attr.mk ((([117, 118, 119, 120, 121, 122] : Str).take ((x6 + 1) : Int).toNat).drop (x6 : Int).toNat) (-3) (3 + ((IntKind.i64.wrap (IntKind.u8.wrap (y1.tdiv 4))).tmod 9)) [])]))]) (x6 + 1)) else none) else none) else none) else (bif ((y1.tmod 4) == 2) then (if y0.length + ([(NodeType.mk ((([65, 66, 67, 68, 69, 70] : Str).take ((x6 + 1) : Int).toNat).drop (x6 : Int).toNat) (((IntKind.i64.wrap y0').tmod (x6 + 1)) - 1) (((IntKind.u8.wrap (y0'.tdiv 16)).tmod 4) == 3) ([(Attr.mk ((([117, 118, 119, 120, 121, 122] : Str).take ((x6 + 1) : Int).toNat).drop (x6 : Int).toNat) 0 1 ([([111, 102, 102] : Str), ([111, 110] : Str)]))]))]).length ≤ lim then (if inR (x6 + 1) then (rec0 (y0 ++ [(NodeType.mk ((([65, 66, 67, 68, 69, 70] : Str).take ((x6 + 1) : Int).toNat).drop (x6 : Int).toNat) (((IntKind.i64.wrap y0').tmod (x6 + 1)) - 1) (((IntKind.u8.wrap (y0'.tdiv 16)).tmod 4) == 3) ([(Attr.mk ((([117, 118, 119, 120, 121, 122] : Str).take ((x6 + 1) : Int).toNat).drop (x6 : Int).toNat) 0 1 ([([111, 102, 102] : Str), ([111, 110] : Str)]))]))]) (x6 + 1)) else none) else none) else (if y0.length + ([(NodeType.mk ((([65, 66, 67, 68, 69, 70] : Str).take ((x6 + 1) : Int).toNat).drop (x6 : Int).toNat) (((IntKind.i64.wrap y0').tmod (x6 + 1)) - 1) (((IntKind.u8.wrap (y0'.tdiv 16)).tmod 4) == 3) [])]).length ≤ lim then (if inR (x6 + 1) then (rec0 (y0 ++ [(NodeType.mk ((([65, 66, 67, 68, 69, 70] : Str).take ((x6 + 1) : Int).toNat).drop (x6 : Int).toNat) (((IntKind.i64.wrap y0').tmod (x6 + 1)) - 1) (((IntKind.u8.wrap (y0'.tdiv 16)).tmod 4) == 3) [])]) (x6 + 1)) else none) else none))) else none) else none) else none) else none) else none) else none) else none)) (fun j315 => (bif (decide (x6 < (a0.length : Int))) then (if (0 : Int) ≤ x6 ∧ x6 < (a0.length : Int) then (j315 ((rd a0 x6).e0) ((rd a0 x6).e1)) else none) else (j315 0 0)))) else (loop2 k (ref04_Made.b1 a1 y0) [] 0))) (fun j309 => (bif (x6 == 0) then (j309 true) else (bif (decide (x6 < (a0.length : Int))) then (j309 (decide (x6 < 6))) else (j309 false)))))
def ref04_Made (k : Nat) (a0 : (List A2Int)) (a1 : (List A2Int)) : Option Types :=
  (loop2 k (ref04_Made.b0 k a0 a1) [] 0)
def ref04_Below1.main (self : Types → Int → Int → Option Bool) (k : Nat) (a0 : Types) (a1 : Int) (a2 : Int) : Option Bool :=
  (jn (κ := Bool → Option Bool) (fun (x6 : Bool) => (some x6)) (fun j463 => (bif (a1 == a2) then (j463 true) else (bif (decide (a1 ≥ 0)) then (if (0 : Int) ≤ a1 ∧ a1 < (a0.fNodes.length : Int) then ((self a0 ((rd a0.fNodes a1).fParent) a2).bind fun t467 => (j463 t467)) else none) else (j463 false)))))
def ref04_Below1 : Nat → Types → Int → Int → Option Bool
  | 0, _, _, _ => none
  | k + 1, a0, a1, a2 => ref04_Below1.main (ref04_Below1 k) k a0 a1 a2
def ref17_among.b0 (k : Nat) (a0 : Types) (a1 : Graph) (a2 : Int) (rec0 : (List Int) → Int → Option (List Int)) (x7 : (List Int)) (x8 : Int) : Option (List Int) :=
  (bif (decide (x8 < (a1.fNodes.length : Int))) then (if (0 : Int) ≤ x8 ∧ x8 < (a1.fNodes.length : Int) then ((ref04_Below1 k a0 (rd a1.fNodes x8) a2).bind fun t512 => (bif t512 then (if x7.length + [x8].length ≤ lim then (if inR (x8 + 1) then (rec0 (x7 ++ [x8]) (x8 + 1)) else none) else none) else (if inR (x8 + 1) then (rec0 x7 (x8 + 1)) else none))) else none) else (some x7))
def ref17_among (k : Nat) (a0 : Types) (a1 : Graph) (a2 : Int) : Option (List Int) :=
  (loop2 k (ref17_among.b0 k a0 a1 a2) [] 0)
def ref17_Made.b2 (k : Nat) (a0 : Types) (a1 : Draft) (y0 : (List Int)) (rec2 : (List Edge) → Int → Option Graph) (y1 : (List Edge)) (x11 : Int) : Option Graph :=
  (jn (κ := Bool → Option Graph) (fun (x83 : Bool) => (bif x83 then (if (0 : Int) ≤ x11 ∧ x11 < (a1.fEdges.length : Int) then (if ((a0.fEdges.length : Int) : Int) ≠ 0 then (if (0 : Int) ≤ ((IntKind.i64.wrap ((rd a1.fEdges x11).e0)).tmod (a0.fEdges.length : Int)) ∧ ((IntKind.i64.wrap ((rd a1.fEdges x11).e0)).tmod (a0.fEdges.length : Int)) < (a0.fEdges.length : Int) then ((ref17_among k a0 (Graph.mk y0 y1) ((rd a0.fEdges ((IntKind.i64.wrap ((rd a1.fEdges x11).e0)).tmod (a0.fEdges.length : Int))).fFrom)).bind fun t3002 => (if (0 : Int) ≤ ((IntKind.i64.wrap ((rd a1.fEdges x11).e0)).tmod (a0.fEdges.length : Int)) ∧ ((IntKind.i64.wrap ((rd a1.fEdges x11).e0)).tmod (a0.fEdges.length : Int)) < (a0.fEdges.length : Int) then ((ref17_among k a0 (Graph.mk y0 y1) ((rd a0.fEdges ((IntKind.i64.wrap ((rd a1.fEdges x11).e0)).tmod (a0.fEdges.length : Int))).fTo)).bind fun t3004 => (jn (κ := Bool → Option Graph) (fun (x122 : Bool) => (bif x122 then (if (0 : Int) ≤ x11 ∧ x11 < (a1.fEdges.length : Int) then (if ((t3002.length : Int) : Int) ≠ 0 then (if (0 : Int) ≤ ((IntKind.i64.wrap ((rd a1.fEdges x11).e1)).tmod (t3002.length : Int)) ∧ ((IntKind.i64.wrap ((rd a1.fEdges x11).e1)).tmod (t3002.length : Int)) < (t3002.length : Int) then (if (0 : Int) ≤ x11 ∧ x11 < (a1.fEdges.length : Int) then (if ((t3004.length : Int) : Int) ≠ 0 then (if (0 : Int) ≤ ((IntKind.i64.wrap ((rd a1.fEdges x11).e2)).tmod (t3004.length : Int)) ∧ ((IntKind.i64.wrap ((rd a1.fEdges x11).e2)).tmod (t3004.length : Int)) < (t3004.length : Int) then (if y1.length + [(Edge.mk ((IntKind.i64.wrap ((rd a1.fEdges x11).e0)).tmod (a0.fEdges.length : Int)) (rd t3002 ((IntKind.i64.wrap ((rd a1.fEdges x11).e1)).tmod (t3002.length : Int))) (rd t3004 ((IntKind.i64.wrap ((rd a1.fEdges x11).e2)).tmod (t3004.length : Int))))].length ≤ lim then (if inR (x11 + 1) then (rec2 (y1 ++ [(Edge.mk ((IntKind.i64.wrap ((rd a1.fEdges x11).e0)).tmod (a0.fEdges.length : Int)) (rd t3002 ((IntKind.i64.wrap ((rd a1.fEdges x11).e1)).tmod (t3002.length : Int))) (rd t3004 ((IntKind.i64.wrap ((rd a1.fEdges x11).e2)).tmod (t3004.length : Int))))]) (x11 + 1)) else none) else none) else none) else none) else none) else none) else none) else none) else (if inR (x11 + 1) then (rec2 y1 (x11 + 1)) else none))) (fun j3007 => (bif (decide ((t3002.length : Int) > 0)) then (j3007 (decide ((t3004.length : Int) > 0))) else (j3007 false))))) else none)) else none) else none) else none) else (some (Graph.mk y0 y1)))) (fun j2985 => (bif (decide (x11 < (a1.fEdges.length : Int))) then (bif (decide (x11 < 10)) then (j2985 (decide ((a0.fEdges.length : Int) > 0))) else (j2985 false)) else (j2985 false))))
def ref17_Made.b1 (k : Nat) (a0 : Types) (a1 : Draft) (x7 : (List Int)) (rec1 : (List Int) → Int → Option Graph) (y0 : (List Int)) (x10 : Int) : Option Graph :=
  (jn (κ := Bool → Option Graph) (fun (x49 : Bool) => (bif x49 then (if (0 : Int) ≤ x10 ∧ x10 < (a1.fNodes.length : Int) then (if ((x7.length : Int) : Int) ≠ 0 then (if (0 : Int) ≤ ((IntKind.i64.wrap (rd a1.fNodes x10)).tmod (x7.length : Int)) ∧ ((IntKind.i64.wrap (rd a1.fNodes x10)).tmod (x7.length : Int)) < (x7.length : Int) then (if y0.length + [(rd x7 ((IntKind.i64.wrap (rd a1.fNodes x10)).tmod (x7.length : Int)))].length ≤ lim then (if inR (x10 + 1) then (rec1 (y0 ++ [(rd x7 ((IntKind.i64.wrap (rd a1.fNodes x10)).tmod (x7.length : Int)))]) (x10 + 1)) else none) else none) else none) else none) else none) else (loop2 k (ref17_Made.b2 k a0 a1 y0) [] 0))) (fun j2794 => (bif (decide (x10 < (a1.fNodes.length : Int))) then (bif (decide (x10 < 8)) then (j2794 (decide ((x7.length : Int) > 0))) else (j2794 false)) else (j2794 false))))
def ref17_Made.b0 (k : Nat) (a0 : Types) (a1 : Draft) (a2 : Bool) (rec0 : (List Int) → Int → Option Graph) (x7 : (List Int)) (x8 : Int) : Option Graph :=
  (bif (decide (x8 < (a0.fNodes.length : Int))) then (jn (κ := Bool → Option Graph) (fun (x31 : Bool) => (bif x31 then (if x7.length + [x8].length ≤ lim then (if inR (x8 + 1) then (rec0 (x7 ++ [x8]) (x8 + 1)) else none) else none) else (if inR (x8 + 1) then (rec0 x7 (x8 + 1)) else none))) (fun j2224 => (bif a2 then (j2224 true) else (if (0 : Int) ≤ x8 ∧ x8 < (a0.fNodes.length : Int) then (j2224 (!(rd a0.fNodes x8).fAbstract)) else none)))) else (loop2 k (ref17_Made.b1 k a0 a1 x7) [] 0))
def ref17_Made (k : Nat) (a0 : Types) (a1 : Draft) (a2 : Bool) : Option Graph :=
  (loop2 k (ref17_Made.b0 k a0 a1 a2) [] 0)
def law17_Drafts_parts (k : Nat) (a0 : Drafts) : Option (Types × Graph × Graph × Bool) :=
  (jn (κ := Bool → Option (Types × Graph × Graph × Bool)) (fun (x44 : Bool) => (bif x44 then (some ((Types.mk [] []), (Graph.mk [] []), (Graph.mk [] []), false)) else ((ref04_Made k a0.fNodes a0.fEdges).bind fun t3076 => ((ref17_Made k t3076 a0.fP true).bind fun t3082 => ((ref17_Made k t3076 a0.fG false).bind fun t3083 => (some (t3076, t3082, t3083, true))))))) (fun j3074 => (bif (decide ((a0.fNodes.length : Int) > 6)) then (j3074 true) else (bif (decide ((a0.fEdges.length : Int) > 5)) then (j3074 true) else (bif (decide ((a0.fP.fNodes.length : Int) > 3)) then (j3074 true) else (bif (decide ((a0.fP.fEdges.length : Int) > 3)) then (j3074 true) else (bif (decide ((a0.fG.fNodes.length : Int) > 8)) then (j3074 true) else (j3074 (decide ((a0.fG.fEdges.length : Int) > 10))))))))))
def ref04_Example (k : Nat) : Option Types :=
  (some (Types.mk ([(NodeType.mk ([65, 99, 99, 111, 117, 110, 116] : Str) (-1) true ([(Attr.mk ([98, 97, 108, 97, 110, 99, 101] : Str) (-1000) 1000 [])])), (NodeType.mk ([67, 97, 115, 104] : Str) 0 false []), (NodeType.mk ([76, 111, 97, 110] : Str) 0 false ([(Attr.mk ([115, 116, 97, 116, 101] : Str) 0 1 ([([111, 112, 101, 110] : Str), ([99, 108, 111, 115, 101, 100] : Str)]))])), (NodeType.mk ([80, 101, 114, 115, 111, 110] : Str) (-1) false [])]) ([(EdgeType.mk ([111, 119, 110, 115] : Str) 3 0 0 (-1) 1 1), (EdgeType.mk ([112, 97, 121, 115] : Str) 1 1 0 (-1) 0 (-1))])))
def law17_bank (k : Nat) : Option Graph :=
  (some (Graph.mk [3, 1, 1] [(Edge.mk 0 0 1), (Edge.mk 0 0 2)]))
def token_letter (k : Nat) (a0 : Int) : Option Bool :=
  (jn (κ := Bool → Option Bool) (fun (x2 : Bool) => (some x2)) (fun j3096 => (bif (decide (a0 ≥ 97)) then (bif (decide (a0 ≤ 122)) then (j3096 true) else (bif (decide (a0 ≥ 65)) then (j3096 (decide (a0 ≤ 90))) else (j3096 false))) else (bif (decide (a0 ≥ 65)) then (j3096 (decide (a0 ≤ 90))) else (j3096 false)))))
def token_run.b0 (a0 : Str) (a1 : (Int → Option Bool)) (rec0 : Int → Option Int) (x5 : Int) : Option Int :=
  (jn (κ := Bool → Option Int) (fun (x16 : Bool) => (bif x16 then (if inR (x5 + 1) then (rec0 (x5 + 1)) else none) else (some x5))) (fun j3125 => (bif (decide (x5 < (a0.length : Int))) then (if (0 : Int) ≤ x5 ∧ x5 < (a0.length : Int) then ((a1 (bt a0 x5)).bind fun t3130 => (j3125 t3130)) else none) else (j3125 false))))
def token_run (k : Nat) (a0 : Str) (a1 : (Int → Option Bool)) : Option Int :=
  (loop1 k (token_run.b0 a0 a1) 0)
def token_digit (k : Nat) (a0 : Int) : Option Bool :=
  (jn (κ := Bool → Option Bool) (fun (x2 : Bool) => (some x2)) (fun j3133 => (bif (decide (a0 ≥ 48)) then (j3133 (decide (a0 ≤ 57))) else (j3133 false))))
def token_part (k : Nat) (a0 : Int) : Option Bool :=
  (jn (κ := Bool → Option Bool) (fun (x2 : Bool) => (some x2)) (fun j3140 => ((token_letter k a0).bind fun t3141 => (bif t3141 then (j3140 true) else ((token_digit k a0).bind fun t3143 => (bif t3143 then (j3140 true) else (j3140 (a0 == 95))))))))
def token_quoted_1 (k : Nat) (a0 : Int) : Option Bool :=
  (jn (κ := Bool → Option Bool) (fun (x2 : Bool) => (some x2)) (fun j3148 => (bif (decide (a0 ≥ 32)) then (bif (decide (a0 ≤ 126)) then (j3148 (a0 != 34)) else (j3148 false)) else (j3148 false))))
def token_quoted (k : Nat) (a0 : Str) : Option (Int × Int) :=
  (if (0 : Int) ≤ 1 ∧ 1 ≤ (a0.length : Int) then ((token_run k (a0.drop (1 : Int).toNat) (fun x => token_quoted_1 k x)).bind fun t3152 => (jn (κ := Bool → Option (Int × Int)) (fun (x19 : Bool) => (bif x19 then (some (0, 2)) else (bif (decide (t3152 > 60)) then (some (0, 3)) else (if inR (t3152 + 2) then (some ((t3152 + 2), 0)) else none)))) (fun j3158 => (if inR (1 + t3152) then (bif ((1 + t3152) == (a0.length : Int)) then (j3158 true) else (if inR (1 + t3152) then (if (0 : Int) ≤ (1 + t3152) ∧ (1 + t3152) < (a0.length : Int) then (j3158 ((bt a0 (1 + t3152)) != 34)) else none) else none)) else none)))) else none)
def slices_Index_string.b0 (a0 : (List Str)) (a1 : Str) (rec0 : Int → Option Int) (x8 : Int) : Option Int :=
  (bif (decide (x8 < (a0.length : Int))) then (if (0 : Int) ≤ x8 ∧ x8 < (a0.length : Int) then (bif (a1 == (rd a0 x8)) then (some x8) else (if inR (x8 + 1) then (rec0 (x8 + 1)) else none)) else none) else (some (-1)))
def slices_Index_string (k : Nat) (a0 : (List Str)) (a1 : Str) : Option Int :=
  (loop1 k (slices_Index_string.b0 a0 a1) 0)
def slices_Contains_string (k : Nat) (a0 : (List Str)) (a1 : Str) : Option Bool :=
  ((slices_Index_string k a0 a1).bind fun t3178 => (some (decide (t3178 ≥ 0))))
def token_pair (k : Nat) (a0 : Str) : Option Bool :=
  (jn (κ := Bool → Option Bool) (fun (x2 : Bool) => (some x2)) (fun j3183 => (bif (decide ((a0.length : Int) ≥ 2)) then (if (0 : Int) ≤ 2 ∧ 2 ≤ (a0.length : Int) then ((slices_Contains_string k ([([45, 62] : Str), ([60, 61] : Str), ([62, 61] : Str), ([61, 61] : Str), ([33, 61] : Str)]) (a0.take (2 : Int).toNat)).bind fun t3186 => (j3183 t3186)) else none) else (j3183 false))))
def stringslite_IndexByte (_k : Nat) (a0 : Str) (a1 : Int) : Option Int := some (Lib.indexByte a0 a1.toNat.toUInt8)
def strings_IndexByte (k : Nat) (a0 : Str) (a1 : Int) : Option Int :=
  ((stringslite_IndexByte k a0 a1).bind fun t3187 => (some t3187))
def token_next (k : Nat) (a0 : Str) : Option (Int × Int × Int) :=
  (if (0 : Int) ≤ 0 ∧ 0 < (a0.length : Int) then ((token_letter k (bt a0 0)).bind fun t3189 => (bif t3189 then ((token_run k a0 (fun x => token_part k x)).bind fun t3191 => (bif (decide (t3191 > 20)) then (some (0, 0, 3)) else (some (1, t3191, 0)))) else ((token_digit k (bt a0 0)).bind fun t3193 => (bif t3193 then ((token_run k a0 (fun x => token_digit k x)).bind fun t3195 => (bif (decide (t3195 > 9)) then (some (0, 0, 3)) else (some (2, t3195, 0)))) else (bif ((bt a0 0) == 34) then ((token_quoted k a0).bind fun t3198 => (some (3, t3198.1, t3198.2))) else ((token_pair k a0).bind fun t3199 => (bif t3199 then (some (4, 2, 0)) else ((strings_IndexByte k ([123, 125, 40, 41, 91, 93, 44, 59, 58, 61, 43, 45, 42, 60, 62, 33, 38, 124, 46, 63] : Str) (bt a0 0)).bind fun t3201 => (bif (decide (t3201 ≥ 0)) then (some (4, 1, 0)) else (some (0, 0, 2))))))))))) else none)
def token_whole (k : Nat) (a0 : Token) : Option (Str × Bool) :=
  (jn (κ := Str → Option (Str × Bool)) (fun (x4 : Str) => (bif (x4 == ([] : Str)) then (some (([] : Str), false)) else ((token_next k x4).bind fun t3209 => (jn (κ := Bool → Option (Str × Bool)) (fun (x3 : Bool) => (some (x4, x3))) (fun j3213 => (bif (t3209.2.2 == 0) then (bif (t3209.1 == a0.fKind) then (j3213 (t3209.2.1 == (x4.length : Int))) else (j3213 false)) else (j3213 false))))))) (fun j3207 => (bif (a0.fKind == 3) then (if (([34] : Str).length : Int) + (a0.fText.length : Int) ≤ 9223372036854775807 then (if ((([34] : Str) ++ a0.fText).length : Int) + (([34] : Str).length : Int) ≤ 9223372036854775807 then (j3207 ((([34] : Str) ++ a0.fText) ++ ([34] : Str))) else none) else none) else (j3207 a0.fText))))
def token_IsName (k : Nat) (a0 : Str) : Option Bool :=
  ((token_whole k (Token.mk 1 a0 0)).bind fun t3219 => (some t3219.2))
def types_node_1 (k : Nat) (a0 : NodeType) (a1 : NodeType) : Option Bool :=
  (some (a0.fName == a1.fName))
def slices_IndexFunc_NodeType.b0 (a0 : (List NodeType)) (a1 : (NodeType → Option Bool)) (rec0 : Int → Option Int) (x8 : Int) : Option Int :=
  (bif (decide (x8 < (a0.length : Int))) then (if (0 : Int) ≤ x8 ∧ x8 < (a0.length : Int) then ((a1 (rd a0 x8)).bind fun t3232 => (bif t3232 then (some x8) else (if inR (x8 + 1) then (rec0 (x8 + 1)) else none))) else none) else (some (-1)))
def slices_IndexFunc_NodeType (k : Nat) (a0 : (List NodeType)) (a1 : (NodeType → Option Bool)) : Option Int :=
  (loop1 k (slices_IndexFunc_NodeType.b0 a0 a1) 0)
def slices_ContainsFunc_NodeType (k : Nat) (a0 : (List NodeType)) (a1 : (NodeType → Option Bool)) : Option Bool :=
  ((slices_IndexFunc_NodeType k a0 a1).bind fun t3235 => (some (decide (t3235 ≥ 0))))
def types_attrs.main (self : Types → Int → Option (List Attr)) (k : Nat) (a0 : Types) (a1 : Int) : Option (List Attr) :=
  (if (0 : Int) ≤ a1 ∧ a1 < (a0.fNodes.length : Int) then (jn (κ := (List Attr) → Option (List Attr)) (fun (x5 : (List Attr)) => (if (0 : Int) ≤ a1 ∧ a1 < (a0.fNodes.length : Int) then (if x5.length + ((rd a0.fNodes a1).fAttrs).length ≤ lim then (some (x5 ++ (rd a0.fNodes a1).fAttrs)) else none) else none)) (fun j3244 => (bif (decide ((rd a0.fNodes a1).fParent ≥ 0)) then ((self a0 ((rd a0.fNodes a1).fParent)).bind fun t3249 => (j3244 t3249)) else (j3244 [])))) else none)
def types_attrs : Nat → Types → Int → Option (List Attr)
  | 0, _, _ => none
  | k + 1, a0, a1 => types_attrs.main (types_attrs k) k a0 a1
def types_attribute_1 (k : Nat) (a0 : Attr) (a1 : Attr) : Option Bool :=
  (some (a0.fName == a1.fName))
def slices_IndexFunc_Attr.b0 (a0 : (List Attr)) (a1 : (Attr → Option Bool)) (rec0 : Int → Option Int) (x8 : Int) : Option Int :=
  (bif (decide (x8 < (a0.length : Int))) then (if (0 : Int) ≤ x8 ∧ x8 < (a0.length : Int) then ((a1 (rd a0 x8)).bind fun t3264 => (bif t3264 then (some x8) else (if inR (x8 + 1) then (rec0 (x8 + 1)) else none))) else none) else (some (-1)))
def slices_IndexFunc_Attr (k : Nat) (a0 : (List Attr)) (a1 : (Attr → Option Bool)) : Option Int :=
  (loop1 k (slices_IndexFunc_Attr.b0 a0 a1) 0)
def slices_ContainsFunc_Attr (k : Nat) (a0 : (List Attr)) (a1 : (Attr → Option Bool)) : Option Bool :=
  ((slices_IndexFunc_Attr k a0 a1).bind fun t3267 => (some (decide (t3267 ≥ 0))))
def types_names.b0 (k : Nat) (a0 : (List Str)) (rec0 : Int → Option Int) (x10 : Int) : Option Int :=
  (bif (decide (x10 < (a0.length : Int))) then (if (0 : Int) ≤ x10 ∧ x10 < (a0.length : Int) then ((token_IsName k (rd a0 x10)).bind fun t3287 => (bif (!t3287) then (some 2) else (if (0 : Int) ≤ x10 ∧ x10 ≤ (a0.length : Int) then ((slices_Contains_string k (a0.take (x10 : Int).toNat) (rd a0 x10)).bind fun t3290 => (bif t3290 then (some 5) else (if inR (x10 + 1) then (rec0 (x10 + 1)) else none))) else none))) else none) else (some 0))
def types_names (k : Nat) (a0 : (List Str)) : Option Int :=
  (bif (decide ((a0.length : Int) > 20)) then (some 3) else (loop1 k (types_names.b0 k a0) 0))
def types_attribute (k : Nat) (a0 : Attr) (a1 : (List Attr)) : Option Int :=
  ((token_IsName k a0.fName).bind fun t3293 => (bif (!t3293) then (some 2) else ((slices_ContainsFunc_Attr k a1 (fun x => types_attribute_1 k x a0)).bind fun t3295 => (bif t3295 then (some 5) else ((types_names k a0.fNames).bind fun t3297 => (bif (t3297 != 0) then (some t3297) else (jn (κ := Bool → Option Int) (fun (x6 : Bool) => (bif (decide ((a0.fNames.length : Int) > 0)) then (jn (κ := Bool → Option Int) (fun (x6' : Bool) => (bif (!x6') then (some 6) else (some 0))) (fun j3314 => (bif (a0.fLow == 0) then (if inR ((a0.fNames.length : Int) - 1) then (j3314 (a0.fHigh == ((a0.fNames.length : Int) - 1))) else none) else (j3314 false)))) else (bif (!x6) then (some 6) else (some 0)))) (fun j3302 => (bif (decide ((-1000000) ≤ a0.fLow)) then (bif (decide (a0.fLow ≤ a0.fHigh)) then (j3302 (decide (a0.fHigh ≤ 1000000))) else (j3302 false)) else (j3302 false))))))))))
def types_node.b0 (k : Nat) (t3333 : (List Attr)) (rec0 : Int → Option Int) (x7 : Int) : Option Int :=
  (bif (decide (x7 < (t3333.length : Int))) then (if (0 : Int) ≤ x7 ∧ x7 < (t3333.length : Int) then (if (0 : Int) ≤ x7 ∧ x7 ≤ (t3333.length : Int) then ((types_attribute k (rd t3333 x7) (t3333.take (x7 : Int).toNat)).bind fun t3369 => (bif (t3369 != 0) then (some t3369) else (if inR (x7 + 1) then (rec0 (x7 + 1)) else none))) else none) else none) else (some 0))
def types_node (k : Nat) (a0 : Types) (a1 : Int) : Option Int :=
  (if (0 : Int) ≤ a1 ∧ a1 < (a0.fNodes.length : Int) then ((token_IsName k ((rd a0.fNodes a1).fName)).bind fun t3323 => (bif (!t3323) then (some 2) else (if (0 : Int) ≤ a1 ∧ a1 ≤ (a0.fNodes.length : Int) then ((slices_ContainsFunc_NodeType k (a0.fNodes.take (a1 : Int).toNat) (fun x => types_node_1 k x (rd a0.fNodes a1))).bind fun t3326 => (bif t3326 then (some 5) else (jn (κ := Bool → Option Int) (fun (x26 : Bool) => (bif x26 then (some 6) else (bif (decide ((((rd a0.fNodes a1).fAttrs).length : Int) > 4)) then (some 3) else ((types_attrs k a0 a1).bind fun t3333 => (bif (decide ((t3333.length : Int) > 8)) then (some 3) else (if inR ((t3333.length : Int) - (((rd a0.fNodes a1).fAttrs).length : Int)) then (loop1 k (types_node.b0 k t3333) ((t3333.length : Int) - (((rd a0.fNodes a1).fAttrs).length : Int))) else none)))))) (fun j3330 => (bif (decide ((rd a0.fNodes a1).fParent < (-1))) then (j3330 true) else (j3330 (decide ((rd a0.fNodes a1).fParent ≥ a1)))))))) else none))) else none)
def types_edge_1 (k : Nat) (a0 : Int) (a1 : Types) : Option Bool :=
  (jn (κ := Bool → Option Bool) (fun (x3 : Bool) => (some x3)) (fun j3375 => (bif (decide (a0 ≥ 0)) then (j3375 (decide (a0 < (a1.fNodes.length : Int)))) else (j3375 false))))
def types_edge_2 (k : Nat) (a0 : EdgeType) (a1 : EdgeType) : Option Bool :=
  (some (a0.fName == a1.fName))
def slices_IndexFunc_EdgeType.b0 (a0 : (List EdgeType)) (a1 : (EdgeType → Option Bool)) (rec0 : Int → Option Int) (x8 : Int) : Option Int :=
  (bif (decide (x8 < (a0.length : Int))) then (if (0 : Int) ≤ x8 ∧ x8 < (a0.length : Int) then ((a1 (rd a0 x8)).bind fun t3389 => (bif t3389 then (some x8) else (if inR (x8 + 1) then (rec0 (x8 + 1)) else none))) else none) else (some (-1)))
def slices_IndexFunc_EdgeType (k : Nat) (a0 : (List EdgeType)) (a1 : (EdgeType → Option Bool)) : Option Int :=
  (loop1 k (slices_IndexFunc_EdgeType.b0 a0 a1) 0)
def slices_ContainsFunc_EdgeType (k : Nat) (a0 : (List EdgeType)) (a1 : (EdgeType → Option Bool)) : Option Bool :=
  ((slices_IndexFunc_EdgeType k a0 a1).bind fun t3392 => (some (decide (t3392 ≥ 0))))
def types_bounded (k : Nat) (a0 : Int) (a1 : Int) : Option Bool :=
  (jn (κ := Bool → Option Bool) (fun (x4 : Bool) => (some x4)) (fun j3398 => (bif (decide (a0 ≥ 0)) then (bif (decide (a0 ≤ 40)) then (bif (a1 == (-1)) then (j3398 true) else (bif (decide (a1 ≥ a0)) then (j3398 (decide (a1 ≤ 40))) else (j3398 false))) else (j3398 false)) else (j3398 false))))
def types_edge (k : Nat) (a0 : Types) (a1 : Int) : Option Int :=
  (if (0 : Int) ≤ a1 ∧ a1 < (a0.fEdges.length : Int) then ((token_IsName k ((rd a0.fEdges a1).fName)).bind fun t3405 => (bif (!t3405) then (some 2) else (if (0 : Int) ≤ a1 ∧ a1 ≤ (a0.fEdges.length : Int) then ((slices_ContainsFunc_EdgeType k (a0.fEdges.take (a1 : Int).toNat) (fun x => types_edge_2 k x (rd a0.fEdges a1))).bind fun t3408 => (bif t3408 then (some 5) else (jn (κ := Bool → Option Int) (fun (x25 : Bool) => (bif x25 then (some 6) else (jn (κ := Bool → Option Int) (fun (x25' : Bool) => (bif x25' then (some 6) else (some 0))) (fun j3429 => ((types_bounded k ((rd a0.fEdges a1).fOutLow) ((rd a0.fEdges a1).fOutHigh)).bind fun t3431 => (bif (!t3431) then (j3429 true) else ((types_bounded k ((rd a0.fEdges a1).fInLow) ((rd a0.fEdges a1).fInHigh)).bind fun t3433 => (j3429 (!t3433))))))))) (fun j3414 => (((fun x => types_edge_1 k x a0) ((rd a0.fEdges a1).fFrom)).bind fun t3434 => (bif (!t3434) then (j3414 true) else (((fun x => types_edge_1 k x a0) ((rd a0.fEdges a1).fTo)).bind fun t3436 => (j3414 (!t3436))))))))) else none))) else none)
def types_Valid.b1 (k : Nat) (a0 : Types) (rec1 : Int → Option (Str × Int)) (x46 : Int) : Option (Str × Int) :=
  (bif (decide (x46 < (a0.fEdges.length : Int))) then (if (0 : Int) ≤ x46 ∧ x46 < (a0.fEdges.length : Int) then ((types_edge k a0 x46).bind fun t3511 => (bif (t3511 != 0) then (some ((rd a0.fEdges x46).fName, t3511)) else (if inR (x46 + 1) then (rec1 (x46 + 1)) else none))) else none) else (some (([] : Str), 0)))
def types_Valid.b0 (k : Nat) (a0 : Types) (rec0 : Int → Option (Str × Int)) (x29 : Int) : Option (Str × Int) :=
  (bif (decide (x29 < (a0.fNodes.length : Int))) then (if (0 : Int) ≤ x29 ∧ x29 < (a0.fNodes.length : Int) then ((types_node k a0 x29).bind fun t3493 => (bif (t3493 != 0) then (some ((rd a0.fNodes x29).fName, t3493)) else (if inR (x29 + 1) then (rec0 (x29 + 1)) else none))) else none) else (loop1 k (types_Valid.b1 k a0) 0))
def types_Valid (k : Nat) (a0 : Types) : Option (Str × Int) :=
  (bif ((a0.fNodes.length : Int) == 0) then (some (([] : Str), 7)) else (jn (κ := Bool → Option (Str × Int)) (fun (x15 : Bool) => (bif x15 then (some (([] : Str), 3)) else (loop1 k (types_Valid.b0 k a0) 0))) (fun j3440 => (bif (decide ((a0.fNodes.length : Int) > 12)) then (j3440 true) else (j3440 (decide ((a0.fEdges.length : Int) > 20)))))))
def slices_IndexFunc_int.b0 (a0 : (List Int)) (a1 : (Int → Option Bool)) (rec0 : Int → Option Int) (x8 : Int) : Option Int :=
  (bif (decide (x8 < (a0.length : Int))) then (if (0 : Int) ≤ x8 ∧ x8 < (a0.length : Int) then ((a1 (rd a0 x8)).bind fun t3527 => (bif t3527 then (some x8) else (if inR (x8 + 1) then (rec0 (x8 + 1)) else none))) else none) else (some (-1)))
def slices_IndexFunc_int (k : Nat) (a0 : (List Int)) (a1 : (Int → Option Bool)) : Option Int :=
  (loop1 k (slices_IndexFunc_int.b0 a0 a1) 0)
def slices_ContainsFunc_int (k : Nat) (a0 : (List Int)) (a1 : (Int → Option Bool)) : Option Bool :=
  ((slices_IndexFunc_int k a0 a1).bind fun t3530 => (some (decide (t3530 ≥ 0))))
def graph_within (k : Nat) (a0 : Int) (a1 : Int) : Option Bool :=
  (jn (κ := Bool → Option Bool) (fun (x4 : Bool) => (some x4)) (fun j3533 => (bif (decide (a0 ≥ 0)) then (j3533 (decide (a0 ≤ a1))) else (j3533 false))))
def graph_Valid_1 (k : Nat) (a0 : Int) : Option Bool :=
  ((graph_within k a0 99).bind fun t3535 => (some (!t3535)))
def graph_fits (k : Nat) (a0 : Edge) (a1 : Int) : Option Bool :=
  (jn (κ := Bool → Option Bool) (fun (x4 : Bool) => (some x4)) (fun j3544 => ((graph_within k a0.fType 99).bind fun t3545 => (bif t3545 then (if inR (a1 - 1) then ((graph_within k a0.fFrom (a1 - 1)).bind fun t3548 => (bif t3548 then (if inR (a1 - 1) then ((graph_within k a0.fTo (a1 - 1)).bind fun t3551 => (j3544 t3551)) else none) else (j3544 false))) else none) else (j3544 false)))))
def graph_Valid_2 (k : Nat) (a0 : Edge) (a1 : Graph) : Option Bool :=
  ((graph_fits k a0 (a1.fNodes.length : Int)).bind fun t3552 => (some (!t3552)))
def slices_IndexFunc_Edge.b0 (a0 : (List Edge)) (a1 : (Edge → Option Bool)) (rec0 : Int → Option Int) (x8 : Int) : Option Int :=
  (bif (decide (x8 < (a0.length : Int))) then (if (0 : Int) ≤ x8 ∧ x8 < (a0.length : Int) then ((a1 (rd a0 x8)).bind fun t3565 => (bif t3565 then (some x8) else (if inR (x8 + 1) then (rec0 (x8 + 1)) else none))) else none) else (some (-1)))
def slices_IndexFunc_Edge (k : Nat) (a0 : (List Edge)) (a1 : (Edge → Option Bool)) : Option Int :=
  (loop1 k (slices_IndexFunc_Edge.b0 a0 a1) 0)
def slices_ContainsFunc_Edge (k : Nat) (a0 : (List Edge)) (a1 : (Edge → Option Bool)) : Option Bool :=
  ((slices_IndexFunc_Edge k a0 a1).bind fun t3568 => (some (decide (t3568 ≥ 0))))
def graph_Valid (k : Nat) (a0 : Graph) : Option Int :=
  (jn (κ := Bool → Option Int) (fun (x12 : Bool) => (bif x12 then (some 3) else ((slices_ContainsFunc_int k a0.fNodes (fun x => graph_Valid_1 k x)).bind fun t3573 => (bif t3573 then (some 6) else ((slices_ContainsFunc_Edge k a0.fEdges (fun x => graph_Valid_2 k x a0)).bind fun t3575 => (bif t3575 then (some 6) else (some 0))))))) (fun j3571 => (bif (decide ((a0.fNodes.length : Int) > 40)) then (j3571 true) else (j3571 (decide ((a0.fEdges.length : Int) > 80))))))
def search_within_1 (k : Nat) (a0 : Int) (a1 : Types) : Option Bool :=
  (some (decide (a0 ≥ (a1.fNodes.length : Int))))
def search_within_2 (k : Nat) (a0 : Edge) (a1 : Types) : Option Bool :=
  (some (decide (a0.fType ≥ (a1.fEdges.length : Int))))
def search_within (k : Nat) (a0 : Types) (a1 : Graph) : Option Bool :=
  (jn (κ := Bool → Option Bool) (fun (x4 : Bool) => (some x4)) (fun j3582 => ((slices_ContainsFunc_int k a1.fNodes (fun x => search_within_1 k x a0)).bind fun t3583 => (bif (!t3583) then ((slices_ContainsFunc_Edge k a1.fEdges (fun x => search_within_2 k x a0)).bind fun t3585 => (j3582 (!t3585))) else (j3582 false)))))
def search_valid.b0 (k : Nat) (a0 : Types) (a1 : Graph) (a2 : Graph) (rec0 : Int → Option Int) (x24 : Int) : Option Int :=
  (bif (decide (x24 < ([a1, a2].length : Int))) then (if (0 : Int) ≤ x24 ∧ x24 < ([a1, a2].length : Int) then ((graph_Valid k (rd [a1, a2] x24)).bind fun t3621 => (bif (t3621 != 0) then (some t3621) else (if inR (x24 + 1) then (rec0 (x24 + 1)) else none))) else none) else (jn (κ := Bool → Option Int) (fun (x43 : Bool) => (bif x43 then (some 13) else (some 0))) (fun j3628 => ((search_within k a0 a1).bind fun t3630 => (bif (!t3630) then (j3628 true) else ((search_within k a0 a2).bind fun t3632 => (j3628 (!t3632))))))))
def search_valid (k : Nat) (a0 : Types) (a1 : Graph) (a2 : Graph) : Option Int :=
  ((types_Valid k a0).bind fun t3586 => (bif (t3586.2 != 0) then (some t3586.2) else (loop1 k (search_valid.b0 k a0 a1 a2) 0)))
def types_given_1 (k : Nat) (a0 : Int) (a1 : Types) : Option Bool :=
  (jn (κ := Bool → Option Bool) (fun (x3 : Bool) => (some x3)) (fun j3635 => (bif (decide (a0 < 0)) then (j3635 true) else (j3635 (decide (a0 ≥ (a1.fNodes.length : Int)))))))
def types_given (k : Nat) (a0 : Types) (a1 : (List Int)) : Option Int :=
  ((types_Valid k a0).bind fun t3637 => (bif (t3637.2 != 0) then (some t3637.2) else ((slices_ContainsFunc_int k a1 (fun x => types_given_1 k x a0)).bind fun t3639 => (bif t3639 then (some 6) else (some 0)))))
def slices_Reverse_int.b0 (rec0 : (List Int) → Int → Int → Option (List Int)) (x0 : (List Int)) (x2 : Int) (x3 : Int) : Option (List Int) :=
  (bif (decide (x2 < x3)) then (if (0 : Int) ≤ x3 ∧ x3 < (x0.length : Int) then (if (0 : Int) ≤ x2 ∧ x2 < (x0.length : Int) then (if (0 : Int) ≤ x2 ∧ x2 < (x0.length : Int) then (if (0 : Int) ≤ x3 ∧ x3 < ((x0.set (x2 : Int).toNat (rd x0 x3)).length : Int) then (if inR (x2 + 1) then (if inR (x3 - 1) then (rec0 ((x0.set (x2 : Int).toNat (rd x0 x3)).set (x3 : Int).toNat (rd x0 x2)) (x2 + 1) (x3 - 1)) else none) else none) else none) else none) else none) else none) else (some x0))
def slices_Reverse_int (k : Nat) (a0 : (List Int)) : Option (List Int) :=
  (if inR ((a0.length : Int) - 1) then (loop3 k (slices_Reverse_int.b0) a0 0 ((a0.length : Int) - 1)) else none)
def types_line.b0 (k : Nat) (a0 : Types) (rec0 : Int → (List Int) → Option (List Int)) (x1 : Int) (x5 : (List Int)) : Option (List Int) :=
  (bif (decide (x1 ≥ 0)) then (if x5.length + [x1].length ≤ lim then (if (0 : Int) ≤ x1 ∧ x1 < (a0.fNodes.length : Int) then (rec0 ((rd a0.fNodes x1).fParent) (x5 ++ [x1])) else none) else none) else ((slices_Reverse_int k x5).bind fun t3709 => (some t3709)))
def types_line (k : Nat) (a0 : Types) (a1 : Int) : Option (List Int) :=
  (loop2 k (types_line.b0 k a0) a1 [])
def slices_Index_int.b0 (a0 : (List Int)) (a1 : Int) (rec0 : Int → Option Int) (x8 : Int) : Option Int :=
  (bif (decide (x8 < (a0.length : Int))) then (if (0 : Int) ≤ x8 ∧ x8 < (a0.length : Int) then (bif (a1 == (rd a0 x8)) then (some x8) else (if inR (x8 + 1) then (rec0 (x8 + 1)) else none)) else none) else (some (-1)))
def slices_Index_int (k : Nat) (a0 : (List Int)) (a1 : Int) : Option Int :=
  (loop1 k (slices_Index_int.b0 a0 a1) 0)
def slices_Contains_int (k : Nat) (a0 : (List Int)) (a1 : Int) : Option Bool :=
  ((slices_Index_int k a0 a1).bind fun t3722 => (some (decide (t3722 ≥ 0))))
def types_is (k : Nat) (a0 : Types) (a1 : Int) (a2 : Int) : Option Bool :=
  ((types_line k a0 a1).bind fun t3723 => ((slices_Contains_int k t3723 a2).bind fun t3724 => (some t3724)))
def types_Below.b0 (k : Nat) (a0 : Types) (a1 : Int) (rec0 : (List Int) → Int → Option ((List Int) × Int)) (x7 : (List Int)) (x19 : Int) : Option ((List Int) × Int) :=
  (bif (decide (x19 < (a0.fNodes.length : Int))) then ((types_is k a0 x19 a1).bind fun t3756 => (bif t3756 then (if x7.length + [x19].length ≤ lim then (if inR (x19 + 1) then (rec0 (x7 ++ [x19]) (x19 + 1)) else none) else none) else (if inR (x19 + 1) then (rec0 x7 (x19 + 1)) else none))) else (some (x7, 0)))
def types_Below (k : Nat) (a0 : Types) (a1 : Int) : Option ((List Int) × Int) :=
  ((types_given k a0 [a1]).bind fun t3725 => (bif (t3725 != 0) then (some ([], t3725)) else (loop2 k (types_Below.b0 k a0 a1) [] 0)))
def search_below.b1 (x3 : (List (List Bool))) (x13 : Int) (rec0 : (List (List Bool)) → Int → Option (List (List Bool))) (t3825 : ((List Int) × Int)) (rec1 : (List Bool) → Int → Option (List (List Bool))) (x5 : (List Bool)) (x28 : Int) : Option (List (List Bool)) :=
  (bif (decide (x28 < (t3825.1.length : Int))) then (if (0 : Int) ≤ x28 ∧ x28 < (t3825.1.length : Int) then (if (0 : Int) ≤ (rd t3825.1 x28) ∧ (rd t3825.1 x28) < (x5.length : Int) then (if inR (x28 + 1) then (rec1 (x5.set ((rd t3825.1 x28) : Int).toNat true) (x28 + 1)) else none) else none) else none) else (if x3.length + [x5].length ≤ lim then (if inR (x13 + 1) then (rec0 (x3 ++ [x5]) (x13 + 1)) else none) else none))
def search_below.b0 (k : Nat) (a0 : Types) (rec0 : (List (List Bool)) → Int → Option (List (List Bool))) (x3 : (List (List Bool))) (x13 : Int) : Option (List (List Bool)) :=
  (bif (decide (x13 < (a0.fNodes.length : Int))) then (if (0 : Int) ≤ (a0.fNodes.length : Int) ∧ (a0.fNodes.length : Int) ≤ (lim : Int) then ((types_Below k a0 x13).bind fun t3825 => (loop2 k (search_below.b1 x3 x13 rec0 t3825) (List.replicate ((a0.fNodes.length : Int) : Int).toNat false) 0)) else none) else (some x3))
def search_below (k : Nat) (a0 : Types) : Option (List (List Bool)) :=
  (loop2 k (search_below.b0 k a0) [] 0)
def search_given (_k : Nat) (a0 : (Option (List Int))) (a1 : Int) : Option Int := match a0 with
  | none => some (-1)
  | some l => if (0 : Int) ≤ a1 ∧ a1 < (l.length : Int) then some (rd l a1) else none
def search_finder_fits (k : Nat) (a0 : Finder) (a1 : Int) (a2 : Int) : Option Bool :=
  (if (0 : Int) ≤ a1 ∧ a1 < (a0.fp.fEdges.length : Int) then ((search_given k a0.fpartial.fEdges a1).bind fun t3849 => (jn (κ := Bool → Option Bool) (fun (x30 : Bool) => (bif x30 then (some false) else (if (0 : Int) ≤ a2 ∧ a2 < (a0.fg.fEdges.length : Int) then (if (0 : Int) ≤ (rd a0.fp.fEdges a1).fFrom ∧ (rd a0.fp.fEdges a1).fFrom < (a0.fnodes.length : Int) then (if (0 : Int) ≤ (rd a0.fp.fEdges a1).fTo ∧ (rd a0.fp.fEdges a1).fTo < (a0.fnodes.length : Int) then (some ([(rd a0.fg.fEdges a2).fType, (rd a0.fg.fEdges a2).fFrom, (rd a0.fg.fEdges a2).fTo] == [(rd a0.fp.fEdges a1).fType, (rd a0.fnodes ((rd a0.fp.fEdges a1).fFrom)), (rd a0.fnodes ((rd a0.fp.fEdges a1).fTo))])) else none) else none) else none))) (fun j3852 => (bif (decide (t3849 ≥ 0)) then (j3852 (t3849 != a2)) else (j3852 false))))) else none)
def search_finder_possible.b1 (k : Nat) (a0 : Finder) (x20 : Int) (rec0 : Int → Option Bool) (rec1 : Int → Option Bool) (x38 : Int) : Option Bool :=
  (bif (decide (x38 < (a0.fg.fEdges.length : Int))) then ((search_finder_fits k a0 x20 x38).bind fun t4038 => (bif t4038 then (if inR (x20 + 1) then (rec0 (x20 + 1)) else none) else (if inR (x38 + 1) then (rec1 (x38 + 1)) else none))) else (some false))
def search_finder_possible.b0 (k : Nat) (a0 : Finder) (rec0 : Int → Option Bool) (x20 : Int) : Option Bool :=
  (bif (decide (x20 < (a0.fp.fEdges.length : Int))) then (if (0 : Int) ≤ x20 ∧ x20 < (a0.fp.fEdges.length : Int) then (bif ((if (rd a0.fp.fEdges x20).fTo > (rd a0.fp.fEdges x20).fFrom then (rd a0.fp.fEdges x20).fTo else (rd a0.fp.fEdges x20).fFrom) != ((a0.fnodes.length : Int) - 1)) then (if inR (x20 + 1) then (rec0 (x20 + 1)) else none) else (loop1 k (search_finder_possible.b1 k a0 x20 rec0) 0)) else none) else (some true))
def search_finder_possible (k : Nat) (a0 : Finder) : Option Bool :=
  (if inR ((a0.fnodes.length : Int) - 1) then (loop1 k (search_finder_possible.b0 k a0) 0) else none)
def slices_Clone_int (_k : Nat) (a0 : (List Int)) : Option (List Int) := if a0.length ≤ lim then some a0 else none
def search_finder_find.b0 (k : Nat) (self : Finder → Option ((List Int) × (List Int) × (List Morphism))) (a0 : Finder) (j6273 : (List Int) → (List Int) → (List Morphism) → Option ((List Int) × (List Int) × (List Morphism))) (rec0 : (List Int) → (List Int) → (List Morphism) → Int → Option ((List Int) × (List Int) × (List Morphism))) (y9 : (List Int)) (y10 : (List Int)) (y11 : (List Morphism)) (x63 : Int) : Option ((List Int) × (List Int) × (List Morphism)) :=
  (bif (decide (x63 < (a0.fg.fNodes.length : Int))) then (if (0 : Int) ≤ x63 ∧ x63 < (a0.fg.fNodes.length : Int) then ((search_given k a0.fpartial.fNodes (a0.fnodes.length : Int)).bind fun t6645 => (jn (κ := Bool → Option ((List Int) × (List Int) × (List Morphism))) (fun (x115 : Bool) => (bif x115 then (if inR (x63 + 1) then (rec0 y9 y10 y11 (x63 + 1)) else none) else (if y9.length + [x63].length ≤ lim then ((search_finder_possible k (Finder.mk a0.fp a0.fg a0.fis a0.fpartial a0.finjective a0.fmost (y9 ++ [x63]) y10 y11)).bind fun t6680 => (jn (κ := (List Int) → (List Int) → (List Morphism) → Option ((List Int) × (List Int) × (List Morphism))) (fun (y9' : (List Int)) (y10' : (List Int)) (y11' : (List Morphism)) => (if (0 : Int) ≤ (a0.fnodes.length : Int) ∧ (a0.fnodes.length : Int) ≤ (y9'.length : Int) then (if inR (x63 + 1) then (rec0 (y9'.take ((a0.fnodes.length : Int) : Int).toNat) y10' y11' (x63 + 1)) else none) else none)) (fun j6693 => (bif t6680 then ((self (Finder.mk a0.fp a0.fg a0.fis a0.fpartial a0.finjective a0.fmost (y9 ++ [x63]) y10 y11)).bind fun t6698 => (j6693 t6698.1 t6698.2.1 t6698.2.2)) else (j6693 (y9 ++ [x63]) y10 y11))))) else none))) (fun j6675 => (bif (decide (t6645 ≥ 0)) then (bif (t6645 != x63) then (j6675 true) else (if (0 : Int) ≤ (a0.fnodes.length : Int) ∧ (a0.fnodes.length : Int) < (a0.fp.fNodes.length : Int) then (if (0 : Int) ≤ (rd a0.fp.fNodes (a0.fnodes.length : Int)) ∧ (rd a0.fp.fNodes (a0.fnodes.length : Int)) < (a0.fis.length : Int) then (if (0 : Int) ≤ (rd a0.fg.fNodes x63) ∧ (rd a0.fg.fNodes x63) < ((rd a0.fis (rd a0.fp.fNodes (a0.fnodes.length : Int))).length : Int) then (bif (!(rd (rd a0.fis (rd a0.fp.fNodes (a0.fnodes.length : Int))) (rd a0.fg.fNodes x63))) then (j6675 true) else (bif a0.finjective then ((slices_Contains_int k y9 x63).bind fun t6709 => (j6675 t6709)) else (j6675 false))) else none) else none) else none)) else (if (0 : Int) ≤ (a0.fnodes.length : Int) ∧ (a0.fnodes.length : Int) < (a0.fp.fNodes.length : Int) then (if (0 : Int) ≤ (rd a0.fp.fNodes (a0.fnodes.length : Int)) ∧ (rd a0.fp.fNodes (a0.fnodes.length : Int)) < (a0.fis.length : Int) then (if (0 : Int) ≤ (rd a0.fg.fNodes x63) ∧ (rd a0.fg.fNodes x63) < ((rd a0.fis (rd a0.fp.fNodes (a0.fnodes.length : Int))).length : Int) then (bif (!(rd (rd a0.fis (rd a0.fp.fNodes (a0.fnodes.length : Int))) (rd a0.fg.fNodes x63))) then (j6675 true) else (bif a0.finjective then ((slices_Contains_int k y9 x63).bind fun t6715 => (j6675 t6715)) else (j6675 false))) else none) else none) else none))))) else none) else (j6273 y9 y10 y11))
def search_finder_find.b1 (k : Nat) (self : Finder → Option ((List Int) × (List Int) × (List Morphism))) (a0 : Finder) (j6273 : (List Int) → (List Int) → (List Morphism) → Option ((List Int) × (List Int) × (List Morphism))) (rec1 : (List Int) → (List Int) → (List Morphism) → Int → Option ((List Int) × (List Int) × (List Morphism))) (y9 : (List Int)) (y10 : (List Int)) (y11 : (List Morphism)) (x164 : Int) : Option ((List Int) × (List Int) × (List Morphism)) :=
  (bif (decide (x164 < (a0.fg.fEdges.length : Int))) then (jn (κ := Bool → Option ((List Int) × (List Int) × (List Morphism))) (fun (x185 : Bool) => (bif x185 then (if inR (x164 + 1) then (rec1 y9 y10 y11 (x164 + 1)) else none) else (if y10.length + [x164].length ≤ lim then ((self (Finder.mk a0.fp a0.fg a0.fis a0.fpartial a0.finjective a0.fmost y9 (y10 ++ [x164]) y11)).bind fun t6989 => (if (0 : Int) ≤ (a0.fedges.length : Int) ∧ (a0.fedges.length : Int) ≤ (t6989.2.1.length : Int) then (if inR (x164 + 1) then (rec1 t6989.1 (t6989.2.1.take ((a0.fedges.length : Int) : Int).toNat) t6989.2.2 (x164 + 1)) else none) else none)) else none))) (fun j6984 => ((search_finder_fits k (Finder.mk a0.fp a0.fg a0.fis a0.fpartial a0.finjective a0.fmost y9 y10 y11) (a0.fedges.length : Int) x164).bind fun t6996 => (bif (!t6996) then (j6984 true) else (bif a0.finjective then ((slices_Contains_int k y10 x164).bind fun t6999 => (j6984 t6999)) else (j6984 false)))))) else (j6273 y9 y10 y11))
def search_finder_find.main (self : Finder → Option ((List Int) × (List Int) × (List Morphism))) (k : Nat) (a0 : Finder) : Option ((List Int) × (List Int) × (List Morphism)) :=
  (bif ((a0.fout.length : Int) == a0.fmost) then (some (a0.fnodes, a0.fedges, a0.fout)) else (jn (κ := (List Int) → (List Int) → (List Morphism) → Option ((List Int) × (List Int) × (List Morphism))) (fun (y9 : (List Int)) (y10 : (List Int)) (y11 : (List Morphism)) => (some (y9, y10, y11))) (fun j6273 => (bif (decide ((a0.fnodes.length : Int) < (a0.fp.fNodes.length : Int))) then (loop4 k (search_finder_find.b0 k self a0 j6273) a0.fnodes a0.fedges a0.fout 0) else (bif (decide ((a0.fedges.length : Int) < (a0.fp.fEdges.length : Int))) then (loop4 k (search_finder_find.b1 k self a0 j6273) a0.fnodes a0.fedges a0.fout 0) else ((slices_Clone_int k a0.fnodes).bind fun t7008 => ((slices_Clone_int k a0.fedges).bind fun t7009 => (if a0.fout.length + [(Morphism.mk t7008 t7009)].length ≤ lim then (j6273 a0.fnodes a0.fedges (a0.fout ++ [(Morphism.mk t7008 t7009)])) else none))))))))
def search_finder_find : Nat → Finder → Option ((List Int) × (List Int) × (List Morphism))
  | 0, _ => none
  | k + 1, a0 => search_finder_find.main (search_finder_find k) k a0
def search_found (k : Nat) (a0 : Types) (a1 : Graph) (a2 : Graph) (a3 : OMorphism) (a4 : Bool) (a5 : Int) : Option (List Morphism) :=
  ((search_below k a0).bind fun t7016 => ((search_finder_find k (Finder.mk a1 a2 t7016 a3 a4 a5 [] [] [])).bind fun t7021 => (some t7021.2.2)))
def search_all (k : Nat) (a0 : Types) (a1 : Graph) (a2 : Graph) (a3 : OMorphism) (a4 : Bool) : Option ((List Morphism) × Int) :=
  ((search_found k a0 a1 a2 a3 a4 5001).bind fun t7025 => (bif (decide ((t7025.length : Int) > 5000)) then (some ([], 3)) else (some (t7025, 0))))
def search_All (k : Nat) (a0 : Types) (a1 : Graph) (a2 : Graph) (a3 : Bool) : Option ((List Morphism) × Int) :=
  ((search_valid k a0 a1 a2).bind fun t7027 => (bif (t7027 != 0) then (some ([], t7027)) else ((search_all k a0 a1 a2 (OMorphism.mk none none) a3).bind fun t7029 => (some (t7029.1, t7029.2)))))
def search_Count (k : Nat) (a0 : Types) (a1 : Graph) (a2 : Graph) (a3 : Bool) : Option (Int × Int) :=
  ((search_All k a0 a1 a2 a3).bind fun t7030 => (some ((t7030.1.length : Int), t7030.2)))
def search_shape.b1 (a1 : Graph) (a2 : Graph) (a3 : Morphism) (rec1 : Int → Option Int) (x71 : Int) : Option Int :=
  (bif (decide (x71 < (a3.fEdges.length : Int))) then (if (0 : Int) ≤ x71 ∧ x71 < (a3.fEdges.length : Int) then (jn (κ := Bool → Option Int) (fun (x84 : Bool) => (bif x84 then (some 6) else (jn (κ := Option Int) ((bif ((rd a1.fEdges x71).fType != (rd a2.fEdges (rd a3.fEdges x71)).fType) then (some 13) else (jn (κ := Bool → Option Int) (fun (x119 : Bool) => (bif x119 then (some 11) else (if inR (x71 + 1) then (rec1 (x71 + 1)) else none))) (fun j7403 => (if (0 : Int) ≤ (rd a1.fEdges x71).fFrom ∧ (rd a1.fEdges x71).fFrom < (a3.fNodes.length : Int) then (bif ((rd a3.fNodes ((rd a1.fEdges x71).fFrom)) != (rd a2.fEdges (rd a3.fEdges x71)).fFrom) then (j7403 true) else (if (0 : Int) ≤ (rd a1.fEdges x71).fTo ∧ (rd a1.fEdges x71).fTo < (a3.fNodes.length : Int) then (j7403 ((rd a3.fNodes ((rd a1.fEdges x71).fTo)) != (rd a2.fEdges (rd a3.fEdges x71)).fTo)) else none)) else none))))) (fun j7394 => (if (0 : Int) ≤ x71 ∧ x71 < (a1.fEdges.length : Int) then (if (0 : Int) ≤ (rd a3.fEdges x71) ∧ (rd a3.fEdges x71) < (a2.fEdges.length : Int) then j7394 else none) else none))))) (fun j7383 => (bif (decide ((rd a3.fEdges x71) < 0)) then (j7383 true) else (j7383 (decide ((rd a3.fEdges x71) ≥ (a2.fEdges.length : Int))))))) else none) else (some 0))
def search_shape.b0 (k : Nat) (a1 : Graph) (a2 : Graph) (a3 : Morphism) (t7035 : (List (List Bool))) (rec0 : Int → Option Int) (x37 : Int) : Option Int :=
  (bif (decide (x37 < (a3.fNodes.length : Int))) then (if (0 : Int) ≤ x37 ∧ x37 < (a3.fNodes.length : Int) then (jn (κ := Bool → Option Int) (fun (x50 : Bool) => (bif x50 then (some 6) else (if (0 : Int) ≤ x37 ∧ x37 < (a1.fNodes.length : Int) then (if (0 : Int) ≤ (rd a1.fNodes x37) ∧ (rd a1.fNodes x37) < (t7035.length : Int) then (if (0 : Int) ≤ (rd a3.fNodes x37) ∧ (rd a3.fNodes x37) < (a2.fNodes.length : Int) then (if (0 : Int) ≤ (rd a2.fNodes (rd a3.fNodes x37)) ∧ (rd a2.fNodes (rd a3.fNodes x37)) < ((rd t7035 (rd a1.fNodes x37)).length : Int) then (bif (!(rd (rd t7035 (rd a1.fNodes x37)) (rd a2.fNodes (rd a3.fNodes x37)))) then (some 13) else (if inR (x37 + 1) then (rec0 (x37 + 1)) else none)) else none) else none) else none) else none))) (fun j7292 => (bif (decide ((rd a3.fNodes x37) < 0)) then (j7292 true) else (j7292 (decide ((rd a3.fNodes x37) ≥ (a2.fNodes.length : Int))))))) else none) else (loop1 k (search_shape.b1 a1 a2 a3) 0))
def search_shape (k : Nat) (a0 : Types) (a1 : Graph) (a2 : Graph) (a3 : Morphism) : Option Int :=
  (jn (κ := Bool → Option Int) (fun (x31 : Bool) => (bif x31 then (some 20) else ((search_below k a0).bind fun t7035 => (loop1 k (search_shape.b0 k a1 a2 a3 t7035) 0)))) (fun j7033 => (bif ((a3.fNodes.length : Int) != (a1.fNodes.length : Int)) then (j7033 true) else (j7033 ((a3.fEdges.length : Int) != (a1.fEdges.length : Int))))))
def slices_Clone_Edge (_k : Nat) (a0 : (List Edge)) : Option (List Edge) := if a0.length ≤ lim then some a0 else none
def search_Instance.b0 (a2 : Graph) (a3 : Morphism) (t7420 : (List Edge)) (rec0 : (List Int) → Int → Option (Graph × Int)) (y0 : (List Int)) (x39 : Int) : Option (Graph × Int) :=
  (bif (decide (x39 < (a3.fNodes.length : Int))) then (if (0 : Int) ≤ x39 ∧ x39 < (a3.fNodes.length : Int) then (if (0 : Int) ≤ (rd a3.fNodes x39) ∧ (rd a3.fNodes x39) < (a2.fNodes.length : Int) then (if y0.length + [(rd a2.fNodes (rd a3.fNodes x39))].length ≤ lim then (if inR (x39 + 1) then (rec0 (y0 ++ [(rd a2.fNodes (rd a3.fNodes x39))]) (x39 + 1)) else none) else none) else none) else none) else (some ((Graph.mk y0 t7420), 0)))
def search_Instance (k : Nat) (a0 : Types) (a1 : Graph) (a2 : Graph) (a3 : Morphism) : Option (Graph × Int) :=
  ((search_valid k a0 a1 a2).bind fun t7416 => (bif (t7416 != 0) then (some ((Graph.mk [] []), t7416)) else ((search_shape k a0 a1 a2 a3).bind fun t7418 => (bif (t7418 != 0) then (some ((Graph.mk [] []), t7418)) else ((slices_Clone_Edge k a1.fEdges).bind fun t7420 => (loop2 k (search_Instance.b0 a2 a3 t7420) [] 0))))))
def ref05_SameInts.b0 (a0 : (List Int)) (a1 : (List Int)) (rec0 : Int → Option Bool) (x5 : Int) : Option Bool :=
  (bif (decide (x5 < (a0.length : Int))) then (if (0 : Int) ≤ x5 ∧ x5 < (a0.length : Int) then (if (0 : Int) ≤ x5 ∧ x5 < (a1.length : Int) then (bif ((rd a0 x5) != (rd a1 x5)) then (some false) else (if inR (x5 + 1) then (rec0 (x5 + 1)) else none)) else none) else none) else (some true))
def ref05_SameInts (k : Nat) (a0 : (List Int)) (a1 : (List Int)) : Option Bool :=
  (bif ((a0.length : Int) != (a1.length : Int)) then (some false) else (loop1 k (ref05_SameInts.b0 a0 a1) 0))
def ref17_SameAll.b0 (k : Nat) (a0 : (List Morphism)) (a1 : (List Morphism)) (rec0 : Int → Option Bool) (x5 : Int) : Option Bool :=
  (bif (decide (x5 < (a0.length : Int))) then (jn (κ := Bool → Option Bool) (fun (x42 : Bool) => (bif x42 then (some false) else (if inR (x5 + 1) then (rec0 (x5 + 1)) else none))) (fun j7562 => (if (0 : Int) ≤ x5 ∧ x5 < (a0.length : Int) then (if (0 : Int) ≤ x5 ∧ x5 < (a1.length : Int) then ((ref05_SameInts k ((rd a0 x5).fNodes) ((rd a1 x5).fNodes)).bind fun t7567 => (bif (!t7567) then (j7562 true) else (if (0 : Int) ≤ x5 ∧ x5 < (a0.length : Int) then (if (0 : Int) ≤ x5 ∧ x5 < (a1.length : Int) then ((ref05_SameInts k ((rd a0 x5).fEdges) ((rd a1 x5).fEdges)).bind fun t7571 => (j7562 (!t7571))) else none) else none))) else none) else none))) else (some true))
def ref17_SameAll (k : Nat) (a0 : (List Morphism)) (a1 : (List Morphism)) : Option Bool :=
  (bif ((a0.length : Int) != (a1.length : Int)) then (some false) else (loop1 k (ref17_SameAll.b0 k a0 a1) 0))
def slices_Equal_int.b0 (a0 : (List Int)) (a1 : (List Int)) (rec0 : Int → Option Bool) (x13 : Int) : Option Bool :=
  (bif (decide (x13 < (a0.length : Int))) then (if (0 : Int) ≤ x13 ∧ x13 < (a0.length : Int) then (if (0 : Int) ≤ x13 ∧ x13 < (a1.length : Int) then (bif ((rd a0 x13) != (rd a1 x13)) then (some false) else (if inR (x13 + 1) then (rec0 (x13 + 1)) else none)) else none) else none) else (some true))
def slices_Equal_int (k : Nat) (a0 : (List Int)) (a1 : (List Int)) : Option Bool :=
  (bif ((a0.length : Int) != (a1.length : Int)) then (some false) else (loop1 k (slices_Equal_int.b0 a0 a1) 0))
def law17_awake (k : Nat) : Option Bool :=
  ((ref04_Example k).bind fun t7600 => ((law17_bank k).bind fun t7607 => ((search_All k t7600 (Graph.mk [0, 0] []) t7607 true).bind fun t7608 => ((law17_bank k).bind fun t7613 => ((search_Count k t7600 (Graph.mk [0, 0] []) t7613 false).bind fun t7614 => ((law17_bank k).bind fun t7621 => ((search_Instance k t7600 (Graph.mk [0, 0] []) t7621 (Morphism.mk [1, 2] [])).bind fun t7622 => (jn (κ := Bool → Option Bool) (fun (x0 : Bool) => (some x0)) (fun j7632 => (bif (t7608.2 == 0) then ((ref17_SameAll k t7608.1 ([(Morphism.mk [1, 2] []), (Morphism.mk [2, 1] [])])).bind fun t7634 => (bif t7634 then (bif (t7614.2 == 0) then (bif (t7614.1 == 4) then (bif (t7622.2 == 0) then ((slices_Equal_int k t7622.1.fNodes [1, 1]).bind fun t7639 => (j7632 t7639)) else (j7632 false)) else (j7632 false)) else (j7632 false)) else (j7632 false))) else (j7632 false)))))))))))
def ref02_SameInts.b0 (a0 : (List Int)) (a1 : (List Int)) (rec0 : Int → Option Bool) (x5 : Int) : Option Bool :=
  (bif (decide (x5 < (a0.length : Int))) then (if (0 : Int) ≤ x5 ∧ x5 < (a0.length : Int) then (if (0 : Int) ≤ x5 ∧ x5 < (a1.length : Int) then (bif ((rd a0 x5) != (rd a1 x5)) then (some false) else (if inR (x5 + 1) then (rec0 (x5 + 1)) else none)) else none) else none) else (some true))
def ref02_SameInts (k : Nat) (a0 : (List Int)) (a1 : (List Int)) : Option Bool :=
  (bif ((a0.length : Int) != (a1.length : Int)) then (some false) else (loop1 k (ref02_SameInts.b0 a0 a1) 0))
def ref06_Same (k : Nat) (a0 : Morphism) (a1 : Morphism) : Option Bool :=
  (jn (κ := Bool → Option Bool) (fun (x4 : Bool) => (some x4)) (fun j7672 => ((ref02_SameInts k a0.fNodes a1.fNodes).bind fun t7673 => (bif t7673 then ((ref02_SameInts k a0.fEdges a1.fEdges).bind fun t7675 => (j7672 t7675)) else (j7672 false)))))
def law17_SearchBrute_1 (k : Nat) (a0 : Morphism) (a1 : Morphism) : Option Bool :=
  ((ref06_Same k a0 a1).bind fun t7676 => (some t7676))
def slices_IndexFunc_Morphism.b0 (a0 : (List Morphism)) (a1 : (Morphism → Option Bool)) (rec0 : Int → Option Int) (x8 : Int) : Option Int :=
  (bif (decide (x8 < (a0.length : Int))) then (if (0 : Int) ≤ x8 ∧ x8 < (a0.length : Int) then ((a1 (rd a0 x8)).bind fun t7689 => (bif t7689 then (some x8) else (if inR (x8 + 1) then (rec0 (x8 + 1)) else none))) else none) else (some (-1)))
def slices_IndexFunc_Morphism (k : Nat) (a0 : (List Morphism)) (a1 : (Morphism → Option Bool)) : Option Int :=
  (loop1 k (slices_IndexFunc_Morphism.b0 a0 a1) 0)
def slices_ContainsFunc_Morphism (k : Nat) (a0 : (List Morphism)) (a1 : (Morphism → Option Bool)) : Option Bool :=
  ((slices_IndexFunc_Morphism k a0 a1).bind fun t7692 => (some (decide (t7692 ≥ 0))))
def search_twice (_k : Nat) (a0 : (List Int)) : Option Bool := if a0.length ≤ 1000 then some (!decide a0.Nodup) else none
def search_Check (k : Nat) (a0 : Types) (a1 : Graph) (a2 : Graph) (a3 : Morphism) (a4 : Bool) : Option Int :=
  ((search_valid k a0 a1 a2).bind fun t7693 => (bif (t7693 != 0) then (some t7693) else ((search_shape k a0 a1 a2 a3).bind fun t7695 => (bif (t7695 != 0) then (some t7695) else (jn (κ := Bool → Option Int) (fun (x38 : Bool) => (bif x38 then (some 5) else (some 0))) (fun j7702 => (bif a4 then ((search_twice k a3.fNodes).bind fun t7705 => (bif t7705 then (j7702 true) else ((search_twice k a3.fEdges).bind fun t7707 => (j7702 t7707)))) else (j7702 false))))))))
def law17_SearchBrute.b0 (k : Nat) (a1 : (List Int)) (a2 : Bool) (t7708 : (Types × Graph × Graph × Bool)) (rec0 : (List Int) → (List Int) → Int → Option Bool) (x11_0 : (List Int)) (x11_1 : (List Int)) (x53 : Int) : Option Bool :=
  (bif (decide (x53 < (a1.length : Int))) then (if inR (x53 - (x11_0.length : Int)) then (bif (decide ((x53 - (x11_0.length : Int)) < 0)) then (if (0 : Int) ≤ x53 ∧ x53 < (a1.length : Int) then (if ((t7708.2.2.1.fNodes.length : Int) : Int) ≠ 0 then (if (0 : Int) ≤ x53 ∧ x53 < (x11_0.length : Int) then (if inR (x53 + 1) then (rec0 (x11_0.set (x53 : Int).toNat ((IntKind.i64.wrap (rd a1 x53)).tmod (t7708.2.2.1.fNodes.length : Int))) x11_1 (x53 + 1)) else none) else none) else none) else none) else (jn (κ := Bool → Option Bool) (fun (x77 : Bool) => (bif x77 then (if (0 : Int) ≤ x53 ∧ x53 < (a1.length : Int) then (if ((t7708.2.2.1.fEdges.length : Int) : Int) ≠ 0 then (if (0 : Int) ≤ (x53 - (x11_0.length : Int)) ∧ (x53 - (x11_0.length : Int)) < (x11_1.length : Int) then (if inR (x53 + 1) then (rec0 x11_0 (x11_1.set ((x53 - (x11_0.length : Int)) : Int).toNat ((IntKind.i64.wrap (rd a1 x53)).tmod (t7708.2.2.1.fEdges.length : Int))) (x53 + 1)) else none) else none) else none) else none) else (if inR (x53 + 1) then (rec0 x11_0 x11_1 (x53 + 1)) else none))) (fun j7939 => (bif (decide ((x53 - (x11_0.length : Int)) < (x11_1.length : Int))) then (j7939 (decide ((t7708.2.2.1.fEdges.length : Int) > 0))) else (j7939 false))))) else none) else ((search_All k t7708.1 t7708.2.1 t7708.2.2.1 a2).bind fun t7963 => (bif (t7963.2 != 0) then (some (t7963.2 == 3)) else ((slices_ContainsFunc_Morphism k t7963.1 (fun x => law17_SearchBrute_1 k x (Morphism.mk x11_0 x11_1))).bind fun t7965 => ((search_Check k t7708.1 t7708.2.1 t7708.2.2.1 (Morphism.mk x11_0 x11_1) a2).bind fun t7966 => (some (t7965 == (t7966 == 0))))))))
def law17_SearchBrute (k : Nat) (a0 : Drafts) (a1 : (List Int)) (a2 : Bool) : Option Bool :=
  ((law17_Drafts_parts k a0).bind fun t7708 => (jn (κ := Bool → Option Bool) (fun (x40 : Bool) => (bif x40 then ((law17_awake k).bind fun t7719 => (some t7719)) else (jn (κ := Option Bool) ((loop3 k (law17_SearchBrute.b0 k a1 a2 t7708) (List.replicate ((t7708.2.1.fNodes.length : Int) : Int).toNat (0 : Int)) (List.replicate ((t7708.2.1.fEdges.length : Int) : Int).toNat (0 : Int)) 0)) (fun j7735 => (if (0 : Int) ≤ (t7708.2.1.fNodes.length : Int) ∧ (t7708.2.1.fNodes.length : Int) ≤ (lim : Int) then (if (0 : Int) ≤ (t7708.2.1.fEdges.length : Int) ∧ (t7708.2.1.fEdges.length : Int) ≤ (lim : Int) then j7735 else none) else none))))) (fun j7717 => ((law17_awake k).bind fun t7972 => (bif (!t7972) then (j7717 true) else (bif (!t7708.2.2.2) then (j7717 true) else (bif ((t7708.2.2.1.fNodes.length : Int) == 0) then (j7717 true) else (j7717 (decide ((a1.length : Int) > 10))))))))))
end Go.Proofs.YtelpgjfojhcjcaaGreat
