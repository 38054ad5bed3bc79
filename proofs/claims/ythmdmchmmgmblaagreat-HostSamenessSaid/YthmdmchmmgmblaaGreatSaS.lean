/- The pure laws: what the pure functions answer; the law of the row about them. -/
import Derived.Test.YthmdmchmmgmblaaGreatSaD
namespace Go.Proofs.YthmdmchmmgmblaaGreat
open Go Go.Abs

/-- It answers, and what it answers is so. -/
def Out {R : Type} (x : Option R) (P : R → Prop) : Prop := ∃ r, x = some r ∧ P r
theorem Out.some {R : Type} {r : R} {P : R → Prop} (h : P r) : Out (some r) P := ⟨r, rfl, h⟩
theorem Out.bind {R S : Type} {x : Option R} {f : R → Option S} {P : R → Prop} {Q : S → Prop} (h : Out x P) (g : ∀ r, P r → Out (f r) Q) : Out (x.bind f) Q := by
  obtain ⟨r, rfl, hr⟩ := h; exact g r hr
theorem Out.eq {R : Type} {x : Option R} {r : R} (h : Out x (· = r)) : x = Option.some r := by obtain ⟨t, rfl, rfl⟩ := h; rfl
theorem Out.mono {R : Type} {x : Option R} {P Q : R → Prop} (h : Out x P) (g : ∀ r, P r → Q r) : Out x Q := by obtain ⟨r, e, hr⟩ := h; exact ⟨r, e, g r hr⟩
theorem gd {R : Type} {p : Prop} [Decidable p] (h : p) (x : Option R) : (if p then x else none) = x := if_pos h

theorem loop1_out {R : Type} {b : (Int → Option R) → Int → Option R} {I : Nat → Prop} {P : Nat → R → Prop} (n : Nat)
    (hend : I n → ∀ rec, Out (b rec (n : Int)) (P n))
    (hstep : ∀ i, i < n → I i → ∀ rec : Int → Option R, (I (i + 1) → Out (rec ((i : Int) + 1)) (P (i + 1))) → Out (b rec (i : Int)) (P i)) :
    ∀ k i : Nat, i ≤ n → n < k + i → I i → Out (loop1 k b (i : Int)) (P i)
  | 0, i, h, hk, _ => by omega
  | k + 1, i, h, hk, hi => by
    rcases Nat.lt_or_ge i n with hl | hl
    · refine hstep i hl hi _ fun hI => ?_
      have := loop1_out n hend hstep k (i + 1) hl (by omega) hI
      simpa using this
    · have : i = n := by omega
      subst this
      exact hend hi _

theorem loop1_eq {R : Type} {b : (Int → Option R) → Int → Option R} (F : Nat → R) (n : Nat)
    (hend : ∀ rec, b rec (n : Int) = some (F n))
    (hstep : ∀ i, i < n → ∀ rec : Int → Option R, rec ((i : Int) + 1) = some (F (i + 1)) → b rec (i : Int) = some (F i))
    {k i : Nat} (hi : i ≤ n) (hk : n < k + i) : loop1 k b (i : Int) = some (F i) :=
  (loop1_out (I := fun _ => True) (P := fun i r => r = F i) n (fun _ rec => ⟨_, hend rec, rfl⟩)
    (fun i hi _ rec h => ⟨_, hstep i hi rec (h trivial).eq, rfl⟩) k i hi hk trivial).eq

/-- Loops with one more thing that goes along ahead of the number. -/
theorem loop2_out {S R : Type} {b : (S → Int → Option R) → S → Int → Option R} {P : S → Nat → R → Prop} {I : S → Nat → Prop} (n : Nat)
    (hend : ∀ s, I s n → ∀ rec, Out (b rec s (n : Int)) (P s n))
    (hstep : ∀ s i, i < n → I s i → ∀ rec : S → Int → Option R, (∀ s', I s' (i + 1) → Out (rec s' ((i : Int) + 1)) (P s' (i + 1))) → Out (b rec s (i : Int)) (P s i)) :
    ∀ (k i : Nat) (s : S), i ≤ n → n < k + i → I s i → Out (loop2 k b s (i : Int)) (P s i)
  | 0, i, s, h, hk, _ => by omega
  | k + 1, i, s, h, hk, hi => by
    rcases Nat.lt_or_ge i n with hl | hl
    · refine hstep s i hl hi _ fun s' hI => ?_
      have := loop2_out n hend hstep k (i + 1) s' hl (by omega) hI
      simpa using this
    · have : i = n := by omega
      subst this
      exact hend s hi _

/-! ### Scans -/
def scanF (e : Nat → Int) : Nat → Nat → Int
  | _, 0 => 0
  | i, d + 1 => bif e i != 0 then e i else scanF e (i + 1) d
def scan (e : Nat → Int) (i n : Nat) : Int := scanF e i (n - i)
def anyF (p : Nat → Bool) : Nat → Nat → Bool
  | _, 0 => false
  | i, d + 1 => p i || anyF p (i + 1) d
def anyN (p : Nat → Bool) (i n : Nat) : Bool := anyF p i (n - i)
theorem anyN_end {p : Nat → Bool} {n : Nat} : anyN p n n = false := by simp [anyN, anyF]
theorem anyN_step {p : Nat → Bool} {i n : Nat} (h : i < n) : anyN p i n = (p i || anyN p (i + 1) n) := by
  have : n - i = (n - (i + 1)) + 1 := by omega
  unfold anyN; rw [this]; rfl
theorem anyN_iff {p : Nat → Bool} {n : Nat} : ∀ {i : Nat}, anyN p i n = true ↔ ∃ j, i ≤ j ∧ j < n ∧ p j = true := by
  intro i
  induction hd : n - i generalizing i with
  | zero =>
    have : anyN p i n = false := by simp [anyN, anyF, hd]
    rw [this]; constructor
    · intro h; cases h
    · rintro ⟨j, h1, h2, _⟩; omega
  | succ d ih =>
    rw [anyN_step (by omega), Bool.or_eq_true, ih (i := i + 1) (by omega)]
    constructor
    · rintro (h | ⟨j, h1, h2, h3⟩)
      · exact ⟨i, Nat.le_refl _, by omega, h⟩
      · exact ⟨j, by omega, h2, h3⟩
    · rintro ⟨j, h1, h2, h3⟩
      rcases Nat.eq_or_lt_of_le h1 with rfl | h4
      · exact .inl h3
      · exact .inr ⟨j, h4, h2, h3⟩
theorem inR_nat {n : Nat} (h : n ≤ 1000000) : inR ((n : Int) + 1) := by unfold inR; omega
theorem rd_mem {α : Type} [Inhabited α] {l : List α} {x : Int} (h0 : 0 ≤ x) (h : x < (l.length : Int)) : rd l x ∈ l := by
  have : x.toNat < l.length := by omega
  simp [rd, List.getD, List.getElem?_eq_getElem this]

/-! ### Is there one? -/
end Go.Proofs.YthmdmchmmgmblaaGreat

namespace Go.Proofs.YthmdmchmmgmblaaGreat
open Go Go.Abs

def letterB (c : Int) : Bool := (decide (c ≥ 97) && decide (c ≤ 122)) || (decide (c ≥ 65) && decide (c ≤ 90))
def digitB (c : Int) : Bool := decide (c ≥ 48) && decide (c ≤ 57)
def partB (c : Int) : Bool := (letterB c || digitB c) || c == 95
def stopF (p : Nat → Bool) : Nat → Nat → Nat
  | i, 0 => i
  | i, d + 1 => bif p i then stopF p (i + 1) d else i
def stopN (p : Nat → Bool) (i n : Nat) : Nat := stopF p i (n - i)
def isNameB (s : Str) : Bool := (s != []) && (letterB (bt s 0) && (decide (stopN (fun j => partB (bt s (j : Int))) 0 s.length ≤ 20) && stopN (fun j => partB (bt s (j : Int))) 0 s.length == s.length))

end Go.Proofs.YthmdmchmmgmblaaGreat

namespace Go.Proofs.YthmdmchmmgmblaaGreat
open Go Go.Abs

structure FewA (x : Attr) : Prop where
  name : x.fName.length ≤ 40
  names : x.fNames.length ≤ 25
  each : ∀ s ∈ x.fNames, s.length ≤ 40
structure FewT (t : Types) : Prop where
  nodes : t.fNodes.length ≤ 20
  edges : t.fEdges.length ≤ 30
  nname : ∀ n ∈ t.fNodes, n.fName.length ≤ 40
  nattr : ∀ n ∈ t.fNodes, n.fAttrs.length ≤ 30
  attr : ∀ n ∈ t.fNodes, ∀ x ∈ n.fAttrs, FewA x
  ename : ∀ x ∈ t.fEdges, x.fName.length ≤ 40

def namesErr (l : List Str) (i : Nat) : Int := bif !isNameB (rd l (i : Int)) then 2 else bif anyN (fun j => rd l (j : Int) == rd l (i : Int)) 0 i then 5 else 0
def namesS (l : List Str) : Int := bif decide ((l.length : Int) > 20) then 3 else scan (namesErr l) 0 l.length
def attrOwn (x : Attr) : Int :=
  bif namesS x.fNames != 0 then namesS x.fNames
  else bif decide ((x.fNames.length : Int) > 0) then (bif x.fLow == 0 && x.fHigh == (x.fNames.length : Int) - 1 then 0 else 6)
  else (bif decide (-1000000 ≤ x.fLow) && (decide (x.fLow ≤ x.fHigh) && decide (x.fHigh ≤ 1000000)) then 0 else 6)
def attrErr (all : List Attr) (i : Nat) : Int :=
  bif !isNameB (rd all (i : Int)).fName then 2 else bif anyN (fun j => (rd all (j : Int)).fName == (rd all (i : Int)).fName) 0 i then 5 else attrOwn (rd all (i : Int))
def attrsS (ns : List NodeType) : Nat → Int → List Attr
  | 0, _ => []
  | d + 1, a => bif decide (a < 0) then [] else attrsS ns d (rd ns a).fParent ++ (rd ns a).fAttrs
def WfP (ns : List NodeType) (n : Nat) : Prop := n ≤ ns.length ∧ ∀ j : Nat, j < n → -1 ≤ (rd ns (j : Int)).fParent ∧ (rd ns (j : Int)).fParent < (j : Int)
def nodeErr (t : Types) (i : Nat) : Int :=
  bif !isNameB (rd t.fNodes (i : Int)).fName then 2
  else bif anyN (fun j => (rd t.fNodes (j : Int)).fName == (rd t.fNodes (i : Int)).fName) 0 i then 5
  else bif decide ((rd t.fNodes (i : Int)).fParent < -1) || decide ((rd t.fNodes (i : Int)).fParent ≥ (i : Int)) then 6
  else bif decide (((rd t.fNodes (i : Int)).fAttrs.length : Int) > 4) then 3
  else bif decide (((attrsS t.fNodes 100 (i : Int)).length : Int) > 8) then 3
  else scan (attrErr (attrsS t.fNodes 100 (i : Int))) ((attrsS t.fNodes 100 (i : Int)).length - (rd t.fNodes (i : Int)).fAttrs.length) (attrsS t.fNodes 100 (i : Int)).length
def boundB (a b : Int) : Bool := decide (a ≥ 0) && (decide (a ≤ 40) && (b == -1 || (decide (b ≥ a) && decide (b ≤ 40))))
def insB (a : Int) (t : Types) : Bool := decide (a ≥ 0) && decide (a < (t.fNodes.length : Int))
def edgeErr (t : Types) (i : Nat) : Int :=
  bif !isNameB (rd t.fEdges (i : Int)).fName then 2
  else bif anyN (fun j => (rd t.fEdges (j : Int)).fName == (rd t.fEdges (i : Int)).fName) 0 i then 5
  else bif insB (rd t.fEdges (i : Int)).fFrom t && (insB (rd t.fEdges (i : Int)).fTo t && (boundB (rd t.fEdges (i : Int)).fOutLow (rd t.fEdges (i : Int)).fOutHigh && boundB (rd t.fEdges (i : Int)).fInLow (rd t.fEdges (i : Int)).fInHigh)) then 0 else 6
def valid2S (t : Types) (i : Nat) : Int := bif scan (nodeErr t) i t.fNodes.length != 0 then scan (nodeErr t) i t.fNodes.length else scan (edgeErr t) 0 t.fEdges.length
def validS (t : Types) : Int :=
  bif ((t.fNodes.length : Int) == 0) then 7 else bif decide ((t.fNodes.length : Int) > 12) || decide ((t.fEdges.length : Int) > 20) then 3 else valid2S t 0
end Go.Proofs.YthmdmchmmgmblaaGreat

namespace Go.Proofs.YthmdmchmmgmblaaGreat
open Go Go.Abs

def kindB (x : Int) : Bool := decide (x ≥ 0) && decide (x ≤ 99)
def ltB (x n : Int) : Bool := decide (x ≥ 0) && decide (x < n)
def rightB (e : Edge) (n : Int) : Bool := kindB e.fType && (ltB e.fFrom n && ltB e.fTo n)
structure FewG (g : Graph) : Prop where
  nodes : g.fNodes.length ≤ 45
  edges : g.fEdges.length ≤ 90

def edges6 (g : Graph) (i : Nat) : Int := bif anyN (fun j => !rightB (rd g.fEdges (j : Int)) (g.fNodes.length : Int)) i g.fEdges.length then 6 else 0
def nodes6 (g : Graph) (i : Nat) : Int := bif anyN (fun j => !kindB (rd g.fNodes (j : Int))) i g.fNodes.length then 6 else edges6 g 0
def graphErr (g : Graph) : Int := bif decide ((g.fNodes.length : Int) > 40) || decide ((g.fEdges.length : Int) > 80) then 3 else nodes6 g 0
structure GoodG (g : Graph) : Prop where
  nodes : g.fNodes.length ≤ 40
  edges : g.fEdges.length ≤ 80
  kind : ∀ j : Nat, j < g.fNodes.length → 0 ≤ rd g.fNodes (j : Int) ∧ rd g.fNodes (j : Int) ≤ 99
  right : ∀ j : Nat, j < g.fEdges.length → 0 ≤ (rd g.fEdges (j : Int)).fType ∧ (0 ≤ (rd g.fEdges (j : Int)).fFrom ∧ (rd g.fEdges (j : Int)).fFrom < (g.fNodes.length : Int)) ∧ (0 ≤ (rd g.fEdges (j : Int)).fTo ∧ (rd g.fEdges (j : Int)).fTo < (g.fNodes.length : Int))
theorem anyN_false {p : Nat → Bool} {i n : Nat} (h : anyN p i n = false) : ∀ j, i ≤ j → j < n → p j = false := fun j h1 h2 => by
  cases hp : p j with
  | false => rfl
  | true => rw [anyN_iff.2 ⟨j, h1, h2, hp⟩] at h; cases h
theorem anyN_none {p : Nat → Bool} {i n : Nat} (h : ∀ j, i ≤ j → j < n → p j = false) : anyN p i n = false := by
  cases hp : anyN p i n with
  | false => rfl
  | true => obtain ⟨j, h1, h2, h3⟩ := anyN_iff.1 hp; rw [h j h1 h2] at h3; cases h3
def typedB (t : Types) (g : Graph) : Bool := !anyN (fun j => decide (rd g.fNodes (j : Int) ≥ (t.fNodes.length : Int))) 0 g.fNodes.length && !anyN (fun j => decide ((rd g.fEdges (j : Int)).fType ≥ (t.fEdges.length : Int))) 0 g.fEdges.length
def givenS (t : Types) (p g : Graph) : Int :=
  bif validS t != 0 then validS t else bif graphErr p != 0 then graphErr p else bif graphErr g != 0 then graphErr g else bif typedB t p && typedB t g then 0 else 13
structure Small (t : Types) (p g : Graph) : Prop where
  t : FewT t
  p : FewG p
  g : FewG g
structure Fine (t : Types) (p g : Graph) : Prop where
  ok : validS t = 0
  gp : GoodG p
  gg : GoodG g
  tp : typedB t p = true
  tg : typedB t g = true
/-! ### What is small -/
structure FewN (n : NodeType) : Prop where
  name : n.fName.length ≤ 40
  attrs : n.fAttrs.length ≤ 30
  attr : ∀ j : Nat, j < n.fAttrs.length → FewA (rd n.fAttrs (j : Int))
theorem ref05_Few_eq {k : Nat} (g : Graph) : ref05_Few k g = some (decide ((g.fNodes.length : Int) ≤ 45) && decide ((g.fEdges.length : Int) ≤ 90)) := by
  simp only [ref05_Few, jn]; cases decide ((g.fNodes.length : Int) ≤ 45) <;> rfl
structure LightP (t : Types) (p g : Graph) : Prop where
  small : Small t p g
  few : givenS t p g = 0 → p.fNodes.length + p.fEdges.length ≤ 6 ∧ g.fNodes.length ≤ 8 ∧ g.fEdges.length ≤ 12
end Go.Proofs.YthmdmchmmgmblaaGreat

namespace Go.Proofs.YthmdmchmmgmblaaGreat
open Go Go.Abs

def chain (ns : List NodeType) : Nat → Int → List Int
  | 0, _ => []
  | d + 1, a => bif decide (a < 0) then [] else a :: chain ns d (rd ns a).fParent
def isB (ns : List NodeType) (a b : Int) : Bool := decide (b ∈ chain ns 100 a)
structure Table (ns : List NodeType) (M : List (List Bool)) (i : Nat) : Prop where
  len : M.length = i
  row : ∀ a : Nat, a < i → (rd M (a : Int)).length = ns.length
  at' : ∀ a : Nat, a < i → ∀ b : Nat, b < ns.length → rd (rd M (a : Int)) (b : Int) = isB ns (b : Int) (a : Int)
end Go.Proofs.YthmdmchmmgmblaaGreat

namespace Go.Proofs.YthmdmchmmgmblaaGreat
open Go Go.Abs

/-- The pattern with the types of the images. -/
structure InstP (p g : Graph) (m : Morphism) (r : Graph × Int) : Prop where
  ok : r.2 = 0
  edges : r.1.fEdges = p.fEdges
  len : r.1.fNodes.length = m.fNodes.length
  at' : ∀ j : Nat, j < m.fNodes.length → rd r.1.fNodes (j : Int) = rd g.fNodes (rd m.fNodes (j : Int))
end Go.Proofs.YthmdmchmmgmblaaGreat

namespace Go.Proofs.YthmdmchmmgmblaaGreat
open Go Go.Abs

/-- A problem: pattern, graph, node types, given images (-1: none), injective or not. -/
structure Pb where
  p : Graph
  g : Graph
  ns : List NodeType
  pn : Int → Int
  pe : Int → Int
  inj : Bool
def eqE (q : Pb) (l : List Int) (i k : Int) : Bool :=
  ((rd q.p.fEdges i).fType == (rd q.g.fEdges k).fType) && (((rd q.g.fEdges k).fFrom == rd l (rd q.p.fEdges i).fFrom) && ((rd q.g.fEdges k).fTo == rd l (rd q.p.fEdges i).fTo))
/-! ### A pruned branch holds nothing -/
/-! ### Loops that carry what is found -/
/-! ### The program's way -/
/-- What a search is about; the sizes are those of a light case. -/
structure Ctx (q : Pb) : Prop where
  gp : GoodG q.p
  gg : GoodG q.g
  tp : ∀ j : Nat, j < q.p.fNodes.length → rd q.p.fNodes (j : Int) < (q.ns.length : Int)
  tg : ∀ j : Nat, j < q.g.fNodes.length → rd q.g.fNodes (j : Int) < (q.ns.length : Int)
  wf : WfP q.ns q.ns.length
  few : q.ns.length ≤ 50
end Go.Proofs.YthmdmchmmgmblaaGreat

namespace Go.Proofs.YthmdmchmmgmblaaGreat
open Go Go.Abs

/-! ### The reference's way -/
structure RefP (q : Pb) (t : Types) (part : Morphism) : Prop where
  ns : t.fNodes = q.ns
  ln : part.fNodes.length = q.p.fNodes.length
  le : part.fEdges.length = q.p.fEdges.length
  pn : ∀ i : Nat, i < q.p.fNodes.length → rd part.fNodes (i : Int) = q.pn (i : Int)
  pe : ∀ i : Nat, i < q.p.fEdges.length → rd part.fEdges (i : Int) = q.pe (i : Int)
end Go.Proofs.YthmdmchmmgmblaaGreat

namespace Go.Proofs.YthmdmchmmgmblaaGreat
open Go Go.Abs

/-- A match without images. -/
structure AllNeg (p : Graph) (m : Morphism) : Prop where
  ln : m.fNodes.length = p.fNodes.length
  le : m.fEdges.length = p.fEdges.length
  n : ∀ i : Nat, i < p.fNodes.length → rd m.fNodes (i : Int) = -1
  e : ∀ i : Nat, i < p.fEdges.length → rd m.fEdges (i : Int) = -1
end Go.Proofs.YthmdmchmmgmblaaGreat

namespace Go.Proofs.YthmdmchmmgmblaaGreat
open Go Go.Abs

/-! ### All: what is found is a match, and in order -/
structure EdgesOk (q : Pb) (l e : List Int) : Prop where
  fit : ∀ i : Nat, i < e.length → 0 ≤ rd e (i : Int) ∧ rd e (i : Int) < (q.g.fEdges.length : Int) ∧ eqE q l (i : Int) (rd e (i : Int)) = true
  inj : q.inj = true → e.Nodup
structure NodesOk (q : Pb) (l : List Int) : Prop where
  fit : ∀ i : Nat, i < l.length → 0 ≤ rd l (i : Int) ∧ rd l (i : Int) < (q.g.fNodes.length : Int) ∧ isB q.ns (rd q.g.fNodes (rd l (i : Int))) (rd q.p.fNodes (i : Int)) = true
  inj : q.inj = true → l.Nodup
end Go.Proofs.YthmdmchmmgmblaaGreat

namespace Go.Proofs.YthmdmchmmgmblaaGreat
open Go Go.Abs

theorem take_rdA {α : Type} [Inhabited α] {l : List α} {i : Nat} (hi : i < l.length) : l.take (i + 1) = l.take i ++ [rd l (i : Int)] := by
  have : rd l (i : Int) = l[i] := by simp [rd, List.getD, List.getElem?_eq_getElem hi]
  rw [this, List.take_succ_eq_append_getElem hi]
end Go.Proofs.YthmdmchmmgmblaaGreat

namespace Go.Proofs.YthmdmchmmgmblaaGreat
open Go Go.Abs

/-- A type graph without error, and a graph whose nodes have its types. -/
structure Over (t : Types) (g : Graph) : Prop where
  few : FewT t
  val : validS t = 0
  nodes : ∀ x ∈ g.fNodes, 0 ≤ x ∧ x < (t.fNodes.length : Int)
  len : g.fNodes.length ≤ 45
/-! ### Tests -/
end Go.Proofs.YthmdmchmmgmblaaGreat

namespace Go.Proofs.YthmdmchmmgmblaaGreat
open Go Go.Abs

def firstF (e : Nat → Int) (z : Int × Int) : Nat → Nat → Int × Int
  | _, 0 => z
  | i, d + 1 => bif e i != 0 then ((i : Int), e i) else firstF e z (i + 1) d
/-- The first place with an error, and it; else 'z'. -/
def first (e : Nat → Int) (z : Int × Int) (i n : Nat) : Int × Int := firstF e z i (n - i)
def outB (l : List Attr) (vs : List Int) (i : Nat) : Bool := decide (rd vs (i : Int) < (rd l (i : Int)).fLow) || decide (rd vs (i : Int) > (rd l (i : Int)).fHigh)
def nodeV (t : Types) (kind : Int) (vs : List Int) : Int :=
  bif decide (kind ≥ (t.fNodes.length : Int)) then 6 else bif (rd t.fNodes kind).fAbstract then 13 else bif ((vs.length : Int) != ((attrsS t.fNodes t.fNodes.length kind).length : Int)) then 20
  else bif anyN (outB (attrsS t.fNodes t.fNodes.length kind) vs) 0 (attrsS t.fNodes t.fNodes.length kind).length then 6 else 0
end Go.Proofs.YthmdmchmmgmblaaGreat

namespace Go.Proofs.YthmdmchmmgmblaaGreat
open Go Go.Abs

structure FewH (h : Host) : Prop where
  graph : FewG h.fGraph
  len : h.fValues.length ≤ 45
  each : ∀ j : Nat, j < h.fValues.length → (rd h.fValues (j : Int)).length ≤ 12
theorem few15_out {k : Nat} (hk : 200 ≤ k) (h : Host) : Out (ref15_Few k h) (fun b => b = true → FewH h) := by
  unfold ref15_Few jn; dsimp only
  rw [ref05_Few_eq, Option.bind_some]
  cases c : (decide ((h.fGraph.fNodes.length : Int) ≤ 45) && decide ((h.fGraph.fEdges.length : Int) ≤ 90)) with
  | false => exact ⟨false, rfl, fun e => by cases e⟩
  | true =>
    rw [Bool.and_eq_true, decide_eq_true_eq, decide_eq_true_eq] at c
    rw [Bool.not_true, cond_false]
    by_cases d : (h.fValues.length : Int) > 45
    · rw [decide_eq_true d, cond_true]; exact ⟨false, rfl, fun e => by cases e⟩
    · rw [decide_eq_false d, cond_false]
      refine loop1_out (I := fun i => ∀ j : Nat, j < i → (rd h.fValues (j : Int)).length ≤ 12) (P := fun _ b => b = true → FewH h) h.fValues.length (fun hI rec => ?_) (fun i hi hI rec ih => ?_) k 0 (Nat.zero_le _) (by omega) (fun j hj => by omega)
      · rw [ref15_Few.b0, decide_eq_false (show ¬ (h.fValues.length : Int) < (h.fValues.length : Int) by omega), cond_false]
        exact ⟨true, rfl, fun _ => ⟨⟨by omega, by omega⟩, by omega, hI⟩⟩
      · rw [ref15_Few.b0, decide_eq_true (show (i : Int) < (h.fValues.length : Int) by omega), cond_true, gd ⟨by omega, by omega⟩, gd (inR_nat (n := i) (by omega))]
        by_cases e : ((rd h.fValues (i : Int)).length : Int) > 12
        · rw [decide_eq_true e, cond_true]; exact ⟨false, rfl, fun e => by cases e⟩
        · rw [decide_eq_false e, cond_false]
          refine ih fun j hj => ?_
          rcases Nat.lt_succ_iff_lt_or_eq.1 hj with hj | rfl
          · exact hI j hj
          · omega
theorem copied15 {k : Nat} (hk : 200 ≤ k) {h : Host} (hh : FewH h) : ref15_Copied k h = some h := by
  have h1 := hh.graph.nodes; have h2 := hh.graph.edges; have h3 := hh.len
  unfold ref15_Copied ref05_Copied
  rw [gd (show h.fGraph.fNodes.length ≤ lim by unfold lim; omega), gd (show h.fGraph.fEdges.length ≤ lim by unfold lim; omega), Option.bind_some]
  refine Out.eq (loop2_out (S := List (List Int)) (P := fun _ _ r => r = h) (I := fun s i => s = h.fValues.take i) h.fValues.length (fun s hs rec => ?_) (fun s i hi hs rec ih => ?_) k 0 [] (Nat.zero_le _) (by omega) rfl)
  · rw [ref15_Copied.b0, decide_eq_false (show ¬ (h.fValues.length : Int) < (h.fValues.length : Int) by omega), cond_false, hs, List.take_length]; exact ⟨_, rfl, rfl⟩
  · have he := hh.each i hi
    have hsl : s.length ≤ 45 := by rw [hs, List.length_take]; omega
    rw [ref15_Copied.b0, decide_eq_true (show (i : Int) < (h.fValues.length : Int) by omega), cond_true, gd ⟨by omega, by omega⟩, gd (show (rd h.fValues (i : Int)).length ≤ lim by unfold lim; omega), gd (show s.length + 1 ≤ lim by unfold lim; omega), gd (inR_nat (n := i) (by omega))]
    exact ih _ (by rw [hs, take_rdA hi])
end Go.Proofs.YthmdmchmmgmblaaGreat

namespace Go.Proofs.YthmdmchmmgmblaaGreat
open Go Go.Abs

structure HostOk (t : Types) (h : Host) : Prop where
  val : validS t = 0
  graph : GoodG h.fGraph
  len : h.fValues.length = h.fGraph.fNodes.length
  node : ∀ j, j < h.fGraph.fNodes.length → nodeV t (rd h.fGraph.fNodes (j : Int)) (rd h.fValues (j : Int)) = 0
end Go.Proofs.YthmdmchmmgmblaaGreat

namespace Go.Proofs.YthmdmchmmgmblaaGreat
open Go Go.Abs

theorem list_rd {α : Type} [Inhabited α] {l m : List α} (hl : l.length = m.length) (h : ∀ j : Nat, j < l.length → rd l (j : Int) = rd m (j : Int)) : l = m := by
  apply List.ext_getElem hl
  intro i h1 h2
  have := h i h1
  simpa [rd, List.getD, List.getElem?_eq_getElem h1, List.getElem?_eq_getElem h2] using this
/-- A loop that compares two lists. -/
theorem eq_loop {α : Type} [Inhabited α] [DecidableEq α] {b : (Int → Option Bool) → Int → Option Bool} {l m : List α} (hl : l.length = m.length) (hend : ∀ rec, b rec (l.length : Int) = some true)
    (hstep : ∀ i, i < l.length → ∀ rec : Int → Option Bool, b rec (i : Int) = if rd l (i : Int) = rd m (i : Int) then rec ((i : Int) + 1) else some false) {k : Nat} (hk : l.length < k) : loop1 k b 0 = some (decide (l = m)) := by
  have key : loop1 k b ((0 : Nat) : Int) = some (!anyN (fun j => !decide (rd l (j : Int) = rd m (j : Int))) 0 l.length) := by
    refine loop1_eq (fun i => !anyN (fun j => !decide (rd l (j : Int) = rd m (j : Int))) i l.length) l.length (fun rec => ?_) (fun i hi rec ih => ?_) (Nat.zero_le _) (by omega)
    · rw [hend, anyN_end]; rfl
    · rw [hstep i hi, ih, anyN_step hi]
      by_cases e : rd l (i : Int) = rd m (i : Int)
      · rw [if_pos e, decide_eq_true e, Bool.not_true, Bool.false_or]
      · rw [if_neg e, decide_eq_false e]; rfl
  have key' : loop1 k b 0 = _ := key
  rw [key']
  congr 1
  rw [Bool.eq_iff_iff, Bool.not_eq_true', decide_eq_true_eq]
  constructor
  · intro h
    exact list_rd hl fun j hj => by have := anyN_false h j (Nat.zero_le _) hj; simpa using this
  · rintro rfl
    exact anyN_none fun j _ _ => by simp
theorem wrap_zero {a b : Int} (ha : inR a) (hb : inR b) : IntKind.i64.wrap (a - b) = 0 ↔ a = b := by
  unfold inR at ha hb
  simp only [IntKind.wrap, IntKind.bits, IntKind.signed, Bool.true_and, decide_eq_true_eq]
  constructor
  · intro h
    split at h <;> omega
  · rintro rfl
    simp
theorem ne_len {α : Type} {a b : List α} (h : ((a.length : Int) != (b.length : Int)) = true) : a ≠ b := by
  rintro rfl; simp at h
theorem len_eq {α : Type} {a b : List α} (h : ((a.length : Int) != (b.length : Int)) = false) : a.length = b.length := by
  simp at h; omega
theorem Equal_int {k : Nat} (a b : List Int) (hk : a.length < k) (ha : a.length ≤ 1000000) : slices_Equal_int k a b = some (decide (a = b)) := by
  unfold slices_Equal_int
  cases c : ((a.length : Int) != (b.length : Int)) with
  | true => rw [decide_eq_false (ne_len c)]; rfl
  | false =>
    have hl := len_eq c
    rw [cond_false]
    refine eq_loop hl (fun rec => ?_) (fun i hi rec => ?_) hk
    · rw [slices_Equal_int.b0, decide_eq_false (show ¬ (a.length : Int) < (a.length : Int) by omega), cond_false]
    · rw [slices_Equal_int.b0, decide_eq_true (show (i : Int) < (a.length : Int) by omega), cond_true, gd ⟨by omega, by omega⟩, gd ⟨by omega, by omega⟩, gd (inR_nat (n := i) (by omega))]
      by_cases e : rd a (i : Int) = rd b (i : Int)
      · rw [e, bne_self_eq_false, if_pos rfl]; rfl
      · rw [if_neg e, show (rd a (i : Int) != rd b (i : Int)) = true by simp [e]]; rfl
theorem edge_beq (x y : Edge) : ([x.fType, x.fFrom, x.fTo] == [y.fType, y.fFrom, y.fTo]) = decide (x = y) := by
  cases x; cases y
  rw [Bool.eq_iff_iff]
  simp
theorem Equal_Edge {k : Nat} (a b : List Edge) (hk : a.length < k) (ha : a.length ≤ 1000000) : slices_Equal_Edge k a b = some (decide (a = b)) := by
  unfold slices_Equal_Edge
  cases c : ((a.length : Int) != (b.length : Int)) with
  | true => rw [decide_eq_false (ne_len c)]; rfl
  | false =>
    have hl := len_eq c
    rw [cond_false]
    refine eq_loop hl (fun rec => ?_) (fun i hi rec => ?_) hk
    · rw [slices_Equal_Edge.b0, decide_eq_false (show ¬ (a.length : Int) < (a.length : Int) by omega), cond_false]
    · rw [slices_Equal_Edge.b0, decide_eq_true (show (i : Int) < (a.length : Int) by omega), cond_true, gd ⟨by omega, by omega⟩, gd ⟨by omega, by omega⟩, gd (inR_nat (n := i) (by omega)), edge_beq]
      by_cases e : rd a (i : Int) = rd b (i : Int)
      · rw [decide_eq_true e, if_pos e]; rfl
      · rw [decide_eq_false e, if_neg e]; rfl
theorem Equal_ints {k : Nat} (a b : List (List Int)) (hk : a.length < k) (ha : a.length ≤ 1000000) (he : ∀ j : Nat, j < a.length → (rd a (j : Int)).length < k ∧ (rd a (j : Int)).length ≤ 1000000) :
    slices_EqualFunc___int k a b (fun x => slices_Equal_int k x.1 x.2) = some (decide (a = b)) := by
  unfold slices_EqualFunc___int
  cases c : ((a.length : Int) != (b.length : Int)) with
  | true => rw [decide_eq_false (ne_len c)]; rfl
  | false =>
    have hl := len_eq c
    rw [cond_false]
    refine eq_loop hl (fun rec => ?_) (fun i hi rec => ?_) hk
    · rw [slices_EqualFunc___int.b0, decide_eq_false (show ¬ (a.length : Int) < (a.length : Int) by omega), cond_false]
    · rw [slices_EqualFunc___int.b0, decide_eq_true (show (i : Int) < (a.length : Int) by omega), cond_true, gd ⟨by omega, by omega⟩, gd ⟨by omega, by omega⟩, gd (inR_nat (n := i) (by omega))]
      dsimp only
      rw [Equal_int _ _ (he i hi).1 (he i hi).2, Option.bind_some]
      by_cases e : rd a (i : Int) = rd b (i : Int)
      · rw [decide_eq_true e, if_pos e]; rfl
      · rw [decide_eq_false e, if_neg e]; rfl
theorem host_eq (a b : Host) : (decide (a.fGraph.fNodes = b.fGraph.fNodes) && (decide (a.fGraph.fEdges = b.fGraph.fEdges) && decide (a.fValues = b.fValues))) = decide (a = b) := by
  obtain ⟨⟨n, e⟩, v⟩ := a
  obtain ⟨⟨n', e'⟩, v'⟩ := b
  rw [Bool.eq_iff_iff]
  simp [and_assoc]
theorem host_Same_eq {k : Nat} (hk : 200 ≤ k) {a : Host} (ha : FewH a) (b : Host) : host_Same k a b = some (decide (a = b)) := by
  have h1 := ha.graph.nodes; have h2 := ha.graph.edges; have h3 := ha.len
  unfold host_Same jn; dsimp only
  rw [Equal_int _ _ (by omega) (by omega), Option.bind_some, ← host_eq]
  cases decide (a.fGraph.fNodes = b.fGraph.fNodes) with
  | false => rfl
  | true =>
    rw [cond_true, Equal_Edge _ _ (by omega) (by omega), Option.bind_some]
    cases decide (a.fGraph.fEdges = b.fGraph.fEdges) with
    | false => rfl
    | true =>
      rw [cond_true, Equal_ints _ _ (by omega) (by omega) (fun j hj => by have := ha.each j hj; omega), Option.bind_some]; rfl
/-! ### The reference -/
theorem compare_out {k : Nat} {a b : List Int} (hk : a.length < k) (ha : a.length ≤ 1000000) (hb : b.length ≤ 1000000) (ra : ∀ x ∈ a, inR x) (rb : ∀ x ∈ b, inR x) : Out (ref15_compare k a b) (fun r => r = 0 ↔ a = b) := by
  have := loop1_out (b := ref15_compare.b0 a b) (I := fun i => a.take i = b.take i ∧ i ≤ b.length) (P := fun _ r => r = 0 ↔ a = b) a.length (fun ⟨hI, hI2⟩ rec => ?_) (fun i hi ⟨hI, hI2⟩ rec ih => ?_) k 0 (Nat.zero_le _) (by omega) ⟨by simp, Nat.zero_le _⟩
  · exact this
  · rw [ref15_compare.b0]; unfold jn; dsimp only
    rw [decide_eq_false (show ¬ (a.length : Int) < (a.length : Int) by omega), cond_false, cond_false]
    refine ⟨_, rfl, ?_⟩
    show (_ : Int) = 0 ↔ a = b
    rw [wrap_zero (by unfold inR; omega) (by unfold inR; omega)]
    rw [List.take_length] at hI
    constructor
    · intro e
      rw [hI, List.take_of_length_le (by omega)]
    · rintro rfl; rfl
  · rw [ref15_compare.b0]; unfold jn; dsimp only
    rw [decide_eq_true (show (i : Int) < (a.length : Int) by omega), cond_true]
    by_cases c : i < b.length
    · rw [decide_eq_true (show (i : Int) < (b.length : Int) by omega), cond_true, gd ⟨by omega, by omega⟩, gd ⟨by omega, by omega⟩, gd (inR_nat (n := i) (by omega))]
      by_cases e : rd a (i : Int) = rd b (i : Int)
      · rw [e, bne_self_eq_false, cond_false]
        exact ih ⟨by rw [take_rdA hi, take_rdA c, hI, e], by omega⟩
      · rw [show (rd a (i : Int) != rd b (i : Int)) = true by simp [e], cond_true, gd ⟨by omega, by omega⟩, gd ⟨by omega, by omega⟩]
        refine ⟨_, rfl, ?_⟩
        show (_ : Int) = 0 ↔ a = b
        rw [wrap_zero (ra _ (rd_mem (by omega) (by omega))) (rb _ (rd_mem (by omega) (by omega)))]
        exact ⟨fun q => absurd q e, fun q => by rw [q]⟩
    · rw [decide_eq_false (show ¬ (i : Int) < (b.length : Int) by omega), cond_false]
      refine ⟨_, rfl, ?_⟩
      show (_ : Int) = 0 ↔ a = b
      rw [wrap_zero (by unfold inR; omega) (by unfold inR; omega)]
      constructor
      · intro q; omega
      · rintro rfl; rfl
theorem SameInts_dec {k : Nat} (a b : List Int) (hk : a.length < k) (ha : a.length ≤ 1000000) : ref05_SameInts k a b = some (decide (a = b)) := by
  unfold ref05_SameInts
  cases c : ((a.length : Int) != (b.length : Int)) with
  | true => rw [decide_eq_false (ne_len c)]; rfl
  | false =>
    have hl := len_eq c
    rw [cond_false]
    refine eq_loop hl (fun rec => ?_) (fun i hi rec => ?_) hk
    · rw [ref05_SameInts.b0, decide_eq_false (show ¬ (a.length : Int) < (a.length : Int) by omega), cond_false]
    · rw [ref05_SameInts.b0, decide_eq_true (show (i : Int) < (a.length : Int) by omega), cond_true, gd ⟨by omega, by omega⟩, gd ⟨by omega, by omega⟩, gd (inR_nat (n := i) (by omega))]
      by_cases e : rd a (i : Int) = rd b (i : Int)
      · rw [e, bne_self_eq_false, if_pos rfl]; rfl
      · rw [if_neg e, show (rd a (i : Int) != rd b (i : Int)) = true by simp [e]]; rfl
theorem graph_eq (a b : Graph) : (decide (a.fNodes = b.fNodes) && decide (a.fEdges = b.fEdges)) = decide (a = b) := by
  obtain ⟨n, e⟩ := a
  obtain ⟨n', e'⟩ := b
  rw [Bool.eq_iff_iff]
  simp
theorem ref05_Same_eq {k : Nat} (hk : 200 ≤ k) {a : Graph} (ha : FewG a) (b : Graph) : ref05_Same k a b = some (decide (a = b)) := by
  have h1 := ha.nodes; have h2 := ha.edges
  unfold ref05_Same jn; dsimp only
  rw [SameInts_dec _ _ (by omega) (by omega), Option.bind_some, ← graph_eq]
  cases decide (a.fNodes = b.fNodes) with
  | false => rfl
  | true =>
    rw [Bool.not_true, cond_false]
    cases c : ((a.fEdges.length : Int) != (b.fEdges.length : Int)) with
    | true => rw [decide_eq_false (ne_len c)]; rfl
    | false =>
      have hl := len_eq c
      rw [cond_false, Bool.true_and]
      refine eq_loop hl (fun rec => ?_) (fun i hi rec => ?_) (by omega)
      · rw [ref05_Same.b0, decide_eq_false (show ¬ (a.fEdges.length : Int) < (a.fEdges.length : Int) by omega), cond_false]
      · rw [ref05_Same.b0, decide_eq_true (show (i : Int) < (a.fEdges.length : Int) by omega), cond_true, gd ⟨by omega, by omega⟩, gd ⟨by omega, by omega⟩, gd (inR_nat (n := i) (by omega)), edge_beq]
        by_cases e : rd a.fEdges (i : Int) = rd b.fEdges (i : Int)
        · rw [decide_eq_true e, if_pos e]; rfl
        · rw [decide_eq_false e, if_neg e]; rfl
/-- All values fit 64 bits. -/
def RanH (h : Host) : Prop := ∀ l ∈ h.fValues, ∀ x ∈ l, inR x
theorem ref15_Same_eq {k : Nat} (hk : 200 ≤ k) {a b : Host} (ha : FewH a) (hb : FewH b) (ra : RanH a) (rb : RanH b) : ref15_Same k a b = some (decide (a = b)) := by
  have h3 := ha.len
  unfold ref15_Same jn; dsimp only
  rw [ref05_Same_eq hk ha.graph, Option.bind_some, ← host_eq, ← Bool.and_assoc, graph_eq]
  cases decide (a.fGraph = b.fGraph) with
  | false => rfl
  | true =>
    rw [Bool.not_true, cond_false]
    cases c : ((a.fValues.length : Int) != (b.fValues.length : Int)) with
    | true => rw [decide_eq_false (ne_len c)]; rfl
    | false =>
      have hl := len_eq c
      rw [cond_false, Bool.true_and]
      refine eq_loop hl (fun rec => ?_) (fun i hi rec => ?_) (by omega)
      · rw [ref15_Same.b0, decide_eq_false (show ¬ (a.fValues.length : Int) < (a.fValues.length : Int) by omega), cond_false]
      · have e1 := ha.each i hi; have e2 := hb.each i (by omega)
        obtain ⟨r, er, hr⟩ := compare_out (k := k) (a := rd a.fValues (i : Int)) (b := rd b.fValues (i : Int)) (by omega) (by omega) (by omega) (ra _ (rd_mem (by omega) (by omega))) (rb _ (rd_mem (by omega) (by omega)))
        rw [ref15_Same.b0, decide_eq_true (show (i : Int) < (a.fValues.length : Int) by omega), cond_true, gd ⟨by omega, by omega⟩, gd ⟨by omega, by omega⟩, gd (inR_nat (n := i) (by omega)), er, Option.bind_some]
        by_cases e : rd a.fValues (i : Int) = rd b.fValues (i : Int)
        · rw [if_pos e, hr.2 e, bne_self_eq_false]; rfl
        · rw [if_neg e, show (r != 0) = true by simp; exact fun q => e (hr.1 q)]; rfl
theorem law_sameness {k : Nat} (hk : 200 ≤ k) (aw : law15_awake k = some true) (a b : Host) (ra : RanH a) (rb : RanH b) : law15_HostSameness k a b = some true := by
  unfold law15_HostSameness jn; dsimp only
  rw [aw, Option.bind_some, Bool.not_true, cond_false, Option.bind_some]
  obtain ⟨x, ex, hx⟩ := few15_out hk a
  obtain ⟨y, ey, hy⟩ := few15_out hk b
  rw [ex, Option.bind_some]
  cases x with
  | false => rfl
  | true =>
    rw [Bool.not_true, cond_false, ey, Option.bind_some]
    cases y with
    | false => rfl
    | true =>
      have ha := hx rfl; have hb := hy rfl
      rw [Bool.not_true, cond_false, copied15 hk ha, Option.bind_some, host_Same_eq hk ha, Option.bind_some, ref15_Same_eq hk ha hb ra rb, Option.bind_some, beq_self_eq_true, cond_true, Option.bind_some, host_Same_eq hk ha, Option.bind_some]
      simp
end Go.Proofs.YthmdmchmmgmblaaGreat
