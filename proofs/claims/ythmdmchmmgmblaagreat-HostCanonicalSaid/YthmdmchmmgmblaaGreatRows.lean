/-
  No cell of these rows narrows 'for every input' (looked for: loops, veiled, ifaces, maps, wideKeys, modest, calm, conditions, laid).
  DERIVED. THE GIVEN ROWS OF THIS SEAT. 8 by the template 'for every input the law returns true; each argument reads behind the call as it read before'; 0 by the template 'total and deterministic' (their statements: YthmdmchmmgmblaaGreatTotals.lean).
  GIVEN WITH THE SEED: the statements are not yours to turn. If you find one false, say at which input.
  Laid BY PROGRAM, IN A SANDBOX (cutbox-rows.mjs): the forced cells as the released guide's own fill.sh prints them over the translation 407028cf199b909a… (all of the seat's roots in one cut). By AI agents, Wed Nov 11 2026. No macro, syntax, notation, axiom, sorry.
-/
import Derived.Test.YthmdmchmmgmblaaGreatChecked
import GoSem.Claim
import GoSem.ClaimJoined
import GoSem.ClaimMapViews
import Derived.JoinedTies
import Derived.KernelRfl
namespace Go.Proofs.YthmdmchmmgmblaaGreat
/- THE CELL 'sum', in the pinned program and in every row, IS THE sha256 OF THE DUMP (.gsa) THAT YthmdmchmmgmblaaGreatProg.lean LOADS. Nothing in Lean hashes anything: it is a label: what it is worth is what the hold of that sum in a sandbox is worth. -/
noncomputable def Tryz.pinned : Pinned := { name := "ythmdmchmmgmblaagreat", sum := "407028cf199b909a8f5007e9b9e41bdbf899e9197758775c38dd8d9b5ff3d06d", checked := Tryz.checked }
namespace Rows
def none {H : Type} : Left H := { results := [], args := [] }

/-- 'scarfjointlaw15.HostValid': WHATEVER THE INPUT: true; the input reads as it did. -/
def hostValidSpec : ChangeSpec := { name := "hostValid", fn := fun _ => fun
  | [d1, d2] => { results := [.lit (.bool true)], args := [d1, d2] }
  | _ => none }
def hostValidRow : OpenClaim := { program := "ythmdmchmmgmblaagreat", sum := "407028cf199b909a8f5007e9b9e41bdbf899e9197758775c38dd8d9b5ff3d06d", func := "scarfjoint/scarfjointlaw15.HostValid", spec := "hostValid", inPlace := ["internal/bytealg.IndexByteString"], unfollowed := true, recurses := true, apart := false }
def HostValidSaid : Prop := hostValidRow.holds Tryz.pinned (OpenSpec.ofChange hostValidSpec)

/-- ITS FALSE NEIGHBOUR: 'it returns false'. Refute it at one input. -/
def hostValidWrong : ChangeSpec := { name := "hostValid", fn := fun _ => fun
  | [d1, d2] => { results := [.lit (.bool false)], args := [d1, d2] }
  | _ => none }
def HostValidWrongFalsely : Prop := hostValidRow.holds Tryz.pinned (OpenSpec.ofChange hostValidWrong)

/-- 'scarfjointlaw15.HostCanonical': WHATEVER THE INPUT: true; the input reads as it did. -/
def hostCanonicalSpec : ChangeSpec := { name := "hostCanonical", fn := fun _ => fun
  | [d1, d2] => { results := [.lit (.bool true)], args := [d1, d2] }
  | _ => none }
def hostCanonicalRow : OpenClaim := { program := "ythmdmchmmgmblaagreat", sum := "407028cf199b909a8f5007e9b9e41bdbf899e9197758775c38dd8d9b5ff3d06d", func := "scarfjoint/scarfjointlaw15.HostCanonical", spec := "hostCanonical", inPlace := ["internal/bytealg.IndexByteString"], unfollowed := true, recurses := true, apart := false }
def HostCanonicalSaid : Prop := hostCanonicalRow.holds Tryz.pinned (OpenSpec.ofChange hostCanonicalSpec)

/-- ITS FALSE NEIGHBOUR: 'it returns false'. Refute it at one input. -/
def hostCanonicalWrong : ChangeSpec := { name := "hostCanonical", fn := fun _ => fun
  | [d1, d2] => { results := [.lit (.bool false)], args := [d1, d2] }
  | _ => none }
def HostCanonicalWrongFalsely : Prop := hostCanonicalRow.holds Tryz.pinned (OpenSpec.ofChange hostCanonicalWrong)

/-- 'scarfjointlaw15.HostCounts': WHATEVER THE INPUT: true; the input reads as it did. -/
def hostCountsSpec : ChangeSpec := { name := "hostCounts", fn := fun _ => fun
  | [d1, d2] => { results := [.lit (.bool true)], args := [d1, d2] }
  | _ => none }
def hostCountsRow : OpenClaim := { program := "ythmdmchmmgmblaagreat", sum := "407028cf199b909a8f5007e9b9e41bdbf899e9197758775c38dd8d9b5ff3d06d", func := "scarfjoint/scarfjointlaw15.HostCounts", spec := "hostCounts", inPlace := ["internal/bytealg.IndexByteString"], unfollowed := true, recurses := true, apart := false }
def HostCountsSaid : Prop := hostCountsRow.holds Tryz.pinned (OpenSpec.ofChange hostCountsSpec)

/-- ITS FALSE NEIGHBOUR: 'it returns false'. Refute it at one input. -/
def hostCountsWrong : ChangeSpec := { name := "hostCounts", fn := fun _ => fun
  | [d1, d2] => { results := [.lit (.bool false)], args := [d1, d2] }
  | _ => none }
def HostCountsWrongFalsely : Prop := hostCountsRow.holds Tryz.pinned (OpenSpec.ofChange hostCountsWrong)

/-- 'scarfjointlaw15.HostSameness': WHATEVER THE INPUT: true; the input reads as it did. -/
def hostSamenessSpec : ChangeSpec := { name := "hostSameness", fn := fun _ => fun
  | [d1, d2] => { results := [.lit (.bool true)], args := [d1, d2] }
  | _ => none }
def hostSamenessRow : OpenClaim := { program := "ythmdmchmmgmblaagreat", sum := "407028cf199b909a8f5007e9b9e41bdbf899e9197758775c38dd8d9b5ff3d06d", func := "scarfjoint/scarfjointlaw15.HostSameness", spec := "hostSameness", inPlace := ["internal/bytealg.IndexByteString"], unfollowed := true, recurses := true, apart := false }
def HostSamenessSaid : Prop := hostSamenessRow.holds Tryz.pinned (OpenSpec.ofChange hostSamenessSpec)

/-- ITS FALSE NEIGHBOUR: 'it returns false'. Refute it at one input. -/
def hostSamenessWrong : ChangeSpec := { name := "hostSameness", fn := fun _ => fun
  | [d1, d2] => { results := [.lit (.bool false)], args := [d1, d2] }
  | _ => none }
def HostSamenessWrongFalsely : Prop := hostSamenessRow.holds Tryz.pinned (OpenSpec.ofChange hostSamenessWrong)

/-- 'scarfjointlaw15.HostSet': WHATEVER THE INPUT: true; the input reads as it did. -/
def hostSetSpec : ChangeSpec := { name := "hostSet", fn := fun _ => fun
  | [d1, d2, d3] => { results := [.lit (.bool true)], args := [d1, d2, d3] }
  | _ => none }
def hostSetRow : OpenClaim := { program := "ythmdmchmmgmblaagreat", sum := "407028cf199b909a8f5007e9b9e41bdbf899e9197758775c38dd8d9b5ff3d06d", func := "scarfjoint/scarfjointlaw15.HostSet", spec := "hostSet", inPlace := ["internal/bytealg.IndexByteString"], unfollowed := true, recurses := true, apart := false }
def HostSetSaid : Prop := hostSetRow.holds Tryz.pinned (OpenSpec.ofChange hostSetSpec)

/-- ITS FALSE NEIGHBOUR: 'it returns false'. Refute it at one input. -/
def hostSetWrong : ChangeSpec := { name := "hostSet", fn := fun _ => fun
  | [d1, d2, d3] => { results := [.lit (.bool false)], args := [d1, d2, d3] }
  | _ => none }
def HostSetWrongFalsely : Prop := hostSetRow.holds Tryz.pinned (OpenSpec.ofChange hostSetWrong)

/-- 'scarfjointlaw15.HostFind': WHATEVER THE INPUT: true; the input reads as it did. -/
def hostFindSpec : ChangeSpec := { name := "hostFind", fn := fun _ => fun
  | [d1, d2, d3] => { results := [.lit (.bool true)], args := [d1, d2, d3] }
  | _ => none }
def hostFindRow : OpenClaim := { program := "ythmdmchmmgmblaagreat", sum := "407028cf199b909a8f5007e9b9e41bdbf899e9197758775c38dd8d9b5ff3d06d", func := "scarfjoint/scarfjointlaw15.HostFind", spec := "hostFind", inPlace := ["internal/bytealg.IndexByteString"], unfollowed := true, recurses := true, apart := false }
def HostFindSaid : Prop := hostFindRow.holds Tryz.pinned (OpenSpec.ofChange hostFindSpec)

/-- ITS FALSE NEIGHBOUR: 'it returns false'. Refute it at one input. -/
def hostFindWrong : ChangeSpec := { name := "hostFind", fn := fun _ => fun
  | [d1, d2, d3] => { results := [.lit (.bool false)], args := [d1, d2, d3] }
  | _ => none }
def HostFindWrongFalsely : Prop := hostFindRow.holds Tryz.pinned (OpenSpec.ofChange hostFindWrong)

/-- 'scarfjointlaw15.HostReordered': WHATEVER THE INPUT: true; the input reads as it did. -/
def hostReorderedSpec : ChangeSpec := { name := "hostReordered", fn := fun _ => fun
  | [d1, d2] => { results := [.lit (.bool true)], args := [d1, d2] }
  | _ => none }
def hostReorderedRow : OpenClaim := { program := "ythmdmchmmgmblaagreat", sum := "407028cf199b909a8f5007e9b9e41bdbf899e9197758775c38dd8d9b5ff3d06d", func := "scarfjoint/scarfjointlaw15.HostReordered", spec := "hostReordered", inPlace := ["internal/bytealg.IndexByteString"], unfollowed := true, recurses := true, apart := false }
def HostReorderedSaid : Prop := hostReorderedRow.holds Tryz.pinned (OpenSpec.ofChange hostReorderedSpec)

/-- ITS FALSE NEIGHBOUR: 'it returns false'. Refute it at one input. -/
def hostReorderedWrong : ChangeSpec := { name := "hostReordered", fn := fun _ => fun
  | [d1, d2] => { results := [.lit (.bool false)], args := [d1, d2] }
  | _ => none }
def HostReorderedWrongFalsely : Prop := hostReorderedRow.holds Tryz.pinned (OpenSpec.ofChange hostReorderedWrong)

/-- 'scarfjointlaw15.HostExtract': WHATEVER THE INPUT: true; the input reads as it did. -/
def hostExtractSpec : ChangeSpec := { name := "hostExtract", fn := fun _ => fun
  | [d1, d2, d3] => { results := [.lit (.bool true)], args := [d1, d2, d3] }
  | _ => none }
def hostExtractRow : OpenClaim := { program := "ythmdmchmmgmblaagreat", sum := "407028cf199b909a8f5007e9b9e41bdbf899e9197758775c38dd8d9b5ff3d06d", func := "scarfjoint/scarfjointlaw15.HostExtract", spec := "hostExtract", inPlace := ["internal/bytealg.IndexByteString"], unfollowed := true, recurses := true, apart := false }
def HostExtractSaid : Prop := hostExtractRow.holds Tryz.pinned (OpenSpec.ofChange hostExtractSpec)

/-- ITS FALSE NEIGHBOUR: 'it returns false'. Refute it at one input. -/
def hostExtractWrong : ChangeSpec := { name := "hostExtract", fn := fun _ => fun
  | [d1, d2, d3] => { results := [.lit (.bool false)], args := [d1, d2, d3] }
  | _ => none }
def HostExtractWrongFalsely : Prop := hostExtractRow.holds Tryz.pinned (OpenSpec.ofChange hostExtractWrong)

/- THE SECOND FORM. 'bulk': how many values and letters a reading holds, each counted each time it is reached (what is shared counts as often as it is met; a slice's spare places count too). A statement '..UptoSaid' is the law's where the arguments, and the package variables that the reading takes, are together of bulk at most 1048576: NARROWER than '..Said'. Prove '..Said' where nothing that the law and all that it calls make is longer than what came in: it says more and counts as full. Else prove '..UptoSaid'. A law counts once. -/
mutual
def uptoBulk {H : Type} : DataW H → Nat
  | .lit (.string bytes) => bytes.length + 1
  | .lit _ => 1
  | .nil => 1
  | .ptr d => uptoBulk d + 1
  | .slice elems spare => uptoBulkAll elems + uptoBulkAll spare + 1
  | .agg parts => uptoBulkAll parts + 1
  | .iface _ d => uptoBulk d + 1
  | .map entries => uptoBulkEntries entries + 1
  | .held _ => 1
def uptoBulkAll {H : Type} : List (DataW H) → Nat
  | [] => 0
  | d :: r => uptoBulk d + uptoBulkAll r
def uptoBulkEntries {H : Type} : List (Lit × DataW H) → Nat
  | [] => 0
  | x :: r => uptoBulkEntry x + uptoBulkEntries r
def uptoBulkEntry {H : Type} : Lit × DataW H → Nat
  | (.string bytes, d) => bytes.length + uptoBulk d + 1
  | (_, d) => uptoBulk d + 1
 end
def uptoSmall : (H : Type) → List (DataW H) → Bool := fun _ ds => decide (uptoBulkAll ds ≤ 1048576)
def OpenSpec.upto (s : _root_.Go.ChangeSpec) : _root_.Go.OpenSpec := { _root_.Go.OpenSpec.ofChange s with cond := some uptoSmall }

/-- 'scarfjointlaw15.HostValid', WHERE WHAT IT READS IS OF BULK AT MOST 1048576: true; the input reads as it did. -/
def hostValidUptoRow : OpenClaim := { program := "ythmdmchmmgmblaagreat", sum := "407028cf199b909a8f5007e9b9e41bdbf899e9197758775c38dd8d9b5ff3d06d", func := "scarfjoint/scarfjointlaw15.HostValid", spec := "hostValid", inPlace := ["internal/bytealg.IndexByteString"], unfollowed := true, recurses := true, apart := false, narrowed := true }
def HostValidUptoSaid : Prop := hostValidUptoRow.holds Tryz.pinned (OpenSpec.upto hostValidSpec)

/-- 'scarfjointlaw15.HostCanonical', WHERE WHAT IT READS IS OF BULK AT MOST 1048576: true; the input reads as it did. -/
def hostCanonicalUptoRow : OpenClaim := { program := "ythmdmchmmgmblaagreat", sum := "407028cf199b909a8f5007e9b9e41bdbf899e9197758775c38dd8d9b5ff3d06d", func := "scarfjoint/scarfjointlaw15.HostCanonical", spec := "hostCanonical", inPlace := ["internal/bytealg.IndexByteString"], unfollowed := true, recurses := true, apart := false, narrowed := true }
def HostCanonicalUptoSaid : Prop := hostCanonicalUptoRow.holds Tryz.pinned (OpenSpec.upto hostCanonicalSpec)

/-- 'scarfjointlaw15.HostCounts', WHERE WHAT IT READS IS OF BULK AT MOST 1048576: true; the input reads as it did. -/
def hostCountsUptoRow : OpenClaim := { program := "ythmdmchmmgmblaagreat", sum := "407028cf199b909a8f5007e9b9e41bdbf899e9197758775c38dd8d9b5ff3d06d", func := "scarfjoint/scarfjointlaw15.HostCounts", spec := "hostCounts", inPlace := ["internal/bytealg.IndexByteString"], unfollowed := true, recurses := true, apart := false, narrowed := true }
def HostCountsUptoSaid : Prop := hostCountsUptoRow.holds Tryz.pinned (OpenSpec.upto hostCountsSpec)

/-- 'scarfjointlaw15.HostSameness', WHERE WHAT IT READS IS OF BULK AT MOST 1048576: true; the input reads as it did. -/
def hostSamenessUptoRow : OpenClaim := { program := "ythmdmchmmgmblaagreat", sum := "407028cf199b909a8f5007e9b9e41bdbf899e9197758775c38dd8d9b5ff3d06d", func := "scarfjoint/scarfjointlaw15.HostSameness", spec := "hostSameness", inPlace := ["internal/bytealg.IndexByteString"], unfollowed := true, recurses := true, apart := false, narrowed := true }
def HostSamenessUptoSaid : Prop := hostSamenessUptoRow.holds Tryz.pinned (OpenSpec.upto hostSamenessSpec)

/-- 'scarfjointlaw15.HostSet', WHERE WHAT IT READS IS OF BULK AT MOST 1048576: true; the input reads as it did. -/
def hostSetUptoRow : OpenClaim := { program := "ythmdmchmmgmblaagreat", sum := "407028cf199b909a8f5007e9b9e41bdbf899e9197758775c38dd8d9b5ff3d06d", func := "scarfjoint/scarfjointlaw15.HostSet", spec := "hostSet", inPlace := ["internal/bytealg.IndexByteString"], unfollowed := true, recurses := true, apart := false, narrowed := true }
def HostSetUptoSaid : Prop := hostSetUptoRow.holds Tryz.pinned (OpenSpec.upto hostSetSpec)

/-- 'scarfjointlaw15.HostFind', WHERE WHAT IT READS IS OF BULK AT MOST 1048576: true; the input reads as it did. -/
def hostFindUptoRow : OpenClaim := { program := "ythmdmchmmgmblaagreat", sum := "407028cf199b909a8f5007e9b9e41bdbf899e9197758775c38dd8d9b5ff3d06d", func := "scarfjoint/scarfjointlaw15.HostFind", spec := "hostFind", inPlace := ["internal/bytealg.IndexByteString"], unfollowed := true, recurses := true, apart := false, narrowed := true }
def HostFindUptoSaid : Prop := hostFindUptoRow.holds Tryz.pinned (OpenSpec.upto hostFindSpec)

/-- 'scarfjointlaw15.HostReordered', WHERE WHAT IT READS IS OF BULK AT MOST 1048576: true; the input reads as it did. -/
def hostReorderedUptoRow : OpenClaim := { program := "ythmdmchmmgmblaagreat", sum := "407028cf199b909a8f5007e9b9e41bdbf899e9197758775c38dd8d9b5ff3d06d", func := "scarfjoint/scarfjointlaw15.HostReordered", spec := "hostReordered", inPlace := ["internal/bytealg.IndexByteString"], unfollowed := true, recurses := true, apart := false, narrowed := true }
def HostReorderedUptoSaid : Prop := hostReorderedUptoRow.holds Tryz.pinned (OpenSpec.upto hostReorderedSpec)

/-- 'scarfjointlaw15.HostExtract', WHERE WHAT IT READS IS OF BULK AT MOST 1048576: true; the input reads as it did. -/
def hostExtractUptoRow : OpenClaim := { program := "ythmdmchmmgmblaagreat", sum := "407028cf199b909a8f5007e9b9e41bdbf899e9197758775c38dd8d9b5ff3d06d", func := "scarfjoint/scarfjointlaw15.HostExtract", spec := "hostExtract", inPlace := ["internal/bytealg.IndexByteString"], unfollowed := true, recurses := true, apart := false, narrowed := true }
def HostExtractUptoSaid : Prop := hostExtractUptoRow.holds Tryz.pinned (OpenSpec.upto hostExtractSpec)

end Rows
end Go.Proofs.YthmdmchmmgmblaaGreat
