/-
  No cell of these rows narrows 'for every input' (looked for: loops, veiled, ifaces, maps, wideKeys, modest, calm, conditions, laid).
  DERIVED. THE GIVEN ROWS OF THIS SEAT. 4 by the template 'for every input the law returns true; each argument reads behind the call as it read before'; 0 by the template 'total and deterministic' (their statements: YtcecekmhikmkhaaTotals.lean).
  GIVEN WITH THE SEED: the statements are not yours to turn. If you find one false, say at which input.
  Laid BY PROGRAM, IN A SANDBOX (cutbox-rows.mjs): the forced cells as the released guide's own fill.sh prints them over the translation 16f982cd8dde777f… (all of the seat's roots in one cut). By AI agents, Wed Nov 11 2026. No macro, syntax, notation, axiom, sorry.
-/
import Derived.Test.YtcecekmhikmkhaaChecked
import GoSem.Claim
import GoSem.ClaimJoined
import GoSem.ClaimMapViews
import Derived.JoinedTies
import Derived.KernelRfl
namespace Go.Proofs.Ytcecekmhikmkhaa
/- THE CELL 'sum', in the pinned program and in every row, IS THE sha256 OF THE DUMP (.gsa) THAT YtcecekmhikmkhaaProg.lean LOADS. Nothing in Lean hashes anything: it is a label: what it is worth is what the hold of that sum in a sandbox is worth. -/
noncomputable def Try.pinned : Pinned := { name := "ytcecekmhikmkhaa", sum := "16f982cd8dde777f1759cfd7c7ccc42b2253a5463632058c0350023fa8a4890e", checked := Try.checked }
namespace Rows
def none {H : Type} : Left H := { results := [], args := [] }

/-- 'semvcslaw28.Merge3Merges': WHATEVER THE INPUT: true; the input reads as it did. -/
def merge3MergesSpec : ChangeSpec := { name := "merge3Merges", fn := fun _ => fun
  | [d1, d2, d3] => { results := [.lit (.bool true)], args := [d1, d2, d3] }
  | _ => none }
def merge3MergesRow : OpenClaim := { program := "ytcecekmhikmkhaa", sum := "16f982cd8dde777f1759cfd7c7ccc42b2253a5463632058c0350023fa8a4890e", func := "semvcs/semvcslaw28.Merge3Merges", spec := "merge3Merges", unfollowed := true, recurses := true, apart := false }
def Merge3MergesSaid : Prop := merge3MergesRow.holds Try.pinned (OpenSpec.ofChange merge3MergesSpec)

/-- ITS FALSE NEIGHBOUR: 'it returns false'. Refute it at one input. -/
def merge3MergesWrong : ChangeSpec := { name := "merge3Merges", fn := fun _ => fun
  | [d1, d2, d3] => { results := [.lit (.bool false)], args := [d1, d2, d3] }
  | _ => none }
def Merge3MergesWrongFalsely : Prop := merge3MergesRow.holds Try.pinned (OpenSpec.ofChange merge3MergesWrong)

/-- 'semvcslaw28.Merge3Changes': WHATEVER THE INPUT: true; the input reads as it did. -/
def merge3ChangesSpec : ChangeSpec := { name := "merge3Changes", fn := fun _ => fun
  | [d1, d2, d3] => { results := [.lit (.bool true)], args := [d1, d2, d3] }
  | _ => none }
def merge3ChangesRow : OpenClaim := { program := "ytcecekmhikmkhaa", sum := "16f982cd8dde777f1759cfd7c7ccc42b2253a5463632058c0350023fa8a4890e", func := "semvcs/semvcslaw28.Merge3Changes", spec := "merge3Changes", unfollowed := true, recurses := true, apart := false }
def Merge3ChangesSaid : Prop := merge3ChangesRow.holds Try.pinned (OpenSpec.ofChange merge3ChangesSpec)

/-- ITS FALSE NEIGHBOUR: 'it returns false'. Refute it at one input. -/
def merge3ChangesWrong : ChangeSpec := { name := "merge3Changes", fn := fun _ => fun
  | [d1, d2, d3] => { results := [.lit (.bool false)], args := [d1, d2, d3] }
  | _ => none }
def Merge3ChangesWrongFalsely : Prop := merge3ChangesRow.holds Try.pinned (OpenSpec.ofChange merge3ChangesWrong)

/-- 'semvcslaw28.Merge3Sides': WHATEVER THE INPUT: true; the input reads as it did. -/
def merge3SidesSpec : ChangeSpec := { name := "merge3Sides", fn := fun _ => fun
  | [d1, d2, d3] => { results := [.lit (.bool true)], args := [d1, d2, d3] }
  | _ => none }
def merge3SidesRow : OpenClaim := { program := "ytcecekmhikmkhaa", sum := "16f982cd8dde777f1759cfd7c7ccc42b2253a5463632058c0350023fa8a4890e", func := "semvcs/semvcslaw28.Merge3Sides", spec := "merge3Sides", unfollowed := true, recurses := true, apart := false }
def Merge3SidesSaid : Prop := merge3SidesRow.holds Try.pinned (OpenSpec.ofChange merge3SidesSpec)

/-- ITS FALSE NEIGHBOUR: 'it returns false'. Refute it at one input. -/
def merge3SidesWrong : ChangeSpec := { name := "merge3Sides", fn := fun _ => fun
  | [d1, d2, d3] => { results := [.lit (.bool false)], args := [d1, d2, d3] }
  | _ => none }
def Merge3SidesWrongFalsely : Prop := merge3SidesRow.holds Try.pinned (OpenSpec.ofChange merge3SidesWrong)

/-- 'semvcslaw28.Merge3Laws': WHATEVER THE INPUT: true; the input reads as it did. -/
def merge3LawsSpec : ChangeSpec := { name := "merge3Laws", fn := fun _ => fun
  | [d1, d2, d3] => { results := [.lit (.bool true)], args := [d1, d2, d3] }
  | _ => none }
def merge3LawsRow : OpenClaim := { program := "ytcecekmhikmkhaa", sum := "16f982cd8dde777f1759cfd7c7ccc42b2253a5463632058c0350023fa8a4890e", func := "semvcs/semvcslaw28.Merge3Laws", spec := "merge3Laws", unfollowed := true, recurses := true, apart := false }
def Merge3LawsSaid : Prop := merge3LawsRow.holds Try.pinned (OpenSpec.ofChange merge3LawsSpec)

/-- ITS FALSE NEIGHBOUR: 'it returns false'. Refute it at one input. -/
def merge3LawsWrong : ChangeSpec := { name := "merge3Laws", fn := fun _ => fun
  | [d1, d2, d3] => { results := [.lit (.bool false)], args := [d1, d2, d3] }
  | _ => none }
def Merge3LawsWrongFalsely : Prop := merge3LawsRow.holds Try.pinned (OpenSpec.ofChange merge3LawsWrong)

/- THE SECOND FORM. 'bulk': how many values and letters a reading holds, each counted each time it is reached (what is shared counts as often as it is met; a slice's spare places count too). A statement '..UptoSaid' is the law's where the arguments, and the package variables that the reading takes, are together of bulk at most 1048576: NARROWER than '..Said'. Prove '..Said' where nothing that the law and all that it calls make is longer than what came in: it says more and counts as full. Else prove '..UptoSaid'. A law counts once. -/
mutual
def uptoBulk {H : Type} : DataW H → Nat
  | .lit (.string bytes) => bytes.length + 1
  | .lit _ => 1
  | .nil => 1
  | .ptr d => uptoBulk d + 1
  | .slice elems spare => uptoBulkAll elems + uptoBulkAll spare + 1
  | .agg parts => uptoBulkAll parts + 1
  | .iface _ d => uptoBulk d + 1
  | .map entries => uptoBulkEntries entries + 1
  | .held _ => 1
def uptoBulkAll {H : Type} : List (DataW H) → Nat
  | [] => 0
  | d :: r => uptoBulk d + uptoBulkAll r
def uptoBulkEntries {H : Type} : List (Lit × DataW H) → Nat
  | [] => 0
  | x :: r => uptoBulkEntry x + uptoBulkEntries r
def uptoBulkEntry {H : Type} : Lit × DataW H → Nat
  | (.string bytes, d) => bytes.length + uptoBulk d + 1
  | (_, d) => uptoBulk d + 1
 end
def uptoSmall : (H : Type) → List (DataW H) → Bool := fun _ ds => decide (uptoBulkAll ds ≤ 1048576)
def OpenSpec.upto (s : _root_.Go.ChangeSpec) : _root_.Go.OpenSpec := { _root_.Go.OpenSpec.ofChange s with cond := some uptoSmall }

/-- 'semvcslaw28.Merge3Merges', WHERE WHAT IT READS IS OF BULK AT MOST 1048576: true; the input reads as it did. -/
def merge3MergesUptoRow : OpenClaim := { program := "ytcecekmhikmkhaa", sum := "16f982cd8dde777f1759cfd7c7ccc42b2253a5463632058c0350023fa8a4890e", func := "semvcs/semvcslaw28.Merge3Merges", spec := "merge3Merges", unfollowed := true, recurses := true, apart := false, narrowed := true }
def Merge3MergesUptoSaid : Prop := merge3MergesUptoRow.holds Try.pinned (OpenSpec.upto merge3MergesSpec)

/-- 'semvcslaw28.Merge3Changes', WHERE WHAT IT READS IS OF BULK AT MOST 1048576: true; the input reads as it did. -/
def merge3ChangesUptoRow : OpenClaim := { program := "ytcecekmhikmkhaa", sum := "16f982cd8dde777f1759cfd7c7ccc42b2253a5463632058c0350023fa8a4890e", func := "semvcs/semvcslaw28.Merge3Changes", spec := "merge3Changes", unfollowed := true, recurses := true, apart := false, narrowed := true }
def Merge3ChangesUptoSaid : Prop := merge3ChangesUptoRow.holds Try.pinned (OpenSpec.upto merge3ChangesSpec)

/-- 'semvcslaw28.Merge3Sides', WHERE WHAT IT READS IS OF BULK AT MOST 1048576: true; the input reads as it did. -/
def merge3SidesUptoRow : OpenClaim := { program := "ytcecekmhikmkhaa", sum := "16f982cd8dde777f1759cfd7c7ccc42b2253a5463632058c0350023fa8a4890e", func := "semvcs/semvcslaw28.Merge3Sides", spec := "merge3Sides", unfollowed := true, recurses := true, apart := false, narrowed := true }
def Merge3SidesUptoSaid : Prop := merge3SidesUptoRow.holds Try.pinned (OpenSpec.upto merge3SidesSpec)

/-- 'semvcslaw28.Merge3Laws', WHERE WHAT IT READS IS OF BULK AT MOST 1048576: true; the input reads as it did. -/
def merge3LawsUptoRow : OpenClaim := { program := "ytcecekmhikmkhaa", sum := "16f982cd8dde777f1759cfd7c7ccc42b2253a5463632058c0350023fa8a4890e", func := "semvcs/semvcslaw28.Merge3Laws", spec := "merge3Laws", unfollowed := true, recurses := true, apart := false, narrowed := true }
def Merge3LawsUptoSaid : Prop := merge3LawsUptoRow.holds Try.pinned (OpenSpec.upto merge3LawsSpec)

end Rows
end Go.Proofs.Ytcecekmhikmkhaa
