/-
  No cell of these rows narrows 'for every input' (looked for: loops, veiled, ifaces, maps, wideKeys, modest, calm, conditions, laid).
  DERIVED. THE GIVEN ROWS OF THIS SEAT. 8 by the template 'for every input the law returns true; each argument reads behind the call as it read before'; 0 by the template 'total and deterministic' (their statements: YtjddegfigdpcbaaTotals.lean).
  GIVEN WITH THE SEED: the statements are not yours to turn. If you find one false, say at which input.
  Laid BY PROGRAM, IN A SANDBOX (cutbox-rows.mjs): the forced cells as the released guide's own fill.sh prints them over the translation 04c08e57e0dc93af… (all of the seat's roots in one cut). By AI agents, Wed Nov 11 2026. No macro, syntax, notation, axiom, sorry.
-/
import Derived.Test.YtjddegfigdpcbaaChecked
import GoSem.Claim
import GoSem.ClaimJoined
import GoSem.ClaimMapViews
import Derived.JoinedTies
import Derived.KernelRfl
namespace Go.Proofs.Ytjddegfigdpcbaa
/- THE CELL 'sum', in the pinned program and in every row, IS THE sha256 OF THE DUMP (.gsa) THAT YtjddegfigdpcbaaProg.lean LOADS. Nothing in Lean hashes anything: it is a label: what it is worth is what the hold of that sum in a sandbox is worth. -/
noncomputable def Try.pinned : Pinned := { name := "ytjddegfigdpcbaa", sum := "04c08e57e0dc93afd7ae38d3236de62a461594c4073f0785d7ce1c3fcf1f29b9", checked := Try.checked }
namespace Rows
def none {H : Type} : Left H := { results := [], args := [] }

/-- 'assessorlaw18.DominatorTrees': WHATEVER THE INPUT: true; the input reads as it did. -/
def dominatorTreesSpec : ChangeSpec := { name := "dominatorTrees", fn := fun _ => fun
  | [d] => { results := [.lit (.bool true)], args := [d] }
  | _ => none }
def dominatorTreesRow : OpenClaim := { program := "ytjddegfigdpcbaa", sum := "04c08e57e0dc93afd7ae38d3236de62a461594c4073f0785d7ce1c3fcf1f29b9", func := "assessor/assessorlaw18.DominatorTrees", spec := "dominatorTrees", unfollowed := true, recurses := true, apart := false }
def DominatorTreesSaid : Prop := dominatorTreesRow.holds Try.pinned (OpenSpec.ofChange dominatorTreesSpec)

/-- ITS FALSE NEIGHBOUR: 'it returns false'. Refute it at one input. -/
def dominatorTreesWrong : ChangeSpec := { name := "dominatorTrees", fn := fun _ => fun
  | [d] => { results := [.lit (.bool false)], args := [d] }
  | _ => none }
def DominatorTreesWrongFalsely : Prop := dominatorTreesRow.holds Try.pinned (OpenSpec.ofChange dominatorTreesWrong)

/-- 'assessorlaw18.DominatorPairs': WHATEVER THE INPUT: true; the input reads as it did. -/
def dominatorPairsSpec : ChangeSpec := { name := "dominatorPairs", fn := fun _ => fun
  | [d1, d2, d3] => { results := [.lit (.bool true)], args := [d1, d2, d3] }
  | _ => none }
def dominatorPairsRow : OpenClaim := { program := "ytjddegfigdpcbaa", sum := "04c08e57e0dc93afd7ae38d3236de62a461594c4073f0785d7ce1c3fcf1f29b9", func := "assessor/assessorlaw18.DominatorPairs", spec := "dominatorPairs", unfollowed := true, recurses := true, apart := false }
def DominatorPairsSaid : Prop := dominatorPairsRow.holds Try.pinned (OpenSpec.ofChange dominatorPairsSpec)

/-- ITS FALSE NEIGHBOUR: 'it returns false'. Refute it at one input. -/
def dominatorPairsWrong : ChangeSpec := { name := "dominatorPairs", fn := fun _ => fun
  | [d1, d2, d3] => { results := [.lit (.bool false)], args := [d1, d2, d3] }
  | _ => none }
def DominatorPairsWrongFalsely : Prop := dominatorPairsRow.holds Try.pinned (OpenSpec.ofChange dominatorPairsWrong)

/-- 'assessorlaw18.DominatorControls': WHATEVER THE INPUT: true; the input reads as it did. -/
def dominatorControlsSpec : ChangeSpec := { name := "dominatorControls", fn := fun _ => fun
  | [d] => { results := [.lit (.bool true)], args := [d] }
  | _ => none }
def dominatorControlsRow : OpenClaim := { program := "ytjddegfigdpcbaa", sum := "04c08e57e0dc93afd7ae38d3236de62a461594c4073f0785d7ce1c3fcf1f29b9", func := "assessor/assessorlaw18.DominatorControls", spec := "dominatorControls", unfollowed := true, recurses := true, apart := false }
def DominatorControlsSaid : Prop := dominatorControlsRow.holds Try.pinned (OpenSpec.ofChange dominatorControlsSpec)

/-- ITS FALSE NEIGHBOUR: 'it returns false'. Refute it at one input. -/
def dominatorControlsWrong : ChangeSpec := { name := "dominatorControls", fn := fun _ => fun
  | [d] => { results := [.lit (.bool false)], args := [d] }
  | _ => none }
def DominatorControlsWrongFalsely : Prop := dominatorControlsRow.holds Try.pinned (OpenSpec.ofChange dominatorControlsWrong)

/-- 'assessorlaw18.DominatorChains': WHATEVER THE INPUT: true; the input reads as it did. -/
def dominatorChainsSpec : ChangeSpec := { name := "dominatorChains", fn := fun _ => fun
  | [d] => { results := [.lit (.bool true)], args := [d] }
  | _ => none }
def dominatorChainsRow : OpenClaim := { program := "ytjddegfigdpcbaa", sum := "04c08e57e0dc93afd7ae38d3236de62a461594c4073f0785d7ce1c3fcf1f29b9", func := "assessor/assessorlaw18.DominatorChains", spec := "dominatorChains", unfollowed := true, recurses := true, apart := false }
def DominatorChainsSaid : Prop := dominatorChainsRow.holds Try.pinned (OpenSpec.ofChange dominatorChainsSpec)

/-- ITS FALSE NEIGHBOUR: 'it returns false'. Refute it at one input. -/
def dominatorChainsWrong : ChangeSpec := { name := "dominatorChains", fn := fun _ => fun
  | [d] => { results := [.lit (.bool false)], args := [d] }
  | _ => none }
def DominatorChainsWrongFalsely : Prop := dominatorChainsRow.holds Try.pinned (OpenSpec.ofChange dominatorChainsWrong)

/-- 'assessorlaw18.DominatorDuals': WHATEVER THE INPUT: true; the input reads as it did. -/
def dominatorDualsSpec : ChangeSpec := { name := "dominatorDuals", fn := fun _ => fun
  | [d] => { results := [.lit (.bool true)], args := [d] }
  | _ => none }
def dominatorDualsRow : OpenClaim := { program := "ytjddegfigdpcbaa", sum := "04c08e57e0dc93afd7ae38d3236de62a461594c4073f0785d7ce1c3fcf1f29b9", func := "assessor/assessorlaw18.DominatorDuals", spec := "dominatorDuals", unfollowed := true, recurses := true, apart := false }
def DominatorDualsSaid : Prop := dominatorDualsRow.holds Try.pinned (OpenSpec.ofChange dominatorDualsSpec)

/-- ITS FALSE NEIGHBOUR: 'it returns false'. Refute it at one input. -/
def dominatorDualsWrong : ChangeSpec := { name := "dominatorDuals", fn := fun _ => fun
  | [d] => { results := [.lit (.bool false)], args := [d] }
  | _ => none }
def DominatorDualsWrongFalsely : Prop := dominatorDualsRow.holds Try.pinned (OpenSpec.ofChange dominatorDualsWrong)

/-- 'assessorlaw18.DominatorWalks': WHATEVER THE INPUT: true; the input reads as it did. -/
def dominatorWalksSpec : ChangeSpec := { name := "dominatorWalks", fn := fun _ => fun
  | [d1, d2] => { results := [.lit (.bool true)], args := [d1, d2] }
  | _ => none }
def dominatorWalksRow : OpenClaim := { program := "ytjddegfigdpcbaa", sum := "04c08e57e0dc93afd7ae38d3236de62a461594c4073f0785d7ce1c3fcf1f29b9", func := "assessor/assessorlaw18.DominatorWalks", spec := "dominatorWalks", unfollowed := true, recurses := true, apart := false }
def DominatorWalksSaid : Prop := dominatorWalksRow.holds Try.pinned (OpenSpec.ofChange dominatorWalksSpec)

/-- ITS FALSE NEIGHBOUR: 'it returns false'. Refute it at one input. -/
def dominatorWalksWrong : ChangeSpec := { name := "dominatorWalks", fn := fun _ => fun
  | [d1, d2] => { results := [.lit (.bool false)], args := [d1, d2] }
  | _ => none }
def DominatorWalksWrongFalsely : Prop := dominatorWalksRow.holds Try.pinned (OpenSpec.ofChange dominatorWalksWrong)

/-- 'assessorlaw18.DominatorLoops': WHATEVER THE INPUT: true; the input reads as it did. -/
def dominatorLoopsSpec : ChangeSpec := { name := "dominatorLoops", fn := fun _ => fun
  | [d] => { results := [.lit (.bool true)], args := [d] }
  | _ => none }
def dominatorLoopsRow : OpenClaim := { program := "ytjddegfigdpcbaa", sum := "04c08e57e0dc93afd7ae38d3236de62a461594c4073f0785d7ce1c3fcf1f29b9", func := "assessor/assessorlaw18.DominatorLoops", spec := "dominatorLoops", unfollowed := true, recurses := true, apart := false }
def DominatorLoopsSaid : Prop := dominatorLoopsRow.holds Try.pinned (OpenSpec.ofChange dominatorLoopsSpec)

/-- ITS FALSE NEIGHBOUR: 'it returns false'. Refute it at one input. -/
def dominatorLoopsWrong : ChangeSpec := { name := "dominatorLoops", fn := fun _ => fun
  | [d] => { results := [.lit (.bool false)], args := [d] }
  | _ => none }
def DominatorLoopsWrongFalsely : Prop := dominatorLoopsRow.holds Try.pinned (OpenSpec.ofChange dominatorLoopsWrong)

/-- 'assessorlaw18.DominatorBodies': WHATEVER THE INPUT: true; the input reads as it did. -/
def dominatorBodiesSpec : ChangeSpec := { name := "dominatorBodies", fn := fun _ => fun
  | [d] => { results := [.lit (.bool true)], args := [d] }
  | _ => none }
def dominatorBodiesRow : OpenClaim := { program := "ytjddegfigdpcbaa", sum := "04c08e57e0dc93afd7ae38d3236de62a461594c4073f0785d7ce1c3fcf1f29b9", func := "assessor/assessorlaw18.DominatorBodies", spec := "dominatorBodies", unfollowed := true, recurses := true, apart := false }
def DominatorBodiesSaid : Prop := dominatorBodiesRow.holds Try.pinned (OpenSpec.ofChange dominatorBodiesSpec)

/-- ITS FALSE NEIGHBOUR: 'it returns false'. Refute it at one input. -/
def dominatorBodiesWrong : ChangeSpec := { name := "dominatorBodies", fn := fun _ => fun
  | [d] => { results := [.lit (.bool false)], args := [d] }
  | _ => none }
def DominatorBodiesWrongFalsely : Prop := dominatorBodiesRow.holds Try.pinned (OpenSpec.ofChange dominatorBodiesWrong)

/- THE SECOND FORM. 'bulk': how many values and letters a reading holds, each counted each time it is reached (what is shared counts as often as it is met; a slice's spare places count too). A statement '..UptoSaid' is the law's where the arguments, and the package variables that the reading takes, are together of bulk at most 1048576: NARROWER than '..Said'. Prove '..Said' where nothing that the law and all that it calls make is longer than what came in: it says more and counts as full. Else prove '..UptoSaid'. A law counts once. -/
mutual
def uptoBulk {H : Type} : DataW H → Nat
  | .lit (.string bytes) => bytes.length + 1
  | .lit _ => 1
  | .nil => 1
  | .ptr d => uptoBulk d + 1
  | .slice elems spare => uptoBulkAll elems + uptoBulkAll spare + 1
  | .agg parts => uptoBulkAll parts + 1
  | .iface _ d => uptoBulk d + 1
  | .map entries => uptoBulkEntries entries + 1
  | .held _ => 1
def uptoBulkAll {H : Type} : List (DataW H) → Nat
  | [] => 0
  | d :: r => uptoBulk d + uptoBulkAll r
def uptoBulkEntries {H : Type} : List (Lit × DataW H) → Nat
  | [] => 0
  | x :: r => uptoBulkEntry x + uptoBulkEntries r
def uptoBulkEntry {H : Type} : Lit × DataW H → Nat
  | (.string bytes, d) => bytes.length + uptoBulk d + 1
  | (_, d) => uptoBulk d + 1
 end
def uptoSmall : (H : Type) → List (DataW H) → Bool := fun _ ds => decide (uptoBulkAll ds ≤ 1048576)
def OpenSpec.upto (s : _root_.Go.ChangeSpec) : _root_.Go.OpenSpec := { _root_.Go.OpenSpec.ofChange s with cond := some uptoSmall }

/-- 'assessorlaw18.DominatorTrees', WHERE WHAT IT READS IS OF BULK AT MOST 1048576: true; the input reads as it did. -/
def dominatorTreesUptoRow : OpenClaim := { program := "ytjddegfigdpcbaa", sum := "04c08e57e0dc93afd7ae38d3236de62a461594c4073f0785d7ce1c3fcf1f29b9", func := "assessor/assessorlaw18.DominatorTrees", spec := "dominatorTrees", unfollowed := true, recurses := true, apart := false, narrowed := true }
def DominatorTreesUptoSaid : Prop := dominatorTreesUptoRow.holds Try.pinned (OpenSpec.upto dominatorTreesSpec)

/-- 'assessorlaw18.DominatorPairs', WHERE WHAT IT READS IS OF BULK AT MOST 1048576: true; the input reads as it did. -/
def dominatorPairsUptoRow : OpenClaim := { program := "ytjddegfigdpcbaa", sum := "04c08e57e0dc93afd7ae38d3236de62a461594c4073f0785d7ce1c3fcf1f29b9", func := "assessor/assessorlaw18.DominatorPairs", spec := "dominatorPairs", unfollowed := true, recurses := true, apart := false, narrowed := true }
def DominatorPairsUptoSaid : Prop := dominatorPairsUptoRow.holds Try.pinned (OpenSpec.upto dominatorPairsSpec)

/-- 'assessorlaw18.DominatorControls', WHERE WHAT IT READS IS OF BULK AT MOST 1048576: true; the input reads as it did. -/
def dominatorControlsUptoRow : OpenClaim := { program := "ytjddegfigdpcbaa", sum := "04c08e57e0dc93afd7ae38d3236de62a461594c4073f0785d7ce1c3fcf1f29b9", func := "assessor/assessorlaw18.DominatorControls", spec := "dominatorControls", unfollowed := true, recurses := true, apart := false, narrowed := true }
def DominatorControlsUptoSaid : Prop := dominatorControlsUptoRow.holds Try.pinned (OpenSpec.upto dominatorControlsSpec)

/-- 'assessorlaw18.DominatorChains', WHERE WHAT IT READS IS OF BULK AT MOST 1048576: true; the input reads as it did. -/
def dominatorChainsUptoRow : OpenClaim := { program := "ytjddegfigdpcbaa", sum := "04c08e57e0dc93afd7ae38d3236de62a461594c4073f0785d7ce1c3fcf1f29b9", func := "assessor/assessorlaw18.DominatorChains", spec := "dominatorChains", unfollowed := true, recurses := true, apart := false, narrowed := true }
def DominatorChainsUptoSaid : Prop := dominatorChainsUptoRow.holds Try.pinned (OpenSpec.upto dominatorChainsSpec)

/-- 'assessorlaw18.DominatorDuals', WHERE WHAT IT READS IS OF BULK AT MOST 1048576: true; the input reads as it did. -/
def dominatorDualsUptoRow : OpenClaim := { program := "ytjddegfigdpcbaa", sum := "04c08e57e0dc93afd7ae38d3236de62a461594c4073f0785d7ce1c3fcf1f29b9", func := "assessor/assessorlaw18.DominatorDuals", spec := "dominatorDuals", unfollowed := true, recurses := true, apart := false, narrowed := true }
def DominatorDualsUptoSaid : Prop := dominatorDualsUptoRow.holds Try.pinned (OpenSpec.upto dominatorDualsSpec)

/-- 'assessorlaw18.DominatorWalks', WHERE WHAT IT READS IS OF BULK AT MOST 1048576: true; the input reads as it did. -/
def dominatorWalksUptoRow : OpenClaim := { program := "ytjddegfigdpcbaa", sum := "04c08e57e0dc93afd7ae38d3236de62a461594c4073f0785d7ce1c3fcf1f29b9", func := "assessor/assessorlaw18.DominatorWalks", spec := "dominatorWalks", unfollowed := true, recurses := true, apart := false, narrowed := true }
def DominatorWalksUptoSaid : Prop := dominatorWalksUptoRow.holds Try.pinned (OpenSpec.upto dominatorWalksSpec)

/-- 'assessorlaw18.DominatorLoops', WHERE WHAT IT READS IS OF BULK AT MOST 1048576: true; the input reads as it did. -/
def dominatorLoopsUptoRow : OpenClaim := { program := "ytjddegfigdpcbaa", sum := "04c08e57e0dc93afd7ae38d3236de62a461594c4073f0785d7ce1c3fcf1f29b9", func := "assessor/assessorlaw18.DominatorLoops", spec := "dominatorLoops", unfollowed := true, recurses := true, apart := false, narrowed := true }
def DominatorLoopsUptoSaid : Prop := dominatorLoopsUptoRow.holds Try.pinned (OpenSpec.upto dominatorLoopsSpec)

/-- 'assessorlaw18.DominatorBodies', WHERE WHAT IT READS IS OF BULK AT MOST 1048576: true; the input reads as it did. -/
def dominatorBodiesUptoRow : OpenClaim := { program := "ytjddegfigdpcbaa", sum := "04c08e57e0dc93afd7ae38d3236de62a461594c4073f0785d7ce1c3fcf1f29b9", func := "assessor/assessorlaw18.DominatorBodies", spec := "dominatorBodies", unfollowed := true, recurses := true, apart := false, narrowed := true }
def DominatorBodiesUptoSaid : Prop := dominatorBodiesUptoRow.holds Try.pinned (OpenSpec.upto dominatorBodiesSpec)

end Rows
end Go.Proofs.Ytjddegfigdpcbaa
