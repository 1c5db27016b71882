/-
  No cell of these rows narrows 'for every input' (looked for: loops, veiled, ifaces, maps, wideKeys, modest, calm, conditions, laid).
  DERIVED. THE GIVEN ROWS OF THIS SEAT. 6 by the template 'for every input the law returns true; each argument reads behind the call as it read before'; 0 by the template 'total and deterministic' (their statements: YtelbjendeldlcaaTotals.lean).
  GIVEN WITH THE SEED: the statements are not yours to turn. If you find one false, say at which input.
  Laid BY PROGRAM, IN A SANDBOX (cutbox-rows.mjs): the forced cells as the released guide's own fill.sh prints them over the translation 58be0efa9f73e99e… (all of the seat's roots in one cut). By AI agents, Wed Nov 11 2026. No macro, syntax, notation, axiom, sorry.
-/
import Derived.Test.YtelbjendeldlcaaChecked
import GoSem.Claim
import GoSem.ClaimJoined
import GoSem.ClaimMapViews
import Derived.JoinedTies
import Derived.KernelRfl
namespace Go.Proofs.Ytelbjendeldlcaa
/- THE CELL 'sum', in the pinned program and in every row, IS THE sha256 OF THE DUMP (.gsa) THAT YtelbjendeldlcaaProg.lean LOADS. Nothing in Lean hashes anything: it is a label: what it is worth is what the hold of that sum in a sandbox is worth. -/
noncomputable def Try.pinned : Pinned := { name := "ytelbjendeldlcaa", sum := "58be0efa9f73e99ed6f9c2b09e3d01cea3a662202567dac82c737d510c7a4bcd", checked := Try.checked }
namespace Rows
def none {H : Type} : Left H := { results := [], args := [] }

/-- 'assessorlaw24.GatesValues': WHATEVER THE INPUT: true; the input reads as it did. -/
def gatesValuesSpec : ChangeSpec := { name := "gatesValues", fn := fun _ => fun
  | [d1, d2, d3] => { results := [.lit (.bool true)], args := [d1, d2, d3] }
  | _ => none }
def gatesValuesRow : OpenClaim := { program := "ytelbjendeldlcaa", sum := "58be0efa9f73e99ed6f9c2b09e3d01cea3a662202567dac82c737d510c7a4bcd", func := "assessor/assessorlaw24.GatesValues", spec := "gatesValues", unfollowed := true, recurses := true, plainKeys := false, apart := false }
def GatesValuesSaid : Prop := gatesValuesRow.holds Try.pinned (OpenSpec.ofChange gatesValuesSpec)

/-- ITS FALSE NEIGHBOUR: 'it returns false'. Refute it at one input. -/
def gatesValuesWrong : ChangeSpec := { name := "gatesValues", fn := fun _ => fun
  | [d1, d2, d3] => { results := [.lit (.bool false)], args := [d1, d2, d3] }
  | _ => none }
def GatesValuesWrongFalsely : Prop := gatesValuesRow.holds Try.pinned (OpenSpec.ofChange gatesValuesWrong)

/-- 'assessorlaw24.GatesLimits': WHATEVER THE INPUT: true; the input reads as it did. -/
def gatesLimitsSpec : ChangeSpec := { name := "gatesLimits", fn := fun _ => fun
  | [d1, d2] => { results := [.lit (.bool true)], args := [d1, d2] }
  | _ => none }
def gatesLimitsRow : OpenClaim := { program := "ytelbjendeldlcaa", sum := "58be0efa9f73e99ed6f9c2b09e3d01cea3a662202567dac82c737d510c7a4bcd", func := "assessor/assessorlaw24.GatesLimits", spec := "gatesLimits", unfollowed := true, recurses := true, plainKeys := false, apart := false }
def GatesLimitsSaid : Prop := gatesLimitsRow.holds Try.pinned (OpenSpec.ofChange gatesLimitsSpec)

/-- ITS FALSE NEIGHBOUR: 'it returns false'. Refute it at one input. -/
def gatesLimitsWrong : ChangeSpec := { name := "gatesLimits", fn := fun _ => fun
  | [d1, d2] => { results := [.lit (.bool false)], args := [d1, d2] }
  | _ => none }
def GatesLimitsWrongFalsely : Prop := gatesLimitsRow.holds Try.pinned (OpenSpec.ofChange gatesLimitsWrong)

/-- 'assessorlaw24.GatesMean': WHATEVER THE INPUT: true; the input reads as it did. -/
def gatesMeanSpec : ChangeSpec := { name := "gatesMean", fn := fun _ => fun
  | [d1, d2, d3] => { results := [.lit (.bool true)], args := [d1, d2, d3] }
  | _ => none }
def gatesMeanRow : OpenClaim := { program := "ytelbjendeldlcaa", sum := "58be0efa9f73e99ed6f9c2b09e3d01cea3a662202567dac82c737d510c7a4bcd", func := "assessor/assessorlaw24.GatesMean", spec := "gatesMean", unfollowed := true, recurses := true, plainKeys := false, apart := false }
def GatesMeanSaid : Prop := gatesMeanRow.holds Try.pinned (OpenSpec.ofChange gatesMeanSpec)

/-- ITS FALSE NEIGHBOUR: 'it returns false'. Refute it at one input. -/
def gatesMeanWrong : ChangeSpec := { name := "gatesMean", fn := fun _ => fun
  | [d1, d2, d3] => { results := [.lit (.bool false)], args := [d1, d2, d3] }
  | _ => none }
def GatesMeanWrongFalsely : Prop := gatesMeanRow.holds Try.pinned (OpenSpec.ofChange gatesMeanWrong)

/-- 'assessorlaw24.GatesBuild': WHATEVER THE INPUT: true; the input reads as it did. -/
def gatesBuildSpec : ChangeSpec := { name := "gatesBuild", fn := fun _ => fun
  | [d1, d2, d3] => { results := [.lit (.bool true)], args := [d1, d2, d3] }
  | _ => none }
def gatesBuildRow : OpenClaim := { program := "ytelbjendeldlcaa", sum := "58be0efa9f73e99ed6f9c2b09e3d01cea3a662202567dac82c737d510c7a4bcd", func := "assessor/assessorlaw24.GatesBuild", spec := "gatesBuild", unfollowed := true, recurses := true, plainKeys := false, apart := false }
def GatesBuildSaid : Prop := gatesBuildRow.holds Try.pinned (OpenSpec.ofChange gatesBuildSpec)

/-- ITS FALSE NEIGHBOUR: 'it returns false'. Refute it at one input. -/
def gatesBuildWrong : ChangeSpec := { name := "gatesBuild", fn := fun _ => fun
  | [d1, d2, d3] => { results := [.lit (.bool false)], args := [d1, d2, d3] }
  | _ => none }
def GatesBuildWrongFalsely : Prop := gatesBuildRow.holds Try.pinned (OpenSpec.ofChange gatesBuildWrong)

/-- 'assessorlaw24.GatesParts': WHATEVER THE INPUT: true; the input reads as it did. -/
def gatesPartsSpec : ChangeSpec := { name := "gatesParts", fn := fun _ => fun
  | [d1, d2] => { results := [.lit (.bool true)], args := [d1, d2] }
  | _ => none }
def gatesPartsRow : OpenClaim := { program := "ytelbjendeldlcaa", sum := "58be0efa9f73e99ed6f9c2b09e3d01cea3a662202567dac82c737d510c7a4bcd", func := "assessor/assessorlaw24.GatesParts", spec := "gatesParts", unfollowed := true, recurses := true, plainKeys := false, apart := false }
def GatesPartsSaid : Prop := gatesPartsRow.holds Try.pinned (OpenSpec.ofChange gatesPartsSpec)

/-- ITS FALSE NEIGHBOUR: 'it returns false'. Refute it at one input. -/
def gatesPartsWrong : ChangeSpec := { name := "gatesParts", fn := fun _ => fun
  | [d1, d2] => { results := [.lit (.bool false)], args := [d1, d2] }
  | _ => none }
def GatesPartsWrongFalsely : Prop := gatesPartsRow.holds Try.pinned (OpenSpec.ofChange gatesPartsWrong)

/-- 'assessorlaw24.GatesCones': WHATEVER THE INPUT: true; the input reads as it did. -/
def gatesConesSpec : ChangeSpec := { name := "gatesCones", fn := fun _ => fun
  | [d1, d2, d3, d4] => { results := [.lit (.bool true)], args := [d1, d2, d3, d4] }
  | _ => none }
def gatesConesRow : OpenClaim := { program := "ytelbjendeldlcaa", sum := "58be0efa9f73e99ed6f9c2b09e3d01cea3a662202567dac82c737d510c7a4bcd", func := "assessor/assessorlaw24.GatesCones", spec := "gatesCones", unfollowed := true, recurses := true, plainKeys := false, apart := false }
def GatesConesSaid : Prop := gatesConesRow.holds Try.pinned (OpenSpec.ofChange gatesConesSpec)

/-- ITS FALSE NEIGHBOUR: 'it returns false'. Refute it at one input. -/
def gatesConesWrong : ChangeSpec := { name := "gatesCones", fn := fun _ => fun
  | [d1, d2, d3, d4] => { results := [.lit (.bool false)], args := [d1, d2, d3, d4] }
  | _ => none }
def GatesConesWrongFalsely : Prop := gatesConesRow.holds Try.pinned (OpenSpec.ofChange gatesConesWrong)

/- THE SECOND FORM. 'bulk': how many values and letters a reading holds, each counted each time it is reached (what is shared counts as often as it is met; a slice's spare places count too). A statement '..UptoSaid' is the law's where the arguments, and the package variables that the reading takes, are together of bulk at most 1048576: NARROWER than '..Said'. Prove '..Said' where nothing that the law and all that it calls make is longer than what came in: it says more and counts as full. Else prove '..UptoSaid'. A law counts once. -/
mutual
def uptoBulk {H : Type} : DataW H → Nat
  | .lit (.string bytes) => bytes.length + 1
  | .lit _ => 1
  | .nil => 1
  | .ptr d => uptoBulk d + 1
  | .slice elems spare => uptoBulkAll elems + uptoBulkAll spare + 1
  | .agg parts => uptoBulkAll parts + 1
  | .iface _ d => uptoBulk d + 1
  | .map entries => uptoBulkEntries entries + 1
  | .held _ => 1
def uptoBulkAll {H : Type} : List (DataW H) → Nat
  | [] => 0
  | d :: r => uptoBulk d + uptoBulkAll r
def uptoBulkEntries {H : Type} : List (Lit × DataW H) → Nat
  | [] => 0
  | x :: r => uptoBulkEntry x + uptoBulkEntries r
def uptoBulkEntry {H : Type} : Lit × DataW H → Nat
  | (.string bytes, d) => bytes.length + uptoBulk d + 1
  | (_, d) => uptoBulk d + 1
 end
def uptoSmall : (H : Type) → List (DataW H) → Bool := fun _ ds => decide (uptoBulkAll ds ≤ 1048576)
def OpenSpec.upto (s : _root_.Go.ChangeSpec) : _root_.Go.OpenSpec := { _root_.Go.OpenSpec.ofChange s with cond := some uptoSmall }

/-- 'assessorlaw24.GatesValues', WHERE WHAT IT READS IS OF BULK AT MOST 1048576: true; the input reads as it did. -/
def gatesValuesUptoRow : OpenClaim := { program := "ytelbjendeldlcaa", sum := "58be0efa9f73e99ed6f9c2b09e3d01cea3a662202567dac82c737d510c7a4bcd", func := "assessor/assessorlaw24.GatesValues", spec := "gatesValues", unfollowed := true, recurses := true, plainKeys := false, apart := false, narrowed := true }
def GatesValuesUptoSaid : Prop := gatesValuesUptoRow.holds Try.pinned (OpenSpec.upto gatesValuesSpec)

/-- 'assessorlaw24.GatesLimits', WHERE WHAT IT READS IS OF BULK AT MOST 1048576: true; the input reads as it did. -/
def gatesLimitsUptoRow : OpenClaim := { program := "ytelbjendeldlcaa", sum := "58be0efa9f73e99ed6f9c2b09e3d01cea3a662202567dac82c737d510c7a4bcd", func := "assessor/assessorlaw24.GatesLimits", spec := "gatesLimits", unfollowed := true, recurses := true, plainKeys := false, apart := false, narrowed := true }
def GatesLimitsUptoSaid : Prop := gatesLimitsUptoRow.holds Try.pinned (OpenSpec.upto gatesLimitsSpec)

/-- 'assessorlaw24.GatesMean', WHERE WHAT IT READS IS OF BULK AT MOST 1048576: true; the input reads as it did. -/
def gatesMeanUptoRow : OpenClaim := { program := "ytelbjendeldlcaa", sum := "58be0efa9f73e99ed6f9c2b09e3d01cea3a662202567dac82c737d510c7a4bcd", func := "assessor/assessorlaw24.GatesMean", spec := "gatesMean", unfollowed := true, recurses := true, plainKeys := false, apart := false, narrowed := true }
def GatesMeanUptoSaid : Prop := gatesMeanUptoRow.holds Try.pinned (OpenSpec.upto gatesMeanSpec)

/-- 'assessorlaw24.GatesBuild', WHERE WHAT IT READS IS OF BULK AT MOST 1048576: true; the input reads as it did. -/
def gatesBuildUptoRow : OpenClaim := { program := "ytelbjendeldlcaa", sum := "58be0efa9f73e99ed6f9c2b09e3d01cea3a662202567dac82c737d510c7a4bcd", func := "assessor/assessorlaw24.GatesBuild", spec := "gatesBuild", unfollowed := true, recurses := true, plainKeys := false, apart := false, narrowed := true }
def GatesBuildUptoSaid : Prop := gatesBuildUptoRow.holds Try.pinned (OpenSpec.upto gatesBuildSpec)

/-- 'assessorlaw24.GatesParts', WHERE WHAT IT READS IS OF BULK AT MOST 1048576: true; the input reads as it did. -/
def gatesPartsUptoRow : OpenClaim := { program := "ytelbjendeldlcaa", sum := "58be0efa9f73e99ed6f9c2b09e3d01cea3a662202567dac82c737d510c7a4bcd", func := "assessor/assessorlaw24.GatesParts", spec := "gatesParts", unfollowed := true, recurses := true, plainKeys := false, apart := false, narrowed := true }
def GatesPartsUptoSaid : Prop := gatesPartsUptoRow.holds Try.pinned (OpenSpec.upto gatesPartsSpec)

/-- 'assessorlaw24.GatesCones', WHERE WHAT IT READS IS OF BULK AT MOST 1048576: true; the input reads as it did. -/
def gatesConesUptoRow : OpenClaim := { program := "ytelbjendeldlcaa", sum := "58be0efa9f73e99ed6f9c2b09e3d01cea3a662202567dac82c737d510c7a4bcd", func := "assessor/assessorlaw24.GatesCones", spec := "gatesCones", unfollowed := true, recurses := true, plainKeys := false, apart := false, narrowed := true }
def GatesConesUptoSaid : Prop := gatesConesUptoRow.holds Try.pinned (OpenSpec.upto gatesConesSpec)

end Rows
end Go.Proofs.Ytelbjendeldlcaa
