/-
  No cell of these rows narrows 'for every input' (looked for: loops, veiled, ifaces, maps, wideKeys, modest, calm, conditions, laid).
  DERIVED. THE GIVEN ROWS OF THIS SEAT. 6 by the template 'for every input the law returns true; each argument reads behind the call as it read before'; 0 by the template 'total and deterministic' (their statements: YtdmglplccfljnaaTotals.lean).
  GIVEN WITH THE SEED: the statements are not yours to turn. If you find one false, say at which input.
  Laid BY PROGRAM, IN A SANDBOX (cutbox-rows.mjs): the forced cells as the released guide's own fill.sh prints them over the translation 921278c417c4950c… (all of the seat's roots in one cut). By AI agents, Wed Nov 11 2026. No macro, syntax, notation, axiom, sorry.
-/
import Derived.Test.YtdmglplccfljnaaChecked
import GoSem.Claim
import GoSem.ClaimJoined
import GoSem.ClaimMapViews
import Derived.JoinedTies
import Derived.KernelRfl
namespace Go.Proofs.Ytdmglplccfljnaa
/- THE CELL 'sum', in the pinned program and in every row, IS THE sha256 OF THE DUMP (.gsa) THAT YtdmglplccfljnaaProg.lean LOADS. Nothing in Lean hashes anything: it is a label: what it is worth is what the hold of that sum in a sandbox is worth. -/
noncomputable def Try.pinned : Pinned := { name := "ytdmglplccfljnaa", sum := "921278c417c4950c81bc695079fe689d0d555b50665221e601827be22a70ee77", checked := Try.checked }
namespace Rows
def none {H : Type} : Left H := { results := [], args := [] }

/-- 'sidingslaw07.ModelScripts': WHATEVER THE INPUT: true; the input reads as it did. -/
def modelScriptsSpec : ChangeSpec := { name := "modelScripts", fn := fun _ => fun
  | [d1, d2] => { results := [.lit (.bool true)], args := [d1, d2] }
  | _ => none }
def modelScriptsRow : OpenClaim := { program := "ytdmglplccfljnaa", sum := "921278c417c4950c81bc695079fe689d0d555b50665221e601827be22a70ee77", func := "sidings/sidingslaw07.ModelScripts", spec := "modelScripts", inPlace := ["maps.clone"], unfollowed := true, recurses := true, apart := false }
def ModelScriptsSaid : Prop := modelScriptsRow.holds Try.pinned (OpenSpec.ofChange modelScriptsSpec)

/-- ITS FALSE NEIGHBOUR: 'it returns false'. Refute it at one input. -/
def modelScriptsWrong : ChangeSpec := { name := "modelScripts", fn := fun _ => fun
  | [d1, d2] => { results := [.lit (.bool false)], args := [d1, d2] }
  | _ => none }
def ModelScriptsWrongFalsely : Prop := modelScriptsRow.holds Try.pinned (OpenSpec.ofChange modelScriptsWrong)

/-- 'sidingslaw07.ModelWritten': WHATEVER THE INPUT: true; the input reads as it did. -/
def modelWrittenSpec : ChangeSpec := { name := "modelWritten", fn := fun _ => fun
  | [d1, d2, d3] => { results := [.lit (.bool true)], args := [d1, d2, d3] }
  | _ => none }
def modelWrittenRow : OpenClaim := { program := "ytdmglplccfljnaa", sum := "921278c417c4950c81bc695079fe689d0d555b50665221e601827be22a70ee77", func := "sidings/sidingslaw07.ModelWritten", spec := "modelWritten", inPlace := ["maps.clone"], unfollowed := true, recurses := true, apart := false }
def ModelWrittenSaid : Prop := modelWrittenRow.holds Try.pinned (OpenSpec.ofChange modelWrittenSpec)

/-- ITS FALSE NEIGHBOUR: 'it returns false'. Refute it at one input. -/
def modelWrittenWrong : ChangeSpec := { name := "modelWritten", fn := fun _ => fun
  | [d1, d2, d3] => { results := [.lit (.bool false)], args := [d1, d2, d3] }
  | _ => none }
def ModelWrittenWrongFalsely : Prop := modelWrittenRow.holds Try.pinned (OpenSpec.ofChange modelWrittenWrong)

/-- 'sidingslaw07.ModelStale': WHATEVER THE INPUT: true; the input reads as it did. -/
def modelStaleSpec : ChangeSpec := { name := "modelStale", fn := fun _ => fun
  | [d1, d2, d3] => { results := [.lit (.bool true)], args := [d1, d2, d3] }
  | _ => none }
def modelStaleRow : OpenClaim := { program := "ytdmglplccfljnaa", sum := "921278c417c4950c81bc695079fe689d0d555b50665221e601827be22a70ee77", func := "sidings/sidingslaw07.ModelStale", spec := "modelStale", inPlace := ["maps.clone"], unfollowed := true, recurses := true, apart := false }
def ModelStaleSaid : Prop := modelStaleRow.holds Try.pinned (OpenSpec.ofChange modelStaleSpec)

/-- ITS FALSE NEIGHBOUR: 'it returns false'. Refute it at one input. -/
def modelStaleWrong : ChangeSpec := { name := "modelStale", fn := fun _ => fun
  | [d1, d2, d3] => { results := [.lit (.bool false)], args := [d1, d2, d3] }
  | _ => none }
def ModelStaleWrongFalsely : Prop := modelStaleRow.holds Try.pinned (OpenSpec.ofChange modelStaleWrong)

/-- 'sidingslaw07.ModelRefused': WHATEVER THE INPUT: true; the input reads as it did. -/
def modelRefusedSpec : ChangeSpec := { name := "modelRefused", fn := fun _ => fun
  | [d1, d2] => { results := [.lit (.bool true)], args := [d1, d2] }
  | _ => none }
def modelRefusedRow : OpenClaim := { program := "ytdmglplccfljnaa", sum := "921278c417c4950c81bc695079fe689d0d555b50665221e601827be22a70ee77", func := "sidings/sidingslaw07.ModelRefused", spec := "modelRefused", inPlace := ["maps.clone"], unfollowed := true, recurses := true, apart := false }
def ModelRefusedSaid : Prop := modelRefusedRow.holds Try.pinned (OpenSpec.ofChange modelRefusedSpec)

/-- ITS FALSE NEIGHBOUR: 'it returns false'. Refute it at one input. -/
def modelRefusedWrong : ChangeSpec := { name := "modelRefused", fn := fun _ => fun
  | [d1, d2] => { results := [.lit (.bool false)], args := [d1, d2] }
  | _ => none }
def ModelRefusedWrongFalsely : Prop := modelRefusedRow.holds Try.pinned (OpenSpec.ofChange modelRefusedWrong)

/-- 'sidingslaw07.ModelCounts': WHATEVER THE INPUT: true; the input reads as it did. -/
def modelCountsSpec : ChangeSpec := { name := "modelCounts", fn := fun _ => fun
  | [d1, d2] => { results := [.lit (.bool true)], args := [d1, d2] }
  | _ => none }
def modelCountsRow : OpenClaim := { program := "ytdmglplccfljnaa", sum := "921278c417c4950c81bc695079fe689d0d555b50665221e601827be22a70ee77", func := "sidings/sidingslaw07.ModelCounts", spec := "modelCounts", inPlace := ["maps.clone"], unfollowed := true, recurses := true, apart := false }
def ModelCountsSaid : Prop := modelCountsRow.holds Try.pinned (OpenSpec.ofChange modelCountsSpec)

/-- ITS FALSE NEIGHBOUR: 'it returns false'. Refute it at one input. -/
def modelCountsWrong : ChangeSpec := { name := "modelCounts", fn := fun _ => fun
  | [d1, d2] => { results := [.lit (.bool false)], args := [d1, d2] }
  | _ => none }
def ModelCountsWrongFalsely : Prop := modelCountsRow.holds Try.pinned (OpenSpec.ofChange modelCountsWrong)

/-- 'sidingslaw07.ModelApart': WHATEVER THE INPUT: true; the input reads as it did. -/
def modelApartSpec : ChangeSpec := { name := "modelApart", fn := fun _ => fun
  | [d1, d2] => { results := [.lit (.bool true)], args := [d1, d2] }
  | _ => none }
def modelApartRow : OpenClaim := { program := "ytdmglplccfljnaa", sum := "921278c417c4950c81bc695079fe689d0d555b50665221e601827be22a70ee77", func := "sidings/sidingslaw07.ModelApart", spec := "modelApart", inPlace := ["maps.clone"], unfollowed := true, recurses := true, apart := false }
def ModelApartSaid : Prop := modelApartRow.holds Try.pinned (OpenSpec.ofChange modelApartSpec)

/-- ITS FALSE NEIGHBOUR: 'it returns false'. Refute it at one input. -/
def modelApartWrong : ChangeSpec := { name := "modelApart", fn := fun _ => fun
  | [d1, d2] => { results := [.lit (.bool false)], args := [d1, d2] }
  | _ => none }
def ModelApartWrongFalsely : Prop := modelApartRow.holds Try.pinned (OpenSpec.ofChange modelApartWrong)

/- THE SECOND FORM. 'bulk': how many values and letters a reading holds, each counted each time it is reached (what is shared counts as often as it is met; a slice's spare places count too). A statement '..UptoSaid' is the law's where the arguments, and the package variables that the reading takes, are together of bulk at most 1048576: NARROWER than '..Said'. Prove '..Said' where nothing that the law and all that it calls make is longer than what came in: it says more and counts as full. Else prove '..UptoSaid'. A law counts once. -/
mutual
def uptoBulk {H : Type} : DataW H → Nat
  | .lit (.string bytes) => bytes.length + 1
  | .lit _ => 1
  | .nil => 1
  | .ptr d => uptoBulk d + 1
  | .slice elems spare => uptoBulkAll elems + uptoBulkAll spare + 1
  | .agg parts => uptoBulkAll parts + 1
  | .iface _ d => uptoBulk d + 1
  | .map entries => uptoBulkEntries entries + 1
  | .held _ => 1
def uptoBulkAll {H : Type} : List (DataW H) → Nat
  | [] => 0
  | d :: r => uptoBulk d + uptoBulkAll r
def uptoBulkEntries {H : Type} : List (Lit × DataW H) → Nat
  | [] => 0
  | x :: r => uptoBulkEntry x + uptoBulkEntries r
def uptoBulkEntry {H : Type} : Lit × DataW H → Nat
  | (.string bytes, d) => bytes.length + uptoBulk d + 1
  | (_, d) => uptoBulk d + 1
 end
def uptoSmall : (H : Type) → List (DataW H) → Bool := fun _ ds => decide (uptoBulkAll ds ≤ 1048576)
def OpenSpec.upto (s : _root_.Go.ChangeSpec) : _root_.Go.OpenSpec := { _root_.Go.OpenSpec.ofChange s with cond := some uptoSmall }

/-- 'sidingslaw07.ModelScripts', WHERE WHAT IT READS IS OF BULK AT MOST 1048576: true; the input reads as it did. -/
def modelScriptsUptoRow : OpenClaim := { program := "ytdmglplccfljnaa", sum := "921278c417c4950c81bc695079fe689d0d555b50665221e601827be22a70ee77", func := "sidings/sidingslaw07.ModelScripts", spec := "modelScripts", inPlace := ["maps.clone"], unfollowed := true, recurses := true, apart := false, narrowed := true }
def ModelScriptsUptoSaid : Prop := modelScriptsUptoRow.holds Try.pinned (OpenSpec.upto modelScriptsSpec)

/-- 'sidingslaw07.ModelWritten', WHERE WHAT IT READS IS OF BULK AT MOST 1048576: true; the input reads as it did. -/
def modelWrittenUptoRow : OpenClaim := { program := "ytdmglplccfljnaa", sum := "921278c417c4950c81bc695079fe689d0d555b50665221e601827be22a70ee77", func := "sidings/sidingslaw07.ModelWritten", spec := "modelWritten", inPlace := ["maps.clone"], unfollowed := true, recurses := true, apart := false, narrowed := true }
def ModelWrittenUptoSaid : Prop := modelWrittenUptoRow.holds Try.pinned (OpenSpec.upto modelWrittenSpec)

/-- 'sidingslaw07.ModelStale', WHERE WHAT IT READS IS OF BULK AT MOST 1048576: true; the input reads as it did. -/
def modelStaleUptoRow : OpenClaim := { program := "ytdmglplccfljnaa", sum := "921278c417c4950c81bc695079fe689d0d555b50665221e601827be22a70ee77", func := "sidings/sidingslaw07.ModelStale", spec := "modelStale", inPlace := ["maps.clone"], unfollowed := true, recurses := true, apart := false, narrowed := true }
def ModelStaleUptoSaid : Prop := modelStaleUptoRow.holds Try.pinned (OpenSpec.upto modelStaleSpec)

/-- 'sidingslaw07.ModelRefused', WHERE WHAT IT READS IS OF BULK AT MOST 1048576: true; the input reads as it did. -/
def modelRefusedUptoRow : OpenClaim := { program := "ytdmglplccfljnaa", sum := "921278c417c4950c81bc695079fe689d0d555b50665221e601827be22a70ee77", func := "sidings/sidingslaw07.ModelRefused", spec := "modelRefused", inPlace := ["maps.clone"], unfollowed := true, recurses := true, apart := false, narrowed := true }
def ModelRefusedUptoSaid : Prop := modelRefusedUptoRow.holds Try.pinned (OpenSpec.upto modelRefusedSpec)

/-- 'sidingslaw07.ModelCounts', WHERE WHAT IT READS IS OF BULK AT MOST 1048576: true; the input reads as it did. -/
def modelCountsUptoRow : OpenClaim := { program := "ytdmglplccfljnaa", sum := "921278c417c4950c81bc695079fe689d0d555b50665221e601827be22a70ee77", func := "sidings/sidingslaw07.ModelCounts", spec := "modelCounts", inPlace := ["maps.clone"], unfollowed := true, recurses := true, apart := false, narrowed := true }
def ModelCountsUptoSaid : Prop := modelCountsUptoRow.holds Try.pinned (OpenSpec.upto modelCountsSpec)

/-- 'sidingslaw07.ModelApart', WHERE WHAT IT READS IS OF BULK AT MOST 1048576: true; the input reads as it did. -/
def modelApartUptoRow : OpenClaim := { program := "ytdmglplccfljnaa", sum := "921278c417c4950c81bc695079fe689d0d555b50665221e601827be22a70ee77", func := "sidings/sidingslaw07.ModelApart", spec := "modelApart", inPlace := ["maps.clone"], unfollowed := true, recurses := true, apart := false, narrowed := true }
def ModelApartUptoSaid : Prop := modelApartUptoRow.holds Try.pinned (OpenSpec.upto modelApartSpec)

end Rows
end Go.Proofs.Ytdmglplccfljnaa
