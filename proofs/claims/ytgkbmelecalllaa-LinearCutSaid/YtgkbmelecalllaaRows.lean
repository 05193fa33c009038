/-
  No cell of these rows narrows 'for every input' (looked for: loops, veiled, ifaces, maps, wideKeys, modest, calm, conditions, laid).
  DERIVED. THE GIVEN ROWS OF THIS SEAT. 5 by the template 'for every input the law returns true; each argument reads behind the call as it read before'; 0 by the template 'total and deterministic' (their statements: YtgkbmelecalllaaTotals.lean).
  GIVEN WITH THE SEED: the statements are not yours to turn. If you find one false, say at which input.
  Laid BY PROGRAM, IN A SANDBOX (cutbox-rows.mjs): the forced cells as the released guide's own fill.sh prints them over the translation 5f8846bb7430473f… (all of the seat's roots in one cut). By AI agents, Wed Nov 11 2026. No macro, syntax, notation, axiom, sorry.
-/
import Derived.Test.YtgkbmelecalllaaChecked
import GoSem.Claim
import GoSem.ClaimJoined
import GoSem.ClaimMapViews
import Derived.JoinedTies
import Derived.KernelRfl
namespace Go.Proofs.Ytgkbmelecalllaa
/- THE CELL 'sum', in the pinned program and in every row, IS THE sha256 OF THE DUMP (.gsa) THAT YtgkbmelecalllaaProg.lean LOADS. Nothing in Lean hashes anything: it is a label: what it is worth is what the hold of that sum in a sandbox is worth. -/
noncomputable def Try.pinned : Pinned := { name := "ytgkbmelecalllaa", sum := "5f8846bb7430473f247510b1510e7e9fc880efe55dd4801b08a2949590b4182f", checked := Try.checked }
namespace Rows
def none {H : Type} : Left H := { results := [], args := [] }

/-- 'sidingslaw09.LinearAccepts': WHATEVER THE INPUT: true; the input reads as it did. -/
def linearAcceptsSpec : ChangeSpec := { name := "linearAccepts", fn := fun _ => fun
  | [d] => { results := [.lit (.bool true)], args := [d] }
  | _ => none }
def linearAcceptsRow : OpenClaim := { program := "ytgkbmelecalllaa", sum := "5f8846bb7430473f247510b1510e7e9fc880efe55dd4801b08a2949590b4182f", func := "sidings/sidingslaw09.LinearAccepts", spec := "linearAccepts", inPlace := ["maps.clone"], unfollowed := true, recurses := true, apart := false }
def LinearAcceptsSaid : Prop := linearAcceptsRow.holds Try.pinned (OpenSpec.ofChange linearAcceptsSpec)

/-- ITS FALSE NEIGHBOUR: 'it returns false'. Refute it at one input. -/
def linearAcceptsWrong : ChangeSpec := { name := "linearAccepts", fn := fun _ => fun
  | [d] => { results := [.lit (.bool false)], args := [d] }
  | _ => none }
def LinearAcceptsWrongFalsely : Prop := linearAcceptsRow.holds Try.pinned (OpenSpec.ofChange linearAcceptsWrong)

/-- 'sidingslaw09.LinearHolds': WHATEVER THE INPUT: true; the input reads as it did. -/
def linearHoldsSpec : ChangeSpec := { name := "linearHolds", fn := fun _ => fun
  | [d1, d2] => { results := [.lit (.bool true)], args := [d1, d2] }
  | _ => none }
def linearHoldsRow : OpenClaim := { program := "ytgkbmelecalllaa", sum := "5f8846bb7430473f247510b1510e7e9fc880efe55dd4801b08a2949590b4182f", func := "sidings/sidingslaw09.LinearHolds", spec := "linearHolds", inPlace := ["maps.clone"], unfollowed := true, recurses := true, apart := false }
def LinearHoldsSaid : Prop := linearHoldsRow.holds Try.pinned (OpenSpec.ofChange linearHoldsSpec)

/-- ITS FALSE NEIGHBOUR: 'it returns false'. Refute it at one input. -/
def linearHoldsWrong : ChangeSpec := { name := "linearHolds", fn := fun _ => fun
  | [d1, d2] => { results := [.lit (.bool false)], args := [d1, d2] }
  | _ => none }
def LinearHoldsWrongFalsely : Prop := linearHoldsRow.holds Try.pinned (OpenSpec.ofChange linearHoldsWrong)

/-- 'sidingslaw09.LinearRow': WHATEVER THE INPUT: true; the input reads as it did. -/
def linearRowSpec : ChangeSpec := { name := "linearRow", fn := fun _ => fun
  | [d1, d2] => { results := [.lit (.bool true)], args := [d1, d2] }
  | _ => none }
def linearRowRow : OpenClaim := { program := "ytgkbmelecalllaa", sum := "5f8846bb7430473f247510b1510e7e9fc880efe55dd4801b08a2949590b4182f", func := "sidings/sidingslaw09.LinearRow", spec := "linearRow", inPlace := ["maps.clone"], unfollowed := true, recurses := true, apart := false }
def LinearRowSaid : Prop := linearRowRow.holds Try.pinned (OpenSpec.ofChange linearRowSpec)

/-- ITS FALSE NEIGHBOUR: 'it returns false'. Refute it at one input. -/
def linearRowWrong : ChangeSpec := { name := "linearRow", fn := fun _ => fun
  | [d1, d2] => { results := [.lit (.bool false)], args := [d1, d2] }
  | _ => none }
def LinearRowWrongFalsely : Prop := linearRowRow.holds Try.pinned (OpenSpec.ofChange linearRowWrong)

/-- 'sidingslaw09.LinearCut': WHATEVER THE INPUT: true; the input reads as it did. -/
def linearCutSpec : ChangeSpec := { name := "linearCut", fn := fun _ => fun
  | [d1, d2] => { results := [.lit (.bool true)], args := [d1, d2] }
  | _ => none }
def linearCutRow : OpenClaim := { program := "ytgkbmelecalllaa", sum := "5f8846bb7430473f247510b1510e7e9fc880efe55dd4801b08a2949590b4182f", func := "sidings/sidingslaw09.LinearCut", spec := "linearCut", inPlace := ["maps.clone"], unfollowed := true, recurses := true, apart := false }
def LinearCutSaid : Prop := linearCutRow.holds Try.pinned (OpenSpec.ofChange linearCutSpec)

/-- ITS FALSE NEIGHBOUR: 'it returns false'. Refute it at one input. -/
def linearCutWrong : ChangeSpec := { name := "linearCut", fn := fun _ => fun
  | [d1, d2] => { results := [.lit (.bool false)], args := [d1, d2] }
  | _ => none }
def LinearCutWrongFalsely : Prop := linearCutRow.holds Try.pinned (OpenSpec.ofChange linearCutWrong)

/-- 'sidingslaw09.LinearOne': WHATEVER THE INPUT: true; the input reads as it did. -/
def linearOneSpec : ChangeSpec := { name := "linearOne", fn := fun _ => fun
  | [d1, d2] => { results := [.lit (.bool true)], args := [d1, d2] }
  | _ => none }
def linearOneRow : OpenClaim := { program := "ytgkbmelecalllaa", sum := "5f8846bb7430473f247510b1510e7e9fc880efe55dd4801b08a2949590b4182f", func := "sidings/sidingslaw09.LinearOne", spec := "linearOne", inPlace := ["maps.clone"], unfollowed := true, recurses := true, apart := false }
def LinearOneSaid : Prop := linearOneRow.holds Try.pinned (OpenSpec.ofChange linearOneSpec)

/-- ITS FALSE NEIGHBOUR: 'it returns false'. Refute it at one input. -/
def linearOneWrong : ChangeSpec := { name := "linearOne", fn := fun _ => fun
  | [d1, d2] => { results := [.lit (.bool false)], args := [d1, d2] }
  | _ => none }
def LinearOneWrongFalsely : Prop := linearOneRow.holds Try.pinned (OpenSpec.ofChange linearOneWrong)

/- THE SECOND FORM. 'bulk': how many values and letters a reading holds, each counted each time it is reached (what is shared counts as often as it is met; a slice's spare places count too). A statement '..UptoSaid' is the law's where the arguments, and the package variables that the reading takes, are together of bulk at most 1048576: NARROWER than '..Said'. Prove '..Said' where nothing that the law and all that it calls make is longer than what came in: it says more and counts as full. Else prove '..UptoSaid'. A law counts once. -/
mutual
def uptoBulk {H : Type} : DataW H → Nat
  | .lit (.string bytes) => bytes.length + 1
  | .lit _ => 1
  | .nil => 1
  | .ptr d => uptoBulk d + 1
  | .slice elems spare => uptoBulkAll elems + uptoBulkAll spare + 1
  | .agg parts => uptoBulkAll parts + 1
  | .iface _ d => uptoBulk d + 1
  | .map entries => uptoBulkEntries entries + 1
  | .held _ => 1
def uptoBulkAll {H : Type} : List (DataW H) → Nat
  | [] => 0
  | d :: r => uptoBulk d + uptoBulkAll r
def uptoBulkEntries {H : Type} : List (Lit × DataW H) → Nat
  | [] => 0
  | x :: r => uptoBulkEntry x + uptoBulkEntries r
def uptoBulkEntry {H : Type} : Lit × DataW H → Nat
  | (.string bytes, d) => bytes.length + uptoBulk d + 1
  | (_, d) => uptoBulk d + 1
 end
def uptoSmall : (H : Type) → List (DataW H) → Bool := fun _ ds => decide (uptoBulkAll ds ≤ 1048576)
def OpenSpec.upto (s : _root_.Go.ChangeSpec) : _root_.Go.OpenSpec := { _root_.Go.OpenSpec.ofChange s with cond := some uptoSmall }

/-- 'sidingslaw09.LinearAccepts', WHERE WHAT IT READS IS OF BULK AT MOST 1048576: true; the input reads as it did. -/
def linearAcceptsUptoRow : OpenClaim := { program := "ytgkbmelecalllaa", sum := "5f8846bb7430473f247510b1510e7e9fc880efe55dd4801b08a2949590b4182f", func := "sidings/sidingslaw09.LinearAccepts", spec := "linearAccepts", inPlace := ["maps.clone"], unfollowed := true, recurses := true, apart := false, narrowed := true }
def LinearAcceptsUptoSaid : Prop := linearAcceptsUptoRow.holds Try.pinned (OpenSpec.upto linearAcceptsSpec)

/-- 'sidingslaw09.LinearHolds', WHERE WHAT IT READS IS OF BULK AT MOST 1048576: true; the input reads as it did. -/
def linearHoldsUptoRow : OpenClaim := { program := "ytgkbmelecalllaa", sum := "5f8846bb7430473f247510b1510e7e9fc880efe55dd4801b08a2949590b4182f", func := "sidings/sidingslaw09.LinearHolds", spec := "linearHolds", inPlace := ["maps.clone"], unfollowed := true, recurses := true, apart := false, narrowed := true }
def LinearHoldsUptoSaid : Prop := linearHoldsUptoRow.holds Try.pinned (OpenSpec.upto linearHoldsSpec)

/-- 'sidingslaw09.LinearRow', WHERE WHAT IT READS IS OF BULK AT MOST 1048576: true; the input reads as it did. -/
def linearRowUptoRow : OpenClaim := { program := "ytgkbmelecalllaa", sum := "5f8846bb7430473f247510b1510e7e9fc880efe55dd4801b08a2949590b4182f", func := "sidings/sidingslaw09.LinearRow", spec := "linearRow", inPlace := ["maps.clone"], unfollowed := true, recurses := true, apart := false, narrowed := true }
def LinearRowUptoSaid : Prop := linearRowUptoRow.holds Try.pinned (OpenSpec.upto linearRowSpec)

/-- 'sidingslaw09.LinearCut', WHERE WHAT IT READS IS OF BULK AT MOST 1048576: true; the input reads as it did. -/
def linearCutUptoRow : OpenClaim := { program := "ytgkbmelecalllaa", sum := "5f8846bb7430473f247510b1510e7e9fc880efe55dd4801b08a2949590b4182f", func := "sidings/sidingslaw09.LinearCut", spec := "linearCut", inPlace := ["maps.clone"], unfollowed := true, recurses := true, apart := false, narrowed := true }
def LinearCutUptoSaid : Prop := linearCutUptoRow.holds Try.pinned (OpenSpec.upto linearCutSpec)

/-- 'sidingslaw09.LinearOne', WHERE WHAT IT READS IS OF BULK AT MOST 1048576: true; the input reads as it did. -/
def linearOneUptoRow : OpenClaim := { program := "ytgkbmelecalllaa", sum := "5f8846bb7430473f247510b1510e7e9fc880efe55dd4801b08a2949590b4182f", func := "sidings/sidingslaw09.LinearOne", spec := "linearOne", inPlace := ["maps.clone"], unfollowed := true, recurses := true, apart := false, narrowed := true }
def LinearOneUptoSaid : Prop := linearOneUptoRow.holds Try.pinned (OpenSpec.upto linearOneSpec)

end Rows
end Go.Proofs.Ytgkbmelecalllaa
