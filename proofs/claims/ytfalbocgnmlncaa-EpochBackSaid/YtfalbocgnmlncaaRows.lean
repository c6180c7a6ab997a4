/-
  No cell of these rows narrows 'for every input' (looked for: loops, veiled, ifaces, maps, wideKeys, modest, calm, conditions, laid).
  DERIVED. THE GIVEN ROWS OF THIS SEAT. 5 by the template 'for every input the law returns true; each argument reads behind the call as it read before'; 0 by the template 'total and deterministic' (their statements: YtfalbocgnmlncaaTotals.lean).
  GIVEN WITH THE SEED: the statements are not yours to turn. If you find one false, say at which input.
  Laid BY PROGRAM, IN A SANDBOX (cutbox-rows.mjs): the forced cells as the released guide's own fill.sh prints them over the translation ef457234185c2807… (all of the seat's roots in one cut). By AI agents, Wed Nov 11 2026. No macro, syntax, notation, axiom, sorry.
-/
import Derived.Test.YtfalbocgnmlncaaChecked
import GoSem.Claim
import GoSem.ClaimJoined
import GoSem.ClaimMapViews
import Derived.JoinedTies
import Derived.KernelRfl
namespace Go.Proofs.Ytfalbocgnmlncaa
/- THE CELL 'sum', in the pinned program and in every row, IS THE sha256 OF THE DUMP (.gsa) THAT YtfalbocgnmlncaaProg.lean LOADS. Nothing in Lean hashes anything: it is a label: what it is worth is what the hold of that sum in a sandbox is worth. -/
noncomputable def Try.pinned : Pinned := { name := "ytfalbocgnmlncaa", sum := "ef457234185c280771cde16282544a576105c4b39ee4970afdd2afd87dc977e0", checked := Try.checked }
namespace Rows
def none {H : Type} : Left H := { results := [], args := [] }

/-- 'archipelagolaw18.EpochOne': WHATEVER THE INPUT: true; the input reads as it did. -/
def epochOneSpec : ChangeSpec := { name := "epochOne", fn := fun _ => fun
  | [d1, d2] => { results := [.lit (.bool true)], args := [d1, d2] }
  | _ => none }
def epochOneRow : OpenClaim := { program := "ytfalbocgnmlncaa", sum := "ef457234185c280771cde16282544a576105c4b39ee4970afdd2afd87dc977e0", func := "archipelago/archipelagolaw18.EpochOne", spec := "epochOne", unfollowed := true, recurses := true, apart := false }
def EpochOneSaid : Prop := epochOneRow.holds Try.pinned (OpenSpec.ofChange epochOneSpec)

/-- ITS FALSE NEIGHBOUR: 'it returns false'. Refute it at one input. -/
def epochOneWrong : ChangeSpec := { name := "epochOne", fn := fun _ => fun
  | [d1, d2] => { results := [.lit (.bool false)], args := [d1, d2] }
  | _ => none }
def EpochOneWrongFalsely : Prop := epochOneRow.holds Try.pinned (OpenSpec.ofChange epochOneWrong)

/-- 'archipelagolaw18.EpochParts': WHATEVER THE INPUT: true; the input reads as it did. -/
def epochPartsSpec : ChangeSpec := { name := "epochParts", fn := fun _ => fun
  | [d1, d2] => { results := [.lit (.bool true)], args := [d1, d2] }
  | _ => none }
def epochPartsRow : OpenClaim := { program := "ytfalbocgnmlncaa", sum := "ef457234185c280771cde16282544a576105c4b39ee4970afdd2afd87dc977e0", func := "archipelago/archipelagolaw18.EpochParts", spec := "epochParts", unfollowed := true, recurses := true, apart := false }
def EpochPartsSaid : Prop := epochPartsRow.holds Try.pinned (OpenSpec.ofChange epochPartsSpec)

/-- ITS FALSE NEIGHBOUR: 'it returns false'. Refute it at one input. -/
def epochPartsWrong : ChangeSpec := { name := "epochParts", fn := fun _ => fun
  | [d1, d2] => { results := [.lit (.bool false)], args := [d1, d2] }
  | _ => none }
def EpochPartsWrongFalsely : Prop := epochPartsRow.holds Try.pinned (OpenSpec.ofChange epochPartsWrong)

/-- 'archipelagolaw18.EpochTells': WHATEVER THE INPUT: true; the input reads as it did. -/
def epochTellsSpec : ChangeSpec := { name := "epochTells", fn := fun _ => fun
  | [d1, d2] => { results := [.lit (.bool true)], args := [d1, d2] }
  | _ => none }
def epochTellsRow : OpenClaim := { program := "ytfalbocgnmlncaa", sum := "ef457234185c280771cde16282544a576105c4b39ee4970afdd2afd87dc977e0", func := "archipelago/archipelagolaw18.EpochTells", spec := "epochTells", unfollowed := true, recurses := true, apart := false }
def EpochTellsSaid : Prop := epochTellsRow.holds Try.pinned (OpenSpec.ofChange epochTellsSpec)

/-- ITS FALSE NEIGHBOUR: 'it returns false'. Refute it at one input. -/
def epochTellsWrong : ChangeSpec := { name := "epochTells", fn := fun _ => fun
  | [d1, d2] => { results := [.lit (.bool false)], args := [d1, d2] }
  | _ => none }
def EpochTellsWrongFalsely : Prop := epochTellsRow.holds Try.pinned (OpenSpec.ofChange epochTellsWrong)

/-- 'archipelagolaw18.EpochBack': WHATEVER THE INPUT: true; the input reads as it did. -/
def epochBackSpec : ChangeSpec := { name := "epochBack", fn := fun _ => fun
  | [d1, d2, d3] => { results := [.lit (.bool true)], args := [d1, d2, d3] }
  | _ => none }
def epochBackRow : OpenClaim := { program := "ytfalbocgnmlncaa", sum := "ef457234185c280771cde16282544a576105c4b39ee4970afdd2afd87dc977e0", func := "archipelago/archipelagolaw18.EpochBack", spec := "epochBack", unfollowed := true, recurses := true, apart := false }
def EpochBackSaid : Prop := epochBackRow.holds Try.pinned (OpenSpec.ofChange epochBackSpec)

/-- ITS FALSE NEIGHBOUR: 'it returns false'. Refute it at one input. -/
def epochBackWrong : ChangeSpec := { name := "epochBack", fn := fun _ => fun
  | [d1, d2, d3] => { results := [.lit (.bool false)], args := [d1, d2, d3] }
  | _ => none }
def EpochBackWrongFalsely : Prop := epochBackRow.holds Try.pinned (OpenSpec.ofChange epochBackWrong)

/-- 'archipelagolaw18.EpochGains': WHATEVER THE INPUT: true; the input reads as it did. -/
def epochGainsSpec : ChangeSpec := { name := "epochGains", fn := fun _ => fun
  | [d] => { results := [.lit (.bool true)], args := [d] }
  | _ => none }
def epochGainsRow : OpenClaim := { program := "ytfalbocgnmlncaa", sum := "ef457234185c280771cde16282544a576105c4b39ee4970afdd2afd87dc977e0", func := "archipelago/archipelagolaw18.EpochGains", spec := "epochGains", unfollowed := true, recurses := true, apart := false }
def EpochGainsSaid : Prop := epochGainsRow.holds Try.pinned (OpenSpec.ofChange epochGainsSpec)

/-- ITS FALSE NEIGHBOUR: 'it returns false'. Refute it at one input. -/
def epochGainsWrong : ChangeSpec := { name := "epochGains", fn := fun _ => fun
  | [d] => { results := [.lit (.bool false)], args := [d] }
  | _ => none }
def EpochGainsWrongFalsely : Prop := epochGainsRow.holds Try.pinned (OpenSpec.ofChange epochGainsWrong)

/- THE SECOND FORM. 'bulk': how many values and letters a reading holds, each counted each time it is reached (what is shared counts as often as it is met; a slice's spare places count too). A statement '..UptoSaid' is the law's where the arguments, and the package variables that the reading takes, are together of bulk at most 1048576: NARROWER than '..Said'. Prove '..Said' where nothing that the law and all that it calls make is longer than what came in: it says more and counts as full. Else prove '..UptoSaid'. A law counts once. -/
mutual
def uptoBulk {H : Type} : DataW H → Nat
  | .lit (.string bytes) => bytes.length + 1
  | .lit _ => 1
  | .nil => 1
  | .ptr d => uptoBulk d + 1
  | .slice elems spare => uptoBulkAll elems + uptoBulkAll spare + 1
  | .agg parts => uptoBulkAll parts + 1
  | .iface _ d => uptoBulk d + 1
  | .map entries => uptoBulkEntries entries + 1
  | .held _ => 1
def uptoBulkAll {H : Type} : List (DataW H) → Nat
  | [] => 0
  | d :: r => uptoBulk d + uptoBulkAll r
def uptoBulkEntries {H : Type} : List (Lit × DataW H) → Nat
  | [] => 0
  | x :: r => uptoBulkEntry x + uptoBulkEntries r
def uptoBulkEntry {H : Type} : Lit × DataW H → Nat
  | (.string bytes, d) => bytes.length + uptoBulk d + 1
  | (_, d) => uptoBulk d + 1
 end
def uptoSmall : (H : Type) → List (DataW H) → Bool := fun _ ds => decide (uptoBulkAll ds ≤ 1048576)
def OpenSpec.upto (s : _root_.Go.ChangeSpec) : _root_.Go.OpenSpec := { _root_.Go.OpenSpec.ofChange s with cond := some uptoSmall }

/-- 'archipelagolaw18.EpochOne', WHERE WHAT IT READS IS OF BULK AT MOST 1048576: true; the input reads as it did. -/
def epochOneUptoRow : OpenClaim := { program := "ytfalbocgnmlncaa", sum := "ef457234185c280771cde16282544a576105c4b39ee4970afdd2afd87dc977e0", func := "archipelago/archipelagolaw18.EpochOne", spec := "epochOne", unfollowed := true, recurses := true, apart := false, narrowed := true }
def EpochOneUptoSaid : Prop := epochOneUptoRow.holds Try.pinned (OpenSpec.upto epochOneSpec)

/-- 'archipelagolaw18.EpochParts', WHERE WHAT IT READS IS OF BULK AT MOST 1048576: true; the input reads as it did. -/
def epochPartsUptoRow : OpenClaim := { program := "ytfalbocgnmlncaa", sum := "ef457234185c280771cde16282544a576105c4b39ee4970afdd2afd87dc977e0", func := "archipelago/archipelagolaw18.EpochParts", spec := "epochParts", unfollowed := true, recurses := true, apart := false, narrowed := true }
def EpochPartsUptoSaid : Prop := epochPartsUptoRow.holds Try.pinned (OpenSpec.upto epochPartsSpec)

/-- 'archipelagolaw18.EpochTells', WHERE WHAT IT READS IS OF BULK AT MOST 1048576: true; the input reads as it did. -/
def epochTellsUptoRow : OpenClaim := { program := "ytfalbocgnmlncaa", sum := "ef457234185c280771cde16282544a576105c4b39ee4970afdd2afd87dc977e0", func := "archipelago/archipelagolaw18.EpochTells", spec := "epochTells", unfollowed := true, recurses := true, apart := false, narrowed := true }
def EpochTellsUptoSaid : Prop := epochTellsUptoRow.holds Try.pinned (OpenSpec.upto epochTellsSpec)

/-- 'archipelagolaw18.EpochBack', WHERE WHAT IT READS IS OF BULK AT MOST 1048576: true; the input reads as it did. -/
def epochBackUptoRow : OpenClaim := { program := "ytfalbocgnmlncaa", sum := "ef457234185c280771cde16282544a576105c4b39ee4970afdd2afd87dc977e0", func := "archipelago/archipelagolaw18.EpochBack", spec := "epochBack", unfollowed := true, recurses := true, apart := false, narrowed := true }
def EpochBackUptoSaid : Prop := epochBackUptoRow.holds Try.pinned (OpenSpec.upto epochBackSpec)

/-- 'archipelagolaw18.EpochGains', WHERE WHAT IT READS IS OF BULK AT MOST 1048576: true; the input reads as it did. -/
def epochGainsUptoRow : OpenClaim := { program := "ytfalbocgnmlncaa", sum := "ef457234185c280771cde16282544a576105c4b39ee4970afdd2afd87dc977e0", func := "archipelago/archipelagolaw18.EpochGains", spec := "epochGains", unfollowed := true, recurses := true, apart := false, narrowed := true }
def EpochGainsUptoSaid : Prop := epochGainsUptoRow.holds Try.pinned (OpenSpec.upto epochGainsSpec)

end Rows
end Go.Proofs.Ytfalbocgnmlncaa
