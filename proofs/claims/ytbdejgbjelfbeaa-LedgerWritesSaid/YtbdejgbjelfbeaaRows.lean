/-
  No cell of these rows narrows 'for every input' (looked for: loops, veiled, ifaces, maps, wideKeys, modest, calm, conditions, laid).
  DERIVED. THE GIVEN ROWS OF THIS SEAT. 5 by the template 'for every input the law returns true; each argument reads behind the call as it read before'; 0 by the template 'total and deterministic' (their statements: YtbdejgbjelfbeaaTotals.lean).
  GIVEN WITH THE SEED: the statements are not yours to turn. If you find one false, say at which input.
  Laid BY PROGRAM, IN A SANDBOX (cutbox-rows.mjs): the forced cells as the released guide's own fill.sh prints them over the translation 4e6a80827338a417… (all of the seat's roots in one cut). By AI agents, Wed Nov 11 2026. No macro, syntax, notation, axiom, sorry.
-/
import Derived.Test.YtbdejgbjelfbeaaChecked
import GoSem.Claim
import GoSem.ClaimJoined
import GoSem.ClaimMapViews
import Derived.JoinedTies
import Derived.KernelRfl
namespace Go.Proofs.Ytbdejgbjelfbeaa
/- THE CELL 'sum', in the pinned program and in every row, IS THE sha256 OF THE DUMP (.gsa) THAT YtbdejgbjelfbeaaProg.lean LOADS. Nothing in Lean hashes anything: it is a label: what it is worth is what the hold of that sum in a sandbox is worth. -/
noncomputable def Try.pinned : Pinned := { name := "ytbdejgbjelfbeaa", sum := "4e6a80827338a417c9feb432726a06a232e73ebccae811948dcfaf443fc4fbf5", checked := Try.checked }
namespace Rows
def none {H : Type} : Left H := { results := [], args := [] }

/-- 'archipelagolaw26.LedgerParts': WHATEVER THE INPUT: true; the input reads as it did. -/
def ledgerPartsSpec : ChangeSpec := { name := "ledgerParts", fn := fun _ => fun
  | [d1, d2] => { results := [.lit (.bool true)], args := [d1, d2] }
  | _ => none }
def ledgerPartsRow : OpenClaim := { program := "ytbdejgbjelfbeaa", sum := "4e6a80827338a417c9feb432726a06a232e73ebccae811948dcfaf443fc4fbf5", func := "archipelago/archipelagolaw26.LedgerParts", spec := "ledgerParts", inPlace := ["internal/abi.NoEscape", "internal/bytealg.MakeNoZero"], unfollowed := true, recurses := true, apart := false }
def LedgerPartsSaid : Prop := ledgerPartsRow.holds Try.pinned (OpenSpec.ofChange ledgerPartsSpec)

/-- ITS FALSE NEIGHBOUR: 'it returns false'. Refute it at one input. -/
def ledgerPartsWrong : ChangeSpec := { name := "ledgerParts", fn := fun _ => fun
  | [d1, d2] => { results := [.lit (.bool false)], args := [d1, d2] }
  | _ => none }
def LedgerPartsWrongFalsely : Prop := ledgerPartsRow.holds Try.pinned (OpenSpec.ofChange ledgerPartsWrong)

/-- 'archipelagolaw26.LedgerClients': WHATEVER THE INPUT: true; the input reads as it did. -/
def ledgerClientsSpec : ChangeSpec := { name := "ledgerClients", fn := fun _ => fun
  | [d] => { results := [.lit (.bool true)], args := [d] }
  | _ => none }
def ledgerClientsRow : OpenClaim := { program := "ytbdejgbjelfbeaa", sum := "4e6a80827338a417c9feb432726a06a232e73ebccae811948dcfaf443fc4fbf5", func := "archipelago/archipelagolaw26.LedgerClients", spec := "ledgerClients", inPlace := ["internal/abi.NoEscape", "internal/bytealg.MakeNoZero"], unfollowed := true, recurses := true, apart := false }
def LedgerClientsSaid : Prop := ledgerClientsRow.holds Try.pinned (OpenSpec.ofChange ledgerClientsSpec)

/-- ITS FALSE NEIGHBOUR: 'it returns false'. Refute it at one input. -/
def ledgerClientsWrong : ChangeSpec := { name := "ledgerClients", fn := fun _ => fun
  | [d] => { results := [.lit (.bool false)], args := [d] }
  | _ => none }
def LedgerClientsWrongFalsely : Prop := ledgerClientsRow.holds Try.pinned (OpenSpec.ofChange ledgerClientsWrong)

/-- 'archipelagolaw26.LedgerWrites': WHATEVER THE INPUT: true; the input reads as it did. -/
def ledgerWritesSpec : ChangeSpec := { name := "ledgerWrites", fn := fun _ => fun
  | [d] => { results := [.lit (.bool true)], args := [d] }
  | _ => none }
def ledgerWritesRow : OpenClaim := { program := "ytbdejgbjelfbeaa", sum := "4e6a80827338a417c9feb432726a06a232e73ebccae811948dcfaf443fc4fbf5", func := "archipelago/archipelagolaw26.LedgerWrites", spec := "ledgerWrites", inPlace := ["internal/abi.NoEscape", "internal/bytealg.MakeNoZero"], unfollowed := true, recurses := true, apart := false }
def LedgerWritesSaid : Prop := ledgerWritesRow.holds Try.pinned (OpenSpec.ofChange ledgerWritesSpec)

/-- ITS FALSE NEIGHBOUR: 'it returns false'. Refute it at one input. -/
def ledgerWritesWrong : ChangeSpec := { name := "ledgerWrites", fn := fun _ => fun
  | [d] => { results := [.lit (.bool false)], args := [d] }
  | _ => none }
def LedgerWritesWrongFalsely : Prop := ledgerWritesRow.holds Try.pinned (OpenSpec.ofChange ledgerWritesWrong)

/-- 'archipelagolaw26.LedgerReads': WHATEVER THE INPUT: true; the input reads as it did. -/
def ledgerReadsSpec : ChangeSpec := { name := "ledgerReads", fn := fun _ => fun
  | [d1, d2, d3] => { results := [.lit (.bool true)], args := [d1, d2, d3] }
  | _ => none }
def ledgerReadsRow : OpenClaim := { program := "ytbdejgbjelfbeaa", sum := "4e6a80827338a417c9feb432726a06a232e73ebccae811948dcfaf443fc4fbf5", func := "archipelago/archipelagolaw26.LedgerReads", spec := "ledgerReads", inPlace := ["internal/abi.NoEscape", "internal/bytealg.MakeNoZero"], unfollowed := true, recurses := true, apart := false }
def LedgerReadsSaid : Prop := ledgerReadsRow.holds Try.pinned (OpenSpec.ofChange ledgerReadsSpec)

/-- ITS FALSE NEIGHBOUR: 'it returns false'. Refute it at one input. -/
def ledgerReadsWrong : ChangeSpec := { name := "ledgerReads", fn := fun _ => fun
  | [d1, d2, d3] => { results := [.lit (.bool false)], args := [d1, d2, d3] }
  | _ => none }
def LedgerReadsWrongFalsely : Prop := ledgerReadsRow.holds Try.pinned (OpenSpec.ofChange ledgerReadsWrong)

/-- 'archipelagolaw26.LedgerBack': WHATEVER THE INPUT: true; the input reads as it did. -/
def ledgerBackSpec : ChangeSpec := { name := "ledgerBack", fn := fun _ => fun
  | [d1, d2] => { results := [.lit (.bool true)], args := [d1, d2] }
  | _ => none }
def ledgerBackRow : OpenClaim := { program := "ytbdejgbjelfbeaa", sum := "4e6a80827338a417c9feb432726a06a232e73ebccae811948dcfaf443fc4fbf5", func := "archipelago/archipelagolaw26.LedgerBack", spec := "ledgerBack", inPlace := ["internal/abi.NoEscape", "internal/bytealg.MakeNoZero"], unfollowed := true, recurses := true, apart := false }
def LedgerBackSaid : Prop := ledgerBackRow.holds Try.pinned (OpenSpec.ofChange ledgerBackSpec)

/-- ITS FALSE NEIGHBOUR: 'it returns false'. Refute it at one input. -/
def ledgerBackWrong : ChangeSpec := { name := "ledgerBack", fn := fun _ => fun
  | [d1, d2] => { results := [.lit (.bool false)], args := [d1, d2] }
  | _ => none }
def LedgerBackWrongFalsely : Prop := ledgerBackRow.holds Try.pinned (OpenSpec.ofChange ledgerBackWrong)

/- THE SECOND FORM. 'bulk': how many values and letters a reading holds, each counted each time it is reached (what is shared counts as often as it is met; a slice's spare places count too). A statement '..UptoSaid' is the law's where the arguments, and the package variables that the reading takes, are together of bulk at most 1048576: NARROWER than '..Said'. Prove '..Said' where nothing that the law and all that it calls make is longer than what came in: it says more and counts as full. Else prove '..UptoSaid'. A law counts once. -/
mutual
def uptoBulk {H : Type} : DataW H → Nat
  | .lit (.string bytes) => bytes.length + 1
  | .lit _ => 1
  | .nil => 1
  | .ptr d => uptoBulk d + 1
  | .slice elems spare => uptoBulkAll elems + uptoBulkAll spare + 1
  | .agg parts => uptoBulkAll parts + 1
  | .iface _ d => uptoBulk d + 1
  | .map entries => uptoBulkEntries entries + 1
  | .held _ => 1
def uptoBulkAll {H : Type} : List (DataW H) → Nat
  | [] => 0
  | d :: r => uptoBulk d + uptoBulkAll r
def uptoBulkEntries {H : Type} : List (Lit × DataW H) → Nat
  | [] => 0
  | x :: r => uptoBulkEntry x + uptoBulkEntries r
def uptoBulkEntry {H : Type} : Lit × DataW H → Nat
  | (.string bytes, d) => bytes.length + uptoBulk d + 1
  | (_, d) => uptoBulk d + 1
 end
def uptoSmall : (H : Type) → List (DataW H) → Bool := fun _ ds => decide (uptoBulkAll ds ≤ 1048576)
def OpenSpec.upto (s : _root_.Go.ChangeSpec) : _root_.Go.OpenSpec := { _root_.Go.OpenSpec.ofChange s with cond := some uptoSmall }

/-- 'archipelagolaw26.LedgerParts', WHERE WHAT IT READS IS OF BULK AT MOST 1048576: true; the input reads as it did. -/
def ledgerPartsUptoRow : OpenClaim := { program := "ytbdejgbjelfbeaa", sum := "4e6a80827338a417c9feb432726a06a232e73ebccae811948dcfaf443fc4fbf5", func := "archipelago/archipelagolaw26.LedgerParts", spec := "ledgerParts", inPlace := ["internal/abi.NoEscape", "internal/bytealg.MakeNoZero"], unfollowed := true, recurses := true, apart := false, narrowed := true }
def LedgerPartsUptoSaid : Prop := ledgerPartsUptoRow.holds Try.pinned (OpenSpec.upto ledgerPartsSpec)

/-- 'archipelagolaw26.LedgerClients', WHERE WHAT IT READS IS OF BULK AT MOST 1048576: true; the input reads as it did. -/
def ledgerClientsUptoRow : OpenClaim := { program := "ytbdejgbjelfbeaa", sum := "4e6a80827338a417c9feb432726a06a232e73ebccae811948dcfaf443fc4fbf5", func := "archipelago/archipelagolaw26.LedgerClients", spec := "ledgerClients", inPlace := ["internal/abi.NoEscape", "internal/bytealg.MakeNoZero"], unfollowed := true, recurses := true, apart := false, narrowed := true }
def LedgerClientsUptoSaid : Prop := ledgerClientsUptoRow.holds Try.pinned (OpenSpec.upto ledgerClientsSpec)

/-- 'archipelagolaw26.LedgerWrites', WHERE WHAT IT READS IS OF BULK AT MOST 1048576: true; the input reads as it did. -/
def ledgerWritesUptoRow : OpenClaim := { program := "ytbdejgbjelfbeaa", sum := "4e6a80827338a417c9feb432726a06a232e73ebccae811948dcfaf443fc4fbf5", func := "archipelago/archipelagolaw26.LedgerWrites", spec := "ledgerWrites", inPlace := ["internal/abi.NoEscape", "internal/bytealg.MakeNoZero"], unfollowed := true, recurses := true, apart := false, narrowed := true }
def LedgerWritesUptoSaid : Prop := ledgerWritesUptoRow.holds Try.pinned (OpenSpec.upto ledgerWritesSpec)

/-- 'archipelagolaw26.LedgerReads', WHERE WHAT IT READS IS OF BULK AT MOST 1048576: true; the input reads as it did. -/
def ledgerReadsUptoRow : OpenClaim := { program := "ytbdejgbjelfbeaa", sum := "4e6a80827338a417c9feb432726a06a232e73ebccae811948dcfaf443fc4fbf5", func := "archipelago/archipelagolaw26.LedgerReads", spec := "ledgerReads", inPlace := ["internal/abi.NoEscape", "internal/bytealg.MakeNoZero"], unfollowed := true, recurses := true, apart := false, narrowed := true }
def LedgerReadsUptoSaid : Prop := ledgerReadsUptoRow.holds Try.pinned (OpenSpec.upto ledgerReadsSpec)

/-- 'archipelagolaw26.LedgerBack', WHERE WHAT IT READS IS OF BULK AT MOST 1048576: true; the input reads as it did. -/
def ledgerBackUptoRow : OpenClaim := { program := "ytbdejgbjelfbeaa", sum := "4e6a80827338a417c9feb432726a06a232e73ebccae811948dcfaf443fc4fbf5", func := "archipelago/archipelagolaw26.LedgerBack", spec := "ledgerBack", inPlace := ["internal/abi.NoEscape", "internal/bytealg.MakeNoZero"], unfollowed := true, recurses := true, apart := false, narrowed := true }
def LedgerBackUptoSaid : Prop := ledgerBackUptoRow.holds Try.pinned (OpenSpec.upto ledgerBackSpec)

end Rows
end Go.Proofs.Ytbdejgbjelfbeaa
