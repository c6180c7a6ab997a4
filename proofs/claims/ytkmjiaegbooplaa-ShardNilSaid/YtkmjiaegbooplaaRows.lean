/-
  No cell of these rows narrows 'for every input' (looked for: loops, veiled, ifaces, maps, wideKeys, modest, calm, conditions, laid).
  DERIVED. THE GIVEN ROWS OF THIS SEAT. 6 by the template 'for every input the law returns true; each argument reads behind the call as it read before'; 0 by the template 'total and deterministic' (their statements: YtkmjiaegbooplaaTotals.lean).
  GIVEN WITH THE SEED: the statements are not yours to turn. If you find one false, say at which input.
  Laid BY PROGRAM, IN A SANDBOX (cutbox-rows.mjs): the forced cells as the released guide's own fill.sh prints them over the translation d05c149948e574b4… (all of the seat's roots in one cut). By AI agents, Wed Nov 11 2026. No macro, syntax, notation, axiom, sorry.
-/
import Derived.Test.YtkmjiaegbooplaaChecked
import GoSem.Claim
import GoSem.ClaimJoined
import GoSem.ClaimMapViews
import Derived.JoinedTies
import Derived.KernelRfl
namespace Go.Proofs.Ytkmjiaegbooplaa
/- THE CELL 'sum', in the pinned program and in every row, IS THE sha256 OF THE DUMP (.gsa) THAT YtkmjiaegbooplaaProg.lean LOADS. Nothing in Lean hashes anything: it is a label: what it is worth is what the hold of that sum in a sandbox is worth. -/
noncomputable def Try.pinned : Pinned := { name := "ytkmjiaegbooplaa", sum := "d05c149948e574b41c02aa65e3a36de2deba1db4af168633a37e35742071fb11", checked := Try.checked }
namespace Rows
def none {H : Type} : Left H := { results := [], args := [] }

/-- 'archipelagolaw13.ShardMoves': WHATEVER THE INPUT: true; the input reads as it did. -/
def shardMovesSpec : ChangeSpec := { name := "shardMoves", fn := fun _ => fun
  | [d1, d2, d3] => { results := [.lit (.bool true)], args := [d1, d2, d3] }
  | _ => none }
def shardMovesRow : OpenClaim := { program := "ytkmjiaegbooplaa", sum := "d05c149948e574b41c02aa65e3a36de2deba1db4af168633a37e35742071fb11", func := "archipelago/archipelagolaw13.ShardMoves", spec := "shardMoves", inPlace := ["slices.overlaps[archipelago/api.Version]"], unfollowed := true, recurses := true, apart := false }
def ShardMovesSaid : Prop := shardMovesRow.holds Try.pinned (OpenSpec.ofChange shardMovesSpec)

/-- ITS FALSE NEIGHBOUR: 'it returns false'. Refute it at one input. -/
def shardMovesWrong : ChangeSpec := { name := "shardMoves", fn := fun _ => fun
  | [d1, d2, d3] => { results := [.lit (.bool false)], args := [d1, d2, d3] }
  | _ => none }
def ShardMovesWrongFalsely : Prop := shardMovesRow.holds Try.pinned (OpenSpec.ofChange shardMovesWrong)

/-- 'archipelagolaw13.ShardPut': WHATEVER THE INPUT: true; the input reads as it did. -/
def shardPutSpec : ChangeSpec := { name := "shardPut", fn := fun _ => fun
  | [d1, d2, d3] => { results := [.lit (.bool true)], args := [d1, d2, d3] }
  | _ => none }
def shardPutRow : OpenClaim := { program := "ytkmjiaegbooplaa", sum := "d05c149948e574b41c02aa65e3a36de2deba1db4af168633a37e35742071fb11", func := "archipelago/archipelagolaw13.ShardPut", spec := "shardPut", inPlace := ["slices.overlaps[archipelago/api.Version]"], unfollowed := true, recurses := true, apart := false }
def ShardPutSaid : Prop := shardPutRow.holds Try.pinned (OpenSpec.ofChange shardPutSpec)

/-- ITS FALSE NEIGHBOUR: 'it returns false'. Refute it at one input. -/
def shardPutWrong : ChangeSpec := { name := "shardPut", fn := fun _ => fun
  | [d1, d2, d3] => { results := [.lit (.bool false)], args := [d1, d2, d3] }
  | _ => none }
def ShardPutWrongFalsely : Prop := shardPutRow.holds Try.pinned (OpenSpec.ofChange shardPutWrong)

/-- 'archipelagolaw13.ShardOrder': WHATEVER THE INPUT: true; the input reads as it did. -/
def shardOrderSpec : ChangeSpec := { name := "shardOrder", fn := fun _ => fun
  | [d] => { results := [.lit (.bool true)], args := [d] }
  | _ => none }
def shardOrderRow : OpenClaim := { program := "ytkmjiaegbooplaa", sum := "d05c149948e574b41c02aa65e3a36de2deba1db4af168633a37e35742071fb11", func := "archipelago/archipelagolaw13.ShardOrder", spec := "shardOrder", inPlace := ["slices.overlaps[archipelago/api.Version]"], unfollowed := true, recurses := true, apart := false }
def ShardOrderSaid : Prop := shardOrderRow.holds Try.pinned (OpenSpec.ofChange shardOrderSpec)

/-- ITS FALSE NEIGHBOUR: 'it returns false'. Refute it at one input. -/
def shardOrderWrong : ChangeSpec := { name := "shardOrder", fn := fun _ => fun
  | [d] => { results := [.lit (.bool false)], args := [d] }
  | _ => none }
def ShardOrderWrongFalsely : Prop := shardOrderRow.holds Try.pinned (OpenSpec.ofChange shardOrderWrong)

/-- 'archipelagolaw13.ShardCleans': WHATEVER THE INPUT: true; the input reads as it did. -/
def shardCleansSpec : ChangeSpec := { name := "shardCleans", fn := fun _ => fun
  | [d1, d2, d3] => { results := [.lit (.bool true)], args := [d1, d2, d3] }
  | _ => none }
def shardCleansRow : OpenClaim := { program := "ytkmjiaegbooplaa", sum := "d05c149948e574b41c02aa65e3a36de2deba1db4af168633a37e35742071fb11", func := "archipelago/archipelagolaw13.ShardCleans", spec := "shardCleans", inPlace := ["slices.overlaps[archipelago/api.Version]"], unfollowed := true, recurses := true, apart := false }
def ShardCleansSaid : Prop := shardCleansRow.holds Try.pinned (OpenSpec.ofChange shardCleansSpec)

/-- ITS FALSE NEIGHBOUR: 'it returns false'. Refute it at one input. -/
def shardCleansWrong : ChangeSpec := { name := "shardCleans", fn := fun _ => fun
  | [d1, d2, d3] => { results := [.lit (.bool false)], args := [d1, d2, d3] }
  | _ => none }
def ShardCleansWrongFalsely : Prop := shardCleansRow.holds Try.pinned (OpenSpec.ofChange shardCleansWrong)

/-- 'archipelagolaw13.ShardOwns': WHATEVER THE INPUT: true; the input reads as it did. -/
def shardOwnsSpec : ChangeSpec := { name := "shardOwns", fn := fun _ => fun
  | [d1, d2] => { results := [.lit (.bool true)], args := [d1, d2] }
  | _ => none }
def shardOwnsRow : OpenClaim := { program := "ytkmjiaegbooplaa", sum := "d05c149948e574b41c02aa65e3a36de2deba1db4af168633a37e35742071fb11", func := "archipelago/archipelagolaw13.ShardOwns", spec := "shardOwns", inPlace := ["slices.overlaps[archipelago/api.Version]"], unfollowed := true, recurses := true, apart := false }
def ShardOwnsSaid : Prop := shardOwnsRow.holds Try.pinned (OpenSpec.ofChange shardOwnsSpec)

/-- ITS FALSE NEIGHBOUR: 'it returns false'. Refute it at one input. -/
def shardOwnsWrong : ChangeSpec := { name := "shardOwns", fn := fun _ => fun
  | [d1, d2] => { results := [.lit (.bool false)], args := [d1, d2] }
  | _ => none }
def ShardOwnsWrongFalsely : Prop := shardOwnsRow.holds Try.pinned (OpenSpec.ofChange shardOwnsWrong)

/-- 'archipelagolaw13.ShardNil': WHATEVER THE INPUT: true; the input reads as it did. -/
def shardNilSpec : ChangeSpec := { name := "shardNil", fn := fun _ => fun
  | [d] => { results := [.lit (.bool true)], args := [d] }
  | _ => none }
def shardNilRow : OpenClaim := { program := "ytkmjiaegbooplaa", sum := "d05c149948e574b41c02aa65e3a36de2deba1db4af168633a37e35742071fb11", func := "archipelago/archipelagolaw13.ShardNil", spec := "shardNil", inPlace := ["slices.overlaps[archipelago/api.Version]"], unfollowed := true, recurses := true, apart := false }
def ShardNilSaid : Prop := shardNilRow.holds Try.pinned (OpenSpec.ofChange shardNilSpec)

/-- ITS FALSE NEIGHBOUR: 'it returns false'. Refute it at one input. -/
def shardNilWrong : ChangeSpec := { name := "shardNil", fn := fun _ => fun
  | [d] => { results := [.lit (.bool false)], args := [d] }
  | _ => none }
def ShardNilWrongFalsely : Prop := shardNilRow.holds Try.pinned (OpenSpec.ofChange shardNilWrong)

/- THE SECOND FORM. 'bulk': how many values and letters a reading holds, each counted each time it is reached (what is shared counts as often as it is met; a slice's spare places count too). A statement '..UptoSaid' is the law's where the arguments, and the package variables that the reading takes, are together of bulk at most 1048576: NARROWER than '..Said'. Prove '..Said' where nothing that the law and all that it calls make is longer than what came in: it says more and counts as full. Else prove '..UptoSaid'. A law counts once. -/
mutual
def uptoBulk {H : Type} : DataW H → Nat
  | .lit (.string bytes) => bytes.length + 1
  | .lit _ => 1
  | .nil => 1
  | .ptr d => uptoBulk d + 1
  | .slice elems spare => uptoBulkAll elems + uptoBulkAll spare + 1
  | .agg parts => uptoBulkAll parts + 1
  | .iface _ d => uptoBulk d + 1
  | .map entries => uptoBulkEntries entries + 1
  | .held _ => 1
def uptoBulkAll {H : Type} : List (DataW H) → Nat
  | [] => 0
  | d :: r => uptoBulk d + uptoBulkAll r
def uptoBulkEntries {H : Type} : List (Lit × DataW H) → Nat
  | [] => 0
  | x :: r => uptoBulkEntry x + uptoBulkEntries r
def uptoBulkEntry {H : Type} : Lit × DataW H → Nat
  | (.string bytes, d) => bytes.length + uptoBulk d + 1
  | (_, d) => uptoBulk d + 1
 end
def uptoSmall : (H : Type) → List (DataW H) → Bool := fun _ ds => decide (uptoBulkAll ds ≤ 1048576)
def OpenSpec.upto (s : _root_.Go.ChangeSpec) : _root_.Go.OpenSpec := { _root_.Go.OpenSpec.ofChange s with cond := some uptoSmall }

/-- 'archipelagolaw13.ShardMoves', WHERE WHAT IT READS IS OF BULK AT MOST 1048576: true; the input reads as it did. -/
def shardMovesUptoRow : OpenClaim := { program := "ytkmjiaegbooplaa", sum := "d05c149948e574b41c02aa65e3a36de2deba1db4af168633a37e35742071fb11", func := "archipelago/archipelagolaw13.ShardMoves", spec := "shardMoves", inPlace := ["slices.overlaps[archipelago/api.Version]"], unfollowed := true, recurses := true, apart := false, narrowed := true }
def ShardMovesUptoSaid : Prop := shardMovesUptoRow.holds Try.pinned (OpenSpec.upto shardMovesSpec)

/-- 'archipelagolaw13.ShardPut', WHERE WHAT IT READS IS OF BULK AT MOST 1048576: true; the input reads as it did. -/
def shardPutUptoRow : OpenClaim := { program := "ytkmjiaegbooplaa", sum := "d05c149948e574b41c02aa65e3a36de2deba1db4af168633a37e35742071fb11", func := "archipelago/archipelagolaw13.ShardPut", spec := "shardPut", inPlace := ["slices.overlaps[archipelago/api.Version]"], unfollowed := true, recurses := true, apart := false, narrowed := true }
def ShardPutUptoSaid : Prop := shardPutUptoRow.holds Try.pinned (OpenSpec.upto shardPutSpec)

/-- 'archipelagolaw13.ShardOrder', WHERE WHAT IT READS IS OF BULK AT MOST 1048576: true; the input reads as it did. -/
def shardOrderUptoRow : OpenClaim := { program := "ytkmjiaegbooplaa", sum := "d05c149948e574b41c02aa65e3a36de2deba1db4af168633a37e35742071fb11", func := "archipelago/archipelagolaw13.ShardOrder", spec := "shardOrder", inPlace := ["slices.overlaps[archipelago/api.Version]"], unfollowed := true, recurses := true, apart := false, narrowed := true }
def ShardOrderUptoSaid : Prop := shardOrderUptoRow.holds Try.pinned (OpenSpec.upto shardOrderSpec)

/-- 'archipelagolaw13.ShardCleans', WHERE WHAT IT READS IS OF BULK AT MOST 1048576: true; the input reads as it did. -/
def shardCleansUptoRow : OpenClaim := { program := "ytkmjiaegbooplaa", sum := "d05c149948e574b41c02aa65e3a36de2deba1db4af168633a37e35742071fb11", func := "archipelago/archipelagolaw13.ShardCleans", spec := "shardCleans", inPlace := ["slices.overlaps[archipelago/api.Version]"], unfollowed := true, recurses := true, apart := false, narrowed := true }
def ShardCleansUptoSaid : Prop := shardCleansUptoRow.holds Try.pinned (OpenSpec.upto shardCleansSpec)

/-- 'archipelagolaw13.ShardOwns', WHERE WHAT IT READS IS OF BULK AT MOST 1048576: true; the input reads as it did. -/
def shardOwnsUptoRow : OpenClaim := { program := "ytkmjiaegbooplaa", sum := "d05c149948e574b41c02aa65e3a36de2deba1db4af168633a37e35742071fb11", func := "archipelago/archipelagolaw13.ShardOwns", spec := "shardOwns", inPlace := ["slices.overlaps[archipelago/api.Version]"], unfollowed := true, recurses := true, apart := false, narrowed := true }
def ShardOwnsUptoSaid : Prop := shardOwnsUptoRow.holds Try.pinned (OpenSpec.upto shardOwnsSpec)

/-- 'archipelagolaw13.ShardNil', WHERE WHAT IT READS IS OF BULK AT MOST 1048576: true; the input reads as it did. -/
def shardNilUptoRow : OpenClaim := { program := "ytkmjiaegbooplaa", sum := "d05c149948e574b41c02aa65e3a36de2deba1db4af168633a37e35742071fb11", func := "archipelago/archipelagolaw13.ShardNil", spec := "shardNil", inPlace := ["slices.overlaps[archipelago/api.Version]"], unfollowed := true, recurses := true, apart := false, narrowed := true }
def ShardNilUptoSaid : Prop := shardNilUptoRow.holds Try.pinned (OpenSpec.upto shardNilSpec)

end Rows
end Go.Proofs.Ytkmjiaegbooplaa
