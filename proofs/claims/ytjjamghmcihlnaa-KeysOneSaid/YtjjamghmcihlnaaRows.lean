/-
  No cell of these rows narrows 'for every input' (looked for: loops, veiled, ifaces, maps, wideKeys, modest, calm, conditions, laid).
  DERIVED. THE GIVEN ROWS OF THIS SEAT. 8 by the template 'for every input the law returns true; each argument reads behind the call as it read before'; 0 by the template 'total and deterministic' (their statements: YtjjamghmcihlnaaTotals.lean).
  GIVEN WITH THE SEED: the statements are not yours to turn. If you find one false, say at which input.
  Laid BY PROGRAM, IN A SANDBOX (cutbox-rows.mjs): the forced cells as the released guide's own fill.sh prints them over the translation 4e90646126d2eee0… (all of the seat's roots in one cut). By AI agents, Wed Nov 11 2026. No macro, syntax, notation, axiom, sorry.
-/
import Derived.Test.YtjjamghmcihlnaaChecked
import GoSem.Claim
import GoSem.ClaimJoined
import GoSem.ClaimMapViews
import Derived.JoinedTies
import Derived.KernelRfl
namespace Go.Proofs.Ytjjamghmcihlnaa
/- THE CELL 'sum', in the pinned program and in every row, IS THE sha256 OF THE DUMP (.gsa) THAT YtjjamghmcihlnaaProg.lean LOADS. Nothing in Lean hashes anything: it is a label: what it is worth is what the hold of that sum in a sandbox is worth. -/
noncomputable def Try.pinned : Pinned := { name := "ytjjamghmcihlnaa", sum := "4e90646126d2eee0ae397f46d7acd989654116b012ceba85d2d9e6f58e917380", checked := Try.checked }
namespace Rows
def none {H : Type} : Left H := { results := [], args := [] }

/-- 'archipelagolaw02.KeysChecks': WHATEVER THE INPUT: true; the input reads as it did. -/
def keysChecksSpec : ChangeSpec := { name := "keysChecks", fn := fun _ => fun
  | [d] => { results := [.lit (.bool true)], args := [d] }
  | _ => none }
def keysChecksRow : OpenClaim := { program := "ytjjamghmcihlnaa", sum := "4e90646126d2eee0ae397f46d7acd989654116b012ceba85d2d9e6f58e917380", func := "archipelago/archipelagolaw02.KeysChecks", spec := "keysChecks", unfollowed := true, recurses := true, apart := false }
def KeysChecksSaid : Prop := keysChecksRow.holds Try.pinned (OpenSpec.ofChange keysChecksSpec)

/-- ITS FALSE NEIGHBOUR: 'it returns false'. Refute it at one input. -/
def keysChecksWrong : ChangeSpec := { name := "keysChecks", fn := fun _ => fun
  | [d] => { results := [.lit (.bool false)], args := [d] }
  | _ => none }
def KeysChecksWrongFalsely : Prop := keysChecksRow.holds Try.pinned (OpenSpec.ofChange keysChecksWrong)

/-- 'archipelagolaw02.KeysRunes': WHATEVER THE INPUT: true; the input reads as it did. -/
def keysRunesSpec : ChangeSpec := { name := "keysRunes", fn := fun _ => fun
  | [d] => { results := [.lit (.bool true)], args := [d] }
  | _ => none }
def keysRunesRow : OpenClaim := { program := "ytjjamghmcihlnaa", sum := "4e90646126d2eee0ae397f46d7acd989654116b012ceba85d2d9e6f58e917380", func := "archipelago/archipelagolaw02.KeysRunes", spec := "keysRunes", unfollowed := true, recurses := true, apart := false }
def KeysRunesSaid : Prop := keysRunesRow.holds Try.pinned (OpenSpec.ofChange keysRunesSpec)

/-- ITS FALSE NEIGHBOUR: 'it returns false'. Refute it at one input. -/
def keysRunesWrong : ChangeSpec := { name := "keysRunes", fn := fun _ => fun
  | [d] => { results := [.lit (.bool false)], args := [d] }
  | _ => none }
def KeysRunesWrongFalsely : Prop := keysRunesRow.holds Try.pinned (OpenSpec.ofChange keysRunesWrong)

/-- 'archipelagolaw02.KeysOrder': WHATEVER THE INPUT: true; the input reads as it did. -/
def keysOrderSpec : ChangeSpec := { name := "keysOrder", fn := fun _ => fun
  | [d1, d2] => { results := [.lit (.bool true)], args := [d1, d2] }
  | _ => none }
def keysOrderRow : OpenClaim := { program := "ytjjamghmcihlnaa", sum := "4e90646126d2eee0ae397f46d7acd989654116b012ceba85d2d9e6f58e917380", func := "archipelago/archipelagolaw02.KeysOrder", spec := "keysOrder", unfollowed := true, recurses := true, apart := false }
def KeysOrderSaid : Prop := keysOrderRow.holds Try.pinned (OpenSpec.ofChange keysOrderSpec)

/-- ITS FALSE NEIGHBOUR: 'it returns false'. Refute it at one input. -/
def keysOrderWrong : ChangeSpec := { name := "keysOrder", fn := fun _ => fun
  | [d1, d2] => { results := [.lit (.bool false)], args := [d1, d2] }
  | _ => none }
def KeysOrderWrongFalsely : Prop := keysOrderRow.holds Try.pinned (OpenSpec.ofChange keysOrderWrong)

/-- 'archipelagolaw02.KeysMeet': WHATEVER THE INPUT: true; the input reads as it did. -/
def keysMeetSpec : ChangeSpec := { name := "keysMeet", fn := fun _ => fun
  | [d1, d2] => { results := [.lit (.bool true)], args := [d1, d2] }
  | _ => none }
def keysMeetRow : OpenClaim := { program := "ytjjamghmcihlnaa", sum := "4e90646126d2eee0ae397f46d7acd989654116b012ceba85d2d9e6f58e917380", func := "archipelago/archipelagolaw02.KeysMeet", spec := "keysMeet", unfollowed := true, recurses := true, apart := false }
def KeysMeetSaid : Prop := keysMeetRow.holds Try.pinned (OpenSpec.ofChange keysMeetSpec)

/-- ITS FALSE NEIGHBOUR: 'it returns false'. Refute it at one input. -/
def keysMeetWrong : ChangeSpec := { name := "keysMeet", fn := fun _ => fun
  | [d1, d2] => { results := [.lit (.bool false)], args := [d1, d2] }
  | _ => none }
def KeysMeetWrongFalsely : Prop := keysMeetRow.holds Try.pinned (OpenSpec.ofChange keysMeetWrong)

/-- 'archipelagolaw02.KeysEdges': WHATEVER THE INPUT: true; the input reads as it did. -/
def keysEdgesSpec : ChangeSpec := { name := "keysEdges", fn := fun _ => fun
  | [d1, d2] => { results := [.lit (.bool true)], args := [d1, d2] }
  | _ => none }
def keysEdgesRow : OpenClaim := { program := "ytjjamghmcihlnaa", sum := "4e90646126d2eee0ae397f46d7acd989654116b012ceba85d2d9e6f58e917380", func := "archipelago/archipelagolaw02.KeysEdges", spec := "keysEdges", unfollowed := true, recurses := true, apart := false }
def KeysEdgesSaid : Prop := keysEdgesRow.holds Try.pinned (OpenSpec.ofChange keysEdgesSpec)

/-- ITS FALSE NEIGHBOUR: 'it returns false'. Refute it at one input. -/
def keysEdgesWrong : ChangeSpec := { name := "keysEdges", fn := fun _ => fun
  | [d1, d2] => { results := [.lit (.bool false)], args := [d1, d2] }
  | _ => none }
def KeysEdgesWrongFalsely : Prop := keysEdgesRow.holds Try.pinned (OpenSpec.ofChange keysEdgesWrong)

/-- 'archipelagolaw02.KeysBounds': WHATEVER THE INPUT: true; the input reads as it did. -/
def keysBoundsSpec : ChangeSpec := { name := "keysBounds", fn := fun _ => fun
  | [d] => { results := [.lit (.bool true)], args := [d] }
  | _ => none }
def keysBoundsRow : OpenClaim := { program := "ytjjamghmcihlnaa", sum := "4e90646126d2eee0ae397f46d7acd989654116b012ceba85d2d9e6f58e917380", func := "archipelago/archipelagolaw02.KeysBounds", spec := "keysBounds", unfollowed := true, recurses := true, apart := false }
def KeysBoundsSaid : Prop := keysBoundsRow.holds Try.pinned (OpenSpec.ofChange keysBoundsSpec)

/-- ITS FALSE NEIGHBOUR: 'it returns false'. Refute it at one input. -/
def keysBoundsWrong : ChangeSpec := { name := "keysBounds", fn := fun _ => fun
  | [d] => { results := [.lit (.bool false)], args := [d] }
  | _ => none }
def KeysBoundsWrongFalsely : Prop := keysBoundsRow.holds Try.pinned (OpenSpec.ofChange keysBoundsWrong)

/-- 'archipelagolaw02.KeysRanges': WHATEVER THE INPUT: true; the input reads as it did. -/
def keysRangesSpec : ChangeSpec := { name := "keysRanges", fn := fun _ => fun
  | [d1, d2] => { results := [.lit (.bool true)], args := [d1, d2] }
  | _ => none }
def keysRangesRow : OpenClaim := { program := "ytjjamghmcihlnaa", sum := "4e90646126d2eee0ae397f46d7acd989654116b012ceba85d2d9e6f58e917380", func := "archipelago/archipelagolaw02.KeysRanges", spec := "keysRanges", unfollowed := true, recurses := true, apart := false }
def KeysRangesSaid : Prop := keysRangesRow.holds Try.pinned (OpenSpec.ofChange keysRangesSpec)

/-- ITS FALSE NEIGHBOUR: 'it returns false'. Refute it at one input. -/
def keysRangesWrong : ChangeSpec := { name := "keysRanges", fn := fun _ => fun
  | [d1, d2] => { results := [.lit (.bool false)], args := [d1, d2] }
  | _ => none }
def KeysRangesWrongFalsely : Prop := keysRangesRow.holds Try.pinned (OpenSpec.ofChange keysRangesWrong)

/-- 'archipelagolaw02.KeysOne': WHATEVER THE INPUT: true; the input reads as it did. -/
def keysOneSpec : ChangeSpec := { name := "keysOne", fn := fun _ => fun
  | [d1, d2] => { results := [.lit (.bool true)], args := [d1, d2] }
  | _ => none }
def keysOneRow : OpenClaim := { program := "ytjjamghmcihlnaa", sum := "4e90646126d2eee0ae397f46d7acd989654116b012ceba85d2d9e6f58e917380", func := "archipelago/archipelagolaw02.KeysOne", spec := "keysOne", unfollowed := true, recurses := true, apart := false }
def KeysOneSaid : Prop := keysOneRow.holds Try.pinned (OpenSpec.ofChange keysOneSpec)

/-- ITS FALSE NEIGHBOUR: 'it returns false'. Refute it at one input. -/
def keysOneWrong : ChangeSpec := { name := "keysOne", fn := fun _ => fun
  | [d1, d2] => { results := [.lit (.bool false)], args := [d1, d2] }
  | _ => none }
def KeysOneWrongFalsely : Prop := keysOneRow.holds Try.pinned (OpenSpec.ofChange keysOneWrong)

/- THE SECOND FORM. 'bulk': how many values and letters a reading holds, each counted each time it is reached (what is shared counts as often as it is met; a slice's spare places count too). A statement '..UptoSaid' is the law's where the arguments, and the package variables that the reading takes, are together of bulk at most 1048576: NARROWER than '..Said'. Prove '..Said' where nothing that the law and all that it calls make is longer than what came in: it says more and counts as full. Else prove '..UptoSaid'. A law counts once. -/
mutual
def uptoBulk {H : Type} : DataW H → Nat
  | .lit (.string bytes) => bytes.length + 1
  | .lit _ => 1
  | .nil => 1
  | .ptr d => uptoBulk d + 1
  | .slice elems spare => uptoBulkAll elems + uptoBulkAll spare + 1
  | .agg parts => uptoBulkAll parts + 1
  | .iface _ d => uptoBulk d + 1
  | .map entries => uptoBulkEntries entries + 1
  | .held _ => 1
def uptoBulkAll {H : Type} : List (DataW H) → Nat
  | [] => 0
  | d :: r => uptoBulk d + uptoBulkAll r
def uptoBulkEntries {H : Type} : List (Lit × DataW H) → Nat
  | [] => 0
  | x :: r => uptoBulkEntry x + uptoBulkEntries r
def uptoBulkEntry {H : Type} : Lit × DataW H → Nat
  | (.string bytes, d) => bytes.length + uptoBulk d + 1
  | (_, d) => uptoBulk d + 1
 end
def uptoSmall : (H : Type) → List (DataW H) → Bool := fun _ ds => decide (uptoBulkAll ds ≤ 1048576)
def OpenSpec.upto (s : _root_.Go.ChangeSpec) : _root_.Go.OpenSpec := { _root_.Go.OpenSpec.ofChange s with cond := some uptoSmall }

/-- 'archipelagolaw02.KeysChecks', WHERE WHAT IT READS IS OF BULK AT MOST 1048576: true; the input reads as it did. -/
def keysChecksUptoRow : OpenClaim := { program := "ytjjamghmcihlnaa", sum := "4e90646126d2eee0ae397f46d7acd989654116b012ceba85d2d9e6f58e917380", func := "archipelago/archipelagolaw02.KeysChecks", spec := "keysChecks", unfollowed := true, recurses := true, apart := false, narrowed := true }
def KeysChecksUptoSaid : Prop := keysChecksUptoRow.holds Try.pinned (OpenSpec.upto keysChecksSpec)

/-- 'archipelagolaw02.KeysRunes', WHERE WHAT IT READS IS OF BULK AT MOST 1048576: true; the input reads as it did. -/
def keysRunesUptoRow : OpenClaim := { program := "ytjjamghmcihlnaa", sum := "4e90646126d2eee0ae397f46d7acd989654116b012ceba85d2d9e6f58e917380", func := "archipelago/archipelagolaw02.KeysRunes", spec := "keysRunes", unfollowed := true, recurses := true, apart := false, narrowed := true }
def KeysRunesUptoSaid : Prop := keysRunesUptoRow.holds Try.pinned (OpenSpec.upto keysRunesSpec)

/-- 'archipelagolaw02.KeysOrder', WHERE WHAT IT READS IS OF BULK AT MOST 1048576: true; the input reads as it did. -/
def keysOrderUptoRow : OpenClaim := { program := "ytjjamghmcihlnaa", sum := "4e90646126d2eee0ae397f46d7acd989654116b012ceba85d2d9e6f58e917380", func := "archipelago/archipelagolaw02.KeysOrder", spec := "keysOrder", unfollowed := true, recurses := true, apart := false, narrowed := true }
def KeysOrderUptoSaid : Prop := keysOrderUptoRow.holds Try.pinned (OpenSpec.upto keysOrderSpec)

/-- 'archipelagolaw02.KeysMeet', WHERE WHAT IT READS IS OF BULK AT MOST 1048576: true; the input reads as it did. -/
def keysMeetUptoRow : OpenClaim := { program := "ytjjamghmcihlnaa", sum := "4e90646126d2eee0ae397f46d7acd989654116b012ceba85d2d9e6f58e917380", func := "archipelago/archipelagolaw02.KeysMeet", spec := "keysMeet", unfollowed := true, recurses := true, apart := false, narrowed := true }
def KeysMeetUptoSaid : Prop := keysMeetUptoRow.holds Try.pinned (OpenSpec.upto keysMeetSpec)

/-- 'archipelagolaw02.KeysEdges', WHERE WHAT IT READS IS OF BULK AT MOST 1048576: true; the input reads as it did. -/
def keysEdgesUptoRow : OpenClaim := { program := "ytjjamghmcihlnaa", sum := "4e90646126d2eee0ae397f46d7acd989654116b012ceba85d2d9e6f58e917380", func := "archipelago/archipelagolaw02.KeysEdges", spec := "keysEdges", unfollowed := true, recurses := true, apart := false, narrowed := true }
def KeysEdgesUptoSaid : Prop := keysEdgesUptoRow.holds Try.pinned (OpenSpec.upto keysEdgesSpec)

/-- 'archipelagolaw02.KeysBounds', WHERE WHAT IT READS IS OF BULK AT MOST 1048576: true; the input reads as it did. -/
def keysBoundsUptoRow : OpenClaim := { program := "ytjjamghmcihlnaa", sum := "4e90646126d2eee0ae397f46d7acd989654116b012ceba85d2d9e6f58e917380", func := "archipelago/archipelagolaw02.KeysBounds", spec := "keysBounds", unfollowed := true, recurses := true, apart := false, narrowed := true }
def KeysBoundsUptoSaid : Prop := keysBoundsUptoRow.holds Try.pinned (OpenSpec.upto keysBoundsSpec)

/-- 'archipelagolaw02.KeysRanges', WHERE WHAT IT READS IS OF BULK AT MOST 1048576: true; the input reads as it did. -/
def keysRangesUptoRow : OpenClaim := { program := "ytjjamghmcihlnaa", sum := "4e90646126d2eee0ae397f46d7acd989654116b012ceba85d2d9e6f58e917380", func := "archipelago/archipelagolaw02.KeysRanges", spec := "keysRanges", unfollowed := true, recurses := true, apart := false, narrowed := true }
def KeysRangesUptoSaid : Prop := keysRangesUptoRow.holds Try.pinned (OpenSpec.upto keysRangesSpec)

/-- 'archipelagolaw02.KeysOne', WHERE WHAT IT READS IS OF BULK AT MOST 1048576: true; the input reads as it did. -/
def keysOneUptoRow : OpenClaim := { program := "ytjjamghmcihlnaa", sum := "4e90646126d2eee0ae397f46d7acd989654116b012ceba85d2d9e6f58e917380", func := "archipelago/archipelagolaw02.KeysOne", spec := "keysOne", unfollowed := true, recurses := true, apart := false, narrowed := true }
def KeysOneUptoSaid : Prop := keysOneUptoRow.holds Try.pinned (OpenSpec.upto keysOneSpec)

end Rows
end Go.Proofs.Ytjjamghmcihlnaa
