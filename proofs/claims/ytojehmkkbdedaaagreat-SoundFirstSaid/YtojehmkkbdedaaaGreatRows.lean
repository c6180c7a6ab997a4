/-
  No cell of these rows narrows 'for every input' (looked for: loops, veiled, ifaces, maps, wideKeys, modest, calm, conditions, laid).
  DERIVED. THE GIVEN ROWS OF THIS SEAT. 1 by the template 'for every input the law returns true; each argument reads behind the call as it read before'; 0 by the template 'total and deterministic' (their statements: YtojehmkkbdedaaaGreatTotals.lean).
  GIVEN WITH THE SEED: the statements are not yours to turn. If you find one false, say at which input.
  Laid BY PROGRAM, IN A SANDBOX (cutbox-rows.mjs): the forced cells as the released guide's own fill.sh prints them over the translation 9947df51654da67d… (all of the seat's roots in one cut). By AI agents, Wed Nov 11 2026. No macro, syntax, notation, axiom, sorry.
-/
import Derived.Test.YtojehmkkbdedaaaGreatChecked
import GoSem.Claim
import GoSem.ClaimJoined
import GoSem.ClaimMapViews
import Derived.JoinedTies
import Derived.KernelRfl
namespace Go.Proofs.YtojehmkkbdedaaaGreat
/- THE CELL 'sum', in the pinned program and in every row, IS THE sha256 OF THE DUMP (.gsa) THAT YtojehmkkbdedaaaGreatProg.lean LOADS. Nothing in Lean hashes anything: it is a label: what it is worth is what the hold of that sum in a sandbox is worth. -/
noncomputable def Tryz.pinned : Pinned := { name := "ytojehmkkbdedaaagreat", sum := "9947df51654da67dc2193643fc9f8dfe119fe33fc4d8e8a460384ec47448f4b8", checked := Tryz.checked }
namespace Rows
def none {H : Type} : Left H := { results := [], args := [] }

/-- 'archipelagolaw27.SoundFirst': WHATEVER THE INPUT: true; the input reads as it did. -/
def soundFirstSpec : ChangeSpec := { name := "soundFirst", fn := fun _ => fun
  | [d1, d2] => { results := [.lit (.bool true)], args := [d1, d2] }
  | _ => none }
def soundFirstRow : OpenClaim := { program := "ytojehmkkbdedaaagreat", sum := "9947df51654da67dc2193643fc9f8dfe119fe33fc4d8e8a460384ec47448f4b8", func := "archipelago/archipelagolaw27.SoundFirst", spec := "soundFirst", inPlace := ["slices.overlaps[archipelago/api.Dep]"], unfollowed := true, recurses := true, plainKeys := false, apart := false }
def SoundFirstSaid : Prop := soundFirstRow.holds Tryz.pinned (OpenSpec.ofChange soundFirstSpec)

/-- ITS FALSE NEIGHBOUR: 'it returns false'. Refute it at one input. -/
def soundFirstWrong : ChangeSpec := { name := "soundFirst", fn := fun _ => fun
  | [d1, d2] => { results := [.lit (.bool false)], args := [d1, d2] }
  | _ => none }
def SoundFirstWrongFalsely : Prop := soundFirstRow.holds Tryz.pinned (OpenSpec.ofChange soundFirstWrong)

/- THE SECOND FORM. 'bulk': how many values and letters a reading holds, each counted each time it is reached (what is shared counts as often as it is met; a slice's spare places count too). A statement '..UptoSaid' is the law's where the arguments, and the package variables that the reading takes, are together of bulk at most 1048576: NARROWER than '..Said'. Prove '..Said' where nothing that the law and all that it calls make is longer than what came in: it says more and counts as full. Else prove '..UptoSaid'. A law counts once. -/
mutual
def uptoBulk {H : Type} : DataW H → Nat
  | .lit (.string bytes) => bytes.length + 1
  | .lit _ => 1
  | .nil => 1
  | .ptr d => uptoBulk d + 1
  | .slice elems spare => uptoBulkAll elems + uptoBulkAll spare + 1
  | .agg parts => uptoBulkAll parts + 1
  | .iface _ d => uptoBulk d + 1
  | .map entries => uptoBulkEntries entries + 1
  | .held _ => 1
def uptoBulkAll {H : Type} : List (DataW H) → Nat
  | [] => 0
  | d :: r => uptoBulk d + uptoBulkAll r
def uptoBulkEntries {H : Type} : List (Lit × DataW H) → Nat
  | [] => 0
  | x :: r => uptoBulkEntry x + uptoBulkEntries r
def uptoBulkEntry {H : Type} : Lit × DataW H → Nat
  | (.string bytes, d) => bytes.length + uptoBulk d + 1
  | (_, d) => uptoBulk d + 1
 end
def uptoSmall : (H : Type) → List (DataW H) → Bool := fun _ ds => decide (uptoBulkAll ds ≤ 1048576)
def OpenSpec.upto (s : _root_.Go.ChangeSpec) : _root_.Go.OpenSpec := { _root_.Go.OpenSpec.ofChange s with cond := some uptoSmall }

/-- 'archipelagolaw27.SoundFirst', WHERE WHAT IT READS IS OF BULK AT MOST 1048576: true; the input reads as it did. -/
def soundFirstUptoRow : OpenClaim := { program := "ytojehmkkbdedaaagreat", sum := "9947df51654da67dc2193643fc9f8dfe119fe33fc4d8e8a460384ec47448f4b8", func := "archipelago/archipelagolaw27.SoundFirst", spec := "soundFirst", inPlace := ["slices.overlaps[archipelago/api.Dep]"], unfollowed := true, recurses := true, plainKeys := false, apart := false, narrowed := true }
def SoundFirstUptoSaid : Prop := soundFirstUptoRow.holds Tryz.pinned (OpenSpec.upto soundFirstSpec)

end Rows
end Go.Proofs.YtojehmkkbdedaaaGreat
