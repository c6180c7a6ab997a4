/-
  No cell of these rows narrows 'for every input' (looked for: loops, veiled, ifaces, maps, wideKeys, modest, calm, conditions, laid).
  DERIVED. THE GIVEN ROWS OF THIS SEAT. 6 by the template 'for every input the law returns true; each argument reads behind the call as it read before'; 0 by the template 'total and deterministic' (their statements: YtgoncpjgpkoacaaTotals.lean).
  GIVEN WITH THE SEED: the statements are not yours to turn. If you find one false, say at which input.
  Laid BY PROGRAM, IN A SANDBOX (cutbox-rows.mjs): the forced cells as the released guide's own fill.sh prints them over the translation e406e5434f5b8348… (all of the seat's roots in one cut). By AI agents, Wed Nov 11 2026. No macro, syntax, notation, axiom, sorry.
-/
import Derived.Test.YtgoncpjgpkoacaaChecked
import GoSem.Claim
import GoSem.ClaimJoined
import GoSem.ClaimMapViews
import Derived.JoinedTies
import Derived.KernelRfl
namespace Go.Proofs.Ytgoncpjgpkoacaa
/- THE CELL 'sum', in the pinned program and in every row, IS THE sha256 OF THE DUMP (.gsa) THAT YtgoncpjgpkoacaaProg.lean LOADS. Nothing in Lean hashes anything: it is a label: what it is worth is what the hold of that sum in a sandbox is worth. -/
noncomputable def Try.pinned : Pinned := { name := "ytgoncpjgpkoacaa", sum := "e406e5434f5b834804395130cc3f38e6e766b3bb49239068e51a815695b0b589", checked := Try.checked }
namespace Rows
def none {H : Type} : Left H := { results := [], args := [] }

/-- 'archipelagolaw23.GraphFine': WHATEVER THE INPUT: true; the input reads as it did. -/
def graphFineSpec : ChangeSpec := { name := "graphFine", fn := fun _ => fun
  | [d] => { results := [.lit (.bool true)], args := [d] }
  | _ => none }
def graphFineRow : OpenClaim := { program := "ytgoncpjgpkoacaa", sum := "e406e5434f5b834804395130cc3f38e6e766b3bb49239068e51a815695b0b589", func := "archipelago/archipelagolaw23.GraphFine", spec := "graphFine", inPlace := ["slices.overlaps[archipelago/api.Dep]"], unfollowed := true, recurses := true, plainKeys := false, apart := false }
def GraphFineSaid : Prop := graphFineRow.holds Try.pinned (OpenSpec.ofChange graphFineSpec)

/-- ITS FALSE NEIGHBOUR: 'it returns false'. Refute it at one input. -/
def graphFineWrong : ChangeSpec := { name := "graphFine", fn := fun _ => fun
  | [d] => { results := [.lit (.bool false)], args := [d] }
  | _ => none }
def GraphFineWrongFalsely : Prop := graphFineRow.holds Try.pinned (OpenSpec.ofChange graphFineWrong)

/-- 'archipelagolaw23.GraphSeen': WHATEVER THE INPUT: true; the input reads as it did. -/
def graphSeenSpec : ChangeSpec := { name := "graphSeen", fn := fun _ => fun
  | [d] => { results := [.lit (.bool true)], args := [d] }
  | _ => none }
def graphSeenRow : OpenClaim := { program := "ytgoncpjgpkoacaa", sum := "e406e5434f5b834804395130cc3f38e6e766b3bb49239068e51a815695b0b589", func := "archipelago/archipelagolaw23.GraphSeen", spec := "graphSeen", inPlace := ["slices.overlaps[archipelago/api.Dep]"], unfollowed := true, recurses := true, plainKeys := false, apart := false }
def GraphSeenSaid : Prop := graphSeenRow.holds Try.pinned (OpenSpec.ofChange graphSeenSpec)

/-- ITS FALSE NEIGHBOUR: 'it returns false'. Refute it at one input. -/
def graphSeenWrong : ChangeSpec := { name := "graphSeen", fn := fun _ => fun
  | [d] => { results := [.lit (.bool false)], args := [d] }
  | _ => none }
def GraphSeenWrongFalsely : Prop := graphSeenRow.holds Try.pinned (OpenSpec.ofChange graphSeenWrong)

/-- 'archipelagolaw23.GraphEdges': WHATEVER THE INPUT: true; the input reads as it did. -/
def graphEdgesSpec : ChangeSpec := { name := "graphEdges", fn := fun _ => fun
  | [d] => { results := [.lit (.bool true)], args := [d] }
  | _ => none }
def graphEdgesRow : OpenClaim := { program := "ytgoncpjgpkoacaa", sum := "e406e5434f5b834804395130cc3f38e6e766b3bb49239068e51a815695b0b589", func := "archipelago/archipelagolaw23.GraphEdges", spec := "graphEdges", inPlace := ["slices.overlaps[archipelago/api.Dep]"], unfollowed := true, recurses := true, plainKeys := false, apart := false }
def GraphEdgesSaid : Prop := graphEdgesRow.holds Try.pinned (OpenSpec.ofChange graphEdgesSpec)

/-- ITS FALSE NEIGHBOUR: 'it returns false'. Refute it at one input. -/
def graphEdgesWrong : ChangeSpec := { name := "graphEdges", fn := fun _ => fun
  | [d] => { results := [.lit (.bool false)], args := [d] }
  | _ => none }
def GraphEdgesWrongFalsely : Prop := graphEdgesRow.holds Try.pinned (OpenSpec.ofChange graphEdgesWrong)

/-- 'archipelagolaw23.GraphOrder': WHATEVER THE INPUT: true; the input reads as it did. -/
def graphOrderSpec : ChangeSpec := { name := "graphOrder", fn := fun _ => fun
  | [d] => { results := [.lit (.bool true)], args := [d] }
  | _ => none }
def graphOrderRow : OpenClaim := { program := "ytgoncpjgpkoacaa", sum := "e406e5434f5b834804395130cc3f38e6e766b3bb49239068e51a815695b0b589", func := "archipelago/archipelagolaw23.GraphOrder", spec := "graphOrder", inPlace := ["slices.overlaps[archipelago/api.Dep]"], unfollowed := true, recurses := true, plainKeys := false, apart := false }
def GraphOrderSaid : Prop := graphOrderRow.holds Try.pinned (OpenSpec.ofChange graphOrderSpec)

/-- ITS FALSE NEIGHBOUR: 'it returns false'. Refute it at one input. -/
def graphOrderWrong : ChangeSpec := { name := "graphOrder", fn := fun _ => fun
  | [d] => { results := [.lit (.bool false)], args := [d] }
  | _ => none }
def GraphOrderWrongFalsely : Prop := graphOrderRow.holds Try.pinned (OpenSpec.ofChange graphOrderWrong)

/-- 'archipelagolaw23.GraphTells': WHATEVER THE INPUT: true; the input reads as it did. -/
def graphTellsSpec : ChangeSpec := { name := "graphTells", fn := fun _ => fun
  | [d1, d2, d3] => { results := [.lit (.bool true)], args := [d1, d2, d3] }
  | _ => none }
def graphTellsRow : OpenClaim := { program := "ytgoncpjgpkoacaa", sum := "e406e5434f5b834804395130cc3f38e6e766b3bb49239068e51a815695b0b589", func := "archipelago/archipelagolaw23.GraphTells", spec := "graphTells", inPlace := ["slices.overlaps[archipelago/api.Dep]"], unfollowed := true, recurses := true, plainKeys := false, apart := false }
def GraphTellsSaid : Prop := graphTellsRow.holds Try.pinned (OpenSpec.ofChange graphTellsSpec)

/-- ITS FALSE NEIGHBOUR: 'it returns false'. Refute it at one input. -/
def graphTellsWrong : ChangeSpec := { name := "graphTells", fn := fun _ => fun
  | [d1, d2, d3] => { results := [.lit (.bool false)], args := [d1, d2, d3] }
  | _ => none }
def GraphTellsWrongFalsely : Prop := graphTellsRow.holds Try.pinned (OpenSpec.ofChange graphTellsWrong)

/-- 'archipelagolaw23.GraphAny': WHATEVER THE INPUT: true; the input reads as it did. -/
def graphAnySpec : ChangeSpec := { name := "graphAny", fn := fun _ => fun
  | [d1, d2, d3] => { results := [.lit (.bool true)], args := [d1, d2, d3] }
  | _ => none }
def graphAnyRow : OpenClaim := { program := "ytgoncpjgpkoacaa", sum := "e406e5434f5b834804395130cc3f38e6e766b3bb49239068e51a815695b0b589", func := "archipelago/archipelagolaw23.GraphAny", spec := "graphAny", inPlace := ["slices.overlaps[archipelago/api.Dep]"], unfollowed := true, recurses := true, plainKeys := false, apart := false }
def GraphAnySaid : Prop := graphAnyRow.holds Try.pinned (OpenSpec.ofChange graphAnySpec)

/-- ITS FALSE NEIGHBOUR: 'it returns false'. Refute it at one input. -/
def graphAnyWrong : ChangeSpec := { name := "graphAny", fn := fun _ => fun
  | [d1, d2, d3] => { results := [.lit (.bool false)], args := [d1, d2, d3] }
  | _ => none }
def GraphAnyWrongFalsely : Prop := graphAnyRow.holds Try.pinned (OpenSpec.ofChange graphAnyWrong)

/- THE SECOND FORM. 'bulk': how many values and letters a reading holds, each counted each time it is reached (what is shared counts as often as it is met; a slice's spare places count too). A statement '..UptoSaid' is the law's where the arguments, and the package variables that the reading takes, are together of bulk at most 1048576: NARROWER than '..Said'. Prove '..Said' where nothing that the law and all that it calls make is longer than what came in: it says more and counts as full. Else prove '..UptoSaid'. A law counts once. -/
mutual
def uptoBulk {H : Type} : DataW H → Nat
  | .lit (.string bytes) => bytes.length + 1
  | .lit _ => 1
  | .nil => 1
  | .ptr d => uptoBulk d + 1
  | .slice elems spare => uptoBulkAll elems + uptoBulkAll spare + 1
  | .agg parts => uptoBulkAll parts + 1
  | .iface _ d => uptoBulk d + 1
  | .map entries => uptoBulkEntries entries + 1
  | .held _ => 1
def uptoBulkAll {H : Type} : List (DataW H) → Nat
  | [] => 0
  | d :: r => uptoBulk d + uptoBulkAll r
def uptoBulkEntries {H : Type} : List (Lit × DataW H) → Nat
  | [] => 0
  | x :: r => uptoBulkEntry x + uptoBulkEntries r
def uptoBulkEntry {H : Type} : Lit × DataW H → Nat
  | (.string bytes, d) => bytes.length + uptoBulk d + 1
  | (_, d) => uptoBulk d + 1
 end
def uptoSmall : (H : Type) → List (DataW H) → Bool := fun _ ds => decide (uptoBulkAll ds ≤ 1048576)
def OpenSpec.upto (s : _root_.Go.ChangeSpec) : _root_.Go.OpenSpec := { _root_.Go.OpenSpec.ofChange s with cond := some uptoSmall }

/-- 'archipelagolaw23.GraphFine', WHERE WHAT IT READS IS OF BULK AT MOST 1048576: true; the input reads as it did. -/
def graphFineUptoRow : OpenClaim := { program := "ytgoncpjgpkoacaa", sum := "e406e5434f5b834804395130cc3f38e6e766b3bb49239068e51a815695b0b589", func := "archipelago/archipelagolaw23.GraphFine", spec := "graphFine", inPlace := ["slices.overlaps[archipelago/api.Dep]"], unfollowed := true, recurses := true, plainKeys := false, apart := false, narrowed := true }
def GraphFineUptoSaid : Prop := graphFineUptoRow.holds Try.pinned (OpenSpec.upto graphFineSpec)

/-- 'archipelagolaw23.GraphSeen', WHERE WHAT IT READS IS OF BULK AT MOST 1048576: true; the input reads as it did. -/
def graphSeenUptoRow : OpenClaim := { program := "ytgoncpjgpkoacaa", sum := "e406e5434f5b834804395130cc3f38e6e766b3bb49239068e51a815695b0b589", func := "archipelago/archipelagolaw23.GraphSeen", spec := "graphSeen", inPlace := ["slices.overlaps[archipelago/api.Dep]"], unfollowed := true, recurses := true, plainKeys := false, apart := false, narrowed := true }
def GraphSeenUptoSaid : Prop := graphSeenUptoRow.holds Try.pinned (OpenSpec.upto graphSeenSpec)

/-- 'archipelagolaw23.GraphEdges', WHERE WHAT IT READS IS OF BULK AT MOST 1048576: true; the input reads as it did. -/
def graphEdgesUptoRow : OpenClaim := { program := "ytgoncpjgpkoacaa", sum := "e406e5434f5b834804395130cc3f38e6e766b3bb49239068e51a815695b0b589", func := "archipelago/archipelagolaw23.GraphEdges", spec := "graphEdges", inPlace := ["slices.overlaps[archipelago/api.Dep]"], unfollowed := true, recurses := true, plainKeys := false, apart := false, narrowed := true }
def GraphEdgesUptoSaid : Prop := graphEdgesUptoRow.holds Try.pinned (OpenSpec.upto graphEdgesSpec)

/-- 'archipelagolaw23.GraphOrder', WHERE WHAT IT READS IS OF BULK AT MOST 1048576: true; the input reads as it did. -/
def graphOrderUptoRow : OpenClaim := { program := "ytgoncpjgpkoacaa", sum := "e406e5434f5b834804395130cc3f38e6e766b3bb49239068e51a815695b0b589", func := "archipelago/archipelagolaw23.GraphOrder", spec := "graphOrder", inPlace := ["slices.overlaps[archipelago/api.Dep]"], unfollowed := true, recurses := true, plainKeys := false, apart := false, narrowed := true }
def GraphOrderUptoSaid : Prop := graphOrderUptoRow.holds Try.pinned (OpenSpec.upto graphOrderSpec)

/-- 'archipelagolaw23.GraphTells', WHERE WHAT IT READS IS OF BULK AT MOST 1048576: true; the input reads as it did. -/
def graphTellsUptoRow : OpenClaim := { program := "ytgoncpjgpkoacaa", sum := "e406e5434f5b834804395130cc3f38e6e766b3bb49239068e51a815695b0b589", func := "archipelago/archipelagolaw23.GraphTells", spec := "graphTells", inPlace := ["slices.overlaps[archipelago/api.Dep]"], unfollowed := true, recurses := true, plainKeys := false, apart := false, narrowed := true }
def GraphTellsUptoSaid : Prop := graphTellsUptoRow.holds Try.pinned (OpenSpec.upto graphTellsSpec)

/-- 'archipelagolaw23.GraphAny', WHERE WHAT IT READS IS OF BULK AT MOST 1048576: true; the input reads as it did. -/
def graphAnyUptoRow : OpenClaim := { program := "ytgoncpjgpkoacaa", sum := "e406e5434f5b834804395130cc3f38e6e766b3bb49239068e51a815695b0b589", func := "archipelago/archipelagolaw23.GraphAny", spec := "graphAny", inPlace := ["slices.overlaps[archipelago/api.Dep]"], unfollowed := true, recurses := true, plainKeys := false, apart := false, narrowed := true }
def GraphAnyUptoSaid : Prop := graphAnyUptoRow.holds Try.pinned (OpenSpec.upto graphAnySpec)

end Rows
end Go.Proofs.Ytgoncpjgpkoacaa
