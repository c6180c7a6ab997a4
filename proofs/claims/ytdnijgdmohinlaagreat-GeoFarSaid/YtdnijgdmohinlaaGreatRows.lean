/-
  No cell of these rows narrows 'for every input' (looked for: loops, veiled, ifaces, maps, wideKeys, modest, calm, conditions, laid).
  DERIVED. THE GIVEN ROWS OF THIS SEAT. 7 by the template 'for every input the law returns true; each argument reads behind the call as it read before'; 0 by the template 'total and deterministic' (their statements: YtdnijgdmohinlaaGreatTotals.lean).
  GIVEN WITH THE SEED: the statements are not yours to turn. If you find one false, say at which input.
  Laid BY PROGRAM, IN A SANDBOX (cutbox-rows.mjs): the forced cells as the released guide's own fill.sh prints them over the translation c2b1a68321dbd57b… (all of the seat's roots in one cut). By AI agents, Wed Nov 11 2026. No macro, syntax, notation, axiom, sorry.
-/
import Derived.Test.YtdnijgdmohinlaaGreatChecked
import GoSem.Claim
import GoSem.ClaimJoined
import GoSem.ClaimMapViews
import Derived.JoinedTies
import Derived.KernelRfl
namespace Go.Proofs.YtdnijgdmohinlaaGreat
/- THE CELL 'sum', in the pinned program and in every row, IS THE sha256 OF THE DUMP (.gsa) THAT YtdnijgdmohinlaaGreatProg.lean LOADS. Nothing in Lean hashes anything: it is a label: what it is worth is what the hold of that sum in a sandbox is worth. -/
noncomputable def Tryz.pinned : Pinned := { name := "ytdnijgdmohinlaagreat", sum := "c2b1a68321dbd57b24eb4f269cfca8db4f3f9b3a72f2d2b55425e10b175650c5", checked := Tryz.checked }
namespace Rows
def none {H : Type} : Left H := { results := [], args := [] }

/-- 'archipelagolaw21.GeoReads': WHATEVER THE INPUT: true; the input reads as it did. -/
def geoReadsSpec : ChangeSpec := { name := "geoReads", fn := fun _ => fun
  | [d1, d2, d3] => { results := [.lit (.bool true)], args := [d1, d2, d3] }
  | _ => none }
def geoReadsRow : OpenClaim := { program := "ytdnijgdmohinlaagreat", sum := "c2b1a68321dbd57b24eb4f269cfca8db4f3f9b3a72f2d2b55425e10b175650c5", func := "archipelago/archipelagolaw21.GeoReads", spec := "geoReads", inPlace := ["slices.overlaps[archipelago/api.Version]", "internal/abi.NoEscape", "internal/bytealg.MakeNoZero", "slices.overlaps[archipelago/api.Dep]", "slices.overlaps[archipelago/api.Pin]"], unfollowed := true, recurses := true, plainKeys := false, apart := false }
def GeoReadsSaid : Prop := geoReadsRow.holds Tryz.pinned (OpenSpec.ofChange geoReadsSpec)

/-- ITS FALSE NEIGHBOUR: 'it returns false'. Refute it at one input. -/
def geoReadsWrong : ChangeSpec := { name := "geoReads", fn := fun _ => fun
  | [d1, d2, d3] => { results := [.lit (.bool false)], args := [d1, d2, d3] }
  | _ => none }
def GeoReadsWrongFalsely : Prop := geoReadsRow.holds Tryz.pinned (OpenSpec.ofChange geoReadsWrong)

/-- 'archipelagolaw21.GeoFar': WHATEVER THE INPUT: true; the input reads as it did. -/
def geoFarSpec : ChangeSpec := { name := "geoFar", fn := fun _ => fun
  | [d1, d2, d3] => { results := [.lit (.bool true)], args := [d1, d2, d3] }
  | _ => none }
def geoFarRow : OpenClaim := { program := "ytdnijgdmohinlaagreat", sum := "c2b1a68321dbd57b24eb4f269cfca8db4f3f9b3a72f2d2b55425e10b175650c5", func := "archipelago/archipelagolaw21.GeoFar", spec := "geoFar", inPlace := ["slices.overlaps[archipelago/api.Version]", "internal/abi.NoEscape", "internal/bytealg.MakeNoZero", "slices.overlaps[archipelago/api.Dep]", "slices.overlaps[archipelago/api.Pin]"], unfollowed := true, recurses := true, plainKeys := false, apart := false }
def GeoFarSaid : Prop := geoFarRow.holds Tryz.pinned (OpenSpec.ofChange geoFarSpec)

/-- ITS FALSE NEIGHBOUR: 'it returns false'. Refute it at one input. -/
def geoFarWrong : ChangeSpec := { name := "geoFar", fn := fun _ => fun
  | [d1, d2, d3] => { results := [.lit (.bool false)], args := [d1, d2, d3] }
  | _ => none }
def GeoFarWrongFalsely : Prop := geoFarRow.holds Tryz.pinned (OpenSpec.ofChange geoFarWrong)

/-- 'archipelagolaw21.GeoLost': WHATEVER THE INPUT: true; the input reads as it did. -/
def geoLostSpec : ChangeSpec := { name := "geoLost", fn := fun _ => fun
  | [d1, d2] => { results := [.lit (.bool true)], args := [d1, d2] }
  | _ => none }
def geoLostRow : OpenClaim := { program := "ytdnijgdmohinlaagreat", sum := "c2b1a68321dbd57b24eb4f269cfca8db4f3f9b3a72f2d2b55425e10b175650c5", func := "archipelago/archipelagolaw21.GeoLost", spec := "geoLost", inPlace := ["slices.overlaps[archipelago/api.Version]", "internal/abi.NoEscape", "internal/bytealg.MakeNoZero", "slices.overlaps[archipelago/api.Dep]", "slices.overlaps[archipelago/api.Pin]"], unfollowed := true, recurses := true, plainKeys := false, apart := false }
def GeoLostSaid : Prop := geoLostRow.holds Tryz.pinned (OpenSpec.ofChange geoLostSpec)

/-- ITS FALSE NEIGHBOUR: 'it returns false'. Refute it at one input. -/
def geoLostWrong : ChangeSpec := { name := "geoLost", fn := fun _ => fun
  | [d1, d2] => { results := [.lit (.bool false)], args := [d1, d2] }
  | _ => none }
def GeoLostWrongFalsely : Prop := geoLostRow.holds Tryz.pinned (OpenSpec.ofChange geoLostWrong)

/-- 'archipelagolaw21.GeoAlone': WHATEVER THE INPUT: true; the input reads as it did. -/
def geoAloneSpec : ChangeSpec := { name := "geoAlone", fn := fun _ => fun
  | [d] => { results := [.lit (.bool true)], args := [d] }
  | _ => none }
def geoAloneRow : OpenClaim := { program := "ytdnijgdmohinlaagreat", sum := "c2b1a68321dbd57b24eb4f269cfca8db4f3f9b3a72f2d2b55425e10b175650c5", func := "archipelago/archipelagolaw21.GeoAlone", spec := "geoAlone", inPlace := ["slices.overlaps[archipelago/api.Version]", "internal/abi.NoEscape", "internal/bytealg.MakeNoZero", "slices.overlaps[archipelago/api.Dep]", "slices.overlaps[archipelago/api.Pin]"], unfollowed := true, recurses := true, plainKeys := false, apart := false }
def GeoAloneSaid : Prop := geoAloneRow.holds Tryz.pinned (OpenSpec.ofChange geoAloneSpec)

/-- ITS FALSE NEIGHBOUR: 'it returns false'. Refute it at one input. -/
def geoAloneWrong : ChangeSpec := { name := "geoAlone", fn := fun _ => fun
  | [d] => { results := [.lit (.bool false)], args := [d] }
  | _ => none }
def GeoAloneWrongFalsely : Prop := geoAloneRow.holds Tryz.pinned (OpenSpec.ofChange geoAloneWrong)

/-- 'archipelagolaw21.GeoRefuses': WHATEVER THE INPUT: true; the input reads as it did. -/
def geoRefusesSpec : ChangeSpec := { name := "geoRefuses", fn := fun _ => fun
  | [d1, d2] => { results := [.lit (.bool true)], args := [d1, d2] }
  | _ => none }
def geoRefusesRow : OpenClaim := { program := "ytdnijgdmohinlaagreat", sum := "c2b1a68321dbd57b24eb4f269cfca8db4f3f9b3a72f2d2b55425e10b175650c5", func := "archipelago/archipelagolaw21.GeoRefuses", spec := "geoRefuses", inPlace := ["slices.overlaps[archipelago/api.Version]", "internal/abi.NoEscape", "internal/bytealg.MakeNoZero", "slices.overlaps[archipelago/api.Dep]", "slices.overlaps[archipelago/api.Pin]"], unfollowed := true, recurses := true, plainKeys := false, apart := false }
def GeoRefusesSaid : Prop := geoRefusesRow.holds Tryz.pinned (OpenSpec.ofChange geoRefusesSpec)

/-- ITS FALSE NEIGHBOUR: 'it returns false'. Refute it at one input. -/
def geoRefusesWrong : ChangeSpec := { name := "geoRefuses", fn := fun _ => fun
  | [d1, d2] => { results := [.lit (.bool false)], args := [d1, d2] }
  | _ => none }
def GeoRefusesWrongFalsely : Prop := geoRefusesRow.holds Tryz.pinned (OpenSpec.ofChange geoRefusesWrong)

/-- 'archipelagolaw21.GeoPlays': WHATEVER THE INPUT: true; the input reads as it did. -/
def geoPlaysSpec : ChangeSpec := { name := "geoPlays", fn := fun _ => fun
  | [d1, d2] => { results := [.lit (.bool true)], args := [d1, d2] }
  | _ => none }
def geoPlaysRow : OpenClaim := { program := "ytdnijgdmohinlaagreat", sum := "c2b1a68321dbd57b24eb4f269cfca8db4f3f9b3a72f2d2b55425e10b175650c5", func := "archipelago/archipelagolaw21.GeoPlays", spec := "geoPlays", inPlace := ["slices.overlaps[archipelago/api.Version]", "internal/abi.NoEscape", "internal/bytealg.MakeNoZero", "slices.overlaps[archipelago/api.Dep]", "slices.overlaps[archipelago/api.Pin]"], unfollowed := true, recurses := true, plainKeys := false, apart := false }
def GeoPlaysSaid : Prop := geoPlaysRow.holds Tryz.pinned (OpenSpec.ofChange geoPlaysSpec)

/-- ITS FALSE NEIGHBOUR: 'it returns false'. Refute it at one input. -/
def geoPlaysWrong : ChangeSpec := { name := "geoPlays", fn := fun _ => fun
  | [d1, d2] => { results := [.lit (.bool false)], args := [d1, d2] }
  | _ => none }
def GeoPlaysWrongFalsely : Prop := geoPlaysRow.holds Tryz.pinned (OpenSpec.ofChange geoPlaysWrong)

/-- 'archipelagolaw21.GeoNil': WHATEVER THE INPUT: true; the input reads as it did. -/
def geoNilSpec : ChangeSpec := { name := "geoNil", fn := fun _ => fun
  | [d1, d2] => { results := [.lit (.bool true)], args := [d1, d2] }
  | _ => none }
def geoNilRow : OpenClaim := { program := "ytdnijgdmohinlaagreat", sum := "c2b1a68321dbd57b24eb4f269cfca8db4f3f9b3a72f2d2b55425e10b175650c5", func := "archipelago/archipelagolaw21.GeoNil", spec := "geoNil", inPlace := ["slices.overlaps[archipelago/api.Version]", "internal/abi.NoEscape", "internal/bytealg.MakeNoZero", "slices.overlaps[archipelago/api.Dep]", "slices.overlaps[archipelago/api.Pin]"], unfollowed := true, recurses := true, plainKeys := false, apart := false }
def GeoNilSaid : Prop := geoNilRow.holds Tryz.pinned (OpenSpec.ofChange geoNilSpec)

/-- ITS FALSE NEIGHBOUR: 'it returns false'. Refute it at one input. -/
def geoNilWrong : ChangeSpec := { name := "geoNil", fn := fun _ => fun
  | [d1, d2] => { results := [.lit (.bool false)], args := [d1, d2] }
  | _ => none }
def GeoNilWrongFalsely : Prop := geoNilRow.holds Tryz.pinned (OpenSpec.ofChange geoNilWrong)

/- THE SECOND FORM. 'bulk': how many values and letters a reading holds, each counted each time it is reached (what is shared counts as often as it is met; a slice's spare places count too). A statement '..UptoSaid' is the law's where the arguments, and the package variables that the reading takes, are together of bulk at most 1048576: NARROWER than '..Said'. Prove '..Said' where nothing that the law and all that it calls make is longer than what came in: it says more and counts as full. Else prove '..UptoSaid'. A law counts once. -/
mutual
def uptoBulk {H : Type} : DataW H → Nat
  | .lit (.string bytes) => bytes.length + 1
  | .lit _ => 1
  | .nil => 1
  | .ptr d => uptoBulk d + 1
  | .slice elems spare => uptoBulkAll elems + uptoBulkAll spare + 1
  | .agg parts => uptoBulkAll parts + 1
  | .iface _ d => uptoBulk d + 1
  | .map entries => uptoBulkEntries entries + 1
  | .held _ => 1
def uptoBulkAll {H : Type} : List (DataW H) → Nat
  | [] => 0
  | d :: r => uptoBulk d + uptoBulkAll r
def uptoBulkEntries {H : Type} : List (Lit × DataW H) → Nat
  | [] => 0
  | x :: r => uptoBulkEntry x + uptoBulkEntries r
def uptoBulkEntry {H : Type} : Lit × DataW H → Nat
  | (.string bytes, d) => bytes.length + uptoBulk d + 1
  | (_, d) => uptoBulk d + 1
 end
def uptoSmall : (H : Type) → List (DataW H) → Bool := fun _ ds => decide (uptoBulkAll ds ≤ 1048576)
def OpenSpec.upto (s : _root_.Go.ChangeSpec) : _root_.Go.OpenSpec := { _root_.Go.OpenSpec.ofChange s with cond := some uptoSmall }

/-- 'archipelagolaw21.GeoReads', WHERE WHAT IT READS IS OF BULK AT MOST 1048576: true; the input reads as it did. -/
def geoReadsUptoRow : OpenClaim := { program := "ytdnijgdmohinlaagreat", sum := "c2b1a68321dbd57b24eb4f269cfca8db4f3f9b3a72f2d2b55425e10b175650c5", func := "archipelago/archipelagolaw21.GeoReads", spec := "geoReads", inPlace := ["slices.overlaps[archipelago/api.Version]", "internal/abi.NoEscape", "internal/bytealg.MakeNoZero", "slices.overlaps[archipelago/api.Dep]", "slices.overlaps[archipelago/api.Pin]"], unfollowed := true, recurses := true, plainKeys := false, apart := false, narrowed := true }
def GeoReadsUptoSaid : Prop := geoReadsUptoRow.holds Tryz.pinned (OpenSpec.upto geoReadsSpec)

/-- 'archipelagolaw21.GeoFar', WHERE WHAT IT READS IS OF BULK AT MOST 1048576: true; the input reads as it did. -/
def geoFarUptoRow : OpenClaim := { program := "ytdnijgdmohinlaagreat", sum := "c2b1a68321dbd57b24eb4f269cfca8db4f3f9b3a72f2d2b55425e10b175650c5", func := "archipelago/archipelagolaw21.GeoFar", spec := "geoFar", inPlace := ["slices.overlaps[archipelago/api.Version]", "internal/abi.NoEscape", "internal/bytealg.MakeNoZero", "slices.overlaps[archipelago/api.Dep]", "slices.overlaps[archipelago/api.Pin]"], unfollowed := true, recurses := true, plainKeys := false, apart := false, narrowed := true }
def GeoFarUptoSaid : Prop := geoFarUptoRow.holds Tryz.pinned (OpenSpec.upto geoFarSpec)

/-- 'archipelagolaw21.GeoLost', WHERE WHAT IT READS IS OF BULK AT MOST 1048576: true; the input reads as it did. -/
def geoLostUptoRow : OpenClaim := { program := "ytdnijgdmohinlaagreat", sum := "c2b1a68321dbd57b24eb4f269cfca8db4f3f9b3a72f2d2b55425e10b175650c5", func := "archipelago/archipelagolaw21.GeoLost", spec := "geoLost", inPlace := ["slices.overlaps[archipelago/api.Version]", "internal/abi.NoEscape", "internal/bytealg.MakeNoZero", "slices.overlaps[archipelago/api.Dep]", "slices.overlaps[archipelago/api.Pin]"], unfollowed := true, recurses := true, plainKeys := false, apart := false, narrowed := true }
def GeoLostUptoSaid : Prop := geoLostUptoRow.holds Tryz.pinned (OpenSpec.upto geoLostSpec)

/-- 'archipelagolaw21.GeoAlone', WHERE WHAT IT READS IS OF BULK AT MOST 1048576: true; the input reads as it did. -/
def geoAloneUptoRow : OpenClaim := { program := "ytdnijgdmohinlaagreat", sum := "c2b1a68321dbd57b24eb4f269cfca8db4f3f9b3a72f2d2b55425e10b175650c5", func := "archipelago/archipelagolaw21.GeoAlone", spec := "geoAlone", inPlace := ["slices.overlaps[archipelago/api.Version]", "internal/abi.NoEscape", "internal/bytealg.MakeNoZero", "slices.overlaps[archipelago/api.Dep]", "slices.overlaps[archipelago/api.Pin]"], unfollowed := true, recurses := true, plainKeys := false, apart := false, narrowed := true }
def GeoAloneUptoSaid : Prop := geoAloneUptoRow.holds Tryz.pinned (OpenSpec.upto geoAloneSpec)

/-- 'archipelagolaw21.GeoRefuses', WHERE WHAT IT READS IS OF BULK AT MOST 1048576: true; the input reads as it did. -/
def geoRefusesUptoRow : OpenClaim := { program := "ytdnijgdmohinlaagreat", sum := "c2b1a68321dbd57b24eb4f269cfca8db4f3f9b3a72f2d2b55425e10b175650c5", func := "archipelago/archipelagolaw21.GeoRefuses", spec := "geoRefuses", inPlace := ["slices.overlaps[archipelago/api.Version]", "internal/abi.NoEscape", "internal/bytealg.MakeNoZero", "slices.overlaps[archipelago/api.Dep]", "slices.overlaps[archipelago/api.Pin]"], unfollowed := true, recurses := true, plainKeys := false, apart := false, narrowed := true }
def GeoRefusesUptoSaid : Prop := geoRefusesUptoRow.holds Tryz.pinned (OpenSpec.upto geoRefusesSpec)

/-- 'archipelagolaw21.GeoPlays', WHERE WHAT IT READS IS OF BULK AT MOST 1048576: true; the input reads as it did. -/
def geoPlaysUptoRow : OpenClaim := { program := "ytdnijgdmohinlaagreat", sum := "c2b1a68321dbd57b24eb4f269cfca8db4f3f9b3a72f2d2b55425e10b175650c5", func := "archipelago/archipelagolaw21.GeoPlays", spec := "geoPlays", inPlace := ["slices.overlaps[archipelago/api.Version]", "internal/abi.NoEscape", "internal/bytealg.MakeNoZero", "slices.overlaps[archipelago/api.Dep]", "slices.overlaps[archipelago/api.Pin]"], unfollowed := true, recurses := true, plainKeys := false, apart := false, narrowed := true }
def GeoPlaysUptoSaid : Prop := geoPlaysUptoRow.holds Tryz.pinned (OpenSpec.upto geoPlaysSpec)

/-- 'archipelagolaw21.GeoNil', WHERE WHAT IT READS IS OF BULK AT MOST 1048576: true; the input reads as it did. -/
def geoNilUptoRow : OpenClaim := { program := "ytdnijgdmohinlaagreat", sum := "c2b1a68321dbd57b24eb4f269cfca8db4f3f9b3a72f2d2b55425e10b175650c5", func := "archipelago/archipelagolaw21.GeoNil", spec := "geoNil", inPlace := ["slices.overlaps[archipelago/api.Version]", "internal/abi.NoEscape", "internal/bytealg.MakeNoZero", "slices.overlaps[archipelago/api.Dep]", "slices.overlaps[archipelago/api.Pin]"], unfollowed := true, recurses := true, plainKeys := false, apart := false, narrowed := true }
def GeoNilUptoSaid : Prop := geoNilUptoRow.holds Tryz.pinned (OpenSpec.upto geoNilSpec)

end Rows
end Go.Proofs.YtdnijgdmohinlaaGreat
