/-
  No cell of these rows narrows 'for every input' (looked for: loops, veiled, ifaces, maps, wideKeys, modest, calm, conditions, laid).
  DERIVED. THE GIVEN ROWS OF THIS SEAT. 7 by the template 'for every input the law returns true; each argument reads behind the call as it read before'; 0 by the template 'total and deterministic' (their statements: YtmbaeloiepjakaaGreatTotals.lean).
  GIVEN WITH THE SEED: the statements are not yours to turn. If you find one false, say at which input.
  Laid BY PROGRAM, IN A SANDBOX (cutbox-rows.mjs): the forced cells as the released guide's own fill.sh prints them over the translation 3aa4f1c8faa4c031… (all of the seat's roots in one cut). By AI agents, Wed Nov 11 2026. No macro, syntax, notation, axiom, sorry.
-/
import Derived.Test.YtmbaeloiepjakaaGreatChecked
import GoSem.Claim
import GoSem.ClaimJoined
import GoSem.ClaimMapViews
import Derived.JoinedTies
import Derived.KernelRfl
namespace Go.Proofs.YtmbaeloiepjakaaGreat
/- THE CELL 'sum', in the pinned program and in every row, IS THE sha256 OF THE DUMP (.gsa) THAT YtmbaeloiepjakaaGreatProg.lean LOADS. Nothing in Lean hashes anything: it is a label: what it is worth is what the hold of that sum in a sandbox is worth. -/
noncomputable def Tryz.pinned : Pinned := { name := "ytmbaeloiepjakaagreat", sum := "3aa4f1c8faa4c03180709491f4b73ac33220467f16f430c7b6a7fe6112906aad", checked := Tryz.checked }
namespace Rows
def none {H : Type} : Left H := { results := [], args := [] }

/-- 'archipelagolaw17.SiteWaits': WHATEVER THE INPUT: true; the input reads as it did. -/
def siteWaitsSpec : ChangeSpec := { name := "siteWaits", fn := fun _ => fun
  | [d] => { results := [.lit (.bool true)], args := [d] }
  | _ => none }
def siteWaitsRow : OpenClaim := { program := "ytmbaeloiepjakaagreat", sum := "3aa4f1c8faa4c03180709491f4b73ac33220467f16f430c7b6a7fe6112906aad", func := "archipelago/archipelagolaw17.SiteWaits", spec := "siteWaits", inPlace := ["slices.overlaps[archipelago/api.Version]"], unfollowed := true, recurses := true, apart := false }
def SiteWaitsSaid : Prop := siteWaitsRow.holds Tryz.pinned (OpenSpec.ofChange siteWaitsSpec)

/-- ITS FALSE NEIGHBOUR: 'it returns false'. Refute it at one input. -/
def siteWaitsWrong : ChangeSpec := { name := "siteWaits", fn := fun _ => fun
  | [d] => { results := [.lit (.bool false)], args := [d] }
  | _ => none }
def SiteWaitsWrongFalsely : Prop := siteWaitsRow.holds Tryz.pinned (OpenSpec.ofChange siteWaitsWrong)

/-- 'archipelagolaw17.SiteTwice': WHATEVER THE INPUT: true; the input reads as it did. -/
def siteTwiceSpec : ChangeSpec := { name := "siteTwice", fn := fun _ => fun
  | [d1, d2] => { results := [.lit (.bool true)], args := [d1, d2] }
  | _ => none }
def siteTwiceRow : OpenClaim := { program := "ytmbaeloiepjakaagreat", sum := "3aa4f1c8faa4c03180709491f4b73ac33220467f16f430c7b6a7fe6112906aad", func := "archipelago/archipelagolaw17.SiteTwice", spec := "siteTwice", inPlace := ["slices.overlaps[archipelago/api.Version]"], unfollowed := true, recurses := true, apart := false }
def SiteTwiceSaid : Prop := siteTwiceRow.holds Tryz.pinned (OpenSpec.ofChange siteTwiceSpec)

/-- ITS FALSE NEIGHBOUR: 'it returns false'. Refute it at one input. -/
def siteTwiceWrong : ChangeSpec := { name := "siteTwice", fn := fun _ => fun
  | [d1, d2] => { results := [.lit (.bool false)], args := [d1, d2] }
  | _ => none }
def SiteTwiceWrongFalsely : Prop := siteTwiceRow.holds Tryz.pinned (OpenSpec.ofChange siteTwiceWrong)

/-- 'archipelagolaw17.SiteOther': WHATEVER THE INPUT: true; the input reads as it did. -/
def siteOtherSpec : ChangeSpec := { name := "siteOther", fn := fun _ => fun
  | [d1, d2] => { results := [.lit (.bool true)], args := [d1, d2] }
  | _ => none }
def siteOtherRow : OpenClaim := { program := "ytmbaeloiepjakaagreat", sum := "3aa4f1c8faa4c03180709491f4b73ac33220467f16f430c7b6a7fe6112906aad", func := "archipelago/archipelagolaw17.SiteOther", spec := "siteOther", inPlace := ["slices.overlaps[archipelago/api.Version]"], unfollowed := true, recurses := true, apart := false }
def SiteOtherSaid : Prop := siteOtherRow.holds Tryz.pinned (OpenSpec.ofChange siteOtherSpec)

/-- ITS FALSE NEIGHBOUR: 'it returns false'. Refute it at one input. -/
def siteOtherWrong : ChangeSpec := { name := "siteOther", fn := fun _ => fun
  | [d1, d2] => { results := [.lit (.bool false)], args := [d1, d2] }
  | _ => none }
def SiteOtherWrongFalsely : Prop := siteOtherRow.holds Tryz.pinned (OpenSpec.ofChange siteOtherWrong)

/-- 'archipelagolaw17.SiteCleans': WHATEVER THE INPUT: true; the input reads as it did. -/
def siteCleansSpec : ChangeSpec := { name := "siteCleans", fn := fun _ => fun
  | [d1, d2] => { results := [.lit (.bool true)], args := [d1, d2] }
  | _ => none }
def siteCleansRow : OpenClaim := { program := "ytmbaeloiepjakaagreat", sum := "3aa4f1c8faa4c03180709491f4b73ac33220467f16f430c7b6a7fe6112906aad", func := "archipelago/archipelagolaw17.SiteCleans", spec := "siteCleans", inPlace := ["slices.overlaps[archipelago/api.Version]"], unfollowed := true, recurses := true, apart := false }
def SiteCleansSaid : Prop := siteCleansRow.holds Tryz.pinned (OpenSpec.ofChange siteCleansSpec)

/-- ITS FALSE NEIGHBOUR: 'it returns false'. Refute it at one input. -/
def siteCleansWrong : ChangeSpec := { name := "siteCleans", fn := fun _ => fun
  | [d1, d2] => { results := [.lit (.bool false)], args := [d1, d2] }
  | _ => none }
def SiteCleansWrongFalsely : Prop := siteCleansRow.holds Tryz.pinned (OpenSpec.ofChange siteCleansWrong)

/-- 'archipelagolaw17.SiteClock': WHATEVER THE INPUT: true; the input reads as it did. -/
def siteClockSpec : ChangeSpec := { name := "siteClock", fn := fun _ => fun
  | [d1, d2] => { results := [.lit (.bool true)], args := [d1, d2] }
  | _ => none }
def siteClockRow : OpenClaim := { program := "ytmbaeloiepjakaagreat", sum := "3aa4f1c8faa4c03180709491f4b73ac33220467f16f430c7b6a7fe6112906aad", func := "archipelago/archipelagolaw17.SiteClock", spec := "siteClock", inPlace := ["slices.overlaps[archipelago/api.Version]"], unfollowed := true, recurses := true, apart := false }
def SiteClockSaid : Prop := siteClockRow.holds Tryz.pinned (OpenSpec.ofChange siteClockSpec)

/-- ITS FALSE NEIGHBOUR: 'it returns false'. Refute it at one input. -/
def siteClockWrong : ChangeSpec := { name := "siteClock", fn := fun _ => fun
  | [d1, d2] => { results := [.lit (.bool false)], args := [d1, d2] }
  | _ => none }
def SiteClockWrongFalsely : Prop := siteClockRow.holds Tryz.pinned (OpenSpec.ofChange siteClockWrong)

/-- 'archipelagolaw17.SitePlays': WHATEVER THE INPUT: true; the input reads as it did. -/
def sitePlaysSpec : ChangeSpec := { name := "sitePlays", fn := fun _ => fun
  | [d1, d2, d3] => { results := [.lit (.bool true)], args := [d1, d2, d3] }
  | _ => none }
def sitePlaysRow : OpenClaim := { program := "ytmbaeloiepjakaagreat", sum := "3aa4f1c8faa4c03180709491f4b73ac33220467f16f430c7b6a7fe6112906aad", func := "archipelago/archipelagolaw17.SitePlays", spec := "sitePlays", inPlace := ["slices.overlaps[archipelago/api.Version]"], unfollowed := true, recurses := true, apart := false }
def SitePlaysSaid : Prop := sitePlaysRow.holds Tryz.pinned (OpenSpec.ofChange sitePlaysSpec)

/-- ITS FALSE NEIGHBOUR: 'it returns false'. Refute it at one input. -/
def sitePlaysWrong : ChangeSpec := { name := "sitePlays", fn := fun _ => fun
  | [d1, d2, d3] => { results := [.lit (.bool false)], args := [d1, d2, d3] }
  | _ => none }
def SitePlaysWrongFalsely : Prop := sitePlaysRow.holds Tryz.pinned (OpenSpec.ofChange sitePlaysWrong)

/-- 'archipelagolaw17.SiteNil': WHATEVER THE INPUT: true; the input reads as it did. -/
def siteNilSpec : ChangeSpec := { name := "siteNil", fn := fun _ => fun
  | [d] => { results := [.lit (.bool true)], args := [d] }
  | _ => none }
def siteNilRow : OpenClaim := { program := "ytmbaeloiepjakaagreat", sum := "3aa4f1c8faa4c03180709491f4b73ac33220467f16f430c7b6a7fe6112906aad", func := "archipelago/archipelagolaw17.SiteNil", spec := "siteNil", inPlace := ["slices.overlaps[archipelago/api.Version]"], unfollowed := true, recurses := true, apart := false }
def SiteNilSaid : Prop := siteNilRow.holds Tryz.pinned (OpenSpec.ofChange siteNilSpec)

/-- ITS FALSE NEIGHBOUR: 'it returns false'. Refute it at one input. -/
def siteNilWrong : ChangeSpec := { name := "siteNil", fn := fun _ => fun
  | [d] => { results := [.lit (.bool false)], args := [d] }
  | _ => none }
def SiteNilWrongFalsely : Prop := siteNilRow.holds Tryz.pinned (OpenSpec.ofChange siteNilWrong)

/- THE SECOND FORM. 'bulk': how many values and letters a reading holds, each counted each time it is reached (what is shared counts as often as it is met; a slice's spare places count too). A statement '..UptoSaid' is the law's where the arguments, and the package variables that the reading takes, are together of bulk at most 1048576: NARROWER than '..Said'. Prove '..Said' where nothing that the law and all that it calls make is longer than what came in: it says more and counts as full. Else prove '..UptoSaid'. A law counts once. -/
mutual
def uptoBulk {H : Type} : DataW H → Nat
  | .lit (.string bytes) => bytes.length + 1
  | .lit _ => 1
  | .nil => 1
  | .ptr d => uptoBulk d + 1
  | .slice elems spare => uptoBulkAll elems + uptoBulkAll spare + 1
  | .agg parts => uptoBulkAll parts + 1
  | .iface _ d => uptoBulk d + 1
  | .map entries => uptoBulkEntries entries + 1
  | .held _ => 1
def uptoBulkAll {H : Type} : List (DataW H) → Nat
  | [] => 0
  | d :: r => uptoBulk d + uptoBulkAll r
def uptoBulkEntries {H : Type} : List (Lit × DataW H) → Nat
  | [] => 0
  | x :: r => uptoBulkEntry x + uptoBulkEntries r
def uptoBulkEntry {H : Type} : Lit × DataW H → Nat
  | (.string bytes, d) => bytes.length + uptoBulk d + 1
  | (_, d) => uptoBulk d + 1
 end
def uptoSmall : (H : Type) → List (DataW H) → Bool := fun _ ds => decide (uptoBulkAll ds ≤ 1048576)
def OpenSpec.upto (s : _root_.Go.ChangeSpec) : _root_.Go.OpenSpec := { _root_.Go.OpenSpec.ofChange s with cond := some uptoSmall }

/-- 'archipelagolaw17.SiteWaits', WHERE WHAT IT READS IS OF BULK AT MOST 1048576: true; the input reads as it did. -/
def siteWaitsUptoRow : OpenClaim := { program := "ytmbaeloiepjakaagreat", sum := "3aa4f1c8faa4c03180709491f4b73ac33220467f16f430c7b6a7fe6112906aad", func := "archipelago/archipelagolaw17.SiteWaits", spec := "siteWaits", inPlace := ["slices.overlaps[archipelago/api.Version]"], unfollowed := true, recurses := true, apart := false, narrowed := true }
def SiteWaitsUptoSaid : Prop := siteWaitsUptoRow.holds Tryz.pinned (OpenSpec.upto siteWaitsSpec)

/-- 'archipelagolaw17.SiteTwice', WHERE WHAT IT READS IS OF BULK AT MOST 1048576: true; the input reads as it did. -/
def siteTwiceUptoRow : OpenClaim := { program := "ytmbaeloiepjakaagreat", sum := "3aa4f1c8faa4c03180709491f4b73ac33220467f16f430c7b6a7fe6112906aad", func := "archipelago/archipelagolaw17.SiteTwice", spec := "siteTwice", inPlace := ["slices.overlaps[archipelago/api.Version]"], unfollowed := true, recurses := true, apart := false, narrowed := true }
def SiteTwiceUptoSaid : Prop := siteTwiceUptoRow.holds Tryz.pinned (OpenSpec.upto siteTwiceSpec)

/-- 'archipelagolaw17.SiteOther', WHERE WHAT IT READS IS OF BULK AT MOST 1048576: true; the input reads as it did. -/
def siteOtherUptoRow : OpenClaim := { program := "ytmbaeloiepjakaagreat", sum := "3aa4f1c8faa4c03180709491f4b73ac33220467f16f430c7b6a7fe6112906aad", func := "archipelago/archipelagolaw17.SiteOther", spec := "siteOther", inPlace := ["slices.overlaps[archipelago/api.Version]"], unfollowed := true, recurses := true, apart := false, narrowed := true }
def SiteOtherUptoSaid : Prop := siteOtherUptoRow.holds Tryz.pinned (OpenSpec.upto siteOtherSpec)

/-- 'archipelagolaw17.SiteCleans', WHERE WHAT IT READS IS OF BULK AT MOST 1048576: true; the input reads as it did. -/
def siteCleansUptoRow : OpenClaim := { program := "ytmbaeloiepjakaagreat", sum := "3aa4f1c8faa4c03180709491f4b73ac33220467f16f430c7b6a7fe6112906aad", func := "archipelago/archipelagolaw17.SiteCleans", spec := "siteCleans", inPlace := ["slices.overlaps[archipelago/api.Version]"], unfollowed := true, recurses := true, apart := false, narrowed := true }
def SiteCleansUptoSaid : Prop := siteCleansUptoRow.holds Tryz.pinned (OpenSpec.upto siteCleansSpec)

/-- 'archipelagolaw17.SiteClock', WHERE WHAT IT READS IS OF BULK AT MOST 1048576: true; the input reads as it did. -/
def siteClockUptoRow : OpenClaim := { program := "ytmbaeloiepjakaagreat", sum := "3aa4f1c8faa4c03180709491f4b73ac33220467f16f430c7b6a7fe6112906aad", func := "archipelago/archipelagolaw17.SiteClock", spec := "siteClock", inPlace := ["slices.overlaps[archipelago/api.Version]"], unfollowed := true, recurses := true, apart := false, narrowed := true }
def SiteClockUptoSaid : Prop := siteClockUptoRow.holds Tryz.pinned (OpenSpec.upto siteClockSpec)

/-- 'archipelagolaw17.SitePlays', WHERE WHAT IT READS IS OF BULK AT MOST 1048576: true; the input reads as it did. -/
def sitePlaysUptoRow : OpenClaim := { program := "ytmbaeloiepjakaagreat", sum := "3aa4f1c8faa4c03180709491f4b73ac33220467f16f430c7b6a7fe6112906aad", func := "archipelago/archipelagolaw17.SitePlays", spec := "sitePlays", inPlace := ["slices.overlaps[archipelago/api.Version]"], unfollowed := true, recurses := true, apart := false, narrowed := true }
def SitePlaysUptoSaid : Prop := sitePlaysUptoRow.holds Tryz.pinned (OpenSpec.upto sitePlaysSpec)

/-- 'archipelagolaw17.SiteNil', WHERE WHAT IT READS IS OF BULK AT MOST 1048576: true; the input reads as it did. -/
def siteNilUptoRow : OpenClaim := { program := "ytmbaeloiepjakaagreat", sum := "3aa4f1c8faa4c03180709491f4b73ac33220467f16f430c7b6a7fe6112906aad", func := "archipelago/archipelagolaw17.SiteNil", spec := "siteNil", inPlace := ["slices.overlaps[archipelago/api.Version]"], unfollowed := true, recurses := true, apart := false, narrowed := true }
def SiteNilUptoSaid : Prop := siteNilUptoRow.holds Tryz.pinned (OpenSpec.upto siteNilSpec)

end Rows
end Go.Proofs.YtmbaeloiepjakaaGreat
