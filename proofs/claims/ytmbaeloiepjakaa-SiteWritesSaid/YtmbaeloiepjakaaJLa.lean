
/- Law 13: what its helpers yield. -/
import Derived.Test.YtmbaeloiepjakaaJSh
import Derived.Test.YtmbaeloiepjakaaAF
import Derived.Test.YtmbaeloiepjakaaAUb
import Derived.Test.YtmbaeloiepjakaaSOp
set_option linter.unusedSimpArgs false
set_option linter.unusedVariables false
set_option maxRecDepth 100000
namespace Go.Proofs.Ytmbaeloiepjakaa
open Go.RowKit A R
open A.RowT
namespace J
def andI (x m : Int) : Int := IntKind.i64.wrap (BitVec.ofInt 64 x &&& BitVec.ofInt 64 m).toNat
theorem andI_le (x : Int) (m : Nat) (hm : m < 1000) : 0 ≤ andI x m ∧ andI x m ≤ m := by
  unfold andI
  have h1 : (BitVec.ofInt 64 x &&& BitVec.ofInt 64 (m : Int)).toNat ≤ m := by
    rw [BitVec.toNat_and]
    refine Nat.le_trans Nat.and_le_right ?_
    rw [BitVec.toNat_ofInt]
    omega
  generalize (BitVec.ofInt 64 x &&& BitVec.ofInt 64 (m : Int)).toNat = z at h1
  rw [IntKind.wrap_i64]
  omega
theorem wrapI64 {x : Int} (h : A.inI x) : IntKind.i64.wrap x = x := A.wrapI h
/-- One byte of a text. -/
def byte1 (z : Int) : ByteArray := V.ba [UInt8.ofNat z.toNat]
def word (n : Int) : ByteArray := byte1 (97 + 3 * andI n 7)
def ranges (n : Int) : List Rng := if andI n 3 = 0 then [⟨⟨#[]⟩, ⟨#[]⟩⟩] else if andI n 3 = 1 then [⟨⟨#[]⟩, ⟨#[106]⟩⟩] else if andI n 3 = 2 then [⟨⟨#[100]⟩, ⟨#[109]⟩⟩, ⟨⟨#[115]⟩, ⟨#[]⟩⟩] else []
theorem ranges_len (n : Int) : (ranges n).length ≤ 2 := by unfold ranges; split <;> (try split) <;> (try split) <;> simp
theorem u8_wrap {z : Int} (h : 0 ≤ z ∧ z ≤ 255) : IntKind.u8.wrap z = ((UInt8.ofNat z.toNat).toNat : Int) := by
  have h1 : IntKind.u8.wrap z = z := by
    unfold IntKind.wrap
    simp [IntKind.bits, IntKind.signed]
    omega
  rw [h1]
  have : (UInt8.ofNat z.toNat).toNat = z.toNat := by
    rw [UInt8.toNat_ofNat']
    omega
  rw [this]; omega
end J
structure HOp where
  kind : Int
  key : Int
  n : Int
  site : Int
  raw : Bool
  v : Ver
  pin : Dep
def HOp.row (o : HOp) : List AV := [iv o.kind, iv o.key, iv o.n, iv o.site, bv o.raw, tv o.v.key, tv o.v.value, bv o.v.gone, iv o.v.n, iv o.v.s, .sl 3 (o.v.past.map Dep.row), tv o.pin.key, iv o.pin.n, iv o.pin.s]
instance : Inhabited HOp := ⟨⟨0, 0, 0, 0, false, default, default⟩⟩
namespace J
/-- The version that a step means. -/
def ver (o : HOp) : Ver := if o.raw then { o.v with past := [], value := S.short o.v.value } else ⟨word o.key, byte1 (97 + andI o.n 15), false, 1 + andI o.n 15, andI o.site 3, []⟩
end J
end Go.Proofs.Ytmbaeloiepjakaa
