/- Law 13: what its helpers yield. -/
import Derived.Test.YtkmjiaegbooplaaGreatJSh
import Derived.Test.YtkmjiaegbooplaaGreatAF
import Derived.Test.YtkmjiaegbooplaaGreatAUb
import Derived.Test.YtkmjiaegbooplaaGreatSOp
set_option linter.unusedSimpArgs false
set_option linter.unusedVariables false
set_option maxRecDepth 100000
namespace Go.Proofs.YtkmjiaegbooplaaGreat
open Go.RowKit A R
open A.RowT
namespace J
def andI (x m : Int) : Int := IntKind.i64.wrap (BitVec.ofInt 64 x &&& BitVec.ofInt 64 m).toNat
theorem andI_le (x : Int) (m : Nat) (hm : m < 1000) : 0 ≤ andI x m ∧ andI x m ≤ m := by
  unfold andI
  have h1 : (BitVec.ofInt 64 x &&& BitVec.ofInt 64 (m : Int)).toNat ≤ m := by
    rw [BitVec.toNat_and]
    refine Nat.le_trans Nat.and_le_right ?_
    rw [BitVec.toNat_ofInt]
    omega
  generalize (BitVec.ofInt 64 x &&& BitVec.ofInt 64 (m : Int)).toNat = z at h1
  rw [IntKind.wrap_i64]
  omega
theorem wrapI64 {x : Int} (h : A.inI x) : IntKind.i64.wrap x = x := A.wrapI h
/-- One byte of a text. -/
def byte1 (z : Int) : ByteArray := V.ba [UInt8.ofNat z.toNat]
def word (n : Int) : ByteArray := byte1 (97 + 3 * andI n 7)
def ranges (n : Int) : List Rng := if andI n 3 = 0 then [⟨⟨#[]⟩, ⟨#[]⟩⟩] else if andI n 3 = 1 then [⟨⟨#[]⟩, ⟨#[106]⟩⟩] else if andI n 3 = 2 then [⟨⟨#[100]⟩, ⟨#[109]⟩⟩, ⟨⟨#[115]⟩, ⟨#[]⟩⟩] else []
theorem ranges_len (n : Int) : (ranges n).length ≤ 2 := by unfold ranges; split <;> (try split) <;> (try split) <;> simp
theorem u8_wrap {z : Int} (h : 0 ≤ z ∧ z ≤ 255) : IntKind.u8.wrap z = ((UInt8.ofNat z.toNat).toNat : Int) := by
  have h1 : IntKind.u8.wrap z = z := by
    unfold IntKind.wrap
    simp [IntKind.bits, IntKind.signed]
    omega
  rw [h1]
  have : (UInt8.ofNat z.toNat).toNat = z.toNat := by
    rw [UInt8.toNat_ofNat']
    omega
  rw [this]; omega
end J
structure HOp where
  kind : Int
  key : Int
  n : Int
  site : Int
  raw : Bool
  v : Ver
  pin : Dep
def HOp.row (o : HOp) : List AV := [iv o.kind, iv o.key, iv o.n, iv o.site, bv o.raw, tv o.v.key, tv o.v.value, bv o.v.gone, iv o.v.n, iv o.v.s, .sl 3 (o.v.past.map Dep.row), tv o.pin.key, iv o.pin.n, iv o.pin.s]
instance : Inhabited HOp := ⟨⟨0, 0, 0, 0, false, default, default⟩⟩
namespace J
/-- The version that a step means. -/
def ver (o : HOp) : Ver := if o.raw then { o.v with past := [], value := S.short o.v.value } else ⟨word o.key, byte1 (97 + andI o.n 15), false, 1 + andI o.n 15, andI o.site 3, []⟩
end J
set_option maxRecDepth 100000 in
theorem hword_a (n : Int) : ACall Tryz.prog 32 [iv n] (tv (J.word n)) := by
  refine ACall_enter (fun _ _ => by kernel_rfl) Tryz.func32 rfl Tryz.ntmps32 Tryz.results32 (Nat.le_of_ble_eq_true rfl) (fun hok M0 w0 hnl => ?_)
  have h7 : 0 ≤ J.andI n 7 ∧ J.andI n 7 ≤ 7 := J.andI_le n 7 (by decide)
  refine Aw_seq ?_
  refine Aw_region ?_
  refine Al_pu (Pu_move (.inr rfl) (by conv => lhs; whnf)) rfl rfl (by decide) (by kernel_rfl) ?_
  refine Al_nil ?_
  refine Aw_seq ?_
  refine Aw_region ?_
  refine Al_pu (Pu_move (.inl rfl) (by conv => lhs; whnf)) rfl rfl (by decide) (by kernel_rfl) ?_
  refine Al_pu (Pu_int_and (r := J.andI n 7) rfl rfl rfl rfl (fun _ => V.i64_ok _)) rfl rfl (by decide) (by kernel_rfl) ?_
  refine Al_pu (Pu_int_mul (r := 3 * J.andI n 7) rfl rfl rfl (J.wrapI64 (by simp only [A.inI]; omega)) (fun _ => by show A.inI _; simp only [A.inI]; omega)) rfl rfl (by decide) (by kernel_rfl) ?_
  refine Al_pu (Pu_add rfl rfl rfl (fun h1 h2 => by simp only [A.inI, A.maxI] at *; omega)) rfl rfl (by decide) (by kernel_rfl) ?_
  refine Al_pu (Pu_convW (k' := .u8) (r := ((UInt8.ofNat (97 + 3 * J.andI n 7).toNat).toNat : Int)) rfl Tryz.underlying3 Tryz.underlying5 rfl (J.u8_wrap (by omega)) ⟨by omega, by have := (UInt8.ofNat (97 + 3 * J.andI n 7).toNat).toNat_lt; omega⟩) rfl rfl (by decide) (by kernel_rfl) ?_
  refine Al_pu (Pu_slice1 rfl Tryz.underlying70 Tryz.sizeOf5 Tryz.zeroValue5 rfl (by decide) (by decide) (by kernel_rfl) rfl rfl rfl) rfl rfl (by decide) (by kernel_rfl) ?_
  refine Al_pu (Pu_convBS (bs := [UInt8.ofNat (97 + 3 * J.andI n 7).toNat]) rfl Tryz.underlying70 Tryz.underlying5 Tryz.underlying9 rfl) rfl rfl (by decide) (by kernel_rfl) ?_
  refine Al_pu (Pu_move (.inr rfl) (by conv => lhs; whnf)) rfl rfl (by decide) (by kernel_rfl) ?_
  refine Al_nil ?_
  refine Aw_ret ?_
  exact Sub.rfl -- ret 0
set_option maxRecDepth 100000 in
theorem hver_a (k : ByteArray) (n s : Int) : ACall Tryz.prog 30 [tv k, iv n, iv s] (.row (Ver.row ⟨k, ⟨#[]⟩, false, n, s, []⟩)) := by
  refine ACall_enterG (fun _ _ => by kernel_rfl) Tryz.func30 rfl Tryz.ntmps30 (Reads.cN Tryz.results30 Tryz.isAgg36 Tryz.sizeOf36) (Nat.le_of_ble_eq_true rfl) (fun hok M0 w0 hnl => ?_)
  refine Aw_seq ?_
  refine Aw_region ?_
  refine Al_alloc rfl rfl rfl (by decide) Tryz.zeroValue36 rfl (by kernel_rfl) (fun g6 => ?_)
  refine Al_nil ?_
  refine Aw_seq ?_
  refine Aw_region ?_
  refine Al_pu (Pu_move (.inl rfl) (by conv => lhs; whnf)) rfl rfl (by decide) (by kernel_rfl) ?_
  refine Al_pu (Pu_move (.inl rfl) (by conv => lhs; whnf)) rfl rfl (by decide) (by kernel_rfl) ?_
  refine Al_pu (Pu_move (.inl rfl) (by conv => lhs; whnf)) rfl rfl (by decide) (by kernel_rfl) ?_
  refine Al_pu (Pu_build (aa := [(0, _), (1, _)]) rfl Tryz.underlying33 Tryz.zeroValue33 (places33 Tryz.underlying33) (by kernel_rfl) ⟨rfl, rfl, rfl, rfl, rfl, rfl, trivial⟩ rfl) rfl rfl (by decide) (by kernel_rfl) ?_
  refine Al_pu (Pu_build (aa := [(0, _), (3, _)]) rfl Tryz.underlying36 Tryz.zeroValue36 (places36 Tryz.underlying36) (by kernel_rfl) ⟨rfl, rfl, rfl, rfl, rfl, rfl, trivial⟩ rfl) rfl rfl (by decide) (by kernel_rfl) ?_
  refine Al_storeN rfl rfl rfl (by kernel_rfl) Tryz.isAgg36 Tryz.sizeOf36 rfl rfl rfl rfl (Nat.le_of_ble_eq_true rfl) ?_
  refine Al_nil ?_
  refine Aw_boxle (k := 6) ((Ver.row ⟨k, ⟨#[]⟩, false, n, s, []⟩).map .d) rfl ⟨Sub.rfl, Sub.rfl, Sub.rfl, Sub.rfl, Sub.rfl, Sub.nil, trivial⟩ ?_
  refine Aw_ret ?_
  exact ⟨_, _, _, _, _, [_, _, _, _, _, _], rfl, rfl, rfl, rfl, rfl⟩ -- ret 0
set_option maxRecDepth 100000 in
theorem hranges_a (n : Int) : ACall Tryz.prog 6 [iv n] (rngA (J.ranges n)) := by
  refine ACall_enter (fun _ _ => by kernel_rfl) Tryz.func6 rfl Tryz.ntmps6 Tryz.results6 (Nat.le_of_ble_eq_true rfl) (fun hok M0 w0 hnl => ?_)
  have h3 : 0 ≤ J.andI n 3 ∧ J.andI n 3 ≤ 3 := J.andI_le n 3 (by decide)
  refine Aw_seq ?_
  refine Aw_region ?_
  refine Al_pu (Pu_move (.inr rfl) (by conv => lhs; whnf)) rfl rfl (by decide) (by kernel_rfl) ?_
  refine Al_nil ?_
  refine Aw_seq ?_
  refine Aw_seq ?_
  refine Aw_region ?_
  refine Al_pu (Pu_move (.inl rfl) (by conv => lhs; whnf)) rfl rfl (by decide) (by kernel_rfl) ?_
  refine Al_pu (Pu_int_and (r := J.andI n 3) rfl rfl rfl rfl (fun _ => V.i64_ok _)) rfl rfl (by decide) (by kernel_rfl) ?_
  refine Al_nil ?_
  refine Aw_block ?_
  refine Aw_seq ?_
  refine Aw_region ?_
  refine Al_pu (Pu_cmp rfl rfl rfl rfl) rfl rfl (by decide) (by kernel_rfl) ?_
  refine Al_pu (Pu_move (.inr rfl) (by conv => lhs; whnf)) rfl rfl (by decide) (by kernel_rfl) ?_
  refine Al_nil ?_
  refine Aw_cond rfl (fun h5 => ?_) (fun h5 => ?_)
  · (try simp only [decide_eq_true_eq, decide_eq_false_iff_not, Bool.and_eq_true, Bool.or_eq_true, Bool.and_eq_false_iff, Bool.or_eq_false_iff, Bool.not_eq_true', Bool.not_eq_false', beq_iff_eq, Bool.not_eq_eq_eq_not, Bool.not_true, Bool.not_false, List.length_map, Bool.and_true, Bool.and_false, Bool.false_and, Bool.true_and, Bool.or_false, Bool.false_or] at h5)
    refine Aw_seq ?_
    refine Aw_region ?_
    refine Al_pu (Pu_build (aa := []) rfl Tryz.underlying63 Tryz.zeroValue63 (places63 Tryz.underlying63) (by kernel_rfl) trivial rfl) rfl rfl (by decide) (by kernel_rfl) ?_
    refine Al_pu (Pu_slice1 rfl Tryz.underlying26 Tryz.sizeOf63 Tryz.zeroValue63 rfl (by decide) (by decide) (by kernel_rfl) rfl rfl rfl) rfl rfl (by decide) (by kernel_rfl) ?_
    refine Al_pu (Pu_move (.inr rfl) (by conv => lhs; whnf)) rfl rfl (by decide) (by kernel_rfl) ?_
    refine Al_nil ?_
    refine Aw_ret ?_
    exact Sub.d (by unfold J.ranges; rw [if_pos h5]; rfl) -- ret 0
  · (try simp only [decide_eq_true_eq, decide_eq_false_iff_not, Bool.and_eq_true, Bool.or_eq_true, Bool.and_eq_false_iff, Bool.or_eq_false_iff, Bool.not_eq_true', Bool.not_eq_false', beq_iff_eq, Bool.not_eq_eq_eq_not, Bool.not_true, Bool.not_false, List.length_map, Bool.and_true, Bool.and_false, Bool.false_and, Bool.true_and, Bool.or_false, Bool.false_or] at h5)
    refine Aw_seq ?_
    refine Aw_region ?_
    refine Al_pu (Pu_cmp rfl rfl rfl rfl) rfl rfl (by decide) (by kernel_rfl) ?_
    refine Al_pu (Pu_move (.inr rfl) (by conv => lhs; whnf)) rfl rfl (by decide) (by kernel_rfl) ?_
    refine Al_nil ?_
    refine Aw_cond rfl (fun h9 => ?_) (fun h9 => ?_)
    · (try simp only [decide_eq_true_eq, decide_eq_false_iff_not, Bool.and_eq_true, Bool.or_eq_true, Bool.and_eq_false_iff, Bool.or_eq_false_iff, Bool.not_eq_true', Bool.not_eq_false', beq_iff_eq, Bool.not_eq_eq_eq_not, Bool.not_true, Bool.not_false, List.length_map, Bool.and_true, Bool.and_false, Bool.false_and, Bool.true_and, Bool.or_false, Bool.false_or] at h9)
      refine Aw_seq ?_
      refine Aw_region ?_
      refine Al_pu (Pu_build (aa := [(1, _)]) rfl Tryz.underlying63 Tryz.zeroValue63 (places63 Tryz.underlying63) (by kernel_rfl) ⟨rfl, rfl, rfl, trivial⟩ rfl) rfl rfl (by decide) (by kernel_rfl) ?_
      refine Al_pu (Pu_slice1 rfl Tryz.underlying26 Tryz.sizeOf63 Tryz.zeroValue63 rfl (by decide) (by decide) (by kernel_rfl) rfl rfl rfl) rfl rfl (by decide) (by kernel_rfl) ?_
      refine Al_pu (Pu_move (.inr rfl) (by conv => lhs; whnf)) rfl rfl (by decide) (by kernel_rfl) ?_
      refine Al_nil ?_
      refine Aw_ret ?_
      exact Sub.d (by unfold J.ranges; rw [if_neg h5, if_pos h9]; rfl) -- ret 1
    · (try simp only [decide_eq_true_eq, decide_eq_false_iff_not, Bool.and_eq_true, Bool.or_eq_true, Bool.and_eq_false_iff, Bool.or_eq_false_iff, Bool.not_eq_true', Bool.not_eq_false', beq_iff_eq, Bool.not_eq_eq_eq_not, Bool.not_true, Bool.not_false, List.length_map, Bool.and_true, Bool.and_false, Bool.false_and, Bool.true_and, Bool.or_false, Bool.false_or] at h9)
      refine Aw_seq ?_
      refine Aw_region ?_
      refine Al_pu (Pu_cmp rfl rfl rfl rfl) rfl rfl (by decide) (by kernel_rfl) ?_
      refine Al_pu (Pu_move (.inr rfl) (by conv => lhs; whnf)) rfl rfl (by decide) (by kernel_rfl) ?_
      refine Al_nil ?_
      refine Aw_cond rfl (fun h13 => ?_) (fun h13 => ?_)
      · (try simp only [decide_eq_true_eq, decide_eq_false_iff_not, Bool.and_eq_true, Bool.or_eq_true, Bool.and_eq_false_iff, Bool.or_eq_false_iff, Bool.not_eq_true', Bool.not_eq_false', beq_iff_eq, Bool.not_eq_eq_eq_not, Bool.not_true, Bool.not_false, List.length_map, Bool.and_true, Bool.and_false, Bool.false_and, Bool.true_and, Bool.or_false, Bool.false_or] at h13)
        refine Aw_seq ?_
        refine Aw_region ?_
        refine Al_pu (Pu_build (aa := [(0, _), (1, _)]) rfl Tryz.underlying63 Tryz.zeroValue63 (places63 Tryz.underlying63) (by kernel_rfl) ⟨rfl, rfl, rfl, rfl, rfl, rfl, trivial⟩ rfl) rfl rfl (by decide) (by kernel_rfl) ?_
        refine Al_pu (Pu_build (aa := [(0, _)]) rfl Tryz.underlying63 Tryz.zeroValue63 (places63 Tryz.underlying63) (by kernel_rfl) ⟨rfl, rfl, rfl, trivial⟩ rfl) rfl rfl (by decide) (by kernel_rfl) ?_
        refine Al_pu (Pu_buildSlice (aa := [(0, _), (1, _)]) rfl Tryz.underlying26 Tryz.sizeOf63 Tryz.zeroValue63 rfl (by decide) (by decide) (by decide) (by kernel_rfl) ⟨rfl, rfl, rfl, rfl, rfl, rfl, trivial⟩ ((rfl : _ = some [[tv ⟨#[100]⟩, tv ⟨#[109]⟩], [tv ⟨#[115]⟩, tv ⟨#[]⟩]].flatten)) rfl rfl) rfl rfl (by decide) (by kernel_rfl) ?_
        refine Al_pu (Pu_move (.inr rfl) (by conv => lhs; whnf)) rfl rfl (by decide) (by kernel_rfl) ?_
        refine Al_nil ?_
        refine Aw_ret ?_
        exact Sub.d (by unfold J.ranges; rw [if_neg h5, if_neg h9, if_pos h13]; rfl) -- ret 2
      · (try simp only [decide_eq_true_eq, decide_eq_false_iff_not, Bool.and_eq_true, Bool.or_eq_true, Bool.and_eq_false_iff, Bool.or_eq_false_iff, Bool.not_eq_true', Bool.not_eq_false', beq_iff_eq, Bool.not_eq_eq_eq_not, Bool.not_true, Bool.not_false, List.length_map, Bool.and_true, Bool.and_false, Bool.false_and, Bool.true_and, Bool.or_false, Bool.false_or] at h13)
        refine Aw_skip ?_
        refine Aw_seq ?_
        refine Aw_region ?_
        refine Al_pu (Pu_move (.inr rfl) (by conv => lhs; whnf)) rfl rfl (by decide) (by kernel_rfl) ?_
        refine Al_nil ?_
        refine Aw_ret ?_
        exact (show A.Sub _ (.d (rngA (J.ranges n))) from by rw [show J.ranges n = [] from by unfold J.ranges; rw [if_neg h5, if_neg h9, if_neg h13]]; exact Sub.nil) -- ret 3
set_option maxRecDepth 100000 in
set_option maxHeartbeats 1000000 in
theorem hversion_a (o : HOp) : ACall Tryz.prog 7 [.row o.row] (.row (J.ver o).row) := by
  refine ACall_enterG (fun _ _ => by kernel_rfl) Tryz.func7 rfl Tryz.ntmps7 (Reads.cN Tryz.results7 Tryz.isAgg36 Tryz.sizeOf36) (Nat.le_of_ble_eq_true rfl) (fun hok M0 w0 hnl => ?_)
  have h15 : 0 ≤ J.andI o.n 15 ∧ J.andI o.n 15 ≤ 15 := J.andI_le o.n 15 (by decide)
  have h3 : 0 ≤ J.andI o.site 3 ∧ J.andI o.site 3 ≤ 3 := J.andI_le o.site 3 (by decide)
  refine Aw_seq ?_
  refine Aw_region ?_
  refine Al_pu (Pu_boxN rfl rfl) rfl rfl (by decide) (by kernel_rfl) ?_
  refine Al_alloc rfl rfl rfl (by decide) Tryz.zeroValue36 rfl (by kernel_rfl) (fun g2 => ?_)
  refine Al_nil ?_
  refine Aw_seq ?_
  refine Aw_seq ?_
  refine Aw_region ?_
  refine Al_pu (Pu_field 4 rfl Tryz.underlying40 rfl rfl Tryz.sizeOf4 rfl) rfl rfl (by decide) (by kernel_rfl) ?_
  refine Al_pu (Pu_load1 rfl Tryz.isAgg4 rfl rfl) rfl rfl (by decide) (by kernel_rfl) ?_
  refine Al_nil ?_
  refine Aw_cond rfl (fun h6 => ?_) (fun h6 => ?_)
  · skip
    have hr : J.ver o = { o.v with past := [], value := S.short o.v.value } := by unfold J.ver; rw [if_pos h6]
    refine Aw_seq ?_
    refine Aw_region ?_
    refine Al_pu (Pu_field 5 rfl Tryz.underlying40 rfl rfl Tryz.sizeOf36 rfl) rfl rfl (by decide) (by kernel_rfl) ?_
    refine Al_pu (Pu_loadN rfl Tryz.isAgg36 Tryz.sizeOf36 rfl (Nat.le_of_ble_eq_true rfl)) rfl rfl (by decide) (by kernel_rfl) ?_
    refine Al_alloc rfl rfl rfl (by decide) Tryz.zeroValue36 rfl (by kernel_rfl) (fun g3 => ?_)
    refine Al_storeN rfl rfl rfl (by kernel_rfl) Tryz.isAgg36 Tryz.sizeOf36 rfl rfl rfl rfl (Nat.le_of_ble_eq_true rfl) ?_
    refine Al_nil ?_
    refine Aw_seq ?_
    refine Aw_region ?_
    refine Al_pu (Pu_fieldb 5 rfl Tryz.underlying36 rfl rfl Tryz.sizeOf34 rfl) rfl rfl (by decide) (by kernel_rfl) ?_
    refine Al_store1 rfl rfl rfl (by kernel_rfl) Tryz.isAgg34 Tryz.sizeOf34 rfl rfl (Nat.le_of_ble_eq_true rfl) (by conv => lhs; whnf) rfl ?_
    refine Al_nil ?_
    -- join 0: live [2, 3], turned []
    refine Aw_seq ?_
    refine Aw_seq ?_
    refine Aw_region ?_
    refine Al_pu (Pu_fieldb 1 rfl Tryz.underlying36 rfl rfl Tryz.sizeOf9 rfl) rfl rfl (by decide) (by kernel_rfl) ?_
    refine Al_pu (Pu_loadb rfl Tryz.isAgg9 rfl rfl rfl) rfl rfl (by decide) (by kernel_rfl) ?_
    refine Al_pu (Pu_lenS rfl Tryz.underlying9 rfl) rfl rfl (by decide) (by kernel_rfl) ?_
    refine Al_pu (Pu_cmp rfl rfl rfl rfl) rfl rfl (by decide) (by kernel_rfl) ?_
    refine Al_nil ?_
    refine Aw_cond rfl (fun h13 => ?_) (fun h13 => ?_)
    · (try simp only [decide_eq_true_eq, decide_eq_false_iff_not, Bool.and_eq_true, Bool.or_eq_true, Bool.and_eq_false_iff, Bool.or_eq_false_iff, Bool.not_eq_true', Bool.not_eq_false', beq_iff_eq, Bool.not_eq_eq_eq_not, Bool.not_true, Bool.not_false, List.length_map, Bool.and_true, Bool.and_false, Bool.false_and, Bool.true_and, Bool.or_false, Bool.false_or] at h13)
      refine Aw_region ?_
      refine Al_pu (Pu_fieldb 1 rfl Tryz.underlying36 rfl rfl Tryz.sizeOf9 rfl) rfl rfl (by decide) (by kernel_rfl) ?_
      refine Al_pu (Pu_loadb rfl Tryz.isAgg9 rfl rfl rfl) rfl rfl (by decide) (by kernel_rfl) ?_
      refine Al_pu (Pu_subS (0) (40) rfl Tryz.underlying9 rfl rfl ⟨_, rfl, by omega⟩ ⟨by first | omega | (simp; omega), by first | omega | (simp; omega)⟩) rfl rfl (by decide) (by kernel_rfl) ?_
      refine Al_pu (Pu_fieldb 1 rfl Tryz.underlying36 rfl rfl Tryz.sizeOf9 rfl) rfl rfl (by decide) (by kernel_rfl) ?_
      refine Al_store1 rfl rfl rfl (by kernel_rfl) Tryz.isAgg9 Tryz.sizeOf9 rfl rfl (Nat.le_of_ble_eq_true rfl) (by conv => lhs; whnf) rfl ?_
      refine Al_nil ?_
      refine Aw_seq ?_
      refine Aw_region ?_
      refine Al_pu (Pu_loadbN (r := [_, _, _, _, _, _]) rfl Tryz.isAgg36 Tryz.sizeOf36 rfl rfl rfl rfl) rfl rfl (by decide) (by kernel_rfl) ?_
      refine Al_storeN rfl rfl rfl (by kernel_rfl) Tryz.isAgg36 Tryz.sizeOf36 rfl rfl rfl rfl (Nat.le_of_ble_eq_true rfl) ?_
      refine Al_nil ?_
      refine Aw_boxle (k := 2) ((J.ver o).row.map .d) rfl (by rw [hr]; exact ⟨Sub.rfl, Sub.rfl, Sub.rfl, Sub.rfl, Sub.rfl, Sub.nil, trivial⟩) ?_
      refine Aw_ret ?_
      exact ⟨_, _, _, _, _, [_, _, _, _, _, _], rfl, rfl, rfl, rfl, rfl⟩ -- ret 0
    · (try simp only [decide_eq_true_eq, decide_eq_false_iff_not, Bool.and_eq_true, Bool.or_eq_true, Bool.and_eq_false_iff, Bool.or_eq_false_iff, Bool.not_eq_true', Bool.not_eq_false', beq_iff_eq, Bool.not_eq_eq_eq_not, Bool.not_true, Bool.not_false, List.length_map, Bool.and_true, Bool.and_false, Bool.false_and, Bool.true_and, Bool.or_false, Bool.false_or] at h13)
      refine Aw_skip ?_
      refine Aw_seq ?_
      refine Aw_region ?_
      refine Al_pu (Pu_loadbN (r := [_, _, _, _, _, _]) rfl Tryz.isAgg36 Tryz.sizeOf36 rfl rfl rfl rfl) rfl rfl (by decide) (by kernel_rfl) ?_
      refine Al_storeN rfl rfl rfl (by kernel_rfl) Tryz.isAgg36 Tryz.sizeOf36 rfl rfl rfl rfl (Nat.le_of_ble_eq_true rfl) ?_
      refine Al_nil ?_
      refine Aw_boxle (k := 2) ((J.ver o).row.map .d) rfl (by rw [hr]; exact ⟨Sub.rfl, Sub.str (ext_self _ _ (by omega)).symm, Sub.rfl, Sub.rfl, Sub.rfl, Sub.nil, trivial⟩) ?_
      refine Aw_ret ?_
      exact ⟨_, _, _, _, _, [_, _, _, _, _, _], rfl, rfl, rfl, rfl, rfl⟩ -- ret 1
  · skip
    have hr : J.ver o = ⟨J.word o.key, J.byte1 (97 + J.andI o.n 15), false, 1 + J.andI o.n 15, J.andI o.site 3, []⟩ := by unfold J.ver; rw [if_neg (by rw [h6]; decide)]
    refine Aw_skip ?_
    refine Aw_seq ?_
    refine Aw_drawA 11 (by kernel_rfl) (by kernel_rfl) rfl rfl rfl rfl (by decide) Tryz.zeroValue36 rfl (by kernel_rfl) rfl ?_
    refine Dr_pu (Pu_field 1 rfl Tryz.underlying40 rfl rfl Tryz.sizeOf3 rfl) rfl rfl ?_
    refine Dr_pu (Pu_load1 rfl Tryz.isAgg3 rfl rfl) rfl rfl ?_
    refine Dr_pu (Pu_call (hword_a _) rfl ⟨Sub.rfl, trivial⟩) rfl rfl ?_
    refine Dr_pu (Pu_field 2 rfl Tryz.underlying40 rfl rfl Tryz.sizeOf3 rfl) rfl rfl ?_
    refine Dr_pu (Pu_load1 rfl Tryz.isAgg3 rfl rfl) rfl rfl ?_
    refine Dr_pu (Pu_int_and (r := J.andI o.n 15) rfl rfl rfl rfl (fun _ => V.i64_ok _)) rfl rfl ?_
    refine Dr_pu (Pu_add rfl rfl rfl (fun h1 h2 => by simp only [A.inI, A.maxI] at *; omega)) rfl rfl ?_
    refine Dr_pu (Pu_field 3 rfl Tryz.underlying40 rfl rfl Tryz.sizeOf3 rfl) rfl rfl ?_
    refine Dr_pu (Pu_load1 rfl Tryz.isAgg3 rfl rfl) rfl rfl ?_
    refine Dr_pu (Pu_int_and (r := J.andI o.site 3) rfl rfl rfl rfl (fun _ => V.i64_ok _)) rfl rfl ?_
    refine Dr_pu (Pu_call (hver_a _ _ _) rfl ⟨Sub.rfl, Sub.rfl, Sub.rfl, trivial⟩) rfl rfl ?_
    refine Dr_nil ?_
    intro g4
    refine Al_storeN rfl rfl rfl (by kernel_rfl) Tryz.isAgg36 Tryz.sizeOf36 rfl rfl rfl rfl (Nat.le_of_ble_eq_true rfl) ?_
    refine Al_nil ?_
    refine Aw_seq ?_
    refine Aw_region ?_
    refine Al_pu (Pu_field 2 rfl Tryz.underlying40 rfl rfl Tryz.sizeOf3 rfl) rfl rfl (by decide) (by kernel_rfl) ?_
    refine Al_pu (Pu_load1 rfl Tryz.isAgg3 rfl rfl) rfl rfl (by decide) (by kernel_rfl) ?_
    refine Al_pu (Pu_int_and (r := J.andI o.n 15) rfl rfl rfl rfl (fun _ => V.i64_ok _)) rfl rfl (by decide) (by kernel_rfl) ?_
    refine Al_pu (Pu_add rfl rfl rfl (fun h1 h2 => by simp only [A.inI, A.maxI] at *; omega)) rfl rfl (by decide) (by kernel_rfl) ?_
    refine Al_pu (Pu_convW (k' := .u8) (r := ((UInt8.ofNat (97 + J.andI o.n 15).toNat).toNat : Int)) rfl Tryz.underlying3 Tryz.underlying5 rfl (J.u8_wrap (by omega)) ⟨by omega, by have := (UInt8.ofNat (97 + J.andI o.n 15).toNat).toNat_lt; omega⟩) rfl rfl (by decide) (by kernel_rfl) ?_
    refine Al_pu (Pu_slice1 rfl Tryz.underlying70 Tryz.sizeOf5 Tryz.zeroValue5 rfl (by decide) (by decide) (by kernel_rfl) rfl rfl rfl) rfl rfl (by decide) (by kernel_rfl) ?_
    refine Al_pu (Pu_convBS (bs := [UInt8.ofNat (97 + J.andI o.n 15).toNat]) rfl Tryz.underlying70 Tryz.underlying5 Tryz.underlying9 rfl) rfl rfl (by decide) (by kernel_rfl) ?_
    refine Al_pu (Pu_fieldb 1 rfl Tryz.underlying36 rfl rfl Tryz.sizeOf9 rfl) rfl rfl (by decide) (by kernel_rfl) ?_
    refine Al_store1 rfl rfl rfl (by kernel_rfl) Tryz.isAgg9 Tryz.sizeOf9 rfl rfl (Nat.le_of_ble_eq_true rfl) (by conv => lhs; whnf) rfl ?_
    refine Al_nil ?_
    refine Aw_seq ?_
    refine Aw_region ?_
    refine Al_pu (Pu_loadbN (r := [_, _, _, _, _, _]) rfl Tryz.isAgg36 Tryz.sizeOf36 rfl rfl rfl rfl) rfl rfl (by decide) (by kernel_rfl) ?_
    refine Al_storeN rfl rfl rfl (by kernel_rfl) Tryz.isAgg36 Tryz.sizeOf36 rfl rfl rfl rfl (Nat.le_of_ble_eq_true rfl) ?_
    refine Al_nil ?_
    refine Aw_ret ?_
    exact ⟨_, _, _, _, _, [_, _, _, _, _, _], rfl, rfl, rfl, rfl, by rw [hr]; rfl⟩ -- ret 2
end Go.Proofs.YtkmjiaegbooplaaGreat
