/- The graph's laws: acts, the events that are made of them, awake. -/
import Derived.Test.YtgoncpjgpkoacaaGRa
set_option linter.unusedSimpArgs false
set_option linter.unusedVariables false
namespace Go.Proofs.Ytgoncpjgpkoacaa
open Go.RowKit A R
open A.RowT
structure Act where
  write : Bool
  client : Int
  key : Int
  n : Int
  site : Int
instance : Inhabited Act := ⟨⟨false, 0, 0, 0, 0⟩⟩
def Act.row (a : Act) : List AV := [bv a.write, iv a.client, iv a.key, iv a.n, iv a.site]
namespace G
/-- The last bits of a number. -/
def andI (x m : Int) : Int := IntKind.i64.wrap (BitVec.ofInt 64 x &&& BitVec.ofInt 64 m).toNat
theorem andI_le (x : Int) (m : Nat) (hm : m < 1000) : 0 ≤ andI x m ∧ andI x m ≤ m := by
  unfold andI
  have h1 : (BitVec.ofInt 64 x &&& BitVec.ofInt 64 (m : Int)).toNat ≤ m := by
    rw [BitVec.toNat_and]
    refine Nat.le_trans Nat.and_le_right ?_
    rw [BitVec.toNat_ofInt]
    omega
  generalize (BitVec.ofInt 64 x &&& BitVec.ofInt 64 (m : Int)).toNat = z at h1
  rw [IntKind.wrap_i64]
  omega
def keys4 : List ByteArray := [⟨#[97]⟩, ⟨#[98]⟩, ⟨#[99]⟩, ⟨#[100]⟩]
def mk1 (a : Act) : Event := ⟨if a.write then 1 else 2, andI a.client 3, keys4.getD (andI a.key 3).toNat ⟨#[]⟩, andI a.n 7, if andI a.n 7 = 0 then 0 else andI a.site 1, []⟩
def mk0 (a : Act) : Event := ⟨2, andI a.client 3, keys4.getD (andI a.key 3).toNat ⟨#[]⟩, andI a.n 7, andI a.site 1, []⟩
def made (l : List Act) : List Event := (l.take 16).map mk1
theorem made_len (l : List Act) : (made l).length ≤ 16 := by simp [made]; omega
theorem keys_at {j : Nat} (hj : j < 4) : (keys4.map fun k => SV.d (tv k))[j]? = some (.d (tv (keys4.getD j ⟨#[]⟩))) := by
  rw [List.getElem?_map, List.getElem?_eq_getElem (show j < keys4.length from hj)]
  rw [List.getD_eq_getElem?_getD, List.getElem?_eq_getElem (show j < keys4.length from hj)]; rfl
end G
set_option maxRecDepth 100000 in
set_option maxHeartbeats 2000000 in
theorem made_a (l : List Act) : ACall Try.prog 10 [.sl 5 (l.map Act.row)] (.sl 6 ((G.made l).map Event.row)) := by
  refine ACall_enter (fun _ _ => by kernel_rfl) Try.func10 rfl Try.ntmps10 Try.results10 (Nat.le_of_ble_eq_true rfl) (fun hok M0 w0 hnl => ?_)
  have hlen := (hok _ (List.mem_cons_self ..)).len
  rw [List.length_map] at hlen
  refine Aw_seq ?_
  refine Aw_region ?_
  refine Al_pu (Pu_move (.inr rfl) (by conv => lhs; whnf)) rfl rfl (by decide) (by kernel_rfl) ?_
  refine Al_nil ?_
  refine Aw_seq ?_
  refine Aw_region ?_
  refine Al_pu (Pu_buildArr (aa := [(0, _), (1, _), (2, _), (3, _)]) rfl Try.underlying36 Try.zeroValue36 Try.sizeOf9 (by kernel_rfl) ⟨rfl, rfl, rfl, rfl, rfl, rfl, rfl, rfl, rfl, rfl, rfl, rfl, trivial⟩ rfl) rfl rfl (by decide) (by kernel_rfl) ?_
  refine Al_alloc rfl rfl rfl (by decide) Try.zeroValue36 rfl (by kernel_rfl) (fun g3 => ?_)
  refine Al_storeN rfl rfl rfl (by kernel_rfl) Try.isAgg36 Try.sizeOf36 rfl rfl rfl rfl (Nat.le_of_ble_eq_true rfl) ?_
  refine Al_nil ?_
  refine Aw_seq ?_
  refine Aw_region ?_
  refine Al_pu (Pu_move (.inr rfl) (by conv => lhs; whnf)) rfl rfl (by decide) (by kernel_rfl) ?_
  refine Al_nil ?_
  refine Aw_seq ?_
  refine Aw_seq ?_
  refine Aw_region ?_
  refine Al_pu (Pu_move (.inr rfl) (by conv => lhs; whnf)) rfl rfl (by decide) (by kernel_rfl) ?_
  refine Al_nil ?_
  refine Aw_block ?_
  refine Aw_own (j := 4) (k := 4) (T := 33) (n := 6) rfl (fun g0 => ?_)
  refine Aw_loopk (ι := Nat × Nat) [0, 3] [3] (fun (k, g) => [(5, .d (iv k)), (4, .ow 4 g)]) (fun (k, g) => [(4, g, .arr 33 6 (((l.take k).map G.mk1).map Event.row))]) (fun (k, g) => k ≤ l.length ∧ k ≤ 16) (fun (k, g) => 16 - k) (0, g0) (⟨by omega, by omega⟩) ⟨Sub.num rfl, Sub.rfl, trivial⟩ ⟨rfl, trivial⟩ ?_
  rintro ⟨k, g⟩ ⟨hk1, hk2⟩
  refine Aw_seq ?_
  refine Aw_seq ?_
  refine Aw_region ?_
  refine Al_pu (Pu_move (.inl rfl) (by conv => lhs; whnf)) rfl rfl (by decide) (by kernel_rfl) ?_
  refine Al_pu (Pu_move (.inl rfl) (by conv => lhs; whnf)) rfl rfl (by decide) (by kernel_rfl) ?_
  refine Al_pu (Pu_len rfl Try.underlying22 rfl (by first | exact List.length_map .. | exact rfl)) rfl rfl (by decide) (by kernel_rfl) ?_
  refine Al_pu (Pu_cmp rfl rfl rfl rfl) rfl rfl (by decide) (by kernel_rfl) ?_
  refine Al_pu (Pu_move (.inl rfl) (by conv => lhs; whnf)) rfl rfl (by decide) (by kernel_rfl) ?_
  refine Al_st (St_gd [] rfl rfl rfl rfl trivial (fun hg13 => by exact Pu_move (.inl rfl) (by conv => lhs; whnf))) rfl (by decide) (by kernel_rfl) (by intro j b oj dj h1 h2 h3; cases h1; cases h2; cases h3; decide) ?_
  refine Al_st (St_gd [13] rfl rfl rfl rfl ⟨⟨_, rfl⟩, trivial⟩ (fun hg14 => Pu_cmp rfl rfl rfl rfl)) rfl (by decide) (by kernel_rfl) (by intro j b oj dj h1 h2 h3; cases h1; cases h2; cases h3; decide) ?_
  refine Al_pu (Pu_and rfl rfl rfl rfl) rfl rfl (by decide) (by kernel_rfl) ?_
  refine Al_nil ?_
  refine Aw_cond rfl (fun h15 => ?_) (fun h15 => ?_)
  · (try simp only [decide_eq_true_eq, decide_eq_false_iff_not, Bool.and_eq_true, Bool.or_eq_true, Bool.and_eq_false_iff, Bool.or_eq_false_iff, Bool.not_eq_true', Bool.not_eq_false', beq_iff_eq, Bool.not_eq_eq_eq_not, Bool.not_true, Bool.not_false, List.length_map, Bool.and_true, Bool.and_false, Bool.false_and, Bool.true_and, Bool.or_false, Bool.false_or] at h15)
    obtain ⟨h15a, h15b⟩ : k < l.length ∧ k < 16 := by omega
    have hd : l.getD k default = l[k] := by simp [h15a]
    have hk3 : 0 ≤ G.andI (l.getD k default).key 3 ∧ G.andI (l.getD k default).key 3 ≤ 3 := G.andI_le (l.getD k default).key 3 (by decide)
    have hkn : (G.andI (l.getD k default).key 3) = ((G.andI (l.getD k default).key 3).toNat : Int) := by omega
    have hk4 : (G.andI (l.getD k default).key 3).toNat < 4 := by omega
    have hkat : (G.keys4.map fun k => SV.d (tv k))[0 + (G.andI (l.getD k default).key 3).toNat * 1]? = some (.d (tv (G.keys4.getD (G.andI (l.getD k default).key 3).toNat ⟨#[]⟩))) := by rw [Nat.zero_add, Nat.mul_one]; exact G.keys_at hk4
    refine Aw_skip ?_
    -- join 0: live [0, 3, 4, 5], turned [4]
    refine Aw_seq ?_
    refine Aw_block ?_
    refine Aw_seq ?_
    refine Aw_drawA 28 (by kernel_rfl) (by kernel_rfl) rfl rfl rfl rfl (by decide) Try.zeroValue33 rfl (by kernel_rfl) rfl ?_
    refine Dr_pu (Pu_move (.inl rfl) (by conv => lhs; whnf)) rfl rfl ?_
    refine Dr_pu (Pu_move (.inl rfl) (by conv => lhs; whnf)) rfl rfl ?_
    refine Dr_pu (Pu_index rfl Try.underlying22 Try.sizeOf39 rfl rfl (rfl) (mapgetD (d := default) h15a)) rfl rfl ?_
    refine Dr_pu (Pu_field 1 rfl Try.underlying39 rfl rfl Try.sizeOf3 rfl) rfl rfl ?_
    refine Dr_pu (Pu_load1 rfl Try.isAgg3 rfl rfl) rfl rfl ?_
    refine Dr_pu (Pu_int_and (r := G.andI (l.getD k default).client 3) rfl rfl rfl rfl (fun _ => V.i64_ok _)) rfl rfl ?_
    refine Dr_pu (Pu_move (.inl rfl) (by conv => lhs; whnf)) rfl rfl ?_
    refine Dr_pu (Pu_move (.inl rfl) (by conv => lhs; whnf)) rfl rfl ?_
    refine Dr_pu (Pu_index rfl Try.underlying22 Try.sizeOf39 rfl rfl (rfl) (mapgetD (d := default) h15a)) rfl rfl ?_
    refine Dr_pu (Pu_field 2 rfl Try.underlying39 rfl rfl Try.sizeOf3 rfl) rfl rfl ?_
    refine Dr_pu (Pu_load1 rfl Try.isAgg3 rfl rfl) rfl rfl ?_
    refine Dr_pu (Pu_int_and (r := G.andI (l.getD k default).key 3) rfl rfl rfl rfl (fun _ => V.i64_ok _)) rfl rfl ?_
    refine Dr_pu (Pu_indexArrb (j := (G.andI (l.getD k default).key 3).toNat) rfl Try.underlying36 Try.sizeOf9 rfl rfl hkn hk4) rfl rfl ?_
    refine Dr_pu (Pu_loadb rfl Try.isAgg9 rfl rfl hkat) rfl rfl ?_
    refine Dr_pu (Pu_move (.inl rfl) (by conv => lhs; whnf)) rfl rfl ?_
    refine Dr_pu (Pu_move (.inl rfl) (by conv => lhs; whnf)) rfl rfl ?_
    refine Dr_pu (Pu_index rfl Try.underlying22 Try.sizeOf39 rfl rfl (rfl) (mapgetD (d := default) h15a)) rfl rfl ?_
    refine Dr_pu (Pu_field 3 rfl Try.underlying39 rfl rfl Try.sizeOf3 rfl) rfl rfl ?_
    refine Dr_pu (Pu_load1 rfl Try.isAgg3 rfl rfl) rfl rfl ?_
    refine Dr_pu (Pu_int_and (r := G.andI (l.getD k default).n 7) rfl rfl rfl rfl (fun _ => V.i64_ok _)) rfl rfl ?_
    refine Dr_pu (Pu_move (.inl rfl) (by conv => lhs; whnf)) rfl rfl ?_
    refine Dr_pu (Pu_move (.inl rfl) (by conv => lhs; whnf)) rfl rfl ?_
    refine Dr_pu (Pu_index rfl Try.underlying22 Try.sizeOf39 rfl rfl (rfl) (mapgetD (d := default) h15a)) rfl rfl ?_
    refine Dr_pu (Pu_field 4 rfl Try.underlying39 rfl rfl Try.sizeOf3 rfl) rfl rfl ?_
    refine Dr_pu (Pu_load1 rfl Try.isAgg3 rfl rfl) rfl rfl ?_
    refine Dr_pu (Pu_int_and (r := G.andI (l.getD k default).site 1) rfl rfl rfl rfl (fun _ => V.i64_ok _)) rfl rfl ?_
    refine Dr_pu (Pu_build (aa := [(0, _), (1, _)]) rfl Try.underlying30 Try.zeroValue30 (places30 Try.underlying30) (by kernel_rfl) ⟨rfl, rfl, rfl, rfl, rfl, rfl, trivial⟩ rfl) rfl rfl ?_
    refine Dr_pu (Pu_build (aa := [(0, _), (1, _), (2, _), (3, _)]) rfl Try.underlying33 Try.zeroValue33 (places33 Try.underlying33) (by kernel_rfl) ⟨rfl, rfl, rfl, rfl, rfl, rfl, rfl, rfl, rfl, rfl, rfl, rfl, trivial⟩ rfl) rfl rfl ?_
    refine Dr_nil ?_
    intro g6
    refine Al_storeN rfl rfl rfl (by kernel_rfl) Try.isAgg33 Try.sizeOf33 rfl rfl rfl rfl (Nat.le_of_ble_eq_true rfl) ?_
    refine Al_nil ?_
    -- join 1: live [0, 3, 4, 5, 6], turned []
    refine Aw_seq ?_
    refine Aw_seq ?_
    refine Aw_boxle (k := 6) ((G.mk0 (l.getD k default)).row.map .d) rfl ⟨Sub.rfl, Sub.rfl, Sub.rfl, Sub.rfl, Sub.rfl, Sub.nil, trivial⟩ ?_
    refine Aw_region ?_
    refine Al_pu (Pu_move (.inl rfl) (by conv => lhs; whnf)) rfl rfl (by decide) (by kernel_rfl) ?_
    refine Al_pu (Pu_move (.inl rfl) (by conv => lhs; whnf)) rfl rfl (by decide) (by kernel_rfl) ?_
    refine Al_pu (Pu_index rfl Try.underlying22 Try.sizeOf39 rfl rfl (rfl) (mapgetD (d := default) h15a)) rfl rfl (by decide) (by kernel_rfl) ?_
    refine Al_pu (Pu_field 0 rfl Try.underlying39 rfl rfl Try.sizeOf4 rfl) rfl rfl (by decide) (by kernel_rfl) ?_
    refine Al_pu (Pu_load1 rfl Try.isAgg4 rfl rfl) rfl rfl (by decide) (by kernel_rfl) ?_
    refine Al_nil ?_
    refine Aw_cond rfl (fun h50 => ?_) (fun h50 => ?_)
    · skip
      refine Aw_region ?_
      refine Al_pu (Pu_fieldb 0 rfl Try.underlying33 rfl rfl Try.sizeOf3 rfl) rfl rfl (by decide) (by kernel_rfl) ?_
      refine Al_store1 rfl rfl rfl (by kernel_rfl) Try.isAgg3 Try.sizeOf3 rfl rfl (Nat.le_of_ble_eq_true rfl) (by conv => lhs; whnf) rfl ?_
      refine Al_nil ?_
      -- join 2: live [0, 3, 4, 5, 6], turned []
      refine Aw_seq ?_
      refine Aw_seq ?_
      refine Aw_region ?_
      refine Al_pu (Pu_fieldb 3 rfl Try.underlying33 rfl rfl Try.sizeOf30 rfl) rfl rfl (by decide) (by kernel_rfl) ?_
      refine Al_pu (Pu_fieldb 0 rfl Try.underlying30 rfl rfl Try.sizeOf3 rfl) rfl rfl (by decide) (by kernel_rfl) ?_
      refine Al_pu (Pu_loadb rfl Try.isAgg3 rfl rfl rfl) rfl rfl (by decide) (by kernel_rfl) ?_
      refine Al_pu (Pu_cmp rfl rfl rfl rfl) rfl rfl (by decide) (by kernel_rfl) ?_
      refine Al_nil ?_
      refine Aw_cond rfl (fun h55 => ?_) (fun h55 => ?_)
      · skip
        have hz : G.andI (l.getD k default).n 7 = 0 := of_decide_eq_true h55
        refine Aw_region ?_
        refine Al_pu (Pu_fieldb 3 rfl Try.underlying33 rfl rfl Try.sizeOf30 rfl) rfl rfl (by decide) (by kernel_rfl) ?_
        refine Al_pu (Pu_fieldb 1 rfl Try.underlying30 rfl rfl Try.sizeOf3 rfl) rfl rfl (by decide) (by kernel_rfl) ?_
        refine Al_store1 rfl rfl rfl (by kernel_rfl) Try.isAgg3 Try.sizeOf3 rfl rfl (Nat.le_of_ble_eq_true rfl) (by conv => lhs; whnf) rfl ?_
        refine Al_nil ?_
        refine Aw_region ?_
        refine Al_pu (Pu_move (.inl rfl) (by conv => lhs; whnf)) rfl rfl (by decide) (by kernel_rfl) ?_
        refine Al_pu (Pu_loadbN (r := [_, _, _, _, _, _]) rfl Try.isAgg33 Try.sizeOf33 rfl rfl rfl rfl) rfl rfl (by decide) (by kernel_rfl) ?_
        refine Al_pu (Pu_slice1 rfl Try.underlying24 Try.sizeOf33 Try.zeroValue33 rfl (by decide) (by decide) (by kernel_rfl) rfl rfl rfl) rfl rfl (by decide) (by kernel_rfl) ?_
        refine Al_append rfl rfl rfl (by decide) (by kernel_rfl) elem24 (by decide) Try.sizeOf33 rfl rfl rfl (by simp; omega) (by decide) (fun g61 => ?_)
        refine Al_pu (Pu_move (.inr rfl) (by conv => lhs; whnf)) rfl rfl (by decide) (by kernel_rfl) ?_
        refine Al_nil ?_
        refine Aw_region ?_
        refine Al_pu (Pu_move (.inl rfl) (by conv => lhs; whnf)) rfl rfl (by decide) (by kernel_rfl) ?_
        refine Al_pu (Pu_add rfl rfl rfl (fun h1 h2 => by simp only [A.inI, A.maxI] at *; omega)) rfl rfl (by decide) (by kernel_rfl) ?_
        refine Al_pu (Pu_move (.inr rfl) (by conv => lhs; whnf)) rfl rfl (by decide) (by kernel_rfl) ?_
        refine Al_nil ?_
        exact ⟨(k + 1, g61), ⟨by omega, by omega⟩, by simp only []; omega, Le.ov ⟨Sub.num (by omega), Sub.rfl, trivial⟩ ⟨Sub.rfl, Sub.rfl, trivial⟩ ⟨obeq (by
          rw [List.take_succ_eq_append_getElem h15a, List.map_append, List.map_append, ← hd]
          congr 1
          have h55' := hz
          have h50' := h50
          clear hz
          clear hd hkat hk4 hkn hk3 h50 h55
          generalize l.getD k default = a at *
          simp [G.mk1, G.mk0, h50', h55', A.cellsA, Event.row]), trivial⟩ ⟨rfl, trivial⟩⟩ -- loop 0 next.0
      · skip
        have hz : ¬ G.andI (l.getD k default).n 7 = 0 := of_decide_eq_false h55
        refine Aw_skip ?_
        refine Aw_region ?_
        refine Al_pu (Pu_move (.inl rfl) (by conv => lhs; whnf)) rfl rfl (by decide) (by kernel_rfl) ?_
        refine Al_pu (Pu_loadbN (r := [_, _, _, _, _, _]) rfl Try.isAgg33 Try.sizeOf33 rfl rfl rfl rfl) rfl rfl (by decide) (by kernel_rfl) ?_
        refine Al_pu (Pu_slice1 rfl Try.underlying24 Try.sizeOf33 Try.zeroValue33 rfl (by decide) (by decide) (by kernel_rfl) rfl rfl rfl) rfl rfl (by decide) (by kernel_rfl) ?_
        refine Al_append rfl rfl rfl (by decide) (by kernel_rfl) elem24 (by decide) Try.sizeOf33 rfl rfl rfl (by simp; omega) (by decide) (fun g61 => ?_)
        refine Al_pu (Pu_move (.inr rfl) (by conv => lhs; whnf)) rfl rfl (by decide) (by kernel_rfl) ?_
        refine Al_nil ?_
        refine Aw_region ?_
        refine Al_pu (Pu_move (.inl rfl) (by conv => lhs; whnf)) rfl rfl (by decide) (by kernel_rfl) ?_
        refine Al_pu (Pu_add rfl rfl rfl (fun h1 h2 => by simp only [A.inI, A.maxI] at *; omega)) rfl rfl (by decide) (by kernel_rfl) ?_
        refine Al_pu (Pu_move (.inr rfl) (by conv => lhs; whnf)) rfl rfl (by decide) (by kernel_rfl) ?_
        refine Al_nil ?_
        exact ⟨(k + 1, g61), ⟨by omega, by omega⟩, by simp only []; omega, Le.ov ⟨Sub.num (by omega), Sub.rfl, trivial⟩ ⟨Sub.rfl, Sub.rfl, trivial⟩ ⟨obeq (by
          rw [List.take_succ_eq_append_getElem h15a, List.map_append, List.map_append, ← hd]
          congr 1
          have h55' := hz
          have h50' := h50
          clear hz
          clear hd hkat hk4 hkn hk3 h50 h55
          generalize l.getD k default = a at *
          simp [G.mk1, G.mk0, h50', h55', A.cellsA, Event.row]), trivial⟩ ⟨rfl, trivial⟩⟩ -- loop 0 next.1
    · skip
      refine Aw_skip ?_
      -- join 2: live [0, 3, 4, 5, 6], turned []
      refine Aw_seq ?_
      refine Aw_seq ?_
      refine Aw_region ?_
      refine Al_pu (Pu_fieldb 3 rfl Try.underlying33 rfl rfl Try.sizeOf30 rfl) rfl rfl (by decide) (by kernel_rfl) ?_
      refine Al_pu (Pu_fieldb 0 rfl Try.underlying30 rfl rfl Try.sizeOf3 rfl) rfl rfl (by decide) (by kernel_rfl) ?_
      refine Al_pu (Pu_loadb rfl Try.isAgg3 rfl rfl rfl) rfl rfl (by decide) (by kernel_rfl) ?_
      refine Al_pu (Pu_cmp rfl rfl rfl rfl) rfl rfl (by decide) (by kernel_rfl) ?_
      refine Al_nil ?_
      refine Aw_cond rfl (fun h55 => ?_) (fun h55 => ?_)
      · skip
        have hz : G.andI (l.getD k default).n 7 = 0 := of_decide_eq_true h55
        refine Aw_region ?_
        refine Al_pu (Pu_fieldb 3 rfl Try.underlying33 rfl rfl Try.sizeOf30 rfl) rfl rfl (by decide) (by kernel_rfl) ?_
        refine Al_pu (Pu_fieldb 1 rfl Try.underlying30 rfl rfl Try.sizeOf3 rfl) rfl rfl (by decide) (by kernel_rfl) ?_
        refine Al_store1 rfl rfl rfl (by kernel_rfl) Try.isAgg3 Try.sizeOf3 rfl rfl (Nat.le_of_ble_eq_true rfl) (by conv => lhs; whnf) rfl ?_
        refine Al_nil ?_
        refine Aw_region ?_
        refine Al_pu (Pu_move (.inl rfl) (by conv => lhs; whnf)) rfl rfl (by decide) (by kernel_rfl) ?_
        refine Al_pu (Pu_loadbN (r := [_, _, _, _, _, _]) rfl Try.isAgg33 Try.sizeOf33 rfl rfl rfl rfl) rfl rfl (by decide) (by kernel_rfl) ?_
        refine Al_pu (Pu_slice1 rfl Try.underlying24 Try.sizeOf33 Try.zeroValue33 rfl (by decide) (by decide) (by kernel_rfl) rfl rfl rfl) rfl rfl (by decide) (by kernel_rfl) ?_
        refine Al_append rfl rfl rfl (by decide) (by kernel_rfl) elem24 (by decide) Try.sizeOf33 rfl rfl rfl (by simp; omega) (by decide) (fun g61 => ?_)
        refine Al_pu (Pu_move (.inr rfl) (by conv => lhs; whnf)) rfl rfl (by decide) (by kernel_rfl) ?_
        refine Al_nil ?_
        refine Aw_region ?_
        refine Al_pu (Pu_move (.inl rfl) (by conv => lhs; whnf)) rfl rfl (by decide) (by kernel_rfl) ?_
        refine Al_pu (Pu_add rfl rfl rfl (fun h1 h2 => by simp only [A.inI, A.maxI] at *; omega)) rfl rfl (by decide) (by kernel_rfl) ?_
        refine Al_pu (Pu_move (.inr rfl) (by conv => lhs; whnf)) rfl rfl (by decide) (by kernel_rfl) ?_
        refine Al_nil ?_
        exact ⟨(k + 1, g61), ⟨by omega, by omega⟩, by simp only []; omega, Le.ov ⟨Sub.num (by omega), Sub.rfl, trivial⟩ ⟨Sub.rfl, Sub.rfl, trivial⟩ ⟨obeq (by
          rw [List.take_succ_eq_append_getElem h15a, List.map_append, List.map_append, ← hd]
          congr 1
          have h55' := hz
          have h50' := h50
          clear hz
          clear hd hkat hk4 hkn hk3 h50 h55
          generalize l.getD k default = a at *
          simp [G.mk1, G.mk0, h50', h55', A.cellsA, Event.row]), trivial⟩ ⟨rfl, trivial⟩⟩ -- loop 0 next.2
      · skip
        have hz : ¬ G.andI (l.getD k default).n 7 = 0 := of_decide_eq_false h55
        refine Aw_skip ?_
        refine Aw_region ?_
        refine Al_pu (Pu_move (.inl rfl) (by conv => lhs; whnf)) rfl rfl (by decide) (by kernel_rfl) ?_
        refine Al_pu (Pu_loadbN (r := [_, _, _, _, _, _]) rfl Try.isAgg33 Try.sizeOf33 rfl rfl rfl rfl) rfl rfl (by decide) (by kernel_rfl) ?_
        refine Al_pu (Pu_slice1 rfl Try.underlying24 Try.sizeOf33 Try.zeroValue33 rfl (by decide) (by decide) (by kernel_rfl) rfl rfl rfl) rfl rfl (by decide) (by kernel_rfl) ?_
        refine Al_append rfl rfl rfl (by decide) (by kernel_rfl) elem24 (by decide) Try.sizeOf33 rfl rfl rfl (by simp; omega) (by decide) (fun g61 => ?_)
        refine Al_pu (Pu_move (.inr rfl) (by conv => lhs; whnf)) rfl rfl (by decide) (by kernel_rfl) ?_
        refine Al_nil ?_
        refine Aw_region ?_
        refine Al_pu (Pu_move (.inl rfl) (by conv => lhs; whnf)) rfl rfl (by decide) (by kernel_rfl) ?_
        refine Al_pu (Pu_add rfl rfl rfl (fun h1 h2 => by simp only [A.inI, A.maxI] at *; omega)) rfl rfl (by decide) (by kernel_rfl) ?_
        refine Al_pu (Pu_move (.inr rfl) (by conv => lhs; whnf)) rfl rfl (by decide) (by kernel_rfl) ?_
        refine Al_nil ?_
        exact ⟨(k + 1, g61), ⟨by omega, by omega⟩, by simp only []; omega, Le.ov ⟨Sub.num (by omega), Sub.rfl, trivial⟩ ⟨Sub.rfl, Sub.rfl, trivial⟩ ⟨obeq (by
          rw [List.take_succ_eq_append_getElem h15a, List.map_append, List.map_append, ← hd]
          congr 1
          have h55' := hz
          have h50' := h50
          clear hz
          clear hd hkat hk4 hkn hk3 h50 h55
          generalize l.getD k default = a at *
          simp [G.mk1, G.mk0, h50', h55', A.cellsA, Event.row]), trivial⟩ ⟨rfl, trivial⟩⟩ -- loop 0 next.3
  · (try simp only [decide_eq_true_eq, decide_eq_false_iff_not, Bool.and_eq_true, Bool.or_eq_true, Bool.and_eq_false_iff, Bool.or_eq_false_iff, Bool.not_eq_true', Bool.not_eq_false', beq_iff_eq, Bool.not_eq_eq_eq_not, Bool.not_true, Bool.not_false, List.length_map, Bool.and_true, Bool.and_false, Bool.false_and, Bool.true_and, Bool.or_false, Bool.false_or] at h15)
    have hkk : l.take k = l.take 16 := by
      rcases Nat.lt_or_ge k 16 with h | h
      · rw [List.take_of_length_le (by omega), List.take_of_length_le (by omega)]
      · rw [show k = 16 from by omega]
    refine Aw_exit ?_
    refine Aw_seq ?_
    refine Aw_region ?_
    refine Al_pu (Pu_move (.inl rfl) (by conv => lhs; whnf)) rfl rfl (by decide) (by kernel_rfl) ?_
    refine Al_pu (Pu_move (.inr rfl) (by conv => lhs; whnf)) rfl rfl (by decide) (by kernel_rfl) ?_
    refine Al_nil ?_
    refine Aw_frz hnl (k := 4) [2] rfl ⟨rfl, trivial⟩ ?_
    refine Aw_ret ?_
    exact Sub.d (by rw [hkk]; rfl) -- ret 0
end Go.Proofs.Ytgoncpjgpkoacaa
