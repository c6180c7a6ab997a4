/- ScriptReads: the walk. -/
import Derived.Test.YtocgnmklgklfnaaSRq
import Derived.Test.YtocgnmklgklfnaaABy
set_option linter.unusedSimpArgs false
set_option linter.unusedVariables false
namespace Go.Proofs.Ytocgnmklgklfnaa.A
open Go Go.RowKit
section
variable {P : Program} {st : ASt} {o : Oper}
theorem Pu_int_and {t yt : TypeId} {x y : Operand} {k : IntKind} {a b r : Int} (ho : o.op = .binOp .and t x y yt) (hx : st.ev x = .d (.v (.int k a))) (hy : st.ev y = .d (.v (.int k b))) (hr : k.wrap (BitVec.ofInt k.bits a &&& BitVec.ofInt k.bits b).toNat = r) (hv : vok (.int k a) → vok (.int k r)) : Pu P st o (.d (.v (.int k r))) :=
  Pu_bin ho hx hy (fun h1 h2 w => by
    simp only [Sem.run_bind, guard_int, Result.andThen_ok, binOp]; simp only [Op.intBits, hr, ne_eq, not_true_eq_false, if_false, Sem.run_pure]) (fun h _ => hv h)
theorem Pu_int_xor {t yt : TypeId} {x y : Operand} {k : IntKind} {a b r : Int} (ho : o.op = .binOp .xor t x y yt) (hx : st.ev x = .d (.v (.int k a))) (hy : st.ev y = .d (.v (.int k b))) (hr : k.wrap (BitVec.ofInt k.bits a ^^^ BitVec.ofInt k.bits b).toNat = r) (hv : vok (.int k a) → vok (.int k r)) : Pu P st o (.d (.v (.int k r))) :=
  Pu_bin ho hx hy (fun h1 h2 w => by
    simp only [Sem.run_bind, guard_int, Result.andThen_ok, binOp]; simp only [Op.intBits, hr, ne_eq, not_true_eq_false, if_false, Sem.run_pure]) (fun h _ => hv h)
theorem Pu_convW {f t : TypeId} {x : Operand} {k k' k2 : IntKind} {a r : Int} (ho : o.op = .convert f t x) (hf : P.underlying f = some (.int k2)) (ht : P.underlying t = some (.int k')) (hx : st.ev x = .d (.v (.int k a))) (hw : k'.wrap a = r) (hv : vok (.int k' r)) : Pu P st o (.d (.v (.int k' r))) := Pu_q fun B M ρ w a2 h2 _ => by
  obtain ⟨e1, k1⟩ := ev_v h2 (x := x) (by simp [opsOf, ho, Op.operands]) hx
  refine ⟨.int k' r, ?_, .v _ hv⟩
  simp only [execOp, ho, e1, convert, Sem.run_bind, run_underlying hf, run_underlying ht, Result.andThen_ok, Conv.intToInt, hw, Sem.run_pure]
end
end Go.Proofs.Ytocgnmklgklfnaa.A
namespace Go.Proofs.Ytocgnmklgklfnaa
open Go.RowKit A R
namespace V
def u8of (z : Int) : UInt8 := UInt8.ofNat (z % 256).toNat
theorem u8of_eq (z : Int) : IntKind.u8.wrap z = ((u8of z).toNat : Int) := by
  have h : (u8of z).toNat = (z % 256).toNat := by unfold u8of; simp; omega
  rw [h, IntKind.wrap_u8]; omega
theorem byte_ok (c : UInt8) : vok (.int .u8 (c.toNat : Int)) := by
  have := UInt8.toNat_lt c
  constructor <;> omega
theorem preadO_len (l : List UInt8) : (preadO l).length ≤ 4096 := by
  unfold preadO
  cases h : pread l with
  | none => exact Nat.zero_le _
  | some os =>
    show os.length ≤ 4096
    unfold pread at h
    split at h
    · cases h
    · rename_i h1
      split at h
      · cases h
      · rename_i h2
        split at h
        · simp only [Option.some.injEq] at h
          subst h
          have h3 := (pmany_inv (enc := S.one) (Q := fun _ => True) (fun r x t h => ⟨(pstep_inv h).1, trivial⟩) _ _ _ _ h2).2.1
          have h4 := ((pnum_iff (by omega)).1 h1).1
          omega
        · cases h
theorem cut_le (s : ByteArray) (k : Nat) (h : s.size ≤ 300000) : (s.extract 0 k).size ≤ 300000 := by
  rw [ByteArray.size_extract]; omega
theorem i64_ok (z : Int) : vok (.int .i64 (IntKind.i64.wrap z)) := by
  show A.inI _
  rw [IntKind.wrap_i64]
  simp only [A.inI]; omega
end V
theorem S.bytes_le {l : List SOp} (hl : l.length ≤ 10) (hf : ∀ o ∈ l, S.fits o) : (S.bytes l).length ≤ 300000 := by
  unfold S.bytes
  split
  · rename_i h
    have h1 := S.flat_le S.one 20000 l (fun o ho => S.one_le (List.all_eq_true.1 h o ho) (hf o ho).1)
    have h2 := V.num_len64 (n := l.length) (by omega)
    rw [List.length_append]; omega
  · simp
set_option maxRecDepth 100000 in
set_option maxHeartbeats 2000000 in
theorem sreads_law (hawake : ACall Try.prog 8 [] (bv true)) (l : List SOp) (s : ByteArray) (x y z : Int) : ACall Try.prog 4 [.sl 12 (l.map SOp.row), tv s, .row [iv x, iv y, iv z]] (bv true) := by
  refine ACall_enter (fun _ _ => by kernel_rfl) Try.func4 rfl Try.ntmps4 Try.results4 (Nat.le_of_ble_eq_true rfl) (fun hok M0 w0 hnl => ?_)
  have hlen := (hok _ (List.mem_cons_self ..)).len
  rw [List.length_map] at hlen
  have hx : A.inI x := ((hok (.row [iv x, iv y, iv z]) (by simp)).row (iv x) (by simp)).int
  have hy : A.inI y := ((hok (.row [iv x, iv y, iv z]) (by simp)).row (iv y) (by simp)).int
  refine Aw_seq ?_
  refine Aw_region ?_
  refine Al_boxN rfl rfl rfl (by decide) (by kernel_rfl) rfl (fun g5 => ?_)
  refine Al_pu (Pu_move (.inr rfl) (by conv => lhs; whnf)) rfl rfl (by decide) (by kernel_rfl) ?_
  refine Al_nil ?_
  refine Aw_seq ?_
  refine Aw_region ?_
  refine Al_pu (Pu_call (hawake) rfl trivial) rfl rfl (by decide) (by kernel_rfl) ?_
  refine Al_pu (Pu_move (.inr rfl) (by conv => lhs; whnf)) rfl rfl (by decide) (by kernel_rfl) ?_
  refine Al_nil ?_
  refine Aw_join (ι := ByteArray) [0, 5, 7] [5] (fun s1 => [(1, .d (tv s1))]) (fun s1 => []) (fun s1 => s1.size ≤ 100) ?_ ?_ -- join 0
  · refine Aw_seq ?_
    refine Aw_region ?_
    refine Al_pu (Pu_move (.inl rfl) (by conv => lhs; whnf)) rfl rfl (by decide) (by kernel_rfl) ?_
    refine Al_pu (Pu_lenS rfl Try.underlying9 rfl) rfl rfl (by decide) (by kernel_rfl) ?_
    refine Al_pu (Pu_cmp rfl rfl rfl rfl) rfl rfl (by decide) (by kernel_rfl) ?_
    refine Al_nil ?_
    refine Aw_cond rfl (fun h21 => ?_) (fun h21 => ?_)
    · (try simp only [decide_eq_true_eq, decide_eq_false_iff_not, Bool.and_eq_true, Bool.or_eq_true, Bool.and_eq_false_iff, Bool.or_eq_false_iff, Bool.not_eq_true', Bool.not_eq_false', beq_iff_eq, Bool.not_eq_eq_eq_not, Bool.not_true, Bool.not_false, List.length_map, Bool.and_true, Bool.and_false, Bool.false_and, Bool.true_and, Bool.or_false, Bool.false_or] at h21)
      refine Aw_region ?_
      refine Al_pu (Pu_move (.inl rfl) (by conv => lhs; whnf)) rfl rfl (by decide) (by kernel_rfl) ?_
      refine Al_pu (Pu_subS (0) (100) rfl Try.underlying9 rfl rfl ⟨_, rfl, by omega⟩ ⟨by omega, by omega⟩) rfl rfl (by decide) (by kernel_rfl) ?_
      refine Al_pu (Pu_move (.inr rfl) (by conv => lhs; whnf)) rfl rfl (by decide) (by kernel_rfl) ?_
      refine Al_nil ?_
      exact ⟨(s.extract 0 100), by simp [ByteArray.size_extract]; omega, Le.ov ⟨Sub.rfl, trivial⟩ ⟨Sub.rfl, Sub.rfl, Sub.rfl, trivial⟩ trivial ⟨rfl, trivial⟩⟩ -- join 0 next.0
    · (try simp only [decide_eq_true_eq, decide_eq_false_iff_not, Bool.and_eq_true, Bool.or_eq_true, Bool.and_eq_false_iff, Bool.or_eq_false_iff, Bool.not_eq_true', Bool.not_eq_false', beq_iff_eq, Bool.not_eq_eq_eq_not, Bool.not_true, Bool.not_false, List.length_map, Bool.and_true, Bool.and_false, Bool.false_and, Bool.true_and, Bool.or_false, Bool.false_or] at h21)
      refine Aw_skip ?_
      exact ⟨s, by omega, Le.ov ⟨Sub.rfl, trivial⟩ ⟨Sub.rfl, Sub.rfl, Sub.rfl, trivial⟩ trivial ⟨rfl, trivial⟩⟩ -- join 0 next.1
  · rintro s1 hs1
    refine Aw_join (ι := ByteArray) [7] [] (fun s2 => [(1, .d (tv s2))]) (fun s2 => []) (fun s2 => s2.size ≤ 300000) ?_ ?_ -- join 1
    · refine Aw_seq ?_
      refine Aw_region ?_
      refine Al_pu (Pu_indexArr (j := 0) rfl Try.underlying35 Try.sizeOf3 rfl rfl rfl (by decide)) rfl rfl (by decide) (by kernel_rfl) ?_
      refine Al_pu (Pu_loadb rfl Try.isAgg3 rfl rfl rfl) rfl rfl (by decide) (by kernel_rfl) ?_
      refine Al_pu (Pu_int_and rfl rfl rfl rfl (fun _ => V.i64_ok _)) rfl rfl (by decide) (by kernel_rfl) ?_
      refine Al_pu (Pu_cmp rfl rfl rfl rfl) rfl rfl (by decide) (by kernel_rfl) ?_
      refine Al_nil ?_
      refine Aw_cond rfl (fun h27 => ?_) (fun h27 => ?_)
      · skip
        refine Aw_seq ?_
        refine Aw_region ?_
        refine Al_pu (Pu_move (.inr rfl) (by conv => lhs; whnf)) rfl rfl (by decide) (by kernel_rfl) ?_
        refine Al_nil ?_
        refine Aw_seq ?_
        refine Aw_seq ?_
        refine Aw_region ?_
        refine Al_pu (Pu_move (.inr rfl) (by conv => lhs; whnf)) rfl rfl (by decide) (by kernel_rfl) ?_
        refine Al_nil ?_
        refine Aw_block ?_
        refine Aw_own (j := 8) (k := 8) (T := 30) (n := 12) rfl (fun g0 => ?_)
        refine Aw_loopk (ι := Nat × Nat) [0, 1, 5, 7] [5] (fun (i, g) => [(9, .d (iv i)), (8, .ow 8 g)]) (fun (i, g) => [(8, g, .arr 30 12 (((l.take i).map S.few).map SOp.row))]) (fun (i, g) => i ≤ l.length ∧ i ≤ 4) (fun (i, g) => l.length - i) ((0, g0)) (⟨Nat.zero_le _, by omega⟩) ⟨Sub.rfl, Sub.rfl, trivial⟩ ⟨rfl, trivial⟩ ?_
        rintro ⟨i, g⟩ ⟨hk0, hi4⟩
        refine Aw_seq ?_
        refine Aw_seq ?_
        refine Aw_region ?_
        refine Al_pu (Pu_move (.inl rfl) (by conv => lhs; whnf)) rfl rfl (by decide) (by kernel_rfl) ?_
        refine Al_pu (Pu_move (.inl rfl) (by conv => lhs; whnf)) rfl rfl (by decide) (by kernel_rfl) ?_
        refine Al_pu (Pu_len rfl Try.underlying22 rfl (by first | exact List.length_map .. | exact rfl)) rfl rfl (by decide) (by kernel_rfl) ?_
        refine Al_pu (Pu_cmp rfl rfl rfl rfl) rfl rfl (by decide) (by kernel_rfl) ?_
        refine Al_pu (Pu_move (.inl rfl) (by conv => lhs; whnf)) rfl rfl (by decide) (by kernel_rfl) ?_
        refine Al_st (St_gd [] rfl rfl rfl rfl trivial (fun hg33 => by exact Pu_move (.inl rfl) (by conv => lhs; whnf))) rfl (by decide) (by kernel_rfl) (by intro j b oj dj h1 h2 h3; cases h1; cases h2; cases h3; decide) ?_
        refine Al_st (St_gd [33] rfl rfl rfl rfl ⟨⟨_, rfl⟩, trivial⟩ (fun hg34 => Pu_cmp rfl rfl rfl rfl)) rfl (by decide) (by kernel_rfl) (by intro j b oj dj h1 h2 h3; cases h1; cases h2; cases h3; decide) ?_
        refine Al_pu (Pu_and rfl rfl rfl rfl) rfl rfl (by decide) (by kernel_rfl) ?_
        refine Al_nil ?_
        refine Aw_cond rfl (fun h35 => ?_) (fun h35 => ?_)
        · (try simp only [decide_eq_true_eq, decide_eq_false_iff_not, Bool.and_eq_true, Bool.or_eq_true, Bool.and_eq_false_iff, Bool.or_eq_false_iff, Bool.not_eq_true', Bool.not_eq_false', beq_iff_eq, Bool.not_eq_eq_eq_not, Bool.not_true, Bool.not_false, List.length_map, Bool.and_true, Bool.and_false, Bool.false_and, Bool.true_and, Bool.or_false, Bool.false_or] at h35)
          obtain ⟨h1, h2⟩ := h35
          have hi : i < l.length := by omega
          refine Aw_skip ?_
          refine Aw_seq ?_
          refine Aw_block ?_
          refine Aw_region ?_
          refine Al_pu (Pu_move (.inl rfl) (by conv => lhs; whnf)) rfl rfl (by decide) (by kernel_rfl) ?_
          refine Al_pu (Pu_move (.inl rfl) (by conv => lhs; whnf)) rfl rfl (by decide) (by kernel_rfl) ?_
          refine Al_pu (Pu_move (.inl rfl) (by conv => lhs; whnf)) rfl rfl (by decide) (by kernel_rfl) ?_
          refine Al_pu (Pu_index rfl Try.underlying22 Try.sizeOf30 rfl rfl (rfl) (mapget hi)) rfl rfl (by decide) (by kernel_rfl) ?_
          refine Al_pu (Pu_loadN rfl Try.isAgg30 Try.sizeOf30 rfl (Nat.le_of_ble_eq_true rfl)) rfl rfl (by decide) (by kernel_rfl) ?_
          refine Al_pu (Pu_call (sfew_a l[i]) rfl ⟨Sub.rfl, trivial⟩) rfl rfl (by decide) (by kernel_rfl) ?_
          refine Al_pu (Pu_slice1 rfl Try.underlying22 Try.sizeOf30 Try.zeroValue30 rfl (by decide) (by decide) (by kernel_rfl) rfl rfl rfl) rfl rfl (by decide) (by kernel_rfl) ?_
          refine Al_append rfl rfl rfl (by decide) (by kernel_rfl) elem22 (by decide) Try.sizeOf30 rfl rfl rfl (by simp; omega) (by decide) (fun g45 => ?_)
          refine Al_pu (Pu_move (.inr rfl) (by conv => lhs; whnf)) rfl rfl (by decide) (by kernel_rfl) ?_
          refine Al_nil ?_
          refine Aw_region ?_
          refine Al_pu (Pu_move (.inl rfl) (by conv => lhs; whnf)) rfl rfl (by decide) (by kernel_rfl) ?_
          refine Al_pu (Pu_add rfl rfl rfl (fun h1 h2 => by simp only [A.inI, A.maxI] at *; omega)) rfl rfl (by decide) (by kernel_rfl) ?_
          refine Al_pu (Pu_move (.inr rfl) (by conv => lhs; whnf)) rfl rfl (by decide) (by kernel_rfl) ?_
          refine Al_nil ?_
          exact ⟨(i + 1, g45), ⟨by omega, by omega⟩, by simp only []; omega, Le.ov ⟨Sub.num (by omega), Sub.rfl, trivial⟩ ⟨Sub.rfl, Sub.rfl, Sub.rfl, Sub.rfl, trivial⟩ ⟨obeq (by rw [List.take_succ_eq_append_getElem hi]; simp only [List.map_append, List.map_cons, List.map_nil]; rfl), trivial⟩ ⟨rfl, trivial⟩⟩ -- loop 0 next.0
        · (try simp only [decide_eq_true_eq, decide_eq_false_iff_not, Bool.and_eq_true, Bool.or_eq_true, Bool.and_eq_false_iff, Bool.or_eq_false_iff, Bool.not_eq_true', Bool.not_eq_false', beq_iff_eq, Bool.not_eq_eq_eq_not, Bool.not_true, Bool.not_false, List.length_map, Bool.and_true, Bool.and_false, Bool.false_and, Bool.true_and, Bool.or_false, Bool.false_or] at h35)
          have hlt : ((l.take i).map S.few).length ≤ 4 := by rw [List.length_map, List.length_take]; omega
          have hmf : ∀ o ∈ (l.take i).map S.few, S.fits o := fun o ho => by
            obtain ⟨x, _, rfl⟩ := List.mem_map.1 ho
            exact S.few_fits x
          have hbl := S.bytes_le (l := (l.take i).map S.few) (by omega) hmf
          refine Aw_exit ?_
          refine Aw_seq ?_
          refine Aw_frz hnl (k := 8) [8] rfl ⟨rfl, trivial⟩ ?_
          refine Aw_region ?_
          refine Al_pu (Pu_move (.inl rfl) (by conv => lhs; whnf)) rfl rfl (by decide) (by kernel_rfl) ?_
          refine Al_pu (Pu_call (srbytes_a ((l.take i).map S.few) (by omega) hmf) rfl ⟨Sub.rfl, trivial⟩) rfl rfl (by decide) (by kernel_rfl) ?_
          refine Al_convSB rfl rfl rfl (by decide) (by kernel_rfl) Try.underlying9 Try.underlying36 Try.underlying5 rfl fun g48 b48 => ?_
          refine Al_pu (Pu_move (.inr rfl) (by conv => lhs; whnf)) rfl rfl (by decide) (by kernel_rfl) ?_
          refine Al_nil ?_
          refine Aw_seq ?_
          refine Aw_region ?_
          refine Al_pu (Pu_move (.inl rfl) (by conv => lhs; whnf)) rfl rfl (by decide) (by kernel_rfl) ?_
          refine Al_pu (Pu_lenB (m := (S.bytes ((l.take i).map S.few)).length) rfl Try.underlying36 rfl rfl (by rw [V.data_ba])) rfl rfl (by decide) (by kernel_rfl) ?_
          refine Al_pu (Pu_cmp rfl rfl rfl rfl) rfl rfl (by decide) (by kernel_rfl) ?_
          refine Al_nil ?_
          refine Aw_cond rfl (fun h51 => ?_) (fun h51 => ?_)
          · (try simp only [decide_eq_true_eq, decide_eq_false_iff_not, Bool.and_eq_true, Bool.or_eq_true, Bool.and_eq_false_iff, Bool.or_eq_false_iff, Bool.not_eq_true', Bool.not_eq_false', beq_iff_eq, Bool.not_eq_eq_eq_not, Bool.not_true, Bool.not_false, List.length_map, Bool.and_true, Bool.and_false, Bool.false_and, Bool.true_and, Bool.or_false, Bool.false_or] at h51)
            have hpos : 0 < (S.bytes ((l.take i).map S.few)).length := by omega
            obtain ⟨q1, q2, k, q3, q4⟩ := V.rem_in hpos (by omega) hy
            have hat : (V.ba (S.bytes ((l.take i).map S.few))).data.toList[k * 1]? = some ((S.bytes ((l.take i).map S.few))[k]'q4) := by rw [V.data_ba, Nat.mul_one]; simp [q4]
            refine Aw_seq ?_
            refine Aw_region ?_
            refine Al_pu (Pu_indexArr (j := 1) rfl Try.underlying35 Try.sizeOf3 rfl rfl rfl (by decide)) rfl rfl (by decide) (by kernel_rfl) ?_
            refine Al_pu (Pu_loadb rfl Try.isAgg3 rfl rfl rfl) rfl rfl (by decide) (by kernel_rfl) ?_
            refine Al_pu (Pu_move (.inl rfl) (by conv => lhs; whnf)) rfl rfl (by decide) (by kernel_rfl) ?_
            refine Al_pu (Pu_lenB (m := (S.bytes ((l.take i).map S.few)).length) rfl Try.underlying36 rfl rfl (by rw [V.data_ba])) rfl rfl (by decide) (by kernel_rfl) ?_
            refine Al_pu (Pu_rem rfl rfl rfl (by omega) rfl) rfl rfl (by decide) (by kernel_rfl) ?_
            refine Al_pu (Pu_move (.inl rfl) (by conv => lhs; whnf)) rfl rfl (by decide) (by kernel_rfl) ?_
            refine Al_pu (Pu_lenB (m := (S.bytes ((l.take i).map S.few)).length) rfl Try.underlying36 rfl rfl (by rw [V.data_ba])) rfl rfl (by decide) (by kernel_rfl) ?_
            refine Al_pu (Pu_add rfl rfl rfl (fun h1 h2 => q2)) rfl rfl (by decide) (by kernel_rfl) ?_
            refine Al_pu (Pu_move (.inl rfl) (by conv => lhs; whnf)) rfl rfl (by decide) (by kernel_rfl) ?_
            refine Al_pu (Pu_lenB (m := (S.bytes ((l.take i).map S.few)).length) rfl Try.underlying36 rfl rfl (by rw [V.data_ba])) rfl rfl (by decide) (by kernel_rfl) ?_
            refine Al_pu (Pu_rem (c := (k : Int)) rfl rfl rfl (by omega) q3) rfl rfl (by decide) (by kernel_rfl) ?_
            refine Al_pu (Pu_move (.inr rfl) (by conv => lhs; whnf)) rfl rfl (by decide) (by kernel_rfl) ?_
            refine Al_nil ?_
            refine Aw_seq ?_
            refine Aw_draw 11 (by kernel_rfl) (by kernel_rfl) ?_
            refine Dr_pu (Pu_move (.inl rfl) (by conv => lhs; whnf)) rfl rfl ?_
            refine Dr_pu (Pu_move (.inl rfl) (by conv => lhs; whnf)) rfl rfl ?_
            refine Dr_pu (Pu_move (.inl rfl) (by conv => lhs; whnf)) rfl rfl ?_
            refine Dr_pu (Pu_move (.inl rfl) (by conv => lhs; whnf)) rfl rfl ?_
            refine Dr_pu (Pu_indexB (j := k) rfl Try.underlying36 Try.sizeOf5 rfl rfl rfl rfl (by rw [V.data_ba]; exact q4)) rfl rfl ?_
            refine Dr_pu (Pu_loadB rfl Try.isAgg5 rfl rfl hat) rfl rfl ?_
            refine Dr_pu (Pu_indexArr (j := 2) rfl Try.underlying35 Try.sizeOf3 rfl rfl rfl (by decide)) rfl rfl ?_
            refine Dr_pu (Pu_loadb rfl Try.isAgg3 rfl rfl rfl) rfl rfl ?_
            refine Dr_pu (Pu_convW rfl Try.underlying3 Try.underlying5 rfl (V.u8of_eq z) (V.byte_ok _)) rfl rfl ?_
            refine Dr_pu (Pu_int_xor rfl rfl rfl (V.u8of_eq _) (fun _ => V.byte_ok _)) rfl rfl ?_
            refine Dr_pu (Pu_indexB (j := k) rfl Try.underlying36 Try.sizeOf5 rfl rfl rfl rfl (by rw [V.data_ba]; exact q4)) rfl rfl ?_
            refine Dr_nil ?_
            refine Al_storeB _ rfl rfl rfl (by kernel_rfl) Try.sizeOf5 rfl rfl (by rw [V.data_ba]; omega) rfl ?_
            refine Al_nil ?_
            refine Aw_seq ?_
            refine Aw_region ?_
            refine Al_pu (Pu_move (.inl rfl) (by conv => lhs; whnf)) rfl rfl (by decide) (by kernel_rfl) ?_
            refine Al_pu (Pu_convB rfl Try.underlying36 Try.underlying5 Try.underlying9 rfl rfl) rfl rfl (by decide) (by kernel_rfl) ?_
            refine Al_pu (Pu_move (.inr rfl) (by conv => lhs; whnf)) rfl rfl (by decide) (by kernel_rfl) ?_
            refine Al_nil ?_
            refine Aw_seq ?_
            refine Aw_region ?_
            refine Al_pu (Pu_indexArr (j := 0) rfl Try.underlying35 Try.sizeOf3 rfl rfl rfl (by decide)) rfl rfl (by decide) (by kernel_rfl) ?_
            refine Al_pu (Pu_loadb rfl Try.isAgg3 rfl rfl rfl) rfl rfl (by decide) (by kernel_rfl) ?_
            refine Al_pu (Pu_int_and rfl rfl rfl rfl (fun _ => V.i64_ok _)) rfl rfl (by decide) (by kernel_rfl) ?_
            refine Al_pu (Pu_cmp rfl rfl rfl rfl) rfl rfl (by decide) (by kernel_rfl) ?_
            refine Al_nil ?_
            refine Aw_cond rfl (fun h79 => ?_) (fun h79 => ?_)
            · skip
              have hsz1 : (V.ba ((V.ba (S.bytes ((l.take i).map S.few))).data.toList.set (k * 1) (V.u8of (((BitVec.ofInt IntKind.u8.bits (((S.bytes ((l.take i).map S.few))[k]'q4).toNat : Int) ^^^ BitVec.ofInt IntKind.u8.bits ((V.u8of z).toNat : Int)).toNat : Nat) : Int)))).size ≤ 300000 := by
                rw [A.ba_sz, List.length_set, V.data_ba]; exact hbl
              refine Aw_region ?_
              refine Al_pu (Pu_move (.inl rfl) (by conv => lhs; whnf)) rfl rfl (by decide) (by kernel_rfl) ?_
              refine Al_pu (Pu_move (.inl rfl) (by conv => lhs; whnf)) rfl rfl (by decide) (by kernel_rfl) ?_
              refine Al_pu (Pu_subS (0) (k) rfl Try.underlying9 rfl rfl ⟨_, rfl, by omega⟩ ⟨by first | omega | (rw [A.ba_sz, List.length_set, V.data_ba]; omega), by first | omega | (rw [A.ba_sz, List.length_set, V.data_ba]; omega)⟩) rfl rfl (by decide) (by kernel_rfl) ?_
              refine Al_pu (Pu_move (.inr rfl) (by conv => lhs; whnf)) rfl rfl (by decide) (by kernel_rfl) ?_
              refine Al_nil ?_
              exact ⟨_, V.cut_le _ _ hsz1, Le.ov ⟨Sub.rfl, trivial⟩ ⟨Sub.rfl, trivial⟩ trivial trivial⟩ -- join 1 next.0
            · skip
              have hsz1 : (V.ba ((V.ba (S.bytes ((l.take i).map S.few))).data.toList.set (k * 1) (V.u8of (((BitVec.ofInt IntKind.u8.bits (((S.bytes ((l.take i).map S.few))[k]'q4).toNat : Int) ^^^ BitVec.ofInt IntKind.u8.bits ((V.u8of z).toNat : Int)).toNat : Nat) : Int)))).size ≤ 300000 := by
                rw [A.ba_sz, List.length_set, V.data_ba]; exact hbl
              refine Aw_skip ?_
              exact ⟨_, hsz1, Le.ov ⟨Sub.rfl, trivial⟩ ⟨Sub.rfl, trivial⟩ trivial trivial⟩ -- join 1 next.1
          · (try simp only [decide_eq_true_eq, decide_eq_false_iff_not, Bool.and_eq_true, Bool.or_eq_true, Bool.and_eq_false_iff, Bool.or_eq_false_iff, Bool.not_eq_true', Bool.not_eq_false', beq_iff_eq, Bool.not_eq_eq_eq_not, Bool.not_true, Bool.not_false, List.length_map, Bool.and_true, Bool.and_false, Bool.false_and, Bool.true_and, Bool.or_false, Bool.false_or] at h51)
            refine Aw_skip ?_
            exact ⟨s1, by omega, Le.ov ⟨Sub.rfl, trivial⟩ ⟨Sub.rfl, trivial⟩ trivial trivial⟩ -- join 1 next.2
      · skip
        skip
        refine Aw_skip ?_
        exact ⟨s1, by omega, Le.ov ⟨Sub.rfl, trivial⟩ ⟨Sub.rfl, trivial⟩ trivial trivial⟩ -- join 1 next.3
    · rintro s2 hs2
      refine Aw_seq ?_
      have hrd1 := sread_a s2 (by omega)
      have hrd2 := rreadall_a s2 (by omega)
      have hpf := V.preadO_fits s2.data.toList
      have hpl := V.preadO_len s2.data.toList
      rw [V.readA_eq] at hrd1 hrd2
      refine Aw_region ?_
      refine Al_pu (Pu_move (.inl rfl) (by conv => lhs; whnf)) rfl rfl (by decide) (by kernel_rfl) ?_
      refine Al_pu (Pu_call (hrd1) rfl ⟨Sub.rfl, trivial⟩) rfl rfl (by decide) (by kernel_rfl) ?_
      refine Al_pu (Pu_move (.inl rfl) (by conv => lhs; whnf)) rfl rfl (by decide) (by kernel_rfl) ?_
      refine Al_pu (Pu_extract rfl rfl rfl) rfl rfl (by decide) (by kernel_rfl) ?_
      refine Al_pu (Pu_extract rfl rfl rfl) rfl rfl (by decide) (by kernel_rfl) ?_
      refine Al_pu (Pu_move (.inr rfl) (by conv => lhs; whnf)) rfl rfl (by decide) (by kernel_rfl) ?_
      refine Al_pu (Pu_move (.inr rfl) (by conv => lhs; whnf)) rfl rfl (by decide) (by kernel_rfl) ?_
      refine Al_nil ?_
      refine Aw_seq ?_
      refine Aw_region ?_
      refine Al_pu (Pu_move (.inl rfl) (by conv => lhs; whnf)) rfl rfl (by decide) (by kernel_rfl) ?_
      refine Al_pu (Pu_call (hrd2) rfl ⟨Sub.rfl, trivial⟩) rfl rfl (by decide) (by kernel_rfl) ?_
      refine Al_pu (Pu_move (.inl rfl) (by conv => lhs; whnf)) rfl rfl (by decide) (by kernel_rfl) ?_
      refine Al_pu (Pu_extract rfl rfl rfl) rfl rfl (by decide) (by kernel_rfl) ?_
      refine Al_pu (Pu_extract rfl rfl rfl) rfl rfl (by decide) (by kernel_rfl) ?_
      refine Al_pu (Pu_move (.inr rfl) (by conv => lhs; whnf)) rfl rfl (by decide) (by kernel_rfl) ?_
      refine Al_pu (Pu_move (.inr rfl) (by conv => lhs; whnf)) rfl rfl (by decide) (by kernel_rfl) ?_
      refine Al_nil ?_
      refine Aw_seq ?_
      refine Aw_seq ?_
      refine Aw_region ?_
      refine Al_pu (Pu_move (.inl rfl) (by conv => lhs; whnf)) rfl rfl (by decide) (by kernel_rfl) ?_
      refine Al_pu (Pu_move (.inl rfl) (by conv => lhs; whnf)) rfl rfl (by decide) (by kernel_rfl) ?_
      refine Al_pu (Pu_bool rfl Try.underlying4 rfl rfl rfl) rfl rfl (by decide) (by kernel_rfl) ?_
      refine Al_pu (Pu_move (.inl rfl) (by conv => lhs; whnf)) rfl rfl (by decide) (by kernel_rfl) ?_
      refine Al_st (St_gd [] rfl rfl rfl rfl trivial (fun hg97 => by exact Pu_move (.inl rfl) (by conv => lhs; whnf))) rfl (by decide) (by kernel_rfl) (by intro j b oj dj h1 h2 h3; cases h1; cases h2; cases h3; decide) ?_
      refine Al_st (St_gd [97] rfl rfl rfl rfl ⟨⟨_, rfl⟩, trivial⟩ (fun hg98 => by exact Pu_len rfl Try.underlying22 rfl (by first | exact List.length_map .. | exact rfl))) rfl (by decide) (by kernel_rfl) (by intro j b oj dj h1 h2 h3; cases h1; cases h2; cases h3; decide) ?_
      refine Al_st (St_gd [] rfl rfl rfl rfl trivial (fun hg99 => by exact Pu_move (.inl rfl) (by conv => lhs; whnf))) rfl (by decide) (by kernel_rfl) (by intro j b oj dj h1 h2 h3; cases h1; cases h2; cases h3; decide) ?_
      refine Al_st (St_gd [99] rfl rfl rfl rfl ⟨⟨_, rfl⟩, trivial⟩ (fun hg100 => by exact Pu_len rfl Try.underlying22 rfl (by first | exact List.length_map .. | exact rfl))) rfl (by decide) (by kernel_rfl) (by intro j b oj dj h1 h2 h3; cases h1; cases h2; cases h3; decide) ?_
      refine Al_st (St_gd [98, 100] rfl rfl rfl rfl ⟨⟨_, rfl⟩, ⟨_, rfl⟩, trivial⟩ (fun hg101 => Pu_cmp rfl rfl rfl rfl)) rfl (by decide) (by kernel_rfl) (by intro j b oj dj h1 h2 h3; cases h1; cases h2; cases h3; decide) ?_
      refine Al_pu (Pu_or rfl rfl rfl rfl) rfl rfl (by decide) (by kernel_rfl) ?_
      refine Al_nil ?_
      refine Aw_cond rfl (fun h102 => ?_) (fun h102 => ?_)
      · (try simp only [decide_eq_true_eq, decide_eq_false_iff_not, Bool.and_eq_true, Bool.or_eq_true, Bool.and_eq_false_iff, Bool.or_eq_false_iff, Bool.not_eq_true', Bool.not_eq_false', beq_iff_eq, Bool.not_eq_eq_eq_not, Bool.not_true, Bool.not_false, List.length_map, Bool.and_true, Bool.and_false, Bool.false_and, Bool.true_and, Bool.or_false, Bool.false_or] at h102)
        exfalso; simp at h102
      · (try simp only [decide_eq_true_eq, decide_eq_false_iff_not, Bool.and_eq_true, Bool.or_eq_true, Bool.and_eq_false_iff, Bool.or_eq_false_iff, Bool.not_eq_true', Bool.not_eq_false', beq_iff_eq, Bool.not_eq_eq_eq_not, Bool.not_true, Bool.not_false, List.length_map, Bool.and_true, Bool.and_false, Bool.false_and, Bool.true_and, Bool.or_false, Bool.false_or] at h102)
        refine Aw_skip ?_
        refine Aw_seq ?_
        refine Aw_seq ?_
        refine Aw_region ?_
        refine Al_pu (Pu_move (.inr rfl) (by conv => lhs; whnf)) rfl rfl (by decide) (by kernel_rfl) ?_
        refine Al_nil ?_
        refine Aw_block ?_
        refine Aw_loopk (ι := Nat) [7, 12, 14] [] (fun j => [(16, .d (iv j))]) (fun j => []) (fun j => j ≤ (V.preadO s2.data.toList).length) (fun j => (V.preadO s2.data.toList).length - j) (0) (Nat.zero_le _) ⟨Sub.rfl, trivial⟩ trivial ?_
        rintro j hk1
        refine Aw_seq ?_
        refine Aw_seq ?_
        refine Aw_region ?_
        refine Al_pu (Pu_move (.inl rfl) (by conv => lhs; whnf)) rfl rfl (by decide) (by kernel_rfl) ?_
        refine Al_pu (Pu_move (.inl rfl) (by conv => lhs; whnf)) rfl rfl (by decide) (by kernel_rfl) ?_
        refine Al_pu (Pu_len rfl Try.underlying22 rfl (by first | exact List.length_map .. | exact rfl)) rfl rfl (by decide) (by kernel_rfl) ?_
        refine Al_pu (Pu_cmp rfl rfl rfl rfl) rfl rfl (by decide) (by kernel_rfl) ?_
        refine Al_nil ?_
        refine Aw_cond rfl (fun h106 => ?_) (fun h106 => ?_)
        · (try simp only [decide_eq_true_eq, decide_eq_false_iff_not, Bool.and_eq_true, Bool.or_eq_true, Bool.and_eq_false_iff, Bool.or_eq_false_iff, Bool.not_eq_true', Bool.not_eq_false', beq_iff_eq, Bool.not_eq_eq_eq_not, Bool.not_true, Bool.not_false, List.length_map, Bool.and_true, Bool.and_false, Bool.false_and, Bool.true_and, Bool.or_false, Bool.false_or] at h106)
          have hj : j < (V.preadO s2.data.toList).length := by omega
          have hm := hpf _ (List.getElem_mem hj)
          refine Aw_skip ?_
          refine Aw_seq ?_
          refine Aw_block ?_
          refine Aw_seq ?_
          refine Aw_draw 9 (by kernel_rfl) (by kernel_rfl) ?_
          refine Dr_pu (Pu_move (.inl rfl) (by conv => lhs; whnf)) rfl rfl ?_
          refine Dr_pu (Pu_move (.inl rfl) (by conv => lhs; whnf)) rfl rfl ?_
          refine Dr_pu (Pu_index rfl Try.underlying22 Try.sizeOf30 rfl rfl (rfl) (mapget hj)) rfl rfl ?_
          refine Dr_pu (Pu_loadN rfl Try.isAgg30 Try.sizeOf30 rfl (Nat.le_of_ble_eq_true rfl)) rfl rfl ?_
          refine Dr_pu (Pu_move (.inl rfl) (by conv => lhs; whnf)) rfl rfl ?_
          refine Dr_pu (Pu_move (.inl rfl) (by conv => lhs; whnf)) rfl rfl ?_
          refine Dr_pu (Pu_index rfl Try.underlying22 Try.sizeOf30 rfl rfl (rfl) (mapget hj)) rfl rfl ?_
          refine Dr_pu (Pu_loadN rfl Try.isAgg30 Try.sizeOf30 rfl (Nat.le_of_ble_eq_true rfl)) rfl rfl ?_
          refine Dr_pu (Pu_call (sameop_a (V.preadO s2.data.toList)[j] hm.1 hm.2) rfl ⟨Sub.rfl, Sub.rfl, trivial⟩) rfl rfl ?_
          refine Dr_nil ?_
          refine Al_pu (Pu_move (.inr rfl) (by conv => lhs; whnf)) rfl rfl (by decide) (by kernel_rfl) ?_
          refine Al_nil ?_
          refine Aw_seq ?_
          refine Aw_region ?_
          refine Al_pu (Pu_move (.inl rfl) (by conv => lhs; whnf)) rfl rfl (by decide) (by kernel_rfl) ?_
          refine Al_pu (Pu_not rfl rfl) rfl rfl (by decide) (by kernel_rfl) ?_
          refine Al_nil ?_
          refine Aw_cond rfl (fun h119 => ?_) (fun h119 => ?_)
          · (try simp only [decide_eq_true_eq, decide_eq_false_iff_not, Bool.and_eq_true, Bool.or_eq_true, Bool.and_eq_false_iff, Bool.or_eq_false_iff, Bool.not_eq_true', Bool.not_eq_false', beq_iff_eq, Bool.not_eq_eq_eq_not, Bool.not_true, Bool.not_false, List.length_map, Bool.and_true, Bool.and_false, Bool.false_and, Bool.true_and, Bool.or_false, Bool.false_or] at h119)
            exfalso; simp at h119
          · (try simp only [decide_eq_true_eq, decide_eq_false_iff_not, Bool.and_eq_true, Bool.or_eq_true, Bool.and_eq_false_iff, Bool.or_eq_false_iff, Bool.not_eq_true', Bool.not_eq_false', beq_iff_eq, Bool.not_eq_eq_eq_not, Bool.not_true, Bool.not_false, List.length_map, Bool.and_true, Bool.and_false, Bool.false_and, Bool.true_and, Bool.or_false, Bool.false_or] at h119)
            refine Aw_skip ?_
            refine Aw_region ?_
            refine Al_pu (Pu_move (.inl rfl) (by conv => lhs; whnf)) rfl rfl (by decide) (by kernel_rfl) ?_
            refine Al_pu (Pu_add rfl rfl rfl (fun h1 h2 => by simp only [A.inI, A.maxI] at *; omega)) rfl rfl (by decide) (by kernel_rfl) ?_
            refine Al_pu (Pu_move (.inr rfl) (by conv => lhs; whnf)) rfl rfl (by decide) (by kernel_rfl) ?_
            refine Al_nil ?_
            exact ⟨j + 1, by omega, by omega, Le.ov ⟨Sub.num (by omega), trivial⟩ ⟨Sub.rfl, Sub.rfl, Sub.rfl, trivial⟩ trivial trivial⟩ -- loop 1 next.0
        · (try simp only [decide_eq_true_eq, decide_eq_false_iff_not, Bool.and_eq_true, Bool.or_eq_true, Bool.and_eq_false_iff, Bool.or_eq_false_iff, Bool.not_eq_true', Bool.not_eq_false', beq_iff_eq, Bool.not_eq_eq_eq_not, Bool.not_true, Bool.not_false, List.length_map, Bool.and_true, Bool.and_false, Bool.false_and, Bool.true_and, Bool.or_false, Bool.false_or] at h106)
          refine Aw_exit ?_
          refine Aw_seq ?_
          refine Aw_region ?_
          refine Al_pu (Pu_move (.inl rfl) (by conv => lhs; whnf)) rfl rfl (by decide) (by kernel_rfl) ?_
          refine Al_pu (Pu_move (.inr rfl) (by conv => lhs; whnf)) rfl rfl (by decide) (by kernel_rfl) ?_
          refine Al_nil ?_
          refine Aw_ret ?_
          exact Sub.rfl -- ret 0
end Go.Proofs.Ytocgnmklgklfnaa
