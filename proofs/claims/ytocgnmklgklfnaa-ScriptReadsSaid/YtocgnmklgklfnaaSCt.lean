/- ScriptCut and ScriptBack: the walks. -/
import Derived.Test.YtocgnmklgklfnaaSLw
import Derived.Test.YtocgnmklgklfnaaAU
set_option linter.unusedSimpArgs false
set_option linter.unusedVariables false
namespace Go.Proofs.Ytocgnmklgklfnaa
open Go.RowKit A R
theorem V.readA_bytes {l : List SOp} (hc : ∀ o ∈ l, S.check o = true) (hl : l.length ≤ 4096) : V.readA (S.bytes l) = .tup [.sl 12 (l.map SOp.row), bv true] := by unfold V.readA; rw [V.pread_bytes hc hl]
theorem V.readA_none {l : List UInt8} (h : V.pread l = none) : V.readA l = .tup [.sl 12 [], bv false] := by unfold V.readA; rw [h]
theorem sread_ba {l : List UInt8} {r : AV} (hs : l.length ≤ 1000000) (h : V.readA l = r) : ACall Try.prog 14 [tv (V.ba l)] r := by
  have := sread_a (V.ba l) (by rw [A.ba_sz]; exact hs)
  rw [V.data_ba, h] at this
  exact this
theorem V.take_ba (l : List UInt8) (k : Nat) : (V.ba l).extract 0 k = V.ba (l.take k) := by
  apply ByteArray.ext
  apply Array.ext'
  rw [ByteArray.data_extract, Array.toList_extract]
  simp [List.extract, V.ba]
theorem V.rem_in {z : Int} {n : Nat} (hn : 0 < n) (hn2 : n ≤ 1000000) (hz : A.inI z) : A.inI (z.tmod n) ∧ A.inI (z.tmod n + n) ∧ ∃ k : Nat, (z.tmod n + n).tmod n = (k : Int) ∧ k < n := by
  have h1 := Int.tmod_lt_of_pos z (show (0 : Int) < n by omega)
  have h2 : -(n : Int) < z.tmod n := by
    have h3 := Int.lt_tmod_of_pos z (show (0 : Int) < n by omega)
    omega
  have h4 := Int.tmod_nonneg (a := z.tmod n + n) n (by omega)
  have h5 := Int.tmod_lt_of_pos (z.tmod n + n) (show (0 : Int) < n by omega)
  refine ⟨by simp only [A.inI]; omega, by simp only [A.inI]; omega, ((z.tmod n + n).tmod n).toNat, by omega, by omega⟩
set_option maxRecDepth 100000 in
theorem scut_law (hawake : ACall Try.prog 8 [] (bv true)) (l : List SOp) (z : Int) : ACall Try.prog 7 [.sl 12 (l.map SOp.row), iv z] (bv true) := by
  refine ACall_enter (fun _ _ => by kernel_rfl) Try.func7 rfl Try.ntmps7 Try.results7 (Nat.le_of_ble_eq_true rfl) (fun hok M0 w0 hnl => ?_)
  have hlen := (hok _ (List.mem_cons_self ..)).len
  rw [List.length_map] at hlen
  have hz : A.inI z := (hok (iv z) (by simp)).int
  refine Aw_seq ?_
  refine Aw_region ?_
  refine Al_pu (Pu_move (.inr rfl) (by conv => lhs; whnf)) rfl rfl (by decide) (by kernel_rfl) ?_
  refine Al_nil ?_
  refine Aw_seq ?_
  refine Aw_region ?_
  refine Al_pu (Pu_call (hawake) rfl trivial) rfl rfl (by decide) (by kernel_rfl) ?_
  refine Al_pu (Pu_move (.inr rfl) (by conv => lhs; whnf)) rfl rfl (by decide) (by kernel_rfl) ?_
  refine Al_nil ?_
  refine Aw_seq ?_
  refine Aw_region ?_
  refine Al_pu (Pu_move (.inr rfl) (by conv => lhs; whnf)) rfl rfl (by decide) (by kernel_rfl) ?_
  refine Al_nil ?_
  refine Aw_seq ?_
  refine Aw_seq ?_
  refine Aw_region ?_
  refine Al_pu (Pu_move (.inr rfl) (by conv => lhs; whnf)) rfl rfl (by decide) (by kernel_rfl) ?_
  refine Al_nil ?_
  refine Aw_block ?_
  refine Aw_own (j := 6) (k := 6) (T := 30) (n := 12) rfl (fun g0 => ?_)
  refine Aw_loopk (ι := Nat × Nat) [0, 1, 5] [] (fun (i, g) => [(7, .d (iv i)), (6, .ow 6 g)]) (fun (i, g) => [(6, g, .arr 30 12 ((S.pick (l.take i)).map SOp.row))]) (fun (i, g) => i ≤ l.length ∧ i ≤ 3) (fun (i, g) => l.length - i) ((0, g0)) (⟨Nat.zero_le _, by omega⟩) ⟨Sub.rfl, Sub.rfl, trivial⟩ ⟨rfl, trivial⟩ ?_
  rintro ⟨i, g⟩ ⟨hk0, hi3⟩
  refine Aw_seq ?_
  refine Aw_seq ?_
  refine Aw_region ?_
  refine Al_pu (Pu_move (.inl rfl) (by conv => lhs; whnf)) rfl rfl (by decide) (by kernel_rfl) ?_
  refine Al_pu (Pu_move (.inl rfl) (by conv => lhs; whnf)) rfl rfl (by decide) (by kernel_rfl) ?_
  refine Al_pu (Pu_len rfl Try.underlying22 rfl (by first | exact List.length_map .. | exact rfl)) rfl rfl (by decide) (by kernel_rfl) ?_
  refine Al_pu (Pu_cmp rfl rfl rfl rfl) rfl rfl (by decide) (by kernel_rfl) ?_
  refine Al_pu (Pu_move (.inl rfl) (by conv => lhs; whnf)) rfl rfl (by decide) (by kernel_rfl) ?_
  refine Al_st (St_gd [] rfl rfl rfl rfl trivial (fun hg21 => by exact Pu_move (.inl rfl) (by conv => lhs; whnf))) rfl (by decide) (by kernel_rfl) (by intro j b oj dj h1 h2 h3; cases h1; cases h2; cases h3; decide) ?_
  refine Al_st (St_gd [21] rfl rfl rfl rfl ⟨⟨_, rfl⟩, trivial⟩ (fun hg22 => Pu_cmp rfl rfl rfl rfl)) rfl (by decide) (by kernel_rfl) (by intro j b oj dj h1 h2 h3; cases h1; cases h2; cases h3; decide) ?_
  refine Al_pu (Pu_and rfl rfl rfl rfl) rfl rfl (by decide) (by kernel_rfl) ?_
  refine Al_nil ?_
  refine Aw_cond rfl (fun h23 => ?_) (fun h23 => ?_)
  · (try simp only [decide_eq_true_eq, decide_eq_false_iff_not, Bool.and_eq_true, Bool.or_eq_true, Bool.and_eq_false_iff, Bool.or_eq_false_iff, Bool.not_eq_true', Bool.not_eq_false', beq_iff_eq, Bool.not_eq_eq_eq_not, Bool.not_true, Bool.not_false, List.length_map, Bool.and_true, Bool.and_false, Bool.false_and, Bool.true_and, Bool.or_false, Bool.false_or] at h23)
    obtain ⟨h1, h2⟩ := h23
    have hi : i < l.length := by omega
    have hpl := S.pick_len (l.take i)
    rw [List.length_take] at hpl
    have hps := S.pick_snoc hi
    refine Aw_skip ?_
    -- join 0: live [0, 1, 5, 6, 7], turned [6]
    refine Aw_seq ?_
    refine Aw_block ?_
    refine Aw_seq ?_
    refine Aw_region ?_
    refine Al_pu (Pu_move (.inl rfl) (by conv => lhs; whnf)) rfl rfl (by decide) (by kernel_rfl) ?_
    refine Al_pu (Pu_move (.inl rfl) (by conv => lhs; whnf)) rfl rfl (by decide) (by kernel_rfl) ?_
    refine Al_pu (Pu_index rfl Try.underlying22 Try.sizeOf30 rfl rfl (rfl) (mapget hi)) rfl rfl (by decide) (by kernel_rfl) ?_
    refine Al_pu (Pu_loadN rfl Try.isAgg30 Try.sizeOf30 rfl (Nat.le_of_ble_eq_true rfl)) rfl rfl (by decide) (by kernel_rfl) ?_
    refine Al_pu (Pu_call (sfew_a l[i]) rfl ⟨Sub.rfl, trivial⟩) rfl rfl (by decide) (by kernel_rfl) ?_
    refine Al_alloc rfl rfl rfl (by decide) Try.zeroValue30 rfl (by kernel_rfl) (fun g8 => ?_)
    refine Al_storeN rfl rfl rfl (by kernel_rfl) Try.isAgg30 Try.sizeOf30 rfl rfl rfl rfl (Nat.le_of_ble_eq_true rfl) ?_
    refine Al_nil ?_
    refine Aw_seq ?_
    refine Aw_region ?_
    refine Al_pu (Pu_loadbN (r := [_, _, _, _, _, _, _, _, _, _, _, _]) rfl Try.isAgg30 Try.sizeOf30 rfl rfl rfl rfl) rfl rfl (by decide) (by kernel_rfl) ?_
    refine Al_pu (Pu_call (scheck_a (S.few l[i]) (S.few_fits _)) rfl ⟨Sub.rfl, trivial⟩) rfl rfl (by decide) (by kernel_rfl) ?_
    refine Al_nil ?_
    refine Aw_cond rfl (fun h32 => ?_) (fun h32 => ?_)
    · (try simp only [decide_eq_true_eq, decide_eq_false_iff_not, Bool.and_eq_true, Bool.or_eq_true, Bool.and_eq_false_iff, Bool.or_eq_false_iff, Bool.not_eq_true', Bool.not_eq_false', beq_iff_eq, Bool.not_eq_eq_eq_not, Bool.not_true, Bool.not_false, List.length_map, Bool.and_true, Bool.and_false, Bool.false_and, Bool.true_and, Bool.or_false, Bool.false_or] at h32)
      refine Aw_region ?_
      refine Al_pu (Pu_move (.inl rfl) (by conv => lhs; whnf)) rfl rfl (by decide) (by kernel_rfl) ?_
      refine Al_pu (Pu_loadbN (r := [_, _, _, _, _, _, _, _, _, _, _, _]) rfl Try.isAgg30 Try.sizeOf30 rfl rfl rfl rfl) rfl rfl (by decide) (by kernel_rfl) ?_
      refine Al_pu (Pu_slice1 rfl Try.underlying22 Try.sizeOf30 Try.zeroValue30 rfl (by decide) (by decide) (by kernel_rfl) rfl rfl rfl) rfl rfl (by decide) (by kernel_rfl) ?_
      refine Al_append rfl rfl rfl (by decide) (by kernel_rfl) elem22 (by decide) Try.sizeOf30 rfl rfl rfl (by simp; omega) (by decide) (fun g36 => ?_)
      refine Al_pu (Pu_move (.inr rfl) (by conv => lhs; whnf)) rfl rfl (by decide) (by kernel_rfl) ?_
      refine Al_nil ?_
      refine Aw_region ?_
      refine Al_pu (Pu_move (.inl rfl) (by conv => lhs; whnf)) rfl rfl (by decide) (by kernel_rfl) ?_
      refine Al_pu (Pu_add rfl rfl rfl (fun h1 h2 => by simp only [A.inI, A.maxI] at *; omega)) rfl rfl (by decide) (by kernel_rfl) ?_
      refine Al_pu (Pu_move (.inr rfl) (by conv => lhs; whnf)) rfl rfl (by decide) (by kernel_rfl) ?_
      refine Al_nil ?_
      exact ⟨(i + 1, g36), ⟨by omega, by omega⟩, by simp only []; omega, Le.ov ⟨Sub.num (by omega), Sub.rfl, trivial⟩ ⟨Sub.rfl, Sub.rfl, Sub.rfl, trivial⟩ ⟨obeq (by rw [hps, h32, if_pos rfl, List.map_append]; rfl), trivial⟩ trivial⟩ -- loop 0 next.0
    · (try simp only [decide_eq_true_eq, decide_eq_false_iff_not, Bool.and_eq_true, Bool.or_eq_true, Bool.and_eq_false_iff, Bool.or_eq_false_iff, Bool.not_eq_true', Bool.not_eq_false', beq_iff_eq, Bool.not_eq_eq_eq_not, Bool.not_true, Bool.not_false, List.length_map, Bool.and_true, Bool.and_false, Bool.false_and, Bool.true_and, Bool.or_false, Bool.false_or] at h32)
      refine Aw_skip ?_
      refine Aw_region ?_
      refine Al_pu (Pu_move (.inl rfl) (by conv => lhs; whnf)) rfl rfl (by decide) (by kernel_rfl) ?_
      refine Al_pu (Pu_add rfl rfl rfl (fun h1 h2 => by simp only [A.inI, A.maxI] at *; omega)) rfl rfl (by decide) (by kernel_rfl) ?_
      refine Al_pu (Pu_move (.inr rfl) (by conv => lhs; whnf)) rfl rfl (by decide) (by kernel_rfl) ?_
      refine Al_nil ?_
      exact ⟨(i + 1, g), ⟨by omega, by omega⟩, by simp only []; omega, Le.ov ⟨Sub.num (by omega), Sub.rfl, trivial⟩ ⟨Sub.rfl, Sub.rfl, Sub.rfl, trivial⟩ ⟨obeq (by rw [hps, h32]; simp), trivial⟩ trivial⟩ -- loop 0 next.1
  · (try simp only [decide_eq_true_eq, decide_eq_false_iff_not, Bool.and_eq_true, Bool.or_eq_true, Bool.and_eq_false_iff, Bool.or_eq_false_iff, Bool.not_eq_true', Bool.not_eq_false', beq_iff_eq, Bool.not_eq_eq_eq_not, Bool.not_true, Bool.not_false, List.length_map, Bool.and_true, Bool.and_false, Bool.false_and, Bool.true_and, Bool.or_false, Bool.false_or] at h23)
    have hal := S.pick_len (l.take i)
    rw [List.length_take] at hal
    have haf := S.pick_fits (l.take i)
    have hac := S.pick_check (l.take i)
    have hbs := S.bytes_small hac (by omega)
    have hbf := S.flat_le S.one 20000 (S.pick (l.take i)) (fun o ho => S.one_le (hac o ho) (haf o ho).1)
    have hbl : (S.bytes (S.pick (l.take i))).length ≤ 100000 ∧ 0 < (S.bytes (S.pick (l.take i))).length := by rw [hbs, List.length_cons]; omega
    obtain ⟨q1, q2, k, q3, q4⟩ := V.rem_in hbl.2 (by omega) hz
    refine Aw_exit ?_
    refine Aw_seq ?_
    refine Aw_frz hnl (k := 6) [6] rfl ⟨rfl, trivial⟩ ?_
    refine Aw_region ?_
    refine Al_pu (Pu_move (.inl rfl) (by conv => lhs; whnf)) rfl rfl (by decide) (by kernel_rfl) ?_
    refine Al_pu (Pu_call (sbytes_a (S.pick (l.take i)) (by omega) haf) rfl ⟨Sub.rfl, trivial⟩) rfl rfl (by decide) (by kernel_rfl) ?_
    refine Al_pu (Pu_move (.inr rfl) (by conv => lhs; whnf)) rfl rfl (by decide) (by kernel_rfl) ?_
    refine Al_nil ?_
    refine Aw_seq ?_
    refine Aw_seq ?_
    refine Aw_region ?_
    refine Al_pu (Pu_move (.inl rfl) (by conv => lhs; whnf)) rfl rfl (by decide) (by kernel_rfl) ?_
    refine Al_pu (Pu_lenS rfl Try.underlying9 rfl) rfl rfl (by decide) (by kernel_rfl) ?_
    refine Al_pu (Pu_cmp rfl rfl rfl rfl) rfl rfl (by decide) (by kernel_rfl) ?_
    refine Al_nil ?_
    refine Aw_cond rfl (fun h41 => ?_) (fun h41 => ?_)
    · (try simp only [decide_eq_true_eq, decide_eq_false_iff_not, Bool.and_eq_true, Bool.or_eq_true, Bool.and_eq_false_iff, Bool.or_eq_false_iff, Bool.not_eq_true', Bool.not_eq_false', beq_iff_eq, Bool.not_eq_eq_eq_not, Bool.not_true, Bool.not_false, List.length_map, Bool.and_true, Bool.and_false, Bool.false_and, Bool.true_and, Bool.or_false, Bool.false_or] at h41)
      exfalso
      rw [A.ba_sz] at h41
      omega
    · (try simp only [decide_eq_true_eq, decide_eq_false_iff_not, Bool.and_eq_true, Bool.or_eq_true, Bool.and_eq_false_iff, Bool.or_eq_false_iff, Bool.not_eq_true', Bool.not_eq_false', beq_iff_eq, Bool.not_eq_eq_eq_not, Bool.not_true, Bool.not_false, List.length_map, Bool.and_true, Bool.and_false, Bool.false_and, Bool.true_and, Bool.or_false, Bool.false_or] at h41)
      refine Aw_skip ?_
      refine Aw_seq ?_
      have hsz := A.ba_sz (S.bytes (S.pick (l.take i)))
      refine Aw_region ?_
      refine Al_pu (Pu_move (.inl rfl) (by conv => lhs; whnf)) rfl rfl (by decide) (by kernel_rfl) ?_
      refine Al_pu (Pu_move (.inl rfl) (by conv => lhs; whnf)) rfl rfl (by decide) (by kernel_rfl) ?_
      refine Al_pu (Pu_lenS rfl Try.underlying9 rfl) rfl rfl (by decide) (by kernel_rfl) ?_
      refine Al_pu (Pu_rem rfl rfl rfl (by omega) (by rw [hsz])) rfl rfl (by decide) (by kernel_rfl) ?_
      refine Al_pu (Pu_move (.inl rfl) (by conv => lhs; whnf)) rfl rfl (by decide) (by kernel_rfl) ?_
      refine Al_pu (Pu_lenS rfl Try.underlying9 rfl) rfl rfl (by decide) (by kernel_rfl) ?_
      refine Al_pu (Pu_add rfl rfl rfl (fun h1 h2 => by rw [hsz]; exact q2)) rfl rfl (by decide) (by kernel_rfl) ?_
      refine Al_pu (Pu_move (.inl rfl) (by conv => lhs; whnf)) rfl rfl (by decide) (by kernel_rfl) ?_
      refine Al_pu (Pu_lenS rfl Try.underlying9 rfl) rfl rfl (by decide) (by kernel_rfl) ?_
      refine Al_pu (Pu_rem (c := (k : Int)) rfl rfl rfl (by omega) (by rw [hsz]; exact q3)) rfl rfl (by decide) (by kernel_rfl) ?_
      refine Al_pu (Pu_move (.inr rfl) (by conv => lhs; whnf)) rfl rfl (by decide) (by kernel_rfl) ?_
      refine Al_nil ?_
      refine Aw_seq ?_
      refine Aw_region ?_
      refine Al_pu (Pu_move (.inl rfl) (by conv => lhs; whnf)) rfl rfl (by decide) (by kernel_rfl) ?_
      refine Al_pu (Pu_move (.inl rfl) (by conv => lhs; whnf)) rfl rfl (by decide) (by kernel_rfl) ?_
      refine Al_pu (Pu_subS (0) (k) rfl Try.underlying9 rfl rfl ⟨_, rfl, by omega⟩ ⟨by omega, by omega⟩) rfl rfl (by decide) (by kernel_rfl) ?_
      refine Al_pu (Pu_call (sread_ba (by rw [List.length_take]; omega) (V.readA_none (V.pread_cut hac (by omega) q4))) rfl ⟨Sub.str (V.take_ba _ _), trivial⟩) rfl rfl (by decide) (by kernel_rfl) ?_
      refine Al_pu (Pu_move (.inl rfl) (by conv => lhs; whnf)) rfl rfl (by decide) (by kernel_rfl) ?_
      refine Al_pu (Pu_extract rfl rfl rfl) rfl rfl (by decide) (by kernel_rfl) ?_
      refine Al_pu (Pu_extract rfl rfl rfl) rfl rfl (by decide) (by kernel_rfl) ?_
      refine Al_pu (Pu_move (.inr rfl) (by conv => lhs; whnf)) rfl rfl (by decide) (by kernel_rfl) ?_
      refine Al_pu (Pu_move (.inr rfl) (by conv => lhs; whnf)) rfl rfl (by decide) (by kernel_rfl) ?_
      refine Al_nil ?_
      refine Aw_seq ?_
      refine Aw_region ?_
      refine Al_pu (Pu_move (.inl rfl) (by conv => lhs; whnf)) rfl rfl (by decide) (by kernel_rfl) ?_
      refine Al_pu (Pu_call (sread_ba (by omega) (V.readA_bytes hac (by omega))) rfl ⟨Sub.rfl, trivial⟩) rfl rfl (by decide) (by kernel_rfl) ?_
      refine Al_pu (Pu_move (.inl rfl) (by conv => lhs; whnf)) rfl rfl (by decide) (by kernel_rfl) ?_
      refine Al_pu (Pu_extract rfl rfl rfl) rfl rfl (by decide) (by kernel_rfl) ?_
      refine Al_pu (Pu_extract rfl rfl rfl) rfl rfl (by decide) (by kernel_rfl) ?_
      refine Al_pu (Pu_move (.inr rfl) (by conv => lhs; whnf)) rfl rfl (by decide) (by kernel_rfl) ?_
      refine Al_pu (Pu_move (.inr rfl) (by conv => lhs; whnf)) rfl rfl (by decide) (by kernel_rfl) ?_
      refine Al_nil ?_
      refine Aw_seq ?_
      refine Aw_region ?_
      refine Al_pu (Pu_move (.inl rfl) (by conv => lhs; whnf)) rfl rfl (by decide) (by kernel_rfl) ?_
      refine Al_pu (Pu_move (.inl rfl) (by conv => lhs; whnf)) rfl rfl (by decide) (by kernel_rfl) ?_
      refine Al_st (St_gd [] rfl rfl rfl rfl trivial (fun hg66 => by exact Pu_move (.inl rfl) (by conv => lhs; whnf))) rfl (by decide) (by kernel_rfl) (by intro j b oj dj h1 h2 h3; cases h1; cases h2; cases h3; decide) ?_
      refine Al_st (St_gd [66] rfl rfl rfl rfl ⟨⟨_, rfl⟩, trivial⟩ (fun hg67 => Pu_not rfl rfl)) rfl (by decide) (by kernel_rfl) (by intro j b oj dj h1 h2 h3; cases h1; cases h2; cases h3; decide) ?_
      refine Al_pu (Pu_and rfl rfl rfl rfl) rfl rfl (by decide) (by kernel_rfl) ?_
      refine Al_pu (Pu_move (.inl rfl) (by conv => lhs; whnf)) rfl rfl (by decide) (by kernel_rfl) ?_
      refine Al_st (St_gd [] rfl rfl rfl rfl trivial (fun hg70 => by exact Pu_move (.inl rfl) (by conv => lhs; whnf))) rfl (by decide) (by kernel_rfl) (by intro j b oj dj h1 h2 h3; cases h1; cases h2; cases h3; decide) ?_
      refine Al_pu (Pu_and rfl rfl rfl rfl) rfl rfl (by decide) (by kernel_rfl) ?_
      refine Al_pu (Pu_move (.inr rfl) (by conv => lhs; whnf)) rfl rfl (by decide) (by kernel_rfl) ?_
      refine Al_nil ?_
      refine Aw_ret ?_
      exact Sub.rfl -- ret 0
set_option maxRecDepth 100000 in
theorem sameop_a (o : SOp) (hc : S.check o = true) (hf : S.fits o) : ACall Try.prog 16 [.row o.row, .row o.row] (bv true) := by
  refine ACall_enter (fun _ _ => by kernel_rfl) Try.func16 rfl Try.ntmps16 Try.results16 (Nat.le_of_ble_eq_true rfl) (fun hok M0 w0 hnl => ?_)
  refine Aw_seq ?_
  refine Aw_region ?_
  refine Al_pu (Pu_boxN rfl rfl) rfl rfl (by decide) (by kernel_rfl) ?_
  refine Al_pu (Pu_boxN rfl rfl) rfl rfl (by decide) (by kernel_rfl) ?_
  refine Al_pu (Pu_move (.inr rfl) (by conv => lhs; whnf)) rfl rfl (by decide) (by kernel_rfl) ?_
  refine Al_nil ?_
  refine Aw_seq ?_
  refine Aw_region ?_
  refine Al_pu (Pu_loadN rfl Try.isAgg30 Try.sizeOf30 rfl (Nat.le_of_ble_eq_true rfl)) rfl rfl (by decide) (by kernel_rfl) ?_
  refine Al_pu (Pu_call (rone_a o hc hf) rfl ⟨Sub.rfl, trivial⟩) rfl rfl (by decide) (by kernel_rfl) ?_
  refine Al_pu (Pu_move (.inr rfl) (by conv => lhs; whnf)) rfl rfl (by decide) (by kernel_rfl) ?_
  refine Al_nil ?_
  refine Aw_seq ?_
  refine Aw_region ?_
  refine Al_pu (Pu_loadN rfl Try.isAgg30 Try.sizeOf30 rfl (Nat.le_of_ble_eq_true rfl)) rfl rfl (by decide) (by kernel_rfl) ?_
  refine Al_pu (Pu_call (rone_a o hc hf) rfl ⟨Sub.rfl, trivial⟩) rfl rfl (by decide) (by kernel_rfl) ?_
  refine Al_pu (Pu_move (.inr rfl) (by conv => lhs; whnf)) rfl rfl (by decide) (by kernel_rfl) ?_
  refine Al_nil ?_
  refine Aw_seq ?_
  refine Aw_region ?_
  refine Al_pu (Pu_move (.inl rfl) (by conv => lhs; whnf)) rfl rfl (by decide) (by kernel_rfl) ?_
  refine Al_pu (Pu_move (.inl rfl) (by conv => lhs; whnf)) rfl rfl (by decide) (by kernel_rfl) ?_
  refine Al_pu (Pu_str rfl rfl rfl rfl) rfl rfl (by decide) (by kernel_rfl) ?_
  refine Al_pu (Pu_move (.inr rfl) (by conv => lhs; whnf)) rfl rfl (by decide) (by kernel_rfl) ?_
  refine Al_nil ?_
  refine Aw_ret ?_
  exact Sub.bool (by simp) -- ret 0
set_option maxRecDepth 100000 in
theorem sback_law (hawake : ACall Try.prog 8 [] (bv true)) (l : List SOp) (c : UInt8) : ACall Try.prog 5 [.sl 12 (l.map SOp.row), .v (.int .u8 c.toNat)] (bv true) := by
  refine ACall_enter (fun _ _ => by kernel_rfl) Try.func5 rfl Try.ntmps5 Try.results5 (Nat.le_of_ble_eq_true rfl) (fun hok M0 w0 hnl => ?_)
  have hlen := (hok _ (List.mem_cons_self ..)).len
  rw [List.length_map] at hlen
  refine Aw_seq ?_
  refine Aw_region ?_
  refine Al_pu (Pu_move (.inr rfl) (by conv => lhs; whnf)) rfl rfl (by decide) (by kernel_rfl) ?_
  refine Al_nil ?_
  refine Aw_seq ?_
  refine Aw_region ?_
  refine Al_pu (Pu_call (hawake) rfl trivial) rfl rfl (by decide) (by kernel_rfl) ?_
  refine Al_pu (Pu_move (.inr rfl) (by conv => lhs; whnf)) rfl rfl (by decide) (by kernel_rfl) ?_
  refine Al_nil ?_
  refine Aw_seq ?_
  refine Aw_region ?_
  refine Al_pu (Pu_move (.inr rfl) (by conv => lhs; whnf)) rfl rfl (by decide) (by kernel_rfl) ?_
  refine Al_nil ?_
  refine Aw_seq ?_
  refine Aw_seq ?_
  refine Aw_region ?_
  refine Al_pu (Pu_move (.inr rfl) (by conv => lhs; whnf)) rfl rfl (by decide) (by kernel_rfl) ?_
  refine Al_nil ?_
  refine Aw_block ?_
  refine Aw_own (j := 6) (k := 6) (T := 30) (n := 12) rfl (fun g0 => ?_)
  refine Aw_loopk (ι := Nat × Nat) [0, 1, 5] [] (fun (i, g) => [(7, .d (iv i)), (6, .ow 6 g)]) (fun (i, g) => [(6, g, .arr 30 12 ((S.pick (l.take i)).map SOp.row))]) (fun (i, g) => i ≤ l.length ∧ i ≤ 6) (fun (i, g) => l.length - i) ((0, g0)) (⟨Nat.zero_le _, by omega⟩) ⟨Sub.rfl, Sub.rfl, trivial⟩ ⟨rfl, trivial⟩ ?_
  rintro ⟨i, g⟩ ⟨hk0, hi3⟩
  refine Aw_seq ?_
  refine Aw_seq ?_
  refine Aw_region ?_
  refine Al_pu (Pu_move (.inl rfl) (by conv => lhs; whnf)) rfl rfl (by decide) (by kernel_rfl) ?_
  refine Al_pu (Pu_move (.inl rfl) (by conv => lhs; whnf)) rfl rfl (by decide) (by kernel_rfl) ?_
  refine Al_pu (Pu_len rfl Try.underlying22 rfl (by first | exact List.length_map .. | exact rfl)) rfl rfl (by decide) (by kernel_rfl) ?_
  refine Al_pu (Pu_cmp rfl rfl rfl rfl) rfl rfl (by decide) (by kernel_rfl) ?_
  refine Al_pu (Pu_move (.inl rfl) (by conv => lhs; whnf)) rfl rfl (by decide) (by kernel_rfl) ?_
  refine Al_st (St_gd [] rfl rfl rfl rfl trivial (fun hg22 => by exact Pu_move (.inl rfl) (by conv => lhs; whnf))) rfl (by decide) (by kernel_rfl) (by intro j b oj dj h1 h2 h3; cases h1; cases h2; cases h3; decide) ?_
  refine Al_st (St_gd [22] rfl rfl rfl rfl ⟨⟨_, rfl⟩, trivial⟩ (fun hg23 => Pu_cmp rfl rfl rfl rfl)) rfl (by decide) (by kernel_rfl) (by intro j b oj dj h1 h2 h3; cases h1; cases h2; cases h3; decide) ?_
  refine Al_pu (Pu_and rfl rfl rfl rfl) rfl rfl (by decide) (by kernel_rfl) ?_
  refine Al_nil ?_
  refine Aw_cond rfl (fun h24 => ?_) (fun h24 => ?_)
  · (try simp only [decide_eq_true_eq, decide_eq_false_iff_not, Bool.and_eq_true, Bool.or_eq_true, Bool.and_eq_false_iff, Bool.or_eq_false_iff, Bool.not_eq_true', Bool.not_eq_false', beq_iff_eq, Bool.not_eq_eq_eq_not, Bool.not_true, Bool.not_false, List.length_map, Bool.and_true, Bool.and_false, Bool.false_and, Bool.true_and, Bool.or_false, Bool.false_or] at h24)
    obtain ⟨h1, h2⟩ := h24
    have hi : i < l.length := by omega
    have hpl := S.pick_len (l.take i)
    rw [List.length_take] at hpl
    have hps := S.pick_snoc hi
    refine Aw_skip ?_
    -- join 0: live [0, 1, 5, 6, 7], turned [6]
    refine Aw_seq ?_
    refine Aw_block ?_
    refine Aw_seq ?_
    refine Aw_region ?_
    refine Al_pu (Pu_move (.inl rfl) (by conv => lhs; whnf)) rfl rfl (by decide) (by kernel_rfl) ?_
    refine Al_pu (Pu_move (.inl rfl) (by conv => lhs; whnf)) rfl rfl (by decide) (by kernel_rfl) ?_
    refine Al_pu (Pu_index rfl Try.underlying22 Try.sizeOf30 rfl rfl (rfl) (mapget hi)) rfl rfl (by decide) (by kernel_rfl) ?_
    refine Al_pu (Pu_loadN rfl Try.isAgg30 Try.sizeOf30 rfl (Nat.le_of_ble_eq_true rfl)) rfl rfl (by decide) (by kernel_rfl) ?_
    refine Al_pu (Pu_call (sfew_a l[i]) rfl ⟨Sub.rfl, trivial⟩) rfl rfl (by decide) (by kernel_rfl) ?_
    refine Al_alloc rfl rfl rfl (by decide) Try.zeroValue30 rfl (by kernel_rfl) (fun g8 => ?_)
    refine Al_storeN rfl rfl rfl (by kernel_rfl) Try.isAgg30 Try.sizeOf30 rfl rfl rfl rfl (Nat.le_of_ble_eq_true rfl) ?_
    refine Al_nil ?_
    refine Aw_seq ?_
    refine Aw_region ?_
    refine Al_pu (Pu_loadbN (r := [_, _, _, _, _, _, _, _, _, _, _, _]) rfl Try.isAgg30 Try.sizeOf30 rfl rfl rfl rfl) rfl rfl (by decide) (by kernel_rfl) ?_
    refine Al_pu (Pu_call (scheck_a (S.few l[i]) (S.few_fits _)) rfl ⟨Sub.rfl, trivial⟩) rfl rfl (by decide) (by kernel_rfl) ?_
    refine Al_nil ?_
    refine Aw_cond rfl (fun h33 => ?_) (fun h33 => ?_)
    · (try simp only [decide_eq_true_eq, decide_eq_false_iff_not, Bool.and_eq_true, Bool.or_eq_true, Bool.and_eq_false_iff, Bool.or_eq_false_iff, Bool.not_eq_true', Bool.not_eq_false', beq_iff_eq, Bool.not_eq_eq_eq_not, Bool.not_true, Bool.not_false, List.length_map, Bool.and_true, Bool.and_false, Bool.false_and, Bool.true_and, Bool.or_false, Bool.false_or] at h33)
      refine Aw_region ?_
      refine Al_pu (Pu_move (.inl rfl) (by conv => lhs; whnf)) rfl rfl (by decide) (by kernel_rfl) ?_
      refine Al_pu (Pu_loadbN (r := [_, _, _, _, _, _, _, _, _, _, _, _]) rfl Try.isAgg30 Try.sizeOf30 rfl rfl rfl rfl) rfl rfl (by decide) (by kernel_rfl) ?_
      refine Al_pu (Pu_slice1 rfl Try.underlying22 Try.sizeOf30 Try.zeroValue30 rfl (by decide) (by decide) (by kernel_rfl) rfl rfl rfl) rfl rfl (by decide) (by kernel_rfl) ?_
      refine Al_append rfl rfl rfl (by decide) (by kernel_rfl) elem22 (by decide) Try.sizeOf30 rfl rfl rfl (by simp; omega) (by decide) (fun g37 => ?_)
      refine Al_pu (Pu_move (.inr rfl) (by conv => lhs; whnf)) rfl rfl (by decide) (by kernel_rfl) ?_
      refine Al_nil ?_
      refine Aw_region ?_
      refine Al_pu (Pu_move (.inl rfl) (by conv => lhs; whnf)) rfl rfl (by decide) (by kernel_rfl) ?_
      refine Al_pu (Pu_add rfl rfl rfl (fun h1 h2 => by simp only [A.inI, A.maxI] at *; omega)) rfl rfl (by decide) (by kernel_rfl) ?_
      refine Al_pu (Pu_move (.inr rfl) (by conv => lhs; whnf)) rfl rfl (by decide) (by kernel_rfl) ?_
      refine Al_nil ?_
      exact ⟨(i + 1, g37), ⟨by omega, by omega⟩, by simp only []; omega, Le.ov ⟨Sub.num (by omega), Sub.rfl, trivial⟩ ⟨Sub.rfl, Sub.rfl, Sub.rfl, trivial⟩ ⟨obeq (by rw [hps, h33, if_pos rfl, List.map_append]; rfl), trivial⟩ trivial⟩ -- loop 0 next.0
    · (try simp only [decide_eq_true_eq, decide_eq_false_iff_not, Bool.and_eq_true, Bool.or_eq_true, Bool.and_eq_false_iff, Bool.or_eq_false_iff, Bool.not_eq_true', Bool.not_eq_false', beq_iff_eq, Bool.not_eq_eq_eq_not, Bool.not_true, Bool.not_false, List.length_map, Bool.and_true, Bool.and_false, Bool.false_and, Bool.true_and, Bool.or_false, Bool.false_or] at h33)
      refine Aw_skip ?_
      refine Aw_region ?_
      refine Al_pu (Pu_move (.inl rfl) (by conv => lhs; whnf)) rfl rfl (by decide) (by kernel_rfl) ?_
      refine Al_pu (Pu_add rfl rfl rfl (fun h1 h2 => by simp only [A.inI, A.maxI] at *; omega)) rfl rfl (by decide) (by kernel_rfl) ?_
      refine Al_pu (Pu_move (.inr rfl) (by conv => lhs; whnf)) rfl rfl (by decide) (by kernel_rfl) ?_
      refine Al_nil ?_
      exact ⟨(i + 1, g), ⟨by omega, by omega⟩, by simp only []; omega, Le.ov ⟨Sub.num (by omega), Sub.rfl, trivial⟩ ⟨Sub.rfl, Sub.rfl, Sub.rfl, trivial⟩ ⟨obeq (by rw [hps, h33]; simp), trivial⟩ trivial⟩ -- loop 0 next.1
  · (try simp only [decide_eq_true_eq, decide_eq_false_iff_not, Bool.and_eq_true, Bool.or_eq_true, Bool.and_eq_false_iff, Bool.or_eq_false_iff, Bool.not_eq_true', Bool.not_eq_false', beq_iff_eq, Bool.not_eq_eq_eq_not, Bool.not_true, Bool.not_false, List.length_map, Bool.and_true, Bool.and_false, Bool.false_and, Bool.true_and, Bool.or_false, Bool.false_or] at h24)
    have hal := S.pick_len (l.take i)
    rw [List.length_take] at hal
    have haf := S.pick_fits (l.take i)
    have hac := S.pick_check (l.take i)
    have hbs := S.bytes_small hac (by omega)
    have hbf := S.flat_le S.one 20000 (S.pick (l.take i)) (fun o ho => S.one_le (hac o ho) (haf o ho).1)
    have hbl : (S.bytes (S.pick (l.take i))).length ≤ 200000 := by rw [hbs, List.length_cons]; omega
    have hmore : V.pread (S.bytes (S.pick (l.take i)) ++ [c]) = none := V.pread_more (V.pread_bytes hac (by omega)) (by simp)
    refine Aw_exit ?_
    refine Aw_seq ?_
    refine Aw_frz hnl (k := 6) [6] rfl ⟨rfl, trivial⟩ ?_
    refine Aw_region ?_
    refine Al_pu (Pu_move (.inl rfl) (by conv => lhs; whnf)) rfl rfl (by decide) (by kernel_rfl) ?_
    refine Al_pu (Pu_call (sbytes_a (S.pick (l.take i)) (by omega) haf) rfl ⟨Sub.rfl, trivial⟩) rfl rfl (by decide) (by kernel_rfl) ?_
    refine Al_pu (Pu_move (.inr rfl) (by conv => lhs; whnf)) rfl rfl (by decide) (by kernel_rfl) ?_
    refine Al_nil ?_
    refine Aw_seq ?_
    refine Aw_region ?_
    refine Al_pu (Pu_move (.inl rfl) (by conv => lhs; whnf)) rfl rfl (by decide) (by kernel_rfl) ?_
    refine Al_pu (Pu_call (sread_ba (by omega) (V.readA_bytes hac (by omega))) rfl ⟨Sub.rfl, trivial⟩) rfl rfl (by decide) (by kernel_rfl) ?_
    refine Al_pu (Pu_move (.inl rfl) (by conv => lhs; whnf)) rfl rfl (by decide) (by kernel_rfl) ?_
    refine Al_pu (Pu_extract rfl rfl rfl) rfl rfl (by decide) (by kernel_rfl) ?_
    refine Al_pu (Pu_extract rfl rfl rfl) rfl rfl (by decide) (by kernel_rfl) ?_
    refine Al_pu (Pu_move (.inr rfl) (by conv => lhs; whnf)) rfl rfl (by decide) (by kernel_rfl) ?_
    refine Al_pu (Pu_move (.inr rfl) (by conv => lhs; whnf)) rfl rfl (by decide) (by kernel_rfl) ?_
    refine Al_nil ?_
    refine Aw_seq ?_
    refine Aw_region ?_
    refine Al_pu (Pu_move (.inl rfl) (by conv => lhs; whnf)) rfl rfl (by decide) (by kernel_rfl) ?_
    refine Al_pu (Pu_move (.inl rfl) (by conv => lhs; whnf)) rfl rfl (by decide) (by kernel_rfl) ?_
    refine Al_pu (Pu_slice1 rfl Try.underlying36 Try.sizeOf5 Try.zeroValue5 rfl (by decide) (by decide) (by kernel_rfl) rfl rfl rfl) rfl rfl (by decide) (by kernel_rfl) ?_
    refine Al_pu (Pu_convBS (bs := [c]) rfl Try.underlying36 Try.underlying5 Try.underlying9 rfl) rfl rfl (by decide) (by kernel_rfl) ?_
    refine Al_pu (Pu_catB rfl rfl rfl (by simp only [List.length_singleton, A.maxI]; omega)) rfl rfl (by decide) (by kernel_rfl) ?_
    refine Al_pu (Pu_call (sread_ba (by rw [List.length_append, List.length_singleton]; omega) (V.readA_none hmore)) rfl ⟨Sub.rfl, trivial⟩) rfl rfl (by decide) (by kernel_rfl) ?_
    refine Al_pu (Pu_move (.inl rfl) (by conv => lhs; whnf)) rfl rfl (by decide) (by kernel_rfl) ?_
    refine Al_pu (Pu_extract rfl rfl rfl) rfl rfl (by decide) (by kernel_rfl) ?_
    refine Al_pu (Pu_extract rfl rfl rfl) rfl rfl (by decide) (by kernel_rfl) ?_
    refine Al_pu (Pu_move (.inr rfl) (by conv => lhs; whnf)) rfl rfl (by decide) (by kernel_rfl) ?_
    refine Al_pu (Pu_move (.inr rfl) (by conv => lhs; whnf)) rfl rfl (by decide) (by kernel_rfl) ?_
    refine Al_nil ?_
    refine Aw_seq ?_
    refine Aw_seq ?_
    refine Aw_region ?_
    refine Al_pu (Pu_move (.inl rfl) (by conv => lhs; whnf)) rfl rfl (by decide) (by kernel_rfl) ?_
    refine Al_pu (Pu_not rfl rfl) rfl rfl (by decide) (by kernel_rfl) ?_
    refine Al_pu (Pu_move (.inl rfl) (by conv => lhs; whnf)) rfl rfl (by decide) (by kernel_rfl) ?_
    refine Al_st (St_gd [] rfl rfl rfl rfl trivial (fun hg57 => by exact Pu_move (.inl rfl) (by conv => lhs; whnf))) rfl (by decide) (by kernel_rfl) (by intro j b oj dj h1 h2 h3; cases h1; cases h2; cases h3; decide) ?_
    refine Al_pu (Pu_or rfl rfl rfl rfl) rfl rfl (by decide) (by kernel_rfl) ?_
    refine Al_pu (Pu_move (.inl rfl) (by conv => lhs; whnf)) rfl rfl (by decide) (by kernel_rfl) ?_
    refine Al_st (St_gd [] rfl rfl rfl rfl trivial (fun hg60 => by exact Pu_move (.inl rfl) (by conv => lhs; whnf))) rfl (by decide) (by kernel_rfl) (by intro j b oj dj h1 h2 h3; cases h1; cases h2; cases h3; decide) ?_
    refine Al_st (St_gd [60] rfl rfl rfl rfl ⟨⟨_, rfl⟩, trivial⟩ (fun hg61 => by exact Pu_len rfl Try.underlying22 rfl (by first | exact List.length_map .. | exact rfl))) rfl (by decide) (by kernel_rfl) (by intro j b oj dj h1 h2 h3; cases h1; cases h2; cases h3; decide) ?_
    refine Al_st (St_gd [] rfl rfl rfl rfl trivial (fun hg62 => by exact Pu_move (.inl rfl) (by conv => lhs; whnf))) rfl (by decide) (by kernel_rfl) (by intro j b oj dj h1 h2 h3; cases h1; cases h2; cases h3; decide) ?_
    refine Al_st (St_gd [62] rfl rfl rfl rfl ⟨⟨_, rfl⟩, trivial⟩ (fun hg63 => by exact Pu_len rfl Try.underlying22 rfl (by first | exact List.length_map .. | exact rfl))) rfl (by decide) (by kernel_rfl) (by intro j b oj dj h1 h2 h3; cases h1; cases h2; cases h3; decide) ?_
    refine Al_st (St_gd [61, 63] rfl rfl rfl rfl ⟨⟨_, rfl⟩, ⟨_, rfl⟩, trivial⟩ (fun hg64 => Pu_cmp rfl rfl rfl rfl)) rfl (by decide) (by kernel_rfl) (by intro j b oj dj h1 h2 h3; cases h1; cases h2; cases h3; decide) ?_
    refine Al_pu (Pu_or rfl rfl rfl rfl) rfl rfl (by decide) (by kernel_rfl) ?_
    refine Al_nil ?_
    refine Aw_cond rfl (fun h65 => ?_) (fun h65 => ?_)
    · (try simp only [decide_eq_true_eq, decide_eq_false_iff_not, Bool.and_eq_true, Bool.or_eq_true, Bool.and_eq_false_iff, Bool.or_eq_false_iff, Bool.not_eq_true', Bool.not_eq_false', beq_iff_eq, Bool.not_eq_eq_eq_not, Bool.not_true, Bool.not_false, List.length_map, Bool.and_true, Bool.and_false, Bool.false_and, Bool.true_and, Bool.or_false, Bool.false_or] at h65)
      exfalso; simp at h65
    · (try simp only [decide_eq_true_eq, decide_eq_false_iff_not, Bool.and_eq_true, Bool.or_eq_true, Bool.and_eq_false_iff, Bool.or_eq_false_iff, Bool.not_eq_true', Bool.not_eq_false', beq_iff_eq, Bool.not_eq_eq_eq_not, Bool.not_true, Bool.not_false, List.length_map, Bool.and_true, Bool.and_false, Bool.false_and, Bool.true_and, Bool.or_false, Bool.false_or] at h65)
      refine Aw_skip ?_
      refine Aw_seq ?_
      refine Aw_seq ?_
      refine Aw_region ?_
      refine Al_pu (Pu_move (.inr rfl) (by conv => lhs; whnf)) rfl rfl (by decide) (by kernel_rfl) ?_
      refine Al_nil ?_
      refine Aw_block ?_
      refine Aw_loopk (ι := Nat) [5, 6, 10] [] (fun j => [(14, .d (iv j))]) (fun j => []) (fun j => j ≤ (S.pick (l.take i)).length) (fun j => (S.pick (l.take i)).length - j) (0) (Nat.zero_le _) ⟨Sub.rfl, trivial⟩ trivial ?_
      rintro j hk1
      refine Aw_seq ?_
      refine Aw_seq ?_
      refine Aw_region ?_
      refine Al_pu (Pu_move (.inl rfl) (by conv => lhs; whnf)) rfl rfl (by decide) (by kernel_rfl) ?_
      refine Al_pu (Pu_move (.inl rfl) (by conv => lhs; whnf)) rfl rfl (by decide) (by kernel_rfl) ?_
      refine Al_pu (Pu_len rfl Try.underlying22 rfl (by first | exact List.length_map .. | exact rfl)) rfl rfl (by decide) (by kernel_rfl) ?_
      refine Al_pu (Pu_cmp rfl rfl rfl rfl) rfl rfl (by decide) (by kernel_rfl) ?_
      refine Al_nil ?_
      refine Aw_cond rfl (fun h69 => ?_) (fun h69 => ?_)
      · (try simp only [decide_eq_true_eq, decide_eq_false_iff_not, Bool.and_eq_true, Bool.or_eq_true, Bool.and_eq_false_iff, Bool.or_eq_false_iff, Bool.not_eq_true', Bool.not_eq_false', beq_iff_eq, Bool.not_eq_eq_eq_not, Bool.not_true, Bool.not_false, List.length_map, Bool.and_true, Bool.and_false, Bool.false_and, Bool.true_and, Bool.or_false, Bool.false_or] at h69)
        have hj : j < (S.pick (l.take i)).length := by omega
        have hm := List.getElem_mem hj
        refine Aw_skip ?_
        refine Aw_seq ?_
        refine Aw_block ?_
        refine Aw_seq ?_
        refine Aw_draw 9 (by kernel_rfl) (by kernel_rfl) ?_
        refine Dr_pu (Pu_move (.inl rfl) (by conv => lhs; whnf)) rfl rfl ?_
        refine Dr_pu (Pu_move (.inl rfl) (by conv => lhs; whnf)) rfl rfl ?_
        refine Dr_pu (Pu_index rfl Try.underlying22 Try.sizeOf30 rfl rfl (rfl) (mapget hj)) rfl rfl ?_
        refine Dr_pu (Pu_loadN rfl Try.isAgg30 Try.sizeOf30 rfl (Nat.le_of_ble_eq_true rfl)) rfl rfl ?_
        refine Dr_pu (Pu_move (.inl rfl) (by conv => lhs; whnf)) rfl rfl ?_
        refine Dr_pu (Pu_move (.inl rfl) (by conv => lhs; whnf)) rfl rfl ?_
        refine Dr_pu (Pu_index rfl Try.underlying22 Try.sizeOf30 rfl rfl (rfl) (mapget hj)) rfl rfl ?_
        refine Dr_pu (Pu_loadN rfl Try.isAgg30 Try.sizeOf30 rfl (Nat.le_of_ble_eq_true rfl)) rfl rfl ?_
        refine Dr_pu (Pu_call (sameop_a (S.pick (l.take i))[j] (hac _ hm) (haf _ hm)) rfl ⟨Sub.rfl, Sub.rfl, trivial⟩) rfl rfl ?_
        refine Dr_nil ?_
        refine Al_pu (Pu_move (.inr rfl) (by conv => lhs; whnf)) rfl rfl (by decide) (by kernel_rfl) ?_
        refine Al_nil ?_
        refine Aw_seq ?_
        refine Aw_region ?_
        refine Al_pu (Pu_move (.inl rfl) (by conv => lhs; whnf)) rfl rfl (by decide) (by kernel_rfl) ?_
        refine Al_pu (Pu_not rfl rfl) rfl rfl (by decide) (by kernel_rfl) ?_
        refine Al_nil ?_
        refine Aw_cond rfl (fun h82 => ?_) (fun h82 => ?_)
        · (try simp only [decide_eq_true_eq, decide_eq_false_iff_not, Bool.and_eq_true, Bool.or_eq_true, Bool.and_eq_false_iff, Bool.or_eq_false_iff, Bool.not_eq_true', Bool.not_eq_false', beq_iff_eq, Bool.not_eq_eq_eq_not, Bool.not_true, Bool.not_false, List.length_map, Bool.and_true, Bool.and_false, Bool.false_and, Bool.true_and, Bool.or_false, Bool.false_or] at h82)
          exfalso; simp at h82
        · (try simp only [decide_eq_true_eq, decide_eq_false_iff_not, Bool.and_eq_true, Bool.or_eq_true, Bool.and_eq_false_iff, Bool.or_eq_false_iff, Bool.not_eq_true', Bool.not_eq_false', beq_iff_eq, Bool.not_eq_eq_eq_not, Bool.not_true, Bool.not_false, List.length_map, Bool.and_true, Bool.and_false, Bool.false_and, Bool.true_and, Bool.or_false, Bool.false_or] at h82)
          refine Aw_skip ?_
          refine Aw_region ?_
          refine Al_pu (Pu_move (.inl rfl) (by conv => lhs; whnf)) rfl rfl (by decide) (by kernel_rfl) ?_
          refine Al_pu (Pu_add rfl rfl rfl (fun h1 h2 => by simp only [A.inI, A.maxI] at *; omega)) rfl rfl (by decide) (by kernel_rfl) ?_
          refine Al_pu (Pu_move (.inr rfl) (by conv => lhs; whnf)) rfl rfl (by decide) (by kernel_rfl) ?_
          refine Al_nil ?_
          exact ⟨j + 1, by omega, by omega, Le.ov ⟨Sub.num (by omega), trivial⟩ ⟨Sub.rfl, Sub.rfl, Sub.rfl, trivial⟩ trivial trivial⟩ -- loop 1 next.0
      · (try simp only [decide_eq_true_eq, decide_eq_false_iff_not, Bool.and_eq_true, Bool.or_eq_true, Bool.and_eq_false_iff, Bool.or_eq_false_iff, Bool.not_eq_true', Bool.not_eq_false', beq_iff_eq, Bool.not_eq_eq_eq_not, Bool.not_true, Bool.not_false, List.length_map, Bool.and_true, Bool.and_false, Bool.false_and, Bool.true_and, Bool.or_false, Bool.false_or] at h69)
        refine Aw_exit ?_
        refine Aw_seq ?_
        refine Aw_region ?_
        refine Al_pu (Pu_move (.inl rfl) (by conv => lhs; whnf)) rfl rfl (by decide) (by kernel_rfl) ?_
        refine Al_pu (Pu_move (.inr rfl) (by conv => lhs; whnf)) rfl rfl (by decide) (by kernel_rfl) ?_
        refine Al_nil ?_
        refine Aw_ret ?_
        exact Sub.rfl -- ret 0
end Go.Proofs.Ytocgnmklgklfnaa
