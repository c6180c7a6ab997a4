/- Chains of versions: from, Put, Head, At, Below, Keeps, Clean. -/
import Derived.Test.YtmbaeloiepjakaaGreatJVer
import Derived.Test.YtmbaeloiepjakaaGreatJFl
set_option linter.unusedSimpArgs false
set_option linter.unusedVariables false
set_option maxRecDepth 100000
namespace Go.Proofs.YtmbaeloiepjakaaGreat
open Go.RowKit A R
open A.RowT
set_option maxRecDepth 100000 in
theorem cloneV_g (l : List Ver) (hl : l.length ≤ 1000000) : GCall Tryz.prog 97 [.d (.sl 6 (l.map Ver.row))] [] (some ([(1001, .arr 34 6 (l.map Ver.row))], .ow 1001 0)) := by
  refine GCall_enter (fun _ _ => by kernel_rfl) Tryz.func97 rfl Tryz.ntmps97 (ReadsS.r1 Tryz.results97) (Nat.le_of_ble_eq_true rfl) (fun hok hokB M0 w0 => ?_)
  refine Aw_seq (Aw_region ?_)
  refine Al_p Pu_mvr ?_
  refine Al_nil (Aw_seq (Aw_seq (Aw_region ?_)))
  refine Al_p Pu_mvl ?_
  refine Al_eqnil rfl rfl rfl (by decide) (by kernel_rfl) Tryz.underlying65 rfl (fun nl hnl => ?_)
  refine Al_nil ?_
  refine Aw_cond rfl (fun h4 => ?_) (fun h4 => ?_)
  · (try simp only [decide_eq_true_eq, decide_eq_false_iff_not, Bool.and_eq_true, Bool.or_eq_true, Bool.and_eq_false_iff, Bool.or_eq_false_iff, Bool.not_eq_true', Bool.not_eq_false', beq_iff_eq, Bool.not_eq_eq_eq_not, Bool.not_true, Bool.not_false, List.length_map, Bool.and_true, Bool.and_false, Bool.false_and, Bool.true_and, Bool.or_false, Bool.false_or] at h4)
    refine Aw_seq (Aw_region ?_)
    refine Al_p Pu_mvr ?_
    refine Al_nil ?_
    obtain rfl : l = [] := by simpa using hnl h4
    refine Aw_own (j := 2) (k := 2) (T := 34) (n := 6) rfl (fun g => ?_)
    refine Aw_ret ?_
    exact ⟨_, _, [(1001, 2, g)], rfl, Sub.rfl, ⟨rfl, trivial⟩, rfl⟩ -- ret 0
  · (try simp only [decide_eq_true_eq, decide_eq_false_iff_not, Bool.and_eq_true, Bool.or_eq_true, Bool.and_eq_false_iff, Bool.or_eq_false_iff, Bool.not_eq_true', Bool.not_eq_false', beq_iff_eq, Bool.not_eq_eq_eq_not, Bool.not_true, Bool.not_false, List.length_map, Bool.and_true, Bool.and_false, Bool.false_and, Bool.true_and, Bool.or_false, Bool.false_or] at h4)
    refine Aw_skip (Aw_seq (Aw_region ?_))
    refine Al_slice0 rfl rfl rfl (by decide) Tryz.underlying65 Tryz.sizeOf34 (fun g5 => ?_)
    refine Al_p Pu_mvl ?_
    refine Al_append rfl rfl rfl (by decide) (by kernel_rfl) elem65 (by decide) Tryz.sizeOf34 rfl rfl rfl (by simp; omega) (by decide) (fun g7 => ?_)
    refine Al_p Pu_mvr ?_
    refine Al_nil ?_
    refine Aw_ret ?_
    exact ⟨_, _, [(1001, 5, g7)], rfl, Sub.rfl, ⟨rfl, trivial⟩, rfl⟩ -- ret 1
set_option maxRecDepth 100000 in
set_option maxHeartbeats 1000000 in
theorem insertV_g (l : List Ver) (x : Ver) (i : Nat) (hi : i ≤ l.length) (hl : l.length ≤ 1000000) : GCall Tryz.prog 128 [.ow 1001 0, .d (iv i), .ow 1002 0] [(1001, .arr 34 6 (l.map Ver.row)), (1002, .arr 34 6 [Ver.row x])] (some ([(1003, .arr 34 6 ((l.take i ++ x :: l.drop i).map Ver.row))], .ow 1003 0)) := by
  refine GCall_enter (fun _ _ => by kernel_rfl) Tryz.func128 rfl Tryz.ntmps128 (ReadsS.r1 Tryz.results128) (Nat.le_of_ble_eq_true rfl) (fun hok hokB M0 w0 => ?_)
  have hlm : (l.map Ver.row).length = l.length := List.length_map ..
  have hres : (l.take i ++ x :: l.drop i).map Ver.row = (l.map Ver.row).take i ++ Ver.row x :: (l.map Ver.row).drop i := by simp
  rw [hres]
  generalize l.map Ver.row = L at *
  refine Aw_seq (Aw_region ?_)
  refine Al_p Pu_mvr ?_
  refine Al_nil (Aw_seq (Aw_region ?_))
  refine Al_p Pu_mvl ?_
  refine Al_p Pu_mvl ?_
  refine Al_p (Pu_sliceOw i L.length rfl Tryz.underlying65 Tryz.sizeOf34 rfl rfl ⟨_, rfl, rfl⟩ rfl ⟨by omega, .inl (by omega)⟩) ?_
  refine Al_nil (Aw_seq (Aw_region ?_))
  refine Al_p Pu_mvl ?_
  refine Al_p (Pu_lenOw (m := 1) rfl Tryz.underlying65 rfl rfl rfl) ?_
  refine Al_p Pu_mvr ?_
  refine Al_nil (Aw_seq (Aw_seq (Aw_region ?_)))
  refine Al_p Pu_mvl ?_
  refine Al_p (Pu_cmp rfl rfl rfl rfl) ?_
  refine Al_nil ?_
  refine Aw_cond rfl (fun h16 => ?_) (fun h16 => ?_)
  · (try simp only [decide_eq_true_eq, decide_eq_false_iff_not, Bool.and_eq_true, Bool.or_eq_true, Bool.and_eq_false_iff, Bool.or_eq_false_iff, Bool.not_eq_true', Bool.not_eq_false', beq_iff_eq, Bool.not_eq_eq_eq_not, Bool.not_true, Bool.not_false, List.length_map, Bool.and_true, Bool.and_false, Bool.false_and, Bool.true_and, Bool.or_false, Bool.false_or] at h16)
    exfalso; revert h16; decide
  · (try simp only [decide_eq_true_eq, decide_eq_false_iff_not, Bool.and_eq_true, Bool.or_eq_true, Bool.and_eq_false_iff, Bool.or_eq_false_iff, Bool.not_eq_true', Bool.not_eq_false', beq_iff_eq, Bool.not_eq_eq_eq_not, Bool.not_true, Bool.not_false, List.length_map, Bool.and_true, Bool.and_false, Bool.false_and, Bool.true_and, Bool.or_false, Bool.false_or] at h16)
    refine Aw_skip (Aw_seq (Aw_region ?_))
    refine Al_p Pu_mvl ?_
    refine Al_p (Pu_lenOw rfl Tryz.underlying65 rfl rfl rfl) ?_
    refine Al_p Pu_mvr ?_
    refine Al_nil (Aw_seq (Aw_seq (Aw_region ?_)))
    refine Al_p Pu_mvl ?_
    refine Al_p Pu_mvl ?_
    refine Al_p (Pu_cmp rfl rfl rfl rfl) ?_
    refine Al_nil ?_
    refine Aw_cond rfl (fun h22 => ?_) (fun h22 => ?_)
    · (try simp only [decide_eq_true_eq, decide_eq_false_iff_not, Bool.and_eq_true, Bool.or_eq_true, Bool.and_eq_false_iff, Bool.or_eq_false_iff, Bool.not_eq_true', Bool.not_eq_false', beq_iff_eq, Bool.not_eq_eq_eq_not, Bool.not_true, Bool.not_false, List.length_map, Bool.and_true, Bool.and_false, Bool.false_and, Bool.true_and, Bool.or_false, Bool.false_or] at h22)
      refine Aw_seq (Aw_region ?_)
      refine Al_p Pu_mvl ?_
      refine Al_p Pu_mvl ?_
      refine Al_appendOw (k2 := 1002) (g2 := 0) rfl rfl rfl (by decide) (by kernel_rfl) elem65 (by decide) Tryz.sizeOf34 rfl rfl rfl rfl Nat.one_pos (by simp; omega) (by decide) (fun g25 => ?_)
      refine Al_p Pu_mvr ?_
      refine Al_nil ?_
      refine Aw_ret ?_
      exact ⟨_, _, [(1003, 1001, g25)], rfl, Sub.rfl, ⟨obeq (by rw [show i = L.length by omega]; simp), trivial⟩, rfl⟩ -- ret 0
    · (try simp only [decide_eq_true_eq, decide_eq_false_iff_not, Bool.and_eq_true, Bool.or_eq_true, Bool.and_eq_false_iff, Bool.or_eq_false_iff, Bool.not_eq_true', Bool.not_eq_false', beq_iff_eq, Bool.not_eq_eq_eq_not, Bool.not_true, Bool.not_false, List.length_map, Bool.and_true, Bool.and_false, Bool.false_and, Bool.true_and, Bool.or_false, Bool.false_or] at h22)
      refine Aw_skip (Aw_seq (Aw_seq (Aw_region ?_)))
      refine Al_p Pu_mvl ?_
      refine Al_p Pu_mvl ?_
      refine Al_p (Pu_add rfl rfl rfl (fun h1 h2 => by simp only [A.inI, A.maxI] at *; omega)) ?_
      refine Al_p Pu_mvl ?_
      refine Al_cap (kt := 900) rfl rfl rfl (by decide) (by kernel_rfl) Tryz.underlying65 rfl rfl rfl (fun c gt hc hcm => ?_)
      refine Al_p (Pu_cmp rfl rfl rfl rfl) ?_
      refine Al_nil ?_
      refine Aw_cond rfl (fun h31 => ?_) (fun h31 => ?_)
      · (try simp only [decide_eq_true_eq, decide_eq_false_iff_not, Bool.and_eq_true, Bool.or_eq_true, Bool.and_eq_false_iff, Bool.or_eq_false_iff, Bool.not_eq_true', Bool.not_eq_false', beq_iff_eq, Bool.not_eq_eq_eq_not, Bool.not_true, Bool.not_false, List.length_map, Bool.and_true, Bool.and_false, Bool.false_and, Bool.true_and, Bool.or_false, Bool.false_or] at h31)
        refine Aw_seq (Aw_region ?_)
        refine Al_p Pu_mvl ?_
        refine Al_p Pu_mvl ?_
        refine Al_p (Pu_sliceOw 0 i rfl Tryz.underlying65 Tryz.sizeOf34 rfl rfl rfl ⟨_, rfl, rfl⟩ ⟨by omega, .inl (by omega)⟩) ?_
        refine Al_p Pu_mvl ?_
        refine Al_p Pu_mvl ?_
        refine Al_p (Pu_add rfl rfl rfl (fun h1 h2 => by simp only [A.inI, A.maxI] at *; omega)) ?_
        refine Al_p Pu_mvl ?_
        refine Al_p (Pu_sub rfl rfl rfl (fun h1 h2 => by simp only [A.inI, A.maxI] at *; omega)) ?_
        refine Al_appendZ (zz := L.length + 1 - i) (kt := 900) (c := c) rfl rfl rfl (by decide) (by kernel_rfl) elem65 Tryz.underlying3 Tryz.zeroValue34 (by decide) rfl (by kernel_rfl) rfl rfl rfl (by omega) (by omega) (by omega) rfl (by omega) (by omega) (by decide) (fun g40 => ?_) rfl
        generalize hzr : List.map AV.v _ = zs
        have hz1 : (L.take i ++ List.replicate (L.length + 1 - i) zs).length = L.length + 1 := by simp; omega
        refine Al_p Pu_mvr ?_
        refine Al_nil (Aw_seq (Aw_region ?_))
        refine Al_p Pu_mvl ?_
        refine Al_p Pu_mvl ?_
        refine Al_p (Pu_sliceOw i (L.take i ++ List.replicate (L.length + 1 - i) zs).length rfl Tryz.underlying65 Tryz.sizeOf34 rfl rfl ⟨_, rfl, rfl⟩ rfl ⟨by omega, .inl (by omega)⟩) ?_
        refine Al_p Pu_mvl ?_
        refine Al_copy (c := 1) (L := 1) rfl rfl rfl (by decide) (by kernel_rfl) Tryz.underlying65 Tryz.sizeOf34 (by decide) rfl rfl (.inr (.inr ⟨_, _, _, rfl, rfl, rfl⟩)) (by omega) Nat.one_pos (Nat.le_refl _) (by omega) ?_
        refine Al_nil (Aw_seq ?_)
        refine Aw_draw 8 (by kernel_rfl) (by kernel_rfl) ?_
        refine Dr_p Pu_mvl ?_
        refine Dr_p Pu_mvl ?_
        refine Dr_p Pu_mvl ?_
        refine Dr_p (Pu_add rfl rfl rfl (fun h1 h2 => by simp only [A.inI, A.maxI] at *; omega)) ?_
        refine Dr_p (Pu_sliceOw (i + 1) (L.length + 1) rfl Tryz.underlying65 Tryz.sizeOf34 rfl rfl ⟨_, rfl, by omega⟩ (by show L.length + 1 = _; simp; omega) ⟨by omega, .inl (by simp; omega)⟩) ?_
        refine Dr_p Pu_mvl ?_
        refine Dr_p Pu_mvl ?_
        refine Dr_p (Pu_sliceOw i L.length rfl Tryz.underlying65 Tryz.sizeOf34 rfl rfl ⟨_, rfl, rfl⟩ rfl ⟨by omega, .inl (by omega)⟩) ?_
        refine Dr_nil ?_
        refine Al_copy (c := L.length - i) (L := L.length - i) (news := L.drop i) rfl rfl rfl (by decide) (by kernel_rfl) Tryz.underlying65 Tryz.sizeOf34 (by decide) rfl rfl (.inr (.inl ⟨_, _, _, _, _, _, rfl, rfl, rfl, by rw [List.take_length]⟩)) (by omega) (by omega) (by simp) (by simp; omega) ?_
        refine Al_nil (Aw_seq (Aw_region ?_))
        refine Al_p Pu_mvl ?_
        refine Al_p Pu_mvr ?_
        refine Al_nil ?_
        refine Aw_ret ?_
        exact ⟨_, _, [(1003, 40, g40)], rfl, Sub.rfl, ⟨obeq (ins_grow (by omega)), trivial⟩, rfl⟩ -- ret 1
      · (try simp only [decide_eq_true_eq, decide_eq_false_iff_not, Bool.and_eq_true, Bool.or_eq_true, Bool.and_eq_false_iff, Bool.or_eq_false_iff, Bool.not_eq_true', Bool.not_eq_false', beq_iff_eq, Bool.not_eq_eq_eq_not, Bool.not_true, Bool.not_false, List.length_map, Bool.and_true, Bool.and_false, Bool.false_and, Bool.true_and, Bool.or_false, Bool.false_or] at h31)
        refine Aw_skip (Aw_seq (Aw_region ?_))
        refine Al_p Pu_mvl ?_
        refine Al_p Pu_mvl ?_
        refine Al_p Pu_mvl ?_
        refine Al_p (Pu_add rfl rfl rfl (fun h1 h2 => by simp only [A.inI, A.maxI] at *; omega)) ?_
        refine Al_p (Pu_sliceOw 0 (L.length + 1) rfl Tryz.underlying65 Tryz.sizeOf34 rfl rfl rfl ⟨_, rfl, by omega⟩ ⟨by omega, .inr ⟨900, gt, c, rfl, by omega⟩⟩) ?_
        refine Al_p Pu_mvr ?_
        refine Al_nil (Aw_seq (Aw_seq (Aw_region ?_)))
        refine Al_p Pu_mvl ?_
        refine Al_p Pu_mvl ?_
        refine Al_p Pu_mvl ?_
        refine Al_p Pu_mvl ?_
        refine Al_p (Pu_add rfl rfl rfl (fun h1 h2 => by simp only [A.inI, A.maxI] at *; omega)) ?_
        refine Al_p (Pu_sliceOws (i + 1) (i + 1) rfl Tryz.underlying65 Tryz.sizeOf34 rfl ⟨_, rfl, by omega⟩ (by omega) (by omega)) ?_
        refine Al_overlaps (tS := 65) (tR := 4) (e := 34) (fun args w => run_callFunc_extern Tryz.func142 (by kernel_rfl) (by kernel_rfl) (by kernel_rfl) (e := Extern.SlicesOverlaps.overlaps #[65, 65] #[4]) (by kernel_rfl) args w) rfl rfl rfl (by decide) (by kernel_rfl) Tryz.underlying65 Tryz.sizeOf34 (by decide) rfl rfl Nat.one_pos rfl rfl rfl (by omega) ?_
        refine Al_p (Pu_not rfl rfl) ?_
        refine Al_nil ?_
        refine Aw_cond rfl (fun h68 => ?_) (fun h68 => ?_)
        · (try simp only [decide_eq_true_eq, decide_eq_false_iff_not, Bool.and_eq_true, Bool.or_eq_true, Bool.and_eq_false_iff, Bool.or_eq_false_iff, Bool.not_eq_true', Bool.not_eq_false', beq_iff_eq, Bool.not_eq_eq_eq_not, Bool.not_true, Bool.not_false, List.length_map, Bool.and_true, Bool.and_false, Bool.false_and, Bool.true_and, Bool.or_false, Bool.false_or] at h68)
          refine Aw_seq ?_
          refine Aw_draw 8 (by kernel_rfl) (by kernel_rfl) ?_
          refine Dr_p Pu_mvl ?_
          refine Dr_p Pu_mvl ?_
          refine Dr_p Pu_mvl ?_
          refine Dr_p (Pu_add rfl rfl rfl (fun h1 h2 => by simp only [A.inI, A.maxI] at *; omega)) ?_
          refine Dr_p (Pu_sliceOws (i + 1) (i + 1) rfl Tryz.underlying65 Tryz.sizeOf34 rfl ⟨_, rfl, by omega⟩ (by omega) (by omega)) ?_
          refine Dr_p Pu_mvl ?_
          refine Dr_p Pu_mvl ?_
          refine Dr_p (Pu_sliceOws i i rfl Tryz.underlying65 Tryz.sizeOf34 rfl ⟨_, rfl, rfl⟩ (by omega) (by omega)) ?_
          refine Dr_nil ?_
          refine Al_copyUp (j := 0) (c := L.length - i) (L := L.length + 1 - i) (news := L.drop i) rfl rfl rfl (by decide) (by kernel_rfl) Tryz.underlying65 Tryz.sizeOf34 (by decide) rfl rfl (by show SV.ows 1001 0 6 0 (L.length + 1) = SV.ows 1001 0 6 0 (i + 1 + (L.length - i)); congr 1; omega) (.inr (.inl ⟨_, _, _, _, _, _, rfl, rfl, rfl, by rw [List.take_of_length_le (by omega)]⟩)) (by omega) (by omega) (by simp) (by omega) (by omega) (fun g77 => ?_)
          have hz2 : (L.take (i + 1) ++ (L.drop i).take (L.length - i)).length = L.length + 1 := by simp; omega
          refine Al_nil (Aw_seq (Aw_region ?_))
          refine Al_p Pu_mvl ?_
          refine Al_p Pu_mvl ?_
          refine Al_p (Pu_sliceOw i (L.take (i + 1) ++ (L.drop i).take (L.length - i)).length rfl Tryz.underlying65 Tryz.sizeOf34 rfl rfl ⟨_, rfl, rfl⟩ rfl ⟨by omega, .inl (by omega)⟩) ?_
          refine Al_p Pu_mvl ?_
          refine Al_copy (c := 1) (L := 1) rfl rfl rfl (by decide) (by kernel_rfl) Tryz.underlying65 Tryz.sizeOf34 (by decide) rfl rfl (.inr (.inr ⟨_, _, _, rfl, rfl, rfl⟩)) (by omega) Nat.one_pos (Nat.le_refl _) (by omega) ?_
          refine Al_nil (Aw_seq (Aw_region ?_))
          refine Al_p Pu_mvl ?_
          refine Al_p Pu_mvr ?_
          refine Al_nil ?_
          refine Aw_ret ?_
          exact ⟨_, _, [(1003, 1001, g77)], rfl, Sub.rfl, ⟨obeq (ins_room (by omega)), trivial⟩, rfl⟩ -- ret 2
        · (try simp only [decide_eq_true_eq, decide_eq_false_iff_not, Bool.and_eq_true, Bool.or_eq_true, Bool.and_eq_false_iff, Bool.or_eq_false_iff, Bool.not_eq_true', Bool.not_eq_false', beq_iff_eq, Bool.not_eq_eq_eq_not, Bool.not_true, Bool.not_false, List.length_map, Bool.and_true, Bool.and_false, Bool.false_and, Bool.true_and, Bool.or_false, Bool.false_or] at h68)
          exfalso; revert h68; decide
set_option maxRecDepth 100000 in
theorem indexV_a (l : List Ver) (f : FuncId) (caps : List AV) (p : Ver → Bool) (hf : ∀ x, ACall Tryz.prog f ([.row x.row] ++ caps) (bv (p x))) : ACall Tryz.prog 106 [.sl 6 (l.map Ver.row), .fn f caps] (iv (S.find p l)) := by
  refine ACall_enter (fun _ _ => by kernel_rfl) Tryz.func106 rfl Tryz.ntmps106 Tryz.results106 (Nat.le_of_ble_eq_true rfl) (fun hok M0 w0 hnl => ?_)
  have hlen := (hok _ (List.mem_cons_self ..)).len
  rw [List.length_map] at hlen
  refine Aw_seq (Aw_region ?_)
  refine Al_p Pu_mvr ?_
  refine Al_nil (Aw_seq (Aw_seq (Aw_region ?_)))
  refine Al_p Pu_mvl ?_
  refine Al_p (Pu_len rfl Tryz.underlying65 rfl (by first | exact List.length_map .. | exact rfl)) ?_
  refine Al_p Pu_mvl ?_
  refine Al_nil (Aw_block ?_)
  refine Aw_loopk (ι := Nat) [0, 1, 7] [] (fun k => [(8, .d (iv k))]) (fun k => []) (fun k => k ≤ l.length ∧ ∀ j (h : j < l.length), j < k → p l[j] = false) (fun k => l.length - k) (0) (⟨Nat.zero_le _, by intros; omega⟩) ⟨Sub.rfl, trivial⟩ trivial ?_
  rintro k ⟨hk0, hk2⟩
  refine Aw_seq (Aw_region ?_)
  refine Al_p (Pu_cmp rfl rfl rfl rfl) ?_
  refine Al_nil (Aw_seq ?_)
  refine Aw_cond rfl (fun h9 => ?_) (fun h9 => ?_)
  · (try simp only [decide_eq_true_eq, decide_eq_false_iff_not, Bool.and_eq_true, Bool.or_eq_true, Bool.and_eq_false_iff, Bool.or_eq_false_iff, Bool.not_eq_true', Bool.not_eq_false', beq_iff_eq, Bool.not_eq_eq_eq_not, Bool.not_true, Bool.not_false, List.length_map, Bool.and_true, Bool.and_false, Bool.false_and, Bool.true_and, Bool.or_false, Bool.false_or] at h9)
    have hk : k < l.length := by omega
    refine Aw_skip (Aw_seq (Aw_block (Aw_seq (Aw_region ?_))))
    refine Al_p Pu_mvl ?_
    refine Al_p Pu_mvr ?_
    refine Al_nil (Aw_seq (Aw_region ?_))
    refine Al_p Pu_mvl ?_
    refine Al_p Pu_mvl ?_
    refine Al_p Pu_mvl ?_
    refine Al_p (Pu_index rfl Tryz.underlying65 Tryz.sizeOf34 rfl rfl (rfl) (mapget hk)) ?_
    refine Al_p (Pu_loadN rfl Tryz.isAgg34 Tryz.sizeOf34 rfl (Nat.le_of_ble_eq_true rfl)) ?_
    refine Al_p (Pu_callv (aa := [(fun x => .row x.row) l[k]]) (caps := caps) (hf l[k]) rfl rfl ⟨Sub.rfl, trivial⟩) ?_
    refine Al_nil ?_
    refine Aw_cond rfl (fun h16 => ?_) (fun h16 => ?_)
    · skip
      refine Aw_seq (Aw_region ?_)
      refine Al_p Pu_mvl ?_
      refine Al_p Pu_mvr ?_
      refine Al_nil ?_
      refine Aw_ret ?_
      exact Sub.num (S.find_at hk h16 hk2) -- ret 0
    · skip
      have h16' : p l[k] = false := h16
      refine Aw_skip (Aw_region ?_)
      refine Al_p (Pu_add rfl rfl rfl (fun h1 h2 => by simp only [A.inI, A.maxI] at *; omega)) ?_
      refine Al_p Pu_mvl ?_
      refine Al_nil ?_
      exact ⟨k + 1, ⟨by omega, fun j hj hjk => by
        by_cases e : j = k
        · subst e; exact h16'
        · exact hk2 j hj (by omega)⟩, by omega, Le.ov ⟨Sub.num (by omega), trivial⟩ ⟨Sub.rfl, Sub.rfl, Sub.rfl, trivial⟩ trivial trivial⟩ -- loop 0 next.0
  · (try simp only [decide_eq_true_eq, decide_eq_false_iff_not, Bool.and_eq_true, Bool.or_eq_true, Bool.and_eq_false_iff, Bool.or_eq_false_iff, Bool.not_eq_true', Bool.not_eq_false', beq_iff_eq, Bool.not_eq_eq_eq_not, Bool.not_true, Bool.not_false, List.length_map, Bool.and_true, Bool.and_false, Bool.false_and, Bool.true_and, Bool.or_false, Bool.false_or] at h9)
    obtain rfl : k = l.length := by omega
    refine Aw_exit (Aw_seq (Aw_region ?_))
    refine Al_p Pu_mvr ?_
    refine Al_nil ?_
    refine Aw_ret ?_
    exact Sub.num (S.find_no hk2) -- ret 1
set_option maxRecDepth 100000 in
set_option maxHeartbeats 1000000 in
theorem delfuncV_g (l : List Ver) (f : FuncId) (caps : List AV) (p : Ver → Bool) (hf : ∀ x, ACall Tryz.prog f ([.row x.row] ++ caps) (bv (p x))) (hl : l.length ≤ 1000000) : GCall Tryz.prog 96 [.ow 1001 0, .d (.fn f caps)] [(1001, .arr 34 6 (l.map Ver.row))] (some ([(1002, .arr 34 6 ((l.filter fun x => !p x).map Ver.row))], .ow 1002 0)) := by
  refine GCall_enter (fun _ _ => by kernel_rfl) Tryz.func96 rfl Tryz.ntmps96 (ReadsS.r1 Tryz.results96) (Nat.le_of_ble_eq_true rfl) (fun hok hokB M0 w0 => ?_)
  have hu : ∀ (c : List Ver), ∀ r ∈ c.map Ver.row, r.length = 6 := fun c r hr => by obtain ⟨x, _, rfl⟩ := List.mem_map.1 hr; rfl
  refine Aw_seq (Aw_region ?_)
  refine Al_p Pu_mvr ?_
  refine Al_nil (Aw_seq (Aw_region ?_))
  refine Al_p Pu_mvl ?_
  refine Al_p Pu_mvl ?_
  refine Al_p (Pu_callR (indexV_a l f caps p hf) rfl rfl ⟨.inr ⟨1001, 0, _, _, _, rfl, rfl, rfl⟩, .inl Sub.rfl, trivial⟩) ?_
  refine Al_p Pu_mvr ?_
  refine Al_nil (Aw_seq (Aw_seq (Aw_region ?_)))
  refine Al_p Pu_mvl ?_
  refine Al_p (Pu_cmp rfl rfl rfl rfl) ?_
  refine Al_nil ?_
  refine Aw_cond rfl (fun h12 => ?_) (fun h12 => ?_)
  · (try simp only [decide_eq_true_eq, decide_eq_false_iff_not, Bool.and_eq_true, Bool.or_eq_true, Bool.and_eq_false_iff, Bool.or_eq_false_iff, Bool.not_eq_true', Bool.not_eq_false', beq_iff_eq, Bool.not_eq_eq_eq_not, Bool.not_true, Bool.not_false, List.length_map, Bool.and_true, Bool.and_false, Bool.false_and, Bool.true_and, Bool.or_false, Bool.false_or] at h12)
    have hno := S.find_neg h12
    refine Aw_seq (Aw_region ?_)
    refine Al_p Pu_mvl ?_
    refine Al_p Pu_mvr ?_
    refine Al_nil ?_
    refine Aw_ret ?_
    exact ⟨_, _, [(1002, 1001, 0)], rfl, Sub.rfl, ⟨obeq (by rw [hno]), trivial⟩, rfl⟩ -- ret 0
  · (try simp only [decide_eq_true_eq, decide_eq_false_iff_not, Bool.and_eq_true, Bool.or_eq_true, Bool.and_eq_false_iff, Bool.or_eq_false_iff, Bool.not_eq_true', Bool.not_eq_false', beq_iff_eq, Bool.not_eq_eq_eq_not, Bool.not_true, Bool.not_false, List.length_map, Bool.and_true, Bool.and_false, Bool.false_and, Bool.true_and, Bool.or_false, Bool.false_or] at h12)
    obtain ⟨i0, hi0, hfi, hpi, hbef⟩ := S.find_pos (p := p) (l := l) h12
    refine Aw_skip (Aw_seq (Aw_seq (Aw_region ?_)))
    refine Al_p Pu_mvl ?_
    refine Al_p (Pu_add rfl rfl rfl (fun h1 h2 => by simp only [A.inI, A.maxI] at *; omega)) ?_
    refine Al_p Pu_mvr ?_
    refine Al_nil (Aw_block ?_)
    refine Aw_loopk (ι := Nat × Nat × (List Ver)) [0, 1] [] (fun (i, j, c) => [(5, .d (iv i)), (6, .d (iv j))]) (fun (i, j, c) => [(1001, 0, .arr 34 6 (c.map Ver.row))]) (fun (i, j, c) => c.length = l.length ∧ i ≤ j ∧ j ≤ l.length ∧ c.take i = (l.take j).filter (fun x => !p x) ∧ c.drop j = l.drop j ∧ i < j) (fun (i, j, c) => l.length - j) (i0, i0 + 1, l) (⟨rfl, by omega, by omega, S.filter_first hi0 hpi hbef, rfl, by omega⟩) ⟨Sub.num hfi, Sub.num (by rw [hfi]; omega), trivial⟩ ⟨rfl, trivial⟩ ?_
    rintro ⟨i, j, c⟩ ⟨hcl, hij, hjl, hct, hcd, hij2⟩
    refine Aw_seq (Aw_seq (Aw_region ?_))
    refine Al_p Pu_mvl ?_
    refine Al_p Pu_mvl ?_
    refine Al_p (Pu_lenOw (m := l.length) rfl Tryz.underlying65 rfl rfl (by rw [List.length_map, hcl])) ?_
    refine Al_p (Pu_cmp rfl rfl rfl rfl) ?_
    refine Al_nil ?_
    refine Aw_cond rfl (fun h19 => ?_) (fun h19 => ?_)
    · (try simp only [decide_eq_true_eq, decide_eq_false_iff_not, Bool.and_eq_true, Bool.or_eq_true, Bool.and_eq_false_iff, Bool.or_eq_false_iff, Bool.not_eq_true', Bool.not_eq_false', beq_iff_eq, Bool.not_eq_eq_eq_not, Bool.not_true, Bool.not_false, List.length_map, Bool.and_true, Bool.and_false, Bool.false_and, Bool.true_and, Bool.or_false, Bool.false_or] at h19)
      have hj : j < l.length := by omega
      have hjc : j < (c.map Ver.row).length := by rw [List.length_map]; omega
      have hcj : c.getD j default = l[j] := S.drop_at hcd hj (by omega)
      have hrow := S.row_at (hu c) hjc
      rw [S.map_getD (by omega : j < c.length), hcj] at hrow
      have hset := S.flat_set (hu c) (x := Ver.row l[j]) (i := i) (by rw [List.length_map]; omega) rfl
      refine Aw_skip ?_
      -- join 0: live [0, 1, 5, 6], turned [5]
      refine Aw_seq (Aw_block (Aw_seq (Aw_region ?_)))
      refine Al_p Pu_mvl ?_
      refine Al_p Pu_mvl ?_
      refine Al_p (Pu_indexOw (j := j) rfl Tryz.underlying65 Tryz.sizeOf34 rfl rfl rfl rfl hjc) ?_
      refine Al_p (Pu_loadArrN rfl Tryz.isAgg34 Tryz.sizeOf34 rfl rfl hrow rfl) ?_
      refine Al_alloc rfl rfl rfl (by decide) Tryz.zeroValue34 rfl (by kernel_rfl) (fun g7 => ?_)
      refine Al_storeN rfl rfl rfl (by kernel_rfl) Tryz.isAgg34 Tryz.sizeOf34 rfl rfl rfl rfl (Nat.le_of_ble_eq_true rfl) ?_
      refine Al_nil (Aw_seq (Aw_region ?_))
      refine Al_p Pu_mvl ?_
      refine Al_p (Pu_loadbN (r := [_, _, _, _, _, _]) rfl Tryz.isAgg34 Tryz.sizeOf34 rfl rfl rfl rfl) ?_
      refine Al_p (Pu_callv (aa := [(fun x => .row x.row) l[j]]) (caps := caps) (hf l[j]) rfl rfl ⟨Sub.rfl, trivial⟩) ?_
      refine Al_p (Pu_not rfl rfl) ?_
      refine Al_nil ?_
      refine Aw_cond rfl (fun h29 => ?_) (fun h29 => ?_)
      · skip
        have hpj : p l[j] = false := by simpa using h29
        refine Aw_seq (Aw_region ?_)
        refine Al_p Pu_mvl ?_
        refine Al_p Pu_mvl ?_
        refine Al_p (Pu_loadbN (r := [_, _, _, _, _, _]) rfl Tryz.isAgg34 Tryz.sizeOf34 rfl rfl rfl rfl) ?_
        refine Al_p (Pu_indexOw (j := i) rfl Tryz.underlying65 Tryz.sizeOf34 rfl rfl rfl rfl (by rw [List.length_map]; omega)) ?_
        refine Al_storeArr ((c.map Ver.row).set i (Ver.row l[j])) rfl rfl rfl (by kernel_rfl) Tryz.sizeOf34 rfl rfl rfl rfl rfl (by rw [List.length_map]; omega) (by simp) (fun q hq => by rcases List.mem_or_eq_of_mem_set hq with h | rfl; exact hu c q h; rfl) hset ?_
        refine Al_nil (Aw_region ?_)
        refine Al_p Pu_mvl ?_
        refine Al_p (Pu_add rfl rfl rfl (fun h1 h2 => by simp only [A.inI, A.maxI] at *; omega)) ?_
        refine Al_p Pu_mvr ?_
        refine Al_nil (Aw_region ?_)
        refine Al_p Pu_mvl ?_
        refine Al_p (Pu_add rfl rfl rfl (fun h1 h2 => by simp only [A.inI, A.maxI] at *; omega)) ?_
        refine Al_p Pu_mvr ?_
        refine Al_nil ?_
        exact ⟨(i + 1, j + 1, c.set i l[j]), ⟨by rw [List.length_set, hcl], by omega, by omega, S.del_keep hj hct hpj (by omega), by rw [List.drop_set_of_lt (by omega), ← List.drop_drop, hcd, List.drop_drop], by omega⟩, by simp only []; omega, Le.ov ⟨Sub.num (by omega), Sub.num (by omega), trivial⟩ ⟨Sub.rfl, Sub.rfl, trivial⟩ ⟨obeq (by rw [List.map_set]), trivial⟩ trivial⟩ -- loop 0 next.0
      · skip
        have hpj : p l[j] = true := by simpa using h29
        refine Aw_skip (Aw_region ?_)
        refine Al_p Pu_mvl ?_
        refine Al_p (Pu_add rfl rfl rfl (fun h1 h2 => by simp only [A.inI, A.maxI] at *; omega)) ?_
        refine Al_p Pu_mvr ?_
        refine Al_nil ?_
        exact ⟨(i, j + 1, c), ⟨hcl, by omega, by omega, S.del_drop hj hct hpj, by rw [← List.drop_drop, hcd, List.drop_drop], by omega⟩, by simp only []; omega, Le.ov ⟨Sub.rfl, Sub.num (by omega), trivial⟩ ⟨Sub.rfl, Sub.rfl, trivial⟩ ⟨rfl, trivial⟩ trivial⟩ -- loop 0 next.1
    · (try simp only [decide_eq_true_eq, decide_eq_false_iff_not, Bool.and_eq_true, Bool.or_eq_true, Bool.and_eq_false_iff, Bool.or_eq_false_iff, Bool.not_eq_true', Bool.not_eq_false', beq_iff_eq, Bool.not_eq_eq_eq_not, Bool.not_true, Bool.not_false, List.length_map, Bool.and_true, Bool.and_false, Bool.false_and, Bool.true_and, Bool.or_false, Bool.false_or] at h19)
      obtain rfl : j = l.length := by omega
      rw [List.take_length] at hct
      have hfl : ∀ zz, ((c.map Ver.row).take i ++ List.replicate ((c.map Ver.row).length - i) zz).take i = (l.filter fun x => !p x).map Ver.row := fun zz => by
        rw [← hct, List.map_take, List.take_append_of_le_length (by simp; omega), List.take_take, Nat.min_self]
      refine Aw_exit (Aw_seq (Aw_region ?_))
      refine Al_p Pu_mvl ?_
      refine Al_p Pu_mvl ?_
      refine Al_p (Pu_sliceOw i (c.map Ver.row).length rfl Tryz.underlying65 Tryz.sizeOf34 rfl rfl ⟨_, rfl, rfl⟩ rfl ⟨by rw [List.length_map]; omega, .inl (Nat.le_refl _)⟩) ?_
      refine Al_clear0 rfl rfl rfl (by kernel_rfl) Tryz.underlying65 Tryz.zeroValue34 rfl (by decide) rfl (by decide) rfl rfl rfl ?_
      refine Al_nil (Aw_seq (Aw_region ?_))
      refine Al_p Pu_mvl ?_
      refine Al_p Pu_mvl ?_
      refine Al_cut i rfl rfl rfl (by decide) (by kernel_rfl) Tryz.underlying65 Tryz.sizeOf34 rfl rfl rfl ⟨_, rfl, rfl⟩ (by simp; omega) (fun g41 => ?_)
      refine Al_p Pu_mvr ?_
      refine Al_nil ?_
      refine Aw_ret ?_
      exact ⟨_, _, [(1002, 1001, g41)], rfl, Sub.rfl, ⟨obeq (hfl _), trivial⟩, rfl⟩ -- ret 1
abbrev stA (x : Int × Int) : List AV := [iv x.1, iv x.2]
abbrev verA (o : Option Ver) : AV := .tup [.row (o.getD default).row, bv o.isSome]
namespace J
def notB (n s : Int) (v : Ver) : Bool := !D.lessB v.n v.s n s
/-- The place of the first one that is not below a stamp. -/
def frm (l : List Ver) (n s : Int) : Nat := l.findIdx (notB n s)
theorem frm_le (l : List Ver) (n s : Int) : frm l n s ≤ l.length := List.findIdx_le_length
def told (l : List Ver) (i : Int) : Option Ver := if 0 ≤ i ∧ i < l.length then l[i.toNat]? else none
def head (l : List Ver) : Option Ver := told l ((l.length : Int) - 1)
def isSt (n s : Int) (v : Ver) : Bool := (v.n == n) && (v.s == s)
def atc (l : List Ver) (n s : Int) : Option Ver := (l[frm l n s]?).filter (isSt n s)
def below (l : List Ver) (n s : Int) : Option Ver := match atc l n s with
  | some v => some v
  | none => told l ((frm l n s : Int) - 1)
def isO (o : Option Ver) (v : Ver) : Bool := o.isSome && decide (o.getD default = v)
def keeps (l : List Ver) (n s : Int) (pins : List (Int × Int)) (v : Ver) : Bool := pins.any (fun p => (v.n == p.1) && (v.s == p.2)) || !D.lessB v.n v.s n s || isO (head l) v || isO (below l n s) v
def clean (l : List Ver) (n s : Int) (pins : List (Int × Int)) : List Ver := l.filter (keeps l n s pins)
/-- A version that may be put. -/
def putB (l : List Ver) (v : Ver) : Bool := checkB v && (l.all fun x => decide (x = l.getD 0 default → x.key.toList = v.key.toList)) && !((l[frm l v.n v.s]?).any (isSt v.n v.s))
def put (l : List Ver) (v : Ver) : Option (List Ver) := if checkB v = true ∧ (∀ x, l[0]? = some x → x.key.toList = v.key.toList) ∧ (∀ x, l[frm l v.n v.s]? = some x → isSt v.n v.s x = false) then some (l.take (frm l v.n v.s) ++ v :: l.drop (frm l v.n v.s)) else none
theorem find_frm (l : List Ver) (n s : Int) : (S.find (notB n s) l < 0 ∧ frm l n s = l.length) ∨ S.find (notB n s) l = frm l n s := by
  unfold S.find frm
  split
  · exact .inr rfl
  · rename_i h
    refine .inl ⟨by omega, ?_⟩
    apply Nat.le_antisymm List.findIdx_le_length
    rw [Nat.le_iff_lt_or_eq]
    refine .inr (List.findIdx_eq_length.2 ?_).symm
    intro x hx
    cases hp : notB n s x with
    | false => rfl
    | true => exact (h (List.any_eq_true.2 ⟨x, hx, hp⟩)).elim
theorem told_at {l : List Ver} {i : Nat} (hi : i < l.length) : told l i = some l[i] := by
  unfold told
  rw [if_pos ⟨by omega, by omega⟩, Int.toNat_natCast, List.getElem?_eq_getElem hi]
theorem told_no {l : List Ver} {i : Int} (hi : i < 0 ∨ l.length ≤ i) : told l i = none := if_neg (by omega)
end J
set_option maxRecDepth 100000 in
theorem cfrom1_a (v : Ver) (n s : Int) : ACall Tryz.prog 141 [.row v.row, .fp [iv n, iv s]] (bv (J.notB n s v)) := by
  refine ACall_enter (fun _ _ => by kernel_rfl) Tryz.func141 rfl Tryz.ntmps141 Tryz.results141 (Nat.le_of_ble_eq_true rfl) (fun hok M0 w0 hnl => ?_)
  refine Aw_seq (Aw_region ?_)
  refine Al_p (Pu_boxN rfl rfl) ?_
  refine Al_p Pu_mvr ?_
  refine Al_nil (Aw_seq (Aw_region ?_))
  refine Al_p (Pu_field 3 rfl Tryz.underlying34 rfl rfl Tryz.sizeOf31 rfl) ?_
  refine Al_p (Pu_loadN rfl Tryz.isAgg31 Tryz.sizeOf31 rfl (Nat.le_of_ble_eq_true rfl)) ?_
  refine Al_p (Pu_loadN rfl Tryz.isAgg31 Tryz.sizeOf31 rfl (Nat.le_of_ble_eq_true rfl)) ?_
  refine Al_p (Pu_call (less_a _ _ _ _) rfl ⟨Sub.rfl, Sub.rfl, trivial⟩) ?_
  refine Al_p (Pu_not rfl rfl) ?_
  refine Al_p Pu_mvr ?_
  refine Al_nil ?_
  refine Aw_ret ?_
  exact Sub.rfl -- ret 0
theorem cfrom_a (l : List Ver) (n s : Int) : ACall Tryz.prog 127 [versA l, .row [iv n, iv s]] (iv (J.frm l n s : Nat)) := by
  refine ACall_enter (fun _ _ => by kernel_rfl) Tryz.func127 rfl Tryz.ntmps127 Tryz.results127 (Nat.le_of_ble_eq_true rfl) (fun hok M0 w0 hnl => ?_)
  have hlen := (hok _ (List.mem_cons_self ..)).len
  rw [List.length_map] at hlen
  have hix := indexV_a l 141 [.fp [iv n, iv s]] (J.notB n s) fun v => cfrom1_a v n s
  refine Aw_seq (Aw_region ?_)
  refine Al_p (Pu_boxN rfl rfl) ?_
  refine Al_p Pu_mvr ?_
  refine Al_nil (Aw_seq (Aw_region ?_))
  refine Al_p Pu_mvl ?_
  refine Al_p (Pu_makeFunc (caps := [_]) rfl ⟨Sub.rfl, trivial⟩) ?_
  refine Al_p (Pu_call (hix) rfl ⟨Sub.rfl, Sub.rfl, trivial⟩) ?_
  refine Al_p Pu_mvr ?_
  refine Al_nil (Aw_seq (Aw_seq (Aw_region ?_)))
  refine Al_p Pu_mvl ?_
  refine Al_p (Pu_cmp rfl rfl rfl rfl) ?_
  refine Al_nil ?_
  refine Aw_cond rfl (fun h10 => ?_) (fun h10 => ?_)
  · (try simp only [decide_eq_true_eq, decide_eq_false_iff_not, Bool.and_eq_true, Bool.or_eq_true, Bool.and_eq_false_iff, Bool.or_eq_false_iff, Bool.not_eq_true', Bool.not_eq_false', beq_iff_eq, Bool.not_eq_eq_eq_not, Bool.not_true, Bool.not_false, List.length_map, Bool.and_true, Bool.and_false, Bool.false_and, Bool.true_and, Bool.or_false, Bool.false_or] at h10)
    refine Aw_seq (Aw_region ?_)
    refine Al_p Pu_mvl ?_
    refine Al_p (Pu_len rfl Tryz.underlying65 rfl (by first | exact List.length_map .. | exact rfl)) ?_
    refine Al_p Pu_mvr ?_
    refine Al_nil ?_
    refine Aw_ret ?_
    exact Sub.num (by rcases J.find_frm l n s with h | h <;> omega) -- ret 0
  · (try simp only [decide_eq_true_eq, decide_eq_false_iff_not, Bool.and_eq_true, Bool.or_eq_true, Bool.and_eq_false_iff, Bool.or_eq_false_iff, Bool.not_eq_true', Bool.not_eq_false', beq_iff_eq, Bool.not_eq_eq_eq_not, Bool.not_true, Bool.not_false, List.length_map, Bool.and_true, Bool.and_false, Bool.false_and, Bool.true_and, Bool.or_false, Bool.false_or] at h10)
    refine Aw_skip (Aw_seq (Aw_region ?_))
    refine Al_p Pu_mvl ?_
    refine Al_p Pu_mvr ?_
    refine Al_nil ?_
    refine Aw_ret ?_
    exact Sub.num (by rcases J.find_frm l n s with h | h <;> omega) -- ret 1
set_option maxRecDepth 100000 in
theorem ctold_a (l : List Ver) (i : Int) : ACall Tryz.prog 122 [versA l, iv i] (verA (J.told l i)) := by
  refine ACall_enterG (fun _ _ => by kernel_rfl) Tryz.func122 rfl Tryz.ntmps122 (Reads.cN1 Tryz.results122 Tryz.isAgg34 Tryz.sizeOf34) (Nat.le_of_ble_eq_true rfl) (fun hok M0 w0 hnl => ?_)
  have hlen := (hok _ (List.mem_cons_self ..)).len
  rw [List.length_map] at hlen
  refine Aw_seq (Aw_region ?_)
  refine Al_alloc rfl rfl rfl (by decide) Tryz.zeroValue34 rfl (by kernel_rfl) (fun g4 => ?_)
  refine Al_p Pu_mvr ?_
  refine Al_nil (Aw_seq (Aw_seq (Aw_region ?_)))
  refine Al_p Pu_mvl ?_
  refine Al_p (Pu_cmp rfl rfl rfl rfl) ?_
  refine Al_p Pu_mvl ?_
  refine Al_st (St_gd [] rfl rfl rfl rfl trivial (fun hg9 => by exact Pu_move (.inl rfl) (by conv => lhs; whnf))) rfl (by decide) (by kernel_rfl) (by intro j b oj dj h1 h2 h3; cases h1; cases h2; cases h3; decide) ?_
  refine Al_st (St_gd [] rfl rfl rfl rfl trivial (fun hg10 => by exact Pu_move (.inl rfl) (by conv => lhs; whnf))) rfl (by decide) (by kernel_rfl) (by intro j b oj dj h1 h2 h3; cases h1; cases h2; cases h3; decide) ?_
  refine Al_st (St_gd [10] rfl rfl rfl rfl ⟨⟨_, rfl⟩, trivial⟩ (fun hg11 => by exact Pu_len rfl Tryz.underlying65 rfl (by first | exact List.length_map .. | exact rfl))) rfl (by decide) (by kernel_rfl) (by intro j b oj dj h1 h2 h3; cases h1; cases h2; cases h3; decide) ?_
  refine Al_st (St_gd [9, 11] rfl rfl rfl rfl ⟨⟨_, rfl⟩, ⟨_, rfl⟩, trivial⟩ (fun hg12 => Pu_cmp rfl rfl rfl rfl)) rfl (by decide) (by kernel_rfl) (by intro j b oj dj h1 h2 h3; cases h1; cases h2; cases h3; decide) ?_
  refine Al_p (Pu_or rfl rfl rfl rfl) ?_
  refine Al_nil ?_
  refine Aw_cond rfl (fun h13 => ?_) (fun h13 => ?_)
  · (try simp only [decide_eq_true_eq, decide_eq_false_iff_not, Bool.and_eq_true, Bool.or_eq_true, Bool.and_eq_false_iff, Bool.or_eq_false_iff, Bool.not_eq_true', Bool.not_eq_false', beq_iff_eq, Bool.not_eq_eq_eq_not, Bool.not_true, Bool.not_false, List.length_map, Bool.and_true, Bool.and_false, Bool.false_and, Bool.true_and, Bool.or_false, Bool.false_or] at h13)
    refine Aw_seq (Aw_region ?_)
    refine Al_p (Pu_build (aa := []) rfl Tryz.underlying34 Tryz.zeroValue34 (places34 Tryz.underlying34) (by kernel_rfl) trivial rfl) ?_
    refine Al_storeN rfl rfl rfl (by kernel_rfl) Tryz.isAgg34 Tryz.sizeOf34 rfl rfl rfl rfl (Nat.le_of_ble_eq_true rfl) ?_
    refine Al_p Pu_mvr ?_
    refine Al_nil ?_
    refine Aw_boxle (k := 4) ((default : Ver).row.map .d) rfl ⟨Sub.rfl, Sub.rfl, Sub.rfl, Sub.rfl, Sub.rfl, Sub.nil, trivial⟩ ?_
    refine Aw_ret ?_
    exact ⟨_, _, _, _, _, [_, _, _, _, _, _], _, rfl, rfl, rfl, rfl, Sub.rfl, by rw [J.told_no (by omega)]; rfl⟩ -- ret 0
  · (try simp only [decide_eq_true_eq, decide_eq_false_iff_not, Bool.and_eq_true, Bool.or_eq_true, Bool.and_eq_false_iff, Bool.or_eq_false_iff, Bool.not_eq_true', Bool.not_eq_false', beq_iff_eq, Bool.not_eq_eq_eq_not, Bool.not_true, Bool.not_false, List.length_map, Bool.and_true, Bool.and_false, Bool.false_and, Bool.true_and, Bool.or_false, Bool.false_or] at h13)
    obtain ⟨k, rfl⟩ : ∃ k : Nat, i = k := ⟨i.toNat, by omega⟩
    have hk : k < l.length := by omega
    refine Aw_skip (Aw_seq (Aw_region ?_))
    refine Al_p Pu_mvl ?_
    refine Al_p Pu_mvl ?_
    refine Al_p (Pu_index rfl Tryz.underlying65 Tryz.sizeOf34 rfl rfl (rfl) (mapgetD (d := default) hk)) ?_
    refine Al_p (Pu_loadN rfl Tryz.isAgg34 Tryz.sizeOf34 rfl (Nat.le_of_ble_eq_true rfl)) ?_
    refine Al_storeN rfl rfl rfl (by kernel_rfl) Tryz.isAgg34 Tryz.sizeOf34 rfl rfl rfl rfl (Nat.le_of_ble_eq_true rfl) ?_
    refine Al_p Pu_mvr ?_
    refine Al_nil ?_
    refine Aw_ret ?_
    exact ⟨_, _, _, _, _, [_, _, _, _, _, _], _, rfl, rfl, rfl, rfl, Sub.rfl, by
      rw [J.told_at hk, show l[k] = l.getD k default from by simp [hk]]; rfl⟩ -- ret 1
set_option maxRecDepth 100000 in
theorem chead_a (l : List Ver) : ACall Tryz.prog 109 [versA l] (verA (J.head l)) := by
  refine ACall_enterG (fun _ _ => by kernel_rfl) Tryz.func109 rfl Tryz.ntmps109 (Reads.cN1 Tryz.results109 Tryz.isAgg34 Tryz.sizeOf34) (Nat.le_of_ble_eq_true rfl) (fun hok M0 w0 hnl => ?_)
  have hlen := (hok _ (List.mem_cons_self ..)).len
  rw [List.length_map] at hlen
  refine Aw_seq (Aw_region ?_)
  refine Al_alloc rfl rfl rfl (by decide) Tryz.zeroValue34 rfl (by kernel_rfl) (fun g2 => ?_)
  refine Al_p Pu_mvr ?_
  refine Al_nil (Aw_seq (Aw_region ?_))
  refine Al_p Pu_mvl ?_
  refine Al_p Pu_mvl ?_
  refine Al_p (Pu_len rfl Tryz.underlying65 rfl (by first | exact List.length_map .. | exact rfl)) ?_
  refine Al_p (Pu_sub rfl rfl rfl (fun h1 h2 => by simp only [A.inI, A.maxI] at *; omega)) ?_
  refine Al_p (Pu_call (ctold_a l _) rfl ⟨Sub.rfl, Sub.rfl, trivial⟩) ?_
  refine Al_p (Pu_extract rfl rfl rfl) ?_
  refine Al_p (Pu_extract rfl rfl rfl) ?_
  refine Al_storeN rfl rfl rfl (by kernel_rfl) Tryz.isAgg34 Tryz.sizeOf34 rfl rfl rfl rfl (Nat.le_of_ble_eq_true rfl) ?_
  refine Al_p Pu_mvr ?_
  refine Al_nil ?_
  refine Aw_ret ?_
  exact ⟨_, _, _, _, _, [_, _, _, _, _, _], _, rfl, rfl, rfl, rfl, Sub.rfl, rfl⟩ -- ret 0
set_option maxRecDepth 100000 in
theorem cat_a (l : List Ver) (n s : Int) : ACall Tryz.prog 118 [versA l, .row [iv n, iv s]] (verA (J.atc l n s)) := by
  refine ACall_enterG (fun _ _ => by kernel_rfl) Tryz.func118 rfl Tryz.ntmps118 (Reads.cN1 Tryz.results118 Tryz.isAgg34 Tryz.sizeOf34) (Nat.le_of_ble_eq_true rfl) (fun hok M0 w0 hnl => ?_)
  refine Aw_seq (Aw_region ?_)
  refine Al_p (Pu_boxN rfl rfl) ?_
  refine Al_alloc rfl rfl rfl (by decide) Tryz.zeroValue34 rfl (by kernel_rfl) (fun g4 => ?_)
  refine Al_p Pu_mvr ?_
  refine Al_nil (Aw_seq (Aw_region ?_))
  refine Al_p Pu_mvl ?_
  refine Al_p Pu_mvl ?_
  refine Al_p (Pu_loadN rfl Tryz.isAgg31 Tryz.sizeOf31 rfl (Nat.le_of_ble_eq_true rfl)) ?_
  refine Al_p (Pu_call (cfrom_a l n s) rfl ⟨Sub.rfl, Sub.rfl, trivial⟩) ?_
  refine Al_p (Pu_call (ctold_a l _) rfl ⟨Sub.rfl, Sub.rfl, trivial⟩) ?_
  refine Al_p Pu_mvl ?_
  refine Al_p (Pu_extract rfl rfl rfl) ?_
  refine Al_p (Pu_extract rfl rfl rfl) ?_
  refine Al_alloc rfl rfl rfl (by decide) Tryz.zeroValue34 rfl (by kernel_rfl) (fun g6 => ?_)
  refine Al_storeN rfl rfl rfl (by kernel_rfl) Tryz.isAgg34 Tryz.sizeOf34 rfl rfl rfl rfl (Nat.le_of_ble_eq_true rfl) ?_
  refine Al_p Pu_mvr ?_
  refine Al_nil (Aw_seq (Aw_seq (Aw_region ?_)))
  refine Al_p Pu_mvl ?_
  refine Al_p (Pu_not rfl rfl) ?_
  refine Al_p Pu_mvl ?_
  refine Al_st (St_gd [] rfl rfl rfl rfl trivial (fun hg19 => Pu_fieldb 3 rfl Tryz.underlying34 rfl rfl Tryz.sizeOf31 rfl)) rfl (by decide) (by kernel_rfl) (by intro j b oj dj h1 h2 h3; cases h1; cases h2; cases h3; decide) ?_
  refine Al_st (St_gd [19] rfl rfl rfl rfl ⟨⟨_, rfl⟩, trivial⟩ (fun hg20 => Pu_loadbN (r := [_, _]) rfl Tryz.isAgg31 Tryz.sizeOf31 rfl rfl rfl rfl)) rfl (by decide) (by kernel_rfl) (by intro j b oj dj h1 h2 h3; cases h1; cases h2; cases h3; decide) ?_
  refine Al_st (St_gd [] rfl rfl rfl rfl trivial (fun hg21 => Pu_loadN rfl Tryz.isAgg31 Tryz.sizeOf31 rfl (Nat.le_of_ble_eq_true rfl))) rfl (by decide) (by kernel_rfl) (by intro j b oj dj h1 h2 h3; cases h1; cases h2; cases h3; decide) ?_
  refine Al_st (St_gd [20, 21] rfl rfl rfl rfl ⟨⟨_, rfl⟩, ⟨_, rfl⟩, trivial⟩ (fun hg22 => Pu_eqrow [.int .i64 _, .int .i64 _] [.int .i64 _, .int .i64 _] (fun w => nev31 _ _ _ _ _ _ w) rfl rfl rfl)) rfl (by decide) (by kernel_rfl) (by intro j b oj dj h1 h2 h3; cases h1; cases h2; cases h3; decide) ?_
  refine Al_p (Pu_or rfl rfl rfl rfl) ?_
  refine Al_nil ?_
  refine Aw_cond rfl (fun h23 => ?_) (fun h23 => ?_)
  · skip
    have hno : J.atc l n s = none := by
      unfold J.atc
      rcases Nat.lt_or_ge (J.frm l n s) l.length with h | h
      · rw [J.told_at h] at h23
        rw [List.getElem?_eq_getElem h, Option.filter_some]
        simp only [Option.isSome_some, Option.getD_some, Bool.not_true, Bool.false_or, Bool.not_eq_true'] at h23
        rw [if_neg (by unfold J.isSt; rw [h23]; decide)]
      · rw [List.getElem?_eq_none h]; rfl
    refine Aw_seq (Aw_region ?_)
    refine Al_p (Pu_build (aa := []) rfl Tryz.underlying34 Tryz.zeroValue34 (places34 Tryz.underlying34) (by kernel_rfl) trivial rfl) ?_
    refine Al_storeN rfl rfl rfl (by kernel_rfl) Tryz.isAgg34 Tryz.sizeOf34 rfl rfl rfl rfl (Nat.le_of_ble_eq_true rfl) ?_
    refine Al_p Pu_mvr ?_
    refine Al_nil ?_
    refine Aw_boxle (k := 4) ((default : Ver).row.map .d) rfl ⟨Sub.rfl, Sub.rfl, Sub.rfl, Sub.rfl, Sub.rfl, Sub.nil, trivial⟩ ?_
    refine Aw_ret ?_
    exact ⟨_, _, _, _, _, [_, _, _, _, _, _], _, rfl, rfl, rfl, rfl, Sub.rfl, by rw [hno]; rfl⟩ -- ret 0
  · skip
    have hyes : J.atc l n s = J.told l (J.frm l n s : Nat) := by
      unfold J.atc
      rcases Nat.lt_or_ge (J.frm l n s) l.length with h | h
      · rw [J.told_at h] at h23 ⊢
        rw [List.getElem?_eq_getElem h, Option.filter_some]
        simp only [Option.isSome_some, Option.getD_some, Bool.not_true, Bool.false_or, Bool.not_eq_false'] at h23
        rw [if_pos (by unfold J.isSt; rw [h23])]
      · rw [J.told_no (.inr (by omega)), List.getElem?_eq_none h]; rfl
    have hsm : (J.told l (J.frm l n s : Nat)).isSome = true := by
      cases h : (J.told l (J.frm l n s : Nat)).isSome with
      | true => rfl
      | false => rw [h] at h23; simp at h23
    refine Aw_skip (Aw_seq (Aw_region ?_))
    refine Al_p (Pu_loadbN (r := [_, _, _, _, _, _]) rfl Tryz.isAgg34 Tryz.sizeOf34 rfl rfl rfl rfl) ?_
    refine Al_storeN rfl rfl rfl (by kernel_rfl) Tryz.isAgg34 Tryz.sizeOf34 rfl rfl rfl rfl (Nat.le_of_ble_eq_true rfl) ?_
    refine Al_p Pu_mvr ?_
    refine Al_nil ?_
    refine Aw_ret ?_
    exact ⟨_, _, _, _, _, [_, _, _, _, _, _], _, rfl, rfl, rfl, rfl, Sub.rfl, by rw [hyes, verA, hsm]; rfl⟩ -- ret 1
set_option maxRecDepth 100000 in
theorem cbelow_a (l : List Ver) (n s : Int) : ACall Tryz.prog 133 [versA l, .row [iv n, iv s]] (verA (J.below l n s)) := by
  refine ACall_enterG (fun _ _ => by kernel_rfl) Tryz.func133 rfl Tryz.ntmps133 (Reads.cN1 Tryz.results133 Tryz.isAgg34 Tryz.sizeOf34) (Nat.le_of_ble_eq_true rfl) (fun hok M0 w0 hnl => ?_)
  have hlen := (hok _ (List.mem_cons_self ..)).len
  rw [List.length_map] at hlen
  have hfl := J.frm_le l n s
  refine Aw_seq (Aw_region ?_)
  refine Al_p (Pu_boxN rfl rfl) ?_
  refine Al_alloc rfl rfl rfl (by decide) Tryz.zeroValue34 rfl (by kernel_rfl) (fun g4 => ?_)
  refine Al_p Pu_mvr ?_
  refine Al_nil (Aw_seq (Aw_region ?_))
  refine Al_p Pu_mvl ?_
  refine Al_p (Pu_loadN rfl Tryz.isAgg31 Tryz.sizeOf31 rfl (Nat.le_of_ble_eq_true rfl)) ?_
  refine Al_p (Pu_call (cat_a l n s) rfl ⟨Sub.rfl, Sub.rfl, trivial⟩) ?_
  refine Al_p Pu_mvl ?_
  refine Al_p (Pu_extract rfl rfl rfl) ?_
  refine Al_p (Pu_extract rfl rfl rfl) ?_
  refine Al_alloc rfl rfl rfl (by decide) Tryz.zeroValue34 rfl (by kernel_rfl) (fun g6 => ?_)
  refine Al_storeN rfl rfl rfl (by kernel_rfl) Tryz.isAgg34 Tryz.sizeOf34 rfl rfl rfl rfl (Nat.le_of_ble_eq_true rfl) ?_
  refine Al_p Pu_mvr ?_
  refine Al_nil (Aw_seq (Aw_seq (Aw_region ?_)))
  refine Al_p Pu_mvl ?_
  refine Al_nil ?_
  refine Aw_cond rfl (fun h14 => ?_) (fun h14 => ?_)
  · skip
    obtain ⟨v, hv⟩ := Option.isSome_iff_exists.1 h14
    refine Aw_seq (Aw_region ?_)
    refine Al_p (Pu_loadbN (r := [_, _, _, _, _, _]) rfl Tryz.isAgg34 Tryz.sizeOf34 rfl rfl rfl rfl) ?_
    refine Al_storeN rfl rfl rfl (by kernel_rfl) Tryz.isAgg34 Tryz.sizeOf34 rfl rfl rfl rfl (Nat.le_of_ble_eq_true rfl) ?_
    refine Al_p Pu_mvr ?_
    refine Al_nil ?_
    refine Aw_ret ?_
    exact ⟨_, _, _, _, _, [_, _, _, _, _, _], _, rfl, rfl, rfl, rfl, Sub.rfl, by unfold J.below; rw [hv]; rfl⟩ -- ret 0
  · skip
    have hv : J.atc l n s = none := by simpa using h14
    refine Aw_skip (Aw_seq (Aw_region ?_))
    refine Al_p Pu_mvl ?_
    refine Al_p Pu_mvl ?_
    refine Al_p (Pu_loadN rfl Tryz.isAgg31 Tryz.sizeOf31 rfl (Nat.le_of_ble_eq_true rfl)) ?_
    refine Al_p (Pu_call (cfrom_a l n s) rfl ⟨Sub.rfl, Sub.rfl, trivial⟩) ?_
    refine Al_p (Pu_sub rfl rfl rfl (fun h1 h2 => by simp only [A.inI, A.maxI] at *; omega)) ?_
    refine Al_p (Pu_call (ctold_a l _) rfl ⟨Sub.rfl, Sub.rfl, trivial⟩) ?_
    refine Al_p (Pu_extract rfl rfl rfl) ?_
    refine Al_p (Pu_extract rfl rfl rfl) ?_
    refine Al_storeN rfl rfl rfl (by kernel_rfl) Tryz.isAgg34 Tryz.sizeOf34 rfl rfl rfl rfl (Nat.le_of_ble_eq_true rfl) ?_
    refine Al_p Pu_mvr ?_
    refine Al_nil ?_
    refine Aw_ret ?_
    exact ⟨_, _, _, _, _, [_, _, _, _, _, _], _, rfl, rfl, rfl, rfl, Sub.rfl, by unfold J.below; rw [hv]; rfl⟩ -- ret 1
set_option maxRecDepth 100000 in
set_option maxHeartbeats 1000000 in
theorem cput_a (l : List Ver) (v : Ver) (hl : l.length ≤ 1000) : ACall Tryz.prog 111 [versA l, .row v.row] (.tup [versA ((J.put l v).getD l), bv (J.put l v).isSome]) := by
  refine ACall_enter2 (fun _ _ => by kernel_rfl) Tryz.func111 rfl Tryz.ntmps111 Tryz.results111 (Nat.le_of_ble_eq_true rfl) (fun hok M0 w0 hnl => ?_)
  have hfl := J.frm_le l v.n v.s
  refine Aw_seq (Aw_region ?_)
  refine Al_p (Pu_boxN rfl rfl) ?_
  refine Al_p Pu_mvr ?_
  refine Al_p Pu_mvr ?_
  refine Al_nil (Aw_seq (Aw_region ?_))
  refine Al_p Pu_mvl ?_
  refine Al_p (Pu_field 3 rfl Tryz.underlying34 rfl rfl Tryz.sizeOf31 rfl) ?_
  refine Al_p (Pu_loadN rfl Tryz.isAgg31 Tryz.sizeOf31 rfl (Nat.le_of_ble_eq_true rfl)) ?_
  refine Al_p (Pu_call (cfrom_a l v.n v.s) rfl ⟨Sub.rfl, Sub.rfl, trivial⟩) ?_
  refine Al_p Pu_mvr ?_
  refine Al_nil (Aw_seq (Aw_seq ?_))
  refine Aw_draw 33 (by kernel_rfl) (by kernel_rfl) ?_
  refine Dr_p (Pu_loadN rfl Tryz.isAgg34 Tryz.sizeOf34 rfl (Nat.le_of_ble_eq_true rfl)) ?_
  refine Dr_p (Pu_call (wcheck_a v) rfl ⟨Sub.rfl, trivial⟩) ?_
  refine Dr_p (Pu_not rfl rfl) ?_
  refine Dr_p Pu_mvl ?_
  refine Dr_st (St_gd [] rfl rfl rfl rfl trivial (fun hg15 => by exact Pu_move (.inl rfl) (by conv => lhs; whnf))) rfl ?_
  refine Dr_st (St_gd [15] rfl rfl rfl rfl ⟨⟨_, rfl⟩, trivial⟩ (fun hg16 => by exact Pu_len rfl Tryz.underlying65 rfl (by first | exact List.length_map .. | exact rfl))) rfl ?_
  refine Dr_st (St_gd [16] rfl rfl rfl rfl ⟨⟨_, rfl⟩, trivial⟩ (fun hg17 => Pu_cmp rfl rfl rfl rfl)) rfl ?_
  refine Dr_st (St_gd [17] rfl rfl rfl rfl ⟨⟨_, rfl⟩, trivial⟩ (fun hg18 => by exact Pu_move (.inl rfl) (by conv => lhs; whnf))) rfl ?_
  refine Dr_st (St_gd2 [] rfl rfl rfl rfl trivial (fun hp19 hg19 => by exact Pu_move (.inl rfl) (by conv => lhs; whnf))) rfl ?_
  refine Dr_st (St_gd2 [19] rfl rfl rfl rfl ⟨⟨_, rfl⟩, trivial⟩ (fun hp20 hg20 => by exact Pu_index rfl Tryz.underlying65 Tryz.sizeOf34 rfl rfl (rfl) (mapgetD (d := default) (show 0 < l.length from by have := of_decide_eq_true hg20; omega)))) rfl ?_
  refine Dr_st (St_gd2 [20] rfl rfl rfl rfl ⟨⟨_, rfl⟩, trivial⟩ (fun hp21 hg21 => Pu_field 0 rfl Tryz.underlying34 rfl rfl Tryz.sizeOf9 rfl)) rfl ?_
  refine Dr_st (St_gd2 [21] rfl rfl rfl rfl ⟨⟨_, rfl⟩, trivial⟩ (fun hp22 hg22 => Pu_load1 rfl Tryz.isAgg9 rfl rfl)) rfl ?_
  refine Dr_st (St_gd2 [] rfl rfl rfl rfl trivial (fun hp23 hg23 => Pu_field 0 rfl Tryz.underlying34 rfl rfl Tryz.sizeOf9 rfl)) rfl ?_
  refine Dr_st (St_gd2 [23] rfl rfl rfl rfl ⟨⟨_, rfl⟩, trivial⟩ (fun hp24 hg24 => Pu_load1 rfl Tryz.isAgg9 rfl rfl)) rfl ?_
  refine Dr_st (St_gd2 [22, 24] rfl rfl rfl rfl ⟨⟨_, rfl⟩, ⟨_, rfl⟩, trivial⟩ (fun hp25 hg25 => Pu_str rfl rfl rfl rfl)) rfl ?_
  refine Dr_st (St_gd [18] rfl rfl rfl rfl ⟨⟨_, rfl⟩, trivial⟩ (fun hg26 => Pu_andG rfl rfl (fun h => ⟨hg26, h⟩) rfl rfl)) rfl ?_
  refine Dr_p (Pu_or rfl rfl rfl rfl) ?_
  refine Dr_p Pu_mvl ?_
  refine Dr_st (St_gd [] rfl rfl rfl rfl trivial (fun hg29 => by exact Pu_move (.inl rfl) (by conv => lhs; whnf))) rfl ?_
  refine Dr_st (St_gd [] rfl rfl rfl rfl trivial (fun hg30 => by exact Pu_move (.inl rfl) (by conv => lhs; whnf))) rfl ?_
  refine Dr_st (St_gd [30] rfl rfl rfl rfl ⟨⟨_, rfl⟩, trivial⟩ (fun hg31 => by exact Pu_len rfl Tryz.underlying65 rfl (by first | exact List.length_map .. | exact rfl))) rfl ?_
  refine Dr_st (St_gd [29, 31] rfl rfl rfl rfl ⟨⟨_, rfl⟩, ⟨_, rfl⟩, trivial⟩ (fun hg32 => Pu_cmp rfl rfl rfl rfl)) rfl ?_
  refine Dr_st (St_gd [32] rfl rfl rfl rfl ⟨⟨_, rfl⟩, trivial⟩ (fun hg33 => by exact Pu_move (.inl rfl) (by conv => lhs; whnf))) rfl ?_
  refine Dr_st (St_gd2 [] rfl rfl rfl rfl trivial (fun hp34 hg34 => by exact Pu_move (.inl rfl) (by conv => lhs; whnf))) rfl ?_
  refine Dr_st (St_gd2 [] rfl rfl rfl rfl trivial (fun hp35 hg35 => by exact Pu_move (.inl rfl) (by conv => lhs; whnf))) rfl ?_
  refine Dr_st (St_gd2 [34, 35] rfl rfl rfl rfl ⟨⟨_, rfl⟩, ⟨_, rfl⟩, trivial⟩ (fun hp36 hg36 => by exact Pu_index rfl Tryz.underlying65 Tryz.sizeOf34 rfl rfl (rfl) (mapgetD (d := default) (show J.frm l v.n v.s < l.length from by have := of_decide_eq_true hg36; omega)))) rfl ?_
  refine Dr_st (St_gd2 [36] rfl rfl rfl rfl ⟨⟨_, rfl⟩, trivial⟩ (fun hp37 hg37 => Pu_field 3 rfl Tryz.underlying34 rfl rfl Tryz.sizeOf31 rfl)) rfl ?_
  refine Dr_st (St_gd2 [37] rfl rfl rfl rfl ⟨⟨_, rfl⟩, trivial⟩ (fun hp38 hg38 => Pu_loadN rfl Tryz.isAgg31 Tryz.sizeOf31 rfl (Nat.le_of_ble_eq_true rfl))) rfl ?_
  refine Dr_st (St_gd2 [] rfl rfl rfl rfl trivial (fun hp39 hg39 => Pu_field 3 rfl Tryz.underlying34 rfl rfl Tryz.sizeOf31 rfl)) rfl ?_
  refine Dr_st (St_gd2 [39] rfl rfl rfl rfl ⟨⟨_, rfl⟩, trivial⟩ (fun hp40 hg40 => Pu_loadN rfl Tryz.isAgg31 Tryz.sizeOf31 rfl (Nat.le_of_ble_eq_true rfl))) rfl ?_
  refine Dr_st (St_gd2 [38, 40] rfl rfl rfl rfl ⟨⟨_, rfl⟩, ⟨_, rfl⟩, trivial⟩ (fun hp41 hg41 => Pu_eqrow [.int .i64 _, .int .i64 _] [.int .i64 _, .int .i64 _] (fun w => eqv31 _ _ _ _ _ _ w) rfl rfl rfl)) rfl ?_
  refine Dr_st (St_gd [33] rfl rfl rfl rfl ⟨⟨_, rfl⟩, trivial⟩ (fun hg42 => Pu_andG rfl rfl (fun h => ⟨hg42, h⟩) rfl rfl)) rfl ?_
  refine Dr_p (Pu_or rfl rfl rfl rfl) ?_
  refine Dr_nil (Al_nil ?_)
  refine Aw_cond rfl (fun h43 => ?_) (fun h43 => ?_)
  · skip
    have hno : J.put l v = none := by
      unfold J.put
      rw [if_neg]
      rintro ⟨h1, h2, h3⟩
      simp only [h1, Bool.not_true, Bool.false_or, Bool.or_eq_true, Bool.and_eq_true, decide_eq_true_eq, Bool.not_eq_true'] at h43
      rcases h43 with ⟨h4, h5⟩ | ⟨h4, h5⟩
      · have h6 : 0 < l.length := by omega
        have := h2 _ (List.getElem?_eq_getElem h6)
        rw [show l.getD 0 default = l[0] from by simp [h6]] at h5
        simp [this] at h5
      · have h6 : J.frm l v.n v.s < l.length := by omega
        have := h3 _ (List.getElem?_eq_getElem h6)
        unfold J.isSt at this
        rw [show l.getD (J.frm l v.n v.s) default = l[J.frm l v.n v.s] from by simp [h6]] at h5
        rw [Bool.and_eq_false_iff] at this
        simp only [beq_iff_eq] at h5
        rcases this with h | h <;> simp [h5] at h
    refine Aw_seq (Aw_region ?_)
    refine Al_p Pu_mvl ?_
    refine Al_p Pu_mvr ?_
    refine Al_p Pu_mvr ?_
    refine Al_nil ?_
    refine Aw_ret ?_
    exact ⟨Sub.d (by rw [hno]; rfl), Sub.bool (by rw [hno]; rfl)⟩ -- ret 0
  · skip
    have hyes : J.put l v = some (l.take (J.frm l v.n v.s) ++ v :: l.drop (J.frm l v.n v.s)) := by
      unfold J.put
      simp only [Bool.or_eq_false_iff, Bool.not_eq_false', Bool.and_eq_false_iff, decide_eq_false_iff_not] at h43
      obtain ⟨⟨h1, h2⟩, h3⟩ := h43
      refine if_pos ⟨h1, fun x hx => ?_, fun x hx => ?_⟩
      · obtain ⟨h6, rfl⟩ := List.getElem?_eq_some_iff.1 hx
        rcases h2 with h | h
        · omega
        · rw [show l.getD 0 default = l[0] from by simp [h6]] at h
          simpa using h
      · obtain ⟨h6, rfl⟩ := List.getElem?_eq_some_iff.1 hx
        rcases h3 with h | h
        · omega
        · rw [show l.getD (J.frm l v.n v.s) default = l[J.frm l v.n v.s] from by simp [h6]] at h
          unfold J.isSt
          rw [Bool.and_eq_false_iff]
          exact h
    refine Aw_skip ?_
    -- join 0: live [4, 5], turned [4, 5]
    refine Aw_seq ?_
    refine Aw_drawn (by kernel_rfl) ?_
    refine Ad_take 0 rfl (PuI_move (.inl rfl) (by conv => lhs; whnf)) rfl rfl (by decide) (by kernel_rfl) (by kernel_rfl) (by kernel_rfl) (by kernel_rfl) (fun _ _ h => h) ?_
    refine Ad_take 2 rfl (PuI_move (.inl rfl) (by conv => lhs; whnf)) rfl rfl (by decide) (by kernel_rfl) (by kernel_rfl) (by kernel_rfl) (by kernel_rfl) (fun _ _ h => h) ?_
    refine Ad_two 1 3 rfl rfl (by kernel_rfl) ?_ ?_
    · refine Al_gcall [] [(1001, 46)] (cloneV_g l (by omega)) rfl rfl rfl (by decide) (by kernel_rfl) trivial rfl ⟨Sub.rfl, trivial⟩ (fun g46 => ?_)
      refine Al_nil ?_
      refine Ad_one 3 rfl (by kernel_rfl) ?_
      refine Al_p (Pu_loadN rfl Tryz.isAgg34 Tryz.sizeOf34 rfl (Nat.le_of_ble_eq_true rfl)) ?_
      refine Al_nil ?_
      refine Ad_one 4 rfl (by kernel_rfl) ?_
      refine Al_sliceLit (aa := [(0, _)]) (rows := [v.row]) rfl rfl rfl (by decide) (by kernel_rfl) Tryz.underlying65 Tryz.sizeOf34 Tryz.zeroValue34 rfl (by decide) (by decide) (by decide) (by kernel_rfl) ⟨rfl, rfl, rfl, trivial⟩ (rfl) rfl rfl (fun g49 => ?_)
      refine Al_nil ?_
      refine Ad_one 5 rfl (by kernel_rfl) ?_
      refine Al_gcall [(1001, 46, g46), (1002, 49, g49)] [(1003, 50)] (insertV_g l v (J.frm l v.n v.s) hfl (by omega)) rfl rfl rfl (by decide) (by kernel_rfl) ⟨rfl, rfl, trivial⟩ rfl ⟨Sub.rfl, Sub.rfl, Sub.rfl, trivial⟩ (fun g50 => ?_)
      refine Al_nil ?_
      refine Ad_take 6 rfl (PuI_move (.inr rfl) (by conv => lhs; whnf)) rfl rfl (by decide) (by kernel_rfl) (by kernel_rfl) (by kernel_rfl) (by kernel_rfl) (fun _ _ h => h) ?_
      refine Ad_take 7 rfl (PuI_move (.inr rfl) (by conv => lhs; whnf)) rfl rfl (by decide) (by kernel_rfl) (by kernel_rfl) (by kernel_rfl) (by kernel_rfl) (fun _ _ h => h) ?_
      refine Ad_done (by kernel_rfl) ?_
      refine Aw_frz hnl (k := 50) [4] rfl ⟨rfl, trivial⟩ ?_
      refine Aw_ret ?_
      exact ⟨Sub.d (by rw [hyes]; rfl), Sub.bool (by rw [hyes]; rfl)⟩ -- ret 1
    · refine Al_p (Pu_loadN rfl Tryz.isAgg34 Tryz.sizeOf34 rfl (Nat.le_of_ble_eq_true rfl)) ?_
      refine Al_nil ?_
      refine Ad_two 1 4 rfl rfl (by kernel_rfl) ?_ ?_
      · refine Al_gcall [] [(1001, 46)] (cloneV_g l (by omega)) rfl rfl rfl (by decide) (by kernel_rfl) trivial rfl ⟨Sub.rfl, trivial⟩ (fun g46 => ?_)
        refine Al_nil ?_
        refine Ad_one 4 rfl (by kernel_rfl) ?_
        refine Al_sliceLit (aa := [(0, _)]) (rows := [v.row]) rfl rfl rfl (by decide) (by kernel_rfl) Tryz.underlying65 Tryz.sizeOf34 Tryz.zeroValue34 rfl (by decide) (by decide) (by decide) (by kernel_rfl) ⟨rfl, rfl, rfl, trivial⟩ (rfl) rfl rfl (fun g49 => ?_)
        refine Al_nil ?_
        refine Ad_one 5 rfl (by kernel_rfl) ?_
        refine Al_gcall [(1001, 46, g46), (1002, 49, g49)] [(1003, 50)] (insertV_g l v (J.frm l v.n v.s) hfl (by omega)) rfl rfl rfl (by decide) (by kernel_rfl) ⟨rfl, rfl, trivial⟩ rfl ⟨Sub.rfl, Sub.rfl, Sub.rfl, trivial⟩ (fun g50 => ?_)
        refine Al_nil ?_
        refine Ad_take 6 rfl (PuI_move (.inr rfl) (by conv => lhs; whnf)) rfl rfl (by decide) (by kernel_rfl) (by kernel_rfl) (by kernel_rfl) (by kernel_rfl) (fun _ _ h => h) ?_
        refine Ad_take 7 rfl (PuI_move (.inr rfl) (by conv => lhs; whnf)) rfl rfl (by decide) (by kernel_rfl) (by kernel_rfl) (by kernel_rfl) (by kernel_rfl) (fun _ _ h => h) ?_
        refine Ad_done (by kernel_rfl) ?_
        refine Aw_frz hnl (k := 50) [4] rfl ⟨rfl, trivial⟩ ?_
        refine Aw_ret ?_
        exact ⟨Sub.d (by rw [hyes]; rfl), Sub.bool (by rw [hyes]; rfl)⟩ -- ret 2
      · refine Al_sliceLit (aa := [(0, _)]) (rows := [v.row]) rfl rfl rfl (by decide) (by kernel_rfl) Tryz.underlying65 Tryz.sizeOf34 Tryz.zeroValue34 rfl (by decide) (by decide) (by decide) (by kernel_rfl) ⟨rfl, rfl, rfl, trivial⟩ (rfl) rfl rfl (fun g49 => ?_)
        refine Al_nil ?_
        refine Ad_one 1 rfl (by kernel_rfl) ?_
        refine Al_gcall [] [(1001, 46)] (cloneV_g l (by omega)) rfl rfl rfl (by decide) (by kernel_rfl) trivial rfl ⟨Sub.rfl, trivial⟩ (fun g46 => ?_)
        refine Al_nil ?_
        refine Ad_one 5 rfl (by kernel_rfl) ?_
        refine Al_gcall [(1001, 46, g46), (1002, 49, g49)] [(1003, 50)] (insertV_g l v (J.frm l v.n v.s) hfl (by omega)) rfl rfl rfl (by decide) (by kernel_rfl) ⟨rfl, rfl, trivial⟩ rfl ⟨Sub.rfl, Sub.rfl, Sub.rfl, trivial⟩ (fun g50 => ?_)
        refine Al_nil ?_
        refine Ad_take 6 rfl (PuI_move (.inr rfl) (by conv => lhs; whnf)) rfl rfl (by decide) (by kernel_rfl) (by kernel_rfl) (by kernel_rfl) (by kernel_rfl) (fun _ _ h => h) ?_
        refine Ad_take 7 rfl (PuI_move (.inr rfl) (by conv => lhs; whnf)) rfl rfl (by decide) (by kernel_rfl) (by kernel_rfl) (by kernel_rfl) (by kernel_rfl) (fun _ _ h => h) ?_
        refine Ad_done (by kernel_rfl) ?_
        refine Aw_frz hnl (k := 50) [4] rfl ⟨rfl, trivial⟩ ?_
        refine Aw_ret ?_
        exact ⟨Sub.d (by rw [hyes]; rfl), Sub.bool (by rw [hyes]; rfl)⟩ -- ret 3
set_option maxRecDepth 100000 in
theorem ckeeps1_a (x v : Ver) (b : Bool) : ACall Tryz.prog 130 [.row x.row, bv b, .fp v.row] (bv (b && decide (x = v))) := by
  refine ACall_enter (fun _ _ => by kernel_rfl) Tryz.func130 rfl Tryz.ntmps130 Tryz.results130 (Nat.le_of_ble_eq_true rfl) (fun hok M0 w0 hnl => ?_)
  refine Aw_seq (Aw_region ?_)
  refine Al_p (Pu_boxN rfl rfl) ?_
  refine Al_p Pu_mvr ?_
  refine Al_nil (Aw_seq (Aw_region ?_))
  refine Al_p Pu_mvl ?_
  refine Al_p Pu_mvl ?_
  refine Al_st (St_gd [] rfl rfl rfl rfl trivial (fun hg8 => Pu_loadN rfl Tryz.isAgg34 Tryz.sizeOf34 rfl (Nat.le_of_ble_eq_true rfl))) rfl (by decide) (by kernel_rfl) (by intro j b oj dj h1 h2 h3; cases h1; cases h2; cases h3; decide) ?_
  refine Al_st (St_gd [] rfl rfl rfl rfl trivial (fun hg9 => Pu_loadN rfl Tryz.isAgg34 Tryz.sizeOf34 rfl (Nat.le_of_ble_eq_true rfl))) rfl (by decide) (by kernel_rfl) (by intro j b oj dj h1 h2 h3; cases h1; cases h2; cases h3; decide) ?_
  refine Al_st (St_gd [8, 9] rfl rfl rfl rfl ⟨⟨_, rfl⟩, ⟨_, rfl⟩, trivial⟩ (fun hg10 => Pu_call (wsame_a x v) rfl ⟨Sub.rfl, Sub.rfl, trivial⟩)) rfl (by decide) (by kernel_rfl) (by intro j b oj dj h1 h2 h3; cases h1; cases h2; cases h3; decide) ?_
  refine Al_p (Pu_and rfl rfl rfl rfl) ?_
  refine Al_p Pu_mvr ?_
  refine Al_nil ?_
  refine Aw_ret ?_
  exact Sub.rfl -- ret 0
set_option maxRecDepth 100000 in
theorem indexSt_a (l : List (Int × Int)) (n s : Int) : ACall Tryz.prog 145 [.sl 2 (l.map stA), .row [iv n, iv s]] (iv (S.find (fun p => (n == p.1) && (s == p.2)) l)) := by
  refine ACall_enter (fun _ _ => by kernel_rfl) Tryz.func145 rfl Tryz.ntmps145 Tryz.results145 (Nat.le_of_ble_eq_true rfl) (fun hok M0 w0 hnl => ?_)
  have hlen := (hok _ (List.mem_cons_self ..)).len
  rw [List.length_map] at hlen
  refine Aw_seq (Aw_region ?_)
  refine Al_p (Pu_boxN rfl rfl) ?_
  refine Al_p Pu_mvr ?_
  refine Al_nil (Aw_seq (Aw_seq (Aw_region ?_)))
  refine Al_p Pu_mvl ?_
  refine Al_p (Pu_len rfl Tryz.underlying101 rfl (by first | exact List.length_map .. | exact rfl)) ?_
  refine Al_p Pu_mvl ?_
  refine Al_nil (Aw_block ?_)
  refine Aw_loopk (ι := Nat) [0, 3, 7] [] (fun k => [(8, .d (iv k))]) (fun k => []) (fun k => k ≤ l.length ∧ ∀ j (h : j < l.length), j < k → ((n == l[j].1) && (s == l[j].2)) = false) (fun k => l.length - k) (0) (⟨Nat.zero_le _, by intros; omega⟩) ⟨Sub.rfl, trivial⟩ trivial ?_
  rintro k ⟨hk0, hk2⟩
  refine Aw_seq (Aw_region ?_)
  refine Al_p (Pu_cmp rfl rfl rfl rfl) ?_
  refine Al_nil (Aw_seq ?_)
  refine Aw_cond rfl (fun h9 => ?_) (fun h9 => ?_)
  · (try simp only [decide_eq_true_eq, decide_eq_false_iff_not, Bool.and_eq_true, Bool.or_eq_true, Bool.and_eq_false_iff, Bool.or_eq_false_iff, Bool.not_eq_true', Bool.not_eq_false', beq_iff_eq, Bool.not_eq_eq_eq_not, Bool.not_true, Bool.not_false, List.length_map, Bool.and_true, Bool.and_false, Bool.false_and, Bool.true_and, Bool.or_false, Bool.false_or] at h9)
    have hk : k < l.length := by omega
    refine Aw_skip (Aw_seq (Aw_block (Aw_seq (Aw_region ?_))))
    refine Al_p Pu_mvl ?_
    refine Al_p Pu_mvr ?_
    refine Al_nil (Aw_seq ?_)
    refine Aw_draw 6 (by kernel_rfl) (by kernel_rfl) ?_
    refine Dr_p (Pu_loadN rfl Tryz.isAgg31 Tryz.sizeOf31 rfl (Nat.le_of_ble_eq_true rfl)) ?_
    refine Dr_p Pu_mvl ?_
    refine Dr_p Pu_mvl ?_
    refine Dr_p (Pu_index rfl Tryz.underlying101 Tryz.sizeOf31 rfl rfl (rfl) (mapget hk)) ?_
    refine Dr_p (Pu_loadN rfl Tryz.isAgg31 Tryz.sizeOf31 rfl (Nat.le_of_ble_eq_true rfl)) ?_
    refine Dr_p (Pu_eqrow [.int .i64 _, .int .i64 _] [.int .i64 _, .int .i64 _] (fun w => eqv31 _ _ _ _ _ _ w) rfl rfl rfl) ?_
    refine Dr_nil (Al_nil ?_)
    refine Aw_cond rfl (fun h16 => ?_) (fun h16 => ?_)
    · skip
      refine Aw_seq (Aw_region ?_)
      refine Al_p Pu_mvl ?_
      refine Al_p Pu_mvr ?_
      refine Al_nil ?_
      refine Aw_ret ?_
      exact Sub.num (S.find_at hk h16 hk2) -- ret 0
    · skip
      have h16' : ((n == l[k].1) && (s == l[k].2)) = false := h16
      refine Aw_skip (Aw_region ?_)
      refine Al_p (Pu_add rfl rfl rfl (fun h1 h2 => by simp only [A.inI, A.maxI] at *; omega)) ?_
      refine Al_p Pu_mvl ?_
      refine Al_nil ?_
      exact ⟨k + 1, ⟨by omega, fun j hj hjk => by
        by_cases e : j = k
        · subst e; exact h16'
        · exact hk2 j hj (by omega)⟩, by omega, Le.ov ⟨Sub.num (by omega), trivial⟩ ⟨Sub.rfl, Sub.rfl, Sub.rfl, trivial⟩ trivial trivial⟩ -- loop 0 next.0
  · (try simp only [decide_eq_true_eq, decide_eq_false_iff_not, Bool.and_eq_true, Bool.or_eq_true, Bool.and_eq_false_iff, Bool.or_eq_false_iff, Bool.not_eq_true', Bool.not_eq_false', beq_iff_eq, Bool.not_eq_eq_eq_not, Bool.not_true, Bool.not_false, List.length_map, Bool.and_true, Bool.and_false, Bool.false_and, Bool.true_and, Bool.or_false, Bool.false_or] at h9)
    obtain rfl : k = l.length := by omega
    refine Aw_exit (Aw_seq (Aw_region ?_))
    refine Al_p Pu_mvr ?_
    refine Al_nil ?_
    refine Aw_ret ?_
    exact Sub.num (S.find_no hk2) -- ret 1
theorem containsSt_a (l : List (Int × Int)) (n s : Int) : ACall Tryz.prog 132 [.sl 2 (l.map stA), .row [iv n, iv s]] (bv (l.any fun p => (n == p.1) && (s == p.2))) := by
  refine ACall_enter (fun _ _ => by kernel_rfl) Tryz.func132 rfl Tryz.ntmps132 Tryz.results132 (Nat.le_of_ble_eq_true rfl) (fun hok M0 w0 hnl => ?_)
  refine Aw_seq (Aw_region ?_)
  refine Al_p (Pu_boxN rfl rfl) ?_
  refine Al_p Pu_mvr ?_
  refine Al_nil (Aw_seq (Aw_region ?_))
  refine Al_p Pu_mvl ?_
  refine Al_p (Pu_loadN rfl Tryz.isAgg31 Tryz.sizeOf31 rfl (Nat.le_of_ble_eq_true rfl)) ?_
  refine Al_p (Pu_call (indexSt_a l n s) rfl ⟨Sub.rfl, Sub.rfl, trivial⟩) ?_
  refine Al_p (Pu_cmp rfl rfl rfl rfl) ?_
  refine Al_p Pu_mvr ?_
  refine Al_nil ?_
  refine Aw_ret ?_
  exact Sub.bool S.find_any -- ret 0
set_option maxRecDepth 100000 in
set_option maxHeartbeats 1000000 in
theorem ckeeps_a (l : List Ver) (n s : Int) (pins : List (Int × Int)) (v : Ver) : ACall Tryz.prog 114 [versA l, .row [iv n, iv s], .sl 2 (pins.map stA), .row v.row] (bv (J.keeps l n s pins v)) := by
  refine ACall_enter (fun _ _ => by kernel_rfl) Tryz.func114 rfl Tryz.ntmps114 Tryz.results114 (Nat.le_of_ble_eq_true rfl) (fun hok M0 w0 hnl => ?_)
  have hh := chead_a l
  have hb := cbelow_a l n s
  have k1 := ckeeps1_a ((J.head l).getD default) v (J.head l).isSome
  have k2 := ckeeps1_a ((J.below l n s).getD default) v (J.below l n s).isSome
  refine Aw_seq (Aw_region ?_)
  refine Al_p (Pu_boxN rfl rfl) ?_
  refine Al_p (Pu_boxN rfl rfl) ?_
  refine Al_p Pu_mvr ?_
  refine Al_nil (Aw_seq (Aw_region ?_))
  refine Al_p (Pu_makeFunc (caps := [_]) rfl ⟨Sub.rfl, trivial⟩) ?_
  refine Al_p Pu_mvr ?_
  refine Al_nil (Aw_seq (Aw_region ?_))
  refine Al_p Pu_mvl ?_
  refine Al_p (Pu_field 3 rfl Tryz.underlying34 rfl rfl Tryz.sizeOf31 rfl) ?_
  refine Al_p (Pu_loadN rfl Tryz.isAgg31 Tryz.sizeOf31 rfl (Nat.le_of_ble_eq_true rfl)) ?_
  refine Al_p (Pu_call (containsSt_a pins _ _) rfl ⟨Sub.rfl, Sub.rfl, trivial⟩) ?_
  refine Al_p Pu_mvl ?_
  refine Al_st (St_gd [] rfl rfl rfl rfl trivial (fun hg16 => Pu_field 3 rfl Tryz.underlying34 rfl rfl Tryz.sizeOf31 rfl)) rfl (by decide) (by kernel_rfl) (by intro j b oj dj h1 h2 h3; cases h1; cases h2; cases h3; decide) ?_
  refine Al_st (St_gd [16] rfl rfl rfl rfl ⟨⟨_, rfl⟩, trivial⟩ (fun hg17 => Pu_loadN rfl Tryz.isAgg31 Tryz.sizeOf31 rfl (Nat.le_of_ble_eq_true rfl))) rfl (by decide) (by kernel_rfl) (by intro j b oj dj h1 h2 h3; cases h1; cases h2; cases h3; decide) ?_
  refine Al_st (St_gd [] rfl rfl rfl rfl trivial (fun hg18 => Pu_loadN rfl Tryz.isAgg31 Tryz.sizeOf31 rfl (Nat.le_of_ble_eq_true rfl))) rfl (by decide) (by kernel_rfl) (by intro j b oj dj h1 h2 h3; cases h1; cases h2; cases h3; decide) ?_
  refine Al_st (St_gd [17, 18] rfl rfl rfl rfl ⟨⟨_, rfl⟩, ⟨_, rfl⟩, trivial⟩ (fun hg19 => Pu_call (less_a _ _ _ _) rfl ⟨Sub.rfl, Sub.rfl, trivial⟩)) rfl (by decide) (by kernel_rfl) (by intro j b oj dj h1 h2 h3; cases h1; cases h2; cases h3; decide) ?_
  refine Al_st (St_gd [19] rfl rfl rfl rfl ⟨⟨_, rfl⟩, trivial⟩ (fun hg20 => Pu_not rfl rfl)) rfl (by decide) (by kernel_rfl) (by intro j b oj dj h1 h2 h3; cases h1; cases h2; cases h3; decide) ?_
  refine Al_p (Pu_or rfl rfl rfl rfl) ?_
  refine Al_p Pu_mvl ?_
  refine Al_st (St_gd [] rfl rfl rfl rfl trivial (fun hg23 => by exact Pu_move (.inl rfl) (by conv => lhs; whnf))) rfl (by decide) (by kernel_rfl) (by intro j b oj dj h1 h2 h3; cases h1; cases h2; cases h3; decide) ?_
  refine Al_st (St_gd [] rfl rfl rfl rfl trivial (fun hg24 => by exact Pu_move (.inl rfl) (by conv => lhs; whnf))) rfl (by decide) (by kernel_rfl) (by intro j b oj dj h1 h2 h3; cases h1; cases h2; cases h3; decide) ?_
  refine Al_st (St_gd [24] rfl rfl rfl rfl ⟨⟨_, rfl⟩, trivial⟩ (fun hg25 => Pu_call (hh) rfl ⟨Sub.rfl, trivial⟩)) rfl (by decide) (by kernel_rfl) (by intro j b oj dj h1 h2 h3; cases h1; cases h2; cases h3; decide) ?_
  refine Al_st (St_gd [25] rfl rfl rfl rfl ⟨⟨_, rfl⟩, trivial⟩ (fun hg26 => Pu_extract rfl rfl rfl)) rfl (by decide) (by kernel_rfl) (by intro j b oj dj h1 h2 h3; cases h1; cases h2; cases h3; decide) ?_
  refine Al_st (St_gd [25] rfl rfl rfl rfl ⟨⟨_, rfl⟩, trivial⟩ (fun hg27 => Pu_extract rfl rfl rfl)) rfl (by decide) (by kernel_rfl) (by intro j b oj dj h1 h2 h3; cases h1; cases h2; cases h3; decide) ?_
  refine Al_st (St_gd [23, 26, 27] rfl rfl rfl rfl ⟨⟨_, rfl⟩, ⟨_, rfl⟩, ⟨_, rfl⟩, trivial⟩ (fun hg28 => Pu_callv (aa := [.row ((J.head l).getD default).row, bv (J.head l).isSome]) (caps := [.fp v.row]) k1 rfl rfl ⟨Sub.rfl, Sub.rfl, trivial⟩)) rfl (by decide) (by kernel_rfl) (by intro j b oj dj h1 h2 h3; cases h1; cases h2; cases h3; decide) ?_
  refine Al_p (Pu_or rfl rfl rfl rfl) ?_
  refine Al_p Pu_mvl ?_
  refine Al_st (St_gd [] rfl rfl rfl rfl trivial (fun hg31 => by exact Pu_move (.inl rfl) (by conv => lhs; whnf))) rfl (by decide) (by kernel_rfl) (by intro j b oj dj h1 h2 h3; cases h1; cases h2; cases h3; decide) ?_
  refine Al_st (St_gd [] rfl rfl rfl rfl trivial (fun hg32 => by exact Pu_move (.inl rfl) (by conv => lhs; whnf))) rfl (by decide) (by kernel_rfl) (by intro j b oj dj h1 h2 h3; cases h1; cases h2; cases h3; decide) ?_
  refine Al_st (St_gd [] rfl rfl rfl rfl trivial (fun hg33 => Pu_loadN rfl Tryz.isAgg31 Tryz.sizeOf31 rfl (Nat.le_of_ble_eq_true rfl))) rfl (by decide) (by kernel_rfl) (by intro j b oj dj h1 h2 h3; cases h1; cases h2; cases h3; decide) ?_
  refine Al_st (St_gd [32, 33] rfl rfl rfl rfl ⟨⟨_, rfl⟩, ⟨_, rfl⟩, trivial⟩ (fun hg34 => Pu_call (hb) rfl ⟨Sub.rfl, Sub.rfl, trivial⟩)) rfl (by decide) (by kernel_rfl) (by intro j b oj dj h1 h2 h3; cases h1; cases h2; cases h3; decide) ?_
  refine Al_st (St_gd [34] rfl rfl rfl rfl ⟨⟨_, rfl⟩, trivial⟩ (fun hg35 => Pu_extract rfl rfl rfl)) rfl (by decide) (by kernel_rfl) (by intro j b oj dj h1 h2 h3; cases h1; cases h2; cases h3; decide) ?_
  refine Al_st (St_gd [34] rfl rfl rfl rfl ⟨⟨_, rfl⟩, trivial⟩ (fun hg36 => Pu_extract rfl rfl rfl)) rfl (by decide) (by kernel_rfl) (by intro j b oj dj h1 h2 h3; cases h1; cases h2; cases h3; decide) ?_
  refine Al_st (St_gd [31, 35, 36] rfl rfl rfl rfl ⟨⟨_, rfl⟩, ⟨_, rfl⟩, ⟨_, rfl⟩, trivial⟩ (fun hg37 => Pu_callv (aa := [.row ((J.below l n s).getD default).row, bv (J.below l n s).isSome]) (caps := [.fp v.row]) k2 rfl rfl ⟨Sub.rfl, Sub.rfl, trivial⟩)) rfl (by decide) (by kernel_rfl) (by intro j b oj dj h1 h2 h3; cases h1; cases h2; cases h3; decide) ?_
  refine Al_p (Pu_or rfl rfl rfl rfl) ?_
  refine Al_p Pu_mvr ?_
  refine Al_nil ?_
  refine Aw_ret ?_
  exact Sub.rfl -- ret 0
set_option maxRecDepth 100000 in
theorem cclean1_a (l : List Ver) (n s : Int) (pins : List (Int × Int)) (v : Ver) : ACall Tryz.prog 113 [.row v.row, .fp [versA l], .fp [iv n, iv s], .fp [.sl 2 (pins.map stA)]] (bv (!J.keeps l n s pins v)) := by
  refine ACall_enter (fun _ _ => by kernel_rfl) Tryz.func113 rfl Tryz.ntmps113 Tryz.results113 (Nat.le_of_ble_eq_true rfl) (fun hok M0 w0 hnl => ?_)
  refine Aw_seq (Aw_region ?_)
  refine Al_p (Pu_boxN rfl rfl) ?_
  refine Al_p Pu_mvr ?_
  refine Al_nil (Aw_seq (Aw_region ?_))
  refine Al_p (Pu_load1 rfl Tryz.isAgg65 rfl rfl) ?_
  refine Al_p (Pu_loadN rfl Tryz.isAgg31 Tryz.sizeOf31 rfl (Nat.le_of_ble_eq_true rfl)) ?_
  refine Al_p (Pu_load1 rfl Tryz.isAgg101 rfl rfl) ?_
  refine Al_p (Pu_loadN rfl Tryz.isAgg34 Tryz.sizeOf34 rfl (Nat.le_of_ble_eq_true rfl)) ?_
  refine Al_p (Pu_call (ckeeps_a l n s pins v) rfl ⟨Sub.rfl, Sub.rfl, Sub.rfl, Sub.rfl, trivial⟩) ?_
  refine Al_p (Pu_not rfl rfl) ?_
  refine Al_p Pu_mvr ?_
  refine Al_nil ?_
  refine Aw_ret ?_
  exact Sub.rfl -- ret 0
set_option maxRecDepth 100000 in
theorem cclean_a (l : List Ver) (n s : Int) (pins : List (Int × Int)) (hl : l.length ≤ 1000000) : ACall Tryz.prog 91 [versA l, .row [iv n, iv s], .sl 2 (pins.map stA)] (versA (J.clean l n s pins)) := by
  refine ACall_enter (fun _ _ => by kernel_rfl) Tryz.func91 rfl Tryz.ntmps91 Tryz.results91 (Nat.le_of_ble_eq_true rfl) (fun hok M0 w0 hnl => ?_)
  have hdel := delfuncV_g l 113 [.fp [versA l], .fp [iv n, iv s], .fp [.sl 2 (pins.map stA)]] (fun v => !J.keeps l n s pins v) (fun v => cclean1_a l n s pins v) hl
  refine Aw_seq (Aw_region ?_)
  refine Al_p (Pu_box1 rfl rfl (by nofun) (by nofun)) ?_
  refine Al_p (Pu_boxN rfl rfl) ?_
  refine Al_p (Pu_box1 rfl rfl (by nofun) (by nofun)) ?_
  refine Al_p Pu_mvr ?_
  refine Al_nil (Aw_seq (Aw_region ?_))
  refine Al_p (Pu_load1 rfl Tryz.isAgg65 rfl rfl) ?_
  refine Al_gcall [] [(1001, 8)] (cloneV_g l hl) rfl rfl rfl (by decide) (by kernel_rfl) trivial rfl ⟨Sub.rfl, trivial⟩ (fun g8 => ?_)
  refine Al_p (Pu_makeFunc (caps := [_, _, _]) rfl ⟨Sub.rfl, Sub.rfl, Sub.rfl, trivial⟩) ?_
  refine Al_gcall [(1001, 8, g8)] [(1002, 10)] (hdel) rfl rfl rfl (by decide) (by kernel_rfl) ⟨rfl, trivial⟩ rfl ⟨Sub.rfl, Sub.rfl, trivial⟩ (fun g10 => ?_)
  refine Al_p Pu_mvr ?_
  refine Al_nil ?_
  refine Aw_frz hnl (k := 10) [6] rfl ⟨rfl, trivial⟩ ?_
  refine Aw_ret ?_
  exact Sub.d (by unfold J.clean; simp) -- ret 0
end Go.Proofs.YtmbaeloiepjakaaGreat
