/- The chapter's example, and EpochTells: the walks. -/
import Derived.Test.YtfalbocgnmlncaaERw
set_option linter.unusedSimpArgs false
set_option linter.unusedVariables false
namespace Go.Proofs.Ytfalbocgnmlncaa
open Go.RowKit A R
open A.RowT
def awA : SRow := ⟨[⟨⟨#[]⟩, ⟨#[]⟩⟩], [1], [-1, 0]⟩
def awB : SRow := ⟨[⟨⟨#[]⟩, ⟨#[109]⟩⟩, ⟨⟨#[109]⟩, ⟨#[]⟩⟩], [2, 1], [-1, 0]⟩
theorem aw_ahead : T.Ahead [-1, 0] := ⟨by decide, by decide, rfl, fun i h1 h2 => by
  match i, h1, h2 with
  | 1, _, _ => decide
  | i + 2, _, h2 => exact absurd h2 (by simp)⟩
theorem aw_plan : T.planF awA awB = [⟨1, 0, ⟨⟨#[]⟩, ⟨#[109]⟩⟩⟩] := by
  unfold T.planF T.partsF
  rw [bounds_eq]
  kernel_rfl
theorem aw_fits : T.fits awA awB = true := by kernel_rfl
set_option maxRecDepth 100000 in
theorem awake_a : ACall Try.prog 8 [] (bv true) := by
  refine ACall_enter (fun _ _ => by kernel_rfl) Try.func8 rfl Try.ntmps8 Try.results8 (Nat.le_of_ble_eq_true rfl) (fun hok M0 w0 hnl => ?_)
  refine Aw_seq ?_
  refine Aw_region ?_
  refine Al_pu (Pu_move (.inr rfl) (by conv => lhs; whnf)) rfl rfl (by decide) (by kernel_rfl) ?_
  refine Al_nil ?_
  refine Aw_seq ?_
  refine Aw_region ?_
  refine Al_pu (Pu_build (aa := []) rfl Try.underlying35 Try.zeroValue35 (places35 Try.underlying35) (by kernel_rfl) trivial rfl) rfl rfl (by decide) (by kernel_rfl) ?_
  refine Al_pu (Pu_slice1 rfl Try.underlying27 Try.sizeOf35 Try.zeroValue35 rfl (by decide) (by decide) (by kernel_rfl) rfl rfl rfl) rfl rfl (by decide) (by kernel_rfl) ?_
  refine Al_pu (Pu_slice1 rfl Try.underlying22 Try.sizeOf3 Try.zeroValue3 rfl (by decide) (by decide) (by kernel_rfl) rfl rfl rfl) rfl rfl (by decide) (by kernel_rfl) ?_
  refine Al_pu (Pu_buildSlice (aa := [(0, _), (1, _)]) rfl Try.underlying22 Try.sizeOf3 Try.zeroValue3 rfl (by decide) (by decide) (by decide) (by kernel_rfl) ⟨rfl, rfl, rfl, rfl, rfl, rfl, trivial⟩ ((rfl : _ = some [[iv (-1)], [iv 0]].flatten)) rfl rfl) rfl rfl (by decide) (by kernel_rfl) ?_
  refine Al_pu (Pu_build (aa := [(0, _), (1, _), (2, _)]) rfl Try.underlying29 Try.zeroValue29 (places29 Try.underlying29) (by kernel_rfl) ⟨rfl, rfl, rfl, rfl, rfl, rfl, rfl, rfl, rfl, trivial⟩ rfl) rfl rfl (by decide) (by kernel_rfl) ?_
  refine Al_alloc rfl rfl rfl (by decide) Try.zeroValue29 rfl (by kernel_rfl) (fun g1 => ?_)
  refine Al_storeN rfl rfl rfl (by kernel_rfl) Try.isAgg29 Try.sizeOf29 rfl rfl rfl rfl (Nat.le_of_ble_eq_true rfl) ?_
  refine Al_nil ?_
  refine Aw_seq ?_
  refine Aw_region ?_
  refine Al_pu (Pu_build (aa := [(1, _)]) rfl Try.underlying35 Try.zeroValue35 (places35 Try.underlying35) (by kernel_rfl) ⟨rfl, rfl, rfl, trivial⟩ rfl) rfl rfl (by decide) (by kernel_rfl) ?_
  refine Al_pu (Pu_build (aa := [(0, _)]) rfl Try.underlying35 Try.zeroValue35 (places35 Try.underlying35) (by kernel_rfl) ⟨rfl, rfl, rfl, trivial⟩ rfl) rfl rfl (by decide) (by kernel_rfl) ?_
  refine Al_pu (Pu_buildSlice (aa := [(0, _), (1, _)]) rfl Try.underlying27 Try.sizeOf35 Try.zeroValue35 rfl (by decide) (by decide) (by decide) (by kernel_rfl) ⟨rfl, rfl, rfl, rfl, rfl, rfl, trivial⟩ ((rfl : _ = some [[tv ⟨#[]⟩, tv ⟨#[109]⟩], [tv ⟨#[109]⟩, tv ⟨#[]⟩]].flatten)) rfl rfl) rfl rfl (by decide) (by kernel_rfl) ?_
  refine Al_pu (Pu_buildSlice (aa := [(0, _), (1, _)]) rfl Try.underlying22 Try.sizeOf3 Try.zeroValue3 rfl (by decide) (by decide) (by decide) (by kernel_rfl) ⟨rfl, rfl, rfl, rfl, rfl, rfl, trivial⟩ ((rfl : _ = some [[iv 2], [iv 1]].flatten)) rfl rfl) rfl rfl (by decide) (by kernel_rfl) ?_
  refine Al_pu (Pu_buildSlice (aa := [(0, _), (1, _)]) rfl Try.underlying22 Try.sizeOf3 Try.zeroValue3 rfl (by decide) (by decide) (by decide) (by kernel_rfl) ⟨rfl, rfl, rfl, rfl, rfl, rfl, trivial⟩ ((rfl : _ = some [[iv (-1)], [iv 0]].flatten)) rfl rfl) rfl rfl (by decide) (by kernel_rfl) ?_
  refine Al_pu (Pu_build (aa := [(0, _), (1, _), (2, _)]) rfl Try.underlying29 Try.zeroValue29 (places29 Try.underlying29) (by kernel_rfl) ⟨rfl, rfl, rfl, rfl, rfl, rfl, rfl, rfl, rfl, trivial⟩ rfl) rfl rfl (by decide) (by kernel_rfl) ?_
  refine Al_alloc rfl rfl rfl (by decide) Try.zeroValue29 rfl (by kernel_rfl) (fun g2 => ?_)
  refine Al_storeN rfl rfl rfl (by kernel_rfl) Try.isAgg29 Try.sizeOf29 rfl rfl rfl rfl (Nat.le_of_ble_eq_true rfl) ?_
  refine Al_nil ?_
  refine Aw_seq ?_
  refine Aw_region ?_
  refine Al_pu (Pu_loadbN (r := [_, _, _]) rfl Try.isAgg29 Try.sizeOf29 rfl rfl rfl rfl) rfl rfl (by decide) (by kernel_rfl) ?_
  refine Al_pu (Pu_loadbN (r := [_, _, _]) rfl Try.isAgg29 Try.sizeOf29 rfl rfl rfl rfl) rfl rfl (by decide) (by kernel_rfl) ?_
  refine Al_pu (Pu_call (plan_a awA awB aw_ahead aw_ahead) rfl ⟨Sub.rfl, Sub.rfl, trivial⟩) rfl rfl (by decide) (by kernel_rfl) ?_
  refine Al_pu (Pu_build (aa := [(1, _)]) rfl Try.underlying35 Try.zeroValue35 (places35 Try.underlying35) (by kernel_rfl) ⟨rfl, rfl, rfl, trivial⟩ rfl) rfl rfl (by decide) (by kernel_rfl) ?_
  refine Al_pu (Pu_build (aa := [(0, _), (1, _), (2, _)]) rfl Try.underlying37 Try.zeroValue37 (places37 Try.underlying37) (by kernel_rfl) ⟨rfl, rfl, rfl, rfl, rfl, rfl, rfl, rfl, rfl, trivial⟩ rfl) rfl rfl (by decide) (by kernel_rfl) ?_
  refine Al_pu (Pu_slice1 rfl Try.underlying31 Try.sizeOf37 Try.zeroValue37 rfl (by decide) (by decide) (by kernel_rfl) rfl rfl rfl) rfl rfl (by decide) (by kernel_rfl) ?_
  refine Al_pu (Pu_call (samemoves_a [⟨1, 0, ⟨⟨#[]⟩, ⟨#[109]⟩⟩⟩] (by decide)) rfl ⟨Sub.d (by rw [aw_plan]), Sub.rfl, trivial⟩) rfl rfl (by decide) (by kernel_rfl) ?_
  refine Al_pu (Pu_move (.inl rfl) (by conv => lhs; whnf)) rfl rfl (by decide) (by kernel_rfl) ?_
  refine Al_st (St_gd [] rfl rfl rfl rfl trivial (fun hg22 => Pu_loadbN (r := [_, _, _]) rfl Try.isAgg29 Try.sizeOf29 rfl rfl rfl rfl)) rfl (by decide) (by kernel_rfl) (by intro j b oj dj h1 h2 h3; cases h1; cases h2; cases h3; decide) ?_
  refine Al_st (St_gd [] rfl rfl rfl rfl trivial (fun hg23 => Pu_loadbN (r := [_, _, _]) rfl Try.isAgg29 Try.sizeOf29 rfl rfl rfl rfl)) rfl (by decide) (by kernel_rfl) (by intro j b oj dj h1 h2 h3; cases h1; cases h2; cases h3; decide) ?_
  refine Al_st (St_gd [22, 23] rfl rfl rfl rfl ⟨⟨_, rfl⟩, ⟨_, rfl⟩, trivial⟩ (fun hg24 => Pu_call (fits_a awA awB aw_ahead aw_ahead) rfl ⟨Sub.rfl, Sub.rfl, trivial⟩)) rfl (by decide) (by kernel_rfl) (by intro j b oj dj h1 h2 h3; cases h1; cases h2; cases h3; decide) ?_
  refine Al_pu (Pu_and rfl rfl rfl rfl) rfl rfl (by decide) (by kernel_rfl) ?_
  refine Al_pu (Pu_move (.inr rfl) (by conv => lhs; whnf)) rfl rfl (by decide) (by kernel_rfl) ?_
  refine Al_nil ?_
  refine Aw_ret ?_
  exact Sub.bool (by rw [aw_fits]; rfl) -- ret 0
set_option maxRecDepth 100000 in
set_option maxHeartbeats 1000000 in
theorem etells_law (q : ESpec) (s : Int) : ACall Try.prog 5 [.row q.row, iv s] (bv true) := by
  refine ACall_enter (fun _ _ => by kernel_rfl) Try.func5 rfl Try.ntmps5 Try.results5 (Nat.le_of_ble_eq_true rfl) (fun hok M0 w0 hnl => ?_)
  have ha := q.ahead 0
  have hb := q.ahead 1
  have hpl := T.partsF_len (q.mkR 0) (q.mkR 1)
  have hb6 : (q.mkR 1).parents.length ≤ 6 := hb.le
  have hmul : (q.mkR 1).parents.length * (T.partsF (q.mkR 0) (q.mkR 1)).length ≤ 6 * 33 := Nat.mul_le_mul hb6 hpl
  have hnn : (T.planF (q.mkR 0) (q.mkR 1)).length ≤ 198 := Nat.le_trans (T.planL_len _ _ _ _) hmul
  have hgl := T.gainsL_len (T.planF (q.mkR 0) (q.mkR 1)) s
  refine Aw_seq ?_
  refine Aw_region ?_
  refine Al_pu (Pu_boxN rfl rfl) rfl rfl (by decide) (by kernel_rfl) ?_
  refine Al_pu (Pu_move (.inr rfl) (by conv => lhs; whnf)) rfl rfl (by decide) (by kernel_rfl) ?_
  refine Al_nil ?_
  refine Aw_seq ?_
  refine Aw_region ?_
  refine Al_pu (Pu_call (awake_a) rfl trivial) rfl rfl (by decide) (by kernel_rfl) ?_
  refine Al_pu (Pu_move (.inr rfl) (by conv => lhs; whnf)) rfl rfl (by decide) (by kernel_rfl) ?_
  refine Al_nil ?_
  refine Aw_seq ?_
  refine Aw_region ?_
  refine Al_pu (Pu_loadN rfl Try.isAgg25 Try.sizeOf25 rfl (Nat.le_of_ble_eq_true rfl)) rfl rfl (by decide) (by kernel_rfl) ?_
  refine Al_pu (Pu_call (row_a q 0 (by decide)) rfl ⟨Sub.rfl, Sub.rfl, trivial⟩) rfl rfl (by decide) (by kernel_rfl) ?_
  refine Al_alloc rfl rfl rfl (by decide) Try.zeroValue29 rfl (by kernel_rfl) (fun g6 => ?_)
  refine Al_storeN rfl rfl rfl (by kernel_rfl) Try.isAgg29 Try.sizeOf29 rfl rfl rfl rfl (Nat.le_of_ble_eq_true rfl) ?_
  refine Al_nil ?_
  refine Aw_seq ?_
  refine Aw_region ?_
  refine Al_pu (Pu_loadN rfl Try.isAgg25 Try.sizeOf25 rfl (Nat.le_of_ble_eq_true rfl)) rfl rfl (by decide) (by kernel_rfl) ?_
  refine Al_pu (Pu_call (row_a q 1 (by decide)) rfl ⟨Sub.rfl, Sub.rfl, trivial⟩) rfl rfl (by decide) (by kernel_rfl) ?_
  refine Al_alloc rfl rfl rfl (by decide) Try.zeroValue29 rfl (by kernel_rfl) (fun g7 => ?_)
  refine Al_storeN rfl rfl rfl (by kernel_rfl) Try.isAgg29 Try.sizeOf29 rfl rfl rfl rfl (Nat.le_of_ble_eq_true rfl) ?_
  refine Al_nil ?_
  refine Aw_seq ?_
  refine Aw_draw 7 (by kernel_rfl) (by kernel_rfl) ?_
  refine Dr_pu (Pu_loadbN (r := [_, _, _]) rfl Try.isAgg29 Try.sizeOf29 rfl rfl rfl rfl) rfl rfl ?_
  refine Dr_pu (Pu_loadbN (r := [_, _, _]) rfl Try.isAgg29 Try.sizeOf29 rfl rfl rfl rfl) rfl rfl ?_
  refine Dr_pu (Pu_call (partsF_a (q.mkR 0) (q.mkR 1) ha hb) rfl ⟨Sub.rfl, Sub.rfl, trivial⟩) rfl rfl ?_
  refine Dr_pu (Pu_loadbN (r := [_, _, _]) rfl Try.isAgg29 Try.sizeOf29 rfl rfl rfl rfl) rfl rfl ?_
  refine Dr_pu (Pu_loadbN (r := [_, _, _]) rfl Try.isAgg29 Try.sizeOf29 rfl rfl rfl rfl) rfl rfl ?_
  refine Dr_pu (Pu_call (rparts_a (q.mkR 0) (q.mkR 1) ha hb) rfl ⟨Sub.rfl, Sub.rfl, trivial⟩) rfl rfl ?_
  refine Dr_pu (Pu_call (sameranges_a (T.partsF (q.mkR 0) (q.mkR 1)) (by omega)) rfl ⟨Sub.rfl, Sub.rfl, trivial⟩) rfl rfl ?_
  refine Dr_nil ?_
  refine Al_pu (Pu_move (.inr rfl) (by conv => lhs; whnf)) rfl rfl (by decide) (by kernel_rfl) ?_
  refine Al_nil ?_
  refine Aw_seq ?_
  refine Aw_draw 7 (by kernel_rfl) (by kernel_rfl) ?_
  refine Dr_pu (Pu_loadbN (r := [_, _, _]) rfl Try.isAgg29 Try.sizeOf29 rfl rfl rfl rfl) rfl rfl ?_
  refine Dr_pu (Pu_loadbN (r := [_, _, _]) rfl Try.isAgg29 Try.sizeOf29 rfl rfl rfl rfl) rfl rfl ?_
  refine Dr_pu (Pu_call (plan_a (q.mkR 0) (q.mkR 1) ha hb) rfl ⟨Sub.rfl, Sub.rfl, trivial⟩) rfl rfl ?_
  refine Dr_pu (Pu_loadbN (r := [_, _, _]) rfl Try.isAgg29 Try.sizeOf29 rfl rfl rfl rfl) rfl rfl ?_
  refine Dr_pu (Pu_loadbN (r := [_, _, _]) rfl Try.isAgg29 Try.sizeOf29 rfl rfl rfl rfl) rfl rfl ?_
  refine Dr_pu (Pu_call (rplan_a (q.mkR 0) (q.mkR 1) ha hb) rfl ⟨Sub.rfl, Sub.rfl, trivial⟩) rfl rfl ?_
  refine Dr_pu (Pu_call (samemoves_a (T.planF (q.mkR 0) (q.mkR 1)) (by omega)) rfl ⟨Sub.rfl, Sub.rfl, trivial⟩) rfl rfl ?_
  refine Dr_nil ?_
  refine Al_pu (Pu_move (.inr rfl) (by conv => lhs; whnf)) rfl rfl (by decide) (by kernel_rfl) ?_
  refine Al_nil ?_
  refine Aw_seq ?_
  refine Aw_draw 9 (by kernel_rfl) (by kernel_rfl) ?_
  refine Dr_pu (Pu_loadbN (r := [_, _, _]) rfl Try.isAgg29 Try.sizeOf29 rfl rfl rfl rfl) rfl rfl ?_
  refine Dr_pu (Pu_loadbN (r := [_, _, _]) rfl Try.isAgg29 Try.sizeOf29 rfl rfl rfl rfl) rfl rfl ?_
  refine Dr_pu (Pu_move (.inl rfl) (by conv => lhs; whnf)) rfl rfl ?_
  refine Dr_pu (Pu_call (gains_a (q.mkR 0) (q.mkR 1) ha hb s) rfl ⟨Sub.rfl, Sub.rfl, Sub.rfl, trivial⟩) rfl rfl ?_
  refine Dr_pu (Pu_loadbN (r := [_, _, _]) rfl Try.isAgg29 Try.sizeOf29 rfl rfl rfl rfl) rfl rfl ?_
  refine Dr_pu (Pu_loadbN (r := [_, _, _]) rfl Try.isAgg29 Try.sizeOf29 rfl rfl rfl rfl) rfl rfl ?_
  refine Dr_pu (Pu_move (.inl rfl) (by conv => lhs; whnf)) rfl rfl ?_
  refine Dr_pu (Pu_call (rgains_a (q.mkR 0) (q.mkR 1) ha hb s) rfl ⟨Sub.rfl, Sub.rfl, Sub.rfl, trivial⟩) rfl rfl ?_
  refine Dr_pu (Pu_call (sameranges_a (T.gainsL (T.planF (q.mkR 0) (q.mkR 1)) s) (by omega)) rfl ⟨Sub.rfl, Sub.rfl, trivial⟩) rfl rfl ?_
  refine Dr_nil ?_
  refine Al_pu (Pu_move (.inr rfl) (by conv => lhs; whnf)) rfl rfl (by decide) (by kernel_rfl) ?_
  refine Al_nil ?_
  refine Aw_seq ?_
  refine Aw_draw 19 (by kernel_rfl) (by kernel_rfl) ?_
  refine Dr_pu (Pu_move (.inl rfl) (by conv => lhs; whnf)) rfl rfl ?_
  refine Dr_pu (Pu_move (.inl rfl) (by conv => lhs; whnf)) rfl rfl ?_
  refine Dr_st (St_gd [] rfl rfl rfl rfl trivial (fun hg41 => by exact Pu_move (.inl rfl) (by conv => lhs; whnf))) rfl ?_
  refine Dr_pu (Pu_and rfl rfl rfl rfl) rfl rfl ?_
  refine Dr_pu (Pu_move (.inl rfl) (by conv => lhs; whnf)) rfl rfl ?_
  refine Dr_st (St_gd [] rfl rfl rfl rfl trivial (fun hg44 => by exact Pu_move (.inl rfl) (by conv => lhs; whnf))) rfl ?_
  refine Dr_pu (Pu_and rfl rfl rfl rfl) rfl rfl ?_
  refine Dr_pu (Pu_move (.inl rfl) (by conv => lhs; whnf)) rfl rfl ?_
  refine Dr_st (St_gd [] rfl rfl rfl rfl trivial (fun hg47 => by exact Pu_move (.inl rfl) (by conv => lhs; whnf))) rfl ?_
  refine Dr_pu (Pu_and rfl rfl rfl rfl) rfl rfl ?_
  refine Dr_pu (Pu_move (.inl rfl) (by conv => lhs; whnf)) rfl rfl ?_
  refine Dr_st (St_gd [] rfl rfl rfl rfl trivial (fun hg50 => Pu_loadbN (r := [_, _, _]) rfl Try.isAgg29 Try.sizeOf29 rfl rfl rfl rfl)) rfl ?_
  refine Dr_st (St_gd [] rfl rfl rfl rfl trivial (fun hg51 => Pu_loadbN (r := [_, _, _]) rfl Try.isAgg29 Try.sizeOf29 rfl rfl rfl rfl)) rfl ?_
  refine Dr_st (St_gd [50, 51] rfl rfl rfl rfl ⟨⟨_, rfl⟩, ⟨_, rfl⟩, trivial⟩ (fun hg52 => Pu_call (fits_a (q.mkR 0) (q.mkR 1) ha hb) rfl ⟨Sub.rfl, Sub.rfl, trivial⟩)) rfl ?_
  refine Dr_st (St_gd [] rfl rfl rfl rfl trivial (fun hg53 => Pu_loadbN (r := [_, _, _]) rfl Try.isAgg29 Try.sizeOf29 rfl rfl rfl rfl)) rfl ?_
  refine Dr_st (St_gd [] rfl rfl rfl rfl trivial (fun hg54 => Pu_loadbN (r := [_, _, _]) rfl Try.isAgg29 Try.sizeOf29 rfl rfl rfl rfl)) rfl ?_
  refine Dr_st (St_gd [53, 54] rfl rfl rfl rfl ⟨⟨_, rfl⟩, ⟨_, rfl⟩, trivial⟩ (fun hg55 => Pu_call (rfits_a (q.mkR 0) (q.mkR 1) ha hb) rfl ⟨Sub.rfl, Sub.rfl, trivial⟩)) rfl ?_
  refine Dr_st (St_gd [52, 55] rfl rfl rfl rfl ⟨⟨_, rfl⟩, ⟨_, rfl⟩, trivial⟩ (fun hg56 => Pu_bool rfl Try.underlying4 rfl rfl rfl)) rfl ?_
  refine Dr_pu (Pu_and rfl rfl rfl rfl) rfl rfl ?_
  refine Dr_nil ?_
  refine Al_pu (Pu_move (.inr rfl) (by conv => lhs; whnf)) rfl rfl (by decide) (by kernel_rfl) ?_
  refine Al_nil ?_
  refine Aw_ret ?_
  exact Sub.bool (by simp) -- ret 0
end Go.Proofs.Ytfalbocgnmlncaa
