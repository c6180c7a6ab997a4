/- SiteNil: of none nothing comes; no condition. -/
import Derived.Test.YtmbaeloiepjakaaGreatB4
set_option linter.unusedSimpArgs false
set_option linter.unusedVariables false
set_option linter.constructorNameAsVariable false

section
set_option maxRecDepth 100000
namespace Go.Proofs.YtmbaeloiepjakaaGreat
open Go.RowKit A R
open A.RowT
theorem stWriteN_a (key value : ByteArray) (gone : Bool) (past : List Dep) : ACall Tryz.prog 21 [.v (.pointer none), tv key, tv value, bv gone, .sl 3 (past.map Dep.row)] (.tup [.row (default : Ver).row, iv 1]) := by
  refine ACall_enterG (fun _ _ => by kernel_rfl) Tryz.func21 rfl Tryz.ntmps21 (Reads.cN1 Tryz.results21 Tryz.isAgg34 Tryz.sizeOf34) (Nat.le_of_ble_eq_true rfl) (fun hok M0 w0 hnl => ?_)
  refine Aw_seq (Aw_region ?_)
  refine Al_alloc rfl rfl rfl (by decide) Tryz.zeroValue34 rfl (by kernel_rfl) (fun g10 => ?_)
  refine Al_p Pu_mvr ?_
  refine Al_nil (Aw_seq (Aw_block (Aw_seq (Aw_region ?_))))
  refine Al_p Pu_mvl ?_
  refine Al_p (Pu_eqnilN Tryz.underlying24 rfl rfl) ?_
  refine Al_p Pu_mvr ?_
  refine Al_nil ?_
  refine Aw_condT rfl (rfl) ?_
  refine Aw_seq (Aw_region ?_)
  refine Al_p (Pu_build (aa := []) rfl Tryz.underlying34 Tryz.zeroValue34 (places34 Tryz.underlying34) (by kernel_rfl) trivial rfl) ?_
  refine Al_storeN rfl rfl rfl (by kernel_rfl) Tryz.isAgg34 Tryz.sizeOf34 rfl rfl rfl rfl (Nat.le_of_ble_eq_true rfl) ?_
  refine Al_p Pu_mvr ?_
  refine Al_nil ?_
  refine Aw_boxle (k := 10) ((default : Ver).row.map .d) rfl ⟨Sub.rfl, Sub.rfl, Sub.rfl, Sub.rfl, Sub.rfl, Sub.nil, trivial⟩ ?_
  refine Aw_ret ?_
  exact ⟨_, _, _, _, _, [_, _, _, _, _, _], _, rfl, rfl, rfl, rfl, Sub.rfl, rfl⟩ -- ret 0
theorem stStepN_a : ACall Tryz.prog 16 [.v (.pointer none)] (.tup [.row (default : Ver).row, bv false]) := by
  refine ACall_enterG (fun _ _ => by kernel_rfl) Tryz.func16 rfl Tryz.ntmps16 (Reads.cN1 Tryz.results16 Tryz.isAgg34 Tryz.sizeOf34) (Nat.le_of_ble_eq_true rfl) (fun hok M0 w0 hnl => ?_)
  refine Aw_seq (Aw_region ?_)
  refine Al_alloc rfl rfl rfl (by decide) Tryz.zeroValue34 rfl (by kernel_rfl) (fun g2 => ?_)
  refine Al_p Pu_mvr ?_
  refine Al_nil (Aw_seq (Aw_seq (Aw_region ?_)))
  refine Al_p Pu_mvl ?_
  refine Al_p (Pu_eqnilN Tryz.underlying24 rfl rfl) ?_
  refine Al_nil ?_
  refine Aw_condT rfl (rfl) ?_
  refine Aw_seq (Aw_region ?_)
  refine Al_p (Pu_build (aa := []) rfl Tryz.underlying34 Tryz.zeroValue34 (places34 Tryz.underlying34) (by kernel_rfl) trivial rfl) ?_
  refine Al_storeN rfl rfl rfl (by kernel_rfl) Tryz.isAgg34 Tryz.sizeOf34 rfl rfl rfl rfl (Nat.le_of_ble_eq_true rfl) ?_
  refine Al_p Pu_mvr ?_
  refine Al_nil ?_
  refine Aw_boxle (k := 2) ((default : Ver).row.map .d) rfl ⟨Sub.rfl, Sub.rfl, Sub.rfl, Sub.rfl, Sub.rfl, Sub.nil, trivial⟩ ?_
  refine Aw_ret ?_
  exact ⟨_, _, _, _, _, [_, _, _, _, _, _], _, rfl, rfl, rfl, rfl, Sub.rfl, rfl⟩ -- ret 0
theorem stReadN_a (key : ByteArray) : ACall Tryz.prog 19 [.v (.pointer none), tv key] (.tup [.row (default : Ver).row, bv false, iv 1]) := by
  refine ACall_enterG (fun _ _ => by kernel_rfl) Tryz.func19 rfl Tryz.ntmps19 (Reads.cN2 Tryz.results19 Tryz.isAgg34 Tryz.sizeOf34) (Nat.le_of_ble_eq_true rfl) (fun hok M0 w0 hnl => ?_)
  refine Aw_seq (Aw_region ?_)
  refine Al_alloc rfl rfl rfl (by decide) Tryz.zeroValue34 rfl (by kernel_rfl) (fun g4 => ?_)
  refine Al_p Pu_mvr ?_
  refine Al_p Pu_mvr ?_
  refine Al_nil (Aw_seq (Aw_block (Aw_seq (Aw_region ?_))))
  refine Al_p Pu_mvl ?_
  refine Al_p (Pu_eqnilN Tryz.underlying24 rfl rfl) ?_
  refine Al_p Pu_mvr ?_
  refine Al_nil ?_
  refine Aw_condT rfl (rfl) ?_
  refine Aw_seq (Aw_region ?_)
  refine Al_p (Pu_build (aa := []) rfl Tryz.underlying34 Tryz.zeroValue34 (places34 Tryz.underlying34) (by kernel_rfl) trivial rfl) ?_
  refine Al_storeN rfl rfl rfl (by kernel_rfl) Tryz.isAgg34 Tryz.sizeOf34 rfl rfl rfl rfl (Nat.le_of_ble_eq_true rfl) ?_
  refine Al_p Pu_mvr ?_
  refine Al_p Pu_mvr ?_
  refine Al_nil ?_
  refine Aw_boxle (k := 4) ((default : Ver).row.map .d) rfl ⟨Sub.rfl, Sub.rfl, Sub.rfl, Sub.rfl, Sub.rfl, Sub.nil, trivial⟩ ?_
  refine Aw_ret ?_
  exact ⟨_, _, _, _, _, [_, _, _, _, _, _], _, _, rfl, rfl, rfl, rfl, Sub.rfl, Sub.rfl, rfl⟩ -- ret 0
theorem stCleanN_a (n s : Int) (pins : List Dep) : ACall Tryz.prog 25 [.v (.pointer none), .row [iv n, iv s], .sl 3 (pins.map Dep.row)] (.tup []) := by
  refine ACall_enterG (fun _ _ => by kernel_rfl) Tryz.func25 rfl Tryz.ntmps25 (Reads.r0 Tryz.results25) (Nat.le_of_ble_eq_true rfl) (fun hok M0 w0 hnl => ?_)
  refine Aw_seq (Aw_region ?_)
  refine Al_p (Pu_boxN rfl rfl) ?_
  refine Al_nil (Aw_seq (Aw_region ?_))
  refine Al_p Pu_mvl ?_
  refine Al_p (Pu_neqnilN Tryz.underlying24 rfl rfl) ?_
  refine Al_nil ?_
  refine Aw_condF rfl (rfl) ?_
  refine Aw_skip ?_
  exact rfl -- ret 0
theorem stMoveN_a (rs : List Rng) (l : List Ver) : ACall Tryz.prog 32 [.v (.pointer none), rngA rs, versA l] (.tup []) := by
  refine ACall_enterG (fun _ _ => by kernel_rfl) Tryz.func32 rfl Tryz.ntmps32 (Reads.r0 Tryz.results32) (Nat.le_of_ble_eq_true rfl) (fun hok M0 w0 hnl => ?_)
  refine Aw_seq (Aw_seq (Aw_region ?_))
  refine Al_p Pu_mvl ?_
  refine Al_p (Pu_eqnilN Tryz.underlying24 rfl rfl) ?_
  refine Al_nil ?_
  refine Aw_condT rfl (rfl) ?_
  refine Aw_ret ?_
  exact rfl -- ret 0
theorem stArriveN_a (v : Ver) : ACall Tryz.prog 13 [.v (.pointer none), .row v.row] (iv 1) := by
  refine ACall_enter (fun _ _ => by kernel_rfl) Tryz.func13 rfl Tryz.ntmps13 Tryz.results13 (Nat.le_of_ble_eq_true rfl) (fun hok M0 w0 hnl => ?_)
  refine Aw_seq (Aw_region ?_)
  refine Al_p (Pu_boxN rfl rfl) ?_
  refine Al_p Pu_mvr ?_
  refine Al_nil (Aw_seq (Aw_seq (Aw_region ?_)))
  refine Al_p Pu_mvl ?_
  refine Al_p (Pu_eqnilN Tryz.underlying24 rfl rfl) ?_
  refine Al_p Pu_mvl ?_
  refine Al_st (St_gd [] rfl rfl rfl rfl trivial (fun hg10 => Pu_loadN rfl Tryz.isAgg34 Tryz.sizeOf34 rfl (Nat.le_of_ble_eq_true rfl))) rfl (by decide) (by kernel_rfl) (by intro j b oj dj h1 h2 h3; cases h1; cases h2; cases h3; decide) ?_
  refine Al_st (St_gd [10] rfl rfl rfl rfl ⟨⟨_, rfl⟩, trivial⟩ (fun hg11 => Pu_call (wcheck_a v) rfl ⟨Sub.rfl, trivial⟩)) rfl (by decide) (by kernel_rfl) (by intro j b oj dj h1 h2 h3; cases h1; cases h2; cases h3; decide) ?_
  refine Al_st (St_gd [11] rfl rfl rfl rfl ⟨⟨_, rfl⟩, trivial⟩ (fun hg12 => Pu_not rfl rfl)) rfl (by decide) (by kernel_rfl) (by intro j b oj dj h1 h2 h3; cases h1; cases h2; cases h3; decide) ?_
  refine Al_p (Pu_or rfl rfl rfl rfl) ?_
  refine Al_nil ?_
  refine Aw_cond rfl (fun h13 => ?_) (fun h13 => ?_)
  · skip
    refine Aw_seq (Aw_region ?_)
    refine Al_p Pu_mvr ?_
    refine Al_nil ?_
    refine Aw_ret ?_
    exact Sub.rfl -- ret 0
  · skip
    exfalso; simp at h13
theorem stWaitingN_a : ACall Tryz.prog 18 [.v (.pointer none)] (iv 0) := by
  refine ACall_enter (fun _ _ => by kernel_rfl) Tryz.func18 rfl Tryz.ntmps18 Tryz.results18 (Nat.le_of_ble_eq_true rfl) (fun hok M0 w0 hnl => ?_)
  refine Aw_seq (Aw_region ?_)
  refine Al_p Pu_mvr ?_
  refine Al_nil (Aw_seq (Aw_seq (Aw_region ?_)))
  refine Al_p Pu_mvl ?_
  refine Al_p (Pu_eqnilN Tryz.underlying24 rfl rfl) ?_
  refine Al_nil ?_
  refine Aw_condT rfl (rfl) ?_
  refine Aw_seq (Aw_region ?_)
  refine Al_p Pu_mvr ?_
  refine Al_nil ?_
  refine Aw_ret ?_
  exact Sub.rfl -- ret 0
theorem stHaveN_a : ACall Tryz.prog 15 [.v (.pointer none)] (.sl 3 []) := by
  refine ACall_enter (fun _ _ => by kernel_rfl) Tryz.func15 rfl Tryz.ntmps15 Tryz.results15 (Nat.le_of_ble_eq_true rfl) (fun hok M0 w0 hnl => ?_)
  refine Aw_seq (Aw_region ?_)
  refine Al_p Pu_mvr ?_
  refine Al_nil (Aw_seq (Aw_seq (Aw_region ?_)))
  refine Al_p Pu_mvl ?_
  refine Al_p (Pu_eqnilN Tryz.underlying24 rfl rfl) ?_
  refine Al_nil ?_
  refine Aw_condT rfl (rfl) ?_
  refine Aw_seq (Aw_region ?_)
  refine Al_p Pu_mvr ?_
  refine Al_nil ?_
  refine Aw_ret ?_
  exact Sub.nil -- ret 0
theorem stChainN_a (key : ByteArray) : ACall Tryz.prog 39 [.v (.pointer none), tv key] (versA []) := by
  refine ACall_enter (fun _ _ => by kernel_rfl) Tryz.func39 rfl Tryz.ntmps39 Tryz.results39 (Nat.le_of_ble_eq_true rfl) (fun hok M0 w0 hnl => ?_)
  refine Aw_seq (Aw_region ?_)
  refine Al_p Pu_mvr ?_
  refine Al_nil (Aw_seq (Aw_seq (Aw_region ?_)))
  refine Al_p Pu_mvl ?_
  refine Al_p (Pu_eqnilN Tryz.underlying24 rfl rfl) ?_
  refine Al_nil ?_
  refine Aw_condT rfl (rfl) ?_
  refine Aw_seq (Aw_region ?_)
  refine Al_p Pu_mvr ?_
  refine Al_nil ?_
  refine Aw_ret ?_
  exact Sub.nil -- ret 0
theorem stOwnN_a : ACall Tryz.prog 42 [.v (.pointer none)] (rngA []) := by
  refine ACall_enter (fun _ _ => by kernel_rfl) Tryz.func42 rfl Tryz.ntmps42 Tryz.results42 (Nat.le_of_ble_eq_true rfl) (fun hok M0 w0 hnl => ?_)
  refine Aw_seq (Aw_region ?_)
  refine Al_p Pu_mvr ?_
  refine Al_nil (Aw_seq (Aw_seq (Aw_region ?_)))
  refine Al_p Pu_mvl ?_
  refine Al_p (Pu_eqnilN Tryz.underlying24 rfl rfl) ?_
  refine Al_nil ?_
  refine Aw_condT rfl (rfl) ?_
  refine Aw_seq (Aw_region ?_)
  refine Al_p Pu_mvr ?_
  refine Al_nil ?_
  refine Aw_ret ?_
  exact Sub.nil -- ret 0
theorem stClockN_a : ACall Tryz.prog 20 [.v (.pointer none)] (.row [iv 0, iv 0]) := by
  refine ACall_enterG (fun _ _ => by kernel_rfl) Tryz.func20 rfl Tryz.ntmps20 (Reads.cN Tryz.results20 Tryz.isAgg31 Tryz.sizeOf31) (Nat.le_of_ble_eq_true rfl) (fun hok M0 w0 hnl => ?_)
  refine Aw_seq (Aw_region ?_)
  refine Al_alloc rfl rfl rfl (by decide) Tryz.zeroValue31 rfl (by kernel_rfl) (fun g2 => ?_)
  refine Al_nil (Aw_seq (Aw_seq (Aw_region ?_)))
  refine Al_p Pu_mvl ?_
  refine Al_p (Pu_eqnilN Tryz.underlying24 rfl rfl) ?_
  refine Al_nil ?_
  refine Aw_condT rfl (rfl) ?_
  refine Aw_seq (Aw_region ?_)
  refine Al_p (Pu_build (aa := []) rfl Tryz.underlying31 Tryz.zeroValue31 (places31 Tryz.underlying31) (by kernel_rfl) trivial rfl) ?_
  refine Al_storeN rfl rfl rfl (by kernel_rfl) Tryz.isAgg31 Tryz.sizeOf31 rfl rfl rfl rfl (Nat.le_of_ble_eq_true rfl) ?_
  refine Al_nil ?_
  refine Aw_ret ?_
  exact ⟨_, _, _, _, _, [_, _], rfl, rfl, rfl, rfl, rfl⟩ -- ret 0
/-- A zero version, told with a row for its past. -/
theorem zeroV : A.Sub (.d (.row [tv ⟨#[]⟩, tv ⟨#[]⟩, bv false, iv 0, iv 0, .v (.slice none 0 0)])) (.d (.row (default : Ver).row)) := ASub.sub (ASub.row ⟨ASub.rfl, ASub.rfl, ASub.rfl, ASub.rfl, ASub.rfl, ASub.nil, trivial⟩)
set_option maxHeartbeats 1000000 in
theorem sitenil_yes (z : Int) (hz : (0 ≤ z ∧ z < 6)) : ACall Tryz.prog 9 [iv z] (bv true) := by
  refine ACall_enter (fun _ _ => by kernel_rfl) Tryz.func9 rfl Tryz.ntmps9 Tryz.results9 (Nat.le_of_ble_eq_true rfl) (fun hok M0 w0 hnl => ?_)
  refine Aw_seq (Aw_region ?_)
  refine Al_p Pu_mvr ?_
  refine Al_nil (Aw_seq (Aw_region ?_))
  refine Al_p Pu_mvl ?_
  refine Al_gcallE [] [(1001, 14), (1002, 140), (1003, 141)] (stNew_g z hz [] (by decide)) rfl rfl rfl (by decide) (by kernel_rfl) trivial (fun _ => rfl) rfl rfl ⟨Sub.rfl, Sub.nil, trivial⟩ ?_
  rintro b g14
  refine Al_p Pu_mvr ?_
  refine Al_nil (Aw_seq (Aw_region ?_))
  refine Al_p Pu_mvr ?_
  refine Al_nil (Aw_seq (Aw_region ?_))
  refine Al_p Pu_mvl ?_
  refine Al_p (Pu_call (stWriteN_a ⟨#[97]⟩ ⟨#[]⟩ false []) rfl ⟨Sub.rfl, Sub.rfl, Sub.rfl, Sub.rfl, Sub.nil, trivial⟩) ?_
  refine Al_p Pu_mvl ?_
  refine Al_p (Pu_extract rfl rfl rfl) ?_
  refine Al_p (Pu_extract rfl rfl rfl) ?_
  refine Al_alloc rfl rfl rfl (by decide) Tryz.zeroValue34 rfl (by kernel_rfl) (fun g5 => ?_)
  refine Al_storeN rfl rfl rfl (by kernel_rfl) Tryz.isAgg34 Tryz.sizeOf34 rfl rfl rfl rfl (Nat.le_of_ble_eq_true rfl) ?_
  refine Al_p Pu_mvr ?_
  refine Al_nil (Aw_seq (Aw_region ?_))
  refine Al_p Pu_mvl ?_
  refine Al_p (Pu_call (stStepN_a) rfl ⟨Sub.rfl, trivial⟩) ?_
  refine Al_p Pu_mvl ?_
  refine Al_p (Pu_extract rfl rfl rfl) ?_
  refine Al_p (Pu_extract rfl rfl rfl) ?_
  refine Al_alloc rfl rfl rfl (by decide) Tryz.zeroValue34 rfl (by kernel_rfl) (fun g7 => ?_)
  refine Al_storeN rfl rfl rfl (by kernel_rfl) Tryz.isAgg34 Tryz.sizeOf34 rfl rfl rfl rfl (Nat.le_of_ble_eq_true rfl) ?_
  refine Al_p Pu_mvr ?_
  refine Al_nil (Aw_seq (Aw_region ?_))
  refine Al_p Pu_mvl ?_
  refine Al_p (Pu_call (stReadN_a ⟨#[97]⟩) rfl ⟨Sub.rfl, Sub.rfl, trivial⟩) ?_
  refine Al_p Pu_mvl ?_
  refine Al_p (Pu_extract rfl rfl rfl) ?_
  refine Al_p (Pu_extract rfl rfl rfl) ?_
  refine Al_p (Pu_extract rfl rfl rfl) ?_
  refine Al_alloc rfl rfl rfl (by decide) Tryz.zeroValue34 rfl (by kernel_rfl) (fun g9 => ?_)
  refine Al_storeN rfl rfl rfl (by kernel_rfl) Tryz.isAgg34 Tryz.sizeOf34 rfl rfl rfl rfl (Nat.le_of_ble_eq_true rfl) ?_
  refine Al_p Pu_mvr ?_
  refine Al_p Pu_mvr ?_
  refine Al_nil (Aw_seq (Aw_region ?_))
  refine Al_p Pu_mvl ?_
  refine Al_p (Pu_build (aa := []) rfl Tryz.underlying31 Tryz.zeroValue31 (places31 Tryz.underlying31) (by kernel_rfl) trivial rfl) ?_
  refine Al_p (Pu_call (stCleanN_a 0 0 []) rfl ⟨Sub.rfl, Sub.rfl, Sub.nil, trivial⟩) ?_
  refine Al_nil (Aw_seq (Aw_region ?_))
  refine Al_p Pu_mvl ?_
  refine Al_p (Pu_call (stMoveN_a [] []) rfl ⟨Sub.rfl, Sub.nil, Sub.nil, trivial⟩) ?_
  refine Al_nil (Aw_seq (Aw_region ?_))
  refine Al_p (Pu_build (aa := []) rfl Tryz.underlying31 Tryz.zeroValue31 (places31 Tryz.underlying31) (by kernel_rfl) trivial rfl) ?_
  refine Al_alloc rfl rfl rfl (by decide) Tryz.zeroValue31 rfl (by kernel_rfl) (fun g12 => ?_)
  refine Al_storeN rfl rfl rfl (by kernel_rfl) Tryz.isAgg31 Tryz.sizeOf31 rfl rfl rfl rfl (Nat.le_of_ble_eq_true rfl) ?_
  refine Al_nil (Aw_seq ?_)
  refine Aw_draw 53 (by kernel_rfl) (by kernel_rfl) ?_
  refine Dr_p (Pu_call (tawake_a) rfl trivial) ?_
  refine Dr_p Pu_mvl ?_
  refine Dr_st (St_gd [] rfl rfl rfl rfl trivial (fun hg39 => by exact Pu_move (.inl rfl) (by conv => lhs; whnf))) rfl ?_
  refine Dr_st (St_gd [39] rfl rfl rfl rfl ⟨⟨_, rfl⟩, trivial⟩ (fun hg40 => Pu_neqnilb Tryz.underlying24 rfl rfl)) rfl ?_
  refine Dr_st (St_gd [] rfl rfl rfl rfl trivial (fun hg41 => by exact Pu_move (.inl rfl) (by conv => lhs; whnf))) rfl ?_
  refine Dr_st (St_gd [41] rfl rfl rfl rfl ⟨⟨_, rfl⟩, trivial⟩ (fun hg42 => Pu_cmp rfl rfl rfl rfl)) rfl ?_
  refine Dr_st (St_gd [42] rfl rfl rfl rfl ⟨⟨_, rfl⟩, trivial⟩ (fun hg43 => by exact Pu_move (.inl rfl) (by conv => lhs; whnf))) rfl ?_
  refine Dr_st (St_gd2 [] rfl rfl rfl rfl trivial (fun hp44 hg44 => by exact Pu_move (.inl rfl) (by conv => lhs; whnf))) rfl ?_
  refine Dr_st (St_gd2 [44] rfl rfl rfl rfl ⟨⟨_, rfl⟩, trivial⟩ (fun hp45 hg45 => Pu_cmp rfl rfl rfl rfl)) rfl ?_
  refine Dr_st (St_gd [43] rfl rfl rfl rfl ⟨⟨_, rfl⟩, trivial⟩ (fun hg46 => Pu_andG rfl rfl (fun h => ⟨hg46, h⟩) rfl rfl)) rfl ?_
  refine Dr_st (St_gd [40, 46] rfl rfl rfl rfl ⟨⟨_, rfl⟩, ⟨_, rfl⟩, trivial⟩ (fun hg47 => Pu_bool rfl Tryz.underlying4 rfl rfl rfl)) rfl ?_
  refine Dr_p (Pu_and rfl rfl rfl rfl) ?_
  refine Dr_p Pu_mvl ?_
  refine Dr_st (St_gd [] rfl rfl rfl rfl trivial (fun hg50 => by exact Pu_move (.inl rfl) (by conv => lhs; whnf))) rfl ?_
  refine Dr_st (St_gd [50] rfl rfl rfl rfl ⟨⟨_, rfl⟩, trivial⟩ (fun hg51 => Pu_cmp rfl rfl rfl rfl)) rfl ?_
  refine Dr_p (Pu_and rfl rfl rfl rfl) ?_
  refine Dr_p Pu_mvl ?_
  refine Dr_st (St_gd [] rfl rfl rfl rfl trivial (fun hg54 => by exact Pu_move (.inl rfl) (by conv => lhs; whnf))) rfl ?_
  refine Dr_st (St_gd [54] rfl rfl rfl rfl ⟨⟨_, rfl⟩, trivial⟩ (fun hg55 => Pu_not rfl rfl)) rfl ?_
  refine Dr_p (Pu_and rfl rfl rfl rfl) ?_
  refine Dr_p Pu_mvl ?_
  refine Dr_st (St_gd [] rfl rfl rfl rfl trivial (fun hg58 => by exact Pu_move (.inl rfl) (by conv => lhs; whnf))) rfl ?_
  refine Dr_st (St_gd [58] rfl rfl rfl rfl ⟨⟨_, rfl⟩, trivial⟩ (fun hg59 => Pu_cmp rfl rfl rfl rfl)) rfl ?_
  refine Dr_p (Pu_and rfl rfl rfl rfl) ?_
  refine Dr_p Pu_mvl ?_
  refine Dr_st (St_gd [] rfl rfl rfl rfl trivial (fun hg62 => by exact Pu_move (.inl rfl) (by conv => lhs; whnf))) rfl ?_
  refine Dr_st (St_gd [] rfl rfl rfl rfl trivial (fun hg63 => by exact Pu_build (aa := []) rfl Tryz.underlying34 Tryz.zeroValue34 (places34 Tryz.underlying34) (by kernel_rfl) trivial rfl)) rfl ?_
  refine Dr_st (St_gd [62, 63] rfl rfl rfl rfl ⟨⟨_, rfl⟩, ⟨_, rfl⟩, trivial⟩ (fun hg64 => Pu_call (stArriveN_a default) rfl ⟨Sub.rfl, zeroV, trivial⟩)) rfl ?_
  refine Dr_st (St_gd [64] rfl rfl rfl rfl ⟨⟨_, rfl⟩, trivial⟩ (fun hg65 => Pu_cmp rfl rfl rfl rfl)) rfl ?_
  refine Dr_p (Pu_and rfl rfl rfl rfl) ?_
  refine Dr_p Pu_mvl ?_
  refine Dr_st (St_gd [] rfl rfl rfl rfl trivial (fun hg68 => by exact Pu_move (.inl rfl) (by conv => lhs; whnf))) rfl ?_
  refine Dr_st (St_gd [68] rfl rfl rfl rfl ⟨⟨_, rfl⟩, trivial⟩ (fun hg69 => Pu_call (stWaitingN_a) rfl ⟨Sub.rfl, trivial⟩)) rfl ?_
  refine Dr_st (St_gd [] rfl rfl rfl rfl trivial (fun hg70 => by exact Pu_move (.inl rfl) (by conv => lhs; whnf))) rfl ?_
  refine Dr_st (St_gd [70] rfl rfl rfl rfl ⟨⟨_, rfl⟩, trivial⟩ (fun hg71 => Pu_call (stHaveN_a) rfl ⟨Sub.rfl, trivial⟩)) rfl ?_
  refine Dr_st (St_gd [71] rfl rfl rfl rfl ⟨⟨_, rfl⟩, trivial⟩ (fun hg72 => by exact Pu_len rfl Tryz.underlying32 rfl (by first | exact List.length_map .. | exact rfl))) rfl ?_
  refine Dr_st (St_gd [69, 72] rfl rfl rfl rfl ⟨⟨_, rfl⟩, ⟨_, rfl⟩, trivial⟩ (fun hg73 => by exact Pu_add rfl rfl rfl (fun h1 h2 => by simp [A.inI]))) rfl ?_
  refine Dr_st (St_gd [] rfl rfl rfl rfl trivial (fun hg74 => by exact Pu_move (.inl rfl) (by conv => lhs; whnf))) rfl ?_
  refine Dr_st (St_gd [74] rfl rfl rfl rfl ⟨⟨_, rfl⟩, trivial⟩ (fun hg75 => Pu_call (stChainN_a ⟨#[97]⟩) rfl ⟨Sub.rfl, Sub.rfl, trivial⟩)) rfl ?_
  refine Dr_st (St_gd [75] rfl rfl rfl rfl ⟨⟨_, rfl⟩, trivial⟩ (fun hg76 => by exact Pu_len rfl Tryz.underlying65 rfl (by first | exact List.length_map .. | exact rfl))) rfl ?_
  refine Dr_st (St_gd [73, 76] rfl rfl rfl rfl ⟨⟨_, rfl⟩, ⟨_, rfl⟩, trivial⟩ (fun hg77 => by exact Pu_add rfl rfl rfl (fun h1 h2 => by simp [A.inI]))) rfl ?_
  refine Dr_st (St_gd [] rfl rfl rfl rfl trivial (fun hg78 => by exact Pu_move (.inl rfl) (by conv => lhs; whnf))) rfl ?_
  refine Dr_st (St_gd [78] rfl rfl rfl rfl ⟨⟨_, rfl⟩, trivial⟩ (fun hg79 => Pu_call (stOwnN_a) rfl ⟨Sub.rfl, trivial⟩)) rfl ?_
  refine Dr_st (St_gd [79] rfl rfl rfl rfl ⟨⟨_, rfl⟩, trivial⟩ (fun hg80 => by exact Pu_len rfl Tryz.underlying26 rfl (by first | exact List.length_map .. | exact rfl))) rfl ?_
  refine Dr_st (St_gd [77, 80] rfl rfl rfl rfl ⟨⟨_, rfl⟩, ⟨_, rfl⟩, trivial⟩ (fun hg81 => by exact Pu_add rfl rfl rfl (fun h1 h2 => by simp [A.inI]))) rfl ?_
  refine Dr_st (St_gd [81] rfl rfl rfl rfl ⟨⟨_, rfl⟩, trivial⟩ (fun hg82 => Pu_cmp rfl rfl rfl rfl)) rfl ?_
  refine Dr_p (Pu_and rfl rfl rfl rfl) ?_
  refine Dr_p Pu_mvl ?_
  refine Dr_st (St_gd [] rfl rfl rfl rfl trivial (fun hg85 => by exact Pu_move (.inl rfl) (by conv => lhs; whnf))) rfl ?_
  refine Dr_st (St_gd [85] rfl rfl rfl rfl ⟨⟨_, rfl⟩, trivial⟩ (fun hg86 => Pu_call (stClockN_a) rfl ⟨Sub.rfl, trivial⟩)) rfl ?_
  refine Dr_st (St_gd [] rfl rfl rfl rfl trivial (fun hg87 => Pu_loadbN (r := [_, _]) rfl Tryz.isAgg31 Tryz.sizeOf31 rfl rfl rfl rfl)) rfl ?_
  refine Dr_st (St_gd [86, 87] rfl rfl rfl rfl ⟨⟨_, rfl⟩, ⟨_, rfl⟩, trivial⟩ (fun hg88 => Pu_eqrow [.int .i64 _, .int .i64 _] [.int .i64 _, .int .i64 _] (fun w => eqv31 _ _ _ _ _ _ w) rfl rfl rfl)) rfl ?_
  refine Dr_p (Pu_and rfl rfl rfl rfl) ?_
  refine Dr_nil ?_
  refine Al_p Pu_mvr ?_
  refine Al_nil ?_
  refine Aw_ret ?_
  exact Sub.bool (by simp; omega) -- ret 0
set_option maxHeartbeats 1000000 in
theorem sitenil_no (z : Int) (hz : ¬ (0 ≤ z ∧ z < 6)) : ACall Tryz.prog 9 [iv z] (bv true) := by
  refine ACall_enter (fun _ _ => by kernel_rfl) Tryz.func9 rfl Tryz.ntmps9 Tryz.results9 (Nat.le_of_ble_eq_true rfl) (fun hok M0 w0 hnl => ?_)
  refine Aw_seq (Aw_region ?_)
  refine Al_p Pu_mvr ?_
  refine Al_nil (Aw_seq (Aw_region ?_))
  refine Al_p Pu_mvl ?_
  refine Al_p (Pu_call (stNew_no z hz []) rfl ⟨Sub.rfl, Sub.nil, trivial⟩) ?_
  refine Al_p Pu_mvr ?_
  refine Al_nil (Aw_seq (Aw_region ?_))
  refine Al_p Pu_mvr ?_
  refine Al_nil (Aw_seq (Aw_region ?_))
  refine Al_p Pu_mvl ?_
  refine Al_p (Pu_call (stWriteN_a ⟨#[97]⟩ ⟨#[]⟩ false []) rfl ⟨Sub.rfl, Sub.rfl, Sub.rfl, Sub.rfl, Sub.nil, trivial⟩) ?_
  refine Al_p Pu_mvl ?_
  refine Al_p (Pu_extract rfl rfl rfl) ?_
  refine Al_p (Pu_extract rfl rfl rfl) ?_
  refine Al_alloc rfl rfl rfl (by decide) Tryz.zeroValue34 rfl (by kernel_rfl) (fun g5 => ?_)
  refine Al_storeN rfl rfl rfl (by kernel_rfl) Tryz.isAgg34 Tryz.sizeOf34 rfl rfl rfl rfl (Nat.le_of_ble_eq_true rfl) ?_
  refine Al_p Pu_mvr ?_
  refine Al_nil (Aw_seq (Aw_region ?_))
  refine Al_p Pu_mvl ?_
  refine Al_p (Pu_call (stStepN_a) rfl ⟨Sub.rfl, trivial⟩) ?_
  refine Al_p Pu_mvl ?_
  refine Al_p (Pu_extract rfl rfl rfl) ?_
  refine Al_p (Pu_extract rfl rfl rfl) ?_
  refine Al_alloc rfl rfl rfl (by decide) Tryz.zeroValue34 rfl (by kernel_rfl) (fun g7 => ?_)
  refine Al_storeN rfl rfl rfl (by kernel_rfl) Tryz.isAgg34 Tryz.sizeOf34 rfl rfl rfl rfl (Nat.le_of_ble_eq_true rfl) ?_
  refine Al_p Pu_mvr ?_
  refine Al_nil (Aw_seq (Aw_region ?_))
  refine Al_p Pu_mvl ?_
  refine Al_p (Pu_call (stReadN_a ⟨#[97]⟩) rfl ⟨Sub.rfl, Sub.rfl, trivial⟩) ?_
  refine Al_p Pu_mvl ?_
  refine Al_p (Pu_extract rfl rfl rfl) ?_
  refine Al_p (Pu_extract rfl rfl rfl) ?_
  refine Al_p (Pu_extract rfl rfl rfl) ?_
  refine Al_alloc rfl rfl rfl (by decide) Tryz.zeroValue34 rfl (by kernel_rfl) (fun g9 => ?_)
  refine Al_storeN rfl rfl rfl (by kernel_rfl) Tryz.isAgg34 Tryz.sizeOf34 rfl rfl rfl rfl (Nat.le_of_ble_eq_true rfl) ?_
  refine Al_p Pu_mvr ?_
  refine Al_p Pu_mvr ?_
  refine Al_nil (Aw_seq (Aw_region ?_))
  refine Al_p Pu_mvl ?_
  refine Al_p (Pu_build (aa := []) rfl Tryz.underlying31 Tryz.zeroValue31 (places31 Tryz.underlying31) (by kernel_rfl) trivial rfl) ?_
  refine Al_p (Pu_call (stCleanN_a 0 0 []) rfl ⟨Sub.rfl, Sub.rfl, Sub.nil, trivial⟩) ?_
  refine Al_nil (Aw_seq (Aw_region ?_))
  refine Al_p Pu_mvl ?_
  refine Al_p (Pu_call (stMoveN_a [] []) rfl ⟨Sub.rfl, Sub.nil, Sub.nil, trivial⟩) ?_
  refine Al_nil (Aw_seq (Aw_region ?_))
  refine Al_p (Pu_build (aa := []) rfl Tryz.underlying31 Tryz.zeroValue31 (places31 Tryz.underlying31) (by kernel_rfl) trivial rfl) ?_
  refine Al_alloc rfl rfl rfl (by decide) Tryz.zeroValue31 rfl (by kernel_rfl) (fun g12 => ?_)
  refine Al_storeN rfl rfl rfl (by kernel_rfl) Tryz.isAgg31 Tryz.sizeOf31 rfl rfl rfl rfl (Nat.le_of_ble_eq_true rfl) ?_
  refine Al_nil (Aw_seq ?_)
  refine Aw_draw 53 (by kernel_rfl) (by kernel_rfl) ?_
  refine Dr_p (Pu_call (tawake_a) rfl trivial) ?_
  refine Dr_p Pu_mvl ?_
  refine Dr_st (St_gd [] rfl rfl rfl rfl trivial (fun hg39 => by exact Pu_move (.inl rfl) (by conv => lhs; whnf))) rfl ?_
  refine Dr_st (St_gd [39] rfl rfl rfl rfl ⟨⟨_, rfl⟩, trivial⟩ (fun hg40 => Pu_neqnilN Tryz.underlying24 rfl rfl)) rfl ?_
  refine Dr_st (St_gd [] rfl rfl rfl rfl trivial (fun hg41 => by exact Pu_move (.inl rfl) (by conv => lhs; whnf))) rfl ?_
  refine Dr_st (St_gd [41] rfl rfl rfl rfl ⟨⟨_, rfl⟩, trivial⟩ (fun hg42 => Pu_cmp rfl rfl rfl rfl)) rfl ?_
  refine Dr_st (St_gd [42] rfl rfl rfl rfl ⟨⟨_, rfl⟩, trivial⟩ (fun hg43 => by exact Pu_move (.inl rfl) (by conv => lhs; whnf))) rfl ?_
  refine Dr_st (St_gd2 [] rfl rfl rfl rfl trivial (fun hp44 hg44 => by exact Pu_move (.inl rfl) (by conv => lhs; whnf))) rfl ?_
  refine Dr_st (St_gd2 [44] rfl rfl rfl rfl ⟨⟨_, rfl⟩, trivial⟩ (fun hp45 hg45 => Pu_cmp rfl rfl rfl rfl)) rfl ?_
  refine Dr_st (St_gd [43] rfl rfl rfl rfl ⟨⟨_, rfl⟩, trivial⟩ (fun hg46 => Pu_andG rfl rfl (fun h => ⟨hg46, h⟩) rfl rfl)) rfl ?_
  refine Dr_st (St_gd [40, 46] rfl rfl rfl rfl ⟨⟨_, rfl⟩, ⟨_, rfl⟩, trivial⟩ (fun hg47 => Pu_bool rfl Tryz.underlying4 rfl rfl rfl)) rfl ?_
  refine Dr_p (Pu_and rfl rfl rfl rfl) ?_
  refine Dr_p Pu_mvl ?_
  refine Dr_st (St_gd [] rfl rfl rfl rfl trivial (fun hg50 => by exact Pu_move (.inl rfl) (by conv => lhs; whnf))) rfl ?_
  refine Dr_st (St_gd [50] rfl rfl rfl rfl ⟨⟨_, rfl⟩, trivial⟩ (fun hg51 => Pu_cmp rfl rfl rfl rfl)) rfl ?_
  refine Dr_p (Pu_and rfl rfl rfl rfl) ?_
  refine Dr_p Pu_mvl ?_
  refine Dr_st (St_gd [] rfl rfl rfl rfl trivial (fun hg54 => by exact Pu_move (.inl rfl) (by conv => lhs; whnf))) rfl ?_
  refine Dr_st (St_gd [54] rfl rfl rfl rfl ⟨⟨_, rfl⟩, trivial⟩ (fun hg55 => Pu_not rfl rfl)) rfl ?_
  refine Dr_p (Pu_and rfl rfl rfl rfl) ?_
  refine Dr_p Pu_mvl ?_
  refine Dr_st (St_gd [] rfl rfl rfl rfl trivial (fun hg58 => by exact Pu_move (.inl rfl) (by conv => lhs; whnf))) rfl ?_
  refine Dr_st (St_gd [58] rfl rfl rfl rfl ⟨⟨_, rfl⟩, trivial⟩ (fun hg59 => Pu_cmp rfl rfl rfl rfl)) rfl ?_
  refine Dr_p (Pu_and rfl rfl rfl rfl) ?_
  refine Dr_p Pu_mvl ?_
  refine Dr_st (St_gd [] rfl rfl rfl rfl trivial (fun hg62 => by exact Pu_move (.inl rfl) (by conv => lhs; whnf))) rfl ?_
  refine Dr_st (St_gd [] rfl rfl rfl rfl trivial (fun hg63 => by exact Pu_build (aa := []) rfl Tryz.underlying34 Tryz.zeroValue34 (places34 Tryz.underlying34) (by kernel_rfl) trivial rfl)) rfl ?_
  refine Dr_st (St_gd [62, 63] rfl rfl rfl rfl ⟨⟨_, rfl⟩, ⟨_, rfl⟩, trivial⟩ (fun hg64 => Pu_call (stArriveN_a default) rfl ⟨Sub.rfl, zeroV, trivial⟩)) rfl ?_
  refine Dr_st (St_gd [64] rfl rfl rfl rfl ⟨⟨_, rfl⟩, trivial⟩ (fun hg65 => Pu_cmp rfl rfl rfl rfl)) rfl ?_
  refine Dr_p (Pu_and rfl rfl rfl rfl) ?_
  refine Dr_p Pu_mvl ?_
  refine Dr_st (St_gd [] rfl rfl rfl rfl trivial (fun hg68 => by exact Pu_move (.inl rfl) (by conv => lhs; whnf))) rfl ?_
  refine Dr_st (St_gd [68] rfl rfl rfl rfl ⟨⟨_, rfl⟩, trivial⟩ (fun hg69 => Pu_call (stWaitingN_a) rfl ⟨Sub.rfl, trivial⟩)) rfl ?_
  refine Dr_st (St_gd [] rfl rfl rfl rfl trivial (fun hg70 => by exact Pu_move (.inl rfl) (by conv => lhs; whnf))) rfl ?_
  refine Dr_st (St_gd [70] rfl rfl rfl rfl ⟨⟨_, rfl⟩, trivial⟩ (fun hg71 => Pu_call (stHaveN_a) rfl ⟨Sub.rfl, trivial⟩)) rfl ?_
  refine Dr_st (St_gd [71] rfl rfl rfl rfl ⟨⟨_, rfl⟩, trivial⟩ (fun hg72 => by exact Pu_len rfl Tryz.underlying32 rfl (by first | exact List.length_map .. | exact rfl))) rfl ?_
  refine Dr_st (St_gd [69, 72] rfl rfl rfl rfl ⟨⟨_, rfl⟩, ⟨_, rfl⟩, trivial⟩ (fun hg73 => by exact Pu_add rfl rfl rfl (fun h1 h2 => by simp [A.inI]))) rfl ?_
  refine Dr_st (St_gd [] rfl rfl rfl rfl trivial (fun hg74 => by exact Pu_move (.inl rfl) (by conv => lhs; whnf))) rfl ?_
  refine Dr_st (St_gd [74] rfl rfl rfl rfl ⟨⟨_, rfl⟩, trivial⟩ (fun hg75 => Pu_call (stChainN_a ⟨#[97]⟩) rfl ⟨Sub.rfl, Sub.rfl, trivial⟩)) rfl ?_
  refine Dr_st (St_gd [75] rfl rfl rfl rfl ⟨⟨_, rfl⟩, trivial⟩ (fun hg76 => by exact Pu_len rfl Tryz.underlying65 rfl (by first | exact List.length_map .. | exact rfl))) rfl ?_
  refine Dr_st (St_gd [73, 76] rfl rfl rfl rfl ⟨⟨_, rfl⟩, ⟨_, rfl⟩, trivial⟩ (fun hg77 => by exact Pu_add rfl rfl rfl (fun h1 h2 => by simp [A.inI]))) rfl ?_
  refine Dr_st (St_gd [] rfl rfl rfl rfl trivial (fun hg78 => by exact Pu_move (.inl rfl) (by conv => lhs; whnf))) rfl ?_
  refine Dr_st (St_gd [78] rfl rfl rfl rfl ⟨⟨_, rfl⟩, trivial⟩ (fun hg79 => Pu_call (stOwnN_a) rfl ⟨Sub.rfl, trivial⟩)) rfl ?_
  refine Dr_st (St_gd [79] rfl rfl rfl rfl ⟨⟨_, rfl⟩, trivial⟩ (fun hg80 => by exact Pu_len rfl Tryz.underlying26 rfl (by first | exact List.length_map .. | exact rfl))) rfl ?_
  refine Dr_st (St_gd [77, 80] rfl rfl rfl rfl ⟨⟨_, rfl⟩, ⟨_, rfl⟩, trivial⟩ (fun hg81 => by exact Pu_add rfl rfl rfl (fun h1 h2 => by simp [A.inI]))) rfl ?_
  refine Dr_st (St_gd [81] rfl rfl rfl rfl ⟨⟨_, rfl⟩, trivial⟩ (fun hg82 => Pu_cmp rfl rfl rfl rfl)) rfl ?_
  refine Dr_p (Pu_and rfl rfl rfl rfl) ?_
  refine Dr_p Pu_mvl ?_
  refine Dr_st (St_gd [] rfl rfl rfl rfl trivial (fun hg85 => by exact Pu_move (.inl rfl) (by conv => lhs; whnf))) rfl ?_
  refine Dr_st (St_gd [85] rfl rfl rfl rfl ⟨⟨_, rfl⟩, trivial⟩ (fun hg86 => Pu_call (stClockN_a) rfl ⟨Sub.rfl, trivial⟩)) rfl ?_
  refine Dr_st (St_gd [] rfl rfl rfl rfl trivial (fun hg87 => Pu_loadbN (r := [_, _]) rfl Tryz.isAgg31 Tryz.sizeOf31 rfl rfl rfl rfl)) rfl ?_
  refine Dr_st (St_gd [86, 87] rfl rfl rfl rfl ⟨⟨_, rfl⟩, ⟨_, rfl⟩, trivial⟩ (fun hg88 => Pu_eqrow [.int .i64 _, .int .i64 _] [.int .i64 _, .int .i64 _] (fun w => eqv31 _ _ _ _ _ _ w) rfl rfl rfl)) rfl ?_
  refine Dr_p (Pu_and rfl rfl rfl rfl) ?_
  refine Dr_nil ?_
  refine Al_p Pu_mvr ?_
  refine Al_nil ?_
  refine Aw_ret ?_
  exact Sub.bool (by simp; omega) -- ret 0
theorem sitenil_law (z : Int) : ACall Tryz.prog 9 [iv z] (bv true) := by
  by_cases hz : 0 ≤ z ∧ z < 6
  · exact sitenil_yes z hz
  · exact sitenil_no z hz
end Go.Proofs.YtmbaeloiepjakaaGreat
end

section
namespace Go.Proofs.YtmbaeloiepjakaaGreat
open Go.ChangeShapes Go.WideShapes Go.ChangeAt Go.RowKit A
open Go.ChangeMaps (open_string shut_string)
theorem siteNil_law.own : ownKnob Tryz.prog.godebug = none := by kernel_rfl
theorem siteNil_law.laidOut : laidOutB Tryz.prog = true := by kernel_rfl
set_option maxRecDepth 100000 in
theorem siteNil_law.lifted (os : Os) (started : os.Started) (H : Type) (enc : TypeId × Value → H) :
    ReturnsInHanded {} Tryz.checked os 9 .any (Rows.siteNilSpec.pre6 enc Tryz.prog Tryz.f9 Rows.siteNilRow.domain false) (Rows.siteNilSpec.post enc Tryz.prog Tryz.f9 false true false false) := by
  refine returnsInHanded_of_change (C := Tryz.checked) siteNil_law.own started (by kernel_rfl) Tryz.func9
    (ChangeSpec.witness6 (enc := enc) (C := Tryz.checked) false ⟨#[], #[.int .i64 0], []⟩ 8 (by kernel_rfl) (by kernel_rfl) (by kernel_rfl) (by kernel_rfl)) ?_
  intro W base args ds gs before hval0 hW hcnd _
  have hval : ∀ (j : Nat) t v, Tryz.f9.params[j]? = some t → args[j]? = some v → Value.okWide Tryz.prog W .any base t v := hval0
  have hW' := hW
  obtain ⟨p, q, hA0, hV, rfl, hfz, hnd⟩ := hW
  have hA : DataW.TrodAll enc Tryz.prog W 0 (fun _ => true) true Tryz.f9.params.toList args.toList ds p := hA0
  rw [Tryz.params9] at hA hval
  obtain ⟨v0, vs0, d0, ds0, p0, q0, hargs, rfl, rfl, h0, r0⟩ := trodAll_cons hA
  obtain ⟨rfl, rfl, rfl⟩ := trodAll_nil r0
  obtain rfl : args = #[v0] := by cases args; simp_all
  obtain ⟨rfl, rfl⟩ := trodVars_none hV
  have k0 := h0
  have lt0 : ∀ x ∈ p0, x.block < W.heap.size := by obtain ⟨m, hm⟩ := k0; exact DataW.trod_lt m _ _ _ hm
  have ok0 := hval 0 3 v0 rfl rfl
  clear hA0 hval0
  obtain ⟨z, hz⟩ := A.open_i64 Tryz.underlying3 ok0 h0 
  refine (A.law (sitenil_law z) (A.allcons hz A.allnil)).mono fun e W' ⟨he, bel⟩ => ?_
  subst he
  exact ⟨_, rfl, _, _, _, [], _, [], hW', trodAll_mk1 (shut_bool Tryz.underlying4 _), (trodAll_cons_mk (Below.trod siteNil_law.laidOut (by kernel_rfl) (of_decide_eq_true (by kernel_rfl)) k0 bel lt0) trodAll_mk0), rfl, bel.frame _, fun h => by cases h⟩
theorem siteNil_holds : Rows.SiteNilSaid :=
  OpenClaim.holds_of_wide 9 Tryz.f9 rfl rfl rfl rfl rfl rfl rfl ⟨rfl, rfl, rfl, rfl, rfl⟩ rfl rfl rfl rfl rfl (by kernel_rfl) Tryz.func9 (by kernel_rfl)
    (of_decide_eq_true (by kernel_rfl)) (by unfold Func.isWrapper; first | (rw [if_pos (by decide +kernel)]; kernel_rfl) | (rw [if_neg (by decide +kernel)]; exact ⟨rfl, rfl⟩))
    (fun os started H enc _ => siteNil_law.lifted os started H enc)
end Go.Proofs.YtmbaeloiepjakaaGreat
end

namespace Go.Proofs.YtmbaeloiepjakaaGreat
#print axioms siteNil_holds
end Go.Proofs.YtmbaeloiepjakaaGreat
