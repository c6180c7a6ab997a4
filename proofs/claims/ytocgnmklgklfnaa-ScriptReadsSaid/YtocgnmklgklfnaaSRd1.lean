/- script.reader.number at the text of no steps. -/
import Derived.Test.YtocgnmklgklfnaaSRd0
set_option linter.unusedSimpArgs false
set_option linter.unusedVariables false
namespace Go.Proofs.Ytocgnmklgklfnaa
open Go.RowKit A R
set_option maxRecDepth 100000 in
theorem rnum0 : MCall Try.prog 33 68 [tv ⟨#[0]⟩, iv 0] [uv 4096] (some ([tv ⟨#[0]⟩, iv 1], iv 0)) := by
  refine MCall_enter (fun _ _ => by kernel_rfl) Try.func33 rfl Try.ntmps33 (Reads.r1 Try.results33) (Nat.le_of_ble_eq_true rfl) (fun hok hokc M0 w0 hlent => ?_)
  refine Aw_seq ?_
  refine Aw_region ?_
  refine Al_pu (Pu_move (.inr rfl) (by conv => lhs; whnf)) rfl rfl (by decide) (by kernel_rfl) ?_
  refine Al_nil ?_
  refine Aw_seq ?_
  refine Aw_draw 16 (by kernel_rfl) (by kernel_rfl) ?_
  refine Dr_pu (Pu_move (.inl rfl) (by conv => lhs; whnf)) rfl rfl ?_
  refine Dr_pu (Pu_nilb rfl rfl) rfl rfl ?_
  refine Dr_pu (Pu_fieldb 0 rfl Try.underlying68 rfl rfl Try.sizeOf9 rfl) rfl rfl ?_
  refine Dr_pu (Pu_loadb rfl Try.isAgg9 rfl rfl rfl) rfl rfl ?_
  refine Dr_pu (Pu_move (.inl rfl) (by conv => lhs; whnf)) rfl rfl ?_
  refine Dr_pu (Pu_nilb rfl rfl) rfl rfl ?_
  refine Dr_pu (Pu_fieldb 1 rfl Try.underlying68 rfl rfl Try.sizeOf3 rfl) rfl rfl ?_
  refine Dr_pu (Pu_loadb rfl Try.isAgg3 rfl rfl rfl) rfl rfl ?_
  refine Dr_pu (Pu_call (vread0) rfl ⟨Sub.rfl, Sub.rfl, trivial⟩) rfl rfl ?_
  refine Dr_pu (Pu_move (.inl rfl) (by conv => lhs; whnf)) rfl rfl ?_
  refine Dr_pu (Pu_extract rfl rfl rfl) rfl rfl ?_
  refine Dr_pu (Pu_extract rfl rfl rfl) rfl rfl ?_
  refine Dr_pu (Pu_extract rfl rfl rfl) rfl rfl ?_
  refine Dr_pu (Pu_move (.inr rfl) (by conv => lhs; whnf)) rfl rfl ?_
  refine Dr_pu (Pu_move (.inr rfl) (by conv => lhs; whnf)) rfl rfl ?_
  refine Dr_pu (Pu_move (.inr rfl) (by conv => lhs; whnf)) rfl rfl ?_
  refine Dr_nil ?_
  refine Al_nil ?_
  refine Aw_seq ?_
  refine Aw_region ?_
  refine Al_pu (Pu_move (.inl rfl) (by conv => lhs; whnf)) rfl rfl (by decide) (by kernel_rfl) ?_
  refine Al_pu (Pu_move (.inl rfl) (by conv => lhs; whnf)) rfl rfl (by decide) (by kernel_rfl) ?_
  refine Al_pu (Pu_move (.inl rfl) (by conv => lhs; whnf)) rfl rfl (by decide) (by kernel_rfl) ?_
  refine Al_st (St_gd [] rfl rfl rfl rfl trivial (fun hg24 => by exact Pu_move (.inl rfl) (by conv => lhs; whnf))) rfl (by decide) (by kernel_rfl) (by intro j b oj dj h1 h2 h3; cases h1; cases h2; cases h3; decide) ?_
  refine Al_st (St_gd [] rfl rfl rfl rfl trivial (fun hg25 => by exact Pu_move (.inl rfl) (by conv => lhs; whnf))) rfl (by decide) (by kernel_rfl) (by intro j b oj dj h1 h2 h3; cases h1; cases h2; cases h3; decide) ?_
  refine Al_st (St_gd [24, 25] rfl rfl rfl rfl ⟨⟨_, rfl⟩, ⟨_, rfl⟩, trivial⟩ (fun hg26 => Pu_cmp rfl rfl rfl rfl)) rfl (by decide) (by kernel_rfl) (by intro j b oj dj h1 h2 h3; cases h1; cases h2; cases h3; decide) ?_
  refine Al_pu (Pu_and rfl rfl rfl rfl) rfl rfl (by decide) (by kernel_rfl) ?_
  refine Al_mcall (must_m [tv ⟨#[0]⟩, iv 0]) rfl rfl rfl (by decide) (by kernel_rfl) rfl rfl ⟨Sub.rfl, trivial⟩ ?_
  refine Al_nil ?_
  refine Aw_seq ?_
  refine Aw_region ?_
  refine Al_pu (Pu_move (.inl rfl) (by conv => lhs; whnf)) rfl rfl (by decide) (by kernel_rfl) ?_
  refine Al_pu (Pu_move (.inl rfl) (by conv => lhs; whnf)) rfl rfl (by decide) (by kernel_rfl) ?_
  refine Al_pu (Pu_nilb rfl rfl) rfl rfl (by decide) (by kernel_rfl) ?_
  refine Al_pu (Pu_fieldb 1 rfl Try.underlying68 rfl rfl Try.sizeOf3 rfl) rfl rfl (by decide) (by kernel_rfl) ?_
  refine Al_store1 rfl rfl rfl (by kernel_rfl) Try.isAgg3 Try.sizeOf3 rfl rfl (Nat.le_of_ble_eq_true rfl) (by conv => lhs; whnf) rfl ?_
  refine Al_nil ?_
  refine Aw_seq ?_
  refine Aw_region ?_
  refine Al_pu (Pu_move (.inl rfl) (by conv => lhs; whnf)) rfl rfl (by decide) (by kernel_rfl) ?_
  refine Al_pu (Pu_conv rfl Try.underlying63 Try.underlying3 rfl (fun hv => i64_nat (by simp only [vok, A.inI] at *; omega))) rfl rfl (by decide) (by kernel_rfl) ?_
  refine Al_pu (Pu_move (.inr rfl) (by conv => lhs; whnf)) rfl rfl (by decide) (by kernel_rfl) ?_
  refine Al_nil ?_
  refine Aw_ret ?_
  exact ⟨_, _, rfl, Sub.rfl, rfl⟩ -- ret 0
end Go.Proofs.Ytocgnmklgklfnaa
