/- awake of chapter 22's law, given script.Read at one text. -/
import Derived.Test.YtocgnmklgklfnaaSPt
set_option linter.unusedSimpArgs false
set_option linter.unusedVariables false
namespace Go.Proofs.Ytocgnmklgklfnaa
open Go.RowKit A R
/-- Each cell of one row reads as the other row's. -/
def A.SubC : List AV → List AV → Prop
  | [], [] => True
  | a :: r, b :: s => (∀ (M : Nat → Prop) (w : World) (x : Value), Rep M w a x → Rep M w b x) ∧ SubC r s
  | _, _ => False
theorem A.SubC.at : ∀ {cs ds : List AV}, SubC cs ds → cs.length = ds.length ∧ ∀ (j : Nat) (b : AV), ds[j]? = some b → ∃ a, cs[j]? = some a ∧ ∀ (M : Nat → Prop) (w : World) (x : Value), Rep M w a x → Rep M w b x
  | [], [], _ => ⟨rfl, fun j b h => by simp at h⟩
  | a :: r, b :: s, h => by
    obtain ⟨h1, h2⟩ := A.SubC.at h.2
    refine ⟨by simp [h1], fun j c hc => ?_⟩
    cases j with
    | zero => simp at hc; subst hc; exact ⟨a, rfl, h.1⟩
    | succ j => obtain ⟨d, h3, h4⟩ := h2 j c (by simpa using hc); exact ⟨d, by simpa using h3, h4⟩
  | [], _ :: _, h => h.elim
  | _ :: _, [], h => h.elim
theorem A.Sub.rowc {cs ds : List AV} (h : SubC cs ds) : Sub (.d (.row cs)) (.d (.row ds)) := fun M w ρ x hx => by
  obtain ⟨h1, h2⟩ := h.at
  show Rep M w (.row ds) x
  have hx' : Rep M w (.row cs) x := hx
  cases hx' with
  | row cs vs hl h3 hr =>
    refine .row ds vs (by omega) h3 (fun j b y hb hy => ?_)
    obtain ⟨a, ha, hab⟩ := h2 j b hb
    exact hab _ _ _ (hr j a y ha hy)
theorem A.nilr {n : Nat} (M : Nat → Prop) (w : World) (x : Value) (h : Rep M w (.v (.slice none 0 0)) x) : Rep M w (.sl n []) x := by
  obtain ⟨rfl, _⟩ := repv h
  exact .nil n none 0
theorem A.same {a : AV} (M : Nat → Prop) (w : World) (x : Value) (h : Rep M w a x) : Rep M w a x := h
def S.opA : SOp := ⟨3, 0, 0, 0, 0, 0, ⟨#[97]⟩, ⟨#[]⟩, [], ⟨[], [], []⟩⟩
def S.op0 : SOp := ⟨0, 0, 0, 0, 0, 0, ⟨#[]⟩, ⟨#[]⟩, [], ⟨[], [], []⟩⟩
theorem S.nil_fits {o : SOp} (h : o.c = ⟨[], [], []⟩) : S.fits o := by
  unfold S.fits S.fitRow; rw [h]; simp
set_option maxRecDepth 100000 in
theorem sawake_of (hread : ACall Try.prog 14 [tv ⟨#[0]⟩] (.tup [.sl 12 [], bv true])) : ACall Try.prog 8 [] (bv true) := by
  refine ACall_enter (fun _ _ => by kernel_rfl) Try.func8 rfl Try.ntmps8 Try.results8 (Nat.le_of_ble_eq_true rfl) (fun hok M0 w0 => ?_)
  refine Aw_seq ?_
  refine Aw_region ?_
  refine Al_pu (Pu_move (.inr rfl) (by conv => lhs; whnf)) rfl rfl (by decide) (by kernel_rfl) ?_
  refine Al_nil ?_
  refine Aw_seq ?_
  refine Aw_region ?_
  refine Al_pu (Pu_call (hread) rfl ⟨Sub.rfl, trivial⟩) rfl rfl (by decide) (by kernel_rfl) ?_
  refine Al_pu (Pu_move (.inl rfl) (by conv => lhs; whnf)) rfl rfl (by decide) (by kernel_rfl) ?_
  refine Al_pu (Pu_extract rfl rfl rfl) rfl rfl (by decide) (by kernel_rfl) ?_
  refine Al_pu (Pu_extract rfl rfl rfl) rfl rfl (by decide) (by kernel_rfl) ?_
  refine Al_pu (Pu_move (.inr rfl) (by conv => lhs; whnf)) rfl rfl (by decide) (by kernel_rfl) ?_
  refine Al_pu (Pu_move (.inr rfl) (by conv => lhs; whnf)) rfl rfl (by decide) (by kernel_rfl) ?_
  refine Al_nil ?_
  refine Aw_seq ?_
  refine Aw_region ?_
  refine Al_pu (Pu_build (aa := [(0, _), (6, _)]) rfl Try.underlying30 Try.zeroValue30 (places30 Try.underlying30) (by kernel_rfl) ⟨rfl, rfl, rfl, rfl, rfl, rfl, trivial⟩ rfl) rfl rfl (by decide) (by kernel_rfl) ?_
  refine Al_alloc rfl rfl rfl (by decide) Try.zeroValue30 rfl (by kernel_rfl) (fun g3 => ?_)
  refine Al_storeN rfl rfl rfl (by kernel_rfl) Try.isAgg30 Try.sizeOf30 rfl rfl rfl rfl (Nat.le_of_ble_eq_true rfl) ?_
  refine Al_nil ?_
  refine Aw_seq ?_
  refine Aw_region ?_
  refine Al_pu (Pu_call (sbytes_a [] (by simp) (by simp)) rfl ⟨Sub.nil, trivial⟩) rfl rfl (by decide) (by kernel_rfl) ?_
  refine Al_pu (Pu_str rfl rfl rfl rfl) rfl rfl (by decide) (by kernel_rfl) ?_
  refine Al_pu (Pu_move (.inl rfl) (by conv => lhs; whnf)) rfl rfl (by decide) (by kernel_rfl) ?_
  refine Al_st (St_gd [] rfl rfl rfl rfl trivial (fun hg12 => by exact Pu_move (.inl rfl) (by conv => lhs; whnf))) rfl (by decide) (by kernel_rfl) (by intro j b oj dj h1 h2 h3; cases h1; cases h2; cases h3; decide) ?_
  refine Al_pu (Pu_and rfl rfl rfl rfl) rfl rfl (by decide) (by kernel_rfl) ?_
  refine Al_pu (Pu_move (.inl rfl) (by conv => lhs; whnf)) rfl rfl (by decide) (by kernel_rfl) ?_
  refine Al_st (St_gd [] rfl rfl rfl rfl trivial (fun hg15 => by exact Pu_move (.inl rfl) (by conv => lhs; whnf))) rfl (by decide) (by kernel_rfl) (by intro j b oj dj h1 h2 h3; cases h1; cases h2; cases h3; decide) ?_
  refine Al_st (St_gd [15] rfl rfl rfl rfl ⟨⟨_, rfl⟩, trivial⟩ (fun hg16 => by exact Pu_len rfl Try.underlying22 rfl (by first | exact List.length_map .. | exact rfl))) rfl (by decide) (by kernel_rfl) (by intro j b oj dj h1 h2 h3; cases h1; cases h2; cases h3; decide) ?_
  refine Al_st (St_gd [16] rfl rfl rfl rfl ⟨⟨_, rfl⟩, trivial⟩ (fun hg17 => Pu_cmp rfl rfl rfl rfl)) rfl (by decide) (by kernel_rfl) (by intro j b oj dj h1 h2 h3; cases h1; cases h2; cases h3; decide) ?_
  refine Al_pu (Pu_and rfl rfl rfl rfl) rfl rfl (by decide) (by kernel_rfl) ?_
  refine Al_pu (Pu_move (.inl rfl) (by conv => lhs; whnf)) rfl rfl (by decide) (by kernel_rfl) ?_
  refine Al_st (St_gd [] rfl rfl rfl rfl trivial (fun hg20 => Pu_loadbN (r := [_, _, _, _, _, _, _, _, _, _, _, _]) rfl Try.isAgg30 Try.sizeOf30 rfl rfl rfl rfl)) rfl (by decide) (by kernel_rfl) (by intro j b oj dj h1 h2 h3; cases h1; cases h2; cases h3; decide) ?_
  refine Al_st (St_gd [20] rfl rfl rfl rfl ⟨⟨_, rfl⟩, trivial⟩ (fun hg21 => Pu_call (scheck_a S.opA (S.nil_fits rfl)) rfl ⟨Sub.rowc ⟨same, same, same, same, same, same, same, same, nilr, nilr, nilr, nilr, trivial⟩, trivial⟩)) rfl (by decide) (by kernel_rfl) (by intro j b oj dj h1 h2 h3; cases h1; cases h2; cases h3; decide) ?_
  refine Al_pu (Pu_and rfl rfl rfl rfl) rfl rfl (by decide) (by kernel_rfl) ?_
  refine Al_pu (Pu_move (.inl rfl) (by conv => lhs; whnf)) rfl rfl (by decide) (by kernel_rfl) ?_
  refine Al_st (St_gd [] rfl rfl rfl rfl trivial (fun hg24 => by exact Pu_build (aa := []) rfl Try.underlying30 Try.zeroValue30 (places30 Try.underlying30) (by kernel_rfl) trivial rfl)) rfl (by decide) (by kernel_rfl) (by intro j b oj dj h1 h2 h3; cases h1; cases h2; cases h3; decide) ?_
  refine Al_st (St_gd [24] rfl rfl rfl rfl ⟨⟨_, rfl⟩, trivial⟩ (fun hg25 => Pu_call (scheck_a S.op0 (S.nil_fits rfl)) rfl ⟨Sub.rowc ⟨same, same, same, same, same, same, same, same, nilr, nilr, nilr, nilr, trivial⟩, trivial⟩)) rfl (by decide) (by kernel_rfl) (by intro j b oj dj h1 h2 h3; cases h1; cases h2; cases h3; decide) ?_
  refine Al_st (St_gd [25] rfl rfl rfl rfl ⟨⟨_, rfl⟩, trivial⟩ (fun hg26 => Pu_not rfl rfl)) rfl (by decide) (by kernel_rfl) (by intro j b oj dj h1 h2 h3; cases h1; cases h2; cases h3; decide) ?_
  refine Al_pu (Pu_and rfl rfl rfl rfl) rfl rfl (by decide) (by kernel_rfl) ?_
  refine Al_pu (Pu_move (.inr rfl) (by conv => lhs; whnf)) rfl rfl (by decide) (by kernel_rfl) ?_
  refine Al_nil ?_
  refine Aw_ret ?_
  exact Sub.bool (by
    have e1 : S.check S.opA = true := by rfl
    have e2 : S.check S.op0 = false := by rfl
    have e3 : S.bytes [] = [0] := by unfold S.bytes; simp; exact V.num_small (by omega)
    rw [e1, e2, e3]
    simp [V.ba]) -- ret 0
end Go.Proofs.Ytocgnmklgklfnaa
