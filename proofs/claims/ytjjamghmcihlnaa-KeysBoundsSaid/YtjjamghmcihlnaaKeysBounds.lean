/- KeysBounds: the boundaries of ranges, to 8, rise, are ends of ranges, at most two to each; no condition. -/
import Derived.Test.YtjjamghmcihlnaaOpen2
import Derived.Test.YtjjamghmcihlnaaKBounds
set_option linter.unusedSimpArgs false
set_option linter.unusedVariables false
namespace Go.Proofs.Ytjjamghmcihlnaa
open Go.ChangeShapes Go.WideShapes Go.ChangeAt Go.RowKit R
open Go.ChangeMaps (open_string shut_string)
theorem open_rngs_b {H : Type} {enc : TypeId × Value → H} {W : World} {base : Nat} {spare : Nat → Bool} {held : Bool} {v : Value} {d : DataW H} {p : List MemPlace} (hv : Value.okWide Try.prog W .any base 40 v) (h : DataW.Trod enc Try.prog W 0 spare held 40 v d p) :
    ∃ l : List Rng, Sl (fun b => b < W.heap.size) W v l := by
  obtain ⟨a, len, cap, rfl⟩ := okWide_slice Try.underlying40 hv
  obtain ⟨fuel, hf⟩ := h
  exact open_sl (α := Rng) Try.underlying40 (by kernel_rfl) (fun n cs y hy => by
    obtain ⟨a, b, rfl, ha, hb⟩ := elem_two Try.underlying30 (by kernel_rfl) (by kernel_rfl) rfl rfl Try.underlying9 hy
    exact ⟨⟨a, b⟩, rfl, by unfold maxLen at ha; omega, by unfold maxLen at hb; omega⟩) (by simpa [Value.cells] using hf)

theorem keysBounds_law.own : ownKnob Try.prog.godebug = none := by kernel_rfl
theorem keysBounds_law.laidOut : laidOutB Try.prog = true := by kernel_rfl
set_option maxRecDepth 100000 in
theorem keysBounds_law.lifted (os : Os) (started : os.Started) (H : Type) (enc : TypeId × Value → H) :
    ReturnsInHanded {} Try.checked os 8 .any (Rows.keysBoundsSpec.pre6 enc Try.prog Try.f8 Rows.keysBoundsRow.domain false) (Rows.keysBoundsSpec.post enc Try.prog Try.f8 false true false false) := by
  refine returnsInHanded_of_change (C := Try.checked) keysBounds_law.own started (by kernel_rfl) Try.func8
    (ChangeSpec.witness6 (enc := enc) (C := Try.checked) false ⟨#[], #[.slice none 0 0], []⟩ 8 (by kernel_rfl) (by kernel_rfl) (by kernel_rfl) (by kernel_rfl)) ?_
  intro W base args ds gs before hval0 hW hcnd _
  have hval : ∀ (j : Nat) t v, Try.f8.params[j]? = some t → args[j]? = some v → Value.okWide Try.prog W .any base t v := hval0
  have hW' := hW
  obtain ⟨p, q, hA0, hV, rfl, hfz, hnd⟩ := hW
  have hA : DataW.TrodAll enc Try.prog W 0 (fun _ => true) true Try.f8.params.toList args.toList ds p := hA0
  rw [Try.params8] at hA hval
  obtain ⟨v0, vs0, d0, ds0, p0, q0, hargs, rfl, rfl, h0, r0⟩ := trodAll_cons hA
  obtain ⟨rfl, rfl, rfl⟩ := trodAll_nil r0
  obtain rfl : args = #[v0] := by cases args; simp_all
  obtain ⟨rfl, rfl⟩ := trodVars_none hV
  have k0 := h0
  have lt0 : ∀ x ∈ p0, x.block < W.heap.size := by obtain ⟨m, hm⟩ := k0; exact DataW.trod_lt m _ _ _ hm
  have ok0 := hval 0 40 v0 rfl rfl
  clear hA0 hval0
  obtain ⟨l, hl⟩ := open_rngs_b ok0 h0 
  refine (boundslaw_walk v0 l _ W hl).mono fun e W' ⟨he, bel⟩ => ?_
  subst he
  exact ⟨_, rfl, _, _, _, [], _, [], hW', trodAll_mk1 (shut_bool Try.underlying4 _), (trodAll_cons_mk (Below.trod keysBounds_law.laidOut (by kernel_rfl) (of_decide_eq_true (by kernel_rfl)) k0 bel lt0) trodAll_mk0), rfl, bel.frame _, fun h => by cases h⟩
theorem keysBounds_holds : Rows.KeysBoundsSaid :=
  OpenClaim.holds_of_wide 8 Try.f8 rfl rfl rfl rfl rfl rfl rfl ⟨rfl, rfl, rfl, rfl, rfl⟩ rfl rfl rfl rfl rfl (by kernel_rfl) Try.func8 (by kernel_rfl)
    (of_decide_eq_true (by kernel_rfl)) (by unfold Func.isWrapper; first | (rw [if_pos (by decide +kernel)]; kernel_rfl) | (rw [if_neg (by decide +kernel)]; exact ⟨rfl, rfl⟩))
    (fun os started H enc _ => keysBounds_law.lifted os started H enc)
#print axioms keysBounds_holds
end Go.Proofs.Ytjjamghmcihlnaa
