/- SoundFirst: of a state that is built whole, Check says the first sign that does not hold, as P27.1 says; no condition. -/
import Derived.Test.YtojehmkkbdedaaaGreatS5
set_option linter.unusedSimpArgs false
set_option linter.unusedVariables false
set_option linter.constructorNameAsVariable false

section
namespace Go.Proofs.YtojehmkkbdedaaaGreat
open Go.ChangeShapes Go.WideShapes Go.ChangeAt Go.RowKit A
set_option maxRecDepth 100000 in
theorem dep_fits {r : List AV} (h : Fits (.stru (.pair .str (.pair (.stru (.pair .i64 (.pair .i64 .unit))) .unit))) r) : ∃ d : Dep, r = d.row := by
  obtain ⟨_, _, rfl, ⟨k, rfl⟩, _, _, rfl, ⟨_, _, rfl, ⟨n, rfl⟩, _, _, rfl, ⟨s, rfl⟩, rfl⟩, rfl⟩ := h
  exact ⟨⟨k, n, s⟩, rfl⟩
set_option maxRecDepth 100000 in
theorem event_fits {r : List AV} (h : Fits (.stru (.pair .i64 (.pair .i64 (.pair .str (.pair (.stru (.pair .i64 (.pair .i64 .unit))) (.pair (.sl 3 (.stru (.pair .str (.pair (.stru (.pair .i64 (.pair .i64 .unit))) .unit)))) .unit)))))) r) : ∃ x : Event, r = x.row := by
  obtain ⟨_, _, rfl, ⟨kind, rfl⟩, _, _, rfl, ⟨client, rfl⟩, _, _, rfl, ⟨key, rfl⟩, _, _, rfl, ⟨_, _, rfl, ⟨n, rfl⟩, _, _, rfl, ⟨s, rfl⟩, rfl⟩, _, _, rfl, ⟨rows, rfl, hr⟩, rfl⟩ := h
  obtain ⟨l, rfl⟩ := A.rows_map fun r h => dep_fits (hr r h)
  exact ⟨⟨kind, client, key, n, s, l⟩, rfl⟩
set_option maxRecDepth 100000 in
theorem rng_fits {r : List AV} (h : Fits (.stru (.pair .str (.pair .str .unit))) r) : ∃ x : Rng, r = x.row := by
  obtain ⟨_, _, rfl, ⟨a, rfl⟩, _, _, rfl, ⟨b, rfl⟩, rfl⟩ := h
  exact ⟨⟨a, b⟩, rfl⟩
set_option maxRecDepth 100000 in
theorem past_fits {r : List AV} (h : Fits (.sl 3 (.stru (.pair .str (.pair (.stru (.pair .i64 (.pair .i64 .unit))) .unit)))) r) : ∃ l : List Dep, r = [pastA l] := by
  obtain ⟨rows, rfl, hr⟩ := h
  obtain ⟨l, rfl⟩ := A.rows_map fun r h => dep_fits (hr r h)
  exact ⟨l, rfl⟩
set_option maxRecDepth 100000 in
theorem ses_fits {r : List AV} (h : Fits (.stru (.pair .i64 (.pair (.sl 3 (.stru (.pair .str (.pair (.stru (.pair .i64 (.pair .i64 .unit))) .unit)))) .unit))) r) : ∃ c : Int × List Dep, r = sesA c := by
  obtain ⟨_, _, rfl, ⟨a, rfl⟩, _, _, rfl, h1, rfl⟩ := h
  obtain ⟨l, rfl⟩ := past_fits h1
  exact ⟨⟨a, l⟩, rfl⟩
set_option maxRecDepth 100000 in
theorem srow_fits {r : List AV} (h : Fits (.stru (.pair (.sl 2 (.stru (.pair .str (.pair .str .unit)))) (.pair (.sl 1 .i64) (.pair (.sl 1 .i64) .unit)))) r) : ∃ x : SRow, r = x.row := by
  obtain ⟨_, _, rfl, ⟨rows, rfl, hr⟩, _, _, rfl, h1, _, _, rfl, h2, rfl⟩ := h
  obtain ⟨rs, rfl⟩ := A.rows_map fun r h => rng_fits (hr r h)
  obtain ⟨o, rfl⟩ := ints_fits h1
  obtain ⟨p, rfl⟩ := ints_fits h2
  exact ⟨⟨rs, o, p⟩, rfl⟩
set_option maxRecDepth 100000 in
theorem state_fits {r : List AV} (h : Fits (.stru (.pair (.stru (.pair (.sl 2 (.stru (.pair .str (.pair .str .unit)))) (.pair (.sl 1 .i64) (.pair (.sl 1 .i64) .unit)))) (.pair (.sl 1 (.sl 3 (.stru (.pair .str (.pair (.stru (.pair .i64 (.pair .i64 .unit))) .unit))))) (.pair (.sl 1 .i64) (.pair (.sl 2 (.stru (.pair .i64 (.pair (.sl 3 (.stru (.pair .str (.pair (.stru (.pair .i64 (.pair .i64 .unit))) .unit)))) .unit)))) (.pair (.sl 6 (.stru (.pair .i64 (.pair .i64 (.pair .str (.pair (.stru (.pair .i64 (.pair .i64 .unit))) (.pair (.sl 3 (.stru (.pair .str (.pair (.stru (.pair .i64 (.pair .i64 .unit))) .unit)))) .unit))))))) (.pair .boo .unit))))))) r) : ∃ s : SSt, r = s.cells := by
  obtain ⟨_, _, rfl, h0, _, _, rfl, ⟨r1, rfl, h1⟩, _, _, rfl, h2, _, _, rfl, ⟨r3, rfl, h3⟩, _, _, rfl, ⟨r4, rfl, h4⟩, _, _, rfl, ⟨b, rfl⟩, rfl⟩ := h
  obtain ⟨row, rfl⟩ := srow_fits h0
  obtain ⟨l1, rfl⟩ := A.rows_map fun r h => past_fits (h1 r h)
  obtain ⟨l2, rfl⟩ := ints_fits h2
  obtain ⟨l3, rfl⟩ := A.rows_map fun r h => ses_fits (h3 r h)
  obtain ⟨l4, rfl⟩ := A.rows_map fun r h => event_fits (h4 r h)
  exact ⟨⟨row, l1, l2, l3, l4, b⟩, rfl⟩
set_option maxRecDepth 100000 in
theorem qspec_fits {r : List AV} (h : Fits (.stru (.pair (.sl 1 .i64) (.pair (.sl 1 .i64) (.pair (.sl 1 .i64) .unit)))) r) : ∃ q : QSpec, r = q.row := by
  obtain ⟨_, _, rfl, h1, _, _, rfl, h2, _, _, rfl, h3, rfl⟩ := h
  obtain ⟨e, rfl⟩ := ints_fits h1
  obtain ⟨o, rfl⟩ := ints_fits h2
  obtain ⟨p, rfl⟩ := ints_fits h3
  exact ⟨⟨e, o, p⟩, rfl⟩
section
variable {H : Type} {enc : TypeId × Value → H} {W : World} {base : Nat} {spare : Nat → Bool} {held : Bool} {v : Value} {d : DataW H} {p : List MemPlace}
set_option maxRecDepth 100000 in
theorem open_qspec (hv : Value.okWide Tryz.prog W .any base 24 v) (h : DataW.Trod enc Tryz.prog W 0 spare held 24 v d p) : ∃ q : QSpec, Rep NoM W (.row q.row) v := by
  obtain ⟨r, h1, h2⟩ := A.open_struct Tryz.underlying24 (s := (.stru (.pair (.sl 1 .i64) (.pair (.sl 1 .i64) (.pair (.sl 1 .i64) .unit))))) ⟨_, Tryz.underlying24, ⟨_, _, 1, rfl, rfl, by kernel_rfl, ⟨_, Tryz.underlying22, by kernel_rfl, by decide, Tryz.underlying3⟩, ⟨_, _, 1, rfl, rfl, by kernel_rfl, ⟨_, Tryz.underlying22, by kernel_rfl, by decide, Tryz.underlying3⟩, ⟨_, _, 1, rfl, rfl, by kernel_rfl, ⟨_, Tryz.underlying22, by kernel_rfl, by decide, Tryz.underlying3⟩, ⟨rfl, by kernel_rfl⟩⟩⟩⟩⟩ hv h
  obtain ⟨q, rfl⟩ := qspec_fits h1
  exact ⟨q, h2⟩
set_option maxRecDepth 100000 in
theorem open_state (hv : Value.okWide Tryz.prog W .any base 32 v) (h : DataW.Trod enc Tryz.prog W 0 spare held 32 v d p) : ∃ s : SSt, Rep NoM W (.row s.cells) v := by
  obtain ⟨r, h1, h2⟩ := A.open_struct Tryz.underlying32 (s := (.stru (.pair (.stru (.pair (.sl 2 (.stru (.pair .str (.pair .str .unit)))) (.pair (.sl 1 .i64) (.pair (.sl 1 .i64) .unit)))) (.pair (.sl 1 (.sl 3 (.stru (.pair .str (.pair (.stru (.pair .i64 (.pair .i64 .unit))) .unit))))) (.pair (.sl 1 .i64) (.pair (.sl 2 (.stru (.pair .i64 (.pair (.sl 3 (.stru (.pair .str (.pair (.stru (.pair .i64 (.pair .i64 .unit))) .unit)))) .unit)))) (.pair (.sl 6 (.stru (.pair .i64 (.pair .i64 (.pair .str (.pair (.stru (.pair .i64 (.pair .i64 .unit))) (.pair (.sl 3 (.stru (.pair .str (.pair (.stru (.pair .i64 (.pair .i64 .unit))) .unit)))) .unit))))))) (.pair .boo .unit)))))))) ⟨_, Tryz.underlying32, ⟨_, _, 3, rfl, rfl, by kernel_rfl, ⟨_, Tryz.underlying27, ⟨_, _, 1, rfl, rfl, by kernel_rfl, ⟨_, Tryz.underlying25, by kernel_rfl, by decide, ⟨_, Tryz.underlying41, ⟨_, _, 1, rfl, rfl, by kernel_rfl, Tryz.underlying9, ⟨_, _, 1, rfl, rfl, by kernel_rfl, Tryz.underlying9, ⟨rfl, by kernel_rfl⟩⟩⟩⟩⟩, ⟨_, _, 1, rfl, rfl, by kernel_rfl, ⟨_, Tryz.underlying22, by kernel_rfl, by decide, Tryz.underlying3⟩, ⟨_, _, 1, rfl, rfl, by kernel_rfl, ⟨_, Tryz.underlying22, by kernel_rfl, by decide, Tryz.underlying3⟩, ⟨rfl, by kernel_rfl⟩⟩⟩⟩⟩, ⟨_, _, 1, rfl, rfl, by kernel_rfl, ⟨_, Tryz.underlying28, by kernel_rfl, by decide, ⟨_, Tryz.underlying46, by kernel_rfl, by decide, ⟨_, Tryz.underlying45, ⟨_, _, 1, rfl, rfl, by kernel_rfl, Tryz.underlying9, ⟨_, _, 2, rfl, rfl, by kernel_rfl, ⟨_, Tryz.underlying43, ⟨_, _, 1, rfl, rfl, by kernel_rfl, Tryz.underlying3, ⟨_, _, 1, rfl, rfl, by kernel_rfl, Tryz.underlying3, ⟨rfl, by kernel_rfl⟩⟩⟩⟩, ⟨rfl, by kernel_rfl⟩⟩⟩⟩⟩⟩, ⟨_, _, 1, rfl, rfl, by kernel_rfl, ⟨_, Tryz.underlying22, by kernel_rfl, by decide, Tryz.underlying3⟩, ⟨_, _, 1, rfl, rfl, by kernel_rfl, ⟨_, Tryz.underlying29, by kernel_rfl, by decide, ⟨_, Tryz.underlying49, ⟨_, _, 1, rfl, rfl, by kernel_rfl, Tryz.underlying3, ⟨_, _, 1, rfl, rfl, by kernel_rfl, ⟨_, Tryz.underlying46, by kernel_rfl, by decide, ⟨_, Tryz.underlying45, ⟨_, _, 1, rfl, rfl, by kernel_rfl, Tryz.underlying9, ⟨_, _, 2, rfl, rfl, by kernel_rfl, ⟨_, Tryz.underlying43, ⟨_, _, 1, rfl, rfl, by kernel_rfl, Tryz.underlying3, ⟨_, _, 1, rfl, rfl, by kernel_rfl, Tryz.underlying3, ⟨rfl, by kernel_rfl⟩⟩⟩⟩, ⟨rfl, by kernel_rfl⟩⟩⟩⟩⟩, ⟨rfl, by kernel_rfl⟩⟩⟩⟩⟩, ⟨_, _, 1, rfl, rfl, by kernel_rfl, ⟨_, Tryz.underlying30, by kernel_rfl, by decide, ⟨_, Tryz.underlying51, ⟨_, _, 1, rfl, rfl, by kernel_rfl, Tryz.underlying3, ⟨_, _, 1, rfl, rfl, by kernel_rfl, Tryz.underlying3, ⟨_, _, 1, rfl, rfl, by kernel_rfl, Tryz.underlying9, ⟨_, _, 2, rfl, rfl, by kernel_rfl, ⟨_, Tryz.underlying43, ⟨_, _, 1, rfl, rfl, by kernel_rfl, Tryz.underlying3, ⟨_, _, 1, rfl, rfl, by kernel_rfl, Tryz.underlying3, ⟨rfl, by kernel_rfl⟩⟩⟩⟩, ⟨_, _, 1, rfl, rfl, by kernel_rfl, ⟨_, Tryz.underlying46, by kernel_rfl, by decide, ⟨_, Tryz.underlying45, ⟨_, _, 1, rfl, rfl, by kernel_rfl, Tryz.underlying9, ⟨_, _, 2, rfl, rfl, by kernel_rfl, ⟨_, Tryz.underlying43, ⟨_, _, 1, rfl, rfl, by kernel_rfl, Tryz.underlying3, ⟨_, _, 1, rfl, rfl, by kernel_rfl, Tryz.underlying3, ⟨rfl, by kernel_rfl⟩⟩⟩⟩, ⟨rfl, by kernel_rfl⟩⟩⟩⟩⟩, ⟨rfl, by kernel_rfl⟩⟩⟩⟩⟩⟩⟩⟩, ⟨_, _, 1, rfl, rfl, by kernel_rfl, Tryz.underlying4, ⟨rfl, by kernel_rfl⟩⟩⟩⟩⟩⟩⟩⟩ hv h
  obtain ⟨q, rfl⟩ := state_fits h1
  exact ⟨q, h2⟩
end
theorem soundFirst_law.own : ownKnob Tryz.prog.godebug = none := by kernel_rfl
theorem soundFirst_law.laidOut : laidOutB Tryz.prog = true := by kernel_rfl
set_option maxRecDepth 100000 in
theorem soundFirst_law.lifted (os : Os) (started : os.Started) (H : Type) (enc : TypeId × Value → H) :
    ReturnsInHanded {} Tryz.checked os 3 .any (Rows.soundFirstSpec.pre6 enc Tryz.prog Tryz.f3 Rows.soundFirstRow.domain false) (Rows.soundFirstSpec.post enc Tryz.prog Tryz.f3 false true false false) := by
  refine returnsInHanded_of_change (C := Tryz.checked) soundFirst_law.own started (by kernel_rfl) Tryz.func3
    (ChangeSpec.witness6 (enc := enc) (C := Tryz.checked) false ⟨#[], #[.agg #[.slice none 0 0, .slice none 0 0, .slice none 0 0], .agg #[.slice none 0 0, .slice none 0 0, .slice none 0 0, .slice none 0 0, .slice none 0 0, .slice none 0 0, .slice none 0 0, .bool false]], []⟩ 8 (by kernel_rfl) (by kernel_rfl) (by kernel_rfl) (by kernel_rfl)) ?_
  intro W base args ds gs before hval0 hW hcnd _
  have hval : ∀ (j : Nat) t v, Tryz.f3.params[j]? = some t → args[j]? = some v → Value.okWide Tryz.prog W .any base t v := hval0
  have hW' := hW
  obtain ⟨p, q, hA0, hV, rfl, hfz, hnd⟩ := hW
  have hA : DataW.TrodAll enc Tryz.prog W 0 (fun _ => true) true Tryz.f3.params.toList args.toList ds p := hA0
  rw [Tryz.params3] at hA hval
  obtain ⟨v0, vs0, d0, ds0, p0, q0, hargs, rfl, rfl, h0, r0⟩ := trodAll_cons hA
  obtain ⟨v1, vs1, d1, ds1, p1, q1, rfl, rfl, rfl, h1, r1⟩ := trodAll_cons r0
  obtain ⟨rfl, rfl, rfl⟩ := trodAll_nil r1
  obtain rfl : args = #[v0, v1] := by cases args; simp_all
  obtain ⟨rfl, rfl⟩ := trodVars_none hV
  have k0 := h0
  have lt0 : ∀ x ∈ p0, x.block < W.heap.size := by obtain ⟨m, hm⟩ := k0; exact DataW.trod_lt m _ _ _ hm
  have ok0 := hval 0 24 v0 rfl rfl
  have k1 := h1
  have lt1 : ∀ x ∈ p1, x.block < W.heap.size := by obtain ⟨m, hm⟩ := k1; exact DataW.trod_lt m _ _ _ hm
  have ok1 := hval 1 32 v1 rfl rfl
  clear hA0 hval0
  obtain ⟨q, hq⟩ := open_qspec ok0 h0
  obtain ⟨s, hs⟩ := open_state ok1 h1 
  refine (A.law (sfirst_law q s) (A.allcons hq (A.allcons hs A.allnil))).mono fun e W' ⟨he, bel⟩ => ?_
  subst he
  exact ⟨_, rfl, _, _, _, [], _, [], hW', trodAll_mk1 (shut_bool Tryz.underlying4 _), (trodAll_cons_mk (Below.trod soundFirst_law.laidOut (by kernel_rfl) (of_decide_eq_true (by kernel_rfl)) k0 bel lt0) (trodAll_cons_mk (Below.trod soundFirst_law.laidOut (by kernel_rfl) (of_decide_eq_true (by kernel_rfl)) k1 bel lt1) trodAll_mk0)), rfl, bel.frame _, fun h => by cases h⟩
theorem soundFirst_holds : Rows.SoundFirstSaid :=
  OpenClaim.holds_of_wide 3 Tryz.f3 rfl rfl rfl rfl rfl rfl rfl ⟨rfl, rfl, rfl, rfl, rfl⟩ rfl rfl rfl rfl rfl (by kernel_rfl) Tryz.func3 (by kernel_rfl)
    (of_decide_eq_true (by kernel_rfl)) (by unfold Func.isWrapper; first | (rw [if_pos (by decide +kernel)]; kernel_rfl) | (rw [if_neg (by decide +kernel)]; exact ⟨rfl, rfl⟩))
    (fun os started H enc _ => soundFirst_law.lifted os started H enc)
end Go.Proofs.YtojehmkkbdedaaaGreat
end

namespace Go.Proofs.YtojehmkkbdedaaaGreat
#print axioms soundFirst_holds
end Go.Proofs.YtojehmkkbdedaaaGreat
