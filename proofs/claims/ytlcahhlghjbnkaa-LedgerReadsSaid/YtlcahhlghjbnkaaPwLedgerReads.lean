/- LedgerReads: any bytes are read as a history, or not, as P26.1 says; no condition. -/
import Derived.Test.YtlcahhlghjbnkaaP5
set_option linter.unusedSimpArgs false
set_option linter.unusedVariables false
set_option linter.constructorNameAsVariable false

section
namespace Go.Proofs.Ytlcahhlghjbnkaa
open Go.ChangeShapes Go.WideShapes Go.ChangeAt Go.RowKit A
open Go.ChangeMaps (open_string shut_string)
section
variable {H : Type} {enc : TypeId × Value → H} {W : World} {base : Nat} {spare : Nat → Bool} {held : Bool} {v : Value} {d : DataW H} {p : List MemPlace}
set_option maxRecDepth 100000 in
theorem A.open_int3 (hv : Value.okWide Try.prog W .any base 23 v) (h : DataW.Trod enc Try.prog W 0 spare held 23 v d p) : ∃ x y z : Int, Rep NoM W (.row [iv x, iv y, iv z]) v := by
  obtain ⟨cs, rfl, hl, hc⟩ := open_arrint Try.underlying23 (by kernel_rfl) (by kernel_rfl) Try.underlying3 hv h
  have key : ∀ i, i < 3 → ∃ x : Int, cs.getD i undef = .int .i64 x ∧ vok (.int .i64 x) := fun i hi => by
    obtain ⟨x, h1, h2⟩ := hc i hi
    refine ⟨x, h1, ?_⟩
    simp [Lit.wf, IntKind.min, IntKind.max, IntKind.signed, IntKind.bits] at h2
    exact ⟨by omega, by omega⟩
  obtain ⟨x, hx, kx⟩ := key 0 (by omega)
  obtain ⟨y, hy, ky⟩ := key 1 (by omega)
  obtain ⟨z, hz, kz⟩ := key 2 (by omega)
  refine ⟨x, y, z, ?_⟩
  rw [list3 hl hx hy hz]
  exact .row _ _ rfl (fun v hv => by
    simp only [List.mem_cons, List.not_mem_nil, or_false] at hv
    rcases hv with rfl | rfl | rfl <;> rfl) (fun j c v h1 h2 => by
    match j, h1, h2 with
    | 0, h1, h2 => simp at h1 h2; subst h1 h2; exact .v _ kx
    | 1, h1, h2 => simp at h1 h2; subst h1 h2; exact .v _ ky
    | 2, h1, h2 => simp at h1 h2; subst h1 h2; exact .v _ kz
    | j + 3, h1, h2 => simp at h1)
end
theorem ledgerReads_law.own : ownKnob Try.prog.godebug = none := by kernel_rfl
theorem ledgerReads_law.laidOut : laidOutB Try.prog = true := by kernel_rfl
set_option maxRecDepth 100000 in
theorem ledgerReads_law.lifted (os : Os) (started : os.Started) (H : Type) (enc : TypeId × Value → H) :
    ReturnsInHanded {} Try.checked os 3 .any (Rows.ledgerReadsSpec.pre6 enc Try.prog Try.f3 Rows.ledgerReadsRow.domain false) (Rows.ledgerReadsSpec.post enc Try.prog Try.f3 false true false false) := by
  refine returnsInHanded_of_change (C := Try.checked) ledgerReads_law.own started (by kernel_rfl) Try.func3
    (ChangeSpec.witness6 (enc := enc) (C := Try.checked) false ⟨#[], #[.slice none 0 0, .string ⟨#[]⟩, .agg #[.int .i64 0, .int .i64 0, .int .i64 0]], []⟩ 8 (by kernel_rfl) (by kernel_rfl) (by kernel_rfl) (by kernel_rfl)) ?_
  intro W base args ds gs before hval0 hW hcnd _
  have hval : ∀ (j : Nat) t v, Try.f3.params[j]? = some t → args[j]? = some v → Value.okWide Try.prog W .any base t v := hval0
  have hW' := hW
  obtain ⟨p, q, hA0, hV, rfl, hfz, hnd⟩ := hW
  have hA : DataW.TrodAll enc Try.prog W 0 (fun _ => true) true Try.f3.params.toList args.toList ds p := hA0
  rw [Try.params3] at hA hval
  obtain ⟨v0, vs0, d0, ds0, p0, q0, hargs, rfl, rfl, h0, r0⟩ := trodAll_cons hA
  obtain ⟨v1, vs1, d1, ds1, p1, q1, rfl, rfl, rfl, h1, r1⟩ := trodAll_cons r0
  obtain ⟨v2, vs2, d2, ds2, p2, q2, rfl, rfl, rfl, h2, r2⟩ := trodAll_cons r1
  obtain ⟨rfl, rfl, rfl⟩ := trodAll_nil r2
  obtain rfl : args = #[v0, v1, v2] := by cases args; simp_all
  obtain ⟨rfl, rfl⟩ := trodVars_none hV
  have k0 := h0
  have lt0 : ∀ x ∈ p0, x.block < W.heap.size := by obtain ⟨m, hm⟩ := k0; exact DataW.trod_lt m _ _ _ hm
  have ok0 := hval 0 22 v0 rfl rfl
  have k1 := h1
  have lt1 : ∀ x ∈ p1, x.block < W.heap.size := by obtain ⟨m, hm⟩ := k1; exact DataW.trod_lt m _ _ _ hm
  have ok1 := hval 1 9 v1 rfl rfl
  have k2 := h2
  have lt2 : ∀ x ∈ p2, x.block < W.heap.size := by obtain ⟨m, hm⟩ := k2; exact DataW.trod_lt m _ _ _ hm
  have ok2 := hval 2 23 v2 rfl rfl
  clear hA0 hval0
  obtain ⟨l, hl⟩ := open_events ok0 h0
  obtain ⟨s, rfl, _, _, hs⟩ := open_string Try.underlying9 ok1 h1
  obtain ⟨x, y, z, hq⟩ := A.open_int3 ok2 h2 
  refine (A.law (lreads_law l s x y z) (A.allcons hl (A.allcons (.v _ (show s.size ≤ A.maxI by unfold maxLen at hs; unfold A.maxI; omega)) (A.allcons hq A.allnil)))).mono fun e W' ⟨he, bel⟩ => ?_
  subst he
  exact ⟨_, rfl, _, _, _, [], _, [], hW', trodAll_mk1 (shut_bool Try.underlying4 _), (trodAll_cons_mk (Below.trod ledgerReads_law.laidOut (by kernel_rfl) (of_decide_eq_true (by kernel_rfl)) k0 bel lt0) (trodAll_cons_mk (Below.trod ledgerReads_law.laidOut (by kernel_rfl) (of_decide_eq_true (by kernel_rfl)) k1 bel lt1) (trodAll_cons_mk (Below.trod ledgerReads_law.laidOut (by kernel_rfl) (of_decide_eq_true (by kernel_rfl)) k2 bel lt2) trodAll_mk0))), rfl, bel.frame _, fun h => by cases h⟩
theorem ledgerReads_holds : Rows.LedgerReadsSaid :=
  OpenClaim.holds_of_wide 3 Try.f3 rfl rfl rfl rfl rfl rfl rfl ⟨rfl, rfl, rfl, rfl, rfl⟩ rfl rfl rfl rfl rfl (by kernel_rfl) Try.func3 (by kernel_rfl)
    (of_decide_eq_true (by kernel_rfl)) (by unfold Func.isWrapper; first | (rw [if_pos (by decide +kernel)]; kernel_rfl) | (rw [if_neg (by decide +kernel)]; exact ⟨rfl, rfl⟩))
    (fun os started H enc _ => ledgerReads_law.lifted os started H enc)
end Go.Proofs.Ytlcahhlghjbnkaa
end

namespace Go.Proofs.Ytlcahhlghjbnkaa
#print axioms ledgerReads_holds
end Go.Proofs.Ytlcahhlghjbnkaa
