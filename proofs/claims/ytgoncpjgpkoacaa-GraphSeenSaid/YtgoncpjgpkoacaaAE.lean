/- Abstract states: calls that leave one of several: what the contract does not tell ahead. -/
import Derived.Test.YtgoncpjgpkoacaaAX
set_option linter.unusedSimpArgs false
set_option linter.unusedVariables false
namespace Go.Proofs.Ytgoncpjgpkoacaa.A
open Go Go.RowKit
/-- A call that is lent objects, and leaves one of several. -/
def GCallE (P : Program) (f : FuncId) (ins : List SV) (obs : Obs) {ι : Type} (R : ι → Option (Obs × SV)) : Prop :=
  (∀ (vs : Array Value) (w : World), (callFunc f vs).run P w = .ok (.enter f vs) w) ∧
  ∀ (M : Nat → Prop) (w : World) (ρ : Rho) (vs : List Value), (∀ b, M b → b < w.heap.size) → Bnd ρ → ARep M w ρ ins vs → Objs ⟨w, fun _ => True, [], fun _ _ => none⟩ M w ρ obs → (∀ b, fps ρ obs b → M b) → Apart ρ obs →
    Calls P f vs.toArray w fun e w' => ExtL ⟨w, fps ρ obs, [], fun _ _ => none⟩ w' ∧ ∃ i, GPost M w ρ obs w' e (R i)
theorem GCall.e {P : Program} {f : FuncId} {ins : List SV} {obs : Obs} {ι : Type} {R : ι → Option (Obs × SV)} (i : ι) (h : GCall P f ins obs (R i)) : GCallE P f ins obs R := ⟨h.1, fun M w ρ vs h1 h2 h3 h4 h5 h6 => (h.2 M w ρ vs h1 h2 h3 h4 h5 h6).mono fun e w' ⟨h7, h8⟩ => ⟨h7, i, h8⟩⟩
section
variable {P : Program} {N : Nat} {M0 : Nat → Prop} {w0 : Base} {ops : Array Oper} {Q : Exit → ASt → Prop} {o : Oper} {l : List Oper} {st : ASt}
theorem gcallE_at {ι : Type} {f : FuncId} {ins : List SV} {obs : Obs} {obs' : ι → Obs} {res : ι → SV} {pm : Pm} {nw : List (Nat × Nat)} {d : Nat} {a : Act} {w : World} {ρ : Rho} {vs : List Value} (hG : GCallE P f ins obs fun i => some (obs' i, res i)) (hsim : SimR N M0 w0 st ρ a w) (hd : o.dst = some d) (hN : d < N) (hg : o.guard = none)
    (hpre : PreO st (nmOf pm) obs) (hB : ∀ i, nmB obs (obs' i) pm nw = true) (hb1 : (obs.all fun p => (lookR pm p.1).isSome) = true) (hb5 : nodupB (pm.map (·.2.1)) = true) (hrun : (execOp a.eval o).run P w = .ok (.enter f vs.toArray) w) (hargs : ARep (Mt M0 ρ st.ob) w ρ (ins.map (SV.ren (nmOf pm))) vs)
    (h : ∀ i G, Al P N M0 w0 ops Q l ((st.aft pm (obs' i) (nm2 pm nw G)).set d ((res i).ren (nm2 pm nw G)))) : wpList P ops (QL N M0 w0 Q) (o :: l) a w := by
  obtain ⟨l1, l2, l3, l4, l5⟩ := hsim.lent ⟨hpre, fun p hp => List.all_eq_true.1 hb1 p hp⟩ hb5
  have hcall := hG.2 (Mt M0 ρ st.ob) w (pull (nmOf pm) ρ) vs hsim.mt_lt (nmOf_bnd hsim.gens) hargs.ren l1 l2 l3
  refine wpList_plain hg fun K hK => wp_upon ?_
  rw [hrun]
  refine hcall.mono fun e w' ⟨hx, ix, v, he, ho⟩ => ⟨v, he, ?_⟩
  obtain ⟨G, ρ', hs', hr'⟩ := hsim.aft hpre (hB ix) hx ho
  refine hK _ _ ((h ix G).out _ _ ⟨ρ', ?_⟩)
  rw [hd]
  exact hs'.set hN hr'
/-- A call that is lent objects. -/
theorem Al_gcallE {ι : Type} {f : FuncId} {ins : List SV} {obs : Obs} {obs' : ι → Obs} {res : ι → SV} (pm : Pm) (nw : List (Nat × Nat)) {d : Nat} {xs : List Operand} {ts : Array TypeId} (hG : GCallE P f ins obs fun i => some (obs' i, res i)) (ho : o.op = .call ⟨.value (.func f), xs.toArray, ts⟩) (hg : o.guard = none) (hd : o.dst = some d) (hN : d < N) (hc : conB o = true)
    (hpre : PreO st (nmOf pm) obs) (hB : ∀ i, nmB obs (obs' i) pm nw = true) (hb1 : (obs.all fun p => (lookR pm p.1).isSome) = true) (hb5 : nodupB (pm.map (·.2.1)) = true) (ha : ArgsS st xs (ins.map (SV.ren (nmOf pm))))
    (h : ∀ i G, Al P N M0 w0 ops Q l ((st.aft pm (obs' i) (nm2 pm nw G)).set d ((res i).ren (nm2 pm nw G)))) : Al P N M0 w0 ops Q (o :: l) st := by
  refine ⟨?_⟩
  rintro a w ⟨ρ, hsim⟩
  have hev := fun y hy => hsim.ev hc y (mem_call ho y hy)
  refine gcallE_at hG hsim hd hN hg hpre hB hb1 hb5 (vs := xs.map a.eval) ?_ (ha.rep fun x hx => hev x (by simpa using hx)) h
  simp only [execOp, ho, resolve, Act.eval, Deferred.ofValue, invoke, Sem.run_bind, Sem.run_pure, Result.andThen_ok]
  rw [hG.1]
  congr 2
  apply Array.ext'
  simp
end
theorem GCallE_enter {P : Program} {ι : Type} {f : FuncId} {fn : Func} {c : Code} {N : Nat} {ins : List SV} {obs : Obs} {R : ι → Option (Obs × SV)} {rs : ASt → SV → Prop} (hcf : ∀ (vs : Array Value) (w : World), (callFunc f vs).run P w = .ok (.enter f vs) w) (hf : P.funcs[f]? = some fn) (hb : fn.body = some c) (hN : fn.ntmps = N) (hr : ReadsS P fn rs) (hn : ins.length ≤ N)
    (h : (∀ a, SV.d a ∈ ins → okA a) → (∀ k T cs a, (k, AO.box T cs) ∈ obs → SV.d a ∈ cs → okA a) → ∀ M0 w0, Aw P N M0 w0 c (fun e st => ∃ i, RtO rs obs (R i) e st) (mk (argSS 0 ins) (lookO1 obs))) : GCallE P f ins obs R := ⟨hcf, fun M w ρ vs hM hbnd ha hobs hfps hap => by
  have hokI : ∀ a, SV.d a ∈ ins → okA a := fun a hm => by
    obtain ⟨j, hj, e⟩ := List.getElem_of_mem hm
    have hj' : j < vs.length := by rw [ha.1]; exact hj
    exact ⟨M, w, vs[j], ha.2 j (.d a) _ (by rw [List.getElem?_eq_getElem hj, e]) (List.getElem?_eq_getElem hj')⟩
  have hokB : ∀ k T cs a, (k, AO.box T cs) ∈ obs → SV.d a ∈ cs → okA a := fun k T cs a hm ha => by
    obtain ⟨y, _, b, xs, rfl, _, _, hsz, hcs⟩ := hobs _ hm
    obtain ⟨j, hj, e⟩ := List.getElem_of_mem ha
    have hj' : j < xs.size := by rw [hsz]; exact hj
    exact ⟨M, w, xs[j], (hcs j (.d a) _ (by rw [List.getElem?_eq_getElem hj, e]) (Array.getElem?_eq_getElem hj')).1⟩
  have hMt : ∀ b, Mt M ρ (mk (argSS 0 ins) (lookO1 obs)).ob b → M b := fun b hb => by
    rcases hb with hb | ⟨k, g, o, x, h1, h2, h3⟩
    · exact hb
    · obtain ⟨rfl, hm⟩ := lookO1_mem h1
      exact hfps b ⟨_, hm, x, h2, h3⟩
  have hsim : SimR N M ⟨w, fps ρ obs, [], pins ρ obs⟩ (mk (argSS 0 ins) (lookO1 obs)) ρ { tmps := vs.toArray ++ Array.replicate (N - vs.toArray.size) undef, defers := [] } w := {
    size := by have := ha.1; simp; omega
    defers := rfl
    slot := fun i => by
      have e := argSS_get ins 0 i
      rw [Nat.zero_add] at e
      show SRep _ _ _ (lookS (argSS 0 ins) i) _
      rw [e]
      cases h : ins[i]? with
      | none => trivial
      | some s =>
        have hi : i < vs.length := by rw [ha.1]; exact (List.getElem?_eq_some_iff.1 h).1
        show SRep _ _ _ s ((vs.toArray ++ Array.replicate (N - vs.toArray.size) undef).getD i undef)
        have e2 : (vs.toArray ++ Array.replicate (N - vs.toArray.size) undef).getD i undef = vs[i] := by
          simp [Array.getD_eq_getD_getElem?, Array.getElem?_append, hi]
        rw [e2]
        exact (ha.2 i s vs[i] h (by simp [hi])).mono (Known.sub hMt)
    obj := fun k g o h => by
      obtain ⟨rfl, hm⟩ := lookO1_mem h
      obtain ⟨y, h1, h2⟩ := hobs _ hm
      exact ⟨y, h1, (h2.mono (Known.sub hMt) fun _ _ => rfl).base fun b hb => .inr ⟨_, hm, y, h1, hb⟩⟩
    apart := fun k g o k' g' o' x x' b h h' h1 h2 h3 h4 => by
      obtain ⟨rfl, hm⟩ := lookO1_mem h
      obtain ⟨rfl, hm'⟩ := lookO1_mem h'
      exact hap _ hm _ hm' x x' b h1 h2 h3 h4
    gens := hbnd
    base := hM
    ext := ⟨rfl, rfl, rfl, Nat.le_refl _, fun _ _ _ => rfl⟩
    pin := fun k g v hv => by
      have : (bif Nat.beq g 0 && obs.any (fun p => Nat.beq p.1 k) then ρ k g else none) = some v := hv
      revert this
      cases (Nat.beq g 0 && obs.any (fun p => Nat.beq p.1 k)) with
      | true => exact id
      | false => intro h; cases h }
  refine calls_of_wp hf hb ?_
  rw [hN]
  refine wp_mono ((h hokI hokB M ⟨w, fps ρ obs, [], pins ρ obs⟩).out _ _ ⟨_, hsim⟩) fun e a' w' ⟨st, ⟨ix, h1⟩, ρF, h2⟩ => ?_
  have hext : ExtL ⟨w, fps ρ obs, [], fun _ _ => none⟩ w' := ⟨h2.ext.os, h2.ext.tape, h2.ext.output, h2.ext.size, h2.ext.block⟩
  have key : (∃ (obs' : Obs) (res : SV) (mp : Pm), R ix = some (obs', res) ∧ rs st (res.ren (nmOf mp)) ∧ PreO st (nmOf mp) obs' ∧ (nodupB (obs'.map fun p => (nmOf mp p.1 0).1) && nodupB (obs'.map (·.1)) && obs.all fun p => !(lookR mp p.1).isSome) = true) → a'.defers = [] ∧ ∃ v, (results fn a'.tmps).run P w' = .ok v w' ∧ (ExtL ⟨w, fps ρ obs, [], fun _ _ => none⟩ w' ∧ ∃ ix, GPost M w ρ obs w' (.returned v) (R ix)) := fun ⟨obs', res, mp, hR, hrs, hpo, hchk⟩ => by
    simp only [Bool.and_eq_true] at hchk
    obtain ⟨⟨c1, c2⟩, c3⟩ := hchk
    obtain ⟨v, k1, k2⟩ := hr.out h2 hrs
    refine ⟨h2.defers, v, k1, hext, ix, ?_⟩
    rw [hR]
    refine ⟨v, rfl, pull (nmOf mp) ρF, nmOf_bnd h2.gens, fun p hp => ?_, fun p hp => ?_, fun p hp q hq x x' b h1 h2' h3 h4 => ?_, ?_⟩
    · have h5 := List.all_eq_true.1 c3 p hp
      have h6 : lookR mp p.1 = none := by simpa using h5
      have e : nmOf mp p.1 0 = (p.1, 0) := by simp [nmOf, h6]
      show ρF (nmOf mp p.1 0).1 (nmOf mp p.1 0).2 = _
      rw [e]
      obtain ⟨y, h7, _⟩ := hobs p hp
      rw [h7]
      refine h2.pin _ _ _ ?_
      show (bif Nat.beq 0 0 && obs.any (fun q => Nat.beq q.1 p.1) then ρ p.1 0 else none) = some y
      have : obs.any (fun q => Nat.beq q.1 p.1) = true := List.any_eq_true.2 ⟨p, hp, by simp⟩
      rw [this]; exact h7
    · obtain ⟨y, h5, h6⟩ := h2.obj _ _ _ (hpo.get p hp)
      refine ⟨y, h5, ((ORep.ren.1 h6).mono (Known.sub fun b hb => ?_) fun _ _ => rfl).base fun b hb => (h6.blk_lt (fpO.ren.2 hb)).1⟩
      rcases hb with hb | ⟨q, hq, z, h7, h8⟩
      · exact .inl hb
      · exact .inr ⟨_, _, _, z, hpo.get q hq, h7, fpO.ren.2 h8⟩
    · have := h2.apart _ _ _ _ _ _ x x' b (hpo.get p hp) (hpo.get q hq) h1 h2' (fpO.ren.2 h3) (fpO.ren.2 h4)
      rw [nodupB.inj c1 p hp q hq this]
    · refine (SRep.ren.1 k2).mono (Known.sub fun b hb => ?_)
      rcases hb with hb | ⟨q, hq, z, h7, h8⟩
      · exact .inl hb
      · exact .inr ⟨_, _, _, z, hpo.get q hq, h7, fpO.ren.2 h8⟩
  cases e with
  | normal => exact key h1
  | ret => exact key h1
  | panic ch =>
    obtain ⟨hR, pv, rfl⟩ := h1
    exact ⟨h2.defers, hext, ix, by rw [hR]; exact ⟨pv, rfl⟩⟩
  | _ => exact h1.elim⟩
end Go.Proofs.Ytgoncpjgpkoacaa.A
