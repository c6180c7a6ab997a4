/- What the proofs need in common, laid together (4 of 5): no condition. -/
import Derived.Test.YtlcahhlghjbnkaaP3
import Derived.Shelf.Sort.Plain
import Derived.Shelf.Slices.In.SortNone
import Derived.Shelf.SlIter.Sorted
import Derived.Recover
set_option linter.unusedSimpArgs false
set_option linter.unusedVariables false
set_option linter.constructorNameAsVariable false

section
namespace Go.Proofs.Ytlcahhlghjbnkaa.A
open Go Go.RowKit
/-- A call that is lent objects, and leaves one of several. -/
def GCallE (P : Program) (f : FuncId) (ins : List SV) (obs : Obs) {ι : Type} (R : ι → Option (Obs × SV)) : Prop :=
  (∀ (vs : Array Value) (w : World), (callFunc f vs).run P w = .ok (.enter f vs) w) ∧
  ∀ (M : Nat → Prop) (w : World) (ρ : Rho) (vs : List Value), (∀ b, M b → b < w.heap.size) → Bnd ρ → ARep M w ρ ins vs → Objs ⟨w, fun _ => True, [], fun _ _ => none⟩ M w ρ obs → (∀ b, fps ρ obs b → M b) → Apart ρ obs →
    Calls P f vs.toArray w fun e w' => ExtL ⟨w, fps ρ obs, [], fun _ _ => none⟩ w' ∧ ∃ i, GPost M w ρ obs w' e (R i)
theorem GCall.e {P : Program} {f : FuncId} {ins : List SV} {obs : Obs} {ι : Type} {R : ι → Option (Obs × SV)} (i : ι) (h : GCall P f ins obs (R i)) : GCallE P f ins obs R := ⟨h.1, fun M w ρ vs h1 h2 h3 h4 h5 h6 => (h.2 M w ρ vs h1 h2 h3 h4 h5 h6).mono fun e w' ⟨h7, h8⟩ => ⟨h7, i, h8⟩⟩
section
variable {P : Program} {N : Nat} {M0 : Nat → Prop} {w0 : Base} {ops : Array Oper} {Q : Exit → ASt → Prop} {o : Oper} {l : List Oper} {st : ASt}
theorem gcallE_at {ι : Type} {f : FuncId} {ins : List SV} {obs : Obs} {obs' : ι → Obs} {res : ι → SV} {pm : Pm} {nw : List (Nat × Nat)} {d : Nat} {a : Act} {w : World} {ρ : Rho} {vs : List Value} (hG : GCallE P f ins obs fun i => some (obs' i, res i)) (hsim : SimR N M0 w0 st ρ a w) (hd : o.dst = some d) (hN : d < N) (hg : o.guard = none)
    (hpre : PreO st (nmOf pm) obs) (hB : ∀ i, nmB obs (obs' i) pm nw = true) (hb1 : (obs.all fun p => (lookR pm p.1).isSome) = true) (hb5 : nodupB (pm.map (·.2.1)) = true) (hrun : (execOp a.eval o).run P w = .ok (.enter f vs.toArray) w) (hargs : ARep (Mt M0 ρ st.ob) w ρ (ins.map (SV.ren (nmOf pm))) vs)
    (h : ∀ i G, Al P N M0 w0 ops Q l ((st.aft pm (obs' i) (nm2 pm nw G)).set d ((res i).ren (nm2 pm nw G)))) : wpList P ops (QL N M0 w0 Q) (o :: l) a w := by
  obtain ⟨l1, l2, l3, l4, l5⟩ := hsim.lent ⟨hpre, fun p hp => List.all_eq_true.1 hb1 p hp⟩ hb5
  have hcall := hG.2 (Mt M0 ρ st.ob) w (pull (nmOf pm) ρ) vs hsim.mt_lt (nmOf_bnd hsim.gens) hargs.ren l1 l2 l3
  refine wpList_plain hg fun K hK => wp_upon ?_
  rw [hrun]
  refine hcall.mono fun e w' ⟨hx, ix, v, he, ho⟩ => ⟨v, he, ?_⟩
  obtain ⟨G, ρ', hs', hr'⟩ := hsim.aft hpre (hB ix) hx ho
  refine hK _ _ ((h ix G).out _ _ ⟨ρ', ?_⟩)
  rw [hd]
  exact hs'.set hN hr'
/-- A call that is lent objects. -/
theorem Al_gcallE {ι : Type} {f : FuncId} {ins : List SV} {obs : Obs} {obs' : ι → Obs} {res : ι → SV} (pm : Pm) (nw : List (Nat × Nat)) {d : Nat} {xs : List Operand} {ts : Array TypeId} (hG : GCallE P f ins obs fun i => some (obs' i, res i)) (ho : o.op = .call ⟨.value (.func f), xs.toArray, ts⟩) (hg : o.guard = none) (hd : o.dst = some d) (hN : d < N) (hc : conB o = true)
    (hpre : PreO st (nmOf pm) obs) (hB : ∀ i, nmB obs (obs' i) pm nw = true) (hb1 : (obs.all fun p => (lookR pm p.1).isSome) = true) (hb5 : nodupB (pm.map (·.2.1)) = true) (ha : ArgsS st xs (ins.map (SV.ren (nmOf pm))))
    (h : ∀ i G, Al P N M0 w0 ops Q l ((st.aft pm (obs' i) (nm2 pm nw G)).set d ((res i).ren (nm2 pm nw G)))) : Al P N M0 w0 ops Q (o :: l) st := by
  refine ⟨?_⟩
  rintro a w ⟨ρ, hsim⟩
  have hev := fun y hy => hsim.ev hc y (mem_call ho y hy)
  refine gcallE_at hG hsim hd hN hg hpre hB hb1 hb5 (vs := xs.map a.eval) ?_ (ha.rep fun x hx => hev x (by simpa using hx)) h
  simp only [execOp, ho, resolve, Act.eval, Deferred.ofValue, invoke, Sem.run_bind, Sem.run_pure, Result.andThen_ok]
  rw [hG.1]
  congr 2
  apply Array.ext'
  simp
end
theorem GCallE_enter {P : Program} {ι : Type} {f : FuncId} {fn : Func} {c : Code} {N : Nat} {ins : List SV} {obs : Obs} {R : ι → Option (Obs × SV)} {rs : ASt → SV → Prop} (hcf : ∀ (vs : Array Value) (w : World), (callFunc f vs).run P w = .ok (.enter f vs) w) (hf : P.funcs[f]? = some fn) (hb : fn.body = some c) (hN : fn.ntmps = N) (hr : ReadsS P fn rs) (hn : ins.length ≤ N)
    (h : (∀ a, SV.d a ∈ ins → okA a) → (∀ k T cs a, (k, AO.box T cs) ∈ obs → SV.d a ∈ cs → okA a) → ∀ M0 w0, Aw P N M0 w0 c (fun e st => ∃ i, RtO rs obs (R i) e st) (mk (argSS 0 ins) (lookO1 obs))) : GCallE P f ins obs R := ⟨hcf, fun M w ρ vs hM hbnd ha hobs hfps hap => by
  have hokI : ∀ a, SV.d a ∈ ins → okA a := fun a hm => by
    obtain ⟨j, hj, e⟩ := List.getElem_of_mem hm
    have hj' : j < vs.length := by rw [ha.1]; exact hj
    exact ⟨M, w, vs[j], ha.2 j (.d a) _ (by rw [List.getElem?_eq_getElem hj, e]) (List.getElem?_eq_getElem hj')⟩
  have hokB : ∀ k T cs a, (k, AO.box T cs) ∈ obs → SV.d a ∈ cs → okA a := fun k T cs a hm ha => by
    obtain ⟨y, _, b, xs, rfl, _, _, hsz, hcs⟩ := hobs _ hm
    obtain ⟨j, hj, e⟩ := List.getElem_of_mem ha
    have hj' : j < xs.size := by rw [hsz]; exact hj
    exact ⟨M, w, xs[j], (hcs j (.d a) _ (by rw [List.getElem?_eq_getElem hj, e]) (Array.getElem?_eq_getElem hj')).1⟩
  have hMt : ∀ b, Mt M ρ (mk (argSS 0 ins) (lookO1 obs)).ob b → M b := fun b hb => by
    rcases hb with hb | ⟨k, g, o, x, h1, h2, h3⟩
    · exact hb
    · obtain ⟨rfl, hm⟩ := lookO1_mem h1
      exact hfps b ⟨_, hm, x, h2, h3⟩
  have hsim : SimR N M ⟨w, fps ρ obs, [], pins ρ obs⟩ (mk (argSS 0 ins) (lookO1 obs)) ρ { tmps := vs.toArray ++ Array.replicate (N - vs.toArray.size) undef, defers := [] } w := {
    size := by have := ha.1; simp; omega
    defers := rfl
    slot := fun i => by
      have e := argSS_get ins 0 i
      rw [Nat.zero_add] at e
      show SRep _ _ _ (lookS (argSS 0 ins) i) _
      rw [e]
      cases h : ins[i]? with
      | none => trivial
      | some s =>
        have hi : i < vs.length := by rw [ha.1]; exact (List.getElem?_eq_some_iff.1 h).1
        show SRep _ _ _ s ((vs.toArray ++ Array.replicate (N - vs.toArray.size) undef).getD i undef)
        have e2 : (vs.toArray ++ Array.replicate (N - vs.toArray.size) undef).getD i undef = vs[i] := by
          simp [Array.getD_eq_getD_getElem?, Array.getElem?_append, hi]
        rw [e2]
        exact (ha.2 i s vs[i] h (by simp [hi])).mono (Known.sub hMt)
    obj := fun k g o h => by
      obtain ⟨rfl, hm⟩ := lookO1_mem h
      obtain ⟨y, h1, h2⟩ := hobs _ hm
      exact ⟨y, h1, (h2.mono (Known.sub hMt) fun _ _ => rfl).base fun b hb => .inr ⟨_, hm, y, h1, hb⟩⟩
    apart := fun k g o k' g' o' x x' b h h' h1 h2 h3 h4 => by
      obtain ⟨rfl, hm⟩ := lookO1_mem h
      obtain ⟨rfl, hm'⟩ := lookO1_mem h'
      exact hap _ hm _ hm' x x' b h1 h2 h3 h4
    gens := hbnd
    base := hM
    ext := ⟨rfl, rfl, rfl, Nat.le_refl _, fun _ _ _ => rfl⟩
    pin := fun k g v hv => by
      have : (bif Nat.beq g 0 && obs.any (fun p => Nat.beq p.1 k) then ρ k g else none) = some v := hv
      revert this
      cases (Nat.beq g 0 && obs.any (fun p => Nat.beq p.1 k)) with
      | true => exact id
      | false => intro h; cases h }
  refine calls_of_wp hf hb ?_
  rw [hN]
  refine wp_mono ((h hokI hokB M ⟨w, fps ρ obs, [], pins ρ obs⟩).out _ _ ⟨_, hsim⟩) fun e a' w' ⟨st, ⟨ix, h1⟩, ρF, h2⟩ => ?_
  have hext : ExtL ⟨w, fps ρ obs, [], fun _ _ => none⟩ w' := ⟨h2.ext.os, h2.ext.tape, h2.ext.output, h2.ext.size, h2.ext.block⟩
  have key : (∃ (obs' : Obs) (res : SV) (mp : Pm), R ix = some (obs', res) ∧ rs st (res.ren (nmOf mp)) ∧ PreO st (nmOf mp) obs' ∧ (nodupB (obs'.map fun p => (nmOf mp p.1 0).1) && nodupB (obs'.map (·.1)) && obs.all fun p => !(lookR mp p.1).isSome) = true) → a'.defers = [] ∧ ∃ v, (results fn a'.tmps).run P w' = .ok v w' ∧ (ExtL ⟨w, fps ρ obs, [], fun _ _ => none⟩ w' ∧ ∃ ix, GPost M w ρ obs w' (.returned v) (R ix)) := fun ⟨obs', res, mp, hR, hrs, hpo, hchk⟩ => by
    simp only [Bool.and_eq_true] at hchk
    obtain ⟨⟨c1, c2⟩, c3⟩ := hchk
    obtain ⟨v, k1, k2⟩ := hr.out h2 hrs
    refine ⟨h2.defers, v, k1, hext, ix, ?_⟩
    rw [hR]
    refine ⟨v, rfl, pull (nmOf mp) ρF, nmOf_bnd h2.gens, fun p hp => ?_, fun p hp => ?_, fun p hp q hq x x' b h1 h2' h3 h4 => ?_, ?_⟩
    · have h5 := List.all_eq_true.1 c3 p hp
      have h6 : lookR mp p.1 = none := by simpa using h5
      have e : nmOf mp p.1 0 = (p.1, 0) := by simp [nmOf, h6]
      show ρF (nmOf mp p.1 0).1 (nmOf mp p.1 0).2 = _
      rw [e]
      obtain ⟨y, h7, _⟩ := hobs p hp
      rw [h7]
      refine h2.pin _ _ _ ?_
      show (bif Nat.beq 0 0 && obs.any (fun q => Nat.beq q.1 p.1) then ρ p.1 0 else none) = some y
      have : obs.any (fun q => Nat.beq q.1 p.1) = true := List.any_eq_true.2 ⟨p, hp, by simp⟩
      rw [this]; exact h7
    · obtain ⟨y, h5, h6⟩ := h2.obj _ _ _ (hpo.get p hp)
      refine ⟨y, h5, ((ORep.ren.1 h6).mono (Known.sub fun b hb => ?_) fun _ _ => rfl).base fun b hb => (h6.blk_lt (fpO.ren.2 hb)).1⟩
      rcases hb with hb | ⟨q, hq, z, h7, h8⟩
      · exact .inl hb
      · exact .inr ⟨_, _, _, z, hpo.get q hq, h7, fpO.ren.2 h8⟩
    · have := h2.apart _ _ _ _ _ _ x x' b (hpo.get p hp) (hpo.get q hq) h1 h2' (fpO.ren.2 h3) (fpO.ren.2 h4)
      rw [nodupB.inj c1 p hp q hq this]
    · refine (SRep.ren.1 k2).mono (Known.sub fun b hb => ?_)
      rcases hb with hb | ⟨q, hq, z, h7, h8⟩
      · exact .inl hb
      · exact .inr ⟨_, _, _, z, hpo.get q hq, h7, fpO.ren.2 h8⟩
  cases e with
  | normal => exact key h1
  | ret => exact key h1
  | panic ch =>
    obtain ⟨hR, pv, rfl⟩ := h1
    exact ⟨h2.defers, hext, ix, by rw [hR]; exact ⟨pv, rfl⟩⟩
  | _ => exact h1.elim⟩
end Go.Proofs.Ytlcahhlghjbnkaa.A
namespace Go.Proofs.Ytlcahhlghjbnkaa.A
open Go Go.RowKit
theorem GCallE_enterL {P : Program} {ι : Type} {f : FuncId} {fn : Func} {c : Code} {N : Nat} {ins : List SV} {obs : Obs} {R : ι → Option (Obs × SV)} {rs : ASt → SV → Prop} (hcf : ∀ (vs : Array Value) (w : World), (callFunc f vs).run P w = .ok (.enter f vs) w) (hf : P.funcs[f]? = some fn) (hb : fn.body = some c) (hN : fn.ntmps = N) (hr : ReadsS P fn rs) (hn : ins.length ≤ N)
    (h : (∀ a, SV.d a ∈ ins → okA a) → (∀ k T cs a, (k, AO.box T cs) ∈ obs → SV.d a ∈ cs → okA a) → ∀ M0 w0, (∀ b, w0.l b → ∃ p ∈ obs, ∃ h, w0.p p.1 0 = some h ∧ fpO p.2 h b) → Aw P N M0 w0 c (fun e st => ∃ i, RtO rs obs (R i) e st) (mk (argSS 0 ins) (lookO1 obs))) : GCallE P f ins obs R := ⟨hcf, fun M w ρ vs hM hbnd ha hobs hfps hap => by
  have hokI : ∀ a, SV.d a ∈ ins → okA a := fun a hm => by
    obtain ⟨j, hj, e⟩ := List.getElem_of_mem hm
    have hj' : j < vs.length := by rw [ha.1]; exact hj
    exact ⟨M, w, vs[j], ha.2 j (.d a) _ (by rw [List.getElem?_eq_getElem hj, e]) (List.getElem?_eq_getElem hj')⟩
  have hokB : ∀ k T cs a, (k, AO.box T cs) ∈ obs → SV.d a ∈ cs → okA a := fun k T cs a hm ha => by
    obtain ⟨y, _, b, xs, rfl, _, _, hsz, hcs⟩ := hobs _ hm
    obtain ⟨j, hj, e⟩ := List.getElem_of_mem ha
    have hj' : j < xs.size := by rw [hsz]; exact hj
    exact ⟨M, w, xs[j], (hcs j (.d a) _ (by rw [List.getElem?_eq_getElem hj, e]) (Array.getElem?_eq_getElem hj')).1⟩
  have hlent : ∀ b, fps ρ obs b → ∃ p ∈ obs, ∃ h, pins ρ obs p.1 0 = some h ∧ fpO p.2 h b := fun b ⟨p, hp, h, h1, h2⟩ => ⟨p, hp, h, by
    have : obs.any (fun q => Nat.beq q.1 p.1) = true := List.any_eq_true.2 ⟨p, hp, by simp⟩
    show (bif Nat.beq 0 0 && obs.any (fun q => Nat.beq q.1 p.1) then ρ p.1 0 else none) = some h
    rw [this]; exact h1, h2⟩
  have hMt : ∀ b, Mt M ρ (mk (argSS 0 ins) (lookO1 obs)).ob b → M b := fun b hb => by
    rcases hb with hb | ⟨k, g, o, x, h1, h2, h3⟩
    · exact hb
    · obtain ⟨rfl, hm⟩ := lookO1_mem h1
      exact hfps b ⟨_, hm, x, h2, h3⟩
  have hsim : SimR N M ⟨w, fps ρ obs, [], pins ρ obs⟩ (mk (argSS 0 ins) (lookO1 obs)) ρ { tmps := vs.toArray ++ Array.replicate (N - vs.toArray.size) undef, defers := [] } w := {
    size := by have := ha.1; simp; omega
    defers := rfl
    slot := fun i => by
      have e := argSS_get ins 0 i
      rw [Nat.zero_add] at e
      show SRep _ _ _ (lookS (argSS 0 ins) i) _
      rw [e]
      cases h : ins[i]? with
      | none => trivial
      | some s =>
        have hi : i < vs.length := by rw [ha.1]; exact (List.getElem?_eq_some_iff.1 h).1
        show SRep _ _ _ s ((vs.toArray ++ Array.replicate (N - vs.toArray.size) undef).getD i undef)
        have e2 : (vs.toArray ++ Array.replicate (N - vs.toArray.size) undef).getD i undef = vs[i] := by
          simp [Array.getD_eq_getD_getElem?, Array.getElem?_append, hi]
        rw [e2]
        exact (ha.2 i s vs[i] h (by simp [hi])).mono (Known.sub hMt)
    obj := fun k g o h => by
      obtain ⟨rfl, hm⟩ := lookO1_mem h
      obtain ⟨y, h1, h2⟩ := hobs _ hm
      exact ⟨y, h1, (h2.mono (Known.sub hMt) fun _ _ => rfl).base fun b hb => .inr ⟨_, hm, y, h1, hb⟩⟩
    apart := fun k g o k' g' o' x x' b h h' h1 h2 h3 h4 => by
      obtain ⟨rfl, hm⟩ := lookO1_mem h
      obtain ⟨rfl, hm'⟩ := lookO1_mem h'
      exact hap _ hm _ hm' x x' b h1 h2 h3 h4
    gens := hbnd
    base := hM
    ext := ⟨rfl, rfl, rfl, Nat.le_refl _, fun _ _ _ => rfl⟩
    pin := fun k g v hv => by
      have : (bif Nat.beq g 0 && obs.any (fun p => Nat.beq p.1 k) then ρ k g else none) = some v := hv
      revert this
      cases (Nat.beq g 0 && obs.any (fun p => Nat.beq p.1 k)) with
      | true => exact id
      | false => intro h; cases h }
  refine calls_of_wp hf hb ?_
  rw [hN]
  refine wp_mono ((h hokI hokB M ⟨w, fps ρ obs, [], pins ρ obs⟩ hlent).out _ _ ⟨_, hsim⟩) fun e a' w' ⟨st, ⟨ix, h1⟩, ρF, h2⟩ => ?_
  have hext : ExtL ⟨w, fps ρ obs, [], fun _ _ => none⟩ w' := ⟨h2.ext.os, h2.ext.tape, h2.ext.output, h2.ext.size, h2.ext.block⟩
  have key : (∃ (obs' : Obs) (res : SV) (mp : Pm), R ix = some (obs', res) ∧ rs st (res.ren (nmOf mp)) ∧ PreO st (nmOf mp) obs' ∧ (nodupB (obs'.map fun p => (nmOf mp p.1 0).1) && nodupB (obs'.map (·.1)) && obs.all fun p => !(lookR mp p.1).isSome) = true) → a'.defers = [] ∧ ∃ v, (results fn a'.tmps).run P w' = .ok v w' ∧ (ExtL ⟨w, fps ρ obs, [], fun _ _ => none⟩ w' ∧ ∃ ix, GPost M w ρ obs w' (.returned v) (R ix)) := fun ⟨obs', res, mp, hR, hrs, hpo, hchk⟩ => by
    simp only [Bool.and_eq_true] at hchk
    obtain ⟨⟨c1, c2⟩, c3⟩ := hchk
    obtain ⟨v, k1, k2⟩ := hr.out h2 hrs
    refine ⟨h2.defers, v, k1, hext, ix, ?_⟩
    rw [hR]
    refine ⟨v, rfl, pull (nmOf mp) ρF, nmOf_bnd h2.gens, fun p hp => ?_, fun p hp => ?_, fun p hp q hq x x' b h1 h2' h3 h4 => ?_, ?_⟩
    · have h5 := List.all_eq_true.1 c3 p hp
      have h6 : lookR mp p.1 = none := by simpa using h5
      have e : nmOf mp p.1 0 = (p.1, 0) := by simp [nmOf, h6]
      show ρF (nmOf mp p.1 0).1 (nmOf mp p.1 0).2 = _
      rw [e]
      obtain ⟨y, h7, _⟩ := hobs p hp
      rw [h7]
      refine h2.pin _ _ _ ?_
      show (bif Nat.beq 0 0 && obs.any (fun q => Nat.beq q.1 p.1) then ρ p.1 0 else none) = some y
      have : obs.any (fun q => Nat.beq q.1 p.1) = true := List.any_eq_true.2 ⟨p, hp, by simp⟩
      rw [this]; exact h7
    · obtain ⟨y, h5, h6⟩ := h2.obj _ _ _ (hpo.get p hp)
      refine ⟨y, h5, ((ORep.ren.1 h6).mono (Known.sub fun b hb => ?_) fun _ _ => rfl).base fun b hb => (h6.blk_lt (fpO.ren.2 hb)).1⟩
      rcases hb with hb | ⟨q, hq, z, h7, h8⟩
      · exact .inl hb
      · exact .inr ⟨_, _, _, z, hpo.get q hq, h7, fpO.ren.2 h8⟩
    · have := h2.apart _ _ _ _ _ _ x x' b (hpo.get p hp) (hpo.get q hq) h1 h2' (fpO.ren.2 h3) (fpO.ren.2 h4)
      rw [nodupB.inj c1 p hp q hq this]
    · refine (SRep.ren.1 k2).mono (Known.sub fun b hb => ?_)
      rcases hb with hb | ⟨q, hq, z, h7, h8⟩
      · exact .inl hb
      · exact .inr ⟨_, _, _, z, hpo.get q hq, h7, fpO.ren.2 h8⟩
  cases e with
  | normal => exact key h1
  | ret => exact key h1
  | panic ch =>
    obtain ⟨hR, pv, rfl⟩ := h1
    exact ⟨h2.defers, hext, ix, by rw [hR]; exact ⟨pv, rfl⟩⟩
  | _ => exact h1.elim⟩
theorem GCallE.one {P : Program} {f : FuncId} {ins : List SV} {obs : Obs} {R : Option (Obs × SV)} (h : GCallE P f ins obs (fun _ : Unit => R)) : GCall P f ins obs R := ⟨h.1, fun M w ρ vs h1 h2 h3 h4 h5 h6 => (h.2 M w ρ vs h1 h2 h3 h4 h5 h6).mono fun _ _ ⟨h7, _, h8⟩ => ⟨h7, h8⟩⟩
theorem GCall_enterL {P : Program} {f : FuncId} {fn : Func} {c : Code} {N : Nat} {ins : List SV} {obs : Obs} {R : Option (Obs × SV)} {rs : ASt → SV → Prop} (hcf : ∀ (vs : Array Value) (w : World), (callFunc f vs).run P w = .ok (.enter f vs) w) (hf : P.funcs[f]? = some fn) (hb : fn.body = some c) (hN : fn.ntmps = N) (hr : ReadsS P fn rs) (hn : ins.length ≤ N)
    (h : (∀ a, SV.d a ∈ ins → okA a) → (∀ k T cs a, (k, AO.box T cs) ∈ obs → SV.d a ∈ cs → okA a) → ∀ M0 w0, (∀ b, w0.l b → ∃ p ∈ obs, ∃ h, w0.p p.1 0 = some h ∧ fpO p.2 h b) → Aw P N M0 w0 c (RtO rs obs R) (mk (argSS 0 ins) (lookO1 obs))) : GCall P f ins obs R :=
  GCallE.one (GCallE_enterL hcf hf hb hN hr hn fun h1 h2 M0 w0 hl => Aw_mono (h h1 h2 M0 w0 hl) fun _ _ h3 => ⟨(), h3⟩)
section
variable {P : Program} {N : Nat} {M0 : Nat → Prop} {w0 : Base} {ops : Array Oper} {Q : Exit → ASt → Prop} {o : Oper} {l : List Oper} {st : ASt}
/-- What was lent stands where it stood; the object k is none of it. -/
def Still (st : ASt) (k : Nat) : Obs → Prop
  | [] => True
  | p :: r => Nat.beq k p.1 = false ∧ (∃ o', st.ob p.1 = some (0, o') ∧ ∀ h b, fpO p.2 h b → fpO o' h b) ∧ Still st k r
theorem Still.get {k : Nat} : ∀ {obs : Obs}, Still st k obs → ∀ p ∈ obs, k ≠ p.1 ∧ ∃ o', st.ob p.1 = some (0, o') ∧ ∀ h b, fpO p.2 h b → fpO o' h b
  | [], _, p, hp => by cases hp
  | q :: r, ⟨h1, h2, h3⟩, p, hp => by
    rcases List.mem_cons.1 hp with rfl | hp
    · exact ⟨fun e => by rw [e] at h1; simp at h1, h2⟩
    · exact h3.get p hp
theorem lentL_apart {k g : Nat} {ob : AO} {obs : Obs} (hl : ∀ b, w0.l b → ∃ p ∈ obs, ∃ h, w0.p p.1 0 = some h ∧ fpO p.2 h b) (hob : st.ob k = some (g, ob)) (hst : Still st k obs) (a : Act) (w : World) (ρ : Rho) (hs : SimR N M0 w0 st ρ a w) : ∀ v b, ρ k g = some v → fpO ob v b → ¬ w0.l b := fun v b hv hb hlb => by
  obtain ⟨p, hp, h, h1, h2⟩ := hl b hlb
  obtain ⟨hne, o', h3, h4⟩ := hst.get p hp
  exact hne (hs.apart k g _ p.1 0 _ v h b hob h3 hv (hs.pin _ _ _ h1) hb (h4 _ _ h2))
theorem le_frzL {k g : Nat} {T : TypeId} {n : Nat} {rows : List (List AV)} {obs : Obs} (hl : ∀ b, w0.l b → ∃ p ∈ obs, ∃ h, w0.p p.1 0 = some h ∧ fpO p.2 h b) (is : List Nat) (hob : st.ob k = some (g, .arr T n rows)) (hst : Still st k obs) (his : AllOw st k g is) : Le N M0 w0 st (st.frz k is (.sl n rows)) := fun a w ⟨ρ, hs⟩ => ⟨ρ, (hs.frz (fun v b hv hb => lentL_apart hl hob hst a w ρ hs v b hv hb) is hob his).1⟩
/-- A row of the call's own, in a call that is lent objects, told as data from here on. -/
theorem Aw_frzL {c : Code} {k g : Nat} {T : TypeId} {n : Nat} {rows : List (List AV)} {obs : Obs} (hl : ∀ b, w0.l b → ∃ p ∈ obs, ∃ h, w0.p p.1 0 = some h ∧ fpO p.2 h b) (is : List Nat) (hob : st.ob k = some (g, .arr T n rows)) (hst : Still st k obs) (his : AllOw st k g is) (h : Aw P N M0 w0 c Q (st.frz k is (.sl n rows))) : Aw P N M0 w0 c Q st := Aw_le (le_frzL hl is hob hst his) h
theorem Al_mapDelete0 {κ α : Type} [DecidableEq κ] {kv : κ → Value} {ok : κ → Prop} {enc : α → AV} {b n : Nat} {m : κ → Option α} {t kt e : TypeId} {x y : Operand} {k g : Nat} {ky : AV} {c : κ} (T : R.KeyT P kt κ kv ok) (ho : o.op = .call ⟨.builtin .delete, #[x, y], #[t, kt]⟩) (hg : o.guard = none) (hd : o.dst = none) (hc : conB o = true) (ht : P.underlying t = some (.map kt e)) (hx : st.ev x = .ow k g) (hob : st.ob k = some (g, .op (mapO kv ok enc b n m))) (hy : st.ev y = .d ky) (hky : Only ky (kv c)) (hok : ok c)
    (h : Al P N M0 w0 ops Q l (st.put k g (.op (mapO kv ok enc b n (fun c' => if c' = c then none else m c'))))) : Al P N M0 w0 ops Q (o :: l) st := by
  refine ⟨?_⟩
  rintro a w ⟨ρ, hsim⟩
  have hev := hsim.ev hc
  have h1 := hev x (mem_call ho x (by simp))
  have h4 := hev y (mem_call ho y (by simp))
  rw [hx] at h1
  rw [hy] at h4
  obtain ⟨k1, _⟩ := h1
  obtain ⟨u, hu, hF, he, hmp⟩ := hsim.obj k g _ hob
  rw [k1] at hu; cases hu
  have hyv := hky _ _ _ h4
  have hb : Mt M0 ρ st.ob b := .inr ⟨k, g, _, _, hob, k1, rfl⟩
  obtain ⟨w', hr, hmp', hgr, hsz⟩ := hmp.drop T ht c hok o.type (fun w' hgr _ v x hv => hv.mono (fun c' hc' hm => ⟨hm, hgr.block c' hc' (fun e => hm (by simp only [Option.some.injEq] at e; exact e ▸ hb))⟩))
  have hs2 := hsim.mod (w' := w') hob k1 ⟨hgr.os, hgr.tape, hgr.output⟩ hgr.size (fun c' hc' hne => hgr.block c' hc' (fun e => hne (by simp only [Option.some.injEq] at e; exact e))) (o' := .op (mapO kv ok enc b n (fun c' => if c' = c then none else m c'))) (fun M' hK hle => ⟨hF, he, hmp'.mono rfl fun v x hv => hv.mono (Known.sub hle)⟩) (fun c' hc' => hc')
  refine wpList_plain hg fun K hK => wp_upon ?_
  have e : (execOp a.eval o).run P w = .ok (.value (.tuple #[])) w' := by
    simp only [execOp, ho, resolve, invoke, builtin, Sem.run_bind, Sem.run_pure, Result.andThen_ok, List.map_toArray, List.map_cons, List.map_nil, he, hyv, hr]
  rw [e]
  refine hK _ _ (h.out _ _ ⟨ρ, ?_⟩)
  rw [hd]
  exact hs2
/-- Two slots that hold the same: each is brought to what it holds by itself. -/
theorem Sub.two {s t v : SV} (h1 : s = v) (h2 : t = v) : Sub s t := Sub.eq (h1.trans h2.symm)
end
end Go.Proofs.Ytlcahhlghjbnkaa.A
namespace Go.Proofs.Ytlcahhlghjbnkaa.A
open Go Go.RowKit
section
variable {P : Program} {N : Nat} {M0 : Nat → Prop} {w0 : Base} {ops : Array Oper} {Q : Exit → ASt → Prop} {o : Oper} {l : List Oper} {st : ASt}
end
end Go.Proofs.Ytlcahhlghjbnkaa.A
end

section
namespace Go.Proofs.Ytlcahhlghjbnkaa.A
open Go Go.RowKit
def cvIn (ks : List Nat) : CV → Bool
  | .d _ => true
  | .bx k g _ => ks.contains k && Nat.beq g 0
  | .ow k g => ks.contains k && Nat.beq g 0
  | .eq _ => true
/-- It names some objects alone. -/
def svIn (ks : List Nat) : SV → Bool
  | .any => true
  | .d _ => true
  | .bx k g _ => ks.contains k && Nat.beq g 0
  | .ow k g => ks.contains k && Nat.beq g 0
  | .ifb _ s => svIn ks s
  | .fnb _ a b => a.all (cvIn ks) && b.all (cvIn ks)
  | .tp l => l.all (cvIn ks)
  | .ag l => l.all (cvIn ks)
  | .psl l => l.all (cvIn ks)
  | .pc c => cvIn ks c
  | .ows k g _ _ _ => ks.contains k && Nat.beq g 0
  | .slc _ _ => true
  | .eq _ => true
section
variable {M : Nat → Prop} {w : World} {ρ ρ' : Rho} {ks : List Nat}
end
/-- An object that names some objects alone. -/
def aoIn (ks : List Nat) : AO → Prop
  | .box _ cs => cs.all (svIn ks) = true
  | .arr _ _ _ => True
  | .op I => ∀ (M : Nat → Prop) (w : World) (ρ ρ' : Rho) (h : Value), I.I M w ρ' h → I.I M w ρ h
def ObsIn (ks : List Nat) : Obs → Prop
  | [] => True
  | p :: r => aoIn ks p.2 ∧ ObsIn ks r
theorem ObsIn.get {ks : List Nat} : ∀ {obs : Obs}, ObsIn ks obs → ∀ p ∈ obs, aoIn ks p.2
  | [], _, p, h => by cases h
  | q :: r, h, p, hp => by
    rcases List.mem_cons.1 hp with rfl | hp
    · exact h.1
    · exact h.2.get p hp
section
variable {P : Program} {st : ASt} {o : Oper}
end
end Go.Proofs.Ytlcahhlghjbnkaa.A
namespace Go.Proofs.Ytlcahhlghjbnkaa.A
open Go Go.RowKit
section
variable {P : Program}
/-- Results: a variable of many cells, and two slots. -/
def ResN2 (r n r' r'' : Nat) (st : ASt) (res : AV) : Prop := ∃ k g off T cs rw a b, st.sl r = .bx k g off ∧ st.ob k = some (g, .box T cs) ∧ (cs.drop off).take n = rw.map .d ∧ rw.length = n ∧ Sub (st.sl r') (.d a) ∧ Sub (st.sl r'') (.d b) ∧ res = .tup [.row rw, a, b]
theorem out_cN2 {N : Nat} {M0 : Nat → Prop} {w0 : Base} {st : ASt} {ρ : Rho} {ac : Act} {w : World} {res : AV} {fn : Func} {r t n r' r'' : Nat} (h : fn.results = #[.cell r t, .tmp r', .tmp r'']) (ht : ∀ w, (isAgg t).run P w = .ok true w) (hz : ∀ w, (sizeOf t).run P w = .ok n w) (hs : SimR N M0 w0 st ρ ac w) (hr : ResN2 r n r' r'' st res) : ∃ v, (results fn ac.tmps).run P w = .ok v w ∧ Rep (Mt M0 ρ st.ob) w res v := by
  obtain ⟨k, g, off, T, cs, rw', a, b, h1, h2, h3, h4, h5, h5', h6⟩ := hr
  have hm := hs.slot r
  rw [h1] at hm
  obtain ⟨y, b', k1, k2, k3⟩ := hm
  obtain ⟨y', k4, hO⟩ := hs.obj k g _ h2
  rw [k1] at k4; cases k4
  obtain ⟨v, k5, k6⟩ := loadvarN ht hz hO k2 h3 h4
  refine ⟨.tuple #[v, ac.tmps.getD r' undef, ac.tmps.getD r'' undef], ?_, ?_⟩
  · have ha : (asAddr (ac.tmps.getD r undef)).run P w = .ok ⟨b', off, none⟩ w := by rw [k3]; rfl
    rw [Array.getD_eq_getD_getElem?] at ha
    simp [results, h, Sem.run_bind, ha, k5, Array.getD_eq_getD_getElem?]
  · rw [h6]
    exact .tup _ [_, _, _] rfl fun j c x h7 h8 => by
      match j with
      | 0 => simp at h7 h8; subst h7 h8; exact k6
      | 1 => simp at h7 h8; subst h7 h8; rw [← Array.getD_eq_getD_getElem?]; exact h5 _ _ _ _ (hs.slot r')
      | 2 => simp at h7 h8; subst h7 h8; rw [← Array.getD_eq_getD_getElem?]; exact h5' _ _ _ _ (hs.slot r'')
      | j + 3 => simp at h7
theorem Reads.cN2 {fn : Func} {r t n r' r'' : Nat} (h : fn.results = #[.cell r t, .tmp r', .tmp r'']) (ht : ∀ w, (isAgg t).run P w = .ok true w) (hz : ∀ w, (sizeOf t).run P w = .ok n w) : Reads P fn (ResN2 r n r' r'') := ⟨fun {N M0 w0 st ρ a w res} hs hr => by
  obtain ⟨v, h1, h2⟩ := out_cN2 h ht hz hs hr
  exact ⟨v, h1, h2.mono (Known.sub fun c hc => .inl hc)⟩⟩
def ResN2S (r n r' r'' : Nat) (st : ASt) (res : SV) : Prop := ∃ a, res = .d a ∧ ResN2 r n r' r'' st a
theorem ReadsS.cN2 {fn : Func} {r t n r' r'' : Nat} (h : fn.results = #[.cell r t, .tmp r', .tmp r'']) (ht : ∀ w, (isAgg t).run P w = .ok true w) (hz : ∀ w, (sizeOf t).run P w = .ok n w) : ReadsS P fn (ResN2S r n r' r'') := ⟨fun {N M0 w0 st ρ a w res} hs ⟨res', hres, hr⟩ => by
  subst hres
  exact out_cN2 h ht hz hs hr⟩
/-- Results of a call that is lent objects: a variable of many cells. -/
def ResNS (r n : Nat) (st : ASt) (res : SV) : Prop := ∃ a, res = .d a ∧ ResN r n st a
theorem ReadsS.cN {fn : Func} {r t n : Nat} (h : fn.results = #[.cell r t]) (ht : ∀ w, (isAgg t).run P w = .ok true w) (hz : ∀ w, (sizeOf t).run P w = .ok n w) : ReadsS P fn (ResNS r n) := ⟨fun {N M0 w0 st ρ a w res} hs ⟨res', hres, k, g, off, T, cs, rw', h1, h2, h3, h4, h6⟩ => by
  subst hres
  have hm := hs.slot r
  rw [h1] at hm
  obtain ⟨y, b', k1, k2, k3⟩ := hm
  obtain ⟨y', k4, hO⟩ := hs.obj k g _ h2
  rw [k1] at k4; cases k4
  obtain ⟨v, k5, k6⟩ := loadvarN ht hz hO k2 h3 h4
  refine ⟨v, ?_, ?_⟩
  · have ha : (asAddr (a.tmps.getD r undef)).run P w = .ok ⟨b', off, none⟩ w := by rw [k3]; rfl
    rw [Array.getD_eq_getD_getElem?] at ha
    simp [results, h, Sem.run_bind, ha, k5]
  · rw [h6]; exact k6⟩
end
end Go.Proofs.Ytlcahhlghjbnkaa.A
namespace Go.Proofs.Ytlcahhlghjbnkaa.A
open Go Go.RowKit
/-- A call that yields a row of its own, told as data. -/
theorem GCall.a {P : Program} {f : FuncId} {aa : List AV} {T : TypeId} {n k : Nat} {rows : List (List AV)} (h : GCall P f (aa.map .d) [] (some ([(k, .arr T n rows)], .ow k 0))) : ACall P f aa (.sl n rows) := by
  refine ⟨h.1, fun M w vs hM ha => ?_⟩
  have h1 := h.2 M w (fun _ _ => none) vs hM ⟨0, fun k g hh => (hh rfl).elim⟩ ⟨by rw [List.length_map]; exact ha.1, fun j s x h1 h2 => by
    rw [List.getElem?_map] at h1
    obtain ⟨a, h3, rfl⟩ := Option.map_eq_some_iff.1 h1
    exact ha.2 j a x h3 h2⟩ (fun p hp => by cases hp) (fun b ⟨p, hp, _⟩ => by cases hp) (fun p hp => by cases hp)
  refine h1.mono fun e w' ⟨hx, v, he, ρ', _, _, hobj, _, hres⟩ => ?_
  have hne : ∀ b, ¬ fps (fun _ _ => none) ([] : Obs) b := fun b ⟨p, hp, _⟩ => by cases hp
  refine ⟨v, he, ⟨hx.os, hx.tape, hx.output, hx.size, fun b hb => hx.block b hb (hne b)⟩, ?_⟩
  obtain ⟨y, h4, h5⟩ := hobj _ (List.mem_cons_self ..)
  have h6 : ρ' k 0 = some v := hres.1
  rw [h6] at h4; cases h4
  have hlt : ∀ b, blk v = some b → w.heap.size ≤ b := fun b hb => h5.arr_lt hne hb
  exact h5.frz (Known.sub fun b hb => .inl hb) fun b hb hm => by
    have := hlt b hb
    have := hM b hm
    omega
end Go.Proofs.Ytlcahhlghjbnkaa.A
end

section
namespace Go.Proofs.Ytlcahhlghjbnkaa
open Go.RowKit A R
namespace V
/-- The stamp whose bytes some begin with; what follows. -/
def pst (r : List UInt8) : Option ((Nat × Nat) × List UInt8) := match rdB r with
  | none => none
  | some (n, t) => match rdB t with
    | none => none
    | some (i, u) => if 1 ≤ n ∧ n ≤ 1099511627776 ∧ i < 6 then some ((n, i), u) else none
def stN (s : ByteArray) (at_ : Nat) : Nat := match pst (s.data.toList.drop at_) with | some ((n, _), _) => n | none => 0
def stI (s : ByteArray) (at_ : Nat) : Nat := match pst (s.data.toList.drop at_) with | some ((_, i), _) => i | none => 0
def stEn (s : ByteArray) (at_ : Nat) : Nat := match pst (s.data.toList.drop at_) with | some (_, u) => s.size - u.length | none => 0
def stB (s : ByteArray) (at_ : Nat) : Bool := (pst (s.data.toList.drop at_)).isSome
theorem pst_iff {r u : List UInt8} {n i : Nat} : pst r = some ((n, i), u) ↔ (1 ≤ n ∧ n ≤ 1099511627776 ∧ i < 6) ∧ r = num n ++ (num i ++ u) := by
  unfold pst
  constructor
  · intro h
    split at h
    · cases h
    · rename_i m t h1
      split at h
      · cases h
      · rename_i j v h2
        split at h
        · rename_i hc
          simp only [Option.some.injEq, Prod.mk.injEq] at h
          obtain ⟨⟨rfl, rfl⟩, rfl⟩ := h
          exact ⟨hc, by rw [(rdB_suf h1).2, (rdB_suf h2).2]⟩
        · cases h
  · rintro ⟨hc, rfl⟩
    rw [rdB_num (by omega)]
    simp only
    rw [rdB_num (by omega)]
    simp only
    rw [if_pos hc]
/-- The two numbers make a stamp. -/
theorem st_yes {s : ByteArray} {at_ : Nat} (h1 : gotB s at_ = true) (h2 : gotB s (gotE s at_) = true) (h3 : stampB (gotN s at_ : Nat) (gotN s (gotE s at_) : Nat) = true) : stN s at_ = gotN s at_ ∧ stI s at_ = gotN s (gotE s at_) ∧ stEn s at_ = gotE s (gotE s at_) ∧ stB s at_ = true := by
  rcases got_cases s at_ with ⟨k1, _⟩ | ⟨n, t, _, k2, k3, k4, k5, k6⟩
  · rw [k1] at h1; cases h1
  rcases got_cases s (gotE s at_) with ⟨j1, _⟩ | ⟨i, u, _, j2, j3, j4, j5, j6⟩
  · rw [j1] at h2; cases h2
  rw [k2, j2, stampB_iff] at h3
  have j4' : rdB t = some (i, u) := by rw [k3, drop_suf k6] at j4; exact j4
  have hp : pst (s.data.toList.drop at_) = some ((n, i), u) := by
    unfold pst; rw [k4]; simp only; rw [j4']; simp only; rw [if_pos (by omega)]
  unfold stN stI stEn stB
  rw [hp, k2, j2, j3]
  exact ⟨rfl, rfl, rfl, rfl⟩
theorem st_none {s : ByteArray} {at_ : Nat} (h : pst (s.data.toList.drop at_) = none) : stN s at_ = 0 ∧ stI s at_ = 0 ∧ stEn s at_ = 0 ∧ stB s at_ = false := by
  unfold stN stI stEn stB; rw [h]; exact ⟨rfl, rfl, rfl, rfl⟩
theorem st_no {s : ByteArray} {at_ : Nat} (h : gotB s at_ = true → gotB s (gotE s at_) = true → stampB (gotN s at_ : Nat) (gotN s (gotE s at_) : Nat) = false) : stN s at_ = 0 ∧ stI s at_ = 0 ∧ stEn s at_ = 0 ∧ stB s at_ = false := by
  apply st_none
  rcases got_cases s at_ with ⟨_, _, _, k4⟩ | ⟨n, t, k1, k2, k3, k4, k5, k6⟩
  · unfold pst; rw [k4]
  rcases got_cases s (gotE s at_) with ⟨_, _, _, j4⟩ | ⟨i, u, j1, j2, j3, j4, j5, j6⟩
  · have j4' : rdB t = none := by rw [k3, drop_suf k6] at j4; exact j4
    unfold pst; rw [k4]; simp only; rw [j4']
  have h3 := h k1 j1
  have j4' : rdB t = some (i, u) := by rw [k3, drop_suf k6] at j4; exact j4
  have h4 : ¬ (1 ≤ n ∧ n ≤ 1099511627776 ∧ i < 6) := fun hc => by
    have : stampB (gotN s at_ : Nat) (gotN s (gotE s at_) : Nat) = true := stampB_iff.2 (by rw [k2, j2]; omega)
    rw [h3] at this; cases this
  unfold pst; rw [k4]; simp only; rw [j4']; simp only; rw [if_neg h4]
theorem gotE0 {s : ByteArray} {at_ : Nat} (h : gotE s at_ = 0) : gotB s at_ = false := (got_none (gotE_pos.1 h)).2.2
theorem gotE1 {s : ByteArray} {at_ : Nat} (h : ¬ gotE s at_ = 0) : gotB s at_ = true := by
  cases hb : gotB s at_ with
  | true => rfl
  | false =>
    rcases got_cases s at_ with ⟨_, _, h3, _⟩ | ⟨n, t, h1, _⟩
    · exact (h h3).elim
    · rw [h1] at hb; cases hb
theorem gotE_le (s : ByteArray) (at_ : Nat) : gotE s at_ ≤ s.size := by unfold gotE; split <;> omega
end V
set_option maxRecDepth 100000 in
theorem vstread_a (s : ByteArray) (at_ : Nat) (hs : s.size ≤ 1000000) : ACall Try.prog 57 [tv s, iv at_] (.tup [.row [iv (V.stN s at_), iv (V.stI s at_)], iv (V.stEn s at_), bv (V.stB s at_)]) := by
  refine ACall_enterG (fun _ _ => by kernel_rfl) Try.func57 rfl Try.ntmps57 (Reads.cN2 Try.results57 Try.isAgg34 Try.sizeOf34) (Nat.le_of_ble_eq_true rfl) (fun hok M0 w0 hnl => ?_)
  refine Aw_seq (Aw_region ?_)
  refine Al_alloc rfl rfl rfl (by decide) Try.zeroValue34 rfl (by kernel_rfl) (fun g4 => ?_)
  refine Al_p Pu_mvr ?_
  refine Al_p Pu_mvr ?_
  refine Al_nil (Aw_seq (Aw_region ?_))
  refine Al_p Pu_mvl ?_
  refine Al_p Pu_mvl ?_
  refine Al_p (Pu_call (vread_a s at_ hs) rfl ⟨Sub.rfl, Sub.rfl, trivial⟩) ?_
  refine Al_p Pu_mvl ?_
  refine Al_p (Pu_extract rfl rfl rfl) ?_
  refine Al_p (Pu_extract rfl rfl rfl) ?_
  refine Al_p (Pu_extract rfl rfl rfl) ?_
  refine Al_p Pu_mvr ?_
  refine Al_p Pu_mvr ?_
  refine Al_p Pu_mvr ?_
  refine Al_nil (Aw_seq (Aw_region ?_))
  refine Al_p Pu_mvl ?_
  refine Al_p Pu_mvl ?_
  refine Al_p (Pu_call (vread_a s (V.gotE s at_) hs) rfl ⟨Sub.rfl, Sub.rfl, trivial⟩) ?_
  refine Al_p Pu_mvl ?_
  refine Al_p (Pu_extract rfl rfl rfl) ?_
  refine Al_p (Pu_extract rfl rfl rfl) ?_
  refine Al_p (Pu_extract rfl rfl rfl) ?_
  refine Al_p Pu_mvr ?_
  refine Al_p Pu_mvr ?_
  refine Al_p Pu_mvr ?_
  refine Al_nil (Aw_seq (Aw_seq (Aw_region ?_)))
  refine Al_p Pu_mvl ?_
  refine Al_p (Pu_not rfl rfl) ?_
  refine Al_p Pu_mvl ?_
  refine Al_st (St_gd [] rfl rfl rfl rfl trivial (fun hg29 => by exact Pu_move (.inl rfl) (by conv => lhs; whnf))) rfl (by decide) (by kernel_rfl) (by intro j b oj dj h1 h2 h3; cases h1; cases h2; cases h3; decide) ?_
  refine Al_st (St_gd [29] rfl rfl rfl rfl ⟨⟨_, rfl⟩, trivial⟩ (fun hg30 => Pu_not rfl rfl)) rfl (by decide) (by kernel_rfl) (by intro j b oj dj h1 h2 h3; cases h1; cases h2; cases h3; decide) ?_
  refine Al_p (Pu_or rfl rfl rfl rfl) ?_
  refine Al_p Pu_mvl ?_
  refine Al_st (St_gd [] rfl rfl rfl rfl trivial (fun hg33 => by exact Pu_move (.inl rfl) (by conv => lhs; whnf))) rfl (by decide) (by kernel_rfl) (by intro j b oj dj h1 h2 h3; cases h1; cases h2; cases h3; decide) ?_
  refine Al_st (St_gd [33] rfl rfl rfl rfl ⟨⟨_, rfl⟩, trivial⟩ (fun hg34 => Pu_cmp rfl rfl rfl rfl)) rfl (by decide) (by kernel_rfl) (by intro j b oj dj h1 h2 h3; cases h1; cases h2; cases h3; decide) ?_
  refine Al_p (Pu_or rfl rfl rfl rfl) ?_
  refine Al_p Pu_mvl ?_
  refine Al_st (St_gd [] rfl rfl rfl rfl trivial (fun hg37 => by exact Pu_move (.inl rfl) (by conv => lhs; whnf))) rfl (by decide) (by kernel_rfl) (by intro j b oj dj h1 h2 h3; cases h1; cases h2; cases h3; decide) ?_
  refine Al_st (St_gd [37] rfl rfl rfl rfl ⟨⟨_, rfl⟩, trivial⟩ (fun hg38 => Pu_cmp rfl rfl rfl rfl)) rfl (by decide) (by kernel_rfl) (by intro j b oj dj h1 h2 h3; cases h1; cases h2; cases h3; decide) ?_
  refine Al_p (Pu_or rfl rfl rfl rfl) ?_
  refine Al_nil ?_
  refine Aw_cond rfl (fun h39 => ?_) (fun h39 => ?_)
  · skip
    obtain ⟨e1, e2, e3, e4⟩ := V.st_no (s := s) (at_ := at_) (fun c1 c2 => by
      rw [c1, c2] at h39
      simp only [Bool.not_true, Bool.false_or, Bool.or_eq_true, decide_eq_true_eq] at h39
      cases hb : V.stampB (V.gotN s at_ : Nat) (V.gotN s (V.gotE s at_) : Nat) with
      | false => rfl
      | true => have := V.stampB_iff.1 hb; omega)
    refine Aw_seq (Aw_region ?_)
    refine Al_p (Pu_build (aa := []) rfl Try.underlying34 Try.zeroValue34 (places34 Try.underlying34) (by kernel_rfl) trivial rfl) ?_
    refine Al_storeN rfl rfl rfl (by kernel_rfl) Try.isAgg34 Try.sizeOf34 rfl rfl rfl rfl (Nat.le_of_ble_eq_true rfl) ?_
    refine Al_p Pu_mvr ?_
    refine Al_p Pu_mvr ?_
    refine Al_nil ?_
    refine Aw_ret ?_
    exact ⟨_, _, _, _, _, [_, _], iv (V.stEn s at_), bv (V.stB s at_), rfl, rfl, rfl, rfl, Sub.num (by rw [e3]; rfl), Sub.bool (by rw [e4]), by rw [e1, e2]; rfl⟩ -- ret 0
  · skip
    simp only [Bool.or_eq_false_iff, Bool.not_eq_false', decide_eq_false_iff_not] at h39
    refine Aw_skip (Aw_seq (Aw_region ?_))
    refine Al_p Pu_mvl ?_
    refine Al_p (Pu_conv rfl Try.underlying42 Try.underlying3 rfl (fun hv => i64_nat (by simp only [vok, A.inI] at *; omega))) ?_
    refine Al_p Pu_mvl ?_
    refine Al_p (Pu_conv rfl Try.underlying42 Try.underlying3 rfl (fun hv => i64_nat (by simp only [vok, A.inI] at *; omega))) ?_
    refine Al_p (Pu_build (aa := [(0, _), (1, _)]) rfl Try.underlying34 Try.zeroValue34 (places34 Try.underlying34) (by kernel_rfl) ⟨rfl, rfl, rfl, rfl, rfl, rfl, trivial⟩ rfl) ?_
    refine Al_storeN rfl rfl rfl (by kernel_rfl) Try.isAgg34 Try.sizeOf34 rfl rfl rfl rfl (Nat.le_of_ble_eq_true rfl) ?_
    refine Al_nil (Aw_seq (Aw_seq (Aw_region ?_)))
    refine Al_p (Pu_loadbN (r := [_, _]) rfl Try.isAgg34 Try.sizeOf34 rfl rfl rfl rfl) ?_
    refine Al_p (Pu_call (stcheck_a _ _) rfl ⟨Sub.rfl, trivial⟩) ?_
    refine Al_p (Pu_not rfl rfl) ?_
    refine Al_nil ?_
    refine Aw_cond rfl (fun h48 => ?_) (fun h48 => ?_)
    · (try simp only [decide_eq_true_eq, decide_eq_false_iff_not, Bool.and_eq_true, Bool.or_eq_true, Bool.and_eq_false_iff, Bool.or_eq_false_iff, Bool.not_eq_true', Bool.not_eq_false', beq_iff_eq, Bool.not_eq_eq_eq_not, Bool.not_true, Bool.not_false, List.length_map, Bool.and_true, Bool.and_false, Bool.false_and, Bool.true_and, Bool.or_false, Bool.false_or] at h48)
      obtain ⟨e1, e2, e3, e4⟩ := V.st_no (s := s) (at_ := at_) (fun c1 c2 => h48)
      refine Aw_seq (Aw_region ?_)
      refine Al_p (Pu_build (aa := []) rfl Try.underlying34 Try.zeroValue34 (places34 Try.underlying34) (by kernel_rfl) trivial rfl) ?_
      refine Al_storeN rfl rfl rfl (by kernel_rfl) Try.isAgg34 Try.sizeOf34 rfl rfl rfl rfl (Nat.le_of_ble_eq_true rfl) ?_
      refine Al_p Pu_mvr ?_
      refine Al_p Pu_mvr ?_
      refine Al_nil ?_
      refine Aw_ret ?_
      exact ⟨_, _, _, _, _, [_, _], iv (V.stEn s at_), bv (V.stB s at_), rfl, rfl, rfl, rfl, Sub.num (by rw [e3]; rfl), Sub.bool (by rw [e4]), by rw [e1, e2]; rfl⟩ -- ret 1
    · (try simp only [decide_eq_true_eq, decide_eq_false_iff_not, Bool.and_eq_true, Bool.or_eq_true, Bool.and_eq_false_iff, Bool.or_eq_false_iff, Bool.not_eq_true', Bool.not_eq_false', beq_iff_eq, Bool.not_eq_eq_eq_not, Bool.not_true, Bool.not_false, List.length_map, Bool.and_true, Bool.and_false, Bool.false_and, Bool.true_and, Bool.or_false, Bool.false_or] at h48)
      obtain ⟨e1, e2, e3, e4⟩ := V.st_yes (s := s) (at_ := at_) h39.1.1.1 h39.1.1.2 h48
      refine Aw_skip (Aw_seq (Aw_region ?_))
      refine Al_p (Pu_loadbN (r := [_, _]) rfl Try.isAgg34 Try.sizeOf34 rfl rfl rfl rfl) ?_
      refine Al_p Pu_mvl ?_
      refine Al_storeN rfl rfl rfl (by kernel_rfl) Try.isAgg34 Try.sizeOf34 rfl rfl rfl rfl (Nat.le_of_ble_eq_true rfl) ?_
      refine Al_p Pu_mvr ?_
      refine Al_p Pu_mvr ?_
      refine Al_nil ?_
      refine Aw_ret ?_
      exact ⟨_, _, _, _, _, [_, _], iv (V.stEn s at_), bv (V.stB s at_), rfl, rfl, rfl, rfl, Sub.num (by rw [e3]), Sub.bool (by rw [e4]), by rw [e1, e2]⟩ -- ret 2
set_option maxRecDepth 100000 in
theorem rstread_a (s : ByteArray) (at_ : Nat) (hs : s.size ≤ 1000000) (ha : at_ ≤ s.size) : ACall Try.prog 43 [tv s, iv at_] (.row [iv (V.stN s at_), iv (V.stI s at_), iv (V.stEn s at_)]) := by
  refine ACall_enterG (fun _ _ => by kernel_rfl) Try.func43 rfl Try.ntmps43 (Reads.cN Try.results43 Try.isAgg78 Try.sizeOf78) (Nat.le_of_ble_eq_true rfl) (fun hok M0 w0 hnl => ?_)
  refine Aw_seq (Aw_region ?_)
  refine Al_alloc rfl rfl rfl (by decide) Try.zeroValue78 rfl (by kernel_rfl) (fun g4 => ?_)
  refine Al_nil (Aw_seq (Aw_region ?_))
  refine Al_p Pu_mvl ?_
  refine Al_p Pu_mvl ?_
  refine Al_p (Pu_call (rread_a s at_ hs ha) rfl ⟨Sub.rfl, Sub.rfl, trivial⟩) ?_
  refine Al_alloc rfl rfl rfl (by decide) Try.zeroValue72 rfl (by kernel_rfl) (fun g5 => ?_)
  refine Al_storeN rfl rfl rfl (by kernel_rfl) Try.isAgg72 Try.sizeOf72 rfl rfl rfl rfl (Nat.le_of_ble_eq_true rfl) ?_
  refine Al_nil (Aw_seq (Aw_seq (Aw_region ?_)))
  refine Al_p (Pu_fieldb 1 rfl Try.underlying72 rfl rfl Try.sizeOf3 rfl) ?_
  refine Al_p (Pu_loadb rfl Try.isAgg3 rfl rfl rfl) ?_
  refine Al_p (Pu_cmp rfl rfl rfl rfl) ?_
  refine Al_nil ?_
  refine Aw_cond rfl (fun h14 => ?_) (fun h14 => ?_)
  · (try simp only [decide_eq_true_eq, decide_eq_false_iff_not, Bool.and_eq_true, Bool.or_eq_true, Bool.and_eq_false_iff, Bool.or_eq_false_iff, Bool.not_eq_true', Bool.not_eq_false', beq_iff_eq, Bool.not_eq_eq_eq_not, Bool.not_true, Bool.not_false, List.length_map, Bool.and_true, Bool.and_false, Bool.false_and, Bool.true_and, Bool.or_false, Bool.false_or] at h14)
    have e0 := V.gotE0 (s := s) (at_ := at_) (by omega)
    obtain ⟨e1, e2, e3, e4⟩ := V.st_no (s := s) (at_ := at_) (fun c1 _ => by rw [e0] at c1; cases c1)
    refine Aw_seq (Aw_region ?_)
    refine Al_p (Pu_build (aa := []) rfl Try.underlying78 Try.zeroValue78 (places78 Try.underlying78) (by kernel_rfl) trivial rfl) ?_
    refine Al_storeN rfl rfl rfl (by kernel_rfl) Try.isAgg78 Try.sizeOf78 rfl rfl rfl rfl (Nat.le_of_ble_eq_true rfl) ?_
    refine Al_nil ?_
    refine Aw_ret ?_
    exact ⟨_, _, _, _, _, [_, _, _], rfl, rfl, rfl, rfl, by rw [e1, e2, e3]; rfl⟩ -- ret 0
  · (try simp only [decide_eq_true_eq, decide_eq_false_iff_not, Bool.and_eq_true, Bool.or_eq_true, Bool.and_eq_false_iff, Bool.or_eq_false_iff, Bool.not_eq_true', Bool.not_eq_false', beq_iff_eq, Bool.not_eq_eq_eq_not, Bool.not_true, Bool.not_false, List.length_map, Bool.and_true, Bool.and_false, Bool.false_and, Bool.true_and, Bool.or_false, Bool.false_or] at h14)
    have e0 := V.gotE1 (s := s) (at_ := at_) (by omega)
    refine Aw_skip (Aw_seq (Aw_region ?_))
    refine Al_p Pu_mvl ?_
    refine Al_p (Pu_fieldb 1 rfl Try.underlying72 rfl rfl Try.sizeOf3 rfl) ?_
    refine Al_p (Pu_loadb rfl Try.isAgg3 rfl rfl rfl) ?_
    refine Al_p (Pu_call (rread_a s (V.gotE s at_) hs (V.gotE_le s at_)) rfl ⟨Sub.rfl, Sub.rfl, trivial⟩) ?_
    refine Al_alloc rfl rfl rfl (by decide) Try.zeroValue72 rfl (by kernel_rfl) (fun g6 => ?_)
    refine Al_storeN rfl rfl rfl (by kernel_rfl) Try.isAgg72 Try.sizeOf72 rfl rfl rfl rfl (Nat.le_of_ble_eq_true rfl) ?_
    refine Al_nil (Aw_seq (Aw_seq (Aw_region ?_)))
    refine Al_p (Pu_fieldb 1 rfl Try.underlying72 rfl rfl Try.sizeOf3 rfl) ?_
    refine Al_p (Pu_loadb rfl Try.isAgg3 rfl rfl rfl) ?_
    refine Al_p (Pu_cmp rfl rfl rfl rfl) ?_
    refine Al_p Pu_mvl ?_
    refine Al_st (St_gd [] rfl rfl rfl rfl trivial (fun hg24 => Pu_fieldb 0 rfl Try.underlying72 rfl rfl Try.sizeOf42 rfl)) rfl (by decide) (by kernel_rfl) (by intro j b oj dj h1 h2 h3; cases h1; cases h2; cases h3; decide) ?_
    refine Al_st (St_gd [24] rfl rfl rfl rfl ⟨⟨_, rfl⟩, trivial⟩ (fun hg25 => Pu_loadb rfl Try.isAgg42 rfl rfl rfl)) rfl (by decide) (by kernel_rfl) (by intro j b oj dj h1 h2 h3; cases h1; cases h2; cases h3; decide) ?_
    refine Al_st (St_gd [25] rfl rfl rfl rfl ⟨⟨_, rfl⟩, trivial⟩ (fun hg26 => Pu_cmp rfl rfl rfl rfl)) rfl (by decide) (by kernel_rfl) (by intro j b oj dj h1 h2 h3; cases h1; cases h2; cases h3; decide) ?_
    refine Al_p (Pu_or rfl rfl rfl rfl) ?_
    refine Al_p Pu_mvl ?_
    refine Al_st (St_gd [] rfl rfl rfl rfl trivial (fun hg29 => Pu_fieldb 0 rfl Try.underlying72 rfl rfl Try.sizeOf42 rfl)) rfl (by decide) (by kernel_rfl) (by intro j b oj dj h1 h2 h3; cases h1; cases h2; cases h3; decide) ?_
    refine Al_st (St_gd [29] rfl rfl rfl rfl ⟨⟨_, rfl⟩, trivial⟩ (fun hg30 => Pu_loadb rfl Try.isAgg42 rfl rfl rfl)) rfl (by decide) (by kernel_rfl) (by intro j b oj dj h1 h2 h3; cases h1; cases h2; cases h3; decide) ?_
    refine Al_st (St_gd [30] rfl rfl rfl rfl ⟨⟨_, rfl⟩, trivial⟩ (fun hg31 => Pu_cmp rfl rfl rfl rfl)) rfl (by decide) (by kernel_rfl) (by intro j b oj dj h1 h2 h3; cases h1; cases h2; cases h3; decide) ?_
    refine Al_p (Pu_or rfl rfl rfl rfl) ?_
    refine Al_nil ?_
    refine Aw_cond rfl (fun h32 => ?_) (fun h32 => ?_)
    · skip
      obtain ⟨e1, e2, e3, e4⟩ := V.st_no (s := s) (at_ := at_) (fun c1 c2 => by
        cases hb : V.stampB (V.gotN s at_ : Nat) (V.gotN s (V.gotE s at_) : Nat) with
        | false => rfl
        | true =>
          have h1 := V.stampB_iff.1 hb
          simp only [Bool.or_eq_true, decide_eq_true_eq] at h32
          rcases h32 with (h32 | h32) | h32
          · have := V.gotE0 (s := s) (at_ := V.gotE s at_) (by omega)
            rw [c2] at this; cases this
          · omega
          · omega)
      refine Aw_seq (Aw_region ?_)
      refine Al_p (Pu_build (aa := []) rfl Try.underlying78 Try.zeroValue78 (places78 Try.underlying78) (by kernel_rfl) trivial rfl) ?_
      refine Al_storeN rfl rfl rfl (by kernel_rfl) Try.isAgg78 Try.sizeOf78 rfl rfl rfl rfl (Nat.le_of_ble_eq_true rfl) ?_
      refine Al_nil ?_
      refine Aw_ret ?_
      exact ⟨_, _, _, _, _, [_, _, _], rfl, rfl, rfl, rfl, by rw [e1, e2, e3]; rfl⟩ -- ret 1
    · skip
      simp only [Bool.or_eq_false_iff, decide_eq_false_iff_not] at h32
      have e5 := V.gotE1 (s := s) (at_ := V.gotE s at_) (by omega)
      refine Aw_skip (Aw_seq (Aw_region ?_))
      refine Al_p (Pu_fieldb 0 rfl Try.underlying72 rfl rfl Try.sizeOf42 rfl) ?_
      refine Al_p (Pu_loadb rfl Try.isAgg42 rfl rfl rfl) ?_
      refine Al_p (Pu_conv rfl Try.underlying42 Try.underlying3 rfl (fun hv => i64_nat (by simp only [A.inI]; omega))) ?_
      refine Al_p (Pu_fieldb 0 rfl Try.underlying72 rfl rfl Try.sizeOf42 rfl) ?_
      refine Al_p (Pu_loadb rfl Try.isAgg42 rfl rfl rfl) ?_
      refine Al_p (Pu_conv rfl Try.underlying42 Try.underlying3 rfl (fun hv => i64_nat (by simp only [A.inI]; omega))) ?_
      refine Al_p (Pu_build (aa := [(0, _), (1, _)]) rfl Try.underlying34 Try.zeroValue34 (places34 Try.underlying34) (by kernel_rfl) ⟨rfl, rfl, rfl, rfl, rfl, rfl, trivial⟩ rfl) ?_
      refine Al_alloc rfl rfl rfl (by decide) Try.zeroValue34 rfl (by kernel_rfl) (fun g7 => ?_)
      refine Al_storeN rfl rfl rfl (by kernel_rfl) Try.isAgg34 Try.sizeOf34 rfl rfl rfl rfl (Nat.le_of_ble_eq_true rfl) ?_
      refine Al_nil (Aw_seq (Aw_region ?_))
      refine Al_p (Pu_loadbN (r := [_, _]) rfl Try.isAgg34 Try.sizeOf34 rfl rfl rfl rfl) ?_
      refine Al_p (Pu_call (rstcheck_a _ _) rfl ⟨Sub.rfl, trivial⟩) ?_
      refine Al_p Pu_mvr ?_
      refine Al_nil (Aw_seq (Aw_seq (Aw_region ?_)))
      refine Al_p Pu_mvl ?_
      refine Al_p (Pu_not rfl rfl) ?_
      refine Al_nil ?_
      refine Aw_cond rfl (fun h44 => ?_) (fun h44 => ?_)
      · (try simp only [decide_eq_true_eq, decide_eq_false_iff_not, Bool.and_eq_true, Bool.or_eq_true, Bool.and_eq_false_iff, Bool.or_eq_false_iff, Bool.not_eq_true', Bool.not_eq_false', beq_iff_eq, Bool.not_eq_eq_eq_not, Bool.not_true, Bool.not_false, List.length_map, Bool.and_true, Bool.and_false, Bool.false_and, Bool.true_and, Bool.or_false, Bool.false_or] at h44)
        obtain ⟨e1, e2, e3, e4⟩ := V.st_no (s := s) (at_ := at_) (fun _ _ => h44)
        refine Aw_seq (Aw_region ?_)
        refine Al_p (Pu_build (aa := []) rfl Try.underlying78 Try.zeroValue78 (places78 Try.underlying78) (by kernel_rfl) trivial rfl) ?_
        refine Al_storeN rfl rfl rfl (by kernel_rfl) Try.isAgg78 Try.sizeOf78 rfl rfl rfl rfl (Nat.le_of_ble_eq_true rfl) ?_
        refine Al_nil ?_
        refine Aw_ret ?_
        exact ⟨_, _, _, _, _, [_, _, _], rfl, rfl, rfl, rfl, by rw [e1, e2, e3]; rfl⟩ -- ret 2
      · (try simp only [decide_eq_true_eq, decide_eq_false_iff_not, Bool.and_eq_true, Bool.or_eq_true, Bool.and_eq_false_iff, Bool.or_eq_false_iff, Bool.not_eq_true', Bool.not_eq_false', beq_iff_eq, Bool.not_eq_eq_eq_not, Bool.not_true, Bool.not_false, List.length_map, Bool.and_true, Bool.and_false, Bool.false_and, Bool.true_and, Bool.or_false, Bool.false_or] at h44)
        obtain ⟨e1, e2, e3, e4⟩ := V.st_yes (s := s) (at_ := at_) e0 e5 h44
        refine Aw_skip (Aw_seq (Aw_region ?_))
        refine Al_p (Pu_loadbN (r := [_, _]) rfl Try.isAgg34 Try.sizeOf34 rfl rfl rfl rfl) ?_
        refine Al_p (Pu_fieldb 1 rfl Try.underlying72 rfl rfl Try.sizeOf3 rfl) ?_
        refine Al_p (Pu_loadb rfl Try.isAgg3 rfl rfl rfl) ?_
        refine Al_p (Pu_build (aa := [(0, _), (1, _)]) rfl Try.underlying78 Try.zeroValue78 (places78 Try.underlying78) (by kernel_rfl) ⟨rfl, rfl, rfl, rfl, rfl, rfl, trivial⟩ rfl) ?_
        refine Al_storeN rfl rfl rfl (by kernel_rfl) Try.isAgg78 Try.sizeOf78 rfl rfl rfl rfl (Nat.le_of_ble_eq_true rfl) ?_
        refine Al_nil ?_
        refine Aw_ret ?_
        exact ⟨_, _, _, _, _, [_, _, _], rfl, rfl, rfl, rfl, by rw [e1, e2, e3]⟩ -- ret 3
end Go.Proofs.Ytlcahhlghjbnkaa
end

section
namespace Go.Proofs.Ytlcahhlghjbnkaa
open Go.RowKit A R
namespace L
/-- A dep put by its key; the keys rise. -/
def setD : List Dep → Dep → List Dep
  | [], d => [d]
  | x :: r, d => if x.key = d.key then d :: r else if Op.bytesLess d.key.toList x.key.toList then d :: x :: r else x :: setD r d
def delD (l : List Dep) (k : ByteArray) : List Dep := l.filter fun x => !decide (x.key = k)
def kmap (l : List Dep) (c : ByteArray) : Option (Int × Int) := (l.find? fun x => decide (x.key = c)).map fun x => (x.n, x.s)
theorem kmap_cons (x : Dep) (r : List Dep) (c : ByteArray) : kmap (x :: r) c = if x.key = c then some (x.n, x.s) else kmap r c := by
  unfold kmap
  rw [List.find?_cons]
  by_cases h : x.key = c <;> simp [h]
theorem kmap_set : ∀ (l : List Dep) (d : Dep) (c : ByteArray), kmap (setD l d) c = if c = d.key then some (d.n, d.s) else kmap l c
  | [], d, c => by
    rw [setD, kmap_cons]
    by_cases h : c = d.key
    · rw [if_pos h.symm, if_pos h]
    · rw [if_neg (Ne.symm h), if_neg h]
  | x :: r, d, c => by
    rw [setD]
    split
    · rename_i h
      rw [kmap_cons, kmap_cons, h]
      by_cases h2 : c = d.key
      · rw [if_pos h2.symm, if_pos h2]
      · rw [if_neg (Ne.symm h2), if_neg h2, if_neg (Ne.symm h2)]
    · rename_i h
      split
      · rw [kmap_cons]
        by_cases h2 : c = d.key
        · rw [if_pos h2.symm, if_pos h2]
        · rw [if_neg (Ne.symm h2), if_neg h2]
      · rw [kmap_cons, kmap_set r d c, kmap_cons]
        by_cases h2 : c = d.key
        · subst h2; rw [if_neg h, if_pos rfl, if_pos rfl]
        · rw [if_neg h2, if_neg h2]
theorem kmap_del (k c : ByteArray) : ∀ l : List Dep, kmap (delD l k) c = if c = k then none else kmap l c
  | [] => by simp [delD, kmap]
  | x :: r => by
    have ih := kmap_del k c r
    by_cases h : x.key = k
    · have e : delD (x :: r) k = delD r k := by simp [delD, h]
      rw [e, ih, kmap_cons]
      by_cases h2 : c = k
      · rw [if_pos h2, if_pos h2]
      · rw [if_neg h2, if_neg h2, if_neg (fun e => h2 (by rw [← e, h]))]
    · have e : delD (x :: r) k = x :: delD r k := by simp [delD, h]
      rw [e, kmap_cons, ih, kmap_cons]
      by_cases h2 : c = k
      · subst h2; rw [if_neg h, if_pos rfl, if_pos rfl]
      · rw [if_neg h2, if_neg h2]
theorem set_mem : ∀ (l : List Dep) (d x : Dep), x ∈ setD l d → x = d ∨ x ∈ l
  | [], d, x, h => by simpa [setD] using h
  | y :: r, d, x, h => by
    rw [setD] at h
    split at h
    · rcases List.mem_cons.1 h with h | h
      · exact .inl h
      · exact .inr (List.mem_cons_of_mem _ h)
    · split at h
      · rcases List.mem_cons.1 h with h | h
        · exact .inl h
        · exact .inr h
      · rcases List.mem_cons.1 h with h | h
        · exact .inr (by rw [h]; exact List.mem_cons_self ..)
        · rcases set_mem r d x h with h | h
          · exact .inl h
          · exact .inr (List.mem_cons_of_mem _ h)
theorem set_len : ∀ (l : List Dep) (d : Dep), (setD l d).length ≤ l.length + 1
  | [], d => by simp [setD]
  | y :: r, d => by
    rw [setD]
    have := set_len r d
    split
    · simp
    · split
      · simp
      · simp; omega
theorem set_srt : ∀ (l : List Dep) (d : Dep), D.Srt l → D.Srt (setD l d)
  | [], d, _ => List.pairwise_singleton ..
  | y :: r, d, h => by
    have hc := List.pairwise_cons.1 h
    rw [setD]
    split
    · rename_i he
      exact List.pairwise_cons.2 ⟨fun z hz => by rw [← he]; exact hc.1 z hz, hc.2⟩
    · rename_i he
      split
      · rename_i hl
        refine List.pairwise_cons.2 ⟨fun z hz => ?_, h⟩
        rcases List.mem_cons.1 hz with rfl | hz
        · exact hl
        · exact K.bl_trans _ _ _ hl (hc.1 z hz)
      · rename_i hl
        refine List.pairwise_cons.2 ⟨fun z hz => ?_, set_srt r d hc.2⟩
        rcases set_mem r d z hz with rfl | hz
        · cases hb : Op.bytesLess y.key.toList z.key.toList with
          | true => rfl
          | false =>
            have := K.bl_tri _ _ hb (by simpa using hl)
            exact (he (V.toList_eq (by rw [this]; simp))).elim
        · exact hc.1 z hz
theorem del_srt {l : List Dep} (k : ByteArray) (h : D.Srt l) : D.Srt (delD l k) := h.filter _
theorem kmap_none {l : List Dep} {c : ByteArray} (h : ∀ x ∈ l, x.key ≠ c) : kmap l c = none := by
  unfold kmap
  rw [Option.map_eq_none_iff, List.find?_eq_none]
  exact fun x hx => by simpa using h x hx
theorem kmap_some {l : List Dep} {c : ByteArray} {v : Int × Int} (h : kmap l c = some v) : ∃ x ∈ l, x.key = c ∧ v = (x.n, x.s) := by
  unfold kmap at h
  obtain ⟨x, hx, rfl⟩ := Option.map_eq_some_iff.1 h
  exact ⟨x, List.mem_of_find?_eq_some hx, by simpa using List.find?_some hx, rfl⟩
theorem srt_lt {x : Dep} {r : List Dep} (h : D.Srt (x :: r)) : ∀ y ∈ r, y.key ≠ x.key := fun y hy e => by
  have := (List.pairwise_cons.1 h).1 y hy
  rw [e, K.bl_irrefl] at this; cases this
theorem kmap_mem : ∀ {l : List Dep}, D.Srt l → ∀ x ∈ l, kmap l x.key = some (x.n, x.s)
  | y :: r, h, x, hx => by
    rw [kmap_cons]
    rcases List.mem_cons.1 hx with rfl | hx
    · rw [if_pos rfl]
    · rw [if_neg (fun e => srt_lt h x hx e.symm)]
      exact kmap_mem (List.pairwise_cons.1 h).2 x hx
theorem kmap_isSome {l : List Dep} {c : ByteArray} : (kmap l c).isSome = true ↔ c ∈ l.map (·.key) := by
  rw [List.mem_map]
  constructor
  · intro h
    obtain ⟨v, hv⟩ := Option.isSome_iff_exists.1 h
    obtain ⟨x, hx, hk, _⟩ := kmap_some hv
    exact ⟨x, hx, hk⟩
  · rintro ⟨x, hx, rfl⟩
    cases h : kmap l x.key with
    | some v => rfl
    | none =>
      unfold kmap at h
      rw [Option.map_eq_none_iff, List.find?_eq_none] at h
      have := h x hx
      simp at this
theorem kmap_ext : ∀ {l m : List Dep}, D.Srt l → D.Srt m → (∀ c, kmap l c = kmap m c) → l = m
  | [], [], _, _, _ => rfl
  | [], y :: t, _, _, h => by have := h y.key; rw [kmap_cons, if_pos rfl] at this; cases this
  | x :: r, [], _, _, h => by have := h x.key; rw [kmap_cons, if_pos rfl] at this; cases this
  | x :: r, y :: t, hl, hm, h => by
    have low : ∀ {a : Dep} {b : Dep} {u : List Dep}, D.Srt (b :: u) → Op.bytesLess a.key.toList b.key.toList = true → kmap (b :: u) a.key = none := fun {a b u} hs hab => by
      refine kmap_none fun z hz e => ?_
      have hb : Op.bytesLess a.key.toList z.key.toList = true := by
        rcases List.mem_cons.1 hz with rfl | hz
        · exact hab
        · exact K.bl_trans _ _ _ hab ((List.pairwise_cons.1 hs).1 z hz)
      rw [e, K.bl_irrefl] at hb; cases hb
    have hk : x.key = y.key := by
      cases h1 : Op.bytesLess x.key.toList y.key.toList with
      | true =>
        have := h x.key
        rw [low hm h1, kmap_cons, if_pos rfl] at this; cases this
      | false =>
        cases h2 : Op.bytesLess y.key.toList x.key.toList with
        | true =>
          have := h y.key
          rw [low hl h2, kmap_cons, if_pos rfl] at this; cases this
        | false => exact V.toList_eq (by rw [K.bl_tri _ _ h1 h2]; simp)
    have hv := h x.key
    rw [kmap_cons, if_pos rfl, kmap_cons, if_pos hk.symm] at hv
    have hxy : x = y := by
      cases x; cases y
      simp at hk hv
      simp [hk, hv]
    subst hxy
    rw [kmap_ext (List.pairwise_cons.1 hl).2 (List.pairwise_cons.1 hm).2 fun c => ?_]
    by_cases hc : x.key = c
    · subst hc
      rw [kmap_none (srt_lt hl), kmap_none (srt_lt hm)]
    · have := h c
      rwa [kmap_cons, if_neg hc, kmap_cons, if_neg hc] at this
theorem sets_kmap : ∀ (ds l : List Dep) (c : ByteArray), D.Srt ds → kmap (ds.foldl setD l) c = (kmap ds c).or (kmap l c)
  | [], l, c, _ => rfl
  | x :: r, l, c, h => by
    rw [List.foldl_cons, sets_kmap r _ c (List.pairwise_cons.1 h).2, kmap_set, kmap_cons]
    by_cases hc : c = x.key
    · subst hc
      rw [if_pos rfl, if_pos rfl, kmap_none (srt_lt h)]; rfl
    · rw [if_neg hc, if_neg (Ne.symm hc)]
theorem dels_out : ∀ (ks : List ByteArray) (l : List Dep) (c : ByteArray), c ∉ ks → kmap (ks.foldl delD l) c = kmap l c
  | [], l, c, _ => rfl
  | k :: r, l, c, h => by
    rw [List.foldl_cons, dels_out r _ c (fun hc => h (List.mem_cons_of_mem _ hc)), kmap_del, if_neg (fun e => h (by rw [e]; exact List.mem_cons_self ..))]
theorem dels_none : ∀ (ks : List ByteArray) (l : List Dep) (c : ByteArray), kmap l c = none → kmap (ks.foldl delD l) c = none
  | [], l, c, h => h
  | k :: r, l, c, h => by
    rw [List.foldl_cons]
    refine dels_none r _ c ?_
    rw [kmap_del, h]
    split <;> rfl
theorem dels_in : ∀ (ks : List ByteArray) (l : List Dep) (c : ByteArray), c ∈ ks → kmap (ks.foldl delD l) c = none
  | k :: r, l, c, h => by
    rw [List.foldl_cons]
    rcases List.mem_cons.1 h with rfl | h
    · exact dels_none r _ c (by rw [kmap_del, if_pos rfl])
    · exact dels_in r _ c h
theorem sets_srt : ∀ (ds l : List Dep), D.Srt l → D.Srt (ds.foldl setD l)
  | [], _, h => h
  | x :: r, l, h => sets_srt r _ (set_srt l x h)
theorem dels_srt : ∀ (ks : List ByteArray) (l : List Dep), D.Srt l → D.Srt (ks.foldl delD l)
  | [], _, h => h
  | k :: r, l, h => dels_srt r _ (del_srt k h)
theorem sets_len : ∀ (ds l : List Dep), (ds.foldl setD l).length ≤ l.length + ds.length
  | [], _ => by simp
  | x :: r, l => by
    have h1 := sets_len r (setD l x)
    have h2 := set_len l x
    rw [List.foldl_cons]; simp; omega
theorem dels_len : ∀ (ks : List ByteArray) (l : List Dep), (ks.foldl delD l).length ≤ l.length
  | [], _ => Nat.le_refl _
  | k :: r, l => Nat.le_trans (dels_len r (delD l k)) (List.length_filter_le _ _)
theorem sets_mem : ∀ (ds l : List Dep) (x : Dep), x ∈ ds.foldl setD l → x ∈ ds ∨ x ∈ l
  | [], _, _, h => .inr h
  | y :: r, l, x, h => by
    rcases sets_mem r _ x h with h | h
    · exact .inl (List.mem_cons_of_mem _ h)
    · rcases set_mem l y x h with rfl | h
      · exact .inl (List.mem_cons_self ..)
      · exact .inr h
theorem dels_mem : ∀ (ks : List ByteArray) (l : List Dep) (x : Dep), x ∈ ks.foldl delD l → x ∈ l
  | [], _, _, h => h
  | k :: r, l, x, h => (List.mem_filter.1 (dels_mem r _ x h)).1
theorem seen_srt : ∀ (l : List Dep) (p : Option ByteArray), seenF p l = true → D.Srt l
  | [], _, _ => List.Pairwise.nil
  | d :: l, p, h => by
    rw [seenF, Bool.and_eq_true, Bool.and_eq_true] at h
    exact List.pairwise_cons.2 ⟨seen_above l d.key h.2.2, seen_srt l _ h.2.2⟩
theorem hasD_iff {l : List Dep} {d : Dep} : hasD l d = true ↔ d ∈ l := by
  unfold hasD
  rw [List.any_eq_true]
  exact ⟨fun ⟨x, hx, e⟩ => by rw [← of_decide_eq_true e]; exact hx, fun h => ⟨d, h, decide_eq_true rfl⟩⟩
theorem keyB_iff {l : List Dep} {k : ByteArray} : keyB l k = true ↔ ∃ x ∈ l, x.key = k := by
  unfold keyB
  rw [List.any_eq_true]
  exact ⟨fun ⟨x, hx, e⟩ => ⟨x, hx, V.toList_eq e⟩, fun ⟨x, hx, e⟩ => ⟨x, hx, by rw [e]; simp⟩⟩
/-- What an event had seen, from that of the one ahead. -/
theorem seen_back (e : Event) (ahead : List Dep) (hs : D.Srt e.seen) (ha : D.Srt ahead) : ((rless e ahead).map (·.key)).foldl delD ((rmore e ahead).foldl setD ahead) = e.seen := by
  have hm : D.Srt (rmore e ahead) := hs.filter _
  refine kmap_ext (dels_srt _ _ (sets_srt _ _ ha)) hs fun c => ?_
  cases hv : kmap e.seen c with
  | some v =>
    obtain ⟨d, hd, rfl, rfl⟩ := kmap_some hv
    rw [dels_out _ _ _ (fun hc => by
      obtain ⟨x, hx, hk⟩ := List.mem_map.1 hc
      have h1 := (List.mem_filter.1 hx).2
      rw [hk, (keyB_iff (l := e.seen)).2 ⟨d, hd, rfl⟩] at h1; cases h1), sets_kmap _ _ _ hm]
    cases hb : hasD ahead d with
    | false =>
      rw [kmap_mem hm d (List.mem_filter.2 ⟨hd, by rw [hb]; rfl⟩)]; rfl
    | true =>
      cases hr : kmap (rmore e ahead) d.key with
      | some u =>
        obtain ⟨y, hy, hyk, rfl⟩ := kmap_some hr
        have h1 := kmap_mem hs y (List.mem_filter.1 hy).1
        rw [hyk, hv] at h1
        rw [h1]; rfl
      | none => rw [kmap_mem ha d (hasD_iff.1 hb)]; rfl
  | none =>
    have hno : ∀ x ∈ e.seen, x.key ≠ c := fun x hx e1 => by
      have h1 := kmap_mem hs x hx
      rw [e1, hv] at h1; cases h1
    cases hr : kmap ahead c with
    | none => exact dels_none _ _ _ (by rw [sets_kmap _ _ _ hm, kmap_none (l := rmore e ahead) fun x hx => hno x (List.mem_filter.1 hx).1, hr]; rfl)
    | some u =>
      obtain ⟨y, hy, hyk, rfl⟩ := kmap_some hr
      refine dels_in _ _ _ (List.mem_map.2 ⟨y, List.mem_filter.2 ⟨hy, ?_⟩, hyk⟩)
      cases hb : keyB e.seen y.key with
      | false => rfl
      | true =>
        obtain ⟨x, hx, hxk⟩ := keyB_iff.1 hb
        exact (hno x hx (by rw [hxk, hyk])).elim
/-- What a reader finds. -/
def pdep (r : List UInt8) : Option (Dep × List UInt8) := match V.ptext 32 r with
  | none => none
  | some (k, t) => match V.pst t with
    | none => none
    | some ((n, i), u) => some (⟨V.ba k, n, i⟩, u)
def pst1 (f : Nat) (r : List UInt8) : Option ((Nat × Nat) × List UInt8) := if f = 1 then V.pst r else some ((0, 0), r)
def pevent (last : Int → List Dep) (r : List UInt8) : Option (Event × List UInt8) := match V.pnum 2 r with
  | none => none
  | some (k, r1) => match V.pnum 1000 r1 with
    | none => none
    | some (c, r2) => match V.ptext 32 r2 with
      | none => none
      | some (key, r3) => match V.pnum 1 r3 with
        | none => none
        | some (f, r4) => match pst1 f r4 with
          | none => none
          | some ((n, i), r5) => match V.pnum 64 r5 with
            | none => none
            | some (a, r6) => match V.pmany pdep a r6 with
              | none => none
              | some (ds, r7) => match V.pnum 64 r7 with
                | none => none
                | some (b, r8) => match V.pmany (V.ptext 32) b r8 with
                  | none => none
                  | some (ks, r9) => some (⟨k, c, V.ba key, n, i, (ks.map V.ba).foldl delD (ds.foldl setD (last c))⟩, r9)
def pevents : Nat → List UInt8 → Option (List Event × List UInt8)
  | 0, r => some ([], r)
  | k + 1, r => match pevents k r with
    | none => none
    | some (es, t) => match pevent (lastM (fun _ => []) es) t with
      | none => none
      | some (e, u) => some (es ++ [e], u)
def pread (l : List UInt8) : Option (List Event) := match V.pnum 4096 l with
  | none => none
  | some (n, r) => match pevents n r with
    | none => none
    | some (es, _) => some es
def readL (l : List UInt8) : Option (List Event) := match pread l with
  | none => none
  | some es => if bytes es = l then some es else none
theorem pnum_num {n most : Nat} (h : n ≤ most) (hm : most < 18446744073709551616) (t : List UInt8) : V.pnum most (V.num n ++ t) = some (n, t) := (V.pnum_iff hm).2 ⟨h, rfl⟩
theorem ptext_text {k : ByteArray} (h : k.size ≤ 32) (t : List UInt8) : V.ptext 32 (V.text k ++ t) = some (k.data.toList, t) := (V.ptext_iff (by omega)).2 ⟨by rw [Array.length_toList]; exact h, by rw [V.ba_data]⟩
theorem pst_stamp {n s : Int} (h : V.stampB n s = true) (t : List UInt8) : V.pst (V.stamp n s ++ t) = some ((n.toNat, s.toNat), t) := by
  have h1 := V.stampB_iff.1 h
  refine V.pst_iff.2 ⟨by omega, ?_⟩
  unfold V.stamp
  rw [if_pos h, List.append_assoc]
theorem pdeps_back : ∀ (ds : List Dep) (t : List UInt8), (∀ d ∈ ds, d.key.size ≤ 32 ∧ V.stampB d.n d.s = true) → V.pmany pdep ds.length (ds.flatMap depBytes ++ t) = some (ds, t)
  | [], t, _ => rfl
  | d :: r, t, h => by
    obtain ⟨h1, h2⟩ := h d (List.mem_cons_self ..)
    have h3 := V.stampB_iff.1 h2
    have ih := pdeps_back r t fun x hx => h x (List.mem_cons_of_mem _ hx)
    rw [List.flatMap_cons, depBytes, List.append_assoc, List.append_assoc, List.length_cons, V.pmany]
    have hp : pdep (V.text d.key ++ (V.stamp d.n d.s ++ (r.flatMap depBytes ++ t))) = some (d, r.flatMap depBytes ++ t) := by
      unfold pdep
      rw [ptext_text h1]; simp only
      rw [pst_stamp h2]; simp only
      rw [V.ba_data, Int.toNat_of_nonneg (by omega), Int.toNat_of_nonneg (by omega)]
    rw [hp]; simp only
    rw [ih]
theorem pkeys_back : ∀ (ds : List Dep) (t : List UInt8), (∀ d ∈ ds, d.key.size ≤ 32) → V.pmany (V.ptext 32) ds.length ((ds.flatMap fun d => V.text d.key) ++ t) = some (ds.map fun d => d.key.data.toList, t)
  | [], t, _ => rfl
  | d :: r, t, h => by
    have ih := pkeys_back r t fun x hx => h x (List.mem_cons_of_mem _ hx)
    rw [List.flatMap_cons, List.append_assoc, List.length_cons, V.pmany, ptext_text (h d (List.mem_cons_self ..))]
    simp only
    rw [ih]; rfl
theorem size_runes (s : ByteArray) : ∀ (k i f n : Nat), s.size - i ≤ k → s.size ≤ i + f → K.runesF s f i = some n → s.size ≤ i + 4 * n := by
  intro k
  induction k with
  | zero => intro i f n h _ _; omega
  | succ k ih =>
    intro i f n h hf hr
    by_cases hi : i < s.size
    · cases ho : K.okAt s i with
      | false => rw [K.runesF_bad s f i hi hf ho] at hr; cases hr
      | true =>
        obtain ⟨g, hg, e⟩ := K.runesF_ok s f i hi hf ho
        rw [e] at hr
        obtain ⟨m, hm, rfl⟩ := Option.map_eq_some_iff.1 hr
        have hw := K.wd_pos s i hi
        have hw4 : K.wd s i ≤ 4 := by rw [← (K.ref_ok s i hi).2 ho]; exact K.longN_le _
        have := ih (i + K.wd s i) g m (by omega) hg hm
        omega
    · omega
theorem check_size {s : ByteArray} (h : K.checkB s = true) : s.size ≤ 32 := by
  unfold K.checkB K.lim at h
  simp only [Bool.and_eq_true, decide_eq_true_eq] at h
  obtain ⟨⟨h1, h2⟩, _⟩ := h
  unfold K.runes at h1 h2
  split at h1
  · rename_i n hn
    have := size_runes s s.size 0 s.size n (by omega) (by omega) hn
    rw [hn] at h2
    simp only at h2
    omega
  · omega
theorem seen_key : ∀ (l : List Dep) (p : Option ByteArray), seenF p l = true → ∀ d ∈ l, K.checkB d.key = true
  | d :: l, p, h, x, hx => by
    rw [seenF, Bool.and_eq_true, Bool.and_eq_true] at h
    rcases List.mem_cons.1 hx with rfl | hx
    · have := h.1
      unfold depB at this
      exact (Bool.and_eq_true .. ▸ this).1
    · exact seen_key l _ h.2.2 x hx
theorem head_stamp {e : Event} (h : check e = true) : (e.n = 0 ∧ e.s = 0) ∨ (e.n ≠ 0 ∧ V.stampB e.n e.s = true) := by
  have h1 : headB e = true := by unfold check at h; rw [Bool.and_eq_true] at h; exact h.1
  have h2 := (head_parts h1).1
  simp only [kindB, Bool.or_eq_true, Bool.and_eq_true, beq_iff_eq] at h2
  rcases h2 with ⟨_, h⟩ | ⟨_, ⟨h3, h⟩ | h⟩
  · have := V.stampB_iff.1 h; exact .inr ⟨by omega, h⟩
  · exact .inl ⟨h3, h⟩
  · have := V.stampB_iff.1 h; exact .inr ⟨by omega, h⟩
/-- What is known of an event that may be written. -/
theorem check_all {e : Event} (h : check e = true) : (∃ k c : Nat, e.kind = k ∧ e.client = c ∧ k ≤ 2 ∧ c ≤ 1000) ∧ e.key.size ≤ 32 ∧ e.seen.length ≤ 64 ∧ D.Srt e.seen ∧ ∀ d ∈ e.seen, d.key.size ≤ 32 ∧ V.stampB d.n d.s = true := by
  have h1 : headB e = true := by unfold check at h; rw [Bool.and_eq_true] at h; exact h.1
  have h2 := head_parts h1
  have hk : e.kind = 1 ∨ e.kind = 2 := by
    have h3 := h2.1
    simp only [kindB, Bool.or_eq_true, Bool.and_eq_true, beq_iff_eq] at h3
    rcases h3 with ⟨h, _⟩ | ⟨h, _⟩
    · exact .inl h
    · exact .inr h
  refine ⟨⟨e.kind.toNat, e.client.toNat, by omega, by omega, by omega, by omega⟩, check_size h2.2.2.2.1, h2.2.2.2.2, seen_srt _ _ (seen_of h), fun d hd => ?_⟩
  exact ⟨check_size (seen_key e.seen none (seen_of h) d hd), seen_dep _ _ (seen_of h) d hd⟩
theorem pevent_back {e : Event} {last : Int → List Dep} (h : check e = true) (hl : seenF none (last e.client) = true) (hk : ∀ d ∈ last e.client, d.key.size ≤ 32) (hn : (last e.client).length ≤ 64) (t : List UInt8) : pevent last (part e (last e.client) ++ t) = some (e, t) := by
  obtain ⟨⟨k, c, e1, e2, e3, e4⟩, h1, h2, h3, h4⟩ := check_all h
  rw [part_rpart h hl]
  unfold rpart rhead
  have f1 : (rmore e (last e.client)).length ≤ 64 := Nat.le_trans (List.length_filter_le _ _) h2
  have f2 : (rless e (last e.client)).length ≤ 64 := Nat.le_trans (List.length_filter_le _ _) hn
  have hsb := seen_back e (last e.client) h3 (seen_srt _ _ hl)
  have g1 := pdeps_back (rmore e (last e.client)) (V.num (rless e (last e.client)).length ++ (((rless e (last e.client)).flatMap fun d => V.text d.key) ++ t)) fun d hd => h4 d (List.mem_filter.1 hd).1
  have g2 := pkeys_back (rless e (last e.client)) t fun d hd => hk d (List.mem_filter.1 hd).1
  have hmap : ((rless e (last e.client)).map fun d => d.key.data.toList).map V.ba = (rless e (last e.client)).map (·.key) := by
    rw [List.map_map]; exact List.map_congr_left fun d _ => V.ba_data _
  simp only [List.append_assoc]
  rw [e1, e2, show ((k : Int).toNat) = k from rfl, show ((c : Int).toNat) = c from rfl]
  rw [e2] at g1 g2 hmap f1 f2 hsb
  unfold pevent
  rw [pnum_num e3 (by omega)]; simp only
  rw [pnum_num e4 (by omega)]; simp only
  rw [ptext_text h1]; simp only
  unfold rstampOpt
  rcases head_stamp h with ⟨n1, n2⟩ | ⟨n1, n2⟩
  · rw [if_pos n1, pnum_num (by omega) (by omega)]; simp only
    rw [show pst1 0 = fun r => some ((0, 0), r) from rfl]; simp only
    rw [pnum_num f1 (by omega)]; simp only
    rw [g1]; simp only
    rw [pnum_num f2 (by omega)]; simp only
    rw [g2]; simp only
    rw [hmap, hsb, V.ba_data]
    congr 2
    cases e; simp_all
  · have n3 := V.stampB_iff.1 n2
    rw [if_neg n1, List.append_assoc, pnum_num (by omega) (by omega)]; simp only
    rw [show pst1 1 = V.pst from rfl, pst_stamp n2]; simp only
    rw [pnum_num f1 (by omega)]; simp only
    rw [g1]; simp only
    rw [pnum_num f2 (by omega)]; simp only
    rw [g2]; simp only
    rw [hmap, hsb, V.ba_data, Int.toNat_of_nonneg (by omega), Int.toNat_of_nonneg (by omega)]
    congr 2
    cases e; simp_all
theorem last_of (l : List Event) (c : Int) : lastM (fun _ => []) l c = [] ∨ ∃ e ∈ l, lastM (fun _ => []) l c = e.seen := by
  have h1 := lastS_M l c l.length (Nat.le_refl _)
  rw [List.take_length] at h1
  rw [h1]
  have := lastS_of l c l.length (Nat.le_refl _)
  rwa [List.take_length] at this
theorem pevents_back {es : List Event} (h : ∀ e ∈ es, check e = true) : ∀ (k : Nat) (t : List UInt8), k ≤ es.length → pevents k (cat (partsF (fun _ => []) (es.take k)) ++ t) = some (es.take k, t)
  | 0, t, _ => rfl
  | k + 1, t, hk => by
    have hk' : k < es.length := by omega
    rw [take_snoc hk', partsF_app]
    simp only [partsF, cat, List.flatMap_append, List.flatMap_cons, List.flatMap_nil, List.append_nil, List.append_assoc]
    rw [pevents]
    have ih := pevents_back h k ((V.ba (part es[k] (lastM (fun _ => []) (es.take k) es[k].client))).data.toList ++ t) (by omega)
    unfold cat at ih
    rw [ih]; simp only
    have hm : ∀ e ∈ es.take k, check e = true := fun e he => h e (List.mem_of_mem_take he)
    have hlast : seenF none (lastM (fun _ => []) (es.take k) es[k].client) = true ∧ (∀ d ∈ lastM (fun _ => []) (es.take k) es[k].client, d.key.size ≤ 32) ∧ (lastM (fun _ => []) (es.take k) es[k].client).length ≤ 64 := by
      rcases last_of (es.take k) es[k].client with h1 | ⟨e, he, h1⟩
      · rw [h1]; exact ⟨rfl, fun d hd => (by cases hd), by simp⟩
      · rw [h1]
        obtain ⟨_, _, h3, _, h4⟩ := check_all (hm e he)
        exact ⟨seen_of (hm e he), fun d hd => (h4 d hd).1, h3⟩
    rw [pevent_back (h _ (List.getElem_mem hk')) hlast.1 hlast.2.1 hlast.2.2]
theorem pread_back {es : List Event} (h : ∀ e ∈ es, check e = true) (hn : es.length ≤ 4096) (t : List UInt8) : pread (bytes es ++ t) = some es := by
  have hall : es.all check = true := List.all_eq_true.2 h
  have hb := pevents_back h es.length t (Nat.le_refl _)
  rw [List.take_length] at hb
  unfold pread bytes parts
  rw [if_pos hall, if_pos hall, List.append_assoc, pnum_num hn (by omega)]; simp only
  rw [hb]
/-- Bytes are read just when they are some history's. -/
theorem bytes_check {es : List Event} (h : bytes es ≠ []) : ∀ e ∈ es, check e = true := by
  unfold bytes at h
  split at h
  · rename_i hall; exact List.all_eq_true.1 hall
  · exact (h rfl).elim
theorem pread_ne {l : List UInt8} {es : List Event} (h : pread l = some es) : l ≠ [] ∧ es.length ≤ 4096 := by
  unfold pread at h
  split at h
  · cases h
  · rename_i n r h1
    obtain ⟨h2, h3⟩ := (V.pnum_iff (by omega)).1 h1
    split at h
    · cases h
    · rename_i es' t h4
      cases h
      refine ⟨fun e => ?_, ?_⟩
      · have := congrArg List.length h3
        rw [e, List.length_append] at this
        have := V.num_pos n
        simp at *; omega
      · have : ∀ k r es t, pevents k r = some (es, t) → es.length = k := by
          intro k
          induction k with
          | zero => intro r es t h; simp [pevents] at h; simp [h.1]
          | succ k ih =>
            intro r es t h
            rw [pevents] at h
            split at h
            · cases h
            · rename_i es2 t2 h5
              split at h
              · cases h
              · simp at h
                rw [← h.1, List.length_append, ih _ _ _ h5]; rfl
        rw [this _ _ _ _ h4]; exact h2
theorem readL_iff {l : List UInt8} {es : List Event} : readL l = some es ↔ l ≠ [] ∧ es.length ≤ 4096 ∧ bytes es = l := by
  constructor
  · intro h
    unfold readL at h
    split at h
    · cases h
    · rename_i es' h1
      split at h
      · rename_i h2
        cases h
        exact ⟨(pread_ne h1).1, (pread_ne h1).2, h2⟩
      · cases h
  · rintro ⟨h1, h2, rfl⟩
    have := pread_back (bytes_check h1) h2 []
    rw [List.append_nil] at this
    unfold readL
    rw [this]; simp
end L
end Go.Proofs.Ytlcahhlghjbnkaa
end

section
namespace Go.Proofs.Ytlcahhlghjbnkaa.A
open Go Go.RowKit
/-- The value that a name's first object stands for. -/
def hd (ρ : Rho) : Value := (ρ 1001 0).getD undef
section
variable {P : Program} {st : ASt} {o : Oper}
theorem ev_eq {M : Nat → Prop} {w : World} {ρ : Rho} {a : Act} (h : ∀ x ∈ opsOf o, SRep M w ρ (st.ev x) (a.eval x)) {x : Operand} (hx : x ∈ opsOf o) {y : Value} (he : st.ev x = .eq y) : a.eval x = y ∧ y.oneCell' = true := by
  have := h x hx
  rw [he] at this
  exact this
end
/-- A map whose values are told just so. -/
def mapE {κ α : Type} (kv : κ → Value) (ok : κ → Prop) (ev : α → Value) (b n : Nat) (m : κ → Option α) : OP where
  F := fun c => c = b
  I := fun _ w _ h => h = .map (some b) ∧ R.Mp kv ok (fun _ v x => v = ev x ∧ v.oneCell' = true) w b n m
  mono := fun {M M' w w' ρ h} _ hb hI => ⟨hI.1, hI.2.mono (hb b rfl) fun _ _ hv => hv⟩
  rho := fun _ h => h
  lt := fun {M w ρ h} hI c hc => by subst hc; exact hI.2.lt
/-- What a lookup in it tells. -/
def lookE {α : Type} (ev : α → Value) (z : Value) : Option α → Value
  | some x => ev x
  | none => z
section
variable {P : Program} {N : Nat} {M0 : Nat → Prop} {w0 : Base} {ops : Array Oper} {Q : Exit → ASt → Prop} {o : Oper} {l : List Oper} {st : ASt}
theorem Al_makeMapE {κ α : Type} (kv : κ → Value) (ok : κ → Prop) (ev : α → Value) {d : Nat} {t : TypeId} (ho : o.op = .makeMap t none) (hg : o.guard = none) (hd : o.dst = some d) (hN : d < N)
    (h : ∀ b g, Al P N M0 w0 ops Q l ((st.put d g (.op (mapE kv ok ev b 0 (fun _ => none)))).set d (.ow d g))) : Al P N M0 w0 ops Q (o :: l) st := by
  refine ⟨?_⟩
  rintro a w ⟨ρ, hsim⟩
  obtain ⟨g', ρ', r1, r2, r3⟩ := hsim.upd2 (w' := w.alloc (.map #[] 0)) d ⟨rfl, rfl, rfl⟩ (by simp) (fun b hb _ => heap_alloc_old w _ hb) (x' := .map (some w.heap.size)) (o' := .op (mapE kv ok ev w.heap.size 0 (fun _ => none))) (fun b hb => .inl (by have : b = w.heap.size := hb; omega))
    (fun M' ρ' hK _ => ⟨fun b hb => .inl (by have : b = w.heap.size := hb; have := hsim.ext.size; omega), rfl, R.Mp.made kv ok _ w⟩)
  refine wpList_plain hg fun K hK => wp_upon ?_
  have e : (execOp a.eval o).run P w = .ok (.value (.map (some w.heap.size))) (w.alloc (.map #[] 0)) := by
    simp only [execOp, ho, Option.map_none, Sem.run_bind, run_makeMap, Result.andThen_ok, Sem.run_pure]
  rw [e]
  refine hK _ _ ((h w.heap.size g').out _ _ ⟨ρ', ?_⟩)
  rw [hd]
  exact r1.set hN ⟨r2, rfl⟩
end
/-- What is told anew, where memory stays as it is: some objects, and one value. -/
def Ghost (s : SV) (obs : Obs) {ι : Type} (obs' : ι → Obs) (s' : ι → SV) : Prop :=
  ∀ (M : Nat → Prop) (w : World) (ρ : Rho) (x : Value), (∀ b, M b → b < w.heap.size) → Bnd ρ → SRep M w ρ s x → Objs ⟨w, fun _ => True, [], fun _ _ => none⟩ M w ρ obs → (∀ b, fps ρ obs b → M b) → Apart ρ obs → ∃ i, GOut M w ρ obs w (obs' i) (s' i) x
section
variable {P : Program} {N : Nat} {M0 : Nat → Prop} {w0 : Base} {ops : Array Oper} {Q : Exit → ASt → Prop} {o : Oper} {l : List Oper} {st : ASt}
theorem le_ghost {ι : Type} {s : SV} {obs : Obs} {obs' : ι → Obs} {s' : ι → SV} (pm : Pm) (nw : List (Nat × Nat)) (j : Nat) (hG : Ghost s obs obs' s') (hj : Sub (st.sl j) (s.ren (nmOf pm))) (hpre : PreO st (nmOf pm) obs) (hB : ∀ i, nmB obs (obs' i) pm nw = true) (hb1 : (obs.all fun p => (lookR pm p.1).isSome) = true) (hb5 : nodupB (pm.map (·.2.1)) = true) {X : Act → World → Prop}
    (h : ∀ i G, ∀ a w, Sim N M0 w0 ((st.aft pm (obs' i) (nm2 pm nw G)).set j ((s' i).ren (nm2 pm nw G))) a w → X a w) : ∀ a w, Sim N M0 w0 st a w → X a w := by
  rintro a w ⟨ρ, hsim⟩
  obtain ⟨l1, l2, l3, l4, l5⟩ := hsim.lent ⟨hpre, fun p hp => List.all_eq_true.1 hb1 p hp⟩ hb5
  have hx : SRep (Mt M0 ρ st.ob) w (pull (nmOf pm) ρ) s (a.tmps.getD j undef) := SRep.ren.1 (hj _ _ _ _ (hsim.slot j))
  obtain ⟨i, ho⟩ := hG (Mt M0 ρ st.ob) w (pull (nmOf pm) ρ) _ hsim.mt_lt (nmOf_bnd hsim.gens) hx l1 l2 l3
  obtain ⟨G, ρ', hs', hr'⟩ := hsim.aft hpre (hB i) ⟨rfl, rfl, rfl, Nat.le_refl _, fun _ _ _ => rfl⟩ ho
  exact h i G a w ⟨ρ', hs'.tell hr'⟩
theorem Aw_ghost {ι : Type} {c : Code} {s : SV} {obs : Obs} {obs' : ι → Obs} {s' : ι → SV} (pm : Pm) (nw : List (Nat × Nat)) (j : Nat) (hG : Ghost s obs obs' s') (hj : Sub (st.sl j) (s.ren (nmOf pm))) (hpre : PreO st (nmOf pm) obs) (hB : ∀ i, nmB obs (obs' i) pm nw = true) (hb1 : (obs.all fun p => (lookR pm p.1).isSome) = true) (hb5 : nodupB (pm.map (·.2.1)) = true)
    (h : ∀ i G, Aw P N M0 w0 c Q ((st.aft pm (obs' i) (nm2 pm nw G)).set j ((s' i).ren (nm2 pm nw G)))) : Aw P N M0 w0 c Q st := ⟨le_ghost pm nw j hG hj hpre hB hb1 hb5 fun i G a w hs => (h i G).out a w hs⟩
end
end Go.Proofs.Ytlcahhlghjbnkaa.A
end

section
namespace Go.Proofs.Ytlcahhlghjbnkaa.A
open Go Go.RowKit
/-- Some maps, each in its block, with how many entries it has at most. -/
def mapsO {κ α : Type} (kv : κ → Value) (ok : κ → Prop) (enc : α → AV) (L : List (Nat × Nat × (κ → Option α))) : OP where
  F := fun c => ∃ e ∈ L, c = e.1
  I := fun M w _ _ => (∀ e ∈ L, R.Mp kv ok (fun w v x => Rep M w (enc x) v) w e.1 e.2.1 e.2.2) ∧ (L.map Prod.fst).Nodup
  mono := fun {M M' w w' ρ h} k hb hI => ⟨fun e he => (hI.1 e he).mono (hb e.1 ⟨e, he, rfl⟩) fun v x hv => hv.mono k, hI.2⟩
  rho := fun _ h => h
  lt := fun {M w ρ h} hI c ⟨e, he, hc⟩ => by subst hc; exact (hI.1 e he).lt
abbrev blkE (b : Nat) : Value := .map (some b)
section
variable {κ α : Type} {kv : κ → Value} {ok : κ → Prop} {enc : α → AV}
/-- None of them, to begin with. -/
theorem gh_none : Ghost .any [] (fun _ : Unit => [(1003, .op (mapsO kv ok enc []))]) (fun _ => .any) := fun M w ρ x hM hb hx hobs hf hap => by
  let ρ' : Rho := fun k g => bif Nat.beq k 1003 && Nat.beq g 0 then some undef else ρ k g
  refine ⟨(), ρ', ?_, fun p hp => (by cases hp), fun p hp => ?_, fun p hp q hq x x' b _ _ h3 _ => ?_, trivial⟩
  · obtain ⟨G, hG⟩ := hb
    refine ⟨G + 1, fun k g h => ?_⟩
    cases hk : (Nat.beq k 1003 && Nat.beq g 0) with
    | true =>
      simp only [Bool.and_eq_true] at hk
      have := Nat.eq_of_beq_eq_true hk.2
      omega
    | false => simp only [ρ'] at h; rw [hk] at h; have := hG k g h; omega
  · rcases List.mem_cons.1 hp with rfl | hp
    · exact ⟨undef, rfl, fun b ⟨e, he, _⟩ => (by cases he), ⟨fun e he => (by cases he), List.nodup_nil⟩⟩
    · cases hp
  · rcases List.mem_cons.1 hp with rfl | hp
    · obtain ⟨e, he, _⟩ := h3; cases he
    · cases hp
/-- One of them is taken out: a map of the call's own. -/
theorem gh_open {L1 L2 : List (Nat × Nat × (κ → Option α))} {b n : Nat} {m : κ → Option α} : Ghost (.eq (blkE b)) [(1003, .op (mapsO kv ok enc (L1 ++ (b, n, m) :: L2)))] (fun _ : Unit => [(1003, .op (mapsO kv ok enc (L1 ++ L2))), (1004, .op (mapO kv ok enc b n m))]) (fun _ => .ow 1004 0) := fun M w ρ x hM hb hx hobs hf hap => by
  obtain ⟨h, e1, hF, hI1, hI2⟩ := hobs _ (List.mem_cons_self ..)
  have hin : ∀ e ∈ L1 ++ L2, e ∈ L1 ++ (b, n, m) :: L2 := fun e he => by
    rcases List.mem_append.1 he with h | h
    · exact List.mem_append_left _ h
    · exact List.mem_append_right _ (List.mem_cons_of_mem _ h)
  have hbm : (b, n, m) ∈ L1 ++ (b, n, m) :: L2 := by simp
  have hnd : ((L1 ++ L2).map Prod.fst).Nodup ∧ b ∉ (L1 ++ L2).map Prod.fst := by
    have h3 : ((L1 ++ (b, n, m) :: L2).map Prod.fst).Perm (b :: (L1 ++ L2).map Prod.fst) := by
      rw [← List.map_cons (f := Prod.fst) (a := (b, n, m))]
      exact List.Perm.map _ List.perm_middle
    have h4 := h3.nodup_iff.1 hI2
    exact ⟨(List.nodup_cons.1 h4).2, (List.nodup_cons.1 h4).1⟩
  have hkn : ∀ M', (∀ c, M c → M' c) → (∀ c, M' c → M c) → Known M M' w w := fun M' h1 h2 => Known.sub fun c hc => h2 c hc
  have hfo : ∀ c, fps ρ [(1003, AO.op (mapsO kv ok enc (L1 ++ (b, n, m) :: L2)))] c ↔ ∃ e ∈ L1 ++ (b, n, m) :: L2, c = e.1 := fun c => by
    refine ⟨fun ⟨p, hp, x, h1, h2⟩ => ?_, fun h2 => ⟨_, List.mem_cons_self .., h, e1, h2⟩⟩
    rcases List.mem_cons.1 hp with rfl | hp
    · exact h2
    · cases hp
  let ρ' : Rho := fun k g => bif Nat.beq k 1004 && Nat.beq g 0 then some (blkE b) else ρ k g
  have r3 : ρ' 1003 0 = some h := e1
  have r4 : ρ' 1004 0 = some (blkE b) := rfl
  have hM' : ∀ c, (M c ∨ fps ρ' [(1003, AO.op (mapsO kv ok enc (L1 ++ L2))), (1004, .op (mapO kv ok enc b n m))] c) → M c := fun c hc => by
    rcases hc with hc | ⟨p, hp, x, h1, h2⟩
    · exact hc
    · refine hf c ((hfo c).2 ?_)
      rcases List.mem_cons.1 hp with rfl | hp
      · obtain ⟨e, he, h3⟩ := h2; exact ⟨e, hin e he, h3⟩
      · rcases List.mem_cons.1 hp with rfl | hp
        · exact ⟨_, hbm, h2⟩
        · cases hp
  refine ⟨(), ρ', ?_, fun p hp => ?_, fun p hp => ?_, fun p hp q hq x x' c h1 h2 h3 h4 => ?_, ?_⟩
  · obtain ⟨G, hG⟩ := hb
    refine ⟨G + 1, fun k g h => ?_⟩
    cases hk : (Nat.beq k 1004 && Nat.beq g 0) with
    | true =>
      simp only [Bool.and_eq_true] at hk
      have := Nat.eq_of_beq_eq_true hk.2
      omega
    | false => simp only [ρ'] at h; rw [hk] at h; have := hG k g h; omega
  · rcases List.mem_cons.1 hp with rfl | hp
    · exact r3.trans e1.symm
    · cases hp
  · rcases List.mem_cons.1 hp with rfl | hp
    · exact ⟨h, r3, fun c ⟨e, he, hc⟩ => .inr ((hfo c).2 ⟨e, hin e he, hc⟩), ⟨fun e he => (hI1 e (hin e he)).mono rfl fun v x hv => hv.mono (Known.sub hM'), hnd.1⟩⟩
    · rcases List.mem_cons.1 hp with rfl | hp
      · exact ⟨_, r4, fun c hc => .inr ((hfo c).2 ⟨_, hbm, hc⟩), rfl, (hI1 _ hbm).mono rfl fun v x hv => hv.mono (Known.sub hM')⟩
      · cases hp
  · have hno : ∀ c, (∃ e ∈ L1 ++ L2, c = e.1) → c = b → False := fun c ⟨e, he, hc⟩ hcb => hnd.2 (by rw [← hcb, hc]; exact List.mem_map_of_mem he)
    rcases List.mem_cons.1 hp with rfl | hp
    · rcases List.mem_cons.1 hq with rfl | hq
      · rfl
      · rcases List.mem_cons.1 hq with rfl | hq
        · exact (hno c h3 h4).elim
        · cases hq
    · rcases List.mem_cons.1 hp with rfl | hp
      · rcases List.mem_cons.1 hq with rfl | hq
        · exact (hno c h4 h3).elim
        · rcases List.mem_cons.1 hq with rfl | hq
          · rfl
          · cases hq
      · cases hp
  · obtain ⟨hx1, hx2⟩ : x = blkE b ∧ _ := hx
    exact ⟨by rw [hx1]; exact r4, by rw [hx1]; rfl⟩
/-- A map of the call's own is put to them. -/
theorem gh_close {L : List (Nat × Nat × (κ → Option α))} {b n : Nat} {m : κ → Option α} : Ghost .any [(1003, .op (mapsO kv ok enc L)), (1004, .op (mapO kv ok enc b n m))] (fun _ : Unit => [(1003, .op (mapsO kv ok enc ((b, n, m) :: L)))]) (fun _ => .any) := fun M w ρ x hM hb hx hobs hf hap => by
  obtain ⟨h, e1, hF, hI1, hI2⟩ := hobs _ (List.mem_cons_self ..)
  obtain ⟨h', e2, hF', _, hI'⟩ := hobs (1004, .op (mapO kv ok enc b n m)) (by simp)
  have hnb : b ∉ L.map Prod.fst := fun hb' => by
    obtain ⟨e, he, hbe⟩ := List.mem_map.1 hb'
    have := hap (1003, .op (mapsO kv ok enc L)) (by simp) (1004, .op (mapO kv ok enc b n m)) (by simp) h h' b e1 e2 ⟨e, he, hbe.symm⟩ rfl
    cases this
  have hM' : ∀ c, (M c ∨ fps ρ [(1003, AO.op (mapsO kv ok enc ((b, n, m) :: L)))] c) → M c := fun c hc => by
    rcases hc with hc | ⟨p, hp, x, h1, h2⟩
    · exact hc
    · rcases List.mem_cons.1 hp with rfl | hp
      · obtain ⟨e, he, h3⟩ := h2
        rcases List.mem_cons.1 he with rfl | he
        · exact hf c ⟨(1004, .op (mapO kv ok enc b n m)), by simp, h', e2, h3⟩
        · exact hf c ⟨(1003, .op (mapsO kv ok enc L)), by simp, h, e1, e, he, h3⟩
      · cases hp
  refine ⟨(), ρ, hb, fun p hp => rfl, fun p hp => ?_, fun p hp q hq x x' c h1 h2 h3 h4 => ?_, trivial⟩
  · rcases List.mem_cons.1 hp with rfl | hp
    · refine ⟨h, e1, fun c ⟨e, he, hc⟩ => ?_, ⟨fun e he => ?_, ?_⟩⟩
      · rcases List.mem_cons.1 he with rfl | he
        · exact .inr ⟨(1004, .op (mapO kv ok enc b n m)), by simp, h', e2, hc⟩
        · exact .inr ⟨(1003, .op (mapsO kv ok enc L)), by simp, h, e1, e, he, hc⟩
      · rcases List.mem_cons.1 he with rfl | he
        · exact hI'.mono rfl fun v x hv => hv.mono (Known.sub hM')
        · exact (hI1 e he).mono rfl fun v x hv => hv.mono (Known.sub hM')
      · exact List.nodup_cons.2 ⟨hnb, hI2⟩
    · cases hp
  · rcases List.mem_cons.1 hp with rfl | hp
    · rcases List.mem_cons.1 hq with rfl | hq
      · rfl
      · cases hq
    · cases hp
end
section
variable {P : Program} {N : Nat} {M0 : Nat → Prop} {w0 : Base} {ops : Array Oper} {Q : Exit → ASt → Prop} {o : Oper} {l : List Oper} {st : ASt}
end
end Go.Proofs.Ytlcahhlghjbnkaa.A
end

section
namespace Go.Proofs.Ytlcahhlghjbnkaa.A
open Go Go.RowKit
def nilM : Value → Bool
  | .map none => true
  | _ => false
section
variable {P : Program} {N : Nat} {M0 : Nat → Prop} {w0 : Base} {ops : Array Oper} {Q : Exit → ASt → Prop} {o : Oper} {l : List Oper} {st : ASt}
theorem Pu_to {s s' : SV} (h : Pu P st o s) (e : s = s') : Pu P st o s' := e ▸ h
theorem Pu_eqnilmE {t yt : TypeId} {x : Operand} {kt e : TypeId} {v : Value} (hv : v = .map none ∨ ∃ b, v = .map (some b)) (ht : P.underlying t = some (.map kt e)) (ho : o.op = .binOp .eql t x (.const (.map none)) yt) (hx : st.ev x = .eq v) : Pu P st o (.d (.v (.bool (nilM v)))) := Pu_q fun B M ρ w a h2 h3 => by
  obtain ⟨h4, _⟩ := ev_eq h2 (by simp [opsOf, ho, Op.operands]) hx
  refine ⟨.bool (nilM v), ?_, .v _ trivial⟩
  have hc : a.eval (.const (.map none)) = .map none := rfl
  rcases hv with rfl | ⟨b, rfl⟩
  · have key : (do eqGuard .eql t x (.const (.map none)) (.map none) (.map none); binOp .eql t (.map none) (.map none) : Sem Value).run P w = .ok (.bool true) w := by simp [go_sem, eqGuard, run_eql_map_nil w t _ _ _ ht]
    simp only [execOp, ho, h4, hc, Sem.run_bind, Sem.run_pure] at key ⊢
    rw [key]; rfl
  · have key : (do eqGuard .eql t x (.const (.map none)) (.map (some b)) (.map none); binOp .eql t (.map (some b)) (.map none) : Sem Value).run P w = .ok (.bool false) w := by simp [go_sem, eqGuard, run_eql_map_nil w t _ _ _ ht]
    simp only [execOp, ho, h4, hc, Sem.run_bind, Sem.run_pure] at key ⊢
    rw [key]; rfl
theorem Pu_lookupEE {κ α : Type} {kv : κ → Value} {ok : κ → Prop} {ev : α → Value} {b n : Nat} {m : κ → Option α} {t kt e : TypeId} {x y : Operand} {k g : Nat} {ky : AV} {zv : Value} {c : κ} (T : R.KeyT P kt κ kv ok) (ho : o.op = .lookup t x y false) (ht : P.underlying t = some (.map kt e)) (hz : ∀ w, (zeroValue e).run P w = .ok zv w) (hz1 : zv.oneCell' = true) (hx : st.ev x = .eq (blkE b)) (hob : st.ob k = some (g, .op (mapE kv ok ev b n m))) (hy : st.ev y = .d ky) (hky : Only ky (kv c)) (hok : ok c) : Pu P st o (.eq (lookE ev zv (m c))) := fun B M ρ w a hM h2 h3 hev K hK => by
  have h1 := h2 x (by simp [opsOf, ho, Op.operands])
  have h4 := h2 y (by simp [opsOf, ho, Op.operands])
  rw [hx] at h1
  rw [hy] at h4
  obtain ⟨he, _⟩ := h1
  obtain ⟨u, hu, _, _, hmp⟩ := h3 k g _ hob
  have hyv := hky _ _ _ h4
  obtain ⟨v, hr, hv1, hv2⟩ := hmp.look T ht hz c hok false
  have e : (execOp a.eval o).run P w = .ok (.value v) w := by
    simp only [execOp, ho, he, hyv, hr, Sem.run_bind, Result.andThen_ok, Sem.run_pure, Bool.false_eq_true, if_false]
  rw [e]
  refine hK _ _ (Kn.refl _) ?_
  cases hm : m c with
  | none => rw [hv2 hm]; exact ⟨rfl, hz1⟩
  | some x =>
    obtain ⟨h6, h7⟩ := hv1 x hm
    exact ⟨h6, by rw [h6] at h7; exact h7⟩
/-- A map of the call's own is put into another one, that is told as a value. -/
theorem Al_mapUpdateEE {κ κ' α : Type} [DecidableEq κ] {kv : κ → Value} {ok : κ → Prop} {b n b' n' : Nat} {m : κ → Option Nat} {kv' : κ' → Value} {ok' : κ' → Prop} {enc' : α → AV} {m' : κ' → Option α} {t kt e : TypeId} {x y z : Operand} {k g k' g' : Nat} {ky : AV} {c : κ} (T : R.KeyT P kt κ kv ok) (ho : o.op = .mapUpdate t x y z) (hg : o.guard = none) (hd : o.dst = none) (hc : conB o = true) (ht : P.underlying t = some (.map kt e)) (hn : n < maxLen) (hx : st.ev x = .eq (blkE b)) (hob : st.ob k = some (g, .op (mapE kv ok blkE b n m))) (hy : st.ev y = .d ky) (hky : Only ky (kv c)) (hok : ok c) (hz : st.ev z = .ow k' g') (hob' : st.ob k' = some (g', .op (mapO kv' ok' enc' b' n' m')))
    (h : Al P N M0 w0 ops Q l (st.put k g (.op (mapE kv ok blkE b (n + 1) (fun c' => if c' = c then some b' else m c'))))) : Al P N M0 w0 ops Q (o :: l) st := by
  refine ⟨?_⟩
  rintro a w ⟨ρ, hsim⟩
  have hev := hsim.ev hc
  have h1 := hev x (by simp [opsOf, ho, Op.operands])
  have h4 := hev y (by simp [opsOf, ho, Op.operands])
  have h5 := hev z (by simp [opsOf, ho, Op.operands])
  rw [hx] at h1
  rw [hy] at h4
  rw [hz] at h5
  obtain ⟨he, _⟩ := h1
  obtain ⟨u, hu, hF, hub, hmp⟩ := hsim.obj k g _ hob
  obtain ⟨u', hu', _, hub', _⟩ := hsim.obj k' g' _ hob'
  obtain ⟨k1, _⟩ := h5
  rw [k1] at hu'
  have hzv : a.eval z = blkE b' := by rw [Option.some.inj hu']; exact hub'
  have hyv := hky _ _ _ h4
  obtain ⟨w', hr, hmp', hgr, hsz⟩ := hmp.store T ht hn c hok (a.eval z) b' (fun w' hgr hs v x hv => hv) ⟨hzv, by rw [hzv]; rfl⟩
  have hs2 := hsim.mod (w' := w') hob hu ⟨hgr.os, hgr.tape, hgr.output⟩ hgr.size (fun c' hc' hne => hgr.block c' hc' (fun e => hne (by simp only [Option.some.injEq] at e; exact e))) (o' := .op (mapE kv ok blkE b (n + 1) (fun c' => if c' = c then some b' else m c'))) (fun M' hK hle => ⟨hF, hub, hmp'⟩) (fun c' hc' => hc')
  refine wpList_plain hg fun K hK => wp_upon ?_
  have e : (execOp a.eval o).run P w = .ok .skip w' := by
    simp only [execOp, ho, he, hyv, hr, Sem.run_bind, Result.andThen_ok, Sem.run_pure]
  rw [e]
  refine hK _ _ (h.out _ _ ⟨ρ, ?_⟩)
  rw [hd]
  exact hs2
end
section
variable {κ α : Type} {kv : κ → Value} {ok : κ → Prop} {enc : α → AV}
/-- A map of the call's own is put to them; its block was none of theirs. -/
theorem gh_close2 {L : List (Nat × Nat × (κ → Option α))} {b n : Nat} {m : κ → Option α} : Ghost .any [(1003, .op (mapsO kv ok enc L)), (1004, .op (mapO kv ok enc b n m))] (fun _ : { _u : Unit // b ∉ L.map Prod.fst } => [(1003, .op (mapsO kv ok enc ((b, n, m) :: L)))]) (fun _ => .any) := fun M w ρ x hM hb hx hobs hf hap => by
  obtain ⟨i, hi⟩ := gh_close (kv := kv) (ok := ok) (enc := enc) (L := L) (b := b) (n := n) (m := m) M w ρ x hM hb hx hobs hf hap
  refine ⟨⟨(), fun hb' => ?_⟩, hi⟩
  obtain ⟨h, e1, _⟩ := hobs _ (List.mem_cons_self ..)
  obtain ⟨h', e2, _⟩ := hobs (1004, .op (mapO kv ok enc b n m)) (by simp)
  obtain ⟨e, he, hbe⟩ := List.mem_map.1 hb'
  have := hap (1003, .op (mapsO kv ok enc L)) (by simp) (1004, .op (mapO kv ok enc b n m)) (by simp) h h' b e1 e2 ⟨e, he, hbe.symm⟩ rfl
  cases this
end
theorem GCallE.no {P : Program} {f : FuncId} {ins : List SV} {obs : Obs} {ι : Type} (h : GCallE P f ins obs (fun _ : ι => none)) : GCall P f ins obs none := ⟨h.1, fun M w ρ vs h1 h2 h3 h4 h5 h6 => (h.2 M w ρ vs h1 h2 h3 h4 h5 h6).mono fun _ _ ⟨h7, _, h8⟩ => ⟨h7, h8⟩⟩
end Go.Proofs.Ytlcahhlghjbnkaa.A
end

section
namespace Go.Proofs
open Go.Shelf
def Try.lays190_ren : Go.Shelf.Ren := ⟨fun | 190 => 73 | 125 => 81 | 258 => 80 | 128 => 91 | 129 => 92 | 302 => 82 | 303 => 83 | 304 => 84 | 305 => 85 | 306 => 86 | 307 => 87 | 308 => 88 | 309 => 89 | 310 => 90 | 333 => 93 | 329 => 94 | 330 => 95 | 334 => 96 | 335 => 97 | 336 => 98 | 344 => 99 | n => n, fun | 31 => 39 | 9 => 9 | 3 => 3 | 46 => 116 | 0 => 0 | 51 => 133 | 53 => 42 | 4 => 4 | 183 => 125 | 182 => 124 | 131 => 130 | 5 => 5 | 218 => 134 | 222 => 138 | 228 => 140 | 229 => 141 | n => n, fun | n => n⟩
theorem Try.lays190 : Go.Proofs.Lays.n190 Try.prog Try.lays190_ren := {
  mixed := by kernel_rfl
  f125 := Try.func81.trans (congrArg some (by kernel_rfl))
  f128 := Try.func91.trans (congrArg some (by kernel_rfl))
  f129 := Try.func92.trans (congrArg some (by kernel_rfl))
  f190 := Try.func73.trans (congrArg some (by kernel_rfl))
  f258 := Try.func80.trans (congrArg some (by kernel_rfl))
  f302 := Try.func82.trans (congrArg some (by kernel_rfl))
  f303 := Try.func83.trans (congrArg some (by kernel_rfl))
  f304 := Try.func84.trans (congrArg some (by kernel_rfl))
  f305 := Try.func85.trans (congrArg some (by kernel_rfl))
  f306 := Try.func86.trans (congrArg some (by kernel_rfl))
  f307 := Try.func87.trans (congrArg some (by kernel_rfl))
  f308 := Try.func88.trans (congrArg some (by kernel_rfl))
  f309 := Try.func89.trans (congrArg some (by kernel_rfl))
  f310 := Try.func90.trans (congrArg some (by kernel_rfl))
  f329 := Try.func94.trans (congrArg some (by kernel_rfl))
  f330 := Try.func95.trans (congrArg some (by kernel_rfl))
  f333 := Try.func93.trans (congrArg some (by kernel_rfl))
  f334 := Try.func96.trans (congrArg some (by kernel_rfl))
  f335 := Try.func97.trans (congrArg some (by kernel_rfl))
  f336 := Try.func98.trans (congrArg some (by kernel_rfl))
  f344 := Try.func99.trans (congrArg some (by kernel_rfl))
  t0 := Try.underlying0
  a0 := Try.isAgg0
  z0 := Try.sizeOf0
  v0 := Try.zeroValue0
  t3 := Try.underlying3
  a3 := Try.isAgg3
  z3 := Try.sizeOf3
  v3 := Try.zeroValue3
  t4 := Try.underlying4
  a4 := Try.isAgg4
  z4 := Try.sizeOf4
  v4 := Try.zeroValue4
  t5 := Try.underlying5
  a5 := Try.isAgg5
  z5 := Try.sizeOf5
  v5 := Try.zeroValue5
  t9 := Try.underlying9
  a9 := Try.isAgg9
  z9 := Try.sizeOf9
  v9 := Try.zeroValue9
  t31 := Try.underlying39
  a31 := Try.isAgg39
  z31 := Try.sizeOf39
  v31 := Try.zeroValue39
  t46 := Try.underlying116
  a46 := Try.isAgg116
  z46 := Try.sizeOf116
  v46 := Try.zeroValue116
  t51 := Try.underlying133
  a51 := Try.isAgg133
  z51 := Try.sizeOf133
  v51 := Try.zeroValue133
  t53 := Try.underlying42
  a53 := Try.isAgg42
  z53 := Try.sizeOf42
  v53 := Try.zeroValue42
  t131 := Try.underlying130
  a131 := Try.isAgg130
  z131 := Try.sizeOf130
  v131 := Try.zeroValue130
  t182 := Try.underlying124
  a182 := Try.isAgg124
  z182 := Try.sizeOf124
  v182 := Try.zeroValue124
  t183 := Try.underlying125
  a183 := Try.isAgg125
  z183 := Try.sizeOf125
  v183 := Try.zeroValue125
  t218 := Try.underlying134
  a218 := Try.isAgg134
  z218 := Try.sizeOf134
  v218 := Try.zeroValue134
  t222 := Try.underlying138
  a222 := Try.isAgg138
  z222 := Try.sizeOf138
  v222 := Try.zeroValue138
  t228 := Try.underlying140
  a228 := Try.isAgg140
  z228 := Try.sizeOf140
  v228 := Try.zeroValue140
  t229 := Try.underlying141
  a229 := Try.isAgg141
  z229 := Try.sizeOf141
  v229 := Try.zeroValue141 }
open Go.Sort Go.RowKit in
theorem Try.slices_Sort_string (blk off cap : Nat) (ss : List (List UInt8)) (w : World) (hH : Holds encStr w blk off ss.toArray) (hblk : blk < w.heap.size) (hsz : ss.length < 4611686018427387904) :
    Calls Try.prog 73 #[.slice (some ⟨blk, off, none⟩) ss.length cap] w fun e w' =>
      e = .returned (.tuple #[]) ∧ ∃ n os, w' = grow (putRow encStr (Sort.ahead w n) blk off (ss.mergeSort fun x y => decide (x ≤ y)).toArray) os := Any.slices_Sort_string Try.lays190 blk off cap ss w hH hblk hsz
open Go.RowKit Go.Sort in
/-- .. and plain. (LAID: no walk: one application.) -/
theorem Try.slices_Sort_string_none (p : Option Addr) (cap : Nat) (w : World) :
    Calls Try.prog 73 #[.slice p 0 cap] w fun e w' => e = .returned (.tuple #[]) ∧ w' = w := Any.slices_Sort_string_none Try.lays190 p cap w
end Go.Proofs
end

section
namespace Go.Proofs
open Go.RowKit Go.Maps Go.Sort Go.Shelf
def Try.sorted_ren : Go.Shelf.Ren := ⟨fun | 6 => 58 | 8 => 72 | 11 => 79 | 9 => 73 | n => n, fun | 0 => 0 | 24 => 39 | 26 => 9 | 28 => 103 | 33 => 59 | n => n, fun | n => n⟩
theorem Try.sorted_lays : SlLaysZ.n6 Try.prog Try.sorted_ren := {
  mixed := by kernel_rfl
  f6 := ⟨Try.f58.name, by kernel_rfl, Try.func58.trans (congrArg some (by kernel_rfl))⟩
  f8 := ⟨Try.f72.name, by kernel_rfl, Try.func72.trans (congrArg some (by kernel_rfl))⟩
  f11 := ⟨Try.f79.name, by kernel_rfl, Try.func79.trans (congrArg some (by kernel_rfl))⟩
  t0 := Try.underlying0
  a0 := Try.isAgg0
  z0 := Try.sizeOf0
  v0 := Try.zeroValue0
  t24 := Try.underlying39
  a24 := Try.isAgg39
  z24 := Try.sizeOf39
  v24 := Try.zeroValue39
  t26 := Try.underlying9
  a26 := Try.isAgg9
  z26 := Try.sizeOf9
  v26 := Try.zeroValue9
  t28 := Try.underlying103
  a28 := Try.isAgg103
  z28 := Try.sizeOf103
  v28 := Try.zeroValue103
  i26 := by kernel_rfl }
theorem Try.sorts_in (m : Nat) : AnyZ.SortsIn Try.prog Try.sorted_ren Fence.wide m :=
  ⟨fun blk off cap ss W hH hblk hsz => callsIn_wide.2 (Try.slices_Sort_string blk off cap ss W hH hblk hsz),
   fun p cap W => callsIn_wide.2 (Try.slices_Sort_string_none p cap W)⟩
end Go.Proofs
namespace Go.Proofs.Ytlcahhlghjbnkaa
open Go Go.RowKit Go.Maps Go.Sort Go.Shelf A R
abbrev keyS (s : ByteArray) : Value := .string s
abbrev okS (s : ByteArray) : Prop := s.size ≤ A.maxI
theorem keyS_T : KeyT Try.prog 9 ByteArray keyS okS := KeyT.of (Maps.string_keyed Try.underlying9) (fun a ha => ⟨_, Go.WideMaps.keyOf_string_mk Try.underlying9 ha⟩) fun a b h => by cases h; rfl
/-- Texts that rise. -/
def Rise (ks : List ByteArray) : Prop := ks.Pairwise fun a b => Op.bytesLess a.toList b.toList = true
theorem enc_flat : ∀ (ks : List ByteArray), (ks.map (·.data.toList)).map encStr = (ks.map fun s => [Value.string s]).flatten
  | [] => rfl
  | a :: r => by simp only [List.map_cons, List.flatten_cons]; rw [enc_flat r]; rfl
end Go.Proofs.Ytlcahhlghjbnkaa
end

section
namespace Go.Proofs.Ytlcahhlghjbnkaa.A
open Go Go.RowKit
theorem find_congr {α : Type} {p q : α → Bool} : ∀ {l : List α}, (∀ x ∈ l, p x = q x) → l.find? p = l.find? q
  | [], _ => rfl
  | x :: l, h => by
    rw [List.find?_cons, List.find?_cons, h x (by simp), find_congr fun y hy => h y (by simp [hy])]
/-- Whatever of the operations is done: what they yield, in whichever order. -/
def stL (l : List Oper) (ss : Nat → SV) (L : Nat → Bool) (st : ASt) : ASt := { st with sl := fun t => match (List.range l.length).find? (fun i => L i && (l[i]?.bind (·.dst)) == some t) with | some i => ss i | none => st.sl t }
theorem stL_congr {l : List Oper} {ss ss' : Nat → SV} {L L' : Nat → Bool} {st : ASt} (hL : ∀ i, i < l.length → L i = L' i) (hs : ∀ i, i < l.length → L i = true → ss i = ss' i) : stL l ss L st = stL l ss' L' st := by
  unfold stL
  congr 1
  funext t
  have e : (List.range l.length).find? (fun i => L i && (l[i]?.bind (·.dst)) == some t) = (List.range l.length).find? (fun i => L' i && (l[i]?.bind (·.dst)) == some t) := by
    apply find_congr
    intro i hi
    rw [hL i (List.mem_range.1 hi)]
  rw [← e]
  cases h : (List.range l.length).find? (fun i => L i && (l[i]?.bind (·.dst)) == some t) with
  | none => rfl
  | some i =>
    have h1 := List.find?_some h
    have h2 := List.mem_range.1 (List.mem_of_find?_eq_some h)
    simp only [Bool.and_eq_true] at h1
    exact hs i h2 h1.1
theorem find_uniq {l : List Oper} {L : Nat → Bool} {i t : Nat} {o : Oper} (hd : Ev.distinct l = true) (hi : l[i]? = some o) (ho : o.dst = some t) (hL : L i = true) : (List.range l.length).find? (fun i => L i && (l[i]?.bind (·.dst)) == some t) = some i := by
  have hil : i < l.length := (List.getElem?_eq_some_iff.1 hi).1
  cases h : (List.range l.length).find? (fun i => L i && (l[i]?.bind (·.dst)) == some t) with
  | none =>
    have := List.find?_eq_none.1 h i (List.mem_range.2 hil)
    simp [hL, hi, ho] at this
  | some j =>
    have h1 := List.find?_some h
    simp only [Bool.and_eq_true, beq_iff_eq] at h1
    obtain ⟨oj, h2, h3⟩ := Option.bind_eq_some_iff.1 h1.2
    congr 1
    rcases Nat.lt_trichotomy i j with e | e | e
    · exact (dist_ne hd hi h2 e ho h3).elim
    · exact e.symm
    · exact (dist_ne hd h2 hi e h3 ho).elim
theorem stL_at {l : List Oper} {ss : Nat → SV} {L : Nat → Bool} {st : ASt} {i t : Nat} {o : Oper} (hd : Ev.distinct l = true) (hi : l[i]? = some o) (ho : o.dst = some t) (hL : L i = true) : (stL l ss L st).sl t = ss i := by
  unfold stL
  simp only [find_uniq hd hi ho hL]
theorem stL_out {l : List Oper} {ss : Nat → SV} {L : Nat → Bool} {st : ASt} {t : Nat} (h : ∀ (i : Nat) (o : Oper), l[i]? = some o → o.dst = some t → L i = false) : (stL l ss L st).sl t = st.sl t := by
  unfold stL
  have e : (List.range l.length).find? (fun i => L i && (l[i]?.bind (·.dst)) == some t) = none := by
    rw [List.find?_eq_none]
    intro i hi
    simp only [Bool.and_eq_true, beq_iff_eq, not_and]
    intro hL h2
    obtain ⟨o, h3, h4⟩ := Option.bind_eq_some_iff.1 h2
    rw [h i o h3 h4] at hL; cases hL
  simp only [e]
theorem stL_none {l : List Oper} {ss : Nat → SV} {st : ASt} : stL l ss (fun _ => false) st = st := by
  unfold stL
  have e : ∀ t, (List.range l.length).find? (fun i => false && (l[i]?.bind (·.dst)) == some t) = none := fun t => by
    rw [List.find?_eq_none]; intro i _; simp
  simp only [e]
/-- One more is done. -/
theorem stL_set {l : List Oper} {ss : Nat → SV} {L L' : Nat → Bool} {st : ASt} {j d : Nat} {o : Oper} (hd : Ev.distinct l = true) (hj : l[j]? = some o) (ho : o.dst = some d) (hL' : ∀ i, L' i = (L i || decide (i = j))) : (stL l ss L st).set d (ss j) = stL l ss L' st := by
  have hb : ∀ {s s' : ASt}, s.sl = s'.sl → s.ob = s'.ob → s = s' := fun {s s'} h1 h2 => by cases s; cases s'; simp_all
  refine hb (funext fun t => ?_) rfl
  show (bif Nat.beq t d then ss j else (stL l ss L st).sl t) = (stL l ss L' st).sl t
  cases ht : Nat.beq t d with
  | true =>
    have := Nat.eq_of_beq_eq_true ht
    subst this
    exact (stL_at hd hj ho (by rw [hL' j]; simp)).symm
  | false =>
    have hne : t ≠ d := fun e => by subst e; simp at ht
    show (stL l ss L st).sl t = (stL l ss L' st).sl t
    unfold stL
    have e : (List.range l.length).find? (fun i => L i && (l[i]?.bind (·.dst)) == some t) = (List.range l.length).find? (fun i => L' i && (l[i]?.bind (·.dst)) == some t) := by
      apply find_congr
      intro i _
      rw [hL' i]
      by_cases e : i = j
      · subst e
        have : ((l[i]?.bind (·.dst)) == some t) = false := by
          rw [hj]
          simp only [Option.bind_some, ho, beq_eq_false_iff_ne, ne_eq, Option.some.injEq]
          exact fun e => hne e.symm
        rw [this]; simp
      · simp [e]
    simp only [e]
theorem St_frame {P : Program} {ops : Array Oper} {st st' : ASt} {o : Oper} {s : SV} (h : St P ops st o s) (hx : ∀ x ∈ opsOf o, st'.ev x = st.ev x) (hg : ∀ j b oj dj, o.guard = some (j, b) → ops[j]? = some oj → oj.dst = some dj → st'.sl dj = st.sl dj) (hob : ∀ k g ob, st.ob k = some (g, ob) → st'.ob k = some (g, ob)) : St P ops st' o s := fun B M ρ w a h1 h2 h3 h4 hev => by
  have h5 := h B M ρ w a h1 (fun x hx' => by rw [← hx x hx']; exact h2 x hx') (fun j b oj dj k1 k2 k3 => by rw [← hg j b oj dj k1 k2 k3]; exact h3 j b oj dj k1 k2 k3) (fun k g ob hk => h4 k g ob (hob k g ob hk)) (hev.sub hob)
  split
  · rename_i hw
    rw [if_pos hw] at h5
    intro K hK
    exact h5 K fun v w' hk hv => hK v w' (hk.sup hev hob) hv
  · rename_i hw
    rw [if_neg hw] at h5
    exact h5
/-- What a walk of the operations, each behind those ahead of it, tells of each. -/
theorem dr_all {P : Program} {ops : Array Oper} {R : ASt → Prop} {l : List Oper} {st : ASt} (hd : Ev.distinct l = true) : ∀ (r : List Oper) (j : Nat) (ss0 : Nat → SV), l.drop j = r → Dr P ops R r (stL l ss0 (fun i => decide (i < j)) st) →
    ∃ ss : Nat → SV, (∀ i, i < j → ss i = ss0 i) ∧ (∀ i o, j ≤ i → l[i]? = some o → ∃ d, o.dst = some d ∧ St P ops (stL l ss (fun x => decide (x < i)) st) o (ss i)) ∧ R (stL l ss (fun _ => true) st)
  | [], j, ss0, hr, h => ⟨ss0, fun _ _ => rfl, fun i o h1 h2 => by
      have h3 := (List.getElem?_eq_some_iff.1 h2).1
      have h4 := congrArg List.length hr
      simp at h4; omega, by
      have h4 := congrArg List.length hr
      simp at h4
      have e : stL l ss0 (fun i => decide (i < j)) st = stL l ss0 (fun _ => true) st := stL_congr (fun i hi => by simp; omega) (fun _ _ _ => rfl)
      rw [← e]; exact h⟩
  | o :: r, j, ss0, hr, h => by
    obtain ⟨d, s, hdo, hst, hdr⟩ := h
    have hj : l[j]? = some o := by
      have : (l.drop j)[0]? = some o := by rw [hr]; rfl
      simpa using this
    let ss1 : Nat → SV := fun i => if i = j then s else ss0 i
    have e0 : stL l ss0 (fun i => decide (i < j)) st = stL l ss1 (fun i => decide (i < j)) st := stL_congr (fun _ _ => rfl) (fun i _ h => by
      have : i < j := by simpa using h
      simp [ss1, show i ≠ j by omega])
    have e1 : (stL l ss0 (fun i => decide (i < j)) st).set d s = stL l ss1 (fun i => decide (i < j + 1)) st := by
      rw [e0]
      have : s = ss1 j := by simp [ss1]
      rw [this]
      exact stL_set hd hj hdo fun i => by
        rw [Bool.eq_iff_iff]; simp; omega
    rw [e1] at hdr
    obtain ⟨ss, h1, h2, h3⟩ := dr_all hd r (j + 1) ss1 (by
      have : (l.drop j).drop 1 = r := by rw [hr]; rfl
      rwa [List.drop_drop] at this) hdr
    refine ⟨ss, fun i hi => by rw [h1 i (by omega)]; simp [ss1, show i ≠ j by omega], fun i o' hi ho' => ?_, h3⟩
    by_cases e : i = j
    · subst e
      rw [hj] at ho'; cases ho'
      refine ⟨d, hdo, ?_⟩
      have e2 : stL l ss0 (fun x => decide (x < i)) st = stL l ss (fun x => decide (x < i)) st := stL_congr (fun _ _ => rfl) (fun x _ hx => by
        have : x < i := by simpa using hx
        rw [h1 x (by omega)]; simp [ss1, show x ≠ i by omega])
      rw [← e2]
      have : ss i = s := by rw [h1 i (by omega)]; simp [ss1]
      rw [this]; exact hst
    · exact h2 i o' (by omega) ho'
/-- The variable is made. -/
def alcS (d g : Nat) (o : AO) (st : ASt) : ASt := (st.put d g o).set d (.bx d g 0)
def alcO (d : Nat) (o : AO) : Option Nat → ASt → ASt
  | none, st => st
  | some g, st => alcS d g o st
theorem alcS_set {d g e : Nat} {o : AO} {s : SV} {st : ASt} (h : e ≠ d) : (alcS d g o st).set e s = alcS d g o (st.set e s) := by
  have hb : ∀ {s s' : ASt}, s.sl = s'.sl → s.ob = s'.ob → s = s' := fun {s s'} h1 h2 => by cases s; cases s'; simp_all
  refine hb (funext fun t => ?_) rfl
  show (bif Nat.beq t e then s else bif Nat.beq t d then SV.bx d g 0 else st.sl t) = (bif Nat.beq t d then SV.bx d g 0 else bif Nat.beq t e then s else st.sl t)
  cases h1 : Nat.beq t e with
  | false => rfl
  | true =>
    cases h2 : Nat.beq t d with
    | false => rfl
    | true =>
      have e1 := Nat.eq_of_beq_eq_true h1
      have e2 := Nat.eq_of_beq_eq_true h2
      exact absurd (e1.symm.trans e2) h
def drawAB (N : Nat) (l : List Oper) (n dA : Nat) : Bool := Ev.distinct (l.take n) && Ev.backB l.toArray && Ev.tailB l.toArray (n + 1) && drB N l n && ((l.take n).all fun o => match o.dst with | some d => decide (d < N) && !Nat.beq d dA | none => false) && (l.take n).all fun o => ((opsOf o).all fun | .tmp t => !Nat.beq t dA | _ => true) && match o.guard with | some (j, _) => (match l[j]? with | some oj => (match oj.dst with | some dj => !Nat.beq dj dA | none => true) | none => true) | none => true
section
variable {P : Program} {N : Nat} {M0 : Nat → Prop} {w0 : Base} {Q : Exit → ASt → Prop} {st : ASt}
theorem drawA_go {l : List Oper} {n dA : Nat} {oA : Oper} {T : TypeId} {z : Value} {zs : List AV} {ss : Nat → SV} (hok : drawAB N l n dA = true) (hA : l[n]? = some oA) (ho : oA.op = .alloc T) (hgA : oA.guard = none) (hdA : oA.dst = some dA) (hNA : dA < N) (hz : ∀ w, (zeroValue T).run P w = .ok z w) (hzs : z.cells.toList.map AV.v = zs) (hv : z.cells.toList.all (fun z => decide (vok z)) = true) (hfree : st.ob dA = none)
    (hst : ∀ i o, (l.take n)[i]? = some o → ∃ d, o.dst = some d ∧ St P l.toArray (stL (l.take n) ss (fun x => decide (x < i)) st) o (ss i))
    (hfin : ∀ g, Al P N M0 w0 l.toArray Q (l.drop (n + 1)) (alcS dA g (.box T (zs.map .d)) (stL (l.take n) ss (fun _ => true) st))) :
    ∀ (fuel : Nat) (listed : Array Bool) (og : Option Nat), listed.size = l.length → Ev.Closed l.toArray listed → listed[n]? = some og.isSome → (∀ i, n < i → i < l.length → listed[i]? = some false) → listed.count false ≤ fuel →
      Ad P N M0 w0 l.toArray Q fuel listed (alcO dA (.box T (zs.map .d)) og (stL (l.take n) ss (fun i => listed.getD i false) st)) := by
  simp only [drawAB, Bool.and_eq_true] at hok
  obtain ⟨⟨⟨⟨⟨hd, hb⟩, ht⟩, hdr⟩, hds⟩, hdA2⟩ := hok
  have hnl : n < l.length := (List.getElem?_eq_some_iff.1 hA).1
  have hsz : l.toArray.size = l.length := by simp
  have hget : ∀ (j : Nat), l.toArray[j]? = l[j]? := fun j => by simp
  have htk : ∀ (j : Nat), j < n → (l.take n)[j]? = l[j]? := fun j hj => by rw [List.getElem?_take, if_pos hj]
  have hlen : (l.take n).length = n := by simp; omega
  have fin : ∀ (fuel : Nat) (listed : Array Bool) (og : Option Nat), listed.size = l.length → Ev.Closed l.toArray listed → listed[n]? = some og.isSome → (∀ i, n < i → i < l.length → listed[i]? = some false) → listed.count false ≤ fuel → (∀ i, i < n + 1 → listed[i]? = some true) →
      Ad P N M0 w0 l.toArray Q fuel listed (alcO dA (.box T (zs.map .d)) og (stL (l.take n) ss (fun i => listed.getD i false) st)) := by
    intro fuel listed og hs hcl hog hun hfu hall
    have h1 := hall n (by omega)
    rw [hog] at h1
    obtain ⟨g, rfl⟩ : ∃ g, og = some g := by
      cases og with
      | none => simp at h1
      | some g => exact ⟨g, rfl⟩
    have e : stL (l.take n) ss (fun i => listed.getD i false) st = stL (l.take n) ss (fun _ => true) st := stL_congr (fun i hi => by
      have := hall i (by omega)
      simp [Array.getD_eq_getD_getElem?, this]) (fun _ _ _ => rfl)
    rw [e]
    refine ⟨fun a w hs' => ?_⟩
    have hcnt : l.length - (n + 1) ≤ fuel := by
      have e : listed.toList = listed.toList.take (n + 1) ++ List.replicate (l.length - (n + 1)) false := by
        apply List.ext_getElem?
        intro i
        rcases Nat.lt_or_ge i (n + 1) with h | h
        · rw [List.getElem?_append_left (by simp; omega), List.getElem?_take_of_lt h]
        · rw [List.getElem?_append_right (by simp; omega)]
          rcases Nat.lt_or_ge i l.length with h2 | h2
          · have := hun i (by omega) h2
            have e1 : listed.toList[i]? = some false := by simpa using this
            rw [e1, List.getElem?_replicate, if_pos (by simp; omega)]
          · rw [List.getElem?_eq_none (by simp; omega), List.getElem?_eq_none (by simp; omega)]
      have h2 : listed.count false = listed.toList.count false := by rw [Array.count_toList]
      rw [h2, e, List.count_append] at hfu
      simp at hfu
      omega
    refine Ev.seq_any hb ht (l.length - (n + 1)) fuel (n + 1) listed a w (by simp; omega) hcnt (Nat.le_refl _) (by simpa using hs) (fun i hi => hall i hi) (fun i hi hi2 => hun i (by omega) (by simpa using hi2)) hcl ?_
    have h3 := wpOps_eq_wpList (P := P) (ops := l.toArray) (Q := QL N M0 w0 Q) (l.drop (n + 1)) (n + 1) (fun j => by simp)
    rw [List.length_drop] at h3
    rw [h3]
    exact (hfin g).out a w hs'
  intro fuel
  induction fuel with
  | zero =>
    intro listed og hs hcl hog hun hn
    refine fin 0 listed og hs hcl hog hun hn fun i hi => ?_
    cases hl : listed[i]? with
    | none => rw [Array.getElem?_eq_none_iff] at hl; omega
    | some b =>
      cases b with
      | true => rfl
      | false =>
        have : false ∈ listed := Array.mem_of_getElem? hl
        have := Array.count_pos_iff.2 this
        omega
  | succ fuel ih =>
    intro listed og hs hcl hog hun hn
    by_cases hall : ∀ (i : Nat), i < n + 1 → listed[i]? = some true
    · exact fin (fuel + 1) listed og hs hcl hog hun hn hall
    refine ⟨fun a w hsim => ⟨fun h0 => ?_, fun j hj => ?_⟩⟩
    · exfalso
      apply hall
      intro i
      induction i using Nat.strongRecOn with
      | _ i ih' =>
        intro hi
        cases hl : listed[i]? with
        | none => rw [Array.getElem?_eq_none_iff] at hl; omega
        | some b =>
          cases b with
          | true => rfl
          | false =>
            have := Ev.ready_of_least hb (by simpa using hs) (by simp; omega) hl (fun k hk => ih' k hk (by omega))
            rw [h0] at this
            cases this
    obtain ⟨hju, o, hoj, hdone⟩ := mem_ready.1 hj
    have hjo : j < l.length := by
      have := (Array.getElem?_eq_some_iff.1 hoj).1
      simpa using this
    have hlt : j < listed.size := by omega
    have hjl : listed[j]? = some false := by simp [Array.getD, hlt] at hju; simp [hlt, hju]
    have hj1 : j < n + 1 := by
      rcases Nat.lt_or_ge j (n + 1) with h | h
      · exact h
      · exact (hall fun i hi => Ev.ready_all ht hcl hj h i (by omega)).elim
    have hoj' : l[j]? = some o := by rw [← hget]; exact hoj
    have hdl : ∀ d ∈ Ev.depsOf o, listed[d]? = some true := Ev.deps_listed hdone
    have hold : ∀ (i : Nat), i ≠ j → (listed.setIfInBounds j true)[i]? = listed[i]? := fun i hij => by
      rw [Array.getElem?_setIfInBounds, if_neg (Ne.symm hij)]
    have hcl' : Ev.Closed l.toArray (listed.setIfInBounds j true) := fun i o' hi ho' d hd' => by
      have keep : ∀ (y : Nat), listed[y]? = some true → (listed.setIfInBounds j true)[y]? = some true := fun y hy => by
        by_cases e : y = j
        · subst e; simp [hlt]
        · rw [hold y e]; exact hy
      by_cases hij : i = j
      · subst hij
        rw [hoj] at ho'
        cases ho'
        exact keep d (hdl d hd')
      · rw [hold i hij] at hi
        exact keep d (hcl i o' hi ho' d hd')
    have hcnt : (listed.setIfInBounds j true).count false ≤ fuel := by
      have := Array.count_set (xs := listed) (i := j) (a := true) (b := false) hlt
      rw [Array.setIfInBounds, dif_pos hlt]
      have h3 : listed[j] = false := by simpa [hlt] using hjl
      have h4 : 0 < listed.count false := Array.count_pos_iff.2 (Array.mem_iff_getElem.2 ⟨j, hlt, h3⟩)
      rw [this]
      simp [h3]
      omega
    have hLL : ∀ i, (listed.setIfInBounds j true).getD i false = (listed.getD i false || decide (i = j)) := fun i => by
      by_cases e : i = j
      · subst e; simp [Array.getD_eq_getD_getElem?, hlt]
      · simp [Array.getD_eq_getD_getElem?, hold i e, e]
    have hun' : ∀ i, n < i → i < l.length → (listed.setIfInBounds j true)[i]? = some false := fun i h1 h2 => by
      rw [hold i (by omega)]; exact hun i h1 h2
    by_cases hjn : j = n
    · subst hjn
      rw [hA] at hoj'; cases hoj'
      have hog' : og = none := by
        rw [hjl] at hog
        cases og with
        | none => rfl
        | some g => simp at hog
      subst hog'
      refine wpOp_of_list hoj ((Al_alloc (l := []) (Q := Then (Ad P N M0 w0 l.toArray Q fuel (listed.setIfInBounds j true)) Q) ho hgA hdA hNA hz hzs hv (fun g => Al_nil ?_)).out a w hsim) (fun a' w' ⟨st', h1, h2⟩ => h1.out a' w' h2) (fun c a' w' h => h) (fun ⟨a', w', h⟩ => ⟨a', w', h⟩)
      have := ih (listed.setIfInBounds j true) (some g) (by simpa using hs) hcl' (by simp [hlt]) hun' hcnt
      have e : stL (l.take j) ss (fun i => (listed.setIfInBounds j true).getD i false) st = stL (l.take j) ss (fun i => listed.getD i false) st := stL_congr (fun i hi => by
        rw [hLL i]
        simp at hi
        simp [show i ≠ j by omega]) (fun _ _ _ => rfl)
      rw [e] at this
      exact this
    · have hjn' : j < n := by omega
      have hjt : (l.take n)[j]? = some o := by rw [htk j hjn']; exact hoj'
      obtain ⟨d, hdo, hS⟩ := hst j o hjt
      have hmem : o ∈ l.take n := List.mem_of_getElem? hjt
      have hdN := List.all_eq_true.1 hds o hmem
      rw [hdo] at hdN
      simp only [Bool.and_eq_true, decide_eq_true_eq, Bool.not_eq_true'] at hdN
      have hddA : d ≠ dA := fun e => by rw [e] at hdN; simp at hdN
      have hno := List.all_eq_true.1 hdA2 o hmem
      simp only [Bool.and_eq_true] at hno
      have hdrj := List.all_eq_true.1 hdr j (List.mem_range.2 hjn')
      rw [hoj'] at hdrj
      simp only [Bool.and_eq_true] at hdrj
      obtain ⟨⟨hops, hgd⟩, hconst⟩ := hdrj
      have hsl : ∀ t, opB (l.take n) j o t = true → t ≠ dA → (alcO dA (.box T (zs.map .d)) og (stL (l.take n) ss (fun i => listed.getD i false) st)).sl t = (stL (l.take n) ss (fun x => decide (x < j)) st).sl t := by
        intro t hop hne
        have e1 : (alcO dA (.box T (zs.map .d)) og (stL (l.take n) ss (fun i => listed.getD i false) st)).sl t = (stL (l.take n) ss (fun i => listed.getD i false) st).sl t := by
          cases og with
          | none => rfl
          | some g =>
            show (bif Nat.beq t dA then _ else _) = _
            have : Nat.beq t dA = false := by
              cases hb : Nat.beq t dA with
              | false => rfl
              | true => exact absurd (Nat.eq_of_beq_eq_true hb) hne
            rw [this]; rfl
        rw [e1]
        by_cases hin : inB (l.take n) t = true
        · simp only [opB, hin, Bool.not_true, Bool.false_or, List.any_eq_true, List.mem_range, Bool.and_eq_true, beq_iff_eq] at hop
          obtain ⟨i, hi, hid, hic⟩ := hop
          obtain ⟨oi, hoi, hoid⟩ := Option.bind_eq_some_iff.1 hid
          have hli := hdl i (by simpa using hic)
          rw [stL_at hd hoi hoid (by simp [Array.getD_eq_getD_getElem?, hli]), stL_at hd hoi hoid (by simpa using hi)]
        · have hout : ∀ (i : Nat) (o' : Oper), (l.take n)[i]? = some o' → o'.dst ≠ some t := fun i o' h1 h2 => hin (by
            simp only [inB, List.any_eq_true, beq_iff_eq]
            exact ⟨o', List.mem_of_getElem? h1, h2⟩)
          rw [stL_out fun i o' h1 h2 => absurd h2 (hout i o' h1), stL_out fun i o' h1 h2 => absurd h2 (hout i o' h1)]
      have hS2 : St P l.toArray (alcO dA (.box T (zs.map .d)) og (stL (l.take n) ss (fun i => listed.getD i false) st)) o (ss j) := by
        refine St_frame hS (fun x hx => ?_) (fun j' b oj dj h1 h2 h3 => ?_) (fun k g ob h => ?_)
        · cases x with
          | tmp t =>
            have h1 := List.all_eq_true.1 hops _ hx
            have h2 := List.all_eq_true.1 hno.1 _ hx
            exact hsl t h1 (fun e => by rw [e] at h2; simp at h2)
          | _ => rfl
        · rw [hget] at h2
          rw [h1] at hgd
          simp only [h2, h3, Bool.and_eq_true, decide_eq_true_eq] at hgd
          have h4 := hno.2
          rw [h1] at h4
          simp only [h2, h3, Bool.not_eq_true'] at h4
          exact hsl dj hgd.1 (fun e => by rw [e] at h4; simp at h4)
        · cases og with
          | none => exact h
          | some g' =>
            show (bif Nat.beq k dA then _ else st.ob k) = _
            have h' : st.ob k = some (g, ob) := h
            have : Nat.beq k dA = false := by
              cases hb : Nat.beq k dA with
              | false => rfl
              | true =>
                have := Nat.eq_of_beq_eq_true hb
                subst this
                rw [hfree] at h'; cases h'
            rw [this]; exact h'
      refine wpOp_of_list hoj ((Al_st (l := []) (Q := Then (Ad P N M0 w0 l.toArray Q fuel (listed.setIfInBounds j true)) Q) hS2 hdo hdN.1 hconst (fun j' b oj dj h1 h2 h3 => ?_) (Al_nil ?_)).out a w hsim) (fun a' w' ⟨st', h1, h2⟩ => h1.out a' w' h2) (fun c a' w' h => h) (fun ⟨a', w', h⟩ => ⟨a', w', h⟩)
      · rw [hget] at h2
        rw [h1] at hgd
        simp only [h2, h3, Bool.and_eq_true, decide_eq_true_eq] at hgd
        exact hgd.2
      · have := ih (listed.setIfInBounds j true) og (by simpa using hs) hcl' (by rw [hold n (by omega)]; exact hog) hun' hcnt
        have e : (alcO dA (.box T (zs.map .d)) og (stL (l.take n) ss (fun i => listed.getD i false) st)).set d (ss j) = alcO dA (.box T (zs.map .d)) og (stL (l.take n) ss (fun i => (listed.setIfInBounds j true).getD i false) st) := by
          have e2 : (stL (l.take n) ss (fun i => listed.getD i false) st).set d (ss j) = stL (l.take n) ss (fun i => (listed.setIfInBounds j true).getD i false) st := stL_set hd hjt hdo hLL
          cases og with
          | none => exact e2
          | some g => show (alcS _ _ _ _).set d (ss j) = alcS _ _ _ _; rw [alcS_set hddA, e2]
        show Ad P N M0 w0 l.toArray Q fuel (listed.setIfInBounds j true) _
        rw [e]
        exact this
/-- A region that draws its order: pure operations, a variable that is made, and what stands behind all of these. -/
theorem Aw_drawA {id : Nat} {l : List Oper} (n : Nat) {oA : Oper} {dA : Nat} {T : TypeId} {z : Value} {zs : List AV} (hm : P.follows .mixedOrders = true) (hok : drawAB N l n dA = true) (hA : l[n]? = some oA) (ho : oA.op = .alloc T) (hgA : oA.guard = none) (hdA : oA.dst = some dA) (hNA : dA < N) (hz : ∀ w, (zeroValue T).run P w = .ok z w) (hzs : z.cells.toList.map AV.v = zs) (hv : z.cells.toList.all (fun z => decide (vok z)) = true) (hfree : st.ob dA = none)
    (h : Dr P l.toArray (fun st' => ∀ g, Al P N M0 w0 l.toArray Q (l.drop (n + 1)) ((st'.put dA g (.box T (zs.map .d))).set dA (.bx dA g 0))) (l.take n) st) : Aw P N M0 w0 (.region id l.toArray true) Q st := by
  have hd : Ev.distinct (l.take n) = true := by
    simp only [drawAB, Bool.and_eq_true] at hok
    exact hok.1.1.1.1.1
  have hnl : n < l.length := (List.getElem?_eq_some_iff.1 hA).1
  have h0 : stL (l.take n) (fun _ => .any) (fun i => decide (i < 0)) st = st := by
    refine Eq.trans (stL_congr (fun i _ => ?_) (fun _ _ _ => rfl)) (stL_none (l := l.take n) (ss := fun _ => .any) (st := st))
    simp
  obtain ⟨ss, _, h2, h3⟩ := dr_all hd (l.take n) 0 (fun _ => .any) rfl (by rw [h0]; exact h)
  refine Aw_drawn hm ?_
  have := drawA_go hok hA ho hgA hdA hNA hz hzs hv hfree (fun i o hi => h2 i o (Nat.zero_le _) hi) (fun g => h3 g) l.length (List.replicate l.length false).toArray none (by simp) (fun i o h1 _ d _ => by
    exfalso
    rw [List.getElem?_toArray, List.getElem?_replicate] at h1
    split at h1 <;> simp at h1) (by simp [List.getElem?_replicate, hnl]) (fun i _ hi => by simp [List.getElem?_replicate, hi]) (by simp [Array.count_replicate])
  have e : stL (l.take n) ss (fun i => (List.replicate l.length false).toArray.getD i false) st = st := by
    refine Eq.trans (stL_congr (fun i _ => ?_) (fun _ _ _ => rfl)) stL_none
    rw [Array.getD_eq_getD_getElem?, List.getElem?_toArray, List.getElem?_replicate]
    split <;> rfl
  rw [e] at this
  exact this
end
end Go.Proofs.Ytlcahhlghjbnkaa.A
end

section
namespace Go.Proofs.Ytlcahhlghjbnkaa.A
open Go Go.RowKit
section
variable {P : Program} {N : Nat} {M0 : Nat → Prop} {w0 : Base} {Q : Exit → ASt → Prop} {st : ASt}
/-- From n on all but nA wait for what stands ahead of n. -/
def preAB (ops : Array Oper) (n nA : Nat) : Bool := (List.range ops.size).all fun j => decide (j < n) || (Nat.beq j nA || (List.range n).all fun i => (Ev.anc ops j (match ops[j]? with | some o => Ev.depsOf o | none => [])).contains i)
theorem preA_ready {ops : Array Oper} {listed : Array Bool} {n nA j : Nat} (ht : preAB ops n nA = true) (hc : Ev.Closed ops listed) (hj : j ∈ Region.ready .any ops listed) (hk : n ≤ j) (hA : j ≠ nA) : ∀ i, i < n → listed[i]? = some true := by
  obtain ⟨_, o, ho, hall⟩ := mem_ready.1 hj
  have hlt : j < ops.size := (Array.getElem?_eq_some_iff.1 ho).1
  have h1 := List.all_eq_true.1 ht j (List.mem_range.2 hlt)
  rw [ho] at h1
  simp only [Bool.or_eq_true, decide_eq_true_eq, List.all_eq_true] at h1
  intro i hi
  rcases h1 with h1 | h1 | h1
  · omega
  · exact (hA (Nat.eq_of_beq_eq_true h1)).elim
  · have h2 := h1 i (List.mem_range.2 hi)
    exact Ev.anc_listed hc j _ (Ev.deps_listed hall) i (by simpa using h2)
def drawPAB (N : Nat) (l : List Oper) (n nA dA : Nat) : Bool := Ev.distinct (l.take n) && Ev.backB l.toArray && preAB l.toArray n nA && drB N l n && ((l.take n).all fun o => match o.dst with | some d => decide (d < N) && !Nat.beq d dA | none => false) && (l.take n).all fun o => ((opsOf o).all fun | .tmp t => !Nat.beq t dA | _ => true) && match o.guard with | some (j, _) => (match l[j]? with | some oj => (match oj.dst with | some dj => !Nat.beq dj dA | none => true) | none => true) | none => true
theorem drawPA_go {l : List Oper} {n nA m dA : Nat} {oA : Oper} {T : TypeId} {z : Value} {zs : List AV} {ss : Nat → SV} (hok : drawPAB N l n nA dA = true) (hnm : l.length = n + (m + 1)) (hnA : n ≤ nA) (hA : l[nA]? = some oA) (ho : oA.op = .alloc T) (hgA : oA.guard = none) (hdA : oA.dst = some dA) (hNA : dA < N) (hz : ∀ w, (zeroValue T).run P w = .ok z w) (hzs : z.cells.toList.map AV.v = zs) (hv : z.cells.toList.all (fun z => decide (vok z)) = true) (hfree : st.ob dA = none)
    (hst : ∀ i o, (l.take n)[i]? = some o → ∃ d, o.dst = some d ∧ St P l.toArray (stL (l.take n) ss (fun x => decide (x < i)) st) o (ss i))
    (hfin1 : Ad P N M0 w0 l.toArray Q (m + 1) (List.replicate n true ++ List.replicate (m + 1) false).toArray (stL (l.take n) ss (fun _ => true) st))
    (hfin2 : ∀ g, Ad P N M0 w0 l.toArray Q m ((List.replicate n true ++ List.replicate (m + 1) false).toArray.setIfInBounds nA true) (alcS dA g (.box T (zs.map .d)) (stL (l.take n) ss (fun _ => true) st))) :
    ∀ (fuel : Nat) (listed : Array Bool) (og : Option Nat), listed.size = l.length → Ev.Closed l.toArray listed → listed[nA]? = some og.isSome → (∀ i, n ≤ i → i ≠ nA → i < l.length → listed[i]? = some false) → listed.count false = fuel →
      Ad P N M0 w0 l.toArray Q fuel listed (alcO dA (.box T (zs.map .d)) og (stL (l.take n) ss (fun i => listed.getD i false) st)) := by
  simp only [drawPAB, Bool.and_eq_true] at hok
  obtain ⟨⟨⟨⟨⟨hd, hb⟩, ht⟩, hdr⟩, hds⟩, hdA2⟩ := hok
  have hnl : nA < l.length := (List.getElem?_eq_some_iff.1 hA).1
  have hsz : l.toArray.size = l.length := by simp
  have hget : ∀ (j : Nat), l.toArray[j]? = l[j]? := fun j => by simp
  have htk : ∀ (j : Nat), j < n → (l.take n)[j]? = l[j]? := fun j hj => by rw [List.getElem?_take, if_pos hj]
  have hlen : (l.take n).length = n := by simp; omega
  have fin : ∀ (fuel : Nat) (listed : Array Bool) (og : Option Nat), listed.size = l.length → listed[nA]? = some og.isSome → (∀ i, n ≤ i → i ≠ nA → i < l.length → listed[i]? = some false) → listed.count false = fuel → (∀ i, i < n → listed[i]? = some true) →
      Ad P N M0 w0 l.toArray Q fuel listed (alcO dA (.box T (zs.map .d)) og (stL (l.take n) ss (fun i => listed.getD i false) st)) := by
    intro fuel listed og hs hog hun hfu hall
    have e : stL (l.take n) ss (fun i => listed.getD i false) st = stL (l.take n) ss (fun _ => true) st := stL_congr (fun i hi => by
      have := hall i (by omega)
      simp [Array.getD_eq_getD_getElem?, this]) (fun _ _ _ => rfl)
    have e1 : listed = if og.isSome then (List.replicate n true ++ List.replicate (m + 1) false).toArray.setIfInBounds nA true else (List.replicate n true ++ List.replicate (m + 1) false).toArray := by
      apply Array.ext'
      apply List.ext_getElem?
      intro i
      rw [Array.getElem?_toList, Array.getElem?_toList]
      have base : ∀ i, i ≠ nA → listed[i]? = (List.replicate n true ++ List.replicate (m + 1) false).toArray[i]? := fun i hi => by
        rw [List.getElem?_toArray (xs := List.replicate n true ++ List.replicate (m + 1) false)]
        rcases Nat.lt_or_ge i n with h | h
        · rw [hall i h, List.getElem?_append_left (by simpa using h), List.getElem?_replicate, if_pos h]
        · rw [List.getElem?_append_right (by simpa using h), List.getElem?_replicate, List.length_replicate]
          rcases Nat.lt_or_ge i l.length with h2 | h2
          · rw [hun i h hi h2, if_pos (by omega)]
          · rw [if_neg (by omega), Array.getElem?_eq_none (by omega)]
      by_cases hi : i = nA
      · subst hi
        rw [hog]
        cases og with
        | none =>
          simp only [Option.isSome_none, Bool.false_eq_true, if_false]
          rw [List.getElem?_toArray, List.getElem?_append_right (by simpa using hnA), List.getElem?_replicate, if_pos (by simp; omega)]
        | some g =>
          simp only [Option.isSome_some, if_true]
          rw [Array.getElem?_setIfInBounds_self_of_lt (by simp; omega)]
      · rw [base i hi]
        split
        · rw [Array.getElem?_setIfInBounds_ne (Ne.symm hi)]
        · rfl
    rw [e]
    cases og with
    | none =>
      simp only [Option.isSome_none, Bool.false_eq_true, if_false] at e1
      have e2 : fuel = m + 1 := by rw [← hfu, e1]; simp [List.count_replicate]
      rw [e2, e1]
      exact hfin1
    | some g =>
      simp only [Option.isSome_some, if_true] at e1
      have e2 : fuel = m := by
        have h3 : nA < (List.replicate n true ++ List.replicate (m + 1) false).toArray.size := by simp; omega
        have h4 : (List.replicate n true ++ List.replicate (m + 1) false).toArray[nA] = false := by
          have : (List.replicate n true ++ List.replicate (m + 1) false).toArray[nA]? = some false := by
            rw [List.getElem?_toArray, List.getElem?_append_right (by simpa using hnA), List.getElem?_replicate, if_pos (by simp; omega)]
          exact (Array.getElem?_eq_some_iff.1 this).2
        have h5 := Array.count_set (xs := (List.replicate n true ++ List.replicate (m + 1) false).toArray) (i := nA) (a := true) (b := false) h3
        rw [← hfu, e1, Array.setIfInBounds, dif_pos h3, h5, h4]
        simp [List.count_replicate]
      rw [e2, e1]
      exact hfin2 g
  intro fuel
  induction fuel with
  | zero =>
    intro listed og hs hcl hog hun hn
    refine fin 0 listed og hs hog hun hn fun i hi => ?_
    cases hl : listed[i]? with
    | none => rw [Array.getElem?_eq_none_iff] at hl; omega
    | some b =>
      cases b with
      | true => rfl
      | false =>
        have : false ∈ listed := Array.mem_of_getElem? hl
        have := Array.count_pos_iff.2 this
        omega
  | succ fuel ih =>
    intro listed og hs hcl hog hun hn
    by_cases hall : ∀ (i : Nat), i < n → listed[i]? = some true
    · exact fin (fuel + 1) listed og hs hog hun hn hall
    refine ⟨fun a w hsim => ⟨fun h0 => ?_, fun j hj => ?_⟩⟩
    · exfalso
      apply hall
      intro i
      induction i using Nat.strongRecOn with
      | _ i ih' =>
        intro hi
        cases hl : listed[i]? with
        | none => rw [Array.getElem?_eq_none_iff] at hl; omega
        | some b =>
          cases b with
          | true => rfl
          | false =>
            have := Ev.ready_of_least hb (by simpa using hs) (by simp; omega) hl (fun k hk => ih' k hk (by omega))
            rw [h0] at this
            cases this
    obtain ⟨hju, o, hoj, hdone⟩ := mem_ready.1 hj
    have hjo : j < l.length := by
      have := (Array.getElem?_eq_some_iff.1 hoj).1
      simpa using this
    have hlt : j < listed.size := by omega
    have hjl : listed[j]? = some false := by simp [Array.getD, hlt] at hju; simp [hlt, hju]
    have hoj' : l[j]? = some o := by rw [← hget]; exact hoj
    have hdl : ∀ d ∈ Ev.depsOf o, listed[d]? = some true := Ev.deps_listed hdone
    have hold : ∀ (i : Nat), i ≠ j → (listed.setIfInBounds j true)[i]? = listed[i]? := fun i hij => by
      rw [Array.getElem?_setIfInBounds, if_neg (Ne.symm hij)]
    have hcl' : Ev.Closed l.toArray (listed.setIfInBounds j true) := fun i o' hi ho' d hd' => by
      have keep : ∀ (y : Nat), listed[y]? = some true → (listed.setIfInBounds j true)[y]? = some true := fun y hy => by
        by_cases e : y = j
        · subst e; simp [hlt]
        · rw [hold y e]; exact hy
      by_cases hij : i = j
      · subst hij
        rw [hoj] at ho'
        cases ho'
        exact keep d (hdl d hd')
      · rw [hold i hij] at hi
        exact keep d (hcl i o' hi ho' d hd')
    have hcnt : (listed.setIfInBounds j true).count false = fuel := by
      have := Array.count_set (xs := listed) (i := j) (a := true) (b := false) hlt
      rw [Array.setIfInBounds, dif_pos hlt]
      have h3 : listed[j] = false := by simpa [hlt] using hjl
      have h4 : 0 < listed.count false := Array.count_pos_iff.2 (Array.mem_iff_getElem.2 ⟨j, hlt, h3⟩)
      rw [this]
      simp [h3]
      omega
    have hLL : ∀ i, (listed.setIfInBounds j true).getD i false = (listed.getD i false || decide (i = j)) := fun i => by
      by_cases e : i = j
      · subst e; simp [Array.getD_eq_getD_getElem?, hlt]
      · simp [Array.getD_eq_getD_getElem?, hold i e, e]
    by_cases hjn : j = nA
    · subst hjn
      rw [hA] at hoj'; cases hoj'
      have hog' : og = none := by
        rw [hjl] at hog
        cases og with
        | none => rfl
        | some g => simp at hog
      subst hog'
      refine wpOp_of_list hoj ((Al_alloc (l := []) (Q := Then (Ad P N M0 w0 l.toArray Q fuel (listed.setIfInBounds j true)) Q) ho hgA hdA hNA hz hzs hv (fun g => Al_nil ?_)).out a w hsim) (fun a' w' ⟨st', h1, h2⟩ => h1.out a' w' h2) (fun c a' w' h => h) (fun ⟨a', w', h⟩ => ⟨a', w', h⟩)
      have hun' : ∀ i, n ≤ i → i ≠ j → i < l.length → (listed.setIfInBounds j true)[i]? = some false := fun i h1 h2 h3 => by
        rw [hold i h2]; exact hun i h1 h2 h3
      have := ih (listed.setIfInBounds j true) (some g) (by simpa using hs) hcl' (by simp [hlt]) hun' hcnt
      have e : stL (l.take n) ss (fun i => (listed.setIfInBounds j true).getD i false) st = stL (l.take n) ss (fun i => listed.getD i false) st := stL_congr (fun i hi => by
        rw [hLL i]
        simp at hi
        simp [show i ≠ j by omega]) (fun _ _ _ => rfl)
      rw [e] at this
      exact this
    · have hjn' : j < n := by
        rcases Nat.lt_or_ge j n with h | h
        · exact h
        · exact (hall (preA_ready ht hcl hj h hjn)).elim
      have hun' : ∀ i, n ≤ i → i ≠ nA → i < l.length → (listed.setIfInBounds j true)[i]? = some false := fun i h1 h2 h3 => by
        rw [hold i (by omega)]; exact hun i h1 h2 h3
      have hjt : (l.take n)[j]? = some o := by rw [htk j hjn']; exact hoj'
      obtain ⟨d, hdo, hS⟩ := hst j o hjt
      have hmem : o ∈ l.take n := List.mem_of_getElem? hjt
      have hdN := List.all_eq_true.1 hds o hmem
      rw [hdo] at hdN
      simp only [Bool.and_eq_true, decide_eq_true_eq, Bool.not_eq_true'] at hdN
      have hddA : d ≠ dA := fun e => by rw [e] at hdN; simp at hdN
      have hno := List.all_eq_true.1 hdA2 o hmem
      simp only [Bool.and_eq_true] at hno
      have hdrj := List.all_eq_true.1 hdr j (List.mem_range.2 hjn')
      rw [hoj'] at hdrj
      simp only [Bool.and_eq_true] at hdrj
      obtain ⟨⟨hops, hgd⟩, hconst⟩ := hdrj
      have hsl : ∀ t, opB (l.take n) j o t = true → t ≠ dA → (alcO dA (.box T (zs.map .d)) og (stL (l.take n) ss (fun i => listed.getD i false) st)).sl t = (stL (l.take n) ss (fun x => decide (x < j)) st).sl t := by
        intro t hop hne
        have e1 : (alcO dA (.box T (zs.map .d)) og (stL (l.take n) ss (fun i => listed.getD i false) st)).sl t = (stL (l.take n) ss (fun i => listed.getD i false) st).sl t := by
          cases og with
          | none => rfl
          | some g =>
            show (bif Nat.beq t dA then _ else _) = _
            have : Nat.beq t dA = false := by
              cases hb : Nat.beq t dA with
              | false => rfl
              | true => exact absurd (Nat.eq_of_beq_eq_true hb) hne
            rw [this]; rfl
        rw [e1]
        by_cases hin : inB (l.take n) t = true
        · simp only [opB, hin, Bool.not_true, Bool.false_or, List.any_eq_true, List.mem_range, Bool.and_eq_true, beq_iff_eq] at hop
          obtain ⟨i, hi, hid, hic⟩ := hop
          obtain ⟨oi, hoi, hoid⟩ := Option.bind_eq_some_iff.1 hid
          have hli := hdl i (by simpa using hic)
          rw [stL_at hd hoi hoid (by simp [Array.getD_eq_getD_getElem?, hli]), stL_at hd hoi hoid (by simpa using hi)]
        · have hout : ∀ (i : Nat) (o' : Oper), (l.take n)[i]? = some o' → o'.dst ≠ some t := fun i o' h1 h2 => hin (by
            simp only [inB, List.any_eq_true, beq_iff_eq]
            exact ⟨o', List.mem_of_getElem? h1, h2⟩)
          rw [stL_out fun i o' h1 h2 => absurd h2 (hout i o' h1), stL_out fun i o' h1 h2 => absurd h2 (hout i o' h1)]
      have hS2 : St P l.toArray (alcO dA (.box T (zs.map .d)) og (stL (l.take n) ss (fun i => listed.getD i false) st)) o (ss j) := by
        refine St_frame hS (fun x hx => ?_) (fun j' b oj dj h1 h2 h3 => ?_) (fun k g ob h => ?_)
        · cases x with
          | tmp t =>
            have h1 := List.all_eq_true.1 hops _ hx
            have h2 := List.all_eq_true.1 hno.1 _ hx
            exact hsl t h1 (fun e => by rw [e] at h2; simp at h2)
          | _ => rfl
        · rw [hget] at h2
          rw [h1] at hgd
          simp only [h2, h3, Bool.and_eq_true, decide_eq_true_eq] at hgd
          have h4 := hno.2
          rw [h1] at h4
          simp only [h2, h3, Bool.not_eq_true'] at h4
          exact hsl dj hgd.1 (fun e => by rw [e] at h4; simp at h4)
        · cases og with
          | none => exact h
          | some g' =>
            show (bif Nat.beq k dA then _ else st.ob k) = _
            have h' : st.ob k = some (g, ob) := h
            have : Nat.beq k dA = false := by
              cases hb : Nat.beq k dA with
              | false => rfl
              | true =>
                have := Nat.eq_of_beq_eq_true hb
                subst this
                rw [hfree] at h'; cases h'
            rw [this]; exact h'
      refine wpOp_of_list hoj ((Al_st (l := []) (Q := Then (Ad P N M0 w0 l.toArray Q fuel (listed.setIfInBounds j true)) Q) hS2 hdo hdN.1 hconst (fun j' b oj dj h1 h2 h3 => ?_) (Al_nil ?_)).out a w hsim) (fun a' w' ⟨st', h1, h2⟩ => h1.out a' w' h2) (fun c a' w' h => h) (fun ⟨a', w', h⟩ => ⟨a', w', h⟩)
      · rw [hget] at h2
        rw [h1] at hgd
        simp only [h2, h3, Bool.and_eq_true, decide_eq_true_eq] at hgd
        exact hgd.2
      · have := ih (listed.setIfInBounds j true) og (by simpa using hs) hcl' (by rw [hold nA (Ne.symm hjn)]; exact hog) hun' hcnt
        have e : (alcO dA (.box T (zs.map .d)) og (stL (l.take n) ss (fun i => listed.getD i false) st)).set d (ss j) = alcO dA (.box T (zs.map .d)) og (stL (l.take n) ss (fun i => (listed.setIfInBounds j true).getD i false) st) := by
          have e2 : (stL (l.take n) ss (fun i => listed.getD i false) st).set d (ss j) = stL (l.take n) ss (fun i => (listed.setIfInBounds j true).getD i false) st := stL_set hd hjt hdo hLL
          cases og with
          | none => exact e2
          | some g => show (alcS _ _ _ _).set d (ss j) = alcS _ _ _ _; rw [alcS_set hddA, e2]
        show Ad P N M0 w0 l.toArray Q fuel (listed.setIfInBounds j true) _
        rw [e]
        exact this
/-- A region that draws its order: pure operations ahead, and a variable that is made somewhere; the rest is walked order by order. -/
theorem Aw_drawPA {id : Nat} {l : List Oper} (n nA m : Nat) {oA : Oper} {dA : Nat} {T : TypeId} {z : Value} {zs : List AV} (hm : P.follows .mixedOrders = true) (hok : drawPAB N l n nA dA = true) (hnm : l.length = n + (m + 1)) (hnA : n ≤ nA) (hA : l[nA]? = some oA) (ho : oA.op = .alloc T) (hgA : oA.guard = none) (hdA : oA.dst = some dA) (hNA : dA < N) (hz : ∀ w, (zeroValue T).run P w = .ok z w) (hzs : z.cells.toList.map AV.v = zs) (hv : z.cells.toList.all (fun z => decide (vok z)) = true) (hfree : st.ob dA = none)
    (h : Dr P l.toArray (fun st' => Ad P N M0 w0 l.toArray Q (m + 1) (List.replicate n true ++ List.replicate (m + 1) false).toArray st' ∧ ∀ g, Ad P N M0 w0 l.toArray Q m ((List.replicate n true ++ List.replicate (m + 1) false).toArray.setIfInBounds nA true) ((st'.put dA g (.box T (zs.map .d))).set dA (.bx dA g 0))) (l.take n) st) : Aw P N M0 w0 (.region id l.toArray true) Q st := by
  have hd : Ev.distinct (l.take n) = true := by
    simp only [drawPAB, Bool.and_eq_true] at hok
    exact hok.1.1.1.1.1
  have hnl : nA < l.length := (List.getElem?_eq_some_iff.1 hA).1
  have h0 : stL (l.take n) (fun _ => .any) (fun i => decide (i < 0)) st = st := by
    refine Eq.trans (stL_congr (fun i _ => ?_) (fun _ _ _ => rfl)) (stL_none (l := l.take n) (ss := fun _ => .any) (st := st))
    simp
  obtain ⟨ss, _, h2, h3, h4⟩ := dr_all hd (l.take n) 0 (fun _ => .any) rfl (by rw [h0]; exact h)
  refine Aw_drawn hm ?_
  have := drawPA_go hok hnm hnA hA ho hgA hdA hNA hz hzs hv hfree (fun i o hi => h2 i o (Nat.zero_le _) hi) h3 (fun g => h4 g) l.length (List.replicate l.length false).toArray none (by simp) (fun i o h1 _ d _ => by
    exfalso
    rw [List.getElem?_toArray, List.getElem?_replicate] at h1
    split at h1 <;> simp at h1) (by simp [List.getElem?_replicate, hnl]) (fun i _ _ hi => by simp [List.getElem?_replicate, hi]) (by simp [Array.count_replicate])
  have e : stL (l.take n) ss (fun i => (List.replicate l.length false).toArray.getD i false) st = st := by
    refine Eq.trans (stL_congr (fun i _ => ?_) (fun _ _ _ => rfl)) stL_none
    rw [Array.getD_eq_getD_getElem?, List.getElem?_toArray, List.getElem?_replicate]
    split <;> rfl
  rw [e] at this
  exact this
end
end Go.Proofs.Ytlcahhlghjbnkaa.A
end

section
namespace Go.Proofs.Ytlcahhlghjbnkaa
open Go Go.RowKit Go.Maps Go.Sort Go.Shelf A R
def Try.keysS_ren : Go.Shelf.Ren := ⟨fun | 7 => 59 | 10 => 74 | n => n, fun | 0 => 0 | 3 => 34 | 4 => 4 | 23 => 69 | 26 => 9 | 27 => 102 | 28 => 103 | 33 => 59 | n => n, fun | n => n⟩
theorem Try.keysS : SlLaysZ.n7 Try.prog Try.keysS_ren := {
  mixed := by kernel_rfl
  f7 := ⟨Try.f59.name, by kernel_rfl, Try.func59.trans (congrArg some (by kernel_rfl))⟩
  f10 := ⟨Try.f74.name, by kernel_rfl, Try.func74.trans (congrArg some (by kernel_rfl))⟩
  t0 := Try.underlying0
  a0 := Try.isAgg0
  z0 := Try.sizeOf0
  v0 := Try.zeroValue0
  t4 := Try.underlying4
  a4 := Try.isAgg4
  z4 := Try.sizeOf4
  v4 := Try.zeroValue4
  t23 := Try.underlying69
  a23 := Try.isAgg69
  z23 := Try.sizeOf69
  v23 := Try.zeroValue69
  t26 := Try.underlying9
  a26 := Try.isAgg9
  z26 := Try.sizeOf9
  v26 := Try.zeroValue9
  t27 := Try.underlying102
  a27 := Try.isAgg102
  z27 := Try.sizeOf102
  v27 := Try.zeroValue102
  t28 := Try.underlying103
  a28 := Try.isAgg103
  z28 := Try.sizeOf103
  v28 := Try.zeroValue103
  t33 := Try.underlying59
  a33 := Try.isAgg59
  z33 := Try.sizeOf59
  v33 := Try.zeroValue59 }
set_option maxRecDepth 100000 in
theorem keysS_g {κ α : Type} (kv : κ → Value) (ok : κ → Prop) (enc : α → AV) (b n : Nat) (m : κ → Option α) : GCall Try.prog 59 [.ow 1001 0] [(1001, .op (mapO kv ok enc b n m))] (some ([(1001, .op (mapO kv ok enc b n m)), (1002, .box 69 [.ow 1001 0])], .fnb 74 [] [.bx 1002 0 0])) := by
  refine GCall_enter (fun _ _ => by kernel_rfl) Try.func59 rfl Try.ntmps59 (ReadsS.r1 Try.results59) (Nat.le_of_ble_eq_true rfl) (fun hok hokB M0 w0 => ?_)
  refine Aw_seq (Aw_region ?_)
  refine Al_box1 rfl rfl rfl (by decide) (by kernel_rfl) (by conv => lhs; whnf) rfl (fun g1 => ?_)
  refine Al_p Pu_mvr ?_
  refine Al_nil (Aw_seq (Aw_region ?_))
  refine Al_p (Pu_makeFuncS [] [.bx 1 g1 0] rfl trivial ⟨Sub.rfl, trivial⟩) ?_
  refine Al_p Pu_mvr ?_
  refine Al_nil ?_
  refine Aw_ret ?_
  exact ⟨_, _, [(1002, 1, g1)], rfl, Sub.rfl, ⟨rfl, rfl, trivial⟩, rfl⟩ -- ret 0
set_option maxHeartbeats 1000000 in
theorem sortedS_g {α : Type} (enc : α → AV) (b n : Nat) (m : ByteArray → Option α) (ks : List ByteArray) (hr : Rise ks) (hk : ∀ k, (m k).isSome = true ↔ k ∈ ks) (hn : n ≤ 1000000) : GCall Try.prog 58 [.fnb 74 [] [.bx 1002 0 0]] [(1001, .op (mapO keyS okS enc b n m)), (1002, .box 69 [.ow 1001 0])] (some ([(1001, .op (mapO keyS okS enc b n m)), (1003, .arr 9 1 (ks.map fun s => [tv s]))], .ow 1003 0)) := ⟨fun _ _ => by kernel_rfl, fun M w ρ vs hM hbnd ha hobs hfps hap => by
  obtain ⟨h1, e1, _, hh1, hmp⟩ := hobs (1001, .op (mapO keyS okS enc b n m)) (by simp)
  obtain ⟨h2, e2, b2, cs2, rfl, _, hb2, hsz2, hcs2⟩ := hobs (1002, .box 69 [.ow 1001 0]) (by simp)
  have hmb : M b := hfps b ⟨_, List.mem_cons_self .., h1, e1, rfl⟩
  have hcell : w.cell? ⟨b2, 0, none⟩ = some (.map (some b)) := by
    have h0 : 0 < cs2.size := by rw [hsz2]; exact Nat.one_pos
    have h3 : cs2[0]? = some cs2[0] := Array.getElem?_eq_getElem h0
    obtain ⟨⟨h4, _⟩, _⟩ := hcs2 0 (.ow 1001 0) cs2[0] rfl h3
    rw [e1] at h4
    rw [Lib.cell_of_heap hb2]
    show cs2[0]? = _
    rw [h3, ← Option.some.inj h4, hh1]
  match vs, ha with
  | [x], ha =>
  obtain ⟨us, vs', rfl, ⟨hu, _⟩, hv1, hv2⟩ := ha.2 0 _ x rfl rfl
  obtain rfl : us = [] := List.eq_nil_of_length_eq_zero hu
  match vs', hv1, hv2 with
  | [y], _, hv2 =>
  obtain ⟨z, bz, ez, hz1, rfl⟩ := hv2 0 _ y rfl rfl
  rw [e2] at ez
  obtain rfl := Option.some.inj ez
  have hbz : b2 = bz := by simpa [blk] using hz1
  subst hbz
  obtain ⟨es, clock, hbm, hst, hsz, hent, hall⟩ := hmp
  have hrd : ∀ x ∈ es.toList, ∃ c, okS c ∧ x.key = keyS c ∧ (m c).isSome = true ∧ WideElems.rd (H := Unit) Try.prog 9 (fun _ => some (.lit (.bool true), [])) x = some (.string c.data.toList, .lit (.bool true)) := fun x hx => by
    obtain ⟨c, v, h3, h4, h5, _⟩ := hent x hx
    refine ⟨c, h3, h4, by rw [h5]; rfl, ?_⟩
    have := WideElems.rd_mk (H := Unit) (P := Try.prog) (k := 9) (R := fun _ => some (.lit (.bool true), [])) (key := x.key) (val := x.val) (born := x.born) (kl := .string c.data.toList) (yv := (.lit (.bool true), [])) (by rw [h4]; exact WideMaps.keyOf_string_mk Try.underlying9 h3) rfl
    exact this
  have hown : w.ownsMap (H := Unit) Try.prog 9 (fun _ => some (.lit (.bool true), [])) b n (.map ((es.toList.map (WideElems.rg Try.prog 9 (fun _ => some (.lit (.bool true), [])))).foldr DataW.insert [])) :=
    ⟨es, clock, hbm, ⟨by have : maxLen = 9223372036854775807 := rfl; omega, hst, fun x hx => by obtain ⟨c, _, _, _, h6⟩ := hrd x hx; exact ⟨_, h6⟩⟩, hsz, rfl⟩
  have hsl := hown.size_le
  have hlt2 : b2 < w.heap.size := (Array.getElem?_eq_some_iff.1 hb2).1
  have hseq := AnyZ.keys_gives (ρ := Try.keysS_ren) { Try.keysS with } Fence.wide 2 trivial rfl (by omega) b2 b n _ w hlt2 hcell hown
  have hS := AnyZ.sorted_in Try.sorted_lays Fence.wide 5 trivial trivial trivial trivial rfl (by omega) (Try.sorts_in _) (enters_of Try.func73 (by kernel_rfl) rfl) 74 #[.pointer (some ⟨b2, 0, none⟩)] trivial (enters_of Try.func74 (by kernel_rfl) rfl) _ _ (Nat.le_trans hsl (by have : maxLen = 9223372036854775807 := rfl; omega)) (by omega) _ hseq
  refine (callsIn_wide.1 hS).mono fun e w' ⟨v, ss, he, hperm, hrow, hnil, hbel⟩ => ?_
  have hext : Ev.Ext w w' := hbel
  have hkp : ∀ c ∈ ks, okS c := fun c hc => by
    obtain ⟨x, hx⟩ := Option.isSome_iff_exists.1 ((hk c).2 hc)
    obtain ⟨e, he, hek⟩ := hall c x hx
    obtain ⟨c', _, h3, h4, _⟩ := hent e he
    rw [h4] at hek
    cases hek; exact h3
  have hinj : ∀ a c : ByteArray, a.data.toList = c.data.toList → a = c := fun a c h => ByteArray.ext (Array.toList_inj.1 h)
  have hlt : (ks.map (·.data.toList)).Pairwise (· < ·) := by
    rw [List.pairwise_map]
    refine hr.imp fun {a c} h => ?_
    rw [ByteArray.toList_eq, ByteArray.toList_eq, bytesLess_eq] at h
    simpa using h
  have hnd : (ks.map (·.data.toList)).Nodup := hlt.imp fun {a c} h e => by rw [e] at h; exact List.lt_irrefl _ h
  have hpk : (ks.map (·.data.toList)).Perm (strKeys (.map ((es.toList.map (WideElems.rg (H := Unit) Try.prog 9 (fun _ => some (.lit (.bool true), [])))).foldr DataW.insert []))) := by
    obtain ⟨es', hD, hpw, _⟩ := hown.entries (Maps.string_keyed Try.underlying9)
    cases hD
    have hmem : ∀ p : Lit × DataW Unit, p ∈ (es.toList.map (WideElems.rg (H := Unit) Try.prog 9 (fun _ => some (.lit (.bool true), [])))).foldr DataW.insert [] ↔ ∃ x ∈ es.toList, ∃ c, x.key = keyS c ∧ (m c).isSome = true ∧ p = (.string c.data.toList, .lit (.bool true)) := fun p => by
      rw [mem_sorted, List.mem_map]
      constructor
      · rintro ⟨x, hx, rfl⟩
        obtain ⟨c, _, h4, h5, h6⟩ := hrd x hx
        exact ⟨x, hx, c, h4, h5, WideElems.rg_of h6⟩
      · rintro ⟨x, hx, c, h4, _, rfl⟩
        obtain ⟨c', _, h4', _, h6⟩ := hrd x hx
        rw [h4] at h4'
        cases h4'
        exact ⟨x, hx, WideElems.rg_of h6⟩
    refine perm_strKeys hpw (fun p hp => ?_) hnd fun x => ?_
    · obtain ⟨_, _, c, _, _, rfl⟩ := (hmem p).1 hp
      exact ⟨_, rfl⟩
    · rw [Maps.has_eq, List.any_eq_true, List.mem_map]
      constructor
      · rintro ⟨c, hc, rfl⟩
        obtain ⟨y, hy⟩ := Option.isSome_iff_exists.1 ((hk c).2 hc)
        obtain ⟨e0, he0, hek⟩ := hall c y hy
        exact ⟨_, (hmem _).2 ⟨e0, he0, c, hek, (hk c).2 hc, rfl⟩, by simp [Lit.sameKey]⟩
      · rintro ⟨p, hp, hs⟩
        obtain ⟨_, _, c, _, hsm, rfl⟩ := (hmem p).1 hp
        refine ⟨c, (hk c).1 hsm, ?_⟩
        simpa [Lit.sameKey] using hs
  have hsort : ss.mergeSort (fun x y => decide (x ≤ y)) = ks.map (·.data.toList) := by
    have h3 := mergeSort_of_perm (hperm.trans hpk.symm)
    refine h3.trans (List.mergeSort_of_pairwise ?_)
    refine hlt.imp fun {a c} h => ?_
    simpa using List.le_of_lt h
  have hss : ss.length = ks.length := by rw [← List.length_mergeSort ss (le := fun x y => decide (x ≤ y)), hsort, List.length_map]
  have hvals : (ss.mergeSort (fun x y => decide (x ≤ y))).map encStr = (ks.map fun s => [Value.string s]).flatten := by
    rw [hsort, enc_flat]
  rw [hvals, hss] at hrow
  let ρ' : Rho := fun k g => if k = 1003 ∧ g = 0 then some v else ρ k g
  have r1 : ρ' 1001 0 = ρ 1001 0 := if_neg (by decide)
  have r2 : ρ' 1002 0 = ρ 1002 0 := if_neg (by decide)
  have r3 : ρ' 1003 0 = some v := if_pos ⟨rfl, rfl⟩
  have hblk : ∀ c, blk v = some c → w.heap.size ≤ c := fun c hc => by
    rcases hrow.2 with ⟨rfl, _⟩ | ⟨gb, cap, cur, rfl, hbase, _⟩
    · cases hc
    · simp [blk] at hc; omega
  have hf' : ∀ c, fps ρ' [(1001, .op (mapO keyS okS enc b n m)), (1003, .arr 9 1 (ks.map fun s => [tv s]))] c → c = b ∨ blk v = some c := fun c ⟨p, hp, z, hz, hc⟩ => by
    rcases List.mem_cons.1 hp with rfl | hp
    · exact .inl hc
    · rcases List.mem_cons.1 hp with rfl | hp
      · rw [show ρ' 1003 0 = some v from r3] at hz
        cases hz; exact .inr hc
      · cases hp
  have hkn : Known M (fun c => M c ∨ fps ρ' [(1001, .op (mapO keyS okS enc b n m)), (1003, .arr 9 1 (ks.map fun s => [tv s]))] c) w w' := fun c hc hn => ⟨fun h => by
    rcases h with h | h
    · exact hn h
    · rcases hf' c h with rfl | h
      · exact hn hmb
      · have := hblk c h; omega, hext.block c hc⟩
  have hbl : b < w.heap.size := hM b hmb
  have hks : ks.length ≤ n := by
    have := hpk.length_eq
    rw [List.length_map] at this
    have h5 : (strKeys (.map ((es.toList.map (WideElems.rg (H := Unit) Try.prog 9 (fun _ => some (.lit (.bool true), [])))).foldr DataW.insert []))).length = Maps.size (.map ((es.toList.map (WideElems.rg (H := Unit) Try.prog 9 (fun _ => some (.lit (.bool true), [])))).foldr DataW.insert [])) := by
      rw [Maps.size_eq]; exact List.length_map ..
    omega
  refine ⟨⟨hext.os, hext.tape, hext.output, hext.size, fun c hc _ => hext.block c hc⟩, v, he, ρ', ?_, fun p hp => ?_, fun p hp => ?_, fun p hp q hq x x' c hx hx' hc hc' => ?_, ?_⟩
  · obtain ⟨G, hG⟩ := hbnd
    refine ⟨G + 1, fun k g h => ?_⟩
    by_cases e : k = 1003 ∧ g = 0
    · omega
    · have : ρ' k g = ρ k g := if_neg e
      rw [this] at h
      have := hG k g h; omega
  · rcases List.mem_cons.1 hp with rfl | hp
    · exact r1
    · rcases List.mem_cons.1 hp with rfl | hp
      · exact r2
      · cases hp
  · rcases List.mem_cons.1 hp with rfl | hp
    · refine ⟨h1, r1.trans e1, fun c hc => .inr ⟨_, List.mem_cons_self .., h1, e1, hc⟩, hh1, ?_⟩
      refine R.Mp.mono (V := fun w v x => Rep M w (enc x) v) ⟨es, clock, hbm, hst, hsz, hent, hall⟩ (hext.block b hbl) fun v x hv => hv.mono hkn
    · rcases List.mem_cons.1 hp with rfl | hp
      · refine ⟨v, r3, ks.map fun s => [Value.string s], ?_, ⟨by simp, fun i r u hi hu => ?_⟩, ?_, ?_, fun c hc => .inl (hblk c hc)⟩
        · have h6 := hrow
          rw [List.length_map]
          refine ⟨h6.1, ?_⟩
          rcases h6.2 with h7 | ⟨gb, cap, cur, h7, hbase, h8⟩
          · exact .inl h7
          · exact .inr ⟨gb, cap, cur, h7, Nat.zero_le _, h8⟩
        · rw [List.getElem?_map] at hi hu
          obtain ⟨a, h8, rfl⟩ := Option.map_eq_some_iff.1 hi
          rw [h8] at hu
          simp only [Option.map_some, Option.some.injEq] at hu
          subst hu
          refine ⟨rfl, rfl, fun j c x hj hx => ?_⟩
          match j with
          | 0 =>
            simp at hj hx
            subst hj hx
            exact ⟨.v _ (hkp a (List.mem_of_getElem? h8)), rfl⟩
          | j + 1 => simp at hj
        · rw [List.length_map]
          rcases hrow.2 with ⟨rfl, h7⟩ | ⟨gb, cap, cur, rfl, _⟩
          · exact ⟨none, 0, by simp at h7; simp [h7]⟩
          · exact ⟨_, cap, rfl⟩
        · rw [List.length_map]
          simp only [A.maxI]; omega
      · cases hp
  · rcases List.mem_cons.1 hp with rfl | hp <;> rcases List.mem_cons.1 hq with rfl | hq
    · rfl
    · rcases List.mem_cons.1 hq with rfl | hq
      · have hcb : c = b := hc
        rw [show ρ' 1003 0 = some v from r3] at hx'
        cases hx'
        have := hblk c hc'
        omega
      · cases hq
    · rcases List.mem_cons.1 hp with rfl | hp
      · have hcb : c = b := hc'
        rw [show ρ' 1003 0 = some v from r3] at hx
        cases hx
        have := hblk c hc
        omega
      · cases hp
    · rcases List.mem_cons.1 hp with rfl | hp
      · rcases List.mem_cons.1 hq with rfl | hq
        · rfl
        · cases hq
      · cases hp
  · refine ⟨r3, ?_⟩
    rcases hrow.2 with ⟨rfl, _⟩ | ⟨gb, cap, cur, rfl, _⟩ <;> rfl⟩
theorem V.pnum_suf {s : ByteArray} {most n : Nat} {r t : List UInt8} (hm : most < 18446744073709551616) (hr : r <:+ s.data.toList) (h : V.pnum most r = some (n, t)) : t <:+ s.data.toList ∧ n ≤ most := by
  obtain ⟨h1, h2⟩ := (V.pnum_iff hm).1 h
  exact ⟨V.suf_app (p := V.num n) (by rw [← h2]; exact hr), h1⟩
theorem V.ptext_suf {s : ByteArray} {most : Nat} {r t x : List UInt8} (hm : most < 18446744073709551616) (hr : r <:+ s.data.toList) (h : V.ptext most r = some (x, t)) : t <:+ s.data.toList ∧ x.length ≤ most := by
  obtain ⟨h1, h2⟩ := (V.ptext_iff hm).1 h
  exact ⟨V.suf_app (p := V.text (V.ba x)) (by rw [← h2]; exact hr), h1⟩
theorem V.pst_suf {s : ByteArray} {r t : List UInt8} {x : Nat × Nat} (hr : r <:+ s.data.toList) (h : V.pst r = some (x, t)) : t <:+ s.data.toList ∧ 1 ≤ x.1 ∧ x.1 ≤ 1099511627776 ∧ x.2 < 6 := by
  obtain ⟨n, i⟩ := x
  obtain ⟨h1, h2⟩ := V.pst_iff.1 h
  exact ⟨V.suf_app (p := V.num i) (V.suf_app (p := V.num n) (by rw [← h2]; exact hr)), h1⟩
namespace L
/-- The reader, which stands ahead of some bytes; its map lies in a block. -/
def rdC (s : ByteArray) (r : List UInt8) (mv : Value) : AO := .box 46 [.d (tv s), .d (iv (V.pos s r)), .eq mv]
def numG (s : ByteArray) (most : Nat) (r : List UInt8) (mv : Value) : Option (Obs × SV) := match V.pnum most r with
  | none => none
  | some (n, t) => some ([(1000, rdC s t mv)], .d (iv (n : Nat)))
def textG (s : ByteArray) (r : List UInt8) (mv : Value) : Option (Obs × SV) := match V.ptext 32 r with
  | none => none
  | some (x, t) => some ([(1000, rdC s t mv)], .d (tv (V.ba x)))
def stampG (s : ByteArray) (r : List UInt8) (mv : Value) : Option (Obs × SV) := match V.pst r with
  | none => none
  | some ((n, i), t) => some ([(1000, rdC s t mv)], .d (.row [iv (n : Nat), iv (i : Nat)]))
theorem stB_no {s : ByteArray} {r : List UInt8} (hr : r <:+ s.data.toList) (h : V.stB s (V.pos s r) = false) : V.pst r = none := by
  unfold V.stB at h
  rw [V.drop_suf hr] at h
  cases hp : V.pst r with
  | none => rfl
  | some x => rw [hp] at h; cases h
theorem stB_yes {s : ByteArray} {r : List UInt8} (hr : r <:+ s.data.toList) (h : V.stB s (V.pos s r) = true) : ∃ n i t, V.pst r = some ((n, i), t) ∧ V.stN s (V.pos s r) = n ∧ V.stI s (V.pos s r) = i ∧ V.stEn s (V.pos s r) = V.pos s t := by
  unfold V.stB V.stN V.stI V.stEn at *
  rw [V.drop_suf hr] at *
  cases hp : V.pst r with
  | none => rw [hp] at h; cases h
  | some x => obtain ⟨⟨n, i⟩, t⟩ := x; exact ⟨n, i, t, rfl, rfl, rfl, rfl⟩
end L
theorem L.numG_no {s : ByteArray} {most : Nat} {r : List UInt8} {mv : Value} (h : V.pnum most r = none) : L.numG s most r mv = none := by unfold L.numG; rw [h]
theorem L.numG_yes {s : ByteArray} {most n : Nat} {r t : List UInt8} {mv : Value} (h : V.pnum most r = some (n, t)) : L.numG s most r mv = some ([(1000, L.rdC s t mv)], .d (iv (n : Nat))) := by unfold L.numG; rw [h]
theorem L.textG_no {s : ByteArray} {r : List UInt8} {mv : Value} (h : V.ptext 32 r = none) : L.textG s r mv = none := by unfold L.textG; rw [h]
theorem L.textG_yes {s : ByteArray} {r t x : List UInt8} {mv : Value} (h : V.ptext 32 r = some (x, t)) : L.textG s r mv = some ([(1000, L.rdC s t mv)], .d (tv (V.ba x))) := by unfold L.textG; rw [h]
theorem L.stampG_no {s : ByteArray} {r : List UInt8} {mv : Value} (h : V.pst r = none) : L.stampG s r mv = none := by unfold L.stampG; rw [h]
theorem L.stampG_yes {s : ByteArray} {r t : List UInt8} {n i : Nat} {mv : Value} (h : V.pst r = some ((n, i), t)) : L.stampG s r mv = some ([(1000, L.rdC s t mv)], .d (.row [iv (n : Nat), iv (i : Nat)])) := by unfold L.stampG; rw [h]
set_option maxRecDepth 100000 in
set_option maxHeartbeats 2000000 in
theorem lmoves_false (x y : Value) (w : World) : Calls Try.prog 37 #[x, y, .bool false] w fun e w' => (∃ pv, e = .panicked [{ v := .iface pv (.agg #[]), recovered := false }]) ∧ w' = w := by
  go_enter Try.func37, Try.ntmps37
  go_wp2
  exact ⟨rfl, ⟨_, rfl⟩, rfl⟩
theorem lmoves_no (s : SV) (e : SV) (obs : Obs) : GCall Try.prog 37 [s, e, .d (bv false)] obs none := ⟨fun _ _ => by kernel_rfl, fun M w ρ vs hM hb ha hobs hf hap => by
  match vs, ha with
  | [x, y, z], ha =>
    have h2 : Rep M w (bv false) z := ha.2 2 _ z rfl rfl
    obtain ⟨rfl, _⟩ := repv h2
    refine (lmoves_false x y w).mono ?_
    rintro e w' ⟨hp, rfl⟩
    exact ⟨⟨rfl, rfl, rfl, Nat.le_refl _, fun _ _ _ => rfl⟩, hp⟩⟩
set_option maxRecDepth 100000 in
theorem lmoves_g (s : ByteArray) (a e : Nat) (mv : Value) : GCall Try.prog 37 [.bx 1000 0 0, .d (iv e), .d (bv true)] [(1000, .box 46 [.d (tv s), .d (iv a), .eq mv])] (some ([(1000, .box 46 [.d (tv s), .d (iv e), .eq mv])], .d (.tup []))) := by
  refine GCall_enter (fun _ _ => by kernel_rfl) Try.func37 rfl Try.ntmps37 (ReadsS.r0 Try.results37) (Nat.le_of_ble_eq_true rfl) (fun hok hokB M0 w0 => ?_)
  -- join 0: live [0, 1], turned []
  refine Aw_seq (Aw_seq (Aw_region ?_))
  refine Al_p Pu_mvl ?_
  refine Al_p (Pu_not rfl rfl) ?_
  refine Al_nil ?_
  refine Aw_condF rfl (rfl) ?_
  refine Aw_skip (Aw_region ?_)
  refine Al_p Pu_mvl ?_
  refine Al_p Pu_mvl ?_
  refine Al_p (Pu_nilb rfl rfl) ?_
  refine Al_p (Pu_fieldb 1 rfl Try.underlying46 rfl rfl Try.sizeOf3 rfl) ?_
  refine Al_store1 rfl rfl rfl (by kernel_rfl) Try.isAgg3 Try.sizeOf3 rfl rfl (Nat.le_of_ble_eq_true rfl) (by conv => lhs; whnf) rfl ?_
  refine Al_nil ?_
  exact ⟨_, _, [], rfl, rfl, ⟨rfl, trivial⟩, rfl⟩ -- ret 0
set_option maxRecDepth 100000 in
theorem lnum_g (s : ByteArray) (r : List UInt8) (mv : Value) (most : Nat) (hs : s.size ≤ 1000000) (hr : r <:+ s.data.toList) (hm : most ≤ 1000000) : GCall Try.prog 18 [.bx 1000 0 0, .d (uv most)] [(1000, L.rdC s r mv)] (L.numG s most r mv) := by
  refine GCall_enter (fun _ _ => by kernel_rfl) Try.func18 rfl Try.ntmps18 (ReadsS.r1 Try.results18) (Nat.le_of_ble_eq_true rfl) (fun hok hokB M0 w0 => ?_)
  refine Aw_seq (Aw_region ?_)
  refine Al_p Pu_mvr ?_
  refine Al_nil (Aw_seq ?_)
  refine Aw_draw 16 (by kernel_rfl) (by kernel_rfl) ?_
  refine Dr_p Pu_mvl ?_
  refine Dr_p (Pu_nilb rfl rfl) ?_
  refine Dr_p (Pu_fieldb 0 rfl Try.underlying46 rfl rfl Try.sizeOf9 rfl) ?_
  refine Dr_p (Pu_loadb rfl Try.isAgg9 rfl rfl rfl) ?_
  refine Dr_p Pu_mvl ?_
  refine Dr_p (Pu_nilb rfl rfl) ?_
  refine Dr_p (Pu_fieldb 1 rfl Try.underlying46 rfl rfl Try.sizeOf3 rfl) ?_
  refine Dr_p (Pu_loadb rfl Try.isAgg3 rfl rfl rfl) ?_
  refine Dr_p (Pu_call (vread_a s (V.pos s r) hs) rfl ⟨Sub.rfl, Sub.rfl, trivial⟩) ?_
  refine Dr_p Pu_mvl ?_
  refine Dr_p (Pu_extract rfl rfl rfl) ?_
  refine Dr_p (Pu_extract rfl rfl rfl) ?_
  refine Dr_p (Pu_extract rfl rfl rfl) ?_
  refine Dr_p Pu_mvr ?_
  refine Dr_p Pu_mvr ?_
  refine Dr_p Pu_mvr ?_
  refine Dr_nil (Al_nil (Aw_seq (Aw_region ?_)))
  refine Al_p Pu_mvl ?_
  refine Al_p Pu_mvl ?_
  refine Al_p Pu_mvl ?_
  refine Al_p Pu_mvl ?_
  refine Al_st (St_gd [] rfl rfl rfl rfl trivial (fun hg25 => by exact Pu_move (.inl rfl) (by conv => lhs; whnf))) rfl (by decide) (by kernel_rfl) (by intro j b oj dj h1 h2 h3; cases h1; cases h2; cases h3; decide) ?_
  refine Al_st (St_gd [] rfl rfl rfl rfl trivial (fun hg26 => by exact Pu_move (.inl rfl) (by conv => lhs; whnf))) rfl (by decide) (by kernel_rfl) (by intro j b oj dj h1 h2 h3; cases h1; cases h2; cases h3; decide) ?_
  refine Al_st (St_gd [25, 26] rfl rfl rfl rfl ⟨⟨_, rfl⟩, ⟨_, rfl⟩, trivial⟩ (fun hg27 => Pu_cmp rfl rfl rfl rfl)) rfl (by decide) (by kernel_rfl) (by intro j b oj dj h1 h2 h3; cases h1; cases h2; cases h3; decide) ?_
  refine Al_p (Pu_and rfl rfl rfl rfl) ?_
  rcases hb : (V.gotB s (V.pos s r) && decide ((V.gotN s (V.pos s r) : Int) ≤ (most : Int))) with _ | _
  · have hno := V.pnum_no hr hb
    exact Al_gpanic [] (lmoves_no (.bx 1000 0 0) (.d (iv (V.gotE s (V.pos s r)))) []) rfl rfl (by kernel_rfl) trivial rfl ⟨Sub.rfl, Sub.rfl, Sub.rfl, trivial⟩ (fun pv => ⟨L.numG_no hno, pv, rfl⟩)
  obtain ⟨n, t, k1, k2, k3, k4, k5⟩ := V.pnum_yes hr hb
  refine Al_gcall [(1000, 1000, 0)] [] (lmoves_g s (V.pos s r) (V.gotE s (V.pos s r)) mv) rfl rfl rfl (by decide) (by kernel_rfl) ⟨rfl, trivial⟩ rfl ⟨Sub.rfl, Sub.rfl, Sub.rfl, trivial⟩ (fun g29 => ?_)
  refine Al_nil (Aw_seq (Aw_region ?_))
  refine Al_p Pu_mvl ?_
  refine Al_p (Pu_conv rfl Try.underlying42 Try.underlying3 rfl (fun hv => i64_nat (by simp only [A.inI]; omega))) ?_
  refine Al_p Pu_mvr ?_
  refine Al_nil ?_
  refine Aw_ret ?_
  exact ⟨_, _, [], L.numG_yes k1, Sub.num (by rw [k2]), ⟨by unfold L.rdC; rw [← k3]; rfl, trivial⟩, rfl⟩ -- ret 0
set_option maxRecDepth 100000 in
theorem ltext_g (s : ByteArray) (r : List UInt8) (mv : Value) (hs : s.size ≤ 1000000) (hr : r <:+ s.data.toList) : GCall Try.prog 38 [.bx 1000 0 0] [(1000, L.rdC s r mv)] (L.textG s r mv) := by
  refine GCall_enter (fun _ _ => by kernel_rfl) Try.func38 rfl Try.ntmps38 (ReadsS.r1 Try.results38) (Nat.le_of_ble_eq_true rfl) (fun hok hokB M0 w0 => ?_)
  refine Aw_seq (Aw_region ?_)
  refine Al_p Pu_mvr ?_
  refine Al_nil (Aw_seq ?_)
  refine Aw_draw 16 (by kernel_rfl) (by kernel_rfl) ?_
  refine Dr_p Pu_mvl ?_
  refine Dr_p (Pu_nilb rfl rfl) ?_
  refine Dr_p (Pu_fieldb 0 rfl Try.underlying46 rfl rfl Try.sizeOf9 rfl) ?_
  refine Dr_p (Pu_loadb rfl Try.isAgg9 rfl rfl rfl) ?_
  refine Dr_p Pu_mvl ?_
  refine Dr_p (Pu_nilb rfl rfl) ?_
  refine Dr_p (Pu_fieldb 1 rfl Try.underlying46 rfl rfl Try.sizeOf3 rfl) ?_
  refine Dr_p (Pu_loadb rfl Try.isAgg3 rfl rfl rfl) ?_
  refine Dr_p (Pu_call (readtext_a s (V.pos s r) 32 hs (by omega)) rfl ⟨Sub.rfl, Sub.rfl, Sub.rfl, trivial⟩) ?_
  refine Dr_p Pu_mvl ?_
  refine Dr_p (Pu_extract rfl rfl rfl) ?_
  refine Dr_p (Pu_extract rfl rfl rfl) ?_
  refine Dr_p (Pu_extract rfl rfl rfl) ?_
  refine Dr_p Pu_mvr ?_
  refine Dr_p Pu_mvr ?_
  refine Dr_p Pu_mvr ?_
  refine Dr_nil (Al_nil (Aw_seq (Aw_region ?_)))
  refine Al_p Pu_mvl ?_
  refine Al_p Pu_mvl ?_
  refine Al_p Pu_mvl ?_
  rcases hb : V.rtB s (V.pos s r) 32 with _ | _
  · have hno := V.ptext_no hr hb
    exact Al_gpanic [] (lmoves_no (.bx 1000 0 0) (.d (iv (V.rtE s (V.pos s r) 32))) []) rfl rfl (by kernel_rfl) trivial rfl ⟨Sub.rfl, Sub.rfl, Sub.rfl, trivial⟩ (fun pv => ⟨L.textG_no hno, pv, rfl⟩)
  obtain ⟨x, t, k1, k2, k3, k4, k5⟩ := V.ptext_yes (by omega) hr hb
  refine Al_gcall [(1000, 1000, 0)] [] (lmoves_g s (V.pos s r) (V.rtE s (V.pos s r) 32) mv) rfl rfl rfl (by decide) (by kernel_rfl) ⟨rfl, trivial⟩ rfl ⟨Sub.rfl, Sub.rfl, Sub.rfl, trivial⟩ (fun g22 => ?_)
  refine Al_nil (Aw_seq (Aw_region ?_))
  refine Al_p Pu_mvl ?_
  refine Al_p Pu_mvr ?_
  refine Al_nil ?_
  refine Aw_ret ?_
  exact ⟨_, _, [], L.textG_yes k1, Sub.str k2, ⟨by unfold L.rdC; rw [← k3]; rfl, trivial⟩, rfl⟩ -- ret 0
set_option maxRecDepth 100000 in
theorem lstamp_g (s : ByteArray) (r : List UInt8) (mv : Value) (hs : s.size ≤ 1000000) (hr : r <:+ s.data.toList) : GCall Try.prog 39 [.bx 1000 0 0] [(1000, L.rdC s r mv)] (L.stampG s r mv) := by
  refine GCall_enter (fun _ _ => by kernel_rfl) Try.func39 rfl Try.ntmps39 (ReadsS.cN Try.results39 Try.isAgg34 Try.sizeOf34) (Nat.le_of_ble_eq_true rfl) (fun hok hokB M0 w0 => ?_)
  refine Aw_seq (Aw_region ?_)
  refine Al_alloc rfl rfl rfl (by decide) Try.zeroValue34 rfl (by kernel_rfl) (fun g2 => ?_)
  refine Al_nil ?_
  -- join 0: live [0, 2, 3, 4, 5], turned [3, 4, 5]
  refine Aw_seq ?_
  refine Aw_drawPA 10 13 6 (by kernel_rfl) (by kernel_rfl) rfl (by decide) rfl rfl rfl rfl (by decide) Try.zeroValue34 rfl (by kernel_rfl) rfl ?_
  refine Dr_p Pu_mvl ?_
  refine Dr_p (Pu_nilb rfl rfl) ?_
  refine Dr_p (Pu_fieldb 0 rfl Try.underlying46 rfl rfl Try.sizeOf9 rfl) ?_
  refine Dr_p (Pu_loadb rfl Try.isAgg9 rfl rfl rfl) ?_
  refine Dr_p Pu_mvl ?_
  refine Dr_p (Pu_nilb rfl rfl) ?_
  refine Dr_p (Pu_fieldb 1 rfl Try.underlying46 rfl rfl Try.sizeOf3 rfl) ?_
  refine Dr_p (Pu_loadb rfl Try.isAgg3 rfl rfl rfl) ?_
  refine Dr_p (Pu_call (vstread_a s (V.pos s r) hs) rfl ⟨Sub.rfl, Sub.rfl, trivial⟩) ?_
  refine Dr_p Pu_mvl ?_
  refine Dr_nil ⟨?_, fun g3 => ?_⟩
  · refine Ad_take 10 rfl (PuI_extract rfl rfl rfl) rfl rfl (by decide) (by kernel_rfl) (by kernel_rfl) (by kernel_rfl) (by kernel_rfl) (fun _ _ h => h) ?_
    refine Ad_take 11 rfl (PuI_extract rfl rfl rfl) rfl rfl (by decide) (by kernel_rfl) (by kernel_rfl) (by kernel_rfl) (by kernel_rfl) (fun _ _ h => h) ?_
    refine Ad_take 12 rfl (PuI_extract rfl rfl rfl) rfl rfl (by decide) (by kernel_rfl) (by kernel_rfl) (by kernel_rfl) (by kernel_rfl) (fun _ _ h => h) ?_
    refine Ad_one 13 rfl (by kernel_rfl) ?_
    refine Al_alloc rfl rfl rfl (by decide) Try.zeroValue34 rfl (by kernel_rfl) (fun g3 => ?_)
    refine Al_nil ?_
    refine Ad_one 14 rfl (by kernel_rfl) ?_
    refine Al_storeN rfl rfl rfl (by kernel_rfl) Try.isAgg34 Try.sizeOf34 rfl rfl rfl rfl (Nat.le_of_ble_eq_true rfl) ?_
    refine Al_nil ?_
    refine Ad_take 15 rfl (PuI_move (.inr rfl) (by conv => lhs; whnf)) rfl rfl (by decide) (by kernel_rfl) (by kernel_rfl) (by kernel_rfl) (by kernel_rfl) (fun _ _ h => h) ?_
    refine Ad_take 16 rfl (PuI_move (.inr rfl) (by conv => lhs; whnf)) rfl rfl (by decide) (by kernel_rfl) (by kernel_rfl) (by kernel_rfl) (by kernel_rfl) (fun _ _ h => h) ?_
    refine Ad_done (by kernel_rfl) ?_
    refine Aw_seq (Aw_region ?_)
    refine Al_p Pu_mvl ?_
    refine Al_p Pu_mvl ?_
    refine Al_p Pu_mvl ?_
    rcases hb : V.stB s (V.pos s r) with _ | _
    · have hno := L.stB_no hr hb
      exact Al_gpanic [] (lmoves_no (.bx 1000 0 0) (.d (iv (V.stEn s (V.pos s r)))) []) rfl rfl (by kernel_rfl) trivial rfl ⟨Sub.rfl, Sub.rfl, Sub.rfl, trivial⟩ (fun pv => ⟨L.stampG_no hno, pv, rfl⟩)
    obtain ⟨n, i, t, k1, k2, k3, k4⟩ := L.stB_yes hr hb
    refine Al_gcall [(1000, 1000, 0)] [] (lmoves_g s (V.pos s r) (V.stEn s (V.pos s r)) mv) rfl rfl rfl (by decide) (by kernel_rfl) ⟨rfl, trivial⟩ rfl ⟨Sub.rfl, Sub.rfl, Sub.rfl, trivial⟩ (fun g22 => ?_)
    refine Al_nil (Aw_seq (Aw_region ?_))
    refine Al_p (Pu_loadbN (r := [_, _]) rfl Try.isAgg34 Try.sizeOf34 rfl rfl rfl rfl) ?_
    refine Al_storeN rfl rfl rfl (by kernel_rfl) Try.isAgg34 Try.sizeOf34 rfl rfl rfl rfl (Nat.le_of_ble_eq_true rfl) ?_
    refine Al_nil ?_
    refine Aw_ret ?_
    exact ⟨_, _, [], L.stampG_yes k1, ⟨_, rfl, _, _, _, _, _, [_, _], rfl, rfl, rfl, rfl, by rw [k2, k3]⟩, ⟨by unfold L.rdC; rw [← k4]; rfl, trivial⟩, rfl⟩ -- ret 0
  · refine Ad_take 10 rfl (PuI_extract rfl rfl rfl) rfl rfl (by decide) (by kernel_rfl) (by kernel_rfl) (by kernel_rfl) (by kernel_rfl) (fun _ _ h => h) ?_
    refine Ad_take 11 rfl (PuI_extract rfl rfl rfl) rfl rfl (by decide) (by kernel_rfl) (by kernel_rfl) (by kernel_rfl) (by kernel_rfl) (fun _ _ h => h) ?_
    refine Ad_take 12 rfl (PuI_extract rfl rfl rfl) rfl rfl (by decide) (by kernel_rfl) (by kernel_rfl) (by kernel_rfl) (by kernel_rfl) (fun _ _ h => h) ?_
    refine Ad_one 14 rfl (by kernel_rfl) ?_
    refine Al_storeN rfl rfl rfl (by kernel_rfl) Try.isAgg34 Try.sizeOf34 rfl rfl rfl rfl (Nat.le_of_ble_eq_true rfl) ?_
    refine Al_nil ?_
    refine Ad_take 15 rfl (PuI_move (.inr rfl) (by conv => lhs; whnf)) rfl rfl (by decide) (by kernel_rfl) (by kernel_rfl) (by kernel_rfl) (by kernel_rfl) (fun _ _ h => h) ?_
    refine Ad_take 16 rfl (PuI_move (.inr rfl) (by conv => lhs; whnf)) rfl rfl (by decide) (by kernel_rfl) (by kernel_rfl) (by kernel_rfl) (by kernel_rfl) (fun _ _ h => h) ?_
    refine Ad_done (by kernel_rfl) ?_
    refine Aw_seq (Aw_region ?_)
    refine Al_p Pu_mvl ?_
    refine Al_p Pu_mvl ?_
    refine Al_p Pu_mvl ?_
    rcases hb : V.stB s (V.pos s r) with _ | _
    · have hno := L.stB_no hr hb
      exact Al_gpanic [] (lmoves_no (.bx 1000 0 0) (.d (iv (V.stEn s (V.pos s r)))) []) rfl rfl (by kernel_rfl) trivial rfl ⟨Sub.rfl, Sub.rfl, Sub.rfl, trivial⟩ (fun pv => ⟨L.stampG_no hno, pv, rfl⟩)
    obtain ⟨n, i, t, k1, k2, k3, k4⟩ := L.stB_yes hr hb
    refine Al_gcall [(1000, 1000, 0)] [] (lmoves_g s (V.pos s r) (V.stEn s (V.pos s r)) mv) rfl rfl rfl (by decide) (by kernel_rfl) ⟨rfl, trivial⟩ rfl ⟨Sub.rfl, Sub.rfl, Sub.rfl, trivial⟩ (fun g22 => ?_)
    refine Al_nil (Aw_seq (Aw_region ?_))
    refine Al_p (Pu_loadbN (r := [_, _]) rfl Try.isAgg34 Try.sizeOf34 rfl rfl rfl rfl) ?_
    refine Al_storeN rfl rfl rfl (by kernel_rfl) Try.isAgg34 Try.sizeOf34 rfl rfl rfl rfl (Nat.le_of_ble_eq_true rfl) ?_
    refine Al_nil ?_
    refine Aw_ret ?_
    exact ⟨_, _, [], L.stampG_yes k1, ⟨_, rfl, _, _, _, _, _, [_, _], rfl, rfl, rfl, rfl, by rw [k2, k3]⟩, ⟨by unfold L.rdC; rw [← k4]; rfl, trivial⟩, rfl⟩ -- ret 1
namespace L
abbrev encS (x : Int × Int) : AV := .row [iv x.1, iv x.2]
theorem row00 (M : Nat → Prop) (w : World) : Rep M w (.row [iv 0, iv 0]) (.agg #[.int .i64 0, .int .i64 0]) := .row [iv 0, iv 0] [.int .i64 0, .int .i64 0] rfl (fun x hx => by simp at hx; subst hx; rfl) fun j a x h1 h2 => by
  match j with
  | 0 => simp at h1 h2; subst h1 h2; exact .v _ (by decide)
  | 1 => simp at h1 h2; subst h1 h2; exact .v _ (by decide)
  | j + 2 => simp at h1
theorem col_at {α : Type} (f : α → AV) : ∀ (l : List α) (k : Nat) (hk : k < l.length), (l.map fun x => [f x]).flatten[k]? = some (f l[k])
  | x :: r, 0, _ => rfl
  | x :: r, k + 1, hk => by simpa using col_at f r k (by simpa using hk)
theorem keys_at {l : List Dep} {k : Nat} (hk : k < l.length) : (((l.map (·.key)).map fun s => [tv s]).flatten)[k * 1]? = some (tv l[k].key) := by
  rw [Nat.mul_one, List.map_map]
  exact col_at (fun d : Dep => tv d.key) l k hk
theorem kmap_at {l : List Dep} (h : D.Srt l) {k : Nat} (hk : k < l.length) : kmap l l[k].key = some (l[k].n, l[k].s) := kmap_mem h _ (List.getElem_mem hk)
end L
set_option maxRecDepth 100000 in
theorem ldeps_g (b n : Nat) (l : List Dep) (hs : D.Srt l) (hn : n ≤ 1000000) (hln : l.length ≤ 1000000) (hk : ∀ d ∈ l, okS d.key) : GCall Try.prog 40 [.ow 1001 0] [(1001, .op (mapO keyS okS L.encS b n (L.kmap l)))] (some ([(1001, .op (mapO keyS okS L.encS b n (L.kmap l)))], .d (.sl 3 (l.map Dep.row)))) := by
  refine GCall_enterL (fun _ _ => by kernel_rfl) Try.func40 rfl Try.ntmps40 (ReadsS.r1 Try.results40) (Nat.le_of_ble_eq_true rfl) (fun hok hokB M0 w0 hl => ?_)
  refine Aw_seq (Aw_region ?_)
  refine Al_p Pu_mvr ?_
  refine Al_nil (Aw_seq (Aw_region ?_))
  refine Al_p Pu_mvr ?_
  refine Al_nil (Aw_seq (Aw_seq (Aw_region ?_)))
  refine Al_p Pu_mvl ?_
  refine Al_gcall [(1001, 1001, 0)] [(1002, 7)] (keysS_g keyS okS L.encS b n (L.kmap l)) rfl rfl rfl (by decide) (by kernel_rfl) ⟨rfl, trivial⟩ rfl ⟨Sub.rfl, trivial⟩ (fun g7 => ?_)
  refine Al_gcall [(1001, 1001, 0), (1002, 7, g7)] [(1003, 8)] (sortedS_g L.encS b n (L.kmap l) (l.map (·.key)) (by unfold Rise; rw [List.pairwise_map]; exact hs) (fun k => L.kmap_isSome) hn) rfl rfl rfl (by decide) (by kernel_rfl) ⟨rfl, rfl, trivial⟩ rfl ⟨Sub.rfl, trivial⟩ (fun g8 => ?_)
  refine Al_p (Pu_lenOw (m := l.length) rfl Try.underlying39 rfl rfl (by simp)) ?_
  refine Al_p Pu_mvl ?_
  refine Al_nil (Aw_block ?_)
  refine Aw_own (j := 3) (k := 3) (T := 61) (n := 3) rfl (fun g0 => ?_)
  refine Aw_loopk (ι := Nat × Nat) [0, 8, 9] [8, 1001] (fun (k, g) => [(10, .d (iv k)), (3, .ow 3 g)]) (fun (k, g) => [(3, g, .arr 61 3 ((l.take k).map Dep.row))]) (fun (k, g) => k ≤ l.length) (fun (k, g) => l.length - k) ((0, g0)) (Nat.zero_le _) ⟨Sub.rfl, Sub.rfl, trivial⟩ ⟨rfl, trivial⟩ ?_
  rintro ⟨k, g⟩ hk0
  refine Aw_seq (Aw_region ?_)
  refine Al_p (Pu_cmp rfl rfl rfl rfl) ?_
  refine Al_nil (Aw_seq ?_)
  refine Aw_cond rfl (fun h11 => ?_) (fun h11 => ?_)
  · (try simp only [decide_eq_true_eq, decide_eq_false_iff_not, Bool.and_eq_true, Bool.or_eq_true, Bool.and_eq_false_iff, Bool.or_eq_false_iff, Bool.not_eq_true', Bool.not_eq_false', beq_iff_eq, Bool.not_eq_eq_eq_not, Bool.not_true, Bool.not_false, List.length_map, Bool.and_true, Bool.and_false, Bool.false_and, Bool.true_and, Bool.or_false, Bool.false_or] at h11)
    have hkl : k < l.length := by omega
    refine Aw_skip (Aw_seq (Aw_block (Aw_seq (Aw_region ?_))))
    refine Al_p (Pu_indexOw (j := k) rfl Try.underlying39 Try.sizeOf9 rfl rfl rfl rfl (by simpa using hkl)) ?_
    refine Al_p (Pu_loadArr rfl Try.isAgg9 rfl rfl (L.keys_at hkl)) ?_
    refine Al_p Pu_mvr ?_
    refine Al_nil (Aw_region ?_)
    refine Al_p Pu_mvl ?_
    refine Al_p Pu_mvl ?_
    refine Al_p Pu_mvl ?_
    refine Al_p Pu_mvl ?_
    refine Al_p (Pu_to (s' := .d (.row [iv l[k].n, iv l[k].s])) (Pu_lookup (c := l[k].key) (z := .row [iv 0, iv 0]) keyS_T rfl Try.underlying69 Try.zeroValue34 (fun M w => L.row00 M w) rfl rfl rfl (Only.v _) (hk _ (List.getElem_mem hkl))) (by rw [L.kmap_at hs hkl]; rfl)) ?_
    refine Al_p (Pu_build (aa := [(0, _), (1, _)]) rfl Try.underlying61 Try.zeroValue61 (places61 Try.underlying61) (by kernel_rfl) ⟨rfl, rfl, rfl, rfl, rfl, rfl, trivial⟩ rfl) ?_
    refine Al_p (Pu_slice1 rfl Try.underlying35 Try.sizeOf61 Try.zeroValue61 rfl (by decide) (by decide) (by kernel_rfl) rfl rfl rfl) ?_
    refine Al_append rfl rfl rfl (by decide) (by kernel_rfl) elem35 (by decide) Try.sizeOf61 rfl rfl rfl (by simp; omega) (by decide) (fun g21 => ?_)
    refine Al_p Pu_mvr ?_
    refine Al_nil (Aw_region ?_)
    refine Al_p (Pu_add rfl rfl rfl (fun h1 h2 => by simp only [A.inI, A.maxI] at *; omega)) ?_
    refine Al_p Pu_mvl ?_
    refine Al_nil ?_
    exact ⟨(k + 1, g21), by omega, by simp only []; omega, Le.ov ⟨Sub.num (by omega), Sub.rfl, trivial⟩ ⟨Sub.rfl, Sub.rfl, Sub.rfl, trivial⟩ ⟨obeq (by rw [List.take_succ_eq_append_getElem hkl, List.map_append]; rfl), trivial⟩ ⟨rfl, rfl, trivial⟩⟩ -- loop 0 next.0
  · (try simp only [decide_eq_true_eq, decide_eq_false_iff_not, Bool.and_eq_true, Bool.or_eq_true, Bool.and_eq_false_iff, Bool.or_eq_false_iff, Bool.not_eq_true', Bool.not_eq_false', beq_iff_eq, Bool.not_eq_eq_eq_not, Bool.not_true, Bool.not_false, List.length_map, Bool.and_true, Bool.and_false, Bool.false_and, Bool.true_and, Bool.or_false, Bool.false_or] at h11)
    obtain rfl : k = l.length := by omega
    refine Aw_exit (Aw_seq (Aw_region ?_))
    refine Al_p Pu_mvl ?_
    refine Al_p Pu_mvr ?_
    refine Al_nil ?_
    refine Aw_frzL hl (k := 3) [2] rfl ⟨rfl, ⟨_, rfl, fun _ _ h => h⟩, trivial⟩ ⟨rfl, trivial⟩ ?_
    refine Aw_ret ?_
    exact ⟨_, _, [], rfl, Sub.d (by rw [List.take_length]), ⟨rfl, trivial⟩, rfl⟩ -- ret 0
end Go.Proofs.Ytlcahhlghjbnkaa
end

section
namespace Go.Proofs.Ytlcahhlghjbnkaa
open Go Go.RowKit A R
namespace L
abbrev KM := ByteArray → Option (Int × Int)
abbrev ML := List (Nat × Nat × KM)
/-- How the reader's maps stand: of each client one of its own. -/
structure RInv (N : Nat) (L : ML) (om : Int → Option Nat) (m : Nat) (last : Int → List Dep) : Prop where
  nd : (L.map Prod.fst).Nodup
  yes : ∀ c b, om c = some b → ∃ n, n ≤ N ∧ (b, n, kmap (last c)) ∈ L
  no : ∀ c, om c = none → last c = []
  inj : ∀ c c' b, om c = some b → om c' = some b → c = c'
  cnt : m ≤ N
/-- The same, with one of them taken out. -/
structure ROpen (N : Nat) (L : ML) (om : Int → Option Nat) (m : Nat) (last : Int → List Dep) (c : Int) (b n : Nat) : Prop where
  nd : (L.map Prod.fst).Nodup
  me : om c = some b
  yes : ∀ c' b', c' ≠ c → om c' = some b' → ∃ n, n ≤ N ∧ (b', n, kmap (last c')) ∈ L
  no : ∀ c', om c' = none → last c' = []
  inj : ∀ c1 c2 b', c1 ≠ c → c2 ≠ c → om c1 = some b' → om c2 = some b' → c1 = c2
  cnt : m ≤ N + 1
  cn : n ≤ N
def lastU (last : Int → List Dep) (c : Int) (h : List Dep) (c' : Int) : List Dep := if c' = c then h else last c'
theorem RInv.old {N : Nat} {L : ML} {om : Int → Option Nat} {m : Nat} {last : Int → List Dep} (h : RInv N L om m last) {c : Int} {b : Nat} (hb : om c = some b) : ∃ L1 L2 n, L = L1 ++ (b, n, kmap (last c)) :: L2 ∧ ROpen N (L1 ++ L2) om m last c b n := by
  obtain ⟨n, hn, hm⟩ := h.yes c b hb
  obtain ⟨L1, L2, rfl⟩ := List.append_of_mem hm
  have hp : ((L1 ++ (b, n, kmap (last c)) :: L2).map Prod.fst).Perm (b :: (L1 ++ L2).map Prod.fst) := by
    rw [← List.map_cons (f := Prod.fst) (a := (b, n, kmap (last c)))]
    exact List.Perm.map _ List.perm_middle
  have hnd := List.nodup_cons.1 (hp.nodup_iff.1 h.nd)
  refine ⟨L1, L2, n, rfl, hnd.2, hb, fun c' b' hne hb' => ?_, h.no, fun c1 c2 b' _ _ h1 h2 => h.inj c1 c2 b' h1 h2, by have := h.cnt; omega, hn⟩
  obtain ⟨n', hn', hm'⟩ := h.yes c' b' hb'
  refine ⟨n', hn', ?_⟩
  rcases List.mem_append.1 hm' with h1 | h1
  · exact List.mem_append_left _ h1
  · rcases List.mem_cons.1 h1 with h1 | h1
    · simp only [Prod.mk.injEq] at h1
      rw [h1.1] at hb'
      exact (hne (h.inj c' c b hb' hb)).elim
    · exact List.mem_append_right _ h1
theorem RInv.new {N : Nat} {L : ML} {om : Int → Option Nat} {m : Nat} {last : Int → List Dep} (h : RInv N L om m last) {c : Int} (b : Nat) (hb : om c = none) : ROpen N L (fun c' => if c' = c then some b else om c') (m + 1) last c b 0 :=
  ⟨h.nd, if_pos rfl, fun c' b' hne hb' => h.yes c' b' (by rwa [if_neg hne] at hb'), fun c' hc' => by
    split at hc'
    · cases hc'
    · exact h.no c' hc', fun c1 c2 b' n1 n2 h1 h2 => h.inj c1 c2 b' (by rwa [if_neg n1] at h1) (by rwa [if_neg n2] at h2), by have := h.cnt; omega, Nat.zero_le _⟩
theorem ROpen.close {N : Nat} {L : ML} {om : Int → Option Nat} {m : Nat} {last : Int → List Dep} {c : Int} {b n : Nat} (h : ROpen N L om m last c b n) (hb : b ∉ L.map Prod.fst) {n' : Nat} (hn : n' ≤ N + 64) (hd : List Dep) : RInv (N + 64) ((b, n', kmap hd) :: L) om m (lastU last c hd) := by
  have hne : ∀ c' b', c' ≠ c → om c' = some b' → b' ≠ b := fun c' b' h1 h2 e => by
    obtain ⟨n, _, hm⟩ := h.yes c' b' h1 h2
    rw [e] at hm
    exact hb (List.mem_map.2 ⟨_, hm, rfl⟩)
  refine ⟨List.nodup_cons.2 ⟨hb, h.nd⟩, fun c' b' hb' => ?_, fun c' hc' => ?_, fun c1 c2 b' h1 h2 => ?_, by have := h.cnt; omega⟩
  · by_cases e : c' = c
    · subst e
      rw [h.me] at hb'
      cases hb'
      exact ⟨n', hn, by unfold lastU; rw [if_pos rfl]; exact List.mem_cons_self ..⟩
    · obtain ⟨k, hk, hm⟩ := h.yes c' b' e hb'
      exact ⟨k, by omega, by unfold lastU; rw [if_neg e]; exact List.mem_cons_of_mem _ hm⟩
  · have e : c' ≠ c := fun e => by rw [e, h.me] at hc'; cases hc'
    unfold lastU
    rw [if_neg e]; exact h.no c' hc'
  · by_cases e1 : c1 = c
    · by_cases e2 : c2 = c
      · rw [e1, e2]
      · subst e1
        rw [h.me] at h1
        cases h1
        exact (hne c2 _ e2 h2 rfl).elim
    · by_cases e2 : c2 = c
      · subst e2
        rw [h.me] at h2
        cases h2
        exact (hne c1 _ e1 h1 rfl).elim
      · exact h.inj c1 c2 b' e1 e2 h1 h2
theorem RInv.mono {N N' : Nat} {L : ML} {om : Int → Option Nat} {m : Nat} {last : Int → List Dep} (h : RInv N L om m last) (hN : N ≤ N') : RInv N' L om m last :=
  ⟨h.nd, fun c b hb => by obtain ⟨n, h1, h2⟩ := h.yes c b hb; exact ⟨n, by omega, h2⟩, h.no, h.inj, by have := h.cnt; omega⟩
/-- What an event's reading leaves of what clients had seen. -/
def lastN (last : Int → List Dep) (r : List UInt8) : Int → List Dep := match pevent last r with
  | none => last
  | some (e, _) => lastU last e.client e.seen
structure IX (N : Nat) (last : Int → List Dep) where
  L : ML
  om : Int → Option Nat
  m : Nat
  inv : RInv N L om m last
abbrev intO (x : Int) : Prop := -9223372036854775808 ≤ x ∧ x ≤ 9223372036854775807
abbrev omO (bo m : Nat) (om : Int → Option Nat) : AO := .op (mapE (Value.int .i64) intO blkE bo m om)
abbrev msO (L : ML) : AO := .op (mapsO keyS okS encS L)
def evO (s : ByteArray) (r : List UInt8) (bo m : Nat) (om : Int → Option Nat) (L : ML) : Obs := [(1001, rdC s r (blkE bo)), (1002, omO bo m om), (1003, msO L)]
def evG (s : ByteArray) (bo : Nat) (last : Int → List Dep) (r : List UInt8) (m : Nat) (om : Int → Option Nat) (LL : ML) : Option (Obs × SV) := match pevent last r with
  | none => none
  | some (e, t) => some (evO s t bo m om LL, .d (.row e.row))
theorem evG_no {s : ByteArray} {bo m : Nat} {om : Int → Option Nat} {LL : ML} {last : Int → List Dep} {r : List UInt8} (h : pevent last r = none) : evG s bo last r m om LL = none := by unfold evG; rw [h]
theorem evG_yes {s : ByteArray} {bo m : Nat} {om : Int → Option Nat} {LL : ML} {last : Int → List Dep} {r t : List UInt8} {e : Event} (h : pevent last r = some (e, t)) : evG s bo last r m om LL = some (evO s t bo m om LL, .d (.row e.row)) := by unfold evG; rw [h]
theorem lastN_no {last : Int → List Dep} {r : List UInt8} (h : pevent last r = none) : lastN last r = last := by unfold lastN; rw [h]
theorem lastN_yes {last : Int → List Dep} {r t : List UInt8} {e : Event} (h : pevent last r = some (e, t)) : lastN last r = lastU last e.client e.seen := by unfold lastN; rw [h]
theorem obS {g b n n' : Nat} {m m' : KM} (hn : n = n') (hm : ∀ c, m c = m' c) : some (g, AO.op (mapO keyS okS encS b n m)) = some (g, .op (mapO keyS okS encS b n' m')) := by subst hn; rw [funext hm]
def evCells (k c : Nat) (key : ByteArray) (n i : Nat) : List SV := [.d (iv (k : Nat)), .d (iv (c : Nat)), .d (tv key), .d (iv (n : Nat)), .d (iv (i : Nat)), .d (.v (.slice none 0 0))]
theorem pmany_suf {α : Type} {p : List UInt8 → Option (α × List UInt8)} {s : ByteArray} (hp : ∀ r x t, r <:+ s.data.toList → p r = some (x, t) → t <:+ s.data.toList) : ∀ (k : Nat) (r : List UInt8) (xs : List α) (t : List UInt8), r <:+ s.data.toList → V.pmany p k r = some (xs, t) → t <:+ s.data.toList
  | 0, r, xs, t, hr, h => by simp only [V.pmany, Option.some.injEq, Prod.mk.injEq] at h; rw [← h.2]; exact hr
  | k + 1, r, xs, t, hr, h => by
    simp only [V.pmany] at h
    split at h
    · cases h
    · rename_i x t' h1
      split at h
      · cases h
      · rename_i xs' t2 h2
        simp only [Option.some.injEq, Prod.mk.injEq] at h
        rw [← h.2]
        exact pmany_suf hp k t' xs' t2 (hp r x t' hr h1) h2
end L
set_option maxRecDepth 100000 in
set_option maxHeartbeats 4000000 in
theorem levent_g (s : ByteArray) (r : List UInt8) (bo m : Nat) (om : Int → Option Nat) (LL : L.ML) (last : Int → List Dep) (N : Nat) (hs : s.size ≤ 1000000) (hr : r <:+ s.data.toList) (hN : N ≤ 500000) (hI : L.RInv N LL om m last) (hsrt : ∀ c, D.Srt (last c)) (hlen : ∀ c, (last c).length ≤ N) (hkey : ∀ c, ∀ d ∈ last c, d.key.size ≤ 32) :
    GCallE Try.prog 19 [.bx 1001 0 0] (L.evO s r bo m om LL) (fun i : L.IX (N + 64) (L.lastN last r) => L.evG s bo last r i.m i.om i.L) := by
  refine GCallE_enter (fun _ _ => by kernel_rfl) Try.func19 rfl Try.ntmps19 (ReadsS.cN Try.results19 Try.isAgg37 Try.sizeOf37) (Nat.le_of_ble_eq_true rfl) (fun hok hokB M0 w0 => ?_)
  have panics : L.pevent last r = none → ∀ {st : ASt} (pv : TypeId), ∃ i : L.IX (N + 64) (L.lastN last r), RtO (ResNS 2 6) (L.evO s r bo m om LL) (L.evG s bo last r i.m i.om i.L) (.panic [{ v := .iface pv (.agg #[]), recovered := false }]) st := fun h st pv => ⟨⟨LL, om, m, (L.lastN_no h).symm ▸ hI.mono (by omega)⟩, L.evG_no h, pv, rfl⟩
  refine Aw_seq (Aw_region ?_)
  refine Al_alloc rfl rfl rfl (by decide) Try.zeroValue37 rfl (by kernel_rfl) (fun g2 => ?_)
  refine Al_nil (Aw_seq (Aw_region ?_))
  refine Al_p Pu_mvl ?_
  have hm7 := lnum_g s r (blkE bo) 2 hs hr (by omega)
  rcases b7 : V.pnum 2 r with _ | ⟨k, r1⟩
  · rw [L.numG_no b7] at hm7
    exact Al_gpanic [(1000, 1001, 0)] hm7 rfl rfl (by kernel_rfl) ⟨rfl, trivial⟩ rfl ⟨Sub.rfl, Sub.rfl, trivial⟩ (fun pv => panics (by unfold L.pevent; simp only [b7]) pv)
  rw [L.numG_yes b7] at hm7
  obtain ⟨hr1, hk7⟩ := V.pnum_suf (by omega) hr b7
  refine Al_gcall [(1000, 1001, 0)] [] (hm7) rfl rfl rfl (by decide) (by kernel_rfl) ⟨rfl, trivial⟩ rfl ⟨Sub.rfl, Sub.rfl, trivial⟩ (fun g7 => ?_)
  refine Al_p (Pu_build (aa := [(0, _)]) rfl Try.underlying37 Try.zeroValue37 (places37 Try.underlying37) (by kernel_rfl) ⟨rfl, rfl, rfl, trivial⟩ rfl) ?_
  refine Al_alloc rfl rfl rfl (by decide) Try.zeroValue37 rfl (by kernel_rfl) (fun g3 => ?_)
  refine Al_storeN rfl rfl rfl (by kernel_rfl) Try.isAgg37 Try.sizeOf37 rfl rfl rfl rfl (Nat.le_of_ble_eq_true rfl) ?_
  refine Al_nil (Aw_seq (Aw_region ?_))
  refine Al_p Pu_mvl ?_
  have hm10 := lnum_g s r1 (blkE bo) 1000 hs hr1 (by omega)
  rcases b10 : V.pnum 1000 r1 with _ | ⟨c, r2⟩
  · rw [L.numG_no b10] at hm10
    exact Al_gpanic [(1000, 1001, 0)] hm10 rfl rfl (by kernel_rfl) ⟨rfl, trivial⟩ rfl ⟨Sub.rfl, Sub.rfl, trivial⟩ (fun pv => panics (by unfold L.pevent; simp only [b7, b10]) pv)
  rw [L.numG_yes b10] at hm10
  obtain ⟨hr2, hk10⟩ := V.pnum_suf (by omega) hr1 b10
  refine Al_gcall [(1000, 1001, 0)] [] (hm10) rfl rfl rfl (by decide) (by kernel_rfl) ⟨rfl, trivial⟩ rfl ⟨Sub.rfl, Sub.rfl, trivial⟩ (fun g10 => ?_)
  refine Al_p (Pu_fieldb 1 rfl Try.underlying37 rfl rfl Try.sizeOf3 rfl) ?_
  refine Al_store1 rfl rfl rfl (by kernel_rfl) Try.isAgg3 Try.sizeOf3 rfl rfl (Nat.le_of_ble_eq_true rfl) (by conv => lhs; whnf) rfl ?_
  refine Al_nil (Aw_seq (Aw_region ?_))
  refine Al_p Pu_mvl ?_
  have hm13 := ltext_g s r2 (blkE bo) hs hr2
  rcases b13 : V.ptext 32 r2 with _ | ⟨key, r3⟩
  · rw [L.textG_no b13] at hm13
    exact Al_gpanic [(1000, 1001, 0)] hm13 rfl rfl (by kernel_rfl) ⟨rfl, trivial⟩ rfl ⟨Sub.rfl, trivial⟩ (fun pv => panics (by unfold L.pevent; simp only [b7, b10, b13]) pv)
  rw [L.textG_yes b13] at hm13
  obtain ⟨hr3, hk13⟩ := V.ptext_suf (by omega) hr2 b13
  refine Al_gcall [(1000, 1001, 0)] [] (hm13) rfl rfl rfl (by decide) (by kernel_rfl) ⟨rfl, trivial⟩ rfl ⟨Sub.rfl, trivial⟩ (fun g13 => ?_)
  refine Al_p (Pu_fieldb 2 rfl Try.underlying37 rfl rfl Try.sizeOf9 rfl) ?_
  refine Al_store1 rfl rfl rfl (by kernel_rfl) Try.isAgg9 Try.sizeOf9 rfl rfl (Nat.le_of_ble_eq_true rfl) (by conv => lhs; whnf) rfl ?_
  refine Al_nil ?_
  refine Aw_join (ι := Nat × Nat × (List UInt8)) [0, 2, 3] [2, 1002, 1003] (fun (n, i, r5) => []) (fun (n, i, r5) => [(3, g3, .box 37 (L.evCells k c (V.ba key) n i)), (1001, 0, L.rdC s r5 (blkE bo))]) (fun (n, i, r5) => (∃ f r4, V.pnum 1 r3 = some (f, r4) ∧ L.pst1 f r4 = some ((n, i), r5)) ∧ r5 <:+ s.data.toList) ?_ ?_ -- join 0
  · refine Aw_seq (Aw_region ?_)
    refine Al_p Pu_mvl ?_
    have hm16 := lnum_g s r3 (blkE bo) 1 hs hr3 (by omega)
    rcases b16 : V.pnum 1 r3 with _ | ⟨f, r4⟩
    · rw [L.numG_no b16] at hm16
      exact Al_gpanic [(1000, 1001, 0)] hm16 rfl rfl (by kernel_rfl) ⟨rfl, trivial⟩ rfl ⟨Sub.rfl, Sub.rfl, trivial⟩ (fun pv => panics (by unfold L.pevent; simp only [b7, b10, b13, b16]) pv)
    rw [L.numG_yes b16] at hm16
    obtain ⟨hr4, hk16⟩ := V.pnum_suf (by omega) hr3 b16
    refine Al_gcall [(1000, 1001, 0)] [] (hm16) rfl rfl rfl (by decide) (by kernel_rfl) ⟨rfl, trivial⟩ rfl ⟨Sub.rfl, Sub.rfl, trivial⟩ (fun g16 => ?_)
    refine Al_p (Pu_cmp rfl rfl rfl rfl) ?_
    refine Al_nil ?_
    refine Aw_cond rfl (fun h17 => ?_) (fun h17 => ?_)
    · (try simp only [decide_eq_true_eq, decide_eq_false_iff_not, Bool.and_eq_true, Bool.or_eq_true, Bool.and_eq_false_iff, Bool.or_eq_false_iff, Bool.not_eq_true', Bool.not_eq_false', beq_iff_eq, Bool.not_eq_eq_eq_not, Bool.not_true, Bool.not_false, List.length_map, Bool.and_true, Bool.and_false, Bool.false_and, Bool.true_and, Bool.or_false, Bool.false_or] at h17)
      have hf : f = 1 := by omega
      refine Aw_region ?_
      refine Al_p Pu_mvl ?_
      have hm19 := lstamp_g s r4 (blkE bo) hs hr4
      rcases b19 : V.pst r4 with _ | ⟨⟨n, i⟩, r5⟩
      · rw [L.stampG_no b19] at hm19
        exact Al_gpanic [(1000, 1001, 0)] hm19 rfl rfl (by kernel_rfl) ⟨rfl, trivial⟩ rfl ⟨Sub.rfl, trivial⟩ (fun pv => panics (by unfold L.pevent; simp only [b7, b10, b13, b16]; unfold L.pst1; rw [if_pos hf, b19]) pv)
      rw [L.stampG_yes b19] at hm19
      obtain ⟨hr5, _⟩ := V.pst_suf hr4 b19
      refine Al_gcall [(1000, 1001, 0)] [] (hm19) rfl rfl rfl (by decide) (by kernel_rfl) ⟨rfl, trivial⟩ rfl ⟨Sub.rfl, trivial⟩ (fun g19 => ?_)
      refine Al_p (Pu_fieldb 3 rfl Try.underlying37 rfl rfl Try.sizeOf34 rfl) ?_
      refine Al_storeN rfl rfl rfl (by kernel_rfl) Try.isAgg34 Try.sizeOf34 rfl rfl rfl rfl (Nat.le_of_ble_eq_true rfl) ?_
      refine Al_nil ?_
      exact ⟨(n, i, r5), ⟨⟨f, r4, rfl, by unfold L.pst1; rw [if_pos hf, b19]⟩, hr5⟩, Le.ov trivial ⟨Sub.rfl, Sub.rfl, Sub.rfl, trivial⟩ ⟨rfl, rfl, trivial⟩ ⟨rfl, rfl, rfl, trivial⟩⟩ -- join 0 next.0
    · (try simp only [decide_eq_true_eq, decide_eq_false_iff_not, Bool.and_eq_true, Bool.or_eq_true, Bool.and_eq_false_iff, Bool.or_eq_false_iff, Bool.not_eq_true', Bool.not_eq_false', beq_iff_eq, Bool.not_eq_eq_eq_not, Bool.not_true, Bool.not_false, List.length_map, Bool.and_true, Bool.and_false, Bool.false_and, Bool.true_and, Bool.or_false, Bool.false_or] at h17)
      have hf : ¬ f = 1 := by omega
      refine Aw_skip ?_
      exact ⟨(0, 0, r4), ⟨⟨f, r4, rfl, by unfold L.pst1; rw [if_neg hf]⟩, hr4⟩, Le.ov trivial ⟨Sub.rfl, Sub.rfl, Sub.rfl, trivial⟩ ⟨rfl, rfl, trivial⟩ ⟨rfl, rfl, rfl, trivial⟩⟩ -- join 0 next.1
  · rintro ⟨n, i, r5⟩ ⟨⟨f, r4, b16, b17⟩, hr5⟩
    refine Aw_seq ?_
    refine Aw_draw 7 (by kernel_rfl) (by kernel_rfl) ?_
    refine Dr_p Pu_mvl ?_
    refine Dr_p (Pu_nilb rfl rfl) ?_
    refine Dr_p (Pu_fieldb 2 rfl Try.underlying46 rfl rfl Try.sizeOf44 rfl) ?_
    refine Dr_p (Pu_loadb rfl Try.isAgg44 rfl rfl rfl) ?_
    refine Dr_p (Pu_fieldb 1 rfl Try.underlying37 rfl rfl Try.sizeOf3 rfl) ?_
    refine Dr_p (Pu_loadb rfl Try.isAgg3 rfl rfl rfl) ?_
    refine Dr_p (Pu_lookupEE (c := (c : Int)) (k := 1002) (int_key0 Try.underlying3) rfl Try.underlying44 Try.zeroValue69 rfl rfl rfl rfl (Only.v _) (by constructor <;> omega)) ?_
    refine Dr_nil ?_
    refine Al_p Pu_mvr ?_
    refine Al_nil ?_
    refine Aw_join (ι := L.ML × (Int → Option Nat) × Nat × Nat × Nat × Nat) [0, 2, 3] [2, 3, 1001] (fun (L0, om', m', b0, n0, g) => [(4, .ow 30 g)]) (fun (L0, om', m', b0, n0, g) => [(30, g, .op (mapO keyS okS L.encS b0 n0 (L.kmap (last c)))), (1002, 0, L.omO bo m' om'), (1003, 0, L.msO L0)]) (fun (L0, om', m', b0, n0, g) => L.ROpen N L0 om' m' last c b0 n0) ?_ ?_ -- join 1
    · refine Aw_seq (Aw_region ?_)
      refine Al_p Pu_mvl ?_
      refine Al_p (Pu_eqnilmE (by cases om (c : Int) with | none => exact .inl rfl | some b => exact .inr ⟨b, rfl⟩) Try.underlying69 rfl rfl) ?_
      refine Al_nil ?_
      refine Aw_cond rfl (fun h29 => ?_) (fun h29 => ?_)
      · (try simp only [decide_eq_true_eq, decide_eq_false_iff_not, Bool.and_eq_true, Bool.or_eq_true, Bool.and_eq_false_iff, Bool.or_eq_false_iff, Bool.not_eq_true', Bool.not_eq_false', beq_iff_eq, Bool.not_eq_eq_eq_not, Bool.not_true, Bool.not_false, List.length_map, Bool.and_true, Bool.and_false, Bool.false_and, Bool.true_and, Bool.or_false, Bool.false_or] at h29)
        have hom : om (c : Int) = none := by
          cases ho : om (c : Int) with
          | none => rfl
          | some b => rw [ho] at h29; cases h29
        refine Aw_seq (Aw_region ?_)
        refine Al_makeMap keyS okS L.encS rfl rfl rfl (by decide) (fun b0 g30 => ?_)
        refine Al_p Pu_mvr ?_
        refine Al_nil ?_
        refine Aw_draw 7 (by kernel_rfl) (by kernel_rfl) ?_
        refine Dr_p Pu_mvl ?_
        refine Dr_p (Pu_nilb rfl rfl) ?_
        refine Dr_p (Pu_fieldb 2 rfl Try.underlying46 rfl rfl Try.sizeOf44 rfl) ?_
        refine Dr_p (Pu_loadb rfl Try.isAgg44 rfl rfl rfl) ?_
        refine Dr_p (Pu_fieldb 1 rfl Try.underlying37 rfl rfl Try.sizeOf3 rfl) ?_
        refine Dr_p (Pu_loadb rfl Try.isAgg3 rfl rfl rfl) ?_
        refine Dr_p Pu_mvl ?_
        refine Dr_nil ?_
        refine Al_mapUpdateEE (c := (c : Int)) (k := 1002) (int_key0 Try.underlying3) rfl rfl rfl (by kernel_rfl) Try.underlying44 (by have := hI.cnt; simp only [maxLen]; omega) rfl rfl rfl (Only.v _) (by constructor <;> omega) rfl rfl ?_
        refine Al_nil ?_
        exact ⟨(LL, _, m + 1, b0, 0, g30), hI.new b0 hom, Le.ov ⟨Sub.rfl, trivial⟩ ⟨Sub.rfl, Sub.rfl, Sub.rfl, trivial⟩ ⟨(by rw [hI.no _ hom]; rfl), rfl, rfl, trivial⟩ ⟨rfl, rfl, rfl, trivial⟩⟩ -- join 1 next.0
      · (try simp only [decide_eq_true_eq, decide_eq_false_iff_not, Bool.and_eq_true, Bool.or_eq_true, Bool.and_eq_false_iff, Bool.or_eq_false_iff, Bool.not_eq_true', Bool.not_eq_false', beq_iff_eq, Bool.not_eq_eq_eq_not, Bool.not_true, Bool.not_false, List.length_map, Bool.and_true, Bool.and_false, Bool.false_and, Bool.true_and, Bool.or_false, Bool.false_or] at h29)
        obtain ⟨b0, hom⟩ : ∃ b0, om (c : Int) = some b0 := by
          cases ho : om (c : Int) with
          | none => rw [ho] at h29; cases h29
          | some b => exact ⟨b, rfl⟩
        obtain ⟨L1, L2, n0, rfl, hop⟩ := hI.old hom
        refine Aw_ghost [(1003, 1003, 0)] [(1004, 30)] 4 (gh_open (L1 := L1) (L2 := L2) (b := b0) (n := n0) (m := L.kmap (last c))) (by rw [hom]; exact Sub.rfl) ⟨rfl, trivial⟩ (fun _ => rfl) rfl rfl (fun _ g30 => ?_)
        refine Aw_skip ?_
        exact ⟨(L1 ++ L2, om, m, b0, n0, g30), hop, Le.ov ⟨Sub.rfl, trivial⟩ ⟨Sub.rfl, Sub.rfl, Sub.rfl, trivial⟩ ⟨rfl, rfl, rfl, trivial⟩ ⟨rfl, rfl, rfl, trivial⟩⟩ -- join 1 next.1
    · rintro ⟨L0, om', m', b0, n0, g⟩ hop
      refine Aw_seq (Aw_seq (Aw_region ?_))
      refine Al_p Pu_mvl ?_
      have hm39 := lnum_g s r5 (blkE bo) 64 hs hr5 (by omega)
      rcases b39 : V.pnum 64 r5 with _ | ⟨a, r6⟩
      · rw [L.numG_no b39] at hm39
        exact Al_gpanic [(1000, 1001, 0)] hm39 rfl rfl (by kernel_rfl) ⟨rfl, trivial⟩ rfl ⟨Sub.rfl, Sub.rfl, trivial⟩ (fun pv => panics (by unfold L.pevent; simp only [b7, b10, b13, b16, b17, b39]) pv)
      rw [L.numG_yes b39] at hm39
      obtain ⟨hr6, hk39⟩ := V.pnum_suf (by omega) hr5 b39
      refine Al_gcall [(1000, 1001, 0)] [] (hm39) rfl rfl rfl (by decide) (by kernel_rfl) ⟨rfl, trivial⟩ rfl ⟨Sub.rfl, Sub.rfl, trivial⟩ (fun g39 => ?_)
      refine Al_p Pu_mvl ?_
      refine Al_nil (Aw_block ?_)
      refine Aw_loopk (ι := Nat × (List Dep) × (List UInt8)) [0, 2, 3, 4, 39] [2, 3, 1002, 1003] (fun (j, ds, ri) => [(40, .d (iv j))]) (fun (j, ds, ri) => [(30, g, .op (mapO keyS okS L.encS b0 (n0 + j) (L.kmap (ds.foldl L.setD (last c))))), (1001, 0, L.rdC s ri (blkE bo))]) (fun (j, ds, ri) => j ≤ a ∧ ds.length = j ∧ V.pmany L.pdep j r6 = some (ds, ri) ∧ ri <:+ s.data.toList ∧ ∀ d ∈ ds, d.key.size ≤ 32) (fun (j, ds, ri) => a - j) ((0, [], r6)) (⟨Nat.zero_le _, ⟨rfl, rfl, hr6, fun d hd => (by cases hd)⟩⟩) ⟨Sub.rfl, trivial⟩ ⟨rfl, rfl, trivial⟩ ?_
      rintro ⟨j, ds, ri⟩ ⟨hk0, ⟨hdl, hds, hri, hdk⟩⟩
      refine Aw_seq (Aw_region ?_)
      refine Al_p (Pu_cmp rfl rfl rfl rfl) ?_
      refine Al_nil (Aw_seq ?_)
      refine Aw_cond rfl (fun h41 => ?_) (fun h41 => ?_)
      · (try simp only [decide_eq_true_eq, decide_eq_false_iff_not, Bool.and_eq_true, Bool.or_eq_true, Bool.and_eq_false_iff, Bool.or_eq_false_iff, Bool.not_eq_true', Bool.not_eq_false', beq_iff_eq, Bool.not_eq_eq_eq_not, Bool.not_true, Bool.not_false, List.length_map, Bool.and_true, Bool.and_false, Bool.false_and, Bool.true_and, Bool.or_false, Bool.false_or] at h41)
        refine Aw_skip (Aw_seq (Aw_block (Aw_seq (Aw_region ?_))))
        refine Al_p Pu_mvl ?_
        have hm43 := ltext_g s ri (blkE bo) hs hri
        rcases b43 : V.ptext 32 ri with _ | ⟨x, rx⟩
        · rw [L.textG_no b43] at hm43
          have hno : V.pmany L.pdep (j + 1) r6 = none := by rw [V.pmany_snoc, hds]; unfold L.pdep; simp only [b43]
          have hnon := V.pmany_none hno (show j + 1 ≤ a by omega)
          exact Al_gpanic [(1000, 1001, 0)] hm43 rfl rfl (by kernel_rfl) ⟨rfl, trivial⟩ rfl ⟨Sub.rfl, trivial⟩ (fun pv => panics (by unfold L.pevent; simp only [b7, b10, b13, b16, b17, b39, hnon]) pv)
        rw [L.textG_yes b43] at hm43
        obtain ⟨hrx, hk43⟩ := V.ptext_suf (by omega) hri b43
        refine Al_gcall [(1000, 1001, 0)] [] (hm43) rfl rfl rfl (by decide) (by kernel_rfl) ⟨rfl, trivial⟩ rfl ⟨Sub.rfl, trivial⟩ (fun g43 => ?_)
        refine Al_p Pu_mvr ?_
        refine Al_nil (Aw_region ?_)
        refine Al_p Pu_mvl ?_
        refine Al_p Pu_mvl ?_
        refine Al_p Pu_mvl ?_
        have hm47 := lstamp_g s rx (blkE bo) hs hrx
        rcases b47 : V.pst rx with _ | ⟨⟨n', i'⟩, t'⟩
        · rw [L.stampG_no b47] at hm47
          have hno : V.pmany L.pdep (j + 1) r6 = none := by rw [V.pmany_snoc, hds]; unfold L.pdep; simp only [b43, b47]
          have hnon := V.pmany_none hno (show j + 1 ≤ a by omega)
          exact Al_gpanic [(1000, 1001, 0)] hm47 rfl rfl (by kernel_rfl) ⟨rfl, trivial⟩ rfl ⟨Sub.rfl, trivial⟩ (fun pv => panics (by unfold L.pevent; simp only [b7, b10, b13, b16, b17, b39, hnon]) pv)
        rw [L.stampG_yes b47] at hm47
        obtain ⟨ht', _⟩ := V.pst_suf hrx b47
        have hpd : L.pdep ri = some (⟨V.ba x, (n' : Nat), (i' : Nat)⟩, t') := by unfold L.pdep; simp only [b43, b47]
        have hxs : (V.ba x).size ≤ 32 := by rw [ba_size]; exact hk43
        refine Al_gcall [(1000, 1001, 0)] [] (hm47) rfl rfl rfl (by decide) (by kernel_rfl) ⟨rfl, trivial⟩ rfl ⟨Sub.rfl, trivial⟩ (fun g47 => ?_)
        refine Al_mapUpdate (c := V.ba x) (v := ((n' : Int), (i' : Int))) keyS_T rfl rfl rfl (by kernel_rfl) Try.underlying69 (by have := hop.cn; simp only [maxLen]; omega) rfl rfl rfl (Only.v _) (by show _ ≤ A.maxI; simp only [A.maxI]; omega) Sub.rfl ?_
        refine Al_nil (Aw_region ?_)
        refine Al_p (Pu_add rfl rfl rfl (fun h1 h2 => by simp only [A.inI, A.maxI] at *; omega)) ?_
        refine Al_p Pu_mvl ?_
        refine Al_nil ?_
        exact ⟨(j + 1, ds ++ [⟨V.ba x, (n' : Nat), (i' : Nat)⟩], t'), ⟨by omega, ⟨by simp [hdl], by rw [V.pmany_snoc, hds]; simp only [hpd], ht', fun d hd => (List.mem_append.1 hd).elim (hdk d) fun h => by rw [List.mem_singleton.1 h]; exact hxs⟩⟩, by simp only []; omega, Le.ov ⟨Sub.num (by omega), trivial⟩ ⟨Sub.rfl, Sub.rfl, Sub.rfl, Sub.rfl, Sub.rfl, trivial⟩ ⟨L.obS rfl (fun c' => by rw [List.foldl_append]; exact (L.kmap_set _ ⟨V.ba x, (n' : Nat), (i' : Nat)⟩ c').symm), rfl, trivial⟩ ⟨rfl, rfl, rfl, rfl, trivial⟩⟩ -- loop 0 next.0
      · (try simp only [decide_eq_true_eq, decide_eq_false_iff_not, Bool.and_eq_true, Bool.or_eq_true, Bool.and_eq_false_iff, Bool.or_eq_false_iff, Bool.not_eq_true', Bool.not_eq_false', beq_iff_eq, Bool.not_eq_eq_eq_not, Bool.not_true, Bool.not_false, List.length_map, Bool.and_true, Bool.and_false, Bool.false_and, Bool.true_and, Bool.or_false, Bool.false_or] at h41)
        obtain rfl : j = a := by omega
        refine Aw_exit (Aw_seq (Aw_seq (Aw_region ?_)))
        refine Al_p Pu_mvl ?_
        have hm50 := lnum_g s ri (blkE bo) 64 hs hri (by omega)
        rcases b50 : V.pnum 64 ri with _ | ⟨bb, r8⟩
        · rw [L.numG_no b50] at hm50
          exact Al_gpanic [(1000, 1001, 0)] hm50 rfl rfl (by kernel_rfl) ⟨rfl, trivial⟩ rfl ⟨Sub.rfl, Sub.rfl, trivial⟩ (fun pv => panics (by unfold L.pevent; simp only [b7, b10, b13, b16, b17, b39, hds, b50]) pv)
        rw [L.numG_yes b50] at hm50
        obtain ⟨hr8, hk50⟩ := V.pnum_suf (by omega) hri b50
        refine Al_gcall [(1000, 1001, 0)] [] (hm50) rfl rfl rfl (by decide) (by kernel_rfl) ⟨rfl, trivial⟩ rfl ⟨Sub.rfl, Sub.rfl, trivial⟩ (fun g50 => ?_)
        refine Al_p Pu_mvl ?_
        refine Al_nil (Aw_block ?_)
        refine Aw_loopk (ι := Nat × (List (List UInt8)) × (List UInt8)) [0, 2, 3, 4, 50] [2, 3, 1002, 1003] (fun (j2, ks, rj) => [(51, .d (iv j2))]) (fun (j2, ks, rj) => [(30, g, .op (mapO keyS okS L.encS b0 (n0 + j) (L.kmap ((ks.map V.ba).foldl L.delD (ds.foldl L.setD (last c)))))), (1001, 0, L.rdC s rj (blkE bo))]) (fun (j2, ks, rj) => j2 ≤ bb ∧ V.pmany (V.ptext 32) j2 r8 = some (ks, rj) ∧ rj <:+ s.data.toList) (fun (j2, ks, rj) => bb - j2) ((0, [], r8)) (⟨Nat.zero_le _, ⟨rfl, hr8⟩⟩) ⟨Sub.rfl, trivial⟩ ⟨rfl, rfl, trivial⟩ ?_
        rintro ⟨j2, ks, rj⟩ ⟨hk1, ⟨hks, hrj⟩⟩
        refine Aw_seq (Aw_region ?_)
        refine Al_p (Pu_cmp rfl rfl rfl rfl) ?_
        refine Al_nil (Aw_seq ?_)
        refine Aw_cond rfl (fun h52 => ?_) (fun h52 => ?_)
        · (try simp only [decide_eq_true_eq, decide_eq_false_iff_not, Bool.and_eq_true, Bool.or_eq_true, Bool.and_eq_false_iff, Bool.or_eq_false_iff, Bool.not_eq_true', Bool.not_eq_false', beq_iff_eq, Bool.not_eq_eq_eq_not, Bool.not_true, Bool.not_false, List.length_map, Bool.and_true, Bool.and_false, Bool.false_and, Bool.true_and, Bool.or_false, Bool.false_or] at h52)
          refine Aw_skip (Aw_seq (Aw_block (Aw_region ?_)))
          refine Al_p Pu_mvl ?_
          refine Al_p Pu_mvl ?_
          have hm55 := ltext_g s rj (blkE bo) hs hrj
          rcases b55 : V.ptext 32 rj with _ | ⟨x, rx⟩
          · rw [L.textG_no b55] at hm55
            have hno : V.pmany (V.ptext 32) (j2 + 1) r8 = none := by rw [V.pmany_snoc, hks]; simp only [b55]
            have hnon := V.pmany_none hno (show j2 + 1 ≤ bb by omega)
            exact Al_gpanic [(1000, 1001, 0)] hm55 rfl rfl (by kernel_rfl) ⟨rfl, trivial⟩ rfl ⟨Sub.rfl, trivial⟩ (fun pv => panics (by unfold L.pevent; simp only [b7, b10, b13, b16, b17, b39, hds, b50, hnon]) pv)
          rw [L.textG_yes b55] at hm55
          obtain ⟨hrx, hk55⟩ := V.ptext_suf (by omega) hrj b55
          refine Al_gcall [(1000, 1001, 0)] [] (hm55) rfl rfl rfl (by decide) (by kernel_rfl) ⟨rfl, trivial⟩ rfl ⟨Sub.rfl, trivial⟩ (fun g55 => ?_)
          refine Al_mapDelete0 (c := V.ba x) keyS_T rfl rfl rfl (by kernel_rfl) Try.underlying69 rfl rfl rfl (Only.v _) (by show _ ≤ A.maxI; rw [ba_size]; simp only [A.maxI]; omega) ?_
          refine Al_nil (Aw_region ?_)
          refine Al_p (Pu_add rfl rfl rfl (fun h1 h2 => by simp only [A.inI, A.maxI] at *; omega)) ?_
          refine Al_p Pu_mvl ?_
          refine Al_nil ?_
          exact ⟨(j2 + 1, ks ++ [x], rx), ⟨by omega, ⟨by rw [V.pmany_snoc, hks]; simp only [b55], hrx⟩⟩, by simp only []; omega, Le.ov ⟨Sub.num (by omega), trivial⟩ ⟨Sub.rfl, Sub.rfl, Sub.rfl, Sub.rfl, Sub.rfl, trivial⟩ ⟨L.obS rfl (fun c' => by rw [List.map_append, List.foldl_append]; exact (L.kmap_del _ c' _).symm), rfl, trivial⟩ ⟨rfl, rfl, rfl, rfl, trivial⟩⟩ -- loop 1 next.0
        · (try simp only [decide_eq_true_eq, decide_eq_false_iff_not, Bool.and_eq_true, Bool.or_eq_true, Bool.and_eq_false_iff, Bool.or_eq_false_iff, Bool.not_eq_true', Bool.not_eq_false', beq_iff_eq, Bool.not_eq_eq_eq_not, Bool.not_true, Bool.not_false, List.length_map, Bool.and_true, Bool.and_false, Bool.false_and, Bool.true_and, Bool.or_false, Bool.false_or] at h52)
          obtain rfl : j2 = bb := by omega
          have hev : L.pevent last r = some (⟨(k : Nat), (c : Nat), V.ba key, (n : Nat), (i : Nat), (ks.map V.ba).foldl L.delD (ds.foldl L.setD (last c))⟩, rj) := by
            unfold L.pevent; simp only [b7, b10, b13, b16, b17, b39, hds, b50, hks]
          have hd1 := L.dels_len (ks.map V.ba) (ds.foldl L.setD (last c))
          have hd2 := L.sets_len ds (last c)
          have hd3 := hlen c
          have hcn := hop.cn
          refine Aw_exit (Aw_seq (Aw_region ?_))
          refine Al_p Pu_mvl ?_
          refine Al_gcall [(1001, 30, g)] [] (ldeps_g b0 (n0 + j) ((ks.map V.ba).foldl L.delD (ds.foldl L.setD (last c))) (L.dels_srt _ _ (L.sets_srt _ _ (hsrt c))) (by omega) (by omega) (fun d hd => by
            show _ ≤ A.maxI
            have : d.key.size ≤ 32 := (L.sets_mem ds _ d (L.dels_mem _ _ d hd)).elim (hdk d) (hkey c d)
            simp only [A.maxI]; omega)) rfl rfl rfl (by decide) (by kernel_rfl) ⟨rfl, trivial⟩ rfl ⟨Sub.rfl, trivial⟩ (fun g58 => ?_)
          refine Al_p (Pu_fieldb 5 rfl Try.underlying37 rfl rfl Try.sizeOf35 rfl) ?_
          refine Al_store1 rfl rfl rfl (by kernel_rfl) Try.isAgg35 Try.sizeOf35 rfl rfl (Nat.le_of_ble_eq_true rfl) (by conv => lhs; whnf) rfl ?_
          refine Al_nil (Aw_seq (Aw_region ?_))
          refine Al_p (Pu_loadbN (r := [_, _, _, _, _, _]) rfl Try.isAgg37 Try.sizeOf37 rfl rfl rfl rfl) ?_
          refine Al_storeN rfl rfl rfl (by kernel_rfl) Try.isAgg37 Try.sizeOf37 rfl rfl rfl rfl (Nat.le_of_ble_eq_true rfl) ?_
          refine Al_nil ?_
          refine Aw_ghost [(1003, 1003, 0), (1004, 30, g)] [] 4 (gh_close2 (L := L0) (b := b0) (n := n0 + j) (m := L.kmap ((ks.map V.ba).foldl L.delD (ds.foldl L.setD (last c))))) (fun _ _ _ _ _ => trivial) ⟨rfl, rfl, trivial⟩ (fun _ => rfl) rfl rfl (fun u _ => ?_)
          refine Aw_ret ?_
          exact ⟨⟨(b0, n0 + j, L.kmap ((ks.map V.ba).foldl L.delD (ds.foldl L.setD (last c)))) :: L0, om', m', (L.lastN_yes hev).symm ▸ hop.close u.2 (by omega) _⟩, _, _, [], L.evG_yes hev, ⟨_, rfl, _, _, _, _, _, [_, _, _, _, _, _], rfl, rfl, rfl, rfl, rfl⟩, ⟨rfl, rfl, rfl, trivial⟩, rfl⟩ -- ret 0
end Go.Proofs.Ytlcahhlghjbnkaa
end

section
namespace Go.Proofs.Ytlcahhlghjbnkaa
open Go.RowKit A R
theorem seq2_open {P : Program} {a b c : Code} {Q : Exit → Act → World → Prop} {act : Act} {w : World} (h : ∀ X, X = c → (Code.seq a (Code.seq b X)).wp P Q act w) : (Code.seq a (Code.seq b c)).wp P Q act w := h c rfl
/-- Two variables of a call's own, of one cell each. -/
def pin2 (b : Nat) : Rho := fun k g => if g = 0 then (if k = 2 then some (.pointer (some ⟨b, 0, none⟩)) else if k = 3 then some (.pointer (some ⟨b + 1, 0, none⟩)) else none) else none
theorem sim_two {N : Nat} {M : Nat → Prop} {w : World} {D : List Deferred} {T1 T2 : TypeId} {v1 v2 : Value} {s : ByteArray} {tmps : Array Value} (hM : ∀ b, M b → b < w.heap.size) (h1 : vok v1) (h2 : vok v2) (hs : vok (.string s)) (hsz : tmps.size = N) (t0 : tmps.getD 0 undef = .string s) (t2 : tmps.getD 2 undef = .pointer (some ⟨w.heap.size, 0, none⟩)) (t3 : tmps.getD 3 undef = .pointer (some ⟨w.heap.size + 1, 0, none⟩)) :
    SimR N M ⟨w, fun _ => False, D, pin2 w.heap.size⟩ (mk [(0, .d (tv s)), (2, .bx 2 0 0), (3, .bx 3 0 0)] [(2, 0, .box T1 [.d (.v v1)]), (3, 0, .box T2 [.d (.v v2)])]) (pin2 w.heap.size) ⟨tmps, D⟩ ((w.alloc (.cells #[v1] T1)).alloc (.cells #[v2] T2)) := by
  have hz : ((w.alloc (.cells #[v1] T1)).alloc (.cells #[v2] T2)).heap.size = w.heap.size + 2 := by show ((w.heap.push _).push _).size = _; simp
  have g1 : ((w.alloc (.cells #[v1] T1)).alloc (.cells #[v2] T2)).heap[w.heap.size]? = some (.cells #[v1] T1 (0, 0)) := by
    show ((w.heap.push _).push _)[w.heap.size]? = _
    rw [Array.getElem?_push, Array.getElem?_push]; simp
  have g2 : ((w.alloc (.cells #[v1] T1)).alloc (.cells #[v2] T2)).heap[w.heap.size + 1]? = some (.cells #[v2] T2 (0, 0)) := by
    show ((w.heap.push _).push _)[w.heap.size + 1]? = _
    rw [Array.getElem?_push]; simp
  have p2 : pin2 w.heap.size 2 0 = some (.pointer (some ⟨w.heap.size, 0, none⟩)) := rfl
  have p3 : pin2 w.heap.size 3 0 = some (.pointer (some ⟨w.heap.size + 1, 0, none⟩)) := rfl
  have hob : ∀ k g o, (mk [(0, .d (tv s)), (2, .bx 2 0 0), (3, .bx 3 0 0)] [(2, 0, .box T1 [.d (.v v1)]), (3, 0, .box T2 [.d (.v v2)])]).ob k = some (g, o) → (k = 2 ∧ g = 0 ∧ o = .box T1 [.d (.v v1)]) ∨ (k = 3 ∧ g = 0 ∧ o = .box T2 [.d (.v v2)]) := fun k g o h => by
    have h1 : (bif Nat.beq k 2 then some (0, AO.box T1 [.d (.v v1)]) else bif Nat.beq k 3 then some (0, AO.box T2 [.d (.v v2)]) else none) = some (g, o) := h
    cases hk : Nat.beq k 2 with
    | true =>
      rw [hk] at h1
      simp only [cond_true, Option.some.injEq, Prod.mk.injEq] at h1
      exact .inl ⟨Nat.eq_of_beq_eq_true hk, h1.1.symm, h1.2.symm⟩
    | false =>
      rw [hk] at h1
      cases hk3 : Nat.beq k 3 with
      | true =>
        rw [hk3] at h1
        simp only [cond_true, cond_false, Option.some.injEq, Prod.mk.injEq] at h1
        exact .inr ⟨Nat.eq_of_beq_eq_true hk3, h1.1.symm, h1.2.symm⟩
      | false => rw [hk3] at h1; cases h1
  exact {
    size := hsz
    defers := rfl
    slot := fun i => by
      match i with
      | 0 => show Rep _ _ _ (tmps.getD 0 undef); rw [t0]; exact .v _ hs
      | 1 => trivial
      | 2 => exact ⟨_, _, p2, rfl, t2⟩
      | 3 => exact ⟨_, _, p3, rfl, t3⟩
      | i + 4 => trivial
    obj := fun k g o h => by
      rcases hob k g o h with ⟨rfl, rfl, rfl⟩ | ⟨rfl, rfl, rfl⟩
      · refine ⟨_, p2, w.heap.size, #[v1], rfl, .inl (Nat.le_refl _), g1, rfl, fun j q z hq hz' => ?_⟩
        match j with
        | 0 => simp at hq hz'; subst hq hz'; exact ⟨.v _ h1, h1.one⟩
        | j + 1 => simp at hq
      · refine ⟨_, p3, w.heap.size + 1, #[v2], rfl, .inl (Nat.le_succ _), g2, rfl, fun j q z hq hz' => ?_⟩
        match j with
        | 0 => simp at hq hz'; subst hq hz'; exact ⟨.v _ h2, h2.one⟩
        | j + 1 => simp at hq
    apart := fun k g o k' g' o' x x' b h h' hx hx' hb hb' => by
      rcases hob k g o h with ⟨rfl, rfl, rfl⟩ | ⟨rfl, rfl, rfl⟩ <;> rcases hob k' g' o' h' with ⟨rfl, rfl, rfl⟩ | ⟨rfl, rfl, rfl⟩
      · rfl
      · rw [p2] at hx; rw [p3] at hx'; cases hx; cases hx'
        simp [blk] at hb hb'; omega
      · rw [p3] at hx; rw [p2] at hx'; cases hx; cases hx'
        simp [blk] at hb hb'; omega
      · rfl
    gens := ⟨1, fun k g h => by
      rcases Nat.eq_zero_or_pos g with e | e
      · omega
      · exact (h (by unfold pin2; rw [if_neg (by omega)])).elim⟩
    base := hM
    ext := ⟨rfl, rfl, rfl, by show w.heap.size ≤ _; omega, fun b hb _ => by
      show ((w.heap.push _).push _)[b]? = w.heap[b]?
      have hb' : b < w.heap.size := hb
      rw [Array.getElem?_push, Array.getElem?_push]
      simp only [Array.size_push]
      rw [if_neg (by omega), if_neg (by omega)]⟩
    pin := fun _ _ _ h => h }
theorem box1_at {B : Base} {M : Nat → Prop} {w : World} {ρ : Rho} {b : Nat} {T : TypeId} {c : SV} (hO : ORep B M w ρ (.pointer (some ⟨b, 0, none⟩)) (.box T [c])) : ∃ x, w.heap[b]? = some (.cells #[x] T (0, 0)) ∧ SRep M w ρ c x ∧ x.oneCell' = true := by
  obtain ⟨b', vs, e, _, h1, h2, h3⟩ := hO
  simp only [Value.pointer.injEq, Option.some.injEq, Addr.mk.injEq] at e
  obtain ⟨rfl, _⟩ := e
  match vs, h2 with
  | ⟨[x]⟩, _ => exact ⟨x, h1, h3 0 c x rfl rfl⟩
end Go.Proofs.Ytlcahhlghjbnkaa
end

section
namespace Go.Proofs.Ytlcahhlghjbnkaa
open Go Go.RowKit A R
namespace A
section
variable {P : Program} {N : Nat} {M0 : Nat → Prop} {w0 : Base} {st : ASt}
/-- A map of the call's own, told as just the value that it is. -/
theorem le_owEqE {κ α : Type} {kv : κ → Value} {ok : κ → Prop} {ev : α → Value} {b n k g j : Nat} {m : κ → Option α} (hj : st.sl j = .ow k g) (hob : st.ob k = some (g, .op (mapE kv ok ev b n m))) : Le N M0 w0 st (st.set j (.eq (blkE b))) := fun a w ⟨ρ, hs⟩ => ⟨ρ, by
  have h1 := hs.slot j
  rw [hj] at h1
  obtain ⟨h2, h3⟩ := h1
  obtain ⟨u, hu, _, he, _⟩ := hs.obj k g _ hob
  rw [h2] at hu
  have hv : a.tmps.getD j undef = blkE b := by rw [Option.some.inj hu]; exact he
  exact hs.tell (j := j) (s := .eq (blkE b)) ⟨hv, rfl⟩⟩
end
end A
namespace L
theorem pevent_suf {s : ByteArray} {last : Int → List Dep} {r t : List UInt8} {e : Event} (hr : r <:+ s.data.toList) (h : pevent last r = some (e, t)) : t <:+ s.data.toList := by
  unfold pevent at h
  split at h
  · cases h
  rename_i k r1 h1
  have q1 := (V.pnum_suf (by omega) hr h1).1
  split at h
  · cases h
  rename_i c r2 h2
  have q2 := (V.pnum_suf (by omega) q1 h2).1
  split at h
  · cases h
  rename_i key r3 h3
  have q3 := (V.ptext_suf (by omega) q2 h3).1
  split at h
  · cases h
  rename_i f r4 h4
  have q4 := (V.pnum_suf (by omega) q3 h4).1
  split at h
  · cases h
  rename_i n i r5 h5
  have q5 : r5 <:+ s.data.toList := by
    unfold pst1 at h5
    split at h5
    · exact (V.pst_suf q4 h5).1
    · cases h5; exact q4
  split at h
  · cases h
  rename_i a r6 h6
  have q6 := (V.pnum_suf (by omega) q5 h6).1
  split at h
  · cases h
  rename_i ds r7 h7
  have q7 := pmany_suf (s := s) (p := pdep) (fun r x t hr h => by
    unfold pdep at h
    split at h
    · cases h
    · rename_i k u h1
      have := (V.ptext_suf (by omega) hr h1).1
      split at h
      · cases h
      · rename_i n i v h2
        cases h
        exact (V.pst_suf this h2).1) _ _ _ _ q6 h7
  split at h
  · cases h
  rename_i b r8 h8
  have q8 := (V.pnum_suf (by omega) q7 h8).1
  split at h
  · cases h
  rename_i ks r9 h9
  have q9 := pmany_suf (s := s) (fun r x t hr h => (V.ptext_suf (by omega) hr h).1) _ _ _ _ q8 h9
  simp only [Option.some.injEq, Prod.mk.injEq] at h
  rw [← h.2]; exact q9
def readA (l : List UInt8) : AV := match readL l with
  | some es => .tup [.sl 6 (es.map Event.row), bv true]
  | none => .tup [.sl 6 [], bv false]
theorem pnum_lt {most n : Nat} {r t : List UInt8} (hm : most < 18446744073709551616) (h : V.pnum most r = some (n, t)) : t.length + 1 ≤ r.length := by
  obtain ⟨_, rfl⟩ := (V.pnum_iff hm).1 h
  have := V.num_pos n
  rw [List.length_append]; omega
theorem ptext_lt {r t x : List UInt8} (h : V.ptext 32 r = some (x, t)) : t.length + 1 ≤ r.length := by
  obtain ⟨_, rfl⟩ := (V.ptext_iff (by omega)).1 h
  have := V.num_pos x.length
  rw [List.length_append, V.text_ba, List.length_append]; omega
theorem pst_le {r t : List UInt8} {x : Nat × Nat} (h : V.pst r = some (x, t)) : t.length ≤ r.length := by
  obtain ⟨n, i⟩ := x
  obtain ⟨_, rfl⟩ := V.pst_iff.1 h
  simp only [List.length_append]; omega
theorem pst1_le {f : Nat} {r t : List UInt8} {x : Nat × Nat} (h : pst1 f r = some (x, t)) : t.length ≤ r.length := by
  unfold pst1 at h
  split at h
  · exact pst_le h
  · cases h; exact Nat.le_refl _
theorem pdep_le {r t : List UInt8} {d : Dep} (h : pdep r = some (d, t)) : t.length ≤ r.length ∧ d.key.size ≤ 32 := by
  unfold pdep at h
  split at h
  · cases h
  · rename_i k u h1
    split at h
    · cases h
    · rename_i n i v h2
      cases h
      have := ptext_lt h1
      have := pst_le h2
      have h3 := ((V.ptext_iff (by omega)).1 h1).1
      exact ⟨by omega, by simp only; rw [ba_size]; exact h3⟩
theorem pmany_le {α : Type} {p : List UInt8 → Option (α × List UInt8)} {Q : α → Prop} (hp : ∀ r x t, p r = some (x, t) → t.length ≤ r.length ∧ Q x) : ∀ (k : Nat) (r : List UInt8) (xs : List α) (t : List UInt8), V.pmany p k r = some (xs, t) → t.length ≤ r.length ∧ xs.length = k ∧ ∀ x ∈ xs, Q x
  | 0, r, xs, t, h => by
    simp only [V.pmany, Option.some.injEq, Prod.mk.injEq] at h
    rw [← h.1, ← h.2]; exact ⟨Nat.le_refl _, rfl, fun x hx => by cases hx⟩
  | k + 1, r, xs, t, h => by
    simp only [V.pmany] at h
    split at h
    · cases h
    · rename_i x t' h1
      split at h
      · cases h
      · rename_i xs' t2 h2
        simp only [Option.some.injEq, Prod.mk.injEq] at h
        obtain ⟨k1, k2, k3⟩ := pmany_le hp k t' xs' t2 h2
        obtain ⟨k4, k5⟩ := hp r x t' h1
        rw [← h.1, ← h.2]
        refine ⟨by omega, by simp [k2], fun y hy => ?_⟩
        rcases List.mem_cons.1 hy with rfl | hy
        · exact k5
        · exact k3 y hy
/-- What is known of an event that was read. -/
theorem pevent_fit {last : Int → List Dep} {r t : List UInt8} {e : Event} (h : pevent last r = some (e, t)) (hs : ∀ c, D.Srt (last c)) {N : Nat} (hl : ∀ c, (last c).length ≤ N) (hk : ∀ c, ∀ d ∈ last c, d.key.size ≤ 32) : t.length + 6 ≤ r.length ∧ e.key.size ≤ 32 ∧ D.Srt e.seen ∧ e.seen.length ≤ N + 64 ∧ ∀ d ∈ e.seen, d.key.size ≤ 32 := by
  unfold pevent at h
  split at h
  · cases h
  rename_i k r1 h1
  split at h
  · cases h
  rename_i c r2 h2
  split at h
  · cases h
  rename_i key r3 h3
  split at h
  · cases h
  rename_i f r4 h4
  split at h
  · cases h
  rename_i n i r5 h5
  split at h
  · cases h
  rename_i a r6 h6
  split at h
  · cases h
  rename_i ds r7 h7
  split at h
  · cases h
  rename_i b r8 h8
  split at h
  · cases h
  rename_i ks r9 h9
  simp only [Option.some.injEq, Prod.mk.injEq] at h
  obtain ⟨rfl, rfl⟩ := h
  have l1 := pnum_lt (by omega) h1
  have l2 := pnum_lt (by omega) h2
  have l3 := ptext_lt h3
  have l4 := pnum_lt (by omega) h4
  have l5 := pst1_le h5
  have l6 := pnum_lt (by omega) h6
  obtain ⟨l7, m7, q7⟩ := pmany_le (Q := fun d : Dep => d.key.size ≤ 32) (fun r x t h => pdep_le h) _ _ _ _ h7
  have l8 := pnum_lt (by omega) h8
  obtain ⟨l9, _, _⟩ := pmany_le (Q := fun _ => True) (fun r x t h => ⟨by have := ptext_lt h; omega, trivial⟩) _ _ _ _ h9
  have h3' := ((V.ptext_iff (by omega)).1 h3).1
  have h6' := ((V.pnum_iff (by omega)).1 h6).1
  have hd1 := dels_len (ks.map V.ba) (ds.foldl setD (last c))
  have hd2 := sets_len ds (last c)
  have hd3 := hl c
  refine ⟨by omega, by simp only; rw [ba_size]; exact h3', dels_srt _ _ (sets_srt _ _ (hs c)), by simp only; omega, fun d hd => ?_⟩
  exact (sets_mem ds _ d (dels_mem _ _ d hd)).elim (q7 d) (hk c d)
theorem lastU_all {Q : List Dep → Prop} {last : Int → List Dep} {c0 : Int} {hd : List Dep} (h1 : Q hd) (h2 : ∀ c, Q (last c)) (c : Int) : Q (lastU last c0 hd c) := by
  unfold lastU
  split
  · exact h1
  · exact h2 c
theorem lastU_ext (es : List Event) (e : Event) : lastM (fun _ => []) (es ++ [e]) = lastU (lastM (fun _ => []) es) e.client e.seen := by
  rw [lastM_app]; rfl
end L
theorem gcallE_none {P : Program} {f : FuncId} {ins : List SV} {obs : Obs} {ι : Type} {R : ι → Option (Obs × SV)} (h : GCallE P f ins obs R) (hR : ∀ i, R i = none) : GCall P f ins obs none := GCallE.no (ι := ι) (by have : R = fun _ => none := funext hR; rwa [this] at h)
/-- What stands at the end of ledger.Read's body. -/
def L.RtD (l : List UInt8) (gA gB : Nat) : Exit → ASt → Prop
  | .ret, st => st.sl 2 = .bx 2 gA 0 ∧ st.sl 3 = .bx 3 gB 0 ∧ ∃ rows b, st.ob 2 = some (gA, .box 22 [.d (.sl 6 rows)]) ∧ st.ob 3 = some (gB, .box 4 [.d (bv b)]) ∧ L.readA l = .tup [.sl 6 rows, bv b]
  | .panic ch, st => st.sl 2 = .bx 2 gA 0 ∧ st.sl 3 = .bx 3 gB 0 ∧ L.pread l = none ∧ (∃ pv, ch = [{ v := .iface pv (.agg #[]), recovered := false }]) ∧ ∃ c2 c3, st.ob 2 = some (gA, .box 22 [c2]) ∧ st.ob 3 = some (gB, .box 4 [c3])
  | _, _ => False
theorem L.pevents_snoc (k : Nat) (r : List UInt8) : L.pevents (k + 1) r = match L.pevents k r with
    | none => none
    | some (es, t) => match L.pevent (L.lastM (fun _ => []) es) t with
      | none => none
      | some (e, u) => some (es ++ [e], u) := rfl
theorem L.pevents_none {r : List UInt8} {k : Nat} (h : L.pevents k r = none) : ∀ m, k ≤ m → L.pevents m r = none
  | 0, hk => by rw [show k = 0 from by omega] at h; exact h
  | m + 1, hk => by
    rcases Nat.lt_or_ge m k with h1 | h1
    · rw [show m + 1 = k from by omega]; exact h
    · rw [L.pevents_snoc, L.pevents_none h m h1]
set_option maxRecDepth 100000 in
set_option maxHeartbeats 4000000 in
theorem lread_body (s : ByteArray) (hs : s.size ≤ 5000) (M0 : Nat → Prop) (w0 : Base) (hnl : ∀ b, ¬ w0.l b) (gA gB : Nat) {x y c : Code} (hc : Try.f8.body = some (.seq x (.seq y c))) : Aw Try.prog 25 M0 w0 c (L.RtD s.data.toList gA gB) (mk [(0, .d (tv s)), (2, .bx 2 gA 0), (3, .bx 3 gB 0)] [(2, gA, .box 22 [.d (.v (.slice none 0 0))]), (3, gB, .box 4 [.d (bv false)])]) := by
  cases hc
  have hr0 : s.data.toList <:+ s.data.toList := List.suffix_refl _
  have hp0 : V.pos s s.data.toList = 0 := by show s.size - s.data.toList.length = 0; rw [Array.length_toList]; exact Nat.sub_self _
  have hsl : s.data.toList.length = s.size := Array.length_toList
  refine Aw_seq (Aw_region ?_)
  refine Al_p Pu_mvl ?_
  refine Al_makeMapE (Value.int .i64) L.intO blkE rfl rfl rfl (by decide) (fun bo g7 => ?_)
  refine Al_le (le_owEqE (j := 7) (k := 7) rfl rfl) ?_
  refine Al_p (Pu_buildAg (aa := [(0, _), (2, _)]) rfl Try.underlying46 Try.zeroValue46 (places46 Try.underlying46) (by kernel_rfl) ⟨rfl, rfl, rfl, rfl, trivial⟩ rfl) ?_
  refine Al_boxAg rfl rfl rfl (by decide) (by kernel_rfl) rfl (fun g9 => ?_)
  refine Al_p Pu_mvr ?_
  refine Al_nil (Aw_seq (Aw_seq ?_))
  refine Aw_ghost [] [(1003, 50)] 7 (gh_none (kv := keyS) (ok := okS) (enc := L.encS)) (fun _ _ _ _ _ => trivial) trivial (fun _ => rfl) rfl rfl (fun _ g50 => ?_)
  refine Aw_region ?_
  refine Al_p Pu_mvl ?_
  have hm := lnum_g s s.data.toList (blkE bo) 4096 (by omega) hr0 (by omega)
  unfold L.rdC at hm
  rw [hp0] at hm
  rcases hb : V.pnum 4096 s.data.toList with _ | ⟨n, r⟩
  · rw [L.numG_no hb] at hm
    exact Al_gpanic [(1000, 9, g9)] hm rfl rfl (by kernel_rfl) ⟨rfl, trivial⟩ rfl ⟨Sub.rfl, Sub.rfl, trivial⟩ (fun pv => ⟨rfl, rfl, by unfold L.pread; rw [hb], ⟨pv, rfl⟩, _, _, rfl, rfl⟩)
  rw [L.numG_yes hb] at hm
  obtain ⟨hr, hn⟩ := V.pnum_suf (by omega) hr0 hb
  have hrl := L.pnum_lt (by omega) hb
  refine Al_gcall [(1000, 9, g9)] [] (hm) rfl rfl rfl (by decide) (by kernel_rfl) ⟨rfl, trivial⟩ rfl ⟨Sub.rfl, Sub.rfl, trivial⟩ (fun g11 => ?_)
  refine Al_p Pu_mvl ?_
  refine Al_nil (Aw_block ?_)
  refine Aw_owncell 0 (k := 2) (k2 := 20) (e := 37) (n := 6) rfl rfl rfl (fun g20 => ?_)
  refine Aw_loopk (ι := Nat × (List Event) × (List UInt8) × Nat × (Int → Option Nat) × L.ML × Nat) [0, 2, 3, 4, 11] [3] (fun (i, es, ri, m, om, LL, g) => [(12, .d (iv i))]) (fun (i, es, ri, m, om, LL, g) => [(2, gA, .box 22 [.ow 20 g]), (20, g, .arr 37 6 (es.map Event.row)), (9, g9, L.rdC s ri (blkE bo)), (7, g7, L.omO bo m om), (50, g50, L.msO LL)]) (fun (i, es, ri, m, om, LL, g) => i ≤ n ∧ es.length = i ∧ L.pevents i r = some (es, ri) ∧ ri <:+ s.data.toList ∧ ri.length + 6 * i ≤ s.size ∧ L.RInv (64 * i) LL om m (L.lastM (fun _ => []) es) ∧ (∀ c, D.Srt (L.lastM (fun _ => []) es c)) ∧ (∀ c, (L.lastM (fun _ => []) es c).length ≤ 64 * i) ∧ (∀ c, ∀ d ∈ L.lastM (fun _ => []) es c, d.key.size ≤ 32) ∧ L.fit es) (fun (i, es, ri, m, om, LL, g) => n - i) ((0, [], r, 0, (fun _ => none), [], g20)) (⟨Nat.zero_le _, ⟨rfl, rfl, hr, by omega, ⟨List.nodup_nil, (fun c b h => by cases h), (fun c h => rfl), (fun c c' b h => by cases h), Nat.le_refl _⟩, (fun c => List.Pairwise.nil), (fun c => Nat.le_refl _), (fun c d hd => by cases hd), (fun e he => by cases he)⟩⟩) ⟨Sub.rfl, trivial⟩ ⟨rfl, rfl, rfl, rfl, rfl, trivial⟩ ?_
  rintro ⟨i, es, ri, m, om, LL, g⟩ ⟨hk0, ⟨hel, hes, hri, hrl2, hI, hS, hLn, hKy, hF⟩⟩
  refine Aw_seq (Aw_region ?_)
  refine Al_p (Pu_cmp rfl rfl rfl rfl) ?_
  refine Al_nil (Aw_seq ?_)
  refine Aw_cond rfl (fun h13 => ?_) (fun h13 => ?_)
  · (try simp only [decide_eq_true_eq, decide_eq_false_iff_not, Bool.and_eq_true, Bool.or_eq_true, Bool.and_eq_false_iff, Bool.or_eq_false_iff, Bool.not_eq_true', Bool.not_eq_false', beq_iff_eq, Bool.not_eq_eq_eq_not, Bool.not_true, Bool.not_false, List.length_map, Bool.and_true, Bool.and_false, Bool.false_and, Bool.true_and, Bool.or_false, Bool.false_or] at h13)
    refine Aw_skip ?_
    -- join 0: live [0, 2, 3, 4, 11, 12], turned []
    refine Aw_seq (Aw_block ?_)
    refine Aw_drawn (by kernel_rfl) ?_
    refine Ad_take 1 rfl (PuI_move (.inl rfl) (by conv => lhs; whnf)) rfl rfl (by decide) (by kernel_rfl) (by kernel_rfl) (by kernel_rfl) (by kernel_rfl) (fun _ _ h => h) ?_
    refine Ad_two 0 2 rfl rfl (by kernel_rfl) ?_ ?_
    · refine Al_p (Pu_loadb rfl Try.isAgg22 rfl rfl rfl) ?_
      refine Al_nil ?_
      refine Ad_one 2 rfl (by kernel_rfl) ?_
      have hm2 := levent_g s ri bo m om LL (L.lastM (fun _ => []) es) (64 * i) (by omega) hri (by omega) hI hS hLn hKy
      rcases hb2 : L.pevent (L.lastM (fun _ => []) es) ri with _ | ⟨e, t⟩
      · have hno : L.pevents (i + 1) r = none := by rw [L.pevents_snoc, hes]; simp only [hb2]
        have hnon := L.pevents_none hno n (by omega)
        exact Al_gpanic [(1001, 9, g9), (1002, 7, g7), (1003, 50, g50)] (gcallE_none hm2 fun _ => L.evG_no hb2) rfl rfl (by kernel_rfl) ⟨rfl, rfl, rfl, trivial⟩ rfl ⟨Sub.rfl, trivial⟩ (fun pv => ⟨rfl, rfl, by unfold L.pread; simp only [hb, hnon], ⟨pv, rfl⟩, _, _, rfl, rfl⟩)
      simp only [L.evG_yes hb2] at hm2
      obtain ⟨f1, f2, f3, f4, f5⟩ := L.pevent_fit hb2 hS hLn hKy
      have ht : t <:+ s.data.toList := L.pevent_suf hri hb2
      refine Al_gcallE [(1001, 9, g9), (1002, 7, g7), (1003, 50, g50)] [] (hm2) rfl rfl rfl (by decide) (by kernel_rfl) ⟨rfl, rfl, rfl, trivial⟩ (fun _ => rfl) rfl rfl ⟨Sub.rfl, trivial⟩ ?_
      rintro ix g16
      refine Al_nil ?_
      refine Ad_one 3 rfl (by kernel_rfl) ?_
      refine Al_p (Pu_slice1 rfl Try.underlying22 Try.sizeOf37 Try.zeroValue37 rfl (by decide) (by decide) (by kernel_rfl) rfl rfl rfl) ?_
      refine Al_nil ?_
      refine Ad_one 4 rfl (by kernel_rfl) ?_
      refine Al_append rfl rfl rfl (by decide) (by kernel_rfl) elem22 (by decide) Try.sizeOf37 rfl rfl rfl (by simp; omega) (by decide) (fun g18 => ?_)
      refine Al_nil ?_
      refine Ad_one 5 rfl (by kernel_rfl) ?_
      refine Al_store1 rfl rfl rfl (by kernel_rfl) Try.isAgg22 Try.sizeOf22 rfl rfl (Nat.le_of_ble_eq_true rfl) (by conv => lhs; whnf) rfl ?_
      refine Al_nil ?_
      refine Ad_done (by kernel_rfl) ?_
      refine Aw_region ?_
      refine Al_p (Pu_add rfl rfl rfl (fun h1 h2 => by simp only [A.inI, A.maxI] at *; omega)) ?_
      refine Al_p Pu_mvl ?_
      refine Al_nil ?_
      exact ⟨(i + 1, es ++ [e], t, ix.m, ix.om, ix.L, g18), ⟨by omega, ⟨by simp [hel], by rw [L.pevents_snoc, hes]; simp only [hb2], ht, by omega, by rw [L.lastU_ext, ← L.lastN_yes hb2]; exact ix.inv, (fun c => by rw [L.lastU_ext]; exact L.lastU_all (Q := D.Srt) f3 hS c), (fun c => by rw [L.lastU_ext]; exact L.lastU_all (Q := fun l => l.length ≤ 64 * (i + 1)) (by omega) (fun c => by have := hLn c; omega) c), (fun c => by rw [L.lastU_ext]; exact L.lastU_all (Q := fun l => ∀ d ∈ l, d.key.size ≤ 32) f5 hKy c), (fun e' he' => (List.mem_append.1 he').elim (hF e') fun h => by rw [List.mem_singleton.1 h]; exact ⟨by omega, fun d hd => by have := f5 d hd; omega⟩)⟩⟩, by simp only []; omega, Le.ov ⟨Sub.num (by omega), trivial⟩ ⟨Sub.rfl, Sub.rfl, Sub.rfl, Sub.rfl, Sub.rfl, trivial⟩ ⟨rfl, obeq (by simp [A.cellsA]), rfl, rfl, rfl, trivial⟩ ⟨rfl, trivial⟩⟩ -- loop 0 next.0
    · have hm2 := levent_g s ri bo m om LL (L.lastM (fun _ => []) es) (64 * i) (by omega) hri (by omega) hI hS hLn hKy
      rcases hb2 : L.pevent (L.lastM (fun _ => []) es) ri with _ | ⟨e, t⟩
      · have hno : L.pevents (i + 1) r = none := by rw [L.pevents_snoc, hes]; simp only [hb2]
        have hnon := L.pevents_none hno n (by omega)
        exact Al_gpanic [(1001, 9, g9), (1002, 7, g7), (1003, 50, g50)] (gcallE_none hm2 fun _ => L.evG_no hb2) rfl rfl (by kernel_rfl) ⟨rfl, rfl, rfl, trivial⟩ rfl ⟨Sub.rfl, trivial⟩ (fun pv => ⟨rfl, rfl, by unfold L.pread; simp only [hb, hnon], ⟨pv, rfl⟩, _, _, rfl, rfl⟩)
      simp only [L.evG_yes hb2] at hm2
      obtain ⟨f1, f2, f3, f4, f5⟩ := L.pevent_fit hb2 hS hLn hKy
      have ht : t <:+ s.data.toList := L.pevent_suf hri hb2
      refine Al_gcallE [(1001, 9, g9), (1002, 7, g7), (1003, 50, g50)] [] (hm2) rfl rfl rfl (by decide) (by kernel_rfl) ⟨rfl, rfl, rfl, trivial⟩ (fun _ => rfl) rfl rfl ⟨Sub.rfl, trivial⟩ ?_
      rintro ix g16
      refine Al_nil ?_
      refine Ad_two 0 3 rfl rfl (by kernel_rfl) ?_ ?_
      · refine Al_p (Pu_loadb rfl Try.isAgg22 rfl rfl rfl) ?_
        refine Al_nil ?_
        refine Ad_one 3 rfl (by kernel_rfl) ?_
        refine Al_p (Pu_slice1 rfl Try.underlying22 Try.sizeOf37 Try.zeroValue37 rfl (by decide) (by decide) (by kernel_rfl) rfl rfl rfl) ?_
        refine Al_nil ?_
        refine Ad_one 4 rfl (by kernel_rfl) ?_
        refine Al_append rfl rfl rfl (by decide) (by kernel_rfl) elem22 (by decide) Try.sizeOf37 rfl rfl rfl (by simp; omega) (by decide) (fun g18 => ?_)
        refine Al_nil ?_
        refine Ad_one 5 rfl (by kernel_rfl) ?_
        refine Al_store1 rfl rfl rfl (by kernel_rfl) Try.isAgg22 Try.sizeOf22 rfl rfl (Nat.le_of_ble_eq_true rfl) (by conv => lhs; whnf) rfl ?_
        refine Al_nil ?_
        refine Ad_done (by kernel_rfl) ?_
        refine Aw_region ?_
        refine Al_p (Pu_add rfl rfl rfl (fun h1 h2 => by simp only [A.inI, A.maxI] at *; omega)) ?_
        refine Al_p Pu_mvl ?_
        refine Al_nil ?_
        exact ⟨(i + 1, es ++ [e], t, ix.m, ix.om, ix.L, g18), ⟨by omega, ⟨by simp [hel], by rw [L.pevents_snoc, hes]; simp only [hb2], ht, by omega, by rw [L.lastU_ext, ← L.lastN_yes hb2]; exact ix.inv, (fun c => by rw [L.lastU_ext]; exact L.lastU_all (Q := D.Srt) f3 hS c), (fun c => by rw [L.lastU_ext]; exact L.lastU_all (Q := fun l => l.length ≤ 64 * (i + 1)) (by omega) (fun c => by have := hLn c; omega) c), (fun c => by rw [L.lastU_ext]; exact L.lastU_all (Q := fun l => ∀ d ∈ l, d.key.size ≤ 32) f5 hKy c), (fun e' he' => (List.mem_append.1 he').elim (hF e') fun h => by rw [List.mem_singleton.1 h]; exact ⟨by omega, fun d hd => by have := f5 d hd; omega⟩)⟩⟩, by simp only []; omega, Le.ov ⟨Sub.num (by omega), trivial⟩ ⟨Sub.rfl, Sub.rfl, Sub.rfl, Sub.rfl, Sub.rfl, trivial⟩ ⟨rfl, obeq (by simp [A.cellsA]), rfl, rfl, rfl, trivial⟩ ⟨rfl, trivial⟩⟩ -- loop 0 next.1
      · refine Al_p (Pu_slice1 rfl Try.underlying22 Try.sizeOf37 Try.zeroValue37 rfl (by decide) (by decide) (by kernel_rfl) rfl rfl rfl) ?_
        refine Al_nil ?_
        refine Ad_one 0 rfl (by kernel_rfl) ?_
        refine Al_p (Pu_loadb rfl Try.isAgg22 rfl rfl rfl) ?_
        refine Al_nil ?_
        refine Ad_one 4 rfl (by kernel_rfl) ?_
        refine Al_append rfl rfl rfl (by decide) (by kernel_rfl) elem22 (by decide) Try.sizeOf37 rfl rfl rfl (by simp; omega) (by decide) (fun g18 => ?_)
        refine Al_nil ?_
        refine Ad_one 5 rfl (by kernel_rfl) ?_
        refine Al_store1 rfl rfl rfl (by kernel_rfl) Try.isAgg22 Try.sizeOf22 rfl rfl (Nat.le_of_ble_eq_true rfl) (by conv => lhs; whnf) rfl ?_
        refine Al_nil ?_
        refine Ad_done (by kernel_rfl) ?_
        refine Aw_region ?_
        refine Al_p (Pu_add rfl rfl rfl (fun h1 h2 => by simp only [A.inI, A.maxI] at *; omega)) ?_
        refine Al_p Pu_mvl ?_
        refine Al_nil ?_
        exact ⟨(i + 1, es ++ [e], t, ix.m, ix.om, ix.L, g18), ⟨by omega, ⟨by simp [hel], by rw [L.pevents_snoc, hes]; simp only [hb2], ht, by omega, by rw [L.lastU_ext, ← L.lastN_yes hb2]; exact ix.inv, (fun c => by rw [L.lastU_ext]; exact L.lastU_all (Q := D.Srt) f3 hS c), (fun c => by rw [L.lastU_ext]; exact L.lastU_all (Q := fun l => l.length ≤ 64 * (i + 1)) (by omega) (fun c => by have := hLn c; omega) c), (fun c => by rw [L.lastU_ext]; exact L.lastU_all (Q := fun l => ∀ d ∈ l, d.key.size ≤ 32) f5 hKy c), (fun e' he' => (List.mem_append.1 he').elim (hF e') fun h => by rw [List.mem_singleton.1 h]; exact ⟨by omega, fun d hd => by have := f5 d hd; omega⟩)⟩⟩, by simp only []; omega, Le.ov ⟨Sub.num (by omega), trivial⟩ ⟨Sub.rfl, Sub.rfl, Sub.rfl, Sub.rfl, Sub.rfl, trivial⟩ ⟨rfl, obeq (by simp [A.cellsA]), rfl, rfl, rfl, trivial⟩ ⟨rfl, trivial⟩⟩ -- loop 0 next.2
  · (try simp only [decide_eq_true_eq, decide_eq_false_iff_not, Bool.and_eq_true, Bool.or_eq_true, Bool.and_eq_false_iff, Bool.or_eq_false_iff, Bool.not_eq_true', Bool.not_eq_false', beq_iff_eq, Bool.not_eq_eq_eq_not, Bool.not_true, Bool.not_false, List.length_map, Bool.and_true, Bool.and_false, Bool.false_and, Bool.true_and, Bool.or_false, Bool.false_or] at h13)
    obtain rfl : i = n := by omega
    have hpr : L.pread s.data.toList = some es := by unfold L.pread; simp only [hb, hes]
    refine Aw_frzc 0 (k := 20) (kb := 2) hnl [] rfl rfl rfl rfl trivial ?_
    refine Aw_exit (Aw_seq (Aw_seq (Aw_region ?_)))
    refine Al_p (Pu_loadb rfl Try.isAgg22 rfl rfl rfl) ?_
    refine Al_p (Pu_call (lbytes_a es (by omega) hF) rfl ⟨Sub.rfl, trivial⟩) ?_
    refine Al_p Pu_mvl ?_
    refine Al_p (Pu_str rfl rfl rfl rfl) ?_
    refine Al_nil ?_
    refine Aw_cond rfl (fun h23 => ?_) (fun h23 => ?_)
    · skip
      have hne : ¬ L.bytes es = s.data.toList := fun e => by
        rw [e, V.ba_data] at h23
        simp at h23
      refine Aw_seq (Aw_region ?_)
      refine Al_store1 rfl rfl rfl (by kernel_rfl) Try.isAgg22 Try.sizeOf22 rfl rfl (Nat.le_of_ble_eq_true rfl) (by conv => lhs; whnf) rfl ?_
      refine Al_store1 rfl rfl rfl (by kernel_rfl) Try.isAgg4 Try.sizeOf4 rfl rfl (Nat.le_of_ble_eq_true rfl) (by conv => lhs; whnf) rfl ?_
      refine Al_nil ?_
      refine Aw_boxle (k := 2) [.d (.sl 6 [])] rfl ⟨Sub.nil, trivial⟩ ?_
      refine Aw_ret ?_
      exact ⟨rfl, rfl, [], false, rfl, rfl, by unfold L.readA L.readL; simp only [hpr]; rw [if_neg hne]⟩ -- ret 0
    · skip
      have hne : L.bytes es = s.data.toList := by
        have h2 : V.ba (L.bytes es) = s := V.toList_eq (by simpa using h23)
        rw [← h2, V.data_ba]
      refine Aw_skip (Aw_seq (Aw_region ?_))
      refine Al_p (Pu_loadb rfl Try.isAgg22 rfl rfl rfl) ?_
      refine Al_store1 rfl rfl rfl (by kernel_rfl) Try.isAgg22 Try.sizeOf22 rfl rfl (Nat.le_of_ble_eq_true rfl) (by conv => lhs; whnf) rfl ?_
      refine Al_store1 rfl rfl rfl (by kernel_rfl) Try.isAgg4 Try.sizeOf4 rfl rfl (Nat.le_of_ble_eq_true rfl) (by conv => lhs; whnf) rfl ?_
      refine Al_nil ?_
      refine Aw_ret ?_
      exact ⟨rfl, rfl, _, true, rfl, rfl, by unfold L.readA L.readL; simp only [hpr]; rw [if_pos hne]⟩ -- ret 1
theorem lcatch_idle (p q : Addr) (w : World) :
    CallsD Try.prog 17 #[.pointer (some p), .pointer (some q)] .returning w fun e u' w' => e = .returned (.tuple #[]) ∧ u' = .returning ∧ w' = w := by
  refine callsD_of_wpS Try.func17 rfl fun c₀ cs hu => ?_
  apply wpS_seq
  apply wpS_region
  simp [wpOpsS, go_sem, recoverD, hu, Try.ntmps17, Exit.thenS]
  refine wpS_cond (t := false) (by simp [Act.eval, Array.replicate]) ?_
  simp only [Bool.false_eq_true, if_false]
  refine wpS_of_wp (wp_skip ?_)
  cases c₀
  simp_all [bodyPostS, results, Try.results17]
theorem lcatch_busy (p q : Addr) (pv : TypeId) (w : World) (x y : Value) (hp : w.cell? p = some x) (hq : (w.setCell p (.slice none 0 0)).cell? q = some y) (fp : w.frozen? p = false) (fq : (w.setCell p (.slice none 0 0)).frozen? q = false) :
    CallsD Try.prog 17 #[.pointer (some p), .pointer (some q)] (.panicking [{ v := .iface pv (.agg #[]), recovered := false }]) w fun e u' w' => e = .returned (.tuple #[]) ∧ u' = .panicking [{ v := .iface pv (.agg #[]), recovered := true }] ∧ w' = (w.setCell p (.slice none 0 0)).setCell q (.bool false) := by
  refine callsD_of_wpS Try.func17 rfl fun c₀ cs hu => ?_
  apply wpS_seq
  apply wpS_region
  simp [wpOpsS, go_sem, recoverD, hu, Try.ntmps17, Exit.thenS]
  refine wpS_cond (t := true) (by simp [Act.eval, Array.replicate]) ?_
  simp only [if_true]
  apply wpS_region
  simp [wpOpsS, go_sem, hp, hq, fp, fq]
  cases c₀
  simp_all [bodyPostS, results, Try.results17]
set_option maxRecDepth 100000 in
set_option maxHeartbeats 2000000 in
theorem lread_a (s : ByteArray) (hs : s.size ≤ 5000) : ACall Try.prog 8 [tv s] (L.readA s.data.toList) := ⟨fun _ _ => by kernel_rfl, fun M w vs hM ha => by
  obtain ⟨rfl, hsv⟩ := A.all1 ha
  have hmf : ∀ (fn : Fn) (first cap : Array Value) (w : World), (Instr.makeFunc fn first cap).run Try.prog w = .ok (.func fn first cap) w := fun _ _ _ _ => rfl
  go_enter_defers Try.func8, Try.ntmps8
  refine seq2_open (fun X hX => ?_)
  refine wp_seq (wp_region_lit ?_)
  refine wpList_plain rfl fun K hK => ?_
  simp [Oper.wp, go_sem]
  refine hK _ _ ?_
  clear hK K
  refine wpList_plain rfl fun K hK => ?_
  simp [Oper.wp, go_sem]
  refine hK _ _ ?_
  clear hK K
  show Code.wp _ _ _ _ _
  refine wp_seq (wp_region_lit ?_)
  refine wpList_plain rfl fun K hK => ?_
  simp [Oper.wp, go_sem]
  refine hK _ _ ?_
  clear hK K
  refine wpList_plain rfl fun K hK => ?_
  simp [Oper.wp, go_sem]
  refine hK _ _ ?_
  clear hK K
  show Code.wp _ _ _ _ _
  have hbody := lread_body s hs M ⟨w, fun _ => False, [{ target := .fn (.func 17) #[.pointer (some ⟨w.heap.size, 0, none⟩), .pointer (some ⟨w.heap.size + 1, 0, none⟩)], args := #[] }], pin2 w.heap.size⟩ (fun _ h => h) 0 0 (c := X) (by subst hX; rfl)
  refine wp_mono (hbody.out _ _ ⟨_, sim_two hM (by exact ⟨rfl, rfl⟩) (by exact trivial) hsv rfl rfl rfl rfl⟩) ?_
  rintro e a' w' ⟨st, hQ, ρ, hsim⟩
  have hextE : Ev.Ext w w' := ⟨hsim.ext.os, hsim.ext.tape, hsim.ext.output, hsim.ext.size, fun b hb => hsim.ext.block b hb (fun h => h)⟩
  have hsl : ∀ k, st.sl k = .bx k 0 0 → k = 2 ∨ k = 3 → ∃ b, pin2 w.heap.size k 0 = some (.pointer (some ⟨b, 0, none⟩)) ∧ a'.tmps.getD k undef = .pointer (some ⟨b, 0, none⟩) := fun k hk hk2 => by
    have h1 := hsim.slot k
    rw [hk] at h1
    obtain ⟨y, b, h2, h3, h4⟩ := h1
    rcases hk2 with rfl | rfl
    · rw [hsim.pin 2 0 _ rfl] at h2; cases h2; cases h3; exact ⟨_, rfl, h4⟩
    · rw [hsim.pin 3 0 _ rfl] at h2; cases h2; cases h3; exact ⟨_, rfl, h4⟩
  cases e with
  | ret =>
    obtain ⟨q2, q3, rows, b, o2, o3, hres⟩ := hQ
    obtain ⟨b2, e2, s2⟩ := hsl 2 q2 (.inl rfl)
    obtain ⟨b3, e3, s3⟩ := hsl 3 q3 (.inr rfl)
    cases e2; cases e3
    obtain ⟨y2, k2, O2⟩ := hsim.obj _ _ _ o2
    rw [hsim.pin 2 0 _ rfl] at k2; cases k2
    obtain ⟨y3, k3, O3⟩ := hsim.obj _ _ _ o3
    rw [hsim.pin 3 0 _ rfl] at k3; cases k3
    obtain ⟨x2, g2, r2, u2⟩ := box1_at O2
    obtain ⟨x3, g3, r3, u3⟩ := box1_at O3
    have c2 : w'.cell? ⟨w.heap.size, 0, none⟩ = some x2 := by rw [Lib.cell_of_heap g2]; rfl
    have c3 : w'.cell? ⟨w.heap.size + 1, 0, none⟩ = some x3 := by rw [Lib.cell_of_heap g3]; rfl
    show Leaves _ _ _ _ a'.defers _ _
    rw [hsim.defers]
    refine leaves_cons (f := 17) (args := #[.pointer (some ⟨w.heap.size, 0, none⟩), .pointer (some ⟨w.heap.size + 1, 0, none⟩)]) (by simp) (by simp [go_sem]) ?_
    refine (lcatch_idle _ _ _).mono ?_
    rintro e u' w'' ⟨rfl, rfl, rfl⟩
    rw [Array.getD_eq_getD_getElem?] at s2 s3
    refine ⟨.tuple #[x2, x3], ?_, _, rfl, hextE, ?_⟩
    · simp [results, Try.results8, go_sem, s2, s3, c2, c3]
    · rw [hres]
      exact .tup _ [_, _] rfl fun j c x h7 h8 => by
        match j with
        | 0 => simp at h7 h8; subst h7 h8; exact Rep.mono (Known.sub fun c hc => .inl hc) r2
        | 1 => simp at h7 h8; subst h7 h8; exact Rep.mono (Known.sub fun c hc => .inl hc) r3
        | j + 2 => simp at h7
  | panic ch =>
    obtain ⟨q2, q3, hno, ⟨pv, rfl⟩, c2', c3', o2, o3⟩ := hQ
    obtain ⟨b2, e2, s2⟩ := hsl 2 q2 (.inl rfl)
    obtain ⟨b3, e3, s3⟩ := hsl 3 q3 (.inr rfl)
    cases e2; cases e3
    obtain ⟨y2, k2, O2⟩ := hsim.obj _ _ _ o2
    rw [hsim.pin 2 0 _ rfl] at k2; cases k2
    obtain ⟨y3, k3, O3⟩ := hsim.obj _ _ _ o3
    rw [hsim.pin 3 0 _ rfl] at k3; cases k3
    obtain ⟨x2, g2, r2, u2⟩ := box1_at O2
    obtain ⟨x3, g3, r3, u3⟩ := box1_at O3
    have c2 : w'.cell? ⟨w.heap.size, 0, none⟩ = some x2 := by rw [Lib.cell_of_heap g2]; rfl
    have hb2 : (w'.setCell ⟨w.heap.size, 0, none⟩ (.slice none 0 0)).heap[w.heap.size]? = some (.cells #[.slice none 0 0] 22 (0, 0)) := by simp [World.setCell, Array.getElem?_modify, g2]
    have hb3 : (w'.setCell ⟨w.heap.size, 0, none⟩ (.slice none 0 0)).heap[w.heap.size + 1]? = some (.cells #[x3] 4 (0, 0)) := by
      rw [← g3]; exact Below.heap_setCell _ _ _ _ (by simp)
    have c3 : (w'.setCell ⟨w.heap.size, 0, none⟩ (.slice none 0 0)).cell? ⟨w.heap.size + 1, 0, none⟩ = some x3 := by rw [Lib.cell_of_heap hb3]; rfl
    show Leaves _ _ _ _ a'.defers _ _
    rw [hsim.defers]
    refine leaves_cons (f := 17) (args := #[.pointer (some ⟨w.heap.size, 0, none⟩), .pointer (some ⟨w.heap.size + 1, 0, none⟩)]) (by simp) (by simp [go_sem]) ?_
    refine (lcatch_busy _ _ pv _ x2 x3 c2 c3 (Lib.frozen_of_heap g2 0) (Lib.frozen_of_heap hb3 0)).mono ?_
    rintro e u' w'' ⟨rfl, rfl, rfl⟩
    rw [Array.getD_eq_getD_getElem?] at s2 s3
    obtain ⟨w3, hw3⟩ : ∃ w3, w3 = (w'.setCell ⟨w.heap.size, 0, none⟩ (.slice none 0 0)).setCell ⟨w.heap.size + 1, 0, none⟩ (.bool false) := ⟨_, rfl⟩
    have hc2 : w3.heap[w.heap.size]? = some (.cells #[.slice none 0 0] 22 (0, 0)) := by
      rw [hw3, ← hb2]; exact Below.heap_setCell _ _ _ _ (by simp)
    have hc3 : w3.heap[w.heap.size + 1]? = some (.cells #[.bool false] 4 (0, 0)) := by rw [hw3]; simp [World.setCell, Array.getElem?_modify, g3]
    have d2 : w3.cell? ⟨w.heap.size, 0, none⟩ = some (.slice none 0 0) := by rw [Lib.cell_of_heap hc2]; rfl
    have d3 : w3.cell? ⟨w.heap.size + 1, 0, none⟩ = some (.bool false) := by rw [Lib.cell_of_heap hc3]; rfl
    have hext : Ev.Ext w w3 := by
      rw [hw3]
      exact (hextE.setCell (p := ⟨w.heap.size, 0, none⟩) (Nat.le_refl _) _).setCell (p := ⟨w.heap.size + 1, 0, none⟩) (Nat.le_succ _) _
    rw [← hw3]
    refine ⟨.tuple #[.slice none 0 0, .bool false], ?_, _, rfl, hext, ?_⟩
    · simp [results, Try.results8, go_sem, s2, s3, d2, d3]
    · rw [show L.readA s.data.toList = .tup [.sl 6 [], bv false] from by unfold L.readA L.readL; rw [hno]]
      exact .tup _ [_, _] rfl fun j c x h7 h8 => by
        match j with
        | 0 => simp at h7 h8; subst h7 h8; exact .nil 6 none 0
        | 1 => simp at h7 h8; subst h7 h8; exact .v _ trivial
        | j + 2 => simp at h7
  | _ => exact hQ.elim⟩
end Go.Proofs.Ytlcahhlghjbnkaa
end

section
namespace Go.Proofs.Ytlcahhlghjbnkaa
open Go.RowKit A R
namespace L
abbrev QS := Nat × Bool
def qok (s : ByteArray) (most : Nat) (p : QS) : Bool := !(p.2 || decide ((V.gotE s p.1 : Int) = 0) || decide ((most : Int) < (V.gotN s p.1 : Int)))
def qnS (s : ByteArray) (most : Nat) (p : QS) : QS := if qok s most p then (V.gotE s p.1, false) else (p.1, true)
def qnV (s : ByteArray) (most : Nat) (p : QS) : Nat := if qok s most p then V.gotN s p.1 else 0
def qtok (s : ByteArray) (p : QS) : Bool := !(p.2 || decide ((V.rtE s p.1 32 : Int) = 0))
def qtS (s : ByteArray) (p : QS) : QS := if qtok s p then (V.rtE s p.1 32, false) else (p.1, true)
def qtV (s : ByteArray) (p : QS) : ByteArray := if qtok s p then V.rtT s p.1 32 else ⟨#[]⟩
def qsok (s : ByteArray) (p : QS) : Bool := !(p.2 || decide ((V.stEn s p.1 : Int) = 0))
def qsS (s : ByteArray) (p : QS) : QS := if qsok s p then (V.stEn s p.1, false) else (p.1, true)
def qsN (s : ByteArray) (p : QS) : Nat := if qsok s p then V.stN s p.1 else 0
def qsI (s : ByteArray) (p : QS) : Nat := if qsok s p then V.stI s p.1 else 0
def qdep (s : ByteArray) (p : QS) : Dep := ⟨qtV s p, qsN s (qtS s p), qsI s (qtS s p)⟩
def qmore (s : ByteArray) : Nat → QS → List Dep × QS
  | 0, p => ([], p)
  | k + 1, p => if p.2 then ([], p) else (qdep s p :: (qmore s k (qsS s (qtS s p))).1, (qmore s k (qsS s (qtS s p))).2)
def qless (s : ByteArray) : Nat → QS → List Dep × QS
  | 0, p => ([], p)
  | k + 1, p => if p.2 then ([], p) else (⟨qtV s p, 0, 0⟩ :: (qless s k (qtS s p)).1, (qless s k (qtS s p)).2)
def kept (more less ahead : List Dep) : List Dep := ahead.filter fun d => !keyB more d.key && !keyB less d.key
def seenOf (more less ahead : List Dep) : List Dep := more.foldl D.add ((kept more less ahead).foldl D.add [])
def qA (s : ByteArray) (p : QS) : List Dep × QS := qmore s (qnV s 64 p) (qnS s 64 p)
def qB (s : ByteArray) (p : QS) : List Dep × QS := qless s (qnV s 64 (qA s p).2) (qnS s 64 (qA s p).2)
def qseen (s : ByteArray) (ahead : List Dep) (p : QS) : List Dep := seenOf (qA s p).1 (qB s p).1 ahead
/-- Up to an event's stamp. -/
def q1 (s : ByteArray) (p : QS) : QS := qnS s 2 p
def q2 (s : ByteArray) (p : QS) : QS := qnS s 1000 (q1 s p)
def q3 (s : ByteArray) (p : QS) : QS := qtS s (q2 s p)
def q4 (s : ByteArray) (p : QS) : QS := qnS s 1 (q3 s p)
def qF (s : ByteArray) (p : QS) : Nat := qnV s 1 (q3 s p)
def q5 (s : ByteArray) (p : QS) : QS := if qF s p = 1 then qsS s (q4 s p) else q4 s p
def qN (s : ByteArray) (p : QS) : Nat := if qF s p = 1 then qsN s (q4 s p) else 0
def qI (s : ByteArray) (p : QS) : Nat := if qF s p = 1 then qsI s (q4 s p) else 0
def qev (s : ByteArray) (p : QS) (sn : List Dep) : Event := ⟨(qnV s 2 p : Nat), (qnV s 1000 (q1 s p) : Nat), qtV s (q2 s p), (qN s p : Nat), (qI s p : Nat), sn⟩
def qevent (s : ByteArray) (out : List Event) (p : QS) : Event := qev s p (qseen s (lastM (fun _ => []) out (qnV s 1000 (q1 s p) : Nat)) (q5 s p))
def q6 (s : ByteArray) (p : QS) : QS := (qB s (q5 s p)).2
def qevents (s : ByteArray) : Nat → List Event → QS → List Event × QS
  | 0, out, p => (out, p)
  | k + 1, out, p => if p.2 then (out, p) else qevents s k (out ++ [qevent s out p]) (q6 s p)
def qall (s : ByteArray) : List Event × QS := qevents s (qnV s 4096 (0, false)) [] (qnS s 4096 (0, false))
def qread (s : ByteArray) : Option (List Event) := if (qall s).2.2 then none else if bytes (qall s).1 = s.data.toList then some (qall s).1 else none
section
variable {s : ByteArray}
abbrev qat (s : ByteArray) (t : List UInt8) : QS := (V.pos s t, false)
theorem q_num {n most : Nat} {t : List UInt8} (hr : V.num n ++ t <:+ s.data.toList) (hn : n ≤ most) (hm : most < 18446744073709551616) : qnS s most (qat s (V.num n ++ t)) = qat s t ∧ qnV s most (qat s (V.num n ++ t)) = n := by
  have h1 : V.rdB (s.data.toList.drop (V.pos s (V.num n ++ t))) = some (n, t) := by rw [V.drop_suf hr]; exact V.rdB_num (by omega) t
  obtain ⟨e1, e2, e3⟩ := V.got_some h1
  have hl := V.suf_len hr
  rw [List.length_append] at hl
  have := V.num_pos n
  have hok : qok s most (qat s (V.num n ++ t)) = true := by
    unfold qok
    rw [e1, e2]
    simp
    omega
  unfold qnS qnV
  rw [hok]
  exact ⟨by rw [if_pos rfl, e2], by rw [if_pos rfl, e1]⟩
theorem q_text {k : ByteArray} {t : List UInt8} (hr : V.text k ++ t <:+ s.data.toList) (hn : k.size ≤ 32) : qtS s (qat s (V.text k ++ t)) = qat s t ∧ qtV s (qat s (V.text k ++ t)) = k := by
  have h1 : V.ptext 32 (s.data.toList.drop (V.pos s (V.text k ++ t))) = some (k.data.toList, t) := by rw [V.drop_suf hr]; exact ptext_text hn t
  obtain ⟨e1, e2, e3⟩ := V.rt_some h1
  have hl := V.suf_len hr
  have hp := V.num_pos k.size
  have hok : qtok s (qat s (V.text k ++ t)) = true := by
    unfold qtok
    rw [e2]
    unfold V.text at hl
    simp only [List.length_append] at hl
    simp
    omega
  unfold qtS qtV
  rw [hok]
  exact ⟨by rw [if_pos rfl, e2], by rw [if_pos rfl, e1, V.ba_data]⟩
theorem q_stamp {n i : Int} {t : List UInt8} (hr : V.stamp n i ++ t <:+ s.data.toList) (hb : V.stampB n i = true) : qsS s (qat s (V.stamp n i ++ t)) = qat s t ∧ qsN s (qat s (V.stamp n i ++ t)) = n.toNat ∧ qsI s (qat s (V.stamp n i ++ t)) = i.toNat := by
  have h1 : V.pst (s.data.toList.drop (V.pos s (V.stamp n i ++ t))) = some ((n.toNat, i.toNat), t) := by rw [V.drop_suf hr]; exact pst_stamp hb t
  have hl := V.suf_len hr
  have hp := V.num_pos n.toNat
  have e2 : V.stEn s (V.pos s (V.stamp n i ++ t)) = V.pos s t := by unfold V.stEn; rw [h1]
  have e3 : V.stN s (V.pos s (V.stamp n i ++ t)) = n.toNat := by unfold V.stN; rw [h1]
  have e4 : V.stI s (V.pos s (V.stamp n i ++ t)) = i.toNat := by unfold V.stI; rw [h1]
  have hok : qsok s (qat s (V.stamp n i ++ t)) = true := by
    unfold qsok
    rw [e2]
    unfold V.stamp at hl
    rw [if_pos hb] at hl
    simp only [List.length_append] at hl
    have : ¬ ((V.pos s t : Nat) : Int) = 0 := by unfold V.pos; omega
    rw [decide_eq_false this]; rfl
  unfold qsS qsN qsI
  rw [hok]
  exact ⟨by rw [if_pos rfl, e2], by rw [if_pos rfl, e3], by rw [if_pos rfl, e4]⟩
theorem qmore_back : ∀ (ds : List Dep) (t : List UInt8), (∀ d ∈ ds, d.key.size ≤ 32 ∧ V.stampB d.n d.s = true) → ds.flatMap depBytes ++ t <:+ s.data.toList → qmore s ds.length (qat s (ds.flatMap depBytes ++ t)) = (ds, qat s t)
  | [], t, _, _ => rfl
  | d :: r, t, h, hr => by
    obtain ⟨h1, h2⟩ := h d (List.mem_cons_self ..)
    have h3 := V.stampB_iff.1 h2
    rw [List.flatMap_cons, depBytes, List.append_assoc, List.append_assoc] at hr ⊢
    have hr2 := V.suf_app hr
    have hr3 := V.suf_app hr2
    obtain ⟨a1, a2⟩ := q_text hr h1
    obtain ⟨b1, b2, b3⟩ := q_stamp hr2 h2
    have ih := qmore_back r t (fun x hx => h x (List.mem_cons_of_mem _ hx)) hr3
    rw [List.length_cons, qmore, if_neg (by simp)]
    unfold qdep
    rw [a1, a2, b1, b2, b3, ih, Int.toNat_of_nonneg (by omega), Int.toNat_of_nonneg (by omega)]
theorem qless_back : ∀ (ds : List Dep) (t : List UInt8), (∀ d ∈ ds, d.key.size ≤ 32) → (ds.flatMap fun d => V.text d.key) ++ t <:+ s.data.toList → qless s ds.length (qat s ((ds.flatMap fun d => V.text d.key) ++ t)) = (ds.map fun d => ⟨d.key, 0, 0⟩, qat s t)
  | [], t, _, _ => rfl
  | d :: r, t, h, hr => by
    rw [List.flatMap_cons, List.append_assoc] at hr ⊢
    have hr2 := V.suf_app hr
    obtain ⟨a1, a2⟩ := q_text hr (h d (List.mem_cons_self ..))
    have ih := qless_back r t (fun x hx => h x (List.mem_cons_of_mem _ hx)) hr2
    rw [List.length_cons, qless, if_neg (by simp), a1, a2, ih]; rfl
end
theorem kmap_app (a b : List Dep) (c : ByteArray) : kmap (a ++ b) c = (kmap a c).or (kmap b c) := by
  unfold kmap
  rw [List.find?_append]
  cases List.find? (fun x => decide (x.key = c)) a <;> rfl
theorem kmap_add {p : List Dep} {d : Dep} (hs : D.Srt p) (h : D.okB d = true) (hk : kmap p d.key = none) (c : ByteArray) : kmap (D.add p d) c = if c = d.key then some (d.n, d.s) else kmap p c := by
  have hno : D.hasK p d.key = false := by
    cases hb : D.hasK p d.key with
    | false => rfl
    | true =>
      obtain ⟨x, hx, he⟩ := List.any_eq_true.1 hb
      have := kmap_mem hs x hx
      rw [V.toList_eq he, hk] at this; cases this
  rw [D.add_new hs h hno, kmap_app, kmap_cons]
  have hsp := kmap_app (p.take (D.pos p d.key)) (p.drop (D.pos p d.key)) c
  rw [List.take_append_drop] at hsp
  by_cases hc : c = d.key
  · subst hc
    rw [hk] at hsp
    rw [if_pos rfl, if_pos rfl]
    cases h1 : kmap (p.take (D.pos p d.key)) d.key with
    | none => rfl
    | some v => rw [h1] at hsp; cases hsp
  · rw [if_neg (Ne.symm hc), if_neg hc, hsp]
theorem adds_kmap : ∀ (ds p : List Dep), D.Good p → D.Good ds → (∀ d ∈ ds, kmap p d.key = none) → D.Good (ds.foldl D.add p) ∧ ∀ c, kmap (ds.foldl D.add p) c = (kmap p c).or (kmap ds c)
  | [], p, hp, _, _ => ⟨hp, fun c => by rw [show kmap [] c = none from rfl, Option.or_none]; rfl⟩
  | x :: r, p, hp, hd, hn => by
    have hx := hn x (List.mem_cons_self ..)
    have hka := kmap_add hp.srt (hd.ok x (List.mem_cons_self ..)) hx
    obtain ⟨h1, h2⟩ := adds_kmap r (D.add p x) (D.add_good hp x) ⟨(List.pairwise_cons.1 hd.srt).2, fun y hy => hd.ok y (List.mem_cons_of_mem _ hy)⟩ (fun d hdr => by
      rw [hka, if_neg (srt_lt hd.srt d hdr)]
      exact hn d (List.mem_cons_of_mem _ hdr))
    refine ⟨h1, fun c => ?_⟩
    rw [List.foldl_cons, h2, hka, kmap_cons]
    by_cases hc : c = x.key
    · subst hc
      rw [if_pos rfl, if_pos rfl, hx]; rfl
    · rw [if_neg hc, if_neg (Ne.symm hc)]
theorem good_filter {p : List Dep} (hp : D.Good p) (q : Dep → Bool) : D.Good (p.filter q) := ⟨hp.srt.filter _, fun x hx => hp.ok x (List.mem_filter.1 hx).1⟩
theorem keyB_map (l : List Dep) (k : ByteArray) : keyB (l.map fun d => ⟨d.key, 0, 0⟩) k = keyB l k := by
  unfold keyB; rw [List.any_map]; rfl
theorem seenOf_back (e : Event) (ahead : List Dep) (hs : D.Good e.seen) (ha : D.Good ahead) : seenOf (rmore e ahead) ((rless e ahead).map fun d => ⟨d.key, 0, 0⟩) ahead = e.seen := by
  unfold seenOf
  have hg0 : D.Good [] := ⟨List.Pairwise.nil, fun x hx => by cases hx⟩
  have hk : D.Good (kept (rmore e ahead) ((rless e ahead).map fun d => ⟨d.key, 0, 0⟩) ahead) := good_filter ha _
  obtain ⟨h1, h2⟩ := adds_kmap _ [] hg0 hk fun d _ => rfl
  have hm : D.Good (rmore e ahead) := good_filter hs _
  have hkn : ∀ c, kmap (kept (rmore e ahead) ((rless e ahead).map fun d => ⟨d.key, 0, 0⟩) ahead) c = if keyB (rmore e ahead) c || keyB (rless e ahead) c then none else kmap ahead c := fun c => by
    split
    · rename_i hc
      refine kmap_none fun x hx hxc => ?_
      have := (List.mem_filter.1 hx).2
      rw [keyB_map, hxc] at this
      rw [Bool.or_eq_true] at hc
      rcases hc with hc | hc <;> rw [hc] at this <;> simp at this
    · rename_i hc
      cases hv : kmap ahead c with
      | none =>
        refine kmap_none fun x hx hxc => ?_
        have := kmap_mem ha.srt x (List.mem_filter.1 hx).1
        rw [hxc, hv] at this; cases this
      | some v =>
        obtain ⟨x, hx, rfl, rfl⟩ := kmap_some hv
        refine kmap_mem hk.srt x (List.mem_filter.2 ⟨hx, ?_⟩)
        rw [keyB_map]
        simp only [Bool.or_eq_true, not_or, Bool.not_eq_true] at hc
        rw [hc.1, hc.2]; rfl
  obtain ⟨h3, h4⟩ := adds_kmap (rmore e ahead) _ h1 hm (fun d hd => by
    rw [h2, show kmap [] d.key = none from rfl, hkn, if_pos (by rw [keyB_iff.2 ⟨d, hd, rfl⟩]; rfl)]; rfl)
  refine kmap_ext h3.srt hs.srt fun c => ?_
  rw [h4, h2, show kmap [] c = none from rfl, hkn]
  cases hv : kmap e.seen c with
  | some v =>
    obtain ⟨d, hd, rfl, rfl⟩ := kmap_some hv
    have hl : keyB (rless e ahead) d.key = false := by
      cases hb : keyB (rless e ahead) d.key with
      | false => rfl
      | true =>
        obtain ⟨x, hx, hk⟩ := keyB_iff.1 hb
        have h1 := (List.mem_filter.1 hx).2
        rw [hk, (keyB_iff (l := e.seen)).2 ⟨d, hd, rfl⟩] at h1; cases h1
    cases hb : hasD ahead d with
    | false =>
      have hdm : d ∈ rmore e ahead := List.mem_filter.2 ⟨hd, by rw [hb]; rfl⟩
      rw [if_pos (by rw [keyB_iff.2 ⟨d, hdm, rfl⟩]; rfl), kmap_mem hm.srt d hdm]; rfl
    | true =>
      have hkm : keyB (rmore e ahead) d.key = false := by
        cases hb2 : keyB (rmore e ahead) d.key with
        | false => rfl
        | true =>
          obtain ⟨x, hx, hxk⟩ := keyB_iff.1 hb2
          obtain ⟨hx1, hx2⟩ := List.mem_filter.1 hx
          have h1 := kmap_mem hs.srt x hx1
          rw [hxk, hv] at h1
          have hxd : x = d := by cases x; cases d; simp at hxk h1; simp [hxk, h1]
          rw [hxd, hb] at hx2; cases hx2
      rw [if_neg (by rw [hkm, hl]; simp), kmap_mem ha.srt d (hasD_iff.1 hb)]; rfl
  | none =>
    have hno : ∀ x ∈ e.seen, x.key ≠ c := fun x hx e1 => by
      have h1 := kmap_mem hs.srt x hx
      rw [e1, hv] at h1; cases h1
    rw [kmap_none (l := rmore e ahead) fun x hx => hno x (List.mem_filter.1 hx).1, Option.or_none]
    show Option.or none _ = none
    rw [Option.none_or]
    split
    · rfl
    · rename_i hc
      cases hr : kmap ahead c with
      | none => rfl
      | some u =>
        obtain ⟨y, hy, hyk, rfl⟩ := kmap_some hr
        refine (hc ?_).elim
        rw [Bool.or_eq_true]
        refine .inr (keyB_iff.2 ⟨y, List.mem_filter.2 ⟨hy, ?_⟩, hyk⟩)
        cases hb : keyB e.seen y.key with
        | false => rfl
        | true =>
          obtain ⟨x, hx, hxk⟩ := keyB_iff.1 hb
          exact (hno x hx (by rw [hxk, hyk])).elim
theorem seen_good : ∀ (l : List Dep) (p : Option ByteArray), seenF p l = true → D.Good l := fun l p h => ⟨seen_srt l p h, fun x hx => by unfold D.okB; rw [seen_key l p h x hx, seen_dep l p h x hx]; rfl⟩
theorem ev_mk (e : Event) {k c n i : Int} (h1 : e.kind = k) (h2 : e.client = c) (h3 : e.n = n) (h4 : e.s = i) : (⟨k, c, e.key, n, i, e.seen⟩ : Event) = e := by subst h1 h2 h3 h4; rfl
theorem qevent_back {s : ByteArray} {e : Event} {out : List Event} (h : check e = true) (hl : seenF none (lastM (fun _ => []) out e.client) = true) (hk : ∀ d ∈ lastM (fun _ => []) out e.client, d.key.size ≤ 32) (hn : (lastM (fun _ => []) out e.client).length ≤ 64) (t : List UInt8) (hr : part e (lastM (fun _ => []) out e.client) ++ t <:+ s.data.toList) : qevent s out (qat s (part e (lastM (fun _ => []) out e.client) ++ t)) = e ∧ q6 s (qat s (part e (lastM (fun _ => []) out e.client) ++ t)) = qat s t := by
  obtain ⟨⟨k, c, e1, e2, e3, e4⟩, h1, h2, h3, h4⟩ := check_all h
  have hE : ∀ n i : Int, e.n = n → e.s = i → (⟨(k : Nat), (c : Nat), e.key, n, i, e.seen⟩ : Event) = e := fun n i h3 h4 => ev_mk e e1 e2 h3 h4
  rw [part_rpart h hl] at hr ⊢
  unfold rpart rhead at hr ⊢
  have f1 : (rmore e (lastM (fun _ => []) out e.client)).length ≤ 64 := Nat.le_trans (List.length_filter_le _ _) h2
  have f2 : (rless e (lastM (fun _ => []) out e.client)).length ≤ 64 := Nat.le_trans (List.length_filter_le _ _) hn
  have hsb := seenOf_back e (lastM (fun _ => []) out e.client) (seen_good _ _ (seen_of h)) (seen_good _ _ hl)
  have hmo : ∀ d ∈ rmore e (lastM (fun _ => []) out e.client), d.key.size ≤ 32 ∧ V.stampB d.n d.s = true := fun d hd => h4 d (List.mem_filter.1 hd).1
  have hle : ∀ d ∈ rless e (lastM (fun _ => []) out e.client), d.key.size ≤ 32 := fun d hd => hk d (List.mem_filter.1 hd).1
  simp only [List.append_assoc] at hr ⊢
  rw [e1, e2, show ((k : Int).toNat) = k from rfl, show ((c : Int).toNat) = c from rfl] at *
  generalize hah : lastM (fun _ => []) out (c : Int) = ahead at *
  obtain ⟨a1, a2⟩ := q_num hr e3 (by omega)
  have hr := V.suf_app hr
  obtain ⟨b1, b2⟩ := q_num hr e4 (by omega)
  have hr := V.suf_app hr
  obtain ⟨c1, c2⟩ := q_text hr h1
  have hr := V.suf_app hr
  have fin : ∀ (p : QS) (r : List UInt8), q5 s p = qat s (V.num (rmore e ahead).length ++ ((rmore e ahead).flatMap depBytes ++ (V.num (rless e ahead).length ++ (((rless e ahead).flatMap fun d => V.text d.key) ++ t)))) → V.num (rmore e ahead).length ++ ((rmore e ahead).flatMap depBytes ++ (V.num (rless e ahead).length ++ (((rless e ahead).flatMap fun d => V.text d.key) ++ t))) <:+ s.data.toList → q6 s p = qat s t ∧ qseen s ahead (q5 s p) = e.seen := fun p _ hp hr => by
    have hr2 := V.suf_app hr
    have hr3 := V.suf_app hr2
    have hr4 := V.suf_app hr3
    obtain ⟨m1, m2⟩ := q_num hr f1 (by omega)
    have m3 := qmore_back _ _ hmo hr2
    obtain ⟨l1, l2⟩ := q_num hr3 f2 (by omega)
    have l3 := qless_back _ _ hle hr4
    have hA : qA s (q5 s p) = (rmore e ahead, qat s (V.num (rless e ahead).length ++ (((rless e ahead).flatMap fun d => V.text d.key) ++ t))) := by
      unfold qA; rw [hp, m1, m2, m3]
    have hB : qB s (q5 s p) = ((rless e ahead).map fun d => ⟨d.key, 0, 0⟩, qat s t) := by
      unfold qB; rw [hA]; simp only; rw [l1, l2, l3]
    refine ⟨by unfold q6; rw [hB], ?_⟩
    unfold qseen
    rw [hA, hB]; exact hsb
  unfold rstampOpt at *
  generalize hP : qat s (V.num k ++ _) = p at *
  have p1 : q1 s p = _ := a1
  have p2 : q2 s p = _ := (congrArg (qnS s 1000) p1).trans b1
  have p3 : q3 s p = _ := (congrArg (qtS s) p2).trans c1
  have v1 : qnV s 1000 (q1 s p) = c := by rw [p1]; exact b2
  have v2 : qtV s (q2 s p) = e.key := by rw [p2]; exact c2
  rcases head_stamp h with ⟨n1, n2⟩ | ⟨n1, n2⟩
  · rw [if_pos n1] at hr p3
    obtain ⟨d1, d2⟩ := q_num (s := s) (n := 0) (most := 1) hr (by omega) (by omega)
    have hr := V.suf_app hr
    have pF : qF s p = 0 := (congrArg (qnV s 1) p3).trans d2
    have p5 : q5 s p = _ := (if_neg (by rw [pF]; omega)).trans ((congrArg (qnS s 1) p3).trans d1)
    obtain ⟨g1, g2⟩ := fin p [] p5 hr
    refine ⟨?_, g1⟩
    unfold qevent
    rw [v1, hah, g2]
    unfold qev qN qI
    rw [v1, v2, pF, if_neg (by omega), if_neg (by omega), a2]
    exact hE 0 0 n1 n2
  · have n3 := V.stampB_iff.1 n2
    rw [if_neg n1, List.append_assoc] at hr p3
    obtain ⟨d1, d2⟩ := q_num (s := s) (n := 1) (most := 1) hr (by omega) (by omega)
    have hr := V.suf_app hr
    obtain ⟨s1, s2, s3⟩ := q_stamp hr n2
    have hr := V.suf_app hr
    have p4 : q4 s p = _ := (congrArg (qnS s 1) p3).trans d1
    have pF : qF s p = 1 := (congrArg (qnV s 1) p3).trans d2
    have p5 : q5 s p = _ := (if_pos pF).trans ((congrArg (qsS s) p4).trans s1)
    obtain ⟨g1, g2⟩ := fin p [] p5 hr
    refine ⟨?_, g1⟩
    unfold qevent
    rw [v1, hah, g2]
    unfold qev qN qI
    rw [v1, v2, pF, if_pos rfl, if_pos rfl, a2, p4, s2, s3, Int.toNat_of_nonneg (by omega), Int.toNat_of_nonneg (by omega)]
    exact hE _ _ rfl rfl
theorem qevents_back {s : ByteArray} {es : List Event} (h : ∀ e ∈ es, check e = true) (t : List UInt8) : ∀ (m k : Nat), k + m = es.length → cat (partsF (lastM (fun _ => []) (es.take k)) (es.drop k)) ++ t <:+ s.data.toList → qevents s m (es.take k) (qat s (cat (partsF (lastM (fun _ => []) (es.take k)) (es.drop k)) ++ t)) = (es, qat s t)
  | 0, k, hk, _ => by rw [List.take_of_length_le (by omega), List.drop_of_length_le (by omega)]; rfl
  | m + 1, k, hk, hr => by
    have hk' : k < es.length := by omega
    rw [List.drop_eq_getElem_cons hk'] at hr ⊢
    simp only [partsF, cat, List.flatMap_cons, V.data_ba, List.append_assoc] at hr ⊢
    have hm : ∀ e ∈ es.take k, check e = true := fun e he => h e (List.mem_of_mem_take he)
    have hlast : seenF none (lastM (fun _ => []) (es.take k) es[k].client) = true ∧ (∀ d ∈ lastM (fun _ => []) (es.take k) es[k].client, d.key.size ≤ 32) ∧ (lastM (fun _ => []) (es.take k) es[k].client).length ≤ 64 := by
      rcases last_of (es.take k) es[k].client with h1 | ⟨e, he, h1⟩
      · rw [h1]; exact ⟨rfl, fun d hd => (by cases hd), by simp⟩
      · rw [h1]
        obtain ⟨_, _, h3, _, h4⟩ := check_all (hm e he)
        exact ⟨seen_of (hm e he), fun d hd => (h4 d hd).1, h3⟩
    obtain ⟨g1, g2⟩ := qevent_back (h _ (List.getElem_mem hk')) hlast.1 hlast.2.1 hlast.2.2 _ hr
    rw [qevents, if_neg (by simp), g1, g2]
    have ih := qevents_back (s := s) h t m (k + 1) (by omega)
    rw [take_snoc hk', lastM_app] at ih
    exact ih (V.suf_app hr)
theorem qread_back {s : ByteArray} {es : List Event} (h : ∀ e ∈ es, check e = true) (hn : es.length ≤ 4096) (hb : bytes es = s.data.toList) : qread s = some es := by
  have hall : es.all check = true := List.all_eq_true.2 h
  have hb2 := hb
  unfold bytes parts at hb2
  rw [if_pos hall, if_pos hall] at hb2
  have hr : V.num es.length ++ cat (partsF (fun _ => []) es) <:+ s.data.toList := by rw [hb2]; exact List.suffix_refl _
  obtain ⟨a1, a2⟩ := q_num hr hn (by omega)
  have h0 : qat s (V.num es.length ++ cat (partsF (fun _ => []) es)) = (0, false) := by
    unfold qat V.pos
    rw [hb2, Array.length_toList]
    simp
  rw [h0] at a1 a2
  have := qevents_back (s := s) h [] es.length 0 (by omega) (by simpa [lastM] using V.suf_app hr)
  simp only [List.take_zero, List.drop_zero, List.append_nil, lastM] at this
  have hq : qall s = (es, qat s []) := by unfold qall; rw [a1, a2, this]
  unfold qread
  rw [hq, if_neg (by simp), if_pos hb]
theorem qevents_len (s : ByteArray) : ∀ (k : Nat) (out : List Event) (p : QS), (qevents s k out p).1.length ≤ out.length + k
  | 0, out, p => Nat.le_refl _
  | k + 1, out, p => by
    rw [qevents]
    split
    · simp
    · have := qevents_len s k (out ++ [qevent s out p]) (q6 s p)
      simp at this; omega
theorem qnV_le (s : ByteArray) (most : Nat) (p : QS) : qnV s most p ≤ most := by
  unfold qnV
  split
  · rename_i h
    unfold qok at h
    simp at h
    omega
  · omega
theorem qmore_bad (s : ByteArray) : ∀ (k : Nat) (p : QS), p.2 = true → qmore s k p = ([], p)
  | 0, p, _ => rfl
  | k + 1, p, h => by rw [qmore, if_pos h]
theorem qevents_bad (s : ByteArray) : ∀ (k : Nat) (out : List Event) (p : QS), p.2 = true → qevents s k out p = (out, p)
  | 0, out, p, _ => rfl
  | k + 1, out, p, h => by rw [qevents, if_pos h]
/-- Both read the same. -/
theorem read_same (s : ByteArray) : qread s = readL s.data.toList := by
  cases hr : readL s.data.toList with
  | some es =>
    obtain ⟨h1, h2, h3⟩ := readL_iff.1 hr
    exact qread_back (bytes_check (by rw [h3]; exact h1)) h2 h3
  | none =>
    cases hq : qread s with
    | none => rfl
    | some es =>
      exfalso
      unfold qread at hq
      split at hq
      · cases hq
      · rename_i hbad
        split at hq
        · rename_i hb
          cases hq
          have hne : s.data.toList ≠ [] := fun e => by
            refine hbad ?_
            have hok : qok s 4096 (0, false) = false := by
              have hg : V.rdB (s.data.toList.drop 0) = none := by rw [e]; rfl
              unfold qok
              rw [(V.got_none hg).2.1]; rfl
            unfold qall
            rw [show qnS s 4096 (0, false) = (0, true) from by unfold qnS; rw [hok]; rfl, qevents_bad _ _ _ _ rfl]
          have hlen : (qall s).1.length ≤ 4096 := by
            have h1 := qevents_len s (qnV s 4096 (0, false)) [] (qnS s 4096 (0, false))
            have h2 := qnV_le s 4096 (0, false)
            simp at h1
            unfold qall; omega
          have := readL_iff.2 ⟨hne, hlen, hb⟩
          rw [hr] at this; cases this
        · cases hq
end L
end Go.Proofs.Ytlcahhlghjbnkaa
end
