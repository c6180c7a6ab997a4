/- Abstract states: calls that leave one of several: what the contract does not tell ahead. -/
/- Abstract states: calls that are lent objects: these are told apart from what is new; tests against nil; maps, and how many entries they have. -/
/- Abstract states: guarded operations whose guard is known. -/
import Derived.Test.YtmbaeloiepjakaaAX
import Derived.Test.YtmbaeloiepjakaaAM
set_option linter.unusedSimpArgs false
set_option linter.unusedVariables false
namespace Go.Proofs.Ytmbaeloiepjakaa.A
open Go Go.RowKit
/-- A call that is lent objects, and leaves one of several. -/
def GCallE (P : Program) (f : FuncId) (ins : List SV) (obs : Obs) {ι : Type} (R : ι → Option (Obs × SV)) : Prop :=
  (∀ (vs : Array Value) (w : World), (callFunc f vs).run P w = .ok (.enter f vs) w) ∧
  ∀ (M : Nat → Prop) (w : World) (ρ : Rho) (vs : List Value), (∀ b, M b → b < w.heap.size) → Bnd ρ → ARep M w ρ ins vs → Objs ⟨w, fun _ => True, [], fun _ _ => none⟩ M w ρ obs → (∀ b, fps ρ obs b → M b) → Apart ρ obs →
    Calls P f vs.toArray w fun e w' => ExtL ⟨w, fps ρ obs, [], fun _ _ => none⟩ w' ∧ ∃ i, GPost M w ρ obs w' e (R i)
theorem GCall.e {P : Program} {f : FuncId} {ins : List SV} {obs : Obs} {ι : Type} {R : ι → Option (Obs × SV)} (i : ι) (h : GCall P f ins obs (R i)) : GCallE P f ins obs R := ⟨h.1, fun M w ρ vs h1 h2 h3 h4 h5 h6 => (h.2 M w ρ vs h1 h2 h3 h4 h5 h6).mono fun e w' ⟨h7, h8⟩ => ⟨h7, i, h8⟩⟩
section
variable {P : Program} {N : Nat} {M0 : Nat → Prop} {w0 : Base} {ops : Array Oper} {Q : Exit → ASt → Prop} {o : Oper} {l : List Oper} {st : ASt}
theorem gcallE_at {ι : Type} {f : FuncId} {ins : List SV} {obs : Obs} {obs' : ι → Obs} {res : ι → SV} {pm : Pm} {nw : List (Nat × Nat)} {d : Nat} {a : Act} {w : World} {ρ : Rho} {vs : List Value} (hG : GCallE P f ins obs fun i => some (obs' i, res i)) (hsim : SimR N M0 w0 st ρ a w) (hd : o.dst = some d) (hN : d < N) (hg : o.guard = none)
    (hpre : PreO st (nmOf pm) obs) (hB : ∀ i, nmB obs (obs' i) pm nw = true) (hb1 : (obs.all fun p => (lookR pm p.1).isSome) = true) (hb5 : nodupB (pm.map (·.2.1)) = true) (hrun : (execOp a.eval o).run P w = .ok (.enter f vs.toArray) w) (hargs : ARep (Mt M0 ρ st.ob) w ρ (ins.map (SV.ren (nmOf pm))) vs)
    (h : ∀ i G, Al P N M0 w0 ops Q l ((st.aft pm (obs' i) (nm2 pm nw G)).set d ((res i).ren (nm2 pm nw G)))) : wpList P ops (QL N M0 w0 Q) (o :: l) a w := by
  obtain ⟨l1, l2, l3, l4, l5⟩ := hsim.lent ⟨hpre, fun p hp => List.all_eq_true.1 hb1 p hp⟩ hb5
  have hcall := hG.2 (Mt M0 ρ st.ob) w (pull (nmOf pm) ρ) vs hsim.mt_lt (nmOf_bnd hsim.gens) hargs.ren l1 l2 l3
  refine wpList_plain hg fun K hK => wp_upon ?_
  rw [hrun]
  refine hcall.mono fun e w' ⟨hx, ix, v, he, ho⟩ => ⟨v, he, ?_⟩
  obtain ⟨G, ρ', hs', hr'⟩ := hsim.aft hpre (hB ix) hx ho
  refine hK _ _ ((h ix G).out _ _ ⟨ρ', ?_⟩)
  rw [hd]
  exact hs'.set hN hr'
/-- A call that is lent objects. -/
theorem Al_gcallE {ι : Type} {f : FuncId} {ins : List SV} {obs : Obs} {obs' : ι → Obs} {res : ι → SV} (pm : Pm) (nw : List (Nat × Nat)) {d : Nat} {xs : List Operand} {ts : Array TypeId} (hG : GCallE P f ins obs fun i => some (obs' i, res i)) (ho : o.op = .call ⟨.value (.func f), xs.toArray, ts⟩) (hg : o.guard = none) (hd : o.dst = some d) (hN : d < N) (hc : conB o = true)
    (hpre : PreO st (nmOf pm) obs) (hB : ∀ i, nmB obs (obs' i) pm nw = true) (hb1 : (obs.all fun p => (lookR pm p.1).isSome) = true) (hb5 : nodupB (pm.map (·.2.1)) = true) (ha : ArgsS st xs (ins.map (SV.ren (nmOf pm))))
    (h : ∀ i G, Al P N M0 w0 ops Q l ((st.aft pm (obs' i) (nm2 pm nw G)).set d ((res i).ren (nm2 pm nw G)))) : Al P N M0 w0 ops Q (o :: l) st := by
  refine ⟨?_⟩
  rintro a w ⟨ρ, hsim⟩
  have hev := fun y hy => hsim.ev hc y (mem_call ho y hy)
  refine gcallE_at hG hsim hd hN hg hpre hB hb1 hb5 (vs := xs.map a.eval) ?_ (ha.rep fun x hx => hev x (by simpa using hx)) h
  simp only [execOp, ho, resolve, Act.eval, Deferred.ofValue, invoke, Sem.run_bind, Sem.run_pure, Result.andThen_ok]
  rw [hG.1]
  congr 2
  apply Array.ext'
  simp
end
theorem GCallE_enter {P : Program} {ι : Type} {f : FuncId} {fn : Func} {c : Code} {N : Nat} {ins : List SV} {obs : Obs} {R : ι → Option (Obs × SV)} {rs : ASt → SV → Prop} (hcf : ∀ (vs : Array Value) (w : World), (callFunc f vs).run P w = .ok (.enter f vs) w) (hf : P.funcs[f]? = some fn) (hb : fn.body = some c) (hN : fn.ntmps = N) (hr : ReadsS P fn rs) (hn : ins.length ≤ N)
    (h : (∀ a, SV.d a ∈ ins → okA a) → (∀ k T cs a, (k, AO.box T cs) ∈ obs → SV.d a ∈ cs → okA a) → ∀ M0 w0, Aw P N M0 w0 c (fun e st => ∃ i, RtO rs obs (R i) e st) (mk (argSS 0 ins) (lookO1 obs))) : GCallE P f ins obs R := ⟨hcf, fun M w ρ vs hM hbnd ha hobs hfps hap => by
  have hokI : ∀ a, SV.d a ∈ ins → okA a := fun a hm => by
    obtain ⟨j, hj, e⟩ := List.getElem_of_mem hm
    have hj' : j < vs.length := by rw [ha.1]; exact hj
    exact ⟨M, w, vs[j], ha.2 j (.d a) _ (by rw [List.getElem?_eq_getElem hj, e]) (List.getElem?_eq_getElem hj')⟩
  have hokB : ∀ k T cs a, (k, AO.box T cs) ∈ obs → SV.d a ∈ cs → okA a := fun k T cs a hm ha => by
    obtain ⟨y, _, b, xs, rfl, _, _, hsz, hcs⟩ := hobs _ hm
    obtain ⟨j, hj, e⟩ := List.getElem_of_mem ha
    have hj' : j < xs.size := by rw [hsz]; exact hj
    exact ⟨M, w, xs[j], (hcs j (.d a) _ (by rw [List.getElem?_eq_getElem hj, e]) (Array.getElem?_eq_getElem hj')).1⟩
  have hMt : ∀ b, Mt M ρ (mk (argSS 0 ins) (lookO1 obs)).ob b → M b := fun b hb => by
    rcases hb with hb | ⟨k, g, o, x, h1, h2, h3⟩
    · exact hb
    · obtain ⟨rfl, hm⟩ := lookO1_mem h1
      exact hfps b ⟨_, hm, x, h2, h3⟩
  have hsim : SimR N M ⟨w, fps ρ obs, [], pins ρ obs⟩ (mk (argSS 0 ins) (lookO1 obs)) ρ { tmps := vs.toArray ++ Array.replicate (N - vs.toArray.size) undef, defers := [] } w := {
    size := by have := ha.1; simp; omega
    defers := rfl
    slot := fun i => by
      have e := argSS_get ins 0 i
      rw [Nat.zero_add] at e
      show SRep _ _ _ (lookS (argSS 0 ins) i) _
      rw [e]
      cases h : ins[i]? with
      | none => trivial
      | some s =>
        have hi : i < vs.length := by rw [ha.1]; exact (List.getElem?_eq_some_iff.1 h).1
        show SRep _ _ _ s ((vs.toArray ++ Array.replicate (N - vs.toArray.size) undef).getD i undef)
        have e2 : (vs.toArray ++ Array.replicate (N - vs.toArray.size) undef).getD i undef = vs[i] := by
          simp [Array.getD_eq_getD_getElem?, Array.getElem?_append, hi]
        rw [e2]
        exact (ha.2 i s vs[i] h (by simp [hi])).mono (Known.sub hMt)
    obj := fun k g o h => by
      obtain ⟨rfl, hm⟩ := lookO1_mem h
      obtain ⟨y, h1, h2⟩ := hobs _ hm
      exact ⟨y, h1, (h2.mono (Known.sub hMt) fun _ _ => rfl).base fun b hb => .inr ⟨_, hm, y, h1, hb⟩⟩
    apart := fun k g o k' g' o' x x' b h h' h1 h2 h3 h4 => by
      obtain ⟨rfl, hm⟩ := lookO1_mem h
      obtain ⟨rfl, hm'⟩ := lookO1_mem h'
      exact hap _ hm _ hm' x x' b h1 h2 h3 h4
    gens := hbnd
    base := hM
    ext := ⟨rfl, rfl, rfl, Nat.le_refl _, fun _ _ _ => rfl⟩
    pin := fun k g v hv => by
      have : (bif Nat.beq g 0 && obs.any (fun p => Nat.beq p.1 k) then ρ k g else none) = some v := hv
      revert this
      cases (Nat.beq g 0 && obs.any (fun p => Nat.beq p.1 k)) with
      | true => exact id
      | false => intro h; cases h }
  refine calls_of_wp hf hb ?_
  rw [hN]
  refine wp_mono ((h hokI hokB M ⟨w, fps ρ obs, [], pins ρ obs⟩).out _ _ ⟨_, hsim⟩) fun e a' w' ⟨st, ⟨ix, h1⟩, ρF, h2⟩ => ?_
  have hext : ExtL ⟨w, fps ρ obs, [], fun _ _ => none⟩ w' := ⟨h2.ext.os, h2.ext.tape, h2.ext.output, h2.ext.size, h2.ext.block⟩
  have key : (∃ (obs' : Obs) (res : SV) (mp : Pm), R ix = some (obs', res) ∧ rs st (res.ren (nmOf mp)) ∧ PreO st (nmOf mp) obs' ∧ (nodupB (obs'.map fun p => (nmOf mp p.1 0).1) && nodupB (obs'.map (·.1)) && obs.all fun p => !(lookR mp p.1).isSome) = true) → a'.defers = [] ∧ ∃ v, (results fn a'.tmps).run P w' = .ok v w' ∧ (ExtL ⟨w, fps ρ obs, [], fun _ _ => none⟩ w' ∧ ∃ ix, GPost M w ρ obs w' (.returned v) (R ix)) := fun ⟨obs', res, mp, hR, hrs, hpo, hchk⟩ => by
    simp only [Bool.and_eq_true] at hchk
    obtain ⟨⟨c1, c2⟩, c3⟩ := hchk
    obtain ⟨v, k1, k2⟩ := hr.out h2 hrs
    refine ⟨h2.defers, v, k1, hext, ix, ?_⟩
    rw [hR]
    refine ⟨v, rfl, pull (nmOf mp) ρF, nmOf_bnd h2.gens, fun p hp => ?_, fun p hp => ?_, fun p hp q hq x x' b h1 h2' h3 h4 => ?_, ?_⟩
    · have h5 := List.all_eq_true.1 c3 p hp
      have h6 : lookR mp p.1 = none := by simpa using h5
      have e : nmOf mp p.1 0 = (p.1, 0) := by simp [nmOf, h6]
      show ρF (nmOf mp p.1 0).1 (nmOf mp p.1 0).2 = _
      rw [e]
      obtain ⟨y, h7, _⟩ := hobs p hp
      rw [h7]
      refine h2.pin _ _ _ ?_
      show (bif Nat.beq 0 0 && obs.any (fun q => Nat.beq q.1 p.1) then ρ p.1 0 else none) = some y
      have : obs.any (fun q => Nat.beq q.1 p.1) = true := List.any_eq_true.2 ⟨p, hp, by simp⟩
      rw [this]; exact h7
    · obtain ⟨y, h5, h6⟩ := h2.obj _ _ _ (hpo.get p hp)
      refine ⟨y, h5, ((ORep.ren.1 h6).mono (Known.sub fun b hb => ?_) fun _ _ => rfl).base fun b hb => (h6.blk_lt (fpO.ren.2 hb)).1⟩
      rcases hb with hb | ⟨q, hq, z, h7, h8⟩
      · exact .inl hb
      · exact .inr ⟨_, _, _, z, hpo.get q hq, h7, fpO.ren.2 h8⟩
    · have := h2.apart _ _ _ _ _ _ x x' b (hpo.get p hp) (hpo.get q hq) h1 h2' (fpO.ren.2 h3) (fpO.ren.2 h4)
      rw [nodupB.inj c1 p hp q hq this]
    · refine (SRep.ren.1 k2).mono (Known.sub fun b hb => ?_)
      rcases hb with hb | ⟨q, hq, z, h7, h8⟩
      · exact .inl hb
      · exact .inr ⟨_, _, _, z, hpo.get q hq, h7, fpO.ren.2 h8⟩
  cases e with
  | normal => exact key h1
  | ret => exact key h1
  | panic ch =>
    obtain ⟨hR, pv, rfl⟩ := h1
    exact ⟨h2.defers, hext, ix, by rw [hR]; exact ⟨pv, rfl⟩⟩
  | _ => exact h1.elim⟩
end Go.Proofs.Ytmbaeloiepjakaa.A

set_option linter.unusedSimpArgs false
set_option linter.unusedVariables false
namespace Go.Proofs.Ytmbaeloiepjakaa.A
open Go Go.RowKit
theorem GCallE_enterL {P : Program} {ι : Type} {f : FuncId} {fn : Func} {c : Code} {N : Nat} {ins : List SV} {obs : Obs} {R : ι → Option (Obs × SV)} {rs : ASt → SV → Prop} (hcf : ∀ (vs : Array Value) (w : World), (callFunc f vs).run P w = .ok (.enter f vs) w) (hf : P.funcs[f]? = some fn) (hb : fn.body = some c) (hN : fn.ntmps = N) (hr : ReadsS P fn rs) (hn : ins.length ≤ N)
    (h : (∀ a, SV.d a ∈ ins → okA a) → (∀ k T cs a, (k, AO.box T cs) ∈ obs → SV.d a ∈ cs → okA a) → ∀ M0 w0, (∀ b, w0.l b → ∃ p ∈ obs, ∃ h, w0.p p.1 0 = some h ∧ fpO p.2 h b) → Aw P N M0 w0 c (fun e st => ∃ i, RtO rs obs (R i) e st) (mk (argSS 0 ins) (lookO1 obs))) : GCallE P f ins obs R := ⟨hcf, fun M w ρ vs hM hbnd ha hobs hfps hap => by
  have hokI : ∀ a, SV.d a ∈ ins → okA a := fun a hm => by
    obtain ⟨j, hj, e⟩ := List.getElem_of_mem hm
    have hj' : j < vs.length := by rw [ha.1]; exact hj
    exact ⟨M, w, vs[j], ha.2 j (.d a) _ (by rw [List.getElem?_eq_getElem hj, e]) (List.getElem?_eq_getElem hj')⟩
  have hokB : ∀ k T cs a, (k, AO.box T cs) ∈ obs → SV.d a ∈ cs → okA a := fun k T cs a hm ha => by
    obtain ⟨y, _, b, xs, rfl, _, _, hsz, hcs⟩ := hobs _ hm
    obtain ⟨j, hj, e⟩ := List.getElem_of_mem ha
    have hj' : j < xs.size := by rw [hsz]; exact hj
    exact ⟨M, w, xs[j], (hcs j (.d a) _ (by rw [List.getElem?_eq_getElem hj, e]) (Array.getElem?_eq_getElem hj')).1⟩
  have hlent : ∀ b, fps ρ obs b → ∃ p ∈ obs, ∃ h, pins ρ obs p.1 0 = some h ∧ fpO p.2 h b := fun b ⟨p, hp, h, h1, h2⟩ => ⟨p, hp, h, by
    have : obs.any (fun q => Nat.beq q.1 p.1) = true := List.any_eq_true.2 ⟨p, hp, by simp⟩
    show (bif Nat.beq 0 0 && obs.any (fun q => Nat.beq q.1 p.1) then ρ p.1 0 else none) = some h
    rw [this]; exact h1, h2⟩
  have hMt : ∀ b, Mt M ρ (mk (argSS 0 ins) (lookO1 obs)).ob b → M b := fun b hb => by
    rcases hb with hb | ⟨k, g, o, x, h1, h2, h3⟩
    · exact hb
    · obtain ⟨rfl, hm⟩ := lookO1_mem h1
      exact hfps b ⟨_, hm, x, h2, h3⟩
  have hsim : SimR N M ⟨w, fps ρ obs, [], pins ρ obs⟩ (mk (argSS 0 ins) (lookO1 obs)) ρ { tmps := vs.toArray ++ Array.replicate (N - vs.toArray.size) undef, defers := [] } w := {
    size := by have := ha.1; simp; omega
    defers := rfl
    slot := fun i => by
      have e := argSS_get ins 0 i
      rw [Nat.zero_add] at e
      show SRep _ _ _ (lookS (argSS 0 ins) i) _
      rw [e]
      cases h : ins[i]? with
      | none => trivial
      | some s =>
        have hi : i < vs.length := by rw [ha.1]; exact (List.getElem?_eq_some_iff.1 h).1
        show SRep _ _ _ s ((vs.toArray ++ Array.replicate (N - vs.toArray.size) undef).getD i undef)
        have e2 : (vs.toArray ++ Array.replicate (N - vs.toArray.size) undef).getD i undef = vs[i] := by
          simp [Array.getD_eq_getD_getElem?, Array.getElem?_append, hi]
        rw [e2]
        exact (ha.2 i s vs[i] h (by simp [hi])).mono (Known.sub hMt)
    obj := fun k g o h => by
      obtain ⟨rfl, hm⟩ := lookO1_mem h
      obtain ⟨y, h1, h2⟩ := hobs _ hm
      exact ⟨y, h1, (h2.mono (Known.sub hMt) fun _ _ => rfl).base fun b hb => .inr ⟨_, hm, y, h1, hb⟩⟩
    apart := fun k g o k' g' o' x x' b h h' h1 h2 h3 h4 => by
      obtain ⟨rfl, hm⟩ := lookO1_mem h
      obtain ⟨rfl, hm'⟩ := lookO1_mem h'
      exact hap _ hm _ hm' x x' b h1 h2 h3 h4
    gens := hbnd
    base := hM
    ext := ⟨rfl, rfl, rfl, Nat.le_refl _, fun _ _ _ => rfl⟩
    pin := fun k g v hv => by
      have : (bif Nat.beq g 0 && obs.any (fun p => Nat.beq p.1 k) then ρ k g else none) = some v := hv
      revert this
      cases (Nat.beq g 0 && obs.any (fun p => Nat.beq p.1 k)) with
      | true => exact id
      | false => intro h; cases h }
  refine calls_of_wp hf hb ?_
  rw [hN]
  refine wp_mono ((h hokI hokB M ⟨w, fps ρ obs, [], pins ρ obs⟩ hlent).out _ _ ⟨_, hsim⟩) fun e a' w' ⟨st, ⟨ix, h1⟩, ρF, h2⟩ => ?_
  have hext : ExtL ⟨w, fps ρ obs, [], fun _ _ => none⟩ w' := ⟨h2.ext.os, h2.ext.tape, h2.ext.output, h2.ext.size, h2.ext.block⟩
  have key : (∃ (obs' : Obs) (res : SV) (mp : Pm), R ix = some (obs', res) ∧ rs st (res.ren (nmOf mp)) ∧ PreO st (nmOf mp) obs' ∧ (nodupB (obs'.map fun p => (nmOf mp p.1 0).1) && nodupB (obs'.map (·.1)) && obs.all fun p => !(lookR mp p.1).isSome) = true) → a'.defers = [] ∧ ∃ v, (results fn a'.tmps).run P w' = .ok v w' ∧ (ExtL ⟨w, fps ρ obs, [], fun _ _ => none⟩ w' ∧ ∃ ix, GPost M w ρ obs w' (.returned v) (R ix)) := fun ⟨obs', res, mp, hR, hrs, hpo, hchk⟩ => by
    simp only [Bool.and_eq_true] at hchk
    obtain ⟨⟨c1, c2⟩, c3⟩ := hchk
    obtain ⟨v, k1, k2⟩ := hr.out h2 hrs
    refine ⟨h2.defers, v, k1, hext, ix, ?_⟩
    rw [hR]
    refine ⟨v, rfl, pull (nmOf mp) ρF, nmOf_bnd h2.gens, fun p hp => ?_, fun p hp => ?_, fun p hp q hq x x' b h1 h2' h3 h4 => ?_, ?_⟩
    · have h5 := List.all_eq_true.1 c3 p hp
      have h6 : lookR mp p.1 = none := by simpa using h5
      have e : nmOf mp p.1 0 = (p.1, 0) := by simp [nmOf, h6]
      show ρF (nmOf mp p.1 0).1 (nmOf mp p.1 0).2 = _
      rw [e]
      obtain ⟨y, h7, _⟩ := hobs p hp
      rw [h7]
      refine h2.pin _ _ _ ?_
      show (bif Nat.beq 0 0 && obs.any (fun q => Nat.beq q.1 p.1) then ρ p.1 0 else none) = some y
      have : obs.any (fun q => Nat.beq q.1 p.1) = true := List.any_eq_true.2 ⟨p, hp, by simp⟩
      rw [this]; exact h7
    · obtain ⟨y, h5, h6⟩ := h2.obj _ _ _ (hpo.get p hp)
      refine ⟨y, h5, ((ORep.ren.1 h6).mono (Known.sub fun b hb => ?_) fun _ _ => rfl).base fun b hb => (h6.blk_lt (fpO.ren.2 hb)).1⟩
      rcases hb with hb | ⟨q, hq, z, h7, h8⟩
      · exact .inl hb
      · exact .inr ⟨_, _, _, z, hpo.get q hq, h7, fpO.ren.2 h8⟩
    · have := h2.apart _ _ _ _ _ _ x x' b (hpo.get p hp) (hpo.get q hq) h1 h2' (fpO.ren.2 h3) (fpO.ren.2 h4)
      rw [nodupB.inj c1 p hp q hq this]
    · refine (SRep.ren.1 k2).mono (Known.sub fun b hb => ?_)
      rcases hb with hb | ⟨q, hq, z, h7, h8⟩
      · exact .inl hb
      · exact .inr ⟨_, _, _, z, hpo.get q hq, h7, fpO.ren.2 h8⟩
  cases e with
  | normal => exact key h1
  | ret => exact key h1
  | panic ch =>
    obtain ⟨hR, pv, rfl⟩ := h1
    exact ⟨h2.defers, hext, ix, by rw [hR]; exact ⟨pv, rfl⟩⟩
  | _ => exact h1.elim⟩
theorem GCallE.one {P : Program} {f : FuncId} {ins : List SV} {obs : Obs} {R : Option (Obs × SV)} (h : GCallE P f ins obs (fun _ : Unit => R)) : GCall P f ins obs R := ⟨h.1, fun M w ρ vs h1 h2 h3 h4 h5 h6 => (h.2 M w ρ vs h1 h2 h3 h4 h5 h6).mono fun _ _ ⟨h7, _, h8⟩ => ⟨h7, h8⟩⟩
theorem GCall_enterL {P : Program} {f : FuncId} {fn : Func} {c : Code} {N : Nat} {ins : List SV} {obs : Obs} {R : Option (Obs × SV)} {rs : ASt → SV → Prop} (hcf : ∀ (vs : Array Value) (w : World), (callFunc f vs).run P w = .ok (.enter f vs) w) (hf : P.funcs[f]? = some fn) (hb : fn.body = some c) (hN : fn.ntmps = N) (hr : ReadsS P fn rs) (hn : ins.length ≤ N)
    (h : (∀ a, SV.d a ∈ ins → okA a) → (∀ k T cs a, (k, AO.box T cs) ∈ obs → SV.d a ∈ cs → okA a) → ∀ M0 w0, (∀ b, w0.l b → ∃ p ∈ obs, ∃ h, w0.p p.1 0 = some h ∧ fpO p.2 h b) → Aw P N M0 w0 c (RtO rs obs R) (mk (argSS 0 ins) (lookO1 obs))) : GCall P f ins obs R :=
  GCallE.one (GCallE_enterL hcf hf hb hN hr hn fun h1 h2 M0 w0 hl => Aw_mono (h h1 h2 M0 w0 hl) fun _ _ h3 => ⟨(), h3⟩)
section
variable {P : Program} {N : Nat} {M0 : Nat → Prop} {w0 : Base} {ops : Array Oper} {Q : Exit → ASt → Prop} {o : Oper} {l : List Oper} {st : ASt}
/-- What was lent stands where it stood; the object k is none of it. -/
def Still (st : ASt) (k : Nat) : Obs → Prop
  | [] => True
  | p :: r => Nat.beq k p.1 = false ∧ (∃ o', st.ob p.1 = some (0, o') ∧ ∀ h b, fpO p.2 h b → fpO o' h b) ∧ Still st k r
theorem Still.get {k : Nat} : ∀ {obs : Obs}, Still st k obs → ∀ p ∈ obs, k ≠ p.1 ∧ ∃ o', st.ob p.1 = some (0, o') ∧ ∀ h b, fpO p.2 h b → fpO o' h b
  | [], _, p, hp => by cases hp
  | q :: r, ⟨h1, h2, h3⟩, p, hp => by
    rcases List.mem_cons.1 hp with rfl | hp
    · exact ⟨fun e => by rw [e] at h1; simp at h1, h2⟩
    · exact h3.get p hp
theorem lentL_apart {k g : Nat} {ob : AO} {obs : Obs} (hl : ∀ b, w0.l b → ∃ p ∈ obs, ∃ h, w0.p p.1 0 = some h ∧ fpO p.2 h b) (hob : st.ob k = some (g, ob)) (hst : Still st k obs) (a : Act) (w : World) (ρ : Rho) (hs : SimR N M0 w0 st ρ a w) : ∀ v b, ρ k g = some v → fpO ob v b → ¬ w0.l b := fun v b hv hb hlb => by
  obtain ⟨p, hp, h, h1, h2⟩ := hl b hlb
  obtain ⟨hne, o', h3, h4⟩ := hst.get p hp
  exact hne (hs.apart k g _ p.1 0 _ v h b hob h3 hv (hs.pin _ _ _ h1) hb (h4 _ _ h2))
theorem le_frzL {k g : Nat} {T : TypeId} {n : Nat} {rows : List (List AV)} {obs : Obs} (hl : ∀ b, w0.l b → ∃ p ∈ obs, ∃ h, w0.p p.1 0 = some h ∧ fpO p.2 h b) (is : List Nat) (hob : st.ob k = some (g, .arr T n rows)) (hst : Still st k obs) (his : AllOw st k g is) : Le N M0 w0 st (st.frz k is (.sl n rows)) := fun a w ⟨ρ, hs⟩ => ⟨ρ, (hs.frz (fun v b hv hb => lentL_apart hl hob hst a w ρ hs v b hv hb) is hob his).1⟩
/-- A row of the call's own, in a call that is lent objects, told as data from here on. -/
theorem Aw_frzL {c : Code} {k g : Nat} {T : TypeId} {n : Nat} {rows : List (List AV)} {obs : Obs} (hl : ∀ b, w0.l b → ∃ p ∈ obs, ∃ h, w0.p p.1 0 = some h ∧ fpO p.2 h b) (is : List Nat) (hob : st.ob k = some (g, .arr T n rows)) (hst : Still st k obs) (his : AllOw st k g is) (h : Aw P N M0 w0 c Q (st.frz k is (.sl n rows))) : Aw P N M0 w0 c Q st := Aw_le (le_frzL hl is hob hst his) h
theorem Al_frzL {k g : Nat} {T : TypeId} {n : Nat} {rows : List (List AV)} {obs : Obs} (hl : ∀ b, w0.l b → ∃ p ∈ obs, ∃ h, w0.p p.1 0 = some h ∧ fpO p.2 h b) (is : List Nat) (hob : st.ob k = some (g, .arr T n rows)) (hst : Still st k obs) (his : AllOw st k g is) (h : Al P N M0 w0 ops Q l (st.frz k is (.sl n rows))) : Al P N M0 w0 ops Q l st := Al_le (le_frzL hl is hob hst his) h
/-- A row that lies in a variable's cell. -/
theorem Aw_frzcL {c : Code} {k g kb gb : Nat} (j : Nat) {T Tb : TypeId} {n : Nat} {rows : List (List AV)} {cs : List SV} {obs : Obs} (hl : ∀ b, w0.l b → ∃ p ∈ obs, ∃ h, w0.p p.1 0 = some h ∧ fpO p.2 h b) (is : List Nat) (hob : st.ob k = some (g, .arr T n rows)) (hst : Still st k obs) (hkk : Nat.beq kb k = false) (hobb : st.ob kb = some (gb, .box Tb cs)) (hj : cs[j]? = some (.ow k g)) (his : AllOw st k g is) (h : Aw P N M0 w0 c Q ((st.frz k is (.sl n rows)).put kb gb (.box Tb (cs.set j (.d (.sl n rows)))))) : Aw P N M0 w0 c Q st := Aw_le (le_frzc j (fun a w ρ hs v b hv hb => lentL_apart hl hob hst a w ρ hs v b hv hb) is hob hkk hobb hj his) h
theorem Al_frzcL {k g kb gb : Nat} (j : Nat) {T Tb : TypeId} {n : Nat} {rows : List (List AV)} {cs : List SV} {obs : Obs} (hl : ∀ b, w0.l b → ∃ p ∈ obs, ∃ h, w0.p p.1 0 = some h ∧ fpO p.2 h b) (is : List Nat) (hob : st.ob k = some (g, .arr T n rows)) (hst : Still st k obs) (hkk : Nat.beq kb k = false) (hobb : st.ob kb = some (gb, .box Tb cs)) (hj : cs[j]? = some (.ow k g)) (his : AllOw st k g is) (h : Al P N M0 w0 ops Q l ((st.frz k is (.sl n rows)).put kb gb (.box Tb (cs.set j (.d (.sl n rows)))))) : Al P N M0 w0 ops Q l st := Al_le (le_frzc j (fun a w ρ hs v b hv hb => lentL_apart hl hob hst a w ρ hs v b hv hb) is hob hkk hobb hj his) h
/-! ### tests against nil -/
theorem Pu_eqnilb {t yt : TypeId} {x : Operand} {k g off : Nat} {e : TypeId} (ht : P.underlying t = some (.pointer e)) (ho : o.op = .binOp .eql t x (.const (.pointer none)) yt) (hx : st.ev x = .bx k g off) : Pu P st o (.d (.v (.bool false))) := Pu_q fun B M ρ w a h2 h3 => by
  have hm := h2 x (by simp [opsOf, ho, Op.operands])
  rw [hx] at hm
  obtain ⟨y, b, h4, h5, h6⟩ := hm
  refine ⟨.bool false, ?_, .v _ trivial⟩
  have hc : a.eval (.const (.pointer none)) = .pointer none := rfl
  have hp : P.underlying t = some (.pointer (P.pointee t)) := by rw [ht]; simp [Program.pointee, ht]
  have key : (do eqGuard .eql t x (.const (.pointer none)) (.pointer (some ⟨b, off, none⟩)) (.pointer none); binOp .eql t (.pointer (some ⟨b, off, none⟩)) (.pointer none) : Sem Value).run P w = .ok (.bool false) w := by simp [go_sem, eqGuard, run_eql_pointer_nil w t _ hp, run_neq_pointer_nil w t _ hp]
  simp only [execOp, ho, h6, hc, Sem.run_bind, Sem.run_pure] at key ⊢
  rw [key]; rfl
theorem Pu_eqnilN {t yt : TypeId} {x : Operand} {e : TypeId} (ht : P.underlying t = some (.pointer e)) (ho : o.op = .binOp .eql t x (.const (.pointer none)) yt) (hx : st.ev x = .d (.v (.pointer none))) : Pu P st o (.d (.v (.bool true))) := Pu_q fun B M ρ w a h2 h3 => by
  have hm := h2 x (by simp [opsOf, ho, Op.operands])
  rw [hx] at hm
  obtain ⟨h6, _⟩ := rep_v hm
  refine ⟨.bool true, ?_, .v _ trivial⟩
  have hc : a.eval (.const (.pointer none)) = .pointer none := rfl
  have hp : P.underlying t = some (.pointer (P.pointee t)) := by rw [ht]; simp [Program.pointee, ht]
  have key : (do eqGuard .eql t x (.const (.pointer none)) (.pointer none) (.pointer none); binOp .eql t (.pointer none) (.pointer none) : Sem Value).run P w = .ok (.bool true) w := by simp [go_sem, eqGuard, run_eql_pointer_nil w t _ hp, run_neq_pointer_nil w t _ hp]
  simp only [execOp, ho, h6, hc, Sem.run_bind, Sem.run_pure] at key ⊢
  rw [key]; rfl
theorem Pu_neqnilb {t yt : TypeId} {x : Operand} {k g off : Nat} {e : TypeId} (ht : P.underlying t = some (.pointer e)) (ho : o.op = .binOp .neq t x (.const (.pointer none)) yt) (hx : st.ev x = .bx k g off) : Pu P st o (.d (.v (.bool true))) := Pu_q fun B M ρ w a h2 h3 => by
  have hm := h2 x (by simp [opsOf, ho, Op.operands])
  rw [hx] at hm
  obtain ⟨y, b, h4, h5, h6⟩ := hm
  refine ⟨.bool true, ?_, .v _ trivial⟩
  have hc : a.eval (.const (.pointer none)) = .pointer none := rfl
  have hp : P.underlying t = some (.pointer (P.pointee t)) := by rw [ht]; simp [Program.pointee, ht]
  have key : (do eqGuard .neq t x (.const (.pointer none)) (.pointer (some ⟨b, off, none⟩)) (.pointer none); binOp .neq t (.pointer (some ⟨b, off, none⟩)) (.pointer none) : Sem Value).run P w = .ok (.bool true) w := by simp [go_sem, eqGuard, run_eql_pointer_nil w t _ hp, run_neq_pointer_nil w t _ hp]
  simp only [execOp, ho, h6, hc, Sem.run_bind, Sem.run_pure] at key ⊢
  rw [key]; rfl
theorem Pu_neqnilN {t yt : TypeId} {x : Operand} {e : TypeId} (ht : P.underlying t = some (.pointer e)) (ho : o.op = .binOp .neq t x (.const (.pointer none)) yt) (hx : st.ev x = .d (.v (.pointer none))) : Pu P st o (.d (.v (.bool false))) := Pu_q fun B M ρ w a h2 h3 => by
  have hm := h2 x (by simp [opsOf, ho, Op.operands])
  rw [hx] at hm
  obtain ⟨h6, _⟩ := rep_v hm
  refine ⟨.bool false, ?_, .v _ trivial⟩
  have hc : a.eval (.const (.pointer none)) = .pointer none := rfl
  have hp : P.underlying t = some (.pointer (P.pointee t)) := by rw [ht]; simp [Program.pointee, ht]
  have key : (do eqGuard .neq t x (.const (.pointer none)) (.pointer none) (.pointer none); binOp .neq t (.pointer none) (.pointer none) : Sem Value).run P w = .ok (.bool false) w := by simp [go_sem, eqGuard, run_eql_pointer_nil w t _ hp, run_neq_pointer_nil w t _ hp]
  simp only [execOp, ho, h6, hc, Sem.run_bind, Sem.run_pure] at key ⊢
  rw [key]; rfl
theorem Pu_eqnilm {κ α : Type} {kv : κ → Value} {ok : κ → Prop} {enc : α → AV} {b n k g : Nat} {m : κ → Option α} {t yt : TypeId} {x : Operand} {kt e : TypeId} (ht : P.underlying t = some (.map kt e)) (ho : o.op = .binOp .eql t x (.const (.map none)) yt) (hx : st.ev x = .ow k g) (hob : st.ob k = some (g, .op (mapO kv ok enc b n m))) : Pu P st o (.d (.v (.bool false))) := Pu_q fun B M ρ w a h2 h3 => by
  have hm := h2 x (by simp [opsOf, ho, Op.operands])
  rw [hx] at hm
  obtain ⟨y, h4, h5, h6, h7⟩ := h3 _ _ _ hob
  rw [hm.1] at h4
  cases h4
  refine ⟨.bool false, ?_, .v _ trivial⟩
  have hc : a.eval (.const (.map none)) = .map none := rfl
  have key : (do eqGuard .eql t x (.const (.map none)) (.map (some b)) (.map none); binOp .eql t (.map (some b)) (.map none) : Sem Value).run P w = .ok (.bool false) w := by simp [go_sem, eqGuard, run_eql_map_nil w t _ _ _ ht]
  simp only [execOp, ho, h6, hc, Sem.run_bind, Sem.run_pure] at key ⊢
  rw [key]; rfl
theorem Pu_eqnilmN {t yt : TypeId} {x : Operand} {kt e : TypeId} (ht : P.underlying t = some (.map kt e)) (ho : o.op = .binOp .eql t x (.const (.map none)) yt) (hx : st.ev x = .d (.v (.map none))) : Pu P st o (.d (.v (.bool true))) := Pu_q fun B M ρ w a h2 h3 => by
  have hm := h2 x (by simp [opsOf, ho, Op.operands])
  rw [hx] at hm
  obtain ⟨h6, _⟩ := rep_v hm
  refine ⟨.bool true, ?_, .v _ trivial⟩
  have hc : a.eval (.const (.map none)) = .map none := rfl
  have key : (do eqGuard .eql t x (.const (.map none)) (.map none) (.map none); binOp .eql t (.map none) (.map none) : Sem Value).run P w = .ok (.bool true) w := by simp [go_sem, eqGuard, run_eql_map_nil w t _ _ _ ht]
  simp only [execOp, ho, h6, hc, Sem.run_bind, Sem.run_pure] at key ⊢
  rw [key]; rfl
/-! ### maps: how many entries -/
theorem nodup_len {α : Type} : ∀ (l m : List α), l.Nodup → (∀ x ∈ l, x ∈ m) → l.length ≤ m.length
  | [], m, _, _ => Nat.zero_le _
  | x :: r, m, hn, hm => by
    obtain ⟨s, t, rfl⟩ := List.append_of_mem (hm x (List.mem_cons_self ..))
    have hc := List.nodup_cons.1 hn
    have := nodup_len r (s ++ t) hc.2 fun y hy => by
      have h1 := hm y (List.mem_cons_of_mem _ hy)
      simp only [List.mem_append, List.mem_cons] at h1 ⊢
      rcases h1 with h | rfl | h
      · exact .inl h
      · exact (hc.1 hy).elim
      · exact .inr h
    simp only [List.length_append, List.length_cons] at *
    omega
theorem le_mapT {κ α : Type} {kv : κ → Value} {ok : κ → Prop} {enc : α → AV} {b n n' k g : Nat} {m m' : κ → Option α} (ks : List κ) (hob : st.ob k = some (g, .op (mapO kv ok enc b n m))) (hm : m = m') (hks : ∀ c, (m' c).isSome = true → c ∈ ks) (hn : ks.length = n') : Le N M0 w0 st (st.put k g (.op (mapO kv ok enc b n' m'))) := by
  rintro a w ⟨ρ, hs⟩
  subst hm
  obtain ⟨y, hy, hF, rfl, es, clock, h1, h2, h3, h4, h5⟩ := hs.obj k g _ hob
  have hsz : es.size ≤ n' := by
    have hnd : (es.toList.map (·.key)).Nodup := List.pairwise_map.2 ((MapKept.stamped_iff es clock).1 h2).2.2
    have := nodup_len (es.toList.map (·.key)) (ks.map kv) hnd fun x hx => by
      obtain ⟨e, he, rfl⟩ := List.mem_map.1 hx
      obtain ⟨c, v, _, hk, hc, _⟩ := h4 e he
      rw [hk]
      exact List.mem_map_of_mem (hks c (by rw [hc]; rfl))
    simp at this
    omega
  exact ⟨ρ, hs.mod hob hy ⟨rfl, rfl, rfl⟩ (Nat.le_refl _) (fun _ _ _ => rfl) (fun M' hK hle => ⟨hF, rfl, es, clock, h1, h2, hsz, fun e he => by
    obtain ⟨c, v, g1, g2, g3, g4⟩ := h4 e he
    exact ⟨c, v, g1, g2, g3, g4.mono hK⟩, h5⟩) (fun c hc => hc)⟩
/-- A map of the call's own, told by the keys that it has at most. -/
theorem Aw_mapT {c : Code} {κ α : Type} {kv : κ → Value} {ok : κ → Prop} {enc : α → AV} {b n n' k g : Nat} {m m' : κ → Option α} (ks : List κ) (hob : st.ob k = some (g, .op (mapO kv ok enc b n m))) (hm : m = m') (hks : ∀ c, (m' c).isSome = true → c ∈ ks) (hn : ks.length = n') (h : Aw P N M0 w0 c Q (st.put k g (.op (mapO kv ok enc b n' m')))) : Aw P N M0 w0 c Q st := Aw_le (le_mapT ks hob hm hks hn) h
theorem Al_mapT {κ α : Type} {kv : κ → Value} {ok : κ → Prop} {enc : α → AV} {b n n' k g : Nat} {m m' : κ → Option α} (ks : List κ) (hob : st.ob k = some (g, .op (mapO kv ok enc b n m))) (hm : m = m') (hks : ∀ c, (m' c).isSome = true → c ∈ ks) (hn : ks.length = n') (h : Al P N M0 w0 ops Q l (st.put k g (.op (mapO kv ok enc b n' m')))) : Al P N M0 w0 ops Q l st := Al_le (le_mapT ks hob hm hks hn) h
theorem Al_mapDelete0 {κ α : Type} [DecidableEq κ] {kv : κ → Value} {ok : κ → Prop} {enc : α → AV} {b n : Nat} {m : κ → Option α} {t kt e : TypeId} {x y : Operand} {k g : Nat} {ky : AV} {c : κ} (T : R.KeyT P kt κ kv ok) (ho : o.op = .call ⟨.builtin .delete, #[x, y], #[t, kt]⟩) (hg : o.guard = none) (hd : o.dst = none) (hc : conB o = true) (ht : P.underlying t = some (.map kt e)) (hx : st.ev x = .ow k g) (hob : st.ob k = some (g, .op (mapO kv ok enc b n m))) (hy : st.ev y = .d ky) (hky : Only ky (kv c)) (hok : ok c)
    (h : Al P N M0 w0 ops Q l (st.put k g (.op (mapO kv ok enc b n (fun c' => if c' = c then none else m c'))))) : Al P N M0 w0 ops Q (o :: l) st := by
  refine ⟨?_⟩
  rintro a w ⟨ρ, hsim⟩
  have hev := hsim.ev hc
  have h1 := hev x (mem_call ho x (by simp))
  have h4 := hev y (mem_call ho y (by simp))
  rw [hx] at h1
  rw [hy] at h4
  obtain ⟨k1, _⟩ := h1
  obtain ⟨u, hu, hF, he, hmp⟩ := hsim.obj k g _ hob
  rw [k1] at hu; cases hu
  have hyv := hky _ _ _ h4
  have hb : Mt M0 ρ st.ob b := .inr ⟨k, g, _, _, hob, k1, rfl⟩
  obtain ⟨w', hr, hmp', hgr, hsz⟩ := hmp.drop T ht c hok o.type (fun w' hgr _ v x hv => hv.mono (fun c' hc' hm => ⟨hm, hgr.block c' hc' (fun e => hm (by simp only [Option.some.injEq] at e; exact e ▸ hb))⟩))
  have hs2 := hsim.mod (w' := w') hob k1 ⟨hgr.os, hgr.tape, hgr.output⟩ hgr.size (fun c' hc' hne => hgr.block c' hc' (fun e => hne (by simp only [Option.some.injEq] at e; exact e))) (o' := .op (mapO kv ok enc b n (fun c' => if c' = c then none else m c'))) (fun M' hK hle => ⟨hF, he, hmp'.mono rfl fun v x hv => hv.mono (Known.sub hle)⟩) (fun c' hc' => hc')
  refine wpList_plain hg fun K hK => wp_upon ?_
  have e : (execOp a.eval o).run P w = .ok (.value (.tuple #[])) w' := by
    simp only [execOp, ho, resolve, invoke, builtin, Sem.run_bind, Sem.run_pure, Result.andThen_ok, List.map_toArray, List.map_cons, List.map_nil, he, hyv, hr]
  rw [e]
  refine hK _ _ (h.out _ _ ⟨ρ, ?_⟩)
  rw [hd]
  exact hs2
/-- Results of a call that is lent objects: a variable of many cells, and a slot. -/
def ResN1S (r n r' : Nat) (st : ASt) (res : SV) : Prop := ∃ a, res = .d a ∧ ResN1 r n r' st a
theorem ReadsS.cN1 {fn : Func} {r t n r' : Nat} (h : fn.results = #[.cell r t, .tmp r']) (ht : ∀ w, (isAgg t).run P w = .ok true w) (hz : ∀ w, (sizeOf t).run P w = .ok n w) : ReadsS P fn (ResN1S r n r') := ⟨fun {N M0 w0 st ρ a w res} hs ⟨res', hres, k, g, off, T, cs, rw', b, h1, h2, h3, h4, h5, h6⟩ => by
  subst hres
  have hm := hs.slot r
  rw [h1] at hm
  obtain ⟨y, b', k1, k2, k3⟩ := hm
  obtain ⟨y', k4, hO⟩ := hs.obj k g _ h2
  rw [k1] at k4; cases k4
  obtain ⟨v, k5, k6⟩ := loadvarN ht hz hO k2 h3 h4
  refine ⟨.tuple #[v, a.tmps.getD r' undef], ?_, ?_⟩
  · have ha : (asAddr (a.tmps.getD r undef)).run P w = .ok ⟨b', off, none⟩ w := by rw [k3]; rfl
    rw [Array.getD_eq_getD_getElem?] at ha
    simp [results, h, Sem.run_bind, ha, k5, Array.getD_eq_getD_getElem?]
  · rw [h6]
    exact .tup _ [_, _] rfl fun j c x h7 h8 => by
      match j with
      | 0 => simp at h7 h8; subst h7 h8; exact k6
      | 1 => simp at h7 h8; subst h7 h8; rw [← Array.getD_eq_getD_getElem?]; exact h5 _ _ _ _ (hs.slot r')
      | j + 2 => simp at h7⟩
/-- Two slots that hold the same: each is brought to what it holds by itself. -/
theorem Sub.two {s t v : SV} (h1 : s = v) (h2 : t = v) : Sub s t := Sub.eq (h1.trans h2.symm)
end
end Go.Proofs.Ytmbaeloiepjakaa.A

set_option linter.unusedSimpArgs false
set_option linter.unusedVariables false
namespace Go.Proofs.Ytmbaeloiepjakaa.A
open Go Go.RowKit
section
variable {P : Program} {N : Nat} {M0 : Nat → Prop} {w0 : Base} {ops : Array Oper} {Q : Exit → ASt → Prop} {o : Oper} {l : List Oper} {st : ASt}
theorem guard_at {j dj : Nat} {t b : Bool} {oj : Oper} (hg : o.guard = some (j, b)) (hj : ops[j]? = some oj) (hd : oj.dst = some dj) (hy : st.sl dj = .d (.v (.bool t))) (hN : dj < N) {ρ : Rho} {a : Act} {w : World} (hs : SimR N M0 w0 st ρ a w) : Region.wanted o (yielded ops a.tmps) = (t == b) := by
  have h1 := hs.slot dj
  rw [hy] at h1
  have h2 := (rep_v h1).1
  rw [Region.wanted, hg]
  show (yielded ops a.tmps j == some b) = _
  rw [yield_of hj hd (by rw [hs.size]; exact hN) h2]
  rfl
/-- It is done. -/
theorem Al_gdT {j dj : Nat} {t b : Bool} {oj : Oper} (hg : o.guard = some (j, b)) (hj : ops[j]? = some oj) (hd : oj.dst = some dj) (hy : st.sl dj = .d (.v (.bool t))) (ht : t = b) (hN : dj < N) (h : Al P N M0 w0 ops Q ({ o with guard := none } :: l) st) : Al P N M0 w0 ops Q (o :: l) st := ⟨fun a w hs => by
  have h1 := h.out a w hs
  obtain ⟨ρ, hs⟩ := hs
  have h2 := guard_at hg hj hd hy hN hs
  rw [ht] at h2
  simp only [wpList] at h1 ⊢
  rw [if_pos (by rw [h2]; simp)]
  rw [if_pos (by simp [Region.wanted])] at h1
  exact h1⟩
/-- It is passed over. -/
theorem Al_gdF {j dj d : Nat} {t b : Bool} {oj : Oper} (hg : o.guard = some (j, b)) (hj : ops[j]? = some oj) (hd : oj.dst = some dj) (hy : st.sl dj = .d (.v (.bool t))) (ht : t = !b) (hN : dj < N) (hod : o.dst = some d) (hdN : d < N) (h : Al P N M0 w0 ops Q l (st.set d .any)) : Al P N M0 w0 ops Q (o :: l) st := ⟨fun a w hs => by
  obtain ⟨ρ, hs⟩ := hs
  have h2 := guard_at hg hj hd hy hN hs
  rw [ht] at h2
  simp only [wpList]
  rw [if_neg (by rw [h2]; cases b <;> decide), hod]
  exact h.out _ _ ⟨ρ, hs.set hdN trivial⟩⟩
theorem mem_pick {c x y : Operand} (ho : o.op = .pick c x y) : c ∈ opsOf o ∧ x ∈ opsOf o ∧ y ∈ opsOf o := by simp [opsOf, ho, Op.operands]
theorem Pu_and2 {c x y : Operand} {t u : Bool} (ho : o.op = .pick c x y) (hc : st.ev c = .d (.v (.bool t))) (hx : st.ev x = .d (.v (.bool u))) (hy : st.ev y = .d (.v (.bool false))) : Pu P st o (.d (.v (.bool (t && u)))) := Pu_q fun B M ρ w a h2 _ => by
  obtain ⟨e1, _⟩ := ev_v h2 (mem_pick ho).1 hc
  obtain ⟨e2, _⟩ := ev_v h2 (mem_pick ho).2.1 hx
  obtain ⟨e3, _⟩ := ev_v h2 (mem_pick ho).2.2 hy
  cases t
  · exact ⟨_, by simp [execOp, ho, e1, e3, asBool, Sem.run], .v _ trivial⟩
  · exact ⟨.bool u, by simp [execOp, ho, e1, e2, asBool, Sem.run], .v (.bool u) trivial⟩
theorem Pu_or2 {c x y : Operand} {t u : Bool} (ho : o.op = .pick c x y) (hc : st.ev c = .d (.v (.bool t))) (hx : st.ev x = .d (.v (.bool true))) (hy : st.ev y = .d (.v (.bool u))) : Pu P st o (.d (.v (.bool (t || u)))) := Pu_q fun B M ρ w a h2 _ => by
  obtain ⟨e1, _⟩ := ev_v h2 (mem_pick ho).1 hc
  obtain ⟨e2, _⟩ := ev_v h2 (mem_pick ho).2.1 hx
  obtain ⟨e3, _⟩ := ev_v h2 (mem_pick ho).2.2 hy
  cases t
  · exact ⟨.bool u, by simp [execOp, ho, e1, e3, asBool, Sem.run], .v (.bool u) trivial⟩
  · exact ⟨_, by simp [execOp, ho, e1, e2, asBool, Sem.run], .v _ trivial⟩
/-- The second one was passed over. -/
theorem Pu_andF {c x y : Operand} {t : Bool} (ho : o.op = .pick c x y) (hc : st.ev c = .d (.v (.bool t))) (ht : t = false) (hy : st.ev y = .d (.v (.bool false))) : Pu P st o (.d (.v (.bool false))) := Pu_q fun B M ρ w a h2 _ => by
  obtain ⟨e1, _⟩ := ev_v h2 (mem_pick ho).1 hc
  obtain ⟨e3, _⟩ := ev_v h2 (mem_pick ho).2.2 hy
  subst ht
  exact ⟨_, by simp [execOp, ho, e1, e3, asBool, Sem.run], .v _ trivial⟩
theorem Pu_orT {c x y : Operand} {t : Bool} (ho : o.op = .pick c x y) (hc : st.ev c = .d (.v (.bool t))) (ht : t = true) (hx : st.ev x = .d (.v (.bool true))) : Pu P st o (.d (.v (.bool true))) := Pu_q fun B M ρ w a h2 _ => by
  obtain ⟨e1, _⟩ := ev_v h2 (mem_pick ho).1 hc
  obtain ⟨e3, _⟩ := ev_v h2 (mem_pick ho).2.1 hx
  subst ht
  exact ⟨_, by simp [execOp, ho, e1, e3, asBool, Sem.run], .v _ trivial⟩
end
end Go.Proofs.Ytmbaeloiepjakaa.A
