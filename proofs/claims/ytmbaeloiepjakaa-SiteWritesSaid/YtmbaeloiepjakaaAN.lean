/- Abstract states: calls that are lent objects and leave them as they were told: they may stand wherever an operation may. -/
import Derived.Test.YtmbaeloiepjakaaAX
import Derived.Test.YtmbaeloiepjakaaAF
set_option linter.unusedSimpArgs false
set_option linter.unusedVariables false
namespace Go.Proofs.Ytmbaeloiepjakaa.A
open Go Go.RowKit
def cvIn (ks : List Nat) : CV → Bool
  | .d _ => true
  | .bx k g _ => ks.contains k && Nat.beq g 0
  | .ow k g => ks.contains k && Nat.beq g 0
/-- It names some objects alone. -/
def svIn (ks : List Nat) : SV → Bool
  | .any => true
  | .d _ => true
  | .bx k g _ => ks.contains k && Nat.beq g 0
  | .ow k g => ks.contains k && Nat.beq g 0
  | .ifb _ s => svIn ks s
  | .fnb _ a b => a.all (cvIn ks) && b.all (cvIn ks)
  | .tp l => l.all (cvIn ks)
  | .ag l => l.all (cvIn ks)
  | .psl l => l.all (cvIn ks)
  | .pc c => cvIn ks c
  | .ows k g _ _ _ => ks.contains k && Nat.beq g 0
  | .slc _ _ => true
section
variable {M : Nat → Prop} {w : World} {ρ ρ' : Rho} {ks : List Nat}
theorem name_eq (h : ∀ k ∈ ks, ρ' k 0 = ρ k 0) {k g : Nat} (hb : (ks.contains k && Nat.beq g 0) = true) : ρ' k g = ρ k g := by
  simp only [Bool.and_eq_true] at hb
  have h1 : g = 0 := Nat.eq_of_beq_eq_true hb.2
  subst h1
  exact h k (by simpa using hb.1)
theorem cvIn_rep (h : ∀ k ∈ ks, ρ' k 0 = ρ k 0) {c : CV} {x : Value} (hb : cvIn ks c = true) (hr : CRep M w ρ' c x) : CRep M w ρ c x := by
  cases c with
  | d a => exact hr
  | bx k g off =>
    obtain ⟨y, b, h1, h2⟩ := hr
    exact ⟨y, b, by rw [← name_eq h hb]; exact h1, h2⟩
  | ow k g => exact ⟨by rw [← name_eq h hb]; exact hr.1, hr.2⟩
theorem cvsIn_rep (h : ∀ k ∈ ks, ρ' k 0 = ρ k 0) {l : List CV} {vs : List Value} (hb : l.all (cvIn ks) = true) (hr : CReps M w ρ' l vs) : CReps M w ρ l vs :=
  ⟨hr.1, fun j c x h1 h2 => cvIn_rep h (List.all_eq_true.1 hb c (List.mem_of_getElem? h1)) (hr.2 j c x h1 h2)⟩
theorem svIn_rep (h : ∀ k ∈ ks, ρ' k 0 = ρ k 0) : ∀ {s : SV} {x : Value}, svIn ks s = true → SRep M w ρ' s x → SRep M w ρ s x
  | .any, _, _, _ => trivial
  | .d _, _, _, hr => hr
  | .bx k g off, x, hb, ⟨y, b, h1, h2⟩ => ⟨y, b, by rw [← name_eq h hb]; exact h1, h2⟩
  | .ow k g, x, hb, hr => ⟨by rw [← name_eq h hb]; exact hr.1, hr.2⟩
  | .ifb p s, x, hb, hr => ⟨fun hp => svIn_rep h (s := s) hb (hr.1 hp), hr.2⟩
  | .fnb f a b, x, hb, ⟨us, vs, h1, h2, h3⟩ => by
    simp only [svIn, Bool.and_eq_true] at hb
    exact ⟨us, vs, h1, cvsIn_rep h hb.1 h2, cvsIn_rep h hb.2 h3⟩
  | .tp l, x, hb, ⟨vs, h1, h2⟩ => ⟨vs, h1, cvsIn_rep h hb h2⟩
  | .ag l, x, hb, ⟨vs, h1, h0, h2⟩ => ⟨vs, h1, h0, cvsIn_rep h hb h2⟩
  | .psl l, x, hb, ⟨b, o, cap, h1, h2, h3, h4⟩ => ⟨b, o, cap, h1, h2, h3, fun j c hj => by
      obtain ⟨k1, v, k2, k3, k4⟩ := h4 j c hj
      exact ⟨k1, v, k2, k3, cvIn_rep h (List.all_eq_true.1 hb c (List.mem_of_getElem? hj)) k4⟩⟩
  | .pc c, x, hb, ⟨b, o, v, h1, h2, h3, h4, h5⟩ => ⟨b, o, v, h1, h2, h3, h4, cvIn_rep h hb h5⟩
  | .ows k g n lo hi, x, hb, ⟨ad, len, c, a, h1, h2⟩ => ⟨ad, len, c, a, by rw [← name_eq h hb]; exact h1, h2⟩
  | .slc n rows, x, _, hr => hr
end
/-- An object that names some objects alone. -/
def aoIn (ks : List Nat) : AO → Prop
  | .box _ cs => cs.all (svIn ks) = true
  | .arr _ _ _ => True
  | .op I => ∀ (M : Nat → Prop) (w : World) (ρ ρ' : Rho) (h : Value), I.I M w ρ' h → I.I M w ρ h
def ObsIn (ks : List Nat) : Obs → Prop
  | [] => True
  | p :: r => aoIn ks p.2 ∧ ObsIn ks r
theorem ObsIn.get {ks : List Nat} : ∀ {obs : Obs}, ObsIn ks obs → ∀ p ∈ obs, aoIn ks p.2
  | [], _, p, h => by cases h
  | q :: r, h, p, hp => by
    rcases List.mem_cons.1 hp with rfl | hp
    · exact h.1
    · exact h.2.get p hp
theorem aoIn_rep {B : Base} {M : Nat → Prop} {w : World} {ρ ρ' : Rho} {ks : List Nat} (h : ∀ k ∈ ks, ρ' k 0 = ρ k 0) {o : AO} {x : Value} (hb : aoIn ks o) (hr : ORep B M w ρ' x o) : ORep B M w ρ x o := by
  cases o with
  | box T cs =>
    obtain ⟨b, vs, h1, h2, h3, h4, h5⟩ := hr
    exact ⟨b, vs, h1, h2, h3, h4, fun j s y hj hy => ⟨svIn_rep h (List.all_eq_true.1 hb s (List.mem_of_getElem? hj)) (h5 j s y hj hy).1, (h5 j s y hj hy).2⟩⟩
  | arr T n rows => exact hr
  | op I => exact ⟨hr.1, hb _ _ _ _ _ hr.2⟩
def gkB (obs : Obs) (pm : Pm) (res : SV) : Bool := (obs.all fun p => (lookR pm p.1).isSome) && nodupB (pm.map (·.2.1)) && nodupB (obs.map (·.1)) && svIn (obs.map (·.1)) res && (pm.all fun q => obs.any fun p => Nat.beq p.1 q.1) && nodupB (pm.map (·.1))
section
variable {P : Program} {st : ASt} {o : Oper}
/-- What a contract asks, of how objects stand. -/
theorem env_lent {B : Base} {M : Nat → Prop} {ρ : Rho} {w : World} (hev : Env M ρ st.ob) (h3 : ∀ k g ob, st.ob k = some (g, ob) → ∃ h, ρ k g = some h ∧ ORep B M w ρ h ob) {obs : Obs} {pm : Pm} (hl : Lent st ρ obs pm) (hd1 : nodupB (pm.map (·.2.1)) = true) :
    Objs ⟨w, fun _ => True, [], fun _ _ => none⟩ M w (pull (nmOf pm) ρ) obs ∧ (∀ b, fps (pull (nmOf pm) ρ) obs b → M b) ∧ Apart (pull (nmOf pm) ρ) obs ∧
    (∀ b, fps (pull (nmOf pm) ρ) obs b → ∃ k g ob h, st.ob k = some (g, ob) ∧ ρ k g = some h ∧ fpO ob h b ∧ ∃ p ∈ obs, ∃ g', (p.1, k, g') ∈ pm) := by
  refine ⟨fun p hp => ?_, fun b hb => ?_, fun p hp q hq h h' b h1 h2 h3 h4 => ?_, fun b hb => ?_⟩
  · obtain ⟨k, g, e, _, hob⟩ := hl.key hp
    obtain ⟨h, h1, h2⟩ := h3 k g _ hob
    refine ⟨h, by show ρ (nmOf pm p.1 0).1 (nmOf pm p.1 0).2 = _; rw [e]; exact h1, (ORep.ren.1 h2).base fun b _ => .inr trivial⟩
  · obtain ⟨p, hp, h, h1, h2⟩ := hb
    obtain ⟨k, g, e, _, hob⟩ := hl.key hp
    have h1' : ρ (nmOf pm p.1 0).1 (nmOf pm p.1 0).2 = some h := h1
    rw [e] at h1'
    exact hev.inM k g _ h b hob h1' (fpO.ren.2 h2)
  · obtain ⟨k, g, e, hm, hob⟩ := hl.key hp
    obtain ⟨k', g', e', hm', hob'⟩ := hl.key hq
    have h1' : ρ (nmOf pm p.1 0).1 (nmOf pm p.1 0).2 = some h := h1
    have h2' : ρ (nmOf pm q.1 0).1 (nmOf pm q.1 0).2 = some h' := h2
    rw [e] at h1'
    rw [e'] at h2'
    have hk := hev.apart k g _ k' g' _ h h' b hob hob' h1' h2' (fpO.ren.2 h3) (fpO.ren.2 h4)
    have := nodupB.inj hd1 _ hm _ hm' hk
    simp only [Prod.mk.injEq] at this
    exact this.1
  · obtain ⟨p, hp, h, h1, h2⟩ := hb
    obtain ⟨k, g, e, hm, hob⟩ := hl.key hp
    have h1' : ρ (nmOf pm p.1 0).1 (nmOf pm p.1 0).2 = some h := h1
    rw [e] at h1'
    exact ⟨k, g, _, h, hob, h1', fpO.ren.2 h2, p, hp, g, hm⟩
theorem fps_eq {ρ ρ' : Rho} {obs : Obs} (h : ∀ p ∈ obs, ρ' p.1 0 = ρ p.1 0) (b : Nat) : fps ρ' obs b ↔ fps ρ obs b :=
  ⟨fun ⟨p, hp, x, h1, h2⟩ => ⟨p, hp, x, by rw [← h p hp]; exact h1, h2⟩, fun ⟨p, hp, x, h1, h2⟩ => ⟨p, hp, x, by rw [h p hp]; exact h1, h2⟩⟩
/-- What a call leaves that leaves its objects as they were told. -/
theorem kn_out {B : Base} {M : Nat → Prop} {ρ : Rho} {w w' : World} (hev : Env M ρ st.ob) (h3 : ∀ k g ob, st.ob k = some (g, ob) → ∃ h, ρ k g = some h ∧ ORep B M w ρ h ob) {obs : Obs} {pm : Pm} {res : SV} {v : Value} (hpre : PreO st (nmOf pm) obs) (hB : gkB obs pm res = true) (hin : ObsIn (obs.map (·.1)) obs) (hx : ExtL ⟨w, fps (pull (nmOf pm) ρ) obs, [], fun _ _ => none⟩ w') (ho : GOut M w (pull (nmOf pm) ρ) obs w' obs res v) : Kn B M ρ st.ob w w' ∧ SRep M w' ρ (res.ren (nmOf pm)) v := by
  simp only [gkB, Bool.and_eq_true] at hB
  obtain ⟨⟨⟨⟨⟨hb1, hb2⟩, hb3⟩, hb4⟩, hb5⟩, hb6⟩ := hB
  have hlent : Lent st ρ obs pm := ⟨hpre, fun p hp => List.all_eq_true.1 hb1 p hp⟩
  obtain ⟨l1, l2, l3, l4⟩ := env_lent hev h3 hlent hb2
  obtain ⟨ρ', _, hsame, hobj, _, hres⟩ := ho
  have hks : ∀ k ∈ obs.map (·.1), ρ' k 0 = pull (nmOf pm) ρ k 0 := fun k hk => by
    obtain ⟨p, hp, rfl⟩ := List.mem_map.1 hk
    exact hsame p hp
  have hM : ∀ b, (M b ∨ fps ρ' obs b) → M b := fun b hb => hb.elim id fun h => l2 b ((fps_eq hsame b).1 h)
  have hkn : ∀ b, b < w.heap.size → ¬ fps (pull (nmOf pm) ρ) obs b → w'.heap[b]? = w.heap[b]? := fun b hb hn => hx.block b hb hn
  refine ⟨⟨hx.os, hx.tape, hx.output, hx.size, fun b hb hn => hkn b hb fun hf => ?_, fun k g ob h hk hh hO => ?_⟩, ?_⟩
  · obtain ⟨k, g, ob, h, k1, k2, k3, _⟩ := l4 b hf
    exact hn k g ob h k1 k2 k3
  · by_cases hin2 : ∃ p ∈ obs, (nmOf pm p.1 0).1 = k
    · obtain ⟨p, hp, hpk⟩ := hin2
      obtain ⟨k', g', e, hm, hob⟩ := hlent.key hp
      rw [e] at hpk
      simp only at hpk
      subst hpk
      rw [hk] at hob
      cases hob
      obtain ⟨h', h4, h5⟩ := hobj p hp
      have h6 : ρ' p.1 0 = ρ (nmOf pm p.1 0).1 (nmOf pm p.1 0).2 := hsame p hp
      rw [e, hh, h4] at h6
      cases h6
      have h7 := aoIn_rep (ρ := pull (nmOf pm) ρ) hks (hin.get p hp) h5
      refine (ORep.ren.2 (h7.mono (Known.sub fun c hc => .inl hc) fun _ _ => rfl)).base fun b hb => ?_
      exact (hO.blk_lt hb).1
    · refine hO.mono (fun b hb hm => ⟨hm, hkn b hb fun hf => hm (l2 b hf)⟩) fun b hb => hkn b (hO.blk_lt hb).2 fun hf => ?_
      obtain ⟨k2, g2, ob2, h2, j1, j2, j3, p, hp, g', hm⟩ := l4 b hf
      have hkk := hev.apart _ _ _ _ _ _ _ _ b j1 hk j2 hh j3 hb
      subst hkk
      obtain ⟨k', g'', e, hm', _⟩ := hlent.key hp
      refine hin2 ⟨p, hp, ?_⟩
      rw [e]
      have := nodupB.inj hb6 _ hm _ hm' rfl
      simp only [Prod.mk.injEq] at this
      exact this.2.1.symm
  · exact SRep.ren.2 ((svIn_rep (ρ := pull (nmOf pm) ρ) hks hb4 hres).mono (Known.sub fun b hb => .inl hb))
/-- A call that is lent objects and leaves them as they were told. -/
theorem Pu_gcall {f : FuncId} {ins : List SV} {obs : Obs} {res : SV} (pm : Pm) {xs : List Operand} {ts : Array TypeId} (hG : GCall P f ins obs (some (obs, res))) (hin : ObsIn (obs.map (·.1)) obs) (ho : o.op = .call ⟨.value (.func f), xs.toArray, ts⟩) (hpre : PreO st (nmOf pm) obs) (hB : gkB obs pm res = true) (ha : ArgsS st xs (ins.map (SV.ren (nmOf pm)))) : Pu P st o (res.ren (nmOf pm)) := fun B M ρ w a hM h2 h3 hev K hK => by
  have hB' := hB
  simp only [gkB, Bool.and_eq_true] at hB'
  obtain ⟨⟨⟨⟨⟨hb1, hb2⟩, _⟩, _⟩, _⟩, _⟩ := hB'
  have hlent : Lent st ρ obs pm := ⟨hpre, fun p hp => List.all_eq_true.1 hb1 p hp⟩
  obtain ⟨l1, l2, l3, _⟩ := env_lent hev h3 hlent hb2
  have hargs := ha.rep (a := a) fun x hx => h2 x (mem_call ho x (by simpa using hx))
  have hcall := hG.2 M w (pull (nmOf pm) ρ) (xs.map a.eval) hM (nmOf_bnd hev.bnd) hargs.ren l1 l2 l3
  have hrun : (execOp a.eval o).run P w = .ok (.enter f (xs.map a.eval).toArray) w := by
    simp only [execOp, ho, resolve, Act.eval, Deferred.ofValue, invoke, Sem.run_bind, Sem.run_pure, Result.andThen_ok]
    rw [hG.1]
    congr 2
    apply Array.ext'
    simp
  rw [hrun]
  refine hcall.mono fun e w' ⟨hx, v, he, hout⟩ => ⟨v, he, ?_⟩
  obtain ⟨k1, k2⟩ := kn_out hev h3 hpre hB hin hx hout
  exact hK v w' k1 k2
end
end Go.Proofs.Ytmbaeloiepjakaa.A
namespace Go.Proofs.Ytmbaeloiepjakaa.A
open Go Go.RowKit
section
variable {P : Program}
/-- Results: a variable of many cells, and two slots. -/
def ResN2 (r n r' r'' : Nat) (st : ASt) (res : AV) : Prop := ∃ k g off T cs rw a b, st.sl r = .bx k g off ∧ st.ob k = some (g, .box T cs) ∧ (cs.drop off).take n = rw.map .d ∧ rw.length = n ∧ Sub (st.sl r') (.d a) ∧ Sub (st.sl r'') (.d b) ∧ res = .tup [.row rw, a, b]
theorem out_cN2 {N : Nat} {M0 : Nat → Prop} {w0 : Base} {st : ASt} {ρ : Rho} {ac : Act} {w : World} {res : AV} {fn : Func} {r t n r' r'' : Nat} (h : fn.results = #[.cell r t, .tmp r', .tmp r'']) (ht : ∀ w, (isAgg t).run P w = .ok true w) (hz : ∀ w, (sizeOf t).run P w = .ok n w) (hs : SimR N M0 w0 st ρ ac w) (hr : ResN2 r n r' r'' st res) : ∃ v, (results fn ac.tmps).run P w = .ok v w ∧ Rep (Mt M0 ρ st.ob) w res v := by
  obtain ⟨k, g, off, T, cs, rw', a, b, h1, h2, h3, h4, h5, h5', h6⟩ := hr
  have hm := hs.slot r
  rw [h1] at hm
  obtain ⟨y, b', k1, k2, k3⟩ := hm
  obtain ⟨y', k4, hO⟩ := hs.obj k g _ h2
  rw [k1] at k4; cases k4
  obtain ⟨v, k5, k6⟩ := loadvarN ht hz hO k2 h3 h4
  refine ⟨.tuple #[v, ac.tmps.getD r' undef, ac.tmps.getD r'' undef], ?_, ?_⟩
  · have ha : (asAddr (ac.tmps.getD r undef)).run P w = .ok ⟨b', off, none⟩ w := by rw [k3]; rfl
    rw [Array.getD_eq_getD_getElem?] at ha
    simp [results, h, Sem.run_bind, ha, k5, Array.getD_eq_getD_getElem?]
  · rw [h6]
    exact .tup _ [_, _, _] rfl fun j c x h7 h8 => by
      match j with
      | 0 => simp at h7 h8; subst h7 h8; exact k6
      | 1 => simp at h7 h8; subst h7 h8; rw [← Array.getD_eq_getD_getElem?]; exact h5 _ _ _ _ (hs.slot r')
      | 2 => simp at h7 h8; subst h7 h8; rw [← Array.getD_eq_getD_getElem?]; exact h5' _ _ _ _ (hs.slot r'')
      | j + 3 => simp at h7
theorem Reads.cN2 {fn : Func} {r t n r' r'' : Nat} (h : fn.results = #[.cell r t, .tmp r', .tmp r'']) (ht : ∀ w, (isAgg t).run P w = .ok true w) (hz : ∀ w, (sizeOf t).run P w = .ok n w) : Reads P fn (ResN2 r n r' r'') := ⟨fun {N M0 w0 st ρ a w res} hs hr => by
  obtain ⟨v, h1, h2⟩ := out_cN2 h ht hz hs hr
  exact ⟨v, h1, h2.mono (Known.sub fun c hc => .inl hc)⟩⟩
def ResN2S (r n r' r'' : Nat) (st : ASt) (res : SV) : Prop := ∃ a, res = .d a ∧ ResN2 r n r' r'' st a
theorem ReadsS.cN2 {fn : Func} {r t n r' r'' : Nat} (h : fn.results = #[.cell r t, .tmp r', .tmp r'']) (ht : ∀ w, (isAgg t).run P w = .ok true w) (hz : ∀ w, (sizeOf t).run P w = .ok n w) : ReadsS P fn (ResN2S r n r' r'') := ⟨fun {N M0 w0 st ρ a w res} hs ⟨res', hres, hr⟩ => by
  subst hres
  exact out_cN2 h ht hz hs hr⟩
/-- Results of a call that is lent objects: a variable of many cells. -/
def ResNS (r n : Nat) (st : ASt) (res : SV) : Prop := ∃ a, res = .d a ∧ ResN r n st a
theorem ReadsS.cN {fn : Func} {r t n : Nat} (h : fn.results = #[.cell r t]) (ht : ∀ w, (isAgg t).run P w = .ok true w) (hz : ∀ w, (sizeOf t).run P w = .ok n w) : ReadsS P fn (ResNS r n) := ⟨fun {N M0 w0 st ρ a w res} hs ⟨res', hres, k, g, off, T, cs, rw', h1, h2, h3, h4, h6⟩ => by
  subst hres
  have hm := hs.slot r
  rw [h1] at hm
  obtain ⟨y, b', k1, k2, k3⟩ := hm
  obtain ⟨y', k4, hO⟩ := hs.obj k g _ h2
  rw [k1] at k4; cases k4
  obtain ⟨v, k5, k6⟩ := loadvarN ht hz hO k2 h3 h4
  refine ⟨v, ?_, ?_⟩
  · have ha : (asAddr (a.tmps.getD r undef)).run P w = .ok ⟨b', off, none⟩ w := by rw [k3]; rfl
    rw [Array.getD_eq_getD_getElem?] at ha
    simp [results, h, Sem.run_bind, ha, k5]
  · rw [h6]; exact k6⟩
end
end Go.Proofs.Ytmbaeloiepjakaa.A
namespace Go.Proofs.Ytmbaeloiepjakaa.A
open Go Go.RowKit
/-- A call that yields a row of its own, told as data. -/
theorem GCall.a {P : Program} {f : FuncId} {aa : List AV} {T : TypeId} {n k : Nat} {rows : List (List AV)} (h : GCall P f (aa.map .d) [] (some ([(k, .arr T n rows)], .ow k 0))) : ACall P f aa (.sl n rows) := by
  refine ⟨h.1, fun M w vs hM ha => ?_⟩
  have h1 := h.2 M w (fun _ _ => none) vs hM ⟨0, fun k g hh => (hh rfl).elim⟩ ⟨by rw [List.length_map]; exact ha.1, fun j s x h1 h2 => by
    rw [List.getElem?_map] at h1
    obtain ⟨a, h3, rfl⟩ := Option.map_eq_some_iff.1 h1
    exact ha.2 j a x h3 h2⟩ (fun p hp => by cases hp) (fun b ⟨p, hp, _⟩ => by cases hp) (fun p hp => by cases hp)
  refine h1.mono fun e w' ⟨hx, v, he, ρ', _, _, hobj, _, hres⟩ => ?_
  have hne : ∀ b, ¬ fps (fun _ _ => none) ([] : Obs) b := fun b ⟨p, hp, _⟩ => by cases hp
  refine ⟨v, he, ⟨hx.os, hx.tape, hx.output, hx.size, fun b hb => hx.block b hb (hne b)⟩, ?_⟩
  obtain ⟨y, h4, h5⟩ := hobj _ (List.mem_cons_self ..)
  have h6 : ρ' k 0 = some v := hres.1
  rw [h6] at h4; cases h4
  have hlt : ∀ b, blk v = some b → w.heap.size ≤ b := fun b hb => h5.arr_lt hne hb
  exact h5.frz (Known.sub fun b hb => .inl hb) fun b hb hm => by
    have := hlt b hb
    have := hM b hm
    omega
end Go.Proofs.Ytmbaeloiepjakaa.A
