/- Abstract states: calls that are lent objects of their caller's own, and leave others; closures that hold such objects. -/
/- Abstract states: closures and tuples of objects; slices of pointers; elements of rows of the call's own. -/
/- Abstract states: regions that draw their order, order by order; what hangs on no memory is taken ahead. -/
import Derived.Test.YtmbaeloiepjakaaAP
import Derived.Orders
set_option linter.unusedSimpArgs false
set_option linter.unusedVariables false
namespace Go.Proofs.Ytmbaeloiepjakaa.A
open Go Go.RowKit
/-! ### names -/
abbrev Nm := Nat → Nat → Nat × Nat
abbrev pull (r : Nm) (ρ : Rho) : Rho := fun k g => ρ (r k g).1 (r k g).2
def CV.ren (r : Nm) : CV → CV
  | .d a => .d a
  | .bx k g off => .bx (r k g).1 (r k g).2 off
  | .ow k g => .ow (r k g).1 (r k g).2
def SV.ren (r : Nm) : SV → SV
  | .any => .any
  | .d a => .d a
  | .bx k g off => .bx (r k g).1 (r k g).2 off
  | .ow k g => .ow (r k g).1 (r k g).2
  | .ifb p s => .ifb p (s.ren r)
  | .fnb f a b => .fnb f (a.map (CV.ren r)) (b.map (CV.ren r))
  | .tp l => .tp (l.map (CV.ren r))
  | .ag l => .ag (l.map (CV.ren r))
  | .psl l => .psl (l.map (CV.ren r))
  | .pc c => .pc (c.ren r)
  | .ows k g n lo hi => .ows (r k g).1 (r k g).2 n lo hi
  | .slc n rows => .slc n rows
def OP.ren (r : Nm) (I : OP) : OP := ⟨I.F, fun M w ρ h => I.I M w (pull r ρ) h, fun k hk h => I.mono k hk h, fun hr h => I.rho (fun k g x hx => hr _ _ _ hx) h, fun h => I.lt h⟩
def AO.ren (r : Nm) : AO → AO
  | .box T cs => .box T (cs.map (SV.ren r))
  | .arr T n rows => .arr T n rows
  | .op I => .op (I.ren r)
section
variable {M : Nat → Prop} {w : World} {ρ : Rho} {r : Nm}
theorem CRep.ren {c : CV} {x : Value} : CRep M w ρ (c.ren r) x ↔ CRep M w (pull r ρ) c x := by cases c <;> rfl
theorem CReps.ren {l : List CV} {vs : List Value} : CReps M w ρ (l.map (CV.ren r)) vs ↔ CReps M w (pull r ρ) l vs := by
  unfold CReps
  rw [List.length_map]
  refine and_congr_right fun _ => ⟨fun h j c x h1 h2 => CRep.ren.1 (h j _ x (by rw [List.getElem?_map, h1]; rfl) h2), fun h j c x h1 h2 => ?_⟩
  rw [List.getElem?_map] at h1
  obtain ⟨c', h3, rfl⟩ := Option.map_eq_some_iff.1 h1
  exact CRep.ren.2 (h j c' x h3 h2)
theorem SRep.ren {s : SV} {x : Value} : SRep M w ρ (s.ren r) x ↔ SRep M w (pull r ρ) s x := by
  induction s with
  | any => rfl
  | d a => rfl
  | bx k g off => rfl
  | ow k g => rfl
  | ifb p s ih => exact and_congr (imp_congr_right fun _ => ih) Iff.rfl
  | fnb f a b => exact exists_congr fun us => exists_congr fun vs => and_congr_right fun _ => and_congr CReps.ren CReps.ren
  | tp l => exact exists_congr fun vs => and_congr_right fun _ => CReps.ren
  | ag l => exact exists_congr fun vs => and_congr_right fun _ => and_congr_right fun _ => CReps.ren
  | psl l =>
    unfold SV.ren SRep
    rw [List.length_map]
    refine exists_congr fun b => exists_congr fun o => exists_congr fun cap => and_congr_right fun _ => and_congr_right fun _ => and_congr_right fun _ => ⟨fun h j c h1 => ?_, fun h j c h1 => ?_⟩
    · obtain ⟨h2, v, h3, h4, h5⟩ := h j (c.ren r) (by rw [List.getElem?_map, h1]; rfl)
      exact ⟨h2, v, h3, h4, CRep.ren.1 h5⟩
    · rw [List.getElem?_map] at h1
      obtain ⟨c', h6, rfl⟩ := Option.map_eq_some_iff.1 h1
      obtain ⟨h2, v, h3, h4, h5⟩ := h j c' h6
      exact ⟨h2, v, h3, h4, CRep.ren.2 h5⟩
  | pc c => exact exists_congr fun b => exists_congr fun o => exists_congr fun v => and_congr_right fun _ => and_congr_right fun _ => and_congr_right fun _ => and_congr_right fun _ => CRep.ren
  | ows k g n lo hi => rfl
  | slc n rows => rfl
theorem ORep.ren {B : Base} {h : Value} {o : AO} : ORep B M w ρ h (o.ren r) ↔ ORep B M w (pull r ρ) h o := by
  cases o with
  | box T cs =>
    unfold AO.ren ORep
    refine exists_congr fun b => exists_congr fun vs => and_congr_right fun _ => and_congr_right fun _ => and_congr_right fun _ => ?_
    rw [List.length_map]
    refine and_congr_right fun _ => ⟨fun h j s x h1 h2 => ?_, fun h j s x h1 h2 => ?_⟩
    · obtain ⟨h3, h4⟩ := h j (s.ren r) x (by rw [List.getElem?_map, h1]; rfl) h2
      exact ⟨SRep.ren.1 h3, h4⟩
    · rw [List.getElem?_map] at h1
      obtain ⟨s', h6, rfl⟩ := Option.map_eq_some_iff.1 h1
      obtain ⟨h3, h4⟩ := h j s' x h6 h2
      exact ⟨SRep.ren.2 h3, h4⟩
  | arr T n rows => rfl
  | op I => rfl
theorem fpO.ren {o : AO} {h : Value} {b : Nat} : fpO (o.ren r) h b ↔ fpO o h b := by cases o <;> rfl
theorem ORep.base {B B' : Base} {h : Value} {o : AO} (ho : ORep B M w ρ h o) (hb : ∀ b, fpO o h b → B'.w.heap.size ≤ b ∨ B'.l b) : ORep B' M w ρ h o := by
  cases o with
  | box T cs =>
    obtain ⟨b, vs, rfl, h1, h2⟩ := ho
    exact ⟨b, vs, rfl, hb b rfl, h2⟩
  | arr T n rows =>
    obtain ⟨vals, h1, h2, h3, h4, _⟩ := ho
    exact ⟨vals, h1, h2, h3, h4, hb⟩
  | op I => exact ⟨hb, ho.2⟩
end
/-! ### contracts -/
abbrev Obs := List (Nat × AO)
def Objs (B : Base) (M : Nat → Prop) (w : World) (ρ : Rho) (obs : Obs) : Prop := ∀ p ∈ obs, ∃ h, ρ p.1 0 = some h ∧ ORep B M w ρ h p.2
/-- The blocks that objects stand in. -/
def fps (ρ : Rho) (obs : Obs) (b : Nat) : Prop := ∃ p ∈ obs, ∃ h, ρ p.1 0 = some h ∧ fpO p.2 h b
def Apart (ρ : Rho) (obs : Obs) : Prop := ∀ p ∈ obs, ∀ q ∈ obs, ∀ h h' b, ρ p.1 0 = some h → ρ q.1 0 = some h' → fpO p.2 h b → fpO q.2 h' b → p.1 = q.1
def ARep (M : Nat → Prop) (w : World) (ρ : Rho) (ss : List SV) (vs : List Value) : Prop := vs.length = ss.length ∧ ∀ (j : Nat) (s : SV) (x : Value), ss[j]? = some s → vs[j]? = some x → SRep M w ρ s x
def GOut (M : Nat → Prop) (w : World) (ρ : Rho) (obs : Obs) (w' : World) (obs' : Obs) (res : SV) (v : Value) : Prop :=
  ∃ ρ' : Rho, Bnd ρ' ∧ (∀ p ∈ obs, ρ' p.1 0 = ρ p.1 0) ∧ Objs ⟨w, fps ρ obs, [], fun _ _ => none⟩ (fun b => M b ∨ fps ρ' obs' b) w' ρ' obs' ∧ Apart ρ' obs' ∧ SRep (fun b => M b ∨ fps ρ' obs' b) w' ρ' res v
def GPost (M : Nat → Prop) (w : World) (ρ : Rho) (obs : Obs) (w' : World) (e : Ending) : Option (Obs × SV) → Prop
  | none => ∃ pv, e = .panicked [{ v := .iface pv (.agg #[]), recovered := false }]
  | some (obs', res) => ∃ v, e = .returned v ∧ GOut M w ρ obs w' obs' res v
/-- A call that is lent objects: what it leaves, and what it yields; none: it panics. -/
def GCall (P : Program) (f : FuncId) (ins : List SV) (obs : Obs) (R : Option (Obs × SV)) : Prop :=
  (∀ (vs : Array Value) (w : World), (callFunc f vs).run P w = .ok (.enter f vs) w) ∧
  ∀ (M : Nat → Prop) (w : World) (ρ : Rho) (vs : List Value), (∀ b, M b → b < w.heap.size) → Bnd ρ → ARep M w ρ ins vs → Objs ⟨w, fun _ => True, [], fun _ _ => none⟩ M w ρ obs → (∀ b, fps ρ obs b → M b) → Apart ρ obs →
    Calls P f vs.toArray w fun e w' => ExtL ⟨w, fps ρ obs, [], fun _ _ => none⟩ w' ∧ GPost M w ρ obs w' e R
/-! ### the caller -/
/-- Where a contract's objects stand with the caller. -/
abbrev Pm := List (Nat × Nat × Nat)
def lookR : Pm → Nat → Option (Nat × Nat)
  | [], _ => none
  | (c, k, g) :: r, i => bif Nat.beq i c then some (k, g) else lookR r i
def nmOf (pm : Pm) : Nm := fun k g => bif Nat.beq g 0 then (match lookR pm k with | some x => x | none => (k, g)) else (k, g)
/-- New ones get the generation G. -/
def nm2 (pm : Pm) (nw : List (Nat × Nat)) (G : Nat) : Nm := fun k g => bif Nat.beq g 0 then (match lookR pm k with | some x => x | none => (match lookR (nw.map fun p => (p.1, p.2, G)) k with | some x => x | none => (k, G + 1 + g))) else (k, G + 1 + g)
def ASt.drops (st : ASt) : Pm → ASt
  | [] => st
  | (_, k, _) :: r => (st.drop k).drops r
def ASt.puts (st : ASt) : List (Nat × Nat × AO) → ASt
  | [] => st
  | (k, g, o) :: r => (st.put k g o).puts r
def PreO (st : ASt) (r : Nm) : Obs → Prop
  | [] => True
  | p :: l => st.ob (r p.1 0).1 = some ((r p.1 0).2, p.2.ren r) ∧ PreO st r l
theorem PreO.get {st : ASt} {r : Nm} : ∀ {obs : Obs}, PreO st r obs → ∀ p ∈ obs, st.ob (r p.1 0).1 = some ((r p.1 0).2, p.2.ren r)
  | [], _, p, hp => by cases hp
  | q :: l, h, p, hp => by
    rcases List.mem_cons.1 hp with rfl | hp
    · exact h.1
    · exact h.2.get p hp
def ArgsS (st : ASt) : List Operand → List SV → Prop
  | [], [] => True
  | x :: xs, s :: ss => Sub (st.ev x) s ∧ ArgsS st xs ss
  | _, _ => False
theorem ArgsS.rep {st : ASt} {M : Nat → Prop} {w : World} {ρ : Rho} {a : Act} : ∀ {xs : List Operand} {ss : List SV}, ArgsS st xs ss → (∀ x ∈ xs, SRep M w ρ (st.ev x) (a.eval x)) → ARep M w ρ ss (xs.map a.eval)
  | [], [], _, _ => ⟨rfl, fun j a x h => by simp at h⟩
  | x :: xs, b :: aa, h, hs => by
    have ih := ArgsS.rep (a := a) h.2 fun y hy => hs y (by simp [hy])
    refine ⟨by simp [ih.1], fun j c y h1 h2 => ?_⟩
    cases j with
    | zero =>
      simp at h1 h2
      subst h1 h2
      exact h.1 _ _ _ _ (hs x (by simp))
    | succ j => exact ih.2 j c y (by simpa using h1) (by simpa using h2)
  | [], _ :: _, h, _ => h.elim
  | _ :: _, [], h, _ => h.elim
def nodupB : List Nat → Bool
  | [] => true
  | x :: r => r.all (fun y => !Nat.beq x y) && nodupB r
theorem nodupB.inj {α : Type} {f : α → Nat} : ∀ {l : List α}, nodupB (l.map f) = true → ∀ p ∈ l, ∀ q ∈ l, f p = f q → p = q
  | [], _, p, hp, _, _, _ => by cases hp
  | x :: l, h, p, hp, q, hq, e => by
    simp only [List.map_cons, nodupB, Bool.and_eq_true, List.all_eq_true] at h
    have hne : ∀ y ∈ l, f x ≠ f y := fun y hy e' => by
      have := h.1 (f y) (List.mem_map.2 ⟨y, hy, rfl⟩)
      rw [e'] at this
      simp at this
    rcases List.mem_cons.1 hp with e1 | hp2
    · rcases List.mem_cons.1 hq with e2 | hq2
      · rw [e1, e2]
      · exact (hne q hq2 (by rw [← e1]; exact e)).elim
    · rcases List.mem_cons.1 hq with e2 | hq2
      · exact (hne p hp2 (by rw [← e2]; exact e.symm)).elim
      · exact nodupB.inj h.2 p hp2 q hq2 e
/-- What is asked of the names of a call. -/
def nmB (obs obs' : Obs) (pm : Pm) (nw : List (Nat × Nat)) : Bool :=
  (obs.all fun p => (lookR pm p.1).isSome) && nodupB (obs.map (·.1)) && nodupB (obs'.map (·.1)) && nodupB (pm.map (·.1)) && nodupB (pm.map (·.2.1)) && nodupB (nw.map (·.1)) && nodupB (nw.map (·.2)) &&
  (obs'.all fun p => (obs.any fun q => Nat.beq q.1 p.1) || (!(lookR pm p.1).isSome && (lookR (nw.map fun q => (q.1, q.2, 0)) p.1).isSome)) &&
  nodupB (obs'.map fun p => (nm2 pm nw 0 p.1 0).1) && (pm.all fun q => obs.any fun p => Nat.beq p.1 q.1)
theorem lookR_mem : ∀ {pm : Pm} {c : Nat} {x : Nat × Nat}, lookR pm c = some x → (c, x.1, x.2) ∈ pm
  | [], _, _, h => by cases h
  | (c', k, g) :: r, c, x, h => by
    simp only [lookR] at h
    cases hb : Nat.beq c c' with
    | true =>
      rw [hb] at h
      simp only [cond_true, Option.some.injEq] at h
      obtain rfl := Nat.eq_of_beq_eq_true hb
      subst h
      simp
    | false =>
      rw [hb] at h
      exact List.mem_cons_of_mem _ (lookR_mem h)
theorem drops_ob {k g : Nat} {o : AO} : ∀ {pm : Pm} {st : ASt}, (st.drops pm).ob k = some (g, o) → st.ob k = some (g, o) ∧ ∀ p ∈ pm, p.2.1 ≠ k
  | [], _, h => ⟨h, fun p hp => by cases hp⟩
  | (c, k', g') :: r, st, h => by
    obtain ⟨h1, h2⟩ := drops_ob (pm := r) h
    have h3 : (bif Nat.beq k k' then none else st.ob k) = some (g, o) := h1
    cases hb : Nat.beq k k' with
    | true => rw [hb] at h3; cases h3
    | false =>
      rw [hb] at h3
      refine ⟨h3, fun p hp e => ?_⟩
      rcases List.mem_cons.1 hp with rfl | hp
      · simp only at e; subst e; simp at hb
      · exact h2 p hp e
theorem puts_ob {k g : Nat} {o : AO} : ∀ {l : List (Nat × Nat × AO)} {st : ASt}, (st.puts l).ob k = some (g, o) → (k, g, o) ∈ l ∨ st.ob k = some (g, o)
  | [], _, h => .inr h
  | (k', g', o') :: r, st, h => by
    rcases puts_ob (l := r) h with h1 | h1
    · exact .inl (List.mem_cons_of_mem _ h1)
    · have h3 : (bif Nat.beq k k' then some (g', o') else st.ob k) = some (g, o) := h1
      cases hb : Nat.beq k k' with
      | true =>
        rw [hb] at h3
        simp only [cond_true, Option.some.injEq, Prod.mk.injEq] at h3
        obtain rfl := Nat.eq_of_beq_eq_true hb
        obtain ⟨rfl, rfl⟩ := h3
        exact .inl (by simp)
      | false => rw [hb] at h3; exact .inr h3
theorem drops_sl {i : Nat} : ∀ (pm : Pm) (st : ASt), (st.drops pm).sl i = st.sl i
  | [], _ => rfl
  | (_, k, _) :: r, st => drops_sl r (st.drop k)
theorem puts_sl {i : Nat} : ∀ (l : List (Nat × Nat × AO)) (st : ASt), (st.puts l).sl i = st.sl i
  | [], _ => rfl
  | (k, g, o) :: r, st => puts_sl r (st.put k g o)
/-- The caller's state behind a call. -/
def ASt.aft (st : ASt) (pm : Pm) (obs' : Obs) (r : Nm) : ASt := (st.drops pm).puts (obs'.map fun p => ((r p.1 0).1, (r p.1 0).2, p.2.ren r))
/-- Who had the place k of the new ones. -/
def invN : List (Nat × Nat) → Nat → Option Nat
  | [], _ => none
  | (c, k) :: r, i => bif Nat.beq i k then some c else invN r i
theorem invN_of : ∀ {nw : List (Nat × Nat)} {c k : Nat}, nodupB (nw.map (·.2)) = true → (c, k) ∈ nw → invN nw k = some c
  | [], _, _, _, h => by cases h
  | (c', k') :: r, c, k, hd, h => by
    simp only [List.map_cons, nodupB, Bool.and_eq_true, List.all_eq_true] at hd
    simp only [invN]
    rcases List.mem_cons.1 h with e | h2
    · cases e; simp
    · have hne : Nat.beq k k' = false := by
        cases hb : Nat.beq k k' with
        | false => rfl
        | true =>
          have := Nat.eq_of_beq_eq_true hb
          subst this
          have := hd.1 k (List.mem_map.2 ⟨(c, k), h2, rfl⟩)
          simp at this
      rw [hne]
      exact invN_of hd.2 h2
section
variable {P : Program} {N : Nat} {M0 : Nat → Prop} {w0 : Base} {ops : Array Oper} {Q : Exit → ASt → Prop} {o : Oper} {l : List Oper} {st : ASt}
theorem nmOf_bnd {ρ : Rho} {pm : Pm} (h : Bnd ρ) : Bnd (pull (nmOf pm) ρ) := by
  obtain ⟨G, hG⟩ := h
  refine ⟨G + 1, fun k g hh => ?_⟩
  cases g with
  | zero => omega
  | succ g => have := hG k (g + 1) hh; omega
structure Lent (st : ASt) (ρ : Rho) (obs : Obs) (pm : Pm) : Prop where
  pre : PreO st (nmOf pm) obs
  all : ∀ p ∈ obs, (lookR pm p.1).isSome = true
theorem Lent.key {ρ : Rho} {obs : Obs} {pm : Pm} (h : Lent st ρ obs pm) {p : Nat × AO} (hp : p ∈ obs) : ∃ k g, nmOf pm p.1 0 = (k, g) ∧ (p.1, k, g) ∈ pm ∧ st.ob k = some (g, p.2.ren (nmOf pm)) := by
  have h1 := h.all p hp
  obtain ⟨⟨k, g⟩, hx⟩ := Option.isSome_iff_exists.1 h1
  have e : nmOf pm p.1 0 = (k, g) := by simp [nmOf, hx]
  refine ⟨k, g, e, lookR_mem hx, ?_⟩
  have := h.pre.get p hp
  rw [e] at this
  exact this
/-- What a contract asks, of a caller's state. -/
theorem SimR.lent {ρ : Rho} {a : Act} {w : World} (hs : SimR N M0 w0 st ρ a w) {obs : Obs} {pm : Pm} (hl : Lent st ρ obs pm) (hd1 : nodupB (pm.map (·.2.1)) = true) :
    Objs ⟨w, fun _ => True, [], fun _ _ => none⟩ (Mt M0 ρ st.ob) w (pull (nmOf pm) ρ) obs ∧ (∀ b, fps (pull (nmOf pm) ρ) obs b → Mt M0 ρ st.ob b) ∧ Apart (pull (nmOf pm) ρ) obs ∧
    (∀ b, fps (pull (nmOf pm) ρ) obs b → w0.w.heap.size ≤ b ∨ w0.l b) ∧
    (∀ b k g o h, fps (pull (nmOf pm) ρ) obs b → st.ob k = some (g, o) → ρ k g = some h → fpO o h b → ∃ p ∈ pm, p.2.1 = k) := by
  refine ⟨fun p hp => ?_, fun b hb => ?_, fun p hp q hq h h' b h1 h2 h3 h4 => ?_, fun b hb => ?_, fun b k g o h hb h1 h2 h3 => ?_⟩
  · obtain ⟨k, g, e, _, hob⟩ := hl.key hp
    obtain ⟨h, h1, h2⟩ := hs.obj k g _ hob
    refine ⟨h, by show ρ (nmOf pm p.1 0).1 (nmOf pm p.1 0).2 = _; rw [e]; exact h1, (ORep.ren.1 h2).base fun b _ => .inr trivial⟩
  · obtain ⟨p, hp, h, h1, h2⟩ := hb
    obtain ⟨k, g, e, _, hob⟩ := hl.key hp
    have h1' : ρ (nmOf pm p.1 0).1 (nmOf pm p.1 0).2 = some h := h1
    rw [e] at h1'
    exact .inr ⟨k, g, _, h, hob, h1', fpO.ren.2 h2⟩
  · obtain ⟨k, g, e, hm, hob⟩ := hl.key hp
    obtain ⟨k', g', e', hm', hob'⟩ := hl.key hq
    have h1' : ρ (nmOf pm p.1 0).1 (nmOf pm p.1 0).2 = some h := h1
    have h2' : ρ (nmOf pm q.1 0).1 (nmOf pm q.1 0).2 = some h' := h2
    rw [e] at h1'
    rw [e'] at h2'
    have hk := hs.apart k g _ k' g' _ h h' b hob hob' h1' h2' (fpO.ren.2 h3) (fpO.ren.2 h4)
    have := nodupB.inj hd1 _ hm _ hm' hk
    simp only [Prod.mk.injEq] at this
    exact this.1
  · obtain ⟨p, hp, h, h1, h2⟩ := hb
    obtain ⟨k, g, e, _, hob⟩ := hl.key hp
    have h1' : ρ (nmOf pm p.1 0).1 (nmOf pm p.1 0).2 = some h := h1
    rw [e] at h1'
    obtain ⟨h', h3, h4⟩ := hs.obj k g _ hob
    rw [h1'] at h3; cases h3
    exact (h4.blk_lt (fpO.ren.2 h2)).1
  · obtain ⟨p, hp, h', h4, h5⟩ := hb
    obtain ⟨k', g', e, hm, hob⟩ := hl.key hp
    have h4' : ρ (nmOf pm p.1 0).1 (nmOf pm p.1 0).2 = some h' := h4
    rw [e] at h4'
    exact ⟨_, hm, hs.apart k' g' _ k g o h' h b hob h1 h4' h2 (fpO.ren.2 h5) h3⟩
/-- The caller's state behind a call. -/
theorem SimR.aft {ρ : Rho} {a : Act} {w w' : World} (hs : SimR N M0 w0 st ρ a w) {obs obs' : Obs} {pm : Pm} {nw : List (Nat × Nat)} {res : SV} {v : Value} (hl : PreO st (nmOf pm) obs) (hB : nmB obs obs' pm nw = true)
    (hx : ExtL ⟨w, fps (pull (nmOf pm) ρ) obs, [], fun _ _ => none⟩ w') (ho : GOut (Mt M0 ρ st.ob) w (pull (nmOf pm) ρ) obs w' obs' res v) :
    ∃ G ρ', SimR N M0 w0 (st.aft pm obs' (nm2 pm nw G)) ρ' a w' ∧ SRep (Mt M0 ρ' (st.aft pm obs' (nm2 pm nw G)).ob) w' ρ' (res.ren (nm2 pm nw G)) v := by
  simp only [nmB, Bool.and_eq_true] at hB
  obtain ⟨⟨⟨⟨⟨⟨⟨⟨⟨hb1, hb2⟩, hb3⟩, hb4⟩, hb5⟩, hb6⟩, hb7⟩, hb8⟩, hb9⟩, hb10⟩ := hB
  have hlent : Lent st ρ obs pm := ⟨hl, fun p hp => List.all_eq_true.1 hb1 p hp⟩
  obtain ⟨l1, l2, l3, l4, l5⟩ := hs.lent hlent hb5
  obtain ⟨ρ1, ⟨G1, hG1⟩, hpin, hobs, hap, hres⟩ := ho
  obtain ⟨G, hG⟩ := hs.gens
  let ρ' : Rho := fun k g => if g < G then ρ k g else if g = G then (match invN nw k with | some c => ρ1 c 0 | none => none) else ρ1 k (g - G - 1)
  have hρ : RhoLe ρ ρ' := fun k g x hx => by
    show (if g < G then ρ k g else _) = some x
    rw [if_pos (hG k g (by rw [hx]; simp))]; exact hx
  have hρG : ∀ k g, ρ' k (G + 1 + g) = ρ1 k g := fun k g => by
    show (if G + 1 + g < G then _ else if G + 1 + g = G then _ else ρ1 k (G + 1 + g - G - 1)) = _
    rw [if_neg (by omega), if_neg (by omega), show G + 1 + g - G - 1 = g from by omega]
  -- names of the contract, with the caller
  have hnw : ∀ c k, (c, k) ∈ nw → ρ' k G = ρ1 c 0 := fun c k h => by
    show (if G < G then _ else if G = G then _ else _) = _
    rw [if_neg (by omega), if_pos rfl, invN_of hb7 h]
  have hpm : ∀ c k g, lookR pm c = some (k, g) → (∃ p ∈ obs, p.1 = c) → ρ' k g = ρ1 c 0 := fun c k g h ⟨p, hp, e⟩ => by
    subst e
    obtain ⟨h', h1, _⟩ := l1 p hp
    rw [hpin p hp, h1]
    have : ρ (nmOf pm p.1 0).1 (nmOf pm p.1 0).2 = some h' := h1
    have e : nmOf pm p.1 0 = (k, g) := by simp [nmOf, h]
    rw [e] at this
    exact hρ _ _ _ this
  have hname : ∀ p ∈ obs', ρ' (nm2 pm nw G p.1 0).1 (nm2 pm nw G p.1 0).2 = ρ1 p.1 0 := fun p hp => by
    have h8 := List.all_eq_true.1 hb8 p hp
    simp only [Bool.or_eq_true, List.any_eq_true, Bool.and_eq_true, Bool.not_eq_true'] at h8
    rcases h8 with ⟨q, hq, hqp⟩ | ⟨h8, h9⟩
    · have e := Nat.eq_of_beq_eq_true hqp
      obtain ⟨⟨k, g⟩, hx⟩ := Option.isSome_iff_exists.1 (hlent.all q hq)
      rw [e] at hx
      have e2 : nm2 pm nw G p.1 0 = (k, g) := by simp [nm2, hx]
      rw [e2]
      exact hpm _ _ _ hx ⟨q, hq, e⟩
    · have h8' : lookR pm p.1 = none := by simpa using h8
      obtain ⟨⟨k, g⟩, hx⟩ := Option.isSome_iff_exists.1 h9
      obtain ⟨q, hq, e3⟩ := List.mem_map.1 (lookR_mem hx)
      simp only [Prod.mk.injEq] at e3
      obtain ⟨e3, e4, _⟩ := e3
      have hx2 : lookR (nw.map fun q => (q.1, q.2, G)) p.1 = some (k, G) := by
        have gen : ∀ (l : List (Nat × Nat)) (g1 g2 : Nat) (c k g : Nat), lookR (l.map fun q => (q.1, q.2, g1)) c = some (k, g) → lookR (l.map fun q => (q.1, q.2, g2)) c = some (k, g2) := by
          intro l g1 g2 c k g
          induction l with
          | nil => intro h; cases h
          | cons x r ih =>
            simp only [List.map_cons, lookR]
            cases Nat.beq c x.1 with
            | true => intro h; simp only [cond_true, Option.some.injEq, Prod.mk.injEq] at h ⊢; exact ⟨h.1, trivial⟩
            | false => exact ih
        exact gen nw 0 G p.1 k g hx
      have e2 : nm2 pm nw G p.1 0 = (k, G) := by simp [nm2, h8', hx2]
      rw [e2]
      exact hnw p.1 k (by rw [← e3, ← e4]; exact hq)
  -- every name of the contract means no less with the caller
  have hpull : RhoLe ρ1 (pull (nm2 pm nw G) ρ') := fun k g x hx => by
    show ρ' (nm2 pm nw G k g).1 (nm2 pm nw G k g).2 = some x
    cases g with
    | succ g =>
      have e : nm2 pm nw G k (g + 1) = (k, G + 1 + (g + 1)) := rfl
      rw [e, hρG]; exact hx
    | zero =>
      cases h1 : lookR pm k with
      | some y =>
        obtain ⟨k2, g2⟩ := y
        have e : nm2 pm nw G k 0 = (k2, g2) := by simp [nm2, h1]
        rw [e]
        have h10 := List.all_eq_true.1 hb10 _ (lookR_mem h1)
        obtain ⟨p, hp, hpk⟩ := List.any_eq_true.1 h10
        show ρ' k2 g2 = some x
        rw [hpm k k2 g2 h1 ⟨p, hp, Nat.eq_of_beq_eq_true hpk⟩]; exact hx
      | none =>
        cases h2 : lookR (nw.map fun q => (q.1, q.2, G)) k with
        | some y =>
          obtain ⟨k2, g2⟩ := y
          have e : nm2 pm nw G k 0 = (k2, g2) := by simp [nm2, h1, h2]
          obtain ⟨q, hq, e3⟩ := List.mem_map.1 (lookR_mem h2)
          simp only [Prod.mk.injEq] at e3
          obtain ⟨e3, e4, e5⟩ := e3
          rw [e, ← e5]
          show ρ' k2 G = some x
          rw [hnw k k2 (by rw [← e3, ← e4]; exact hq)]; exact hx
        | none =>
          have e : nm2 pm nw G k 0 = (k, G + 1 + 0) := by simp [nm2, h1, h2]
          rw [e, hρG]; exact hx
  -- the objects behind the call
  have hob' : ∀ k g o2, (st.aft pm obs' (nm2 pm nw G)).ob k = some (g, o2) → (∃ p ∈ obs', nm2 pm nw G p.1 0 = (k, g) ∧ o2 = p.2.ren (nm2 pm nw G)) ∨ (st.ob k = some (g, o2) ∧ ∀ p ∈ pm, p.2.1 ≠ k) := fun k g o2 h => by
    rcases puts_ob h with h1 | h1
    · obtain ⟨p, hp, e⟩ := List.mem_map.1 h1
      simp only [Prod.mk.injEq] at e
      exact .inl ⟨p, hp, Prod.ext e.1 e.2.1, e.2.2.symm⟩
    · exact .inr (drops_ob h1)
  have hnew : ∀ p ∈ obs', ∀ k g, nm2 pm nw G p.1 0 = (k, g) → ∃ h, ρ' k g = some h ∧ ρ1 p.1 0 = some h ∧ ORep ⟨w, fps (pull (nmOf pm) ρ) obs, [], fun _ _ => none⟩ (fun b => Mt M0 ρ st.ob b ∨ fps ρ1 obs' b) w' ρ1 h p.2 := fun p hp k g e => by
    obtain ⟨h, h1, h2⟩ := hobs p hp
    have := hname p hp
    rw [e, h1] at this
    exact ⟨h, this, h1, h2⟩
  have hold : ∀ k g o2 h, st.ob k = some (g, o2) → (∀ p ∈ pm, p.2.1 ≠ k) → ρ k g = some h → ∀ b, fpO o2 h b → ¬ fps (pull (nmOf pm) ρ) obs b := fun k g o2 h h1 h2 h3 b h4 h5 => by
    obtain ⟨p, hp, e⟩ := l5 b k g o2 h h5 h1 h3 h4
    exact h2 p hp e
  have hρold : ∀ k g o2 h, st.ob k = some (g, o2) → ρ' k g = some h → ρ k g = some h := fun k g o2 h h1 h2 => by
    obtain ⟨h', h3, _⟩ := hs.obj k g o2 h1
    rw [hρ _ _ _ h3] at h2
    rw [h3, h2]
  have hMt : ∀ b, Mt M0 ρ' (st.aft pm obs' (nm2 pm nw G)).ob b → Mt M0 ρ st.ob b ∨ fps ρ1 obs' b := fun b hb => by
    rcases hb with hb | ⟨k, g, o2, h, h1, h2, h3⟩
    · exact .inl (.inl hb)
    · rcases hob' k g o2 h1 with ⟨p, hp, e, rfl⟩ | ⟨h4, _⟩
      · obtain ⟨h', k1, k2, _⟩ := hnew p hp k g e
        rw [h2] at k1; cases k1
        exact .inr ⟨p, hp, h, k2, fpO.ren.1 h3⟩
      · exact .inl (.inr ⟨k, g, o2, h, h4, hρold _ _ _ _ h4 h2, h3⟩)
  have hfn : ∀ b, fps ρ1 obs' b → w.heap.size ≤ b ∨ fps (pull (nmOf pm) ρ) obs b := fun b ⟨p, hp, h, h1, h2⟩ => by
    obtain ⟨h', h3, h4⟩ := hobs p hp
    rw [h1] at h3; cases h3
    exact (h4.blk_lt h2).1
  have hK : Known (Mt M0 ρ st.ob) (Mt M0 ρ' (st.aft pm obs' (nm2 pm nw G)).ob) w w' := fun b hb hm => by
    refine ⟨fun hm' => ?_, hx.block b hb fun h => hm (l2 b h)⟩
    rcases hMt b hm' with h | h
    · exact hm h
    · rcases hfn b h with h2 | h2
      · omega
      · exact hm (l2 b h2)
  have hKs : Known (fun b => Mt M0 ρ st.ob b ∨ fps ρ1 obs' b) (Mt M0 ρ' (st.aft pm obs' (nm2 pm nw G)).ob) w' w' := Known.sub hMt
  refine ⟨G, ρ', {
    size := hs.size
    defers := hs.defers
    slot := fun i => by
      have e : (st.aft pm obs' (nm2 pm nw G)).sl i = st.sl i := (puts_sl _ _).trans (drops_sl _ _)
      rw [e]
      exact ((hs.slot i).mono hK).rho hρ
    obj := fun k g o2 h => by
      rcases hob' k g o2 h with ⟨p, hp, e, rfl⟩ | ⟨h1, h2⟩
      · obtain ⟨h', k1, k2, k3⟩ := hnew p hp k g e
        refine ⟨h', k1, ORep.ren.2 (((k3.mono hKs fun _ _ => rfl).rho hpull).base fun b hb => ?_)⟩
        rcases (k3.blk_lt hb).1 with h3 | h3
        · exact .inl (Nat.le_trans hs.ext.size h3)
        · exact l4 b h3
      · obtain ⟨h', k1, k2⟩ := hs.obj k g o2 h1
        exact ⟨h', hρ _ _ _ k1, (k2.mono hK fun b hb => hx.block b (k2.blk_lt hb).2 (hold k g o2 h' h1 h2 k1 b hb)).rho hρ⟩
    apart := fun k g o1 k' g' o2 h h' b h1 h2 h3 h4 h5 h6 => by
      rcases hob' k g o1 h1 with ⟨p, hp, e, rfl⟩ | ⟨h1, h1n⟩
      · obtain ⟨y, k1, k2, k3⟩ := hnew p hp k g e
        rw [h3] at k1; cases k1
        rcases hob' k' g' o2 h2 with ⟨q, hq, e', rfl⟩ | ⟨h2, h2n⟩
        · obtain ⟨y, k1', k2', k3'⟩ := hnew q hq k' g' e'
          rw [h4] at k1'; cases k1'
          have hpq := hap p hp q hq h h' b k2 k2' (fpO.ren.1 h5) (fpO.ren.1 h6)
          rw [hpq, e'] at e
          simp only [Prod.mk.injEq] at e
          exact e.1.symm
        · exfalso
          have h4' := hρold _ _ _ _ h2 h4
          rcases (k3.blk_lt (fpO.ren.1 h5)).1 with h7 | h7
          · obtain ⟨y, h8, h9⟩ := hs.obj k' g' o2 h2
            rw [h4'] at h8; cases h8
            have := (h9.blk_lt h6).2
            have h7' : w.heap.size ≤ b := h7
            omega
          · exact hold k' g' o2 h' h2 h2n h4' b h6 h7
      · have h3' := hρold _ _ _ _ h1 h3
        rcases hob' k' g' o2 h2 with ⟨q, hq, e', rfl⟩ | ⟨h2, h2n⟩
        · exfalso
          obtain ⟨y, k1', k2', k3'⟩ := hnew q hq k' g' e'
          rw [h4] at k1'; cases k1'
          rcases (k3'.blk_lt (fpO.ren.1 h6)).1 with h7 | h7
          · obtain ⟨y, h8, h9⟩ := hs.obj k g o1 h1
            rw [h3'] at h8; cases h8
            have := (h9.blk_lt h5).2
            have h7' : w.heap.size ≤ b := h7
            omega
          · exact hold k g o1 h h1 h1n h3' b h5 h7
        · exact hs.apart k g o1 k' g' o2 h h' b h1 h2 h3' (hρold _ _ _ _ h2 h4) h5 h6
    gens := ⟨G + 1 + G1 + 1, fun k g hh => by
      by_cases h1 : g < G
      · omega
      · by_cases h2 : g = G
        · omega
        · have h3 : (if g < G then ρ k g else if g = G then (match invN nw k with | some c => ρ1 c 0 | none => none) else ρ1 k (g - G - 1)) ≠ none := hh
          rw [if_neg h1, if_neg h2] at h3
          have := hG1 _ _ h3
          omega⟩
    base := hs.base
    ext := by
      have h1 := hs.ext
      refine ⟨hx.os.trans h1.os, hx.tape.trans h1.tape, hx.output.trans h1.output, Nat.le_trans h1.size hx.size, fun b hb hlb => ?_⟩
      have e1 := hx.block b (Nat.lt_of_lt_of_le hb h1.size) fun h => by
        rcases l4 b h with h2 | h2
        · omega
        · exact hlb h2
      exact e1.trans (h1.block b hb hlb)
    pin := fun k g v hv => hρ _ _ _ (hs.pin k g v hv) }, SRep.ren.2 ((hres.mono hKs).rho hpull)⟩
end
end Go.Proofs.Ytmbaeloiepjakaa.A
namespace Go.Proofs.Ytmbaeloiepjakaa.A
open Go Go.RowKit
def CV.sv : CV → SV
  | .d a => .d a
  | .bx k g off => .bx k g off
  | .ow k g => .ow k g
theorem CV.rep {M : Nat → Prop} {w : World} {ρ : Rho} {c : CV} {x : Value} : SRep M w ρ c.sv x ↔ CRep M w ρ c x := by cases c <;> rfl
theorem CReps.arep {M : Nat → Prop} {w : World} {ρ : Rho} {l : List CV} {vs : List Value} (h : CReps M w ρ l vs) : ARep M w ρ (l.map CV.sv) vs := ⟨by rw [List.length_map]; exact h.1, fun j s x h1 h2 => by
  rw [List.getElem?_map] at h1
  obtain ⟨c, h3, rfl⟩ := Option.map_eq_some_iff.1 h1
  exact CV.rep.2 (h.2 j c x h3 h2)⟩
theorem ARep.append {M : Nat → Prop} {w : World} {ρ : Rho} {s t : List SV} {us vs : List Value} (h : ARep M w ρ s us) (k : ARep M w ρ t vs) : ARep M w ρ (s ++ t) (us ++ vs) := ⟨by simp [h.1, k.1], fun j a x h1 h2 => by
  rcases Nat.lt_or_ge j s.length with hj | hj
  · rw [List.getElem?_append_left hj] at h1
    rw [List.getElem?_append_left (by rw [h.1]; exact hj)] at h2
    exact h.2 j a x h1 h2
  · rw [List.getElem?_append_right hj] at h1
    rw [List.getElem?_append_right (by rw [h.1]; exact hj), h.1] at h2
    exact k.2 _ a x h1 h2⟩
theorem ARep.ren {M : Nat → Prop} {w : World} {ρ : Rho} {r : Nm} {s : List SV} {vs : List Value} (h : ARep M w ρ (s.map (SV.ren r)) vs) : ARep M w (pull r ρ) s vs := ⟨by have := h.1; rwa [List.length_map] at this, fun j a x h1 h2 => SRep.ren.1 (h.2 j _ x (by rw [List.getElem?_map, h1]; rfl) h2)⟩
section
variable {P : Program} {N : Nat} {M0 : Nat → Prop} {w0 : Base} {ops : Array Oper} {Q : Exit → ASt → Prop} {o : Oper} {l : List Oper} {st : ASt}
theorem SimR.gbnd {ρ : Rho} {a : Act} {w : World} (hs : SimR N M0 w0 st ρ a w) : Bnd ρ := hs.gens
/-- What a call does, run. -/
theorem gcall_at {f : FuncId} {ins : List SV} {obs obs' : Obs} {res : SV} {pm : Pm} {nw : List (Nat × Nat)} {d : Nat} {a : Act} {w : World} {ρ : Rho} {vs : List Value} (hG : GCall P f ins obs (some (obs', res))) (hsim : SimR N M0 w0 st ρ a w) (hd : o.dst = some d) (hN : d < N) (hg : o.guard = none)
    (hpre : PreO st (nmOf pm) obs) (hB : nmB obs obs' pm nw = true) (hrun : (execOp a.eval o).run P w = .ok (.enter f vs.toArray) w) (hargs : ARep (Mt M0 ρ st.ob) w ρ (ins.map (SV.ren (nmOf pm))) vs)
    (h : ∀ G, Al P N M0 w0 ops Q l ((st.aft pm obs' (nm2 pm nw G)).set d (res.ren (nm2 pm nw G)))) : wpList P ops (QL N M0 w0 Q) (o :: l) a w := by
  have hB' := hB
  simp only [nmB, Bool.and_eq_true] at hB'
  obtain ⟨⟨⟨⟨⟨⟨⟨⟨⟨hb1, _⟩, _⟩, _⟩, hb5⟩, _⟩, _⟩, _⟩, _⟩, _⟩ := hB'
  obtain ⟨l1, l2, l3, l4, l5⟩ := hsim.lent ⟨hpre, fun p hp => List.all_eq_true.1 hb1 p hp⟩ hb5
  have hcall := hG.2 (Mt M0 ρ st.ob) w (pull (nmOf pm) ρ) vs hsim.mt_lt (nmOf_bnd hsim.gens) hargs.ren l1 l2 l3
  refine wpList_plain hg fun K hK => wp_upon ?_
  rw [hrun]
  refine hcall.mono fun e w' ⟨hx, v, he, ho⟩ => ⟨v, he, ?_⟩
  obtain ⟨G, ρ', hs', hr'⟩ := hsim.aft hpre hB hx ho
  refine hK _ _ ((h G).out _ _ ⟨ρ', ?_⟩)
  rw [hd]
  exact hs'.set hN hr'
/-- A call that is lent objects. -/
theorem Al_gcall {f : FuncId} {ins : List SV} {obs obs' : Obs} {res : SV} (pm : Pm) (nw : List (Nat × Nat)) {d : Nat} {xs : List Operand} {ts : Array TypeId} (hG : GCall P f ins obs (some (obs', res))) (ho : o.op = .call ⟨.value (.func f), xs.toArray, ts⟩) (hg : o.guard = none) (hd : o.dst = some d) (hN : d < N) (hc : conB o = true)
    (hpre : PreO st (nmOf pm) obs) (hB : nmB obs obs' pm nw = true) (ha : ArgsS st xs (ins.map (SV.ren (nmOf pm))))
    (h : ∀ G, Al P N M0 w0 ops Q l ((st.aft pm obs' (nm2 pm nw G)).set d (res.ren (nm2 pm nw G)))) : Al P N M0 w0 ops Q (o :: l) st := by
  refine ⟨?_⟩
  rintro a w ⟨ρ, hsim⟩
  have hev := fun y hy => hsim.ev hc y (mem_call ho y hy)
  refine gcall_at hG hsim hd hN hg hpre hB (vs := xs.map a.eval) ?_ (ha.rep fun x hx => hev x (by simpa using hx)) h
  simp only [execOp, ho, resolve, Act.eval, Deferred.ofValue, invoke, Sem.run_bind, Sem.run_pure, Result.andThen_ok]
  rw [hG.1]
  congr 2
  apply Array.ext'
  simp
/-- The same of a closure. -/
theorem Al_gcallv {f : FuncId} {first caps : List CV} {ins : List SV} {obs obs' : Obs} {res : SV} (pm : Pm) (nw : List (Nat × Nat)) {d : Nat} {y : Operand} {xs : List Operand} {ts : Array TypeId} (hG : GCall P f ins obs (some (obs', res))) (ho : o.op = .call ⟨.value y, xs.toArray, ts⟩) (hg : o.guard = none) (hd : o.dst = some d) (hN : d < N) (hc : conB o = true) (hy : st.ev y = .fnb f first caps)
    (hpre : PreO st (nmOf pm) obs) (hB : nmB obs obs' pm nw = true) (aa : List SV) (hins : ins.map (SV.ren (nmOf pm)) = first.map CV.sv ++ aa ++ caps.map CV.sv) (ha : ArgsS st xs aa)
    (h : ∀ G, Al P N M0 w0 ops Q l ((st.aft pm obs' (nm2 pm nw G)).set d (res.ren (nm2 pm nw G)))) : Al P N M0 w0 ops Q (o :: l) st := by
  refine ⟨?_⟩
  rintro a w ⟨ρ, hsim⟩
  have hev := fun y hy => hsim.ev hc y (mem_call ho y hy)
  have hm := hsim.ev hc y (by simp [opsOf, ho, Op.operands, Call.operands])
  rw [hy] at hm
  obtain ⟨us, vs, h1, h2, h3⟩ := hm
  refine gcall_at hG hsim hd hN hg hpre hB (vs := us ++ xs.map a.eval ++ vs) ?_ (by rw [hins]; exact (h2.arep.append (ha.rep fun x hx => hev x (by simpa using hx))).append h3.arep) h
  simp only [execOp, ho, resolve, h1, Deferred.ofValue, invoke, Sem.run_bind, Sem.run_pure, Result.andThen_ok]
  rw [hG.1]
  simp
/-- A call that panics: what it was lent is given up. -/
theorem Al_gpanic {f : FuncId} {ins : List SV} {obs : Obs} (pm : Pm) {xs : List Operand} {ts : Array TypeId} (hG : GCall P f ins obs none) (ho : o.op = .call ⟨.value (.func f), xs.toArray, ts⟩) (hg : o.guard = none) (hc : conB o = true)
    (hpre : PreO st (nmOf pm) obs) (hB : nmB obs [] pm [] = true) (ha : ArgsS st xs (ins.map (SV.ren (nmOf pm))))
    (h : ∀ pv, Q (.panic [{ v := .iface pv (.agg #[]), recovered := false }]) (st.drops pm)) : Al P N M0 w0 ops Q (o :: l) st := by
  refine ⟨?_⟩
  rintro a w ⟨ρ, hsim⟩
  have hev := fun y hy => hsim.ev hc y (mem_call ho y hy)
  have hB' := hB
  simp only [nmB, Bool.and_eq_true] at hB'
  obtain ⟨⟨⟨⟨⟨⟨⟨⟨⟨hb1, _⟩, _⟩, _⟩, hb5⟩, _⟩, _⟩, _⟩, _⟩, _⟩ := hB'
  obtain ⟨l1, l2, l3, l4, l5⟩ := hsim.lent ⟨hpre, fun p hp => List.all_eq_true.1 hb1 p hp⟩ hb5
  have hargs := ha.rep (M := Mt M0 ρ st.ob) (w := w) (ρ := ρ) (a := a) fun x hx => hev x (by simpa using hx)
  have hcall := hG.2 (Mt M0 ρ st.ob) w (pull (nmOf pm) ρ) _ hsim.mt_lt (nmOf_bnd hsim.gens) hargs.ren l1 l2 l3
  refine wpList_plain hg fun K hK => ?_
  unfold Oper.wp
  have e : (execOp a.eval o).run P w = .ok (.enter f (xs.map a.eval).toArray) w := by
    simp only [execOp, ho, resolve, Act.eval, Deferred.ofValue, invoke, Sem.run_bind, Sem.run_pure, Result.andThen_ok]
    rw [hG.1]
    congr 2
    apply Array.ext'
    simp
  rw [e]
  refine hcall.mono fun e w' ⟨hx, pv, he⟩ => ?_
  subst he
  obtain ⟨G, ρ', hs', _⟩ := hsim.aft (res := .any) (v := undef) hpre hB hx ⟨pull (nmOf pm) ρ, nmOf_bnd hsim.gens, fun _ _ => rfl, (fun p hp => by cases hp), (fun p hp => by cases hp), trivial⟩
  exact ⟨_, h pv, ρ', hs'⟩
end
/-! ### the callee -/
def lookO1 (obs : Obs) : List (Nat × Nat × AO) := obs.map fun p => (p.1, 0, p.2)
def argSS : Nat → List SV → List (Nat × SV)
  | _, [] => []
  | i, s :: r => (i, s) :: argSS (i + 1) r
theorem argSS_get : ∀ (aa : List SV) (k i : Nat), lookS (argSS k aa) (k + i) = match aa[i]? with | some s => s | none => .any
  | [], k, i => rfl
  | s :: r, k, 0 => by
    show (bif Nat.beq (k + 0) k then s else _) = _
    have : Nat.beq (k + 0) k = true := by simp
    rw [this]; rfl
  | s :: r, k, i + 1 => by
    show (bif Nat.beq (k + (i + 1)) k then s else lookS (argSS (k + 1) r) (k + (i + 1))) = _
    have : Nat.beq (k + (i + 1)) k = false := by
      cases hb : Nat.beq (k + (i + 1)) k with
      | false => rfl
      | true => have := Nat.eq_of_beq_eq_true hb; omega
    rw [this]
    have := argSS_get r (k + 1) i
    rw [show k + 1 + i = k + (i + 1) from by omega] at this
    simpa using this
theorem lookO1_mem : ∀ {obs : Obs} {k g : Nat} {o : AO}, lookO (lookO1 obs) k = some (g, o) → g = 0 ∧ (k, o) ∈ obs
  | [], _, _, _, h => by cases h
  | (c, o') :: r, k, g, o, h => by
    have h1 : (bif Nat.beq k c then some (0, o') else lookO (lookO1 r) k) = some (g, o) := h
    cases hb : Nat.beq k c with
    | true =>
      rw [hb] at h1
      simp only [cond_true, Option.some.injEq, Prod.mk.injEq] at h1
      obtain rfl := Nat.eq_of_beq_eq_true hb
      obtain ⟨rfl, rfl⟩ := h1
      exact ⟨rfl, by simp⟩
    | false =>
      rw [hb] at h1
      obtain ⟨h2, h3⟩ := lookO1_mem h1
      exact ⟨h2, by simp [h3]⟩
def pins (ρ : Rho) (obs : Obs) : Rho := fun k g => bif Nat.beq g 0 && obs.any (fun p => Nat.beq p.1 k) then ρ k g else none
/-- How results of any kind are read. -/
structure ReadsS (P : Program) (fn : Func) (rs : ASt → SV → Prop) : Prop where
  out : ∀ {N : Nat} {M0 : Nat → Prop} {w0 : Base} {st : ASt} {ρ : Rho} {a : Act} {w : World} {res : SV}, SimR N M0 w0 st ρ a w → rs st res → ∃ v, (results fn a.tmps).run P w = .ok v w ∧ SRep (Mt M0 ρ st.ob) w ρ res v
def Res0S (_ : ASt) (res : SV) : Prop := res = .d (.tup [])
def Res1S (r : Nat) (st : ASt) (res : SV) : Prop := Sub (st.sl r) res
def Res2S (r r' : Nat) (st : ASt) (res : SV) : Prop := ∃ a b, res = .tp [a, b] ∧ Sub (st.sl r) a.sv ∧ Sub (st.sl r') b.sv
theorem ReadsS.r0 {P : Program} {fn : Func} (h : fn.results = #[]) : ReadsS P fn Res0S := ⟨fun hs hr => ⟨_, results_none h _ _ _, by rw [show _ = SV.d (AV.tup []) from hr]; exact .tup [] [] rfl fun j a x h => by simp at h⟩⟩
theorem ReadsS.r1 {P : Program} {fn : Func} {r : Nat} (h : fn.results = #[.tmp r]) : ReadsS P fn (Res1S r) := ⟨fun hs hr => ⟨_, results_tmp h _ _ _, hr _ _ _ _ (hs.slot r)⟩⟩
theorem ReadsS.r2 {P : Program} {fn : Func} {r r' : Nat} (h : fn.results = #[.tmp r, .tmp r']) : ReadsS P fn (Res2S r r') := ⟨fun hs ⟨a, b, e, h1, h2⟩ => ⟨_, results_tmp2 h _ _ _, by
  rw [e]
  refine ⟨[_, _], rfl, rfl, fun j c x h3 h4 => ?_⟩
  match j with
  | 0 => simp only [List.getElem?_cons_zero, Option.some.injEq] at h3 h4; subst h3 h4; exact CV.rep.1 (h1 _ _ _ _ (hs.slot r))
  | 1 => simp only [List.getElem?_cons_succ, List.getElem?_cons_zero, Option.some.injEq] at h3 h4; subst h3 h4; exact CV.rep.1 (h2 _ _ _ _ (hs.slot r'))
  | j + 2 => simp at h3⟩⟩
/-- What stands at the end of a call that was lent objects; mp tells where the new ones stand. -/
def RtO (rs : ASt → SV → Prop) (obs : Obs) : Option (Obs × SV) → Exit → ASt → Prop
  | R, .ret, st => ∃ (obs' : Obs) (res : SV) (mp : Pm), R = some (obs', res) ∧ rs st (res.ren (nmOf mp)) ∧ PreO st (nmOf mp) obs' ∧ (nodupB (obs'.map fun p => (nmOf mp p.1 0).1) && nodupB (obs'.map (·.1)) && obs.all fun p => !(lookR mp p.1).isSome) = true
  | R, .normal, st => ∃ (obs' : Obs) (res : SV) (mp : Pm), R = some (obs', res) ∧ rs st (res.ren (nmOf mp)) ∧ PreO st (nmOf mp) obs' ∧ (nodupB (obs'.map fun p => (nmOf mp p.1 0).1) && nodupB (obs'.map (·.1)) && obs.all fun p => !(lookR mp p.1).isSome) = true
  | R, .panic ch, _ => R = none ∧ ∃ pv, ch = [{ v := .iface pv (.agg #[]), recovered := false }]
  | _, _, _ => False
theorem nodupB.keys {obs : Obs} (h : nodupB (obs.map (·.1)) = true) {k : Nat} {o : AO} (hm : (k, o) ∈ obs) : lookO (lookO1 obs) k = some (0, o) := by
  induction obs with
  | nil => cases hm
  | cons x r ih =>
    obtain ⟨c, o'⟩ := x
    have hinj := nodupB.inj (f := fun p : Nat × AO => p.1) (l := (c, o') :: r) h
    show (bif Nat.beq k c then some (0, o') else lookO (lookO1 r) k) = _
    cases hb : Nat.beq k c with
    | true =>
      have e := Nat.eq_of_beq_eq_true hb
      have := hinj (k, o) hm (c, o') (by simp) e
      simp only [Prod.mk.injEq] at this
      simp [this.2]
    | false =>
      simp only [cond_false]
      refine ih ?_ ?_
      · simp only [List.map_cons, nodupB, Bool.and_eq_true] at h; exact h.2
      · rcases List.mem_cons.1 hm with e | hm
        · simp only [Prod.mk.injEq] at e; rw [e.1] at hb; simp at hb
        · exact hm
theorem GCall_enter {P : Program} {f : FuncId} {fn : Func} {c : Code} {N : Nat} {ins : List SV} {obs : Obs} {R : Option (Obs × SV)} {rs : ASt → SV → Prop} (hcf : ∀ (vs : Array Value) (w : World), (callFunc f vs).run P w = .ok (.enter f vs) w) (hf : P.funcs[f]? = some fn) (hb : fn.body = some c) (hN : fn.ntmps = N) (hr : ReadsS P fn rs) (hn : ins.length ≤ N)
    (h : (∀ a, SV.d a ∈ ins → okA a) → (∀ k T cs a, (k, AO.box T cs) ∈ obs → SV.d a ∈ cs → okA a) → ∀ M0 w0, Aw P N M0 w0 c (RtO rs obs R) (mk (argSS 0 ins) (lookO1 obs))) : GCall P f ins obs R := ⟨hcf, fun M w ρ vs hM hbnd ha hobs hfps hap => by
  have hokI : ∀ a, SV.d a ∈ ins → okA a := fun a hm => by
    obtain ⟨j, hj, e⟩ := List.getElem_of_mem hm
    have hj' : j < vs.length := by rw [ha.1]; exact hj
    exact ⟨M, w, vs[j], ha.2 j (.d a) _ (by rw [List.getElem?_eq_getElem hj, e]) (List.getElem?_eq_getElem hj')⟩
  have hokB : ∀ k T cs a, (k, AO.box T cs) ∈ obs → SV.d a ∈ cs → okA a := fun k T cs a hm ha => by
    obtain ⟨y, _, b, xs, rfl, _, _, hsz, hcs⟩ := hobs _ hm
    obtain ⟨j, hj, e⟩ := List.getElem_of_mem ha
    have hj' : j < xs.size := by rw [hsz]; exact hj
    exact ⟨M, w, xs[j], (hcs j (.d a) _ (by rw [List.getElem?_eq_getElem hj, e]) (Array.getElem?_eq_getElem hj')).1⟩
  have hMt : ∀ b, Mt M ρ (mk (argSS 0 ins) (lookO1 obs)).ob b → M b := fun b hb => by
    rcases hb with hb | ⟨k, g, o, x, h1, h2, h3⟩
    · exact hb
    · obtain ⟨rfl, hm⟩ := lookO1_mem h1
      exact hfps b ⟨_, hm, x, h2, h3⟩
  have hsim : SimR N M ⟨w, fps ρ obs, [], pins ρ obs⟩ (mk (argSS 0 ins) (lookO1 obs)) ρ { tmps := vs.toArray ++ Array.replicate (N - vs.toArray.size) undef, defers := [] } w := {
    size := by have := ha.1; simp; omega
    defers := rfl
    slot := fun i => by
      have e := argSS_get ins 0 i
      rw [Nat.zero_add] at e
      show SRep _ _ _ (lookS (argSS 0 ins) i) _
      rw [e]
      cases h : ins[i]? with
      | none => trivial
      | some s =>
        have hi : i < vs.length := by rw [ha.1]; exact (List.getElem?_eq_some_iff.1 h).1
        show SRep _ _ _ s ((vs.toArray ++ Array.replicate (N - vs.toArray.size) undef).getD i undef)
        have e2 : (vs.toArray ++ Array.replicate (N - vs.toArray.size) undef).getD i undef = vs[i] := by
          simp [Array.getD_eq_getD_getElem?, Array.getElem?_append, hi]
        rw [e2]
        exact (ha.2 i s vs[i] h (by simp [hi])).mono (Known.sub hMt)
    obj := fun k g o h => by
      obtain ⟨rfl, hm⟩ := lookO1_mem h
      obtain ⟨y, h1, h2⟩ := hobs _ hm
      exact ⟨y, h1, (h2.mono (Known.sub hMt) fun _ _ => rfl).base fun b hb => .inr ⟨_, hm, y, h1, hb⟩⟩
    apart := fun k g o k' g' o' x x' b h h' h1 h2 h3 h4 => by
      obtain ⟨rfl, hm⟩ := lookO1_mem h
      obtain ⟨rfl, hm'⟩ := lookO1_mem h'
      exact hap _ hm _ hm' x x' b h1 h2 h3 h4
    gens := hbnd
    base := hM
    ext := ⟨rfl, rfl, rfl, Nat.le_refl _, fun _ _ _ => rfl⟩
    pin := fun k g v hv => by
      have : (bif Nat.beq g 0 && obs.any (fun p => Nat.beq p.1 k) then ρ k g else none) = some v := hv
      revert this
      cases (Nat.beq g 0 && obs.any (fun p => Nat.beq p.1 k)) with
      | true => exact id
      | false => intro h; cases h }
  refine calls_of_wp hf hb ?_
  rw [hN]
  refine wp_mono ((h hokI hokB M ⟨w, fps ρ obs, [], pins ρ obs⟩).out _ _ ⟨_, hsim⟩) fun e a' w' ⟨st, h1, ρF, h2⟩ => ?_
  have hext : ExtL ⟨w, fps ρ obs, [], fun _ _ => none⟩ w' := ⟨h2.ext.os, h2.ext.tape, h2.ext.output, h2.ext.size, h2.ext.block⟩
  have key : (∃ (obs' : Obs) (res : SV) (mp : Pm), R = some (obs', res) ∧ rs st (res.ren (nmOf mp)) ∧ PreO st (nmOf mp) obs' ∧ (nodupB (obs'.map fun p => (nmOf mp p.1 0).1) && nodupB (obs'.map (·.1)) && obs.all fun p => !(lookR mp p.1).isSome) = true) → a'.defers = [] ∧ ∃ v, (results fn a'.tmps).run P w' = .ok v w' ∧ (ExtL ⟨w, fps ρ obs, [], fun _ _ => none⟩ w' ∧ GPost M w ρ obs w' (.returned v) R) := fun ⟨obs', res, mp, hR, hrs, hpo, hchk⟩ => by
    subst hR
    simp only [Bool.and_eq_true] at hchk
    obtain ⟨⟨c1, c2⟩, c3⟩ := hchk
    obtain ⟨v, k1, k2⟩ := hr.out h2 hrs
    refine ⟨h2.defers, v, k1, hext, v, rfl, pull (nmOf mp) ρF, nmOf_bnd h2.gens, fun p hp => ?_, fun p hp => ?_, fun p hp q hq x x' b h1 h2' h3 h4 => ?_, ?_⟩
    · have h5 := List.all_eq_true.1 c3 p hp
      have h6 : lookR mp p.1 = none := by simpa using h5
      have e : nmOf mp p.1 0 = (p.1, 0) := by simp [nmOf, h6]
      show ρF (nmOf mp p.1 0).1 (nmOf mp p.1 0).2 = _
      rw [e]
      obtain ⟨y, h7, _⟩ := hobs p hp
      rw [h7]
      refine h2.pin _ _ _ ?_
      show (bif Nat.beq 0 0 && obs.any (fun q => Nat.beq q.1 p.1) then ρ p.1 0 else none) = some y
      have : obs.any (fun q => Nat.beq q.1 p.1) = true := List.any_eq_true.2 ⟨p, hp, by simp⟩
      rw [this]; exact h7
    · obtain ⟨y, h5, h6⟩ := h2.obj _ _ _ (hpo.get p hp)
      refine ⟨y, h5, ((ORep.ren.1 h6).mono (Known.sub fun b hb => ?_) fun _ _ => rfl).base fun b hb => (h6.blk_lt (fpO.ren.2 hb)).1⟩
      rcases hb with hb | ⟨q, hq, z, h7, h8⟩
      · exact .inl hb
      · exact .inr ⟨_, _, _, z, hpo.get q hq, h7, fpO.ren.2 h8⟩
    · have := h2.apart _ _ _ _ _ _ x x' b (hpo.get p hp) (hpo.get q hq) h1 h2' (fpO.ren.2 h3) (fpO.ren.2 h4)
      rw [nodupB.inj c1 p hp q hq this]
    · refine (SRep.ren.1 k2).mono (Known.sub fun b hb => ?_)
      rcases hb with hb | ⟨q, hq, z, h7, h8⟩
      · exact .inl hb
      · exact .inr ⟨_, _, _, z, hpo.get q hq, h7, fpO.ren.2 h8⟩
  cases e with
  | normal => exact key h1
  | ret => exact key h1
  | panic ch =>
    obtain ⟨rfl, pv, rfl⟩ := h1
    exact ⟨h2.defers, hext, pv, rfl⟩
  | _ => exact h1.elim⟩
end Go.Proofs.Ytmbaeloiepjakaa.A

set_option linter.unusedSimpArgs false
set_option linter.unusedVariables false
namespace Go.Proofs.Ytmbaeloiepjakaa.A
open Go Go.RowKit
section
variable {P : Program} {N : Nat} {M0 : Nat → Prop} {w0 : Base} {ops : Array Oper} {Q : Exit → ASt → Prop} {o : Oper} {l : List Oper} {st : ASt}
theorem Pu_extractS {x : Operand} {i : Nat} {aa : List CV} {b : CV} (ho : o.op = .extract x i) (hx : st.ev x = .tp aa) (hb : aa[i]? = some b) : Pu P st o b.sv := Pu_q fun B M ρ w a h2 _ => by
  have hm := h2 x (by simp [opsOf, ho, Op.operands])
  rw [hx] at hm
  obtain ⟨vs, hy, hl, hr⟩ := hm
  have hj : i < vs.length := by rw [hl]; exact (List.getElem?_eq_some_iff.1 hb).1
  exact ⟨vs[i], by simp [execOp, ho, hy, Instr.extract, hj, Sem.run], CV.rep.2 (hr i b _ hb (by simp [hj]))⟩
/-- What operands hold, told as what a closure may hold. -/
def HoldOk (st : ASt) : List Operand → List CV → Prop
  | [], [] => True
  | x :: xs, c :: cs => Sub (st.ev x) c.sv ∧ HoldOk st xs cs
  | _, _ => False
theorem HoldOk.rep {M : Nat → Prop} {w : World} {ρ : Rho} {a : Act} : ∀ {xs : List Operand} {cs : List CV}, HoldOk st xs cs → (∀ x ∈ xs, SRep M w ρ (st.ev x) (a.eval x)) → CReps M w ρ cs (xs.map a.eval)
  | [], [], _, _ => ⟨rfl, fun j a x h => by simp at h⟩
  | x :: xs, b :: aa, h, hs => by
    have ih := HoldOk.rep (a := a) h.2 fun y hy => hs y (by simp [hy])
    refine ⟨by simp [ih.1], fun j c y h1 h2 => ?_⟩
    cases j with
    | zero =>
      simp at h1 h2
      subst h1 h2
      exact CV.rep.1 (h.1 _ _ _ _ (hs x (by simp)))
    | succ j => exact ih.2 j c y (by simpa using h1) (by simpa using h2)
  | [], _ :: _, h, _ => h.elim
  | _ :: _, [], h, _ => h.elim
theorem Pu_makeFuncS {f : FuncId} {ys xs : List Operand} (first caps : List CV) (ho : o.op = .makeFunc (.func f) ys.toArray xs.toArray) (hf : HoldOk st ys first) (ha : HoldOk st xs caps) : Pu P st o (.fnb f first caps) := Pu_q fun B M ρ w a h2 _ => by
  have h3 := hf.rep (a := a) fun x hx => h2 x (by simp [opsOf, ho, Op.operands]; exact .inl hx)
  have h4 := ha.rep (a := a) fun x hx => h2 x (by simp [opsOf, ho, Op.operands]; exact .inr hx)
  refine ⟨.func (.func f) (ys.map a.eval).toArray (xs.map a.eval).toArray, ?_, _, _, rfl, h3, h4⟩
  simp only [execOp, ho, Instr.makeFunc, Sem.run_bind, Sem.run_pure, Result.andThen_ok]
  simp
/-! ### slices of pointers -/
theorem Pu_lenP {x : Operand} {t e : TypeId} {cs : List CV} (ho : o.op = .call ⟨.builtin .len, #[x], #[t]⟩) (ht : P.underlying t = some (.slice e)) (hx : st.ev x = .psl cs) : Pu P st o (.d (.v (.int .i64 cs.length))) := Pu_q fun B M ρ w a h2 _ => by
  have hm := h2 x (mem_call ho x (by simp))
  rw [hx] at hm
  obtain ⟨b, o2, cap, hy, hcap, hl, _⟩ := hm
  refine ⟨.int .i64 cs.length, ?_, .v _ ⟨by omega, by show (cs.length : Int) ≤ 9223372036854775807; simp only [maxI] at hl; omega⟩⟩
  simp [execOp, ho, resolve, invoke, builtin, Builtin.len_, hy, run_underlying ht, Sem.run, goInt]
theorem Pu_indexP {t e : TypeId} {x i : Operand} {k : Nat} {z : Int} {cs : List CV} {c : CV} (ho : o.op = .indexAddr t x i) (ht : P.underlying t = some (.slice e)) (hz : ∀ w, (sizeOf e).run P w = .ok 1 w) (hx : st.ev x = .psl cs) (hi : st.ev i = .d (.v (.int .i64 z))) (hk : z = k) (hr : cs[k]? = some c) : Pu P st o (.pc c) := Pu_q fun B M ρ w a h2 _ => by
  have m : x ∈ opsOf o ∧ i ∈ opsOf o := by simp [opsOf, ho, Op.operands]
  obtain ⟨e2, _⟩ := ev_v h2 m.2 hi
  have hm := h2 x m.1
  rw [hx] at hm
  obtain ⟨b, o2, cap, hy, hcap, hl, hc⟩ := hm
  obtain ⟨h3, v, h4, h5, h6⟩ := hc k c hr
  have hlt : k < cs.length := (List.getElem?_eq_some_iff.1 hr).1
  subst hk
  refine ⟨.pointer (some ⟨b, o2 + k, none⟩), ?_, b, o2 + k, v, rfl, h3, h4, h5, h6⟩
  simp only [execOp, ho, hy, e2, Instr.indexAt, Instr.sureAddr, Sem.run_bind, asIntOf, Sem.run_pure, Result.andThen_ok, run_underlying ht]
  rw [if_pos ⟨by omega, by omega⟩]
  simp only [Sem.run_bind, hz, Result.andThen_ok, Int.toNat_natCast, add_addr, Sem.run_pure, Nat.mul_one]
theorem Pu_loadP {t : TypeId} {x : Operand} {c : CV} (ho : o.op = .load t x) (ht : ∀ w, (isAgg t).run P w = .ok false w) (hx : st.ev x = .pc c) : Pu P st o c.sv := Pu_q fun B M ρ w a h2 _ => by
  have hm := h2 x (by simp [opsOf, ho, Op.operands])
  rw [hx] at hm
  obtain ⟨b, o2, v, hy, h3, h4, h5, h6⟩ := hm
  exact ⟨v, by simp [execOp, ho, hy, Instr.loadAt, Instr.sureAddr, loadVar, ht, load, Sem.run, h4, Sem.run_bind], CV.rep.2 h6⟩
/-! ### elements of rows of the call's own -/
theorem rows_flat {M : Nat → Prop} {w : World} {n : Nat} : ∀ {rows : List (List AV)} {vals : List (List Value)} {q : Nat} {a : AV}, Rows M w n vals rows → rows.flatten[q]? = some a → ∃ x, vals.flatten[q]? = some x ∧ Rep M w a x ∧ x.oneCell' = true
  | [], _, q, a, _, h => by simp at h
  | r :: rs, [], q, a, hr, _ => by have := hr.1; simp at this
  | r :: rs, v :: vs, q, a, hr, h => by
    obtain ⟨h1, h2, h3⟩ := hr.2 0 r v rfl rfl
    simp only [List.flatten_cons] at h ⊢
    rcases Nat.lt_or_ge q r.length with hq | hq
    · rw [List.getElem?_append_left hq] at h
      have hqv : q < v.length := by omega
      rw [List.getElem?_append_left hqv]
      obtain ⟨k1, k2⟩ := h3 q a v[q] h (by simp [hqv])
      exact ⟨v[q], by simp [hqv], k1, k2⟩
    · rw [List.getElem?_append_right hq] at h
      rw [List.getElem?_append_right (by omega), show v.length = r.length from by omega]
      refine rows_flat (rows := rs) ⟨by have := hr.1; simpa using this, fun i r' v' hi hv => hr.2 (i + 1) r' v' (by simpa using hi) (by simpa using hv)⟩ h
theorem rows_of_flat {M : Nat → Prop} {w : World} {n : Nat} : ∀ {rows : List (List AV)} {L : List Value}, (∀ r ∈ rows, r.length = n) → L.length = rows.length * n → (∀ (q : Nat) (a : AV) (x : Value), rows.flatten[q]? = some a → L[q]? = some x → Rep M w a x ∧ x.oneCell' = true) → ∃ vals, vals.flatten = L ∧ Rows M w n vals rows
  | [], L, _, hl, _ => ⟨[], by simp at hl; simp [hl], rfl, fun i r v h => by simp at h⟩
  | r :: rs, L, hn, hl, h => by
    have hrn := hn r (by simp)
    simp only [List.length_cons, Nat.add_mul, Nat.one_mul] at hl
    obtain ⟨vals, h1, h2⟩ := rows_of_flat (rows := rs) (L := L.drop n) (M := M) (w := w) (fun r' hr' => hn r' (by simp [hr'])) (by simp; omega) (fun q a x hq hx => by
      rw [List.getElem?_drop] at hx
      refine h (n + q) a x ?_ hx
      simp only [List.flatten_cons]
      rw [List.getElem?_append_right (by omega), show n + q - r.length = q from by omega]; exact hq)
    refine ⟨L.take n :: vals, by simp [h1], by simp [h2.1], fun i r' v hi hv => ?_⟩
    cases i with
    | zero =>
      simp at hi hv
      subst hi hv
      refine ⟨hrn, by simp; omega, fun j a x hj hx => ?_⟩
      have hjl : j < r.length := (List.getElem?_eq_some_iff.1 hj).1
      rw [List.getElem?_take, if_pos (by omega)] at hx
      exact h j a x (by simp only [List.flatten_cons]; rw [List.getElem?_append_left hjl]; exact hj) hx
    | succ i => exact h2.2 i r' v (by simpa using hi) (by simpa using hv)
theorem Pu_lenOw {x : Operand} {t e T : TypeId} {k g n m : Nat} {rows : List (List AV)} (ho : o.op = .call ⟨.builtin .len, #[x], #[t]⟩) (ht : P.underlying t = some (.slice e)) (hx : st.ev x = .ow k g) (hob : st.ob k = some (g, .arr T n rows)) (hm : rows.length = m) : Pu P st o (.d (.v (.int .i64 m))) := Pu_q fun B M ρ w a h2 h3 => by
  subst hm
  have hm := h2 x (mem_call ho x (by simp))
  rw [hx] at hm
  obtain ⟨v, h4, vals, h5, h6, ⟨va, vc, rfl⟩, hl, _⟩ := h3 k g _ hob
  have hy : a.eval x = .slice va rows.length vc := by
    have := hm.1
    rw [h4] at this
    exact (Option.some.inj this).symm
  refine ⟨.int .i64 rows.length, ?_, .v _ ?_⟩
  · simp [execOp, ho, resolve, invoke, builtin, Builtin.len_, hy, run_underlying ht, Sem.run, goInt]
  · unfold maxI at hl; simp [vok, inI]; omega
theorem Pu_indexOw {t e T : TypeId} {x i : Operand} {k g n j : Nat} {z : Int} {rows : List (List AV)} (ho : o.op = .indexAddr t x i) (ht : P.underlying t = some (.slice e)) (hz : ∀ w, (sizeOf e).run P w = .ok n w) (hx : st.ev x = .ow k g) (hi : st.ev i = .d (.v (.int .i64 z))) (hob : st.ob k = some (g, .arr T n rows)) (hk : z = j) (hj : j < rows.length) : Pu P st o (.bx k g (j * n)) := Pu_q fun B M ρ w a h2 h3 => by
  have m : x ∈ opsOf o ∧ i ∈ opsOf o := by simp [opsOf, ho, Op.operands]
  obtain ⟨e2, _⟩ := ev_v h2 m.2 hi
  have hm := h2 x m.1
  rw [hx] at hm
  obtain ⟨v, h4, vals, hown, h6, _, hl, _⟩ := h3 k g _ hob
  have hy : a.eval x = v := by
    have := hm.1
    rw [h4] at this
    exact (Option.some.inj this).symm
  subst hk
  rcases hown.2 with ⟨rfl, h0⟩ | ⟨b, cap, cur, rfl, _, hg, hnc, _⟩
  · omega
  · refine ⟨.pointer (some ⟨b, j * n, none⟩), ?_, _, b, h4, rfl, rfl⟩
    simp only [execOp, ho, hy, e2, Instr.indexAt, Instr.sureAddr, Sem.run_bind, asIntOf, Sem.run_pure, Result.andThen_ok, run_underlying ht]
    rw [if_pos ⟨by omega, by omega⟩]
    simp only [Sem.run_bind, hz, Result.andThen_ok, Int.toNat_natCast, add_addr, Sem.run_pure, Nat.zero_add]
theorem arr_at {B : Base} {M : Nat → Prop} {w : World} {ρ : Rho} {h : Value} {T : TypeId} {n b : Nat} {rows : List (List AV)} (hO : ORep B M w ρ h (.arr T n rows)) (hb : blk h = some b) : ∃ cap cur vals, h = .slice (some ⟨b, 0, none⟩) rows.length cap ∧ w.heap[b]? = some (.cells cur T (0, 0)) ∧ rows.length ≤ cap ∧ cap ≤ maxLen ∧ cur.size = cap * n ∧ cur.toList.take (rows.length * n) = vals.flatten ∧ Rows M w n vals rows ∧ rows.length ≤ maxI ∧ (B.w.heap.size ≤ b ∨ B.l b) := by
  obtain ⟨vals, hown, h6, _, hl, hlb⟩ := hO
  rcases hown.2 with ⟨rfl, h0⟩ | ⟨c, cap, cur, rfl, _, hg, hnc, hcm, hsz, htk⟩
  · simp [blk] at hb
  · simp only [blk, Option.some.injEq] at hb
    subst hb
    exact ⟨cap, cur, vals, rfl, hg, hnc, hcm, hsz, htk, h6, hl, hlb c rfl⟩
theorem Pu_loadArr {t T : TypeId} {x : Operand} {k g off n : Nat} {rows : List (List AV)} {c : AV} (ho : o.op = .load t x) (ht : ∀ w, (isAgg t).run P w = .ok false w) (hx : st.ev x = .bx k g off) (hob : st.ob k = some (g, .arr T n rows)) (hs : rows.flatten[off]? = some c) : Pu P st o (.d c) := Pu_q fun B M ρ w a h2 h3 => by
  have hm := h2 x (by simp [opsOf, ho, Op.operands])
  rw [hx] at hm
  obtain ⟨y, b, h4, h5, h6⟩ := hm
  obtain ⟨y', h7, hO⟩ := h3 k g _ hob
  rw [h4] at h7; cases h7
  obtain ⟨cap, cur, vals, rfl, hg, hnc, hcm, hsz, htk, hr, hl, _⟩ := arr_at hO h5
  obtain ⟨v, h8, h9, h10⟩ := rows_flat hr hs
  have hv : cur[off]? = some v := by
    rw [← htk, List.getElem?_take] at h8
    split at h8
    · simpa using h8
    · cases h8
  refine ⟨v, ?_, h9⟩
  have hc : w.cell? ⟨b, off, none⟩ = some v := by simp [World.cell?, hg, hv]
  simp [execOp, ho, h6, Instr.loadAt, Instr.sureAddr, loadVar, ht, load, Sem.run, hc, Sem.run_bind]
theorem Pu_loadArrN {t T : TypeId} {x : Operand} {k g off n m : Nat} {rows : List (List AV)} {r : List AV} (ho : o.op = .load t x) (ht : ∀ w, (isAgg t).run P w = .ok true w) (hz : ∀ w, (sizeOf t).run P w = .ok m w) (hx : st.ev x = .bx k g off) (hob : st.ob k = some (g, .arr T n rows)) (hs : (rows.flatten.drop off).take m = r) (hm' : r.length = m) : Pu P st o (.d (.row r)) := Pu_q fun B M ρ w a h2 h3 => by
  have hm := h2 x (by simp [opsOf, ho, Op.operands])
  rw [hx] at hm
  obtain ⟨y, b, h4, h5, h6⟩ := hm
  obtain ⟨y', h7, hO⟩ := h3 k g _ hob
  rw [h4] at h7; cases h7
  obtain ⟨cap, cur, vals, rfl, hg, hnc, hcm, hsz, htk, hr, hl, _⟩ := arr_at hO h5
  have hcell : ∀ j, j < m → ∃ c v, r[j]? = some c ∧ cur[off + j]? = some v ∧ Rep M w c v ∧ v.oneCell' = true := fun j hj => by
    have h12 : r[j]? = some (r[j]'(by omega)) := by simp [hm', hj]
    have h13 : rows.flatten[off + j]? = r[j]? := by rw [← hs, List.getElem?_take, if_pos hj, List.getElem?_drop]
    rw [h12] at h13
    obtain ⟨v, h8, h9, h10⟩ := rows_flat hr h13
    refine ⟨_, v, h12, ?_, h9, h10⟩
    rw [← htk, List.getElem?_take] at h8
    split at h8
    · simpa using h8
    · cases h8
  have gd : ∀ j v, cur[j]? = some v → cur.getD j undef = v := fun j v hv => by simp [Array.getD_eq_getD_getElem?, hv]
  have h1 := run_cells (P := P) (w := w) (b := b) m off 0 (fun j => cur.getD (off + j) undef) #[] (fun j hj => by
    obtain ⟨c, v, _, hv, _⟩ := hcell j hj
    rw [Nat.zero_add, gd _ _ hv]
    simp [World.cell?, hg, hv])
  refine ⟨.agg ((List.range m).map fun j => cur.getD (off + j) undef).toArray, ?_, .row _ _ (by simp [hm']) (fun x hx => ?_) (fun j c x h12 h13 => ?_)⟩
  · simp only [execOp, ho, h6, Instr.loadAt, Instr.sureAddr, loadVar, Sem.run_bind, Sem.run_pure, Result.andThen_ok, ht, hz, loadCells, if_true, h1]
    simp
  · simp only [List.mem_map, List.mem_range] at hx
    obtain ⟨j, hj, rfl⟩ := hx
    obtain ⟨c, v, _, hv, _, h10⟩ := hcell j hj
    rw [gd _ _ hv]; exact h10
  · have hj : j < m := by rw [← hm']; exact (List.getElem?_eq_some_iff.1 h12).1
    obtain ⟨c', v, hc', hv, h9, _⟩ := hcell j hj
    rw [h12] at hc'; cases hc'
    rw [List.getElem?_map, List.getElem?_range hj] at h13
    simp only [Option.map_some, Option.some.injEq] at h13
    rw [gd _ _ hv] at h13
    subst h13
    exact h9
/-- Cells of a row's elements are written. -/
theorem store_arr {t T : TypeId} {x y : Operand} {k g off n m : Nat} {rows rows' : List (List AV)} {r : List AV} (hg : o.guard = none) (hd : o.dst = none) (ho : o.op = .store t x y) (hz : ∀ w, (sizeOf t).run P w = .ok m w) {a : Act} {w : World} {ρ : Rho} (hsim : SimR N M0 w0 st ρ a w) (h6 : ∃ y b, ρ k g = some y ∧ blk y = some b ∧ a.eval x = .pointer (some ⟨b, off, none⟩)) (hob : st.ob k = some (g, .arr T n rows))
    (hr : Cells (Mt M0 ρ st.ob) w r (a.eval y).cells.toList) (hn : r.length = m) (hoff : off + m ≤ rows.length * n) (hlen : rows'.length = rows.length) (hun : ∀ q ∈ rows', q.length = n) (hfl : rows'.flatten = rows.flatten.take off ++ r ++ rows.flatten.drop (off + m))
    (h : Al P N M0 w0 ops Q l (st.put k g (.arr T n rows'))) : wpList P ops (QL N M0 w0 Q) (o :: l) a w := by
  obtain ⟨u, b, h4, h5, h6⟩ := h6
  obtain ⟨u', h7, hO⟩ := hsim.obj k g _ hob
  rw [h4] at h7; cases h7
  obtain ⟨cap, cur, vals, rfl, hgb, hnc, hcm, hsz, htk, hrw, hl, hlb⟩ := arr_at hO h5
  have hcn : rows.length * n ≤ cap * n := Nat.mul_le_mul_right _ hnc
  have hvl : vals.flatten.length = rows.length * n := by rw [← htk]; simp; omega
  have hrn : ∀ q ∈ rows, q.length = n := fun q hq => by
    obtain ⟨i, hi, rfl⟩ := List.getElem_of_mem hq
    have hi' : i < vals.length := by rw [hrw.1]; exact hi
    exact (hrw.2 i _ vals[i] (by simp [hi]) (by simp [hi'])).1
  have hfr := flat_len hrn
  have hul : (a.eval y).cells.toList.length = m := by rw [hr.1, hn]
  obtain ⟨w', vs', k1, k2, k3, k4, k5, k6, k7, k8, k9⟩ := run_storeRow (P := P) b off T (a.eval y).cells.toList 0 w cur hgb (by omega) (fun v hv => by
    obtain ⟨j, hj, rfl⟩ := List.getElem_of_mem hv
    have hj' : j < r.length := by rw [← hr.1]; exact hj
    exact (hr.2 j r[j] _ (by simp [hj']) (by rw [List.getElem?_eq_getElem hj])).2)
  have hs2 := hsim.mod (w' := w') hob h4 ⟨k7, k8, k9⟩ (by omega) (fun c hc' hne => k5 c (fun e => hne (by simp [blk, e]))) (o' := .arr T n rows') (fun M' hK _ => by
    obtain ⟨vals', hv1, hv2⟩ := rows_of_flat (rows := rows') (L := vs'.toList.take (rows.length * n)) (M := M') (w := w') hun (by rw [hlen]; simp; omega) (fun q c z hq hz' => by
      rw [hfl] at hq
      rw [List.getElem?_take] at hz'
      split at hz'
      · rename_i hqn
        have hz2 : vs'[q]? = some z := by simpa using hz'
        rw [k4 q, Nat.add_zero] at hz2
        by_cases e1 : q < off
        · rw [List.append_assoc, List.getElem?_append_left (by rw [List.length_take]; omega), List.getElem?_take, if_pos e1] at hq
          rw [if_neg (by omega)] at hz2
          obtain ⟨z', k10, k11, k12⟩ := rows_flat hrw hq
          rw [← htk, List.getElem?_take, if_pos hqn] at k10
          have : cur[q]? = some z' := by simpa using k10
          rw [hz2] at this; cases this
          exact ⟨k11.mono hK, k12⟩
        · by_cases e2 : q < off + m
          · rw [List.getElem?_append_left (by rw [List.length_append, List.length_take]; omega), List.getElem?_append_right (by rw [List.length_take]; omega)] at hq
            simp only [List.length_take, Nat.min_eq_left (show off ≤ rows.flatten.length by omega)] at hq
            rw [if_pos (by omega)] at hz2
            obtain ⟨k11, k12⟩ := hr.2 _ c z hq hz2
            exact ⟨k11.mono hK, k12⟩
          · rw [List.getElem?_append_right (by rw [List.length_append, List.length_take]; omega)] at hq
            simp only [List.length_append, List.length_take, Nat.min_eq_left (show off ≤ rows.flatten.length by omega), List.getElem?_drop] at hq
            rw [show off + m + (q - (off + r.length)) = q from by omega] at hq
            rw [if_neg (by omega)] at hz2
            obtain ⟨z', k10, k11, k12⟩ := rows_flat hrw hq
            rw [← htk, List.getElem?_take, if_pos hqn] at k10
            have : cur[q]? = some z' := by simpa using k10
            rw [hz2] at this; cases this
            exact ⟨k11.mono hK, k12⟩
      · cases hz')
    exact ⟨vals', ⟨by rw [hv1, hlen]; simp; omega, .inr ⟨b, cap, vs', by rw [hlen], Nat.zero_le _, k2, by rw [hlen]; exact hnc, hcm, by rw [k3]; exact hsz, by rw [hv1, hlen]⟩⟩, hv2, ⟨_, cap, by rw [hlen]⟩, by rw [hlen]; exact hl, fun c hc => by simp only [blk, Option.some.injEq] at hc; subst hc; exact hlb⟩)
  refine wpList_plain hg fun K hK => wp_upon ?_
  have e : (execOp a.eval o).run P w = .ok .skip w' := by
    simp only [execOp, ho, h6, Instr.storeAt, Instr.sureAddr, storeVar, Sem.run_bind, Sem.run_pure, Result.andThen_ok, hz]
    rw [if_neg (by have : (a.eval y).cells.size = m := by rw [← hul]; simp
                   simp; omega)]
    simp only [Sem.run_bind, Sem.run_pure, Result.andThen_ok, k1]
  rw [e]
  refine hK _ _ (h.out _ _ ⟨ρ, ?_⟩)
  rw [hd]
  exact hs2
theorem Al_storeArr {t T : TypeId} {x y : Operand} {k g off n m : Nat} {rows : List (List AV)} {c : AV} (rows' : List (List AV)) (ho : o.op = .store t x y) (hg : o.guard = none) (hd : o.dst = none) (hc : conB o = true) (hz : ∀ w, (sizeOf t).run P w = .ok m w) (hx : st.ev x = .bx k g off) (hob : st.ob k = some (g, .arr T n rows)) (hy : st.ev y = .d c) (hcb : cellB c = true) (hn : (cellsA c).length = m) (hoff : off + m ≤ rows.length * n) (hlen : rows'.length = rows.length) (hun : ∀ q ∈ rows', q.length = n) (hfl : rows'.flatten = rows.flatten.take off ++ cellsA c ++ rows.flatten.drop (off + m))
    (h : Al P N M0 w0 ops Q l (st.put k g (.arr T n rows'))) : Al P N M0 w0 ops Q (o :: l) st := by
  refine ⟨?_⟩
  rintro a w ⟨ρ, hsim⟩
  have hmem : x ∈ opsOf o ∧ y ∈ opsOf o := by simp [opsOf, ho, Op.operands]
  have hmx := hsim.ev hc x hmem.1
  have hmy := hsim.ev hc y hmem.2
  rw [hx] at hmx
  rw [hy] at hmy
  exact store_arr hg hd ho hz hsim hmx hob (Rep.cells hmy hcb) hn hoff hlen hun hfl h
/-- A cell that holds nil is a row of the call's own. -/
theorem le_owncell {k k2 g j : Nat} {T e : TypeId} {cs : List SV} {n : Nat} (hkk : Nat.beq k k2 = false) (hob : st.ob k = some (g, .box T cs)) (hj : cs[j]? = some (.d (.v (.slice none 0 0)))) {X : Act → World → Prop} (h : ∀ g2, ∀ a w, Sim N M0 w0 ((st.put k2 g2 (.arr e n [])).put k g (.box T (cs.set j (.ow k2 g2)))) a w → X a w) : ∀ a w, Sim N M0 w0 st a w → X a w := by
  rintro a w ⟨ρ, hs⟩
  obtain ⟨g', ρ', h1, h2⟩ := hs.upd (w' := w) k2 ⟨rfl, rfl, rfl⟩ (Nat.le_refl _) (fun _ _ _ => rfl) (x' := .slice none 0 0) (o' := .arr e n []) (fun b hb => by simp [blk] at hb)
    (fun M' ρ' _ _ => ⟨[], World.ownsRow_nil w _ e n, ⟨rfl, fun i r v h => by simp at h⟩, ⟨none, 0, rfl⟩, by simp, fun b hb => by simp [blk] at hb⟩)
  have hob' : (st.put k2 g' (.arr e n [])).ob k = some (g, .box T cs) := by
    show (bif Nat.beq k k2 then _ else st.ob k) = _
    rw [hkk]; exact hob
  obtain ⟨y, hy, b, vs, rfl, hB, hh, hsz, hcs⟩ := h1.obj k g _ hob'
  refine h g' a w ⟨ρ', h1.mod hob' hy ⟨rfl, rfl, rfl⟩ (Nat.le_refl _) (fun _ _ _ => rfl) (fun M' hK _ => ⟨b, vs, rfl, hB, hh, by rw [List.length_set]; exact hsz, fun i q z hq hz => ?_⟩)⟩
  rw [List.getElem?_set] at hq
  by_cases e : j = i
  · subst e
    rw [if_pos rfl] at hq
    split at hq
    · simp only [Option.some.injEq] at hq
      subst hq
      have := (hcs j _ z hj hz).1
      obtain rfl := (rep_v this).1
      exact ⟨⟨h2, rfl⟩, rfl⟩
    · cases hq
  · rw [if_neg e] at hq
    exact ⟨(hcs i q z hq hz).1.mono hK, (hcs i q z hq hz).2⟩
theorem Aw_owncell {c : Code} {k k2 g : Nat} (j : Nat) {T e : TypeId} {cs : List SV} {n : Nat} (hkk : Nat.beq k k2 = false) (hob : st.ob k = some (g, .box T cs)) (hj : cs[j]? = some (.d (.v (.slice none 0 0)))) (h : ∀ g2, Aw P N M0 w0 c Q ((st.put k2 g2 (.arr e n [])).put k g (.box T (cs.set j (.ow k2 g2))))) : Aw P N M0 w0 c Q st := ⟨le_owncell hkk hob hj fun g2 => (h g2).out⟩
/-- A row that lies in a variable's cell, told as data from here on. -/
theorem le_frzc {k g kb gb : Nat} (j : Nat) {T Tb : TypeId} {n : Nat} {rows : List (List AV)} {cs : List SV} (hnl : ∀ (a : Act) (w : World) (ρ : Rho), SimR N M0 w0 st ρ a w → ∀ v b, ρ k g = some v → blk v = some b → ¬ w0.l b) (is : List Nat) (hob : st.ob k = some (g, .arr T n rows)) (hkk : Nat.beq kb k = false) (hobb : st.ob kb = some (gb, .box Tb cs)) (hj : cs[j]? = some (.ow k g)) (his : AllOw st k g is) : Le N M0 w0 st ((st.frz k is (.sl n rows)).put kb gb (.box Tb (cs.set j (.d (.sl n rows))))) := by
  rintro a w ⟨ρ, hs⟩
  obtain ⟨h1, v, hv, hr⟩ := hs.frz (hnl a w ρ hs) is hob his
  have hob' : (st.frz k is (.sl n rows)).ob kb = some (gb, .box Tb cs) := by
    show (bif Nat.beq kb k then none else st.ob kb) = _
    rw [hkk]; exact hobb
  obtain ⟨y, hy, b, vs, rfl, hB, hh, hsz, hcs⟩ := h1.obj kb gb _ hob'
  refine ⟨ρ, h1.mod hob' hy ⟨rfl, rfl, rfl⟩ (Nat.le_refl _) (fun _ _ _ => rfl) (fun M' hK _ => ⟨b, vs, rfl, hB, hh, by rw [List.length_set]; exact hsz, fun i q z hq hz => ?_⟩)⟩
  rw [List.getElem?_set] at hq
  by_cases e : j = i
  · subst e
    rw [if_pos rfl] at hq
    split at hq
    · simp only [Option.some.injEq] at hq
      subst hq
      have h5 := hcs j _ z hj hz
      have h6 := h5.1.1
      rw [hv] at h6; cases h6
      exact ⟨hr.mono hK, h5.2⟩
    · cases hq
  · rw [if_neg e] at hq
    exact ⟨(hcs i q z hq hz).1.mono hK, (hcs i q z hq hz).2⟩
theorem Aw_frzc {c : Code} {k g kb gb : Nat} (j : Nat) {T Tb : TypeId} {n : Nat} {rows : List (List AV)} {cs : List SV} (hnl : ∀ b, ¬ w0.l b) (is : List Nat) (hob : st.ob k = some (g, .arr T n rows)) (hkk : Nat.beq kb k = false) (hobb : st.ob kb = some (gb, .box Tb cs)) (hj : cs[j]? = some (.ow k g)) (his : AllOw st k g is) (h : Aw P N M0 w0 c Q ((st.frz k is (.sl n rows)).put kb gb (.box Tb (cs.set j (.d (.sl n rows)))))) : Aw P N M0 w0 c Q st := Aw_le (le_frzc j (fun _ _ _ _ _ b _ _ => hnl b) is hob hkk hobb hj his) h
/-- What was lent is a variable, which stands under the key 1000: no other object lies there. -/
theorem lent_apart {k g : Nat} {T T1 : TypeId} {n : Nat} {rows : List (List AV)} {cs1 : List SV} (hlent : ∀ b, w0.l b → w0.p 1000 0 = some (.pointer (some ⟨b, 0, none⟩))) (hob : st.ob k = some (g, .arr T n rows)) (hk : Nat.beq k 1000 = false) (h1000 : st.ob 1000 = some (0, .box T1 cs1)) (a : Act) (w : World) (ρ : Rho) (hs : SimR N M0 w0 st ρ a w) : ∀ v b, ρ k g = some v → blk v = some b → ¬ w0.l b := fun v b hv hb hl => by
  have h1 := hs.pin _ _ _ (hlent b hl)
  have := hs.apart k g _ 1000 0 _ v _ b hob h1000 hv h1 hb rfl
  subst this
  simp at hk
theorem Aw_frzcM {c : Code} {k g kb gb : Nat} (j : Nat) {T Tb T1 : TypeId} {n : Nat} {rows : List (List AV)} {cs cs1 : List SV} (hlent : ∀ b, w0.l b → w0.p 1000 0 = some (.pointer (some ⟨b, 0, none⟩))) (is : List Nat) (hob : st.ob k = some (g, .arr T n rows)) (hk : Nat.beq k 1000 = false) (h1000 : st.ob 1000 = some (0, .box T1 cs1)) (hkk : Nat.beq kb k = false) (hobb : st.ob kb = some (gb, .box Tb cs)) (hj : cs[j]? = some (.ow k g)) (his : AllOw st k g is) (h : Aw P N M0 w0 c Q ((st.frz k is (.sl n rows)).put kb gb (.box Tb (cs.set j (.d (.sl n rows)))))) : Aw P N M0 w0 c Q st := Aw_le (le_frzc j (lent_apart hlent hob hk h1000) is hob hkk hobb hj his) h
theorem Aw_frzM {c : Code} {k g : Nat} {T T1 : TypeId} {n : Nat} {rows : List (List AV)} {cs1 : List SV} (hlent : ∀ b, w0.l b → w0.p 1000 0 = some (.pointer (some ⟨b, 0, none⟩))) (is : List Nat) (hob : st.ob k = some (g, .arr T n rows)) (hk : Nat.beq k 1000 = false) (h1000 : st.ob 1000 = some (0, .box T1 cs1)) (his : AllOw st k g is) (h : Aw P N M0 w0 c Q (st.frz k is (.sl n rows))) : Aw P N M0 w0 c Q st := Aw_le (fun a w ⟨ρ, hs⟩ => ⟨ρ, (hs.frz (lent_apart hlent hob hk h1000 a w ρ hs) is hob his).1⟩) h
/-- Results: a variable of many cells, and a slot. -/
def ResN1 (r n r' : Nat) (st : ASt) (res : AV) : Prop := ∃ k g off T cs rw a, st.sl r = .bx k g off ∧ st.ob k = some (g, .box T cs) ∧ (cs.drop off).take n = rw.map .d ∧ rw.length = n ∧ Sub (st.sl r') (.d a) ∧ res = .tup [.row rw, a]
theorem Reads.cN1 {fn : Func} {r t n r' : Nat} (h : fn.results = #[.cell r t, .tmp r']) (ht : ∀ w, (isAgg t).run P w = .ok true w) (hz : ∀ w, (sizeOf t).run P w = .ok n w) : Reads P fn (ResN1 r n r') := ⟨fun {N M0 w0 st ρ a w res} hs ⟨k, g, off, T, cs, rw', b, h1, h2, h3, h4, h5, h6⟩ => by
  have hm := hs.slot r
  rw [h1] at hm
  obtain ⟨y, b', k1, k2, k3⟩ := hm
  obtain ⟨y', k4, hO⟩ := hs.obj k g _ h2
  rw [k1] at k4; cases k4
  obtain ⟨v, k5, k6⟩ := loadvarN ht hz hO k2 h3 h4
  refine ⟨.tuple #[v, a.tmps.getD r' undef], ?_, ?_⟩
  · have ha : (asAddr (a.tmps.getD r undef)).run P w = .ok ⟨b', off, none⟩ w := by rw [k3]; rfl
    rw [Array.getD_eq_getD_getElem?] at ha
    simp [results, h, Sem.run_bind, ha, k5, Array.getD_eq_getD_getElem?]
  · rw [h6]
    exact .tup _ [_, _] rfl fun j c x h7 h8 => by
      match j with
      | 0 => simp at h7 h8; subst h7 h8; exact k6.mono (Known.sub fun c hc => .inl hc)
      | 1 => simp at h7 h8; subst h7 h8; rw [← Array.getD_eq_getD_getElem?]; exact hs.res h5
      | j + 2 => simp at h7⟩
/-- A variable, of which less is told. -/
def SubL : List SV → List SV → Prop
  | [], [] => True
  | s :: r, s' :: r' => Sub s s' ∧ SubL r r'
  | _, _ => False
theorem SubL.get : ∀ {cs cs' : List SV}, SubL cs cs' → cs.length = cs'.length ∧ ∀ (j : Nat) (s' : SV), cs'[j]? = some s' → ∃ s, cs[j]? = some s ∧ Sub s s'
  | [], [], _ => ⟨rfl, fun j s' h => by simp at h⟩
  | s :: r, s' :: r', h => by
    obtain ⟨h1, h2⟩ := SubL.get h.2
    refine ⟨by simp [h1], fun j t ht => ?_⟩
    cases j with
    | zero => simp at ht; subst ht; exact ⟨s, rfl, h.1⟩
    | succ j => obtain ⟨d, h3, h4⟩ := h2 j t (by simpa using ht); exact ⟨d, by simpa using h3, h4⟩
  | [], _ :: _, h => h.elim
  | _ :: _, [], h => h.elim
theorem le_box {k g : Nat} {T : TypeId} {cs : List SV} (cs' : List SV) (hob : st.ob k = some (g, .box T cs)) (h : SubL cs cs') : Le N M0 w0 st (st.put k g (.box T cs')) := by
  rintro a w ⟨ρ, hs⟩
  obtain ⟨h1, h2⟩ := h.get
  obtain ⟨y, hy, b, vs, rfl, hB, hh, hsz, hcs⟩ := hs.obj k g _ hob
  refine ⟨ρ, hs.mod hob hy ⟨rfl, rfl, rfl⟩ (Nat.le_refl _) (fun _ _ _ => rfl) (fun M' hK _ => ⟨b, vs, rfl, hB, hh, by omega, fun j s' z hj hz => ?_⟩)⟩
  obtain ⟨s, h3, h4⟩ := h2 j s' hj
  exact ⟨h4 _ _ _ _ ((hcs j s z h3 hz).1.mono hK), (hcs j s z h3 hz).2⟩
theorem Aw_boxle {c : Code} {k g : Nat} {T : TypeId} {cs : List SV} (cs' : List SV) (hob : st.ob k = some (g, .box T cs)) (h : SubL cs cs') (hc : Aw P N M0 w0 c Q (st.put k g (.box T cs'))) : Aw P N M0 w0 c Q st := Aw_le (le_box cs' hob h) hc
end
end Go.Proofs.Ytmbaeloiepjakaa.A

set_option linter.unusedSimpArgs false
set_option linter.unusedVariables false
namespace Go.Proofs.Ytmbaeloiepjakaa.A
open Go Go.RowKit
/-- A region under way: what stands where some of its operations are done. -/
structure Ad (P : Program) (N : Nat) (M0 : Nat → Prop) (w0 : Base) (ops : Array Oper) (Q : Exit → ASt → Prop) (fuel : Nat) (listed : Array Bool) (st : ASt) : Prop where
  out : ∀ a w, Sim N M0 w0 st a w → wpAny P .any ops (QL N M0 w0 Q) fuel listed a w
/-- An operation whose value hangs on no memory. -/
def PuI (P : Program) (st : ASt) (o : Oper) (s : SV) : Prop :=
  ∀ (M : Nat → Prop) (ρ : Rho) (w : World) (a : Act), (∀ x ∈ opsOf o, SRep M w ρ (st.ev x) (a.eval x)) → ∃ v, SRep M w ρ s v ∧ ∀ w2, (execOp a.eval o).run P w2 = .ok (.value v) w2
/-- What a panic leaves says nothing of the slot d. -/
def PanicFree (Q : Exit → ASt → Prop) (d : Nat) : Prop := ∀ ch st, Q (.panic ch) st → Q (.panic ch) (st.set d .any)
section
variable {P : Program} {N : Nat} {M0 : Nat → Prop} {w0 : Base} {ops : Array Oper} {Q : Exit → ASt → Prop} {o : Oper} {l : List Oper} {st : ASt}
theorem SimR.unput {ρ : Rho} {a : Act} {w : World} {d : Nat} {v : Value} (h : SimR N M0 w0 st ρ (a.put (some d) v) w) : SimR N M0 w0 (st.set d .any) ρ a w where
  size := by have := h.size; simpa [Act.put] using this
  defers := h.defers
  slot i := by
    show SRep _ _ _ (bif Nat.beq i d then .any else st.sl i) _
    cases hb : Nat.beq i d with
    | true => trivial
    | false =>
      have := h.slot i
      rw [getD_put, if_neg (fun e => by simp only [Option.some.injEq] at e; rw [e.1] at hb; simp at hb)] at this
      exact this
  obj := h.obj
  apart := h.apart
  gens := h.gens
  base := h.base
  ext := h.ext
  pin := h.pin
theorem Aw_drawn {id : Nat} {l : List Oper} (hm : P.follows .mixedOrders = true) (h : Ad P N M0 w0 l.toArray Q l.length (List.replicate l.length false).toArray st) : Aw P N M0 w0 (.region id l.toArray true) Q st := ⟨fun a w ⟨ρ, hs⟩ => wp_region_any hm (by
  have := h.out a { w with drawn := w.drawn + 1 } ⟨ρ, hs.grow (Ev.Ext.refl w).tick⟩
  simpa using this)⟩
/-- An operation that hangs on no memory is taken ahead. -/
theorem Ad_take {fuel : Nat} {listed : Array Bool} (i : Nat) {d : Nat} {s : SV} (hi : ops[i]? = some o) (hP : PuI P st o s) (hg : o.guard = none) (hd : o.dst = some d) (hN : d < N) (hc : conB o = true) (hns : Region.noSelect ops = true) (hf : Region.free .any ops listed i = true) (hr : (Region.ready .any ops listed).contains i = true) (hQ : PanicFree Q d)
    (h : Ad P N M0 w0 ops Q fuel (listed.setIfInBounds i true) (st.set d s)) : Ad P N M0 w0 ops Q (fuel + 1) listed st := ⟨fun a w ⟨ρ, hs⟩ => by
  obtain ⟨v, hv, hrun⟩ := hP _ ρ w a (hs.ev hc)
  refine wpAny_take (v := v) hi hns hf hr (fun c a2 w2 ⟨st2, h1, ρ2, h2⟩ => ⟨_, hQ c st2 h1, ρ2, SimR.unput (by rw [hd] at h2; exact h2)⟩) (.inl ⟨by simp [Region.wanted, hg], hrun⟩) ?_
  refine h.out _ _ ⟨ρ, ?_⟩
  rw [hd]
  exact hs.set hN hv⟩
theorem wp_turn {a : Act} {w : World} {K K' : Act → World → Prop} {R R' : Exit → Act → World → Prop} (h : ∀ a w, K a w → K' a w) (hR : ∀ c a w, R (.panic c) a w → R' (.panic c) a w) (hL : LetsOut R → LetsOut R') (hh : o.wp P a w K R) : o.wp P a w K' R' := by
  unfold Oper.wp at *
  generalize (execOp a.eval o).run P w = r at *
  cases r with
  | ok n w' =>
    cases n <;> simp only [Oper.upon] at hh ⊢
    case value => exact h _ _ hh
    case skip => exact h _ _ hh
    case defer => exact h _ _ hh
    case enter => exact Calls.mono hh (fun e w'' he => by
      cases e with
      | returned v => exact h _ _ he
      | panicked c => exact hR _ _ _ he
      | outgrown => exact hL he)
    case row => exact Go.Rows.mono hh (fun _ _ he => h _ _ he)
  | halt x w' =>
    cases x <;> simp only [Oper.upon] at hh ⊢
    case panic => exact hR _ _ _ hh
theorem wpOp_of_list {i : Nat} {a : Act} {w : World} {R R' : Exit → Act → World → Prop} {K : Act → World → Prop} (hi : ops[i]? = some o) (h : wpList P ops R [o] a w) (hK : ∀ a w, R .normal a w → K a w) (hR : ∀ c a w, R (.panic c) a w → R' (.panic c) a w) (hL : LetsOut R → LetsOut R') : wpOp P ops R' i K a w := by
  unfold wpList at h
  unfold wpOp
  simp only [hi]
  split
  · rename_i hw
    rw [if_pos hw] at h
    rcases h with h | ⟨h1, h2⟩
    · exact .inl (wp_turn (fun a w h => hK a w h) hR hL h)
    · exact .inr ⟨h1, hL h2⟩
  · rename_i hw
    rw [if_neg hw] at h
    exact hK _ _ h
/-- One operation of a region, and what stands behind it. -/
def AdNext (P : Program) (N : Nat) (M0 : Nat → Prop) (w0 : Base) (ops : Array Oper) (Q : Exit → ASt → Prop) (fuel : Nat) (listed : Array Bool) (st : ASt) : List Nat → Prop
  | [] => True
  | i :: r => (∃ o, ops[i]? = some o ∧ Al P N M0 w0 ops (Then (Ad P N M0 w0 ops Q fuel (listed.setIfInBounds i true)) Q) [o] st) ∧ AdNext P N M0 w0 ops Q fuel listed st r
theorem AdNext.get {fuel : Nat} {listed : Array Bool} : ∀ {l : List Nat}, AdNext P N M0 w0 ops Q fuel listed st l → ∀ i ∈ l, ∃ o, ops[i]? = some o ∧ Al P N M0 w0 ops (Then (Ad P N M0 w0 ops Q fuel (listed.setIfInBounds i true)) Q) [o] st
  | [], _, i, h => by cases h
  | j :: r, h, i, hi => by
    rcases List.mem_cons.1 hi with rfl | hi
    · exact h.1
    · exact h.2.get i hi
theorem Ad_all {fuel : Nat} {listed : Array Bool} (rs : List Nat) (hr : Region.ready .any ops listed = rs) (hne : rs ≠ []) (h : AdNext P N M0 w0 ops Q fuel listed st rs) : Ad P N M0 w0 ops Q (fuel + 1) listed st := ⟨fun a w hs => wpAny_all hr hne fun i hi => by
  obtain ⟨o, ho, hal⟩ := h.get i hi
  refine wpOp_of_list ho (hal.out a w hs) (fun a' w' ⟨st', h1, h2⟩ => h1.out a' w' h2) (fun c a' w' h => h) (fun ⟨a', w', h⟩ => ⟨a', w', h⟩)⟩
theorem Ad_one {fuel : Nat} {listed : Array Bool} (i : Nat) (hi : ops[i]? = some o) (hr : Region.ready .any ops listed = [i]) (h : Al P N M0 w0 ops (Then (Ad P N M0 w0 ops Q fuel (listed.setIfInBounds i true)) Q) [o] st) : Ad P N M0 w0 ops Q (fuel + 1) listed st := Ad_all [i] hr (by simp) ⟨⟨o, hi, h⟩, trivial⟩
theorem Ad_two {fuel : Nat} {listed : Array Bool} (i j : Nat) {o' : Oper} (hi : ops[i]? = some o) (hj : ops[j]? = some o') (hr : Region.ready .any ops listed = [i, j]) (h : Al P N M0 w0 ops (Then (Ad P N M0 w0 ops Q fuel (listed.setIfInBounds i true)) Q) [o] st) (h' : Al P N M0 w0 ops (Then (Ad P N M0 w0 ops Q fuel (listed.setIfInBounds j true)) Q) [o'] st) : Ad P N M0 w0 ops Q (fuel + 1) listed st := Ad_all [i, j] hr (by simp) ⟨⟨o, hi, h⟩, ⟨o', hj, h'⟩, trivial⟩
theorem Ad_done {fuel : Nat} {listed : Array Bool} (hr : Region.ready .any ops listed = []) (h : Q .normal st) : Ad P N M0 w0 ops Q fuel listed st := ⟨fun a w hs => wpAny_done hr ⟨st, h, hs⟩ fuel⟩
theorem Ad_le {fuel : Nat} {listed : Array Bool} {st' : ASt} (hl : Le N M0 w0 st st') (h : Ad P N M0 w0 ops Q fuel listed st') : Ad P N M0 w0 ops Q fuel listed st := ⟨fun a w hs => h.out a w (hl a w hs)⟩
/-! ### what hangs on no memory -/
theorem PuI_move {x : Operand} {s : SV} (ho : o.op = .move x ∨ o.op = .assign x) (hs : st.ev x = s) : PuI P st o s := fun M ρ w a h2 => by
  refine ⟨a.eval x, ?_, fun w2 => ?_⟩
  · have := h2 x (by rcases ho with ho | ho <;> simp [opsOf, ho, Op.operands])
    rwa [hs] at this
  · rcases ho with ho | ho <;> simp [execOp, ho, Sem.run]
theorem PuI_nilb {x : Operand} {k g off : Nat} (ho : o.op = .nilCheck x) (hx : st.ev x = .bx k g off) : PuI P st o (.bx k g off) := fun M ρ w a h2 => by
  have hm := h2 x (by simp [opsOf, ho, Op.operands])
  rw [hx] at hm
  obtain ⟨y, b, h4, h5, h6⟩ := hm
  refine ⟨.pointer (some ⟨b, off, none⟩), ⟨y, b, h4, h5, rfl⟩, fun w2 => ?_⟩
  simp [execOp, ho, h6, Sem.run]
theorem PuI_fieldb {t : TypeId} {x : Operand} {i : Nat} {fs : Array Field} {fd : Field} {n k g off : Nat} (fo : Nat) (ho : o.op = .fieldAddr t x i) (ht : P.underlying t = some (.struct fs)) (hf : fs[i]? = some fd) (hoff : fd.offset = fo) (hz : ∀ w, (sizeOf fd.type).run P w = .ok (n + 1) w) (hx : st.ev x = .bx k g off) : PuI P st o (.bx k g (off + fo)) := fun M ρ w a h2 => by
  have hm := h2 x (by simp [opsOf, ho, Op.operands])
  rw [hx] at hm
  obtain ⟨y, b, h4, h5, h6⟩ := hm
  refine ⟨.pointer (some ⟨b, off + fo, none⟩), ⟨y, b, h4, h5, rfl⟩, fun w2 => ?_⟩
  subst hoff
  simp only [execOp, ho, h6, Instr.fieldAt, Sem.run_bind, run_underlying ht, Result.andThen_ok, hf, Instr.sureAddr, Sem.run_pure, fieldPlace, hz]
  rw [if_neg (by omega)]
  simp [add_addr, Sem.run]
theorem PuI_extract {x : Operand} {i : Nat} {aa : List AV} {b : AV} (ho : o.op = .extract x i) (hx : st.ev x = .d (.tup aa)) (hb : aa[i]? = some b) : PuI P st o (.d b) := fun M ρ w a h2 => by
  have hm := h2 x (by simp [opsOf, ho, Op.operands])
  rw [hx] at hm
  generalize hy : a.eval x = y at hm
  cases hm with
  | tup cs vs hl hr =>
    have hj : i < vs.length := by rw [hl]; exact (List.getElem?_eq_some_iff.1 hb).1
    exact ⟨vs[i], hr i b _ hb (by simp [hj]), fun w2 => by simp [execOp, ho, hy, Instr.extract, hj, Sem.run]⟩
theorem fill_row : ∀ (vals : List Value) (k : Nat) (cells : Array Value), k + vals.length ≤ cells.size → (∀ v ∈ vals, v.oneCell' = true) →
    ∃ us, Instr.fill (fun i => some (i * 1, 1)) cells ((vals.zipIdx k).map fun p => (p.2, p.1)) = some us ∧ us.size = cells.size ∧ ∀ j, us[j]? = if k ≤ j ∧ j < k + vals.length then vals[j - k]? else cells[j]?
  | [], k, cells, _, _ => ⟨cells, rfl, rfl, fun j => by rw [if_neg (by simp only [List.length_nil]; omega)]⟩
  | v :: vals, k, cells, hl, h1 => by
    simp only [List.length_cons] at hl
    have hv := one_cells (h1 v (by simp))
    obtain ⟨us, k1, k2, k3⟩ := fill_row vals (k + 1) (cells.setIfInBounds (k * 1 + 0) v) (by simp; omega) (fun x hx => h1 x (by simp [hx]))
    refine ⟨us, ?_, by rw [k2]; simp, fun j => ?_⟩
    · rw [List.zipIdx_cons, List.map_cons, Instr.fill, hv]
      simp only
      rw [if_neg (by simp; omega)]
      have e : Array.foldl (fun cs x => match x with | (c, j) => cs.setIfInBounds (k * 1 + j) c) cells (#[v].zipIdx) = cells.setIfInBounds (k * 1 + 0) v := by
        simp [Array.zipIdx]
      rw [e]; exact k1
    · have e00 : k * 1 + 0 = k := by omega
      rw [e00] at k3
      rw [k3 j]
      by_cases hj : j = k
      · subst hj
        rw [if_neg (by omega), if_pos (by simp)]
        simp [Array.getElem?_setIfInBounds, show j < cells.size by omega]
      · have e0 : (cells.setIfInBounds k v)[j]? = cells[j]? := by rw [Array.getElem?_setIfInBounds, if_neg (fun e => hj e.symm)]
        rw [e0]
        by_cases hin : k + 1 ≤ j ∧ j < k + 1 + vals.length
        · rw [if_pos hin, if_pos (by simp only [List.length_cons]; omega), show j - k = (j - (k + 1)) + 1 from by omega]
          simp
        · rw [if_neg hin, if_neg (by simp only [List.length_cons]; omega)]
/-- A slice of what a closure may hold: pointers to variables of the call's own. -/
theorem Pu_buildSliceP {t e : TypeId} {len : Nat} {ps : Array (Nat × Operand)} {xs : List Operand} (cs : List CV) {zs : Value} (ho : o.op = .buildSlice t len ps) (hps : ps.toList = (xs.zipIdx 0).map fun p => (p.2, p.1)) (ht : P.underlying t = some (.slice e)) (hs : ∀ w, (sizeOf e).run P w = .ok 1 w) (hz : ∀ w, (zeroValue e).run P w = .ok zs w) (hzs : zs.cells.size = 1) (hl0 : 0 < len) (hmax : len ≤ 16777216) (hlen : xs.length = len) (hone : ∀ c ∈ cs, scell c.sv = true) (ha : HoldOk st xs cs) : Pu P st o (.psl cs) := Pu_of fun B M ρ w a hM h2 _ => by
  have hmem : ∀ x ∈ xs, x ∈ opsOf o := fun x hx => by
    have : ∃ i, (i, x) ∈ ps.toList := by
      obtain ⟨i, hi, rfl⟩ := List.getElem_of_mem hx
      refine ⟨i, ?_⟩
      rw [hps]
      exact List.mem_map.2 ⟨(xs[i], i), List.mem_iff_getElem.2 ⟨i, by simpa using hi, by simp⟩, rfl⟩
    obtain ⟨i, hi⟩ := this
    simp only [opsOf, ho, Op.operands]
    have : x ∈ ps.toList.map (·.2) := List.mem_map.2 ⟨(i, x), hi, rfl⟩
    simpa using this
  have h3 := ha.rep (a := a) fun x hx => h2 x (hmem x hx)
  have h1 : ∀ v ∈ xs.map a.eval, v.oneCell' = true := fun v hv => by
    obtain ⟨j, hj, e⟩ := List.getElem_of_mem hv
    have hj' : j < cs.length := by rw [← h3.1]; exact hj
    have hc := h3.2 j cs[j] v (by simp [hj']) (by rw [List.getElem?_eq_getElem hj, e])
    exact SRep.one (CV.rep.2 hc) (hone _ (List.getElem_mem hj'))
  obtain ⟨us, k1, k2, k3⟩ := fill_row (xs.map a.eval) 0 ((Array.range (len * 1)).map (zs.cells[· % zs.cells.size]!)) (by simp; omega) h1
  have hcl : cs.length = len := by rw [← h3.1]; simpa using hlen
  have hE : Ev.Ext w (w.alloc (.cells us e)) := (Below.refl _ _).alloc (Nat.le_refl _) _
  refine ⟨.slice (some ⟨w.heap.size, 0, none⟩) len len, w.alloc (.cells us e), ?_, hE, w.heap.size, 0, len, by rw [hcl], by omega, by rw [hcl]; simp only [maxI]; omega, fun j c hc => ?_⟩
  · have e1 : (ps.map fun (p : Nat × Operand) => (p.1, a.eval p.2)).toList = ((xs.map a.eval).zipIdx 0).map fun p => (p.2, p.1) := by
      rw [Array.toList_map, hps, List.zipIdx_map]
      simp
    simp only [execOp, ho, Instr.buildSlice, Sem.run_bind, run_underlying ht, Result.andThen_ok, hs]
    rw [if_neg (by show ¬ _ > 16777216; omega)]
    simp only [Sem.run_bind, Sem.run_pure, Result.andThen_ok]
    rw [if_neg (by omega)]
    simp only [Sem.run_bind, Sem.run_pure, Result.andThen_ok, hz]
    rw [e1]
    simp only [k1, Sem.run_pure, Sem.run_bind, Result.andThen_ok, newRow, newObj, Sem.run]
    rfl
  · have hj : j < xs.length := by
      have := (List.getElem?_eq_some_iff.1 hc).1
      omega
    have hx : (xs.map a.eval)[j]? = some (a.eval xs[j]) := by simp [hj]
    have hu : us[j]? = some (a.eval xs[j]) := by
      rw [k3 j, if_pos (by simp; omega), Nat.sub_zero, hx]
    have hr := h3.2 j c _ hc hx
    have hM' : ¬ M w.heap.size := fun h => by have := hM _ h; omega
    refine ⟨hM', a.eval xs[j], ?_, h1 _ (List.mem_of_getElem? hx), hr.mono (Known.ext hE)⟩
    rw [Nat.zero_add, cell_new]; exact hu
end
end Go.Proofs.Ytmbaeloiepjakaa.A
