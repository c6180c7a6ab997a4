/- What the proofs need in common, laid together (2 of 5): no condition. -/
import Derived.Test.YtojehmkkbdedaaaGreatS1
import Derived.Test.YtojehmkkbdedaaaGreatProg
import Derived.Orders
import Derived.Lib.AppendZerosOnto
import Derived.Lib.Overlaps
import Derived.Lib.SliceRun
import Derived.Maps.OwnSet
import Derived.Maps.RangeWalk
import Derived.WalkKit
import Derived.WalkSpells
import Derived.WalkLawsBesides
import Derived.BigQuiet
import Derived.Deep.QuietTactic
import Derived.Lib.Hide
import GoSem.Core.Utf8
import Derived.Laws.RangeAny
import Derived.Laws.Strings
import Derived.Lib.OthersKept
set_option linter.unusedSimpArgs false
set_option linter.unusedVariables false
set_option linter.constructorNameAsVariable false

section
namespace Go.Proofs.YtojehmkkbdedaaaGreat.A
open Go Go.RowKit
abbrev Nm := Nat → Nat → Nat × Nat
abbrev pull (r : Nm) (ρ : Rho) : Rho := fun k g => ρ (r k g).1 (r k g).2
def CV.ren (r : Nm) : CV → CV
  | .d a => .d a
  | .bx k g off => .bx (r k g).1 (r k g).2 off
  | .ow k g => .ow (r k g).1 (r k g).2
  | .eq v => .eq v
def SV.ren (r : Nm) : SV → SV
  | .any => .any
  | .d a => .d a
  | .bx k g off => .bx (r k g).1 (r k g).2 off
  | .ow k g => .ow (r k g).1 (r k g).2
  | .ifb p s => .ifb p (s.ren r)
  | .fnb f a b => .fnb f (a.map (CV.ren r)) (b.map (CV.ren r))
  | .tp l => .tp (l.map (CV.ren r))
  | .ag l => .ag (l.map (CV.ren r))
  | .psl l => .psl (l.map (CV.ren r))
  | .pc c => .pc (c.ren r)
  | .ows k g n lo hi => .ows (r k g).1 (r k g).2 n lo hi
  | .slc n rows => .slc n rows
  | .eq v => .eq v
def OP.ren (r : Nm) (I : OP) : OP := ⟨I.F, fun M w ρ h => I.I M w (pull r ρ) h, fun k hk h => I.mono k hk h, fun hr h => I.rho (fun k g x hx => hr _ _ _ hx) h, fun h => I.lt h⟩
def AO.ren (r : Nm) : AO → AO
  | .box T cs => .box T (cs.map (SV.ren r))
  | .arr T n rows => .arr T n rows
  | .op I => .op (I.ren r)
section
variable {M : Nat → Prop} {w : World} {ρ : Rho} {r : Nm}
theorem CRep.ren {c : CV} {x : Value} : CRep M w ρ (c.ren r) x ↔ CRep M w (pull r ρ) c x := by cases c <;> rfl
theorem CReps.ren {l : List CV} {vs : List Value} : CReps M w ρ (l.map (CV.ren r)) vs ↔ CReps M w (pull r ρ) l vs := by
  unfold CReps
  rw [List.length_map]
  refine and_congr_right fun _ => ⟨fun h j c x h1 h2 => CRep.ren.1 (h j _ x (by rw [List.getElem?_map, h1]; rfl) h2), fun h j c x h1 h2 => ?_⟩
  rw [List.getElem?_map] at h1
  obtain ⟨c', h3, rfl⟩ := Option.map_eq_some_iff.1 h1
  exact CRep.ren.2 (h j c' x h3 h2)
theorem SRep.ren {s : SV} {x : Value} : SRep M w ρ (s.ren r) x ↔ SRep M w (pull r ρ) s x := by
  induction s with
  | any => rfl
  | d a => rfl
  | bx k g off => rfl
  | ow k g => rfl
  | ifb p s ih => exact and_congr (imp_congr_right fun _ => ih) Iff.rfl
  | fnb f a b => exact exists_congr fun us => exists_congr fun vs => and_congr_right fun _ => and_congr CReps.ren CReps.ren
  | tp l => exact exists_congr fun vs => and_congr_right fun _ => CReps.ren
  | ag l => exact exists_congr fun vs => and_congr_right fun _ => and_congr_right fun _ => CReps.ren
  | psl l =>
    unfold SV.ren SRep
    rw [List.length_map]
    refine exists_congr fun b => exists_congr fun o => exists_congr fun cap => and_congr_right fun _ => and_congr_right fun _ => and_congr_right fun _ => ⟨fun h j c h1 => ?_, fun h j c h1 => ?_⟩
    · obtain ⟨h2, v, h3, h4, h5⟩ := h j (c.ren r) (by rw [List.getElem?_map, h1]; rfl)
      exact ⟨h2, v, h3, h4, CRep.ren.1 h5⟩
    · rw [List.getElem?_map] at h1
      obtain ⟨c', h6, rfl⟩ := Option.map_eq_some_iff.1 h1
      obtain ⟨h2, v, h3, h4, h5⟩ := h j c' h6
      exact ⟨h2, v, h3, h4, CRep.ren.2 h5⟩
  | pc c => exact exists_congr fun b => exists_congr fun o => exists_congr fun v => and_congr_right fun _ => and_congr_right fun _ => and_congr_right fun _ => and_congr_right fun _ => CRep.ren
  | ows k g n lo hi => rfl
  | slc n rows => rfl
  | eq v => rfl
theorem ORep.ren {B : Base} {h : Value} {o : AO} : ORep B M w ρ h (o.ren r) ↔ ORep B M w (pull r ρ) h o := by
  cases o with
  | box T cs =>
    unfold AO.ren ORep
    refine exists_congr fun b => exists_congr fun vs => and_congr_right fun _ => and_congr_right fun _ => and_congr_right fun _ => ?_
    rw [List.length_map]
    refine and_congr_right fun _ => ⟨fun h j s x h1 h2 => ?_, fun h j s x h1 h2 => ?_⟩
    · obtain ⟨h3, h4⟩ := h j (s.ren r) x (by rw [List.getElem?_map, h1]; rfl) h2
      exact ⟨SRep.ren.1 h3, h4⟩
    · rw [List.getElem?_map] at h1
      obtain ⟨s', h6, rfl⟩ := Option.map_eq_some_iff.1 h1
      obtain ⟨h3, h4⟩ := h j s' x h6 h2
      exact ⟨SRep.ren.2 h3, h4⟩
  | arr T n rows => rfl
  | op I => rfl
theorem fpO.ren {o : AO} {h : Value} {b : Nat} : fpO (o.ren r) h b ↔ fpO o h b := by cases o <;> rfl
theorem ORep.base {B B' : Base} {h : Value} {o : AO} (ho : ORep B M w ρ h o) (hb : ∀ b, fpO o h b → B'.w.heap.size ≤ b ∨ B'.l b) : ORep B' M w ρ h o := by
  cases o with
  | box T cs =>
    obtain ⟨b, vs, rfl, h1, h2⟩ := ho
    exact ⟨b, vs, rfl, hb b rfl, h2⟩
  | arr T n rows =>
    obtain ⟨vals, h1, h2, h3, h4, _⟩ := ho
    exact ⟨vals, h1, h2, h3, h4, hb⟩
  | op I => exact ⟨hb, ho.2⟩
end
abbrev Obs := List (Nat × AO)
def Objs (B : Base) (M : Nat → Prop) (w : World) (ρ : Rho) (obs : Obs) : Prop := ∀ p ∈ obs, ∃ h, ρ p.1 0 = some h ∧ ORep B M w ρ h p.2
/-- The blocks that objects stand in. -/
def fps (ρ : Rho) (obs : Obs) (b : Nat) : Prop := ∃ p ∈ obs, ∃ h, ρ p.1 0 = some h ∧ fpO p.2 h b
def Apart (ρ : Rho) (obs : Obs) : Prop := ∀ p ∈ obs, ∀ q ∈ obs, ∀ h h' b, ρ p.1 0 = some h → ρ q.1 0 = some h' → fpO p.2 h b → fpO q.2 h' b → p.1 = q.1
def ARep (M : Nat → Prop) (w : World) (ρ : Rho) (ss : List SV) (vs : List Value) : Prop := vs.length = ss.length ∧ ∀ (j : Nat) (s : SV) (x : Value), ss[j]? = some s → vs[j]? = some x → SRep M w ρ s x
def GOut (M : Nat → Prop) (w : World) (ρ : Rho) (obs : Obs) (w' : World) (obs' : Obs) (res : SV) (v : Value) : Prop :=
  ∃ ρ' : Rho, Bnd ρ' ∧ (∀ p ∈ obs, ρ' p.1 0 = ρ p.1 0) ∧ Objs ⟨w, fps ρ obs, [], fun _ _ => none⟩ (fun b => M b ∨ fps ρ' obs' b) w' ρ' obs' ∧ Apart ρ' obs' ∧ SRep (fun b => M b ∨ fps ρ' obs' b) w' ρ' res v
def GPost (M : Nat → Prop) (w : World) (ρ : Rho) (obs : Obs) (w' : World) (e : Ending) : Option (Obs × SV) → Prop
  | none => ∃ pv, e = .panicked [{ v := .iface pv (.agg #[]), recovered := false }]
  | some (obs', res) => ∃ v, e = .returned v ∧ GOut M w ρ obs w' obs' res v
/-- A call that is lent objects: what it leaves, and what it yields; none: it panics. -/
def GCall (P : Program) (f : FuncId) (ins : List SV) (obs : Obs) (R : Option (Obs × SV)) : Prop :=
  (∀ (vs : Array Value) (w : World), (callFunc f vs).run P w = .ok (.enter f vs) w) ∧
  ∀ (M : Nat → Prop) (w : World) (ρ : Rho) (vs : List Value), (∀ b, M b → b < w.heap.size) → Bnd ρ → ARep M w ρ ins vs → Objs ⟨w, fun _ => True, [], fun _ _ => none⟩ M w ρ obs → (∀ b, fps ρ obs b → M b) → Apart ρ obs →
    Calls P f vs.toArray w fun e w' => ExtL ⟨w, fps ρ obs, [], fun _ _ => none⟩ w' ∧ GPost M w ρ obs w' e R
/-- Where a contract's objects stand with the caller. -/
abbrev Pm := List (Nat × Nat × Nat)
def lookR : Pm → Nat → Option (Nat × Nat)
  | [], _ => none
  | (c, k, g) :: r, i => bif Nat.beq i c then some (k, g) else lookR r i
def nmOf (pm : Pm) : Nm := fun k g => bif Nat.beq g 0 then (match lookR pm k with | some x => x | none => (k, g)) else (k, g)
/-- New ones get the generation G. -/
def nm2 (pm : Pm) (nw : List (Nat × Nat)) (G : Nat) : Nm := fun k g => bif Nat.beq g 0 then (match lookR pm k with | some x => x | none => (match lookR (nw.map fun p => (p.1, p.2, G)) k with | some x => x | none => (k, G + 1 + g))) else (k, G + 1 + g)
def ASt.drops (st : ASt) : Pm → ASt
  | [] => st
  | (_, k, _) :: r => (st.drop k).drops r
def ASt.puts (st : ASt) : List (Nat × Nat × AO) → ASt
  | [] => st
  | (k, g, o) :: r => (st.put k g o).puts r
def PreO (st : ASt) (r : Nm) : Obs → Prop
  | [] => True
  | p :: l => st.ob (r p.1 0).1 = some ((r p.1 0).2, p.2.ren r) ∧ PreO st r l
theorem PreO.get {st : ASt} {r : Nm} : ∀ {obs : Obs}, PreO st r obs → ∀ p ∈ obs, st.ob (r p.1 0).1 = some ((r p.1 0).2, p.2.ren r)
  | [], _, p, hp => by cases hp
  | q :: l, h, p, hp => by
    rcases List.mem_cons.1 hp with rfl | hp
    · exact h.1
    · exact h.2.get p hp
def ArgsS (st : ASt) : List Operand → List SV → Prop
  | [], [] => True
  | x :: xs, s :: ss => Sub (st.ev x) s ∧ ArgsS st xs ss
  | _, _ => False
theorem ArgsS.rep {st : ASt} {M : Nat → Prop} {w : World} {ρ : Rho} {a : Act} : ∀ {xs : List Operand} {ss : List SV}, ArgsS st xs ss → (∀ x ∈ xs, SRep M w ρ (st.ev x) (a.eval x)) → ARep M w ρ ss (xs.map a.eval)
  | [], [], _, _ => ⟨rfl, fun j a x h => by simp at h⟩
  | x :: xs, b :: aa, h, hs => by
    have ih := ArgsS.rep (a := a) h.2 fun y hy => hs y (by simp [hy])
    refine ⟨by simp [ih.1], fun j c y h1 h2 => ?_⟩
    cases j with
    | zero =>
      simp at h1 h2
      subst h1 h2
      exact h.1 _ _ _ _ (hs x (by simp))
    | succ j => exact ih.2 j c y (by simpa using h1) (by simpa using h2)
  | [], _ :: _, h, _ => h.elim
  | _ :: _, [], h, _ => h.elim
def nodupB : List Nat → Bool
  | [] => true
  | x :: r => r.all (fun y => !Nat.beq x y) && nodupB r
theorem nodupB.inj {α : Type} {f : α → Nat} : ∀ {l : List α}, nodupB (l.map f) = true → ∀ p ∈ l, ∀ q ∈ l, f p = f q → p = q
  | [], _, p, hp, _, _, _ => by cases hp
  | x :: l, h, p, hp, q, hq, e => by
    simp only [List.map_cons, nodupB, Bool.and_eq_true, List.all_eq_true] at h
    have hne : ∀ y ∈ l, f x ≠ f y := fun y hy e' => by
      have := h.1 (f y) (List.mem_map.2 ⟨y, hy, rfl⟩)
      rw [e'] at this
      simp at this
    rcases List.mem_cons.1 hp with e1 | hp2
    · rcases List.mem_cons.1 hq with e2 | hq2
      · rw [e1, e2]
      · exact (hne q hq2 (by rw [← e1]; exact e)).elim
    · rcases List.mem_cons.1 hq with e2 | hq2
      · exact (hne p hp2 (by rw [← e2]; exact e.symm)).elim
      · exact nodupB.inj h.2 p hp2 q hq2 e
/-- What is asked of the names of a call. -/
def nmB (obs obs' : Obs) (pm : Pm) (nw : List (Nat × Nat)) : Bool :=
  (obs.all fun p => (lookR pm p.1).isSome) && nodupB (obs.map (·.1)) && nodupB (obs'.map (·.1)) && nodupB (pm.map (·.1)) && nodupB (pm.map (·.2.1)) && nodupB (nw.map (·.1)) && nodupB (nw.map (·.2)) &&
  (obs'.all fun p => (obs.any fun q => Nat.beq q.1 p.1) || (!(lookR pm p.1).isSome && (lookR (nw.map fun q => (q.1, q.2, 0)) p.1).isSome)) &&
  nodupB (obs'.map fun p => (nm2 pm nw 0 p.1 0).1) && (pm.all fun q => obs.any fun p => Nat.beq p.1 q.1)
theorem lookR_mem : ∀ {pm : Pm} {c : Nat} {x : Nat × Nat}, lookR pm c = some x → (c, x.1, x.2) ∈ pm
  | [], _, _, h => by cases h
  | (c', k, g) :: r, c, x, h => by
    simp only [lookR] at h
    cases hb : Nat.beq c c' with
    | true =>
      rw [hb] at h
      simp only [cond_true, Option.some.injEq] at h
      obtain rfl := Nat.eq_of_beq_eq_true hb
      subst h
      simp
    | false =>
      rw [hb] at h
      exact List.mem_cons_of_mem _ (lookR_mem h)
theorem drops_ob {k g : Nat} {o : AO} : ∀ {pm : Pm} {st : ASt}, (st.drops pm).ob k = some (g, o) → st.ob k = some (g, o) ∧ ∀ p ∈ pm, p.2.1 ≠ k
  | [], _, h => ⟨h, fun p hp => by cases hp⟩
  | (c, k', g') :: r, st, h => by
    obtain ⟨h1, h2⟩ := drops_ob (pm := r) h
    have h3 : (bif Nat.beq k k' then none else st.ob k) = some (g, o) := h1
    cases hb : Nat.beq k k' with
    | true => rw [hb] at h3; cases h3
    | false =>
      rw [hb] at h3
      refine ⟨h3, fun p hp e => ?_⟩
      rcases List.mem_cons.1 hp with rfl | hp
      · simp only at e; subst e; simp at hb
      · exact h2 p hp e
theorem puts_ob {k g : Nat} {o : AO} : ∀ {l : List (Nat × Nat × AO)} {st : ASt}, (st.puts l).ob k = some (g, o) → (k, g, o) ∈ l ∨ st.ob k = some (g, o)
  | [], _, h => .inr h
  | (k', g', o') :: r, st, h => by
    rcases puts_ob (l := r) h with h1 | h1
    · exact .inl (List.mem_cons_of_mem _ h1)
    · have h3 : (bif Nat.beq k k' then some (g', o') else st.ob k) = some (g, o) := h1
      cases hb : Nat.beq k k' with
      | true =>
        rw [hb] at h3
        simp only [cond_true, Option.some.injEq, Prod.mk.injEq] at h3
        obtain rfl := Nat.eq_of_beq_eq_true hb
        obtain ⟨rfl, rfl⟩ := h3
        exact .inl (by simp)
      | false => rw [hb] at h3; exact .inr h3
theorem drops_sl {i : Nat} : ∀ (pm : Pm) (st : ASt), (st.drops pm).sl i = st.sl i
  | [], _ => rfl
  | (_, k, _) :: r, st => drops_sl r (st.drop k)
theorem puts_sl {i : Nat} : ∀ (l : List (Nat × Nat × AO)) (st : ASt), (st.puts l).sl i = st.sl i
  | [], _ => rfl
  | (k, g, o) :: r, st => puts_sl r (st.put k g o)
/-- The caller's state behind a call. -/
def ASt.aft (st : ASt) (pm : Pm) (obs' : Obs) (r : Nm) : ASt := (st.drops pm).puts (obs'.map fun p => ((r p.1 0).1, (r p.1 0).2, p.2.ren r))
/-- Who had the place k of the new ones. -/
def invN : List (Nat × Nat) → Nat → Option Nat
  | [], _ => none
  | (c, k) :: r, i => bif Nat.beq i k then some c else invN r i
theorem invN_of : ∀ {nw : List (Nat × Nat)} {c k : Nat}, nodupB (nw.map (·.2)) = true → (c, k) ∈ nw → invN nw k = some c
  | [], _, _, _, h => by cases h
  | (c', k') :: r, c, k, hd, h => by
    simp only [List.map_cons, nodupB, Bool.and_eq_true, List.all_eq_true] at hd
    simp only [invN]
    rcases List.mem_cons.1 h with e | h2
    · cases e; simp
    · have hne : Nat.beq k k' = false := by
        cases hb : Nat.beq k k' with
        | false => rfl
        | true =>
          have := Nat.eq_of_beq_eq_true hb
          subst this
          have := hd.1 k (List.mem_map.2 ⟨(c, k), h2, rfl⟩)
          simp at this
      rw [hne]
      exact invN_of hd.2 h2
section
variable {P : Program} {N : Nat} {M0 : Nat → Prop} {w0 : Base} {ops : Array Oper} {Q : Exit → ASt → Prop} {o : Oper} {l : List Oper} {st : ASt}
theorem nmOf_bnd {ρ : Rho} {pm : Pm} (h : Bnd ρ) : Bnd (pull (nmOf pm) ρ) := by
  obtain ⟨G, hG⟩ := h
  refine ⟨G + 1, fun k g hh => ?_⟩
  cases g with
  | zero => omega
  | succ g => have := hG k (g + 1) hh; omega
structure Lent (st : ASt) (ρ : Rho) (obs : Obs) (pm : Pm) : Prop where
  pre : PreO st (nmOf pm) obs
  all : ∀ p ∈ obs, (lookR pm p.1).isSome = true
theorem Lent.key {ρ : Rho} {obs : Obs} {pm : Pm} (h : Lent st ρ obs pm) {p : Nat × AO} (hp : p ∈ obs) : ∃ k g, nmOf pm p.1 0 = (k, g) ∧ (p.1, k, g) ∈ pm ∧ st.ob k = some (g, p.2.ren (nmOf pm)) := by
  have h1 := h.all p hp
  obtain ⟨⟨k, g⟩, hx⟩ := Option.isSome_iff_exists.1 h1
  have e : nmOf pm p.1 0 = (k, g) := by simp [nmOf, hx]
  refine ⟨k, g, e, lookR_mem hx, ?_⟩
  have := h.pre.get p hp
  rw [e] at this
  exact this
/-- What a contract asks, of a caller's state. -/
theorem SimR.lent {ρ : Rho} {a : Act} {w : World} (hs : SimR N M0 w0 st ρ a w) {obs : Obs} {pm : Pm} (hl : Lent st ρ obs pm) (hd1 : nodupB (pm.map (·.2.1)) = true) :
    Objs ⟨w, fun _ => True, [], fun _ _ => none⟩ (Mt M0 ρ st.ob) w (pull (nmOf pm) ρ) obs ∧ (∀ b, fps (pull (nmOf pm) ρ) obs b → Mt M0 ρ st.ob b) ∧ Apart (pull (nmOf pm) ρ) obs ∧
    (∀ b, fps (pull (nmOf pm) ρ) obs b → w0.w.heap.size ≤ b ∨ w0.l b) ∧
    (∀ b k g o h, fps (pull (nmOf pm) ρ) obs b → st.ob k = some (g, o) → ρ k g = some h → fpO o h b → ∃ p ∈ pm, p.2.1 = k) := by
  refine ⟨fun p hp => ?_, fun b hb => ?_, fun p hp q hq h h' b h1 h2 h3 h4 => ?_, fun b hb => ?_, fun b k g o h hb h1 h2 h3 => ?_⟩
  · obtain ⟨k, g, e, _, hob⟩ := hl.key hp
    obtain ⟨h, h1, h2⟩ := hs.obj k g _ hob
    refine ⟨h, by show ρ (nmOf pm p.1 0).1 (nmOf pm p.1 0).2 = _; rw [e]; exact h1, (ORep.ren.1 h2).base fun b _ => .inr trivial⟩
  · obtain ⟨p, hp, h, h1, h2⟩ := hb
    obtain ⟨k, g, e, _, hob⟩ := hl.key hp
    have h1' : ρ (nmOf pm p.1 0).1 (nmOf pm p.1 0).2 = some h := h1
    rw [e] at h1'
    exact .inr ⟨k, g, _, h, hob, h1', fpO.ren.2 h2⟩
  · obtain ⟨k, g, e, hm, hob⟩ := hl.key hp
    obtain ⟨k', g', e', hm', hob'⟩ := hl.key hq
    have h1' : ρ (nmOf pm p.1 0).1 (nmOf pm p.1 0).2 = some h := h1
    have h2' : ρ (nmOf pm q.1 0).1 (nmOf pm q.1 0).2 = some h' := h2
    rw [e] at h1'
    rw [e'] at h2'
    have hk := hs.apart k g _ k' g' _ h h' b hob hob' h1' h2' (fpO.ren.2 h3) (fpO.ren.2 h4)
    have := nodupB.inj hd1 _ hm _ hm' hk
    simp only [Prod.mk.injEq] at this
    exact this.1
  · obtain ⟨p, hp, h, h1, h2⟩ := hb
    obtain ⟨k, g, e, _, hob⟩ := hl.key hp
    have h1' : ρ (nmOf pm p.1 0).1 (nmOf pm p.1 0).2 = some h := h1
    rw [e] at h1'
    obtain ⟨h', h3, h4⟩ := hs.obj k g _ hob
    rw [h1'] at h3; cases h3
    exact (h4.blk_lt (fpO.ren.2 h2)).1
  · obtain ⟨p, hp, h', h4, h5⟩ := hb
    obtain ⟨k', g', e, hm, hob⟩ := hl.key hp
    have h4' : ρ (nmOf pm p.1 0).1 (nmOf pm p.1 0).2 = some h' := h4
    rw [e] at h4'
    exact ⟨_, hm, hs.apart k' g' _ k g o h' h b hob h1 h4' h2 (fpO.ren.2 h5) h3⟩
/-- The caller's state behind a call. -/
theorem SimR.aft {ρ : Rho} {a : Act} {w w' : World} (hs : SimR N M0 w0 st ρ a w) {obs obs' : Obs} {pm : Pm} {nw : List (Nat × Nat)} {res : SV} {v : Value} (hl : PreO st (nmOf pm) obs) (hB : nmB obs obs' pm nw = true)
    (hx : ExtL ⟨w, fps (pull (nmOf pm) ρ) obs, [], fun _ _ => none⟩ w') (ho : GOut (Mt M0 ρ st.ob) w (pull (nmOf pm) ρ) obs w' obs' res v) :
    ∃ G ρ', SimR N M0 w0 (st.aft pm obs' (nm2 pm nw G)) ρ' a w' ∧ SRep (Mt M0 ρ' (st.aft pm obs' (nm2 pm nw G)).ob) w' ρ' (res.ren (nm2 pm nw G)) v := by
  simp only [nmB, Bool.and_eq_true] at hB
  obtain ⟨⟨⟨⟨⟨⟨⟨⟨⟨hb1, hb2⟩, hb3⟩, hb4⟩, hb5⟩, hb6⟩, hb7⟩, hb8⟩, hb9⟩, hb10⟩ := hB
  have hlent : Lent st ρ obs pm := ⟨hl, fun p hp => List.all_eq_true.1 hb1 p hp⟩
  obtain ⟨l1, l2, l3, l4, l5⟩ := hs.lent hlent hb5
  obtain ⟨ρ1, ⟨G1, hG1⟩, hpin, hobs, hap, hres⟩ := ho
  obtain ⟨G, hG⟩ := hs.gens
  let ρ' : Rho := fun k g => if g < G then ρ k g else if g = G then (match invN nw k with | some c => ρ1 c 0 | none => none) else ρ1 k (g - G - 1)
  have hρ : RhoLe ρ ρ' := fun k g x hx => by
    show (if g < G then ρ k g else _) = some x
    rw [if_pos (hG k g (by rw [hx]; simp))]; exact hx
  have hρG : ∀ k g, ρ' k (G + 1 + g) = ρ1 k g := fun k g => by
    show (if G + 1 + g < G then _ else if G + 1 + g = G then _ else ρ1 k (G + 1 + g - G - 1)) = _
    rw [if_neg (by omega), if_neg (by omega), show G + 1 + g - G - 1 = g from by omega]
  -- names of the contract, with the caller
  have hnw : ∀ c k, (c, k) ∈ nw → ρ' k G = ρ1 c 0 := fun c k h => by
    show (if G < G then _ else if G = G then _ else _) = _
    rw [if_neg (by omega), if_pos rfl, invN_of hb7 h]
  have hpm : ∀ c k g, lookR pm c = some (k, g) → (∃ p ∈ obs, p.1 = c) → ρ' k g = ρ1 c 0 := fun c k g h ⟨p, hp, e⟩ => by
    subst e
    obtain ⟨h', h1, _⟩ := l1 p hp
    rw [hpin p hp, h1]
    have : ρ (nmOf pm p.1 0).1 (nmOf pm p.1 0).2 = some h' := h1
    have e : nmOf pm p.1 0 = (k, g) := by simp [nmOf, h]
    rw [e] at this
    exact hρ _ _ _ this
  have hname : ∀ p ∈ obs', ρ' (nm2 pm nw G p.1 0).1 (nm2 pm nw G p.1 0).2 = ρ1 p.1 0 := fun p hp => by
    have h8 := List.all_eq_true.1 hb8 p hp
    simp only [Bool.or_eq_true, List.any_eq_true, Bool.and_eq_true, Bool.not_eq_true'] at h8
    rcases h8 with ⟨q, hq, hqp⟩ | ⟨h8, h9⟩
    · have e := Nat.eq_of_beq_eq_true hqp
      obtain ⟨⟨k, g⟩, hx⟩ := Option.isSome_iff_exists.1 (hlent.all q hq)
      rw [e] at hx
      have e2 : nm2 pm nw G p.1 0 = (k, g) := by simp [nm2, hx]
      rw [e2]
      exact hpm _ _ _ hx ⟨q, hq, e⟩
    · have h8' : lookR pm p.1 = none := by simpa using h8
      obtain ⟨⟨k, g⟩, hx⟩ := Option.isSome_iff_exists.1 h9
      obtain ⟨q, hq, e3⟩ := List.mem_map.1 (lookR_mem hx)
      simp only [Prod.mk.injEq] at e3
      obtain ⟨e3, e4, _⟩ := e3
      have hx2 : lookR (nw.map fun q => (q.1, q.2, G)) p.1 = some (k, G) := by
        have gen : ∀ (l : List (Nat × Nat)) (g1 g2 : Nat) (c k g : Nat), lookR (l.map fun q => (q.1, q.2, g1)) c = some (k, g) → lookR (l.map fun q => (q.1, q.2, g2)) c = some (k, g2) := by
          intro l g1 g2 c k g
          induction l with
          | nil => intro h; cases h
          | cons x r ih =>
            simp only [List.map_cons, lookR]
            cases Nat.beq c x.1 with
            | true => intro h; simp only [cond_true, Option.some.injEq, Prod.mk.injEq] at h ⊢; exact ⟨h.1, trivial⟩
            | false => exact ih
        exact gen nw 0 G p.1 k g hx
      have e2 : nm2 pm nw G p.1 0 = (k, G) := by simp [nm2, h8', hx2]
      rw [e2]
      exact hnw p.1 k (by rw [← e3, ← e4]; exact hq)
  -- every name of the contract means no less with the caller
  have hpull : RhoLe ρ1 (pull (nm2 pm nw G) ρ') := fun k g x hx => by
    show ρ' (nm2 pm nw G k g).1 (nm2 pm nw G k g).2 = some x
    cases g with
    | succ g =>
      have e : nm2 pm nw G k (g + 1) = (k, G + 1 + (g + 1)) := rfl
      rw [e, hρG]; exact hx
    | zero =>
      cases h1 : lookR pm k with
      | some y =>
        obtain ⟨k2, g2⟩ := y
        have e : nm2 pm nw G k 0 = (k2, g2) := by simp [nm2, h1]
        rw [e]
        have h10 := List.all_eq_true.1 hb10 _ (lookR_mem h1)
        obtain ⟨p, hp, hpk⟩ := List.any_eq_true.1 h10
        show ρ' k2 g2 = some x
        rw [hpm k k2 g2 h1 ⟨p, hp, Nat.eq_of_beq_eq_true hpk⟩]; exact hx
      | none =>
        cases h2 : lookR (nw.map fun q => (q.1, q.2, G)) k with
        | some y =>
          obtain ⟨k2, g2⟩ := y
          have e : nm2 pm nw G k 0 = (k2, g2) := by simp [nm2, h1, h2]
          obtain ⟨q, hq, e3⟩ := List.mem_map.1 (lookR_mem h2)
          simp only [Prod.mk.injEq] at e3
          obtain ⟨e3, e4, e5⟩ := e3
          rw [e, ← e5]
          show ρ' k2 G = some x
          rw [hnw k k2 (by rw [← e3, ← e4]; exact hq)]; exact hx
        | none =>
          have e : nm2 pm nw G k 0 = (k, G + 1 + 0) := by simp [nm2, h1, h2]
          rw [e, hρG]; exact hx
  -- the objects behind the call
  have hob' : ∀ k g o2, (st.aft pm obs' (nm2 pm nw G)).ob k = some (g, o2) → (∃ p ∈ obs', nm2 pm nw G p.1 0 = (k, g) ∧ o2 = p.2.ren (nm2 pm nw G)) ∨ (st.ob k = some (g, o2) ∧ ∀ p ∈ pm, p.2.1 ≠ k) := fun k g o2 h => by
    rcases puts_ob h with h1 | h1
    · obtain ⟨p, hp, e⟩ := List.mem_map.1 h1
      simp only [Prod.mk.injEq] at e
      exact .inl ⟨p, hp, Prod.ext e.1 e.2.1, e.2.2.symm⟩
    · exact .inr (drops_ob h1)
  have hnew : ∀ p ∈ obs', ∀ k g, nm2 pm nw G p.1 0 = (k, g) → ∃ h, ρ' k g = some h ∧ ρ1 p.1 0 = some h ∧ ORep ⟨w, fps (pull (nmOf pm) ρ) obs, [], fun _ _ => none⟩ (fun b => Mt M0 ρ st.ob b ∨ fps ρ1 obs' b) w' ρ1 h p.2 := fun p hp k g e => by
    obtain ⟨h, h1, h2⟩ := hobs p hp
    have := hname p hp
    rw [e, h1] at this
    exact ⟨h, this, h1, h2⟩
  have hold : ∀ k g o2 h, st.ob k = some (g, o2) → (∀ p ∈ pm, p.2.1 ≠ k) → ρ k g = some h → ∀ b, fpO o2 h b → ¬ fps (pull (nmOf pm) ρ) obs b := fun k g o2 h h1 h2 h3 b h4 h5 => by
    obtain ⟨p, hp, e⟩ := l5 b k g o2 h h5 h1 h3 h4
    exact h2 p hp e
  have hρold : ∀ k g o2 h, st.ob k = some (g, o2) → ρ' k g = some h → ρ k g = some h := fun k g o2 h h1 h2 => by
    obtain ⟨h', h3, _⟩ := hs.obj k g o2 h1
    rw [hρ _ _ _ h3] at h2
    rw [h3, h2]
  have hMt : ∀ b, Mt M0 ρ' (st.aft pm obs' (nm2 pm nw G)).ob b → Mt M0 ρ st.ob b ∨ fps ρ1 obs' b := fun b hb => by
    rcases hb with hb | ⟨k, g, o2, h, h1, h2, h3⟩
    · exact .inl (.inl hb)
    · rcases hob' k g o2 h1 with ⟨p, hp, e, rfl⟩ | ⟨h4, _⟩
      · obtain ⟨h', k1, k2, _⟩ := hnew p hp k g e
        rw [h2] at k1; cases k1
        exact .inr ⟨p, hp, h, k2, fpO.ren.1 h3⟩
      · exact .inl (.inr ⟨k, g, o2, h, h4, hρold _ _ _ _ h4 h2, h3⟩)
  have hfn : ∀ b, fps ρ1 obs' b → w.heap.size ≤ b ∨ fps (pull (nmOf pm) ρ) obs b := fun b ⟨p, hp, h, h1, h2⟩ => by
    obtain ⟨h', h3, h4⟩ := hobs p hp
    rw [h1] at h3; cases h3
    exact (h4.blk_lt h2).1
  have hK : Known (Mt M0 ρ st.ob) (Mt M0 ρ' (st.aft pm obs' (nm2 pm nw G)).ob) w w' := fun b hb hm => by
    refine ⟨fun hm' => ?_, hx.block b hb fun h => hm (l2 b h)⟩
    rcases hMt b hm' with h | h
    · exact hm h
    · rcases hfn b h with h2 | h2
      · omega
      · exact hm (l2 b h2)
  have hKs : Known (fun b => Mt M0 ρ st.ob b ∨ fps ρ1 obs' b) (Mt M0 ρ' (st.aft pm obs' (nm2 pm nw G)).ob) w' w' := Known.sub hMt
  refine ⟨G, ρ', {
    size := hs.size
    defers := hs.defers
    slot := fun i => by
      have e : (st.aft pm obs' (nm2 pm nw G)).sl i = st.sl i := (puts_sl _ _).trans (drops_sl _ _)
      rw [e]
      exact ((hs.slot i).mono hK).rho hρ
    obj := fun k g o2 h => by
      rcases hob' k g o2 h with ⟨p, hp, e, rfl⟩ | ⟨h1, h2⟩
      · obtain ⟨h', k1, k2, k3⟩ := hnew p hp k g e
        refine ⟨h', k1, ORep.ren.2 (((k3.mono hKs fun _ _ => rfl).rho hpull).base fun b hb => ?_)⟩
        rcases (k3.blk_lt hb).1 with h3 | h3
        · exact .inl (Nat.le_trans hs.ext.size h3)
        · exact l4 b h3
      · obtain ⟨h', k1, k2⟩ := hs.obj k g o2 h1
        exact ⟨h', hρ _ _ _ k1, (k2.mono hK fun b hb => hx.block b (k2.blk_lt hb).2 (hold k g o2 h' h1 h2 k1 b hb)).rho hρ⟩
    apart := fun k g o1 k' g' o2 h h' b h1 h2 h3 h4 h5 h6 => by
      rcases hob' k g o1 h1 with ⟨p, hp, e, rfl⟩ | ⟨h1, h1n⟩
      · obtain ⟨y, k1, k2, k3⟩ := hnew p hp k g e
        rw [h3] at k1; cases k1
        rcases hob' k' g' o2 h2 with ⟨q, hq, e', rfl⟩ | ⟨h2, h2n⟩
        · obtain ⟨y, k1', k2', k3'⟩ := hnew q hq k' g' e'
          rw [h4] at k1'; cases k1'
          have hpq := hap p hp q hq h h' b k2 k2' (fpO.ren.1 h5) (fpO.ren.1 h6)
          rw [hpq, e'] at e
          simp only [Prod.mk.injEq] at e
          exact e.1.symm
        · exfalso
          have h4' := hρold _ _ _ _ h2 h4
          rcases (k3.blk_lt (fpO.ren.1 h5)).1 with h7 | h7
          · obtain ⟨y, h8, h9⟩ := hs.obj k' g' o2 h2
            rw [h4'] at h8; cases h8
            have := (h9.blk_lt h6).2
            have h7' : w.heap.size ≤ b := h7
            omega
          · exact hold k' g' o2 h' h2 h2n h4' b h6 h7
      · have h3' := hρold _ _ _ _ h1 h3
        rcases hob' k' g' o2 h2 with ⟨q, hq, e', rfl⟩ | ⟨h2, h2n⟩
        · exfalso
          obtain ⟨y, k1', k2', k3'⟩ := hnew q hq k' g' e'
          rw [h4] at k1'; cases k1'
          rcases (k3'.blk_lt (fpO.ren.1 h6)).1 with h7 | h7
          · obtain ⟨y, h8, h9⟩ := hs.obj k g o1 h1
            rw [h3'] at h8; cases h8
            have := (h9.blk_lt h5).2
            have h7' : w.heap.size ≤ b := h7
            omega
          · exact hold k g o1 h h1 h1n h3' b h5 h7
        · exact hs.apart k g o1 k' g' o2 h h' b h1 h2 h3' (hρold _ _ _ _ h2 h4) h5 h6
    gens := ⟨G + 1 + G1 + 1, fun k g hh => by
      by_cases h1 : g < G
      · omega
      · by_cases h2 : g = G
        · omega
        · have h3 : (if g < G then ρ k g else if g = G then (match invN nw k with | some c => ρ1 c 0 | none => none) else ρ1 k (g - G - 1)) ≠ none := hh
          rw [if_neg h1, if_neg h2] at h3
          have := hG1 _ _ h3
          omega⟩
    base := hs.base
    ext := by
      have h1 := hs.ext
      refine ⟨hx.os.trans h1.os, hx.tape.trans h1.tape, hx.output.trans h1.output, Nat.le_trans h1.size hx.size, fun b hb hlb => ?_⟩
      have e1 := hx.block b (Nat.lt_of_lt_of_le hb h1.size) fun h => by
        rcases l4 b h with h2 | h2
        · omega
        · exact hlb h2
      exact e1.trans (h1.block b hb hlb)
    pin := fun k g v hv => hρ _ _ _ (hs.pin k g v hv) }, SRep.ren.2 ((hres.mono hKs).rho hpull)⟩
end
end Go.Proofs.YtojehmkkbdedaaaGreat.A
namespace Go.Proofs.YtojehmkkbdedaaaGreat.A
open Go Go.RowKit
def CV.sv : CV → SV
  | .d a => .d a
  | .bx k g off => .bx k g off
  | .ow k g => .ow k g
  | .eq v => .eq v
theorem CV.rep {M : Nat → Prop} {w : World} {ρ : Rho} {c : CV} {x : Value} : SRep M w ρ c.sv x ↔ CRep M w ρ c x := by cases c <;> rfl
theorem CReps.arep {M : Nat → Prop} {w : World} {ρ : Rho} {l : List CV} {vs : List Value} (h : CReps M w ρ l vs) : ARep M w ρ (l.map CV.sv) vs := ⟨by rw [List.length_map]; exact h.1, fun j s x h1 h2 => by
  rw [List.getElem?_map] at h1
  obtain ⟨c, h3, rfl⟩ := Option.map_eq_some_iff.1 h1
  exact CV.rep.2 (h.2 j c x h3 h2)⟩
theorem ARep.append {M : Nat → Prop} {w : World} {ρ : Rho} {s t : List SV} {us vs : List Value} (h : ARep M w ρ s us) (k : ARep M w ρ t vs) : ARep M w ρ (s ++ t) (us ++ vs) := ⟨by simp [h.1, k.1], fun j a x h1 h2 => by
  rcases Nat.lt_or_ge j s.length with hj | hj
  · rw [List.getElem?_append_left hj] at h1
    rw [List.getElem?_append_left (by rw [h.1]; exact hj)] at h2
    exact h.2 j a x h1 h2
  · rw [List.getElem?_append_right hj] at h1
    rw [List.getElem?_append_right (by rw [h.1]; exact hj), h.1] at h2
    exact k.2 _ a x h1 h2⟩
theorem ARep.ren {M : Nat → Prop} {w : World} {ρ : Rho} {r : Nm} {s : List SV} {vs : List Value} (h : ARep M w ρ (s.map (SV.ren r)) vs) : ARep M w (pull r ρ) s vs := ⟨by have := h.1; rwa [List.length_map] at this, fun j a x h1 h2 => SRep.ren.1 (h.2 j _ x (by rw [List.getElem?_map, h1]; rfl) h2)⟩
section
variable {P : Program} {N : Nat} {M0 : Nat → Prop} {w0 : Base} {ops : Array Oper} {Q : Exit → ASt → Prop} {o : Oper} {l : List Oper} {st : ASt}
/-- What a call does, run. -/
theorem gcall_at {f : FuncId} {ins : List SV} {obs obs' : Obs} {res : SV} {pm : Pm} {nw : List (Nat × Nat)} {d : Nat} {a : Act} {w : World} {ρ : Rho} {vs : List Value} (hG : GCall P f ins obs (some (obs', res))) (hsim : SimR N M0 w0 st ρ a w) (hd : o.dst = some d) (hN : d < N) (hg : o.guard = none)
    (hpre : PreO st (nmOf pm) obs) (hB : nmB obs obs' pm nw = true) (hrun : (execOp a.eval o).run P w = .ok (.enter f vs.toArray) w) (hargs : ARep (Mt M0 ρ st.ob) w ρ (ins.map (SV.ren (nmOf pm))) vs)
    (h : ∀ G, Al P N M0 w0 ops Q l ((st.aft pm obs' (nm2 pm nw G)).set d (res.ren (nm2 pm nw G)))) : wpList P ops (QL N M0 w0 Q) (o :: l) a w := by
  have hB' := hB
  simp only [nmB, Bool.and_eq_true] at hB'
  obtain ⟨⟨⟨⟨⟨⟨⟨⟨⟨hb1, _⟩, _⟩, _⟩, hb5⟩, _⟩, _⟩, _⟩, _⟩, _⟩ := hB'
  obtain ⟨l1, l2, l3, l4, l5⟩ := hsim.lent ⟨hpre, fun p hp => List.all_eq_true.1 hb1 p hp⟩ hb5
  have hcall := hG.2 (Mt M0 ρ st.ob) w (pull (nmOf pm) ρ) vs hsim.mt_lt (nmOf_bnd hsim.gens) hargs.ren l1 l2 l3
  refine wpList_plain hg fun K hK => wp_upon ?_
  rw [hrun]
  refine hcall.mono fun e w' ⟨hx, v, he, ho⟩ => ⟨v, he, ?_⟩
  obtain ⟨G, ρ', hs', hr'⟩ := hsim.aft hpre hB hx ho
  refine hK _ _ ((h G).out _ _ ⟨ρ', ?_⟩)
  rw [hd]
  exact hs'.set hN hr'
/-- A call that is lent objects. -/
theorem Al_gcall {f : FuncId} {ins : List SV} {obs obs' : Obs} {res : SV} (pm : Pm) (nw : List (Nat × Nat)) {d : Nat} {xs : List Operand} {ts : Array TypeId} (hG : GCall P f ins obs (some (obs', res))) (ho : o.op = .call ⟨.value (.func f), xs.toArray, ts⟩) (hg : o.guard = none) (hd : o.dst = some d) (hN : d < N) (hc : conB o = true)
    (hpre : PreO st (nmOf pm) obs) (hB : nmB obs obs' pm nw = true) (ha : ArgsS st xs (ins.map (SV.ren (nmOf pm))))
    (h : ∀ G, Al P N M0 w0 ops Q l ((st.aft pm obs' (nm2 pm nw G)).set d (res.ren (nm2 pm nw G)))) : Al P N M0 w0 ops Q (o :: l) st := by
  refine ⟨?_⟩
  rintro a w ⟨ρ, hsim⟩
  have hev := fun y hy => hsim.ev hc y (mem_call ho y hy)
  refine gcall_at hG hsim hd hN hg hpre hB (vs := xs.map a.eval) ?_ (ha.rep fun x hx => hev x (by simpa using hx)) h
  simp only [execOp, ho, resolve, Act.eval, Deferred.ofValue, invoke, Sem.run_bind, Sem.run_pure, Result.andThen_ok]
  rw [hG.1]
  congr 2
  apply Array.ext'
  simp
/-- The same of a closure. -/
theorem Al_gcallv {f : FuncId} {first caps : List CV} {ins : List SV} {obs obs' : Obs} {res : SV} (pm : Pm) (nw : List (Nat × Nat)) {d : Nat} {y : Operand} {xs : List Operand} {ts : Array TypeId} (hG : GCall P f ins obs (some (obs', res))) (ho : o.op = .call ⟨.value y, xs.toArray, ts⟩) (hg : o.guard = none) (hd : o.dst = some d) (hN : d < N) (hc : conB o = true) (hy : st.ev y = .fnb f first caps)
    (hpre : PreO st (nmOf pm) obs) (hB : nmB obs obs' pm nw = true) (aa : List SV) (hins : ins.map (SV.ren (nmOf pm)) = first.map CV.sv ++ aa ++ caps.map CV.sv) (ha : ArgsS st xs aa)
    (h : ∀ G, Al P N M0 w0 ops Q l ((st.aft pm obs' (nm2 pm nw G)).set d (res.ren (nm2 pm nw G)))) : Al P N M0 w0 ops Q (o :: l) st := by
  refine ⟨?_⟩
  rintro a w ⟨ρ, hsim⟩
  have hev := fun y hy => hsim.ev hc y (mem_call ho y hy)
  have hm := hsim.ev hc y (by simp [opsOf, ho, Op.operands, Call.operands])
  rw [hy] at hm
  obtain ⟨us, vs, h1, h2, h3⟩ := hm
  refine gcall_at hG hsim hd hN hg hpre hB (vs := us ++ xs.map a.eval ++ vs) ?_ (by rw [hins]; exact (h2.arep.append (ha.rep fun x hx => hev x (by simpa using hx))).append h3.arep) h
  simp only [execOp, ho, resolve, h1, Deferred.ofValue, invoke, Sem.run_bind, Sem.run_pure, Result.andThen_ok]
  rw [hG.1]
  simp
end
def lookO1 (obs : Obs) : List (Nat × Nat × AO) := obs.map fun p => (p.1, 0, p.2)
def argSS : Nat → List SV → List (Nat × SV)
  | _, [] => []
  | i, s :: r => (i, s) :: argSS (i + 1) r
theorem argSS_get : ∀ (aa : List SV) (k i : Nat), lookS (argSS k aa) (k + i) = match aa[i]? with | some s => s | none => .any
  | [], k, i => rfl
  | s :: r, k, 0 => by
    show (bif Nat.beq (k + 0) k then s else _) = _
    have : Nat.beq (k + 0) k = true := by simp
    rw [this]; rfl
  | s :: r, k, i + 1 => by
    show (bif Nat.beq (k + (i + 1)) k then s else lookS (argSS (k + 1) r) (k + (i + 1))) = _
    have : Nat.beq (k + (i + 1)) k = false := by
      cases hb : Nat.beq (k + (i + 1)) k with
      | false => rfl
      | true => have := Nat.eq_of_beq_eq_true hb; omega
    rw [this]
    have := argSS_get r (k + 1) i
    rw [show k + 1 + i = k + (i + 1) from by omega] at this
    simpa using this
theorem lookO1_mem : ∀ {obs : Obs} {k g : Nat} {o : AO}, lookO (lookO1 obs) k = some (g, o) → g = 0 ∧ (k, o) ∈ obs
  | [], _, _, _, h => by cases h
  | (c, o') :: r, k, g, o, h => by
    have h1 : (bif Nat.beq k c then some (0, o') else lookO (lookO1 r) k) = some (g, o) := h
    cases hb : Nat.beq k c with
    | true =>
      rw [hb] at h1
      simp only [cond_true, Option.some.injEq, Prod.mk.injEq] at h1
      obtain rfl := Nat.eq_of_beq_eq_true hb
      obtain ⟨rfl, rfl⟩ := h1
      exact ⟨rfl, by simp⟩
    | false =>
      rw [hb] at h1
      obtain ⟨h2, h3⟩ := lookO1_mem h1
      exact ⟨h2, by simp [h3]⟩
def pins (ρ : Rho) (obs : Obs) : Rho := fun k g => bif Nat.beq g 0 && obs.any (fun p => Nat.beq p.1 k) then ρ k g else none
/-- How results of any kind are read. -/
structure ReadsS (P : Program) (fn : Func) (rs : ASt → SV → Prop) : Prop where
  out : ∀ {N : Nat} {M0 : Nat → Prop} {w0 : Base} {st : ASt} {ρ : Rho} {a : Act} {w : World} {res : SV}, SimR N M0 w0 st ρ a w → rs st res → ∃ v, (results fn a.tmps).run P w = .ok v w ∧ SRep (Mt M0 ρ st.ob) w ρ res v
def Res0S (_ : ASt) (res : SV) : Prop := res = .d (.tup [])
def Res1S (r : Nat) (st : ASt) (res : SV) : Prop := Sub (st.sl r) res
def Res2S (r r' : Nat) (st : ASt) (res : SV) : Prop := ∃ a b, res = .tp [a, b] ∧ Sub (st.sl r) a.sv ∧ Sub (st.sl r') b.sv
theorem ReadsS.r0 {P : Program} {fn : Func} (h : fn.results = #[]) : ReadsS P fn Res0S := ⟨fun hs hr => ⟨_, results_none h _ _ _, by rw [show _ = SV.d (AV.tup []) from hr]; exact .tup [] [] rfl fun j a x h => by simp at h⟩⟩
theorem ReadsS.r1 {P : Program} {fn : Func} {r : Nat} (h : fn.results = #[.tmp r]) : ReadsS P fn (Res1S r) := ⟨fun hs hr => ⟨_, results_tmp h _ _ _, hr _ _ _ _ (hs.slot r)⟩⟩
theorem ReadsS.r2 {P : Program} {fn : Func} {r r' : Nat} (h : fn.results = #[.tmp r, .tmp r']) : ReadsS P fn (Res2S r r') := ⟨fun hs ⟨a, b, e, h1, h2⟩ => ⟨_, results_tmp2 h _ _ _, by
  rw [e]
  refine ⟨[_, _], rfl, rfl, fun j c x h3 h4 => ?_⟩
  match j with
  | 0 => simp only [List.getElem?_cons_zero, Option.some.injEq] at h3 h4; subst h3 h4; exact CV.rep.1 (h1 _ _ _ _ (hs.slot r))
  | 1 => simp only [List.getElem?_cons_succ, List.getElem?_cons_zero, Option.some.injEq] at h3 h4; subst h3 h4; exact CV.rep.1 (h2 _ _ _ _ (hs.slot r'))
  | j + 2 => simp at h3⟩⟩
/-- What stands at the end of a call that was lent objects; mp tells where the new ones stand. -/
def RtO (rs : ASt → SV → Prop) (obs : Obs) : Option (Obs × SV) → Exit → ASt → Prop
  | R, .ret, st => ∃ (obs' : Obs) (res : SV) (mp : Pm), R = some (obs', res) ∧ rs st (res.ren (nmOf mp)) ∧ PreO st (nmOf mp) obs' ∧ (nodupB (obs'.map fun p => (nmOf mp p.1 0).1) && nodupB (obs'.map (·.1)) && obs.all fun p => !(lookR mp p.1).isSome) = true
  | R, .normal, st => ∃ (obs' : Obs) (res : SV) (mp : Pm), R = some (obs', res) ∧ rs st (res.ren (nmOf mp)) ∧ PreO st (nmOf mp) obs' ∧ (nodupB (obs'.map fun p => (nmOf mp p.1 0).1) && nodupB (obs'.map (·.1)) && obs.all fun p => !(lookR mp p.1).isSome) = true
  | R, .panic ch, _ => R = none ∧ ∃ pv, ch = [{ v := .iface pv (.agg #[]), recovered := false }]
  | _, _, _ => False
theorem nodupB.keys {obs : Obs} (h : nodupB (obs.map (·.1)) = true) {k : Nat} {o : AO} (hm : (k, o) ∈ obs) : lookO (lookO1 obs) k = some (0, o) := by
  induction obs with
  | nil => cases hm
  | cons x r ih =>
    obtain ⟨c, o'⟩ := x
    have hinj := nodupB.inj (f := fun p : Nat × AO => p.1) (l := (c, o') :: r) h
    show (bif Nat.beq k c then some (0, o') else lookO (lookO1 r) k) = _
    cases hb : Nat.beq k c with
    | true =>
      have e := Nat.eq_of_beq_eq_true hb
      have := hinj (k, o) hm (c, o') (by simp) e
      simp only [Prod.mk.injEq] at this
      simp [this.2]
    | false =>
      simp only [cond_false]
      refine ih ?_ ?_
      · simp only [List.map_cons, nodupB, Bool.and_eq_true] at h; exact h.2
      · rcases List.mem_cons.1 hm with e | hm
        · simp only [Prod.mk.injEq] at e; rw [e.1] at hb; simp at hb
        · exact hm
theorem GCall_enter {P : Program} {f : FuncId} {fn : Func} {c : Code} {N : Nat} {ins : List SV} {obs : Obs} {R : Option (Obs × SV)} {rs : ASt → SV → Prop} (hcf : ∀ (vs : Array Value) (w : World), (callFunc f vs).run P w = .ok (.enter f vs) w) (hf : P.funcs[f]? = some fn) (hb : fn.body = some c) (hN : fn.ntmps = N) (hr : ReadsS P fn rs) (hn : ins.length ≤ N)
    (h : (∀ a, SV.d a ∈ ins → okA a) → (∀ k T cs a, (k, AO.box T cs) ∈ obs → SV.d a ∈ cs → okA a) → ∀ M0 w0, Aw P N M0 w0 c (RtO rs obs R) (mk (argSS 0 ins) (lookO1 obs))) : GCall P f ins obs R := ⟨hcf, fun M w ρ vs hM hbnd ha hobs hfps hap => by
  have hokI : ∀ a, SV.d a ∈ ins → okA a := fun a hm => by
    obtain ⟨j, hj, e⟩ := List.getElem_of_mem hm
    have hj' : j < vs.length := by rw [ha.1]; exact hj
    exact ⟨M, w, vs[j], ha.2 j (.d a) _ (by rw [List.getElem?_eq_getElem hj, e]) (List.getElem?_eq_getElem hj')⟩
  have hokB : ∀ k T cs a, (k, AO.box T cs) ∈ obs → SV.d a ∈ cs → okA a := fun k T cs a hm ha => by
    obtain ⟨y, _, b, xs, rfl, _, _, hsz, hcs⟩ := hobs _ hm
    obtain ⟨j, hj, e⟩ := List.getElem_of_mem ha
    have hj' : j < xs.size := by rw [hsz]; exact hj
    exact ⟨M, w, xs[j], (hcs j (.d a) _ (by rw [List.getElem?_eq_getElem hj, e]) (Array.getElem?_eq_getElem hj')).1⟩
  have hMt : ∀ b, Mt M ρ (mk (argSS 0 ins) (lookO1 obs)).ob b → M b := fun b hb => by
    rcases hb with hb | ⟨k, g, o, x, h1, h2, h3⟩
    · exact hb
    · obtain ⟨rfl, hm⟩ := lookO1_mem h1
      exact hfps b ⟨_, hm, x, h2, h3⟩
  have hsim : SimR N M ⟨w, fps ρ obs, [], pins ρ obs⟩ (mk (argSS 0 ins) (lookO1 obs)) ρ { tmps := vs.toArray ++ Array.replicate (N - vs.toArray.size) undef, defers := [] } w := {
    size := by have := ha.1; simp; omega
    defers := rfl
    slot := fun i => by
      have e := argSS_get ins 0 i
      rw [Nat.zero_add] at e
      show SRep _ _ _ (lookS (argSS 0 ins) i) _
      rw [e]
      cases h : ins[i]? with
      | none => trivial
      | some s =>
        have hi : i < vs.length := by rw [ha.1]; exact (List.getElem?_eq_some_iff.1 h).1
        show SRep _ _ _ s ((vs.toArray ++ Array.replicate (N - vs.toArray.size) undef).getD i undef)
        have e2 : (vs.toArray ++ Array.replicate (N - vs.toArray.size) undef).getD i undef = vs[i] := by
          simp [Array.getD_eq_getD_getElem?, Array.getElem?_append, hi]
        rw [e2]
        exact (ha.2 i s vs[i] h (by simp [hi])).mono (Known.sub hMt)
    obj := fun k g o h => by
      obtain ⟨rfl, hm⟩ := lookO1_mem h
      obtain ⟨y, h1, h2⟩ := hobs _ hm
      exact ⟨y, h1, (h2.mono (Known.sub hMt) fun _ _ => rfl).base fun b hb => .inr ⟨_, hm, y, h1, hb⟩⟩
    apart := fun k g o k' g' o' x x' b h h' h1 h2 h3 h4 => by
      obtain ⟨rfl, hm⟩ := lookO1_mem h
      obtain ⟨rfl, hm'⟩ := lookO1_mem h'
      exact hap _ hm _ hm' x x' b h1 h2 h3 h4
    gens := hbnd
    base := hM
    ext := ⟨rfl, rfl, rfl, Nat.le_refl _, fun _ _ _ => rfl⟩
    pin := fun k g v hv => by
      have : (bif Nat.beq g 0 && obs.any (fun p => Nat.beq p.1 k) then ρ k g else none) = some v := hv
      revert this
      cases (Nat.beq g 0 && obs.any (fun p => Nat.beq p.1 k)) with
      | true => exact id
      | false => intro h; cases h }
  refine calls_of_wp hf hb ?_
  rw [hN]
  refine wp_mono ((h hokI hokB M ⟨w, fps ρ obs, [], pins ρ obs⟩).out _ _ ⟨_, hsim⟩) fun e a' w' ⟨st, h1, ρF, h2⟩ => ?_
  have hext : ExtL ⟨w, fps ρ obs, [], fun _ _ => none⟩ w' := ⟨h2.ext.os, h2.ext.tape, h2.ext.output, h2.ext.size, h2.ext.block⟩
  have key : (∃ (obs' : Obs) (res : SV) (mp : Pm), R = some (obs', res) ∧ rs st (res.ren (nmOf mp)) ∧ PreO st (nmOf mp) obs' ∧ (nodupB (obs'.map fun p => (nmOf mp p.1 0).1) && nodupB (obs'.map (·.1)) && obs.all fun p => !(lookR mp p.1).isSome) = true) → a'.defers = [] ∧ ∃ v, (results fn a'.tmps).run P w' = .ok v w' ∧ (ExtL ⟨w, fps ρ obs, [], fun _ _ => none⟩ w' ∧ GPost M w ρ obs w' (.returned v) R) := fun ⟨obs', res, mp, hR, hrs, hpo, hchk⟩ => by
    subst hR
    simp only [Bool.and_eq_true] at hchk
    obtain ⟨⟨c1, c2⟩, c3⟩ := hchk
    obtain ⟨v, k1, k2⟩ := hr.out h2 hrs
    refine ⟨h2.defers, v, k1, hext, v, rfl, pull (nmOf mp) ρF, nmOf_bnd h2.gens, fun p hp => ?_, fun p hp => ?_, fun p hp q hq x x' b h1 h2' h3 h4 => ?_, ?_⟩
    · have h5 := List.all_eq_true.1 c3 p hp
      have h6 : lookR mp p.1 = none := by simpa using h5
      have e : nmOf mp p.1 0 = (p.1, 0) := by simp [nmOf, h6]
      show ρF (nmOf mp p.1 0).1 (nmOf mp p.1 0).2 = _
      rw [e]
      obtain ⟨y, h7, _⟩ := hobs p hp
      rw [h7]
      refine h2.pin _ _ _ ?_
      show (bif Nat.beq 0 0 && obs.any (fun q => Nat.beq q.1 p.1) then ρ p.1 0 else none) = some y
      have : obs.any (fun q => Nat.beq q.1 p.1) = true := List.any_eq_true.2 ⟨p, hp, by simp⟩
      rw [this]; exact h7
    · obtain ⟨y, h5, h6⟩ := h2.obj _ _ _ (hpo.get p hp)
      refine ⟨y, h5, ((ORep.ren.1 h6).mono (Known.sub fun b hb => ?_) fun _ _ => rfl).base fun b hb => (h6.blk_lt (fpO.ren.2 hb)).1⟩
      rcases hb with hb | ⟨q, hq, z, h7, h8⟩
      · exact .inl hb
      · exact .inr ⟨_, _, _, z, hpo.get q hq, h7, fpO.ren.2 h8⟩
    · have := h2.apart _ _ _ _ _ _ x x' b (hpo.get p hp) (hpo.get q hq) h1 h2' (fpO.ren.2 h3) (fpO.ren.2 h4)
      rw [nodupB.inj c1 p hp q hq this]
    · refine (SRep.ren.1 k2).mono (Known.sub fun b hb => ?_)
      rcases hb with hb | ⟨q, hq, z, h7, h8⟩
      · exact .inl hb
      · exact .inr ⟨_, _, _, z, hpo.get q hq, h7, fpO.ren.2 h8⟩
  cases e with
  | normal => exact key h1
  | ret => exact key h1
  | panic ch =>
    obtain ⟨rfl, pv, rfl⟩ := h1
    exact ⟨h2.defers, hext, pv, rfl⟩
  | _ => exact h1.elim⟩
end Go.Proofs.YtojehmkkbdedaaaGreat.A
namespace Go.Proofs.YtojehmkkbdedaaaGreat.A
open Go Go.RowKit
section
variable {P : Program} {N : Nat} {M0 : Nat → Prop} {w0 : Base} {ops : Array Oper} {Q : Exit → ASt → Prop} {o : Oper} {l : List Oper} {st : ASt}
theorem Pu_extractS {x : Operand} {i : Nat} {aa : List CV} {b : CV} (ho : o.op = .extract x i) (hx : st.ev x = .tp aa) (hb : aa[i]? = some b) : Pu P st o b.sv := Pu_q fun B M ρ w a h2 _ => by
  have hm := h2 x (by simp [opsOf, ho, Op.operands])
  rw [hx] at hm
  obtain ⟨vs, hy, hl, hr⟩ := hm
  have hj : i < vs.length := by rw [hl]; exact (List.getElem?_eq_some_iff.1 hb).1
  exact ⟨vs[i], by simp [execOp, ho, hy, Instr.extract, hj, Sem.run], CV.rep.2 (hr i b _ hb (by simp [hj]))⟩
/-- What operands hold, told as what a closure may hold. -/
def HoldOk (st : ASt) : List Operand → List CV → Prop
  | [], [] => True
  | x :: xs, c :: cs => Sub (st.ev x) c.sv ∧ HoldOk st xs cs
  | _, _ => False
theorem HoldOk.rep {M : Nat → Prop} {w : World} {ρ : Rho} {a : Act} : ∀ {xs : List Operand} {cs : List CV}, HoldOk st xs cs → (∀ x ∈ xs, SRep M w ρ (st.ev x) (a.eval x)) → CReps M w ρ cs (xs.map a.eval)
  | [], [], _, _ => ⟨rfl, fun j a x h => by simp at h⟩
  | x :: xs, b :: aa, h, hs => by
    have ih := HoldOk.rep (a := a) h.2 fun y hy => hs y (by simp [hy])
    refine ⟨by simp [ih.1], fun j c y h1 h2 => ?_⟩
    cases j with
    | zero =>
      simp at h1 h2
      subst h1 h2
      exact CV.rep.1 (h.1 _ _ _ _ (hs x (by simp)))
    | succ j => exact ih.2 j c y (by simpa using h1) (by simpa using h2)
  | [], _ :: _, h, _ => h.elim
  | _ :: _, [], h, _ => h.elim
theorem Pu_makeFuncS {f : FuncId} {ys xs : List Operand} (first caps : List CV) (ho : o.op = .makeFunc (.func f) ys.toArray xs.toArray) (hf : HoldOk st ys first) (ha : HoldOk st xs caps) : Pu P st o (.fnb f first caps) := Pu_q fun B M ρ w a h2 _ => by
  have h3 := hf.rep (a := a) fun x hx => h2 x (by simp [opsOf, ho, Op.operands]; exact .inl hx)
  have h4 := ha.rep (a := a) fun x hx => h2 x (by simp [opsOf, ho, Op.operands]; exact .inr hx)
  refine ⟨.func (.func f) (ys.map a.eval).toArray (xs.map a.eval).toArray, ?_, _, _, rfl, h3, h4⟩
  simp only [execOp, ho, Instr.makeFunc, Sem.run_bind, Sem.run_pure, Result.andThen_ok]
  simp
theorem rows_flat {M : Nat → Prop} {w : World} {n : Nat} : ∀ {rows : List (List AV)} {vals : List (List Value)} {q : Nat} {a : AV}, Rows M w n vals rows → rows.flatten[q]? = some a → ∃ x, vals.flatten[q]? = some x ∧ Rep M w a x ∧ x.oneCell' = true
  | [], _, q, a, _, h => by simp at h
  | r :: rs, [], q, a, hr, _ => by have := hr.1; simp at this
  | r :: rs, v :: vs, q, a, hr, h => by
    obtain ⟨h1, h2, h3⟩ := hr.2 0 r v rfl rfl
    simp only [List.flatten_cons] at h ⊢
    rcases Nat.lt_or_ge q r.length with hq | hq
    · rw [List.getElem?_append_left hq] at h
      have hqv : q < v.length := by omega
      rw [List.getElem?_append_left hqv]
      obtain ⟨k1, k2⟩ := h3 q a v[q] h (by simp [hqv])
      exact ⟨v[q], by simp [hqv], k1, k2⟩
    · rw [List.getElem?_append_right hq] at h
      rw [List.getElem?_append_right (by omega), show v.length = r.length from by omega]
      refine rows_flat (rows := rs) ⟨by have := hr.1; simpa using this, fun i r' v' hi hv => hr.2 (i + 1) r' v' (by simpa using hi) (by simpa using hv)⟩ h
theorem rows_of_flat {M : Nat → Prop} {w : World} {n : Nat} : ∀ {rows : List (List AV)} {L : List Value}, (∀ r ∈ rows, r.length = n) → L.length = rows.length * n → (∀ (q : Nat) (a : AV) (x : Value), rows.flatten[q]? = some a → L[q]? = some x → Rep M w a x ∧ x.oneCell' = true) → ∃ vals, vals.flatten = L ∧ Rows M w n vals rows
  | [], L, _, hl, _ => ⟨[], by simp at hl; simp [hl], rfl, fun i r v h => by simp at h⟩
  | r :: rs, L, hn, hl, h => by
    have hrn := hn r (by simp)
    simp only [List.length_cons, Nat.add_mul, Nat.one_mul] at hl
    obtain ⟨vals, h1, h2⟩ := rows_of_flat (rows := rs) (L := L.drop n) (M := M) (w := w) (fun r' hr' => hn r' (by simp [hr'])) (by simp; omega) (fun q a x hq hx => by
      rw [List.getElem?_drop] at hx
      refine h (n + q) a x ?_ hx
      simp only [List.flatten_cons]
      rw [List.getElem?_append_right (by omega), show n + q - r.length = q from by omega]; exact hq)
    refine ⟨L.take n :: vals, by simp [h1], by simp [h2.1], fun i r' v hi hv => ?_⟩
    cases i with
    | zero =>
      simp at hi hv
      subst hi hv
      refine ⟨hrn, by simp; omega, fun j a x hj hx => ?_⟩
      have hjl : j < r.length := (List.getElem?_eq_some_iff.1 hj).1
      rw [List.getElem?_take, if_pos (by omega)] at hx
      exact h j a x (by simp only [List.flatten_cons]; rw [List.getElem?_append_left hjl]; exact hj) hx
    | succ i => exact h2.2 i r' v (by simpa using hi) (by simpa using hv)
theorem Pu_lenOw {x : Operand} {t e T : TypeId} {k g n m : Nat} {rows : List (List AV)} (ho : o.op = .call ⟨.builtin .len, #[x], #[t]⟩) (ht : P.underlying t = some (.slice e)) (hx : st.ev x = .ow k g) (hob : st.ob k = some (g, .arr T n rows)) (hm : rows.length = m) : Pu P st o (.d (.v (.int .i64 m))) := Pu_q fun B M ρ w a h2 h3 => by
  subst hm
  have hm := h2 x (mem_call ho x (by simp))
  rw [hx] at hm
  obtain ⟨v, h4, vals, h5, h6, ⟨va, vc, rfl⟩, hl, _⟩ := h3 k g _ hob
  have hy : a.eval x = .slice va rows.length vc := by
    have := hm.1
    rw [h4] at this
    exact (Option.some.inj this).symm
  refine ⟨.int .i64 rows.length, ?_, .v _ ?_⟩
  · simp [execOp, ho, resolve, invoke, builtin, Builtin.len_, hy, run_underlying ht, Sem.run, goInt]
  · unfold maxI at hl; simp [vok, inI]; omega
theorem Pu_indexOw {t e T : TypeId} {x i : Operand} {k g n j : Nat} {z : Int} {rows : List (List AV)} (ho : o.op = .indexAddr t x i) (ht : P.underlying t = some (.slice e)) (hz : ∀ w, (sizeOf e).run P w = .ok n w) (hx : st.ev x = .ow k g) (hi : st.ev i = .d (.v (.int .i64 z))) (hob : st.ob k = some (g, .arr T n rows)) (hk : z = j) (hj : j < rows.length) : Pu P st o (.bx k g (j * n)) := Pu_q fun B M ρ w a h2 h3 => by
  have m : x ∈ opsOf o ∧ i ∈ opsOf o := by simp [opsOf, ho, Op.operands]
  obtain ⟨e2, _⟩ := ev_v h2 m.2 hi
  have hm := h2 x m.1
  rw [hx] at hm
  obtain ⟨v, h4, vals, hown, h6, _, hl, _⟩ := h3 k g _ hob
  have hy : a.eval x = v := by
    have := hm.1
    rw [h4] at this
    exact (Option.some.inj this).symm
  subst hk
  rcases hown.2 with ⟨rfl, h0⟩ | ⟨b, cap, cur, rfl, _, hg, hnc, _⟩
  · omega
  · refine ⟨.pointer (some ⟨b, j * n, none⟩), ?_, _, b, h4, rfl, rfl⟩
    simp only [execOp, ho, hy, e2, Instr.indexAt, Instr.sureAddr, Sem.run_bind, asIntOf, Sem.run_pure, Result.andThen_ok, run_underlying ht]
    rw [if_pos ⟨by omega, by omega⟩]
    simp only [Sem.run_bind, hz, Result.andThen_ok, Int.toNat_natCast, add_addr, Sem.run_pure, Nat.zero_add]
theorem arr_at {B : Base} {M : Nat → Prop} {w : World} {ρ : Rho} {h : Value} {T : TypeId} {n b : Nat} {rows : List (List AV)} (hO : ORep B M w ρ h (.arr T n rows)) (hb : blk h = some b) : ∃ cap cur vals, h = .slice (some ⟨b, 0, none⟩) rows.length cap ∧ w.heap[b]? = some (.cells cur T (0, 0)) ∧ rows.length ≤ cap ∧ cap ≤ maxLen ∧ cur.size = cap * n ∧ cur.toList.take (rows.length * n) = vals.flatten ∧ Rows M w n vals rows ∧ rows.length ≤ maxI ∧ (B.w.heap.size ≤ b ∨ B.l b) := by
  obtain ⟨vals, hown, h6, _, hl, hlb⟩ := hO
  rcases hown.2 with ⟨rfl, h0⟩ | ⟨c, cap, cur, rfl, _, hg, hnc, hcm, hsz, htk⟩
  · simp [blk] at hb
  · simp only [blk, Option.some.injEq] at hb
    subst hb
    exact ⟨cap, cur, vals, rfl, hg, hnc, hcm, hsz, htk, h6, hl, hlb c rfl⟩
theorem Pu_loadArrN {t T : TypeId} {x : Operand} {k g off n m : Nat} {rows : List (List AV)} {r : List AV} (ho : o.op = .load t x) (ht : ∀ w, (isAgg t).run P w = .ok true w) (hz : ∀ w, (sizeOf t).run P w = .ok m w) (hx : st.ev x = .bx k g off) (hob : st.ob k = some (g, .arr T n rows)) (hs : (rows.flatten.drop off).take m = r) (hm' : r.length = m) : Pu P st o (.d (.row r)) := Pu_q fun B M ρ w a h2 h3 => by
  have hm := h2 x (by simp [opsOf, ho, Op.operands])
  rw [hx] at hm
  obtain ⟨y, b, h4, h5, h6⟩ := hm
  obtain ⟨y', h7, hO⟩ := h3 k g _ hob
  rw [h4] at h7; cases h7
  obtain ⟨cap, cur, vals, rfl, hg, hnc, hcm, hsz, htk, hr, hl, _⟩ := arr_at hO h5
  have hcell : ∀ j, j < m → ∃ c v, r[j]? = some c ∧ cur[off + j]? = some v ∧ Rep M w c v ∧ v.oneCell' = true := fun j hj => by
    have h12 : r[j]? = some (r[j]'(by omega)) := by simp [hm', hj]
    have h13 : rows.flatten[off + j]? = r[j]? := by rw [← hs, List.getElem?_take, if_pos hj, List.getElem?_drop]
    rw [h12] at h13
    obtain ⟨v, h8, h9, h10⟩ := rows_flat hr h13
    refine ⟨_, v, h12, ?_, h9, h10⟩
    rw [← htk, List.getElem?_take] at h8
    split at h8
    · simpa using h8
    · cases h8
  have gd : ∀ j v, cur[j]? = some v → cur.getD j undef = v := fun j v hv => by simp [Array.getD_eq_getD_getElem?, hv]
  have h1 := run_cells (P := P) (w := w) (b := b) m off 0 (fun j => cur.getD (off + j) undef) #[] (fun j hj => by
    obtain ⟨c, v, _, hv, _⟩ := hcell j hj
    rw [Nat.zero_add, gd _ _ hv]
    simp [World.cell?, hg, hv])
  refine ⟨.agg ((List.range m).map fun j => cur.getD (off + j) undef).toArray, ?_, .row _ _ (by simp [hm']) (fun x hx => ?_) (fun j c x h12 h13 => ?_)⟩
  · simp only [execOp, ho, h6, Instr.loadAt, Instr.sureAddr, loadVar, Sem.run_bind, Sem.run_pure, Result.andThen_ok, ht, hz, loadCells, if_true, h1]
    simp
  · simp only [List.mem_map, List.mem_range] at hx
    obtain ⟨j, hj, rfl⟩ := hx
    obtain ⟨c, v, _, hv, _, h10⟩ := hcell j hj
    rw [gd _ _ hv]; exact h10
  · have hj : j < m := by rw [← hm']; exact (List.getElem?_eq_some_iff.1 h12).1
    obtain ⟨c', v, hc', hv, h9, _⟩ := hcell j hj
    rw [h12] at hc'; cases hc'
    rw [List.getElem?_map, List.getElem?_range hj] at h13
    simp only [Option.map_some, Option.some.injEq] at h13
    rw [gd _ _ hv] at h13
    subst h13
    exact h9
/-- Cells of a row's elements are written. -/
theorem store_arr {t T : TypeId} {x y : Operand} {k g off n m : Nat} {rows rows' : List (List AV)} {r : List AV} (hg : o.guard = none) (hd : o.dst = none) (ho : o.op = .store t x y) (hz : ∀ w, (sizeOf t).run P w = .ok m w) {a : Act} {w : World} {ρ : Rho} (hsim : SimR N M0 w0 st ρ a w) (h6 : ∃ y b, ρ k g = some y ∧ blk y = some b ∧ a.eval x = .pointer (some ⟨b, off, none⟩)) (hob : st.ob k = some (g, .arr T n rows))
    (hr : Cells (Mt M0 ρ st.ob) w r (a.eval y).cells.toList) (hn : r.length = m) (hoff : off + m ≤ rows.length * n) (hlen : rows'.length = rows.length) (hun : ∀ q ∈ rows', q.length = n) (hfl : rows'.flatten = rows.flatten.take off ++ r ++ rows.flatten.drop (off + m))
    (h : Al P N M0 w0 ops Q l (st.put k g (.arr T n rows'))) : wpList P ops (QL N M0 w0 Q) (o :: l) a w := by
  obtain ⟨u, b, h4, h5, h6⟩ := h6
  obtain ⟨u', h7, hO⟩ := hsim.obj k g _ hob
  rw [h4] at h7; cases h7
  obtain ⟨cap, cur, vals, rfl, hgb, hnc, hcm, hsz, htk, hrw, hl, hlb⟩ := arr_at hO h5
  have hcn : rows.length * n ≤ cap * n := Nat.mul_le_mul_right _ hnc
  have hvl : vals.flatten.length = rows.length * n := by rw [← htk]; simp; omega
  have hrn : ∀ q ∈ rows, q.length = n := fun q hq => by
    obtain ⟨i, hi, rfl⟩ := List.getElem_of_mem hq
    have hi' : i < vals.length := by rw [hrw.1]; exact hi
    exact (hrw.2 i _ vals[i] (by simp [hi]) (by simp [hi'])).1
  have hfr := flat_len hrn
  have hul : (a.eval y).cells.toList.length = m := by rw [hr.1, hn]
  obtain ⟨w', vs', k1, k2, k3, k4, k5, k6, k7, k8, k9⟩ := run_storeRow (P := P) b off T (a.eval y).cells.toList 0 w cur hgb (by omega) (fun v hv => by
    obtain ⟨j, hj, rfl⟩ := List.getElem_of_mem hv
    have hj' : j < r.length := by rw [← hr.1]; exact hj
    exact (hr.2 j r[j] _ (by simp [hj']) (by rw [List.getElem?_eq_getElem hj])).2)
  have hs2 := hsim.mod (w' := w') hob h4 ⟨k7, k8, k9⟩ (by omega) (fun c hc' hne => k5 c (fun e => hne (by simp [blk, e]))) (o' := .arr T n rows') (fun M' hK _ => by
    obtain ⟨vals', hv1, hv2⟩ := rows_of_flat (rows := rows') (L := vs'.toList.take (rows.length * n)) (M := M') (w := w') hun (by rw [hlen]; simp; omega) (fun q c z hq hz' => by
      rw [hfl] at hq
      rw [List.getElem?_take] at hz'
      split at hz'
      · rename_i hqn
        have hz2 : vs'[q]? = some z := by simpa using hz'
        rw [k4 q, Nat.add_zero] at hz2
        by_cases e1 : q < off
        · rw [List.append_assoc, List.getElem?_append_left (by rw [List.length_take]; omega), List.getElem?_take, if_pos e1] at hq
          rw [if_neg (by omega)] at hz2
          obtain ⟨z', k10, k11, k12⟩ := rows_flat hrw hq
          rw [← htk, List.getElem?_take, if_pos hqn] at k10
          have : cur[q]? = some z' := by simpa using k10
          rw [hz2] at this; cases this
          exact ⟨k11.mono hK, k12⟩
        · by_cases e2 : q < off + m
          · rw [List.getElem?_append_left (by rw [List.length_append, List.length_take]; omega), List.getElem?_append_right (by rw [List.length_take]; omega)] at hq
            simp only [List.length_take, Nat.min_eq_left (show off ≤ rows.flatten.length by omega)] at hq
            rw [if_pos (by omega)] at hz2
            obtain ⟨k11, k12⟩ := hr.2 _ c z hq hz2
            exact ⟨k11.mono hK, k12⟩
          · rw [List.getElem?_append_right (by rw [List.length_append, List.length_take]; omega)] at hq
            simp only [List.length_append, List.length_take, Nat.min_eq_left (show off ≤ rows.flatten.length by omega), List.getElem?_drop] at hq
            rw [show off + m + (q - (off + r.length)) = q from by omega] at hq
            rw [if_neg (by omega)] at hz2
            obtain ⟨z', k10, k11, k12⟩ := rows_flat hrw hq
            rw [← htk, List.getElem?_take, if_pos hqn] at k10
            have : cur[q]? = some z' := by simpa using k10
            rw [hz2] at this; cases this
            exact ⟨k11.mono hK, k12⟩
      · cases hz')
    exact ⟨vals', ⟨by rw [hv1, hlen]; simp; omega, .inr ⟨b, cap, vs', by rw [hlen], Nat.zero_le _, k2, by rw [hlen]; exact hnc, hcm, by rw [k3]; exact hsz, by rw [hv1, hlen]⟩⟩, hv2, ⟨_, cap, by rw [hlen]⟩, by rw [hlen]; exact hl, fun c hc => by simp only [blk, Option.some.injEq] at hc; subst hc; exact hlb⟩)
  refine wpList_plain hg fun K hK => wp_upon ?_
  have e : (execOp a.eval o).run P w = .ok .skip w' := by
    simp only [execOp, ho, h6, Instr.storeAt, Instr.sureAddr, storeVar, Sem.run_bind, Sem.run_pure, Result.andThen_ok, hz]
    rw [if_neg (by have : (a.eval y).cells.size = m := by rw [← hul]; simp
                   simp; omega)]
    simp only [Sem.run_bind, Sem.run_pure, Result.andThen_ok, k1]
  rw [e]
  refine hK _ _ (h.out _ _ ⟨ρ, ?_⟩)
  rw [hd]
  exact hs2
theorem Al_storeArr {t T : TypeId} {x y : Operand} {k g off n m : Nat} {rows : List (List AV)} {c : AV} (rows' : List (List AV)) (ho : o.op = .store t x y) (hg : o.guard = none) (hd : o.dst = none) (hc : conB o = true) (hz : ∀ w, (sizeOf t).run P w = .ok m w) (hx : st.ev x = .bx k g off) (hob : st.ob k = some (g, .arr T n rows)) (hy : st.ev y = .d c) (hcb : cellB c = true) (hn : (cellsA c).length = m) (hoff : off + m ≤ rows.length * n) (hlen : rows'.length = rows.length) (hun : ∀ q ∈ rows', q.length = n) (hfl : rows'.flatten = rows.flatten.take off ++ cellsA c ++ rows.flatten.drop (off + m))
    (h : Al P N M0 w0 ops Q l (st.put k g (.arr T n rows'))) : Al P N M0 w0 ops Q (o :: l) st := by
  refine ⟨?_⟩
  rintro a w ⟨ρ, hsim⟩
  have hmem : x ∈ opsOf o ∧ y ∈ opsOf o := by simp [opsOf, ho, Op.operands]
  have hmx := hsim.ev hc x hmem.1
  have hmy := hsim.ev hc y hmem.2
  rw [hx] at hmx
  rw [hy] at hmy
  exact store_arr hg hd ho hz hsim hmx hob (Rep.cells hmy hcb) hn hoff hlen hun hfl h
/-- A cell that holds nil is a row of the call's own. -/
theorem le_owncell {k k2 g j : Nat} {T e : TypeId} {cs : List SV} {n : Nat} (hkk : Nat.beq k k2 = false) (hob : st.ob k = some (g, .box T cs)) (hj : cs[j]? = some (.d (.v (.slice none 0 0)))) {X : Act → World → Prop} (h : ∀ g2, ∀ a w, Sim N M0 w0 ((st.put k2 g2 (.arr e n [])).put k g (.box T (cs.set j (.ow k2 g2)))) a w → X a w) : ∀ a w, Sim N M0 w0 st a w → X a w := by
  rintro a w ⟨ρ, hs⟩
  obtain ⟨g', ρ', h1, h2⟩ := hs.upd (w' := w) k2 ⟨rfl, rfl, rfl⟩ (Nat.le_refl _) (fun _ _ _ => rfl) (x' := .slice none 0 0) (o' := .arr e n []) (fun b hb => by simp [blk] at hb)
    (fun M' ρ' _ _ => ⟨[], World.ownsRow_nil w _ e n, ⟨rfl, fun i r v h => by simp at h⟩, ⟨none, 0, rfl⟩, by simp, fun b hb => by simp [blk] at hb⟩)
  have hob' : (st.put k2 g' (.arr e n [])).ob k = some (g, .box T cs) := by
    show (bif Nat.beq k k2 then _ else st.ob k) = _
    rw [hkk]; exact hob
  obtain ⟨y, hy, b, vs, rfl, hB, hh, hsz, hcs⟩ := h1.obj k g _ hob'
  refine h g' a w ⟨ρ', h1.mod hob' hy ⟨rfl, rfl, rfl⟩ (Nat.le_refl _) (fun _ _ _ => rfl) (fun M' hK _ => ⟨b, vs, rfl, hB, hh, by rw [List.length_set]; exact hsz, fun i q z hq hz => ?_⟩)⟩
  rw [List.getElem?_set] at hq
  by_cases e : j = i
  · subst e
    rw [if_pos rfl] at hq
    split at hq
    · simp only [Option.some.injEq] at hq
      subst hq
      have := (hcs j _ z hj hz).1
      obtain rfl := (rep_v this).1
      exact ⟨⟨h2, rfl⟩, rfl⟩
    · cases hq
  · rw [if_neg e] at hq
    exact ⟨(hcs i q z hq hz).1.mono hK, (hcs i q z hq hz).2⟩
theorem Aw_owncell {c : Code} {k k2 g : Nat} (j : Nat) {T e : TypeId} {cs : List SV} {n : Nat} (hkk : Nat.beq k k2 = false) (hob : st.ob k = some (g, .box T cs)) (hj : cs[j]? = some (.d (.v (.slice none 0 0)))) (h : ∀ g2, Aw P N M0 w0 c Q ((st.put k2 g2 (.arr e n [])).put k g (.box T (cs.set j (.ow k2 g2))))) : Aw P N M0 w0 c Q st := ⟨le_owncell hkk hob hj fun g2 => (h g2).out⟩
/-- A row that lies in a variable's cell, told as data from here on. -/
theorem le_frzc {k g kb gb : Nat} (j : Nat) {T Tb : TypeId} {n : Nat} {rows : List (List AV)} {cs : List SV} (hnl : ∀ (a : Act) (w : World) (ρ : Rho), SimR N M0 w0 st ρ a w → ∀ v b, ρ k g = some v → blk v = some b → ¬ w0.l b) (is : List Nat) (hob : st.ob k = some (g, .arr T n rows)) (hkk : Nat.beq kb k = false) (hobb : st.ob kb = some (gb, .box Tb cs)) (hj : cs[j]? = some (.ow k g)) (his : AllOw st k g is) : Le N M0 w0 st ((st.frz k is (.sl n rows)).put kb gb (.box Tb (cs.set j (.d (.sl n rows))))) := by
  rintro a w ⟨ρ, hs⟩
  obtain ⟨h1, v, hv, hr⟩ := hs.frz (hnl a w ρ hs) is hob his
  have hob' : (st.frz k is (.sl n rows)).ob kb = some (gb, .box Tb cs) := by
    show (bif Nat.beq kb k then none else st.ob kb) = _
    rw [hkk]; exact hobb
  obtain ⟨y, hy, b, vs, rfl, hB, hh, hsz, hcs⟩ := h1.obj kb gb _ hob'
  refine ⟨ρ, h1.mod hob' hy ⟨rfl, rfl, rfl⟩ (Nat.le_refl _) (fun _ _ _ => rfl) (fun M' hK _ => ⟨b, vs, rfl, hB, hh, by rw [List.length_set]; exact hsz, fun i q z hq hz => ?_⟩)⟩
  rw [List.getElem?_set] at hq
  by_cases e : j = i
  · subst e
    rw [if_pos rfl] at hq
    split at hq
    · simp only [Option.some.injEq] at hq
      subst hq
      have h5 := hcs j _ z hj hz
      have h6 := h5.1.1
      rw [hv] at h6; cases h6
      exact ⟨hr.mono hK, h5.2⟩
    · cases hq
  · rw [if_neg e] at hq
    exact ⟨(hcs i q z hq hz).1.mono hK, (hcs i q z hq hz).2⟩
theorem Aw_frzc {c : Code} {k g kb gb : Nat} (j : Nat) {T Tb : TypeId} {n : Nat} {rows : List (List AV)} {cs : List SV} (hnl : ∀ b, ¬ w0.l b) (is : List Nat) (hob : st.ob k = some (g, .arr T n rows)) (hkk : Nat.beq kb k = false) (hobb : st.ob kb = some (gb, .box Tb cs)) (hj : cs[j]? = some (.ow k g)) (his : AllOw st k g is) (h : Aw P N M0 w0 c Q ((st.frz k is (.sl n rows)).put kb gb (.box Tb (cs.set j (.d (.sl n rows)))))) : Aw P N M0 w0 c Q st := Aw_le (le_frzc j (fun _ _ _ _ _ b _ _ => hnl b) is hob hkk hobb hj his) h
/-- A variable, of which less is told. -/
def SubL : List SV → List SV → Prop
  | [], [] => True
  | s :: r, s' :: r' => Sub s s' ∧ SubL r r'
  | _, _ => False
theorem SubL.get : ∀ {cs cs' : List SV}, SubL cs cs' → cs.length = cs'.length ∧ ∀ (j : Nat) (s' : SV), cs'[j]? = some s' → ∃ s, cs[j]? = some s ∧ Sub s s'
  | [], [], _ => ⟨rfl, fun j s' h => by simp at h⟩
  | s :: r, s' :: r', h => by
    obtain ⟨h1, h2⟩ := SubL.get h.2
    refine ⟨by simp [h1], fun j t ht => ?_⟩
    cases j with
    | zero => simp at ht; subst ht; exact ⟨s, rfl, h.1⟩
    | succ j => obtain ⟨d, h3, h4⟩ := h2 j t (by simpa using ht); exact ⟨d, by simpa using h3, h4⟩
  | [], _ :: _, h => h.elim
  | _ :: _, [], h => h.elim
theorem le_box {k g : Nat} {T : TypeId} {cs : List SV} (cs' : List SV) (hob : st.ob k = some (g, .box T cs)) (h : SubL cs cs') : Le N M0 w0 st (st.put k g (.box T cs')) := by
  rintro a w ⟨ρ, hs⟩
  obtain ⟨h1, h2⟩ := h.get
  obtain ⟨y, hy, b, vs, rfl, hB, hh, hsz, hcs⟩ := hs.obj k g _ hob
  refine ⟨ρ, hs.mod hob hy ⟨rfl, rfl, rfl⟩ (Nat.le_refl _) (fun _ _ _ => rfl) (fun M' hK _ => ⟨b, vs, rfl, hB, hh, by omega, fun j s' z hj hz => ?_⟩)⟩
  obtain ⟨s, h3, h4⟩ := h2 j s' hj
  exact ⟨h4 _ _ _ _ ((hcs j s z h3 hz).1.mono hK), (hcs j s z h3 hz).2⟩
theorem Aw_boxle {c : Code} {k g : Nat} {T : TypeId} {cs : List SV} (cs' : List SV) (hob : st.ob k = some (g, .box T cs)) (h : SubL cs cs') (hc : Aw P N M0 w0 c Q (st.put k g (.box T cs'))) : Aw P N M0 w0 c Q st := Aw_le (le_box cs' hob h) hc
end
end Go.Proofs.YtojehmkkbdedaaaGreat.A
namespace Go.Proofs.YtojehmkkbdedaaaGreat.A
open Go Go.RowKit
/-- A region under way: what stands where some of its operations are done. -/
structure Ad (P : Program) (N : Nat) (M0 : Nat → Prop) (w0 : Base) (ops : Array Oper) (Q : Exit → ASt → Prop) (fuel : Nat) (listed : Array Bool) (st : ASt) : Prop where
  out : ∀ a w, Sim N M0 w0 st a w → wpAny P .any ops (QL N M0 w0 Q) fuel listed a w
/-- An operation whose value hangs on no memory. -/
def PuI (P : Program) (st : ASt) (o : Oper) (s : SV) : Prop :=
  ∀ (M : Nat → Prop) (ρ : Rho) (w : World) (a : Act), (∀ x ∈ opsOf o, SRep M w ρ (st.ev x) (a.eval x)) → ∃ v, SRep M w ρ s v ∧ ∀ w2, (execOp a.eval o).run P w2 = .ok (.value v) w2
/-- What a panic leaves says nothing of the slot d. -/
def PanicFree (Q : Exit → ASt → Prop) (d : Nat) : Prop := ∀ ch st, Q (.panic ch) st → Q (.panic ch) (st.set d .any)
section
variable {P : Program} {N : Nat} {M0 : Nat → Prop} {w0 : Base} {ops : Array Oper} {Q : Exit → ASt → Prop} {o : Oper} {l : List Oper} {st : ASt}
theorem SimR.unput {ρ : Rho} {a : Act} {w : World} {d : Nat} {v : Value} (h : SimR N M0 w0 st ρ (a.put (some d) v) w) : SimR N M0 w0 (st.set d .any) ρ a w where
  size := by have := h.size; simpa [Act.put] using this
  defers := h.defers
  slot i := by
    show SRep _ _ _ (bif Nat.beq i d then .any else st.sl i) _
    cases hb : Nat.beq i d with
    | true => trivial
    | false =>
      have := h.slot i
      rw [getD_put, if_neg (fun e => by simp only [Option.some.injEq] at e; rw [e.1] at hb; simp at hb)] at this
      exact this
  obj := h.obj
  apart := h.apart
  gens := h.gens
  base := h.base
  ext := h.ext
  pin := h.pin
theorem Aw_drawn {id : Nat} {l : List Oper} (hm : P.follows .mixedOrders = true) (h : Ad P N M0 w0 l.toArray Q l.length (List.replicate l.length false).toArray st) : Aw P N M0 w0 (.region id l.toArray true) Q st := ⟨fun a w ⟨ρ, hs⟩ => wp_region_any hm (by
  have := h.out a { w with drawn := w.drawn + 1 } ⟨ρ, hs.grow (Ev.Ext.refl w).tick⟩
  simpa using this)⟩
/-- An operation that hangs on no memory is taken ahead. -/
theorem Ad_take {fuel : Nat} {listed : Array Bool} (i : Nat) {d : Nat} {s : SV} (hi : ops[i]? = some o) (hP : PuI P st o s) (hg : o.guard = none) (hd : o.dst = some d) (hN : d < N) (hc : conB o = true) (hns : Region.noSelect ops = true) (hf : Region.free .any ops listed i = true) (hr : (Region.ready .any ops listed).contains i = true) (hQ : PanicFree Q d)
    (h : Ad P N M0 w0 ops Q fuel (listed.setIfInBounds i true) (st.set d s)) : Ad P N M0 w0 ops Q (fuel + 1) listed st := ⟨fun a w ⟨ρ, hs⟩ => by
  obtain ⟨v, hv, hrun⟩ := hP _ ρ w a (hs.ev hc)
  refine wpAny_take (v := v) hi hns hf hr (fun c a2 w2 ⟨st2, h1, ρ2, h2⟩ => ⟨_, hQ c st2 h1, ρ2, SimR.unput (by rw [hd] at h2; exact h2)⟩) (.inl ⟨by simp [Region.wanted, hg], hrun⟩) ?_
  refine h.out _ _ ⟨ρ, ?_⟩
  rw [hd]
  exact hs.set hN hv⟩
theorem wp_turn {a : Act} {w : World} {K K' : Act → World → Prop} {R R' : Exit → Act → World → Prop} (h : ∀ a w, K a w → K' a w) (hR : ∀ c a w, R (.panic c) a w → R' (.panic c) a w) (hL : LetsOut R → LetsOut R') (hh : o.wp P a w K R) : o.wp P a w K' R' := by
  unfold Oper.wp at *
  generalize (execOp a.eval o).run P w = r at *
  cases r with
  | ok n w' =>
    cases n <;> simp only [Oper.upon] at hh ⊢
    case value => exact h _ _ hh
    case skip => exact h _ _ hh
    case defer => exact h _ _ hh
    case enter => exact Calls.mono hh (fun e w'' he => by
      cases e with
      | returned v => exact h _ _ he
      | panicked c => exact hR _ _ _ he
      | outgrown => exact hL he)
    case row => exact Go.Rows.mono hh (fun _ _ he => h _ _ he)
  | halt x w' =>
    cases x <;> simp only [Oper.upon] at hh ⊢
    case panic => exact hR _ _ _ hh
theorem wpOp_of_list {i : Nat} {a : Act} {w : World} {R R' : Exit → Act → World → Prop} {K : Act → World → Prop} (hi : ops[i]? = some o) (h : wpList P ops R [o] a w) (hK : ∀ a w, R .normal a w → K a w) (hR : ∀ c a w, R (.panic c) a w → R' (.panic c) a w) (hL : LetsOut R → LetsOut R') : wpOp P ops R' i K a w := by
  unfold wpList at h
  unfold wpOp
  simp only [hi]
  split
  · rename_i hw
    rw [if_pos hw] at h
    rcases h with h | ⟨h1, h2⟩
    · exact .inl (wp_turn (fun a w h => hK a w h) hR hL h)
    · exact .inr ⟨h1, hL h2⟩
  · rename_i hw
    rw [if_neg hw] at h
    exact hK _ _ h
/-- One operation of a region, and what stands behind it. -/
def AdNext (P : Program) (N : Nat) (M0 : Nat → Prop) (w0 : Base) (ops : Array Oper) (Q : Exit → ASt → Prop) (fuel : Nat) (listed : Array Bool) (st : ASt) : List Nat → Prop
  | [] => True
  | i :: r => (∃ o, ops[i]? = some o ∧ Al P N M0 w0 ops (Then (Ad P N M0 w0 ops Q fuel (listed.setIfInBounds i true)) Q) [o] st) ∧ AdNext P N M0 w0 ops Q fuel listed st r
theorem AdNext.get {fuel : Nat} {listed : Array Bool} : ∀ {l : List Nat}, AdNext P N M0 w0 ops Q fuel listed st l → ∀ i ∈ l, ∃ o, ops[i]? = some o ∧ Al P N M0 w0 ops (Then (Ad P N M0 w0 ops Q fuel (listed.setIfInBounds i true)) Q) [o] st
  | [], _, i, h => by cases h
  | j :: r, h, i, hi => by
    rcases List.mem_cons.1 hi with rfl | hi
    · exact h.1
    · exact h.2.get i hi
theorem Ad_all {fuel : Nat} {listed : Array Bool} (rs : List Nat) (hr : Region.ready .any ops listed = rs) (hne : rs ≠ []) (h : AdNext P N M0 w0 ops Q fuel listed st rs) : Ad P N M0 w0 ops Q (fuel + 1) listed st := ⟨fun a w hs => wpAny_all hr hne fun i hi => by
  obtain ⟨o, ho, hal⟩ := h.get i hi
  refine wpOp_of_list ho (hal.out a w hs) (fun a' w' ⟨st', h1, h2⟩ => h1.out a' w' h2) (fun c a' w' h => h) (fun ⟨a', w', h⟩ => ⟨a', w', h⟩)⟩
theorem Ad_one {fuel : Nat} {listed : Array Bool} (i : Nat) (hi : ops[i]? = some o) (hr : Region.ready .any ops listed = [i]) (h : Al P N M0 w0 ops (Then (Ad P N M0 w0 ops Q fuel (listed.setIfInBounds i true)) Q) [o] st) : Ad P N M0 w0 ops Q (fuel + 1) listed st := Ad_all [i] hr (by simp) ⟨⟨o, hi, h⟩, trivial⟩
theorem Ad_two {fuel : Nat} {listed : Array Bool} (i j : Nat) {o' : Oper} (hi : ops[i]? = some o) (hj : ops[j]? = some o') (hr : Region.ready .any ops listed = [i, j]) (h : Al P N M0 w0 ops (Then (Ad P N M0 w0 ops Q fuel (listed.setIfInBounds i true)) Q) [o] st) (h' : Al P N M0 w0 ops (Then (Ad P N M0 w0 ops Q fuel (listed.setIfInBounds j true)) Q) [o'] st) : Ad P N M0 w0 ops Q (fuel + 1) listed st := Ad_all [i, j] hr (by simp) ⟨⟨o, hi, h⟩, ⟨o', hj, h'⟩, trivial⟩
theorem Ad_done {fuel : Nat} {listed : Array Bool} (hr : Region.ready .any ops listed = []) (h : Q .normal st) : Ad P N M0 w0 ops Q fuel listed st := ⟨fun a w hs => wpAny_done hr ⟨st, h, hs⟩ fuel⟩
theorem PuI_move {x : Operand} {s : SV} (ho : o.op = .move x ∨ o.op = .assign x) (hs : st.ev x = s) : PuI P st o s := fun M ρ w a h2 => by
  refine ⟨a.eval x, ?_, fun w2 => ?_⟩
  · have := h2 x (by rcases ho with ho | ho <;> simp [opsOf, ho, Op.operands])
    rwa [hs] at this
  · rcases ho with ho | ho <;> simp [execOp, ho, Sem.run]
theorem PuI_fieldb {t : TypeId} {x : Operand} {i : Nat} {fs : Array Field} {fd : Field} {n k g off : Nat} (fo : Nat) (ho : o.op = .fieldAddr t x i) (ht : P.underlying t = some (.struct fs)) (hf : fs[i]? = some fd) (hoff : fd.offset = fo) (hz : ∀ w, (sizeOf fd.type).run P w = .ok (n + 1) w) (hx : st.ev x = .bx k g off) : PuI P st o (.bx k g (off + fo)) := fun M ρ w a h2 => by
  have hm := h2 x (by simp [opsOf, ho, Op.operands])
  rw [hx] at hm
  obtain ⟨y, b, h4, h5, h6⟩ := hm
  refine ⟨.pointer (some ⟨b, off + fo, none⟩), ⟨y, b, h4, h5, rfl⟩, fun w2 => ?_⟩
  subst hoff
  simp only [execOp, ho, h6, Instr.fieldAt, Sem.run_bind, run_underlying ht, Result.andThen_ok, hf, Instr.sureAddr, Sem.run_pure, fieldPlace, hz]
  rw [if_neg (by omega)]
  simp [add_addr, Sem.run]
end
end Go.Proofs.YtojehmkkbdedaaaGreat.A
end

section
namespace Go.Proofs.YtojehmkkbdedaaaGreat.A
open Go Go.RowKit
theorem flat_take {α : Type} {n : Nat} : ∀ {rows : List (List α)} (h : ∀ r ∈ rows, r.length = n) (k : Nat), (rows.take k).flatten = rows.flatten.take (k * n)
  | [], _, k => by simp
  | r :: rs, h, 0 => by simp
  | r :: rs, h, k + 1 => by
    have hr := h r (by simp)
    have ih := flat_take (rows := rs) (fun q hq => h q (by simp [hq])) k
    simp only [List.take_succ_cons, List.flatten_cons, ih]
    rw [show (k + 1) * n = r.length + k * n from by rw [hr, Nat.add_mul]; omega, List.take_length_add_append]
theorem flat_drop {α : Type} {n : Nat} : ∀ {rows : List (List α)} (h : ∀ r ∈ rows, r.length = n) (k : Nat), (rows.drop k).flatten = rows.flatten.drop (k * n)
  | [], _, k => by simp
  | r :: rs, h, 0 => by simp
  | r :: rs, h, k + 1 => by
    have hr := h r (by simp)
    have ih := flat_drop (rows := rs) (fun q hq => h q (by simp [hq])) k
    simp only [List.drop_succ_cons, List.flatten_cons, ih]
    rw [show (k + 1) * n = r.length + k * n from by rw [hr, Nat.add_mul]; omega, List.drop_length_add_append]
theorem flat_at {α : Type} {n : Nat} {rows : List (List α)} (h : ∀ r ∈ rows, r.length = n) {i j : Nat} (hj : j < n) : rows.flatten[i * n + j]? = (rows[i]?).bind fun r => r[j]? := by
  have e := flat_drop h i
  have e2 : rows.flatten[i * n + j]? = (rows.drop i).flatten[j]? := by rw [e, List.getElem?_drop]
  rw [e2]
  rcases Nat.lt_or_ge i rows.length with hi | hi
  · rw [List.drop_eq_getElem_cons hi, List.flatten_cons, List.getElem?_append_left (by rw [h _ (List.getElem_mem hi)]; exact hj), List.getElem?_eq_getElem hi]; rfl
  · rw [List.drop_eq_nil_of_le hi, List.getElem?_eq_none hi]; rfl
theorem unif_rows {M : Nat → Prop} {w : World} {n : Nat} {vals : List (List Value)} {rows : List (List AV)} (h : Rows M w n vals rows) : ∀ q ∈ rows, q.length = n := fun q hq => by
  obtain ⟨i, hi, rfl⟩ := List.getElem_of_mem hq
  have hi' : i < vals.length := by rw [h.1]; exact hi
  exact (h.2 i _ vals[i] (by simp [hi]) (by simp [hi'])).1
theorem flat_lenA {α : Type} {n : Nat} {rows : List (List α)} (h : ∀ r ∈ rows, r.length = n) : rows.flatten.length = rows.length * n := by
  induction rows with
  | nil => simp
  | cons r rs ih => rw [List.flatten_cons, List.length_append, h r (by simp), ih fun q hq => h q (by simp [hq]), List.length_cons, Nat.add_mul]; omega
section
variable {P : Program} {N : Nat} {M0 : Nat → Prop} {w0 : Base} {ops : Array Oper} {Q : Exit → ASt → Prop} {o : Oper} {l : List Oper} {st : ASt}
/-- Cells are written into a row's block. -/
theorem splice_core {w : World} {M : Nat → Prop} {b off : Nat} {T : TypeId} {n cap : Nat} {cur : Array Value} {vals : List (List Value)} {rows : List (List AV)} (rows' : List (List AV)) {us : List Value} {r : List AV}
    (hgb : w.heap[b]? = some (.cells cur T (0, 0))) (hsz : cur.size = cap * n) (htk : cur.toList.take (rows.length * n) = vals.flatten) (hrw : Rows M w n vals rows) (hr : Cells M w r us) (ho : off ≤ rows.length * n) (hf : off + us.length ≤ cap * n) (hc' : rows'.length ≤ cap)
    (hun : ∀ q ∈ rows', q.length = n) (hfl : rows'.flatten = rows.flatten.take off ++ r ++ rows.flatten.drop (off + r.length)) :
    ∃ w' vs', (storeCells ⟨b, off, none⟩ us 0).run P w = .ok () w' ∧ w'.heap[b]? = some (.cells vs' T (0, 0)) ∧ vs'.size = cap * n ∧ (∀ c, c ≠ b → w'.heap[c]? = w.heap[c]?) ∧ w'.heap.size = w.heap.size ∧ (w'.os = w.os ∧ w'.tape = w.tape ∧ w'.output = w.output) ∧
      ∀ M', Known M M' w w' → ∃ vals', vals'.flatten = vs'.toList.take (rows'.length * n) ∧ Rows M' w' n vals' rows' := by
  have hfr := flat_lenA (unif_rows hrw)
  have hul : us.length = r.length := hr.1
  obtain ⟨w', vs', k1, k2, k3, k4, k5, k6, k7, k8, k9⟩ := run_storeRow (P := P) b off T us 0 w cur hgb (by omega) (fun v hv => by
    obtain ⟨j, hj, rfl⟩ := List.getElem_of_mem hv
    have hj' : j < r.length := by omega
    exact (hr.2 j r[j] _ (by simp [hj']) (by rw [List.getElem?_eq_getElem hj])).2)
  have hcn : rows'.length * n ≤ cap * n := Nat.mul_le_mul_right _ hc'
  refine ⟨w', vs', k1, k2, by rw [k3, hsz], k5, k6, ⟨k7, k8, k9⟩, fun M' hK => ?_⟩
  obtain ⟨vals', hv1, hv2⟩ := rows_of_flat (rows := rows') (L := vs'.toList.take (rows'.length * n)) (M := M') (w := w') hun (by simp; omega) (fun q c z hq hz' => by
    rw [hfl] at hq
    rw [List.getElem?_take] at hz'
    split at hz'
    · rename_i hqn
      have hz2 : vs'[q]? = some z := by simpa using hz'
      rw [k4 q, Nat.add_zero] at hz2
      by_cases e1 : q < off
      · rw [List.append_assoc, List.getElem?_append_left (by rw [List.length_take]; omega), List.getElem?_take, if_pos e1] at hq
        rw [if_neg (by omega)] at hz2
        obtain ⟨z', k10, k11, k12⟩ := rows_flat hrw hq
        rw [← htk, List.getElem?_take, if_pos (by omega)] at k10
        have : cur[q]? = some z' := by simpa using k10
        rw [hz2] at this; cases this
        exact ⟨k11.mono hK, k12⟩
      · by_cases e2 : q < off + r.length
        · rw [List.getElem?_append_left (by rw [List.length_append, List.length_take]; omega), List.getElem?_append_right (by rw [List.length_take]; omega)] at hq
          simp only [List.length_take, Nat.min_eq_left (show off ≤ rows.flatten.length by omega)] at hq
          rw [if_pos (by omega)] at hz2
          obtain ⟨k11, k12⟩ := hr.2 _ c z hq hz2
          exact ⟨k11.mono hK, k12⟩
        · rw [List.getElem?_append_right (by rw [List.length_append, List.length_take]; omega)] at hq
          simp only [List.length_append, List.length_take, Nat.min_eq_left (show off ≤ rows.flatten.length by omega), List.getElem?_drop] at hq
          rw [show off + r.length + (q - (off + r.length)) = q from by omega] at hq
          have hqr : q < rows.length * n := by rw [← hfr]; exact (List.getElem?_eq_some_iff.1 hq).1
          rw [if_neg (by omega)] at hz2
          obtain ⟨z', k10, k11, k12⟩ := rows_flat hrw hq
          rw [← htk, List.getElem?_take, if_pos hqr] at k10
          have : cur[q]? = some z' := by simpa using k10
          rw [hz2] at this; cases this
          exact ⟨k11.mono hK, k12⟩
    · cases hz')
  exact ⟨vals', hv1, hv2⟩
/-- Elements, read for a copy: data, or a part of a row of the call's own. -/
def SrcOf (st : ASt) (y : Operand) (n L : Nat) (news : List (List AV)) : Prop :=
  (st.ev y = .d (.sl n news) ∧ L = news.length) ∨ (∃ k g T rows l h, st.ev y = .ows k g n l h ∧ st.ob k = some (g, .arr T n rows) ∧ L = h - l ∧ news = (rows.take h).drop l) ∨ (∃ k g T, st.ev y = .ow k g ∧ st.ob k = some (g, .arr T n news) ∧ L = news.length)
theorem SrcOf.run {a : Act} {w : World} {ρ : Rho} (hsim : SimR N M0 w0 st ρ a w) {y : Operand} {n L c : Nat} {news : List (List AV)} (hs : SrcOf st y n L news) (hy : SRep (Mt M0 ρ st.ob) w ρ (st.ev y) (a.eval y)) (hn : 0 < n) (hc : c ≤ news.length) :
    (∃ a' cp, a.eval y = .slice a' L cp) ∧ (∀ q ∈ news, q.length = n) ∧ ∃ us, us.length = c * n ∧ (Builtin.firstCells n c (a.eval y)).run P w = .ok us.toArray w ∧ Cells (Mt M0 ρ st.ob) w (news.take c).flatten us := by
  -- part of a row of the call's own, from its cells
  have own : ∀ (k g : Nat) (T : TypeId) (rows : List (List AV)) (l h : Nat) (ad : Option Addr) (len cp : Nat) (a' : Option Addr) (cp' : Nat), st.ob k = some (g, .arr T n rows) → ρ k g = some (.slice ad len cp) → l ≤ h → h ≤ cp → (l < h → ∃ b, ad = some ⟨b, 0, none⟩ ∧ a' = some ⟨b, l * n, none⟩) → news = (rows.take h).drop l → a.eval y = .slice a' L cp' →
      (∀ q ∈ news, q.length = n) ∧ ∃ us, us.length = c * n ∧ (Builtin.firstCells n c (a.eval y)).run P w = .ok us.toArray w ∧ Cells (Mt M0 ρ st.ob) w (news.take c).flatten us := by
    intro k g T rows l h ad len cp a' cp' hob hρ hlh hhc hlt hnews hyy
    obtain ⟨u, hu, hO⟩ := hsim.obj k g _ hob
    rw [hρ] at hu; cases hu
    obtain ⟨vals0, hown0, hrw0, _⟩ := id hO
    have hun := unif_rows hrw0
    have hunn : ∀ q ∈ news, q.length = n := fun q hq => hun q (by rw [hnews] at hq; exact List.mem_of_mem_take (List.mem_of_mem_drop hq))
    refine ⟨hunn, ?_⟩
    rcases Nat.eq_zero_or_pos c with rfl | hc0
    · refine ⟨[], by simp, ?_, by simp [Cells]⟩
      rw [hyy]
      cases a' with
      | none => exact run_firstCells_none w n 0 _ _
      | some a' => exact run_firstCells_some w n 0 a' _ _ [] (by simp) (fun j v hj => by simp at hj)
    · have hnl : news.length = min h rows.length - l := by rw [hnews]; simp
      have hlt' : l < h := by omega
      obtain ⟨b, rfl, rfl⟩ := hlt hlt'
      obtain ⟨cap, cur, vals, he, hgb, hnc, hcm, hsz, htk, hrw, hl, hlb⟩ := arr_at hO (b := b) rfl
      have hlr : l + c ≤ rows.length := by omega
      have hmul : l * n + c * n ≤ rows.length * n := by rw [← Nat.add_mul]; exact Nat.mul_le_mul_right _ hlr
      have hcn : rows.length * n ≤ cap * n := Nat.mul_le_mul_right _ hnc
      have hcur : ∀ q, q < c * n → cur.toList[l * n + q]? = vals.flatten[l * n + q]? := fun q hq => by rw [← htk, List.getElem?_take, if_pos (by omega)]
      refine ⟨(cur.toList.drop (l * n)).take (c * n), by simp; omega, ?_, by simp [List.length_take, flat_lenA (fun q hq => hunn q (List.mem_of_mem_take hq))]; have : (news.take c).length = c := by simp; omega
                                                                             rw [Nat.min_eq_left hc]; omega, fun j x z hj hz => ?_⟩
      · rw [hyy]
        exact run_firstCells_some w n c ⟨b, l * n, none⟩ _ _ _ (by simp; omega) (fun j v hj => by
          rw [List.getElem?_take] at hj
          split at hj
          · rw [List.getElem?_drop] at hj
            have hj2 : cur[l * n + j]? = some v := by simpa using hj
            rw [add_addr, cell_of_row w b (l * n + j) cur T (0, 0) hgb, hj2]
          · cases hj)
      · rw [List.getElem?_take] at hz
        split at hz
        · rename_i hjc
          rw [List.getElem?_drop, hcur j hjc] at hz
          have e : (news.take c).flatten[j]? = rows.flatten[l * n + j]? := by
            rw [flat_take hunn, List.getElem?_take, if_pos hjc, hnews, flat_drop (fun q hq => hun q (List.mem_of_mem_take hq)), List.getElem?_drop, flat_take hun, List.getElem?_take, if_pos]
            have : (l + c) * n ≤ h * n := Nat.mul_le_mul_right _ (by omega)
            rw [Nat.add_mul] at this
            omega
          rw [e] at hj
          obtain ⟨z', k1, k2, k3⟩ := rows_flat hrw hj
          rw [hz] at k1; cases k1
          exact ⟨k2, k3⟩
        · cases hz
  rcases hs with ⟨h1, rfl⟩ | ⟨k, g, T, rows, l, h, h1, hob, rfl, hnews⟩ | ⟨k, g, T, h1, hob, rfl⟩
  · rw [h1] at hy
    have hy : Rep (Mt M0 ρ st.ob) w (.sl n news) (a.eval y) := hy
    generalize a.eval y = v at hy
    cases hy with
    | nil n a' c' =>
      obtain rfl : c = 0 := by simpa using hc
      refine ⟨⟨_, _, rfl⟩, fun q hq => (by cases hq), [], by simp, ?_, by simp [Cells]⟩
      cases a' with
      | none => exact run_firstCells_none w n 0 _ _
      | some a' => exact run_firstCells_some w n 0 a' _ _ [] (by simp) (fun j v hj => by simp at hj)
    | sl n rows b o' cap f hl hcap hn' hcc hr =>
      have hun : ∀ q ∈ news, q.length = n := fun q hq => by
        obtain ⟨i, hi, rfl⟩ := List.getElem_of_mem hq
        exact hn' i _ (by simp [hi])
      have hat : ∀ q, q < c * n → q / n < news.length ∧ q % n < n ∧ q / n * n + q % n = q := fun q hq => by
        have h1 : q / n < c := (Nat.div_lt_iff_lt_mul hn).2 hq
        exact ⟨by omega, Nat.mod_lt _ hn, by rw [Nat.mul_comm]; exact Nat.div_add_mod q n⟩
      have hel : ∀ i, i < news.length → ∀ j, j < n → ∃ r x, news[i]? = some r ∧ r[j]? = some x := fun i hi j hj => by
        have h5 : (news[i]'hi).length = n := hn' i _ (by simp [hi])
        exact ⟨news[i], (news[i]'hi)[j]'(by omega), by simp [hi], by simp [h5, hj]⟩
      refine ⟨⟨_, _, rfl⟩, hun, (List.range (c * n)).map fun q => f (q / n) (q % n), by simp, ?_, ?_, fun j x z hj hz => ?_⟩
      · exact run_firstCells_some w n c ⟨b, o', none⟩ _ _ _ (by simp) (fun j v hj => by
          rw [List.getElem?_map] at hj
          obtain ⟨q, h5, rfl⟩ := Option.map_eq_some_iff.1 hj
          obtain ⟨h6, h7⟩ := List.getElem?_eq_some_iff.1 h5
          simp at h6 h7
          subst h7
          obtain ⟨h8, h9, h10⟩ := hat j h6
          obtain ⟨r, x, h11, h12⟩ := hel _ h8 _ h9
          have := (hcc _ r _ x h11 h12).2.1
          rw [add_addr]
          rw [Nat.add_assoc, h10] at this
          exact this)
      · simp [flat_lenA (fun q hq => hun q (List.mem_of_mem_take hq))]
        rw [Nat.min_eq_left hc]
      · rw [List.getElem?_map] at hz
        obtain ⟨q, h5, rfl⟩ := Option.map_eq_some_iff.1 hz
        obtain ⟨h6, h7⟩ := List.getElem?_eq_some_iff.1 h5
        simp at h6 h7
        subst h7
        obtain ⟨h8, h9, h10⟩ := hat j h6
        obtain ⟨r, x', h11, h12⟩ := hel _ h8 _ h9
        rw [flat_take hun, List.getElem?_take, if_pos h6] at hj
        have e := flat_at hun (i := j / n) h9
        rw [h10, hj, h11] at e
        simp only [Option.bind_some, h12, Option.some.injEq] at e
        subst e
        exact ⟨hr _ r _ x h11 h12, (hcc _ r _ x h11 h12).2.2⟩
  · rw [h1] at hy
    obtain ⟨ad, len, cp, a', k1, k2, k3, k4, k5⟩ := hy
    exact ⟨⟨a', cp - l, k2⟩, own k g T rows l h ad len cp a' _ hob k1 k3 k4 k5 hnews k2⟩
  · rw [h1] at hy
    obtain ⟨k1, _⟩ := hy
    obtain ⟨u, hu, hO⟩ := hsim.obj k g _ hob
    rw [k1] at hu; cases hu
    obtain ⟨vals0, hown0, hrw0, ⟨a1, c1, he⟩, _⟩ := id hO
    have hcap : news.length ≤ c1 ∧ (0 < news.length → ∃ b, a1 = some ⟨b, 0, none⟩) := by
      rcases hown0.2 with ⟨e, e0⟩ | ⟨b, cap, cur, e, _, _, hnc, _⟩
      · exact ⟨by omega, fun h => by omega⟩
      · rw [he] at e; cases e; exact ⟨hnc, fun _ => ⟨b, rfl⟩⟩
    refine ⟨⟨a1, c1, he⟩, own k g T news 0 news.length a1 news.length c1 a1 c1 hob (by rw [k1, he]) (Nat.zero_le _) hcap.1 (fun h => ?_) (by simp) he⟩
    obtain ⟨b, rfl⟩ := hcap.2 h
    exact ⟨b, rfl, by simp⟩
theorem SimR.tell {ρ : Rho} {a : Act} {w : World} (h : SimR N M0 w0 st ρ a w) {j : Nat} {s : SV} (hs : SRep (Mt M0 ρ st.ob) w ρ s (a.tmps.getD j undef)) : SimR N M0 w0 (st.set j s) ρ a w where
  size := h.size
  defers := h.defers
  slot i := by
    show SRep (Mt M0 ρ st.ob) w ρ (bif Nat.beq i j then s else st.sl i) _
    cases hb : Nat.beq i j with
    | true => obtain rfl := Nat.eq_of_beq_eq_true hb; exact hs
    | false => exact h.slot i
  obj := h.obj
  apart := h.apart
  gens := h.gens
  base := h.base
  ext := h.ext
  pin := h.pin
theorem copy_run {x y : Operand} {t t' e : TypeId} {a : Act} {w w' : World} {n L c dl cp sp : Nat} {b : Addr} {sa : Option Addr} {us : List Value} (ho : o.op = .call ⟨.builtin .copy, #[x, y], #[t, t']⟩) (ht : P.underlying t = some (.slice e)) (hz : ∀ w, (sizeOf e).run P w = .ok n w) (hx : a.eval x = .slice (some b) dl cp) (hy : a.eval y = .slice sa L sp) (hc : min L dl = c)
    (hf : (Builtin.firstCells n c (a.eval y)).run P w = .ok us.toArray w) (hst : (storeCells b us 0).run P w = .ok () w') : (execOp a.eval o).run P w = .ok (.value (.int .i64 c)) w' := by
  have hc2 : L.min dl = c := hc
  subst hc2
  rw [hy] at hf
  simp only [execOp, ho, resolve, invoke, builtin, Sem.run_bind, Sem.run_pure, Result.andThen_ok, List.map_toArray, List.map_cons, List.map_nil, hx, hy, Builtin.copy_]
  simp [run_underlying ht, Builtin.lenOf, hz, hf, hst, goInt, Result.andThen]
/-- A part of a row of the call's own is written over. -/
theorem Al_copy {d k g n lo h L c : Nat} {x y : Operand} {t t' e T : TypeId} {rows news : List (List AV)} (ho : o.op = .call ⟨.builtin .copy, #[x, y], #[t, t']⟩) (hg : o.guard = none) (hd : o.dst = some d) (hN : d < N) (hc : conB o = true) (ht : P.underlying t = some (.slice e)) (hz : ∀ w, (sizeOf e).run P w = .ok n w) (hn : 0 < n)
    (hx : st.ev x = .ows k g n lo h) (hob : st.ob k = some (g, .arr T n rows)) (hs : SrcOf st y n L news) (hcm : min L (h - lo) = c) (hc0 : 0 < c) (hcn : c ≤ news.length) (hlc : lo + c ≤ rows.length)
    (hr : Al P N M0 w0 ops Q l ((st.put k g (.arr T n (rows.take lo ++ news.take c ++ rows.drop (lo + c)))).set d (.d (.v (.int .i64 c))))) : Al P N M0 w0 ops Q (o :: l) st := by
  refine ⟨?_⟩
  rintro a w ⟨ρ, hsim⟩
  have hev := hsim.ev hc
  have h1 := hev x (mem_call ho x (by simp))
  have h2 := hev y (mem_call ho y (by simp))
  rw [hx] at h1
  obtain ⟨ad, len, cp, a', k1, k2, k3, k4, k5⟩ := h1
  obtain ⟨b, rfl, rfl⟩ := k5 (by omega)
  obtain ⟨u, hu, hO⟩ := hsim.obj k g _ hob
  rw [k1] at hu; cases hu
  obtain ⟨cap, cur, vals, he, hgb, hnc, hcp, hsz, htk, hrw, hl, hlb⟩ := arr_at hO (b := b) rfl
  have hcc : cap = cp := by cases he; rfl
  subst hcc
  cases he
  obtain ⟨⟨sa, sp, hy⟩, hunn, us, hus, hrun, hcells⟩ := hs.run (P := P) hsim h2 hn hcn
  have hun := unif_rows hrw
  have hfr := flat_lenA hun
  have hlen : (rows.take lo ++ news.take c ++ rows.drop (lo + c)).length = rows.length := by simp; omega
  have e1 : (lo + c) * n ≤ rows.length * n := Nat.mul_le_mul_right _ hlc
  have e2 : rows.length * n ≤ cap * n := Nat.mul_le_mul_right _ hnc
  rw [Nat.add_mul] at e1
  have hcl : (news.take c).flatten.length = c * n := by rw [flat_lenA (fun q hq => hunn q (List.mem_of_mem_take hq)), List.length_take, Nat.min_eq_left hcn]
  obtain ⟨w', vs', q1, q2, q3, q4, q5, q6, q7⟩ := splice_core (P := P) (rows.take lo ++ news.take c ++ rows.drop (lo + c)) hgb hsz htk hrw hcells (off := lo * n) (by omega) (by rw [hus]; omega) (by rw [hlen]; exact hnc)
    (fun q hq => by
      rcases List.mem_append.1 hq with hq | hq
      · rcases List.mem_append.1 hq with hq | hq
        · exact hun q (List.mem_of_mem_take hq)
        · exact hunn q (List.mem_of_mem_take hq)
      · exact hun q (List.mem_of_mem_drop hq))
    (by rw [List.flatten_append, List.flatten_append, flat_take hun, flat_drop hun, hcl, Nat.add_mul])
  have hs2 := hsim.mod (w' := w') hob k1 q6 (by omega) (fun c' hc' hne => q4 c' (fun e => hne (by simp [blk, e]))) (o' := .arr T n (rows.take lo ++ news.take c ++ rows.drop (lo + c))) (fun M' hK _ => by
    obtain ⟨vals', hv1, hv2⟩ := q7 M' hK
    exact ⟨vals', ⟨by have h9 : vs'.toList.length = cap * n := (Array.length_toList ..).trans q3; rw [hv1, List.length_take, hlen, h9]; omega, .inr ⟨b, cap, vs', by rw [hlen], Nat.zero_le _, q2, by rw [hlen]; exact hnc, hcp, q3, hv1.symm⟩⟩, hv2, ⟨_, cap, by rw [hlen]⟩, by rw [hlen]; exact hl, fun c' hc' => by simp only [blk, Option.some.injEq] at hc'; subst hc'; exact hlb⟩)
  refine wpList_plain hg fun K hK => wp_upon ?_
  rw [copy_run ho ht hz k2 hy hcm hrun q1]
  refine hK _ _ (hr.out _ _ ⟨ρ, ?_⟩)
  rw [hd]
  exact hs2.set hN (.v _ (show inI _ by
    have : rows.length ≤ maxI := hl
    simp only [inI, maxI] at *; omega))
/-- The same, beyond its length: slot j is the row from then on. -/
theorem Al_copyUp {d j k g n lo h L c : Nat} {x y : Operand} {t t' e T : TypeId} {rows news : List (List AV)} (ho : o.op = .call ⟨.builtin .copy, #[x, y], #[t, t']⟩) (hg : o.guard = none) (hd : o.dst = some d) (hN : d < N) (hc : conB o = true) (ht : P.underlying t = some (.slice e)) (hz : ∀ w, (sizeOf e).run P w = .ok n w) (hn : 0 < n)
    (hx : st.ev x = .ows k g n lo h) (hob : st.ob k = some (g, .arr T n rows)) (hj : st.sl j = .ows k g n 0 (lo + c)) (hs : SrcOf st y n L news) (hcm : min L (h - lo) = c) (hc0 : 0 < c) (hcn : c ≤ news.length) (hlr : lo ≤ rows.length) (hlc : rows.length ≤ lo + c)
    (hr : ∀ g', Al P N M0 w0 ops Q l (((st.put k g' (.arr T n (rows.take lo ++ news.take c))).set j (.ow k g')).set d (.d (.v (.int .i64 c))))) : Al P N M0 w0 ops Q (o :: l) st := by
  refine ⟨?_⟩
  rintro a w ⟨ρ, hsim⟩
  have hev := hsim.ev hc
  have h1 := hev x (mem_call ho x (by simp))
  have h2 := hev y (mem_call ho y (by simp))
  rw [hx] at h1
  obtain ⟨ad, len, cp, a', k1, k2, k3, k4, k5⟩ := h1
  obtain ⟨b, rfl, rfl⟩ := k5 (by omega)
  have h3 := hsim.slot j
  rw [hj] at h3
  obtain ⟨ad2, len2, cp2, a2, m1, m2, m3, m4, m5⟩ := h3
  rw [k1] at m1; cases m1
  obtain ⟨b2, m6, m7⟩ := m5 (by omega)
  cases m6
  obtain ⟨u, hu, hO⟩ := hsim.obj k g _ hob
  rw [k1] at hu; cases hu
  obtain ⟨cap, cur, vals, he, hgb, hnc, hcp, hsz, htk, hrw, hl, hlb⟩ := arr_at hO (b := b) rfl
  have hcc : cap = cp := by cases he; rfl
  subst hcc
  cases he
  obtain ⟨⟨sa, sp, hy⟩, hunn, us, hus, hrun, hcells⟩ := hs.run (P := P) hsim h2 hn hcn
  have hun := unif_rows hrw
  have hfr := flat_lenA hun
  have hlen : (rows.take lo ++ news.take c).length = lo + c := by simp; omega
  have e1 : (lo + c) * n ≤ cap * n := Nat.mul_le_mul_right _ (by omega)
  have e3 : lo * n ≤ rows.length * n := Nat.mul_le_mul_right _ hlr
  have e4 : rows.length * n ≤ (lo + c) * n := Nat.mul_le_mul_right _ hlc
  rw [Nat.add_mul] at e1 e4
  have hcl : (news.take c).flatten.length = c * n := by rw [flat_lenA (fun q hq => hunn q (List.mem_of_mem_take hq)), List.length_take, Nat.min_eq_left hcn]
  obtain ⟨w', vs', q1, q2, q3, q4, q5, q6, q7⟩ := splice_core (P := P) (rows.take lo ++ news.take c) hgb hsz htk hrw hcells (off := lo * n) (by omega) (by rw [hus]; omega) (by rw [hlen]; omega)
    (fun q hq => by
      rcases List.mem_append.1 hq with hq | hq
      · exact hun q (List.mem_of_mem_take hq)
      · exact hunn q (List.mem_of_mem_take hq))
    (by rw [List.flatten_append, flat_take hun, hcl, List.drop_eq_nil_of_le (by omega), List.append_nil])
  have huniq : ∀ g2 o2 x, st.ob k = some (g2, o2) → ρ k g2 = some x → x = .slice (some ⟨b, 0, none⟩) rows.length cap := fun g2 o2 x e1 e2 => by
    rw [hob] at e1
    simp only [Option.some.injEq, Prod.mk.injEq] at e1
    obtain ⟨rfl, rfl⟩ := e1
    rw [k1] at e2
    exact (Option.some.inj e2).symm
  obtain ⟨g', ρ', r1, r2, r3⟩ := hsim.upd2 (w' := w') k q6 (by omega) (fun c' hc' hne => q4 c' (fun e => hne g _ _ hob k1 (by simp [blk, e]))) (x' := .slice (some ⟨b, 0, none⟩) (lo + c) cap) (o' := .arr T n (rows.take lo ++ news.take c))
    (fun c' hc' => .inr ⟨g, _, _, hob, k1, by simpa [blk] using hc'⟩)
    (fun M' ρ' hK _ => by
      obtain ⟨vals', hv1, hv2⟩ := q7 M' hK
      exact ⟨vals', ⟨by have h9 : vs'.toList.length = cap * n := (Array.length_toList ..).trans q3; rw [hv1, List.length_take, hlen, h9, Nat.add_mul]; omega, .inr ⟨b, cap, vs', by rw [hlen], Nat.zero_le _, q2, by rw [hlen]; omega, hcp, q3, hv1.symm⟩⟩, hv2, ⟨_, cap, by rw [hlen]⟩, by rw [hlen]; simp only [maxLen, maxI] at *; omega, fun c' hc' => by simp only [blk, Option.some.injEq] at hc'; subst hc'; exact hlb⟩)
  refine wpList_plain hg fun K hK => wp_upon ?_
  rw [copy_run ho ht hz k2 hy hcm hrun q1]
  refine hK _ _ ((hr g').out _ _ ⟨ρ', ?_⟩)
  rw [hd]
  exact (r1.tell (j := j) (s := .ow k g') ⟨by rw [r2, m2, m7]; simp, by rw [m2]; rfl⟩).set hN (.v _ (show inI _ by simp only [inI, maxLen] at *; omega))
/-- How a row of the call's own stands: its slice. -/
theorem ORep.form {B : Base} {M : Nat → Prop} {w : World} {ρ : Rho} {v : Value} {T : TypeId} {n : Nat} {rows : List (List AV)} (h : ORep B M w ρ v (.arr T n rows)) : ∃ a c, v = .slice a rows.length c ∧ rows.length ≤ c ∧ c ≤ maxLen ∧ (0 < c → ∃ b, a = some ⟨b, 0, none⟩) := by
  obtain ⟨vals, hown, _⟩ := h
  rcases hown.2 with ⟨rfl, e⟩ | ⟨b, cap, cur, rfl, _, _, hnc, hcm, _⟩
  · exact ⟨none, 0, by rw [e], by omega, Nat.zero_le _, fun h => by omega⟩
  · exact ⟨_, cap, rfl, hnc, hcm, fun _ => ⟨b, rfl⟩⟩
/-- What the capacity of a row of the call's own is. -/
def capTok (k g c : Nat) : OP := ⟨fun _ => False, fun _ _ ρ _ => ∃ a len, ρ k g = some (.slice a len c), fun _ _ h => h, fun hr ⟨a, len, h⟩ => ⟨a, len, hr _ _ _ h⟩, fun _ b hb => hb.elim⟩
theorem Al_cap {d k g kt n : Nat} {x : Operand} {t e T : TypeId} {rows : List (List AV)} (ho : o.op = .call ⟨.builtin .cap, #[x], #[t]⟩) (hg : o.guard = none) (hd : o.dst = some d) (hN : d < N) (hc : conB o = true) (ht : P.underlying t = some (.slice e)) (hx : st.ev x = .ow k g) (hob : st.ob k = some (g, .arr T n rows)) (hkt : st.ob kt = none)
    (hr : ∀ c gt, rows.length ≤ c → c ≤ 4611686018427387904 ∨ c ≤ maxLen → Al P N M0 w0 ops Q l ((st.put kt gt (.op (capTok k g c))).set d (.d (.v (.int .i64 (c : Nat)))))) : Al P N M0 w0 ops Q (o :: l) st := by
  refine ⟨?_⟩
  rintro a w ⟨ρ, hsim⟩
  have h1 := hsim.ev hc x (mem_call ho x (by simp))
  rw [hx] at h1
  obtain ⟨k1, _⟩ := h1
  obtain ⟨u, hu, hO⟩ := hsim.obj k g _ hob
  rw [k1] at hu; cases hu
  obtain ⟨a', c, he, hrc, hcm, _⟩ := hO.form
  obtain ⟨gt, ρ', r1, r2, r3⟩ := hsim.upd2 (w' := w) kt ⟨rfl, rfl, rfl⟩ (Nat.le_refl _) (fun _ _ _ => rfl) (x' := undef) (o' := .op (capTok k g c)) (fun b hb => hb.elim) (fun M' ρ' hK hle => ⟨fun b hb => hb.elim, ⟨a', rows.length, hle _ _ _ (by rw [k1, he])⟩⟩)
  refine wpList_plain hg fun K hK => wp_upon ?_
  have e : (execOp a.eval o).run P w = .ok (.value (.int .i64 c)) w := by
    simp only [execOp, ho, resolve, invoke, builtin, Sem.run_bind, Sem.run_pure, Result.andThen_ok, List.map_toArray, List.map_cons, List.map_nil, he, Builtin.cap_]
    simp [run_underlying ht, goInt, Result.andThen]
  rw [e]
  refine hK _ _ ((hr c gt hrc (.inr hcm)).out _ _ ⟨ρ', ?_⟩)
  rw [hd]
  exact r1.set hN (.v _ (show inI _ by simp only [inI, maxLen] at *; omega))
theorem slice_run {M : Nat → Prop} {w : World} {ρ : Rho} {a : Act} {t e : TypeId} {x : Operand} {lo hi : Option Operand} {n len cap lw h : Nat} {ad : Option Addr} (ho : o.op = .slice t x lo hi none) (ht : P.underlying t = some (.slice e)) (hz : ∀ w, (sizeOf e).run P w = .ok n w) (h2 : ∀ x ∈ opsOf o, SRep M w ρ (st.ev x) (a.eval x)) (hx : a.eval x = .slice ad len cap) (hlo : bndA st lo 0 lw) (hhi : bndA st hi len h) (hle : lw ≤ h ∧ h ≤ cap) :
    (execOp a.eval o).run P w = .ok (.value (.slice (if cap = lw then ad else ad.map (·.add (lw * n))) (h - lw) (cap - lw))) w := by
  have hb := bnds_run (P := P) (w := w) (a := a) (len := len) (cap := cap) true (M := M) (ρ := ρ) (fun y hy => h2 y (by simp only [opsOf, ho, Op.operands, Array.toList_append, List.mem_append]; simp only [List.mem_append] at hy; rcases hy with hy | hy <;> simp_all)) hlo hhi hle.1 hle.2
  simp only [execOp, ho, hx, Instr.sliceAt, Sem.run_bind, run_underlying ht, Result.andThen_ok, Instr.slice, Option.map_none, hb, hz, Sem.run_pure]
/-- A part of a row of the call's own; beyond its length, where its capacity is known. -/
theorem Pu_sliceOw {t e T : TypeId} {x : Operand} {lo hi : Option Operand} {k g n : Nat} {rows : List (List AV)} (lw h : Nat) (ho : o.op = .slice t x lo hi none) (ht : P.underlying t = some (.slice e)) (hz : ∀ w, (sizeOf e).run P w = .ok n w) (hx : st.ev x = .ow k g) (hob : st.ob k = some (g, .arr T n rows)) (hlo : bndA st lo 0 lw) (hhi : bndA st hi rows.length h) (hle : lw ≤ h ∧ (h ≤ rows.length ∨ ∃ kt gt c, st.ob kt = some (gt, .op (capTok k g c)) ∧ h ≤ c)) : Pu P st o (.ows k g n lw h) := fun B M ρ w a hM h2 h3 hev K hK => by
  have h1 := h2 x (by simp [opsOf, ho, Op.operands])
  rw [hx] at h1
  obtain ⟨k1, _⟩ := h1
  obtain ⟨u, hu, hO⟩ := h3 k g _ hob
  rw [k1] at hu; cases hu
  obtain ⟨ad, c, he, hrc, hcm, hbb⟩ := hO.form
  have hhc : h ≤ c := by
    rcases hle.2 with h4 | ⟨kt, gt, c', h4, h5⟩
    · omega
    · obtain ⟨u, _, _, a', len', h6⟩ := h3 kt gt _ h4
      rw [k1, he] at h6; cases h6
      exact h5
  rw [slice_run ho ht hz h2 he hlo hhi ⟨hle.1, hhc⟩]
  refine hK _ _ (Kn.refl _) ⟨ad, rows.length, c, _, by rw [k1, he], rfl, hle.1, hhc, fun hlt => ?_⟩
  obtain ⟨b, rfl⟩ := hbb (by omega)
  exact ⟨b, rfl, by rw [if_neg (by omega)]; simp [add_addr]⟩
/-- A part of such a part. -/
theorem Pu_sliceOws {t e : TypeId} {x : Operand} {lo : Option Operand} {k g n l0 h0 : Nat} (lw l1 : Nat) (ho : o.op = .slice t x lo none none) (ht : P.underlying t = some (.slice e)) (hz : ∀ w, (sizeOf e).run P w = .ok n w) (hx : st.ev x = .ows k g n l0 h0) (hlo : bndA st lo 0 lw) (hle : l0 + lw ≤ h0) (hl1 : l0 + lw = l1) : Pu P st o (.ows k g n l1 h0) := fun B M ρ w a hM h2 h3 hev K hK => by
  subst hl1
  have h1 := h2 x (by simp [opsOf, ho, Op.operands])
  rw [hx] at h1
  obtain ⟨ad, len, c, a', k1, k2, k3, k4, k5⟩ := h1
  rw [slice_run ho ht hz h2 k2 hlo (show bndA st none (h0 - l0) (h0 - l0) from rfl) (by omega)]
  refine hK _ _ (Kn.refl _) ⟨ad, len, c, _, k1, by rw [show h0 - l0 - lw = h0 - (l0 + lw) from by omega, show c - l0 - lw = c - (l0 + lw) from by omega], hle, k4, fun hlt => ?_⟩
  obtain ⟨b, rfl, rfl⟩ := k5 (by omega)
  exact ⟨b, rfl, by rw [if_neg (by omega)]; simp [add_addr, Nat.add_mul]⟩
/-- A row of the call's own, made shorter. -/
theorem Al_cut {d k g n : Nat} {x : Operand} {lo hi : Option Operand} {t e T : TypeId} {rows : List (List AV)} (h : Nat) (ho : o.op = .slice t x lo hi none) (hg : o.guard = none) (hd : o.dst = some d) (hN : d < N) (hc : conB o = true) (ht : P.underlying t = some (.slice e)) (hz : ∀ w, (sizeOf e).run P w = .ok n w) (hx : st.ev x = .ow k g) (hob : st.ob k = some (g, .arr T n rows)) (hlo : bndA st lo 0 0) (hhi : bndA st hi rows.length h) (hle : h ≤ rows.length)
    (hr : ∀ g', Al P N M0 w0 ops Q l ((st.put k g' (.arr T n (rows.take h))).set d (.ow k g'))) : Al P N M0 w0 ops Q (o :: l) st := by
  refine ⟨?_⟩
  rintro a w ⟨ρ, hsim⟩
  have hev := hsim.ev hc
  have h1 := hev x (by simp [opsOf, ho, Op.operands])
  rw [hx] at h1
  obtain ⟨k1, _⟩ := h1
  obtain ⟨u, hu, hO⟩ := hsim.obj k g _ hob
  rw [k1] at hu; cases hu
  obtain ⟨ad, c, he, hrc, hcm, hbb⟩ := hO.form
  have hrun := slice_run ho ht hz hev he hlo hhi ⟨Nat.zero_le _, by omega⟩
  have hlen : (rows.take h).length = h := by simp; omega
  obtain ⟨g', ρ', r1, r2, r3⟩ := hsim.upd2 (w' := w) k ⟨rfl, rfl, rfl⟩ (Nat.le_refl _) (fun _ _ _ => rfl) (x' := .slice (if c = 0 then ad else ad.map (·.add (0 * n))) (h - 0) (c - 0)) (o' := .arr T n (rows.take h)) (fun b hb => .inr ⟨g, _, _, hob, k1, by
      rw [he]
      cases ad with
      | none => simp [blk] at hb
      | some ad => by_cases hc0 : c = 0 <;> simp [blk, hc0, Addr.add] at hb ⊢ <;> exact hb⟩) (fun M' ρ' hK _ => by
    obtain ⟨vals, hown, hrw, _, hl, hlb⟩ := hO.mono hK (fun _ _ => rfl)
    have hun := unif_rows hrw
    have hunv : ∀ q ∈ vals, q.length = n := fun q hq => by
      obtain ⟨i, hi, rfl⟩ := List.getElem_of_mem hq
      have hi' : i < rows.length := by rw [← hrw.1]; exact hi
      exact (hrw.2 i rows[i] _ (by simp [hi']) (by simp [hi])).2.1
    have hvl : vals.length = rows.length := hrw.1
    refine ⟨vals.take h, ⟨by rw [flat_lenA (fun q hq => hunv q (List.mem_of_mem_take hq)), hlen]; simp; rw [hvl, Nat.min_eq_left hle], ?_⟩, ⟨by simp [hvl], fun i r v h4 h5 => ?_⟩, ⟨_, c, by rw [hlen]; rfl⟩, by rw [hlen]; omega, fun b hb => ?_⟩
    · rcases hown.2 with ⟨e, e0⟩ | ⟨b, cap, cur, e, hbz, hgb, hnc, hcm, hsz, htk⟩
      · rw [he] at e
        simp only [Value.slice.injEq] at e
        obtain ⟨rfl, _, rfl⟩ := e
        refine .inl ⟨?_, by rw [hlen]; omega⟩
        rw [show h = 0 by omega]; rfl
      · rw [he] at e; cases e
        refine .inr ⟨b, c, cur, ?_, hbz, hgb, by rw [hlen]; omega, hcm, hsz, ?_⟩
        · rw [hlen]; by_cases hc0 : c = 0 <;> simp [hc0, add_addr]
        · have e3 : h * n ≤ rows.length * n := Nat.mul_le_mul_right _ hle
          rw [hlen, flat_take hunv, ← htk, List.take_take, Nat.min_eq_left e3]
    · rw [List.getElem?_take] at h4 h5
      split at h4
      · rename_i hih
        rw [if_pos hih] at h5
        exact hrw.2 i r v h4 h5
      · cases h4
    · refine hlb b ?_
      rw [he]
      cases ad with
      | none => by_cases hc0 : c = 0 <;> simp [blk, hc0] at hb
      | some ad => by_cases hc0 : c = 0 <;> simp [blk, hc0, Addr.add] at hb ⊢ <;> exact hb)
  refine wpList_plain hg fun K hK => wp_upon ?_
  rw [hrun]
  refine hK _ _ ((hr g').out _ _ ⟨ρ', ?_⟩)
  rw [hd]
  exact r1.set hN ⟨r2, rfl⟩
theorem zeroCells_list (z : Array Value) (k : Nat) (hz : 0 < z.size) : (Builtin.zeroCells z k).toList = (List.replicate k z.toList).flatten := by
  apply List.ext_getElem?
  intro q
  have hun : ∀ r ∈ List.replicate k z.toList, r.length = z.size := fun r hr => by rw [List.eq_of_mem_replicate hr]; simp
  have hlen := flat_lenA hun
  rw [List.length_replicate] at hlen
  by_cases hq : q < k * z.size
  · have e := flat_at hun (i := q / z.size) (Nat.mod_lt q hz)
    rw [show q / z.size * z.size + q % z.size = q from by rw [Nat.mul_comm]; exact Nat.div_add_mod q _] at e
    rw [e]
    have h1 : q / z.size < k := (Nat.div_lt_iff_lt_mul hz).2 hq
    simp only [Builtin.zeroCells, Array.toList_map, Array.toList_range, List.getElem?_map, List.getElem?_range hq, Option.map_some]
    rw [List.getElem?_replicate, if_pos h1]
    simp [getElem!_pos, Nat.mod_lt q hz]
  · rw [List.getElem?_eq_none (by simp [Builtin.zeroCells]; omega), List.getElem?_eq_none (by omega)]
theorem zero_cells {M : Nat → Prop} {w : World} {z : Value} {zs : List AV} (hzs : z.cells.toList.map AV.v = zs) (hv : z.cells.toList.all (fun z => decide (vok z)) = true) (k : Nat) : Cells M w (List.replicate k zs).flatten (List.replicate k z.cells.toList).flatten := by
  subst hzs
  have e : (List.replicate k (z.cells.toList.map AV.v)).flatten = (List.replicate k z.cells.toList).flatten.map AV.v := by
    rw [← List.map_replicate, List.map_flatten]
  rw [e]
  refine ⟨by simp, fun j x u hj hu => ?_⟩
  rw [List.getElem?_map, hu] at hj
  simp only [Option.map_some, Option.some.injEq] at hj
  subst hj
  have hm : u ∈ z.cells.toList := by
    obtain ⟨r, hr, hu⟩ := List.mem_flatten.1 (List.mem_of_getElem? hu)
    rwa [List.eq_of_mem_replicate hr] at hu
  have : vok u := by simpa using List.all_eq_true.1 hv u hm
  exact ⟨.v u this, this.one⟩
/-- A part of a row's beginning, and zero values, where there is no room for these: a new row. -/
theorem Al_appendZ {d k g n i zz : Nat} {x y : Operand} {t ti e T : TypeId} {bytes : Nat} {zv : Value} {zs : List AV} {rows : List (List AV)} (ho : o.op = .call ⟨.builtin .append, #[x, y], #[t, ti]⟩) (hg : o.guard = none) (hd : o.dst = some d) (hN : d < N) (hc : conB o = true) (hT : R.ElemT P t e n bytes) (hti : P.underlying ti = some (.int .i64)) (hz : ∀ w, (zeroValue e).run P w = .ok zv w) (hn : 0 < n)
    (hzs : zv.cells.toList.map AV.v = zs) (hv : zv.cells.toList.all (fun z => decide (vok z)) = true) (hx : st.ev x = .ows k g n 0 i) (hob : st.ob k = some (g, .arr T n rows)) {zi : Int} (hy : st.ev y = .d (.v (.int .i64 zi))) (hzi : zi = (zz : Nat)) (hi : i ≤ rows.length) (hz0 : 0 < zz) {kt gt c : Nat} (htok : st.ob kt = some (gt, .op (capTok k g c))) (hcz : c < i + zz) (hlen : i + zz ≤ 4294967296) (hby : bytes ≤ 32768)
    (hr : ∀ g', Al P N M0 w0 ops Q l ((st.put d g' (.arr e n (rows.take i ++ List.replicate zz zs))).set d (.ow d g'))) (hdn : st.ob d = none) : Al P N M0 w0 ops Q (o :: l) st := by
  refine ⟨?_⟩
  rintro a w ⟨ρ, hsim⟩
  have hev := hsim.ev hc
  have h1 := hev x (mem_call ho x (by simp))
  have h2 := hev y (mem_call ho y (by simp))
  rw [hx] at h1
  rw [hy, hzi] at h2
  have h2 : a.eval y = .int .i64 (zz : Nat) := by generalize a.eval y = u at h2; cases h2; rfl
  obtain ⟨ad, len, c1, a', k1, k2, k3, k4, k5⟩ := h1
  obtain ⟨_, _, _, a3, len3, htk3⟩ := hsim.obj kt gt _ htok
  rw [k1] at htk3
  have hc1 : c = c1 := by cases htk3; rfl
  subst hc1
  obtain ⟨u, hu, hO⟩ := hsim.obj k g _ hob
  rw [k1] at hu; cases hu
  obtain ⟨ii, z, hii, hiz, hsize, hbytes, hzsz⟩ := hT.hi
  have hzz : z = zv := by
    have := hz w
    simp [zeroValue, typeInfo, hii, hiz] at this
    exact this
  subst hzz
  obtain ⟨vals0, hown0, hrw0, _⟩ := id hO
  have hun := unif_rows hrw0
  have hzl : zs.length = n := by rw [← hzs]; simp [hzsz]
  -- the cells ahead
  obtain ⟨olds, hol, hold, hoc⟩ : ∃ olds : List Value, olds.length = i * n ∧ (Builtin.firstCells ii.size i (.slice a' i c)).run P w.drew = .ok olds.toArray w.drew ∧ Cells (Mt M0 ρ st.ob) w (rows.take i).flatten olds := by
    rw [hsize]
    rcases Nat.eq_zero_or_pos i with rfl | hi0
    · refine ⟨[], by simp, ?_, by simp [Cells]⟩
      cases a' with
      | none => exact run_firstCells_none w.drew n 0 _ _
      | some a' => exact run_firstCells_some w.drew n 0 a' _ _ [] (by simp) (fun j v hj => by simp at hj)
    · obtain ⟨b, rfl, rfl⟩ := k5 hi0
      obtain ⟨cap, cur, vals, he, hgb, hnc, hcp, hsz, htk, hrw, hl, hlb⟩ := arr_at hO (b := b) rfl
      have e1 : i * n ≤ rows.length * n := Nat.mul_le_mul_right _ hi
      have e2 : rows.length * n ≤ cap * n := Nat.mul_le_mul_right _ hnc
      have hcur : ∀ q, q < i * n → cur.toList[q]? = vals.flatten[q]? := fun q hq => by rw [← htk, List.getElem?_take, if_pos (by omega)]
      refine ⟨cur.toList.take (i * n), by simp; omega, ?_, (by have h9 : cur.toList.length = cap * n := (Array.length_toList ..).trans hsz; rw [List.length_take, h9, flat_take hun, List.length_take, flat_lenA hun]; omega), fun j x z hj hz => ?_⟩
      · exact run_firstCells_some w.drew n i ⟨b, 0 * n, none⟩ _ _ _ (by simp; omega) (fun j v hj => by
          rw [List.getElem?_take] at hj
          split at hj
          · have hj2 : cur[j]? = some v := by simpa using hj
            rw [add_addr, Nat.zero_mul, Nat.zero_add]
            exact (cell_of_row w b j cur T (0, 0) hgb).trans hj2
          · cases hj)
      · rw [List.getElem?_take] at hz
        split at hz
        · rename_i hji
          rw [hcur j hji] at hz
          rw [flat_take hun, List.getElem?_take, if_pos hji] at hj
          obtain ⟨z', m1, m2, m3⟩ := rows_flat hrw hj
          rw [hz] at m1; cases m1
          exact ⟨m2, m3⟩
        · cases hz
  have hfit : Builtin.nextslicecap (i + zz) c * ii.bytes ≤ 281474976710656 := by
    rw [hbytes]
    exact growslice_fits (by omega) (Nat.le_trans (Nat.mul_le_mul hlen hby) (by decide))
  have hrun := Lib.run_append_grow_zeros (P := P) w t ti o.type e ii z .i64 .i64 hT.ht hti hii hiz a' i c olds hold zz hz0 (by omega) (by omega) (by omega) (by rw [hbytes]; exact Nat.le_trans (Nat.mul_le_mul (show zz ≤ 4294967296 by omega) hby) (by decide)) hfit
  have hG := grownCap_ge w (i + zz) c e
  have hGm := grownCap_le_maxLen w (i + zz) c e (by simp only [maxLen]; omega)
  generalize grownCap w (i + zz) c e = G at *
  generalize hcur' : olds.toArray ++ Builtin.zeroCells z.cells zz ++ Builtin.zeroCells z.cells (G - (i + zz)) = cur' at hrun
  have hcs : cur'.size = G * n := by
    rw [← hcur']
    simp [Builtin.zeroCells, hzsz, hol]
    rw [← Nat.add_mul, ← Nat.add_mul]; congr 1; omega
  have hct : cur'.toList.take ((i + zz) * n) = olds ++ (List.replicate zz z.cells.toList).flatten := by
    rw [← hcur', Array.toList_append, Array.toList_append, zeroCells_list z.cells zz (by omega)]
    rw [List.take_append, List.take_of_length_le (by simp [hol, hzsz, Nat.add_mul])]
    rw [show (i + zz) * n - (olds.toArray.toList ++ (List.replicate zz z.cells.toList).flatten).length = 0 from by simp [hol, hzsz, Nat.add_mul]]
    simp
  obtain ⟨g', ρ', r1, r2, r3⟩ := hsim.upd2 (w' := w.drew.alloc (.cells cur' e)) d ⟨rfl, rfl, rfl⟩ (by rw [World.size_alloc]; exact Nat.le_succ _) (fun b hb _ => heap_alloc_old w.drew _ hb) (x' := .slice (some ⟨w.heap.size, 0, none⟩) (i + zz) G) (o' := .arr e n (rows.take i ++ List.replicate zz zs))
    (fun b hb => .inl (by simp only [fpO, blk, Option.some.injEq] at hb; omega))
    (fun M' ρ' hK _ => by
      have hcl : Cells M' (w.drew.alloc (.cells cur' e)) ((rows.take i ++ List.replicate zz zs).flatten) (olds ++ (List.replicate zz z.cells.toList).flatten) := by
        rw [List.flatten_append]
        have c1 := hoc.mono hK
        have c2 := zero_cells (M := M') (w := w.drew.alloc (.cells cur' e)) hzs hv zz
        refine ⟨by simp [c1.1, c2.1], fun j x u hj hu => ?_⟩
        rcases Nat.lt_or_ge j olds.length with hjo | hjo
        · rw [List.getElem?_append_left (by rw [← c1.1]; exact hjo)] at hj
          rw [List.getElem?_append_left hjo] at hu
          exact c1.2 j x u hj hu
        · rw [List.getElem?_append_right (by rw [← c1.1]; exact hjo)] at hj
          rw [List.getElem?_append_right hjo] at hu
          rw [← c1.1] at hj
          exact c2.2 _ x u hj hu
      have hlen' : (rows.take i ++ List.replicate zz zs).length = i + zz := by simp; omega
      obtain ⟨vals', hv1, hv2⟩ := rows_of_flat (rows := rows.take i ++ List.replicate zz zs) (L := olds ++ (List.replicate zz z.cells.toList).flatten) (M := M') (w := w.drew.alloc (.cells cur' e)) (fun q hq => by
        rcases List.mem_append.1 hq with hq | hq
        · exact hun q (List.mem_of_mem_take hq)
        · rw [List.eq_of_mem_replicate hq]; exact hzl) (by rw [hlen']; simp [hol, hzsz, Nat.add_mul]) (fun q c' z' hq hz' => hcl.2 q c' z' hq hz')
      refine ⟨vals', ⟨by rw [hv1, hlen']; simp [hol, hzsz, Nat.add_mul], .inr ⟨w.heap.size, G, cur', by rw [hlen'], Nat.zero_le _, heap_alloc_new w.drew _, by rw [hlen']; exact hG, hGm, hcs, by rw [hlen', hct, hv1]⟩⟩, hv2, ⟨_, G, by rw [hlen']⟩, by rw [hlen']; simp only [maxI]; omega, fun b hb => ?_⟩
      simp only [blk, Option.some.injEq] at hb
      subst hb
      exact .inl hsim.ext.size)
  refine wpList_plain hg fun K hK => wp_upon ?_
  have e : (execOp a.eval o).run P w = .ok (.value (.slice (some ⟨w.heap.size, 0, none⟩) (i + zz) G)) (w.drew.alloc (.cells cur' e)) := by
    simp only [execOp, ho, resolve, invoke, builtin, Sem.run_bind, Sem.run_pure, Result.andThen_ok, List.map_toArray, List.map_cons, List.map_nil, k2, h2, Nat.sub_zero, hrun]
  rw [e]
  refine hK _ _ ((hr g').out _ _ ⟨ρ', ?_⟩)
  rw [hd]
  exact r1.set hN ⟨r2, rfl⟩
/-- Elements of another row of the call's own are appended. -/
theorem Al_appendOw {d k g k2 g2 : Nat} {s x : Operand} {t T T2 : TypeId} {n bytes : Nat} {rows news : List (List AV)} (ho : o.op = .call ⟨.builtin .append, #[s, x], #[t, t]⟩) (hg : o.guard = none) (hd : o.dst = some d) (hN : d < N) (hc : conB o = true) (hT : R.ElemT P t T n bytes) (hn : 1 ≤ n) (hsz : ∀ w, (sizeOf T).run P w = .ok n w)
    (hs : st.ev s = .ow k g) (hob : st.ob k = some (g, .arr T n rows)) (hx : st.ev x = .ow k2 g2) (hob2 : st.ob k2 = some (g2, .arr T2 n news)) (hn0 : 0 < news.length) (hlen : rows.length + news.length ≤ 4294967296) (hby : bytes ≤ 32768)
    (h : ∀ g', Al P N M0 w0 ops Q l ((st.put k g' (.arr T n (rows ++ news))).set d (.ow k g'))) : Al P N M0 w0 ops Q (o :: l) st := by
  refine ⟨?_⟩
  rintro a w ⟨ρ, hsim⟩
  have hev := hsim.ev hc
  have h1 := hev s (mem_call ho s (by simp))
  have h2 := hev x (mem_call ho x (by simp))
  rw [hs] at h1
  rw [hx] at h2
  obtain ⟨v, hv1, vals, hown, hrows, ⟨va, vc, hvf⟩, _, hlb⟩ := hsim.obj k g _ hob
  have hvs : a.eval s = v := by
    have := h1.1
    rw [hv1] at this
    exact (Option.some.inj this).symm
  have hvlen : ∀ r ∈ vals, r.length = n := fun r hr => by
    obtain ⟨i, hi, rfl⟩ := List.getElem_of_mem hr
    have hi' : i < rows.length := by rw [← hrows.1]; exact hi
    exact (hrows.2 i rows[i] vals[i] (by simp [hi']) (by simp [hi])).2.1
  -- the source's cells
  obtain ⟨us, hul, hur, hrun⟩ : ∃ us : List (List Value), (∀ r ∈ us, r.length = n) ∧ Rows (Mt M0 ρ st.ob) w n us news ∧
      ∃ v' w', (Builtin.append_ #[t, t] o.type #[v, a.eval x]).run P w = .ok v' w' ∧ w'.ownsRow 0 T n v' (rows.length + news.length) (vals.flatten ++ us.flatten) ∧ w.grownBy w' v.ownBlock ∧ (v'.ownBlock = v.ownBlock ∨ v'.ownBlock = some w.heap.size) := by
    obtain ⟨q1, _⟩ := h2
    obtain ⟨u, hu, hO⟩ := hsim.obj k2 g2 _ hob2
    rw [q1] at hu; cases hu
    obtain ⟨a2, c2, he2, hc2, _, hb2⟩ := hO.form
    obtain ⟨b2, rfl⟩ := hb2 (by omega)
    rw [he2] at hO ⊢
    obtain ⟨cap, cur, us, he, hgb, hnc, hcm, hsz, htk, hrw, hl, hlb⟩ := arr_at hO (b := b2) rfl
    have hul : ∀ r ∈ us, r.length = n := fun r hr => by
      obtain ⟨i, hi, rfl⟩ := List.getElem_of_mem hr
      have hi' : i < news.length := by rw [← hrw.1]; exact hi
      exact (hrw.2 i news[i] us[i] (by simp [hi']) (by simp [hi])).2.1
    have hul2 : us.length = news.length := hrw.1
    obtain ⟨v', w', h3, h4, h5, h6⟩ := R.run_append (P := P) w 0 t o.type T n bytes hT hn v rows.length vals.flatten hown ⟨b2, 0, none⟩ news.length c2 us.flatten (by rw [flatten_len hul, hul2]) (fun q u hq => by
        rw [add_addr, Nat.zero_add]
        rw [← htk, List.getElem?_take] at hq
        split at hq
        · exact (cell_of_row w b2 q cur T2 (0, 0) hgb).trans (by simpa using hq)
        · cases hq) (fun u hu => by
        obtain ⟨q, hq, rfl⟩ := List.getElem_of_mem hu
        have hfn := flat_lenA (unif_rows hrw)
        have hq2 : q < news.flatten.length := by rw [hfn, ← hul2, ← flatten_len hul]; exact hq
        obtain ⟨z, m1, m2, m3⟩ := rows_flat hrw (List.getElem?_eq_getElem hq2)
        rw [List.getElem?_eq_getElem hq] at m1; cases m1
        exact m3) (by unfold maxLen; omega) (Nat.le_trans (Nat.mul_le_mul hlen hby) (by decide)) (Nat.zero_le _)
    exact ⟨us, hul, hrw, v', w', h3, h4, h5, h6⟩
  obtain ⟨v', w', h3, h4, h5, h6⟩ := hrun
  have hblk : ∀ y : Value, (∃ a c m, y = .slice a m c) → blk y = y.ownBlock := fun y ⟨a, c, m, e⟩ => by
    subst e
    cases a <;> rfl
  have hv' : ∃ a c, v' = .slice a (rows.length + news.length) c := by
    rcases h4.2 with ⟨rfl, e⟩ | ⟨g2, cap, cur, rfl, _⟩
    · exact ⟨none, 0, by rw [e]⟩
    · exact ⟨_, cap, rfl⟩
  have hbv := hblk v ⟨va, vc, _, hvf⟩
  have hbv' := hblk v' (by obtain ⟨a, c, e⟩ := hv'; exact ⟨a, c, _, e⟩)
  have huniq : ∀ g2 o2 x, st.ob k = some (g2, o2) → ρ k g2 = some x → x = v := fun g2 o2 x e1 e2 => by
    rw [hob] at e1
    simp only [Option.some.injEq, Prod.mk.injEq] at e1
    obtain ⟨rfl, rfl⟩ := e1
    rw [hv1] at e2
    exact (Option.some.inj e2).symm
  obtain ⟨g', ρ', k1, k2⟩ := hsim.upd (w' := w') k ⟨h5.os, h5.tape, h5.output⟩ h5.size (fun b hb hne => h5.block b hb (by rw [← hbv]; exact fun e => hne g _ v hob hv1 e.symm)) (x' := v') (o' := .arr T n (rows ++ news))
    (fun b hb => by
      have hb : blk v' = some b := hb
      rw [hbv'] at hb
      rcases h6 with e | e
      · rw [e, ← hbv] at hb
        exact .inr ⟨g, _, v, hob, hv1, hb⟩
      · rw [e] at hb
        simp at hb
        exact .inl (by omega))
    (fun M' ρ' hK _ => ⟨vals ++ us, by rw [List.length_append, List.flatten_append]; exact h4, by
      have r1 := hrows.mono hK
      have r2 := hur.mono hK
      refine ⟨by simp [r1.1, r2.1], fun i r v h7 h8 => ?_⟩
      rcases Nat.lt_or_ge i rows.length with hi | hi
      · rw [List.getElem?_append_left hi] at h7
        rw [List.getElem?_append_left (by rw [r1.1]; exact hi)] at h8
        exact r1.2 i r v h7 h8
      · rw [List.getElem?_append_right hi] at h7
        rw [List.getElem?_append_right (by rw [r1.1]; exact hi), r1.1] at h8
        exact r2.2 _ r v h7 h8, by obtain ⟨a, c, e⟩ := hv'; exact ⟨a, c, by rw [e, List.length_append]⟩, by simp [maxI]; omega, fun b hb => by
      rw [hbv'] at hb
      rcases h6 with e | e
      · rw [e, ← hbv] at hb
        exact hlb b hb
      · rw [e] at hb
        simp at hb
        exact .inl (by have := hsim.ext.size; omega)⟩)
  refine wpList_plain hg fun K hK => wp_upon ?_
  have e : (execOp a.eval o).run P w = .ok (.value v') w' := by
    simp only [execOp, ho, resolve, invoke, builtin, Sem.run_bind, Sem.run_pure, Result.andThen_ok, List.map_toArray, List.map_cons, List.map_nil, hvs, h3]
  rw [e]
  refine hK _ _ ((h g').out _ _ ⟨ρ', ?_⟩)
  rw [hd]
  exact k1.set hN ⟨k2, by obtain ⟨a, c, e⟩ := hv'; rw [e]; rfl⟩
/-- Two rows of the call's own lie apart. -/
theorem Al_overlaps {f : FuncId} {d k g k2 g2 n lo h : Nat} {x y : Operand} {tS tR e T T2 : TypeId} {ts : Array TypeId} {rows rows2 : List (List AV)} (hcf : ∀ (args : Array Value) (w : World), (callFunc f args).run P w = ((Extern.SlicesOverlaps.overlaps #[tS, tS] #[tR] args).run P w).andThen fun v w' => .ok (.value v) w') (ho : o.op = .call ⟨.value (.func f), #[x, y], ts⟩) (hg : o.guard = none) (hd : o.dst = some d) (hN : d < N) (hc : conB o = true) (ht : P.underlying tS = some (.slice e)) (hz : ∀ w, (sizeOf e).run P w = .ok n w) (hn : 0 < n)
    (hx : st.ev x = .ow k2 g2) (hob2 : st.ob k2 = some (g2, .arr T2 n rows2)) (hr2 : 0 < rows2.length) (hy : st.ev y = .ows k g n lo h) (hob : st.ob k = some (g, .arr T n rows)) (hkk : Nat.beq k2 k = false) (hlh : lo < h)
    (hr : Al P N M0 w0 ops Q l (st.set d (.d (.v (.bool false))))) : Al P N M0 w0 ops Q (o :: l) st := by
  refine ⟨?_⟩
  rintro a w ⟨ρ, hsim⟩
  have hev := hsim.ev hc
  have h1 := hev x (mem_call ho x (by simp))
  have h2 := hev y (mem_call ho y (by simp))
  rw [hx] at h1
  rw [hy] at h2
  obtain ⟨k1, _⟩ := h1
  obtain ⟨u, hu, hO⟩ := hsim.obj k2 g2 _ hob2
  rw [k1] at hu; cases hu
  obtain ⟨ad, len, cp, a', m1, m2, m3, m4, m5⟩ := h2
  obtain ⟨b, rfl, rfl⟩ := m5 hlh
  obtain ⟨u, hu, hO1⟩ := hsim.obj k g _ hob
  rw [m1] at hu; cases hu
  obtain ⟨cap, cur, vals, he, hgb, hnc, hcp, hsz, htk, hrw, hl, hlb⟩ := arr_at hO1 (b := b) rfl
  obtain ⟨a2, c2, he2, hc2, _, hb2⟩ := hO.form
  obtain ⟨b2, rfl⟩ := hb2 (by omega)
  rw [he2] at hO k1
  obtain ⟨cap2, cur2, vals2, he3, hgb2, hnc2, _, hsz2, _⟩ := arr_at hO (b := b2) rfl
  have hne : b2 ≠ b := fun e => by
    have := hsim.apart k2 g2 _ k g _ _ _ b hob2 hob k1 m1 (by simp [blk, e]) (by simp [blk])
    subst this
    simp at hkk
  have hcap : 0 < cap := by cases he; omega
  refine wpList_plain hg fun K hK => wp_upon ?_
  have hov := Lib.run_overlaps_apart (P := P) w tS tR e ht n hz ⟨b2, 0, none⟩ ⟨b, lo * n, none⟩ rows2.length c2 (h - lo) (cp - lo) hne T2 T cur2.size cur.size (by simp [World.shape?, hgb2]) (by simp [World.shape?, hgb]) (by rw [hsz]; exact Nat.pos_iff_ne_zero.1 (Nat.mul_pos hcap hn)) (by simp [World.frozen?, hgb2]) (by simp [World.frozen?, hgb2])
  have e : (execOp a.eval o).run P w = .ok (.value (.bool false)) w := by
    simp only [execOp, ho, resolve, Act.eval, Deferred.ofValue, invoke, Sem.run_bind, Sem.run_pure, Result.andThen_ok, List.map_toArray, List.map_cons, List.map_nil]
    rw [hcf]
    have hx' : a.eval x = .slice (some ⟨b2, 0, none⟩) rows2.length c2 := he2
    have hy' : a.eval y = .slice (some ⟨b, lo * n, none⟩) (h - lo) (cp - lo) := m2
    show ((Extern.SlicesOverlaps.overlaps #[tS, tS] #[tR] #[a.eval x, a.eval y]).run P w).andThen _ = _
    rw [hx', hy', hov]
    rfl
  rw [e]
  refine hK _ _ (hr.out _ _ ⟨ρ, ?_⟩)
  rw [hd]
  exact hsim.set hN (.v _ trivial)
/-- Whether a slice is nil: then it has no elements. -/
theorem Al_eqnil {d : Nat} {x : Operand} {t e yt : TypeId} {n : Nat} {rows : List (List AV)} (ho : o.op = .binOp .eql t x (.const (.slice none 0 0)) yt) (hg : o.guard = none) (hd : o.dst = some d) (hN : d < N) (hc : conB o = true) (ht : P.underlying t = some (.slice e)) (hx : st.ev x = .d (.sl n rows))
    (hr : ∀ b : Bool, (b = true → rows = []) → Al P N M0 w0 ops Q l (st.set d (.d (.v (.bool b))))) : Al P N M0 w0 ops Q (o :: l) st := by
  refine ⟨?_⟩
  rintro a w ⟨ρ, hsim⟩
  have h1 := hsim.ev hc x (by simp [opsOf, ho, Op.operands])
  rw [hx] at h1
  have h1 : Rep (Mt M0 ρ st.ob) w (.sl n rows) (a.eval x) := h1
  have hf : ∃ ad len cap, a.eval x = .slice ad len cap ∧ (ad = none → rows = []) := by
    generalize a.eval x = y at h1
    cases h1 with
    | nil n a c => exact ⟨_, _, _, rfl, fun _ => rfl⟩
    | sl n rows b o' cap f hl hcap => exact ⟨_, _, _, rfl, fun h => by cases h⟩
  obtain ⟨ad, len, cap, he, hn⟩ := hf
  refine wpList_plain hg fun K hK => wp_upon ?_
  have e : (execOp a.eval o).run P w = .ok (.value (.bool ad.isNone)) w := by
    simp only [execOp, ho, he, Sem.run_bind, Sem.run_pure, Result.andThen_ok]
    have hq : (eqGuard .eql t x (.const (.slice none 0 0)) (.slice ad len cap) (a.eval (.const (.slice none 0 0)))).run P w = .ok () w := by
      simp [eqGuard, Act.eval]
    have h2 := Lib.run_eql_slice_nil (P := P) w t e ad len cap 0 0 ht
    first | (rw [hq]; simp only [Result.andThen_ok]; exact (by simp [Act.eval, h2])) | simp [Act.eval, h2]
  rw [e]
  refine hK _ _ ((hr ad.isNone (fun h => hn (by simpa using h))).out _ _ ⟨ρ, ?_⟩)
  rw [hd]
  exact hsim.set hN (.v _ trivial)
/-- A datum that leads to no memory. -/
def plainA : AV → Bool
  | .v _ => true
  | .row cs => cs.all fun | .v _ => true | _ => false
  | .tup cs => cs.all fun | .v _ => true | _ => false
  | _ => false
theorem Rep.plain {M M' : Nat → Prop} {w : World} {a : AV} {x : Value} (h : Rep M w a x) (hp : plainA a = true) : Rep M' w a x := by
  cases h with
  | v _ h => exact .v _ h
  | row cs vs hl h1 hr =>
    refine .row cs vs hl h1 fun j a x h2 h3 => ?_
    have h4 := hr j a x h2 h3
    have := List.all_eq_true.1 (show cs.all _ = true from hp) a (List.mem_of_getElem? h2)
    cases h4 with
    | v _ h => exact .v _ h
    | _ => simp at this
  | tup cs vs hl hr =>
    refine .tup cs vs hl fun j a x h2 h3 => ?_
    have h4 := hr j a x h2 h3
    have := List.all_eq_true.1 (show cs.all _ = true from hp) a (List.mem_of_getElem? h2)
    cases h4 with
    | v _ h => exact .v _ h
    | _ => simp at this
  | _ => cases hp
/-- Arguments: data, or rows of the call's own. -/
def ArgsR (st : ASt) : List Operand → List AV → Prop
  | [], [] => True
  | x :: xs, a :: aa => (Sub (st.ev x) (.d a) ∨ ∃ k g T n rows, st.ev x = .ow k g ∧ st.ob k = some (g, .arr T n rows) ∧ a = .sl n rows) ∧ ArgsR st xs aa
  | _, _ => False
def NoRows (M : Nat → Prop) (ρ : Rho) (ob : Nat → Option (Nat × AO)) : Nat → Prop := fun b => M b ∧ ¬ ∃ k g T n rows h, ob k = some (g, .arr T n rows) ∧ ρ k g = some h ∧ blk h = some b
theorem ArgsR.rep {B : Base} {M : Nat → Prop} {w : World} {ρ : Rho} {a : Act} (h3 : ∀ k g ob, st.ob k = some (g, ob) → ∃ h, ρ k g = some h ∧ ORep B M w ρ h ob) : ∀ {xs : List Operand} {aa : List AV}, ArgsR st xs aa → (∀ x ∈ xs, SRep M w ρ (st.ev x) (a.eval x)) → AllRep (NoRows M ρ st.ob) w aa (xs.map a.eval)
  | [], [], _, _ => ⟨rfl, fun j a x h => by simp at h⟩
  | x :: xs, b :: aa, h, hs => by
    have ih := ArgsR.rep h3 h.2 fun y hy => hs y (by simp [hy])
    have h1 := hs x (by simp)
    have hx : Rep (NoRows M ρ st.ob) w b (a.eval x) := by
      rcases h.1 with h5 | ⟨k, g, T, n, rows, h5, h6, rfl⟩
      · exact (show Rep M w b (a.eval x) from h5 M w ρ _ h1).mono (Known.sub fun b hb => hb.1)
      · rw [h5] at h1
        obtain ⟨k1, _⟩ := h1
        obtain ⟨u, hu, hO⟩ := h3 k g _ h6
        rw [k1] at hu; cases hu
        exact hO.frz (Known.sub fun b hb => hb.1) fun b hb hm => hm.2 ⟨k, g, T, n, rows, _, h6, k1, hb⟩
    refine ⟨by simp [ih.1], fun j c y h5 h6 => ?_⟩
    cases j with
    | zero => simp at h5 h6; subst h5 h6; exact hx
    | succ j => exact ih.2 j c y (by simpa using h5) (by simpa using h6)
/-- A call that reads rows of the call's own, and yields what leads to no memory. -/
theorem Pu_callR {f : FuncId} {xs : Array Operand} {ts : Array TypeId} {aa : List AV} {res : AV} (hc : ACall P f aa res) (ho : o.op = .call ⟨.value (.func f), xs, ts⟩) (hp : plainA res = true) (ha : ArgsR st xs.toList aa) : Pu P st o (.d res) := fun B M ρ w a hM h2 h3 hev K hK => by
  have h4 := ha.rep (a := a) h3 fun x hx => h2 x (mem_call ho x (by simpa using hx))
  have h5 := hc.2 (NoRows M ρ st.ob) w _ (fun b hb => hM b hb.1) h4
  have e : (execOp a.eval o).run P w = .ok (.enter f (xs.toList.map a.eval).toArray) w := by
    simp only [execOp, ho, resolve, Act.eval, Deferred.ofValue, invoke, Sem.run_bind, Sem.run_pure, Result.andThen_ok]
    rw [hc.1]
    congr 2
    apply Array.ext'
    simp
  rw [e]
  exact h5.mono fun e w' ⟨v, h6, h7, h8⟩ => ⟨v, h6, hK v w' (Kn.ext h7) (h8.plain hp)⟩
end
end Go.Proofs.YtojehmkkbdedaaaGreat.A
end

section
namespace Go.Proofs.YtojehmkkbdedaaaGreat.A
open Go Go.RowKit
/-- Whatever reads as the one reads as the other. -/
def ASub (a a' : AV) : Prop := ∀ (M : Nat → Prop) (w : World) (x : Value), Rep M w a x → Rep M w a' x
theorem ASub.rfl {a : AV} : ASub a a := fun _ _ _ h => h
theorem ASub.eq {a b : AV} (h : a = b) : ASub a b := h ▸ ASub.rfl
theorem ASub.nil {n : Nat} : ASub (.v (.slice none 0 0)) (.sl n []) := fun _ _ _ h => by cases h; exact .nil n _ _
theorem ASub.sub {a a' : AV} (h : ASub a a') : Sub (.d a) (.d a') := fun M w _ x hx => h M w x hx
def LSub : List AV → List AV → Prop
  | [], [] => True
  | a :: l, b :: m => ASub a b ∧ LSub l m
  | _, _ => False
theorem LSub.refl : ∀ (l : List AV), LSub l l
  | [] => trivial
  | _ :: l => ⟨ASub.rfl, LSub.refl l⟩
theorem LSub.get : ∀ {l m : List AV}, LSub l m → l.length = m.length ∧ ∀ (j : Nat) (b : AV), m[j]? = some b → ∃ a, l[j]? = some a ∧ ASub a b
  | [], [], _ => ⟨rfl, fun j b h => by simp at h⟩
  | a :: l, b :: m, h => by
    obtain ⟨h1, h2⟩ := h.2.get
    refine ⟨by simp [h1], fun j c hc => ?_⟩
    cases j with
    | zero => simp at hc; subst hc; exact ⟨a, rfl, h.1⟩
    | succ j => exact h2 j c (by simpa using hc)
  | [], _ :: _, h => h.elim
  | _ :: _, [], h => h.elim
def RSub : List (List AV) → List (List AV) → Prop
  | [], [] => True
  | a :: l, b :: m => LSub a b ∧ RSub l m
  | _, _ => False
theorem RSub.get : ∀ {l m : List (List AV)}, RSub l m → l.length = m.length ∧ ∀ (j : Nat) (b : List AV), m[j]? = some b → ∃ a, l[j]? = some a ∧ LSub a b
  | [], [], _ => ⟨rfl, fun j b h => by simp at h⟩
  | a :: l, b :: m, h => by
    obtain ⟨h1, h2⟩ := h.2.get
    refine ⟨by simp [h1], fun j c hc => ?_⟩
    cases j with
    | zero => simp at hc; subst hc; exact ⟨a, rfl, h.1⟩
    | succ j => exact h2 j c (by simpa using hc)
  | [], _ :: _, h => h.elim
  | _ :: _, [], h => h.elim
theorem ASub.sl {n : Nat} {rows rows' : List (List AV)} (h : RSub rows rows') : ASub (.sl n rows) (.sl n rows') := fun M w x hx => by
  obtain ⟨h1, h2⟩ := h.get
  cases hx with
  | nil n a c =>
    cases rows' with
    | nil => exact .nil n a c
    | cons r l => simp at h1
  | sl n rows b o cap f hl hcap hn hc hr =>
    rw [h1]
    refine .sl n rows' b o cap f (by omega) (by omega) (fun i r hi => ?_) (fun i r j a hi hj => ?_) (fun i r j a hi hj => ?_)
    · obtain ⟨q, h3, h4⟩ := h2 i r hi
      rw [← h4.get.1]; exact hn i q h3
    · obtain ⟨q, h3, h4⟩ := h2 i r hi
      obtain ⟨c, h5, _⟩ := h4.get.2 j a hj
      exact hc i q j c h3 h5
    · obtain ⟨q, h3, h4⟩ := h2 i r hi
      obtain ⟨c, h5, h6⟩ := h4.get.2 j a hj
      exact h6 _ _ _ (hr i q j c h3 h5)
theorem ASub.row {cs cs' : List AV} (h : LSub cs cs') : ASub (.row cs) (.row cs') := fun M w x hx => by
  obtain ⟨h1, h2⟩ := h.get
  cases hx with
  | row cs vs hl hone hr =>
    refine .row cs' vs (by omega) hone (fun j a x hj hx => ?_)
    obtain ⟨c, h3, h4⟩ := h2 j a hj
    exact h4 _ _ _ (hr j c x h3 hx)
end Go.Proofs.YtojehmkkbdedaaaGreat.A
namespace Go.Proofs.YtojehmkkbdedaaaGreat.A
open Go Go.RowKit
def CCells (M : Nat → Prop) (w : World) (ρ : Rho) (cs : List CV) (vs : List Value) : Prop := vs.length = cs.length ∧ ∀ (j : Nat) (c : CV) (x : Value), cs[j]? = some c → vs[j]? = some x → CRep M w ρ c x ∧ x.oneCell' = true
theorem CCells.append {M : Nat → Prop} {w : World} {ρ : Rho} {aa bs : List CV} {vs us : List Value} (h : CCells M w ρ aa vs) (k : CCells M w ρ bs us) : CCells M w ρ (aa ++ bs) (vs ++ us) := ⟨by simp [h.1, k.1], fun j a x h1 h2 => by
  by_cases hj : j < aa.length
  · rw [List.getElem?_append_left hj] at h1
    rw [List.getElem?_append_left (by rw [h.1]; exact hj)] at h2
    exact h.2 j a x h1 h2
  · rw [List.getElem?_append_right (by omega)] at h1
    rw [List.getElem?_append_right (by rw [h.1]; omega), h.1] at h2
    exact k.2 _ a x h1 h2⟩
theorem CCells.take {M : Nat → Prop} {w : World} {ρ : Rho} {aa : List CV} {vs : List Value} (h : CCells M w ρ aa vs) (n : Nat) : CCells M w ρ (aa.take n) (vs.take n) := ⟨by simp [h.1], fun j a x h1 h2 => by
  rw [List.getElem?_take] at h1 h2
  split at h1
  · rename_i hj; rw [if_pos hj] at h2; exact h.2 j a x h1 h2
  · cases h1⟩
theorem CCells.drop {M : Nat → Prop} {w : World} {ρ : Rho} {aa : List CV} {vs : List Value} (h : CCells M w ρ aa vs) (n : Nat) : CCells M w ρ (aa.drop n) (vs.drop n) := ⟨by simp [h.1], fun j a x h1 h2 => by
  rw [List.getElem?_drop] at h1 h2
  exact h.2 _ a x h1 h2⟩
theorem Cells.cc {M : Nat → Prop} {w : World} {ρ : Rho} {cs : List AV} {vs : List Value} (h : Cells M w cs vs) : CCells M w ρ (cs.map .d) vs := ⟨by simp [h.1], fun j c x h1 h2 => by
  rw [List.getElem?_map] at h1
  obtain ⟨a, h3, rfl⟩ := Option.map_eq_some_iff.1 h1
  exact h.2 j a x h3 h2⟩
theorem CCells.reps {M : Nat → Prop} {w : World} {ρ : Rho} {cs : List CV} {vs : List Value} (h : CCells M w ρ cs vs) : (∀ v ∈ vs, v.oneCell' = true) ∧ CReps M w ρ cs vs := ⟨fun v hv => by
  obtain ⟨j, hj, rfl⟩ := List.getElem_of_mem hv
  have hj2 : j < cs.length := by rw [← h.1]; exact hj
  exact (h.2 j cs[j] _ (by simp [hj2]) (by simp [hj])).2, h.1, fun j c x h1 h2 => (h.2 j c x h1 h2).1⟩
theorem CReps.cc {M : Nat → Prop} {w : World} {ρ : Rho} {cs : List CV} {vs : List Value} (h : CReps M w ρ cs vs) (h1 : ∀ v ∈ vs, v.oneCell' = true) : CCells M w ρ cs vs := ⟨h.1, fun j c x h2 h3 => ⟨h.2 j c x h2 h3, h1 x (List.mem_of_getElem? h3)⟩⟩
/-- The cells of what a slot holds. -/
def cellsS : SV → Option (List CV)
  | .d (.tup _) => none
  | .d a => some ((cellsA a).map .d)
  | .bx k g o => some [.bx k g o]
  | .ow k g => some [.ow k g]
  | .ag l => some l
  | .eq v => some [.eq v]
  | _ => none
theorem SRep.cc {M : Nat → Prop} {w : World} {ρ : Rho} {s : SV} {x : Value} {cs : List CV} (h : SRep M w ρ s x) (hc : cellsS s = some cs) : CCells M w ρ cs x.cells.toList := by
  have one : ∀ (c : CV) (x : Value), CRep M w ρ c x → x.oneCell' = true → CCells M w ρ [c] x.cells.toList := fun c x h1 h2 => by
    rw [one_cells h2]
    exact ⟨rfl, fun j a y h3 h4 => by
      match j, h3, h4 with
      | 0, h3, h4 => simp at h3 h4; subst h3 h4; exact ⟨h1, h2⟩
      | j + 1, h3, _ => simp at h3⟩
  cases s with
  | d a =>
    have hd : cellB a = true ∧ (cellsA a).map CV.d = cs := by
      cases a <;> simp [cellsS] at hc <;> first | exact ⟨rfl, hc⟩ | cases hc
    rw [← hd.2]
    exact (Rep.cells h hd.1).cc
  | bx k g o =>
    obtain rfl := Option.some.inj hc
    obtain ⟨_, b, _, _, h3⟩ := id h
    exact one (.bx k g o) x h (by rw [h3]; rfl)
  | ow k g =>
    obtain rfl := Option.some.inj hc
    exact one (.ow k g) x h h.2
  | eq v =>
    obtain rfl := Option.some.inj hc
    exact one (.eq v) x h (by rw [h.1]; exact h.2)
  | ag l =>
    obtain rfl := Option.some.inj hc
    obtain ⟨vs, rfl, h1, h2⟩ := h
    exact h2.cc h1
  | _ => cases hc
def fillC (place : Nat → Option (Nat × Nat)) (cells : List CV) : List (Nat × List CV) → Option (List CV)
  | [] => some cells
  | (i, a) :: rest => match place i with
    | none => none
    | some (off, size) => if a.length ≠ size || off + a.length > cells.length then none else fillC place (cells.take off ++ a ++ cells.drop (off + a.length)) rest
section
variable {P : Program} {N : Nat} {M0 : Nat → Prop} {w0 : Base} {ops : Array Oper} {Q : Exit → ASt → Prop} {o : Oper} {l : List Oper} {st : ASt}
def PartsC (st : ASt) : List (Nat × Operand) → List (Nat × List CV) → Prop
  | [], [] => True
  | (i, x) :: xs, (j, a) :: aa => i = j ∧ cellsS (st.ev x) = some a ∧ PartsC st xs aa
  | _, _ => False
theorem run_fillC {M : Nat → Prop} {w : World} {ρ : Rho} {a : Act} (place : Nat → Option (Nat × Nat)) : ∀ (ps : List (Nat × Operand)) (aa : List (Nat × List CV)) (cs r : List CV) (vs : Array Value), PartsC st ps aa → (∀ p ∈ ps, SRep M w ρ (st.ev p.2) (a.eval p.2)) → CCells M w ρ cs vs.toList → fillC place cs aa = some r →
    ∃ us : Array Value, Instr.fill place vs (ps.map fun (i, x) => (i, a.eval x)) = some us ∧ CCells M w ρ r us.toList
  | [], [], cs, r, vs, _, _, hc, hr => by simp only [fillC, Option.some.injEq] at hr; subst hr; exact ⟨vs, rfl, hc⟩
  | (i, x) :: ps, (j, b) :: aa, cs, r, vs, hp, hs, hc, hr => by
    obtain ⟨rfl, hx, hp⟩ := hp
    have h1 := hs (i, x) (by simp)
    have h2 := SRep.cc h1 hx
    simp only [fillC] at hr
    simp only [List.map_cons, Instr.fill]
    cases hpl : place i with
    | none => rw [hpl] at hr; cases hr
    | some p =>
      obtain ⟨off, size⟩ := p
      rw [hpl] at hr
      simp only at hr ⊢
      split at hr
      · cases hr
      · rename_i hn
        simp only [Bool.or_eq_true, decide_eq_true_eq, not_or, Nat.not_lt] at hn
        obtain ⟨h3, h4⟩ := hn
        have hl1 : (a.eval x).cells.size = b.length := by rw [← h2.1]; simp
        have hl2 : vs.size = cs.length := by rw [← hc.1]; simp
        have h3' : b.length = size := by simpa using h3
        rw [if_neg (by simp only [Bool.or_eq_true, decide_eq_true_eq, not_or, Nat.not_lt]; exact ⟨by simp; omega, by omega⟩)]
        refine run_fillC place ps aa _ r _ hp (fun p hp' => hs p (by simp [hp'])) ?_ hr
        have h5 := fold_splice off (a.eval x).cells.toList 0 vs (by simp; omega)
        have e : (Array.foldl (fun cs (p : Value × Nat) => cs.setIfInBounds (off + p.2) p.1) vs (a.eval x).cells.zipIdx).toList = vs.toList.take off ++ (a.eval x).cells.toList ++ vs.toList.drop (off + b.length) := by
          rw [← Array.foldl_toList, Array.toList_zipIdx, h5]
          simp [hl1]
        have e' : (Array.foldl (fun cs (x : Value × Nat) => match x with | (c, j) => cs.setIfInBounds (off + j) c) vs (a.eval x).cells.zipIdx).toList = _ := e
        rw [e']
        exact ((hc.take off).append h2).append (hc.drop _)
  | [], _ :: _, _, _, _, h, _, _, _ => h.elim
  | _ :: _, [], _, _, _, h, _, _, _ => h.elim
/-- A struct of which some cells hold objects of the call's own. -/
theorem Pu_buildAg {t : TypeId} {ps : Array (Nat × Operand)} {aa : List (Nat × List CV)} {fs : Array Field} {places : Array (Nat × Nat)} {zs : List Value} {r : List CV} (ho : o.op = .build t ps) (ht : P.underlying t = some (.struct fs)) (hz : ∀ w, (zeroValue t).run P w = .ok (.agg zs.toArray) w)
    (hp : ∀ w, (fs.mapM (fun f => do pure (f.offset, ← sizeOf f.type)) : Sem (Array (Nat × Nat))).run P w = .ok places w) (hv : zs.all (fun z => decide (vok z)) = true) (ha : PartsC st ps.toList aa) (hr : fillC (places[·]?) (zs.map fun z => .d (.v z)) aa = some r) : Pu P st o (.ag r) := Pu_q fun B M ρ w a h2 _ => by
  have hz0 : CCells M w ρ (zs.map fun z => .d (.v z)) zs := by
    have := (cells_v (M := M) (w := w) hv).cc (ρ := ρ)
    rwa [List.map_map] at this
  obtain ⟨us, h3, h4⟩ := run_fillC (M := M) (w := w) (ρ := ρ) (a := a) (places[·]?) ps.toList aa _ r zs.toArray ha (fun p hp => h2 p.2 (by
    simp only [opsOf, ho, Op.operands]
    exact List.mem_map.2 ⟨p, hp, rfl⟩)) hz0 hr
  refine ⟨.agg us, ?_, us.toList, by simp, h4.reps⟩
  have e : (ps.map fun (p : Nat × Operand) => (p.1, a.eval p.2)).toList = ps.toList.map fun (i, x) => (i, a.eval x) := by simp
  simp only [execOp, ho, Instr.build, Sem.run_bind, hz, Result.andThen_ok, run_underlying ht, hp, Value.cells]
  rw [e]
  simp only [h3, Sem.run_pure, Sem.run_bind, Result.andThen_ok]
theorem cv_one {M : Nat → Prop} {w : World} {ρ : Rho} {r : List CV} {vs : List Value} {j : Nat} {s : SV} {x : Value} (h : CReps M w ρ r vs) (h1 : ∀ v ∈ vs, v.oneCell' = true) (hs : (r.map CV.sv)[j]? = some s) (hx : vs[j]? = some x) : SRep M w ρ s x ∧ x.oneCell' = true := by
  rw [List.getElem?_map] at hs
  obtain ⟨c, h2, rfl⟩ := Option.map_eq_some_iff.1 hs
  exact ⟨CV.rep.2 (h.2 j c x h2 hx), h1 x (List.mem_of_getElem? hx)⟩
/-- A variable, made with such a value. -/
theorem Al_boxAg {d : Nat} {T : TypeId} {x : Operand} {r : List CV} (ho : o.op = .box T x) (hg : o.guard = none) (hd : o.dst = some d) (hN : d < N) (hc : conB o = true) (hx : st.ev x = .ag r)
    (h : ∀ g, Al P N M0 w0 ops Q l ((st.put d g (.box T (r.map CV.sv))).set d (.bx d g 0))) : Al P N M0 w0 ops Q (o :: l) st := by
  refine ⟨?_⟩
  rintro a w ⟨ρ, hsim⟩
  have hm := hsim.ev hc x (by simp [opsOf, ho, Op.operands])
  rw [hx] at hm
  obtain ⟨vs, hy, h1, hr⟩ := hm
  have hE : Ev.Ext w (w.alloc (.cells vs.toArray T)) := (Below.refl _ _).alloc (Nat.le_refl _) _
  obtain ⟨g', ρ', k1, k2⟩ := hsim.upd (w' := w.alloc (.cells vs.toArray T)) d ⟨rfl, rfl, rfl⟩ hE.size (fun b hb _ => hE.block b hb) (x' := .pointer (some ⟨w.heap.size, 0, none⟩)) (o' := .box T (r.map CV.sv)) (fun b hb => by simp [blk] at hb; exact .inl (by omega))
    (fun M' ρ' hK hle => ⟨w.heap.size, vs.toArray, rfl, .inl hsim.ext.size, heap_alloc_new _ _, by simp [hr.1], fun j s x h2 h3 => by
      have h3' : vs[j]? = some x := by simpa using h3
      exact cv_one ((hr.mono hK).rho hle) h1 h2 h3'⟩)
  refine wpList_plain hg fun K hK => wp_upon ?_
  have e : (execOp a.eval o).run P w = .ok (.value (.pointer (some ⟨w.heap.size, 0, none⟩))) (w.alloc (.cells vs.toArray T)) := by
    simp [execOp, ho, hy, Instr.box, newVar, newRow, newObj, Value.cells, Sem.run, Sem.run_bind]
  rw [e]
  refine hK _ _ ((h g').out _ _ ⟨ρ', ?_⟩)
  rw [hd]
  exact k1.set hN ⟨_, _, k2, rfl, rfl⟩
/-- Some cells of a variable of the call's own are written with such a value. -/
theorem Al_storeAg {t T : TypeId} {x y : Operand} {k g off n : Nat} {cs : List SV} {r : List CV} (ho : o.op = .store t x y) (hg : o.guard = none) (hd : o.dst = none) (hc : conB o = true) (hz : ∀ w, (sizeOf t).run P w = .ok n w) (hx : st.ev x = .bx k g off) (hob : st.ob k = some (g, .box T cs)) (hy : st.ev y = .ag r) (hn : r.length = n) (hoff : off + n ≤ cs.length)
    (h : Al P N M0 w0 ops Q l (st.put k g (.box T (cs.take off ++ r.map CV.sv ++ cs.drop (off + n))))) : Al P N M0 w0 ops Q (o :: l) st := by
  refine ⟨?_⟩
  rintro a w ⟨ρ, hsim⟩
  have hmem : x ∈ opsOf o ∧ y ∈ opsOf o := by simp [opsOf, ho, Op.operands]
  have hmx := hsim.ev hc x hmem.1
  have hmy := hsim.ev hc y hmem.2
  rw [hx] at hmx
  rw [hy] at hmy
  obtain ⟨u, b, h4, h5, h6⟩ := hmx
  obtain ⟨u', h7, b', vs, rfl, h8, h9, h10, h11⟩ := hsim.obj k g _ hob
  rw [h4] at h7; cases h7
  simp only [blk, Option.some.injEq] at h5
  subst h5
  obtain ⟨us, hyy, hu1, hur⟩ := hmy
  have hul := hur.1
  obtain ⟨w', vs', k1, k2, k3, k4, k5, k6, k7, k8, k9⟩ := run_storeRow (P := P) b' off T us 0 w vs h9 (by omega) hu1
  have hs2 := hsim.mod (w' := w') hob h4 ⟨k7, k8, k9⟩ (by omega) (fun c hc' hne => k5 c (fun e => hne (by simp [blk, e]))) (o' := .box T (cs.take off ++ r.map CV.sv ++ cs.drop (off + n))) (fun M' hK _ => ⟨b', vs', rfl, h8, k2, by simp; omega, fun j s' z h12 h13 => by
    rw [k4 j, Nat.add_zero] at h13
    by_cases e1 : j < off
    · rw [List.append_assoc, List.getElem?_append_left (by simp; omega), List.getElem?_take, if_pos e1] at h12
      rw [if_neg (by omega)] at h13
      exact ⟨(h11 j s' z h12 h13).1.mono hK, (h11 j s' z h12 h13).2⟩
    · by_cases e2 : j < off + n
      · rw [List.getElem?_append_left (by simp; omega), List.getElem?_append_right (by simp; omega)] at h12
        rw [if_pos (by omega)] at h13
        simp only [List.length_take, Nat.min_eq_left (show off ≤ cs.length by omega)] at h12
        exact cv_one (hur.mono hK) hu1 h12 h13
      · rw [List.getElem?_append_right (by simp; omega)] at h12
        simp only [List.length_append, List.length_take, List.length_map, Nat.min_eq_left (show off ≤ cs.length by omega), List.getElem?_drop] at h12
        rw [show off + n + (j - (off + r.length)) = j from by omega] at h12
        rw [if_neg (by omega)] at h13
        exact ⟨(h11 j s' z h12 h13).1.mono hK, (h11 j s' z h12 h13).2⟩⟩)
  refine wpList_plain hg fun K hK => wp_upon ?_
  have e : (execOp a.eval o).run P w = .ok .skip w' := by
    simp only [execOp, ho, h6, hyy, Instr.storeAt, Instr.sureAddr, storeVar, Sem.run_bind, Sem.run_pure, Result.andThen_ok, hz, Value.cells]
    rw [if_neg (by simp; omega)]
    simp only [Sem.run_bind, Sem.run_pure, Result.andThen_ok, k1]
  rw [e]
  refine hK _ _ (h.out _ _ ⟨ρ, ?_⟩)
  rw [hd]
  exact hs2
theorem Pu_indexArrb {t e : TypeId} {x i : Operand} {n j m k g off : Nat} {z : Int} (ho : o.op = .indexAddr t x i) (ht : P.underlying t = some (.array m e)) (hz : ∀ w, (sizeOf e).run P w = .ok n w) (hx : st.ev x = .bx k g off) (hi : st.ev i = .d (.v (.int .i64 z))) (hk : z = j) (hlt : j < m) : Pu P st o (.bx k g (off + j * n)) := Pu_q fun B M ρ w a h2 _ => by
  have mm : x ∈ opsOf o ∧ i ∈ opsOf o := by simp [opsOf, ho, Op.operands]
  obtain ⟨e2, _⟩ := ev_v h2 mm.2 hi
  have hm := h2 x mm.1
  rw [hx] at hm
  obtain ⟨u, b, h4, h5, h6⟩ := hm
  subst hk
  refine ⟨.pointer (some ⟨b, off + j * n, none⟩), ?_, u, b, h4, h5, rfl⟩
  simp only [execOp, ho, h6, e2, Instr.indexAt, Sem.run_bind, asIntOf, Sem.run_pure, Result.andThen_ok, run_underlying ht, Instr.sureAddr]
  rw [if_pos ⟨by omega, by omega⟩]
  simp only [Sem.run_bind, hz, Result.andThen_ok, Int.toNat_natCast, add_addr, Sem.run_pure]
/-- A literal, as a row of the call's own. -/
theorem Al_sliceLit {d : Nat} {t e : TypeId} {len n : Nat} {ps : Array (Nat × Operand)} {aa : List (Nat × AV)} {zs : Value} {rows : List (List AV)} (ho : o.op = .buildSlice t len ps) (hg : o.guard = none) (hd : o.dst = some d) (hN : d < N) (hc : conB o = true) (ht : P.underlying t = some (.slice e)) (hs : ∀ w, (sizeOf e).run P w = .ok n w) (hz : ∀ w, (zeroValue e).run P w = .ok zs w) (hzs : zs.cells.size = n) (hn0 : 0 < n) (hl0 : 0 < len) (hmax : len * n ≤ 16777216)
    (hv : zs.cells.toList.all (fun z => decide (vok z)) = true) (ha : PartsOk st ps.toList aa) (hr : fillA (fun i => some (i * n, n)) (zerosA zs.cells.toList (len * n)) aa = some rows.flatten) (hlen : rows.length = len) (hn : (rows.all fun r => r.length == n) = true)
    (h : ∀ g, Al P N M0 w0 ops Q l ((st.put d g (.arr e n rows)).set d (.ow d g))) : Al P N M0 w0 ops Q (o :: l) st := by
  refine ⟨?_⟩
  rintro a w ⟨ρ, hsim⟩
  have h2 := hsim.ev hc
  have hzl : zs.cells.toList.length = n := by simpa using hzs
  have hz0 : Cells (Mt M0 ρ st.ob) w (zerosA zs.cells.toList (len * n)) ((Array.range (len * n)).map (zs.cells[· % zs.cells.size]!)).toList := by
    refine ⟨by simp [zerosA], fun j b x h3 h4 => ?_⟩
    unfold zerosA at h3
    have hj : j < len * n := by
      have := (List.getElem?_eq_some_iff.1 h3).1
      simpa using this
    rw [List.getElem?_map, List.getElem?_range hj] at h3
    simp only [Option.map_some, Option.some.injEq] at h3
    simp only [Array.toList_map, Array.toList_range, List.getElem?_map, List.getElem?_range hj, Option.map_some, Option.some.injEq] at h4
    have hlt : j % n < zs.cells.size := by rw [hzs]; exact Nat.mod_lt _ hn0
    have e1 : zs.cells[j % zs.cells.size]! = zs.cells[j % n] := by rw [hzs]; simp [hlt]
    have e2 : zs.cells.toList.getD (j % zs.cells.toList.length) undef = zs.cells[j % n] := by rw [hzl]; simp [List.getD_eq_getElem?_getD, hlt]
    rw [e1] at h4
    rw [e2] at h3
    subst h3 h4
    have := List.all_eq_true.1 hv zs.cells[j % n] (by simp)
    have hvk : vok zs.cells[j % n] := by simpa using this
    exact ⟨.v _ hvk, hvk.one⟩
  obtain ⟨us, h3, h4⟩ := run_fill (M := Mt M0 ρ st.ob) (w := w) (ρ := ρ) (a := a) (fun i => some (i * n, n)) ps.toList aa _ _ _ ha (fun p hp => h2 p.2 (by
    simp only [opsOf, ho, Op.operands]
    exact List.mem_map.2 ⟨p, hp, rfl⟩)) hz0 hr
  have hE : Ev.Ext w (w.alloc (.cells us e)) := (Below.refl _ _).alloc (Nat.le_refl _) _
  have hn' : ∀ r ∈ rows, r.length = n := fun r hr' => by have := List.all_eq_true.1 hn r hr'; simpa using this
  have hlm : len ≤ len * n := Nat.le_mul_of_pos_right _ hn0
  have hus : us.toList.length = rows.length * n := by rw [h4.1, flat_len hn']
  have e1 : (ps.map fun (p : Nat × Operand) => (p.1, a.eval p.2)).toList = ps.toList.map fun (i, x) => (i, a.eval x) := by simp
  have hrun : (execOp a.eval o).run P w = .ok (.value (.slice (some ⟨w.heap.size, 0, none⟩) len len)) (w.alloc (.cells us e)) := by
    simp only [execOp, ho, Instr.buildSlice, Sem.run_bind, run_underlying ht, Result.andThen_ok, hs]
    rw [if_neg (by show ¬ _ > 16777216; omega)]
    simp only [Sem.run_bind, Sem.run_pure, Result.andThen_ok]
    rw [if_neg (by intro h; have : 0 < len * n := Nat.mul_pos hl0 hn0; omega)]
    simp only [Sem.run_bind, Sem.run_pure, Result.andThen_ok, hz]
    rw [e1]
    simp only [h3, Sem.run_pure, Sem.run_bind, Result.andThen_ok, newRow, newObj, Sem.run]
    rfl
  obtain ⟨g', ρ', k1, k2⟩ := hsim.upd (w' := w.alloc (.cells us e)) d ⟨rfl, rfl, rfl⟩ hE.size (fun b hb _ => hE.block b hb) (x' := .slice (some ⟨w.heap.size, 0, none⟩) len len) (o' := .arr e n rows) (fun b hb => by simp [blk] at hb; exact .inl (by omega))
    (fun M' ρ' hK _ => by
      obtain ⟨vals, hv1, hv2⟩ := rows_of_flat (M := M') (w := w.alloc (.cells us e)) hn' hus (fun q c x h5 h6 => ⟨(h4.2 q c x h5 h6).1.mono hK, (h4.2 q c x h5 h6).2⟩)
      refine ⟨vals, ⟨by rw [hv1, hus], .inr ⟨w.heap.size, len, us, by rw [hlen], Nat.zero_le _, heap_alloc_new _ _, by omega, by unfold maxLen; omega, by rw [← hlen, ← hus]; simp, ?_⟩⟩, hv2, ⟨_, len, by rw [hlen]⟩, by unfold maxI; omega, fun b hb => ?_⟩
      · rw [hv1, ← hus, List.take_length]
      · simp only [blk, Option.some.injEq] at hb
        subst hb
        exact .inl hsim.ext.size)
  refine wpList_plain hg fun K hK => wp_upon ?_
  rw [hrun]
  refine hK _ _ ((h g').out _ _ ⟨ρ', ?_⟩)
  rw [hd]
  exact k1.set hN ⟨k2, rfl⟩
end
end Go.Proofs.YtojehmkkbdedaaaGreat.A
end

section
namespace Go.Proofs.YtojehmkkbdedaaaGreat.R
open Go Go.RowKit Go.Maps Go.MapKept Go.ChangeMaps
/-- Keys of a type as plain data. -/
structure KeyT (P : Program) (k : TypeId) (κ : Type) (kv : κ → Value) (ok : κ → Prop) : Prop where
  check : ∀ (w : World) (em : Bool) (a : κ), ok a → (Instr.checkKey em 10000 k (kv a)).run P w = .ok () w
  find : ∀ (w : World) (a : κ), ok a → ∀ es : List MapEntry, (∀ e ∈ es, ∃ c, ok c ∧ e.key = kv c) →
    ((Instr.findKey k (kv a) es).run P w = .ok none w ∧ ∀ e ∈ es, e.key ≠ kv a) ∨ ∃ j e, (Instr.findKey k (kv a) es).run P w = .ok (some (j, e.val)) w ∧ es[j]? = some e ∧ e.key = kv a
  stays : ∀ (w : World) (a : κ), ok a → (Instr.keyThatStays (kv a) (kv a)).run P w = .ok (kv a) w
  inj : ∀ a b, kv a = kv b → a = b
theorem KeyT.of {P : Program} {k : TypeId} {κ : Type} {kv : κ → Value} {ok : κ → Prop} (K : Keyed P k) (lit : ∀ a, ok a → ∃ l, keyOf P k (kv a) = some l) (inj : ∀ a b, kv a = kv b → a = b) : KeyT P k κ kv ok where
  check w em a ha := by obtain ⟨l, hl⟩ := lit a ha; exact K.check w em hl
  find w a ha es he := by
    obtain ⟨l, hl⟩ := lit a ha
    exact K.find w hl es fun e h => by obtain ⟨c, hc, hk⟩ := he e h; rw [hk]; exact lit c hc
  stays w a ha := by obtain ⟨l, hl⟩ := lit a ha; exact K.stays w hl
  inj := inj
/-- Block b holds the map m, of at most n entries. -/
def Mp {κ α : Type} (kv : κ → Value) (ok : κ → Prop) (V : World → Value → α → Prop) (w : World) (b n : Nat) (m : κ → Option α) : Prop :=
  ∃ es clock, w.heap[b]? = some (.map es clock) ∧ Stamped es clock ∧ es.size ≤ n ∧ (∀ e ∈ es.toList, ∃ a x, ok a ∧ e.key = kv a ∧ m a = some x ∧ V w e.val x) ∧ (∀ a x, m a = some x → ∃ e ∈ es.toList, e.key = kv a)
section
variable {P : Program} {k t e : TypeId} {κ α : Type} {kv : κ → Value} {ok : κ → Prop} {V V' : World → Value → α → Prop} {w w' : World} {b n : Nat} {m : κ → Option α}
theorem Mp.made (kv : κ → Value) (ok : κ → Prop) (V : World → Value → α → Prop) (w : World) : Mp kv ok V (w.alloc (.map #[] 0)) w.heap.size 0 (fun _ => none) :=
  ⟨#[], 0, (MapKept.heap_alloc w _).1, stamped_empty 0, by simp, by simp, by simp⟩
theorem Mp.mono (h : Mp kv ok V w b n m) (hb : w'.heap[b]? = w.heap[b]?) (hV : ∀ v x, V w v x → V' w' v x) : Mp kv ok V' w' b n m := by
  obtain ⟨es, clock, h1, h2, h3, h4, h5⟩ := h
  refine ⟨es, clock, hb.trans h1, h2, h3, fun e he => ?_, h5⟩
  obtain ⟨a, x, ha, hk, hm, hv⟩ := h4 e he
  exact ⟨a, x, ha, hk, hm, hV _ _ hv⟩
theorem Mp.more (h : Mp kv ok V w b n m) {n' : Nat} (hn : n ≤ n') : Mp kv ok V w b n' m := by
  obtain ⟨es, clock, h1, h2, h3, h4, h5⟩ := h
  exact ⟨es, clock, h1, h2, Nat.le_trans h3 hn, h4, h5⟩
theorem Mp.lt (h : Mp kv ok V w b n m) : b < w.heap.size := by
  obtain ⟨es, clock, h1, _⟩ := h
  exact (Array.getElem?_eq_some_iff.1 h1).1
theorem Mp.keys (h : Mp kv ok V w b n m) (T : KeyT P k κ kv ok) : ∀ a x, m a = some x → ok a := by
  obtain ⟨es, clock, h1, h2, h3, h4, h5⟩ := h
  intro a x hm
  obtain ⟨e, he, hk⟩ := h5 a x hm
  obtain ⟨a', x', ha', hk', _, _⟩ := h4 e he
  exact T.inj _ _ (hk.symm.trans hk') ▸ ha'
/-- What is looked up. -/
theorem Mp.look (h : Mp kv ok V w b n m) (T : KeyT P k κ kv ok) (ht : P.underlying t = some (.map k e)) {z : Value} (hz : ∀ w, (zeroValue e).run P w = .ok z w) (a : κ) (ha : ok a) (c : Bool) :
    ∃ v, (Instr.lookup t (.map (some b)) (kv a) c).run P w = .ok (if c then .tuple #[v, .bool (m a).isSome] else v) w ∧ (∀ x, m a = some x → V w v x) ∧ (m a = none → v = z) := by
  obtain ⟨es, clock, h1, h2, h3, h4, h5⟩ := h
  have hes : ∀ e ∈ es.toList, ∃ c, ok c ∧ e.key = kv c := fun e he => by
    obtain ⟨a', x', ha', hk', _, _⟩ := h4 e he
    exact ⟨a', ha', hk'⟩
  rcases T.find w a ha es.toList hes with ⟨g1, g2⟩ | ⟨j, e0, g1, g2, g3⟩
  · have hn : m a = none := by
      cases hm : m a with
      | none => rfl
      | some x => obtain ⟨e, he, hk⟩ := h5 a x hm; exact (g2 e he hk).elim
    refine ⟨z, ?_, fun x hx => (by rw [hn] at hx; cases hx), fun _ => rfl⟩
    cases c <;> simp [Instr.lookup, run_underlying ht, MapKept.run_getObj_map h1, T.check w _ a ha, g1, hz, Result.andThen, hn]
  · have he0 : e0 ∈ es.toList := List.mem_of_getElem? g2
    obtain ⟨a', x', ha', hk', hm', hv'⟩ := h4 e0 he0
    obtain rfl := T.inj _ _ (g3.symm.trans hk')
    refine ⟨e0.val, ?_, fun x hx => (by rw [hm'] at hx; cases hx; exact hv'), fun hx => (by rw [hm'] at hx; cases hx)⟩
    cases c <;> simp [Instr.lookup, run_underlying ht, MapKept.run_getObj_map h1, T.check w _ a ha, g1, Result.andThen, hm']
theorem grown_set (w : World) (b : Nat) (o : Obj) : w.grownBy (setBlock w b o) (some b) :=
  ⟨rfl, rfl, rfl, by simp [setBlock], fun i _ hi => by simp [setBlock, Array.getElem?_setIfInBounds]; intro e; exact (hi (by rw [e])).elim⟩
theorem set_at {w : World} {b : Nat} (h : b < w.heap.size) (o : Obj) : (setBlock w b o).heap[b]? = some o := by simp [setBlock, h]
/-- A store. -/
theorem Mp.store [DecidableEq κ] (h : Mp kv ok V w b n m) (T : KeyT P k κ kv ok) (ht : P.underlying t = some (.map k e)) (hn : n < maxLen) (a : κ) (ha : ok a) (v : Value) (x : α)
    (hst : ∀ w', w.grownBy w' (some b) → w'.heap.size = w.heap.size → ∀ v x, V w v x → V w' v x) (hv : V w v x) :
    ∃ w', (Instr.mapUpdate t (.map (some b)) (kv a) v).run P w = .ok () w' ∧ Mp kv ok V w' b (n + 1) (fun c => if c = a then some x else m c) ∧ w.grownBy w' (some b) ∧ w'.heap.size = w.heap.size := by
  have hlt := h.lt
  obtain ⟨es, clock, h1, h2, h3, h4, h5⟩ := h
  have hes : ∀ e ∈ es.toList, ∃ c, ok c ∧ e.key = kv c := fun e he => by
    obtain ⟨a', x', ha', hk', _, _⟩ := h4 e he
    exact ⟨a', ha', hk'⟩
  have hsz : ∀ o, (setBlock w b o).heap.size = w.heap.size := fun o => by simp [setBlock]
  rcases T.find w a ha es.toList hes with ⟨g1, g2⟩ | ⟨j, e0, g1, g2, g3⟩
  · refine ⟨setBlock w b (.map (es.push ⟨kv a, v, clock⟩) (clock + 1)), ?_, ⟨_, _, set_at hlt _, stamped_push h2 g2, by simp; omega, fun e he => ?_, fun c y hc => ?_⟩, grown_set _ _ _, hsz _⟩
    · simp [Instr.mapUpdate, run_underlying ht, MapKept.run_getObj_map h1, T.check w false a ha, g1, MapKept.run_setObj_map _ h1, Result.andThen, setBlock]
    · simp only [Array.toList_push, List.mem_append, List.mem_singleton] at he
      rcases he with he | rfl
      · obtain ⟨a', x', ha', hk', hm', hv'⟩ := h4 e he
        refine ⟨a', x', ha', hk', ?_, hst _ (grown_set _ _ _) (hsz _) _ _ hv'⟩
        dsimp only; rw [if_neg (fun e1 => g2 e he (by rw [hk', e1]))]; exact hm'
      · exact ⟨a, x, ha, rfl, by simp, hst _ (grown_set _ _ _) (hsz _) _ _ hv⟩
    · by_cases e1 : c = a
      · subst e1; exact ⟨_, by simp; exact .inr rfl, rfl⟩
      · dsimp only at hc; rw [if_neg e1] at hc
        obtain ⟨e, he, hk⟩ := h5 c y hc
        exact ⟨e, by simp at he ⊢; exact .inl he, hk⟩
  · have hj : es[j]? = some e0 := by simpa using g2
    have hjl : j < es.toList.length := (List.getElem?_eq_some_iff.1 g2).1
    have hlist : (es.modify j (fun e' => { e' with key := kv a, val := v })).toList = es.toList.set j { e0 with key := kv a, val := v } := by rw [Array.toList_modify, modify_eq_set _ _ _ _ g2]
    have hap := ((stamped_iff es clock).1 h2).2.2
    have other : ∀ (i : Nat) (y : MapEntry), es.toList[i]? = some y → i ≠ j → y.key ≠ kv a := fun i y hi hne hk => by
      have hil : i < es.toList.length := (List.getElem?_eq_some_iff.1 hi).1
      have e1 := (List.getElem?_eq_some_iff.1 hi).2
      have e2 := (List.getElem?_eq_some_iff.1 g2).2
      rcases Nat.lt_or_gt_of_ne hne with hlt | hlt
      · exact List.pairwise_iff_getElem.1 hap i j hil hjl hlt (by rw [e1, e2, hk, g3])
      · exact List.pairwise_iff_getElem.1 hap j i hjl hil hlt (by rw [e1, e2, hk, g3])
    refine ⟨setBlock w b (.map (es.modify j (fun e' => { e' with key := kv a, val := v })) clock), ?_, ⟨_, _, set_at hlt _, stamped_modify h2 _ _ (fun _ _ => rfl) (fun e' _ he' => by rw [hj] at he'; cases he'; exact g3.symm), by simp; omega, fun e he => ?_, fun c y hc => ?_⟩, grown_set _ _ _, hsz _⟩
    · simp [Instr.mapUpdate, run_underlying ht, MapKept.run_getObj_map h1, T.check w false a ha, g1, hj, g3, T.stays w a ha, MapKept.run_setObj_map _ h1, Result.andThen, setBlock]
    · rw [hlist] at he
      obtain ⟨i, hi, ex⟩ := List.getElem_of_mem he
      rw [List.getElem_set] at ex
      split at ex
      · subst ex
        exact ⟨a, x, ha, rfl, by simp, hst _ (grown_set _ _ _) (hsz _) _ _ hv⟩
      · rename_i hne
        have hi' : i < es.toList.length := by simpa using hi
        have hie : es.toList[i]? = some e := by rw [List.getElem?_eq_getElem hi', ex]
        obtain ⟨a', x', ha', hk', hm', hv'⟩ := h4 e (List.mem_of_getElem? hie)
        refine ⟨a', x', ha', hk', ?_, hst _ (grown_set _ _ _) (hsz _) _ _ hv'⟩
        dsimp only; rw [if_neg (fun e1 => other i e hie (fun h => hne h.symm) (by rw [hk', e1]))]; exact hm'
    · rw [hlist]
      by_cases e1 : c = a
      · subst e1; exact ⟨{ e0 with key := kv c, val := v }, List.mem_iff_getElem.2 ⟨j, by simpa using hjl, by simp⟩, rfl⟩
      · dsimp only at hc; rw [if_neg e1] at hc
        obtain ⟨e, he, hk⟩ := h5 c y hc
        obtain ⟨i, hi, ex⟩ := List.getElem_of_mem he
        have hne : j ≠ i := fun hh => by
          subst hh
          have : es.toList[j] = e0 := (List.getElem?_eq_some_iff.1 g2).2
          rw [ex] at this
          subst this
          exact e1 (T.inj _ _ (hk.symm.trans g3))
        exact ⟨e, List.mem_iff_getElem.2 ⟨i, by simpa using hi, by rw [List.getElem_set_ne hne]; exact ex⟩, hk⟩
/-- A key is struck. -/
theorem Mp.drop [DecidableEq κ] (h : Mp kv ok V w b n m) (T : KeyT P k κ kv ok) (ht : P.underlying t = some (.map k e)) (a : κ) (ha : ok a) (ty : TypeId)
    (hst : ∀ w', w.grownBy w' (some b) → w'.heap.size = w.heap.size → ∀ v x, V w v x → V w' v x) :
    ∃ w', (Builtin.delete_ #[t, k] ty #[.map (some b), kv a]).run P w = .ok (.tuple #[]) w' ∧ Mp kv ok V w' b n (fun c => if c = a then none else m c) ∧ w.grownBy w' (some b) ∧ w'.heap.size = w.heap.size := by
  have hlt := h.lt
  obtain ⟨es, clock, h1, h2, h3, h4, h5⟩ := h
  have hes : ∀ e ∈ es.toList, ∃ c, ok c ∧ e.key = kv c := fun e he => by
    obtain ⟨a', x', ha', hk', _, _⟩ := h4 e he
    exact ⟨a', ha', hk'⟩
  have hsz : ∀ o, (setBlock w b o).heap.size = w.heap.size := fun o => by simp [setBlock]
  rcases T.find w a ha es.toList hes with ⟨g1, g2⟩ | ⟨j, e0, g1, g2, g3⟩
  · refine ⟨setBlock w b (.map es clock), ?_, ⟨_, _, set_at hlt _, h2, h3, fun e he => ?_, fun c y hc => ?_⟩, grown_set _ _ _, hsz _⟩
    · simp [Builtin.delete_, run_underlying ht, MapKept.run_getObj_map h1, T.check w _ a ha, g1, MapKept.run_setObj_map _ h1, Result.andThen, setBlock]
    · obtain ⟨a', x', ha', hk', hm', hv'⟩ := h4 e he
      refine ⟨a', x', ha', hk', ?_, hst _ (grown_set _ _ _) (hsz _) _ _ hv'⟩
      dsimp only; rw [if_neg (fun e1 => g2 e he (by rw [hk', e1]))]; exact hm'
    · dsimp only at hc
      split at hc
      · cases hc
      · exact h5 c y hc
  · have hjl : j < es.toList.length := (List.getElem?_eq_some_iff.1 g2).1
    have hjs : j < es.size := by simpa using hjl
    have hsub : (es.eraseIdxIfInBounds j).toList = es.toList.eraseIdx j := by
      unfold Array.eraseIdxIfInBounds
      rw [dif_pos hjs]
      simp
    have hap := ((stamped_iff es clock).1 h2).2.2
    have other : ∀ (i : Nat) (y : MapEntry), es.toList[i]? = some y → i ≠ j → y.key ≠ kv a := fun i y hi hne hk => by
      have hil : i < es.toList.length := (List.getElem?_eq_some_iff.1 hi).1
      have e1 := (List.getElem?_eq_some_iff.1 hi).2
      have e2 := (List.getElem?_eq_some_iff.1 g2).2
      rcases Nat.lt_or_gt_of_ne hne with hlt | hlt
      · exact List.pairwise_iff_getElem.1 hap i j hil hjl hlt (by rw [e1, e2, hk, g3])
      · exact List.pairwise_iff_getElem.1 hap j i hjl hil hlt (by rw [e1, e2, hk, g3])
    refine ⟨setBlock w b (.map (es.eraseIdxIfInBounds j) clock), ?_, ⟨_, _, set_at hlt _, stamped_erase h2 j, Nat.le_trans (MapFrom.size_erase es j) h3, fun e he => ?_, fun c y hc => ?_⟩, grown_set _ _ _, hsz _⟩
    · simp [Builtin.delete_, run_underlying ht, MapKept.run_getObj_map h1, T.check w _ a ha, g1, MapKept.run_setObj_map _ h1, Result.andThen, setBlock]
    · rw [hsub] at he
      obtain ⟨i, hne, hi⟩ := List.mem_eraseIdx_iff_getElem?.1 he
      obtain ⟨a', x', ha', hk', hm', hv'⟩ := h4 e (List.mem_of_getElem? hi)
      refine ⟨a', x', ha', hk', ?_, hst _ (grown_set _ _ _) (hsz _) _ _ hv'⟩
      dsimp only; rw [if_neg (fun e1 => other i e hi hne (by rw [hk', e1]))]; exact hm'
    · dsimp only at hc
      split at hc
      · cases hc
      · rename_i e1
        obtain ⟨e, he, hk⟩ := h5 c y hc
        obtain ⟨i, hi, ex⟩ := List.getElem_of_mem he
        refine ⟨e, ?_, hk⟩
        rw [hsub]
        refine List.mem_eraseIdx_iff_getElem?.2 ⟨i, fun hh => ?_, by rw [List.getElem?_eq_getElem hi, ex]⟩
        subst hh
        have : es.toList[i] = e0 := (List.getElem?_eq_some_iff.1 g2).2
        rw [ex] at this
        subst this
        exact e1 (T.inj _ _ (hk.symm.trans g3))
end
section
variable {P : Program} {w : World} {ops : Array Oper} {rest : List Oper} {o : Oper} {a : Act} {Q : Exit → Act → World → Prop}
end
theorem int_key0 {P : Program} {t : TypeId} (ht : P.underlying t = some (.int .i64)) : KeyT P t Int (Value.int .i64) (fun a => -9223372036854775808 ≤ a ∧ a ≤ 9223372036854775807) :=
  .of (Go.Maps.int_keyed ht) (fun a ha => ⟨_, Go.Maps.keyOf_int_mk ht (by simp only [Lit.wf, Bool.and_eq_true, decide_eq_true_eq]; exact ha)⟩) (fun a b h => by simpa using h)
end Go.Proofs.YtojehmkkbdedaaaGreat.R
namespace Go.Proofs.YtojehmkkbdedaaaGreat.R
open Go Go.RowKit
/-- All blocks but that of v, as they were. -/
def But (w w' : World) (v : Value) : Prop := w.grownBy w' v.ownBlock
theorem But.refl (w : World) (v : Value) : But w w v := ⟨rfl, rfl, rfl, Nat.le_refl _, fun _ _ _ => rfl⟩
theorem But.trans {a b c : World} {v v' : Value} (h : But a b v) (h' : But b c v') (hv : v'.ownBlock = v.ownBlock) : But a c v :=
  ⟨h'.os.trans h.os, h'.tape.trans h.tape, h'.output.trans h.output, Nat.le_trans h.size h'.size, fun k hk hne => (h'.block k (Nat.lt_of_lt_of_le hk h.size) (by rw [hv]; exact hne)).trans (h.block k hk hne)⟩
/-- the first place of which p is true -/
def idxB {α : Type} (p : α → Bool) (l : List α) : Int := match l.findIdx? p with | some i => i | none => -1
def NoTo {α : Type} (p : α → Bool) (l : List α) (k : Nat) : Prop := ∀ (i : Nat) (x : α), i < k → l[i]? = some x → p x = false
theorem NoTo.zero {α : Type} (p : α → Bool) (l : List α) : NoTo p l 0 := fun i x h => by omega
theorem NoTo.next {α : Type} {p : α → Bool} {l : List α} {k : Nat} (h : NoTo p l k) {x : α} (hx : l[k]? = some x) (hp : p x = false) : NoTo p l (k + 1) := fun i y hi hy => by
  by_cases e : i = k
  · subst e; rw [hx] at hy; cases hy; exact hp
  · exact h i y (by omega) hy
theorem NoTo.found {α : Type} {p : α → Bool} {l : List α} {k : Nat} (h : NoTo p l k) {x : α} (hx : l[k]? = some x) (hp : p x = true) : idxB p l = k := by
  have hlt : k < l.length := (List.getElem?_eq_some_iff.1 hx).1
  have : l.findIdx? p = some k := by
    rw [List.findIdx?_eq_some_iff_getElem]
    refine ⟨hlt, ?_, fun j hj => ?_⟩
    · have := (List.getElem?_eq_some_iff.1 hx).2; rw [this]; exact hp
    · rw [h j _ hj (List.getElem?_eq_getElem (by omega))]; simp
  unfold idxB; rw [this]
theorem NoTo.all {α : Type} {p : α → Bool} {l : List α} (h : NoTo p l l.length) : idxB p l = -1 := by
  have : l.findIdx? p = none := by
    rw [List.findIdx?_eq_none_iff]
    intro x hx
    obtain ⟨i, hi, rfl⟩ := List.getElem_of_mem hx
    exact h i _ hi (List.getElem?_eq_getElem hi)
  unfold idxB; rw [this]
/-- what is left of a row in which those of which p is true go -/
def strike {α : Type} (p : α → Bool) (l : List α) : List α := l.filter fun s => !p s
theorem strike_snoc {α : Type} (p : α → Bool) (l : List α) {j : Nat} (hj : j < l.length) : strike p (l.take (j + 1)) = strike p (l.take j) ++ (if p l[j] then [] else [l[j]]) := by
  unfold strike
  rw [List.take_succ_eq_append_getElem hj, List.filter_append]
  cases hpx : p l[j] <;> simp [hpx]
theorem flat_take {n : Nat} : ∀ (cur : List (List Value)) (i : Nat), (∀ r ∈ cur, r.length = n) → cur.flatten.take (i * n) = (cur.take i).flatten
  | [], i, _ => by simp
  | r :: c, 0, _ => by simp
  | r :: c, i + 1, h => by
    have hr := h r (by simp)
    have ih := flat_take c i fun x hx => h x (by simp [hx])
    rw [List.flatten_cons, List.take_succ_cons, List.flatten_cons, ← ih, show (i + 1) * n = r.length + i * n from by rw [hr, Nat.add_mul]; omega, List.take_length_add_append]
theorem flat_drop {n : Nat} : ∀ (cur : List (List Value)) (i : Nat), (∀ r ∈ cur, r.length = n) → cur.flatten.drop (i * n) = (cur.drop i).flatten
  | [], i, _ => by simp
  | r :: c, 0, _ => by simp
  | r :: c, i + 1, h => by
    have hr := h r (by simp)
    have ih := flat_drop c i fun x hx => h x (by simp [hx])
    rw [List.flatten_cons, List.drop_succ_cons, ← ih, show (i + 1) * n = r.length + i * n from by rw [hr, Nat.add_mul]; omega, List.drop_append, List.drop_of_length_le (by omega : r.length ≤ r.length + i * n), Nat.add_sub_cancel_left, List.nil_append]
theorem flat_set {n : Nat} (cur : List (List Value)) (i : Nat) (r : List Value) (h : ∀ r ∈ cur, r.length = n) (hi : i < cur.length) (hr : r.length = n) :
    cur.flatten.take (i * n) ++ r ++ cur.flatten.drop (i * n + n) = (cur.set i r).flatten := by
  rw [flat_take cur i h, show i * n + n = (i + 1) * n from by rw [Nat.add_mul]; omega, flat_drop cur (i + 1) h, List.set_eq_take_append_cons_drop, if_pos hi]
  simp
theorem setCells_heap (g : Nat) (e : TypeId) : ∀ (vs : List Value) (a : Nat) (w : World) (L : List Value), w.heap[g]? = some (.cells L.toArray e) → a + vs.length ≤ L.length →
    (w.setCells g a vs).heap[g]? = some (.cells (L.take a ++ vs ++ L.drop (a + vs.length)).toArray e)
  | [], a, w, L, h, _ => by simpa [World.setCells] using h
  | v :: r, a, w, L, h, hl => by
    simp only [List.length_cons] at hl
    have h1 : (w.setCell ⟨g, a, none⟩ v).heap[g]? = some (.cells (L.set a v).toArray e) := by simp [World.setCell, Array.getElem?_modify, h]
    rw [World.setCells, setCells_heap g e r (a + 1) _ _ h1 (by simpa using by omega)]
    have e1 : (L.set a v).take (a + 1) = L.take a ++ [v] := by
      rw [List.take_succ_eq_append_getElem (by simp; omega)]
      simp
      rw [List.take_set_of_le (Nat.le_refl _)]
    have e2 : (L.set a v).drop (a + 1 + r.length) = L.drop (a + 1 + r.length) := List.drop_set_of_lt (by omega)
    rw [e1, e2]
    simp [Nat.add_assoc, Nat.add_comm 1]
section
variable {α : Type} {n : Nat} {e : TypeId}
/-- The row in the midst of DeleteFunc: in front the i that are kept, behind what was there from j on. L: each element's cells, and what they read as. -/
structure DelAt (e : TypeId) (n : Nat) (w : World) (g : Nat) (L : List (List Value × α)) (tail : List Value) (p : α → Bool) (i j : Nat) : Prop where
  ex : ∃ cur : List (List Value), w.heap[g]? = some (.cells (cur.flatten ++ tail).toArray e) ∧ (∀ r ∈ cur, r.length = n) ∧ cur.length = L.length ∧ cur.take i = (strike (p ∘ Prod.snd) (L.take j)).map Prod.fst ∧ cur.drop j = (L.drop j).map Prod.fst
  len : (strike (p ∘ Prod.snd) (L.take j)).length = i
  le : i ≤ j ∧ j ≤ L.length
variable {w w' : World} {g : Nat} {L : List (List Value × α)} {tail : List Value} {p : α → Bool} {i j k : Nat}
theorem DelAt.mono (h : DelAt e n w g L tail p i j) (hb : w'.heap[g]? = w.heap[g]?) : DelAt e n w' g L tail p i j := by
  obtain ⟨⟨cur, h1, h2⟩, h5, h6⟩ := h
  exact ⟨⟨cur, hb.trans h1, h2⟩, h5, h6⟩
theorem DelAt.ext (h : DelAt e n w g L tail p i j) (he : Ev.Ext w w') : DelAt e n w' g L tail p i j := by
  obtain ⟨⟨cur, h1, h2⟩, h5, h6⟩ := h
  exact ⟨⟨cur, (he.block g (Array.getElem?_eq_some_iff.1 h1).1).trans h1, h2⟩, h5, h6⟩
theorem DelAt.cell (h : DelAt e n w g L tail p i j) (hj : j < L.length) (t : Nat) (c : Value) (hc : L[j].1[t]? = some c) : w.cell? ⟨g, j * n + t, none⟩ = some c := by
  obtain ⟨⟨cur, h1, h2, h3, h4, h5⟩, _, _⟩ := h
  have hcj : cur[j]? = some L[j].1 := by
    have := congrArg (·[0]?) h5
    simp [hj] at this
    exact this
  have hf := flat_get h2 j t _ c hcj hc
  have hlt : j * n + t < cur.flatten.length := (List.getElem?_eq_some_iff.1 hf).1
  simp only [World.cell?, h1]
  simp [List.getElem?_append_left hlt, hf]
theorem DelAt.there (h : DelAt e n w g L tail p i j) (hk : k < L.length * n) : (∃ u, w.cell? ⟨g, k, none⟩ = some u) ∧ w.frozen? ⟨g, k, none⟩ = false := by
  obtain ⟨⟨cur, h1, h2, h3, h4, h5⟩, _, _⟩ := h
  have hlen := flat_length h2
  have hlt : k < cur.flatten.length := by rw [hlen, h3]; exact hk
  exact ⟨⟨cur.flatten[k], by simp only [World.cell?, h1]; simp [List.getElem?_append_left hlt, hlt]⟩, by simp [World.frozen?, h1]⟩
theorem DelAt.drop (h : DelAt e n w g L tail p i j) (hj : j < L.length) (hp : p L[j].2 = true) : DelAt e n w g L tail p i (j + 1) := by
  obtain ⟨⟨cur, h1, h2, h3, h4, h5⟩, h6, h7⟩ := h
  have es := strike_snoc (p ∘ Prod.snd) L hj
  rw [show (p ∘ Prod.snd) L[j] = true from hp] at es
  simp at es
  refine ⟨⟨cur, h1, h2, h3, by rw [es]; exact h4, ?_⟩, by rw [es]; exact h6, by omega⟩
  have := congrArg (List.drop 1) h5
  simpa [List.drop_drop] using this
theorem DelAt.keep (h : DelAt e n w g L tail p i j) (hj : j < L.length) (hp : p L[j].2 = false) (hr : L[j].1.length = n) : DelAt e n (w.setCells g (i * n) L[j].1) g L tail p (i + 1) (j + 1) := by
  obtain ⟨⟨cur, h1, h2, h3, h4, h5⟩, h6, h7⟩ := h
  have es := strike_snoc (p ∘ Prod.snd) L hj
  rw [show (p ∘ Prod.snd) L[j] = false from hp] at es
  simp at es
  have hi : i < cur.length := by omega
  have hlen := flat_length h2
  have hin : i * n + n ≤ cur.flatten.length := by rw [hlen, show i * n + n = (i + 1) * n from by rw [Nat.add_mul]; omega]; exact Nat.mul_le_mul_right _ (by omega)
  refine ⟨⟨cur.set i L[j].1, ?_, ?_, by simpa using h3, ?_, ?_⟩, by rw [es]; simp; omega, by omega⟩
  · rw [setCells_heap g e _ _ w _ h1 (by rw [List.length_append, hr]; omega), hr, List.take_append_of_le_length (by omega), List.drop_append_of_le_length (by omega), ← List.append_assoc, flat_set cur i _ h2 hi hr]
  · intro r hr'
    rcases List.mem_or_eq_of_mem_set hr' with hr' | rfl
    · exact h2 r hr'
    · exact hr
  · rw [es, List.map_append, ← h4, List.take_succ_eq_append_getElem (by simpa using hi)]
    simp
    rw [List.take_set_of_le (Nat.le_refl _)]
  · rw [List.drop_set_of_lt (by omega)]
    have := congrArg (List.drop 1) h5
    simpa [List.drop_drop] using this
/-- The row behind: what is kept, zeros, the tail. -/
theorem DelAt.last (h : DelAt e n w g L tail p i L.length) (Z : List Value) (hZ : Z.length = (L.length - i) * n) :
    (w.setCells g (i * n) Z).heap[g]? = some (.cells (((strike (p ∘ Prod.snd) L).map Prod.fst).flatten ++ (Z ++ tail)).toArray e) := by
  obtain ⟨⟨cur, h1, h2, h3, h4, h5⟩, h6, h7⟩ := h
  rw [List.take_length] at h4 h6
  have hlen := flat_length h2
  have hm : (L.length - i) * n = L.length * n - i * n := by rw [Nat.sub_mul]
  have hle : i * n ≤ L.length * n := Nat.mul_le_mul_right _ h7.1
  rw [setCells_heap g e _ _ w _ h1 (by rw [List.length_append, hZ, hlen, h3]; omega), List.take_append_of_le_length (by rw [hlen, h3]; exact hle), flat_take cur i h2, h4]
  rw [hZ, show i * n + (L.length - i) * n = cur.flatten.length from by rw [hlen, h3]; omega, List.drop_left]
  simp
end
/-- What was known lies nowhere in what is new. -/
theorem Sl.own {α : Type} [GoT α] {K : Blocks} {w w' : World} {v v' : Value} {xs : List α} (h : Sl K w v xs) (he : Ev.Ext w w') : Sl (elemK K w.heap.size v') w' v xs := h.mono fun b hb hlt => ⟨.inl ⟨hb, hlt⟩, he.block b hlt⟩
/-- The cells of a slice's elements, all in a row. -/
theorem rows_of {α : Type} [GoT α] {K : Blocks} {w : World} {b : Nat} : ∀ (xs : List α) (o : Nat), (∀ (i : Nat) (x : α), xs[i]? = some x → ∃ cs, GoT.rep K w cs x ∧ At w b (o + i * GoT.n α) cs) →
    ∃ rows, All2 (GoT.rep K w) rows xs ∧ ∀ j u, rows.flatten[j]? = some u → w.cell? ⟨b, o + j, none⟩ = some u
  | [], o, _ => ⟨[], .nil, by simp⟩
  | x :: xs, o, h => by
    obtain ⟨cs, h1, h2⟩ := h 0 x rfl
    have hl := GoT.len h1
    obtain ⟨rows, h3, h4⟩ := rows_of xs (o + GoT.n α) fun i y hy => by
      obtain ⟨ds, g1, g2⟩ := h (i + 1) y (by simpa using hy)
      refine ⟨ds, g1, ?_⟩
      rw [show o + GoT.n α + i * GoT.n α = o + (i + 1) * GoT.n α from by rw [Nat.add_mul]; omega]
      exact g2
    refine ⟨cs :: rows, .cons h1 h3, fun j u hj => ?_⟩
    rw [List.flatten_cons] at hj
    by_cases hjl : j < cs.length
    · rw [List.getElem?_append_left hjl] at hj
      have := h2 j u hj
      simpa using this
    · rw [List.getElem?_append_right (by omega)] at hj
      have := h4 _ u hj
      rwa [show o + GoT.n α + (j - cs.length) = o + j from by omega] at this
theorem Sl.rows {α : Type} [GoT α] {K : Blocks} {w : World} {ad : Addr} {cap : Nat} {xs : List α} (h : Sl K w (.slice (some ad) xs.length cap) xs) :
    ∃ rows, All2 (GoT.rep K w) rows xs ∧ ∀ j u, rows.flatten[j]? = some u → w.cell? (ad.add j) = some u := by
  cases xs with
  | nil => exact ⟨[], .nil, by simp⟩
  | cons x r =>
    obtain ⟨a, c, hv, _, hc⟩ := h
    obtain ⟨b, o, rfl, _, hel⟩ := hc (by simp)
    simp only [Value.slice.injEq, Option.some.injEq] at hv
    obtain ⟨rfl, _, _⟩ := hv
    obtain ⟨rows, h1, h2⟩ := rows_of (x :: r) o hel
    refine ⟨rows, h1, fun j u hj => ?_⟩
    have e : (⟨b, o, none⟩ : Addr).add j = ⟨b, o + j, none⟩ := by unfold Addr.add; split <;> simp_all
    rw [e]
    exact h2 j u hj
theorem Grow.empty {α : Type} [GoT α] (e : TypeId) (K : Blocks) {B : Nat} {w : World} {g : Nat} (hg : w.heap[g]? = some (.cells #[] e)) (hB : B ≤ g) : Grow e K B w (.slice (some ⟨g, 0, none⟩) 0 0) ([] : List α) :=
  ⟨⟨[], ⟨by simp, .inr ⟨g, 0, #[], rfl, hB, hg, Nat.le_refl _, by simp, by simp, by simp⟩⟩, .nil⟩⟩
end Go.Proofs.YtojehmkkbdedaaaGreat.R
namespace Go.Proofs.YtojehmkkbdedaaaGreat
open Go.RowKit R
structure Dep where
  key : ByteArray
  n : Int
  s : Int
def inI (x : Int) : Prop := -9223372036854775808 ≤ x ∧ x ≤ 9223372036854775807
def Dep.val (d : Dep) : Value := .agg #[.string d.key, .int .i64 d.n, .int .i64 d.s]
instance : GoT Dep where
  n := 3
  pos := by decide
  rep _ _ cs d := cs = [.string d.key, .int .i64 d.n, .int .i64 d.s] ∧ d.key.size ≤ 9223372036854775807 ∧ inI d.n ∧ inI d.s
  len h := by rw [h.1]; rfl
  one h c hc := by rw [h.1] at hc; simp at hc; rcases hc with rfl | rfl | rfl <;> rfl
  mono _ h := h
structure Event where
  kind : Int
  client : Int
  key : ByteArray
  n : Int
  s : Int
  seen : List Dep
def Event.val (e : Event) (v : Value) : Value := .agg #[.int .i64 e.kind, .int .i64 e.client, .string e.key, .int .i64 e.n, .int .i64 e.s, v]
instance : GoT Event where
  n := 6
  pos := by decide
  rep K w cs e := ∃ v, cs = [.int .i64 e.kind, .int .i64 e.client, .string e.key, .int .i64 e.n, .int .i64 e.s, v] ∧ (e.key.size ≤ 9223372036854775807 ∧ inI e.kind ∧ inI e.client ∧ inI e.n ∧ inI e.s) ∧ Sl K w v e.seen
  len h := by obtain ⟨v, h, _⟩ := h; rw [h]; rfl
  one h c hc := by
    obtain ⟨v, h, _, a, cap, hv, _⟩ := h
    rw [h] at hc; simp at hc
    rcases hc with rfl | rfl | rfl | rfl | rfl | rfl
    all_goals first | rfl | (rw [hv]; rfl)
  mono hk h := by
    obtain ⟨v, h1, h2, h3⟩ := h
    exact ⟨v, h1, h2, h3.mono hk⟩
end Go.Proofs.YtojehmkkbdedaaaGreat
end

section
namespace Go.Proofs.YtojehmkkbdedaaaGreat
open Go.RowKit A R
open A.RowT
def Dep.row (d : Dep) : List AV := [tv d.key, iv d.n, iv d.s]
def Event.row (e : Event) : List AV := [iv e.kind, iv e.client, tv e.key, iv e.n, iv e.s, .sl 3 (e.seen.map Dep.row)]
instance : DecidableEq Dep := fun a b => decidable_of_iff (a.key = b.key ∧ a.n = b.n ∧ a.s = b.s) (by cases a; cases b; simp)
instance : RowI Dep where
  row := Dep.row
  into h _ := by
    obtain ⟨rfl, h2, h3, h4⟩ := h
    exact cellsc (.v _ h2) rfl (cellsc (.v _ h3) rfl (cells1 (.v _ h4) rfl))
  back h := by
    obtain ⟨x1, xs1, rfl, h1_1, h2_1, g1⟩ := uncons h
    obtain ⟨rfl, k1⟩ := repv h1_1
    obtain ⟨x2, xs2, rfl, h1_2, h2_2, g2⟩ := uncons g1
    obtain ⟨rfl, k2⟩ := repv h1_2
    obtain ⟨x3, xs3, rfl, h1_3, h2_3, g3⟩ := uncons g2
    obtain ⟨rfl, k3⟩ := repv h1_3
    obtain rfl := uncons0 g3
    exact ⟨rfl, k1, k2, k3⟩
instance : RowT Event where
  row := Event.row
  back h := by
    obtain ⟨x1, xs1, rfl, h1_1, h2_1, g1⟩ := uncons h
    obtain ⟨rfl, k1⟩ := repv h1_1
    obtain ⟨x2, xs2, rfl, h1_2, h2_2, g2⟩ := uncons g1
    obtain ⟨rfl, k2⟩ := repv h1_2
    obtain ⟨x3, xs3, rfl, h1_3, h2_3, g3⟩ := uncons g2
    obtain ⟨rfl, k3⟩ := repv h1_3
    obtain ⟨x4, xs4, rfl, h1_4, h2_4, g4⟩ := uncons g3
    obtain ⟨rfl, k4⟩ := repv h1_4
    obtain ⟨x5, xs5, rfl, h1_5, h2_5, g5⟩ := uncons g4
    obtain ⟨rfl, k5⟩ := repv h1_5
    obtain ⟨x6, xs6, rfl, h1_6, h2_6, g6⟩ := uncons g5
    obtain rfl := uncons0 g6
    exact ⟨x6, rfl, ⟨k3, k1, k2, k4, k5⟩, sl_of (α := Dep) h1_6⟩
end Go.Proofs.YtojehmkkbdedaaaGreat
end

section
namespace Go.Proofs.YtojehmkkbdedaaaGreat
open Go.RowKit A R
open A.RowT
set_option maxRecDepth 100000 in
theorem cloneD_g (l : List Dep) (hl : l.length ≤ 1000000) : GCall Tryz.prog 42 [.d (.sl 3 (l.map Dep.row))] [] (some ([(1001, .arr 45 3 (l.map Dep.row))], .ow 1001 0)) := by
  refine GCall_enter (fun _ _ => by kernel_rfl) Tryz.func42 rfl Tryz.ntmps42 (ReadsS.r1 Tryz.results42) (Nat.le_of_ble_eq_true rfl) (fun hok hokB M0 w0 => ?_)
  refine Aw_seq (Aw_region ?_)
  refine Al_p Pu_mvr ?_
  refine Al_nil (Aw_seq (Aw_seq (Aw_region ?_)))
  refine Al_p Pu_mvl ?_
  refine Al_eqnil rfl rfl rfl (by decide) (by kernel_rfl) Tryz.underlying46 rfl (fun nl hnl => ?_)
  refine Al_nil ?_
  refine Aw_cond rfl (fun h4 => ?_) (fun h4 => ?_)
  · (try simp only [decide_eq_true_eq, decide_eq_false_iff_not, Bool.and_eq_true, Bool.or_eq_true, Bool.and_eq_false_iff, Bool.or_eq_false_iff, Bool.not_eq_true', Bool.not_eq_false', beq_iff_eq, Bool.not_eq_eq_eq_not, Bool.not_true, Bool.not_false, List.length_map, Bool.and_true, Bool.and_false, Bool.false_and, Bool.true_and, Bool.or_false, Bool.false_or] at h4)
    refine Aw_seq (Aw_region ?_)
    refine Al_p Pu_mvr ?_
    refine Al_nil ?_
    obtain rfl : l = [] := by simpa using hnl h4
    refine Aw_own (j := 2) (k := 2) (T := 45) (n := 3) rfl (fun g => ?_)
    refine Aw_ret ?_
    exact ⟨_, _, [(1001, 2, g)], rfl, Sub.rfl, ⟨rfl, trivial⟩, rfl⟩ -- ret 0
  · (try simp only [decide_eq_true_eq, decide_eq_false_iff_not, Bool.and_eq_true, Bool.or_eq_true, Bool.and_eq_false_iff, Bool.or_eq_false_iff, Bool.not_eq_true', Bool.not_eq_false', beq_iff_eq, Bool.not_eq_eq_eq_not, Bool.not_true, Bool.not_false, List.length_map, Bool.and_true, Bool.and_false, Bool.false_and, Bool.true_and, Bool.or_false, Bool.false_or] at h4)
    refine Aw_skip (Aw_seq (Aw_region ?_))
    refine Al_slice0 rfl rfl rfl (by decide) Tryz.underlying46 Tryz.sizeOf45 (fun g5 => ?_)
    refine Al_p Pu_mvl ?_
    refine Al_append rfl rfl rfl (by decide) (by kernel_rfl) elem46 (by decide) Tryz.sizeOf45 rfl rfl rfl (by simp; omega) (by decide) (fun g7 => ?_)
    refine Al_p Pu_mvr ?_
    refine Al_nil ?_
    refine Aw_ret ?_
    exact ⟨_, _, [(1001, 5, g7)], rfl, Sub.rfl, ⟨rfl, trivial⟩, rfl⟩ -- ret 1
theorem ins_grow {α : Type} {L : List α} {z x : α} {i : Nat} (hi : i < L.length) : (((L.take i ++ List.replicate (L.length + 1 - i) z).take i ++ [x].take 1 ++ (L.take i ++ List.replicate (L.length + 1 - i) z).drop (i + 1)).take (i + 1) ++ (L.drop i).take (L.length - i) ++ ((L.take i ++ List.replicate (L.length + 1 - i) z).take i ++ [x].take 1 ++ (L.take i ++ List.replicate (L.length + 1 - i) z).drop (i + 1)).drop (i + 1 + (L.length - i))) = L.take i ++ x :: L.drop i := by
  have h1 : (L.take i).length = i := by simp; omega
  have h2 : (L.take i ++ List.replicate (L.length + 1 - i) z).take i = L.take i := by
    rw [List.take_append_of_le_length (by omega), List.take_of_length_le (by omega)]
  rw [h2]
  have h3 : ((L.take i ++ List.replicate (L.length + 1 - i) z).drop (i + 1)).length = L.length - i := by simp; omega
  generalize (L.take i ++ List.replicate (L.length + 1 - i) z).drop (i + 1) = D at *
  have h4 : (L.take i ++ [x].take 1).length = i + 1 := by simp; omega
  have e1 : (L.take i ++ [x].take 1 ++ D).take (i + 1) = L.take i ++ [x].take 1 := by rw [List.take_append_of_le_length (by omega), List.take_of_length_le (by omega)]
  have e2 : (L.take i ++ [x].take 1 ++ D).drop (i + 1 + (L.length - i)) = [] := List.drop_eq_nil_of_le (by rw [List.length_append, h4, h3]; omega)
  rw [e1, e2, List.take_of_length_le (l := L.drop i) (by simp)]
  simp
theorem ins_room {α : Type} {L : List α} {x : α} {i : Nat} (hi : i < L.length) : ((L.take (i + 1) ++ (L.drop i).take (L.length - i)).take i ++ [x].take 1 ++ (L.take (i + 1) ++ (L.drop i).take (L.length - i)).drop (i + 1)) = L.take i ++ x :: L.drop i := by
  have h1 : (L.take (i + 1)).length = i + 1 := by simp; omega
  rw [List.take_append_of_le_length (by omega), List.take_take, Nat.min_eq_left (by omega), List.drop_append_of_le_length (by omega), List.drop_eq_nil_of_le (by omega), List.take_of_length_le (l := L.drop i) (by simp)]
  simp
set_option maxRecDepth 100000 in
set_option maxHeartbeats 1000000 in
theorem insertD_g (l : List Dep) (x : Dep) (i : Nat) (hi : i ≤ l.length) (hl : l.length ≤ 1000000) : GCall Tryz.prog 75 [.ow 1001 0, .d (iv i), .ow 1002 0] [(1001, .arr 45 3 (l.map Dep.row)), (1002, .arr 45 3 [Dep.row x])] (some ([(1003, .arr 45 3 ((l.take i ++ x :: l.drop i).map Dep.row))], .ow 1003 0)) := by
  refine GCall_enter (fun _ _ => by kernel_rfl) Tryz.func75 rfl Tryz.ntmps75 (ReadsS.r1 Tryz.results75) (Nat.le_of_ble_eq_true rfl) (fun hok hokB M0 w0 => ?_)
  have hlm : (l.map Dep.row).length = l.length := List.length_map ..
  have hres : (l.take i ++ x :: l.drop i).map Dep.row = (l.map Dep.row).take i ++ Dep.row x :: (l.map Dep.row).drop i := by simp
  rw [hres]
  generalize l.map Dep.row = L at *
  refine Aw_seq (Aw_region ?_)
  refine Al_p Pu_mvr ?_
  refine Al_nil (Aw_seq (Aw_region ?_))
  refine Al_p Pu_mvl ?_
  refine Al_p Pu_mvl ?_
  refine Al_p (Pu_sliceOw i L.length rfl Tryz.underlying46 Tryz.sizeOf45 rfl rfl ⟨_, rfl, rfl⟩ rfl ⟨by omega, .inl (by omega)⟩) ?_
  refine Al_nil (Aw_seq (Aw_region ?_))
  refine Al_p Pu_mvl ?_
  refine Al_p (Pu_lenOw (m := 1) rfl Tryz.underlying46 rfl rfl rfl) ?_
  refine Al_p Pu_mvr ?_
  refine Al_nil (Aw_seq (Aw_seq (Aw_region ?_)))
  refine Al_p Pu_mvl ?_
  refine Al_p (Pu_cmp rfl rfl rfl rfl) ?_
  refine Al_nil ?_
  refine Aw_cond rfl (fun h16 => ?_) (fun h16 => ?_)
  · (try simp only [decide_eq_true_eq, decide_eq_false_iff_not, Bool.and_eq_true, Bool.or_eq_true, Bool.and_eq_false_iff, Bool.or_eq_false_iff, Bool.not_eq_true', Bool.not_eq_false', beq_iff_eq, Bool.not_eq_eq_eq_not, Bool.not_true, Bool.not_false, List.length_map, Bool.and_true, Bool.and_false, Bool.false_and, Bool.true_and, Bool.or_false, Bool.false_or] at h16)
    exfalso; revert h16; decide
  · (try simp only [decide_eq_true_eq, decide_eq_false_iff_not, Bool.and_eq_true, Bool.or_eq_true, Bool.and_eq_false_iff, Bool.or_eq_false_iff, Bool.not_eq_true', Bool.not_eq_false', beq_iff_eq, Bool.not_eq_eq_eq_not, Bool.not_true, Bool.not_false, List.length_map, Bool.and_true, Bool.and_false, Bool.false_and, Bool.true_and, Bool.or_false, Bool.false_or] at h16)
    refine Aw_skip (Aw_seq (Aw_region ?_))
    refine Al_p Pu_mvl ?_
    refine Al_p (Pu_lenOw rfl Tryz.underlying46 rfl rfl rfl) ?_
    refine Al_p Pu_mvr ?_
    refine Al_nil (Aw_seq (Aw_seq (Aw_region ?_)))
    refine Al_p Pu_mvl ?_
    refine Al_p Pu_mvl ?_
    refine Al_p (Pu_cmp rfl rfl rfl rfl) ?_
    refine Al_nil ?_
    refine Aw_cond rfl (fun h22 => ?_) (fun h22 => ?_)
    · (try simp only [decide_eq_true_eq, decide_eq_false_iff_not, Bool.and_eq_true, Bool.or_eq_true, Bool.and_eq_false_iff, Bool.or_eq_false_iff, Bool.not_eq_true', Bool.not_eq_false', beq_iff_eq, Bool.not_eq_eq_eq_not, Bool.not_true, Bool.not_false, List.length_map, Bool.and_true, Bool.and_false, Bool.false_and, Bool.true_and, Bool.or_false, Bool.false_or] at h22)
      refine Aw_seq (Aw_region ?_)
      refine Al_p Pu_mvl ?_
      refine Al_p Pu_mvl ?_
      refine Al_appendOw (k2 := 1002) (g2 := 0) rfl rfl rfl (by decide) (by kernel_rfl) elem46 (by decide) Tryz.sizeOf45 rfl rfl rfl rfl Nat.one_pos (by simp; omega) (by decide) (fun g25 => ?_)
      refine Al_p Pu_mvr ?_
      refine Al_nil ?_
      refine Aw_ret ?_
      exact ⟨_, _, [(1003, 1001, g25)], rfl, Sub.rfl, ⟨obeq (by rw [show i = L.length by omega]; simp), trivial⟩, rfl⟩ -- ret 0
    · (try simp only [decide_eq_true_eq, decide_eq_false_iff_not, Bool.and_eq_true, Bool.or_eq_true, Bool.and_eq_false_iff, Bool.or_eq_false_iff, Bool.not_eq_true', Bool.not_eq_false', beq_iff_eq, Bool.not_eq_eq_eq_not, Bool.not_true, Bool.not_false, List.length_map, Bool.and_true, Bool.and_false, Bool.false_and, Bool.true_and, Bool.or_false, Bool.false_or] at h22)
      refine Aw_skip (Aw_seq (Aw_seq (Aw_region ?_)))
      refine Al_p Pu_mvl ?_
      refine Al_p Pu_mvl ?_
      refine Al_p (Pu_add rfl rfl rfl (fun h1 h2 => by simp only [A.inI, A.maxI] at *; omega)) ?_
      refine Al_p Pu_mvl ?_
      refine Al_cap (kt := 900) rfl rfl rfl (by decide) (by kernel_rfl) Tryz.underlying46 rfl rfl rfl (fun c gt hc hcm => ?_)
      refine Al_p (Pu_cmp rfl rfl rfl rfl) ?_
      refine Al_nil ?_
      refine Aw_cond rfl (fun h31 => ?_) (fun h31 => ?_)
      · (try simp only [decide_eq_true_eq, decide_eq_false_iff_not, Bool.and_eq_true, Bool.or_eq_true, Bool.and_eq_false_iff, Bool.or_eq_false_iff, Bool.not_eq_true', Bool.not_eq_false', beq_iff_eq, Bool.not_eq_eq_eq_not, Bool.not_true, Bool.not_false, List.length_map, Bool.and_true, Bool.and_false, Bool.false_and, Bool.true_and, Bool.or_false, Bool.false_or] at h31)
        refine Aw_seq (Aw_region ?_)
        refine Al_p Pu_mvl ?_
        refine Al_p Pu_mvl ?_
        refine Al_p (Pu_sliceOw 0 i rfl Tryz.underlying46 Tryz.sizeOf45 rfl rfl rfl ⟨_, rfl, rfl⟩ ⟨by omega, .inl (by omega)⟩) ?_
        refine Al_p Pu_mvl ?_
        refine Al_p Pu_mvl ?_
        refine Al_p (Pu_add rfl rfl rfl (fun h1 h2 => by simp only [A.inI, A.maxI] at *; omega)) ?_
        refine Al_p Pu_mvl ?_
        refine Al_p (Pu_sub rfl rfl rfl (fun h1 h2 => by simp only [A.inI, A.maxI] at *; omega)) ?_
        refine Al_appendZ (zz := L.length + 1 - i) (kt := 900) (c := c) rfl rfl rfl (by decide) (by kernel_rfl) elem46 Tryz.underlying3 Tryz.zeroValue45 (by decide) rfl (by kernel_rfl) rfl rfl rfl (by omega) (by omega) (by omega) rfl (by omega) (by omega) (by decide) (fun g40 => ?_) rfl
        generalize hzr : List.map AV.v _ = zs
        have hz1 : (L.take i ++ List.replicate (L.length + 1 - i) zs).length = L.length + 1 := by simp; omega
        refine Al_p Pu_mvr ?_
        refine Al_nil (Aw_seq (Aw_region ?_))
        refine Al_p Pu_mvl ?_
        refine Al_p Pu_mvl ?_
        refine Al_p (Pu_sliceOw i (L.take i ++ List.replicate (L.length + 1 - i) zs).length rfl Tryz.underlying46 Tryz.sizeOf45 rfl rfl ⟨_, rfl, rfl⟩ rfl ⟨by omega, .inl (by omega)⟩) ?_
        refine Al_p Pu_mvl ?_
        refine Al_copy (c := 1) (L := 1) rfl rfl rfl (by decide) (by kernel_rfl) Tryz.underlying46 Tryz.sizeOf45 (by decide) rfl rfl (.inr (.inr ⟨_, _, _, rfl, rfl, rfl⟩)) (by omega) Nat.one_pos (Nat.le_refl _) (by omega) ?_
        refine Al_nil (Aw_seq ?_)
        refine Aw_draw 8 (by kernel_rfl) (by kernel_rfl) ?_
        refine Dr_p Pu_mvl ?_
        refine Dr_p Pu_mvl ?_
        refine Dr_p Pu_mvl ?_
        refine Dr_p (Pu_add rfl rfl rfl (fun h1 h2 => by simp only [A.inI, A.maxI] at *; omega)) ?_
        refine Dr_p (Pu_sliceOw (i + 1) (L.length + 1) rfl Tryz.underlying46 Tryz.sizeOf45 rfl rfl ⟨_, rfl, by omega⟩ (by show L.length + 1 = _; simp; omega) ⟨by omega, .inl (by simp; omega)⟩) ?_
        refine Dr_p Pu_mvl ?_
        refine Dr_p Pu_mvl ?_
        refine Dr_p (Pu_sliceOw i L.length rfl Tryz.underlying46 Tryz.sizeOf45 rfl rfl ⟨_, rfl, rfl⟩ rfl ⟨by omega, .inl (by omega)⟩) ?_
        refine Dr_nil ?_
        refine Al_copy (c := L.length - i) (L := L.length - i) (news := L.drop i) rfl rfl rfl (by decide) (by kernel_rfl) Tryz.underlying46 Tryz.sizeOf45 (by decide) rfl rfl (.inr (.inl ⟨_, _, _, _, _, _, rfl, rfl, rfl, by rw [List.take_length]⟩)) (by omega) (by omega) (by simp) (by simp; omega) ?_
        refine Al_nil (Aw_seq (Aw_region ?_))
        refine Al_p Pu_mvl ?_
        refine Al_p Pu_mvr ?_
        refine Al_nil ?_
        refine Aw_ret ?_
        exact ⟨_, _, [(1003, 40, g40)], rfl, Sub.rfl, ⟨obeq (ins_grow (by omega)), trivial⟩, rfl⟩ -- ret 1
      · (try simp only [decide_eq_true_eq, decide_eq_false_iff_not, Bool.and_eq_true, Bool.or_eq_true, Bool.and_eq_false_iff, Bool.or_eq_false_iff, Bool.not_eq_true', Bool.not_eq_false', beq_iff_eq, Bool.not_eq_eq_eq_not, Bool.not_true, Bool.not_false, List.length_map, Bool.and_true, Bool.and_false, Bool.false_and, Bool.true_and, Bool.or_false, Bool.false_or] at h31)
        refine Aw_skip (Aw_seq (Aw_region ?_))
        refine Al_p Pu_mvl ?_
        refine Al_p Pu_mvl ?_
        refine Al_p Pu_mvl ?_
        refine Al_p (Pu_add rfl rfl rfl (fun h1 h2 => by simp only [A.inI, A.maxI] at *; omega)) ?_
        refine Al_p (Pu_sliceOw 0 (L.length + 1) rfl Tryz.underlying46 Tryz.sizeOf45 rfl rfl rfl ⟨_, rfl, by omega⟩ ⟨by omega, .inr ⟨900, gt, c, rfl, by omega⟩⟩) ?_
        refine Al_p Pu_mvr ?_
        refine Al_nil (Aw_seq (Aw_seq (Aw_region ?_)))
        refine Al_p Pu_mvl ?_
        refine Al_p Pu_mvl ?_
        refine Al_p Pu_mvl ?_
        refine Al_p Pu_mvl ?_
        refine Al_p (Pu_add rfl rfl rfl (fun h1 h2 => by simp only [A.inI, A.maxI] at *; omega)) ?_
        refine Al_p (Pu_sliceOws (i + 1) (i + 1) rfl Tryz.underlying46 Tryz.sizeOf45 rfl ⟨_, rfl, by omega⟩ (by omega) (by omega)) ?_
        refine Al_overlaps (tS := 46) (tR := 4) (e := 45) (fun args w => run_callFunc_extern Tryz.func87 (by kernel_rfl) (by kernel_rfl) (by kernel_rfl) (e := Extern.SlicesOverlaps.overlaps #[46, 46] #[4]) (by kernel_rfl) args w) rfl rfl rfl (by decide) (by kernel_rfl) Tryz.underlying46 Tryz.sizeOf45 (by decide) rfl rfl Nat.one_pos rfl rfl rfl (by omega) ?_
        refine Al_p (Pu_not rfl rfl) ?_
        refine Al_nil ?_
        refine Aw_cond rfl (fun h68 => ?_) (fun h68 => ?_)
        · (try simp only [decide_eq_true_eq, decide_eq_false_iff_not, Bool.and_eq_true, Bool.or_eq_true, Bool.and_eq_false_iff, Bool.or_eq_false_iff, Bool.not_eq_true', Bool.not_eq_false', beq_iff_eq, Bool.not_eq_eq_eq_not, Bool.not_true, Bool.not_false, List.length_map, Bool.and_true, Bool.and_false, Bool.false_and, Bool.true_and, Bool.or_false, Bool.false_or] at h68)
          refine Aw_seq ?_
          refine Aw_draw 8 (by kernel_rfl) (by kernel_rfl) ?_
          refine Dr_p Pu_mvl ?_
          refine Dr_p Pu_mvl ?_
          refine Dr_p Pu_mvl ?_
          refine Dr_p (Pu_add rfl rfl rfl (fun h1 h2 => by simp only [A.inI, A.maxI] at *; omega)) ?_
          refine Dr_p (Pu_sliceOws (i + 1) (i + 1) rfl Tryz.underlying46 Tryz.sizeOf45 rfl ⟨_, rfl, by omega⟩ (by omega) (by omega)) ?_
          refine Dr_p Pu_mvl ?_
          refine Dr_p Pu_mvl ?_
          refine Dr_p (Pu_sliceOws i i rfl Tryz.underlying46 Tryz.sizeOf45 rfl ⟨_, rfl, rfl⟩ (by omega) (by omega)) ?_
          refine Dr_nil ?_
          refine Al_copyUp (j := 0) (c := L.length - i) (L := L.length + 1 - i) (news := L.drop i) rfl rfl rfl (by decide) (by kernel_rfl) Tryz.underlying46 Tryz.sizeOf45 (by decide) rfl rfl (by show SV.ows 1001 0 3 0 (L.length + 1) = SV.ows 1001 0 3 0 (i + 1 + (L.length - i)); congr 1; omega) (.inr (.inl ⟨_, _, _, _, _, _, rfl, rfl, rfl, by rw [List.take_of_length_le (by omega)]⟩)) (by omega) (by omega) (by simp) (by omega) (by omega) (fun g77 => ?_)
          have hz2 : (L.take (i + 1) ++ (L.drop i).take (L.length - i)).length = L.length + 1 := by simp; omega
          refine Al_nil (Aw_seq (Aw_region ?_))
          refine Al_p Pu_mvl ?_
          refine Al_p Pu_mvl ?_
          refine Al_p (Pu_sliceOw i (L.take (i + 1) ++ (L.drop i).take (L.length - i)).length rfl Tryz.underlying46 Tryz.sizeOf45 rfl rfl ⟨_, rfl, rfl⟩ rfl ⟨by omega, .inl (by omega)⟩) ?_
          refine Al_p Pu_mvl ?_
          refine Al_copy (c := 1) (L := 1) rfl rfl rfl (by decide) (by kernel_rfl) Tryz.underlying46 Tryz.sizeOf45 (by decide) rfl rfl (.inr (.inr ⟨_, _, _, rfl, rfl, rfl⟩)) (by omega) Nat.one_pos (Nat.le_refl _) (by omega) ?_
          refine Al_nil (Aw_seq (Aw_region ?_))
          refine Al_p Pu_mvl ?_
          refine Al_p Pu_mvr ?_
          refine Al_nil ?_
          refine Aw_ret ?_
          exact ⟨_, _, [(1003, 1001, g77)], rfl, Sub.rfl, ⟨obeq (ins_room (by omega)), trivial⟩, rfl⟩ -- ret 2
        · (try simp only [decide_eq_true_eq, decide_eq_false_iff_not, Bool.and_eq_true, Bool.or_eq_true, Bool.and_eq_false_iff, Bool.or_eq_false_iff, Bool.not_eq_true', Bool.not_eq_false', beq_iff_eq, Bool.not_eq_eq_eq_not, Bool.not_true, Bool.not_false, List.length_map, Bool.and_true, Bool.and_false, Bool.false_and, Bool.true_and, Bool.or_false, Bool.false_or] at h68)
          exfalso; revert h68; decide
instance : Inhabited Dep := ⟨⟨⟨#[]⟩, 0, 0⟩⟩
set_option maxRecDepth 100000 in
theorem bsearchD_a (l : List Dep) (tg : AV) (f : FuncId) (c : Dep → Int) (s : Nat) (hf : ∀ x, ACall Tryz.prog f [.row x.row, tg] (iv (c x))) (hl : l.length ≤ 1000000) (hs : s ≤ l.length) (hlo : ∀ (j : Nat) (hj : j < l.length), j < s → c l[j] < 0) (hhi : ∀ (j : Nat) (hj : j < l.length), s ≤ j → 0 ≤ c l[j]) : ACall Tryz.prog 76 [.sl 3 (l.map Dep.row), tg, .fn f []] (.tup [iv s, bv (decide (s < l.length) && decide (c (l.getD s default) = 0))]) := by
  refine ACall_enter2 (fun _ _ => by kernel_rfl) Tryz.func76 rfl Tryz.ntmps76 Tryz.results76 (Nat.le_of_ble_eq_true rfl) (fun hok M0 w0 hnl => ?_)
  refine Aw_seq (Aw_region ?_)
  refine Al_p Pu_mvr ?_
  refine Al_p Pu_mvr ?_
  refine Al_nil (Aw_seq (Aw_region ?_))
  refine Al_p Pu_mvl ?_
  refine Al_p (Pu_len rfl Tryz.underlying46 rfl (by first | exact List.length_map .. | exact rfl)) ?_
  refine Al_p Pu_mvr ?_
  refine Al_nil (Aw_seq (Aw_region ?_))
  refine Al_p Pu_mvl ?_
  refine Al_p Pu_mvr ?_
  refine Al_p Pu_mvr ?_
  refine Al_nil (Aw_seq (Aw_block ?_))
  refine Aw_loopk (ι := Nat × Nat) [0, 1, 2, 8] [] (fun (a, b) => [(9, .d (iv a)), (10, .d (iv b))]) (fun (a, b) => []) (fun (a, b) => a ≤ s ∧ s ≤ b ∧ b ≤ l.length) (fun (a, b) => b - a) (0, l.length) (⟨Nat.zero_le _, hs, Nat.le_refl _⟩) ⟨Sub.rfl, Sub.num (by simp), trivial⟩ trivial ?_
  rintro ⟨a, b⟩ ⟨ha, hb, hbl⟩
  refine Aw_seq (Aw_seq (Aw_region ?_))
  refine Al_p Pu_mvl ?_
  refine Al_p Pu_mvl ?_
  refine Al_p (Pu_cmp rfl rfl rfl rfl) ?_
  refine Al_nil ?_
  refine Aw_cond rfl (fun h17 => ?_) (fun h17 => ?_)
  · (try simp only [decide_eq_true_eq, decide_eq_false_iff_not, Bool.and_eq_true, Bool.or_eq_true, Bool.and_eq_false_iff, Bool.or_eq_false_iff, Bool.not_eq_true', Bool.not_eq_false', beq_iff_eq, Bool.not_eq_eq_eq_not, Bool.not_true, Bool.not_false, List.length_map, Bool.and_true, Bool.and_false, Bool.false_and, Bool.true_and, Bool.or_false, Bool.false_or] at h17)
    have hm : (a + b) / 2 < l.length := by omega
    refine Aw_skip (Aw_block (Aw_seq (Aw_region ?_)))
    refine Al_p Pu_mvl ?_
    refine Al_p Pu_mvl ?_
    refine Al_p (Pu_add rfl rfl rfl (fun h1 h2 => by simp only [A.inI, A.maxI] at *; omega)) ?_
    refine Al_p (Pu_conv (k' := .u64) (a := ((a + b : Nat) : Int)) rfl Tryz.underlying3 Tryz.underlying133 rfl (fun _ => u64_nat (by omega) (by omega))) ?_
    refine Al_p (Pu_int_shr (r := (((a + b) / 2 : Nat) : Int)) rfl rfl rfl ⟨by decide, by decide⟩ (by show (((a + b : Nat) : Int)) / 2 ^ 1 = _; omega) (fun _ => by show 0 ≤ _ ∧ _; omega)) ?_
    refine Al_p (Pu_conv (k' := .i64) rfl Tryz.underlying133 Tryz.underlying3 rfl (fun _ => i64_nat (by simp only [A.inI]; omega))) ?_
    refine Al_p Pu_mvr ?_
    refine Al_nil (Aw_seq (Aw_region ?_))
    refine Al_p Pu_mvl ?_
    refine Al_p Pu_mvl ?_
    refine Al_p Pu_mvl ?_
    refine Al_p (Pu_index rfl Tryz.underlying46 Tryz.sizeOf45 rfl rfl (rfl) (mapget hm)) ?_
    refine Al_p (Pu_loadN rfl Tryz.isAgg45 Tryz.sizeOf45 rfl (Nat.le_of_ble_eq_true rfl)) ?_
    refine Al_p Pu_mvl ?_
    refine Al_p (Pu_callv (aa := [(fun x => .row x.row) (l[(a + b) / 2]'hm), tg]) (caps := []) (hf (l[(a + b) / 2]'hm)) rfl rfl ⟨Sub.rfl, Sub.rfl, trivial⟩) ?_
    refine Al_p (Pu_cmp rfl rfl rfl rfl) ?_
    refine Al_nil ?_
    refine Aw_cond rfl (fun h31 => ?_) (fun h31 => ?_)
    · (try simp only [decide_eq_true_eq, decide_eq_false_iff_not, Bool.and_eq_true, Bool.or_eq_true, Bool.and_eq_false_iff, Bool.or_eq_false_iff, Bool.not_eq_true', Bool.not_eq_false', beq_iff_eq, Bool.not_eq_eq_eq_not, Bool.not_true, Bool.not_false, List.length_map, Bool.and_true, Bool.and_false, Bool.false_and, Bool.true_and, Bool.or_false, Bool.false_or] at h31)
      have hms : (a + b) / 2 < s := by
        rcases Nat.lt_or_ge ((a + b) / 2) s with h | h
        · exact h
        · have := hhi _ hm h; omega
      refine Aw_region ?_
      refine Al_p Pu_mvl ?_
      refine Al_p (Pu_add rfl rfl rfl (fun h1 h2 => by simp only [A.inI, A.maxI] at *; omega)) ?_
      refine Al_p Pu_mvr ?_
      refine Al_nil ?_
      exact ⟨((a + b) / 2 + 1, b), ⟨by omega, hb, hbl⟩, by simp only []; omega, Le.ov ⟨Sub.num (by omega), Sub.rfl, trivial⟩ ⟨Sub.rfl, Sub.rfl, Sub.rfl, Sub.rfl, trivial⟩ trivial trivial⟩ -- loop 0 next.0
    · (try simp only [decide_eq_true_eq, decide_eq_false_iff_not, Bool.and_eq_true, Bool.or_eq_true, Bool.and_eq_false_iff, Bool.or_eq_false_iff, Bool.not_eq_true', Bool.not_eq_false', beq_iff_eq, Bool.not_eq_eq_eq_not, Bool.not_true, Bool.not_false, List.length_map, Bool.and_true, Bool.and_false, Bool.false_and, Bool.true_and, Bool.or_false, Bool.false_or] at h31)
      have hms : s ≤ (a + b) / 2 := by
        rcases Nat.lt_or_ge ((a + b) / 2) s with h | h
        · have := hlo _ hm h; omega
        · exact h
      refine Aw_region ?_
      refine Al_p Pu_mvl ?_
      refine Al_p Pu_mvr ?_
      refine Al_nil ?_
      exact ⟨(a, (a + b) / 2), ⟨ha, hms, by omega⟩, by simp only []; omega, Le.ov ⟨Sub.rfl, Sub.rfl, trivial⟩ ⟨Sub.rfl, Sub.rfl, Sub.rfl, Sub.rfl, trivial⟩ trivial trivial⟩ -- loop 0 next.1
  · (try simp only [decide_eq_true_eq, decide_eq_false_iff_not, Bool.and_eq_true, Bool.or_eq_true, Bool.and_eq_false_iff, Bool.or_eq_false_iff, Bool.not_eq_true', Bool.not_eq_false', beq_iff_eq, Bool.not_eq_eq_eq_not, Bool.not_true, Bool.not_false, List.length_map, Bool.and_true, Bool.and_false, Bool.false_and, Bool.true_and, Bool.or_false, Bool.false_or] at h17)
    obtain rfl : a = s := by omega
    refine Aw_exit (Aw_seq (Aw_region ?_))
    refine Al_p Pu_mvl ?_
    refine Al_p Pu_mvl ?_
    refine Al_p Pu_mvl ?_
    refine Al_p (Pu_cmp rfl rfl rfl rfl) ?_
    refine Al_p Pu_mvl ?_
    refine Al_st (St_gd [] rfl rfl rfl rfl trivial (fun hg40 => by exact Pu_move (.inl rfl) (by conv => lhs; whnf))) rfl (by decide) (by kernel_rfl) (by intro j b oj dj h1 h2 h3; cases h1; cases h2; cases h3; decide) ?_
    refine Al_st (St_gd [] rfl rfl rfl rfl trivial (fun hg41 => by exact Pu_move (.inl rfl) (by conv => lhs; whnf))) rfl (by decide) (by kernel_rfl) (by intro j b oj dj h1 h2 h3; cases h1; cases h2; cases h3; decide) ?_
    refine Al_st (St_gd [] rfl rfl rfl rfl trivial (fun hg42 => by exact Pu_move (.inl rfl) (by conv => lhs; whnf))) rfl (by decide) (by kernel_rfl) (by intro j b oj dj h1 h2 h3; cases h1; cases h2; cases h3; decide) ?_
    refine Al_st (St_gd [41, 42] rfl rfl rfl rfl ⟨⟨_, rfl⟩, ⟨_, rfl⟩, trivial⟩ (fun hg43 => by exact Pu_index rfl Tryz.underlying46 Tryz.sizeOf45 rfl rfl (rfl) (mapgetD (d := default) (by simpa using hg43)))) rfl (by decide) (by kernel_rfl) (by intro j b oj dj h1 h2 h3; cases h1; cases h2; cases h3; decide) ?_
    refine Al_st (St_gd [43] rfl rfl rfl rfl ⟨⟨_, rfl⟩, trivial⟩ (fun hg44 => Pu_loadN rfl Tryz.isAgg45 Tryz.sizeOf45 rfl (Nat.le_of_ble_eq_true rfl))) rfl (by decide) (by kernel_rfl) (by intro j b oj dj h1 h2 h3; cases h1; cases h2; cases h3; decide) ?_
    refine Al_st (St_gd [] rfl rfl rfl rfl trivial (fun hg45 => by exact Pu_move (.inl rfl) (by conv => lhs; whnf))) rfl (by decide) (by kernel_rfl) (by intro j b oj dj h1 h2 h3; cases h1; cases h2; cases h3; decide) ?_
    refine Al_st (St_gd [40, 44, 45] rfl rfl rfl rfl ⟨⟨_, rfl⟩, ⟨_, rfl⟩, ⟨_, rfl⟩, trivial⟩ (fun hg46 => Pu_callv (aa := [(fun x => .row x.row) (l.getD a default), tg]) (caps := []) (hf (l.getD a default)) rfl rfl ⟨Sub.rfl, Sub.rfl, trivial⟩)) rfl (by decide) (by kernel_rfl) (by intro j b oj dj h1 h2 h3; cases h1; cases h2; cases h3; decide) ?_
    refine Al_st (St_gd [46] rfl rfl rfl rfl ⟨⟨_, rfl⟩, trivial⟩ (fun hg47 => Pu_cmp rfl rfl rfl rfl)) rfl (by decide) (by kernel_rfl) (by intro j b oj dj h1 h2 h3; cases h1; cases h2; cases h3; decide) ?_
    refine Al_p (Pu_and rfl rfl rfl rfl) ?_
    refine Al_p Pu_mvr ?_
    refine Al_p Pu_mvr ?_
    refine Al_nil ?_
    refine Aw_ret ?_
    exact ⟨Sub.num rfl, Sub.bool (by congr 1; exact decide_eq_decide.2 (by simp))⟩ -- ret 0
end Go.Proofs.YtojehmkkbdedaaaGreat
end

section
namespace Go.Proofs.YtojehmkkbdedaaaGreat.K
open Go
structure Hid' (a b : Int) : Prop where
  out : a = b
def bt (s : ByteArray) (i : Nat) : Nat := (s.get! i).toNat
theorem bt_lt (s : ByteArray) (i : Nat) : bt s i < 256 := (s.get! i).toNat_lt
theorem get_bt (s : ByteArray) (i : Nat) (h : i < s.size) : (s[i]'h).toNat = bt s i := by
  unfold bt; rw [← get_at s i h]; rfl
def okAt (s : ByteArray) (i : Nat) : Bool := !((Utf8.decode s i).1 == 65533 && (Utf8.decode s i).2 == 1)
def wd (s : ByteArray) (i : Nat) : Nat := (Utf8.decode s i).2
def rn (s : ByteArray) (i : Nat) : Nat := (Utf8.decode s i).1
def longN (b : Nat) : Nat := if b < 128 then 1 else if 194 ≤ b ∧ b ≤ 223 then 2 else if 224 ≤ b ∧ b ≤ 239 then 3 else if 240 ≤ b ∧ b ≤ 244 then 4 else 0
def contN (b : Nat) : Bool := decide (128 ≤ b ∧ b ≤ 191)
def exc (a b : Nat) : Bool := (a == 224 && decide (b < 160)) || (a == 237 && decide (159 < b)) || (a == 240 && decide (b < 144)) || (a == 244 && decide (143 < b))
/-- the reference's step -/
def refOk (s : ByteArray) (i : Nat) : Bool :=
  longN (bt s i) != 0 && decide (longN (bt s i) ≤ s.size - i) && (decide (longN (bt s i) ≤ 1) || contN (bt s (i+1))) && (decide (longN (bt s i) ≤ 2) || contN (bt s (i+2))) && (decide (longN (bt s i) ≤ 3) || contN (bt s (i+3))) && !(exc (bt s i) (bt s (i+1)))
def dec (b0 b1 b2 b3 : Nat) (c1 c2 c3 : Bool) : Nat × Nat :=
  if b0 < 0x80 then (b0, 1)
  else if b0 / 32 == 6 && (c1 && b1 / 64 == 2) then
    if (b0 % 32) * 64 + b1 % 64 ≥ 0x80 then ((b0 % 32) * 64 + b1 % 64, 2) else (65533, 1)
  else if b0 / 16 == 14 && (c1 && b1 / 64 == 2) && (c2 && b2 / 64 == 2) then
    if (b0 % 16) * 4096 + (b1 % 64) * 64 + b2 % 64 ≥ 0x800 && Utf8.valid ((b0 % 16) * 4096 + (b1 % 64) * 64 + b2 % 64 : Nat) then ((b0 % 16) * 4096 + (b1 % 64) * 64 + b2 % 64, 3) else (65533, 1)
  else if b0 / 8 == 30 && (c1 && b1 / 64 == 2) && (c2 && b2 / 64 == 2) && (c3 && b3 / 64 == 2) then
    if (b0 % 8) * 262144 + (b1 % 64) * 4096 + (b2 % 64) * 64 + b3 % 64 ≥ 0x10000 && Utf8.valid ((b0 % 8) * 262144 + (b1 % 64) * 4096 + (b2 % 64) * 64 + b3 % 64 : Nat) then ((b0 % 8) * 262144 + (b1 % 64) * 4096 + (b2 % 64) * 64 + b3 % 64, 4) else (65533, 1)
  else (65533, 1)
theorem decode_bt (s : ByteArray) (i : Nat) : Utf8.decode s i = dec (bt s i) (bt s (i+1)) (bt s (i+2)) (bt s (i+3)) (i + 1 < s.size) (i + 2 < s.size) (i + 3 < s.size) := rfl
theorem valid_iff (n : Nat) : Utf8.valid (n : Int) = true ↔ n < 55296 ∨ (57344 ≤ n ∧ n ≤ 1114111) := by
  simp only [Utf8.valid, Bool.or_eq_true, Bool.and_eq_true, decide_eq_true_eq]; omega
theorem ref_ok (s : ByteArray) (i : Nat) (h : i < s.size) : refOk s i = okAt s i ∧ (okAt s i = true → longN (bt s i) = wd s i) := by
  have h0 := bt_lt s i; have h1 := bt_lt s (i+1); have h2 := bt_lt s (i+2); have h3 := bt_lt s (i+3)
  have key : (refOk s i = true ↔ okAt s i = true) ∧ (okAt s i = true → longN (bt s i) = wd s i) := by
    simp only [okAt, wd, refOk, exc, contN, decode_bt]
    simp only [Bool.and_eq_true, Bool.or_eq_true, Bool.not_eq_true', Bool.or_eq_false_iff, Bool.and_eq_false_iff, bne_iff_ne, decide_eq_true_eq, beq_eq_false_iff_ne, decide_eq_false_iff_not]
    generalize bt s i = a at *
    generalize bt s (i+1) = b at *
    generalize bt s (i+2) = c at *
    generalize bt s (i+3) = d at *
    unfold longN dec
    simp only [Bool.and_eq_true, beq_iff_eq, decide_eq_true_eq, ge_iff_le, valid_iff]
    repeat' split
    all_goals simp
    all_goals (try omega)
  exact ⟨by rw [Bool.eq_iff_iff]; exact key.1, key.2⟩
end Go.Proofs.YtojehmkkbdedaaaGreat.K
namespace Go.Proofs.YtojehmkkbdedaaaGreat.K
open Go
theorem wd_pos (s : ByteArray) (i : Nat) (h : i < s.size) : 1 ≤ wd s i := by
  unfold wd
  by_cases ha : (s[i]'h).toNat < 128
  · rw [decode_ascii s i h ha]; exact Nat.le_refl _
  · exact (decode_high s i h (by omega)).2
def runesF (s : ByteArray) : Nat → Nat → Option Nat
  | 0, _ => some 0
  | f + 1, i => if i < s.size then (if okAt s i then (runesF s f (i + wd s i)).map (· + 1) else none) else some 0
def runes (s : ByteArray) : Int := match runesF s s.size 0 with | some n => n | none => -1
theorem runesF_end (s : ByteArray) (f i : Nat) (h : ¬ i < s.size) : runesF s f i = some 0 := by cases f <;> simp [runesF, h]
theorem runesF_bad (s : ByteArray) (f i : Nat) (h : i < s.size) (hf : s.size ≤ i + f) (ho : okAt s i = false) : runesF s f i = none := by
  cases f with
  | zero => omega
  | succ f => simp [runesF, h, ho]
theorem runesF_ok (s : ByteArray) (f i : Nat) (h : i < s.size) (hf : s.size ≤ i + f) (ho : okAt s i = true) : ∃ g, s.size ≤ i + wd s i + g ∧ runesF s f i = (runesF s g (i + wd s i)).map (· + 1) := by
  cases f with
  | zero => omega
  | succ f => exact ⟨f, by have := wd_pos s i h; omega, by simp [runesF, h, ho]⟩
/-- where a count stands -/
def At (s : ByteArray) (i n : Nat) : Prop := ∃ f, s.size ≤ i + f ∧ runesF s s.size 0 = (runesF s f i).map (· + n)
theorem At.start (s : ByteArray) : At s 0 0 := ⟨s.size, by omega, by simp⟩
theorem At.next {s : ByteArray} {i n : Nat} (h : At s i n) (hi : i < s.size) (ho : okAt s i = true) : At s (i + wd s i) (n + 1) := by
  obtain ⟨f, h1, h2⟩ := h
  obtain ⟨g, h3, h4⟩ := runesF_ok s f i hi h1 ho
  refine ⟨g, h3, ?_⟩
  rw [h2, h4, Option.map_map]
  congr 1; funext x; simp; omega
theorem At.bad {s : ByteArray} {i n : Nat} (h : At s i n) (hi : i < s.size) (ho : okAt s i = false) : runes s = -1 := by
  obtain ⟨f, h1, h2⟩ := h
  unfold runes
  rw [h2, runesF_bad s f i hi h1 ho]; rfl
theorem At.done {s : ByteArray} {i n : Nat} (h : At s i n) (hi : ¬ i < s.size) : runes s = n := by
  obtain ⟨f, h1, h2⟩ := h
  unfold runes
  rw [h2, runesF_end s f i hi]; simp
theorem decode_fffd (s : ByteArray) (i : Nat) (h : i < s.size) :
    (okAt s i = true → rn s i = 65533 → bt s i = 239 ∧ 3 ≤ s.size - i ∧ bt s (i+1) = 191 ∧ bt s (i+2) = 189) ∧
    (okAt s i = false → rn s i = 65533 ∧ ¬ (bt s i = 239 ∧ 3 ≤ s.size - i ∧ bt s (i+1) = 191 ∧ bt s (i+2) = 189)) := by
  have h0 := bt_lt s i; have h1 := bt_lt s (i+1); have h2 := bt_lt s (i+2); have h3 := bt_lt s (i+3)
  simp only [okAt, rn, decode_bt]
  simp only [Bool.not_eq_true', Bool.not_eq_false', Bool.and_eq_true, Bool.and_eq_false_iff, beq_iff_eq, beq_eq_false_iff_ne]
  generalize bt s i = a at *
  generalize bt s (i+1) = b at *
  generalize bt s (i+2) = c at *
  generalize bt s (i+3) = d at *
  unfold dec
  simp only [Bool.and_eq_true, beq_iff_eq, decide_eq_true_eq, ge_iff_le, valid_iff]
  repeat' split
  all_goals simp
  all_goals (try omega)
theorem rn_bytes (s : ByteArray) (i : Nat) (h : i < s.size) (ho : okAt s i = true) :
    i + wd s i ≤ s.size ∧ (33 ≤ rn s i ↔ ∀ t, i ≤ t → t < i + wd s i → 33 ≤ bt s t) := by
  have h0 := bt_lt s i; have h1 := bt_lt s (i+1); have h2 := bt_lt s (i+2); have h3 := bt_lt s (i+3)
  have hq : i + wd s i ≤ s.size ∧ wd s i ≤ 4 ∧ (wd s i ≤ 1 → rn s i = bt s i ∧ wd s i = 1) ∧ (2 ≤ wd s i → 33 ≤ rn s i ∧ 33 ≤ bt s i ∧ 33 ≤ bt s (i+1)) ∧ (3 ≤ wd s i → 33 ≤ bt s (i+2)) ∧ (4 ≤ wd s i → 33 ≤ bt s (i+3)) := by
    simp only [okAt, rn, wd, decode_bt] at *
    simp only [Bool.not_eq_true', Bool.and_eq_false_iff, beq_eq_false_iff_ne] at ho
    generalize bt s i = a at *
    generalize bt s (i+1) = b at *
    generalize bt s (i+2) = c at *
    generalize bt s (i+3) = d at *
    generalize hq : dec a b c d _ _ _ = q at *
    obtain ⟨r, k⟩ := q
    unfold dec at hq
    simp only [Bool.and_eq_true, beq_iff_eq, decide_eq_true_eq, ge_iff_le, valid_iff] at hq
    simp only at ho ⊢
    repeat' split at hq
    all_goals
      simp only [Prod.mk.injEq] at hq
      obtain ⟨rfl, rfl⟩ := hq
      omega
  obtain ⟨q1, q2, q3, q4, q5, q6⟩ := hq
  refine ⟨q1, fun hr t t1 t2 => ?_, fun hall => ?_⟩
  · rcases Nat.lt_or_ge 1 (wd s i) with hw | hw
    · have := q4 hw
      have e : t = i ∨ t = i + 1 ∨ t = i + 2 ∨ t = i + 3 := by omega
      rcases e with rfl | rfl | rfl | rfl
      · exact this.2.1
      · exact this.2.2
      · exact q5 (by omega)
      · exact q6 (by omega)
    · have := q3 hw
      obtain rfl : t = i := by omega
      omega
  · rcases Nat.lt_or_ge 1 (wd s i) with hw | hw
    · exact (q4 hw).1
    · have := q3 hw
      have := hall i (Nat.le_refl _) (by omega)
      omega
end Go.Proofs.YtojehmkkbdedaaaGreat.K
namespace Go.Proofs.YtojehmkkbdedaaaGreat.K
open Go
theorem get_list (s : ByteArray) (i : Nat) (h : i < s.size) : s.get! i = s.data.toList[i]'(by simpa using h) := by
  have := get_at s i h
  rw [Nat.add_zero] at this
  rw [this]; rfl
theorem ext3 (s : ByteArray) (i : Nat) (h : i + 3 ≤ s.size) : (s.extract i (i + 3)).toList = [s.get! i, s.get! (i+1), s.get! (i+2)] := by
  rw [ByteArray.toList_eq, ByteArray.data_extract, Array.toList_extract, get_list s i (by omega), get_list s (i+1) (by omega), get_list s (i+2) (by omega)]
  simp only [List.extract_eq_take_drop]
  have hl : s.data.toList.length = s.size := by simp
  apply List.ext_getElem
  · simp only [List.length_take, List.length_drop, hl, List.length_cons, List.length_nil]; omega
  · intro k h1 h2
    have : k = 0 ∨ k = 1 ∨ k = 2 := by simp at h2; omega
    rcases this with rfl | rfl | rfl <;> simp [List.getElem_drop]
theorem fffd_no (s : ByteArray) (i : Nat) (h : i < s.size) (ho : okAt s i = false) (h1 : (((s[i]'h).toNat : Int) != (((⟨#[239, 191, 189]⟩ : ByteArray)[0]).toNat : Int)) = false)
    (h2 : (3 : Int) ≤ (s.size : Int) - (i : Int)) (h3 : (!(s.extract i (i + 3)).toList == [239, 191, 189]) = false) : False := by
  have := (decode_fffd s i h).2 ho
  refine this.2 ⟨?_, by omega, ?_⟩
  · rw [← get_bt s i h]
    have e : (((⟨#[239, 191, 189]⟩ : ByteArray)[0]).toNat : Int) = 239 := rfl
    rw [e, bne_eq_false_iff_eq] at h1
    omega
  · rw [ext3 s i (by omega)] at h3
    have e : s.get! i = 239 ∧ s.get! (i+1) = 191 ∧ s.get! (i+2) = 189 := by simpa using h3
    unfold bt
    rw [e.2.1, e.2.2]
    exact ⟨rfl, rfl⟩
theorem fffd_b (s : ByteArray) (i : Nat) (h : i < s.size) (ho : okAt s i = true) (hr : Hid' ((Utf8.decode s i).1 : Int) 65533) : (((s[i]'h).toNat : Int) != (((⟨#[239, 191, 189]⟩ : ByteArray)[0]).toNat : Int)) = false ∧ (3 : Int) ≤ (s.size : Int) - (i : Int) ∧ (!(s.extract i (i + 3)).toList == [239, 191, 189]) = false := by
  have := (decode_fffd s i h).1 ho (by have := hr.out; unfold rn; omega)
  obtain ⟨a, b, c, d⟩ := this
  refine ⟨?_, by omega, ?_⟩
  · have e : (s[i]'h).toNat = 239 := by rw [get_bt s i h, a]
    rw [bne_eq_false_iff_eq, e]; rfl
  · rw [ext3 s i (by omega)]
    have e0 : s.get! i = 239 := UInt8.toNat_inj.1 a
    have e1 : s.get! (i+1) = 191 := UInt8.toNat_inj.1 c
    have e2 : s.get! (i+2) = 189 := UInt8.toNat_inj.1 d
    rw [e0, e1, e2]; rfl
def hasB (f t k : ByteArray) : Bool := !(Op.bytesLess k.toList f.toList) && (t.toList.isEmpty || Op.bytesLess k.toList t.toList)
def allF (s : ByteArray) : Nat → Nat → Bool
  | 0, _ => true
  | f + 1, i => if i < s.size then decide (33 ≤ rn s i) && allF s f (i + wd s i) else true
def lim (s : ByteArray) : Bool := decide (1 ≤ runes s) && decide (runes s ≤ 8)
def checkB (s : ByteArray) : Bool := lim s && allF s s.size 0
theorem allF_end (s : ByteArray) (f i : Nat) (h : ¬ i < s.size) : allF s f i = true := by cases f <;> simp [allF, h]
theorem allF_step (s : ByteArray) (f i : Nat) (h : i < s.size) (hf : s.size ≤ i + f) : ∃ g, s.size ≤ i + wd s i + g ∧ allF s f i = (decide (33 ≤ rn s i) && allF s g (i + wd s i)) := by
  cases f with
  | zero => omega
  | succ f => exact ⟨f, by have := wd_pos s i h; omega, by simp [allF, h]⟩
/-- where the loop of Check stands: right so far is r -/
def CAt (s : ByteArray) (i : Nat) (r : Bool) : Prop := ∃ f, s.size ≤ i + f ∧ checkB s = (r && allF s f i)
theorem CAt.start (s : ByteArray) : CAt s 0 (lim s) := ⟨s.size, by omega, rfl⟩
theorem CAt.next {s : ByteArray} {i : Nat} (h : CAt s i true) (hi : i < s.size) : CAt s (i + wd s i) (decide (33 ≤ rn s i)) := by
  obtain ⟨f, h1, h2⟩ := h
  obtain ⟨g, h3, h4⟩ := allF_step s f i hi h1
  exact ⟨g, h3, by rw [h2, h4]; simp⟩
theorem CAt.no {s : ByteArray} {i : Nat} (h : CAt s i false) : checkB s = false := by
  obtain ⟨f, h1, h2⟩ := h
  simpa using h2
theorem CAt.done {s : ByteArray} {i : Nat} {r : Bool} (h : CAt s i r) (hi : ¬ i < s.size) : checkB s = r := by
  obtain ⟨f, h1, h2⟩ := h
  rw [h2, allF_end s f i hi]; simp
/-- the reference: all bytes -/
def bytesOk (s : ByteArray) : Bool := s.data.toList.all (fun c => decide (33 ≤ c.toNat))
def rcheckB (s : ByteArray) : Bool := bytesOk s && lim s
def longI (n : Int) : Int := if n < 128 then 1 else if 194 ≤ n ∧ n ≤ 223 then 2 else if 224 ≤ n ∧ n ≤ 239 then 3 else if 240 ≤ n ∧ n ≤ 244 then 4 else 0
theorem longI_eq (b : Nat) : longI (b : Int) = (longN b : Int) := by
  unfold longI longN
  repeat' split
  all_goals first | rfl | omega
theorem longI_big {K n : Int} (h : Hid' K (longI n)) (h0 : ¬ K = 0) (h1 : 224 ≤ n) : 3 ≤ K := by
  have := h.out
  unfold longI at this
  (repeat' split at this) <;> omega
theorem longI_le {K n : Int} (h : Hid' K (longI n)) : 0 ≤ K ∧ K ≤ 4 := by
  have := h.out
  unfold longI at this
  (repeat' split at this) <;> omega
theorem longN_le (b : Nat) : longN b ≤ 4 := by
  unfold longN
  repeat' split
  all_goals omega
def Conts (s : ByteArray) (i j : Nat) : Prop := ∀ t, 1 ≤ t → t < j → contN (bt s (i + t)) = true
theorem Conts.start (s : ByteArray) (i : Nat) : Conts s i 1 := fun t h1 h2 => by omega
theorem Conts.next {s : ByteArray} {i j : Nat} (h : Conts s i j) (hj : contN (bt s (i + j)) = true) : Conts s i (j + 1) := fun t h1 h2 => by
  by_cases e : t = j
  · rw [e]; exact hj
  · exact h t h1 (by omega)
theorem refOk_of {s : ByteArray} {i : Nat} (h0 : longN (bt s i) ≠ 0) (h1 : longN (bt s i) ≤ s.size - i) (hc : Conts s i (longN (bt s i))) (he : exc (bt s i) (bt s (i + 1)) = false) : refOk s i = true := by
  unfold refOk
  simp only [Bool.and_eq_true, bne_iff_ne, ne_eq, decide_eq_true_eq, Bool.or_eq_true, he, Bool.not_false, and_true]
  refine ⟨⟨⟨⟨h0, h1⟩, ?_⟩, ?_⟩, ?_⟩
  all_goals first
    | (rcases Nat.lt_or_ge 1 (longN (bt s i)) with h | h; exact .inr (hc 1 (by omega) h); exact .inl h)
    | (rcases Nat.lt_or_ge 2 (longN (bt s i)) with h | h; exact .inr (hc 2 (by omega) h); exact .inl h)
    | (rcases Nat.lt_or_ge 3 (longN (bt s i)) with h | h; exact .inr (hc 3 (by omega) h); exact .inl h)
theorem refOk_spec {s : ByteArray} {i : Nat} (h : refOk s i = true) : longN (bt s i) ≠ 0 ∧ longN (bt s i) ≤ s.size - i ∧ Conts s i (longN (bt s i)) ∧ exc (bt s i) (bt s (i + 1)) = false := by
  unfold refOk at h
  simp only [Bool.and_eq_true, bne_iff_ne, ne_eq, decide_eq_true_eq, Bool.or_eq_true, Bool.not_eq_true'] at h
  obtain ⟨⟨⟨⟨⟨h0, h1⟩, h2⟩, h3⟩, h4⟩, h5⟩ := h
  refine ⟨h0, h1, fun t t1 t2 => ?_, h5⟩
  have := longN_le (bt s i)
  have : t = 1 ∨ t = 2 ∨ t = 3 := by omega
  rcases this with rfl | rfl | rfl
  · exact h2.resolve_left (by omega)
  · exact h3.resolve_left (by omega)
  · exact h4.resolve_left (by omega)
/-- the reference's round, bad: the count is -1 -/
theorem At.rbad {s : ByteArray} {i n : Nat} (h : At s i n) (hi : i < s.size) (hn : refOk s i = false) : runes s = -1 := h.bad hi (by rw [← (ref_ok s i hi).1]; exact hn)
theorem At.rlong0 {s : ByteArray} {i n : Nat} (h : At s i n) (hi : i < s.size) {K : Int} (hK : Hid' K (longI (s[i]'hi).toNat)) (h0 : K = 0 ∨ (s.size : Int) - i < K) : runes s = -1 := h.rbad hi (by
  rw [hK.out] at h0
  rw [get_bt s i hi] at h0
  cases hr : refOk s i with
  | false => rfl
  | true =>
    obtain ⟨a, b, _⟩ := refOk_spec hr
    rw [longI_eq] at h0
    omega)
theorem At.rcont {s : ByteArray} {i n j : Nat} (h : At s i n) (hi : i < s.size) (h1 : 1 ≤ j) {K : Int} (hK : Hid' K (longI (s[i]'hi).toNat)) (hj : (j : Int) < K) (h2 : i + j < s.size) (hb : (((s[i + j]'h2).toNat : Nat) : Int) < 128 ∨ (191 : Int) < ((s[i + j]'h2).toNat : Nat)) : runes s = -1 := h.rbad hi (by
  rw [hK.out, get_bt s i hi] at hj
  rw [get_bt s (i + j) h2] at hb
  cases hr : refOk s i with
  | false => rfl
  | true =>
    obtain ⟨a, b, c, _⟩ := refOk_spec hr
    rw [longI_eq] at hj
    have := c j h1 (by omega)
    unfold contN at this
    simp only [decide_eq_true_eq] at this
    omega)
theorem At.rexc {s : ByteArray} {i n : Nat} (h : At s i n) (hi : i < s.size) (he : exc (bt s i) (bt s (i + 1)) = true) : runes s = -1 := h.rbad hi (by
  cases hr : refOk s i with
  | false => rfl
  | true => rw [(refOk_spec hr).2.2.2] at he; cases he)
theorem At.rnext {s : ByteArray} {i n : Nat} {K : Int} (h : At s i n) (hi : i < s.size) (hK' : Hid' K (longI (s[i]'hi).toNat)) (h0 : ¬ K = 0) (h1 : K ≤ (s.size : Int) - i) (hc : Conts s i K.toNat) (he : exc (bt s i) (bt s (i + 1)) = false) : At s (i + K.toNat) (n + 1) := by
  have hK := hK'.out
  rw [get_bt s i hi, longI_eq] at hK
  obtain rfl : K = _ := hK
  rw [Int.toNat_natCast] at hc ⊢
  have hr : refOk s i = true := refOk_of (by omega) (by omega) hc he
  have ho := (ref_ok s i hi)
  rw [ho.1] at hr
  rw [ho.2 hr]
  exact h.next hi hr
def BOk (s : ByteArray) (i : Nat) : Prop := ∀ t, t < i → 33 ≤ bt s t
theorem BOk.start (s : ByteArray) : BOk s 0 := fun t h => by omega
theorem BOk.next {s : ByteArray} {i : Nat} (h : BOk s i) (hi : 33 ≤ bt s i) : BOk s (i + 1) := fun t ht => by
  by_cases e : t = i
  · rw [e]; exact hi
  · exact h t (by omega)
theorem bytesOk_iff (s : ByteArray) : bytesOk s = true ↔ BOk s s.size := by
  unfold bytesOk BOk
  rw [List.all_eq_true]
  constructor
  · intro h t ht
    have := h _ (List.getElem_mem (l := s.data.toList) (n := t) (by simpa using ht))
    rw [← get_list s t ht] at this
    simpa [bt] using this
  · intro h x hx
    obtain ⟨t, ht, rfl⟩ := List.getElem_of_mem hx
    have h' : t < s.size := by simpa using ht
    have := h t h'
    rw [← get_list s t h']
    simpa [bt] using this
theorem BOk.yes {s : ByteArray} (h : BOk s s.size) : rcheckB s = lim s := by
  unfold rcheckB; rw [(bytesOk_iff s).2 h]; simp
theorem rcheck_no {s : ByteArray} {i : Nat} (h : i < s.size) (hb : bt s i < 33) : rcheckB s = false := by
  unfold rcheckB
  have : bytesOk s = false := by
    cases hb' : bytesOk s with
    | false => rfl
    | true => have := (bytesOk_iff s).1 hb' i h; omega
  rw [this]; rfl
theorem allF_iff (s : ByteArray) : ∀ (f i : Nat), s.size ≤ i + f → runesF s f i ≠ none → (allF s f i = true ↔ ∀ t, i ≤ t → t < s.size → 33 ≤ bt s t)
  | 0, i, hf, _ => by simp only [allF, true_iff]; intro t h1 h2; omega
  | f + 1, i, hf, hn => by
    by_cases hi : i < s.size
    · cases ho : okAt s i with
      | false => simp [runesF, hi, ho] at hn
      | true =>
        have hr := rn_bytes s i hi ho
        have hw := wd_pos s i hi
        have ih := allF_iff s f (i + wd s i) (by omega) (by simp [runesF, hi, ho] at hn; exact hn)
        simp only [allF, hi, if_true, Bool.and_eq_true, decide_eq_true_eq, ih, hr.2]
        constructor
        · rintro ⟨a, b⟩ t t1 t2
          rcases Nat.lt_or_ge t (i + wd s i) with h | h
          · exact a t t1 h
          · exact b t h t2
        · intro h
          exact ⟨fun t t1 t2 => h t t1 (by omega), fun t t1 t2 => h t (by omega) t2⟩
    · simp only [allF, hi, if_false, true_iff]; intro t h1 h2; omega
theorem check_eq (s : ByteArray) : checkB s = rcheckB s := by
  unfold checkB rcheckB
  cases hl : lim s with
  | false => simp
  | true =>
    have hn : runesF s s.size 0 ≠ none := by
      intro h
      unfold lim runes at hl
      rw [h] at hl
      simp at hl
    have := allF_iff s s.size 0 (by omega) hn
    rw [Bool.true_and, Bool.and_true, Bool.eq_iff_iff, this, bytesOk_iff]
    exact ⟨fun h t ht => h t (Nat.zero_le _) ht, fun h t _ ht => h t ht⟩
def mayB (s : ByteArray) : Bool := s.toList.isEmpty || checkB s
def goodB (f t : ByteArray) : Bool := mayB f && mayB t && (t.toList.isEmpty || Op.bytesLess f.toList t.toList)
theorem bl_irrefl : ∀ a : List UInt8, Op.bytesLess a a = false
  | [] => rfl
  | x :: r => by simp [Op.bytesLess, bl_irrefl r]
theorem bl_trans : ∀ a b c : List UInt8, Op.bytesLess a b = true → Op.bytesLess b c = true → Op.bytesLess a c = true
  | [], [], _, h, _ => by simp [Op.bytesLess] at h
  | [], _ :: _, [], _, h => by simp [Op.bytesLess] at h
  | [], _ :: _, _ :: _, _, _ => by simp [Op.bytesLess]
  | _ :: _, [], _, h, _ => by simp [Op.bytesLess] at h
  | _ :: _, _ :: _, [], _, h => by simp [Op.bytesLess] at h
  | x :: a, y :: b, z :: c, h1, h2 => by
    have ih := bl_trans a b c
    simp only [Op.bytesLess, Bool.or_eq_true, Bool.and_eq_true, decide_eq_true_eq, beq_iff_eq] at *
    rcases h1 with h1 | ⟨rfl, h1⟩ <;> rcases h2 with h2 | ⟨rfl, h2⟩
    · exact .inl (UInt8.lt_trans h1 h2)
    · exact .inl h1
    · exact .inl h2
    · exact .inr ⟨rfl, ih h1 h2⟩
theorem bl_tri : ∀ a b : List UInt8, Op.bytesLess a b = false → Op.bytesLess b a = false → a = b
  | [], [], _, _ => rfl
  | [], _ :: _, h, _ => by simp [Op.bytesLess] at h
  | _ :: _, [], _, h => by simp [Op.bytesLess] at h
  | x :: a, y :: b, h1, h2 => by
    have ih := bl_tri a b
    simp only [Op.bytesLess, Bool.or_eq_false_iff, Bool.and_eq_false_iff, decide_eq_false_iff_not, beq_eq_false_iff_ne] at h1 h2
    have e : x = y := UInt8.le_antisymm (UInt8.not_lt.1 h2.1) (UInt8.not_lt.1 h1.1)
    subst e
    rw [ih (h1.2.resolve_left (fun h => h rfl)) (h2.2.resolve_left (fun h => h rfl))]
/-- at most -/
def le (a b : List UInt8) : Prop := Op.bytesLess b a = false
theorem le_of_lt {a b : List UInt8} (h : Op.bytesLess a b = true) : le a b := by
  unfold le
  cases hb : Op.bytesLess b a with
  | false => rfl
  | true => have := bl_trans a b a h hb; rw [bl_irrefl] at this; cases this
theorem lt_of_lt_le {a b c : List UInt8} (h : Op.bytesLess a b = true) (h2 : le b c) : Op.bytesLess a c = true := by
  cases hbc : Op.bytesLess b c with
  | true => exact bl_trans a b c h hbc
  | false => rw [← bl_tri b c hbc h2]; exact h
theorem le_trans {a b c : List UInt8} (h : le a b) (h2 : le b c) : le a c := by
  unfold le
  cases hca : Op.bytesLess c a with
  | false => rfl
  | true => have := lt_of_lt_le hca h; rw [h2] at this; cases this
end Go.Proofs.YtojehmkkbdedaaaGreat.K
namespace Go.Proofs.YtojehmkkbdedaaaGreat.K
open Go
end Go.Proofs.YtojehmkkbdedaaaGreat.K
end

section
namespace Go.Proofs.YtojehmkkbdedaaaGreat
open Go.RowKit
theorem ret_bool {a b : Bool} (h : a = b) : Ending.returned (.bool a) = .returned (.bool b) := by rw [h]
set_option maxHeartbeats 400000 in
theorem runes_any (s : ByteArray) (hs : s.size ≤ 9223372036854775807) (w : World) :
    Calls Tryz.prog 81 #[.string s] w fun e w' => e = .returned (.int .i64 (K.runes s)) ∧ Below w.heap.size w w' := by
  go_enter Tryz.func81, Tryz.ntmps81
  go_wp2
  go_loopw [2, 3] (fun r n wr => ∃ (pos k : Nat), wr.heap[w.heap.size]? = some (.stringIter s pos) ∧ Below w.heap.size w wr ∧ r = .int .i64 0 ∧ n = .int .i64 k ∧ k ≤ pos ∧ K.At s pos k) (fun _ _ wr => s.size - wr.iterPos w.heap.size)
  case atStart => exact ⟨0, 0, World.iter_heap w s 0, (Below.refl _ _).alloc (Nat.le_refl _) _, rfl, rfl, Nat.le_refl _, K.At.start s⟩
  case round =>
    obtain ⟨pos, k, hit, hb, rfl, rfl, hk, hat⟩ := hrel
    by_cases hp : pos < s.size
    · have hnx : ∀ ty, (Instr.next (.pointer (some ⟨w.heap.size, 0, none⟩)) true ty).run Tryz.prog wr = _ := fun ty => Lib.run_next_any_at wr w.heap.size s pos ty hit hp
      have hw0 := K.wd_pos s pos hp
      have hit2 := Lib.iterAt_heap wr w.heap.size s pos (pos + (Utf8.decode s pos).2) hit
      have hb2 := Lib.below_iterAt hb (k := w.heap.size) (Nat.le_refl _) s (pos + (Utf8.decode s pos).2)
      unfold K.wd at hw0
      have hm : ∀ nq, s.size - ((wr.iterAt w.heap.size s (pos + (Utf8.decode s pos).2)).drewN nq).iterPos w.heap.size < s.size - wr.iterPos w.heap.size := fun nq => by
        have e1 : wr.iterPos w.heap.size = pos := by simp [World.iterPos, hit]
        have e2 : ((wr.iterAt w.heap.size s (pos + (Utf8.decode s pos).2)).drewN nq).iterPos w.heap.size = pos + (Utf8.decode s pos).2 := by simp [World.iterPos, hit2]
        rw [e1, e2]; omega
      have HM := Lib.hid hm
      clear hm
      go_wp2
      by_cases hr : (((Utf8.decode s pos).1 : Nat) : Int) = 65533
      · have hr1 : ((((Utf8.decode s pos).1 : Nat) : Int) == 65533) = true := by rw [hr]; rfl
        have HR : K.Hid' _ _ := ⟨hr⟩
        clear hr
        cases hok : K.okAt s pos
        · go_quiet (fail)
          go_wp2
          · go_ret
            rw [hat.bad hp hok]; exact ⟨rfl, below_drewN hb2 _⟩
          · go_ret
            rw [hat.bad hp hok]; exact ⟨rfl, below_drewN hb2 _⟩
          · exact (K.fffd_no s pos hp hok (by assumption) (by assumption) (by rename_i h; exact h.2)).elim
          · go_ret
            rw [hat.bad hp hok]; exact ⟨rfl, below_drewN hb2 _⟩
        · have ⟨f1, f2, f3⟩ := K.fffd_b s pos hp hok HR
          have f4 : ¬ (s.size : Int) - (pos : Int) < 3 := by omega
          go_quiet (fail)
          go_wp2
          exact ⟨⟨pos + (Utf8.decode s pos).2, k + 1, hit2, below_drewN hb2 _, rfl, by go_num, by omega, hat.next hp hok⟩, HM.out _⟩
      · have hr1 : ((((Utf8.decode s pos).1 : Nat) : Int) == 65533) = false := by simpa using hr
        have hok : K.okAt s pos = true := by
          cases ho : K.okAt s pos with
          | true => rfl
          | false => exact absurd (by have := ((K.decode_fffd s pos hp).2 ho).1; unfold K.rn at this; omega) hr
        clear hr
        go_quiet (fail)
        go_wp2
        exact ⟨⟨pos + (Utf8.decode s pos).2, k + 1, hit2, below_drewN hb2 _, rfl, by go_num, by omega, hat.next hp hok⟩, HM.out _⟩
    · have hnx : ∀ ty, (Instr.next (.pointer (some ⟨w.heap.size, 0, none⟩)) true ty).run Tryz.prog wr = _ := fun ty => Lib.run_next_end_at wr w.heap.size s pos ty hit hp
      go_wp2
      go_ret
      rw [hat.done hp]; exact ⟨rfl, hb⟩
set_option maxHeartbeats 400000 in
theorem has_any (f t k : ByteArray) (w : World) :
    Calls Tryz.prog 61 #[.agg #[.string f, .string t], .string k] w fun e w' => e = .returned (.bool (K.hasB f t k)) ∧ Below w.heap.size w w' := by
  go_enter Tryz.func61, Tryz.ntmps61
  go_wp2
  all_goals (go_ret; exact ⟨by simp_all [K.hasB], (Below.refl _ _).alloc (Nat.le_refl _) _⟩)
set_option maxHeartbeats 400000 in
theorem check_any (s : ByteArray) (hs : s.size ≤ 9223372036854775807) (w : World) :
    Calls Tryz.prog 64 #[.string s] w fun e w' => e = .returned (.bool (K.checkB s)) ∧ Below w.heap.size w w' := by
  by_cases h1 : 1 ≤ K.runes s
  all_goals
    have hl0 : K.lim s = decide (K.runes s ≤ 8) ∨ ¬ 1 ≤ K.runes s := by simp [K.lim, h1]
    have hl1 : K.lim s = false ∨ 1 ≤ K.runes s := by simp [K.lim, h1]
    have HL0 := Lib.hid hl0
    have HL1 := Lib.hid hl1
    clear hl0 hl1
    go_enter Tryz.func64, Tryz.ntmps64
    go_wp2
    go_step3
    go_wp2_with (go_at_call 81; refine (runes_any _ hs _).mono ?_; rintro e w1 ⟨rfl, hb1⟩)
    go_step3
    go_wp2
    go_loopw [4] (fun r wr => ∃ (pos : Nat) (b : Bool), wr.heap[w1.heap.size]? = some (.stringIter s pos) ∧ Below w.heap.size w wr ∧ r = .bool b ∧ K.CAt s pos b) (fun _ wr => s.size - wr.iterPos w1.heap.size)
    case atStart =>
      refine ⟨0, _, World.iter_heap w1 s 0, hb1.trans ((Below.refl _ _).alloc hb1.size _), rfl, ?_⟩
      have := K.CAt.start s
      first
        | (rw [(HL0.out).resolve_right (by simpa using h1)] at this; exact this)
        | (rw [(HL1.out).resolve_right (by omega)] at this; exact this)
    case round =>
      obtain ⟨pos, b, hit, hb, rfl, hat⟩ := hrel
      by_cases hp : pos < s.size
      · have hnx : ∀ ty, (Instr.next (.pointer (some ⟨w1.heap.size, 0, none⟩)) true ty).run Tryz.prog wr = _ := fun ty => Lib.run_next_any_at wr w1.heap.size s pos ty hit hp
        have hw0 := K.wd_pos s pos hp
        have hit2 := Lib.iterAt_heap wr w1.heap.size s pos (pos + (Utf8.decode s pos).2) hit
        have hb2 := Lib.below_iterAt hb (k := w1.heap.size) hb1.size s (pos + (Utf8.decode s pos).2)
        have hm : s.size - (wr.iterAt w1.heap.size s (pos + (Utf8.decode s pos).2)).iterPos w1.heap.size < s.size - wr.iterPos w1.heap.size := by
          unfold K.wd at hw0
          have e1 : wr.iterPos w1.heap.size = pos := by simp [World.iterPos, hit]
          have e2 : (wr.iterAt w1.heap.size s (pos + (Utf8.decode s pos).2)).iterPos w1.heap.size = pos + (Utf8.decode s pos).2 := by simp [World.iterPos, hit2]
          rw [e1, e2]; omega
        have HM := Lib.hid hm
        clear hm hw0
        cases b
        · go_wp2
          rw [Exit.noGoto_ret]
          go_ret
          rw [hat.no]
          exact ⟨rfl, hb2⟩
        · go_wp2
          have hn := hat.next hp
          have e : decide ((33 : Int) ≤ ((Utf8.decode s pos).1 : Int)) = decide (33 ≤ K.rn s pos) := by
            unfold K.rn; rw [decide_eq_decide]; omega
          exact ⟨⟨pos + (Utf8.decode s pos).2, _, hit2, hb2, rfl, by rw [e]; exact hn⟩, HM.out⟩
      · have hnx : ∀ ty, (Instr.next (.pointer (some ⟨w1.heap.size, 0, none⟩)) true ty).run Tryz.prog wr = _ := fun ty => Lib.run_next_end_at wr w1.heap.size s pos ty hit hp
        go_wp2
        rw [Exit.noGoto_ret]
        go_ret
        rw [hat.done hp]
        exact ⟨rfl, hb⟩
end Go.Proofs.YtojehmkkbdedaaaGreat
namespace Go.Proofs.YtojehmkkbdedaaaGreat
open Go.RowKit
set_option maxHeartbeats 400000 in
theorem long_any (n : Int) (h0 : 0 ≤ n) (h1 : n < 256) (w : World) :
    Calls Tryz.prog 90 #[.int .u8 n] w fun e w' => ∃ k, e = .returned (.int .i64 k) ∧ K.Hid' k (K.longI n) ∧ w = w' := by
  go_enter Tryz.func90, Tryz.ntmps90
  go_wp2
  all_goals (go_ret; refine ⟨_, rfl, ⟨?_⟩, rfl⟩; unfold K.longI; (repeat' split) <;> first | rfl | omega)
set_option maxHeartbeats 1000000 in
set_option maxRecDepth 100000 in
theorem rruns_any (s : ByteArray) (hs : s.size ≤ 9223372036854775807) (w : World) :
    Calls Tryz.prog 79 #[.string s] w fun e w' => e = .returned (.int .i64 (K.runes s)) ∧ w = w' := by
  go_enter Tryz.func79, Tryz.ntmps79
  go_wp2
  go_loop [2, 3, 4] (fun r n p => ∃ (pos k : Nat), r = .int .i64 0 ∧ n = .int .i64 k ∧ p = .int .i64 pos ∧ k ≤ pos ∧ pos ≤ s.size ∧ K.At s pos k) (fun _ _ p => s.size - (intOf p).toNat)
  case atStart => exact ⟨0, 0, rfl, rfl, rfl, Nat.le_refl _, Nat.zero_le _, K.At.start s⟩
  case round =>
    obtain ⟨pos, k, rfl, rfl, rfl, hk, hps, hat⟩ := hrel
    by_cases hp : pos < s.size
    · have hb := (s[pos]'hp).toNat_lt
      go_wp2_with fail
      refine (long_any _ (by omega) (by omega) _).mono ?_
      rintro e w' ⟨kk, rfl, HK, rfl⟩
      obtain ⟨hk0, hk4⟩ := K.longI_le HK
      by_cases hz : kk = 0
      · have hz1 : (kk == 0) = true := by rw [hz]; rfl
        have HZ := Lib.hid hz
        clear hz
        go_wp2
        go_ret
        rw [hat.rlong0 hp HK (.inl HZ.out)]
        exact ⟨rfl, rfl⟩
      have hz1 : (kk == 0) = false := by simpa using hz
      by_cases hgt : (s.size : Int) - pos < kk
      · go_wp2
        go_ret
        rw [hat.rlong0 hp HK (.inr (by assumption))]
        exact ⟨rfl, rfl⟩
      have hgt1 : decide ((s.size : Int) - pos < kk) = false := by simpa using hgt
      have hne : 1 ≤ kk := by omega
      have hle : kk ≤ (s.size : Int) - pos := by omega
      clear hz
      go_wp2
      go_loop [2, 6] (fun r i => r = .int .i64 0 ∧ ∃ j : Nat, i = .int .i64 j ∧ 1 ≤ j ∧ (j : Int) ≤ kk ∧ K.Conts s pos j) (fun _ i => 5 - (intOf i).toNat)
      case atStart => exact ⟨rfl, 1, rfl, by omega, by omega, K.Conts.start s pos⟩
      case round =>
        obtain ⟨rfl, j, rfl, hj1, hj2, hc⟩ := hrel
        by_cases hjl : (j : Int) < kk
        · have hjp : pos + j < s.size := by omega
          go_wp2
          · go_ret
            rw [hat.rcont hp hj1 HK hjl hjp (by assumption)]
            exact ⟨rfl, rfl⟩
          · go_round
            case rel => exact ⟨rfl, j + 1, by go_num, by omega, by omega, hc.next (by rw [← K.get_bt s _ hjp]; unfold K.contN; simp; omega)⟩
            case measure => simp [intOf]; omega
          · go_ret
            rw [hat.rcont hp hj1 HK hjl hjp (.inl (by assumption))]
            exact ⟨rfl, rfl⟩
        · obtain rfl : kk = j := by omega
          by_cases h224 : 224 ≤ ((s[pos]'hp).toNat : Int)
          · have hp1 : pos + 1 < s.size := by have := K.longI_big HK (by omega) h224; omega
            have hb1 := (s[pos + 1]'hp1).toNat_lt
            go_wp2
            all_goals first
              | (go_ret; rw [hat.rexc hp (by rw [← K.get_bt s _ hp, ← K.get_bt s _ hp1]; unfold K.exc; simp; omega)]; exact ⟨rfl, rfl⟩)
              | (go_round
                 case rel => exact ⟨pos + j, k + 1, rfl, by go_num, by go_num, by omega, by omega, hat.rnext hp HK (by omega) hle hc (by rw [← K.get_bt s _ hp, ← K.get_bt s _ hp1]; unfold K.exc; simp; omega)⟩
                 case measure => simp [intOf]; omega)
          · go_wp2
            go_round
            case rel => exact ⟨pos + j, k + 1, rfl, by go_num, by go_num, by omega, by omega, hat.rnext hp HK (by omega) hle hc (by rw [← K.get_bt s _ hp]; unfold K.exc; simp; omega)⟩
            case measure => simp [intOf]; omega
    · have : ¬ (pos : Int) < s.size := by omega
      go_wp2
      go_ret
      rw [hat.done hp]
      exact ⟨rfl, rfl⟩
end Go.Proofs.YtojehmkkbdedaaaGreat
namespace Go.Proofs.YtojehmkkbdedaaaGreat
open Go.RowKit
set_option maxHeartbeats 400000 in
theorem rcheck_any (s : ByteArray) (hs : s.size ≤ 9223372036854775807) (w : World) :
    Calls Tryz.prog 55 #[.string s] w fun e w' => e = .returned (.bool (K.checkB s)) ∧ w = w' := by
  rw [K.check_eq]
  by_cases h1 : 1 ≤ K.runes s
  all_goals
    have hl0 : K.lim s = decide (K.runes s ≤ 8) ∨ ¬ 1 ≤ K.runes s := by simp [K.lim, h1]
    have hl1 : K.lim s = false ∨ 1 ≤ K.runes s := by simp [K.lim, h1]
    have HL0 := Lib.hid hl0
    have HL1 := Lib.hid hl1
    clear hl0 hl1
    go_enter Tryz.func55, Tryz.ntmps55
    go_wp2_with (go_at_call 79; refine (rruns_any _ hs _).mono ?_; rintro e w' ⟨rfl, rfl⟩)
    go_loop [4] (fun i => ∃ j : Nat, i = .int .i64 j ∧ j ≤ s.size ∧ K.BOk s j) (fun i => s.size - (intOf i).toNat)
    case atStart => exact ⟨0, rfl, Nat.zero_le _, K.BOk.start s⟩
    case round =>
      obtain ⟨j, rfl, hj, hok⟩ := hrel
      by_cases hjs : j < s.size
      · by_cases hc : ((s[j]'hjs).toNat : Int) < 33
        · go_wp2
          go_ret
          rw [K.rcheck_no hjs (by rw [← K.get_bt s j hjs]; omega)]
          exact ⟨rfl, rfl⟩
        · go_wp2
          go_round
          case rel => exact ⟨j + 1, by go_num, by omega, hok.next (by rw [← K.get_bt s j hjs]; omega)⟩
          case measure => simp [intOf]; omega
      · obtain rfl : j = s.size := by omega
        go_wp2
        go_ret
        rw [hok.yes]
        first
          | (rw [(HL0.out).resolve_right (by omega)]; exact ⟨rfl, rfl⟩)
          | (rw [(HL1.out).resolve_right (by omega)]; exact ⟨rfl, rfl⟩)
theorem two_cells {w w1 : World} {x y : Value} {T : TypeId} (hb : Below (w.alloc (.cells #[x, y] T)).heap.size (w.alloc (.cells #[x, y] T)) w1) :
    w1.cell? ⟨w.heap.size, 0, none⟩ = some x ∧ w1.cell? ⟨w.heap.size, 1, none⟩ = some y :=
  ⟨cell_later hb (by simp), cell_later hb (by simp)⟩
theorem two_later {w w1 : World} {x y : Value} {b : Nat} (hb : Below w.heap.size w w1) (h : w.cell? ⟨b, 0, none⟩ = some x ∧ w.cell? ⟨b, 1, none⟩ = some y) :
    w1.cell? ⟨b, 0, none⟩ = some x ∧ w1.cell? ⟨b, 1, none⟩ = some y :=
  ⟨cell_later hb h.1, cell_later hb h.2⟩
theorem below_box {w w1 : World} {o : Obj} (hb : Below (w.alloc o).heap.size (w.alloc o) w1) : Below w.heap.size w w1 :=
  ((Below.refl _ _).alloc (Nat.le_refl _) _).trans (hb.mono (by simp))
theorem below_two {w w1 w2 : World} (hb : Below w.heap.size w w1) (hb2 : Below w1.heap.size w1 w2) : Below w.heap.size w w2 := hb.trans (hb2.mono hb.size)
set_option maxHeartbeats 400000 in
theorem may_any (s : ByteArray) (hs : s.size ≤ 9223372036854775807) (w : World) :
    Calls Tryz.prog 91 #[.string s] w fun e w' => e = .returned (.bool (K.mayB s)) ∧ Below w.heap.size w w' := by
  go_enter Tryz.func91, Tryz.ntmps91
  go_wp2_with (go_at_call 64; refine (check_any _ hs _).mono ?_; rintro e w1 ⟨rfl, hb1⟩)
  · go_ret
    exact ⟨ret_bool (by simp_all [K.mayB]), Below.refl _ _⟩
  · go_ret
    exact ⟨ret_bool (by simp_all [K.mayB]), by assumption⟩
set_option maxHeartbeats 400000 in
theorem good_any (f t : ByteArray) (hf : f.size ≤ 9223372036854775807) (ht : t.size ≤ 9223372036854775807) (w : World) :
    Calls Tryz.prog 80 #[.agg #[.string f, .string t]] w fun e w' => e = .returned (.bool (K.goodB f t)) ∧ Below w.heap.size w w' := by
  go_enter Tryz.func80, Tryz.ntmps80
  go_wp2_with fail
  refine (may_any _ hf _).mono ?_; rintro e w1 ⟨rfl, hb1⟩
  have hc1 := two_cells hb1
  obtain ⟨c0, c1⟩ := hc1
  go_wp2_with (go_at_call 91; refine (may_any _ ht _).mono ?_; rintro e w2 ⟨rfl, hb2⟩; obtain ⟨d0, d1⟩ := two_later hb2 ⟨c0, c1⟩)
  all_goals (go_ret; first | exact ⟨ret_bool (by simp_all [K.goodB]), below_box hb1⟩ | exact ⟨ret_bool (by simp_all [K.goodB]), below_two (below_box hb1) (by assumption)⟩)
end Go.Proofs.YtojehmkkbdedaaaGreat
end

section
namespace Go.Proofs.YtojehmkkbdedaaaGreat
open Go.RowKit R
namespace D
def lessB (a b c d : Int) : Bool := if a = c then decide (b < d) else decide (a < c)
def okB (d : Dep) : Bool := K.checkB d.key && V.stampB d.n d.s
def eqB (x d : Dep) : Bool := x.key.toList == d.key.toList
def ltB (x d : Dep) : Bool := Op.bytesLess x.key.toList d.key.toList
def addF : List Dep → Dep → Bool → List Dep
  | [], d, put => if put then [] else [d]
  | x :: r, d, put =>
    if eqB x d then (if lessB x.n x.s d.n d.s then d else x) :: addF r d true
    else if put then x :: addF r d true
    else if ltB x d then x :: addF r d false
    else d :: x :: addF r d true
def add (p : List Dep) (d : Dep) : List Dep := if okB d then addF p d false else p
theorem addF_len : ∀ (p : List Dep) (d : Dep) (put : Bool), (addF p d put).length ≤ p.length + 1
  | [], d, put => by unfold addF; split <;> simp
  | x :: r, d, put => by
    have h1 := addF_len r d true
    have h2 := addF_len r d false
    have h3 : (addF r d true).length ≤ r.length := addF_len_true r d
    unfold addF
    split
    · simp; omega
    · split
      · simp; omega
      · split <;> simp <;> omega
where addF_len_true : ∀ (p : List Dep) (d : Dep), (addF p d true).length ≤ p.length
  | [], d => by simp [addF]
  | x :: r, d => by
    have h1 := addF_len_true r d
    unfold addF
    split <;> simp <;> omega
theorem add_len (p : List Dep) (d : Dep) : (add p d).length ≤ p.length + 1 := by
  unfold add; split
  · exact addF_len p d false
  · omega
theorem addF_mem : ∀ (p : List Dep) (d : Dep) (put : Bool) (x : Dep), x ∈ addF p d put → x ∈ p ∨ x = d
  | [], d, put, x, h => by
    unfold addF at h; split at h
    · cases h
    · simp at h; exact .inr h
  | y :: r, d, put, x, h => by
    unfold addF at h
    split at h
    · rcases List.mem_cons.1 h with h | h
      · split at h
        · exact .inr h
        · exact .inl (by simp [h])
      · rcases addF_mem r d _ x h with h | h
        · exact .inl (by simp [h])
        · exact .inr h
    · split at h
      · rcases List.mem_cons.1 h with h | h
        · exact .inl (by simp [h])
        · rcases addF_mem r d _ x h with h | h
          · exact .inl (by simp [h])
          · exact .inr h
      · split at h
        · rcases List.mem_cons.1 h with h | h
          · exact .inl (by simp [h])
          · rcases addF_mem r d _ x h with h | h
            · exact .inl (by simp [h])
            · exact .inr h
        · rcases List.mem_cons.1 h with h | h
          · exact .inr h
          · rcases List.mem_cons.1 h with h | h
            · exact .inl (by simp [h])
            · rcases addF_mem r d _ x h with h | h
              · exact .inl (by simp [h])
              · exact .inr h
theorem add_mem (p : List Dep) (d x : Dep) (h : x ∈ add p d) : x ∈ p ∨ x = d := by
  unfold add at h; split at h
  · exact addF_mem p d false x h
  · exact .inl h
/-- where Add's loop stands -/
def At (p : List Dep) (d : Dep) (k : Nat) (put : Bool) (out : List Dep) : Prop := out ++ addF (p.drop k) d put = addF p d false
theorem At.eq {p : List Dep} {d : Dep} {k : Nat} {put : Bool} {out : List Dep} (h : At p d k put out) (hk : k < p.length) (he : eqB p[k] d = true) : At p d (k + 1) true (out ++ [if lessB p[k].n p[k].s d.n d.s then d else p[k]]) := by
  unfold At at *
  rw [← h, List.drop_eq_getElem_cons hk, addF, if_pos he]; simp
theorem At.skip {p : List Dep} {d : Dep} {k : Nat} {out : List Dep} (h : At p d k true out) (hk : k < p.length) (he : eqB p[k] d = false) : At p d (k + 1) true (out ++ [p[k]]) := by
  unfold At at *
  rw [← h, List.drop_eq_getElem_cons hk, addF, if_neg (by simp [he]), if_pos rfl]; simp
theorem At.lt {p : List Dep} {d : Dep} {k : Nat} {out : List Dep} (h : At p d k false out) (hk : k < p.length) (he : eqB p[k] d = false) (hl : ltB p[k] d = true) : At p d (k + 1) false (out ++ [p[k]]) := by
  unfold At at *
  rw [← h, List.drop_eq_getElem_cons hk, addF, if_neg (by simp [he]), if_neg (by simp), if_pos hl]; simp
theorem At.put {p : List Dep} {d : Dep} {k : Nat} {out : List Dep} (h : At p d k false out) (hk : k < p.length) (he : eqB p[k] d = false) (hl : ltB p[k] d = false) : At p d (k + 1) true (out ++ [d] ++ [p[k]]) := by
  unfold At at *
  rw [← h, List.drop_eq_getElem_cons hk, addF, if_neg (by simp [he]), if_neg (by simp), if_neg (by simp [hl])]; simp
end D
end Go.Proofs.YtojehmkkbdedaaaGreat
namespace Go.Proofs.YtojehmkkbdedaaaGreat
open Go.RowKit A
set_option maxRecDepth 100000 in
theorem rless_a (a b c d : Int) : ACall Tryz.prog 57 [.row [iv a, iv b], .row [iv c, iv d]] (bv (D.lessB a b c d)) := by
  refine ACall_enter (fun _ _ => by kernel_rfl) Tryz.func57 rfl Tryz.ntmps57 Tryz.results57 (Nat.le_of_ble_eq_true rfl) (fun hok M0 w0 hnl => ?_)
  refine Aw_seq (Aw_region ?_)
  refine Al_p (Pu_boxN rfl rfl) ?_
  refine Al_p (Pu_boxN rfl rfl) ?_
  refine Al_p Pu_mvr ?_
  refine Al_nil (Aw_seq (Aw_seq (Aw_region ?_)))
  refine Al_p (Pu_field 0 rfl Tryz.underlying43 rfl rfl Tryz.sizeOf3 rfl) ?_
  refine Al_p (Pu_load1 rfl Tryz.isAgg3 rfl rfl) ?_
  refine Al_p (Pu_field 0 rfl Tryz.underlying43 rfl rfl Tryz.sizeOf3 rfl) ?_
  refine Al_p (Pu_load1 rfl Tryz.isAgg3 rfl rfl) ?_
  refine Al_p (Pu_cmp rfl rfl rfl rfl) ?_
  refine Al_nil ?_
  refine Aw_cond rfl (fun h9 => ?_) (fun h9 => ?_)
  · (try simp only [decide_eq_true_eq, decide_eq_false_iff_not, Bool.and_eq_true, Bool.or_eq_true, Bool.and_eq_false_iff, Bool.or_eq_false_iff, Bool.not_eq_true', Bool.not_eq_false', beq_iff_eq, Bool.not_eq_eq_eq_not, Bool.not_true, Bool.not_false, List.length_map, Bool.and_true, Bool.and_false, Bool.false_and, Bool.true_and, Bool.or_false, Bool.false_or] at h9)
    refine Aw_seq (Aw_region ?_)
    refine Al_p (Pu_field 0 rfl Tryz.underlying43 rfl rfl Tryz.sizeOf3 rfl) ?_
    refine Al_p (Pu_load1 rfl Tryz.isAgg3 rfl rfl) ?_
    refine Al_p (Pu_field 0 rfl Tryz.underlying43 rfl rfl Tryz.sizeOf3 rfl) ?_
    refine Al_p (Pu_load1 rfl Tryz.isAgg3 rfl rfl) ?_
    refine Al_p (Pu_cmp rfl rfl rfl rfl) ?_
    refine Al_p Pu_mvr ?_
    refine Al_nil ?_
    refine Aw_ret ?_
    exact Sub.d (by unfold D.lessB; simp_all) -- ret 0
  · (try simp only [decide_eq_true_eq, decide_eq_false_iff_not, Bool.and_eq_true, Bool.or_eq_true, Bool.and_eq_false_iff, Bool.or_eq_false_iff, Bool.not_eq_true', Bool.not_eq_false', beq_iff_eq, Bool.not_eq_eq_eq_not, Bool.not_true, Bool.not_false, List.length_map, Bool.and_true, Bool.and_false, Bool.false_and, Bool.true_and, Bool.or_false, Bool.false_or] at h9)
    refine Aw_skip (Aw_seq (Aw_region ?_))
    refine Al_p (Pu_field 1 rfl Tryz.underlying43 rfl rfl Tryz.sizeOf3 rfl) ?_
    refine Al_p (Pu_load1 rfl Tryz.isAgg3 rfl rfl) ?_
    refine Al_p (Pu_field 1 rfl Tryz.underlying43 rfl rfl Tryz.sizeOf3 rfl) ?_
    refine Al_p (Pu_load1 rfl Tryz.isAgg3 rfl rfl) ?_
    refine Al_p (Pu_cmp rfl rfl rfl rfl) ?_
    refine Al_p Pu_mvr ?_
    refine Al_nil ?_
    refine Aw_ret ?_
    exact Sub.d (by unfold D.lessB; simp_all) -- ret 1
theorem rcheck_a (s : ByteArray) : ACall Tryz.prog 55 [tv s] (bv (K.checkB s)) := A.ofv (fun _ _ => by kernel_rfl) trivial fun M w vs ha => by
  obtain ⟨rfl, h⟩ := A.all1 ha
  exact (rcheck_any s h w).mono fun e w' ⟨h1, h2⟩ => ⟨h1, h2 ▸ Ev.Ext.refl _⟩
theorem rstcheck_a (n s : Int) : ACall Tryz.prog 56 [.row [iv n, iv s]] (bv (V.stampB n s)) := A.ofv (fun _ _ => by kernel_rfl) trivial fun M w vs ha => by
  obtain rfl := A.all1r (us := [.int .i64 n, .int .i64 s]) ha
  exact rstcheck_any n s w
set_option maxRecDepth 100000 in
theorem dadd_a (p : List Dep) (d : Dep) (hl : p.length ≤ 1000000) : ACall Tryz.prog 34 [.sl 3 (p.map Dep.row), .row d.row] (.sl 3 ((D.add p d).map Dep.row)) := by
  refine ACall_enter (fun _ _ => by kernel_rfl) Tryz.func34 rfl Tryz.ntmps34 Tryz.results34 (Nat.le_of_ble_eq_true rfl) (fun hok M0 w0 hnl => ?_)
  refine Aw_seq (Aw_region ?_)
  refine Al_p (Pu_boxN rfl rfl) ?_
  refine Al_p Pu_mvr ?_
  refine Al_nil (Aw_seq (Aw_region ?_))
  refine Al_p (Pu_field 0 rfl Tryz.underlying45 rfl rfl Tryz.sizeOf9 rfl) ?_
  refine Al_p (Pu_load1 rfl Tryz.isAgg9 rfl rfl) ?_
  refine Al_p (Pu_call (rcheck_a _) rfl ⟨Sub.rfl, trivial⟩) ?_
  refine Al_p Pu_mvr ?_
  refine Al_nil (Aw_seq (Aw_region ?_))
  refine Al_p (Pu_field 1 rfl Tryz.underlying45 rfl rfl Tryz.sizeOf43 rfl) ?_
  refine Al_p (Pu_loadN rfl Tryz.isAgg43 Tryz.sizeOf43 rfl (Nat.le_of_ble_eq_true rfl)) ?_
  refine Al_p (Pu_call (rstcheck_a _ _) rfl ⟨Sub.rfl, trivial⟩) ?_
  refine Al_p Pu_mvr ?_
  refine Al_nil (Aw_seq (Aw_seq (Aw_region ?_)))
  refine Al_p Pu_mvl ?_
  refine Al_p (Pu_not rfl rfl) ?_
  refine Al_p Pu_mvl ?_
  refine Al_st (St_gd [] rfl rfl rfl rfl trivial (fun hg20 => by exact Pu_move (.inl rfl) (by conv => lhs; whnf))) rfl (by decide) (by kernel_rfl) (by intro j b oj dj h1 h2 h3; cases h1; cases h2; cases h3; decide) ?_
  refine Al_st (St_gd [20] rfl rfl rfl rfl ⟨⟨_, rfl⟩, trivial⟩ (fun hg21 => Pu_not rfl rfl)) rfl (by decide) (by kernel_rfl) (by intro j b oj dj h1 h2 h3; cases h1; cases h2; cases h3; decide) ?_
  refine Al_p (Pu_or rfl rfl rfl rfl) ?_
  refine Al_nil ?_
  refine Aw_cond rfl (fun h22 => ?_) (fun h22 => ?_)
  · (try simp only [decide_eq_true_eq, decide_eq_false_iff_not, Bool.and_eq_true, Bool.or_eq_true, Bool.and_eq_false_iff, Bool.or_eq_false_iff, Bool.not_eq_true', Bool.not_eq_false', beq_iff_eq, Bool.not_eq_eq_eq_not, Bool.not_true, Bool.not_false, List.length_map, Bool.and_true, Bool.and_false, Bool.false_and, Bool.true_and, Bool.or_false, Bool.false_or] at h22)
    have hno : D.add p d = p := by
      unfold D.add D.okB
      rcases h22 with h | h <;> simp [h]
    refine Aw_seq (Aw_region ?_)
    refine Al_p Pu_mvl ?_
    refine Al_p Pu_mvr ?_
    refine Al_nil ?_
    refine Aw_ret ?_
    exact Sub.d (by rw [hno]) -- ret 0
  · (try simp only [decide_eq_true_eq, decide_eq_false_iff_not, Bool.and_eq_true, Bool.or_eq_true, Bool.and_eq_false_iff, Bool.or_eq_false_iff, Bool.not_eq_true', Bool.not_eq_false', beq_iff_eq, Bool.not_eq_eq_eq_not, Bool.not_true, Bool.not_false, List.length_map, Bool.and_true, Bool.and_false, Bool.false_and, Bool.true_and, Bool.or_false, Bool.false_or] at h22)
    have hdd : D.add p d = D.addF p d false := by simp [D.add, D.okB, h22.1, h22.2]
    refine Aw_skip (Aw_seq (Aw_region ?_))
    refine Al_p Pu_mvr ?_
    refine Al_nil (Aw_seq (Aw_region ?_))
    refine Al_p Pu_mvr ?_
    refine Al_nil (Aw_seq (Aw_seq (Aw_region ?_)))
    refine Al_p Pu_mvr ?_
    refine Al_nil (Aw_block ?_)
    refine Aw_own (j := 7) (k := 7) (T := 45) (n := 3) rfl (fun g0 => ?_)
    refine Aw_loopk (ι := Nat × Nat × Bool × (List Dep)) [0, 3] [] (fun (k, g, put, out) => [(9, .d (iv k)), (7, .ow 7 g), (8, .d (bv put))]) (fun (k, g, put, out) => [(7, g, .arr 45 3 (out.map Dep.row))]) (fun (k, g, put, out) => k ≤ p.length ∧ D.At p d k put out ∧ out.length ≤ 2 * k) (fun (k, g, put, out) => p.length - k) ((0, g0, false, [])) (⟨Nat.zero_le _, ⟨by simp [D.At], by simp⟩⟩) ⟨Sub.rfl, Sub.rfl, Sub.rfl, trivial⟩ ⟨rfl, trivial⟩ ?_
    rintro ⟨k, g, put, out⟩ ⟨hk0, ⟨hat, hlo⟩⟩
    refine Aw_seq (Aw_seq (Aw_region ?_))
    refine Al_p Pu_mvl ?_
    refine Al_p Pu_mvl ?_
    refine Al_p (Pu_len rfl Tryz.underlying46 rfl (by first | exact List.length_map .. | exact rfl)) ?_
    refine Al_p (Pu_cmp rfl rfl rfl rfl) ?_
    refine Al_nil ?_
    refine Aw_cond rfl (fun h27 => ?_) (fun h27 => ?_)
    · (try simp only [decide_eq_true_eq, decide_eq_false_iff_not, Bool.and_eq_true, Bool.or_eq_true, Bool.and_eq_false_iff, Bool.or_eq_false_iff, Bool.not_eq_true', Bool.not_eq_false', beq_iff_eq, Bool.not_eq_eq_eq_not, Bool.not_true, Bool.not_false, List.length_map, Bool.and_true, Bool.and_false, Bool.false_and, Bool.true_and, Bool.or_false, Bool.false_or] at h27)
      have hkl : k < p.length := by omega
      refine Aw_skip ?_
      -- join 0: live [0, 3, 7, 8, 9], turned [7, 8]
      refine Aw_seq (Aw_block (Aw_seq (Aw_region ?_)))
      refine Al_p Pu_mvl ?_
      refine Al_p Pu_mvl ?_
      refine Al_p (Pu_index rfl Tryz.underlying46 Tryz.sizeOf45 rfl rfl (rfl) (mapget (by omega))) ?_
      refine Al_p (Pu_loadN rfl Tryz.isAgg45 Tryz.sizeOf45 rfl (Nat.le_of_ble_eq_true rfl)) ?_
      refine Al_alloc rfl rfl rfl (by decide) Tryz.zeroValue45 rfl (by kernel_rfl) (fun g10 => ?_)
      refine Al_storeN rfl rfl rfl (by kernel_rfl) Tryz.isAgg45 Tryz.sizeOf45 rfl rfl rfl rfl (Nat.le_of_ble_eq_true rfl) ?_
      refine Al_nil ?_
      -- join 1: live [0, 3, 7, 8, 9, 10], turned [8]
      refine Aw_seq (Aw_seq (Aw_region ?_))
      refine Al_p (Pu_fieldb 0 rfl Tryz.underlying45 rfl rfl Tryz.sizeOf9 rfl) ?_
      refine Al_p (Pu_loadb rfl Tryz.isAgg9 rfl rfl rfl) ?_
      refine Al_p (Pu_field 0 rfl Tryz.underlying45 rfl rfl Tryz.sizeOf9 rfl) ?_
      refine Al_p (Pu_load1 rfl Tryz.isAgg9 rfl rfl) ?_
      refine Al_p (Pu_str rfl rfl rfl rfl) ?_
      refine Al_nil ?_
      refine Aw_cond rfl (fun h38 => ?_) (fun h38 => ?_)
      · skip
        have ha := hat.eq hkl h38
        -- join 2: live [0, 3, 7, 9, 10], turned []
        refine Aw_seq (Aw_seq (Aw_region ?_))
        refine Al_p (Pu_fieldb 1 rfl Tryz.underlying45 rfl rfl Tryz.sizeOf43 rfl) ?_
        refine Al_p (Pu_loadbN (r := [_, _]) rfl Tryz.isAgg43 Tryz.sizeOf43 rfl rfl rfl rfl) ?_
        refine Al_p (Pu_field 1 rfl Tryz.underlying45 rfl rfl Tryz.sizeOf43 rfl) ?_
        refine Al_p (Pu_loadN rfl Tryz.isAgg43 Tryz.sizeOf43 rfl (Nat.le_of_ble_eq_true rfl)) ?_
        refine Al_p (Pu_call (rless_a _ _ _ _) rfl ⟨Sub.rfl, Sub.rfl, trivial⟩) ?_
        refine Al_nil ?_
        refine Aw_cond rfl (fun h43 => ?_) (fun h43 => ?_)
        · skip
          rw [h43] at ha
          refine Aw_region ?_
          refine Al_p (Pu_loadN rfl Tryz.isAgg45 Tryz.sizeOf45 rfl (Nat.le_of_ble_eq_true rfl)) ?_
          refine Al_storeN rfl rfl rfl (by kernel_rfl) Tryz.isAgg45 Tryz.sizeOf45 rfl rfl rfl rfl (Nat.le_of_ble_eq_true rfl) ?_
          refine Al_nil (Aw_region ?_)
          refine Al_p Pu_mvr ?_
          refine Al_nil ?_
          -- join 3: live [0, 3, 7, 8, 9, 10], turned [7, 8]
          refine Aw_seq (Aw_seq (Aw_region ?_))
          refine Al_p Pu_mvl ?_
          refine Al_p (Pu_not rfl rfl) ?_
          refine Al_p Pu_mvl ?_
          refine Al_st (St_gd [] rfl rfl rfl rfl trivial (fun hg48 => Pu_fieldb 0 rfl Tryz.underlying45 rfl rfl Tryz.sizeOf9 rfl)) rfl (by decide) (by kernel_rfl) (by intro j b oj dj h1 h2 h3; cases h1; cases h2; cases h3; decide) ?_
          refine Al_st (St_gd [48] rfl rfl rfl rfl ⟨⟨_, rfl⟩, trivial⟩ (fun hg49 => Pu_loadb rfl Tryz.isAgg9 rfl rfl rfl)) rfl (by decide) (by kernel_rfl) (by intro j b oj dj h1 h2 h3; cases h1; cases h2; cases h3; decide) ?_
          refine Al_st (St_gd [] rfl rfl rfl rfl trivial (fun hg50 => Pu_field 0 rfl Tryz.underlying45 rfl rfl Tryz.sizeOf9 rfl)) rfl (by decide) (by kernel_rfl) (by intro j b oj dj h1 h2 h3; cases h1; cases h2; cases h3; decide) ?_
          refine Al_st (St_gd [50] rfl rfl rfl rfl ⟨⟨_, rfl⟩, trivial⟩ (fun hg51 => Pu_load1 rfl Tryz.isAgg9 rfl rfl)) rfl (by decide) (by kernel_rfl) (by intro j b oj dj h1 h2 h3; cases h1; cases h2; cases h3; decide) ?_
          refine Al_st (St_gd [49, 51] rfl rfl rfl rfl ⟨⟨_, rfl⟩, ⟨_, rfl⟩, trivial⟩ (fun hg52 => Pu_str rfl rfl rfl rfl)) rfl (by decide) (by kernel_rfl) (by intro j b oj dj h1 h2 h3; cases h1; cases h2; cases h3; decide) ?_
          refine Al_p (Pu_and rfl rfl rfl rfl) ?_
          refine Al_nil ?_
          refine Aw_cond rfl (fun h53 => ?_) (fun h53 => ?_)
          · (exfalso; revert h53; simp; done) -- next 0.0
          · first
            | (exfalso; revert h53; simp; done)
            | (
                skip
                refine Aw_skip (Aw_region ?_)
                refine Al_p Pu_mvl ?_
                refine Al_p (Pu_loadbN (r := [_, _, _]) rfl Tryz.isAgg45 Tryz.sizeOf45 rfl rfl rfl rfl) ?_
                refine Al_p (Pu_slice1 rfl Tryz.underlying46 Tryz.sizeOf45 Tryz.zeroValue45 rfl (by decide) (by decide) (by kernel_rfl) rfl rfl rfl) ?_
                refine Al_append rfl rfl rfl (by decide) (by kernel_rfl) elem46 (by decide) Tryz.sizeOf45 rfl rfl rfl (by simp; omega) (by decide) (fun g61 => ?_)
                refine Al_p Pu_mvr ?_
                refine Al_nil (Aw_region ?_)
                refine Al_p Pu_mvl ?_
                refine Al_p (Pu_add rfl rfl rfl (fun h1 h2 => by simp only [A.inI, A.maxI] at *; omega)) ?_
                refine Al_p Pu_mvr ?_
                refine Al_nil ?_
                exact ⟨(k + 1, g61, true, out ++ [d]), ⟨by omega, ⟨by simpa using ha, by simp; omega⟩⟩, by simp only []; omega, Le.ov ⟨Sub.num (by omega), Sub.rfl, Sub.rfl, trivial⟩ ⟨Sub.rfl, Sub.rfl, trivial⟩ ⟨obeq (by rw [List.map_append]; rfl), trivial⟩ trivial⟩) -- loop 0 next.1
        · skip
          rw [h43] at ha
          refine Aw_skip (Aw_region ?_)
          refine Al_p Pu_mvr ?_
          refine Al_nil ?_
          -- join 3: live [0, 3, 7, 8, 9, 10], turned [7, 8]
          refine Aw_seq (Aw_seq (Aw_region ?_))
          refine Al_p Pu_mvl ?_
          refine Al_p (Pu_not rfl rfl) ?_
          refine Al_p Pu_mvl ?_
          refine Al_st (St_gd [] rfl rfl rfl rfl trivial (fun hg48 => Pu_fieldb 0 rfl Tryz.underlying45 rfl rfl Tryz.sizeOf9 rfl)) rfl (by decide) (by kernel_rfl) (by intro j b oj dj h1 h2 h3; cases h1; cases h2; cases h3; decide) ?_
          refine Al_st (St_gd [48] rfl rfl rfl rfl ⟨⟨_, rfl⟩, trivial⟩ (fun hg49 => Pu_loadb rfl Tryz.isAgg9 rfl rfl rfl)) rfl (by decide) (by kernel_rfl) (by intro j b oj dj h1 h2 h3; cases h1; cases h2; cases h3; decide) ?_
          refine Al_st (St_gd [] rfl rfl rfl rfl trivial (fun hg50 => Pu_field 0 rfl Tryz.underlying45 rfl rfl Tryz.sizeOf9 rfl)) rfl (by decide) (by kernel_rfl) (by intro j b oj dj h1 h2 h3; cases h1; cases h2; cases h3; decide) ?_
          refine Al_st (St_gd [50] rfl rfl rfl rfl ⟨⟨_, rfl⟩, trivial⟩ (fun hg51 => Pu_load1 rfl Tryz.isAgg9 rfl rfl)) rfl (by decide) (by kernel_rfl) (by intro j b oj dj h1 h2 h3; cases h1; cases h2; cases h3; decide) ?_
          refine Al_st (St_gd [49, 51] rfl rfl rfl rfl ⟨⟨_, rfl⟩, ⟨_, rfl⟩, trivial⟩ (fun hg52 => Pu_str rfl rfl rfl rfl)) rfl (by decide) (by kernel_rfl) (by intro j b oj dj h1 h2 h3; cases h1; cases h2; cases h3; decide) ?_
          refine Al_p (Pu_and rfl rfl rfl rfl) ?_
          refine Al_nil ?_
          refine Aw_cond rfl (fun h53 => ?_) (fun h53 => ?_)
          · (exfalso; revert h53; simp; done) -- next 0.2
          · first
            | (exfalso; revert h53; simp; done)
            | (
                skip
                refine Aw_skip (Aw_region ?_)
                refine Al_p Pu_mvl ?_
                refine Al_p (Pu_loadbN (r := [_, _, _]) rfl Tryz.isAgg45 Tryz.sizeOf45 rfl rfl rfl rfl) ?_
                refine Al_p (Pu_slice1 rfl Tryz.underlying46 Tryz.sizeOf45 Tryz.zeroValue45 rfl (by decide) (by decide) (by kernel_rfl) rfl rfl rfl) ?_
                refine Al_append rfl rfl rfl (by decide) (by kernel_rfl) elem46 (by decide) Tryz.sizeOf45 rfl rfl rfl (by simp; omega) (by decide) (fun g61 => ?_)
                refine Al_p Pu_mvr ?_
                refine Al_nil (Aw_region ?_)
                refine Al_p Pu_mvl ?_
                refine Al_p (Pu_add rfl rfl rfl (fun h1 h2 => by simp only [A.inI, A.maxI] at *; omega)) ?_
                refine Al_p Pu_mvr ?_
                refine Al_nil ?_
                exact ⟨(k + 1, g61, true, out ++ [p[k]]), ⟨by omega, ⟨by simpa using ha, by simp; omega⟩⟩, by simp only []; omega, Le.ov ⟨Sub.num (by omega), Sub.rfl, Sub.rfl, trivial⟩ ⟨Sub.rfl, Sub.rfl, trivial⟩ ⟨obeq (by rw [List.map_append]; rfl), trivial⟩ trivial⟩) -- loop 0 next.3
      · skip
        refine Aw_skip ?_
        -- join 3: live [0, 3, 7, 8, 9, 10], turned [7, 8]
        refine Aw_seq (Aw_seq (Aw_region ?_))
        refine Al_p Pu_mvl ?_
        refine Al_p (Pu_not rfl rfl) ?_
        refine Al_p Pu_mvl ?_
        refine Al_st (St_gd [] rfl rfl rfl rfl trivial (fun hg48 => Pu_fieldb 0 rfl Tryz.underlying45 rfl rfl Tryz.sizeOf9 rfl)) rfl (by decide) (by kernel_rfl) (by intro j b oj dj h1 h2 h3; cases h1; cases h2; cases h3; decide) ?_
        refine Al_st (St_gd [48] rfl rfl rfl rfl ⟨⟨_, rfl⟩, trivial⟩ (fun hg49 => Pu_loadb rfl Tryz.isAgg9 rfl rfl rfl)) rfl (by decide) (by kernel_rfl) (by intro j b oj dj h1 h2 h3; cases h1; cases h2; cases h3; decide) ?_
        refine Al_st (St_gd [] rfl rfl rfl rfl trivial (fun hg50 => Pu_field 0 rfl Tryz.underlying45 rfl rfl Tryz.sizeOf9 rfl)) rfl (by decide) (by kernel_rfl) (by intro j b oj dj h1 h2 h3; cases h1; cases h2; cases h3; decide) ?_
        refine Al_st (St_gd [50] rfl rfl rfl rfl ⟨⟨_, rfl⟩, trivial⟩ (fun hg51 => Pu_load1 rfl Tryz.isAgg9 rfl rfl)) rfl (by decide) (by kernel_rfl) (by intro j b oj dj h1 h2 h3; cases h1; cases h2; cases h3; decide) ?_
        refine Al_st (St_gd [49, 51] rfl rfl rfl rfl ⟨⟨_, rfl⟩, ⟨_, rfl⟩, trivial⟩ (fun hg52 => Pu_str rfl rfl rfl rfl)) rfl (by decide) (by kernel_rfl) (by intro j b oj dj h1 h2 h3; cases h1; cases h2; cases h3; decide) ?_
        refine Al_p (Pu_and rfl rfl rfl rfl) ?_
        refine Al_nil ?_
        refine Aw_cond rfl (fun h53 => ?_) (fun h53 => ?_)
        · first
          | (exfalso; revert h53; simp; done)
          | (
              skip
              have hb : put = false ∧ D.ltB p[k] d = false := by
                revert h53; unfold D.ltB; cases put <;> simp_all
              obtain ⟨rfl, hlt⟩ := hb
              have ha := hat.put hkl h38 hlt
              refine Aw_seq (Aw_region ?_)
              refine Al_p Pu_mvl ?_
              refine Al_p (Pu_loadN rfl Tryz.isAgg45 Tryz.sizeOf45 rfl (Nat.le_of_ble_eq_true rfl)) ?_
              refine Al_p (Pu_slice1 rfl Tryz.underlying46 Tryz.sizeOf45 Tryz.zeroValue45 rfl (by decide) (by decide) (by kernel_rfl) rfl rfl rfl) ?_
              refine Al_append rfl rfl rfl (by decide) (by kernel_rfl) elem46 (by decide) Tryz.sizeOf45 rfl rfl rfl (by simp; omega) (by decide) (fun g57 => ?_)
              refine Al_p Pu_mvr ?_
              refine Al_nil (Aw_region ?_)
              refine Al_p Pu_mvr ?_
              refine Al_nil (Aw_region ?_)
              refine Al_p Pu_mvl ?_
              refine Al_p (Pu_loadbN (r := [_, _, _]) rfl Tryz.isAgg45 Tryz.sizeOf45 rfl rfl rfl rfl) ?_
              refine Al_p (Pu_slice1 rfl Tryz.underlying46 Tryz.sizeOf45 Tryz.zeroValue45 rfl (by decide) (by decide) (by kernel_rfl) rfl rfl rfl) ?_
              refine Al_append rfl rfl rfl (by decide) (by kernel_rfl) elem46 (by decide) Tryz.sizeOf45 rfl rfl rfl (by simp; omega) (by decide) (fun g61 => ?_)
              refine Al_p Pu_mvr ?_
              refine Al_nil (Aw_region ?_)
              refine Al_p Pu_mvl ?_
              refine Al_p (Pu_add rfl rfl rfl (fun h1 h2 => by simp only [A.inI, A.maxI] at *; omega)) ?_
              refine Al_p Pu_mvr ?_
              refine Al_nil ?_
              exact ⟨(k + 1, g61, true, out ++ [d] ++ [p[k]]), ⟨by omega, ⟨ha, by simp; omega⟩⟩, by simp only []; omega, Le.ov ⟨Sub.num (by omega), Sub.rfl, Sub.rfl, trivial⟩ ⟨Sub.rfl, Sub.rfl, trivial⟩ ⟨obeq (by rw [List.map_append, List.map_append]; rfl), trivial⟩ trivial⟩) -- loop 0 next.4
        · first
          | (exfalso; revert h53; simp; done)
          | (
              skip
              have ha : D.At p d (k + 1) put (out ++ [p[k]]) := by
                cases hp : put
                · rw [hp] at h53 hat
                  refine hat.lt hkl h38 ?_
                  have h38' := h38
                  unfold D.ltB
                  simp only [Bool.not_false, Bool.true_and, Bool.not_eq_false', Bool.or_eq_true] at h53
                  rcases h53 with h | h
                  · exact h
                  · rw [h38'] at h; cases h
                · rw [hp] at hat
                  exact hat.skip hkl h38
              refine Aw_skip (Aw_region ?_)
              refine Al_p Pu_mvl ?_
              refine Al_p (Pu_loadbN (r := [_, _, _]) rfl Tryz.isAgg45 Tryz.sizeOf45 rfl rfl rfl rfl) ?_
              refine Al_p (Pu_slice1 rfl Tryz.underlying46 Tryz.sizeOf45 Tryz.zeroValue45 rfl (by decide) (by decide) (by kernel_rfl) rfl rfl rfl) ?_
              refine Al_append rfl rfl rfl (by decide) (by kernel_rfl) elem46 (by decide) Tryz.sizeOf45 rfl rfl rfl (by simp; omega) (by decide) (fun g61 => ?_)
              refine Al_p Pu_mvr ?_
              refine Al_nil (Aw_region ?_)
              refine Al_p Pu_mvl ?_
              refine Al_p (Pu_add rfl rfl rfl (fun h1 h2 => by simp only [A.inI, A.maxI] at *; omega)) ?_
              refine Al_p Pu_mvr ?_
              refine Al_nil ?_
              exact ⟨(k + 1, g61, put, out ++ [p[k]]), ⟨by omega, ⟨ha, by simp; omega⟩⟩, by simp only []; omega, Le.ov ⟨Sub.num (by omega), Sub.rfl, Sub.rfl, trivial⟩ ⟨Sub.rfl, Sub.rfl, trivial⟩ ⟨obeq (by rw [List.map_append]; rfl), trivial⟩ trivial⟩) -- loop 0 next.5
    · (try simp only [decide_eq_true_eq, decide_eq_false_iff_not, Bool.and_eq_true, Bool.or_eq_true, Bool.and_eq_false_iff, Bool.or_eq_false_iff, Bool.not_eq_true', Bool.not_eq_false', beq_iff_eq, Bool.not_eq_eq_eq_not, Bool.not_true, Bool.not_false, List.length_map, Bool.and_true, Bool.and_false, Bool.false_and, Bool.true_and, Bool.or_false, Bool.false_or] at h27)
      obtain rfl : k = p.length := by omega
      have he : out ++ D.addF [] d put = D.add p d := by rw [hdd]; have := hat; unfold D.At at this; rwa [List.drop_length] at this
      refine Aw_exit ?_
      -- join 4: live [7], turned [7]
      refine Aw_seq (Aw_seq (Aw_region ?_))
      refine Al_p Pu_mvl ?_
      refine Al_p (Pu_not rfl rfl) ?_
      refine Al_nil ?_
      refine Aw_cond rfl (fun h63 => ?_) (fun h63 => ?_)
      · (try simp only [decide_eq_true_eq, decide_eq_false_iff_not, Bool.and_eq_true, Bool.or_eq_true, Bool.and_eq_false_iff, Bool.or_eq_false_iff, Bool.not_eq_true', Bool.not_eq_false', beq_iff_eq, Bool.not_eq_eq_eq_not, Bool.not_true, Bool.not_false, List.length_map, Bool.and_true, Bool.and_false, Bool.false_and, Bool.true_and, Bool.or_false, Bool.false_or] at h63)
        have he2 : out ++ [d] = D.add p d := by rw [← he]; simp_all [D.addF]
        refine Aw_region ?_
        refine Al_p Pu_mvl ?_
        refine Al_p (Pu_loadN rfl Tryz.isAgg45 Tryz.sizeOf45 rfl (Nat.le_of_ble_eq_true rfl)) ?_
        refine Al_p (Pu_slice1 rfl Tryz.underlying46 Tryz.sizeOf45 Tryz.zeroValue45 rfl (by decide) (by decide) (by kernel_rfl) rfl rfl rfl) ?_
        refine Al_append rfl rfl rfl (by decide) (by kernel_rfl) elem46 (by decide) Tryz.sizeOf45 rfl rfl rfl (by simp; omega) (by decide) (fun g67 => ?_)
        refine Al_p Pu_mvr ?_
        refine Al_nil (Aw_seq (Aw_region ?_))
        refine Al_p Pu_mvl ?_
        refine Al_p Pu_mvr ?_
        refine Al_nil ?_
        refine Aw_frz hnl (k := 7) [4] rfl ⟨rfl, trivial⟩ ?_
        refine Aw_ret ?_
        exact Sub.d (by rw [← he2, List.map_append]; rfl) -- ret 1
      · (try simp only [decide_eq_true_eq, decide_eq_false_iff_not, Bool.and_eq_true, Bool.or_eq_true, Bool.and_eq_false_iff, Bool.or_eq_false_iff, Bool.not_eq_true', Bool.not_eq_false', beq_iff_eq, Bool.not_eq_eq_eq_not, Bool.not_true, Bool.not_false, List.length_map, Bool.and_true, Bool.and_false, Bool.false_and, Bool.true_and, Bool.or_false, Bool.false_or] at h63)
        have he2 : out = D.add p d := by rw [← he]; simp_all [D.addF]
        refine Aw_skip (Aw_seq (Aw_region ?_))
        refine Al_p Pu_mvl ?_
        refine Al_p Pu_mvr ?_
        refine Al_nil ?_
        refine Aw_frz hnl (k := 7) [4] rfl ⟨rfl, trivial⟩ ?_
        refine Aw_ret ?_
        exact Sub.d (by rw [he2]) -- ret 2
end Go.Proofs.YtojehmkkbdedaaaGreat
end
