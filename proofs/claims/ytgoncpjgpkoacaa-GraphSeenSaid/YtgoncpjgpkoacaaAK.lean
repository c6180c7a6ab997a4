/- Abstract states: shifts, products; closures that capture; a variable of the call's own, told as data. -/
import Derived.Test.YtgoncpjgpkoacaaAP
import Derived.Scope
set_option linter.unusedSimpArgs false
set_option linter.unusedVariables false
namespace Go.Proofs.Ytgoncpjgpkoacaa.A
open Go Go.RowKit
section
variable {P : Program} {N : Nat} {M0 : Nat → Prop} {w0 : Base} {ops : Array Oper} {Q : Exit → ASt → Prop} {o : Oper} {l : List Oper} {st : ASt}
theorem Pu_int_shr {t yt : TypeId} {x y : Operand} {k yk : IntKind} {a b r : Int} (ho : o.op = .binOp .shr t x y yt) (hx : st.ev x = .d (.v (.int k a))) (hy : st.ev y = .d (.v (.int yk b))) (hb : 0 ≤ b ∧ b ≤ k.bits) (hr : a / 2 ^ b.toNat = r) (hv : vok (.int k a) → vok (.int k r)) : Pu P st o (.d (.v (.int k r))) :=
  Pu_bin ho hx hy (fun h1 h2 w => by
    simp only [Sem.run_bind, guard_int, Result.andThen_ok, binOp_shr, shift_shr k yk a b hb.1 hb.2, hr, Sem.run_pure]) (fun h _ => hv h)
theorem Pu_int_shl {t yt : TypeId} {x y : Operand} {k yk : IntKind} {a b r : Int} (ho : o.op = .binOp .shl t x y yt) (hx : st.ev x = .d (.v (.int k a))) (hy : st.ev y = .d (.v (.int yk b))) (hb : 0 ≤ b ∧ b ≤ k.bits) (hr : k.wrap (a * 2 ^ b.toNat) = r) (hv : vok (.int k a) → vok (.int k r)) : Pu P st o (.d (.v (.int k r))) :=
  Pu_bin ho hx hy (fun h1 h2 w => by
    simp only [Sem.run_bind, guard_int, Result.andThen_ok, binOp_shl, shift_shl k yk a b hb.1 hb.2, hr, Sem.run_pure]) (fun h _ => hv h)
theorem Pu_int_mul {t yt : TypeId} {x y : Operand} {k : IntKind} {a b r : Int} (ho : o.op = .binOp .mul t x y yt) (hx : st.ev x = .d (.v (.int k a))) (hy : st.ev y = .d (.v (.int k b))) (hr : k.wrap (a * b) = r) (hv : vok (.int k a) → vok (.int k r)) : Pu P st o (.d (.v (.int k r))) :=
  Pu_bin ho hx hy (fun h1 h2 w => by
    simp only [Sem.run_bind, guard_int, Result.andThen_ok, binOp]; simp [Op.intArith, hr, Sem.run]) (fun h _ => hv h)
theorem Pu_int_add {t yt : TypeId} {x y : Operand} {k : IntKind} {a b r : Int} (ho : o.op = .binOp .add t x y yt) (hx : st.ev x = .d (.v (.int k a))) (hy : st.ev y = .d (.v (.int k b))) (hr : k.wrap (a + b) = r) (hv : vok (.int k a) → vok (.int k r)) : Pu P st o (.d (.v (.int k r))) :=
  Pu_bin ho hx hy (fun h1 h2 w => by
    simp only [Sem.run_bind, guard_int, Result.andThen_ok, binOp]; simp [Op.intArith, hr, Sem.run]) (fun h _ => hv h)
theorem Pu_int_or {t yt : TypeId} {x y : Operand} {k : IntKind} {a b r : Int} (ho : o.op = .binOp .or t x y yt) (hx : st.ev x = .d (.v (.int k a))) (hy : st.ev y = .d (.v (.int k b))) (hr : k.wrap (BitVec.ofInt k.bits a ||| BitVec.ofInt k.bits b).toNat = r) (hv : vok (.int k a) → vok (.int k r)) : Pu P st o (.d (.v (.int k r))) :=
  Pu_bin ho hx hy (fun h1 h2 w => by
    simp only [Sem.run_bind, guard_int, Result.andThen_ok, binOp]; simp only [Op.intBits, hr, ne_eq, not_true_eq_false, if_false, Sem.run_pure]) (fun h _ => hv h)
theorem Pu_int_andNot {t yt : TypeId} {x y : Operand} {k : IntKind} {a b r : Int} (ho : o.op = .binOp .andNot t x y yt) (hx : st.ev x = .d (.v (.int k a))) (hy : st.ev y = .d (.v (.int k b))) (hr : k.wrap (BitVec.ofInt k.bits a &&& ~~~BitVec.ofInt k.bits b).toNat = r) (hv : vok (.int k a) → vok (.int k r)) : Pu P st o (.d (.v (.int k r))) :=
  Pu_bin ho hx hy (fun h1 h2 w => by
    simp only [Sem.run_bind, guard_int, Result.andThen_ok, binOp]; simp only [Op.intBits, hr, ne_eq, not_true_eq_false, if_false, Sem.run_pure]) (fun h _ => hv h)
/-- A variable of the call's own, told as data from here on. -/
def ASt.frzb (st : ASt) (k : Nat) (is : List Nat) (a : AV) : ASt := ⟨fun i => bif is.contains i then .d a else st.sl i, fun j => bif Nat.beq j k then none else st.ob j⟩
def AllBx (st : ASt) (k g : Nat) : List Nat → Prop
  | [] => True
  | i :: r => st.sl i = .bx k g 0 ∧ AllBx st k g r
theorem AllBx.get {k g : Nat} : ∀ {is : List Nat}, AllBx st k g is → ∀ i ∈ is, st.sl i = .bx k g 0
  | [], _, i, h => by cases h
  | i :: r, h, j, hj => by
    rcases List.mem_cons.1 hj with rfl | hj
    · exact h.1
    · exact h.2.get j hj
theorem le_frzb {k g : Nat} {T : TypeId} {cs : List AV} (hnl : ∀ b, ¬ w0.l b) (is : List Nat) (hob : st.ob k = some (g, .box T (cs.map .d))) (his : AllBx st k g is) : Le N M0 w0 st (st.frzb k is (.fp cs)) := by
  rintro a w ⟨ρ, h⟩
  refine ⟨ρ, ?_⟩
  have hob' : ∀ j g' o', (st.frzb k is (.fp cs)).ob j = some (g', o') → j ≠ k ∧ st.ob j = some (g', o') := fun j g' o' hh => by
    have : (bif Nat.beq j k then none else st.ob j) = some (g', o') := hh
    cases hb : Nat.beq j k with
    | true => rw [hb] at this; cases this
    | false =>
      rw [hb] at this
      exact ⟨fun e => by subst e; simp at hb, this⟩
  have hk : Known (Mt M0 ρ st.ob) (Mt M0 ρ (st.frzb k is (.fp cs)).ob) w w := fun b _ hb => ⟨fun hm => hb (hm.imp id fun ⟨k', g', o', x, h1, h2, h3⟩ => ⟨k', g', o', x, (hob' _ _ _ h1).2, h2, h3⟩), rfl⟩
  obtain ⟨v, hv, hO⟩ := h.obj k g _ hob
  obtain ⟨b, xs, rfl, hB, hh, hcs⟩ := hO.box_cells
  have hbn : ¬ Mt M0 ρ (st.frzb k is (.fp cs)).ob b := fun hm => by
    rcases hm with hm | ⟨k', g', o', x, h1, h2, h3⟩
    · have := h.base b hm
      rcases hB with hB | hB
      · omega
      · exact hnl b hB
    · obtain ⟨h4, h5⟩ := hob' _ _ _ h1
      exact h4 (h.apart k' g' o' k g _ x _ b h5 hob h2 hv h3 rfl)
  have hrep : Rep (Mt M0 ρ (st.frzb k is (.fp cs)).ob) w (.fp cs) (.pointer (some ⟨b, 0, none⟩)) := by
    have hx : ∀ j a, cs[j]? = some a → ∃ x, xs[j]? = some x ∧ xs.getD j undef = x := fun j a ha => by
      have hj : j < xs.size := by
        have := (List.getElem?_eq_some_iff.1 ha).1
        have := hcs.1
        simp at this; omega
      exact ⟨xs[j], by simp [hj], by simp [Array.getD, hj]⟩
    refine .fp cs b 0 (fun j => xs.getD j undef) (fun j a ha => ?_) (fun j a ha => ?_)
    · obtain ⟨x, hx1, hx2⟩ := hx j a ha
      have := (hcs.2 j a x ha (by rw [Array.getElem?_toList]; exact hx1)).2
      refine ⟨hbn, ?_, by rw [hx2]; exact this⟩
      rw [hx2, Nat.zero_add]
      simp [World.cell?, hh, hx1]
    · obtain ⟨x, hx1, hx2⟩ := hx j a ha
      rw [hx2]
      exact (hcs.2 j a x ha (by rw [Array.getElem?_toList]; exact hx1)).1.mono hk
  exact {
    size := h.size
    defers := h.defers
    slot := fun i => by
      show SRep _ _ _ (bif is.contains i then .d (.fp cs) else st.sl i) _
      by_cases hi : i ∈ is
      · have e : is.contains i = true := by simpa using hi
        rw [e]
        have h1 := h.slot i
        rw [his.get i hi] at h1
        obtain ⟨y, b', h2, h3, h4⟩ := h1
        rw [hv] at h2; cases h2
        simp only [blk, Option.some.injEq] at h3
        subst h3
        rw [h4]
        exact hrep
      · have e : is.contains i = false := by simpa using hi
        rw [e]
        exact (h.slot i).mono hk
    obj := fun k' g' o' hh => by
      obtain ⟨x, h1, h2⟩ := h.obj k' g' o' (hob' _ _ _ hh).2
      exact ⟨x, h1, h2.mono hk fun _ _ => rfl⟩
    apart := fun k1 g1 o1 k2 g2 o2 x x' b h1 h2 => h.apart k1 g1 o1 k2 g2 o2 x x' b (hob' _ _ _ h1).2 (hob' _ _ _ h2).2
    gens := h.gens
    base := h.base
    ext := h.ext
    pin := h.pin }
theorem Aw_frzb {c : Code} {k g : Nat} {T : TypeId} {cs : List AV} (hnl : ∀ b, ¬ w0.l b) (is : List Nat) (hob : st.ob k = some (g, .box T (cs.map .d))) (his : AllBx st k g is) (h : Aw P N M0 w0 c Q (st.frzb k is (.fp cs))) : Aw P N M0 w0 c Q st := ⟨fun a w hs => h.out a w (le_frzb hnl is hob his a w hs)⟩
/-- A closure that captures. -/
theorem Pu_makeFunc {f : FuncId} {xs : Array Operand} {caps : List AV} (ho : o.op = .makeFunc (.func f) #[] xs) (ha : ArgsOk st xs.toList caps) : Pu P st o (.d (.fn f caps)) := Pu_q fun B M ρ w a h2 _ => by
  have h4 := ha.rep (a := a) fun x hx => h2 x (by simp [opsOf, ho, Op.operands]; simpa using hx)
  refine ⟨.func (.func f) #[] (xs.map a.eval), ?_, ?_⟩
  · simp only [execOp, ho, Instr.makeFunc, Sem.run_bind, Sem.run_pure, Result.andThen_ok]
    simp
  · have e : xs.map a.eval = (xs.toList.map a.eval).toArray := by apply Array.ext'; simp
    show Rep M w (.fn f caps) (.func (.func f) #[] (xs.map a.eval))
    rw [e]
    exact .fn f caps _ h4.1 h4.2
end
def NoGoto (Q : Exit → ASt → Prop) : Exit → ASt → Prop
  | .goto _, _ => False
  | e, st => Q e st
/-- A scope that nothing jumps in. -/
theorem Aw_scope {P : Program} {N : Nat} {M0 : Nat → Prop} {w0 : Base} {Q : Exit → ASt → Prop} {st : ASt} {c : Code} (h : Aw P N M0 w0 c (NoGoto Q) st) : Aw P N M0 w0 (.scope c) Q st := ⟨fun a w hs => wp_scope_straight (wp_mono (h.out a w hs) fun e a' w' ⟨s, h1, h2⟩ => by
  cases e with
  | goto l => exact h1.elim
  | _ => exact ⟨s, h1, h2⟩)⟩
theorem Aw_label {P : Program} {N : Nat} {M0 : Nat → Prop} {w0 : Base} {Q : Exit → ASt → Prop} {st : ASt} {l : Nat} (h : Q .normal st) : Aw P N M0 w0 (.label l) Q st := ⟨fun a w hs => wp_label ⟨st, h, hs⟩⟩
end Go.Proofs.Ytgoncpjgpkoacaa.A
