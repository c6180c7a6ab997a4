/- Abstract states: a strings.Builder of the call's own. -/
import Derived.Test.YtocgnmklgklfnaaSBld
set_option linter.unusedSimpArgs false
set_option linter.unusedVariables false
namespace Go.Proofs.Ytocgnmklgklfnaa
open Go.RowKit A
namespace A
section
variable {N : Nat} {M0 : Nat → Prop} {w0 : Base} {ops : Array Oper} {Q : Exit → ASt → Prop} {o : Oper} {l : List Oper} {st : ASt}
theorem put_other {k k2 g : Nat} {o' : AO} (h : Nat.beq k k2 = false) : (st.put k2 g o').ob k = st.ob k := by
  show (bif Nat.beq k k2 then _ else st.ob k) = _
  rw [h]; rfl
/-- An object of the call's own is given up. -/
theorem SimR.lose {ρ : Rho} {a : Act} {w w' : World} (h : SimR N M0 w0 st ρ a w) {k g : Nat} {o : AO} {x : Value} (hob : st.ob k = some (g, o)) (hx : ρ k g = some x) (hos : w'.os = w.os ∧ w'.tape = w.tape ∧ w'.output = w.output) (hsz : w.heap.size ≤ w'.heap.size)
    (hold : ∀ b, b < w.heap.size → ¬ fpO o x b → w'.heap[b]? = w.heap[b]?) : SimR N M0 w0 (st.drop k) ρ a w' := by
  have hO0 : ORep w0 (Mt M0 ρ st.ob) w ρ x o := by
    obtain ⟨y, h1, h2⟩ := h.obj k g o hob
    rw [hx] at h1; cases h1; exact h2
  have hob' : ∀ j g' o', (st.drop k).ob j = some (g', o') → j ≠ k ∧ st.ob j = some (g', o') := fun j g' o' hh => by
    have : (bif Nat.beq j k then none else st.ob j) = some (g', o') := hh
    cases hb : Nat.beq j k with
    | true => rw [hb] at this; cases this
    | false =>
      rw [hb] at this
      exact ⟨fun e => by subst e; simp at hb, this⟩
  have hK : Known (Mt M0 ρ st.ob) (Mt M0 ρ (st.drop k).ob) w w' := fun b hb hm => ⟨fun hm' => hm (by
    rcases hm' with hm' | ⟨k2, g2, o2, x2, h1, h2, h3⟩
    · exact .inl hm'
    · exact .inr ⟨k2, g2, o2, x2, (hob' _ _ _ h1).2, h2, h3⟩), hold b hb fun e => hm (.inr ⟨k, g, o, x, hob, hx, e⟩)⟩
  exact {
    size := h.size
    defers := h.defers
    slot := fun i => (h.slot i).mono hK
    obj := fun k2 g2 o2 hh => by
      obtain ⟨hn, h1⟩ := hob' _ _ _ hh
      obtain ⟨y, h2, h3⟩ := h.obj k2 g2 o2 h1
      exact ⟨y, h2, h3.mono hK fun b hb => hold b (h3.blk_lt hb).2 fun e => hn (h.apart k2 g2 o2 k g o y x b h1 hob h2 hx hb e)⟩
    apart := fun k1 g1 o1 k2 g2 o2 x x' b h1 h2 => h.apart k1 g1 o1 k2 g2 o2 x x' b (hob' _ _ _ h1).2 (hob' _ _ _ h2).2
    gens := h.gens
    base := h.base
    ext := by
      have h1 := h.ext
      refine ⟨hos.1.trans h1.os, hos.2.1.trans h1.tape, hos.2.2.trans h1.output, Nat.le_trans h1.size hsz, fun b hb hl => ?_⟩
      rw [hold b (Nat.lt_of_lt_of_le hb h1.size) fun e => ?_]
      · exact h1.block b hb hl
      · rcases (hO0.blk_lt e).1 with h7 | h7
        · omega
        · exact hl h7
    pin := h.pin }
/-- Bytes as rows of one cell. -/
abbrev byteA (bs : List UInt8) : List (List AV) := colA (fun c : UInt8 => Value.int .u8 c.toNat) bs
theorem byte_vok (c : UInt8) : vok (.int .u8 c.toNat) := by
  have := UInt8.toNat_lt c
  show (0 : Int) ≤ _ ∧ _ ≤ (255 : Int)
  omega
/-- A builder as its two objects tell it. -/
theorem bld_of {ρ : Rho} {a : Act} {w : World} (hsim : SimR N M0 w0 st ρ a w) {k g k2 g2 : Nat} {c0 : SV} {bs : List UInt8} (hkk : Nat.beq k k2 = false) (hc0 : c0 = .d (.v (.pointer none)) ∨ c0 = .bx k g 0) (hob : st.ob k = some (g, .box 57 [c0, .ow k2 g2])) (hob2 : st.ob k2 = some (g2, .arr 5 1 (byteA bs))) :
    ∃ b v p, ρ k g = some (.pointer (some ⟨b, 0, none⟩)) ∧ ρ k2 g2 = some v ∧ (w0.w.heap.size ≤ b ∨ w0.l b) ∧ A.Bld 0 b v (Lib.byteCells bs) w ∧ (∀ c, blk v = some c → w0.w.heap.size ≤ c ∨ w0.l c) ∧ blk v = v.ownBlock ∧ w.heap[b]? = some (.cells #[p, v] 57 (0, 0)) ∧ bs.length ≤ maxI := by
  obtain ⟨y, hy, b, vs, rfl, hB, hh, hsz, hcs⟩ := hsim.obj k g _ hob
  obtain ⟨v, hv, vals, hown, hrows, ⟨va, vc, hvf⟩, hl, hlb⟩ := hsim.obj k2 g2 _ hob2
  obtain ⟨hfl, _⟩ := col_vals hrows
  have hlen : (byteA bs).length = bs.length := by simp [byteA, colA]
  rw [hfl, hlen] at hown
  obtain ⟨x0, x1, rfl⟩ : ∃ x0 x1, vs = #[x0, x1] := by
    match vs, hsz with
    | ⟨[x0, x1]⟩, _ => exact ⟨x0, x1, rfl⟩
  have h1 := (hcs 1 _ x1 rfl rfl).1
  have e1 : x1 = v := by
    have := h1.1
    rw [hv] at this
    exact (Option.some.inj this).symm
  subst e1
  have hbv : blk x1 = x1.ownBlock := blk_own ⟨va, _, vc, hvf⟩
  refine ⟨b, x1, x0, hy, hv, hB, ⟨⟨x0, ?_, hh⟩, by simpa [Lib.byteCells] using hown, fun e => ?_⟩, hlb, hbv, hh, by rwa [hlen] at hl⟩
  · have h0 := (hcs 0 _ x0 rfl rfl).1
    rcases hc0 with rfl | rfl
    · exact .inl (rep_v h0).1
    · obtain ⟨z, b', hz, hb', rfl⟩ := h0
      rw [hy] at hz; cases hz
      simp only [blk, Option.some.injEq] at hb'
      subst hb'; exact .inr rfl
  · have := hsim.apart k g _ k2 g2 _ _ _ b hob hob2 hy hv rfl (by show blk x1 = some b; rw [hbv]; exact e)
    subst this
    simp at hkk
/-- A builder is written. -/
theorem Al_bwrite {d k g k2 g2 : Nat} {c0 : SV} {x y : Operand} {ts : Array TypeId} {bs : List UInt8} {s : ByteArray} (ho : o.op = .call ⟨.value (.func 26), #[x, y], ts⟩) (hg : o.guard = none) (hd : o.dst = some d) (hN : d < N) (hc : conB o = true) (hkk : Nat.beq k k2 = false) (hx : st.ev x = .bx k g 0) (hc0 : c0 = .d (.v (.pointer none)) ∨ c0 = .bx k g 0) (hob : st.ob k = some (g, .box 57 [c0, .ow k2 g2])) (hob2 : st.ob k2 = some (g2, .arr 5 1 (byteA bs))) (hy : st.ev y = .d (tv s)) (hlen : bs.length + s.size ≤ 140737488355328)
    (h : ∀ g', Al Try.prog N M0 w0 ops Q l (((st.put k2 g' (.arr 5 1 (byteA (bs ++ s.data.toList)))).put k g (.box 57 [.bx k g 0, .ow k2 g'])).set d .any)) : Al Try.prog N M0 w0 ops Q (o :: l) st := by
  refine ⟨?_⟩
  rintro a w ⟨ρ, hsim⟩
  have hev := fun z hz => hsim.ev hc z (mem_call ho z hz)
  have h1 := hev x (by simp)
  rw [hx] at h1
  obtain ⟨u, b', hu1, hu2, hu3⟩ := h1
  have h2 := hev y (by simp)
  rw [hy] at h2
  have hys := (rep_v h2).1
  obtain ⟨b, v, p, hb1, hv1, hB, hbld, hlb, hbv, hh, hl⟩ := bld_of hsim hkk hc0 hob hob2
  rw [hb1] at hu1; cases hu1
  simp only [blk, Option.some.injEq] at hu2
  subst hu2
  have hbl : (Lib.byteCells bs).length = bs.length := by simp [Lib.byteCells]
  have hcall := bwrite_any _ b v (Lib.byteCells bs) s w hbld (by rw [hbl]; exact hlen) (Nat.zero_le _)
  refine wpList_plain hg fun K hK => wp_upon ?_
  have e : (execOp a.eval o).run Try.prog w = .ok (.enter 26 #[.pointer (some ⟨b, 0, none⟩), .string s]) w := by
    rw [call_run (fun _ _ => by kernel_rfl) (xs := [y]) ho, hu3]
    simp [hys]
  rw [e]
  refine hcall.mono fun e w' ⟨he, v', hbld', hh', hown', hsz', ho1, ho2, ho3, hold⟩ => ⟨_, he, ?_⟩
  have hbw : b < w.heap.size := (Array.getElem?_eq_some_iff.1 hh).1
  have hbv' : blk v' = v'.ownBlock := by
    obtain ⟨_, h5⟩ := hbld'.own
    rcases h5 with ⟨rfl, _⟩ | ⟨g', cap, cur, rfl, _⟩ <;> rfl
  have hform : ∃ q c, v' = .slice q (bs ++ s.data.toList).length c := by
    obtain ⟨q, c, e⟩ := own_form hbld'.own
    refine ⟨q, c, by rw [e]; simp [Lib.byteCells, Lib.strCells]⟩
  -- the world but for the builder's own block
  obtain ⟨w1, hw1⟩ : ∃ w1 : World, w1 = { w' with heap := w'.heap.setIfInBounds b (.cells #[p, v] 57 (0, 0)) } := ⟨_, rfl⟩
  have hw1b : w1.heap[b]? = w.heap[b]? := by
    rw [hw1, hh]
    simp [Array.getElem?_setIfInBounds, show b < w'.heap.size by omega]
  have hw1c : ∀ c, c ≠ b → w1.heap[c]? = w'.heap[c]? := fun c hcb => by
    rw [hw1]; simp [Array.getElem?_setIfInBounds, Ne.symm hcb]
  have hw1s : w1.heap.size = w'.heap.size := by rw [hw1]; simp
  have hst : Lib.byteCells bs ++ Lib.strCells s = (bs ++ s.data.toList).map fun c : UInt8 => Value.int .u8 c.toNat := by simp [Lib.byteCells, Lib.strCells]
  have hlA : (byteA (bs ++ s.data.toList)).length = (bs ++ s.data.toList).length := by simp [byteA, colA]
  obtain ⟨g', ρ', m1, m2, m3⟩ := hsim.upd2 (w' := w1) k2 ⟨by rw [hw1]; exact ho1, by rw [hw1]; exact ho2, by rw [hw1]; exact ho3⟩ (by omega) (fun c hcs hne => by
    by_cases hcb : c = b
    · subst hcb; exact hw1b
    · rw [hw1c c hcb]; exact hold c hcs hcb (by rw [← hbv]; exact hne g2 _ v hob2 hv1)) (x' := v') (o' := .arr 5 1 (byteA (bs ++ s.data.toList))) (fun c hcv => by
    have hcv : blk v' = some c := hcv
    rw [hbv'] at hcv
    rcases hown' with e1 | ⟨c', e1, e2⟩
    · exact .inr ⟨g2, _, v, hob2, hv1, by show blk v = some c; rw [hbv, ← e1]; exact hcv⟩
    · rw [e1] at hcv; cases hcv; exact .inl e2) (fun M' ρ' hK _ => by
    refine ⟨(bs ++ s.data.toList).map fun c => [Value.int .u8 c.toNat], ?_, col_rows fun c _ => byte_vok c, by rw [hlA]; exact hform, by rw [hlA]; simp [maxI]; omega, fun c hcv => by
      rw [hbv'] at hcv
      rcases hown' with e1 | ⟨c', e1, e2⟩
      · exact hlb c (by rw [hbv, ← e1]; exact hcv)
      · rw [e1] at hcv; cases hcv; exact .inl (by have := hsim.ext.size; omega)⟩
    rw [col_flat, hlA, ← hst]
    have := hbld'.own
    rw [show (Lib.byteCells bs ++ Lib.strCells s).length = (bs ++ s.data.toList).length from by simp [Lib.byteCells, Lib.strCells]] at this
    exact owns_kept this fun c hcv => hw1c c fun e => hbld'.ne (by rw [← hbv', hcv, e]))
  have hob' : (st.put k2 g' (.arr 5 1 (byteA (bs ++ s.data.toList)))).ob k = some (g, .box 57 [c0, .ow k2 g2]) := by rw [put_other hkk]; exact hob
  have hb1' : ρ' k g = some (.pointer (some ⟨b, 0, none⟩)) := m3 _ _ _ hb1
  have hs2 := m1.mod (w' := w') hob' hb1' ⟨by rw [hw1], by rw [hw1], by rw [hw1]⟩ (by omega) (fun c hcs hne => (hw1c c fun e => hne (by rw [e]; rfl)).symm) (o' := .box 57 [.bx k g 0, .ow k2 g']) (fun M' hK _ => ⟨b, _, rfl, hB, hh', rfl, fun j q z hq hz => by
    match j with
    | 0 => simp at hq hz; subst hq hz; exact ⟨⟨_, b, hb1', rfl, rfl⟩, rfl⟩
    | 1 =>
      simp at hq hz; subst hq hz
      obtain ⟨q, c, e⟩ := hform
      exact ⟨⟨m2, by rw [e]; rfl⟩, by rw [e]; rfl⟩
    | j + 2 => simp at hq⟩)
  refine hK _ _ ((h g').out _ _ ⟨ρ', ?_⟩)
  rw [hd]
  exact hs2.set hN trivial
/-- A builder's text. -/
theorem Al_bstring {d k g k2 g2 : Nat} {c0 : SV} {x : Operand} {ts : Array TypeId} {bs : List UInt8} (ho : o.op = .call ⟨.value (.func 29), #[x], ts⟩) (hg : o.guard = none) (hd : o.dst = some d) (hN : d < N) (hc : conB o = true) (hkk : Nat.beq k k2 = false) (hx : st.ev x = .bx k g 0) (hc0 : c0 = .d (.v (.pointer none)) ∨ c0 = .bx k g 0) (hob : st.ob k = some (g, .box 57 [c0, .ow k2 g2])) (hob2 : st.ob k2 = some (g2, .arr 5 1 (byteA bs))) (h0 : bs ≠ [])
    (h : Al Try.prog N M0 w0 ops Q l ((st.drop k2).set d (.d (tv (V.ba bs))))) : Al Try.prog N M0 w0 ops Q (o :: l) st := by
  refine ⟨?_⟩
  rintro a w ⟨ρ, hsim⟩
  have h1 := hsim.ev hc x (mem_call ho x (by simp))
  rw [hx] at h1
  obtain ⟨u, b', hu1, hu2, hu3⟩ := h1
  obtain ⟨b, v, p, hb1, hv1, hB, hbld, hlb, hbv, hh, hl⟩ := bld_of hsim hkk hc0 hob hob2
  rw [hb1] at hu1; cases hu1
  simp only [blk, Option.some.injEq] at hu2
  subst hu2
  have hcall := bstring_any _ b v bs w hbld h0
  refine wpList_plain hg fun K hK => wp_upon ?_
  have e : (execOp a.eval o).run Try.prog w = .ok (.enter 29 #[.pointer (some ⟨b, 0, none⟩)]) w := by
    rw [call_run (fun _ _ => by kernel_rfl) (xs := []) ho, hu3]
    rfl
  rw [e]
  refine hcall.mono fun e w' ⟨he, hsz, ho1, ho2, ho3, hold⟩ => ⟨_, he, ?_⟩
  have hs2 := hsim.lose hob2 hv1 ⟨ho1, ho2, ho3⟩ hsz (fun c hc hne => hold c hc (by rw [← hbv]; exact hne))
  refine hK _ _ (h.out _ _ ⟨ρ, ?_⟩)
  rw [hd]
  exact hs2.set hN (.v _ (by show (V.ba bs).size ≤ maxI; rw [A.ba_sz]; exact hl))
/-- A fresh builder's buffer is a row of the call's own. -/
theorem le_ownc {k k2 g : Nat} {T e : TypeId} {c0 : SV} {n : Nat} (hkk : Nat.beq k k2 = false) (hob : st.ob k = some (g, .box T [c0, .d (.v (.slice none 0 0))])) {X : Act → World → Prop} (h : ∀ g2, ∀ a w, Sim N M0 w0 ((st.put k2 g2 (.arr e n [])).put k g (.box T [c0, .ow k2 g2])) a w → X a w) : ∀ a w, Sim N M0 w0 st a w → X a w := by
  rintro a w ⟨ρ, hs⟩
  obtain ⟨g', ρ', h1, h2⟩ := hs.upd (w' := w) k2 ⟨rfl, rfl, rfl⟩ (Nat.le_refl _) (fun _ _ _ => rfl) (x' := .slice none 0 0) (o' := .arr e n []) (fun b hb => by simp [blk] at hb)
    (fun M' ρ' _ _ => ⟨[], World.ownsRow_nil w _ e n, ⟨rfl, fun i r v h => by simp at h⟩, ⟨none, 0, rfl⟩, by simp, fun b hb => by simp [blk] at hb⟩)
  have hob' : (st.put k2 g' (.arr e n [])).ob k = some (g, .box T [c0, .d (.v (.slice none 0 0))]) := by rw [put_other hkk]; exact hob
  obtain ⟨y, hy, b, vs, rfl, hB, hh, hsz, hcs⟩ := h1.obj k g _ hob'
  refine h g' a w ⟨ρ', h1.mod hob' hy ⟨rfl, rfl, rfl⟩ (Nat.le_refl _) (fun _ _ _ => rfl) (fun M' hK _ => ⟨b, vs, rfl, hB, hh, hsz, fun j q z hq hz => ?_⟩)⟩
  match j with
  | 0 => simp at hq; subst hq; exact ⟨(hcs 0 _ z rfl hz).1.mono hK, (hcs 0 _ z rfl hz).2⟩
  | 1 =>
    simp at hq; subst hq
    have := (hcs 1 _ z rfl hz).1
    obtain rfl := (rep_v this).1
    exact ⟨⟨h2, rfl⟩, rfl⟩
  | j + 2 => simp at hq
theorem Aw_ownc {c : Code} {Q : Exit → ASt → Prop} {k k2 g : Nat} {T e : TypeId} {c0 : SV} {n : Nat} (hkk : Nat.beq k k2 = false) (hob : st.ob k = some (g, .box T [c0, .d (.v (.slice none 0 0))])) (h : ∀ g2, Aw Try.prog N M0 w0 c Q ((st.put k2 g2 (.arr e n [])).put k g (.box T [c0, .ow k2 g2]))) : Aw Try.prog N M0 w0 c Q st := ⟨le_ownc hkk hob fun g2 => (h g2).out⟩
theorem Al_ownc {k k2 g : Nat} {T e : TypeId} {c0 : SV} {n : Nat} (hkk : Nat.beq k k2 = false) (hob : st.ob k = some (g, .box T [c0, .d (.v (.slice none 0 0))])) (h : ∀ g2, Al Try.prog N M0 w0 ops Q l ((st.put k2 g2 (.arr e n [])).put k g (.box T [c0, .ow k2 g2]))) : Al Try.prog N M0 w0 ops Q l st := ⟨le_ownc hkk hob fun g2 => (h g2).out⟩
end
end A
end Go.Proofs.Ytocgnmklgklfnaa
