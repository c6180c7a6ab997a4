/- Abstract states: make of a row. -/
import Derived.Test.YtgoncpjgpkoacaaAX
import Derived.Laws.OwnMore
set_option linter.unusedSimpArgs false
set_option linter.unusedVariables false
namespace Go.Proofs.Ytgoncpjgpkoacaa.A
open Go Go.RowKit
section
variable {P : Program} {N : Nat} {M0 : Nat → Prop} {w0 : Base} {ops : Array Oper} {Q : Exit → ASt → Prop} {o : Oper} {l : List Oper} {st : ASt}
theorem made_list {z : Value} (hz : z.cells = #[z]) (n : Nat) : (madeCells z.cells (n * 1)).toList = List.replicate n z := by
  rw [hz, Nat.mul_one]
  apply List.ext_getElem
  · simp [madeCells]
  · intro i h1 h2
    simp [madeCells, Nat.mod_one]
theorem rep_flat {α : Type} (n : Nat) (z : α) : (List.replicate n [z]).flatten = List.replicate n z := by
  induction n with
  | zero => rfl
  | succ n ih => rw [List.replicate_succ, List.flatten_cons, ih, List.replicate_succ]; rfl
theorem Al_make1 {d : Nat} {t e : TypeId} {x y : Operand} {n bytes : Nat} {z : Value} (ho : o.op = .makeSlice t x y) (hg : o.guard = none) (hd : o.dst = some d) (hN : d < N) (hc : conB o = true) (ht : P.underlying t = some (.slice e)) (hi : (P.info? e).map (fun i => (i.zero, i.size, i.bytes)) = some (some z, 1, bytes)) (hz : z.cells = #[z]) (hv : vok z) (hx : st.ev x = .d (.v (.int .i64 n))) (hy : st.ev y = .d (.v (.int .i64 n))) (hn : n ≤ 4294967296) (hby : bytes ≤ 32768)
    (h : ∀ g, Al P N M0 w0 ops Q l ((st.put d g (.arr e 1 (List.replicate n [.v z]))).set d (.ow d g))) : Al P N M0 w0 ops Q (o :: l) st := by
  refine ⟨?_⟩
  rintro a w ⟨ρ, hsim⟩
  have hev := hsim.ev hc
  have h1 := hev x (by simp [opsOf, ho, Op.operands])
  have h2 := hev y (by simp [opsOf, ho, Op.operands])
  rw [hx] at h1
  rw [hy] at h2
  obtain ⟨e1, _⟩ := rep_v h1
  obtain ⟨e2, _⟩ := rep_v h2
  obtain ⟨i, hi1, hi2⟩ := Option.map_eq_some_iff.1 hi
  simp only [Prod.mk.injEq] at hi2
  obtain ⟨i1, i2, i3⟩ := hi2
  have hmul : bytes * n ≤ 32768 * 4294967296 := Nat.mul_le_mul hby hn
  obtain ⟨w', hr, hown, hgr⟩ := run_make_full (P := P) w 0 t e i z 1 ht hi1 i1 i2 .i64 .i64 n (by rw [i3]; omega) (by unfold maxLen; omega) (Nat.zero_le _)
  rw [made_list hz] at hown
  have hmax : n ≤ maxI := by unfold maxI; omega
  have hE : Ev.Ext w w' := ⟨hgr.os, hgr.tape, hgr.output, hgr.size, fun b hb => hgr.block b hb (fun e => by cases e)⟩
  obtain ⟨g', ρ', k1, k2⟩ := hsim.upd (w' := w') d ⟨hgr.os, hgr.tape, hgr.output⟩ hgr.size (fun b hb _ => hE.block b hb) (x' := .slice (some ⟨w.heap.size, 0, none⟩) n n) (o' := .arr e 1 (List.replicate n [.v z])) (fun b hb => by simp [blk] at hb; exact .inl (by omega))
    (fun M' ρ' hK _ => ⟨List.replicate n [z], ⟨by simp, by
      rw [rep_flat, List.length_replicate]
      exact hown.2⟩, ⟨by simp, fun i r v h3 h4 => by
      rw [List.getElem?_replicate] at h3 h4
      split at h3
      · rename_i hin
        rw [if_pos hin] at h4
        simp only [Option.some.injEq] at h3 h4
        subst h3 h4
        refine ⟨rfl, rfl, fun j c x h5 h6 => ?_⟩
        match j, h5, h6 with
        | 0, h5, h6 =>
          simp only [List.getElem?_cons_zero, Option.some.injEq] at h5 h6
          subst h5 h6
          exact ⟨.v _ hv, hv.one⟩
        | j + 1, h5, h6 => simp at h5
      · cases h3⟩, ⟨_, n, by rw [List.length_replicate]⟩, by rw [List.length_replicate]; exact hmax, fun b hb => by
      simp only [blk, Option.some.injEq] at hb
      subst hb
      exact .inl hsim.ext.size⟩)
  refine wpList_plain hg fun K hK => wp_upon ?_
  have e' : (execOp a.eval o).run P w = .ok (.value (.slice (some ⟨w.heap.size, 0, none⟩) n n)) w' := by
    simp only [execOp, ho, Sem.run_bind, e1, e2, hr, Result.andThen_ok, Sem.run_pure]
  rw [e']
  refine hK _ _ ((h g').out _ _ ⟨ρ', ?_⟩)
  rw [hd]
  exact k1.set hN ⟨k2, rfl⟩
end
end Go.Proofs.Ytgoncpjgpkoacaa.A
