/- Abstract states: bytes of the call's own, made of a text. -/
import Derived.Test.YtocgnmklgklfnaaAU
set_option linter.unusedSimpArgs false
set_option linter.unusedVariables false
namespace Go.Proofs.Ytocgnmklgklfnaa.A
open Go Go.RowKit
/-- Bytes that were made of a text. -/
def BI (b : Nat) (e : TypeId) (l : List UInt8) : OP where
  F := fun c => c = b
  I := fun _ w _ h => ∃ cap vs, h = .slice (some ⟨b, 0, none⟩) l.length cap ∧ w.heap[b]? = some (.cells vs e (vs.size, vs.size + 1)) ∧ l.length ≤ vs.size ∧ l.length ≤ maxI ∧ ∀ (j : Nat) (x : UInt8), l[j]? = some x → vs[j]? = some (.int .u8 x.toNat)
  mono := fun _ hF h => by
    obtain ⟨cap, vs, h1, h2, h3⟩ := h
    exact ⟨cap, vs, h1, by rw [hF b rfl]; exact h2, h3⟩
  rho := fun _ h => h
  lt := fun h c hc => by
    obtain ⟨cap, vs, h1, h2, h3⟩ := h
    subst hc
    exact (Array.getElem?_eq_some_iff.1 h2).1
section
variable {P : Program} {N : Nat} {M0 : Nat → Prop} {w0 : Base} {ops : Array Oper} {Q : Exit → ASt → Prop} {o : Oper} {l : List Oper} {st : ASt}
theorem bytesRow_at {s : ByteArray} {cap j : Nat} {x : UInt8} (h : s.data.toList[j]? = some x) : (bytesRow s cap)[j]? = some (.int .u8 x.toNat) := by
  have hj : j < s.data.size := by
    have := (List.getElem?_eq_some_iff.1 h).1
    simpa using this
  unfold bytesRow
  rw [Array.getElem?_append_left (by simpa using hj), Array.getElem?_map]
  rw [Array.getElem?_toList] at h
  rw [h]; rfl
theorem Al_convSB {d : Nat} {f t e : TypeId} {x : Operand} {s : ByteArray} (ho : o.op = .convert f t x) (hg : o.guard = none) (hd : o.dst = some d) (hN : d < N) (hc : conB o = true) (hf : P.underlying f = some .string) (ht : P.underlying t = some (.slice e)) (he : P.underlying e = some (.int .u8)) (hx : st.ev x = .d (tv s))
    (h : ∀ g b, Al P N M0 w0 ops Q l ((st.put d g (.op (BI b e s.data.toList))).set d (.ow d g))) : Al P N M0 w0 ops Q (o :: l) st := by
  refine ⟨?_⟩
  rintro a w ⟨ρ, hsim⟩
  have hm := hsim.ev hc x (by simp [opsOf, ho, Op.operands])
  rw [hx] at hm
  obtain ⟨hy, hv⟩ := rep_v hm
  have hsz : s.size ≤ maxI := hv
  obtain ⟨cap, hcap⟩ : ∃ cap, cap = grownCap w s.size 0 e := ⟨_, rfl⟩
  have hrun := run_bytes_of_string (P := P) w f t e s hf ht he
  rw [← hcap] at hrun
  obtain ⟨w', hw'⟩ : ∃ w', w' = w.drew.alloc (.cells (bytesRow s cap) e ((bytesRow s cap).size, (bytesRow s cap).size + 1)) := ⟨_, rfl⟩
  rw [← hw'] at hrun
  have hE : Ev.Ext w w' := by
    rw [hw']
    exact (Below.refl _ _).drew.alloc (Nat.le_refl _) _
  obtain ⟨g', ρ', k1, k2⟩ := hsim.upd (w' := w') d ⟨by rw [hw']; rfl, by rw [hw']; rfl, by rw [hw']; rfl⟩ hE.size (fun b hb _ => hE.block b hb) (x' := .slice (some ⟨w.heap.size, 0, none⟩) s.size cap) (o' := .op (BI w.heap.size e s.data.toList)) (fun b hb => .inl (Nat.le_of_eq (show b = w.heap.size from hb).symm))
    (fun M' ρ' hK _ => ⟨fun b hb => .inl (by rw [show b = w.heap.size from hb]; exact hsim.ext.size), cap, bytesRow s cap, by rw [Array.length_toList]; rfl, by
      rw [hw']; exact heap_alloc_new _ _, by rw [Array.length_toList]; simp [bytesRow], by rw [Array.length_toList]; exact hsz, fun j x hj => bytesRow_at hj⟩)
  refine wpList_plain hg fun K hK => wp_upon ?_
  have e' : (execOp a.eval o).run P w = .ok (.value (.slice (some ⟨w.heap.size, 0, none⟩) s.size cap)) w' := by
    simp only [execOp, ho, Sem.run_bind, hy, hrun, Result.andThen_ok, Sem.run_pure]
  rw [e']
  refine hK _ _ ((h g' w.heap.size).out _ _ ⟨ρ', ?_⟩)
  rw [hd]
  exact k1.set hN ⟨k2, rfl⟩
theorem Pu_lenB {x : Operand} {t e : TypeId} {k g b m : Nat} {bs : List UInt8} (ho : o.op = .call ⟨.builtin .len, #[x], #[t]⟩) (ht : P.underlying t = some (.slice e)) (hx : st.ev x = .ow k g) (hob : st.ob k = some (g, .op (BI b e bs))) (hm : bs.length = m) : Pu P st o (.d (.v (.int .i64 m))) := Pu_q fun B M ρ w a h2 h3 => by
  subst hm
  have hm := h2 x (mem_call ho x (by simp))
  rw [hx] at hm
  obtain ⟨v, h4, _, cap, vs, rfl, h6, h7, hl, _⟩ := h3 k g _ hob
  have hy : a.eval x = .slice (some ⟨b, 0, none⟩) bs.length cap := by
    have := hm.1
    rw [h4] at this
    exact (Option.some.inj this).symm
  refine ⟨.int .i64 bs.length, ?_, .v _ ?_⟩
  · simp [execOp, ho, resolve, invoke, builtin, Builtin.len_, hy, run_underlying ht, Sem.run, goInt]
  · unfold maxI at hl; simp [vok, inI]; omega
theorem Pu_indexB {t e : TypeId} {x i : Operand} {k g b j : Nat} {z : Int} {bs : List UInt8} (ho : o.op = .indexAddr t x i) (ht : P.underlying t = some (.slice e)) (hz : ∀ w, (sizeOf e).run P w = .ok 1 w) (hx : st.ev x = .ow k g) (hi : st.ev i = .d (.v (.int .i64 z))) (hob : st.ob k = some (g, .op (BI b e bs))) (hk : z = j) (hj : j < bs.length) : Pu P st o (.bx k g (j * 1)) := Pu_q fun B M ρ w a h2 h3 => by
  have m : x ∈ opsOf o ∧ i ∈ opsOf o := by simp [opsOf, ho, Op.operands]
  obtain ⟨e2, _⟩ := ev_v h2 m.2 hi
  have hm := h2 x m.1
  rw [hx] at hm
  obtain ⟨v, h4, _, cap, vs, rfl, h6, h7, hl, _⟩ := h3 k g _ hob
  have hy : a.eval x = .slice (some ⟨b, 0, none⟩) bs.length cap := by
    have := hm.1
    rw [h4] at this
    exact (Option.some.inj this).symm
  subst hk
  refine ⟨.pointer (some ⟨b, j * 1, none⟩), ?_, _, b, h4, rfl, rfl⟩
  simp only [execOp, ho, hy, e2, Instr.indexAt, Instr.sureAddr, Sem.run_bind, asIntOf, Sem.run_pure, Result.andThen_ok, run_underlying ht]
  rw [if_pos ⟨by omega, by omega⟩]
  simp only [Sem.run_bind, hz, Result.andThen_ok, Int.toNat_natCast, add_addr, Sem.run_pure, Nat.zero_add]
theorem Pu_loadB {t e : TypeId} {x : Operand} {k g b off : Nat} {bs : List UInt8} {c : UInt8} (ho : o.op = .load t x) (ht : ∀ w, (isAgg t).run P w = .ok false w) (hx : st.ev x = .bx k g off) (hob : st.ob k = some (g, .op (BI b e bs))) (hs : bs[off]? = some c) : Pu P st o (.d (.v (.int .u8 c.toNat))) := Pu_q fun B M ρ w a h2 h3 => by
  have hm := h2 x (by simp [opsOf, ho, Op.operands])
  rw [hx] at hm
  obtain ⟨y, b', h4, h5, h6⟩ := hm
  obtain ⟨y', h7, _, cap, vs, rfl, hg, hl, hl2, hat⟩ := h3 k g _ hob
  rw [h4] at h7; cases h7
  simp only [blk, Option.some.injEq] at h5
  subst h5
  have hv := hat off c hs
  have hlt := UInt8.toNat_lt c
  refine ⟨_, ?_, .v _ (show vok (.int .u8 (c.toNat : Int)) by constructor <;> omega)⟩
  have hc : w.cell? ⟨b, off, none⟩ = some (.int .u8 c.toNat) := by simp [World.cell?, hg, hv]
  simp [execOp, ho, h6, Instr.loadAt, Instr.sureAddr, loadVar, ht, load, Sem.run, hc, Sem.run_bind]
theorem Al_storeB {t e : TypeId} {x y : Operand} {k g b off : Nat} {bs : List UInt8} (c : UInt8) (ho : o.op = .store t x y) (hg : o.guard = none) (hd : o.dst = none) (hc : conB o = true) (hz : ∀ w, (sizeOf t).run P w = .ok 1 w) (hx : st.ev x = .bx k g off) (hob : st.ob k = some (g, .op (BI b e bs))) (hoff : off < bs.length) (hy : st.ev y = .d (.v (.int .u8 c.toNat)))
    (h : Al P N M0 w0 ops Q l (st.put k g (.op (BI b e (bs.set off c))))) : Al P N M0 w0 ops Q (o :: l) st := by
  refine ⟨?_⟩
  rintro a w ⟨ρ, hsim⟩
  have hmem : x ∈ opsOf o ∧ y ∈ opsOf o := by simp [opsOf, ho, Op.operands]
  have hmx := hsim.ev hc x hmem.1
  have hmy := hsim.ev hc y hmem.2
  rw [hx] at hmx
  rw [hy] at hmy
  obtain ⟨hyv, _⟩ := rep_v hmy
  obtain ⟨u, b', h4, h5, h6⟩ := hmx
  obtain ⟨u', h7, hB, cap, vs, rfl, h9, h10, h11, hat⟩ := hsim.obj k g _ hob
  rw [h4] at h7; cases h7
  simp only [blk, Option.some.injEq] at h5
  subst h5
  have hlt : off < vs.size := by omega
  have hc1 : w.cell? ⟨b, off, none⟩ = some vs[off] := by simp [World.cell?, h9, hlt]
  have hfz : w.frozen? ⟨b, off, none⟩ = false := by simp [World.frozen?, h9]; omega
  have hnew : (w.setCell ⟨b, off, none⟩ (a.eval y)).heap[b]? = some (.cells (vs.setIfInBounds off (a.eval y)) e (vs.size, vs.size + 1)) := by simp [World.setCell, Array.getElem?_modify, h9]
  have hs2 := hsim.mod (w' := w.setCell ⟨b, off, none⟩ (a.eval y)) hob h4 ⟨rfl, rfl, rfl⟩ (by simp [World.setCell]) (fun b' hb hne => Below.heap_setCell _ _ _ _ (fun e => hne (show b' = b from e))) (o' := .op (BI b e (bs.set off c))) (fun M' hK _ => ⟨hB, cap, vs.setIfInBounds off (a.eval y), by rw [List.length_set], by rw [hnew, Array.size_setIfInBounds], by rw [List.length_set, Array.size_setIfInBounds]; exact h10, by rw [List.length_set]; exact h11, fun j z hz' => by
    rw [List.getElem?_set] at hz'
    rw [Array.getElem?_setIfInBounds]
    by_cases e : off = j
    · subst e
      rw [if_pos rfl, if_pos hoff] at hz'
      rw [if_pos rfl, if_pos hlt]
      simp only [Option.some.injEq] at hz'
      subst hz'
      rw [hyv]
    · rw [if_neg e] at hz'
      rw [if_neg e]
      exact hat j z hz'⟩)
  refine wpList_plain hg fun K hK => wp_upon ?_
  have e : (execOp a.eval o).run P w = .ok .skip (w.setCell ⟨b, off, none⟩ (a.eval y)) := by
    have hst : (store (⟨b, off, none⟩ : Addr) (a.eval y)).run P w = .ok () (w.setCell ⟨b, off, none⟩ (a.eval y)) := by
      rw [hyv]
      simp_all [store, Sem.run]
    have hone : (a.eval y).cells = #[a.eval y] := by rw [hyv]; rfl
    simp only [execOp, ho, h6, Instr.storeAt, Instr.sureAddr, storeVar, Sem.run_bind, Sem.run_pure, Result.andThen_ok, hz, hone]
    simp [storeCells, Sem.run_bind, Addr.add, hst]
  rw [e]
  refine hK _ _ (h.out _ _ ⟨ρ, ?_⟩)
  rw [hd]
  exact hs2
theorem Pu_convB {f t e : TypeId} {x : Operand} {k g b : Nat} {bs : List UInt8} (ho : o.op = .convert f t x) (hf : P.underlying f = some (.slice e)) (he : P.underlying e = some (.int .u8)) (ht : P.underlying t = some .string) (hx : st.ev x = .ow k g) (hob : st.ob k = some (g, .op (BI b e bs))) : Pu P st o (.d (tv (V.ba bs))) := Pu_q fun B M ρ w a h2 h3 => by
  have hm := h2 x (by simp [opsOf, ho, Op.operands])
  rw [hx] at hm
  obtain ⟨v, h4, _, cap, vs, rfl, h6, h7, hl, hat⟩ := h3 k g _ hob
  have hy : a.eval x = .slice (some ⟨b, 0, none⟩) bs.length cap := by
    have := hm.1
    rw [h4] at this
    exact (Option.some.inj this).symm
  have hrun := run_convert_bytes_back (P := P) w f t e ⟨b, 0, none⟩ cap bs hf he ht (fun j hj => by
    have := hat j bs[j] (by simp [hj])
    rw [add_addr, Nat.zero_add]
    simp [World.cell?, h6, this])
  refine ⟨.string (V.ba bs), ?_, .v _ (by show (V.ba bs).size ≤ maxI; rw [A.ba_sz]; exact hl)⟩
  simp only [execOp, ho, hy, Sem.run_bind, hrun, Result.andThen_ok, Sem.run_pure]
end
end Go.Proofs.Ytocgnmklgklfnaa.A
