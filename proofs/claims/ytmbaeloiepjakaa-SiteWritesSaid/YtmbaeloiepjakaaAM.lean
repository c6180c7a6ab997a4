/- Abstract states: make of a row. -/
/- Abstract states: maps of the call's own; rows whose cells are slots. -/
import Derived.Test.YtmbaeloiepjakaaAX
import Derived.Laws.OwnMore
import Derived.Test.YtmbaeloiepjakaaAS
import Derived.Test.YtmbaeloiepjakaaRMap
set_option linter.unusedSimpArgs false
set_option linter.unusedVariables false
namespace Go.Proofs.Ytmbaeloiepjakaa.A
open Go Go.RowKit
section
variable {P : Program} {N : Nat} {M0 : Nat → Prop} {w0 : Base} {ops : Array Oper} {Q : Exit → ASt → Prop} {o : Oper} {l : List Oper} {st : ASt}
theorem made_list {z : Value} (hz : z.cells = #[z]) (n : Nat) : (madeCells z.cells (n * 1)).toList = List.replicate n z := by
  rw [hz, Nat.mul_one]
  apply List.ext_getElem
  · simp [madeCells]
  · intro i h1 h2
    simp [madeCells, Nat.mod_one]
theorem rep_flat {α : Type} (n : Nat) (z : α) : (List.replicate n [z]).flatten = List.replicate n z := by
  induction n with
  | zero => rfl
  | succ n ih => rw [List.replicate_succ, List.flatten_cons, ih, List.replicate_succ]; rfl
theorem Al_make1 {d : Nat} {t e : TypeId} {x y : Operand} {n bytes : Nat} {z : Value} (ho : o.op = .makeSlice t x y) (hg : o.guard = none) (hd : o.dst = some d) (hN : d < N) (hc : conB o = true) (ht : P.underlying t = some (.slice e)) (hi : (P.info? e).map (fun i => (i.zero, i.size, i.bytes)) = some (some z, 1, bytes)) (hz : z.cells = #[z]) (hv : vok z) (hx : st.ev x = .d (.v (.int .i64 n))) (hy : st.ev y = .d (.v (.int .i64 n))) (hn : n ≤ 4294967296) (hby : bytes ≤ 32768)
    (h : ∀ g, Al P N M0 w0 ops Q l ((st.put d g (.arr e 1 (List.replicate n [.v z]))).set d (.ow d g))) : Al P N M0 w0 ops Q (o :: l) st := by
  refine ⟨?_⟩
  rintro a w ⟨ρ, hsim⟩
  have hev := hsim.ev hc
  have h1 := hev x (by simp [opsOf, ho, Op.operands])
  have h2 := hev y (by simp [opsOf, ho, Op.operands])
  rw [hx] at h1
  rw [hy] at h2
  obtain ⟨e1, _⟩ := rep_v h1
  obtain ⟨e2, _⟩ := rep_v h2
  obtain ⟨i, hi1, hi2⟩ := Option.map_eq_some_iff.1 hi
  simp only [Prod.mk.injEq] at hi2
  obtain ⟨i1, i2, i3⟩ := hi2
  have hmul : bytes * n ≤ 32768 * 4294967296 := Nat.mul_le_mul hby hn
  obtain ⟨w', hr, hown, hgr⟩ := run_make_full (P := P) w 0 t e i z 1 ht hi1 i1 i2 .i64 .i64 n (by rw [i3]; omega) (by unfold maxLen; omega) (Nat.zero_le _)
  rw [made_list hz] at hown
  have hmax : n ≤ maxI := by unfold maxI; omega
  have hE : Ev.Ext w w' := ⟨hgr.os, hgr.tape, hgr.output, hgr.size, fun b hb => hgr.block b hb (fun e => by cases e)⟩
  obtain ⟨g', ρ', k1, k2⟩ := hsim.upd (w' := w') d ⟨hgr.os, hgr.tape, hgr.output⟩ hgr.size (fun b hb _ => hE.block b hb) (x' := .slice (some ⟨w.heap.size, 0, none⟩) n n) (o' := .arr e 1 (List.replicate n [.v z])) (fun b hb => by simp [blk] at hb; exact .inl (by omega))
    (fun M' ρ' hK _ => ⟨List.replicate n [z], ⟨by simp, by
      rw [rep_flat, List.length_replicate]
      exact hown.2⟩, ⟨by simp, fun i r v h3 h4 => by
      rw [List.getElem?_replicate] at h3 h4
      split at h3
      · rename_i hin
        rw [if_pos hin] at h4
        simp only [Option.some.injEq] at h3 h4
        subst h3 h4
        refine ⟨rfl, rfl, fun j c x h5 h6 => ?_⟩
        match j, h5, h6 with
        | 0, h5, h6 =>
          simp only [List.getElem?_cons_zero, Option.some.injEq] at h5 h6
          subst h5 h6
          exact ⟨.v _ hv, hv.one⟩
        | j + 1, h5, h6 => simp at h5
      · cases h3⟩, ⟨_, n, by rw [List.length_replicate]⟩, by rw [List.length_replicate]; exact hmax, fun b hb => by
      simp only [blk, Option.some.injEq] at hb
      subst hb
      exact .inl hsim.ext.size⟩)
  refine wpList_plain hg fun K hK => wp_upon ?_
  have e' : (execOp a.eval o).run P w = .ok (.value (.slice (some ⟨w.heap.size, 0, none⟩) n n)) w' := by
    simp only [execOp, ho, Sem.run_bind, e1, e2, hr, Result.andThen_ok, Sem.run_pure]
  rw [e']
  refine hK _ _ ((h g').out _ _ ⟨ρ', ?_⟩)
  rw [hd]
  exact k1.set hN ⟨k2, rfl⟩
end
end Go.Proofs.Ytmbaeloiepjakaa.A

set_option linter.unusedSimpArgs false
set_option linter.unusedVariables false
namespace Go.Proofs.Ytmbaeloiepjakaa.A
open Go Go.RowKit
/-! ### maps -/
/-- A map of the call's own: its block, how many entries it has at most, and what stands there. -/
def mapO {κ α : Type} (kv : κ → Value) (ok : κ → Prop) (enc : α → AV) (b n : Nat) (m : κ → Option α) : OP where
  F := fun c => c = b
  I := fun M w _ h => h = .map (some b) ∧ R.Mp kv ok (fun w v x => Rep M w (enc x) v) w b n m
  mono := fun {M M' w w' ρ h} k hb hI => ⟨hI.1, hI.2.mono (hb b rfl) fun v x hv => hv.mono k⟩
  rho := fun _ h => h
  lt := fun {M w ρ h} hI c hc => by subst hc; exact hI.2.lt
section
variable {P : Program} {N : Nat} {M0 : Nat → Prop} {w0 : Base} {ops : Array Oper} {Q : Exit → ASt → Prop} {o : Oper} {l : List Oper} {st : ASt}
theorem Al_makeMap {κ α : Type} (kv : κ → Value) (ok : κ → Prop) (enc : α → AV) {d : Nat} {t : TypeId} (ho : o.op = .makeMap t none) (hg : o.guard = none) (hd : o.dst = some d) (hN : d < N)
    (h : ∀ b g, Al P N M0 w0 ops Q l ((st.put d g (.op (mapO kv ok enc b 0 (fun _ => none)))).set d (.ow d g))) : Al P N M0 w0 ops Q (o :: l) st := by
  refine ⟨?_⟩
  rintro a w ⟨ρ, hsim⟩
  obtain ⟨g', ρ', r1, r2, r3⟩ := hsim.upd2 (w' := w.alloc (.map #[] 0)) d ⟨rfl, rfl, rfl⟩ (by simp) (fun b hb _ => heap_alloc_old w _ hb) (x' := .map (some w.heap.size)) (o' := .op (mapO kv ok enc w.heap.size 0 (fun _ => none))) (fun b hb => .inl (by have : b = w.heap.size := hb; omega))
    (fun M' ρ' hK _ => ⟨fun b hb => .inl (by have : b = w.heap.size := hb; have := hsim.ext.size; omega), rfl, R.Mp.made kv ok _ w⟩)
  refine wpList_plain hg fun K hK => wp_upon ?_
  have e : (execOp a.eval o).run P w = .ok (.value (.map (some w.heap.size))) (w.alloc (.map #[] 0)) := by
    simp only [execOp, ho, Option.map_none, Sem.run_bind, run_makeMap, Result.andThen_ok, Sem.run_pure]
  rw [e]
  refine hK _ _ ((h w.heap.size g').out _ _ ⟨ρ', ?_⟩)
  rw [hd]
  exact r1.set hN ⟨r2, rfl⟩
/-- What reads aas a datum is just one value. -/
def Only (a : AV) (x : Value) : Prop := ∀ (M : Nat → Prop) (w : World) (y : Value), Rep M w a y → y = x
theorem Only.v (x : Value) : Only (.v x) x := fun M w y h => by cases h; rfl
theorem Only.row (us : List Value) : Only (.row (us.map .v)) (.agg us.toArray) := fun M w y h => by
  cases h with
  | row cs vs hl h1 hr =>
    congr 2
    apply List.ext_getElem?
    intro j
    rw [List.length_map] at hl
    rcases Nat.lt_or_ge j us.length with hj | hj
    · have h2 := hr j (.v us[j]) (vs[j]'(by omega)) (by simp [hj]) (by simp [hl, hj])
      have : vs[j]'(by omega) = us[j] := by generalize vs[j]'(by omega) = u at h2; cases h2; rfl
      rw [List.getElem?_eq_getElem hj, List.getElem?_eq_getElem (by omega), this]
    · rw [List.getElem?_eq_none hj, List.getElem?_eq_none (by omega)]
/-- What a lookup tells. -/
def lookA {α : Type} (enc : α → AV) (z : AV) : Option α → AV
  | some x => enc x
  | none => z
theorem Pu_lookup {κ α : Type} {kv : κ → Value} {ok : κ → Prop} {enc : α → AV} {b n : Nat} {m : κ → Option α} {t kt e : TypeId} {x y : Operand} {k g : Nat} {ky z : AV} {zv : Value} {c : κ} (T : R.KeyT P kt κ kv ok) (ho : o.op = .lookup t x y false) (ht : P.underlying t = some (.map kt e)) (hz : ∀ w, (zeroValue e).run P w = .ok zv w) (hzr : ∀ M w, Rep M w z zv) (hx : st.ev x = .ow k g) (hob : st.ob k = some (g, .op (mapO kv ok enc b n m))) (hy : st.ev y = .d ky) (hky : Only ky (kv c)) (hok : ok c) : Pu P st o (.d (lookA enc z (m c))) := fun B M ρ w a hM h2 h3 hev K hK => by
  have h1 := h2 x (by simp [opsOf, ho, Op.operands])
  have h4 := h2 y (by simp [opsOf, ho, Op.operands])
  rw [hx] at h1
  rw [hy] at h4
  obtain ⟨k1, _⟩ := h1
  obtain ⟨u, hu, _, he, hmp⟩ := h3 k g _ hob
  rw [k1] at hu; cases hu
  have hyv := hky _ _ _ h4
  obtain ⟨v, hr, hv1, hv2⟩ := hmp.look T ht hz c hok false
  have e : (execOp a.eval o).run P w = .ok (.value v) w := by
    simp only [execOp, ho, he, hyv, hr, Sem.run_bind, Result.andThen_ok, Sem.run_pure, Bool.false_eq_true, if_false]
  rw [e]
  refine hK _ _ (Kn.refl _) ?_
  cases hm : m c with
  | none => rw [hv2 hm]; exact hzr M w
  | some x => exact hv1 x hm
theorem Pu_lookup2 {κ α : Type} {kv : κ → Value} {ok : κ → Prop} {enc : α → AV} {b n : Nat} {m : κ → Option α} {t kt e : TypeId} {x y : Operand} {k g : Nat} {ky z : AV} {zv : Value} {c : κ} (T : R.KeyT P kt κ kv ok) (ho : o.op = .lookup t x y true) (ht : P.underlying t = some (.map kt e)) (hz : ∀ w, (zeroValue e).run P w = .ok zv w) (hzr : ∀ M w, Rep M w z zv) (hx : st.ev x = .ow k g) (hob : st.ob k = some (g, .op (mapO kv ok enc b n m))) (hy : st.ev y = .d ky) (hky : Only ky (kv c)) (hok : ok c) : Pu P st o (.d (.tup [lookA enc z (m c), .v (.bool (m c).isSome)])) := fun B M ρ w a hM h2 h3 hev K hK => by
  have h1 := h2 x (by simp [opsOf, ho, Op.operands])
  have h4 := h2 y (by simp [opsOf, ho, Op.operands])
  rw [hx] at h1
  rw [hy] at h4
  obtain ⟨k1, _⟩ := h1
  obtain ⟨u, hu, _, he, hmp⟩ := h3 k g _ hob
  rw [k1] at hu; cases hu
  have hyv := hky _ _ _ h4
  obtain ⟨v, hr, hv1, hv2⟩ := hmp.look T ht hz c hok true
  have e : (execOp a.eval o).run P w = .ok (.value (.tuple #[v, .bool (m c).isSome])) w := by
    simp only [execOp, ho, he, hyv, hr, Sem.run_bind, Result.andThen_ok, Sem.run_pure, if_true]
  rw [e]
  refine hK _ _ (Kn.refl _) (.tup _ [v, .bool (m c).isSome] rfl fun j a x h5 h6 => ?_)
  match j, h5, h6 with
  | 0, h5, h6 =>
    simp at h5 h6
    subst h5 h6
    cases hm : m c with
    | none => rw [hv2 hm]; exact hzr M w
    | some x => exact hv1 x hm
  | 1, h5, h6 =>
    simp at h5 h6
    subst h5 h6
    exact .v _ trivial
  | j + 2, h5, _ => simp at h5
theorem look_bool (o : Option Bool) : lookA (fun x : Bool => bv x) (bv false) o = bv (o.getD false) := by cases o <;> rfl
theorem Pu_lookupB {κ : Type} {kv : κ → Value} {ok : κ → Prop} {b n : Nat} {m : κ → Option Bool} {t kt e : TypeId} {x y : Operand} {k g : Nat} {ky : AV} {c : κ} {r : Bool} (T : R.KeyT P kt κ kv ok) (ho : o.op = .lookup t x y false) (ht : P.underlying t = some (.map kt e)) (hz : ∀ w, (zeroValue e).run P w = .ok (.bool false) w) (hx : st.ev x = .ow k g) (hob : st.ob k = some (g, .op (mapO kv ok (fun x : Bool => bv x) b n m))) (hy : st.ev y = .d ky) (hky : Only ky (kv c)) (hok : ok c) (hr : (m c).getD false = r) : Pu P st o (.d (bv r)) := by
  have h := Pu_lookup (z := bv false) T ho ht hz (fun M w => .v _ trivial) hx hob hy hky hok
  rw [look_bool, hr] at h
  exact h
theorem Al_mapUpdate {κ α : Type} [DecidableEq κ] {kv : κ → Value} {ok : κ → Prop} {enc : α → AV} {b n : Nat} {m : κ → Option α} {t kt e : TypeId} {x y z : Operand} {k g : Nat} {ky : AV} {c : κ} {v : α} (T : R.KeyT P kt κ kv ok) (ho : o.op = .mapUpdate t x y z) (hg : o.guard = none) (hd : o.dst = none) (hc : conB o = true) (ht : P.underlying t = some (.map kt e)) (hn : n < maxLen) (hx : st.ev x = .ow k g) (hob : st.ob k = some (g, .op (mapO kv ok enc b n m))) (hy : st.ev y = .d ky) (hky : Only ky (kv c)) (hok : ok c) (hz : Sub (st.ev z) (.d (enc v)))
    (h : Al P N M0 w0 ops Q l (st.put k g (.op (mapO kv ok enc b (n + 1) (fun c' => if c' = c then some v else m c'))))) : Al P N M0 w0 ops Q (o :: l) st := by
  refine ⟨?_⟩
  rintro a w ⟨ρ, hsim⟩
  have hev := hsim.ev hc
  have h1 := hev x (by simp [opsOf, ho, Op.operands])
  have h4 := hev y (by simp [opsOf, ho, Op.operands])
  have h5 := hz _ _ _ _ (hev z (by simp [opsOf, ho, Op.operands]))
  rw [hx] at h1
  rw [hy] at h4
  obtain ⟨k1, _⟩ := h1
  obtain ⟨u, hu, hF, he, hmp⟩ := hsim.obj k g _ hob
  rw [k1] at hu; cases hu
  have hyv := hky _ _ _ h4
  have hb : Mt M0 ρ st.ob b := .inr ⟨k, g, _, _, hob, k1, rfl⟩
  have hkn : ∀ w', w.grownBy w' (some b) → w'.heap.size = w.heap.size → Known (Mt M0 ρ st.ob) (Mt M0 ρ st.ob) w w' := fun w' hgr _ c' hc' hm => ⟨hm, hgr.block c' hc' (fun e => hm (by simp only [Option.some.injEq] at e; exact e ▸ hb))⟩
  obtain ⟨w', hr, hmp', hgr, hsz⟩ := hmp.store T ht hn c hok (a.eval z) v (fun w' hgr hs v x hv => hv.mono (hkn w' hgr hs)) h5
  have hs2 := hsim.mod (w' := w') hob k1 ⟨hgr.os, hgr.tape, hgr.output⟩ hgr.size (fun c' hc' hne => hgr.block c' hc' (fun e => hne (by simp only [Option.some.injEq] at e; exact e))) (o' := .op (mapO kv ok enc b (n + 1) (fun c' => if c' = c then some v else m c'))) (fun M' hK hle => ⟨hF, he, hmp'.mono rfl fun v x hv => hv.mono (Known.sub hle)⟩) (fun c' hc' => hc')
  refine wpList_plain hg fun K hK => wp_upon ?_
  have e : (execOp a.eval o).run P w = .ok .skip w' := by
    simp only [execOp, ho, he, hyv, hr, Sem.run_bind, Result.andThen_ok, Sem.run_pure]
  rw [e]
  refine hK _ _ (h.out _ _ ⟨ρ, ?_⟩)
  rw [hd]
  exact hs2
theorem Al_mapDelete {κ α : Type} [DecidableEq κ] {kv : κ → Value} {ok : κ → Prop} {enc : α → AV} {b n d : Nat} {m : κ → Option α} {t kt e : TypeId} {x y : Operand} {k g : Nat} {ky : AV} {c : κ} (T : R.KeyT P kt κ kv ok) (ho : o.op = .call ⟨.builtin .delete, #[x, y], #[t, kt]⟩) (hg : o.guard = none) (hd : o.dst = some d) (hN : d < N) (hc : conB o = true) (ht : P.underlying t = some (.map kt e)) (hx : st.ev x = .ow k g) (hob : st.ob k = some (g, .op (mapO kv ok enc b n m))) (hy : st.ev y = .d ky) (hky : Only ky (kv c)) (hok : ok c)
    (h : Al P N M0 w0 ops Q l ((st.put k g (.op (mapO kv ok enc b n (fun c' => if c' = c then none else m c')))).set d .any)) : Al P N M0 w0 ops Q (o :: l) st := by
  refine ⟨?_⟩
  rintro a w ⟨ρ, hsim⟩
  have hev := hsim.ev hc
  have h1 := hev x (mem_call ho x (by simp))
  have h4 := hev y (mem_call ho y (by simp))
  rw [hx] at h1
  rw [hy] at h4
  obtain ⟨k1, _⟩ := h1
  obtain ⟨u, hu, hF, he, hmp⟩ := hsim.obj k g _ hob
  rw [k1] at hu; cases hu
  have hyv := hky _ _ _ h4
  have hb : Mt M0 ρ st.ob b := .inr ⟨k, g, _, _, hob, k1, rfl⟩
  obtain ⟨w', hr, hmp', hgr, hsz⟩ := hmp.drop T ht c hok o.type (fun w' hgr _ v x hv => hv.mono (fun c' hc' hm => ⟨hm, hgr.block c' hc' (fun e => hm (by simp only [Option.some.injEq] at e; exact e ▸ hb))⟩))
  have hs2 := hsim.mod (w' := w') hob k1 ⟨hgr.os, hgr.tape, hgr.output⟩ hgr.size (fun c' hc' hne => hgr.block c' hc' (fun e => hne (by simp only [Option.some.injEq] at e; exact e))) (o' := .op (mapO kv ok enc b n (fun c' => if c' = c then none else m c'))) (fun M' hK hle => ⟨hF, he, hmp'.mono rfl fun v x hv => hv.mono (Known.sub hle)⟩) (fun c' hc' => hc')
  refine wpList_plain hg fun K hK => wp_upon ?_
  have e : (execOp a.eval o).run P w = .ok (.value (.tuple #[])) w' := by
    simp only [execOp, ho, resolve, invoke, builtin, Sem.run_bind, Sem.run_pure, Result.andThen_ok, List.map_toArray, List.map_cons, List.map_nil, he, hyv, hr]
  rw [e]
  refine hK _ _ (h.out _ _ ⟨ρ, ?_⟩)
  rw [hd]
  exact hs2.set hN trivial
/-! ### rows whose cells are slots -/
def rowS (b : Nat) (T : TypeId) (cs : List SV) : OP where
  F := fun c => 0 < cs.length ∧ c = b
  I := fun M w ρ h => ∃ ad cap, h = .slice ad cs.length cap ∧ cs.length ≤ maxI ∧ (0 < cs.length → ad = some ⟨b, 0, none⟩ ∧ ∃ vs, w.heap[b]? = some (.cells vs T (0, 0)) ∧ vs.size = cap ∧ cs.length ≤ cap ∧ cap ≤ maxLen ∧ ∀ (j : Nat) (s : SV) (x : Value), cs[j]? = some s → vs[j]? = some x → SRep M w ρ s x ∧ x.oneCell' = true)
  mono := fun {M M' w w' ρ h} k hb ⟨ad, cap, h1, h2, h3⟩ => ⟨ad, cap, h1, h2, fun hp => by
    obtain ⟨h4, vs, h5, h6, h7, h8, h9⟩ := h3 hp
    exact ⟨h4, vs, by rw [hb b ⟨hp, rfl⟩]; exact h5, h6, h7, h8, fun j s x hj hx => ⟨(h9 j s x hj hx).1.mono k, (h9 j s x hj hx).2⟩⟩⟩
  rho := fun {M w ρ ρ' h} hr ⟨ad, cap, h1, h2, h3⟩ => ⟨ad, cap, h1, h2, fun hp => by
    obtain ⟨h4, vs, h5, h6, h7, h8, h9⟩ := h3 hp
    exact ⟨h4, vs, h5, h6, h7, h8, fun j s x hj hx => ⟨(h9 j s x hj hx).1.rho hr, (h9 j s x hj hx).2⟩⟩⟩
  lt := fun {M w ρ h} ⟨ad, cap, h1, h2, h3⟩ c ⟨hp, hc⟩ => by
    subst hc
    obtain ⟨h4, vs, h5, _⟩ := h3 hp
    exact (Array.getElem?_eq_some_iff.1 h5).1
/-- A row of one cell each, told by its cells. -/
theorem le_toRow {k g : Nat} {T : TypeId} {aas : List AV} (hob : st.ob k = some (g, .arr T 1 (aas.map fun a => [a]))) {X : Act → World → Prop} (h : ∀ b, ∀ a w, Sim N M0 w0 (st.put k g (.op (rowS b T (aas.map .d)))) a w → X a w) : ∀ a w, Sim N M0 w0 st a w → X a w := by
  rintro a w ⟨ρ, hsim⟩
  obtain ⟨u, hu, hO⟩ := hsim.obj k g _ hob
  obtain ⟨ad, c, he, hrc, hcm, hbb⟩ := hO.form
  rw [List.length_map] at he hrc
  have hmi : aas.length ≤ maxI := by simp only [maxI, maxLen] at *; omega
  by_cases hp : 0 < aas.length
  · obtain ⟨b, rfl⟩ := hbb (by omega)
    refine h b a w ⟨ρ, hsim.mod (w' := w) hob hu ⟨rfl, rfl, rfl⟩ (Nat.le_refl _) (fun _ _ _ => rfl) (o' := .op (rowS b T (aas.map .d))) (fun M' hK hle => ?_) (fun c' hc' => by rw [he]; simp [blk]; exact hc'.2.symm)⟩
    have hO' := hO.mono hK fun _ _ => rfl
    rw [he] at hO'
    obtain ⟨cap, cur, vals, he2, hgb, hnc, hcp, hsz, htk, hrw, hl, hlb⟩ := arr_at hO' (b := b) rfl
    rw [List.length_map] at he2 hnc htk
    have hcc : cap = c := by cases he2; rfl
    subst hcc
    refine ⟨fun c' hc' => by rw [hc'.2]; exact hlb, some ⟨b, 0, none⟩, cap, by rw [he, List.length_map], by rw [List.length_map]; exact hmi, fun _ => ⟨rfl, cur, hgb, by omega, by rw [List.length_map]; exact hnc, hcp, fun j s x hj hx => ?_⟩⟩
    rw [List.getElem?_map] at hj
    obtain ⟨y, hy, rfl⟩ := Option.map_eq_some_iff.1 hj
    have hjl := (List.getElem?_eq_some_iff.1 hy).1
    have hfl : ((aas.map fun a => [a]).flatten)[j]? = some y := by
      have e := flat_at (n := 1) (rows := aas.map fun a => [a]) (fun q hq => by obtain ⟨_, _, rfl⟩ := List.mem_map.1 hq; rfl) (i := j) (j := 0) (by omega)
      rw [Nat.mul_one, Nat.add_zero] at e
      rw [e, List.getElem?_map, hy]; rfl
    obtain ⟨z, m1, m2, m3⟩ := rows_flat hrw hfl
    rw [← htk, List.getElem?_take, if_pos (by omega)] at m1
    have : cur[j]? = some z := by simpa using m1
    rw [hx] at this; cases this
    exact ⟨m2, m3⟩
  · have h0 : aas = [] := List.eq_nil_of_length_eq_zero (by omega)
    subst h0
    refine h 0 a w ⟨ρ, hsim.mod (w' := w) hob hu ⟨rfl, rfl, rfl⟩ (Nat.le_refl _) (fun _ _ _ => rfl) (o' := .op (rowS 0 T [])) (fun M' hK hle => ⟨fun c' hc' => absurd hc'.1 (by simp), ad, c, by rw [he]; rfl, by simp, fun hp => absurd hp (by simp)⟩) (fun c' hc' => absurd hc'.1 (by simp))⟩
theorem Al_toRow {k g : Nat} {T : TypeId} {aas : List AV} (hob : st.ob k = some (g, .arr T 1 (aas.map fun a => [a]))) (h : ∀ b, Al P N M0 w0 ops Q l (st.put k g (.op (rowS b T (aas.map .d))))) : Al P N M0 w0 ops Q l st := ⟨le_toRow hob fun b => (h b).out⟩
theorem Aw_toRow {c : Code} {k g : Nat} {T : TypeId} {aas : List AV} (hob : st.ob k = some (g, .arr T 1 (aas.map fun a => [a]))) (h : ∀ b, Aw P N M0 w0 c Q (st.put k g (.op (rowS b T (aas.map .d))))) : Aw P N M0 w0 c Q st := ⟨le_toRow hob fun b => (h b).out⟩
/-- An object of the call's own, told as data from here on. -/
theorem SimR.frzG {ρ : Rho} {a : Act} {w : World} (h : SimR N M0 w0 st ρ a w) {k g : Nat} {o : AO} (d : AV) (hnl : ∀ b, ¬ w0.l b) (is : List Nat) (hob : st.ob k = some (g, o)) (his : AllOw st k g is) (hrd : ∀ M' v, Known (Mt M0 ρ st.ob) M' w w → (∀ b, fpO o v b → ¬ M' b) → ORep w0 (Mt M0 ρ st.ob) w ρ v o → Rep M' w d v) : SimR N M0 w0 (st.frz k is d) ρ a w := by
  have hob' : ∀ j g' o', (st.frz k is d).ob j = some (g', o') → j ≠ k ∧ st.ob j = some (g', o') := fun j g' o' hh => by
    have : (bif Nat.beq j k then none else st.ob j) = some (g', o') := hh
    cases hb : Nat.beq j k with
    | true => rw [hb] at this; cases this
    | false =>
      rw [hb] at this
      exact ⟨fun e => by subst e; simp at hb, this⟩
  have hk : Known (Mt M0 ρ st.ob) (Mt M0 ρ (st.frz k is d).ob) w w := fun b _ hb => ⟨fun hm => hb (hm.imp id fun ⟨k', g', o', x, h1, h2, h3⟩ => ⟨k', g', o', x, (hob' _ _ _ h1).2, h2, h3⟩), rfl⟩
  obtain ⟨v, hv, hO⟩ := h.obj k g _ hob
  have hrep : Rep (Mt M0 ρ (st.frz k is d).ob) w d v := hrd _ v hk (fun b hb hm => by
    rcases hm with hm | ⟨k', g', o', x, h1, h2, h3⟩
    · have := h.base b hm
      rcases (hO.blk_lt hb).1 with h4 | h4
      · omega
      · exact hnl b h4
    · obtain ⟨h4, h5⟩ := hob' _ _ _ h1
      exact h4 (h.apart k' g' o' k g _ x v b h5 hob h2 hv h3 hb)) hO
  exact {
    size := h.size
    defers := h.defers
    slot := fun i => by
      show SRep _ _ _ (bif is.contains i then .d d else st.sl i) _
      by_cases hi : i ∈ is
      · have e : is.contains i = true := by simpa using hi
        rw [e]
        have h1 := h.slot i
        rw [his.get i hi] at h1
        have h2 : a.tmps.getD i undef = v := by
          have := h1.1
          rw [hv] at this
          exact (Option.some.inj this).symm
        rw [h2]
        exact hrep
      · have e : is.contains i = false := by simpa using hi
        rw [e]
        exact (h.slot i).mono hk
    obj := fun k' g' o' hh => by
      obtain ⟨x, h1, h2⟩ := h.obj k' g' o' (hob' _ _ _ hh).2
      exact ⟨x, h1, h2.mono hk fun _ _ => rfl⟩
    apart := fun k1 g1 o1 k2 g2 o2 x x' b h1 h2 => h.apart k1 g1 o1 k2 g2 o2 x x' b (hob' _ _ _ h1).2 (hob' _ _ _ h2).2
    gens := h.gens
    base := h.base
    ext := h.ext
    pin := h.pin }
theorem le_frzRow {k g b : Nat} {T : TypeId} {aas : List AV} (hnl : ∀ b, ¬ w0.l b) (is : List Nat) (hob : st.ob k = some (g, .op (rowS b T (aas.map .d)))) (his : AllOw st k g is) : Le N M0 w0 st (st.frz k is (.sl 1 (aas.map fun a => [a]))) := fun a w ⟨ρ, h⟩ => ⟨ρ, h.frzG _ hnl is hob his fun M' v hK hM hO => by
  obtain ⟨hF, ad, cap, rfl, hmi, h3⟩ := hO
  by_cases hp : 0 < aas.length
  · obtain ⟨rfl, vs, h5, h6, h7, h8, h9⟩ := h3 (by simpa using hp)
    rw [List.length_map] at h7 hmi
    have hb : ¬ M' b := hM b ⟨by simpa using hp, rfl⟩
    rw [List.length_map, ← List.length_map (f := fun a : AV => [a])]
    have hcell : ∀ j, j < aas.length → ∃ x, vs[j]? = some x := fun j hj => ⟨vs[j]'(by omega), by rw [Array.getElem?_eq_getElem (by omega)]⟩
    refine .sl 1 (aas.map fun a => [a]) b 0 cap (fun i _ => (vs[i]?).getD undef) (by simpa using hmi) (by simpa using h7) (fun i r hi => ?_) (fun i r j x hi hx => ?_) (fun i r j x hi hx => ?_)
    · rw [List.getElem?_map] at hi
      obtain ⟨y, _, rfl⟩ := Option.map_eq_some_iff.1 hi
      rfl
    all_goals
      rw [List.getElem?_map] at hi
      obtain ⟨y, hy, rfl⟩ := Option.map_eq_some_iff.1 hi
      match j, hx with
      | 0, hx =>
        simp only [List.getElem?_cons_zero, Option.some.injEq] at hx
        subst hx
        obtain ⟨u, hu⟩ := hcell i (List.getElem?_eq_some_iff.1 hy).1
        have h10 := h9 i (.d y) u (by rw [List.getElem?_map, hy]; rfl) hu
        first
        | exact ⟨hb, by rw [show (0 : Nat) + i * 1 + 0 = i by omega]; exact (cell_of_row w b i vs T (0, 0) h5).trans (by rw [hu]; rfl), by rw [hu]; exact h10.2⟩
        | (rw [hu]; exact (show Rep _ w y u from h10.1).mono hK)
      | j + 1, hx => simp at hx
  · have h0 : aas = [] := List.eq_nil_of_length_eq_zero (by omega)
    subst h0
    exact .nil 1 _ _⟩
theorem Aw_frzRow {c : Code} {k g b : Nat} {T : TypeId} {aas : List AV} (hnl : ∀ b, ¬ w0.l b) (is : List Nat) (hob : st.ob k = some (g, .op (rowS b T (aas.map .d)))) (his : AllOw st k g is) (h : Aw P N M0 w0 c Q (st.frz k is (.sl 1 (aas.map fun a => [a])))) : Aw P N M0 w0 c Q st := Aw_le (le_frzRow hnl is hob his) h
/-- A row of the call's own that lies in a cell of such a row, told as data. -/
theorem le_frzS {k g kb gb b : Nat} (j : Nat) {T Tb : TypeId} {n : Nat} {rows : List (List AV)} {cs : List SV} (hnl : ∀ b, ¬ w0.l b) (is : List Nat) (hob : st.ob k = some (g, .arr T n rows)) (hkk : Nat.beq kb k = false) (hobb : st.ob kb = some (gb, .op (rowS b Tb cs))) (hj : cs[j]? = some (.ow k g)) (his : AllOw st k g is) : Le N M0 w0 st ((st.frz k is (.sl n rows)).put kb gb (.op (rowS b Tb (cs.set j (.d (.sl n rows)))))) := by
  rintro a w ⟨ρ, hs⟩
  obtain ⟨h1, v, hv, hr⟩ := hs.frz (fun _ b _ _ => hnl b) is hob his
  have hob' : (st.frz k is (.sl n rows)).ob kb = some (gb, .op (rowS b Tb cs)) := by
    show (bif Nat.beq kb k then none else st.ob kb) = _
    rw [hkk]; exact hobb
  obtain ⟨y, hy, hF, ad, cap, rfl, hmi, h3⟩ := h1.obj kb gb _ hob'
  refine ⟨ρ, h1.mod hob' hy ⟨rfl, rfl, rfl⟩ (Nat.le_refl _) (fun _ _ _ => rfl) (fun M' hK _ => ⟨fun c hc => hF c ⟨by have := hc.1; rwa [List.length_set] at this, hc.2⟩, ad, cap, by rw [List.length_set], by rw [List.length_set]; exact hmi, fun hp => ?_⟩) (fun c hc => ⟨by have := hc.1; rwa [List.length_set] at this, hc.2⟩)⟩
  rw [List.length_set] at hp
  obtain ⟨h4, vs, h5, h6, h7, h8, h9⟩ := h3 hp
  refine ⟨h4, vs, h5, h6, by rw [List.length_set]; exact h7, h8, fun i q z hq hz => ?_⟩
  rw [List.getElem?_set] at hq
  by_cases e : j = i
  · subst e
    rw [if_pos rfl] at hq
    split at hq
    · simp only [Option.some.injEq] at hq
      subst hq
      have h10 := h9 j _ z hj hz
      have h11 := h10.1.1
      rw [hv] at h11; cases h11
      exact ⟨hr.mono hK, h10.2⟩
    · cases hq
  · rw [if_neg e] at hq
    exact ⟨(h9 i q z hq hz).1.mono hK, (h9 i q z hq hz).2⟩
theorem Al_frzS {k g kb gb b : Nat} (j : Nat) {T Tb : TypeId} {n : Nat} {rows : List (List AV)} {cs : List SV} (hnl : ∀ b, ¬ w0.l b) (is : List Nat) (hob : st.ob k = some (g, .arr T n rows)) (hkk : Nat.beq kb k = false) (hobb : st.ob kb = some (gb, .op (rowS b Tb cs))) (hj : cs[j]? = some (.ow k g)) (his : AllOw st k g is) (h : Al P N M0 w0 ops Q l ((st.frz k is (.sl n rows)).put kb gb (.op (rowS b Tb (cs.set j (.d (.sl n rows))))))) : Al P N M0 w0 ops Q l st := Al_le (le_frzS j hnl is hob hkk hobb hj his) h
/-- A cell of such a row. -/
theorem Pu_indexRow {t e T : TypeId} {x i : Operand} {k g b j : Nat} {z : Int} {cs : List SV} (ho : o.op = .indexAddr t x i) (ht : P.underlying t = some (.slice e)) (hz : ∀ w, (sizeOf e).run P w = .ok 1 w) (hx : st.ev x = .ow k g) (hi : st.ev i = .d (.v (.int .i64 z))) (hob : st.ob k = some (g, .op (rowS b T cs))) (hk : z = j) (hj : j < cs.length) : Pu P st o (.bx k g j) := Pu_q fun B M ρ w a h2 h3 => by
  have m : x ∈ opsOf o ∧ i ∈ opsOf o := by simp [opsOf, ho, Op.operands]
  obtain ⟨e2, _⟩ := ev_v h2 m.2 hi
  have hm := h2 x m.1
  rw [hx] at hm
  obtain ⟨k1, _⟩ := hm
  obtain ⟨u, hu, hF, ad, cap, he, hmi, h5⟩ := h3 k g _ hob
  rw [k1] at hu; cases hu
  obtain ⟨rfl, vs, _⟩ := h5 (by omega)
  subst hk
  refine ⟨.pointer (some ⟨b, j, none⟩), ?_, _, b, k1, by rw [he]; rfl, rfl⟩
  simp only [execOp, ho, he, e2, Instr.indexAt, Instr.sureAddr, Sem.run_bind, asIntOf, Sem.run_pure, Result.andThen_ok, run_underlying ht]
  rw [if_pos ⟨by omega, by omega⟩]
  simp only [Sem.run_bind, hz, Result.andThen_ok, Int.toNat_natCast, add_addr, Sem.run_pure, Nat.zero_add, Nat.mul_one]
theorem Pu_lenRow {x : Operand} {t e T : TypeId} {k g b m : Nat} {cs : List SV} (ho : o.op = .call ⟨.builtin .len, #[x], #[t]⟩) (ht : P.underlying t = some (.slice e)) (hx : st.ev x = .ow k g) (hob : st.ob k = some (g, .op (rowS b T cs))) (hm : cs.length = m) : Pu P st o (.d (.v (.int .i64 m))) := Pu_q fun B M ρ w a h2 h3 => by
  have h1 := h2 x (mem_call ho x (by simp))
  rw [hx] at h1
  obtain ⟨k1, _⟩ := h1
  obtain ⟨u, hu, hF, ad, cap, he, hmi, h5⟩ := h3 k g _ hob
  rw [k1] at hu; cases hu
  subst hm
  refine ⟨.int .i64 cs.length, ?_, .v _ (show inI _ by simp only [inI, maxI] at *; omega)⟩
  simp only [execOp, ho, resolve, invoke, builtin, Sem.run_bind, Sem.run_pure, Result.andThen_ok, List.map_toArray, List.map_cons, List.map_nil, he, Builtin.len_]
  simp [run_underlying ht, goInt, Result.andThen]
theorem Pu_loadRow {t T : TypeId} {x : Operand} {k g b j : Nat} {cs : List SV} {s : SV} (ho : o.op = .load t x) (ht : ∀ w, (isAgg t).run P w = .ok false w) (hx : st.ev x = .bx k g j) (hob : st.ob k = some (g, .op (rowS b T cs))) (hs : cs[j]? = some s) : Pu P st o s := Pu_q fun B M ρ w a h2 h3 => by
  have hm := h2 x (by simp [opsOf, ho, Op.operands])
  rw [hx] at hm
  obtain ⟨y, b', h4, h5, h6⟩ := hm
  obtain ⟨y', h7, hF, ad, cap, he, hmi, h8⟩ := h3 k g _ hob
  rw [h4] at h7; cases h7
  have hjl := (List.getElem?_eq_some_iff.1 hs).1
  obtain ⟨rfl, vs, hg, hsz, hnc, hcm, h9⟩ := h8 (by omega)
  rw [he] at h5
  simp only [blk, Option.some.injEq] at h5
  subst h5
  have hv : vs[j]? = some (vs[j]'(by omega)) := Array.getElem?_eq_getElem _
  have hc : w.cell? ⟨b, j, none⟩ = some (vs[j]'(by omega)) := by simp [World.cell?, hg, hv]
  refine ⟨vs[j]'(by omega), ?_, (h9 j s _ hs hv).1⟩
  simp [execOp, ho, h6, Instr.loadAt, Instr.sureAddr, loadVar, ht, load, Sem.run, hc, Sem.run_bind]
theorem Al_storeRow {t T : TypeId} {x y : Operand} {k g b j : Nat} {cs : List SV} {s : SV} (ho : o.op = .store t x y) (hg : o.guard = none) (hd : o.dst = none) (hc : conB o = true) (hz : ∀ w, (sizeOf t).run P w = .ok 1 w) (hx : st.ev x = .bx k g j) (hob : st.ob k = some (g, .op (rowS b T cs))) (hj : j < cs.length) (hy : st.ev y = s) (hs : scell s = true)
    (h : Al P N M0 w0 ops Q l (st.put k g (.op (rowS b T (cs.set j s))))) : Al P N M0 w0 ops Q (o :: l) st := by
  refine ⟨?_⟩
  rintro a w ⟨ρ, hsim⟩
  have hmem : x ∈ opsOf o ∧ y ∈ opsOf o := by simp [opsOf, ho, Op.operands]
  have hmx := hsim.ev hc x hmem.1
  have hmy := hsim.ev hc y hmem.2
  rw [hx] at hmx
  rw [hy] at hmy
  obtain ⟨u, b', h4, h5, h6⟩ := hmx
  obtain ⟨u', h7, hF, ad, cap, rfl, hmi, h8⟩ := hsim.obj k g _ hob
  rw [h4] at h7; cases h7
  obtain ⟨rfl, vs, hgb, hsz, hnc, hcm, h11⟩ := h8 (by omega)
  simp only [blk, Option.some.injEq] at h5
  subst h5
  have hlt : j < vs.size := by omega
  have hone := hmy.one hs
  have hc1 : w.cell? ⟨b, j, none⟩ = some vs[j] := by simp [World.cell?, hgb, hlt]
  have hfz : w.frozen? ⟨b, j, none⟩ = false := by simp [World.frozen?, hgb]
  have hnew : (w.setCell ⟨b, j, none⟩ (a.eval y)).heap[b]? = some (.cells (vs.setIfInBounds j (a.eval y)) T (0, 0)) := by simp [World.setCell, Array.getElem?_modify, hgb]
  have hs2 := hsim.mod (w' := w.setCell ⟨b, j, none⟩ (a.eval y)) hob h4 ⟨rfl, rfl, rfl⟩ (by simp [World.setCell]) (fun c hb hne => Below.heap_setCell _ _ _ _ (fun e => hne ⟨by omega, e⟩)) (o' := .op (rowS b T (cs.set j s))) (fun M' hK _ => ⟨fun c hc' => hF c ⟨by have := hc'.1; rwa [List.length_set] at this, hc'.2⟩, _, cap, by rw [List.length_set], by rw [List.length_set]; exact hmi, fun _ => ⟨rfl, _, hnew, by simp [hsz], by rw [List.length_set]; exact hnc, hcm, fun i s' z h12 h13 => by
    rw [List.getElem?_set] at h12
    rw [Array.getElem?_setIfInBounds] at h13
    by_cases e : j = i
    · subst e
      rw [if_pos rfl, if_pos (by omega)] at h12
      rw [if_pos rfl, if_pos hlt] at h13
      simp only [Option.some.injEq] at h12 h13
      subst h12 h13
      exact ⟨hmy.mono hK, hone⟩
    · rw [if_neg e] at h12
      rw [if_neg e] at h13
      exact ⟨(h11 i s' z h12 h13).1.mono hK, (h11 i s' z h12 h13).2⟩⟩⟩) (fun c hc' => ⟨by have := hc'.1; rwa [List.length_set] at this, hc'.2⟩)
  refine wpList_plain hg fun K hK => wp_upon ?_
  have e : (execOp a.eval o).run P w = .ok .skip (w.setCell ⟨b, j, none⟩ (a.eval y)) := by
    have hst : (store (⟨b, j, none⟩ : Addr) (a.eval y)).run P w = .ok () (w.setCell ⟨b, j, none⟩ (a.eval y)) := by
      generalize a.eval y = z at hone
      cases z <;> simp_all [store, Sem.run, Value.oneCell']
    simp only [execOp, ho, h6, Instr.storeAt, Instr.sureAddr, storeVar, Sem.run_bind, Sem.run_pure, Result.andThen_ok, hz, one_cells hone]
    simp [storeCells, Sem.run_bind, Addr.add, hst]
  rw [e]
  refine hK _ _ (h.out _ _ ⟨ρ, ?_⟩)
  rw [hd]
  exact hs2
theorem mapeq {κ α : Type} {kv : κ → Value} {ok : κ → Prop} {enc : α → AV} {g b n n' : Nat} {m m' : κ → Option α} (hn : n = n') (h : m = m') : some (g, AO.op (mapO kv ok enc b n m)) = some (g, AO.op (mapO kv ok enc b n' m')) := by rw [hn, h]
theorem roweq {g b : Nat} {T : TypeId} {cs cs' : List SV} (h : cs = cs') : some (g, AO.op (rowS b T cs)) = some (g, AO.op (rowS b T cs')) := by rw [h]
theorem SubL.refl : ∀ (cs : List SV), SubL cs cs
  | [] => trivial
  | _ :: r => ⟨Sub.rfl, SubL.refl r⟩
theorem SubL.of {cs cs' : List SV} (hl : cs.length = cs'.length) (h : ∀ (j : Nat) (s s' : SV), cs[j]? = some s → cs'[j]? = some s' → Sub s s') : SubL cs cs' := by
  induction cs generalizing cs' with
  | nil => cases cs' with
    | nil => trivial
    | cons => simp at hl
  | cons x r ih => cases cs' with
    | nil => simp at hl
    | cons y r' => exact ⟨h 0 x y rfl rfl, ih (by simpa using hl) fun j s s' h1 h2 => h (j + 1) s s' (by simpa using h1) (by simpa using h2)⟩
/-- Such a row, of which less is told. -/
theorem le_rowLe {k g b : Nat} {T : TypeId} {cs : List SV} (cs' : List SV) (hob : st.ob k = some (g, .op (rowS b T cs))) (h : SubL cs cs') : Le N M0 w0 st (st.put k g (.op (rowS b T cs'))) := by
  rintro a w ⟨ρ, hs⟩
  obtain ⟨h1, h2⟩ := h.get
  obtain ⟨y, hy, hF, ad, cap, rfl, hmi, h3⟩ := hs.obj k g _ hob
  refine ⟨ρ, hs.mod hob hy ⟨rfl, rfl, rfl⟩ (Nat.le_refl _) (fun _ _ _ => rfl) (fun M' hK _ => ⟨fun c hc => hF c ⟨by rw [h1]; exact hc.1, hc.2⟩, ad, cap, by rw [h1], by rw [← h1]; exact hmi, fun hp => ?_⟩) (fun c hc => ⟨by rw [h1]; exact hc.1, hc.2⟩)⟩
  obtain ⟨h4, vs, h5, h6, h7, h8, h9⟩ := h3 (by rw [h1]; exact hp)
  refine ⟨h4, vs, h5, h6, by rw [← h1]; exact h7, h8, fun i q z hq hz => ?_⟩
  obtain ⟨s0, hs0, hsub⟩ := h2 i q hq
  have h10 := h9 i s0 z hs0 hz
  exact ⟨hsub _ _ _ _ (h10.1.mono hK), h10.2⟩
theorem Aw_rowLe {c : Code} {k g b : Nat} {T : TypeId} {cs : List SV} (cs' : List SV) (hob : st.ob k = some (g, .op (rowS b T cs))) (h : SubL cs cs') (hc : Aw P N M0 w0 c Q (st.put k g (.op (rowS b T cs')))) : Aw P N M0 w0 c Q st := Aw_le (le_rowLe cs' hob h) hc
theorem Aw_frzS {c : Code} {k g kb gb b : Nat} (j : Nat) {T Tb : TypeId} {n : Nat} {rows : List (List AV)} {cs : List SV} (hnl : ∀ b, ¬ w0.l b) (is : List Nat) (hob : st.ob k = some (g, .arr T n rows)) (hkk : Nat.beq kb k = false) (hobb : st.ob kb = some (gb, .op (rowS b Tb cs))) (hj : cs[j]? = some (.ow k g)) (his : AllOw st k g is) (h : Aw P N M0 w0 c Q ((st.frz k is (.sl n rows)).put kb gb (.op (rowS b Tb (cs.set j (.d (.sl n rows))))))) : Aw P N M0 w0 c Q st := Aw_le (le_frzS j hnl is hob hkk hobb hj his) h
end
end Go.Proofs.Ytmbaeloiepjakaa.A
