/- Abstract states: what is written (rows that grow, variables of the call's own); conversions, comparisons, parts of texts and slices. -/
import Derived.Test.YtmbaeloiepjakaaAA
set_option linter.unusedSimpArgs false
set_option linter.unusedVariables false
namespace Go.Proofs.Ytmbaeloiepjakaa.A
open Go Go.RowKit
theorem ORep.rho {B : Base} {M : Nat → Prop} {w : World} {ρ ρ' : Rho} (hr : RhoLe ρ ρ') {h : Value} {o : AO} (r : ORep B M w ρ h o) : ORep B M w ρ' h o := by
  cases o with
  | box T cs =>
    obtain ⟨b, vs, h0, h1, h2, h3, h4⟩ := r
    exact ⟨b, vs, h0, h1, h2, h3, fun j s x hs hx => ⟨(h4 j s x hs hx).1.rho hr, (h4 j s x hs hx).2⟩⟩
  | arr T n rows => exact r
  | op I => exact ⟨r.1, I.rho hr r.2⟩
/-- One object of the call's own is made, or turned. -/
theorem SimR.upd2 {N : Nat} {M0 : Nat → Prop} {w0 : Base} {st : ASt} {ρ : Rho} {a : Act} {w w' : World} (h : SimR N M0 w0 st ρ a w) (k : Nat) (hos : w'.os = w.os ∧ w'.tape = w.tape ∧ w'.output = w.output) (hsz : w.heap.size ≤ w'.heap.size)
    (hold : ∀ b, b < w.heap.size → (∀ g o x, st.ob k = some (g, o) → ρ k g = some x → ¬ fpO o x b) → w'.heap[b]? = w.heap[b]?) {x' : Value} {o' : AO}
    (hnew : ∀ b, fpO o' x' b → w.heap.size ≤ b ∨ ∃ g o x, st.ob k = some (g, o) ∧ ρ k g = some x ∧ fpO o x b)
    (hO : ∀ M' ρ', Known (Mt M0 ρ st.ob) M' w w' → RhoLe ρ ρ' → ORep w0 M' w' ρ' x' o') :
    ∃ g' ρ', SimR N M0 w0 (st.put k g' o') ρ' a w' ∧ ρ' k g' = some x' ∧ RhoLe ρ ρ' := by
  obtain ⟨G, hG⟩ := h.gens
  let ρ' : Rho := fun k2 g2 => if k2 = k ∧ g2 = G then some x' else ρ k2 g2
  have hne : ∀ k2 g2 x, ρ k2 g2 = some x → ¬ (k2 = k ∧ g2 = G) := fun k2 g2 x hx e => by
    have := hG k2 g2 (by rw [hx]; simp)
    omega
  have hle : RhoLe ρ ρ' := fun k2 g2 x hx => by
    show (if k2 = k ∧ g2 = G then some x' else ρ k2 g2) = some x
    rw [if_neg (hne k2 g2 x hx)]; exact hx
  have hself : ρ' k G = some x' := by show (if k = k ∧ G = G then some x' else _) = _; rw [if_pos ⟨rfl, rfl⟩]
  have hob : ∀ k2 g2 o2, (st.put k G o').ob k2 = some (g2, o2) → (k2 = k ∧ g2 = G ∧ o2 = o') ∨ (k2 ≠ k ∧ st.ob k2 = some (g2, o2)) := fun k2 g2 o2 hh => by
    have : (bif Nat.beq k2 k then some (G, o') else st.ob k2) = some (g2, o2) := hh
    cases hb : Nat.beq k2 k with
    | true =>
      rw [hb] at this
      simp only [cond_true, Option.some.injEq, Prod.mk.injEq] at this
      exact .inl ⟨Nat.eq_of_beq_eq_true hb, this.1.symm, this.2.symm⟩
    | false =>
      rw [hb] at this
      refine .inr ⟨fun e => ?_, this⟩
      subst e
      simp at hb
  have hρ2 : ∀ k2 g2 x, k2 ≠ k → ρ' k2 g2 = some x → ρ k2 g2 = some x := fun k2 g2 x hn hx => by
    have : (if k2 = k ∧ g2 = G then some x' else ρ k2 g2) = some x := hx
    rwa [if_neg (fun e => hn e.1)] at this
  have hK : Known (Mt M0 ρ st.ob) (Mt M0 ρ' (st.put k G o').ob) w w' := fun b hb hm => by
    refine ⟨fun hm' => ?_, hold b hb fun g o x h1 h2 h3 => hm (.inr ⟨k, g, o, x, h1, h2, h3⟩)⟩
    rcases hm' with hm' | ⟨k2, g2, o2, x2, h1, h2, h3⟩
    · exact hm (.inl hm')
    · rcases hob k2 g2 o2 h1 with ⟨rfl, rfl, rfl⟩ | ⟨hn, h1'⟩
      · rw [hself] at h2; cases h2
        rcases hnew b h3 with h4 | ⟨g, o, x, h4, h5, h6⟩
        · omega
        · exact hm (.inr ⟨k2, g, o, x, h4, h5, h6⟩)
      · exact hm (.inr ⟨k2, g2, o2, x2, h1', hρ2 _ _ _ hn h2, h3⟩)
  have hbase : ∀ b, M0 b → b < w0.w.heap.size := h.base
  refine ⟨G, ρ', {
    size := h.size
    defers := h.defers
    slot := fun i => ((h.slot i).mono hK).rho hle
    obj := fun k2 g2 o2 hh => by
      rcases hob k2 g2 o2 hh with ⟨rfl, rfl, rfl⟩ | ⟨hn, h1⟩
      · exact ⟨x', hself, hO _ _ hK hle⟩
      · obtain ⟨x, h2, h3⟩ := h.obj k2 g2 o2 h1
        refine ⟨x, hle _ _ _ h2, (h3.mono hK fun b hb => hold b (h3.blk_lt hb).2 fun g o y h4 h5 h6 => ?_).rho hle⟩
        exact hn (h.apart k2 g2 o2 k g o x y b h1 h4 h2 h5 hb h6)
    apart := fun k1 g1 o1 k2 g2 o2 x1 x2 b h1 h2 h3 h4 h5 h6 => by
      rcases hob k1 g1 o1 h1 with ⟨rfl, rfl, rfl⟩ | ⟨hn1, h1'⟩
      · rcases hob k2 g2 o2 h2 with ⟨rfl, rfl, rfl⟩ | ⟨hn2, h2'⟩
        · rfl
        · exfalso
          rw [hself] at h3; cases h3
          have h4' := hρ2 _ _ _ hn2 h4
          rcases hnew b h5 with h7 | ⟨g, o, x, h7, h8, h9⟩
          · obtain ⟨y, h8, h9⟩ := h.obj k2 g2 o2 h2'
            rw [h4'] at h8; cases h8
            have := (h9.blk_lt h6).2
            omega
          · exact hn2 (h.apart k2 g2 o2 k1 g o x2 x b h2' h7 h4' h8 h6 h9)
      · rcases hob k2 g2 o2 h2 with ⟨rfl, rfl, rfl⟩ | ⟨hn2, h2'⟩
        · exfalso
          rw [hself] at h4; cases h4
          have h3' := hρ2 _ _ _ hn1 h3
          rcases hnew b h6 with h7 | ⟨g, o, x, h7, h8, h9⟩
          · obtain ⟨y, h8, h9⟩ := h.obj k1 g1 o1 h1'
            rw [h3'] at h8; cases h8
            have := (h9.blk_lt h5).2
            omega
          · exact hn1 (h.apart k1 g1 o1 k2 g o x1 x b h1' h7 h3' h8 h5 h9)
        · exact h.apart k1 g1 o1 k2 g2 o2 x1 x2 b h1' h2' (hρ2 _ _ _ hn1 h3) (hρ2 _ _ _ hn2 h4) h5 h6
    gens := ⟨G + 1, fun k2 g2 hh => by
      by_cases e : k2 = k ∧ g2 = G
      · omega
      · have : ρ k2 g2 ≠ none := by
          have h7 : (if k2 = k ∧ g2 = G then some x' else ρ k2 g2) ≠ none := hh
          rwa [if_neg e] at h7
        have := hG k2 g2 this
        omega⟩
    base := h.base
    ext := by
      have h1 := h.ext
      refine ⟨hos.1.trans h1.os, hos.2.1.trans h1.tape, hos.2.2.trans h1.output, Nat.le_trans h1.size hsz, fun b hb hl => ?_⟩
      rw [hold b (Nat.lt_of_lt_of_le hb h1.size) fun g o x h2 h3 h4 => ?_]
      · exact h1.block b hb hl
      · obtain ⟨y, h5, h6⟩ := h.obj k g o h2
        rw [h3] at h5; cases h5
        rcases (h6.blk_lt h4).1 with h7 | h7
        · omega
        · exact hl h7
    pin := fun k2 g2 v hv => hle _ _ _ (h.pin k2 g2 v hv) }, hself, hle⟩
theorem SimR.upd {N : Nat} {M0 : Nat → Prop} {w0 : Base} {st : ASt} {ρ : Rho} {a : Act} {w w' : World} (h : SimR N M0 w0 st ρ a w) (k : Nat) (hos : w'.os = w.os ∧ w'.tape = w.tape ∧ w'.output = w.output) (hsz : w.heap.size ≤ w'.heap.size)
    (hold : ∀ b, b < w.heap.size → (∀ g o x, st.ob k = some (g, o) → ρ k g = some x → ¬ fpO o x b) → w'.heap[b]? = w.heap[b]?) {x' : Value} {o' : AO}
    (hnew : ∀ b, fpO o' x' b → w.heap.size ≤ b ∨ ∃ g o x, st.ob k = some (g, o) ∧ ρ k g = some x ∧ fpO o x b)
    (hO : ∀ M' ρ', Known (Mt M0 ρ st.ob) M' w w' → RhoLe ρ ρ' → ORep w0 M' w' ρ' x' o') :
    ∃ g' ρ', SimR N M0 w0 (st.put k g' o') ρ' a w' ∧ ρ' k g' = some x' := by
  obtain ⟨g', ρ', h1, h2, _⟩ := h.upd2 k hos hsz hold hnew hO
  exact ⟨g', ρ', h1, h2⟩
section
variable {P : Program} {N : Nat} {M0 : Nat → Prop} {w0 : Base} {ops : Array Oper} {Q : Exit → ASt → Prop} {o : Oper} {l : List Oper} {st : ASt}
/-- A slot that holds nil is a row of the call's own. -/
theorem le_own {j k : Nat} {T : TypeId} {n : Nat} (hj : st.sl j = .d (.v (.slice none 0 0))) {X : Act → World → Prop} (h : ∀ g, ∀ a w, Sim N M0 w0 ((st.put k g (.arr T n [])).set j (.ow k g)) a w → X a w) : ∀ a w, Sim N M0 w0 st a w → X a w := by
  rintro a w ⟨ρ, hs⟩
  have hx : a.tmps.getD j undef = .slice none 0 0 := by
    have := hs.slot j
    rw [hj] at this
    exact (rep_v this).1
  obtain ⟨g', ρ', h1, h2⟩ := hs.upd (w' := w) k ⟨rfl, rfl, rfl⟩ (Nat.le_refl _) (fun _ _ _ => rfl) (x' := .slice none 0 0) (o' := .arr T n []) (fun b hb => by simp [blk] at hb)
    (fun M' ρ' _ _ => ⟨[], World.ownsRow_nil w _ T n, ⟨rfl, fun i r v h => by simp at h⟩, ⟨none, 0, rfl⟩, by simp, fun b hb => by simp [blk] at hb⟩)
  refine h g' a w ⟨ρ', ?_⟩
  have hsl : ∀ i, SRep (Mt M0 ρ' ((st.put k g' (.arr T n [])).set j (.ow k g')).ob) w ρ' (((st.put k g' (.arr T n [])).set j (.ow k g')).sl i) (a.tmps.getD i undef) := fun i => by
    show SRep _ _ _ (bif Nat.beq i j then .ow k g' else _) _
    cases hb : Nat.beq i j with
    | true =>
      have := Nat.eq_of_beq_eq_true hb
      subst this
      rw [hx]
      exact ⟨h2, rfl⟩
    | false => exact h1.slot i
  exact ⟨h1.size, h1.defers, hsl, h1.obj, h1.apart, h1.gens, h1.base, h1.ext, h1.pin⟩
theorem Al_own {j k : Nat} {T : TypeId} {n : Nat} (hj : st.sl j = .d (.v (.slice none 0 0))) (h : ∀ g, Al P N M0 w0 ops Q l ((st.put k g (.arr T n [])).set j (.ow k g))) : Al P N M0 w0 ops Q l st := ⟨le_own hj fun g => (h g).out⟩
theorem Aw_own {c : Code} {j k : Nat} {T : TypeId} {n : Nat} (hj : st.sl j = .d (.v (.slice none 0 0))) (h : ∀ g, Aw P N M0 w0 c Q ((st.put k g (.arr T n [])).set j (.ow k g))) : Aw P N M0 w0 c Q st := ⟨le_own hj fun g => (h g).out⟩
theorem flatten_get {n : Nat} (hn : 0 < n) : ∀ (l : List (List Value)) (j : Nat), (∀ r ∈ l, r.length = n) → l.flatten[j]? = (l[j / n]?).bind fun r => r[j % n]?
  | [], j, _ => by simp
  | q :: l, j, h => by
    have hq := h q (by simp)
    rw [List.flatten_cons]
    by_cases hj : j < n
    · rw [List.getElem?_append_left (by omega), Nat.div_eq_of_lt hj, Nat.mod_eq_of_lt hj]; simp
    · rw [List.getElem?_append_right (by omega), hq, flatten_get hn l (j - n) fun r hr => h r (by simp [hr])]
      have e1 : j / n = (j - n) / n + 1 := by rw [Nat.div_eq_sub_div hn (by omega)]
      have e2 : (j - n) % n = j % n := (Nat.mod_eq_sub_mod (by omega)).symm
      rw [e1, e2]; simp
theorem flatten_len {n : Nat} {l : List (List Value)} (h : ∀ r ∈ l, r.length = n) : l.flatten.length = l.length * n := by
  induction l with
  | nil => simp
  | cons q r ih =>
    have h1 := h q (by simp)
    have h2 := ih fun x hx => h x (by simp [hx])
    simp only [List.flatten_cons, List.length_append, List.length_cons, h1, h2, Nat.add_mul]
    omega
theorem run_append_none (w : World) (B : Nat) (t ty e : TypeId) (n : Nat) (ht : P.underlying t = some (.slice e)) (hz : ∀ w, (sizeOf e).run P w = .ok n w) (v : Value) (k : Nat) (xs : List Value) (hown : w.ownsRow B e n v k xs) (a : Option Addr) (c' : Nat) : (Builtin.append_ #[t, t] ty #[v, .slice a 0 c']).run P w = .ok v w := by
  have key : ∃ b c, v = .slice b k c ∧ k ≤ c := by
    rcases hown.2 with ⟨rfl, rfl⟩ | ⟨g, cap, cur, rfl, _, _, h, _⟩
    · exact ⟨_, _, rfl, Nat.le_refl _⟩
    · exact ⟨_, _, rfl, h⟩
  obtain ⟨b, c, rfl, hkc⟩ := key
  cases b <;> cases a <;> simp [Builtin.append_, run_underlying ht, hz, Builtin.lenOf, hkc, Builtin.firstCells, storeCells, loadCells, loadCellsFrom]
/-- Elements are appended to a row of the call's own. -/
theorem Al_append {d k g : Nat} {s x : Operand} {t T : TypeId} {n bytes : Nat} {rows news : List (List AV)} (ho : o.op = .call ⟨.builtin .append, #[s, x], #[t, t]⟩) (hg : o.guard = none) (hd : o.dst = some d) (hN : d < N) (hc : conB o = true) (hT : R.ElemT P t T n bytes) (hn : 1 ≤ n) (hsz : ∀ w, (sizeOf T).run P w = .ok n w)
    (hs : st.ev s = .ow k g) (hob : st.ob k = some (g, .arr T n rows)) (hx : st.ev x = .d (.sl n news)) (hlen : rows.length + news.length ≤ 4294967296) (hby : bytes ≤ 32768)
    (h : ∀ g', Al P N M0 w0 ops Q l ((st.put k g' (.arr T n (rows ++ news))).set d (.ow k g'))) : Al P N M0 w0 ops Q (o :: l) st := by
  refine ⟨?_⟩
  rintro a w ⟨ρ, hsim⟩
  have hev := hsim.ev hc
  have h1 := hev s (mem_call ho s (by simp))
  have h2 := hev x (mem_call ho x (by simp))
  rw [hs] at h1
  rw [hx] at h2
  obtain ⟨v, hv1, vals, hown, hrows, ⟨va, vc, hvf⟩, _, hlb⟩ := hsim.obj k g _ hob
  have hvs : a.eval s = v := by
    have := h1.1
    rw [hv1] at this
    exact (Option.some.inj this).symm
  have hvlen : ∀ r ∈ vals, r.length = n := fun r hr => by
    obtain ⟨i, hi, rfl⟩ := List.getElem_of_mem hr
    have hi' : i < rows.length := by rw [← hrows.1]; exact hi
    exact (hrows.2 i rows[i] vals[i] (by simp [hi']) (by simp [hi])).2.1
  -- the source's cells
  obtain ⟨us, hul, hur, hrun⟩ : ∃ us : List (List Value), (∀ r ∈ us, r.length = n) ∧ Rows (Mt M0 ρ st.ob) w n us news ∧
      ∃ v' w', (Builtin.append_ #[t, t] o.type #[v, a.eval x]).run P w = .ok v' w' ∧ w'.ownsRow 0 T n v' (rows.length + news.length) (vals.flatten ++ us.flatten) ∧ w.grownBy w' v.ownBlock ∧ (v'.ownBlock = v.ownBlock ∨ v'.ownBlock = some w.heap.size) := by
    generalize a.eval x = y at h2
    cases h2 with
    | nil n na nc =>
      refine ⟨[], (fun r hr => by cases hr), ⟨rfl, (fun i r v h => by simp at h)⟩, v, w, run_append_none w _ t _ T n hT.ht hsz v _ _ hown _ _, ?_, ⟨rfl, rfl, rfl, Nat.le_refl _, fun _ _ _ => rfl⟩, .inl rfl⟩
      simpa using hown
    | sl n news b o' cap f hl hcap hn' hcc hr =>
      let us : List (List Value) := (List.range news.length).map fun i => (List.range n).map fun j => f i j
      have hul : ∀ r ∈ us, r.length = n := fun r hr => by
        simp only [us, List.mem_map] at hr
        obtain ⟨i, _, rfl⟩ := hr
        simp
      have hus : ∀ i, i < news.length → us[i]? = some ((List.range n).map fun j => f i j) := fun i hi => by
        simp [us, hi]
      have hcell : ∀ i, i < news.length → ∀ j, j < n → ∃ r a, news[i]? = some r ∧ r[j]? = some a := fun i hi j hj => by
        have h5 : (news[i]'hi).length = n := hn' i _ (by simp [hi])
        exact ⟨news[i], (news[i]'hi)[j]'(by omega), by simp [hi], by simp [h5, hj]⟩
      have hrr : Rows (Mt M0 ρ st.ob) w n us news := by
        refine ⟨by simp [us], fun i r v h3 h4 => ?_⟩
        have hi : i < news.length := (List.getElem?_eq_some_iff.1 h3).1
        rw [hus i hi] at h4
        simp only [Option.some.injEq] at h4
        subst h4
        refine ⟨hn' i r h3, by simp, fun j a x h5 h6 => ?_⟩
        have hj : j < n := by rw [← hn' i r h3]; exact (List.getElem?_eq_some_iff.1 h5).1
        rw [List.getElem?_map, List.getElem?_range hj] at h6
        simp only [Option.map_some, Option.some.injEq] at h6
        subst h6
        exact ⟨hr i r j a h3 h5, (hcc i r j a h3 h5).2.2⟩
      have hfl : ∀ q u, us.flatten[q]? = some u → ∃ i j r c, i < news.length ∧ j < n ∧ q = i * n + j ∧ news[i]? = some r ∧ r[j]? = some c ∧ u = f i j := fun q u hq => by
        rw [flatten_get (by omega) us q hul] at hq
        obtain ⟨r, h5, h6⟩ := Option.bind_eq_some_iff.1 hq
        have hi : q / n < news.length := by
          have := (List.getElem?_eq_some_iff.1 h5).1
          simpa [us] using this
        have hj : q % n < n := Nat.mod_lt _ (by omega)
        rw [hus _ hi] at h5
        simp only [Option.some.injEq] at h5
        subst h5
        rw [List.getElem?_map, List.getElem?_range hj] at h6
        simp only [Option.map_some, Option.some.injEq] at h6
        obtain ⟨r, c, h7, h8⟩ := hcell _ hi _ hj
        exact ⟨q / n, q % n, r, c, hi, hj, by rw [Nat.mul_comm]; exact (Nat.div_add_mod q n).symm, h7, h8, h6.symm⟩
      obtain ⟨v', w', h3, h4, h5, h6⟩ := R.run_append (P := P) w 0 t o.type T n bytes hT hn v rows.length vals.flatten hown ⟨b, o', none⟩ news.length cap us.flatten (by rw [flatten_len hul]; simp [us]) (fun q u hq => by
          obtain ⟨i, j, r, c, hi, hj, rfl, h7, h8, rfl⟩ := hfl q u hq
          rw [add_addr, ← Nat.add_assoc]
          exact (hcc i r j c h7 h8).2.1) (fun u hu => by
          obtain ⟨q, hq, rfl⟩ := List.getElem_of_mem hu
          obtain ⟨i, j, r, c, hi, hj, _, h7, h8, h9⟩ := hfl q _ (by simp [hq] : us.flatten[q]? = some us.flatten[q])
          rw [h9]
          exact (hcc i r j c h7 h8).2.2) (by unfold maxLen; omega) (Nat.le_trans (Nat.mul_le_mul hlen hby) (by decide)) (Nat.zero_le _)
      exact ⟨us, hul, hrr, v', w', h3, h4, h5, h6⟩
  obtain ⟨v', w', h3, h4, h5, h6⟩ := hrun
  have hblk : ∀ y : Value, (∃ a c m, y = .slice a m c) → blk y = y.ownBlock := fun y ⟨a, c, m, e⟩ => by
    subst e
    cases a <;> rfl
  have hv' : ∃ a c, v' = .slice a (rows.length + news.length) c := by
    rcases h4.2 with ⟨rfl, e⟩ | ⟨g2, cap, cur, rfl, _⟩
    · exact ⟨none, 0, by rw [e]⟩
    · exact ⟨_, cap, rfl⟩
  have hbv := hblk v ⟨va, vc, _, hvf⟩
  have hbv' := hblk v' (by obtain ⟨a, c, e⟩ := hv'; exact ⟨a, c, _, e⟩)
  have huniq : ∀ g2 o2 x, st.ob k = some (g2, o2) → ρ k g2 = some x → x = v := fun g2 o2 x e1 e2 => by
    rw [hob] at e1
    simp only [Option.some.injEq, Prod.mk.injEq] at e1
    obtain ⟨rfl, rfl⟩ := e1
    rw [hv1] at e2
    exact (Option.some.inj e2).symm
  obtain ⟨g', ρ', k1, k2⟩ := hsim.upd (w' := w') k ⟨h5.os, h5.tape, h5.output⟩ h5.size (fun b hb hne => h5.block b hb (by rw [← hbv]; exact fun e => hne g _ v hob hv1 e.symm)) (x' := v') (o' := .arr T n (rows ++ news))
    (fun b hb => by
      have hb : blk v' = some b := hb
      rw [hbv'] at hb
      rcases h6 with e | e
      · rw [e, ← hbv] at hb
        exact .inr ⟨g, _, v, hob, hv1, hb⟩
      · rw [e] at hb
        simp at hb
        exact .inl (by omega))
    (fun M' ρ' hK _ => ⟨vals ++ us, by rw [List.length_append, List.flatten_append]; exact h4, by
      have r1 := hrows.mono hK
      have r2 := hur.mono hK
      refine ⟨by simp [r1.1, r2.1], fun i r v h7 h8 => ?_⟩
      rcases Nat.lt_or_ge i rows.length with hi | hi
      · rw [List.getElem?_append_left hi] at h7
        rw [List.getElem?_append_left (by rw [r1.1]; exact hi)] at h8
        exact r1.2 i r v h7 h8
      · rw [List.getElem?_append_right hi] at h7
        rw [List.getElem?_append_right (by rw [r1.1]; exact hi), r1.1] at h8
        exact r2.2 _ r v h7 h8, by obtain ⟨a, c, e⟩ := hv'; exact ⟨a, c, by rw [e, List.length_append]⟩, by simp [maxI]; omega, fun b hb => by
      rw [hbv'] at hb
      rcases h6 with e | e
      · rw [e, ← hbv] at hb
        exact hlb b hb
      · rw [e] at hb
        simp at hb
        exact .inl (by have := hsim.ext.size; omega)⟩)
  refine wpList_plain hg fun K hK => wp_upon ?_
  have e : (execOp a.eval o).run P w = .ok (.value v') w' := by
    simp only [execOp, ho, resolve, invoke, builtin, Sem.run_bind, Sem.run_pure, Result.andThen_ok, List.map_toArray, List.map_cons, List.map_nil, hvs, h3]
  rw [e]
  refine hK _ _ ((h g').out _ _ ⟨ρ', ?_⟩)
  rw [hd]
  exact k1.set hN ⟨k2, by obtain ⟨a, c, e⟩ := hv'; rw [e]; rfl⟩
/-- A row of the call's own, told as data from here on. -/
theorem ORep.arr_lt {B : Base} {M : Nat → Prop} {w : World} {ρ : Rho} {h : Value} {T : TypeId} {n : Nat} {rows : List (List AV)} (hnl : ∀ b, ¬ B.l b) (r : ORep B M w ρ h (.arr T n rows)) {b : Nat} (hb : blk h = some b) : B.w.heap.size ≤ b := by
  obtain ⟨vals, hown, _, _, _, hlb⟩ := r
  exact (hlb b hb).resolve_right (hnl b)
theorem ORep.arr_lt' {B : Base} {M : Nat → Prop} {w : World} {ρ : Rho} {h : Value} {T : TypeId} {n : Nat} {rows : List (List AV)} {b : Nat} (hnl : ¬ B.l b) (r : ORep B M w ρ h (.arr T n rows)) (hb : blk h = some b) : B.w.heap.size ≤ b := by
  obtain ⟨vals, hown, _, _, _, hlb⟩ := r
  exact (hlb b hb).resolve_right hnl
theorem ORep.frz {B : Base} {M M' : Nat → Prop} {w : World} {ρ : Rho} {v : Value} {T : TypeId} {n : Nat} {rows : List (List AV)} (h : ORep B M w ρ v (.arr T n rows)) (hK : Known M M' w w) (hb : ∀ b, blk v = some b → ¬ M' b) : Rep M' w (.sl n rows) v := by
  obtain ⟨vals, hown, hrows, ⟨va, vc, rfl⟩, hl, _⟩ := h
  have hvlen : ∀ r ∈ vals, r.length = n := fun r hr => by
    obtain ⟨i, hi, rfl⟩ := List.getElem_of_mem hr
    have hi' : i < rows.length := by rw [← hrows.1]; exact hi
    exact (hrows.2 i rows[i] vals[i] (by simp [hi']) (by simp [hi])).2.1
  rcases hown.2 with ⟨e, h0⟩ | ⟨g, cap, cur, e, hbg, hg, hnc, hcm, hcs, htake⟩
  · simp only [Value.slice.injEq] at e
    obtain ⟨rfl, h1, rfl⟩ := e
    obtain rfl := List.eq_nil_of_length_eq_zero h0
    exact .nil n _ _
  · simp only [Value.slice.injEq] at e
    obtain ⟨rfl, _, rfl⟩ := e
    have hval : ∀ (i : Nat) (r : List AV) (j : Nat) (a : AV), rows[i]? = some r → r[j]? = some a → ∃ x, (vals.getD i []).getD j undef = x ∧ w.cell? ⟨g, 0 + i * n + j, none⟩ = some x ∧ Rep M w a x ∧ x.oneCell' = true := fun i r j a h1 h2 => by
      have hi : i < rows.length := (List.getElem?_eq_some_iff.1 h1).1
      have hi' : i < vals.length := by rw [hrows.1]; exact hi
      obtain ⟨k1, k2, k3⟩ := hrows.2 i r vals[i] h1 (by simp [hi'])
      have hj : j < n := by rw [← k1]; exact (List.getElem?_eq_some_iff.1 h2).1
      have hj' : j < vals[i].length := by rw [k2]; exact hj
      obtain ⟨k4, k5⟩ := k3 j a (vals[i][j]) h2 (by simp [hj'])
      refine ⟨vals[i][j], by simp [List.getD_eq_getElem?_getD, hi', hj'], ?_, k4, k5⟩
      have := hown.cells (g := g) rfl (i * n + j) (vals[i][j]) (by
        rw [flatten_get (by omega) vals _ hvlen]
        have e1 : (i * n + j) / n = i := by rw [Nat.mul_comm, Nat.mul_add_div (by omega), Nat.div_eq_of_lt hj]; rfl
        have e2 : (i * n + j) % n = j := by rw [Nat.mul_comm, Nat.mul_add_mod, Nat.mod_eq_of_lt hj]
        rw [e1, e2]
        simp [hi', hj'])
      rw [add_addr] at this
      rwa [show 0 + i * n + j = 0 + (i * n + j) from by omega]
    refine .sl n rows g 0 _ (fun i j => (vals.getD i []).getD j undef) hl hnc (fun i r h1 => ?_) (fun i r j a h1 h2 => ?_) (fun i r j a h1 h2 => ?_)
    · have hi : i < rows.length := (List.getElem?_eq_some_iff.1 h1).1
      have hi' : i < vals.length := by rw [hrows.1]; exact hi
      exact (hrows.2 i r vals[i] h1 (by simp [hi'])).1
    · obtain ⟨x, e, h3, h4, h5⟩ := hval i r j a h1 h2
      simp only [e]
      exact ⟨hb g rfl, h3, h5⟩
    · obtain ⟨x, e, h3, h4, h5⟩ := hval i r j a h1 h2
      simp only [e]
      exact h4.mono hK
def ASt.frz (st : ASt) (k : Nat) (is : List Nat) (a : AV) : ASt := ⟨fun i => bif is.contains i then .d a else st.sl i, fun j => bif Nat.beq j k then none else st.ob j⟩
def AllOw (st : ASt) (k g : Nat) : List Nat → Prop
  | [] => True
  | i :: r => st.sl i = .ow k g ∧ AllOw st k g r
theorem AllOw.get {k g : Nat} : ∀ {is : List Nat}, AllOw st k g is → ∀ i ∈ is, st.sl i = .ow k g
  | [], _, i, h => by cases h
  | i :: r, h, j, hj => by
    rcases List.mem_cons.1 hj with rfl | hj
    · exact h.1
    · exact h.2.get j hj
theorem SimR.frz {ρ : Rho} {a : Act} {w : World} (h : SimR N M0 w0 st ρ a w) {k g : Nat} {T : TypeId} {n : Nat} {rows : List (List AV)} (hnl : ∀ v b, ρ k g = some v → blk v = some b → ¬ w0.l b) (is : List Nat) (hob : st.ob k = some (g, .arr T n rows)) (his : AllOw st k g is) : SimR N M0 w0 (st.frz k is (.sl n rows)) ρ a w ∧ ∃ v, ρ k g = some v ∧ Rep (Mt M0 ρ (st.frz k is (.sl n rows)).ob) w (.sl n rows) v := by
  have hob' : ∀ j g' o', (st.frz k is (.sl n rows)).ob j = some (g', o') → j ≠ k ∧ st.ob j = some (g', o') := fun j g' o' hh => by
    have : (bif Nat.beq j k then none else st.ob j) = some (g', o') := hh
    cases hb : Nat.beq j k with
    | true => rw [hb] at this; cases this
    | false =>
      rw [hb] at this
      exact ⟨fun e => by subst e; simp at hb, this⟩
  have hk : Known (Mt M0 ρ st.ob) (Mt M0 ρ (st.frz k is (.sl n rows)).ob) w w := fun b _ hb => ⟨fun hm => hb (hm.imp id fun ⟨k', g', o', x, h1, h2, h3⟩ => ⟨k', g', o', x, (hob' _ _ _ h1).2, h2, h3⟩), rfl⟩
  obtain ⟨v, hv, hO⟩ := h.obj k g _ hob
  have hrep : Rep (Mt M0 ρ (st.frz k is (.sl n rows)).ob) w (.sl n rows) v := hO.frz hk fun b hb hm => by
    rcases hm with hm | ⟨k', g', o', x, h1, h2, h3⟩
    · have := h.base b hm
      have := hO.arr_lt' (hnl v b hv hb) hb
      omega
    · obtain ⟨h4, h5⟩ := hob' _ _ _ h1
      exact h4 (h.apart k' g' o' k g _ x v b h5 hob h2 hv h3 hb)
  refine ⟨{
    size := h.size
    defers := h.defers
    slot := fun i => by
      show SRep _ _ _ (bif is.contains i then .d (.sl n rows) else st.sl i) _
      by_cases hi : i ∈ is
      · have e : is.contains i = true := by simpa using hi
        rw [e]
        have h1 := h.slot i
        rw [his.get i hi] at h1
        have h2 : a.tmps.getD i undef = v := by
          have := h1.1
          rw [hv] at this
          exact (Option.some.inj this).symm
        rw [h2]
        exact hrep
      · have e : is.contains i = false := by simpa using hi
        rw [e]
        exact (h.slot i).mono hk
    obj := fun k' g' o' hh => by
      obtain ⟨x, h1, h2⟩ := h.obj k' g' o' (hob' _ _ _ hh).2
      exact ⟨x, h1, h2.mono hk fun _ _ => rfl⟩
    apart := fun k1 g1 o1 k2 g2 o2 x x' b h1 h2 => h.apart k1 g1 o1 k2 g2 o2 x x' b (hob' _ _ _ h1).2 (hob' _ _ _ h2).2
    gens := h.gens
    base := h.base
    ext := h.ext
    pin := h.pin }, v, hv, hrep⟩
theorem le_frz {k g : Nat} {T : TypeId} {n : Nat} {rows : List (List AV)} (hnl : ∀ b, ¬ w0.l b) (is : List Nat) (hob : st.ob k = some (g, .arr T n rows)) (his : AllOw st k g is) : Le N M0 w0 st (st.frz k is (.sl n rows)) := fun a w ⟨ρ, h⟩ => ⟨ρ, (h.frz (fun _ b _ _ => hnl b) is hob his).1⟩
theorem Aw_frz {c : Code} {k g : Nat} {T : TypeId} {n : Nat} {rows : List (List AV)} (hnl : ∀ b, ¬ w0.l b) (is : List Nat) (hob : st.ob k = some (g, .arr T n rows)) (his : AllOw st k g is) (h : Aw P N M0 w0 c Q (st.frz k is (.sl n rows))) : Aw P N M0 w0 c Q st := Aw_le (le_frz hnl is hob his) h
theorem Al_frz {k g : Nat} {T : TypeId} {n : Nat} {rows : List (List AV)} (hnl : ∀ b, ¬ w0.l b) (is : List Nat) (hob : st.ob k = some (g, .arr T n rows)) (his : AllOw st k g is) (h : Al P N M0 w0 ops Q l (st.frz k is (.sl n rows))) : Al P N M0 w0 ops Q l st := Al_le (le_frz hnl is hob his) h
end
end Go.Proofs.Ytmbaeloiepjakaa.A
namespace Go.Proofs.Ytmbaeloiepjakaa.A
open Go Go.RowKit
theorem mapget {α β : Type} {f : α → β} {l : List α} {k : Nat} (h : k < l.length) : (l.map f)[k]? = some (f l[k]) := by simp [h]
theorem mapgetD {α β : Type} {f : α → β} {l : List α} {d : α} {k : Nat} (h : k < l.length) : (l.map f)[k]? = some (f (l.getD k d)) := by simp [h]
abbrev iv (x : Int) : AV := .v (.int .i64 x)
abbrev tv (x : ByteArray) : AV := .v (.string x)
abbrev bv (x : Bool) : AV := .v (.bool x)
abbrev uv (x : Int) : AV := .v (.int .u64 x)
theorem okA.int {x : Int} (h : okA (iv x)) : inI x := by
  obtain ⟨M, w, y, h⟩ := h
  cases h with
  | v _ h => exact h
theorem okA.text {x : ByteArray} (h : okA (tv x)) : x.size ≤ maxI := by
  obtain ⟨M, w, y, h⟩ := h
  cases h with
  | v _ h => exact h
theorem okA.len {n : Nat} {rows : List (List AV)} (h : okA (.sl n rows)) : rows.length ≤ maxI := by
  obtain ⟨M, w, y, h⟩ := h
  cases h with
  | nil n a c => simp
  | sl n rows b o cap f hl hcap => exact hl
theorem okA.rows {n : Nat} {rows : List (List AV)} (h : okA (.sl n rows)) : ∀ r ∈ rows, ∀ a ∈ r, okA a := by
  obtain ⟨M, w, y, h⟩ := h
  intro r hr a ha
  obtain ⟨i, hi, rfl⟩ := List.getElem_of_mem hr
  obtain ⟨j, hj, rfl⟩ := List.getElem_of_mem ha
  cases h with
  | nil n a c => simp at hi
  | sl n rows b o cap f hl hcap hn hc hrr => exact ⟨M, w, _, hrr i (rows[i]'hi) j _ (by simp [hi]) (by simp [hj])⟩
theorem okA.row {cs : List AV} (h : okA (.row cs)) : ∀ a ∈ cs, okA a := by
  obtain ⟨M, w, y, h⟩ := h
  intro a ha
  obtain ⟨j, hj, rfl⟩ := List.getElem_of_mem ha
  cases h with
  | row cs vs hl h1 hr => exact ⟨M, w, vs[j]'(by omega), hr j _ _ (by simp [hj]) (by simp [show j < vs.length by omega])⟩
theorem elem_of {P : Program} {e n b : Nat} (h : (P.info? e).map (fun i => ((match i.zero with | some z => z.cells.size | none => 99999), i.zero.isSome, i.size, i.bytes)) = some (n, true, n, b)) : ∃ i z, P.info? e = some i ∧ i.zero = some z ∧ i.size = n ∧ i.bytes = b ∧ z.cells.size = n := by
  cases hi : P.info? e with
  | none => rw [hi] at h; cases h
  | some i =>
    rw [hi] at h
    simp only [Option.map_some, Option.some.injEq, Prod.mk.injEq] at h
    obtain ⟨h1, h2, h3, h4⟩ := h
    cases hz : i.zero with
    | none => rw [hz] at h2; cases h2
    | some z => rw [hz] at h1; exact ⟨i, z, rfl, hz, h3, h4, h1⟩
section
variable {P : Program} {st : ASt} {o : Oper}
/-- A whole number of another kind. -/
theorem Pu_conv {f t : TypeId} {x : Operand} {k k' k2 : IntKind} {a : Int} (ho : o.op = .convert f t x) (hf : P.underlying f = some (.int k2)) (ht : P.underlying t = some (.int k')) (hx : st.ev x = .d (.v (.int k a))) (hw : vok (.int k a) → k'.wrap a = a ∧ vok (.int k' a)) : Pu P st o (.d (.v (.int k' a))) := Pu_q fun B M ρ w a2 h2 _ => by
  obtain ⟨e1, k1⟩ := ev_v h2 (x := x) (by simp [opsOf, ho, Op.operands]) hx
  obtain ⟨h3, h4⟩ := hw k1
  refine ⟨.int k' a, ?_, .v _ h4⟩
  simp only [execOp, ho, e1, convert, Sem.run_bind, run_underlying hf, run_underlying ht, Result.andThen_ok, Conv.intToInt, h3, Sem.run_pure]
theorem u64_nat {n : Int} (h0 : 0 ≤ n) (h : n ≤ 18446744073709551615) : IntKind.u64.wrap n = n ∧ vok (.int .u64 n) := ⟨IntWalk.u64_in _ ⟨h0, h⟩, h0, h⟩
theorem i64_nat {n : Int} (h : inI n) : IntKind.i64.wrap n = n ∧ vok (.int .i64 n) := ⟨wrapI h, h⟩
/-- Two structs of cells that lead to no memory. -/
theorem Pu_eqrow {op : BinOp} {t yt : TypeId} {x y : Operand} (us vs : List Value) {r : Bool} (hr : ∀ w, (do eqGuard op t x y (.agg us.toArray) (.agg vs.toArray); binOp op t (.agg us.toArray) (.agg vs.toArray) : Sem Value).run P w = .ok (.bool r) w) (ho : o.op = .binOp op t x y yt) (hx : st.ev x = .d (.row (us.map .v))) (hy : st.ev y = .d (.row (vs.map .v))) : Pu P st o (.d (.v (.bool r))) := Pu_q fun B M ρ w a h2 _ => by
  have key : ∀ (z : Operand) (l : List Value), z ∈ opsOf o → st.ev z = .d (.row (l.map .v)) → a.eval z = .agg l.toArray := fun z l hz he => by
    have hm := h2 z hz
    rw [he] at hm
    generalize a.eval z = u at hm
    cases hm with
    | row cs ws hl h1 hrr =>
      have : ws = l := by
        apply List.ext_getElem (by simpa using hl)
        intro i h3 h4
        have h5 := hrr i (.v l[i]) ws[i] (by simp [h4]) (by simp [h3])
        generalize ws[i] = p at h5 ⊢
        cases h5; rfl
      rw [this]
  have e1 := key x us (mem2l ho).1 hx
  have e2 := key y vs (mem2l ho).2 hy
  refine ⟨_, ?_, .v _ trivial⟩
  have := hr w
  simp only [execOp, ho, e1, e2, Sem.run_bind, Sem.run_pure] at this ⊢
  rw [this]; rfl
/-- A slice of one element. -/
theorem Pu_slice1 {t e : TypeId} {n : Nat} {x : Operand} {b : AV} {zs : Value} (ho : o.op = .buildSlice t 1 #[(0, x)]) (ht : P.underlying t = some (.slice e)) (hs : ∀ w, (sizeOf e).run P w = .ok n w) (hz : ∀ w, (zeroValue e).run P w = .ok zs w) (hzs : zs.cells.size = n) (hn0 : 0 < n) (hmax : n ≤ 16777216)
    (hv : zs.cells.toList.all (fun z => decide (vok z)) = true) (hx : st.ev x = .d b) (hb : cellB b = true) (hl : (cellsA b).length = n) : Pu P st o (.d (.sl n [cellsA b])) := by
  refine Pu_buildSlice (aa := [(0, b)]) ho ht hs hz hzs hn0 (by decide) (by omega) hv ⟨rfl, hx, hb, trivial⟩ ?_ rfl (by simp [hl])
  have h1 : (zerosA zs.cells.toList (1 * n)).length = n := by simp [zerosA]
  simp only [fillA, Nat.zero_mul, Nat.zero_add, hl, h1]
  rw [if_neg (by simp)]
  have e1 : (zerosA zs.cells.toList (1 * n)).drop n = [] := List.drop_eq_nil_of_le (by omega)
  rw [e1]
  simp
theorem getS {s : ByteArray} {k : Nat} (h : k < s.size) : s[k]? = some s[k] := by simp [h]
/-- A byte of a text. -/
theorem Pu_indexS {t : TypeId} {x i : Operand} {s : ByteArray} {z : Int} {k : Nat} {c : UInt8} (ho : o.op = .index t x i) (ht : P.underlying t = some .string) (hx : st.ev x = .d (.v (.string s))) (hi : st.ev i = .d (.v (.int .i64 z))) (hz : z = k) (hc : s[k]? = some c) : Pu P st o (.d (.v (.int .u8 (c.toNat : Int)))) := Pu_q fun B M ρ w a h2 _ => by
  subst hz
  have m : x ∈ opsOf o ∧ i ∈ opsOf o := by simp [opsOf, ho, Op.operands]
  obtain ⟨e1, _⟩ := ev_v h2 m.1 hx
  obtain ⟨e2, _⟩ := ev_v h2 m.2 hi
  have hb : c.toNat < 256 := c.toBitVec.isLt
  refine ⟨.int .u8 c.toNat, ?_, .v _ ⟨by omega, by omega⟩⟩
  have e3 : s[(k : Int).toNat]? = some c := by simpa using hc
  simp only [execOp, ho, e1, e2, Instr.index, Sem.run_bind, asIntOf, Sem.run_pure, Result.andThen_ok, run_underlying ht]
  rw [if_pos (by omega), e3]
  rfl
end
end Go.Proofs.Ytmbaeloiepjakaa.A
namespace Go.Proofs.Ytmbaeloiepjakaa.A
open Go Go.RowKit
/-- An object of the call's own is written where it lies. -/
theorem SimR.mod {N : Nat} {M0 : Nat → Prop} {w0 : Base} {st : ASt} {ρ : Rho} {a : Act} {w w' : World} (h : SimR N M0 w0 st ρ a w) {k g : Nat} {o : AO} {x : Value} (hob : st.ob k = some (g, o)) (hx : ρ k g = some x) (hos : w'.os = w.os ∧ w'.tape = w.tape ∧ w'.output = w.output) (hsz : w.heap.size ≤ w'.heap.size)
    (hold : ∀ b, b < w.heap.size → ¬ fpO o x b → w'.heap[b]? = w.heap[b]?) {o' : AO} (hO : ∀ M', Known (Mt M0 ρ st.ob) M' w w' → (∀ b, M' b → Mt M0 ρ st.ob b) → ORep w0 M' w' ρ x o') (hfp : ∀ b, fpO o' x b → fpO o x b := by exact fun _ h => h) : SimR N M0 w0 (st.put k g o') ρ a w' := by
  have hO0 : ORep w0 (Mt M0 ρ st.ob) w ρ x o := by
    obtain ⟨y, h1, h2⟩ := h.obj k g o hob
    rw [hx] at h1; cases h1; exact h2
  have hob' : ∀ k2 g2 o2, (st.put k g o').ob k2 = some (g2, o2) → (k2 = k ∧ g2 = g ∧ o2 = o') ∨ (k2 ≠ k ∧ st.ob k2 = some (g2, o2)) := fun k2 g2 o2 hh => by
    have : (bif Nat.beq k2 k then some (g, o') else st.ob k2) = some (g2, o2) := hh
    cases hb : Nat.beq k2 k with
    | true =>
      rw [hb] at this
      simp only [cond_true, Option.some.injEq, Prod.mk.injEq] at this
      exact .inl ⟨Nat.eq_of_beq_eq_true hb, this.1.symm, this.2.symm⟩
    | false =>
      rw [hb] at this
      refine .inr ⟨fun e => ?_, this⟩
      subst e
      simp at hb
  have hM : ∀ b, Mt M0 ρ (st.put k g o').ob b → Mt M0 ρ st.ob b := fun b hm => by
    rcases hm with hm | ⟨k2, g2, o2, x2, h1, h2, h3⟩
    · exact .inl hm
    · rcases hob' k2 g2 o2 h1 with ⟨rfl, rfl, rfl⟩ | ⟨_, h1'⟩
      · rw [hx] at h2; cases h2; exact .inr ⟨_, _, o, x, hob, hx, hfp _ h3⟩
      · exact .inr ⟨k2, g2, o2, x2, h1', h2, h3⟩
  have hK : Known (Mt M0 ρ st.ob) (Mt M0 ρ (st.put k g o').ob) w w' := fun b hb hm => ⟨fun hm' => hm (hM b hm'), hold b hb fun e => hm (.inr ⟨k, g, o, x, hob, hx, e⟩)⟩
  exact {
    size := h.size
    defers := h.defers
    slot := fun i => (h.slot i).mono hK
    obj := fun k2 g2 o2 hh => by
      rcases hob' k2 g2 o2 hh with ⟨rfl, rfl, rfl⟩ | ⟨hn, h1⟩
      · exact ⟨x, hx, hO _ hK hM⟩
      · obtain ⟨y, h2, h3⟩ := h.obj k2 g2 o2 h1
        exact ⟨y, h2, h3.mono hK fun b hb => hold b (h3.blk_lt hb).2 fun e => hn (h.apart k2 g2 o2 k g o y x b h1 hob h2 hx hb e)⟩
    apart := fun k1 g1 o1 k2 g2 o2 x1 x2 b h1 h2 h3 h4 h5 h6 => by
      have e1 : ∃ o, st.ob k1 = some (g1, o) ∧ fpO o x1 b := by
        rcases hob' k1 g1 o1 h1 with ⟨rfl, rfl, rfl⟩ | ⟨_, h1'⟩
        · rw [hx] at h3; cases h3; exact ⟨_, hob, hfp _ h5⟩
        · exact ⟨_, h1', h5⟩
      have e2 : ∃ o, st.ob k2 = some (g2, o) ∧ fpO o x2 b := by
        rcases hob' k2 g2 o2 h2 with ⟨rfl, rfl, rfl⟩ | ⟨_, h1'⟩
        · rw [hx] at h4; cases h4; exact ⟨_, hob, hfp _ h6⟩
        · exact ⟨_, h1', h6⟩
      obtain ⟨p1, e1, f1⟩ := e1
      obtain ⟨p2, e2, f2⟩ := e2
      exact h.apart k1 g1 p1 k2 g2 p2 x1 x2 b e1 e2 h3 h4 f1 f2
    gens := h.gens
    base := h.base
    ext := by
      have h1 := h.ext
      refine ⟨hos.1.trans h1.os, hos.2.1.trans h1.tape, hos.2.2.trans h1.output, Nat.le_trans h1.size hsz, fun b hb hl => ?_⟩
      rw [hold b (Nat.lt_of_lt_of_le hb h1.size) fun e => ?_]
      · exact h1.block b hb hl
      · rcases (hO0.blk_lt e).1 with h7 | h7
        · omega
        · exact hl h7
    pin := h.pin }
theorem obeq {g : Nat} {T : TypeId} {n : Nat} {a b : List (List AV)} (h : a = b) : some (g, AO.arr T n a) = some (g, AO.arr T n b) := h ▸ rfl
def scell : SV → Bool
  | .d (.row _) => false
  | .d (.tup _) => false
  | .d _ => true
  | .bx _ _ _ => true
  | .ow _ _ => true
  | .fnb _ _ _ => true
  | .psl _ => true
  | .pc _ => true
  | .ows _ _ _ _ _ => true
  | _ => false
theorem SRep.one {M : Nat → Prop} {w : World} {ρ : Rho} {s : SV} {x : Value} (h : SRep M w ρ s x) (hs : scell s = true) : x.oneCell' = true := by
  cases s with
  | any => cases hs
  | d a =>
    cases h with
    | any _ h => exact h
    | v _ h => exact h.one
    | row cs vs hl h1 hr => cases hs
    | tup cs vs hl hr => cases hs
    | _ => rfl
  | bx k g off => obtain ⟨y, b, _, _, rfl⟩ := h; rfl
  | ow k g => exact h.2
  | ifb p s => cases hs
  | fnb f fs cs => obtain ⟨us, vs, rfl, _⟩ := h; rfl
  | tp l => cases hs
  | ag l => cases hs
  | psl l => obtain ⟨b, o, cap, rfl, _⟩ := h; rfl
  | pc c => obtain ⟨b, o, v, rfl, _⟩ := h; rfl
  | ows k g n lo hi => obtain ⟨ad, len, c, a, _, rfl, _⟩ := h; rfl
  | slc n rows => cases hs
theorem one_cells {x : Value} (h : x.oneCell' = true) : x.cells = #[x] := by cases x <;> first | rfl | (simp [Value.oneCell'] at h)
section
variable {P : Program} {N : Nat} {M0 : Nat → Prop} {w0 : Base} {ops : Array Oper} {Q : Exit → ASt → Prop} {o : Oper} {l : List Oper} {st : ASt}
/-- A variable, made with its zero value. -/
theorem Al_alloc {d : Nat} {T : TypeId} {z : Value} {zs : List AV} (ho : o.op = .alloc T) (hg : o.guard = none) (hd : o.dst = some d) (hN : d < N) (hz : ∀ w, (zeroValue T).run P w = .ok z w) (hzs : z.cells.toList.map AV.v = zs) (hv : z.cells.toList.all (fun z => decide (vok z)) = true)
    (h : ∀ g, Al P N M0 w0 ops Q l ((st.put d g (.box T (zs.map .d))).set d (.bx d g 0))) : Al P N M0 w0 ops Q (o :: l) st := by
  refine ⟨?_⟩
  rintro a w ⟨ρ, hsim⟩
  have hE : Ev.Ext w (w.alloc (.cells z.cells T)) := (Below.refl _ _).alloc (Nat.le_refl _) _
  obtain ⟨g', ρ', k1, k2⟩ := hsim.upd (w' := w.alloc (.cells z.cells T)) d ⟨rfl, rfl, rfl⟩ hE.size (fun b hb _ => hE.block b hb) (x' := .pointer (some ⟨w.heap.size, 0, none⟩)) (o' := .box T (zs.map .d)) (fun b hb => by simp [blk] at hb; exact .inl (by omega))
    (fun M' ρ' hK _ => ⟨w.heap.size, z.cells, rfl, .inl hsim.ext.size, heap_alloc_new _ _, by rw [← hzs]; simp, fun j s x h1 h2 => by
      have hx : z.cells.toList[j]? = some x := by rw [Array.getElem?_toList]; exact h2
      rw [← hzs, List.map_map, List.getElem?_map, hx] at h1
      simp only [Option.map_some, Option.some.injEq, Function.comp] at h1
      subst h1
      have := List.all_eq_true.1 hv x (List.mem_of_getElem? hx)
      have hvk : vok x := by simpa using this
      exact ⟨.v x hvk, hvk.one⟩⟩)
  refine wpList_plain hg fun K hK => wp_upon ?_
  have e : (execOp a.eval o).run P w = .ok (.value (.pointer (some ⟨w.heap.size, 0, none⟩))) (w.alloc (.cells z.cells T)) := by
    simp [execOp, ho, Instr.alloc, newVar, newRow, newObj, hz, Sem.run, Sem.run_bind]
  rw [e]
  refine hK _ _ ((h g').out _ _ ⟨ρ', ?_⟩)
  rw [hd]
  exact k1.set hN ⟨_, _, k2, rfl, rfl⟩
/-- A variable, made with a value. -/
theorem Al_boxN {d : Nat} {T : TypeId} {x : Operand} {cs : List AV} (ho : o.op = .box T x) (hg : o.guard = none) (hd : o.dst = some d) (hN : d < N) (hc : conB o = true) (hx : st.ev x = .d (.row cs))
    (h : ∀ g, Al P N M0 w0 ops Q l ((st.put d g (.box T (cs.map .d))).set d (.bx d g 0))) : Al P N M0 w0 ops Q (o :: l) st := by
  refine ⟨?_⟩
  rintro a w ⟨ρ, hsim⟩
  have hm := hsim.ev hc x (by simp [opsOf, ho, Op.operands])
  rw [hx] at hm
  generalize hy : a.eval x = y at hm
  cases hm with
  | row cs vs hl h1 hr =>
    have hE : Ev.Ext w (w.alloc (.cells vs.toArray T)) := (Below.refl _ _).alloc (Nat.le_refl _) _
    obtain ⟨g', ρ', k1, k2⟩ := hsim.upd (w' := w.alloc (.cells vs.toArray T)) d ⟨rfl, rfl, rfl⟩ hE.size (fun b hb _ => hE.block b hb) (x' := .pointer (some ⟨w.heap.size, 0, none⟩)) (o' := .box T (cs.map .d)) (fun b hb => by simp [blk] at hb; exact .inl (by omega))
      (fun M' ρ' hK _ => ⟨w.heap.size, vs.toArray, rfl, .inl hsim.ext.size, heap_alloc_new _ _, by simp [hl], fun j s x h2 h3 => by
        have h3' : vs[j]? = some x := by simpa using h3
        rw [List.getElem?_map] at h2
        obtain ⟨c, h4, h5⟩ := Option.map_eq_some_iff.1 h2
        subst h5
        exact ⟨Rep.mono hK (hr j c x h4 h3'), h1 x (List.mem_of_getElem? h3')⟩⟩)
    refine wpList_plain hg fun K hK => wp_upon ?_
    have e : (execOp a.eval o).run P w = .ok (.value (.pointer (some ⟨w.heap.size, 0, none⟩))) (w.alloc (.cells vs.toArray T)) := by
      simp [execOp, ho, hy, Instr.box, newVar, newRow, newObj, Value.cells, Sem.run, Sem.run_bind]
    rw [e]
    refine hK _ _ ((h g').out _ _ ⟨ρ', ?_⟩)
    rw [hd]
    exact k1.set hN ⟨_, _, k2, rfl, rfl⟩
theorem Al_box1 {d : Nat} {T : TypeId} {x : Operand} {s : SV} (ho : o.op = .box T x) (hg : o.guard = none) (hd : o.dst = some d) (hN : d < N) (hc : conB o = true) (hx : st.ev x = s) (hs : scell s = true)
    (h : ∀ g, Al P N M0 w0 ops Q l ((st.put d g (.box T [s])).set d (.bx d g 0))) : Al P N M0 w0 ops Q (o :: l) st := by
  refine ⟨?_⟩
  rintro a w ⟨ρ, hsim⟩
  have hm := hsim.ev hc x (by simp [opsOf, ho, Op.operands])
  rw [hx] at hm
  have h1 := hm.one hs
  have hE : Ev.Ext w (w.alloc (.cells #[a.eval x] T)) := (Below.refl _ _).alloc (Nat.le_refl _) _
  obtain ⟨g', ρ', k1, k2⟩ := hsim.upd (w' := w.alloc (.cells #[a.eval x] T)) d ⟨rfl, rfl, rfl⟩ hE.size (fun b hb _ => hE.block b hb) (x' := .pointer (some ⟨w.heap.size, 0, none⟩)) (o' := .box T [s]) (fun b hb => by simp [blk] at hb; exact .inl (by omega))
    (fun M' ρ' hK hle => ⟨w.heap.size, #[a.eval x], rfl, .inl hsim.ext.size, heap_alloc_new _ _, rfl, fun j s' y h2 h3 => by
      cases j with
      | zero => simp at h2 h3; subst h2 h3; exact ⟨(hm.mono hK).rho hle, h1⟩
      | succ j => simp at h2⟩)
  refine wpList_plain hg fun K hK => wp_upon ?_
  have e : (execOp a.eval o).run P w = .ok (.value (.pointer (some ⟨w.heap.size, 0, none⟩))) (w.alloc (.cells #[a.eval x] T)) := by
    simp [execOp, ho, Instr.box, newVar, newRow, newObj, one_cells h1, Sem.run, Sem.run_bind]
  rw [e]
  refine hK _ _ ((h g').out _ _ ⟨ρ', ?_⟩)
  rw [hd]
  exact k1.set hN ⟨_, _, k2, rfl, rfl⟩
/-- A field of a variable of the call's own. -/
theorem Pu_fieldb {t : TypeId} {x : Operand} {i : Nat} {fs : Array Field} {fd : Field} {n k g off : Nat} (fo : Nat) (ho : o.op = .fieldAddr t x i) (ht : P.underlying t = some (.struct fs)) (hf : fs[i]? = some fd) (hoff : fd.offset = fo) (hz : ∀ w, (sizeOf fd.type).run P w = .ok (n + 1) w) (hx : st.ev x = .bx k g off) : Pu P st o (.bx k g (off + fo)) := Pu_q fun B M ρ w a h2 _ => by
  subst hoff
  have hm := h2 x (by simp [opsOf, ho, Op.operands])
  rw [hx] at hm
  obtain ⟨y, b, h3, h4, h5⟩ := hm
  refine ⟨.pointer (some ⟨b, off + fd.offset, none⟩), ?_, y, b, h3, h4, rfl⟩
  simp only [execOp, ho, h5, Instr.fieldAt, Sem.run_bind, run_underlying ht, Result.andThen_ok, hf, Instr.sureAddr, Sem.run_pure, fieldPlace, hz]
  rw [if_neg (by omega)]
  simp [add_addr, Sem.run]
theorem Pu_loadb {t T : TypeId} {x : Operand} {k g off : Nat} {cs : List SV} {s : SV} (ho : o.op = .load t x) (ht : ∀ w, (isAgg t).run P w = .ok false w) (hx : st.ev x = .bx k g off) (hob : st.ob k = some (g, .box T cs)) (hs : cs[off]? = some s) : Pu P st o s := Pu_q fun B M ρ w a h2 h3 => by
  have hm := h2 x (by simp [opsOf, ho, Op.operands])
  rw [hx] at hm
  obtain ⟨y, b, h4, h5, h6⟩ := hm
  obtain ⟨y', h7, b', vs, rfl, h8, h9, h10, h11⟩ := h3 k g _ hob
  rw [h4] at h7; cases h7
  simp only [blk, Option.some.injEq] at h5
  subst h5
  have hlt : off < vs.size := by rw [h10]; exact (List.getElem?_eq_some_iff.1 hs).1
  have hv : vs[off]? = some vs[off] := by simp [hlt]
  refine ⟨vs[off], ?_, (h11 off s _ hs hv).1⟩
  have hc : w.cell? ⟨b', off, none⟩ = some vs[off] := by simp [World.cell?, h9, hlt]
  simp [execOp, ho, h6, Instr.loadAt, Instr.sureAddr, loadVar, ht, load, Sem.run, hc, Sem.run_bind]
theorem Pu_loadbN {t T : TypeId} {x : Operand} {k g off n : Nat} {cs : List SV} {r : List AV} (ho : o.op = .load t x) (ht : ∀ w, (isAgg t).run P w = .ok true w) (hz : ∀ w, (sizeOf t).run P w = .ok n w) (hx : st.ev x = .bx k g off) (hob : st.ob k = some (g, .box T cs)) (hr : (cs.drop off).take n = r.map .d) (hn : r.length = n) : Pu P st o (.d (.row r)) := Pu_q fun B M ρ w a h2 h3 => by
  have hm := h2 x (by simp [opsOf, ho, Op.operands])
  rw [hx] at hm
  obtain ⟨y, b, h4, h5, h6⟩ := hm
  obtain ⟨y', h7, b', vs, rfl, h8, h9, h10, h11⟩ := h3 k g _ hob
  rw [h4] at h7; cases h7
  simp only [blk, Option.some.injEq] at h5
  subst h5
  have hcell : ∀ j, j < n → ∃ c, r[j]? = some c ∧ cs[off + j]? = some (.d c) := fun j hj => by
    have h12 : (r.map SV.d)[j]? = some (.d (r[j]'(by omega))) := by simp [hn, hj]
    rw [← hr, List.getElem?_take, if_pos hj, List.getElem?_drop] at h12
    exact ⟨_, by simp [hn, hj], h12⟩
  have hval : ∀ j, j < n → ∃ v, vs[off + j]? = some v := fun j hj => by
    obtain ⟨c, _, h12⟩ := hcell j hj
    have : off + j < vs.size := by rw [h10]; exact (List.getElem?_eq_some_iff.1 h12).1
    exact ⟨vs[off + j], by simp [this]⟩
  have gd : ∀ j v, vs[j]? = some v → vs.getD j undef = v := fun j v hv => by simp [Array.getD_eq_getD_getElem?, hv]
  have h1 := run_cells (P := P) (w := w) (b := b') n off 0 (fun j => vs.getD (off + j) undef) #[] (fun j hj => by
    obtain ⟨v, hv⟩ := hval j hj
    rw [Nat.zero_add, gd _ _ hv]
    simp [World.cell?, h9, hv])
  refine ⟨.agg ((List.range n).map fun j => vs.getD (off + j) undef).toArray, ?_, .row _ _ (by simp [hn]) (fun x hx => ?_) (fun j c x h12 h13 => ?_)⟩
  · simp only [execOp, ho, h6, Instr.loadAt, Instr.sureAddr, loadVar, Sem.run_bind, Sem.run_pure, Result.andThen_ok, ht, hz, loadCells, if_true, h1]
    simp
  · simp only [List.mem_map, List.mem_range] at hx
    obtain ⟨j, hj, rfl⟩ := hx
    obtain ⟨c, _, hc⟩ := hcell j hj
    obtain ⟨v, hv⟩ := hval j hj
    rw [gd _ _ hv]
    exact (h11 _ _ v hc hv).2
  · have hj : j < n := by rw [← hn]; exact (List.getElem?_eq_some_iff.1 h12).1
    obtain ⟨c', hc', hc⟩ := hcell j hj
    rw [h12] at hc'; cases hc'
    obtain ⟨v, hv⟩ := hval j hj
    rw [List.getElem?_map, List.getElem?_range hj] at h13
    simp only [Option.map_some, Option.some.injEq] at h13
    rw [gd _ _ hv] at h13
    subst h13
    exact (h11 _ _ v hc hv).1
/-- A cell of a variable of the call's own is written. -/
theorem Al_store1 {t T : TypeId} {x y : Operand} {k g off : Nat} {cs : List SV} {s : SV} (ho : o.op = .store t x y) (hg : o.guard = none) (hd : o.dst = none) (hc : conB o = true) (ht : ∀ w, (isAgg t).run P w = .ok false w) (hz : ∀ w, (sizeOf t).run P w = .ok 1 w) (hx : st.ev x = .bx k g off) (hob : st.ob k = some (g, .box T cs)) (hoff : off < cs.length) (hy : st.ev y = s) (hs : scell s = true)
    (h : Al P N M0 w0 ops Q l (st.put k g (.box T (cs.set off s)))) : Al P N M0 w0 ops Q (o :: l) st := by
  refine ⟨?_⟩
  rintro a w ⟨ρ, hsim⟩
  have hmem : x ∈ opsOf o ∧ y ∈ opsOf o := by simp [opsOf, ho, Op.operands]
  have hmx := hsim.ev hc x hmem.1
  have hmy := hsim.ev hc y hmem.2
  rw [hx] at hmx
  rw [hy] at hmy
  obtain ⟨u, b, h4, h5, h6⟩ := hmx
  obtain ⟨u', h7, b', vs, rfl, h8, h9, h10, h11⟩ := hsim.obj k g _ hob
  rw [h4] at h7; cases h7
  simp only [blk, Option.some.injEq] at h5
  subst h5
  have hlt : off < vs.size := by omega
  have hone := hmy.one hs
  have hc1 : w.cell? ⟨b', off, none⟩ = some vs[off] := by simp [World.cell?, h9, hlt]
  have hfz : w.frozen? ⟨b', off, none⟩ = false := by simp [World.frozen?, h9]
  have hnew : (w.setCell ⟨b', off, none⟩ (a.eval y)).heap[b']? = some (.cells (vs.setIfInBounds off (a.eval y)) T (0, 0)) := by simp [World.setCell, Array.getElem?_modify, h9]
  have hs2 := hsim.mod (w' := w.setCell ⟨b', off, none⟩ (a.eval y)) hob h4 ⟨rfl, rfl, rfl⟩ (by simp [World.setCell]) (fun b hb hne => Below.heap_setCell _ _ _ _ (fun e => hne (by simp [blk, e]))) (o' := .box T (cs.set off s)) (fun M' hK _ => ⟨b', _, rfl, h8, hnew, by simp [h10], fun j s' z h12 h13 => by
    rw [List.getElem?_set] at h12
    rw [Array.getElem?_setIfInBounds] at h13
    by_cases e : off = j
    · subst e
      rw [if_pos rfl, if_pos (by omega)] at h12
      rw [if_pos rfl, if_pos hlt] at h13
      simp only [Option.some.injEq] at h12 h13
      subst h12 h13
      exact ⟨hmy.mono hK, hone⟩
    · rw [if_neg e] at h12
      rw [if_neg e] at h13
      exact ⟨(h11 j s' z h12 h13).1.mono hK, (h11 j s' z h12 h13).2⟩⟩)
  refine wpList_plain hg fun K hK => wp_upon ?_
  have e : (execOp a.eval o).run P w = .ok .skip (w.setCell ⟨b', off, none⟩ (a.eval y)) := by
    have hst : (store (⟨b', off, none⟩ : Addr) (a.eval y)).run P w = .ok () (w.setCell ⟨b', off, none⟩ (a.eval y)) := by
      generalize a.eval y = z at hone
      cases z <;> simp_all [store, Sem.run, Value.oneCell']
    simp only [execOp, ho, h6, Instr.storeAt, Instr.sureAddr, storeVar, Sem.run_bind, Sem.run_pure, Result.andThen_ok, hz, one_cells hone]
    simp [storeCells, Sem.run_bind, Addr.add, hst]
  rw [e]
  refine hK _ _ (h.out _ _ ⟨ρ, ?_⟩)
  rw [hd]
  exact hs2
theorem run_storeRow (b o : Nat) (T : TypeId) : ∀ (l : List Value) (i : Nat) (w : World) (vs : Array Value), w.heap[b]? = some (.cells vs T (0, 0)) → o + i + l.length ≤ vs.size → (∀ v ∈ l, v.oneCell' = true) →
    ∃ w' vs', (storeCells ⟨b, o, none⟩ l i).run P w = .ok () w' ∧ w'.heap[b]? = some (.cells vs' T (0, 0)) ∧ vs'.size = vs.size ∧ (∀ j, vs'[j]? = if o + i ≤ j ∧ j < o + i + l.length then l[j - (o + i)]? else vs[j]?) ∧ (∀ c, c ≠ b → w'.heap[c]? = w.heap[c]?) ∧ w'.heap.size = w.heap.size ∧ w'.os = w.os ∧ w'.tape = w.tape ∧ w'.output = w.output
  | [], i, w, vs, h, _, _ => ⟨w, vs, rfl, h, rfl, fun j => by rw [if_neg (by simp only [List.length_nil]; omega)], fun _ _ => rfl, rfl, rfl, rfl, rfl⟩
  | v :: l, i, w, vs, h, hl, h1 => by
    simp only [List.length_cons] at hl
    have hlt : o + i < vs.size := by omega
    have hc1 : w.cell? ⟨b, o + i, none⟩ = some vs[o + i] := by simp [World.cell?, h, hlt]
    have hfz : w.frozen? ⟨b, o + i, none⟩ = false := by simp [World.frozen?, h]
    have hone := h1 v (by simp)
    have hst : (store (⟨b, o + i, none⟩ : Addr) v).run P w = .ok () (w.setCell ⟨b, o + i, none⟩ v) := by
      cases v <;> simp_all [store, Sem.run, Value.oneCell']
    have hnew : (w.setCell ⟨b, o + i, none⟩ v).heap[b]? = some (.cells (vs.setIfInBounds (o + i) v) T (0, 0)) := by simp [World.setCell, Array.getElem?_modify, h]
    obtain ⟨w', vs', k1, k2, k3, k4, k5, k6, k7⟩ := run_storeRow b o T l (i + 1) _ _ hnew (by simp; omega) (fun x hx => h1 x (by simp [hx]))
    refine ⟨w', vs', ?_, k2, by rw [k3]; simp, fun j => ?_, fun c hc => ?_, by rw [k6]; simp [World.setCell], k7⟩
    · simp only [storeCells, Sem.run_bind, add_addr, hst, Result.andThen_ok, k1]
    · rw [k4 j]
      by_cases hj : j = o + i
      · subst hj
        rw [if_neg (by omega), if_pos (by simp)]
        simp [Array.getElem?_setIfInBounds, hlt]
      · have e0 : (vs.setIfInBounds (o + i) v)[j]? = vs[j]? := by rw [Array.getElem?_setIfInBounds, if_neg (fun e => hj e.symm)]
        rw [e0]
        by_cases hin : o + (i + 1) ≤ j ∧ j < o + (i + 1) + l.length
        · rw [if_pos hin, if_pos (by simp only [List.length_cons]; omega), show j - (o + i) = (j - (o + (i + 1))) + 1 from by omega]
          simp
        · rw [if_neg hin, if_neg (by simp only [List.length_cons]; omega)]
    · rw [k5 c hc]
      exact Below.heap_setCell _ _ _ _ hc
/-- Some cells of a variable of the call's own are written. -/
theorem Al_storeN {t T : TypeId} {x y : Operand} {k g off n : Nat} {cs : List SV} {r : List AV} (ho : o.op = .store t x y) (hg : o.guard = none) (hd : o.dst = none) (hc : conB o = true) (ht : ∀ w, (isAgg t).run P w = .ok true w) (hz : ∀ w, (sizeOf t).run P w = .ok n w) (hx : st.ev x = .bx k g off) (hob : st.ob k = some (g, .box T cs)) (hy : st.ev y = .d (.row r)) (hn : r.length = n) (hoff : off + n ≤ cs.length)
    (h : Al P N M0 w0 ops Q l (st.put k g (.box T (cs.take off ++ r.map .d ++ cs.drop (off + n))))) : Al P N M0 w0 ops Q (o :: l) st := by
  refine ⟨?_⟩
  rintro a w ⟨ρ, hsim⟩
  have hmem : x ∈ opsOf o ∧ y ∈ opsOf o := by simp [opsOf, ho, Op.operands]
  have hmx := hsim.ev hc x hmem.1
  have hmy := hsim.ev hc y hmem.2
  rw [hx] at hmx
  rw [hy] at hmy
  obtain ⟨u, b, h4, h5, h6⟩ := hmx
  obtain ⟨u', h7, b', vs, rfl, h8, h9, h10, h11⟩ := hsim.obj k g _ hob
  rw [h4] at h7; cases h7
  simp only [blk, Option.some.injEq] at h5
  subst h5
  generalize hyy : a.eval y = z at hmy
  cases hmy with
  | row r us hul hu1 hur =>
    obtain ⟨w', vs', k1, k2, k3, k4, k5, k6, k7, k8, k9⟩ := run_storeRow (P := P) b' off T us 0 w vs h9 (by omega) hu1
    have hs2 := hsim.mod (w' := w') hob h4 ⟨k7, k8, k9⟩ (by omega) (fun c hc' hne => k5 c (fun e => hne (by simp [blk, e]))) (o' := .box T (cs.take off ++ r.map .d ++ cs.drop (off + n))) (fun M' hK _ => ⟨b', vs', rfl, h8, k2, by simp; omega, fun j s' z h12 h13 => by
      rw [k4 j, Nat.add_zero] at h13
      by_cases e1 : j < off
      · rw [List.append_assoc, List.getElem?_append_left (by simp; omega), List.getElem?_take, if_pos e1] at h12
        rw [if_neg (by omega)] at h13
        exact ⟨(h11 j s' z h12 h13).1.mono hK, (h11 j s' z h12 h13).2⟩
      · by_cases e2 : j < off + n
        · rw [List.getElem?_append_left (by simp; omega), List.getElem?_append_right (by simp; omega)] at h12
          simp only [List.length_take, Nat.min_eq_left (show off ≤ cs.length by omega), List.getElem?_map] at h12
          obtain ⟨c, h14, rfl⟩ := Option.map_eq_some_iff.1 h12
          rw [if_pos (by omega)] at h13
          exact ⟨(hur _ c z h14 h13).mono hK, hu1 z (List.mem_of_getElem? h13)⟩
        · rw [List.getElem?_append_right (by simp; omega)] at h12
          simp only [List.length_append, List.length_take, List.length_map, Nat.min_eq_left (show off ≤ cs.length by omega), List.getElem?_drop] at h12
          rw [show off + n + (j - (off + r.length)) = j from by omega] at h12
          rw [if_neg (by omega)] at h13
          exact ⟨(h11 j s' z h12 h13).1.mono hK, (h11 j s' z h12 h13).2⟩⟩)
    refine wpList_plain hg fun K hK => wp_upon ?_
    have e : (execOp a.eval o).run P w = .ok .skip w' := by
      simp only [execOp, ho, h6, hyy, Instr.storeAt, Instr.sureAddr, storeVar, Sem.run_bind, Sem.run_pure, Result.andThen_ok, hz, Value.cells]
      rw [if_neg (by simp; omega)]
      simp only [Sem.run_bind, Sem.run_pure, Result.andThen_ok, k1]
    rw [e]
    refine hK _ _ (h.out _ _ ⟨ρ, ?_⟩)
    rw [hd]
    exact hs2
end
end Go.Proofs.Ytmbaeloiepjakaa.A
namespace Go.Proofs.Ytmbaeloiepjakaa.A
open Go Go.RowKit
theorem tmod_in {a b : Int} (h : inI a) : inI (a.tmod b) := by
  unfold inI at *
  have h1 := Int.natAbs_tmod a b
  have h2 := Nat.mod_le a.natAbs b.natAbs
  have h3 : a < 0 → a.tmod b ≤ 0 := fun h => by
    have := Int.neg_tmod (a := -a) (b := b)
    rw [Int.neg_neg] at this
    rw [this]
    have := Int.tmod_nonneg b (a := -a) (by omega)
    omega
  by_cases h4 : a < 0
  · have := h3 h4; omega
  · omega
def bndA (st : ASt) : Option Operand → Nat → Nat → Prop
  | none, d, k => k = d
  | some x, _, k => ∃ z : Int, st.ev x = .d (.v (.int .i64 z)) ∧ z = k
section
variable {P : Program} {st : ASt} {o : Oper}
theorem Pu_rem {t yt : TypeId} {x y : Operand} {a b : Int} (ho : o.op = .binOp .rem t x y yt) (hx : st.ev x = .d (.v (.int .i64 a))) (hy : st.ev y = .d (.v (.int .i64 b))) (hb : b ≠ 0) {c : Int} (hc : a.tmod b = c) : Pu P st o (.d (.v (.int .i64 c))) := by
  subst hc
  exact Pu_bin ho hx hy (fun h1 h2 w => by simp only [Sem.run_bind, guard_int, Result.andThen_ok, binOp]; simp [Op.intDiv, hb, Sem.run]) (fun h1 _ => tmod_in h1)
theorem bnd_run {M : Nat → Prop} {w : World} {ρ : Rho} {a : Act} {x : Operand} {z : Int} {k y : Nat} {c : BoundsCode} (h : SRep M w ρ (st.ev x) (a.eval x)) (hz : st.ev x = .d (.v (.int .i64 z))) (hk : z = k) (hy : k ≤ y) : (Instr.sliceBound (a.eval x) y c).run P w = .ok k w := by
  rw [hz] at h
  obtain ⟨e, _⟩ := rep_v h
  rw [e]
  subst hk
  simp only [Instr.sliceBound, asIntOf, Sem.run_bind, Sem.run_pure, Result.andThen_ok]
  rw [if_pos ⟨by omega, by omega⟩]
  simp [Sem.run]
theorem bnds_run {M : Nat → Prop} {w : World} {ρ : Rho} {a : Act} {lo hi : Option Operand} {len cap l h : Nat} (b : Bool) (hop : ∀ x ∈ lo.toList ++ hi.toList, SRep M w ρ (st.ev x) (a.eval x)) (hlo : bndA st lo 0 l) (hhi : bndA st hi len h) (hl : l ≤ h) (hh : h ≤ cap) : (Instr.sliceBounds b len cap (lo.map a.eval) (hi.map a.eval) none).run P w = .ok (l, h, cap) w := by
  cases lo with
  | none =>
    simp only [bndA] at hlo
    subst hlo
    cases hi with
    | none =>
      simp only [bndA] at hhi
      subst hhi
      simp [Instr.sliceBounds, Sem.run_bind]
    | some y =>
      obtain ⟨z, h1, h2⟩ := hhi
      have := fun c => bnd_run (P := P) (c := c) (hop y (by simp)) h1 h2 hh
      simp [Instr.sliceBounds, Sem.run_bind, this]
  | some x =>
    obtain ⟨z', h3, h4⟩ := hlo
    have h5 := fun c => bnd_run (P := P) (c := c) (y := h) (hop x (by simp)) h3 h4 hl
    cases hi with
    | none =>
      simp only [bndA] at hhi
      subst hhi
      simp [Instr.sliceBounds, Sem.run_bind, h5]
    | some y =>
      obtain ⟨z, h1, h2⟩ := hhi
      have := fun c => bnd_run (P := P) (c := c) (hop y (by simp)) h1 h2 hh
      simp [Instr.sliceBounds, Sem.run_bind, this, h5]
theorem Pu_subS {t : TypeId} {x : Operand} {lo hi : Option Operand} {s : ByteArray} (l h : Nat) (ho : o.op = .slice t x lo hi none) (ht : P.underlying t = some .string) (hx : st.ev x = .d (.v (.string s))) (hlo : bndA st lo 0 l) (hhi : bndA st hi s.size h) (hle : l ≤ h ∧ h ≤ s.size) : Pu P st o (.d (.v (.string (s.extract l h)))) := Pu_q fun B M ρ w a h2 _ => by
  obtain ⟨e1, k1⟩ := ev_v h2 (x := x) (by simp [opsOf, ho, Op.operands]) hx
  refine ⟨.string (s.extract l h), ?_, .v _ ?_⟩
  · have := bnds_run (P := P) (w := w) (a := a) (cap := s.size) false (M := M) (ρ := ρ) (fun y hy => h2 y (by simp only [opsOf, ho, Op.operands, Array.toList_append, List.mem_append]; simp only [List.mem_append] at hy; rcases hy with hy | hy <;> simp_all)) hlo hhi hle.1 hle.2
    simp only [execOp, ho, e1, Instr.sliceAt, Sem.run_bind, run_underlying ht, Result.andThen_ok, Instr.slice, Option.map_none, Option.isSome_none, Bool.false_eq_true, if_false, Sem.run_pure, this]
  · have e : (s.extract l h).size ≤ s.size := by simp; omega
    have k2 : s.size ≤ maxI := k1
    exact Nat.le_trans e k2
theorem Pu_subL {t e : TypeId} {x : Operand} {lo hi : Option Operand} {n : Nat} {rows : List (List AV)} (l h : Nat) (ho : o.op = .slice t x lo hi none) (ht : P.underlying t = some (.slice e)) (hz : ∀ w, (sizeOf e).run P w = .ok n w) (hx : st.ev x = .d (.sl n rows)) (hlo : bndA st lo 0 l) (hhi : bndA st hi rows.length h) (hle : l ≤ h ∧ h ≤ rows.length) : Pu P st o (.d (.sl n ((rows.take h).drop l))) := Pu_q fun B M ρ w a h2 _ => by
  have hm := h2 x (by simp [opsOf, ho, Op.operands])
  rw [hx] at hm
  have hcap : ∃ ad c, a.eval x = .slice ad rows.length c ∧ rows.length ≤ c := by
    generalize a.eval x = y at hm
    cases hm with
    | nil n a c => exact ⟨_, _, rfl, by simp⟩
    | sl n rows b o' cap f hl hcap => exact ⟨_, _, rfl, hcap⟩
  obtain ⟨ad, c, hy, hc⟩ := hcap
  have hb := bnds_run (P := P) (w := w) (a := a) (len := rows.length) (cap := c) true (M := M) (ρ := ρ) (fun y hy => h2 y (by simp only [opsOf, ho, Op.operands, Array.toList_append, List.mem_append]; simp only [List.mem_append] at hy; rcases hy with hy | hy <;> simp_all)) hlo hhi hle.1 (by omega)
  refine ⟨.slice (if c = l then ad else ad.map (·.add (l * n))) (h - l) (c - l), ?_, ?_⟩
  · simp only [execOp, ho, hy, Instr.sliceAt, Sem.run_bind, run_underlying ht, Result.andThen_ok, Instr.slice, Option.map_none, hb, hz, Sem.run_pure]
  · have hlen : ((rows.take h).drop l).length = h - l := by simp; omega
    by_cases hhl : h - l = 0
    · have e0 : (rows.take h).drop l = [] := List.eq_nil_of_length_eq_zero (by omega)
      rw [hhl, e0]
      exact .nil _ _ _
    · rw [if_neg (by omega)]
      generalize hyy : a.eval x = y at hm hy
      cases hm with
      | nil n a' c' => simp at hle; omega
      | sl n rows b o' cap f hl hcap hn hcc hr =>
        simp only [Value.slice.injEq] at hy
        obtain ⟨rfl, _, rfl⟩ := hy
        simp only [Option.map_some, add_addr]
        rw [← hlen]
        refine .sl n _ b (o' + l * n) _ (fun i j => f (l + i) j) (by rw [hlen]; omega) (by rw [hlen]; omega) (fun i r hi => ?_) (fun i r j a hi ha => ?_) (fun i r j a hi ha => ?_)
        all_goals
          rw [List.getElem?_drop, List.getElem?_take] at hi
          split at hi
          case isFalse => cases hi
        · exact hn _ r hi
        · have := hcc _ r j a hi ha
          rw [show o' + (l + i) * n + j = o' + l * n + i * n + j from by rw [Nat.add_mul]; omega] at this
          exact this
        · exact hr _ r j a hi ha
end
section
variable {P : Program} {N : Nat} {M0 : Nat → Prop} {w0 : Base} {ops : Array Oper} {Q : Exit → ASt → Prop} {o : Oper} {l : List Oper} {st : ASt}
theorem Aw_condT {c : Operand} {x y : Code} {t : Bool} (hc : st.ev c = .d (.v (.bool t))) (ht : t = true) (h : Aw P N M0 w0 x Q st) : Aw P N M0 w0 (.cond c x y) Q st := Aw_cond hc (fun _ => h) (fun e => by rw [ht] at e; cases e)
theorem Aw_condF {c : Operand} {x y : Code} {t : Bool} (hc : st.ev c = .d (.v (.bool t))) (ht : t = false) (h : Aw P N M0 w0 y Q st) : Aw P N M0 w0 (.cond c x y) Q st := Aw_cond hc (fun e => by rw [ht] at e; cases e) (fun _ => h)
theorem Sub.bool {a b : Bool} (h : a = b) : Sub (.d (.v (.bool a))) (.d (.v (.bool b))) := h ▸ Sub.rfl
/-- An empty row of the call's own. -/
theorem Al_slice0 {d : Nat} {t T : TypeId} {n : Nat} (ho : o.op = .buildSlice t 0 #[]) (hg : o.guard = none) (hd : o.dst = some d) (hN : d < N) (ht : P.underlying t = some (.slice T)) (hz : ∀ w, (sizeOf T).run P w = .ok n w)
    (h : ∀ g, Al P N M0 w0 ops Q l ((st.put d g (.arr T n [])).set d (.ow d g))) : Al P N M0 w0 ops Q (o :: l) st := by
  refine ⟨?_⟩
  rintro a w ⟨ρ, hsim⟩
  have hE : Ev.Ext w (w.alloc (.cells #[] T)) := (Below.refl _ _).alloc (Nat.le_refl _) _
  obtain ⟨g', ρ', k1, k2⟩ := hsim.upd (w' := w.alloc (.cells #[] T)) d ⟨rfl, rfl, rfl⟩ hE.size (fun b hb _ => hE.block b hb) (x' := .slice (some ⟨w.heap.size, 0, none⟩) 0 0) (o' := .arr T n []) (fun b hb => by simp [blk] at hb; exact .inl (by omega))
    (fun M' ρ' hK _ => ⟨[], World.ownsRow_made w #[] 0 (Nat.zero_le _) (by simp) (by simp), ⟨rfl, fun i r v h => by simp at h⟩, ⟨_, _, rfl⟩, by simp, fun b hb => by
      simp [blk] at hb
      exact .inl (by have := hsim.ext.size; omega)⟩)
  refine wpList_plain hg fun K hK => wp_upon ?_
  have e : (execOp a.eval o).run P w = .ok (.value (.slice (some ⟨w.heap.size, 0, none⟩) 0 0)) (w.alloc (.cells #[] T)) := by
    simp [execOp, ho, Instr.buildSlice, run_underlying ht, hz, Instr.fill, newRow, newObj, Sem.run, Sem.run_bind]
    rw [show (Array.range 0) = #[] from by decide, Array.map_empty]
  rw [e]
  refine hK _ _ ((h g').out _ _ ⟨ρ', ?_⟩)
  rw [hd]
  exact k1.set hN ⟨k2, rfl⟩
end
end Go.Proofs.Ytmbaeloiepjakaa.A
