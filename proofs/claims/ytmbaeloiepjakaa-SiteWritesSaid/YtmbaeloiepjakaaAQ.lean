/- Slices of data with three bounds: what is cut has its length as its capacity, so what is appended comes to a new place. -/
import Derived.Test.YtmbaeloiepjakaaAS
set_option linter.unusedSimpArgs false
set_option linter.unusedVariables false
namespace Go.Proofs.Ytmbaeloiepjakaa.A
open Go Go.RowKit
section
variable {P : Program} {N : Nat} {M0 : Nat → Prop} {w0 : Base} {ops : Array Oper} {Q : Exit → ASt → Prop} {o : Oper} {l : List Oper} {st : ASt}
theorem rep_take {M : Nat → Prop} {w : World} {n h : Nat} {rows : List (List AV)} {ad : Option Addr} {c : Nat} (hm : Rep M w (.sl n rows) (.slice ad rows.length c)) (hle : h ≤ rows.length) : Rep M w (.sl n (rows.take h)) (.slice ad h h) := by
  rcases Nat.eq_zero_or_pos h with h0 | h0
  · subst h0
    rw [List.take_zero]
    exact .nil _ _ _
  · have hlen : (rows.take h).length = h := by simp; omega
    generalize hyy : Value.slice ad rows.length c = y at hm
    cases hm with
    | nil n a' c' => simp at hle; omega
    | sl n rows b o' cap f hl hcap hn hcc hr =>
      simp only [Value.slice.injEq] at hyy
      obtain ⟨rfl, _, rfl⟩ := hyy
      have := Rep.sl (M := M) (w := w) n (rows.take h) b o' h f (by rw [hlen]; omega) (by rw [hlen]; exact Nat.le_refl _) (fun i r hi => hn i r (by rw [List.getElem?_take] at hi; split at hi; exact hi; cases hi)) (fun i r j a hi ha => hcc i r j a (by rw [List.getElem?_take] at hi; split at hi; exact hi; cases hi) ha) (fun i r j a hi ha => hr i r j a (by rw [List.getElem?_take] at hi; split at hi; exact hi; cases hi) ha)
      rw [hlen] at this
      exact this
theorem Pu_sub3 {t e : TypeId} {x hi mx : Operand} {n : Nat} {rows : List (List AV)} (h : Nat) (ho : o.op = .slice t x none (some hi) (some mx)) (ht : P.underlying t = some (.slice e)) (hz : ∀ w, (sizeOf e).run P w = .ok n w) (hx : st.ev x = .d (.sl n rows)) (hhi : ∃ z : Int, st.ev hi = .d (.v (.int .i64 z)) ∧ z = h) (hmx : ∃ z : Int, st.ev mx = .d (.v (.int .i64 z)) ∧ z = h) (hle : h ≤ rows.length) : Pu P st o (.slc n (rows.take h)) := Pu_q fun B M ρ w a h2 _ => by
  have hm := h2 x (by simp [opsOf, ho, Op.operands])
  rw [hx] at hm
  have hcap : ∃ ad c, a.eval x = .slice ad rows.length c ∧ rows.length ≤ c := by
    generalize a.eval x = y at hm
    cases hm with
    | nil n a c => exact ⟨_, _, rfl, by simp⟩
    | sl n rows b o' cap f hl hcap => exact ⟨_, _, rfl, hcap⟩
  obtain ⟨ad, c, hy, hc⟩ := hcap
  obtain ⟨z1, k1, k2⟩ := hhi
  obtain ⟨z2, k3, k4⟩ := hmx
  have b1 := fun c => bnd_run (P := P) (w := w) (c := c) (y := h) (h2 hi (by simp [opsOf, ho, Op.operands])) k1 k2 (Nat.le_refl h)
  have b2 := fun c' => bnd_run (P := P) (w := w) (c := c') (y := c) (h2 mx (by simp [opsOf, ho, Op.operands])) k3 k4 (by omega : h ≤ c)
  refine ⟨.slice ad h h, ?_, ?_⟩
  · cases ad <;> simp [execOp, ho, hy, Instr.sliceAt, Sem.run_bind, run_underlying ht, Result.andThen_ok, Instr.slice, Instr.sliceBounds, b1, b2, hz, Sem.run_pure, Addr.add]
  · rw [hy] at hm
    exact ⟨rep_take hm hle, ad, h, rfl⟩
/-- The values that a row of data stands for, and where they lie. -/
theorem rep_cells {M : Nat → Prop} {w : World} {n : Nat} {rows : List (List AV)} {y : Value} (hn : 1 ≤ n) (h2 : Rep M w (.sl n rows) y) : ∃ (us : List (List Value)) (ad : Option Addr) (c : Nat), y = .slice ad rows.length c ∧ rows.length ≤ c ∧ (∀ r ∈ us, r.length = n) ∧ Rows M w n us rows ∧ (rows ≠ [] → ∃ b, ad = some b ∧ ∀ q u, us.flatten[q]? = some u → w.cell? (b.add q) = some u) ∧ ∀ u ∈ us.flatten, u.oneCell' = true := by
  cases h2 with
  | nil n na nc => exact ⟨[], _, _, rfl, by simp, (fun r hr => by cases hr), ⟨rfl, (fun i r v h => by simp at h)⟩, fun h => (h rfl).elim, fun u hu => by simp at hu⟩
  | sl n news b o' cap f hl hcap hn' hcc hr =>
    let us : List (List Value) := (List.range rows.length).map fun i => (List.range n).map fun j => f i j
    have hul : ∀ r ∈ us, r.length = n := fun r hr => by
      simp only [us, List.mem_map] at hr
      obtain ⟨i, _, rfl⟩ := hr
      simp
    have hus : ∀ i, i < rows.length → us[i]? = some ((List.range n).map fun j => f i j) := fun i hi => by
      simp [us, hi]
    have hcell : ∀ i, i < rows.length → ∀ j, j < n → ∃ r a, rows[i]? = some r ∧ r[j]? = some a := fun i hi j hj => by
      have h5 : (rows[i]'hi).length = n := hn' i _ (by simp [hi])
      exact ⟨rows[i], (rows[i]'hi)[j]'(by omega), by simp [hi], by simp [h5, hj]⟩
    have hrr : Rows M w n us rows := by
      refine ⟨by simp [us], fun i r v h3 h4 => ?_⟩
      have hi : i < rows.length := (List.getElem?_eq_some_iff.1 h3).1
      rw [hus i hi] at h4
      simp only [Option.some.injEq] at h4
      subst h4
      refine ⟨hn' i r h3, by simp, fun j a x h5 h6 => ?_⟩
      have hj : j < n := by rw [← hn' i r h3]; exact (List.getElem?_eq_some_iff.1 h5).1
      rw [List.getElem?_map, List.getElem?_range hj] at h6
      simp only [Option.map_some, Option.some.injEq] at h6
      subst h6
      exact ⟨hr i r j a h3 h5, (hcc i r j a h3 h5).2.2⟩
    have hfl : ∀ q u, us.flatten[q]? = some u → ∃ i j r c, i < rows.length ∧ j < n ∧ q = i * n + j ∧ rows[i]? = some r ∧ r[j]? = some c ∧ u = f i j := fun q u hq => by
      rw [flatten_get (by omega) us q hul] at hq
      obtain ⟨r, h5, h6⟩ := Option.bind_eq_some_iff.1 hq
      have hi : q / n < rows.length := by
        have := (List.getElem?_eq_some_iff.1 h5).1
        simpa [us] using this
      have hj : q % n < n := Nat.mod_lt _ (by omega)
      rw [hus _ hi] at h5
      simp only [Option.some.injEq] at h5
      subst h5
      rw [List.getElem?_map, List.getElem?_range hj] at h6
      simp only [Option.map_some, Option.some.injEq] at h6
      obtain ⟨r, c, h7, h8⟩ := hcell _ hi _ hj
      exact ⟨q / n, q % n, r, c, hi, hj, by rw [Nat.mul_comm]; exact (Nat.div_add_mod q n).symm, h7, h8, h6.symm⟩
    refine ⟨us, _, _, rfl, hcap, hul, hrr, fun _ => ⟨_, rfl, fun q u hq => ?_⟩, fun u hu => ?_⟩
    · obtain ⟨i, j, r, c, hi, hj, rfl, h7, h8, rfl⟩ := hfl q u hq
      rw [add_addr, ← Nat.add_assoc]
      exact (hcc i r j c h7 h8).2.1
    · obtain ⟨q, hq, rfl⟩ := List.getElem_of_mem hu
      obtain ⟨i, j, r, c, hi, hj, _, h7, h8, h9⟩ := hfl q _ (by simp [hq] : us.flatten[q]? = some us.flatten[q])
      rw [h9]
      exact (hcc i r j c h7 h8).2.2
/-- A row that was made anew, told as data. -/
theorem rep_own {M : Nat → Prop} {w' : World} {B n : Nat} {T : TypeId} {v : Value} {rows : List (List AV)} {us : List (List Value)} (hn : 1 ≤ n) (hM : ∀ b, M b → b < B) (ho : w'.ownsRow B T n v rows.length us.flatten) (hul : ∀ r ∈ us, r.length = n) (hr : Rows M w' n us rows) (h1 : ∀ u ∈ us.flatten, u.oneCell' = true) (hlen : rows.length ≤ maxI) : Rep M w' (.sl n rows) v := by
  rcases ho.2 with ⟨rfl, hz⟩ | ⟨gb, cap, cur, rfl, hbase, hgb, hnc, hcm, hcs, htk⟩
  · rw [List.eq_nil_of_length_eq_zero hz]
    exact .nil _ _ _
  · have hget : ∀ i j r c, rows[i]? = some r → r[j]? = some c → ∃ u, us.flatten[i * n + j]? = some u ∧ Rep M w' c u := fun i j r c h3 h4 => by
      have hi : i < us.length := by rw [hr.1]; exact (List.getElem?_eq_some_iff.1 h3).1
      obtain ⟨k1, k2, k3⟩ := hr.2 i r us[i] h3 (by simp [hi])
      have hj : j < n := by rw [← k1]; exact (List.getElem?_eq_some_iff.1 h4).1
      have hj2 : j < us[i].length := by omega
      refine ⟨us[i][j], ?_, (k3 j c us[i][j] h4 (by simp [hj2])).1⟩
      rw [flatten_get (by omega) us _ hul]
      have e1 : (i * n + j) / n = i := by rw [Nat.mul_comm, Nat.mul_add_div (by omega), Nat.div_eq_of_lt hj]; omega
      have e2 : (i * n + j) % n = j := by rw [Nat.mul_comm, Nat.mul_add_mod, Nat.mod_eq_of_lt hj]
      rw [e1, e2]
      simp [hi, hj2]
    refine .sl n rows gb 0 cap (fun i j => us.flatten.getD (i * n + j) undef) hlen hnc (fun i r hi => ?_) (fun i r j c h3 h4 => ?_) (fun i r j c h3 h4 => ?_)
    · have hi' : i < us.length := by rw [hr.1]; exact (List.getElem?_eq_some_iff.1 hi).1
      exact (hr.2 i r us[i] hi (by simp [hi'])).1
    · obtain ⟨u, h5, h6⟩ := hget i j r c h3 h4
      refine ⟨fun hm => by have := hM _ hm; omega, ?_, ?_⟩
      · rw [Lib.cell_of_heap hgb]
        have h7 : us.flatten[i * n + j]? = some (us.flatten.getD (i * n + j) undef) := by rw [List.getD_eq_getElem?_getD, h5]; rfl
        have hlt : i * n + j < us.flatten.length := (List.getElem?_eq_some_iff.1 h5).1
        show cur[0 + i * n + j]? = _
        rw [← h7, ← htk, Nat.zero_add, List.getElem?_take, if_pos (by rw [← htk] at hlt; simp at hlt; omega), Array.getElem?_toList]
      · rw [List.getD_eq_getElem?_getD, h5]
        exact h1 u (List.mem_of_getElem? h5)
    · obtain ⟨u, h5, h6⟩ := hget i j r c h3 h4
      rw [List.getD_eq_getElem?_getD, h5]
      exact h6
theorem rows_app {M : Nat → Prop} {w : World} {n : Nat} {us vs : List (List Value)} {rows news : List (List AV)} (h : Rows M w n us rows) (k : Rows M w n vs news) : Rows M w n (us ++ vs) (rows ++ news) := ⟨by rw [List.length_append, List.length_append, h.1, k.1], fun i r u h1 h2 => by
  rcases Nat.lt_or_ge i rows.length with hi | hi
  · rw [List.getElem?_append_left hi] at h1
    rw [List.getElem?_append_left (by rw [h.1]; exact hi)] at h2
    exact h.2 i r u h1 h2
  · rw [List.getElem?_append_right hi] at h1
    rw [List.getElem?_append_right (by rw [h.1]; exact hi), h.1] at h2
    exact k.2 _ r u h1 h2⟩
/-- What is appended to data whose capacity is its length comes to a new place; nothing appended leaves it as it is. -/
theorem Pu_appendC {s x : Operand} {t T : TypeId} {n bytes : Nat} {rows news : List (List AV)} (ho : o.op = .call ⟨.builtin .append, #[s, x], #[t, t]⟩) (hT : R.ElemT P t T n bytes) (hn : 1 ≤ n) (hsz : ∀ w, (sizeOf T).run P w = .ok n w) (hs : st.ev s = .slc n rows) (hx : st.ev x = .d (.sl n news)) (hlen : rows.length + news.length ≤ 4294967296) (hby : bytes ≤ 32768) : Pu P st o (.d (.sl n (rows ++ news))) := Pu_of fun B M ρ w a hM h2 _ => by
  have h1 := h2 s (mem_call ho s (by simp))
  have h4 := h2 x (mem_call ho x (by simp))
  rw [hs] at h1
  rw [hx] at h4
  obtain ⟨hr, ad, len, he⟩ := h1
  obtain ⟨us, ad1, c1, e1, _, hul, hrows, hcell, hone⟩ := rep_cells hn hr
  obtain ⟨vs, ad2, c2, e2, _, hvl, hvrows, hvcell, hvone⟩ := rep_cells hn h4
  have e3 := he.symm.trans e1
  simp only [Value.slice.injEq] at e3
  obtain ⟨rfl, rfl, rfl⟩ := e3
  have hfull : ∀ v' w', (Builtin.append_ #[t, t] o.type #[a.eval s, a.eval x]).run P w = .ok v' w' → (execOp a.eval o).run P w = .ok (.value v') w' := fun v' w' e => by
    simp only [execOp, ho, resolve, invoke, builtin, Sem.run_bind, Sem.run_pure, Result.andThen_ok, List.map_toArray, List.map_cons, List.map_nil, e]
  by_cases hnil : news = []
  · subst hnil
    refine ⟨_, w, hfull _ w ?_, Ev.Ext.refl _, by rw [List.append_nil]; exact hr⟩
    rw [he, e2]
    cases ad <;> cases ad2 <;> simp [Builtin.append_, run_underlying hT.ht, hsz, Builtin.lenOf, Builtin.firstCells, storeCells, loadCells, loadCellsFrom, Result.andThen]
  · obtain ⟨b2, rfl, hb2⟩ := hvcell hnil
    have hnl : 0 < news.length := List.length_pos_iff.2 hnil
    obtain ⟨ix, z, hi, hz, hsize, hbyt, hzs⟩ := hT.hi
    obtain ⟨v', w', h3, h5, h6⟩ : ∃ v' w', (Builtin.append_ #[t, t] o.type #[a.eval s, a.eval x]).run P w = .ok v' w' ∧ w'.ownsRow w.heap.size T n v' (rows.length + news.length) (us.flatten ++ vs.flatten) ∧ Ev.Ext w w' := by
      rw [he, e2]
      have hfl : ∀ (l : List (List Value)), (∀ r ∈ l, r.length = n) → l.flatten.length = l.length * n := fun l hl => flatten_len hl
      have hb1 : (rows.length + news.length) * bytes ≤ 140737488355328 := Nat.le_trans (Nat.mul_le_mul hlen hby) (by decide)
      cases ad with
      | none =>
        have hr0 : rows = [] := Classical.byContradiction fun h => by obtain ⟨b, h5, _⟩ := hcell h; cases h5
        subst hr0
        have hu0 : us = [] := List.eq_nil_of_length_eq_zero hrows.1
        subst hu0
        obtain ⟨v', w', k1, k2, k3, _⟩ := R.run_append (P := P) w w.heap.size t o.type T n bytes hT hn (.slice none 0 0) 0 [] ⟨by simp, .inl ⟨rfl, rfl⟩⟩ b2 news.length c2 vs.flatten (by rw [hfl vs hvl, hvrows.1]) hb2 hvone (by unfold maxLen; simp at hlen; omega) (by simpa using hb1) (Nat.le_refl _)
        exact ⟨v', w', k1, by simpa using k2, ⟨k3.os, k3.tape, k3.output, k3.size, fun k hk => k3.block k hk (by simp [Value.ownBlock])⟩⟩
      | some b1 =>
        have hold : ∀ j u, us.flatten[j]? = some u → w.cell? (b1.add j) = some u := fun j u hj => by
          by_cases hr0 : rows = []
          · have hu0 : us = [] := List.eq_nil_of_length_eq_zero (by rw [hrows.1, hr0]; rfl)
            rw [hu0] at hj; simp at hj
          · obtain ⟨b, h7, h8⟩ := hcell hr0
            cases h7
            exact h8 j u hj
        obtain ⟨v', w', k1, k2, k3⟩ := run_append_arg_grows (P := P) (w := w) t o.type T ix z n bytes hT.ht hi hz hsize hbyt hzs (by omega) b1 rows.length rows.length us.flatten (by rw [hfl us hul, hrows.1]) hold b2 news.length c2 vs.flatten (by rw [hfl vs hvl, hvrows.1]) hb2 (by omega) (by unfold maxLen; omega) hb1
        exact ⟨v', w', k1, k2, ⟨k3.os, k3.tape, k3.output, k3.size, fun k hk => k3.block k hk (by simp)⟩⟩
    have hul2 : ∀ r ∈ us ++ vs, r.length = n := fun r hr => by
      rcases List.mem_append.1 hr with h | h
      · exact hul r h
      · exact hvl r h
    refine ⟨v', w', hfull v' w' h3, h6, rep_own (B := w.heap.size) hn hM (by rw [List.flatten_append, List.length_append]; exact h5) hul2 ((rows_app hrows hvrows).mono (Known.ext h6)) (fun u hu => ?_) (by rw [List.length_append]; unfold maxI; omega)⟩
    rw [List.flatten_append] at hu
    rcases List.mem_append.1 hu with h | h
    · exact hone u h
    · exact hvone u h
end
end Go.Proofs.Ytmbaeloiepjakaa.A
