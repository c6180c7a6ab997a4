/- Abstract states: parts of rows of the call's own; copies, clears, capacities: rows that are turned where they lie. Calls that read such rows. -/
import Derived.Test.YtmbaeloiepjakaaAX
import Derived.Lib.AppendZerosOnto
import Derived.Lib.Overlaps
import Derived.Lib.SliceRun
set_option linter.unusedSimpArgs false
set_option linter.unusedVariables false
namespace Go.Proofs.Ytmbaeloiepjakaa.A
open Go Go.RowKit
theorem flat_take {α : Type} {n : Nat} : ∀ {rows : List (List α)} (h : ∀ r ∈ rows, r.length = n) (k : Nat), (rows.take k).flatten = rows.flatten.take (k * n)
  | [], _, k => by simp
  | r :: rs, h, 0 => by simp
  | r :: rs, h, k + 1 => by
    have hr := h r (by simp)
    have ih := flat_take (rows := rs) (fun q hq => h q (by simp [hq])) k
    simp only [List.take_succ_cons, List.flatten_cons, ih]
    rw [show (k + 1) * n = r.length + k * n from by rw [hr, Nat.add_mul]; omega, List.take_length_add_append]
theorem flat_drop {α : Type} {n : Nat} : ∀ {rows : List (List α)} (h : ∀ r ∈ rows, r.length = n) (k : Nat), (rows.drop k).flatten = rows.flatten.drop (k * n)
  | [], _, k => by simp
  | r :: rs, h, 0 => by simp
  | r :: rs, h, k + 1 => by
    have hr := h r (by simp)
    have ih := flat_drop (rows := rs) (fun q hq => h q (by simp [hq])) k
    simp only [List.drop_succ_cons, List.flatten_cons, ih]
    rw [show (k + 1) * n = r.length + k * n from by rw [hr, Nat.add_mul]; omega, List.drop_length_add_append]
theorem flat_at {α : Type} {n : Nat} {rows : List (List α)} (h : ∀ r ∈ rows, r.length = n) {i j : Nat} (hj : j < n) : rows.flatten[i * n + j]? = (rows[i]?).bind fun r => r[j]? := by
  have e := flat_drop h i
  have e2 : rows.flatten[i * n + j]? = (rows.drop i).flatten[j]? := by rw [e, List.getElem?_drop]
  rw [e2]
  rcases Nat.lt_or_ge i rows.length with hi | hi
  · rw [List.drop_eq_getElem_cons hi, List.flatten_cons, List.getElem?_append_left (by rw [h _ (List.getElem_mem hi)]; exact hj), List.getElem?_eq_getElem hi]; rfl
  · rw [List.drop_eq_nil_of_le hi, List.getElem?_eq_none hi]; rfl
theorem unif_rows {M : Nat → Prop} {w : World} {n : Nat} {vals : List (List Value)} {rows : List (List AV)} (h : Rows M w n vals rows) : ∀ q ∈ rows, q.length = n := fun q hq => by
  obtain ⟨i, hi, rfl⟩ := List.getElem_of_mem hq
  have hi' : i < vals.length := by rw [h.1]; exact hi
  exact (h.2 i _ vals[i] (by simp [hi]) (by simp [hi'])).1
theorem flat_lenA {α : Type} {n : Nat} {rows : List (List α)} (h : ∀ r ∈ rows, r.length = n) : rows.flatten.length = rows.length * n := by
  induction rows with
  | nil => simp
  | cons r rs ih => rw [List.flatten_cons, List.length_append, h r (by simp), ih fun q hq => h q (by simp [hq]), List.length_cons, Nat.add_mul]; omega
section
variable {P : Program} {N : Nat} {M0 : Nat → Prop} {w0 : Base} {ops : Array Oper} {Q : Exit → ASt → Prop} {o : Oper} {l : List Oper} {st : ASt}
/-- Cells are written into a row's block. -/
theorem splice_core {w : World} {M : Nat → Prop} {b off : Nat} {T : TypeId} {n cap : Nat} {cur : Array Value} {vals : List (List Value)} {rows : List (List AV)} (rows' : List (List AV)) {us : List Value} {r : List AV}
    (hgb : w.heap[b]? = some (.cells cur T (0, 0))) (hsz : cur.size = cap * n) (htk : cur.toList.take (rows.length * n) = vals.flatten) (hrw : Rows M w n vals rows) (hr : Cells M w r us) (ho : off ≤ rows.length * n) (hf : off + us.length ≤ cap * n) (hc' : rows'.length ≤ cap)
    (hun : ∀ q ∈ rows', q.length = n) (hfl : rows'.flatten = rows.flatten.take off ++ r ++ rows.flatten.drop (off + r.length)) :
    ∃ w' vs', (storeCells ⟨b, off, none⟩ us 0).run P w = .ok () w' ∧ w'.heap[b]? = some (.cells vs' T (0, 0)) ∧ vs'.size = cap * n ∧ (∀ c, c ≠ b → w'.heap[c]? = w.heap[c]?) ∧ w'.heap.size = w.heap.size ∧ (w'.os = w.os ∧ w'.tape = w.tape ∧ w'.output = w.output) ∧
      ∀ M', Known M M' w w' → ∃ vals', vals'.flatten = vs'.toList.take (rows'.length * n) ∧ Rows M' w' n vals' rows' := by
  have hfr := flat_lenA (unif_rows hrw)
  have hul : us.length = r.length := hr.1
  obtain ⟨w', vs', k1, k2, k3, k4, k5, k6, k7, k8, k9⟩ := run_storeRow (P := P) b off T us 0 w cur hgb (by omega) (fun v hv => by
    obtain ⟨j, hj, rfl⟩ := List.getElem_of_mem hv
    have hj' : j < r.length := by omega
    exact (hr.2 j r[j] _ (by simp [hj']) (by rw [List.getElem?_eq_getElem hj])).2)
  have hcn : rows'.length * n ≤ cap * n := Nat.mul_le_mul_right _ hc'
  refine ⟨w', vs', k1, k2, by rw [k3, hsz], k5, k6, ⟨k7, k8, k9⟩, fun M' hK => ?_⟩
  obtain ⟨vals', hv1, hv2⟩ := rows_of_flat (rows := rows') (L := vs'.toList.take (rows'.length * n)) (M := M') (w := w') hun (by simp; omega) (fun q c z hq hz' => by
    rw [hfl] at hq
    rw [List.getElem?_take] at hz'
    split at hz'
    · rename_i hqn
      have hz2 : vs'[q]? = some z := by simpa using hz'
      rw [k4 q, Nat.add_zero] at hz2
      by_cases e1 : q < off
      · rw [List.append_assoc, List.getElem?_append_left (by rw [List.length_take]; omega), List.getElem?_take, if_pos e1] at hq
        rw [if_neg (by omega)] at hz2
        obtain ⟨z', k10, k11, k12⟩ := rows_flat hrw hq
        rw [← htk, List.getElem?_take, if_pos (by omega)] at k10
        have : cur[q]? = some z' := by simpa using k10
        rw [hz2] at this; cases this
        exact ⟨k11.mono hK, k12⟩
      · by_cases e2 : q < off + r.length
        · rw [List.getElem?_append_left (by rw [List.length_append, List.length_take]; omega), List.getElem?_append_right (by rw [List.length_take]; omega)] at hq
          simp only [List.length_take, Nat.min_eq_left (show off ≤ rows.flatten.length by omega)] at hq
          rw [if_pos (by omega)] at hz2
          obtain ⟨k11, k12⟩ := hr.2 _ c z hq hz2
          exact ⟨k11.mono hK, k12⟩
        · rw [List.getElem?_append_right (by rw [List.length_append, List.length_take]; omega)] at hq
          simp only [List.length_append, List.length_take, Nat.min_eq_left (show off ≤ rows.flatten.length by omega), List.getElem?_drop] at hq
          rw [show off + r.length + (q - (off + r.length)) = q from by omega] at hq
          have hqr : q < rows.length * n := by rw [← hfr]; exact (List.getElem?_eq_some_iff.1 hq).1
          rw [if_neg (by omega)] at hz2
          obtain ⟨z', k10, k11, k12⟩ := rows_flat hrw hq
          rw [← htk, List.getElem?_take, if_pos hqr] at k10
          have : cur[q]? = some z' := by simpa using k10
          rw [hz2] at this; cases this
          exact ⟨k11.mono hK, k12⟩
    · cases hz')
  exact ⟨vals', hv1, hv2⟩
/-- Elements, read for a copy: data, or a part of a row of the call's own. -/
def SrcOf (st : ASt) (y : Operand) (n L : Nat) (news : List (List AV)) : Prop :=
  (st.ev y = .d (.sl n news) ∧ L = news.length) ∨ (∃ k g T rows l h, st.ev y = .ows k g n l h ∧ st.ob k = some (g, .arr T n rows) ∧ L = h - l ∧ news = (rows.take h).drop l) ∨ (∃ k g T, st.ev y = .ow k g ∧ st.ob k = some (g, .arr T n news) ∧ L = news.length)
theorem SrcOf.run {a : Act} {w : World} {ρ : Rho} (hsim : SimR N M0 w0 st ρ a w) {y : Operand} {n L c : Nat} {news : List (List AV)} (hs : SrcOf st y n L news) (hy : SRep (Mt M0 ρ st.ob) w ρ (st.ev y) (a.eval y)) (hn : 0 < n) (hc : c ≤ news.length) :
    (∃ a' cp, a.eval y = .slice a' L cp) ∧ (∀ q ∈ news, q.length = n) ∧ ∃ us, us.length = c * n ∧ (Builtin.firstCells n c (a.eval y)).run P w = .ok us.toArray w ∧ Cells (Mt M0 ρ st.ob) w (news.take c).flatten us := by
  -- part of a row of the call's own, from its cells
  have own : ∀ (k g : Nat) (T : TypeId) (rows : List (List AV)) (l h : Nat) (ad : Option Addr) (len cp : Nat) (a' : Option Addr) (cp' : Nat), st.ob k = some (g, .arr T n rows) → ρ k g = some (.slice ad len cp) → l ≤ h → h ≤ cp → (l < h → ∃ b, ad = some ⟨b, 0, none⟩ ∧ a' = some ⟨b, l * n, none⟩) → news = (rows.take h).drop l → a.eval y = .slice a' L cp' →
      (∀ q ∈ news, q.length = n) ∧ ∃ us, us.length = c * n ∧ (Builtin.firstCells n c (a.eval y)).run P w = .ok us.toArray w ∧ Cells (Mt M0 ρ st.ob) w (news.take c).flatten us := by
    intro k g T rows l h ad len cp a' cp' hob hρ hlh hhc hlt hnews hyy
    obtain ⟨u, hu, hO⟩ := hsim.obj k g _ hob
    rw [hρ] at hu; cases hu
    obtain ⟨vals0, hown0, hrw0, _⟩ := id hO
    have hun := unif_rows hrw0
    have hunn : ∀ q ∈ news, q.length = n := fun q hq => hun q (by rw [hnews] at hq; exact List.mem_of_mem_take (List.mem_of_mem_drop hq))
    refine ⟨hunn, ?_⟩
    rcases Nat.eq_zero_or_pos c with rfl | hc0
    · refine ⟨[], by simp, ?_, by simp [Cells]⟩
      rw [hyy]
      cases a' with
      | none => exact run_firstCells_none w n 0 _ _
      | some a' => exact run_firstCells_some w n 0 a' _ _ [] (by simp) (fun j v hj => by simp at hj)
    · have hnl : news.length = min h rows.length - l := by rw [hnews]; simp
      have hlt' : l < h := by omega
      obtain ⟨b, rfl, rfl⟩ := hlt hlt'
      obtain ⟨cap, cur, vals, he, hgb, hnc, hcm, hsz, htk, hrw, hl, hlb⟩ := arr_at hO (b := b) rfl
      have hlr : l + c ≤ rows.length := by omega
      have hmul : l * n + c * n ≤ rows.length * n := by rw [← Nat.add_mul]; exact Nat.mul_le_mul_right _ hlr
      have hcn : rows.length * n ≤ cap * n := Nat.mul_le_mul_right _ hnc
      have hcur : ∀ q, q < c * n → cur.toList[l * n + q]? = vals.flatten[l * n + q]? := fun q hq => by rw [← htk, List.getElem?_take, if_pos (by omega)]
      refine ⟨(cur.toList.drop (l * n)).take (c * n), by simp; omega, ?_, by simp [List.length_take, flat_lenA (fun q hq => hunn q (List.mem_of_mem_take hq))]; have : (news.take c).length = c := by simp; omega
                                                                             rw [Nat.min_eq_left hc]; omega, fun j x z hj hz => ?_⟩
      · rw [hyy]
        exact run_firstCells_some w n c ⟨b, l * n, none⟩ _ _ _ (by simp; omega) (fun j v hj => by
          rw [List.getElem?_take] at hj
          split at hj
          · rw [List.getElem?_drop] at hj
            have hj2 : cur[l * n + j]? = some v := by simpa using hj
            rw [add_addr, cell_of_row w b (l * n + j) cur T (0, 0) hgb, hj2]
          · cases hj)
      · rw [List.getElem?_take] at hz
        split at hz
        · rename_i hjc
          rw [List.getElem?_drop, hcur j hjc] at hz
          have e : (news.take c).flatten[j]? = rows.flatten[l * n + j]? := by
            rw [flat_take hunn, List.getElem?_take, if_pos hjc, hnews, flat_drop (fun q hq => hun q (List.mem_of_mem_take hq)), List.getElem?_drop, flat_take hun, List.getElem?_take, if_pos]
            have : (l + c) * n ≤ h * n := Nat.mul_le_mul_right _ (by omega)
            rw [Nat.add_mul] at this
            omega
          rw [e] at hj
          obtain ⟨z', k1, k2, k3⟩ := rows_flat hrw hj
          rw [hz] at k1; cases k1
          exact ⟨k2, k3⟩
        · cases hz
  rcases hs with ⟨h1, rfl⟩ | ⟨k, g, T, rows, l, h, h1, hob, rfl, hnews⟩ | ⟨k, g, T, h1, hob, rfl⟩
  · rw [h1] at hy
    have hy : Rep (Mt M0 ρ st.ob) w (.sl n news) (a.eval y) := hy
    generalize a.eval y = v at hy
    cases hy with
    | nil n a' c' =>
      obtain rfl : c = 0 := by simpa using hc
      refine ⟨⟨_, _, rfl⟩, fun q hq => (by cases hq), [], by simp, ?_, by simp [Cells]⟩
      cases a' with
      | none => exact run_firstCells_none w n 0 _ _
      | some a' => exact run_firstCells_some w n 0 a' _ _ [] (by simp) (fun j v hj => by simp at hj)
    | sl n rows b o' cap f hl hcap hn' hcc hr =>
      have hun : ∀ q ∈ news, q.length = n := fun q hq => by
        obtain ⟨i, hi, rfl⟩ := List.getElem_of_mem hq
        exact hn' i _ (by simp [hi])
      have hat : ∀ q, q < c * n → q / n < news.length ∧ q % n < n ∧ q / n * n + q % n = q := fun q hq => by
        have h1 : q / n < c := (Nat.div_lt_iff_lt_mul hn).2 hq
        exact ⟨by omega, Nat.mod_lt _ hn, by rw [Nat.mul_comm]; exact Nat.div_add_mod q n⟩
      have hel : ∀ i, i < news.length → ∀ j, j < n → ∃ r x, news[i]? = some r ∧ r[j]? = some x := fun i hi j hj => by
        have h5 : (news[i]'hi).length = n := hn' i _ (by simp [hi])
        exact ⟨news[i], (news[i]'hi)[j]'(by omega), by simp [hi], by simp [h5, hj]⟩
      refine ⟨⟨_, _, rfl⟩, hun, (List.range (c * n)).map fun q => f (q / n) (q % n), by simp, ?_, ?_, fun j x z hj hz => ?_⟩
      · exact run_firstCells_some w n c ⟨b, o', none⟩ _ _ _ (by simp) (fun j v hj => by
          rw [List.getElem?_map] at hj
          obtain ⟨q, h5, rfl⟩ := Option.map_eq_some_iff.1 hj
          obtain ⟨h6, h7⟩ := List.getElem?_eq_some_iff.1 h5
          simp at h6 h7
          subst h7
          obtain ⟨h8, h9, h10⟩ := hat j h6
          obtain ⟨r, x, h11, h12⟩ := hel _ h8 _ h9
          have := (hcc _ r _ x h11 h12).2.1
          rw [add_addr]
          rw [Nat.add_assoc, h10] at this
          exact this)
      · simp [flat_lenA (fun q hq => hun q (List.mem_of_mem_take hq))]
        rw [Nat.min_eq_left hc]
      · rw [List.getElem?_map] at hz
        obtain ⟨q, h5, rfl⟩ := Option.map_eq_some_iff.1 hz
        obtain ⟨h6, h7⟩ := List.getElem?_eq_some_iff.1 h5
        simp at h6 h7
        subst h7
        obtain ⟨h8, h9, h10⟩ := hat j h6
        obtain ⟨r, x', h11, h12⟩ := hel _ h8 _ h9
        rw [flat_take hun, List.getElem?_take, if_pos h6] at hj
        have e := flat_at hun (i := j / n) h9
        rw [h10, hj, h11] at e
        simp only [Option.bind_some, h12, Option.some.injEq] at e
        subst e
        exact ⟨hr _ r _ x h11 h12, (hcc _ r _ x h11 h12).2.2⟩
  · rw [h1] at hy
    obtain ⟨ad, len, cp, a', k1, k2, k3, k4, k5⟩ := hy
    exact ⟨⟨a', cp - l, k2⟩, own k g T rows l h ad len cp a' _ hob k1 k3 k4 k5 hnews k2⟩
  · rw [h1] at hy
    obtain ⟨k1, _⟩ := hy
    obtain ⟨u, hu, hO⟩ := hsim.obj k g _ hob
    rw [k1] at hu; cases hu
    obtain ⟨vals0, hown0, hrw0, ⟨a1, c1, he⟩, _⟩ := id hO
    have hcap : news.length ≤ c1 ∧ (0 < news.length → ∃ b, a1 = some ⟨b, 0, none⟩) := by
      rcases hown0.2 with ⟨e, e0⟩ | ⟨b, cap, cur, e, _, _, hnc, _⟩
      · exact ⟨by omega, fun h => by omega⟩
      · rw [he] at e; cases e; exact ⟨hnc, fun _ => ⟨b, rfl⟩⟩
    refine ⟨⟨a1, c1, he⟩, own k g T news 0 news.length a1 news.length c1 a1 c1 hob (by rw [k1, he]) (Nat.zero_le _) hcap.1 (fun h => ?_) (by simp) he⟩
    obtain ⟨b, rfl⟩ := hcap.2 h
    exact ⟨b, rfl, by simp⟩
theorem SimR.tell {ρ : Rho} {a : Act} {w : World} (h : SimR N M0 w0 st ρ a w) {j : Nat} {s : SV} (hs : SRep (Mt M0 ρ st.ob) w ρ s (a.tmps.getD j undef)) : SimR N M0 w0 (st.set j s) ρ a w where
  size := h.size
  defers := h.defers
  slot i := by
    show SRep (Mt M0 ρ st.ob) w ρ (bif Nat.beq i j then s else st.sl i) _
    cases hb : Nat.beq i j with
    | true => obtain rfl := Nat.eq_of_beq_eq_true hb; exact hs
    | false => exact h.slot i
  obj := h.obj
  apart := h.apart
  gens := h.gens
  base := h.base
  ext := h.ext
  pin := h.pin
theorem copy_run {x y : Operand} {t t' e : TypeId} {a : Act} {w w' : World} {n L c dl cp sp : Nat} {b : Addr} {sa : Option Addr} {us : List Value} (ho : o.op = .call ⟨.builtin .copy, #[x, y], #[t, t']⟩) (ht : P.underlying t = some (.slice e)) (hz : ∀ w, (sizeOf e).run P w = .ok n w) (hx : a.eval x = .slice (some b) dl cp) (hy : a.eval y = .slice sa L sp) (hc : min L dl = c)
    (hf : (Builtin.firstCells n c (a.eval y)).run P w = .ok us.toArray w) (hst : (storeCells b us 0).run P w = .ok () w') : (execOp a.eval o).run P w = .ok (.value (.int .i64 c)) w' := by
  have hc2 : L.min dl = c := hc
  subst hc2
  rw [hy] at hf
  simp only [execOp, ho, resolve, invoke, builtin, Sem.run_bind, Sem.run_pure, Result.andThen_ok, List.map_toArray, List.map_cons, List.map_nil, hx, hy, Builtin.copy_]
  simp [run_underlying ht, Builtin.lenOf, hz, hf, hst, goInt, Result.andThen]
/-- A part of a row of the call's own is written over. -/
theorem Al_copy {d k g n lo h L c : Nat} {x y : Operand} {t t' e T : TypeId} {rows news : List (List AV)} (ho : o.op = .call ⟨.builtin .copy, #[x, y], #[t, t']⟩) (hg : o.guard = none) (hd : o.dst = some d) (hN : d < N) (hc : conB o = true) (ht : P.underlying t = some (.slice e)) (hz : ∀ w, (sizeOf e).run P w = .ok n w) (hn : 0 < n)
    (hx : st.ev x = .ows k g n lo h) (hob : st.ob k = some (g, .arr T n rows)) (hs : SrcOf st y n L news) (hcm : min L (h - lo) = c) (hc0 : 0 < c) (hcn : c ≤ news.length) (hlc : lo + c ≤ rows.length)
    (hr : Al P N M0 w0 ops Q l ((st.put k g (.arr T n (rows.take lo ++ news.take c ++ rows.drop (lo + c)))).set d (.d (.v (.int .i64 c))))) : Al P N M0 w0 ops Q (o :: l) st := by
  refine ⟨?_⟩
  rintro a w ⟨ρ, hsim⟩
  have hev := hsim.ev hc
  have h1 := hev x (mem_call ho x (by simp))
  have h2 := hev y (mem_call ho y (by simp))
  rw [hx] at h1
  obtain ⟨ad, len, cp, a', k1, k2, k3, k4, k5⟩ := h1
  obtain ⟨b, rfl, rfl⟩ := k5 (by omega)
  obtain ⟨u, hu, hO⟩ := hsim.obj k g _ hob
  rw [k1] at hu; cases hu
  obtain ⟨cap, cur, vals, he, hgb, hnc, hcp, hsz, htk, hrw, hl, hlb⟩ := arr_at hO (b := b) rfl
  have hcc : cap = cp := by cases he; rfl
  subst hcc
  cases he
  obtain ⟨⟨sa, sp, hy⟩, hunn, us, hus, hrun, hcells⟩ := hs.run (P := P) hsim h2 hn hcn
  have hun := unif_rows hrw
  have hfr := flat_lenA hun
  have hlen : (rows.take lo ++ news.take c ++ rows.drop (lo + c)).length = rows.length := by simp; omega
  have e1 : (lo + c) * n ≤ rows.length * n := Nat.mul_le_mul_right _ hlc
  have e2 : rows.length * n ≤ cap * n := Nat.mul_le_mul_right _ hnc
  rw [Nat.add_mul] at e1
  have hcl : (news.take c).flatten.length = c * n := by rw [flat_lenA (fun q hq => hunn q (List.mem_of_mem_take hq)), List.length_take, Nat.min_eq_left hcn]
  obtain ⟨w', vs', q1, q2, q3, q4, q5, q6, q7⟩ := splice_core (P := P) (rows.take lo ++ news.take c ++ rows.drop (lo + c)) hgb hsz htk hrw hcells (off := lo * n) (by omega) (by rw [hus]; omega) (by rw [hlen]; exact hnc)
    (fun q hq => by
      rcases List.mem_append.1 hq with hq | hq
      · rcases List.mem_append.1 hq with hq | hq
        · exact hun q (List.mem_of_mem_take hq)
        · exact hunn q (List.mem_of_mem_take hq)
      · exact hun q (List.mem_of_mem_drop hq))
    (by rw [List.flatten_append, List.flatten_append, flat_take hun, flat_drop hun, hcl, Nat.add_mul])
  have hs2 := hsim.mod (w' := w') hob k1 q6 (by omega) (fun c' hc' hne => q4 c' (fun e => hne (by simp [blk, e]))) (o' := .arr T n (rows.take lo ++ news.take c ++ rows.drop (lo + c))) (fun M' hK _ => by
    obtain ⟨vals', hv1, hv2⟩ := q7 M' hK
    exact ⟨vals', ⟨by have h9 : vs'.toList.length = cap * n := (Array.length_toList ..).trans q3; rw [hv1, List.length_take, hlen, h9]; omega, .inr ⟨b, cap, vs', by rw [hlen], Nat.zero_le _, q2, by rw [hlen]; exact hnc, hcp, q3, hv1.symm⟩⟩, hv2, ⟨_, cap, by rw [hlen]⟩, by rw [hlen]; exact hl, fun c' hc' => by simp only [blk, Option.some.injEq] at hc'; subst hc'; exact hlb⟩)
  refine wpList_plain hg fun K hK => wp_upon ?_
  rw [copy_run ho ht hz k2 hy hcm hrun q1]
  refine hK _ _ (hr.out _ _ ⟨ρ, ?_⟩)
  rw [hd]
  exact hs2.set hN (.v _ (show inI _ by
    have : rows.length ≤ maxI := hl
    simp only [inI, maxI] at *; omega))
/-- The same, beyond its length: slot j is the row from then on. -/
theorem Al_copyUp {d j k g n lo h L c : Nat} {x y : Operand} {t t' e T : TypeId} {rows news : List (List AV)} (ho : o.op = .call ⟨.builtin .copy, #[x, y], #[t, t']⟩) (hg : o.guard = none) (hd : o.dst = some d) (hN : d < N) (hc : conB o = true) (ht : P.underlying t = some (.slice e)) (hz : ∀ w, (sizeOf e).run P w = .ok n w) (hn : 0 < n)
    (hx : st.ev x = .ows k g n lo h) (hob : st.ob k = some (g, .arr T n rows)) (hj : st.sl j = .ows k g n 0 (lo + c)) (hs : SrcOf st y n L news) (hcm : min L (h - lo) = c) (hc0 : 0 < c) (hcn : c ≤ news.length) (hlr : lo ≤ rows.length) (hlc : rows.length ≤ lo + c)
    (hr : ∀ g', Al P N M0 w0 ops Q l (((st.put k g' (.arr T n (rows.take lo ++ news.take c))).set j (.ow k g')).set d (.d (.v (.int .i64 c))))) : Al P N M0 w0 ops Q (o :: l) st := by
  refine ⟨?_⟩
  rintro a w ⟨ρ, hsim⟩
  have hev := hsim.ev hc
  have h1 := hev x (mem_call ho x (by simp))
  have h2 := hev y (mem_call ho y (by simp))
  rw [hx] at h1
  obtain ⟨ad, len, cp, a', k1, k2, k3, k4, k5⟩ := h1
  obtain ⟨b, rfl, rfl⟩ := k5 (by omega)
  have h3 := hsim.slot j
  rw [hj] at h3
  obtain ⟨ad2, len2, cp2, a2, m1, m2, m3, m4, m5⟩ := h3
  rw [k1] at m1; cases m1
  obtain ⟨b2, m6, m7⟩ := m5 (by omega)
  cases m6
  obtain ⟨u, hu, hO⟩ := hsim.obj k g _ hob
  rw [k1] at hu; cases hu
  obtain ⟨cap, cur, vals, he, hgb, hnc, hcp, hsz, htk, hrw, hl, hlb⟩ := arr_at hO (b := b) rfl
  have hcc : cap = cp := by cases he; rfl
  subst hcc
  cases he
  obtain ⟨⟨sa, sp, hy⟩, hunn, us, hus, hrun, hcells⟩ := hs.run (P := P) hsim h2 hn hcn
  have hun := unif_rows hrw
  have hfr := flat_lenA hun
  have hlen : (rows.take lo ++ news.take c).length = lo + c := by simp; omega
  have e1 : (lo + c) * n ≤ cap * n := Nat.mul_le_mul_right _ (by omega)
  have e3 : lo * n ≤ rows.length * n := Nat.mul_le_mul_right _ hlr
  have e4 : rows.length * n ≤ (lo + c) * n := Nat.mul_le_mul_right _ hlc
  rw [Nat.add_mul] at e1 e4
  have hcl : (news.take c).flatten.length = c * n := by rw [flat_lenA (fun q hq => hunn q (List.mem_of_mem_take hq)), List.length_take, Nat.min_eq_left hcn]
  obtain ⟨w', vs', q1, q2, q3, q4, q5, q6, q7⟩ := splice_core (P := P) (rows.take lo ++ news.take c) hgb hsz htk hrw hcells (off := lo * n) (by omega) (by rw [hus]; omega) (by rw [hlen]; omega)
    (fun q hq => by
      rcases List.mem_append.1 hq with hq | hq
      · exact hun q (List.mem_of_mem_take hq)
      · exact hunn q (List.mem_of_mem_take hq))
    (by rw [List.flatten_append, flat_take hun, hcl, List.drop_eq_nil_of_le (by omega), List.append_nil])
  have huniq : ∀ g2 o2 x, st.ob k = some (g2, o2) → ρ k g2 = some x → x = .slice (some ⟨b, 0, none⟩) rows.length cap := fun g2 o2 x e1 e2 => by
    rw [hob] at e1
    simp only [Option.some.injEq, Prod.mk.injEq] at e1
    obtain ⟨rfl, rfl⟩ := e1
    rw [k1] at e2
    exact (Option.some.inj e2).symm
  obtain ⟨g', ρ', r1, r2, r3⟩ := hsim.upd2 (w' := w') k q6 (by omega) (fun c' hc' hne => q4 c' (fun e => hne g _ _ hob k1 (by simp [blk, e]))) (x' := .slice (some ⟨b, 0, none⟩) (lo + c) cap) (o' := .arr T n (rows.take lo ++ news.take c))
    (fun c' hc' => .inr ⟨g, _, _, hob, k1, by simpa [blk] using hc'⟩)
    (fun M' ρ' hK _ => by
      obtain ⟨vals', hv1, hv2⟩ := q7 M' hK
      exact ⟨vals', ⟨by have h9 : vs'.toList.length = cap * n := (Array.length_toList ..).trans q3; rw [hv1, List.length_take, hlen, h9, Nat.add_mul]; omega, .inr ⟨b, cap, vs', by rw [hlen], Nat.zero_le _, q2, by rw [hlen]; omega, hcp, q3, hv1.symm⟩⟩, hv2, ⟨_, cap, by rw [hlen]⟩, by rw [hlen]; simp only [maxLen, maxI] at *; omega, fun c' hc' => by simp only [blk, Option.some.injEq] at hc'; subst hc'; exact hlb⟩)
  refine wpList_plain hg fun K hK => wp_upon ?_
  rw [copy_run ho ht hz k2 hy hcm hrun q1]
  refine hK _ _ ((hr g').out _ _ ⟨ρ', ?_⟩)
  rw [hd]
  exact (r1.tell (j := j) (s := .ow k g') ⟨by rw [r2, m2, m7]; simp, by rw [m2]; rfl⟩).set hN (.v _ (show inI _ by simp only [inI, maxLen] at *; omega))
/-- How a row of the call's own stands: its slice. -/
theorem ORep.form {B : Base} {M : Nat → Prop} {w : World} {ρ : Rho} {v : Value} {T : TypeId} {n : Nat} {rows : List (List AV)} (h : ORep B M w ρ v (.arr T n rows)) : ∃ a c, v = .slice a rows.length c ∧ rows.length ≤ c ∧ c ≤ maxLen ∧ (0 < c → ∃ b, a = some ⟨b, 0, none⟩) := by
  obtain ⟨vals, hown, _⟩ := h
  rcases hown.2 with ⟨rfl, e⟩ | ⟨b, cap, cur, rfl, _, _, hnc, hcm, _⟩
  · exact ⟨none, 0, by rw [e], by omega, Nat.zero_le _, fun h => by omega⟩
  · exact ⟨_, cap, rfl, hnc, hcm, fun _ => ⟨b, rfl⟩⟩
/-- What the capacity of a row of the call's own is. -/
def capTok (k g c : Nat) : OP := ⟨fun _ => False, fun _ _ ρ _ => ∃ a len, ρ k g = some (.slice a len c), fun _ _ h => h, fun hr ⟨a, len, h⟩ => ⟨a, len, hr _ _ _ h⟩, fun _ b hb => hb.elim⟩
theorem Al_cap {d k g kt n : Nat} {x : Operand} {t e T : TypeId} {rows : List (List AV)} (ho : o.op = .call ⟨.builtin .cap, #[x], #[t]⟩) (hg : o.guard = none) (hd : o.dst = some d) (hN : d < N) (hc : conB o = true) (ht : P.underlying t = some (.slice e)) (hx : st.ev x = .ow k g) (hob : st.ob k = some (g, .arr T n rows)) (hkt : st.ob kt = none)
    (hr : ∀ c gt, rows.length ≤ c → c ≤ 4611686018427387904 ∨ c ≤ maxLen → Al P N M0 w0 ops Q l ((st.put kt gt (.op (capTok k g c))).set d (.d (.v (.int .i64 (c : Nat)))))) : Al P N M0 w0 ops Q (o :: l) st := by
  refine ⟨?_⟩
  rintro a w ⟨ρ, hsim⟩
  have h1 := hsim.ev hc x (mem_call ho x (by simp))
  rw [hx] at h1
  obtain ⟨k1, _⟩ := h1
  obtain ⟨u, hu, hO⟩ := hsim.obj k g _ hob
  rw [k1] at hu; cases hu
  obtain ⟨a', c, he, hrc, hcm, _⟩ := hO.form
  obtain ⟨gt, ρ', r1, r2, r3⟩ := hsim.upd2 (w' := w) kt ⟨rfl, rfl, rfl⟩ (Nat.le_refl _) (fun _ _ _ => rfl) (x' := undef) (o' := .op (capTok k g c)) (fun b hb => hb.elim) (fun M' ρ' hK hle => ⟨fun b hb => hb.elim, ⟨a', rows.length, hle _ _ _ (by rw [k1, he])⟩⟩)
  refine wpList_plain hg fun K hK => wp_upon ?_
  have e : (execOp a.eval o).run P w = .ok (.value (.int .i64 c)) w := by
    simp only [execOp, ho, resolve, invoke, builtin, Sem.run_bind, Sem.run_pure, Result.andThen_ok, List.map_toArray, List.map_cons, List.map_nil, he, Builtin.cap_]
    simp [run_underlying ht, goInt, Result.andThen]
  rw [e]
  refine hK _ _ ((hr c gt hrc (.inr hcm)).out _ _ ⟨ρ', ?_⟩)
  rw [hd]
  exact r1.set hN (.v _ (show inI _ by simp only [inI, maxLen] at *; omega))
theorem slice_run {M : Nat → Prop} {w : World} {ρ : Rho} {a : Act} {t e : TypeId} {x : Operand} {lo hi : Option Operand} {n len cap lw h : Nat} {ad : Option Addr} (ho : o.op = .slice t x lo hi none) (ht : P.underlying t = some (.slice e)) (hz : ∀ w, (sizeOf e).run P w = .ok n w) (h2 : ∀ x ∈ opsOf o, SRep M w ρ (st.ev x) (a.eval x)) (hx : a.eval x = .slice ad len cap) (hlo : bndA st lo 0 lw) (hhi : bndA st hi len h) (hle : lw ≤ h ∧ h ≤ cap) :
    (execOp a.eval o).run P w = .ok (.value (.slice (if cap = lw then ad else ad.map (·.add (lw * n))) (h - lw) (cap - lw))) w := by
  have hb := bnds_run (P := P) (w := w) (a := a) (len := len) (cap := cap) true (M := M) (ρ := ρ) (fun y hy => h2 y (by simp only [opsOf, ho, Op.operands, Array.toList_append, List.mem_append]; simp only [List.mem_append] at hy; rcases hy with hy | hy <;> simp_all)) hlo hhi hle.1 hle.2
  simp only [execOp, ho, hx, Instr.sliceAt, Sem.run_bind, run_underlying ht, Result.andThen_ok, Instr.slice, Option.map_none, hb, hz, Sem.run_pure]
/-- A part of a row of the call's own; beyond its length, where its capacity is known. -/
theorem Pu_sliceOw {t e T : TypeId} {x : Operand} {lo hi : Option Operand} {k g n : Nat} {rows : List (List AV)} (lw h : Nat) (ho : o.op = .slice t x lo hi none) (ht : P.underlying t = some (.slice e)) (hz : ∀ w, (sizeOf e).run P w = .ok n w) (hx : st.ev x = .ow k g) (hob : st.ob k = some (g, .arr T n rows)) (hlo : bndA st lo 0 lw) (hhi : bndA st hi rows.length h) (hle : lw ≤ h ∧ (h ≤ rows.length ∨ ∃ kt gt c, st.ob kt = some (gt, .op (capTok k g c)) ∧ h ≤ c)) : Pu P st o (.ows k g n lw h) := fun B M ρ w a hM h2 h3 hev K hK => by
  have h1 := h2 x (by simp [opsOf, ho, Op.operands])
  rw [hx] at h1
  obtain ⟨k1, _⟩ := h1
  obtain ⟨u, hu, hO⟩ := h3 k g _ hob
  rw [k1] at hu; cases hu
  obtain ⟨ad, c, he, hrc, hcm, hbb⟩ := hO.form
  have hhc : h ≤ c := by
    rcases hle.2 with h4 | ⟨kt, gt, c', h4, h5⟩
    · omega
    · obtain ⟨u, _, _, a', len', h6⟩ := h3 kt gt _ h4
      rw [k1, he] at h6; cases h6
      exact h5
  rw [slice_run ho ht hz h2 he hlo hhi ⟨hle.1, hhc⟩]
  refine hK _ _ (Kn.refl _) ⟨ad, rows.length, c, _, by rw [k1, he], rfl, hle.1, hhc, fun hlt => ?_⟩
  obtain ⟨b, rfl⟩ := hbb (by omega)
  exact ⟨b, rfl, by rw [if_neg (by omega)]; simp [add_addr]⟩
/-- A part of such a part. -/
theorem Pu_sliceOws {t e : TypeId} {x : Operand} {lo : Option Operand} {k g n l0 h0 : Nat} (lw l1 : Nat) (ho : o.op = .slice t x lo none none) (ht : P.underlying t = some (.slice e)) (hz : ∀ w, (sizeOf e).run P w = .ok n w) (hx : st.ev x = .ows k g n l0 h0) (hlo : bndA st lo 0 lw) (hle : l0 + lw ≤ h0) (hl1 : l0 + lw = l1) : Pu P st o (.ows k g n l1 h0) := fun B M ρ w a hM h2 h3 hev K hK => by
  subst hl1
  have h1 := h2 x (by simp [opsOf, ho, Op.operands])
  rw [hx] at h1
  obtain ⟨ad, len, c, a', k1, k2, k3, k4, k5⟩ := h1
  rw [slice_run ho ht hz h2 k2 hlo (show bndA st none (h0 - l0) (h0 - l0) from rfl) (by omega)]
  refine hK _ _ (Kn.refl _) ⟨ad, len, c, _, k1, by rw [show h0 - l0 - lw = h0 - (l0 + lw) from by omega, show c - l0 - lw = c - (l0 + lw) from by omega], hle, k4, fun hlt => ?_⟩
  obtain ⟨b, rfl, rfl⟩ := k5 (by omega)
  exact ⟨b, rfl, by rw [if_neg (by omega)]; simp [add_addr, Nat.add_mul]⟩
/-- A row of the call's own, made shorter. -/
theorem Al_cut {d k g n : Nat} {x : Operand} {lo hi : Option Operand} {t e T : TypeId} {rows : List (List AV)} (h : Nat) (ho : o.op = .slice t x lo hi none) (hg : o.guard = none) (hd : o.dst = some d) (hN : d < N) (hc : conB o = true) (ht : P.underlying t = some (.slice e)) (hz : ∀ w, (sizeOf e).run P w = .ok n w) (hx : st.ev x = .ow k g) (hob : st.ob k = some (g, .arr T n rows)) (hlo : bndA st lo 0 0) (hhi : bndA st hi rows.length h) (hle : h ≤ rows.length)
    (hr : ∀ g', Al P N M0 w0 ops Q l ((st.put k g' (.arr T n (rows.take h))).set d (.ow k g'))) : Al P N M0 w0 ops Q (o :: l) st := by
  refine ⟨?_⟩
  rintro a w ⟨ρ, hsim⟩
  have hev := hsim.ev hc
  have h1 := hev x (by simp [opsOf, ho, Op.operands])
  rw [hx] at h1
  obtain ⟨k1, _⟩ := h1
  obtain ⟨u, hu, hO⟩ := hsim.obj k g _ hob
  rw [k1] at hu; cases hu
  obtain ⟨ad, c, he, hrc, hcm, hbb⟩ := hO.form
  have hrun := slice_run ho ht hz hev he hlo hhi ⟨Nat.zero_le _, by omega⟩
  have hlen : (rows.take h).length = h := by simp; omega
  obtain ⟨g', ρ', r1, r2, r3⟩ := hsim.upd2 (w' := w) k ⟨rfl, rfl, rfl⟩ (Nat.le_refl _) (fun _ _ _ => rfl) (x' := .slice (if c = 0 then ad else ad.map (·.add (0 * n))) (h - 0) (c - 0)) (o' := .arr T n (rows.take h)) (fun b hb => .inr ⟨g, _, _, hob, k1, by
      rw [he]
      cases ad with
      | none => simp [blk] at hb
      | some ad => by_cases hc0 : c = 0 <;> simp [blk, hc0, Addr.add] at hb ⊢ <;> exact hb⟩) (fun M' ρ' hK _ => by
    obtain ⟨vals, hown, hrw, _, hl, hlb⟩ := hO.mono hK (fun _ _ => rfl)
    have hun := unif_rows hrw
    have hunv : ∀ q ∈ vals, q.length = n := fun q hq => by
      obtain ⟨i, hi, rfl⟩ := List.getElem_of_mem hq
      have hi' : i < rows.length := by rw [← hrw.1]; exact hi
      exact (hrw.2 i rows[i] _ (by simp [hi']) (by simp [hi])).2.1
    have hvl : vals.length = rows.length := hrw.1
    refine ⟨vals.take h, ⟨by rw [flat_lenA (fun q hq => hunv q (List.mem_of_mem_take hq)), hlen]; simp; rw [hvl, Nat.min_eq_left hle], ?_⟩, ⟨by simp [hvl], fun i r v h4 h5 => ?_⟩, ⟨_, c, by rw [hlen]; rfl⟩, by rw [hlen]; omega, fun b hb => ?_⟩
    · rcases hown.2 with ⟨e, e0⟩ | ⟨b, cap, cur, e, hbz, hgb, hnc, hcm, hsz, htk⟩
      · rw [he] at e
        simp only [Value.slice.injEq] at e
        obtain ⟨rfl, _, rfl⟩ := e
        refine .inl ⟨?_, by rw [hlen]; omega⟩
        rw [show h = 0 by omega]; rfl
      · rw [he] at e; cases e
        refine .inr ⟨b, c, cur, ?_, hbz, hgb, by rw [hlen]; omega, hcm, hsz, ?_⟩
        · rw [hlen]; by_cases hc0 : c = 0 <;> simp [hc0, add_addr]
        · have e3 : h * n ≤ rows.length * n := Nat.mul_le_mul_right _ hle
          rw [hlen, flat_take hunv, ← htk, List.take_take, Nat.min_eq_left e3]
    · rw [List.getElem?_take] at h4 h5
      split at h4
      · rename_i hih
        rw [if_pos hih] at h5
        exact hrw.2 i r v h4 h5
      · cases h4
    · refine hlb b ?_
      rw [he]
      cases ad with
      | none => by_cases hc0 : c = 0 <;> simp [blk, hc0] at hb
      | some ad => by_cases hc0 : c = 0 <;> simp [blk, hc0, Addr.add] at hb ⊢ <;> exact hb)
  refine wpList_plain hg fun K hK => wp_upon ?_
  rw [hrun]
  refine hK _ _ ((hr g').out _ _ ⟨ρ', ?_⟩)
  rw [hd]
  exact r1.set hN ⟨r2, rfl⟩
theorem zeroCells_list (z : Array Value) (k : Nat) (hz : 0 < z.size) : (Builtin.zeroCells z k).toList = (List.replicate k z.toList).flatten := by
  apply List.ext_getElem?
  intro q
  have hun : ∀ r ∈ List.replicate k z.toList, r.length = z.size := fun r hr => by rw [List.eq_of_mem_replicate hr]; simp
  have hlen := flat_lenA hun
  rw [List.length_replicate] at hlen
  by_cases hq : q < k * z.size
  · have e := flat_at hun (i := q / z.size) (Nat.mod_lt q hz)
    rw [show q / z.size * z.size + q % z.size = q from by rw [Nat.mul_comm]; exact Nat.div_add_mod q _] at e
    rw [e]
    have h1 : q / z.size < k := (Nat.div_lt_iff_lt_mul hz).2 hq
    simp only [Builtin.zeroCells, Array.toList_map, Array.toList_range, List.getElem?_map, List.getElem?_range hq, Option.map_some]
    rw [List.getElem?_replicate, if_pos h1]
    simp [getElem!_pos, Nat.mod_lt q hz]
  · rw [List.getElem?_eq_none (by simp [Builtin.zeroCells]; omega), List.getElem?_eq_none (by omega)]
theorem zero_cells {M : Nat → Prop} {w : World} {z : Value} {zs : List AV} (hzs : z.cells.toList.map AV.v = zs) (hv : z.cells.toList.all (fun z => decide (vok z)) = true) (k : Nat) : Cells M w (List.replicate k zs).flatten (List.replicate k z.cells.toList).flatten := by
  subst hzs
  have e : (List.replicate k (z.cells.toList.map AV.v)).flatten = (List.replicate k z.cells.toList).flatten.map AV.v := by
    rw [← List.map_replicate, List.map_flatten]
  rw [e]
  refine ⟨by simp, fun j x u hj hu => ?_⟩
  rw [List.getElem?_map, hu] at hj
  simp only [Option.map_some, Option.some.injEq] at hj
  subst hj
  have hm : u ∈ z.cells.toList := by
    obtain ⟨r, hr, hu⟩ := List.mem_flatten.1 (List.mem_of_getElem? hu)
    rwa [List.eq_of_mem_replicate hr] at hu
  have : vok u := by simpa using List.all_eq_true.1 hv u hm
  exact ⟨.v u this, this.one⟩
/-- The end of a row of the call's own is cleared. -/
theorem Al_clear {d k g n lo h : Nat} {x : Operand} {t e T : TypeId} {z : Value} {zs : List AV} {rows : List (List AV)} (ho : o.op = .call ⟨.builtin .clear, #[x], #[t]⟩) (hg : o.guard = none) (hd : o.dst = some d) (hN : d < N) (hc : conB o = true) (ht : P.underlying t = some (.slice e)) (hz : ∀ w, (zeroValue e).run P w = .ok z w) (hzn : z.cells.size = n) (hn : 0 < n)
    (hzs : z.cells.toList.map AV.v = zs) (hv : z.cells.toList.all (fun z => decide (vok z)) = true) (hx : st.ev x = .ows k g n lo h) (hob : st.ob k = some (g, .arr T n rows)) (hh : h = rows.length)
    (hr : Al P N M0 w0 ops Q l ((st.put k g (.arr T n (rows.take lo ++ List.replicate (h - lo) zs))).set d .any)) : Al P N M0 w0 ops Q (o :: l) st := by
  refine ⟨?_⟩
  rintro a w ⟨ρ, hsim⟩
  have h1 := hsim.ev hc x (mem_call ho x (by simp))
  rw [hx] at h1
  obtain ⟨ad, len, cp, a', k1, k2, k3, k4, k5⟩ := h1
  obtain ⟨u, hu, hO⟩ := hsim.obj k g _ hob
  rw [k1] at hu; cases hu
  subst hh
  have fin : ∀ w', SimR N M0 w0 (st.put k g (.arr T n (rows.take lo ++ List.replicate (rows.length - lo) zs))) ρ a w' → (execOp a.eval o).run P w = .ok (.value (.tuple #[])) w' → wpList P ops (QL N M0 w0 Q) (o :: l) a w := fun w' hs e => by
    refine wpList_plain hg fun K hK => wp_upon ?_
    rw [e]
    refine hK _ _ (hr.out _ _ ⟨ρ, ?_⟩)
    rw [hd]
    exact hs.set hN trivial
  by_cases hlt : lo < rows.length
  · obtain ⟨b, rfl, rfl⟩ := k5 hlt
    obtain ⟨cap, cur, vals, he, hgb, hnc, hcp, hsz, htk, hrw, hl, hlb⟩ := arr_at hO (b := b) rfl
    have hcc : cap = cp := by cases he; rfl
    subst hcc
    cases he
    have hun := unif_rows hrw
    have hfr := flat_lenA hun
    have hzl : zs.length = n := by rw [← hzs]; simp [hzn]
    have hrl : (List.replicate (rows.length - lo) zs).flatten.length = (rows.length - lo) * n := by simp [hzl]
    have hul : (List.replicate (rows.length - lo) z.cells.toList).flatten.length = (rows.length - lo) * n := by simp [hzn]
    have hlen : (rows.take lo ++ List.replicate (rows.length - lo) zs).length = rows.length := by simp; omega
    have e1 : lo * n + (rows.length - lo) * n = rows.length * n := by rw [← Nat.add_mul]; congr 1; omega
    have e2 : rows.length * n ≤ cap * n := Nat.mul_le_mul_right _ hnc
    obtain ⟨w', vs', q1, q2, q3, q4, q5, q6, q7⟩ := splice_core (P := P) (rows.take lo ++ List.replicate (rows.length - lo) zs) hgb hsz htk hrw (zero_cells hzs hv (rows.length - lo)) (off := lo * n) (by omega) (by rw [hul]; omega) (by rw [hlen]; exact hnc)
      (fun q hq => by
        rcases List.mem_append.1 hq with hq | hq
        · exact hun q (List.mem_of_mem_take hq)
        · rw [List.eq_of_mem_replicate hq]; exact hzl)
      (by rw [List.flatten_append, flat_take hun, hrl, List.drop_eq_nil_of_le (by omega), List.append_nil])
    refine fin w' (hsim.mod (w' := w') hob k1 q6 (by omega) (fun c' hc' hne => q4 c' (fun e => hne (by simp [blk, e]))) (fun M' hK _ => by
      obtain ⟨vals', hv1, hv2⟩ := q7 M' hK
      exact ⟨vals', ⟨by have h9 : vs'.toList.length = cap * n := (Array.length_toList ..).trans q3; rw [hv1, List.length_take, hlen, h9]; omega, .inr ⟨b, cap, vs', by rw [hlen], Nat.zero_le _, q2, by rw [hlen]; exact hnc, hcp, q3, hv1.symm⟩⟩, hv2, ⟨_, cap, by rw [hlen]⟩, by rw [hlen]; exact hl, fun c' hc' => by simp only [blk, Option.some.injEq] at hc'; subst hc'; exact hlb⟩)) ?_
    have hne : rows.length - lo ≠ 0 := by omega
    rw [← zeroCells_list z.cells _ (by omega)] at q1
    simp only [execOp, ho, resolve, invoke, builtin, Sem.run_bind, Sem.run_pure, Result.andThen_ok, List.map_toArray, List.map_cons, List.map_nil, k2, Builtin.clear_]
    simp [run_underlying ht, hz, hne, q1, Result.andThen]
  · have hll : rows.length - lo = 0 := by omega
    refine fin w (hsim.mod (w' := w) hob k1 ⟨rfl, rfl, rfl⟩ (Nat.le_refl _) (fun _ _ _ => rfl) (fun M' hK _ => ?_)) ?_
    · rw [hll, List.replicate_zero, List.append_nil, List.take_of_length_le (by omega)]
      exact hO.mono hK fun _ _ => rfl
    · simp only [execOp, ho, resolve, invoke, builtin, Sem.run_bind, Sem.run_pure, Result.andThen_ok, List.map_toArray, List.map_cons, List.map_nil, k2, hll, Builtin.clear_]
      cases a' <;> simp [run_underlying ht, Result.andThen]
/-- A part of a row's beginning, and zero values, where there is no room for these: a new row. -/
theorem Al_appendZ {d k g n i zz : Nat} {x y : Operand} {t ti e T : TypeId} {bytes : Nat} {zv : Value} {zs : List AV} {rows : List (List AV)} (ho : o.op = .call ⟨.builtin .append, #[x, y], #[t, ti]⟩) (hg : o.guard = none) (hd : o.dst = some d) (hN : d < N) (hc : conB o = true) (hT : R.ElemT P t e n bytes) (hti : P.underlying ti = some (.int .i64)) (hz : ∀ w, (zeroValue e).run P w = .ok zv w) (hn : 0 < n)
    (hzs : zv.cells.toList.map AV.v = zs) (hv : zv.cells.toList.all (fun z => decide (vok z)) = true) (hx : st.ev x = .ows k g n 0 i) (hob : st.ob k = some (g, .arr T n rows)) {zi : Int} (hy : st.ev y = .d (.v (.int .i64 zi))) (hzi : zi = (zz : Nat)) (hi : i ≤ rows.length) (hz0 : 0 < zz) {kt gt c : Nat} (htok : st.ob kt = some (gt, .op (capTok k g c))) (hcz : c < i + zz) (hlen : i + zz ≤ 4294967296) (hby : bytes ≤ 32768)
    (hr : ∀ g', Al P N M0 w0 ops Q l ((st.put d g' (.arr e n (rows.take i ++ List.replicate zz zs))).set d (.ow d g'))) (hdn : st.ob d = none) : Al P N M0 w0 ops Q (o :: l) st := by
  refine ⟨?_⟩
  rintro a w ⟨ρ, hsim⟩
  have hev := hsim.ev hc
  have h1 := hev x (mem_call ho x (by simp))
  have h2 := hev y (mem_call ho y (by simp))
  rw [hx] at h1
  rw [hy, hzi] at h2
  have h2 : a.eval y = .int .i64 (zz : Nat) := by generalize a.eval y = u at h2; cases h2; rfl
  obtain ⟨ad, len, c1, a', k1, k2, k3, k4, k5⟩ := h1
  obtain ⟨_, _, _, a3, len3, htk3⟩ := hsim.obj kt gt _ htok
  rw [k1] at htk3
  have hc1 : c = c1 := by cases htk3; rfl
  subst hc1
  obtain ⟨u, hu, hO⟩ := hsim.obj k g _ hob
  rw [k1] at hu; cases hu
  obtain ⟨ii, z, hii, hiz, hsize, hbytes, hzsz⟩ := hT.hi
  have hzz : z = zv := by
    have := hz w
    simp [zeroValue, typeInfo, hii, hiz] at this
    exact this
  subst hzz
  obtain ⟨vals0, hown0, hrw0, _⟩ := id hO
  have hun := unif_rows hrw0
  have hzl : zs.length = n := by rw [← hzs]; simp [hzsz]
  -- the cells ahead
  obtain ⟨olds, hol, hold, hoc⟩ : ∃ olds : List Value, olds.length = i * n ∧ (Builtin.firstCells ii.size i (.slice a' i c)).run P w.drew = .ok olds.toArray w.drew ∧ Cells (Mt M0 ρ st.ob) w (rows.take i).flatten olds := by
    rw [hsize]
    rcases Nat.eq_zero_or_pos i with rfl | hi0
    · refine ⟨[], by simp, ?_, by simp [Cells]⟩
      cases a' with
      | none => exact run_firstCells_none w.drew n 0 _ _
      | some a' => exact run_firstCells_some w.drew n 0 a' _ _ [] (by simp) (fun j v hj => by simp at hj)
    · obtain ⟨b, rfl, rfl⟩ := k5 hi0
      obtain ⟨cap, cur, vals, he, hgb, hnc, hcp, hsz, htk, hrw, hl, hlb⟩ := arr_at hO (b := b) rfl
      have e1 : i * n ≤ rows.length * n := Nat.mul_le_mul_right _ hi
      have e2 : rows.length * n ≤ cap * n := Nat.mul_le_mul_right _ hnc
      have hcur : ∀ q, q < i * n → cur.toList[q]? = vals.flatten[q]? := fun q hq => by rw [← htk, List.getElem?_take, if_pos (by omega)]
      refine ⟨cur.toList.take (i * n), by simp; omega, ?_, (by have h9 : cur.toList.length = cap * n := (Array.length_toList ..).trans hsz; rw [List.length_take, h9, flat_take hun, List.length_take, flat_lenA hun]; omega), fun j x z hj hz => ?_⟩
      · exact run_firstCells_some w.drew n i ⟨b, 0 * n, none⟩ _ _ _ (by simp; omega) (fun j v hj => by
          rw [List.getElem?_take] at hj
          split at hj
          · have hj2 : cur[j]? = some v := by simpa using hj
            rw [add_addr, Nat.zero_mul, Nat.zero_add]
            exact (cell_of_row w b j cur T (0, 0) hgb).trans hj2
          · cases hj)
      · rw [List.getElem?_take] at hz
        split at hz
        · rename_i hji
          rw [hcur j hji] at hz
          rw [flat_take hun, List.getElem?_take, if_pos hji] at hj
          obtain ⟨z', m1, m2, m3⟩ := rows_flat hrw hj
          rw [hz] at m1; cases m1
          exact ⟨m2, m3⟩
        · cases hz
  have hfit : Builtin.nextslicecap (i + zz) c * ii.bytes ≤ 281474976710656 := by
    rw [hbytes]
    exact growslice_fits (by omega) (Nat.le_trans (Nat.mul_le_mul hlen hby) (by decide))
  have hrun := Lib.run_append_grow_zeros (P := P) w t ti o.type e ii z .i64 .i64 hT.ht hti hii hiz a' i c olds hold zz hz0 (by omega) (by omega) (by omega) (by rw [hbytes]; exact Nat.le_trans (Nat.mul_le_mul (show zz ≤ 4294967296 by omega) hby) (by decide)) hfit
  have hG := grownCap_ge w (i + zz) c e
  have hGm := grownCap_le_maxLen w (i + zz) c e (by simp only [maxLen]; omega)
  generalize grownCap w (i + zz) c e = G at *
  generalize hcur' : olds.toArray ++ Builtin.zeroCells z.cells zz ++ Builtin.zeroCells z.cells (G - (i + zz)) = cur' at hrun
  have hcs : cur'.size = G * n := by
    rw [← hcur']
    simp [Builtin.zeroCells, hzsz, hol]
    rw [← Nat.add_mul, ← Nat.add_mul]; congr 1; omega
  have hct : cur'.toList.take ((i + zz) * n) = olds ++ (List.replicate zz z.cells.toList).flatten := by
    rw [← hcur', Array.toList_append, Array.toList_append, zeroCells_list z.cells zz (by omega)]
    rw [List.take_append, List.take_of_length_le (by simp [hol, hzsz, Nat.add_mul])]
    rw [show (i + zz) * n - (olds.toArray.toList ++ (List.replicate zz z.cells.toList).flatten).length = 0 from by simp [hol, hzsz, Nat.add_mul]]
    simp
  obtain ⟨g', ρ', r1, r2, r3⟩ := hsim.upd2 (w' := w.drew.alloc (.cells cur' e)) d ⟨rfl, rfl, rfl⟩ (by rw [World.size_alloc]; exact Nat.le_succ _) (fun b hb _ => heap_alloc_old w.drew _ hb) (x' := .slice (some ⟨w.heap.size, 0, none⟩) (i + zz) G) (o' := .arr e n (rows.take i ++ List.replicate zz zs))
    (fun b hb => .inl (by simp only [fpO, blk, Option.some.injEq] at hb; omega))
    (fun M' ρ' hK _ => by
      have hcl : Cells M' (w.drew.alloc (.cells cur' e)) ((rows.take i ++ List.replicate zz zs).flatten) (olds ++ (List.replicate zz z.cells.toList).flatten) := by
        rw [List.flatten_append]
        have c1 := hoc.mono hK
        have c2 := zero_cells (M := M') (w := w.drew.alloc (.cells cur' e)) hzs hv zz
        refine ⟨by simp [c1.1, c2.1], fun j x u hj hu => ?_⟩
        rcases Nat.lt_or_ge j olds.length with hjo | hjo
        · rw [List.getElem?_append_left (by rw [← c1.1]; exact hjo)] at hj
          rw [List.getElem?_append_left hjo] at hu
          exact c1.2 j x u hj hu
        · rw [List.getElem?_append_right (by rw [← c1.1]; exact hjo)] at hj
          rw [List.getElem?_append_right hjo] at hu
          rw [← c1.1] at hj
          exact c2.2 _ x u hj hu
      have hlen' : (rows.take i ++ List.replicate zz zs).length = i + zz := by simp; omega
      obtain ⟨vals', hv1, hv2⟩ := rows_of_flat (rows := rows.take i ++ List.replicate zz zs) (L := olds ++ (List.replicate zz z.cells.toList).flatten) (M := M') (w := w.drew.alloc (.cells cur' e)) (fun q hq => by
        rcases List.mem_append.1 hq with hq | hq
        · exact hun q (List.mem_of_mem_take hq)
        · rw [List.eq_of_mem_replicate hq]; exact hzl) (by rw [hlen']; simp [hol, hzsz, Nat.add_mul]) (fun q c' z' hq hz' => hcl.2 q c' z' hq hz')
      refine ⟨vals', ⟨by rw [hv1, hlen']; simp [hol, hzsz, Nat.add_mul], .inr ⟨w.heap.size, G, cur', by rw [hlen'], Nat.zero_le _, heap_alloc_new w.drew _, by rw [hlen']; exact hG, hGm, hcs, by rw [hlen', hct, hv1]⟩⟩, hv2, ⟨_, G, by rw [hlen']⟩, by rw [hlen']; simp only [maxI]; omega, fun b hb => ?_⟩
      simp only [blk, Option.some.injEq] at hb
      subst hb
      exact .inl hsim.ext.size)
  refine wpList_plain hg fun K hK => wp_upon ?_
  have e : (execOp a.eval o).run P w = .ok (.value (.slice (some ⟨w.heap.size, 0, none⟩) (i + zz) G)) (w.drew.alloc (.cells cur' e)) := by
    simp only [execOp, ho, resolve, invoke, builtin, Sem.run_bind, Sem.run_pure, Result.andThen_ok, List.map_toArray, List.map_cons, List.map_nil, k2, h2, Nat.sub_zero, hrun]
  rw [e]
  refine hK _ _ ((hr g').out _ _ ⟨ρ', ?_⟩)
  rw [hd]
  exact r1.set hN ⟨r2, rfl⟩
/-- Elements of another row of the call's own are appended. -/
theorem Al_appendOw {d k g k2 g2 : Nat} {s x : Operand} {t T T2 : TypeId} {n bytes : Nat} {rows news : List (List AV)} (ho : o.op = .call ⟨.builtin .append, #[s, x], #[t, t]⟩) (hg : o.guard = none) (hd : o.dst = some d) (hN : d < N) (hc : conB o = true) (hT : R.ElemT P t T n bytes) (hn : 1 ≤ n) (hsz : ∀ w, (sizeOf T).run P w = .ok n w)
    (hs : st.ev s = .ow k g) (hob : st.ob k = some (g, .arr T n rows)) (hx : st.ev x = .ow k2 g2) (hob2 : st.ob k2 = some (g2, .arr T2 n news)) (hn0 : 0 < news.length) (hlen : rows.length + news.length ≤ 4294967296) (hby : bytes ≤ 32768)
    (h : ∀ g', Al P N M0 w0 ops Q l ((st.put k g' (.arr T n (rows ++ news))).set d (.ow k g'))) : Al P N M0 w0 ops Q (o :: l) st := by
  refine ⟨?_⟩
  rintro a w ⟨ρ, hsim⟩
  have hev := hsim.ev hc
  have h1 := hev s (mem_call ho s (by simp))
  have h2 := hev x (mem_call ho x (by simp))
  rw [hs] at h1
  rw [hx] at h2
  obtain ⟨v, hv1, vals, hown, hrows, ⟨va, vc, hvf⟩, _, hlb⟩ := hsim.obj k g _ hob
  have hvs : a.eval s = v := by
    have := h1.1
    rw [hv1] at this
    exact (Option.some.inj this).symm
  have hvlen : ∀ r ∈ vals, r.length = n := fun r hr => by
    obtain ⟨i, hi, rfl⟩ := List.getElem_of_mem hr
    have hi' : i < rows.length := by rw [← hrows.1]; exact hi
    exact (hrows.2 i rows[i] vals[i] (by simp [hi']) (by simp [hi])).2.1
  -- the source's cells
  obtain ⟨us, hul, hur, hrun⟩ : ∃ us : List (List Value), (∀ r ∈ us, r.length = n) ∧ Rows (Mt M0 ρ st.ob) w n us news ∧
      ∃ v' w', (Builtin.append_ #[t, t] o.type #[v, a.eval x]).run P w = .ok v' w' ∧ w'.ownsRow 0 T n v' (rows.length + news.length) (vals.flatten ++ us.flatten) ∧ w.grownBy w' v.ownBlock ∧ (v'.ownBlock = v.ownBlock ∨ v'.ownBlock = some w.heap.size) := by
    obtain ⟨q1, _⟩ := h2
    obtain ⟨u, hu, hO⟩ := hsim.obj k2 g2 _ hob2
    rw [q1] at hu; cases hu
    obtain ⟨a2, c2, he2, hc2, _, hb2⟩ := hO.form
    obtain ⟨b2, rfl⟩ := hb2 (by omega)
    rw [he2] at hO ⊢
    obtain ⟨cap, cur, us, he, hgb, hnc, hcm, hsz, htk, hrw, hl, hlb⟩ := arr_at hO (b := b2) rfl
    have hul : ∀ r ∈ us, r.length = n := fun r hr => by
      obtain ⟨i, hi, rfl⟩ := List.getElem_of_mem hr
      have hi' : i < news.length := by rw [← hrw.1]; exact hi
      exact (hrw.2 i news[i] us[i] (by simp [hi']) (by simp [hi])).2.1
    have hul2 : us.length = news.length := hrw.1
    obtain ⟨v', w', h3, h4, h5, h6⟩ := R.run_append (P := P) w 0 t o.type T n bytes hT hn v rows.length vals.flatten hown ⟨b2, 0, none⟩ news.length c2 us.flatten (by rw [flatten_len hul, hul2]) (fun q u hq => by
        rw [add_addr, Nat.zero_add]
        rw [← htk, List.getElem?_take] at hq
        split at hq
        · exact (cell_of_row w b2 q cur T2 (0, 0) hgb).trans (by simpa using hq)
        · cases hq) (fun u hu => by
        obtain ⟨q, hq, rfl⟩ := List.getElem_of_mem hu
        have hfn := flat_lenA (unif_rows hrw)
        have hq2 : q < news.flatten.length := by rw [hfn, ← hul2, ← flatten_len hul]; exact hq
        obtain ⟨z, m1, m2, m3⟩ := rows_flat hrw (List.getElem?_eq_getElem hq2)
        rw [List.getElem?_eq_getElem hq] at m1; cases m1
        exact m3) (by unfold maxLen; omega) (Nat.le_trans (Nat.mul_le_mul hlen hby) (by decide)) (Nat.zero_le _)
    exact ⟨us, hul, hrw, v', w', h3, h4, h5, h6⟩
  obtain ⟨v', w', h3, h4, h5, h6⟩ := hrun
  have hblk : ∀ y : Value, (∃ a c m, y = .slice a m c) → blk y = y.ownBlock := fun y ⟨a, c, m, e⟩ => by
    subst e
    cases a <;> rfl
  have hv' : ∃ a c, v' = .slice a (rows.length + news.length) c := by
    rcases h4.2 with ⟨rfl, e⟩ | ⟨g2, cap, cur, rfl, _⟩
    · exact ⟨none, 0, by rw [e]⟩
    · exact ⟨_, cap, rfl⟩
  have hbv := hblk v ⟨va, vc, _, hvf⟩
  have hbv' := hblk v' (by obtain ⟨a, c, e⟩ := hv'; exact ⟨a, c, _, e⟩)
  have huniq : ∀ g2 o2 x, st.ob k = some (g2, o2) → ρ k g2 = some x → x = v := fun g2 o2 x e1 e2 => by
    rw [hob] at e1
    simp only [Option.some.injEq, Prod.mk.injEq] at e1
    obtain ⟨rfl, rfl⟩ := e1
    rw [hv1] at e2
    exact (Option.some.inj e2).symm
  obtain ⟨g', ρ', k1, k2⟩ := hsim.upd (w' := w') k ⟨h5.os, h5.tape, h5.output⟩ h5.size (fun b hb hne => h5.block b hb (by rw [← hbv]; exact fun e => hne g _ v hob hv1 e.symm)) (x' := v') (o' := .arr T n (rows ++ news))
    (fun b hb => by
      have hb : blk v' = some b := hb
      rw [hbv'] at hb
      rcases h6 with e | e
      · rw [e, ← hbv] at hb
        exact .inr ⟨g, _, v, hob, hv1, hb⟩
      · rw [e] at hb
        simp at hb
        exact .inl (by omega))
    (fun M' ρ' hK _ => ⟨vals ++ us, by rw [List.length_append, List.flatten_append]; exact h4, by
      have r1 := hrows.mono hK
      have r2 := hur.mono hK
      refine ⟨by simp [r1.1, r2.1], fun i r v h7 h8 => ?_⟩
      rcases Nat.lt_or_ge i rows.length with hi | hi
      · rw [List.getElem?_append_left hi] at h7
        rw [List.getElem?_append_left (by rw [r1.1]; exact hi)] at h8
        exact r1.2 i r v h7 h8
      · rw [List.getElem?_append_right hi] at h7
        rw [List.getElem?_append_right (by rw [r1.1]; exact hi), r1.1] at h8
        exact r2.2 _ r v h7 h8, by obtain ⟨a, c, e⟩ := hv'; exact ⟨a, c, by rw [e, List.length_append]⟩, by simp [maxI]; omega, fun b hb => by
      rw [hbv'] at hb
      rcases h6 with e | e
      · rw [e, ← hbv] at hb
        exact hlb b hb
      · rw [e] at hb
        simp at hb
        exact .inl (by have := hsim.ext.size; omega)⟩)
  refine wpList_plain hg fun K hK => wp_upon ?_
  have e : (execOp a.eval o).run P w = .ok (.value v') w' := by
    simp only [execOp, ho, resolve, invoke, builtin, Sem.run_bind, Sem.run_pure, Result.andThen_ok, List.map_toArray, List.map_cons, List.map_nil, hvs, h3]
  rw [e]
  refine hK _ _ ((h g').out _ _ ⟨ρ', ?_⟩)
  rw [hd]
  exact k1.set hN ⟨k2, by obtain ⟨a, c, e⟩ := hv'; rw [e]; rfl⟩
/-- Two rows of the call's own lie apart. -/
theorem Al_overlaps {f : FuncId} {d k g k2 g2 n lo h : Nat} {x y : Operand} {tS tR e T T2 : TypeId} {ts : Array TypeId} {rows rows2 : List (List AV)} (hcf : ∀ (args : Array Value) (w : World), (callFunc f args).run P w = ((Extern.SlicesOverlaps.overlaps #[tS, tS] #[tR] args).run P w).andThen fun v w' => .ok (.value v) w') (ho : o.op = .call ⟨.value (.func f), #[x, y], ts⟩) (hg : o.guard = none) (hd : o.dst = some d) (hN : d < N) (hc : conB o = true) (ht : P.underlying tS = some (.slice e)) (hz : ∀ w, (sizeOf e).run P w = .ok n w) (hn : 0 < n)
    (hx : st.ev x = .ow k2 g2) (hob2 : st.ob k2 = some (g2, .arr T2 n rows2)) (hr2 : 0 < rows2.length) (hy : st.ev y = .ows k g n lo h) (hob : st.ob k = some (g, .arr T n rows)) (hkk : Nat.beq k2 k = false) (hlh : lo < h)
    (hr : Al P N M0 w0 ops Q l (st.set d (.d (.v (.bool false))))) : Al P N M0 w0 ops Q (o :: l) st := by
  refine ⟨?_⟩
  rintro a w ⟨ρ, hsim⟩
  have hev := hsim.ev hc
  have h1 := hev x (mem_call ho x (by simp))
  have h2 := hev y (mem_call ho y (by simp))
  rw [hx] at h1
  rw [hy] at h2
  obtain ⟨k1, _⟩ := h1
  obtain ⟨u, hu, hO⟩ := hsim.obj k2 g2 _ hob2
  rw [k1] at hu; cases hu
  obtain ⟨ad, len, cp, a', m1, m2, m3, m4, m5⟩ := h2
  obtain ⟨b, rfl, rfl⟩ := m5 hlh
  obtain ⟨u, hu, hO1⟩ := hsim.obj k g _ hob
  rw [m1] at hu; cases hu
  obtain ⟨cap, cur, vals, he, hgb, hnc, hcp, hsz, htk, hrw, hl, hlb⟩ := arr_at hO1 (b := b) rfl
  obtain ⟨a2, c2, he2, hc2, _, hb2⟩ := hO.form
  obtain ⟨b2, rfl⟩ := hb2 (by omega)
  rw [he2] at hO k1
  obtain ⟨cap2, cur2, vals2, he3, hgb2, hnc2, _, hsz2, _⟩ := arr_at hO (b := b2) rfl
  have hne : b2 ≠ b := fun e => by
    have := hsim.apart k2 g2 _ k g _ _ _ b hob2 hob k1 m1 (by simp [blk, e]) (by simp [blk])
    subst this
    simp at hkk
  have hcap : 0 < cap := by cases he; omega
  refine wpList_plain hg fun K hK => wp_upon ?_
  have hov := Lib.run_overlaps_apart (P := P) w tS tR e ht n hz ⟨b2, 0, none⟩ ⟨b, lo * n, none⟩ rows2.length c2 (h - lo) (cp - lo) hne T2 T cur2.size cur.size (by simp [World.shape?, hgb2]) (by simp [World.shape?, hgb]) (by rw [hsz]; exact Nat.pos_iff_ne_zero.1 (Nat.mul_pos hcap hn)) (by simp [World.frozen?, hgb2]) (by simp [World.frozen?, hgb2])
  have e : (execOp a.eval o).run P w = .ok (.value (.bool false)) w := by
    simp only [execOp, ho, resolve, Act.eval, Deferred.ofValue, invoke, Sem.run_bind, Sem.run_pure, Result.andThen_ok, List.map_toArray, List.map_cons, List.map_nil]
    rw [hcf]
    have hx' : a.eval x = .slice (some ⟨b2, 0, none⟩) rows2.length c2 := he2
    have hy' : a.eval y = .slice (some ⟨b, lo * n, none⟩) (h - lo) (cp - lo) := m2
    show ((Extern.SlicesOverlaps.overlaps #[tS, tS] #[tR] #[a.eval x, a.eval y]).run P w).andThen _ = _
    rw [hx', hy', hov]
    rfl
  rw [e]
  refine hK _ _ (hr.out _ _ ⟨ρ, ?_⟩)
  rw [hd]
  exact hsim.set hN (.v _ trivial)
/-- Whether a slice is nil: then it has no elements. -/
theorem Al_eqnil {d : Nat} {x : Operand} {t e yt : TypeId} {n : Nat} {rows : List (List AV)} (ho : o.op = .binOp .eql t x (.const (.slice none 0 0)) yt) (hg : o.guard = none) (hd : o.dst = some d) (hN : d < N) (hc : conB o = true) (ht : P.underlying t = some (.slice e)) (hx : st.ev x = .d (.sl n rows))
    (hr : ∀ b : Bool, (b = true → rows = []) → Al P N M0 w0 ops Q l (st.set d (.d (.v (.bool b))))) : Al P N M0 w0 ops Q (o :: l) st := by
  refine ⟨?_⟩
  rintro a w ⟨ρ, hsim⟩
  have h1 := hsim.ev hc x (by simp [opsOf, ho, Op.operands])
  rw [hx] at h1
  have h1 : Rep (Mt M0 ρ st.ob) w (.sl n rows) (a.eval x) := h1
  have hf : ∃ ad len cap, a.eval x = .slice ad len cap ∧ (ad = none → rows = []) := by
    generalize a.eval x = y at h1
    cases h1 with
    | nil n a c => exact ⟨_, _, _, rfl, fun _ => rfl⟩
    | sl n rows b o' cap f hl hcap => exact ⟨_, _, _, rfl, fun h => by cases h⟩
  obtain ⟨ad, len, cap, he, hn⟩ := hf
  refine wpList_plain hg fun K hK => wp_upon ?_
  have e : (execOp a.eval o).run P w = .ok (.value (.bool ad.isNone)) w := by
    simp only [execOp, ho, he, Sem.run_bind, Sem.run_pure, Result.andThen_ok]
    have hq : (eqGuard .eql t x (.const (.slice none 0 0)) (.slice ad len cap) (a.eval (.const (.slice none 0 0)))).run P w = .ok () w := by
      simp [eqGuard, Act.eval]
    have h2 := Lib.run_eql_slice_nil (P := P) w t e ad len cap 0 0 ht
    first | (rw [hq]; simp only [Result.andThen_ok]; exact (by simp [Act.eval, h2])) | simp [Act.eval, h2]
  rw [e]
  refine hK _ _ ((hr ad.isNone (fun h => hn (by simpa using h))).out _ _ ⟨ρ, ?_⟩)
  rw [hd]
  exact hsim.set hN (.v _ trivial)
/-! ### calls that read rows of the call's own -/
/-- A datum that leads to no memory. -/
def plainA : AV → Bool
  | .v _ => true
  | .row cs => cs.all fun | .v _ => true | _ => false
  | .tup cs => cs.all fun | .v _ => true | _ => false
  | _ => false
theorem Rep.plain {M M' : Nat → Prop} {w : World} {a : AV} {x : Value} (h : Rep M w a x) (hp : plainA a = true) : Rep M' w a x := by
  cases h with
  | v _ h => exact .v _ h
  | row cs vs hl h1 hr =>
    refine .row cs vs hl h1 fun j a x h2 h3 => ?_
    have h4 := hr j a x h2 h3
    have := List.all_eq_true.1 (show cs.all _ = true from hp) a (List.mem_of_getElem? h2)
    cases h4 with
    | v _ h => exact .v _ h
    | _ => simp at this
  | tup cs vs hl hr =>
    refine .tup cs vs hl fun j a x h2 h3 => ?_
    have h4 := hr j a x h2 h3
    have := List.all_eq_true.1 (show cs.all _ = true from hp) a (List.mem_of_getElem? h2)
    cases h4 with
    | v _ h => exact .v _ h
    | _ => simp at this
  | _ => cases hp
/-- Arguments: data, or rows of the call's own. -/
def ArgsR (st : ASt) : List Operand → List AV → Prop
  | [], [] => True
  | x :: xs, a :: aa => (Sub (st.ev x) (.d a) ∨ ∃ k g T n rows, st.ev x = .ow k g ∧ st.ob k = some (g, .arr T n rows) ∧ a = .sl n rows) ∧ ArgsR st xs aa
  | _, _ => False
def NoRows (M : Nat → Prop) (ρ : Rho) (ob : Nat → Option (Nat × AO)) : Nat → Prop := fun b => M b ∧ ¬ ∃ k g T n rows h, ob k = some (g, .arr T n rows) ∧ ρ k g = some h ∧ blk h = some b
theorem ArgsR.rep {B : Base} {M : Nat → Prop} {w : World} {ρ : Rho} {a : Act} (h3 : ∀ k g ob, st.ob k = some (g, ob) → ∃ h, ρ k g = some h ∧ ORep B M w ρ h ob) : ∀ {xs : List Operand} {aa : List AV}, ArgsR st xs aa → (∀ x ∈ xs, SRep M w ρ (st.ev x) (a.eval x)) → AllRep (NoRows M ρ st.ob) w aa (xs.map a.eval)
  | [], [], _, _ => ⟨rfl, fun j a x h => by simp at h⟩
  | x :: xs, b :: aa, h, hs => by
    have ih := ArgsR.rep h3 h.2 fun y hy => hs y (by simp [hy])
    have h1 := hs x (by simp)
    have hx : Rep (NoRows M ρ st.ob) w b (a.eval x) := by
      rcases h.1 with h5 | ⟨k, g, T, n, rows, h5, h6, rfl⟩
      · exact (show Rep M w b (a.eval x) from h5 M w ρ _ h1).mono (Known.sub fun b hb => hb.1)
      · rw [h5] at h1
        obtain ⟨k1, _⟩ := h1
        obtain ⟨u, hu, hO⟩ := h3 k g _ h6
        rw [k1] at hu; cases hu
        exact hO.frz (Known.sub fun b hb => hb.1) fun b hb hm => hm.2 ⟨k, g, T, n, rows, _, h6, k1, hb⟩
    refine ⟨by simp [ih.1], fun j c y h5 h6 => ?_⟩
    cases j with
    | zero => simp at h5 h6; subst h5 h6; exact hx
    | succ j => exact ih.2 j c y (by simpa using h5) (by simpa using h6)
/-- A call that reads rows of the call's own, and yields what leads to no memory. -/
theorem Pu_callR {f : FuncId} {xs : Array Operand} {ts : Array TypeId} {aa : List AV} {res : AV} (hc : ACall P f aa res) (ho : o.op = .call ⟨.value (.func f), xs, ts⟩) (hp : plainA res = true) (ha : ArgsR st xs.toList aa) : Pu P st o (.d res) := fun B M ρ w a hM h2 h3 hev K hK => by
  have h4 := ha.rep (a := a) h3 fun x hx => h2 x (mem_call ho x (by simpa using hx))
  have h5 := hc.2 (NoRows M ρ st.ob) w _ (fun b hb => hM b hb.1) h4
  have e : (execOp a.eval o).run P w = .ok (.enter f (xs.toList.map a.eval).toArray) w := by
    simp only [execOp, ho, resolve, Act.eval, Deferred.ofValue, invoke, Sem.run_bind, Sem.run_pure, Result.andThen_ok]
    rw [hc.1]
    congr 2
    apply Array.ext'
    simp
  rw [e]
  exact h5.mono fun e w' ⟨v, h6, h7, h8⟩ => ⟨v, h6, hK v w' (Kn.ext h7) (h8.plain hp)⟩
end
end Go.Proofs.Ytmbaeloiepjakaa.A
