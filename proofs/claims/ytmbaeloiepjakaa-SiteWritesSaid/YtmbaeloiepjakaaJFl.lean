/- Rows of whatever elements, of the call's own: elements of them; DeleteFunc. -/
import Derived.Test.YtmbaeloiepjakaaAS
import Derived.Test.YtmbaeloiepjakaaSOp
set_option linter.unusedSimpArgs false
set_option linter.unusedVariables false
namespace Go.Proofs.Ytmbaeloiepjakaa.A
open Go Go.RowKit
section
variable {P : Program} {N : Nat} {M0 : Nat → Prop} {w0 : Base} {ops : Array Oper} {Q : Exit → ASt → Prop} {o : Oper} {l : List Oper} {st : ASt}
/-- The end of a row of the call's own is cleared; nothing is yielded. -/
theorem Al_clear0 {k g n lo h : Nat} {x : Operand} {t e T : TypeId} {z : Value} {zs : List AV} {rows : List (List AV)} (ho : o.op = .call ⟨.builtin .clear, #[x], #[t]⟩) (hg : o.guard = none) (hd : o.dst = none) (hc : conB o = true) (ht : P.underlying t = some (.slice e)) (hz : ∀ w, (zeroValue e).run P w = .ok z w) (hzn : z.cells.size = n) (hn : 0 < n)
    (hzs : z.cells.toList.map AV.v = zs) (hv : z.cells.toList.all (fun z => decide (vok z)) = true) (hx : st.ev x = .ows k g n lo h) (hob : st.ob k = some (g, .arr T n rows)) (hh : h = rows.length)
    (hr : Al P N M0 w0 ops Q l (st.put k g (.arr T n (rows.take lo ++ List.replicate (h - lo) zs)))) : Al P N M0 w0 ops Q (o :: l) st := by
  refine ⟨?_⟩
  rintro a w ⟨ρ, hsim⟩
  have h1 := hsim.ev hc x (mem_call ho x (by simp))
  rw [hx] at h1
  obtain ⟨ad, len, cp, a', k1, k2, k3, k4, k5⟩ := h1
  obtain ⟨u, hu, hO⟩ := hsim.obj k g _ hob
  rw [k1] at hu; cases hu
  subst hh
  have fin : ∀ w', SimR N M0 w0 (st.put k g (.arr T n (rows.take lo ++ List.replicate (rows.length - lo) zs))) ρ a w' → (execOp a.eval o).run P w = .ok (.value (.tuple #[])) w' → wpList P ops (QL N M0 w0 Q) (o :: l) a w := fun w' hs e => by
    refine wpList_plain hg fun K hK => wp_upon ?_
    rw [e]
    refine hK _ _ (hr.out _ _ ⟨ρ, ?_⟩)
    rw [hd]
    exact hs
  by_cases hlt : lo < rows.length
  · obtain ⟨b, rfl, rfl⟩ := k5 hlt
    obtain ⟨cap, cur, vals, he, hgb, hnc, hcp, hsz, htk, hrw, hl, hlb⟩ := arr_at hO (b := b) rfl
    have hcc : cap = cp := by cases he; rfl
    subst hcc
    cases he
    have hun := unif_rows hrw
    have hfr := flat_lenA hun
    have hzl : zs.length = n := by rw [← hzs]; simp [hzn]
    have hrl : (List.replicate (rows.length - lo) zs).flatten.length = (rows.length - lo) * n := by simp [hzl]
    have hul : (List.replicate (rows.length - lo) z.cells.toList).flatten.length = (rows.length - lo) * n := by simp [hzn]
    have hlen : (rows.take lo ++ List.replicate (rows.length - lo) zs).length = rows.length := by simp; omega
    have e1 : lo * n + (rows.length - lo) * n = rows.length * n := by rw [← Nat.add_mul]; congr 1; omega
    have e2 : rows.length * n ≤ cap * n := Nat.mul_le_mul_right _ hnc
    obtain ⟨w', vs', q1, q2, q3, q4, q5, q6, q7⟩ := splice_core (P := P) (rows.take lo ++ List.replicate (rows.length - lo) zs) hgb hsz htk hrw (zero_cells hzs hv (rows.length - lo)) (off := lo * n) (by omega) (by rw [hul]; omega) (by rw [hlen]; exact hnc)
      (fun q hq => by
        rcases List.mem_append.1 hq with hq | hq
        · exact hun q (List.mem_of_mem_take hq)
        · rw [List.eq_of_mem_replicate hq]; exact hzl)
      (by rw [List.flatten_append, flat_take hun, hrl, List.drop_eq_nil_of_le (by omega), List.append_nil])
    refine fin w' (hsim.mod (w' := w') hob k1 q6 (by omega) (fun c' hc' hne => q4 c' (fun e => hne (by simp [blk, e]))) (fun M' hK _ => by
      obtain ⟨vals', hv1, hv2⟩ := q7 M' hK
      exact ⟨vals', ⟨by have h9 : vs'.toList.length = cap * n := (Array.length_toList ..).trans q3; rw [hv1, List.length_take, hlen, h9]; omega, .inr ⟨b, cap, vs', by rw [hlen], Nat.zero_le _, q2, by rw [hlen]; exact hnc, hcp, q3, hv1.symm⟩⟩, hv2, ⟨_, cap, by rw [hlen]⟩, by rw [hlen]; exact hl, fun c' hc' => by simp only [blk, Option.some.injEq] at hc'; subst hc'; exact hlb⟩)) ?_
    have hne : rows.length - lo ≠ 0 := by omega
    rw [← zeroCells_list z.cells _ (by omega)] at q1
    simp only [execOp, ho, resolve, invoke, builtin, Sem.run_bind, Sem.run_pure, Result.andThen_ok, List.map_toArray, List.map_cons, List.map_nil, k2, Builtin.clear_]
    simp [run_underlying ht, hz, hne, q1, Result.andThen]
  · have hll : rows.length - lo = 0 := by omega
    refine fin w (hsim.mod (w' := w) hob k1 ⟨rfl, rfl, rfl⟩ (Nat.le_refl _) (fun _ _ _ => rfl) (fun M' hK _ => ?_)) ?_
    · rw [hll, List.replicate_zero, List.append_nil, List.take_of_length_le (by omega)]
      exact hO.mono hK fun _ _ => rfl
    · simp only [execOp, ho, resolve, invoke, builtin, Sem.run_bind, Sem.run_pure, Result.andThen_ok, List.map_toArray, List.map_cons, List.map_nil, k2, hll, Builtin.clear_]
      cases a' <;> simp [run_underlying ht, Result.andThen]
end
end Go.Proofs.Ytmbaeloiepjakaa.A
namespace Go.Proofs.Ytmbaeloiepjakaa
open Go.RowKit A
namespace S
theorem find_neg {α : Type} {p : α → Bool} {l : List α} (h : S.find p l = -1) : (l.filter fun x => !p x) = l := by
  unfold S.find at h
  split at h
  · omega
  · rename_i hn
    rw [List.filter_eq_self]
    intro x hx
    cases hp : p x with
    | false => rfl
    | true => exact (hn (List.any_eq_true.2 ⟨x, hx, hp⟩)).elim
theorem find_pos {α : Type} {p : α → Bool} {l : List α} (h : ¬ S.find p l = -1) : ∃ i, ∃ hi : i < l.length, S.find p l = (i : Int) ∧ p l[i] = true ∧ ∀ j (hj : j < l.length), j < i → p l[j] = false := by
  unfold S.find at h ⊢
  split at h
  · rename_i hy
    rw [if_pos hy]
    obtain ⟨x, hx, hp⟩ := List.any_eq_true.1 hy
    have hlt : l.findIdx p < l.length := List.findIdx_lt_length_of_exists ⟨x, hx, hp⟩
    exact ⟨l.findIdx p, hlt, rfl, List.findIdx_getElem, fun j hj hji => by simpa using List.not_of_lt_findIdx hji⟩
  · exact (h rfl).elim
theorem filter_first {α : Type} {p : α → Bool} {l : List α} {i : Nat} (hi : i < l.length) (hp : p l[i] = true) (hb : ∀ j (hj : j < l.length), j < i → p l[j] = false) : l.take i = (l.take (i + 1)).filter (fun x => !p x) := by
  rw [List.take_succ_eq_append_getElem hi, List.filter_append, List.filter_cons, hp]
  have : (l.take i).filter (fun x => !p x) = l.take i := by
    rw [List.filter_eq_self]
    intro x hx
    obtain ⟨j, hj, rfl⟩ := List.getElem_of_mem hx
    rw [List.length_take] at hj
    rw [List.getElem_take, hb j (by omega) (by omega)]; rfl
  rw [this]; simp
theorem drop_at {α : Type} [Inhabited α] {c l : List α} {j : Nat} (h : c.drop j = l.drop j) (hj : j < l.length) (hc : j < c.length) : c.getD j default = l[j] := by
  have h1 : (c.drop j)[0]? = (l.drop j)[0]? := by rw [h]
  rw [List.getElem?_drop, List.getElem?_drop, Nat.add_zero, List.getElem?_eq_getElem hj] at h1
  rw [List.getD_eq_getElem?_getD, h1]; rfl
theorem map_getD {α β : Type} [Inhabited α] {f : α → β} {c : List α} {j : Nat} (hj : j < c.length) : (c.map f)[j]'(by simpa using hj) = f (c.getD j default) := by simp [hj]
theorem row_at {rows : List (List AV)} {n j : Nat} (hu : ∀ r ∈ rows, r.length = n) (hj : j < rows.length) : (rows.flatten.drop (j * n)).take n = rows[j] := by
  rw [← flat_drop hu, List.drop_eq_getElem_cons hj, List.flatten_cons, List.take_append_of_le_length (by rw [hu _ (List.getElem_mem hj)]; exact Nat.le_refl _), List.take_of_length_le (by rw [hu _ (List.getElem_mem hj)]; exact Nat.le_refl _)]
theorem flat_set {rows : List (List AV)} {n i : Nat} {x : List AV} (hu : ∀ r ∈ rows, r.length = n) (hi : i < rows.length) (hx : x.length = n) : (rows.set i x).flatten = rows.flatten.take (i * n) ++ x ++ rows.flatten.drop (i * n + n) := by
  have h2 : i * n + n = (i + 1) * n := by rw [Nat.add_mul, Nat.one_mul]
  rw [h2, ← flat_take hu, ← flat_drop hu, List.set_eq_take_append_cons_drop, if_pos hi]
  simp
theorem del_keep {α : Type} {p : α → Bool} {c l : List α} {i j : Nat} (hj : j < l.length) (h : c.take i = (l.take j).filter fun x => !p x) (hp : p l[j] = false) (hi : i < c.length) : (c.set i l[j]).take (i + 1) = (l.take (j + 1)).filter fun x => !p x := by
  rw [List.take_succ_eq_append_getElem hj, List.filter_append, List.filter_cons, hp, ← h]
  rw [List.take_succ_eq_append_getElem (by simpa using hi), List.take_set_of_le (Nat.le_refl i)]
  simp
theorem del_drop {α : Type} {p : α → Bool} {c l : List α} {i j : Nat} (hj : j < l.length) (h : c.take i = (l.take j).filter fun x => !p x) (hp : p l[j] = true) : c.take i = (l.take (j + 1)).filter fun x => !p x := by
  rw [List.take_succ_eq_append_getElem hj, List.filter_append, List.filter_cons, hp, ← h]
  simp
end S
end Go.Proofs.Ytmbaeloiepjakaa
