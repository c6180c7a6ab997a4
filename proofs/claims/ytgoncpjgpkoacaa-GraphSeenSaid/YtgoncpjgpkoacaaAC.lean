/- Abstract states: guards inside guards, bools; rows of the call's own that are sorted, or made compact, where they lie. -/
import Derived.Test.YtgoncpjgpkoacaaAB
set_option linter.unusedSimpArgs false
set_option linter.unusedVariables false
namespace Go.Proofs.Ytgoncpjgpkoacaa.A
open Go Go.RowKit
section
variable {P : Program} {N : Nat} {M0 : Nat → Prop} {w0 : Base} {ops : Array Oper} {Q : Exit → ASt → Prop} {o : Oper} {l : List Oper} {st : ASt}
/-- Both, where the second is guarded by more than the first. -/
theorem Pu_andG {c x y : Operand} {t u : Bool} {q : Prop} (ho : o.op = .pick c x y) (hc : st.ev c = .d (.v (.bool t))) (hq : t = true → q) (hx : st.ev x = .ifb q (.d (.v (.bool u)))) (hy : st.ev y = .d (.v (.bool false))) : Pu P st o (.d (.v (.bool (t && u)))) := Pu_q fun B M ρ w a h2 _ => by
  have m : c ∈ opsOf o ∧ x ∈ opsOf o ∧ y ∈ opsOf o := by simp [opsOf, ho, Op.operands]
  obtain ⟨e1, _⟩ := ev_v h2 m.1 hc
  obtain ⟨e3, _⟩ := ev_v h2 m.2.2 hy
  have hx' := h2 x m.2.1
  rw [hx] at hx'
  cases t
  · exact ⟨_, by simp [execOp, ho, e1, e3, asBool, Sem.run], .v _ trivial⟩
  · obtain ⟨e2, _⟩ := rep_v (hx'.1 (hq rfl))
    exact ⟨.bool u, by simp [execOp, ho, e1, e2, asBool, Sem.run], .v (.bool u) trivial⟩
theorem Pu_orG {c x y : Operand} {t u : Bool} {q : Prop} (ho : o.op = .pick c x y) (hc : st.ev c = .d (.v (.bool t))) (hx : st.ev x = .d (.v (.bool true))) (hq : t = false → q) (hy : st.ev y = .ifb q (.d (.v (.bool u)))) : Pu P st o (.d (.v (.bool (t || u)))) := Pu_q fun B M ρ w a h2 _ => by
  have m : c ∈ opsOf o ∧ x ∈ opsOf o ∧ y ∈ opsOf o := by simp [opsOf, ho, Op.operands]
  obtain ⟨e1, _⟩ := ev_v h2 m.1 hc
  obtain ⟨e3, _⟩ := ev_v h2 m.2.1 hx
  have hy' := h2 y m.2.2
  rw [hy] at hy'
  cases t
  · obtain ⟨e2, _⟩ := rep_v (hy'.1 (hq rfl))
    exact ⟨.bool u, by simp [execOp, ho, e1, e2, asBool, Sem.run], .v (.bool u) trivial⟩
  · exact ⟨_, by simp [execOp, ho, e1, e3, asBool, Sem.run], .v _ trivial⟩
def boolB : BinOp → Bool → Bool → Option Bool
  | .eql, a, b => some (a == b)
  | .neq, a, b => some (!(a == b))
  | _, _, _ => none
theorem Pu_bool {op : BinOp} {t yt : TypeId} {x y : Operand} {a b : Bool} {r : Bool} (ho : o.op = .binOp op t x y yt) (ht : P.underlying t = some .bool) (hx : st.ev x = .d (.v (.bool a))) (hy : st.ev y = .d (.v (.bool b))) (hr : boolB op a b = some r) : Pu P st o (.d (.v (.bool r))) :=
  Pu_bin ho hx hy (fun h1 h2 w => by
    have he : (Op.equal t (.bool a) (.bool b)).run P w = .ok (a == b) w := run_equalIn_bool' w 9999 t a b ht
    simp only [Sem.run_bind, guard_bool, Result.andThen_ok]
    cases op <;> simp only [boolB, Option.some.injEq, reduceCtorEq] at hr <;> subst hr <;> simp only [binOp, Sem.run_bind, he, Result.andThen_ok, Sem.run_pure]) (fun _ _ => trivial)
/-- Rows of one cell each that lead to no memory. -/
def colA {α : Type} (enc : α → Value) (xs : List α) : List (List AV) := xs.map fun x => [.v (enc x)]
theorem col_flat {α : Type} (enc : α → Value) (xs : List α) : (xs.map fun x => [enc x]).flatten = xs.map enc := by
  induction xs with
  | nil => rfl
  | cons x xs ih => simp [ih]
theorem col_vals {α : Type} {enc : α → Value} {M : Nat → Prop} {w : World} {vals : List (List Value)} {xs : List α} (h : Rows M w 1 vals (colA enc xs)) : vals.flatten = xs.map enc ∧ ∀ x ∈ xs, vok (enc x) := by
  have h1 : vals = xs.map fun x => [enc x] := by
    apply List.ext_getElem (by simpa [colA] using h.1)
    intro i h2 h3
    have hi : i < xs.length := by simpa using h3
    obtain ⟨k1, k2, k3⟩ := h.2 i [.v (enc xs[i])] vals[i] (by simp [colA, hi]) (by simp [h2])
    match hv : vals[i], k2 with
    | [y], _ =>
      rw [hv] at k3
      have := (k3 0 _ y rfl rfl).1
      cases this
      simp
  refine ⟨by rw [h1]; exact col_flat enc xs, fun x hx => ?_⟩
  obtain ⟨i, hi, rfl⟩ := List.getElem_of_mem hx
  have hi2 : i < vals.length := by rw [h1]; simpa using hi
  obtain ⟨k1, k2, k3⟩ := h.2 i [.v (enc xs[i])] vals[i] (by simp [colA, hi]) (by simp [hi2])
  match hv : vals[i], k2 with
  | [y], _ =>
    rw [hv] at k3
    have := (k3 0 _ y rfl rfl).1
    cases this with
    | v _ h => exact h
theorem col_rows {α : Type} {enc : α → Value} {M : Nat → Prop} {w : World} {xs : List α} (h : ∀ x ∈ xs, vok (enc x)) : Rows M w 1 (xs.map fun x => [enc x]) (colA enc xs) := ⟨by simp [colA], fun i r v h1 h2 => by
  simp only [colA, List.getElem?_map] at h1 h2
  obtain ⟨x, k1, rfl⟩ := Option.map_eq_some_iff.1 h1
  rw [k1] at h2
  simp only [Option.map_some, Option.some.injEq] at h2
  subst h2
  refine ⟨rfl, rfl, fun j a y k2 k3 => ?_⟩
  cases j with
  | zero =>
    simp at k2 k3
    subst k2 k3
    have := h x (List.mem_of_getElem? k1)
    exact ⟨.v _ this, this.one⟩
  | succ j => simp at k2⟩
/-- What a row of the call's own becomes by a call that writes nothing else. -/
def InPlace (P : Program) (f : FuncId) (T : TypeId) {α : Type} (enc : α → Value) (F : List α → List α) (ret : Value → Value) : Prop :=
  (∀ (vs : Array Value) (w : World), (callFunc f vs).run P w = .ok (.enter f vs) w) ∧ ∀ (B : Nat) (w : World) (v : Value) (xs : List α), xs.length ≤ 1000000 → (∀ x ∈ xs, vok (enc x)) → w.ownsRow B T 1 v xs.length (xs.map enc) →
    Calls P f #[v] w fun e w' => ∃ v', e = .returned (ret v') ∧ w'.ownsRow B T 1 v' (F xs).length ((F xs).map enc) ∧ (v'.ownBlock = v.ownBlock) ∧ w'.os = w.os ∧ w'.tape = w.tape ∧ w'.output = w.output ∧ w.heap.size ≤ w'.heap.size ∧ (∀ b, b < w.heap.size → v.ownBlock ≠ some b → w'.heap[b]? = w.heap[b]?) ∧ (ret = (fun _ => .tuple #[]) → v' = v)
theorem blk_own {v : Value} (h : ∃ a n c, v = .slice a n c) : blk v = v.ownBlock := by
  obtain ⟨a, n, c, rfl⟩ := h
  cases a <;> rfl
theorem own_form {w : World} {B : Nat} {T : TypeId} {n k : Nat} {v : Value} {xs : List Value} (h : w.ownsRow B T n v k xs) : ∃ a c, v = .slice a k c := by
  rcases h.2 with ⟨rfl, e⟩ | ⟨g, cap, cur, rfl, _⟩
  · exact ⟨none, 0, by rw [e]⟩
  · exact ⟨_, cap, rfl⟩
/-- A row is sorted where it lies. -/
theorem Al_sort {f : FuncId} {d k g : Nat} {s : Operand} {ts : Array TypeId} {T : TypeId} {α : Type} {enc : α → Value} {F : List α → List α} {xs : List α} (hI : InPlace P f T enc F (fun _ => .tuple #[])) (hF : (F xs).length = xs.length ∧ ∀ x ∈ F xs, x ∈ xs) (ho : o.op = .call ⟨.value (.func f), #[s], ts⟩) (hg : o.guard = none) (hd : o.dst = some d) (hN : d < N) (hc : conB o = true) (hs : st.ev s = .ow k g) (hob : st.ob k = some (g, .arr T 1 (colA enc xs))) (hlen : xs.length ≤ 1000000)
    (h : Al P N M0 w0 ops Q l ((st.put k g (.arr T 1 (colA enc (F xs)))).set d .any)) : Al P N M0 w0 ops Q (o :: l) st := by
  refine ⟨?_⟩
  rintro a w ⟨ρ, hsim⟩
  have h1 := hsim.ev hc s (mem_call ho s (by simp))
  rw [hs] at h1
  obtain ⟨v, hv1, vals, hown, hrows, hvf, _, hlb⟩ := hsim.obj k g _ hob
  have hvs : a.eval s = v := by
    have := h1.1
    rw [hv1] at this
    exact (Option.some.inj this).symm
  obtain ⟨hfl, hvk⟩ := col_vals hrows
  rw [hfl, show (colA enc xs).length = xs.length from by simp [colA]] at hown
  have hcall := hI.2 0 w v xs hlen hvk hown
  refine wpList_plain hg fun K hK => wp_upon ?_
  have e : (execOp a.eval o).run P w = .ok (.enter f #[v]) w := by
    simp only [execOp, ho, resolve, Act.eval, Deferred.ofValue, invoke, Sem.run_bind, Sem.run_pure, Result.andThen_ok, List.map_toArray, List.map_cons, List.map_nil, hvs]
    rw [hI.1]
    revert hvs
    cases s <;> (intro hvs; simp [Act.eval] at hvs ⊢; exact hvs)
  rw [e]
  refine hcall.mono fun e w' ⟨v', k1, k2, k3, k4, k5, k6, k7, k8, k9⟩ => ⟨_, k1, ?_⟩
  obtain rfl := k9 rfl
  have hbv := blk_own (v := v') (by obtain ⟨a, c, e⟩ := own_form k2; exact ⟨a, _, c, e⟩)
  have hs2 := hsim.mod (w' := w') hob hv1 ⟨k4, k5, k6⟩ k7 (fun b hb hne => k8 b hb (by rw [← hbv]; exact hne)) (o' := .arr T 1 (colA enc (F xs))) (fun M' hK _ => ⟨_, by rw [col_flat, show (colA enc (F xs)).length = (F xs).length from by simp [colA]]; exact k2, col_rows fun x hx => hvk x (hF.2 x hx), by obtain ⟨a, c, e⟩ := own_form k2; exact ⟨a, c, by simp [colA, e]⟩, by simp only [colA, List.length_map, maxI]; omega, hlb⟩)
  refine hK _ _ (h.out _ _ ⟨ρ, ?_⟩)
  rw [hd]
  exact hs2.set hN trivial
/-- A row is made shorter where it lies: the call's result is the row from then on. -/
theorem Al_compact {f : FuncId} {d k g : Nat} {s : Operand} {ts : Array TypeId} {T : TypeId} {α : Type} {enc : α → Value} {F : List α → List α} {xs : List α} (hI : InPlace P f T enc F (fun v => v)) (hF : (F xs).length ≤ xs.length ∧ ∀ x ∈ F xs, x ∈ xs) (ho : o.op = .call ⟨.value (.func f), #[s], ts⟩) (hg : o.guard = none) (hd : o.dst = some d) (hN : d < N) (hc : conB o = true) (hs : st.ev s = .ow k g) (hob : st.ob k = some (g, .arr T 1 (colA enc xs))) (hlen : xs.length ≤ 1000000)
    (h : ∀ g', Al P N M0 w0 ops Q l ((st.put k g' (.arr T 1 (colA enc (F xs)))).set d (.ow k g'))) : Al P N M0 w0 ops Q (o :: l) st := by
  refine ⟨?_⟩
  rintro a w ⟨ρ, hsim⟩
  have h1 := hsim.ev hc s (mem_call ho s (by simp))
  rw [hs] at h1
  obtain ⟨v, hv1, vals, hown, hrows, hvf, _, hlb⟩ := hsim.obj k g _ hob
  have hvs : a.eval s = v := by
    have := h1.1
    rw [hv1] at this
    exact (Option.some.inj this).symm
  obtain ⟨hfl, hvk⟩ := col_vals hrows
  rw [hfl, show (colA enc xs).length = xs.length from by simp [colA]] at hown
  have hcall := hI.2 0 w v xs hlen hvk hown
  refine wpList_plain hg fun K hK => wp_upon ?_
  have e : (execOp a.eval o).run P w = .ok (.enter f #[v]) w := by
    simp only [execOp, ho, resolve, Act.eval, Deferred.ofValue, invoke, Sem.run_bind, Sem.run_pure, Result.andThen_ok, List.map_toArray, List.map_cons, List.map_nil, hvs]
    rw [hI.1]
    revert hvs
    cases s <;> (intro hvs; simp [Act.eval] at hvs ⊢; exact hvs)
  rw [e]
  refine hcall.mono fun e w' ⟨v', k1, k2, k3, k4, k5, k6, k7, k8, _⟩ => ⟨_, k1, ?_⟩
  have hform := own_form k2
  have hbv := blk_own (v := v) (by obtain ⟨a, c, e⟩ := own_form hown; exact ⟨a, _, c, e⟩)
  have hbv' := blk_own (v := v') (by obtain ⟨a, c, e⟩ := hform; exact ⟨a, _, c, e⟩)
  obtain ⟨g', ρ', m1, m2⟩ := hsim.upd (w' := w') k ⟨k4, k5, k6⟩ k7 (fun b hb hne => k8 b hb (by rw [← hbv]; exact fun e => hne g _ v hob hv1 e)) (x' := v') (o' := .arr T 1 (colA enc (F xs))) (fun b hb => by
    have hb : blk v' = some b := hb
    rw [hbv', k3, ← hbv] at hb
    exact .inr ⟨g, _, v, hob, hv1, hb⟩) (fun M' ρ' hK _ => ⟨_, by rw [col_flat, show (colA enc (F xs)).length = (F xs).length from by simp [colA]]; exact k2, col_rows fun x hx => hvk x (hF.2 x hx), by obtain ⟨a, c, e⟩ := hform; exact ⟨a, c, by simp [colA, e]⟩, by simp only [colA, List.length_map, maxI]; omega, fun b hb => hlb b (by rw [hbv', k3, ← hbv] at hb; exact hb)⟩)
  refine hK _ _ ((h g').out _ _ ⟨ρ', ?_⟩)
  rw [hd]
  exact m1.set hN ⟨m2, by obtain ⟨a, c, e⟩ := hform; rw [e]; rfl⟩
end
end Go.Proofs.Ytgoncpjgpkoacaa.A
