/- Abstract states: guards inside guards, bools; rows of the call's own that are sorted, or made compact, where they lie. -/
/- Abstract states: methods that are called with a variable of their caller's own; panics. -/
/- Abstract states: shifts, products; closures that capture; a variable of the call's own, told as data. -/
import Derived.Test.YtmbaeloiepjakaaAB
import Derived.Scope
set_option linter.unusedSimpArgs false
set_option linter.unusedVariables false
namespace Go.Proofs.Ytmbaeloiepjakaa.A
open Go Go.RowKit
section
variable {P : Program} {N : Nat} {M0 : Nat → Prop} {w0 : Base} {ops : Array Oper} {Q : Exit → ASt → Prop} {o : Oper} {l : List Oper} {st : ASt}
/-- Both, where the second is guarded by more than the first. -/
theorem Pu_andG {c x y : Operand} {t u : Bool} {q : Prop} (ho : o.op = .pick c x y) (hc : st.ev c = .d (.v (.bool t))) (hq : t = true → q) (hx : st.ev x = .ifb q (.d (.v (.bool u)))) (hy : st.ev y = .d (.v (.bool false))) : Pu P st o (.d (.v (.bool (t && u)))) := Pu_q fun B M ρ w a h2 _ => by
  have m : c ∈ opsOf o ∧ x ∈ opsOf o ∧ y ∈ opsOf o := by simp [opsOf, ho, Op.operands]
  obtain ⟨e1, _⟩ := ev_v h2 m.1 hc
  obtain ⟨e3, _⟩ := ev_v h2 m.2.2 hy
  have hx' := h2 x m.2.1
  rw [hx] at hx'
  cases t
  · exact ⟨_, by simp [execOp, ho, e1, e3, asBool, Sem.run], .v _ trivial⟩
  · obtain ⟨e2, _⟩ := rep_v (hx'.1 (hq rfl))
    exact ⟨.bool u, by simp [execOp, ho, e1, e2, asBool, Sem.run], .v (.bool u) trivial⟩
theorem Pu_orG {c x y : Operand} {t u : Bool} {q : Prop} (ho : o.op = .pick c x y) (hc : st.ev c = .d (.v (.bool t))) (hx : st.ev x = .d (.v (.bool true))) (hq : t = false → q) (hy : st.ev y = .ifb q (.d (.v (.bool u)))) : Pu P st o (.d (.v (.bool (t || u)))) := Pu_q fun B M ρ w a h2 _ => by
  have m : c ∈ opsOf o ∧ x ∈ opsOf o ∧ y ∈ opsOf o := by simp [opsOf, ho, Op.operands]
  obtain ⟨e1, _⟩ := ev_v h2 m.1 hc
  obtain ⟨e3, _⟩ := ev_v h2 m.2.1 hx
  have hy' := h2 y m.2.2
  rw [hy] at hy'
  cases t
  · obtain ⟨e2, _⟩ := rep_v (hy'.1 (hq rfl))
    exact ⟨.bool u, by simp [execOp, ho, e1, e2, asBool, Sem.run], .v (.bool u) trivial⟩
  · exact ⟨_, by simp [execOp, ho, e1, e3, asBool, Sem.run], .v _ trivial⟩
def boolB : BinOp → Bool → Bool → Option Bool
  | .eql, a, b => some (a == b)
  | .neq, a, b => some (!(a == b))
  | _, _, _ => none
theorem Pu_bool {op : BinOp} {t yt : TypeId} {x y : Operand} {a b : Bool} {r : Bool} (ho : o.op = .binOp op t x y yt) (ht : P.underlying t = some .bool) (hx : st.ev x = .d (.v (.bool a))) (hy : st.ev y = .d (.v (.bool b))) (hr : boolB op a b = some r) : Pu P st o (.d (.v (.bool r))) :=
  Pu_bin ho hx hy (fun h1 h2 w => by
    have he : (Op.equal t (.bool a) (.bool b)).run P w = .ok (a == b) w := run_equalIn_bool' w 9999 t a b ht
    simp only [Sem.run_bind, guard_bool, Result.andThen_ok]
    cases op <;> simp only [boolB, Option.some.injEq, reduceCtorEq] at hr <;> subst hr <;> simp only [binOp, Sem.run_bind, he, Result.andThen_ok, Sem.run_pure]) (fun _ _ => trivial)
/-- Rows of one cell each that lead to no memory. -/
def colA {α : Type} (enc : α → Value) (xs : List α) : List (List AV) := xs.map fun x => [.v (enc x)]
theorem col_flat {α : Type} (enc : α → Value) (xs : List α) : (xs.map fun x => [enc x]).flatten = xs.map enc := by
  induction xs with
  | nil => rfl
  | cons x xs ih => simp [ih]
theorem col_vals {α : Type} {enc : α → Value} {M : Nat → Prop} {w : World} {vals : List (List Value)} {xs : List α} (h : Rows M w 1 vals (colA enc xs)) : vals.flatten = xs.map enc ∧ ∀ x ∈ xs, vok (enc x) := by
  have h1 : vals = xs.map fun x => [enc x] := by
    apply List.ext_getElem (by simpa [colA] using h.1)
    intro i h2 h3
    have hi : i < xs.length := by simpa using h3
    obtain ⟨k1, k2, k3⟩ := h.2 i [.v (enc xs[i])] vals[i] (by simp [colA, hi]) (by simp [h2])
    match hv : vals[i], k2 with
    | [y], _ =>
      rw [hv] at k3
      have := (k3 0 _ y rfl rfl).1
      cases this
      simp
  refine ⟨by rw [h1]; exact col_flat enc xs, fun x hx => ?_⟩
  obtain ⟨i, hi, rfl⟩ := List.getElem_of_mem hx
  have hi2 : i < vals.length := by rw [h1]; simpa using hi
  obtain ⟨k1, k2, k3⟩ := h.2 i [.v (enc xs[i])] vals[i] (by simp [colA, hi]) (by simp [hi2])
  match hv : vals[i], k2 with
  | [y], _ =>
    rw [hv] at k3
    have := (k3 0 _ y rfl rfl).1
    cases this with
    | v _ h => exact h
theorem col_rows {α : Type} {enc : α → Value} {M : Nat → Prop} {w : World} {xs : List α} (h : ∀ x ∈ xs, vok (enc x)) : Rows M w 1 (xs.map fun x => [enc x]) (colA enc xs) := ⟨by simp [colA], fun i r v h1 h2 => by
  simp only [colA, List.getElem?_map] at h1 h2
  obtain ⟨x, k1, rfl⟩ := Option.map_eq_some_iff.1 h1
  rw [k1] at h2
  simp only [Option.map_some, Option.some.injEq] at h2
  subst h2
  refine ⟨rfl, rfl, fun j a y k2 k3 => ?_⟩
  cases j with
  | zero =>
    simp at k2 k3
    subst k2 k3
    have := h x (List.mem_of_getElem? k1)
    exact ⟨.v _ this, this.one⟩
  | succ j => simp at k2⟩
/-- What a row of the call's own becomes by a call that writes nothing else. -/
def InPlace (P : Program) (f : FuncId) (T : TypeId) {α : Type} (enc : α → Value) (F : List α → List α) (ret : Value → Value) : Prop :=
  (∀ (vs : Array Value) (w : World), (callFunc f vs).run P w = .ok (.enter f vs) w) ∧ ∀ (B : Nat) (w : World) (v : Value) (xs : List α), xs.length ≤ 1000000 → (∀ x ∈ xs, vok (enc x)) → w.ownsRow B T 1 v xs.length (xs.map enc) →
    Calls P f #[v] w fun e w' => ∃ v', e = .returned (ret v') ∧ w'.ownsRow B T 1 v' (F xs).length ((F xs).map enc) ∧ (v'.ownBlock = v.ownBlock) ∧ w'.os = w.os ∧ w'.tape = w.tape ∧ w'.output = w.output ∧ w.heap.size ≤ w'.heap.size ∧ (∀ b, b < w.heap.size → v.ownBlock ≠ some b → w'.heap[b]? = w.heap[b]?) ∧ (ret = (fun _ => .tuple #[]) → v' = v)
theorem blk_own {v : Value} (h : ∃ a n c, v = .slice a n c) : blk v = v.ownBlock := by
  obtain ⟨a, n, c, rfl⟩ := h
  cases a <;> rfl
theorem own_form {w : World} {B : Nat} {T : TypeId} {n k : Nat} {v : Value} {xs : List Value} (h : w.ownsRow B T n v k xs) : ∃ a c, v = .slice a k c := by
  rcases h.2 with ⟨rfl, e⟩ | ⟨g, cap, cur, rfl, _⟩
  · exact ⟨none, 0, by rw [e]⟩
  · exact ⟨_, cap, rfl⟩
/-- A row is sorted where it lies. -/
theorem Al_sort {f : FuncId} {d k g : Nat} {s : Operand} {ts : Array TypeId} {T : TypeId} {α : Type} {enc : α → Value} {F : List α → List α} {xs : List α} (hI : InPlace P f T enc F (fun _ => .tuple #[])) (hF : (F xs).length = xs.length ∧ ∀ x ∈ F xs, x ∈ xs) (ho : o.op = .call ⟨.value (.func f), #[s], ts⟩) (hg : o.guard = none) (hd : o.dst = some d) (hN : d < N) (hc : conB o = true) (hs : st.ev s = .ow k g) (hob : st.ob k = some (g, .arr T 1 (colA enc xs))) (hlen : xs.length ≤ 1000000)
    (h : Al P N M0 w0 ops Q l ((st.put k g (.arr T 1 (colA enc (F xs)))).set d .any)) : Al P N M0 w0 ops Q (o :: l) st := by
  refine ⟨?_⟩
  rintro a w ⟨ρ, hsim⟩
  have h1 := hsim.ev hc s (mem_call ho s (by simp))
  rw [hs] at h1
  obtain ⟨v, hv1, vals, hown, hrows, hvf, _, hlb⟩ := hsim.obj k g _ hob
  have hvs : a.eval s = v := by
    have := h1.1
    rw [hv1] at this
    exact (Option.some.inj this).symm
  obtain ⟨hfl, hvk⟩ := col_vals hrows
  rw [hfl, show (colA enc xs).length = xs.length from by simp [colA]] at hown
  have hcall := hI.2 0 w v xs hlen hvk hown
  refine wpList_plain hg fun K hK => wp_upon ?_
  have e : (execOp a.eval o).run P w = .ok (.enter f #[v]) w := by
    simp only [execOp, ho, resolve, Act.eval, Deferred.ofValue, invoke, Sem.run_bind, Sem.run_pure, Result.andThen_ok, List.map_toArray, List.map_cons, List.map_nil, hvs]
    rw [hI.1]
    revert hvs
    cases s <;> (intro hvs; simp [Act.eval] at hvs ⊢; exact hvs)
  rw [e]
  refine hcall.mono fun e w' ⟨v', k1, k2, k3, k4, k5, k6, k7, k8, k9⟩ => ⟨_, k1, ?_⟩
  obtain rfl := k9 rfl
  have hbv := blk_own (v := v') (by obtain ⟨a, c, e⟩ := own_form k2; exact ⟨a, _, c, e⟩)
  have hs2 := hsim.mod (w' := w') hob hv1 ⟨k4, k5, k6⟩ k7 (fun b hb hne => k8 b hb (by rw [← hbv]; exact hne)) (o' := .arr T 1 (colA enc (F xs))) (fun M' hK _ => ⟨_, by rw [col_flat, show (colA enc (F xs)).length = (F xs).length from by simp [colA]]; exact k2, col_rows fun x hx => hvk x (hF.2 x hx), by obtain ⟨a, c, e⟩ := own_form k2; exact ⟨a, c, by simp [colA, e]⟩, by simp only [colA, List.length_map, maxI]; omega, hlb⟩)
  refine hK _ _ (h.out _ _ ⟨ρ, ?_⟩)
  rw [hd]
  exact hs2.set hN trivial
/-- A row is made shorter where it lies: the call's result is the row from then on. -/
theorem Al_compact {f : FuncId} {d k g : Nat} {s : Operand} {ts : Array TypeId} {T : TypeId} {α : Type} {enc : α → Value} {F : List α → List α} {xs : List α} (hI : InPlace P f T enc F (fun v => v)) (hF : (F xs).length ≤ xs.length ∧ ∀ x ∈ F xs, x ∈ xs) (ho : o.op = .call ⟨.value (.func f), #[s], ts⟩) (hg : o.guard = none) (hd : o.dst = some d) (hN : d < N) (hc : conB o = true) (hs : st.ev s = .ow k g) (hob : st.ob k = some (g, .arr T 1 (colA enc xs))) (hlen : xs.length ≤ 1000000)
    (h : ∀ g', Al P N M0 w0 ops Q l ((st.put k g' (.arr T 1 (colA enc (F xs)))).set d (.ow k g'))) : Al P N M0 w0 ops Q (o :: l) st := by
  refine ⟨?_⟩
  rintro a w ⟨ρ, hsim⟩
  have h1 := hsim.ev hc s (mem_call ho s (by simp))
  rw [hs] at h1
  obtain ⟨v, hv1, vals, hown, hrows, hvf, _, hlb⟩ := hsim.obj k g _ hob
  have hvs : a.eval s = v := by
    have := h1.1
    rw [hv1] at this
    exact (Option.some.inj this).symm
  obtain ⟨hfl, hvk⟩ := col_vals hrows
  rw [hfl, show (colA enc xs).length = xs.length from by simp [colA]] at hown
  have hcall := hI.2 0 w v xs hlen hvk hown
  refine wpList_plain hg fun K hK => wp_upon ?_
  have e : (execOp a.eval o).run P w = .ok (.enter f #[v]) w := by
    simp only [execOp, ho, resolve, Act.eval, Deferred.ofValue, invoke, Sem.run_bind, Sem.run_pure, Result.andThen_ok, List.map_toArray, List.map_cons, List.map_nil, hvs]
    rw [hI.1]
    revert hvs
    cases s <;> (intro hvs; simp [Act.eval] at hvs ⊢; exact hvs)
  rw [e]
  refine hcall.mono fun e w' ⟨v', k1, k2, k3, k4, k5, k6, k7, k8, _⟩ => ⟨_, k1, ?_⟩
  have hform := own_form k2
  have hbv := blk_own (v := v) (by obtain ⟨a, c, e⟩ := own_form hown; exact ⟨a, _, c, e⟩)
  have hbv' := blk_own (v := v') (by obtain ⟨a, c, e⟩ := hform; exact ⟨a, _, c, e⟩)
  obtain ⟨g', ρ', m1, m2⟩ := hsim.upd (w' := w') k ⟨k4, k5, k6⟩ k7 (fun b hb hne => k8 b hb (by rw [← hbv]; exact fun e => hne g _ v hob hv1 e)) (x' := v') (o' := .arr T 1 (colA enc (F xs))) (fun b hb => by
    have hb : blk v' = some b := hb
    rw [hbv', k3, ← hbv] at hb
    exact .inr ⟨g, _, v, hob, hv1, hb⟩) (fun M' ρ' hK _ => ⟨_, by rw [col_flat, show (colA enc (F xs)).length = (F xs).length from by simp [colA]]; exact k2, col_rows fun x hx => hvk x (hF.2 x hx), by obtain ⟨a, c, e⟩ := hform; exact ⟨a, c, by simp [colA, e]⟩, by simp only [colA, List.length_map, maxI]; omega, fun b hb => hlb b (by rw [hbv', k3, ← hbv] at hb; exact hb)⟩)
  refine hK _ _ ((h g').out _ _ ⟨ρ', ?_⟩)
  rw [hd]
  exact m1.set hN ⟨m2, by obtain ⟨a, c, e⟩ := hform; rw [e]; rfl⟩
end
end Go.Proofs.Ytmbaeloiepjakaa.A

set_option linter.unusedSimpArgs false
set_option linter.unusedVariables false
namespace Go.Proofs.Ytmbaeloiepjakaa.A
open Go Go.RowKit
/-- What a method leaves. -/
def MPost (M : Nat → Prop) (T : TypeId) (n : Nat) (w' : World) (xs' : Array Value) (e : Ending) : Option (List AV × AV) → Prop
  | some (cs', res) => ∃ v, e = .returned v ∧ Cells M w' cs' xs'.toList ∧ Rep M w' res v
  | none => (∃ pv, e = .panicked [{ v := .iface pv (.agg #[]), recovered := false }]) ∧ xs'.size = n ∧ ∀ x ∈ xs', x.oneCell' = true
/-- A method that is called with a variable of its caller's own: what the variable's cells become, and what it yields. None: it panics. -/
def MCall (P : Program) (f : FuncId) (T : TypeId) (cs aa : List AV) (R : Option (List AV × AV)) : Prop :=
  (∀ (vs : Array Value) (w : World), (callFunc f vs).run P w = .ok (.enter f vs) w) ∧
  ∀ (M : Nat → Prop) (w : World) (b : Nat) (xs : Array Value) (vs : List Value), (∀ b, M b → b < w.heap.size) → M b → w.heap[b]? = some (.cells xs T (0, 0)) → Cells M w cs xs.toList → AllRep M w aa vs →
    Calls P f (.pointer (some ⟨b, 0, none⟩) :: vs).toArray w fun e w' => ExtL ⟨w, fun x => x = b, [], fun _ _ => none⟩ w' ∧ ∃ xs' : Array Value, w'.heap[b]? = some (.cells xs' T (0, 0)) ∧ MPost M T cs.length w' xs' e R
section
variable {P : Program} {N : Nat} {M0 : Nat → Prop} {w0 : Base} {ops : Array Oper} {Q : Exit → ASt → Prop} {o : Oper} {l : List Oper} {st : ASt}
theorem ORep.box_cells {B : Base} {M : Nat → Prop} {w : World} {ρ : Rho} {h : Value} {T : TypeId} {cs : List AV} (r : ORep B M w ρ h (.box T (cs.map .d))) : ∃ b xs, h = .pointer (some ⟨b, 0, none⟩) ∧ (B.w.heap.size ≤ b ∨ B.l b) ∧ w.heap[b]? = some (.cells xs T (0, 0)) ∧ Cells M w cs xs.toList := by
  obtain ⟨b, vs, h0, h1, h2, h3, h4⟩ := r
  refine ⟨b, vs, h0, h1, h2, by simpa using h3, fun j a x ha hx => ?_⟩
  exact h4 j (.d a) x (by rw [List.getElem?_map, ha]; rfl) (by rw [← Array.getElem?_toList]; exact hx)
theorem ORep.of_cells {B : Base} {M : Nat → Prop} {w : World} {ρ : Rho} {T : TypeId} {cs : List AV} {b : Nat} {xs : Array Value} (h1 : B.w.heap.size ≤ b ∨ B.l b) (h2 : w.heap[b]? = some (.cells xs T (0, 0))) (h3 : Cells M w cs xs.toList) : ORep B M w ρ (.pointer (some ⟨b, 0, none⟩)) (.box T (cs.map .d)) := by
  refine ⟨b, xs, rfl, h1, h2, by simpa using h3.1, fun j s x hs hx => ?_⟩
  rw [List.getElem?_map] at hs
  obtain ⟨a, ha, rfl⟩ := Option.map_eq_some_iff.1 hs
  exact h3.2 j a x ha (by rw [Array.getElem?_toList]; exact hx)
theorem call_run {f : FuncId} {x : Operand} {xs : List Operand} {ts : Array TypeId} {a : Act} {w : World} (hcf : ∀ (vs : Array Value) (w : World), (callFunc f vs).run P w = .ok (.enter f vs) w) (ho : o.op = .call ⟨.value (.func f), (x :: xs).toArray, ts⟩) : (execOp a.eval o).run P w = .ok (.enter f (a.eval x :: xs.map a.eval).toArray) w := by
  simp only [execOp, ho, resolve, Act.eval, Deferred.ofValue, invoke, Sem.run_bind, Sem.run_pure, Result.andThen_ok]
  rw [hcf]
  congr 2
  apply Array.ext'
  cases x <;> simp [Act.eval]
theorem Known.sub {M M' : Nat → Prop} {w : World} (h : ∀ b, M' b → M b) : Known M M' w w := fun b _ hb => ⟨fun hm => hb (h b hm), rfl⟩
theorem Cells.mono {M M' : Nat → Prop} {w w' : World} {cs : List AV} {vs : List Value} (k : Known M M' w w') (h : Cells M w cs vs) : Cells M' w' cs vs := ⟨h.1, fun j a x h1 h2 => ⟨(h.2 j a x h1 h2).1.mono k, (h.2 j a x h1 h2).2⟩⟩
theorem put_mt {ρ : Rho} {k g : Nat} {T T' : TypeId} {s1 s' : List SV} (hob : st.ob k = some (g, .box T s1)) : ∀ b, Mt M0 ρ (st.put k g (.box T' s')).ob b → Mt M0 ρ st.ob b := fun b hm => by
  rcases hm with hm | ⟨k2, g2, o2, x2, h1, h2, h3⟩
  · exact .inl hm
  · have : (bif Nat.beq k2 k then some (g, AO.box T' s') else st.ob k2) = some (g2, o2) := h1
    cases hb : Nat.beq k2 k with
    | true =>
      rw [hb] at this
      simp only [cond_true, Option.some.injEq, Prod.mk.injEq] at this
      obtain rfl := Nat.eq_of_beq_eq_true hb
      obtain ⟨rfl, rfl⟩ := this
      exact .inr ⟨_, _, _, x2, hob, h2, h3⟩
    | false =>
      rw [hb] at this
      exact .inr ⟨k2, g2, o2, x2, this, h2, h3⟩
/-- A method of a variable of the call's own. -/
theorem Al_mcall {f : FuncId} {T : TypeId} {cs cs' aa : List AV} {res : AV} {d k g : Nat} {x : Operand} {xs : List Operand} {ts : Array TypeId} (hm : MCall P f T cs aa (some (cs', res))) (ho : o.op = .call ⟨.value (.func f), (x :: xs).toArray, ts⟩) (hg : o.guard = none) (hd : o.dst = some d) (hN : d < N) (hc : conB o = true) (hx : st.ev x = .bx k g 0) (hob : st.ob k = some (g, .box T (cs.map .d))) (ha : ArgsOk st xs aa)
    (h : Al P N M0 w0 ops Q l ((st.put k g (.box T (cs'.map .d))).set d (.d res))) : Al P N M0 w0 ops Q (o :: l) st := by
  refine ⟨?_⟩
  rintro a w ⟨ρ, hsim⟩
  have hev := fun y hy => hsim.ev hc y (mem_call ho y hy)
  have h1 := hev x (by simp)
  rw [hx] at h1
  obtain ⟨v, b', hv1, hv2, hv3⟩ := h1
  obtain ⟨v', hv4, hO⟩ := hsim.obj k g _ hob
  rw [hv1] at hv4; cases hv4
  obtain ⟨b, ys, rfl, hB, hh, hcells⟩ := hO.box_cells
  simp only [blk, Option.some.injEq] at hv2
  subst hv2
  have hall := ha.rep (a := a) fun y hy => hev y (by simp [hy])
  have hcall := hm.2 (Mt M0 ρ st.ob) w b ys _ hsim.mt_lt (.inr ⟨k, g, _, _, hob, hv1, rfl⟩) hh hcells hall
  refine wpList_plain hg fun K hK => wp_upon ?_
  rw [call_run hm.1 ho, hv3]
  refine hcall.mono fun e w' ⟨hx, ys', hh', v, he, hc', hr⟩ => ⟨v, he, ?_⟩
  have hs2 := hsim.mod (w' := w') hob hv1 ⟨hx.os, hx.tape, hx.output⟩ hx.size (fun c hc hne => hx.block c hc fun e => hne (by rw [show c = b from e]; rfl)) (o' := .box T (cs'.map .d)) (fun M' hK hM => ORep.of_cells hB hh' (hc'.mono (Known.sub hM)))
  refine hK _ _ (h.out _ _ ⟨ρ, ?_⟩)
  rw [hd]
  exact hs2.set hN (hr.mono (Known.sub (put_mt hob)))
/-- A method of a variable of the call's own that panics: so does the call. -/
theorem Al_mpanic {f : FuncId} {T : TypeId} {cs aa : List AV} {k g : Nat} {x : Operand} {xs : List Operand} {ts : Array TypeId} (hm : MCall P f T cs aa none) (ho : o.op = .call ⟨.value (.func f), (x :: xs).toArray, ts⟩) (hg : o.guard = none) (hc : conB o = true) (hx : st.ev x = .bx k g 0) (hob : st.ob k = some (g, .box T (cs.map .d))) (ha : ArgsOk st xs aa)
    (h : ∀ pv, Q (.panic [{ v := .iface pv (.agg #[]), recovered := false }]) (st.put k g (.box T (cs.map fun _ => .any)))) : Al P N M0 w0 ops Q (o :: l) st := by
  refine ⟨?_⟩
  rintro a w ⟨ρ, hsim⟩
  have hev := fun y hy => hsim.ev hc y (mem_call ho y hy)
  have h1 := hev x (by simp)
  rw [hx] at h1
  obtain ⟨v, b', hv1, hv2, hv3⟩ := h1
  obtain ⟨v', hv4, hO⟩ := hsim.obj k g _ hob
  rw [hv1] at hv4; cases hv4
  obtain ⟨b, ys, rfl, hB, hh, hcells⟩ := hO.box_cells
  simp only [blk, Option.some.injEq] at hv2
  subst hv2
  have hall := ha.rep (a := a) fun y hy => hev y (by simp [hy])
  have hcall := hm.2 (Mt M0 ρ st.ob) w b ys _ hsim.mt_lt (.inr ⟨k, g, _, _, hob, hv1, rfl⟩) hh hcells hall
  refine wpList_plain hg fun K hK => ?_
  unfold Oper.wp
  rw [call_run hm.1 ho, hv3]
  refine hcall.mono fun e w' ⟨hx, ys', hh', ⟨pv, he⟩, hsz, hone⟩ => ?_
  subst he
  have hs2 := hsim.mod (w' := w') hob hv1 ⟨hx.os, hx.tape, hx.output⟩ hx.size (fun c hc hne => hx.block c hc fun e => hne (by rw [show c = b from e]; rfl)) (o' := .box T (cs.map fun _ => .any)) (fun M' hK hM => ⟨b, ys', rfl, hB, hh', by simpa using hsz, fun j s x hs hx => by
    rw [List.getElem?_map] at hs
    obtain ⟨a, ha, rfl⟩ := Option.map_eq_some_iff.1 hs
    exact ⟨trivial, hone x (Array.mem_of_getElem? hx)⟩⟩)
  exact ⟨_, h pv, ρ, hs2⟩
theorem Pu_nilb {x : Operand} {k g off : Nat} (ho : o.op = .nilCheck x) (hx : st.ev x = .bx k g off) : Pu P st o (.bx k g off) := Pu_q fun B M ρ w a h2 h3 => by
  have hm := h2 x (by simp [opsOf, ho, Op.operands])
  rw [hx] at hm
  obtain ⟨y, b, h4, h5, h6⟩ := hm
  refine ⟨.pointer (some ⟨b, off, none⟩), ?_, y, b, h4, h5, rfl⟩
  simp [execOp, ho, h6, Sem.run]
end
/-- What stands at a method's end. -/
def RtM (T : TypeId) (n : Nat) (rs : ASt → AV → Prop) (R : Option (List AV × AV)) : Exit → ASt → Prop
  | .ret, st => ∃ cs' res, R = some (cs', res) ∧ rs st res ∧ st.ob 1000 = some (0, .box T (cs'.map .d))
  | .normal, st => ∃ cs' res, R = some (cs', res) ∧ rs st res ∧ st.ob 1000 = some (0, .box T (cs'.map .d))
  | .panic ch, st => R = none ∧ (∃ pv, ch = [{ v := .iface pv (.agg #[]), recovered := false }]) ∧ ∃ s, st.ob 1000 = some (0, .box T s) ∧ s.length = n
  | _, _ => False
def Res0 (_ : ASt) (res : AV) : Prop := res = .tup []
def Res1 (r : Nat) (st : ASt) (res : AV) : Prop := Sub (st.sl r) (.d res)
def Res2 (r r' : Nat) (st : ASt) (res : AV) : Prop := ∃ a b, res = .tup [a, b] ∧ Sub (st.sl r) (.d a) ∧ Sub (st.sl r') (.d b)
def Res3 (r r' r'' : Nat) (st : ASt) (res : AV) : Prop := ∃ a b c, res = .tup [a, b, c] ∧ Sub (st.sl r) (.d a) ∧ Sub (st.sl r') (.d b) ∧ Sub (st.sl r'') (.d c)
/-- Results that are read from a variable of the call's own, of many cells; of one. -/
def ResN (r n : Nat) (st : ASt) (res : AV) : Prop := ∃ k g off T cs rw, st.sl r = .bx k g off ∧ st.ob k = some (g, .box T cs) ∧ (cs.drop off).take n = rw.map .d ∧ rw.length = n ∧ res = .row rw
/-- How results are read. -/
structure Reads (P : Program) (fn : Func) (rs : ASt → AV → Prop) : Prop where
  out : ∀ {N : Nat} {M0 : Nat → Prop} {w0 : Base} {st : ASt} {ρ : Rho} {a : Act} {w : World} {res : AV}, SimR N M0 w0 st ρ a w → rs st res → ∃ v, (results fn a.tmps).run P w = .ok v w ∧ Rep M0 w res v
section
variable {P : Program}
theorem Reads.r0 {fn : Func} (h : fn.results = #[]) : Reads P fn Res0 := ⟨fun hs hr => ⟨_, results_none h _ _ _, by rw [show _ = AV.tup [] from hr]; exact .tup [] [] rfl fun j a x h => by simp at h⟩⟩
theorem Reads.r1 {fn : Func} {r : Nat} (h : fn.results = #[.tmp r]) : Reads P fn (Res1 r) := ⟨fun hs hr => ⟨_, results_tmp h _ _ _, hs.res hr⟩⟩
theorem Reads.r2 {fn : Func} {r r' : Nat} (h : fn.results = #[.tmp r, .tmp r']) : Reads P fn (Res2 r r') := ⟨fun hs ⟨a, b, e, h1, h2⟩ => ⟨_, results_tmp2 h _ _ _, by
  rw [e]
  exact .tup [a, b] [_, _] rfl fun j c x h3 h4 => by
    match j with
    | 0 => simp only [List.getElem?_cons_zero, Option.some.injEq] at h3 h4; subst h3 h4; exact hs.res h1
    | 1 => simp only [List.getElem?_cons_succ, List.getElem?_cons_zero, Option.some.injEq] at h3 h4; subst h3 h4; exact hs.res h2
    | j + 2 => simp at h3⟩⟩
theorem Reads.r3 {fn : Func} {r r' r'' : Nat} (h : fn.results = #[.tmp r, .tmp r', .tmp r'']) : Reads P fn (Res3 r r' r'') := ⟨fun hs ⟨a, b, c, e, h1, h2, h3⟩ => ⟨_, results_tmp3 h _ _ _, by
  rw [e]
  exact .tup [a, b, c] [_, _, _] rfl fun j c x h4 h5 => by
    match j with
    | 0 => simp only [List.getElem?_cons_zero, Option.some.injEq] at h4 h5; subst h4 h5; exact hs.res h1
    | 1 => simp only [List.getElem?_cons_succ, List.getElem?_cons_zero, Option.some.injEq] at h4 h5; subst h4 h5; exact hs.res h2
    | 2 => simp only [List.getElem?_cons_succ, List.getElem?_cons_zero, Option.some.injEq] at h4 h5; subst h4 h5; exact hs.res h3
    | j + 3 => simp at h4⟩⟩
theorem loadvarN {t T : TypeId} {B : Base} {M : Nat → Prop} {w : World} {ρ : Rho} {y : Value} {b off n : Nat} {cs : List SV} {r : List AV} (ht : ∀ w, (isAgg t).run P w = .ok true w) (hz : ∀ w, (sizeOf t).run P w = .ok n w) (hO : ORep B M w ρ y (.box T cs)) (hb : blk y = some b) (hr : (cs.drop off).take n = r.map .d) (hn : r.length = n) : ∃ v, (loadVar t ⟨b, off, none⟩).run P w = .ok v w ∧ Rep M w (.row r) v := by
  obtain ⟨b', vs, rfl, h8, h9, h10, h11⟩ := hO
  simp only [blk, Option.some.injEq] at hb
  subst hb
  have hcell : ∀ j, j < n → ∃ c, r[j]? = some c ∧ cs[off + j]? = some (.d c) := fun j hj => by
    have h12 : (r.map SV.d)[j]? = some (.d (r[j]'(by omega))) := by simp [hn, hj]
    rw [← hr, List.getElem?_take, if_pos hj, List.getElem?_drop] at h12
    exact ⟨_, by simp [hn, hj], h12⟩
  have hval : ∀ j, j < n → ∃ v, vs[off + j]? = some v := fun j hj => by
    obtain ⟨c, _, h12⟩ := hcell j hj
    have : off + j < vs.size := by rw [h10]; exact (List.getElem?_eq_some_iff.1 h12).1
    exact ⟨vs[off + j], by simp [this]⟩
  have gd : ∀ j v, vs[j]? = some v → vs.getD j undef = v := fun j v hv => by simp [Array.getD_eq_getD_getElem?, hv]
  have h1 := run_cells (P := P) (w := w) (b := b') n off 0 (fun j => vs.getD (off + j) undef) #[] (fun j hj => by
    obtain ⟨v, hv⟩ := hval j hj
    rw [Nat.zero_add, gd _ _ hv]
    simp [World.cell?, h9, hv])
  refine ⟨.agg ((List.range n).map fun j => vs.getD (off + j) undef).toArray, ?_, .row _ _ (by simp [hn]) (fun x hx => ?_) (fun j c x h12 h13 => ?_)⟩
  · simp only [loadVar, Sem.run_bind, Sem.run_pure, Result.andThen_ok, ht, hz, loadCells, if_true, h1]
    simp
  · simp only [List.mem_map, List.mem_range] at hx
    obtain ⟨j, hj, rfl⟩ := hx
    obtain ⟨c, _, hc⟩ := hcell j hj
    obtain ⟨v, hv⟩ := hval j hj
    rw [gd _ _ hv]
    exact (h11 _ _ v hc hv).2
  · have hj : j < n := by rw [← hn]; exact (List.getElem?_eq_some_iff.1 h12).1
    obtain ⟨c', hc', hc⟩ := hcell j hj
    rw [h12] at hc'; cases hc'
    obtain ⟨v, hv⟩ := hval j hj
    rw [List.getElem?_map, List.getElem?_range hj] at h13
    simp only [Option.map_some, Option.some.injEq] at h13
    rw [gd _ _ hv] at h13
    subst h13
    exact (h11 _ _ v hc hv).1
theorem Reads.cN {fn : Func} {r t n : Nat} (h : fn.results = #[.cell r t]) (ht : ∀ w, (isAgg t).run P w = .ok true w) (hz : ∀ w, (sizeOf t).run P w = .ok n w) : Reads P fn (ResN r n) := ⟨fun {N M0 w0 st ρ a w res} hs ⟨k, g, off, T, cs, rw', h1, h2, h3, h4, h5⟩ => by
  have hm := hs.slot r
  rw [h1] at hm
  obtain ⟨y, b, k1, k2, k3⟩ := hm
  obtain ⟨y', k4, hO⟩ := hs.obj k g _ h2
  rw [k1] at k4; cases k4
  obtain ⟨v, k5, k6⟩ := loadvarN ht hz hO k2 h3 h4
  refine ⟨v, ?_, ?_⟩
  · have ha : (asAddr (a.tmps.getD r undef)).run P w = .ok ⟨b, off, none⟩ w := by rw [k3]; rfl
    rw [Array.getD_eq_getD_getElem?] at ha
    simp [results, h, Sem.run_bind, ha, k5]
  · rw [h5]; exact k6.mono (Known.sub fun c hc => .inl hc)⟩
end
/-- What stands at a call's end. -/
def RtG (rs : ASt → AV → Prop) (res : AV) : Exit → ASt → Prop
  | .ret, st => rs st res
  | .normal, st => rs st res
  | _, _ => False
theorem ACall_enterG {P : Program} {f : FuncId} {fn : Func} {c : Code} {N : Nat} {aa : List AV} {res : AV} {rs : ASt → AV → Prop} (hcf : ∀ (vs : Array Value) (w : World), (callFunc f vs).run P w = .ok (.enter f vs) w) (hf : P.funcs[f]? = some fn) (hb : fn.body = some c) (hN : fn.ntmps = N) (hr : Reads P fn rs) (hn : aa.length ≤ N)
    (h : (∀ a ∈ aa, okA a) → ∀ M0 w0, (∀ b, ¬ w0.l b) → Aw P N M0 w0 c (RtG rs res) (mk (argS 0 aa) [])) : ACall P f aa res := ⟨hcf, fun M w vs hM ha => by
  refine calls_of_wp hf hb ?_
  rw [hN]
  refine wp_mono ((h (okA_of ha) M ⟨w, fun _ => False, [], fun _ _ => none⟩ (fun _ h => h)).out _ _ ⟨_, sim_enter hM ha hn⟩) fun e a' w' ⟨st, h1, ρ, h2⟩ => ?_
  have key : rs st res → a'.defers = [] ∧ ∃ v, (results fn a'.tmps).run P w' = .ok v w' ∧ (∃ v', Ending.returned v = .returned v' ∧ Ev.Ext w w' ∧ Rep M w' res v') := fun hs => by
    obtain ⟨v, k1, k2⟩ := hr.out h2 hs
    exact ⟨h2.defers, v, k1, v, rfl, h2.ext.ext, k2⟩
  cases e with
  | normal => exact key h1
  | ret => exact key h1
  | _ => exact h1.elim⟩
def pinR (b : Nat) (k g : Nat) : Option Value := if k = 1000 ∧ g = 0 then some (.pointer (some ⟨b, 0, none⟩)) else none
theorem pinR_self (b : Nat) : pinR b 1000 0 = some (.pointer (some ⟨b, 0, none⟩)) := if_pos ⟨rfl, rfl⟩
theorem pinR_of {b k g : Nat} {v : Value} (h : pinR b k g = some v) : k = 1000 ∧ g = 0 ∧ v = .pointer (some ⟨b, 0, none⟩) := by
  unfold pinR at h
  split at h
  · rename_i e; cases h; exact ⟨e.1, e.2, rfl⟩
  · cases h
theorem sim_enterM {N : Nat} {M : Nat → Prop} {w : World} {T : TypeId} {cs aa : List AV} {vs : List Value} {b : Nat} {xs : Array Value} (hM : ∀ b, M b → b < w.heap.size) (hb : M b) (hh : w.heap[b]? = some (.cells xs T (0, 0))) (hcs : Cells M w cs xs.toList) (ha : AllRep M w aa vs) (hn : aa.length + 1 ≤ N) :
    SimR N M ⟨w, fun x => x = b, [], pinR b⟩ (mk ((0, .bx 1000 0 0) :: argS 1 aa) [(1000, 0, .box T (cs.map .d))]) (fun k g => pinR b k g) { tmps := (.pointer (some ⟨b, 0, none⟩) :: vs).toArray ++ Array.replicate (N - (.pointer (some ⟨b, 0, none⟩) :: vs).toArray.size) undef, defers := [] } w := by
  have hob : ∀ k g o, (mk ((0, .bx 1000 0 0) :: argS 1 aa) [(1000, 0, .box T (cs.map .d))]).ob k = some (g, o) → k = 1000 ∧ g = 0 ∧ o = .box T (cs.map .d) := fun k g o h => by
    have h1 : (bif Nat.beq k 1000 then some (0, AO.box T (cs.map .d)) else none) = some (g, o) := h
    cases hk : Nat.beq k 1000 with
    | true =>
      rw [hk] at h1
      simp only [cond_true, Option.some.injEq, Prod.mk.injEq] at h1
      exact ⟨Nat.eq_of_beq_eq_true hk, h1.1.symm, h1.2.symm⟩
    | false => rw [hk] at h1; cases h1
  have hMt : ∀ c, Mt M (fun k g => pinR b k g) (mk ((0, .bx 1000 0 0) :: argS 1 aa) [(1000, 0, .box T (cs.map .d))]).ob c → M c := fun c hc => by
    rcases hc with hc | ⟨k, g, o, x, h1, h2, h3⟩
    · exact hc
    · obtain ⟨_, _, rfl⟩ := pinR_of h2
      obtain ⟨_, _, rfl⟩ := hob k g o h1
      simp only [fpO, blk, Option.some.injEq] at h3
      subst h3; exact hb
  exact {
    size := by have := ha.1; simp; omega
    defers := rfl
    slot := fun i => by
      cases i with
      | zero => exact ⟨_, b, pinR_self b, rfl, by simp [Array.getD_eq_getD_getElem?, Array.getElem?_append]⟩
      | succ i =>
        have e := argS_get aa 1 i
        show SRep _ _ _ (lookS (argS 1 aa) (i + 1)) _
        rw [Nat.add_comm i 1, e]
        cases h : aa[i]? with
        | none => trivial
        | some a =>
          have hi : i < vs.length := by rw [ha.1]; exact (List.getElem?_eq_some_iff.1 h).1
          show SRep _ _ _ (.d a) (((Value.pointer (some ⟨b, 0, none⟩) :: vs).toArray ++ Array.replicate (N - (Value.pointer (some ⟨b, 0, none⟩) :: vs).toArray.size) undef).getD (1 + i) undef)
          have e2 : ((Value.pointer (some ⟨b, 0, none⟩) :: vs).toArray ++ Array.replicate (N - (Value.pointer (some ⟨b, 0, none⟩) :: vs).toArray.size) undef).getD (1 + i) undef = vs[i] := by
            rw [Nat.add_comm]
            simp [Array.getD_eq_getD_getElem?, Array.getElem?_append, hi]
          rw [e2]
          exact (ha.2 i a vs[i] h (by simp [hi])).mono (Known.sub hMt)
    obj := fun k g o h => by
      obtain ⟨rfl, rfl, rfl⟩ := hob k g o h
      exact ⟨_, pinR_self b, ORep.of_cells (.inr rfl) hh (hcs.mono (Known.sub hMt))⟩
    apart := fun k g o k' g' o' x x' c h h' _ _ _ _ => by
      obtain ⟨rfl, _⟩ := hob k g o h
      obtain ⟨rfl, _⟩ := hob k' g' o' h'
      rfl
    gens := ⟨1, fun k g h => by
      cases e : pinR b k g with
      | none => exact (h e).elim
      | some v => have := (pinR_of e).2.1; omega⟩
    base := hM
    ext := ⟨rfl, rfl, rfl, Nat.le_refl _, fun _ _ _ => rfl⟩
    pin := fun _ _ _ h => h }
theorem Cells.ok {M : Nat → Prop} {w : World} {cs : List AV} {vs : List Value} (h : Cells M w cs vs) : ∀ a ∈ cs, okA a := fun a ha => by
  obtain ⟨i, hi, rfl⟩ := List.getElem_of_mem ha
  have hv : i < vs.length := by rw [h.1]; exact hi
  exact ⟨M, w, vs[i], (h.2 i _ _ (by simp [hi]) (by simp [hv])).1⟩
theorem MCall_enter {P : Program} {f : FuncId} {fn : Func} {c : Code} {N : Nat} {T : TypeId} {cs aa : List AV} {R : Option (List AV × AV)} {rs : ASt → AV → Prop} (hcf : ∀ (vs : Array Value) (w : World), (callFunc f vs).run P w = .ok (.enter f vs) w) (hf : P.funcs[f]? = some fn) (hb : fn.body = some c) (hN : fn.ntmps = N) (hr : Reads P fn rs) (hn : aa.length + 1 ≤ N)
    (h : (∀ a ∈ aa, okA a) → (∀ a ∈ cs, okA a) → ∀ M0 w0, (∀ b, w0.l b → w0.p 1000 0 = some (.pointer (some ⟨b, 0, none⟩))) → Aw P N M0 w0 c (RtM T cs.length rs R) (mk ((0, .bx 1000 0 0) :: argS 1 aa) [(1000, 0, .box T (cs.map .d))])) : MCall P f T cs aa R := ⟨hcf, fun M w b xs vs hM hMb hh hcs ha => by
  refine calls_of_wp hf hb ?_
  rw [hN]
  refine wp_mono ((h (okA_of ha) hcs.ok M ⟨w, fun x => x = b, [], pinR b⟩ (fun b' hb' => by rw [show b' = b from hb']; exact pinR_self b)).out _ _ ⟨_, sim_enterM hM hMb hh hcs ha hn⟩) fun e a' w' ⟨st, h1, ρ, h2⟩ => ?_
  have hx : ExtL ⟨w, fun x => x = b, [], fun _ _ => none⟩ w' := ⟨h2.ext.os, h2.ext.tape, h2.ext.output, h2.ext.size, h2.ext.block⟩
  have hpt : ∀ s, st.ob 1000 = some (0, .box T s) → ∃ B, ORep B (Mt M ρ st.ob) w' ρ (.pointer (some ⟨b, 0, none⟩)) (.box T s) := fun s hs => by
    obtain ⟨v, k1, k2⟩ := h2.obj _ _ _ hs
    rw [h2.pin 1000 0 _ (pinR_self b)] at k1; cases k1
    exact ⟨_, k2⟩
  have key : (∃ cs' res, R = some (cs', res) ∧ rs st res ∧ st.ob 1000 = some (0, .box T (cs'.map .d))) → a'.defers = [] ∧ ∃ v, (results fn a'.tmps).run P w' = .ok v w' ∧ (ExtL ⟨w, fun x => x = b, [], fun _ _ => none⟩ w' ∧ ∃ xs' : Array Value, w'.heap[b]? = some (.cells xs' T (0, 0)) ∧ MPost M T cs.length w' xs' (.returned v) R) := fun ⟨cs', res, e, hrs, hob⟩ => by
    obtain ⟨v, hv, hrep⟩ := hr.out h2 hrs
    obtain ⟨B, k2⟩ := hpt _ hob
    obtain ⟨b', ys, e1, _, e2, e3⟩ := k2.box_cells
    cases e1
    refine ⟨h2.defers, v, hv, hx, ys, e2, ?_⟩
    subst e
    exact ⟨v, rfl, e3.mono (Known.sub fun c hc => .inl hc), hrep⟩
  cases e with
  | normal => exact key h1
  | ret => exact key h1
  | panic ch =>
    obtain ⟨rfl, ⟨pv, rfl⟩, s, hob, hl⟩ := h1
    obtain ⟨B, b', ys, e1, _, e2, e3, e4⟩ := hpt _ hob
    cases e1
    exact ⟨h2.defers, hx, ys, e2, ⟨pv, rfl⟩, by omega, fun x hx => by
      obtain ⟨i, hi, rfl⟩ := Array.getElem_of_mem hx
      exact (e4 i s[i] ys[i] (by simp [show i < s.length by omega]) (by simp)).2⟩
  | _ => exact h1.elim⟩
end Go.Proofs.Ytmbaeloiepjakaa.A

set_option linter.unusedSimpArgs false
set_option linter.unusedVariables false
namespace Go.Proofs.Ytmbaeloiepjakaa.A
open Go Go.RowKit
section
variable {P : Program} {N : Nat} {M0 : Nat → Prop} {w0 : Base} {ops : Array Oper} {Q : Exit → ASt → Prop} {o : Oper} {l : List Oper} {st : ASt}
theorem Pu_int_shr {t yt : TypeId} {x y : Operand} {k yk : IntKind} {a b r : Int} (ho : o.op = .binOp .shr t x y yt) (hx : st.ev x = .d (.v (.int k a))) (hy : st.ev y = .d (.v (.int yk b))) (hb : 0 ≤ b ∧ b ≤ k.bits) (hr : a / 2 ^ b.toNat = r) (hv : vok (.int k a) → vok (.int k r)) : Pu P st o (.d (.v (.int k r))) :=
  Pu_bin ho hx hy (fun h1 h2 w => by
    simp only [Sem.run_bind, guard_int, Result.andThen_ok, binOp_shr, shift_shr k yk a b hb.1 hb.2, hr, Sem.run_pure]) (fun h _ => hv h)
theorem Pu_int_shl {t yt : TypeId} {x y : Operand} {k yk : IntKind} {a b r : Int} (ho : o.op = .binOp .shl t x y yt) (hx : st.ev x = .d (.v (.int k a))) (hy : st.ev y = .d (.v (.int yk b))) (hb : 0 ≤ b ∧ b ≤ k.bits) (hr : k.wrap (a * 2 ^ b.toNat) = r) (hv : vok (.int k a) → vok (.int k r)) : Pu P st o (.d (.v (.int k r))) :=
  Pu_bin ho hx hy (fun h1 h2 w => by
    simp only [Sem.run_bind, guard_int, Result.andThen_ok, binOp_shl, shift_shl k yk a b hb.1 hb.2, hr, Sem.run_pure]) (fun h _ => hv h)
theorem Pu_int_mul {t yt : TypeId} {x y : Operand} {k : IntKind} {a b r : Int} (ho : o.op = .binOp .mul t x y yt) (hx : st.ev x = .d (.v (.int k a))) (hy : st.ev y = .d (.v (.int k b))) (hr : k.wrap (a * b) = r) (hv : vok (.int k a) → vok (.int k r)) : Pu P st o (.d (.v (.int k r))) :=
  Pu_bin ho hx hy (fun h1 h2 w => by
    simp only [Sem.run_bind, guard_int, Result.andThen_ok, binOp]; simp [Op.intArith, hr, Sem.run]) (fun h _ => hv h)
theorem Pu_int_add {t yt : TypeId} {x y : Operand} {k : IntKind} {a b r : Int} (ho : o.op = .binOp .add t x y yt) (hx : st.ev x = .d (.v (.int k a))) (hy : st.ev y = .d (.v (.int k b))) (hr : k.wrap (a + b) = r) (hv : vok (.int k a) → vok (.int k r)) : Pu P st o (.d (.v (.int k r))) :=
  Pu_bin ho hx hy (fun h1 h2 w => by
    simp only [Sem.run_bind, guard_int, Result.andThen_ok, binOp]; simp [Op.intArith, hr, Sem.run]) (fun h _ => hv h)
theorem Pu_int_or {t yt : TypeId} {x y : Operand} {k : IntKind} {a b r : Int} (ho : o.op = .binOp .or t x y yt) (hx : st.ev x = .d (.v (.int k a))) (hy : st.ev y = .d (.v (.int k b))) (hr : k.wrap (BitVec.ofInt k.bits a ||| BitVec.ofInt k.bits b).toNat = r) (hv : vok (.int k a) → vok (.int k r)) : Pu P st o (.d (.v (.int k r))) :=
  Pu_bin ho hx hy (fun h1 h2 w => by
    simp only [Sem.run_bind, guard_int, Result.andThen_ok, binOp]; simp only [Op.intBits, hr, ne_eq, not_true_eq_false, if_false, Sem.run_pure]) (fun h _ => hv h)
theorem Pu_int_andNot {t yt : TypeId} {x y : Operand} {k : IntKind} {a b r : Int} (ho : o.op = .binOp .andNot t x y yt) (hx : st.ev x = .d (.v (.int k a))) (hy : st.ev y = .d (.v (.int k b))) (hr : k.wrap (BitVec.ofInt k.bits a &&& ~~~BitVec.ofInt k.bits b).toNat = r) (hv : vok (.int k a) → vok (.int k r)) : Pu P st o (.d (.v (.int k r))) :=
  Pu_bin ho hx hy (fun h1 h2 w => by
    simp only [Sem.run_bind, guard_int, Result.andThen_ok, binOp]; simp only [Op.intBits, hr, ne_eq, not_true_eq_false, if_false, Sem.run_pure]) (fun h _ => hv h)
/-- A variable of the call's own, told as data from here on. -/
def ASt.frzb (st : ASt) (k : Nat) (is : List Nat) (a : AV) : ASt := ⟨fun i => bif is.contains i then .d a else st.sl i, fun j => bif Nat.beq j k then none else st.ob j⟩
def AllBx (st : ASt) (k g : Nat) : List Nat → Prop
  | [] => True
  | i :: r => st.sl i = .bx k g 0 ∧ AllBx st k g r
theorem AllBx.get {k g : Nat} : ∀ {is : List Nat}, AllBx st k g is → ∀ i ∈ is, st.sl i = .bx k g 0
  | [], _, i, h => by cases h
  | i :: r, h, j, hj => by
    rcases List.mem_cons.1 hj with rfl | hj
    · exact h.1
    · exact h.2.get j hj
theorem le_frzb {k g : Nat} {T : TypeId} {cs : List AV} (hnl : ∀ b, ¬ w0.l b) (is : List Nat) (hob : st.ob k = some (g, .box T (cs.map .d))) (his : AllBx st k g is) : Le N M0 w0 st (st.frzb k is (.fp cs)) := by
  rintro a w ⟨ρ, h⟩
  refine ⟨ρ, ?_⟩
  have hob' : ∀ j g' o', (st.frzb k is (.fp cs)).ob j = some (g', o') → j ≠ k ∧ st.ob j = some (g', o') := fun j g' o' hh => by
    have : (bif Nat.beq j k then none else st.ob j) = some (g', o') := hh
    cases hb : Nat.beq j k with
    | true => rw [hb] at this; cases this
    | false =>
      rw [hb] at this
      exact ⟨fun e => by subst e; simp at hb, this⟩
  have hk : Known (Mt M0 ρ st.ob) (Mt M0 ρ (st.frzb k is (.fp cs)).ob) w w := fun b _ hb => ⟨fun hm => hb (hm.imp id fun ⟨k', g', o', x, h1, h2, h3⟩ => ⟨k', g', o', x, (hob' _ _ _ h1).2, h2, h3⟩), rfl⟩
  obtain ⟨v, hv, hO⟩ := h.obj k g _ hob
  obtain ⟨b, xs, rfl, hB, hh, hcs⟩ := hO.box_cells
  have hbn : ¬ Mt M0 ρ (st.frzb k is (.fp cs)).ob b := fun hm => by
    rcases hm with hm | ⟨k', g', o', x, h1, h2, h3⟩
    · have := h.base b hm
      rcases hB with hB | hB
      · omega
      · exact hnl b hB
    · obtain ⟨h4, h5⟩ := hob' _ _ _ h1
      exact h4 (h.apart k' g' o' k g _ x _ b h5 hob h2 hv h3 rfl)
  have hrep : Rep (Mt M0 ρ (st.frzb k is (.fp cs)).ob) w (.fp cs) (.pointer (some ⟨b, 0, none⟩)) := by
    have hx : ∀ j a, cs[j]? = some a → ∃ x, xs[j]? = some x ∧ xs.getD j undef = x := fun j a ha => by
      have hj : j < xs.size := by
        have := (List.getElem?_eq_some_iff.1 ha).1
        have := hcs.1
        simp at this; omega
      exact ⟨xs[j], by simp [hj], by simp [Array.getD, hj]⟩
    refine .fp cs b 0 (fun j => xs.getD j undef) (fun j a ha => ?_) (fun j a ha => ?_)
    · obtain ⟨x, hx1, hx2⟩ := hx j a ha
      have := (hcs.2 j a x ha (by rw [Array.getElem?_toList]; exact hx1)).2
      refine ⟨hbn, ?_, by rw [hx2]; exact this⟩
      rw [hx2, Nat.zero_add]
      simp [World.cell?, hh, hx1]
    · obtain ⟨x, hx1, hx2⟩ := hx j a ha
      rw [hx2]
      exact (hcs.2 j a x ha (by rw [Array.getElem?_toList]; exact hx1)).1.mono hk
  exact {
    size := h.size
    defers := h.defers
    slot := fun i => by
      show SRep _ _ _ (bif is.contains i then .d (.fp cs) else st.sl i) _
      by_cases hi : i ∈ is
      · have e : is.contains i = true := by simpa using hi
        rw [e]
        have h1 := h.slot i
        rw [his.get i hi] at h1
        obtain ⟨y, b', h2, h3, h4⟩ := h1
        rw [hv] at h2; cases h2
        simp only [blk, Option.some.injEq] at h3
        subst h3
        rw [h4]
        exact hrep
      · have e : is.contains i = false := by simpa using hi
        rw [e]
        exact (h.slot i).mono hk
    obj := fun k' g' o' hh => by
      obtain ⟨x, h1, h2⟩ := h.obj k' g' o' (hob' _ _ _ hh).2
      exact ⟨x, h1, h2.mono hk fun _ _ => rfl⟩
    apart := fun k1 g1 o1 k2 g2 o2 x x' b h1 h2 => h.apart k1 g1 o1 k2 g2 o2 x x' b (hob' _ _ _ h1).2 (hob' _ _ _ h2).2
    gens := h.gens
    base := h.base
    ext := h.ext
    pin := h.pin }
theorem Aw_frzb {c : Code} {k g : Nat} {T : TypeId} {cs : List AV} (hnl : ∀ b, ¬ w0.l b) (is : List Nat) (hob : st.ob k = some (g, .box T (cs.map .d))) (his : AllBx st k g is) (h : Aw P N M0 w0 c Q (st.frzb k is (.fp cs))) : Aw P N M0 w0 c Q st := ⟨fun a w hs => h.out a w (le_frzb hnl is hob his a w hs)⟩
/-- A closure that captures. -/
theorem Pu_makeFunc {f : FuncId} {xs : Array Operand} {caps : List AV} (ho : o.op = .makeFunc (.func f) #[] xs) (ha : ArgsOk st xs.toList caps) : Pu P st o (.d (.fn f caps)) := Pu_q fun B M ρ w a h2 _ => by
  have h4 := ha.rep (a := a) fun x hx => h2 x (by simp [opsOf, ho, Op.operands]; simpa using hx)
  refine ⟨.func (.func f) #[] (xs.map a.eval), ?_, ?_⟩
  · simp only [execOp, ho, Instr.makeFunc, Sem.run_bind, Sem.run_pure, Result.andThen_ok]
    simp
  · have e : xs.map a.eval = (xs.toList.map a.eval).toArray := by apply Array.ext'; simp
    show Rep M w (.fn f caps) (.func (.func f) #[] (xs.map a.eval))
    rw [e]
    exact .fn f caps _ h4.1 h4.2
end
def NoGoto (Q : Exit → ASt → Prop) : Exit → ASt → Prop
  | .goto _, _ => False
  | e, st => Q e st
/-- A scope that nothing jumps in. -/
theorem Aw_scope {P : Program} {N : Nat} {M0 : Nat → Prop} {w0 : Base} {Q : Exit → ASt → Prop} {st : ASt} {c : Code} (h : Aw P N M0 w0 c (NoGoto Q) st) : Aw P N M0 w0 (.scope c) Q st := ⟨fun a w hs => wp_scope_straight (wp_mono (h.out a w hs) fun e a' w' ⟨s, h1, h2⟩ => by
  cases e with
  | goto l => exact h1.elim
  | _ => exact ⟨s, h1, h2⟩)⟩
theorem Aw_label {P : Program} {N : Nat} {M0 : Nat → Prop} {w0 : Base} {Q : Exit → ASt → Prop} {st : ASt} {l : Nat} (h : Q .normal st) : Aw P N M0 w0 (.label l) Q st := ⟨fun a w hs => wp_label ⟨st, h, hs⟩⟩
end Go.Proofs.Ytmbaeloiepjakaa.A
