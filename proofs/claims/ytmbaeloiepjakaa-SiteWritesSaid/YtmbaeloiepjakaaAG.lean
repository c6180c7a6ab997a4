
/- Between the elder words (Sl, GoT) and abstract states; numbers' and texts' bytes. -/
import Derived.Test.YtmbaeloiepjakaaATy
import Derived.Test.YtmbaeloiepjakaaAP
import Derived.Test.YtmbaeloiepjakaaVNum
set_option linter.unusedSimpArgs false
set_option linter.unusedVariables false
namespace Go.Proofs.Ytmbaeloiepjakaa
open Go.RowKit A R
theorem A.ba_sz (l : List UInt8) : (V.ba l).size = l.length := by simp [ByteArray.size]
theorem A.Pu_catB {st : ASt} {o : Oper} {t yt : TypeId} {x y : Operand} {l m : List UInt8} (ho : o.op = .binOp .add t x y yt) (hx : st.ev x = .d (.v (.string (V.ba l)))) (hy : st.ev y = .d (.v (.string (V.ba m)))) (hI : l.length + m.length ≤ maxI) : Pu Try.prog st o (.d (.v (.string (V.ba (l ++ m))))) := by
  rw [← V.ba_append]
  exact Pu_cat ho hx hy (by rw [A.ba_sz, A.ba_sz]; exact hI)
/-- A contract of the elder form, of a function that yields a value of one cell. -/
theorem A.ofv {f : FuncId} {aa : List AV} {r : Value} (hf : ∀ (vs : Array Value) (w : World), (callFunc f vs).run Try.prog w = .ok (.enter f vs) w) (hr : vok r)
    (h : ∀ (M : Nat → Prop) (w : World) (vs : List Value), AllRep M w aa vs → Calls Try.prog f vs.toArray w fun e w' => e = .returned r ∧ Ev.Ext w w') : ACall Try.prog f aa (.v r) :=
  ⟨hf, fun M w vs _ ha => (h M w vs ha).mono fun e w' ⟨h1, h2⟩ => ⟨r, h1, h2, .v r hr⟩⟩
theorem A.all1 {M : Nat → Prop} {w : World} {x : Value} {vs : List Value} (h : AllRep M w [.v x] vs) : vs = [x] ∧ vok x := by
  obtain ⟨h1, h2⟩ := h
  match vs, h1, h2 with
  | [y], _, h2 =>
    have := h2 0 _ _ rfl rfl
    cases this with
    | v _ h => exact ⟨rfl, h⟩
theorem A.rowv {M : Nat → Prop} {w : World} {us : List Value} {y : Value} (h : Rep M w (.row (us.map .v)) y) : y = .agg us.toArray := by
  cases h with
  | row cs ws hl h1 hrr =>
    have : ws = us := by
      apply List.ext_getElem (by simpa using hl)
      intro i h3 h4
      have h5 := hrr i (.v us[i]) ws[i] (by simp [h4]) (by simp [h3])
      generalize ws[i] = p at h5 ⊢
      cases h5; rfl
    rw [this]
theorem A.all1r {M : Nat → Prop} {w : World} {us : List Value} {vs : List Value} (h : AllRep M w [.row (us.map .v)] vs) : vs = [.agg us.toArray] := by
  obtain ⟨h1, h2⟩ := h
  match vs, h1, h2 with
  | [y], _, h2 =>
    have := A.rowv (h2 0 _ _ rfl rfl)
    rw [this]
class A.RowT (α : Type) [GoT α] where
  row : α → List AV
  back : ∀ {M : Nat → Prop} {w : World} {cs : List Value} {x : α}, Cells M w (row x) cs → GoT.rep (fun b => ¬ M b) w cs x
class A.RowI (α : Type) [GoT α] extends A.RowT α where
  into : ∀ {K M : Nat → Prop} {w : World} {cs : List Value} {x : α}, GoT.rep K w cs x → (∀ b, K b → ¬ M b) → Cells M w (row x) cs
open A.RowT
theorem A.sl_to {α : Type} [GoT α] [RowI α] {K M : Nat → Prop} {w : World} {v : Value} {xs : List α} (h : Sl K w v xs) (hK : ∀ b, K b → ¬ M b) (hcp : ∀ a c, v = .slice a xs.length c → xs.length ≤ c) : Rep M w (.sl (GoT.n α) (xs.map row)) v := by
  obtain ⟨a, cap, rfl, hl, hc⟩ := h
  by_cases hne : xs = []
  · subst hne
    exact .nil _ _ _
  · obtain ⟨b, o, rfl, hb, hel⟩ := hc hne
    have hx : ∀ i, i < xs.length → ∃ cs, Cells M w (row (xs[i]?.getD (xs.head hne))) cs ∧ At w b (o + i * GoT.n α) cs ∧ cs.length = GoT.n α := fun i hi => by
      obtain ⟨cs, h1, h2⟩ := hel i xs[i] (by simp [hi])
      exact ⟨cs, by simpa [hi] using RowI.into h1 hK, h2, GoT.len h1⟩
    let f : Nat → Nat → Value := fun i j => if h : i < xs.length then (Classical.choose (hx i h)).getD j undef else undef
    have hf : ∀ i j a, i < xs.length → (row (xs[i]?.getD (xs.head hne)))[j]? = some a → w.cell? ⟨b, o + i * GoT.n α + j, none⟩ = some (f i j) ∧ (f i j).oneCell' = true ∧ Rep M w a (f i j) := fun i j a hi ha => by
      obtain ⟨h1, h2, h3⟩ := Classical.choose_spec (hx i hi)
      have e : f i j = (Classical.choose (hx i hi)).getD j undef := by show (if h : i < xs.length then _ else _) = _; rw [dif_pos hi]
      have hj : j < (Classical.choose (hx i hi)).length := by rw [h1.1]; exact (List.getElem?_eq_some_iff.1 ha).1
      have e2 : (Classical.choose (hx i hi))[j]? = some (f i j) := by rw [e]; simp [List.getD_eq_getElem?_getD, hj]
      exact ⟨h2 j _ e2, (h1.2 j a _ ha e2).2, (h1.2 j a _ ha e2).1⟩
    have hlen : ∀ i, i < xs.length → (row (xs[i]?.getD (xs.head hne))).length = GoT.n α := fun i hi => by
      obtain ⟨cs, h1, _, h3⟩ := hx i hi
      rw [← h1.1]; exact h3
    have hrow : ∀ (i : Nat) (r : List AV), (xs.map row)[i]? = some r → i < xs.length ∧ r = row (xs[i]?.getD (xs.head hne)) := fun i r hr => by
      rw [List.getElem?_map] at hr
      obtain ⟨x, h1, h2⟩ := Option.map_eq_some_iff.1 hr
      refine ⟨(List.getElem?_eq_some_iff.1 h1).1, ?_⟩
      rw [h1, ← h2]; rfl
    have := Rep.sl (M := M) (w := w) (GoT.n α) (xs.map row) b o cap f (by simpa using hl) (by simpa using hcp _ _ rfl) (fun i r hr => by
      obtain ⟨hi, rfl⟩ := hrow i r hr
      exact hlen i hi) (fun i r j a hr ha => by
      obtain ⟨hi, rfl⟩ := hrow i r hr
      obtain ⟨h1, h2, _⟩ := hf i j a hi ha
      exact ⟨hK b hb, h1, h2⟩) (fun i r j a hr ha => by
      obtain ⟨hi, rfl⟩ := hrow i r hr
      exact (hf i j a hi ha).2.2)
    simpa using this
theorem A.sl_of {α : Type} [GoT α] [RowT α] {M : Nat → Prop} {w : World} {v : Value} {xs : List α} (h : Rep M w (.sl (GoT.n α) (xs.map row)) v) : Sl (fun b => ¬ M b) w v xs := by
  generalize hr : xs.map row = rows at h
  cases h with
  | nil n a c =>
    have : xs = [] := by simpa using hr
    subst this
    exact ⟨a, c, rfl, by simp, fun h => (h rfl).elim⟩
  | sl n rows b o cap f hl hcap hn hc hrr =>
    subst hr
    refine ⟨_, cap, by simp, by simpa using hl, fun hne => ⟨b, o, rfl, ?_, fun i x hx => ?_⟩⟩
    · cases xs with
      | nil => exact (hne rfl).elim
      | cons x r =>
        have h1 := hn 0 (row x) rfl
        have hp := GoT.pos (α := α)
        cases hrow : row x with
        | nil => rw [hrow] at h1; simp at h1; omega
        | cons a t => exact (hc 0 (row x) 0 a rfl (by rw [hrow]; rfl)).1
    · have h0 : (xs.map row)[i]? = some (row x) := by rw [List.getElem?_map, hx]; rfl
      have hlen := hn i (row x) h0
      refine ⟨(List.range (GoT.n α)).map (f i), RowT.back ⟨by simp [hlen], fun j a y ha hy => ?_⟩, fun j c hj => ?_⟩
      · have hj : j < GoT.n α := by rw [← hlen]; exact (List.getElem?_eq_some_iff.1 ha).1
        rw [List.getElem?_map, List.getElem?_range hj] at hy
        simp only [Option.map_some, Option.some.injEq] at hy
        subst hy
        exact ⟨hrr i _ j a h0 ha, (hc i _ j a h0 ha).2.2⟩
      · have hj' : j < GoT.n α := by
          have := (List.getElem?_eq_some_iff.1 hj).1
          simpa using this
        rw [List.getElem?_map, List.getElem?_range hj'] at hj
        simp only [Option.map_some, Option.some.injEq] at hj
        subst hj
        have ha : (row x)[j]? = some ((row x)[j]'(by omega)) := by simp [hlen, hj']
        exact (hc i _ j _ h0 ha).2.1
theorem A.cells1 {M : Nat → Prop} {w : World} {a : AV} {x : Value} (h : Rep M w a x) (h1 : x.oneCell' = true) : Cells M w [a] [x] := ⟨rfl, fun j b y h2 h3 => by
  cases j with
  | zero => simp at h2 h3; subst h2 h3; exact ⟨h, h1⟩
  | succ j => simp at h2⟩
theorem A.cellsc {M : Nat → Prop} {w : World} {a : AV} {x : Value} {aa : List AV} {xs : List Value} (h : Rep M w a x) (h1 : x.oneCell' = true) (hc : Cells M w aa xs) : Cells M w (a :: aa) (x :: xs) := by
  have := (cells1 h h1).append hc
  exact this
theorem A.cells0 {M : Nat → Prop} {w : World} : Cells M w [] [] := ⟨rfl, fun j b y h2 h3 => by simp at h2⟩
/-- The first cell of some. -/
theorem A.uncons {M : Nat → Prop} {w : World} {a : AV} {aa : List AV} {cs : List Value} (h : Cells M w (a :: aa) cs) : ∃ x xs, cs = x :: xs ∧ Rep M w a x ∧ x.oneCell' = true ∧ Cells M w aa xs := by
  obtain ⟨h1, h2⟩ := h
  match cs, h1, h2 with
  | x :: xs, h1, h2 => exact ⟨x, xs, rfl, (h2 0 a x rfl rfl).1, (h2 0 a x rfl rfl).2, by simpa using h1, fun j b y h3 h4 => h2 (j + 1) b y (by simpa using h3) (by simpa using h4)⟩
theorem A.uncons0 {M : Nat → Prop} {w : World} {cs : List Value} (h : Cells M w [] cs) : cs = [] := List.eq_nil_of_length_eq_zero h.1
theorem A.repv {M : Nat → Prop} {w : World} {x y : Value} (h : Rep M w (.v x) y) : y = x ∧ vok x := by
  cases h with
  | v _ h => exact ⟨rfl, h⟩
instance : RowI ByteArray where
  row s := [tv s]
  into h _ := by
    obtain ⟨rfl, h2⟩ := h
    exact cells1 (.v _ h2) rfl
  back h := by
    obtain ⟨x, xs, rfl, h1, h2, h3⟩ := uncons h
    obtain rfl := uncons0 h3
    obtain ⟨rfl, h4⟩ := repv h1
    exact ⟨rfl, h4⟩
instance : RowI Int where
  row s := [iv s]
  into h _ := by
    obtain ⟨rfl, h2⟩ := h
    exact cells1 (.v _ h2) rfl
  back h := by
    obtain ⟨x, xs, rfl, h1, h2, h3⟩ := uncons h
    obtain rfl := uncons0 h3
    obtain ⟨rfl, h4⟩ := repv h1
    exact ⟨rfl, h4⟩
theorem A.allc {M : Nat → Prop} {w : World} {a : AV} {aa : List AV} {vs : List Value} (h : AllRep M w (a :: aa) vs) : ∃ x xs, vs = x :: xs ∧ Rep M w a x ∧ AllRep M w aa xs := by
  obtain ⟨h1, h2⟩ := h
  match vs, h1, h2 with
  | x :: xs, h1, h2 => exact ⟨x, xs, rfl, h2 0 a x rfl rfl, by simpa using h1, fun j b y h3 h4 => h2 (j + 1) b y (by simpa using h3) (by simpa using h4)⟩
theorem A.all0 {M : Nat → Prop} {w : World} {vs : List Value} (h : AllRep M w [] vs) : vs = [] := List.eq_nil_of_length_eq_zero h.1
theorem A.row_of {α : Type} [GoT α] [RowT α] {M : Nat → Prop} {w : World} {v : Value} {x : α} (h : Rep M w (.row (RowT.row x)) v) : ∃ cs, v = .agg cs.toArray ∧ GoT.rep (fun b => ¬ M b) w cs x := by
  cases h with
  | row cs vs hl h1 hr => exact ⟨vs, rfl, RowT.back ⟨hl, fun j a y h3 h4 => ⟨hr j a y h3 h4, h1 y (List.mem_of_getElem? h4)⟩⟩⟩
theorem A.new_known {M : Nat → Prop} {w : World} (hM : ∀ b, M b → b < w.heap.size) : ∀ b, ((¬ M b ∧ b < w.heap.size) ∨ w.heap.size ≤ b) → ¬ M b := fun b h hm => by
  rcases h with h | h
  · exact h.1 hm
  · have := hM b hm; omega
end Go.Proofs.Ytmbaeloiepjakaa
