/- The ledger's contracts, told over abstract states. -/
import Derived.Test.YtbdejgbjelfbeaaABr
import Derived.Test.YtbdejgbjelfbeaaLAwake
import Derived.Test.YtbdejgbjelfbeaaLRef
import Derived.Test.YtbdejgbjelfbeaaLGood
set_option linter.unusedSimpArgs false
set_option linter.unusedVariables false
namespace Go.Proofs.Ytbdejgbjelfbeaa
open Go.RowKit A R
theorem A.allc {M : Nat → Prop} {w : World} {a : AV} {aa : List AV} {vs : List Value} (h : AllRep M w (a :: aa) vs) : ∃ x xs, vs = x :: xs ∧ Rep M w a x ∧ AllRep M w aa xs := by
  obtain ⟨h1, h2⟩ := h
  match vs, h1, h2 with
  | x :: xs, h1, h2 => exact ⟨x, xs, rfl, h2 0 a x rfl rfl, by simpa using h1, fun j b y h3 h4 => h2 (j + 1) b y (by simpa using h3) (by simpa using h4)⟩
theorem A.all0 {M : Nat → Prop} {w : World} {vs : List Value} (h : AllRep M w [] vs) : vs = [] := List.eq_nil_of_length_eq_zero h.1
theorem A.row_of {α : Type} [GoT α] [RowT α] {M : Nat → Prop} {w : World} {v : Value} {x : α} (h : Rep M w (.row (RowT.row x)) v) : ∃ cs, v = .agg cs.toArray ∧ GoT.rep (fun b => ¬ M b) w cs x := by
  cases h with
  | row cs vs hl h1 hr => exact ⟨vs, rfl, RowT.back ⟨hl, fun j a y h3 h4 => ⟨hr j a y h3 h4, h1 y (List.mem_of_getElem? h4)⟩⟩⟩
theorem A.new_known {M : Nat → Prop} {w : World} (hM : ∀ b, M b → b < w.heap.size) : ∀ b, ((¬ M b ∧ b < w.heap.size) ∨ w.heap.size ≤ b) → ¬ M b := fun b h hm => by
  rcases h with h | h
  · exact h.1 hm
  · have := hM b hm; omega
theorem lparts_a (l : List Event) (hl : l.length ≤ 1000) (hk : L.fit l) : ACall Try.prog 10 [.sl 6 (l.map Event.row)] (.sl 1 ((L.parts l).map fun s => [tv s])) := ⟨fun _ _ => by kernel_rfl, fun M w vs hM ha => by
  obtain ⟨x, xs, rfl, h1, h2⟩ := allc ha
  obtain rfl := all0 h2
  refine (lparts_any l x _ w (sl_of (α := Event) h1) hl hk).mono ?_
  rintro e w' ⟨v', rfl, hG, hx⟩
  refine ⟨v', rfl, hx, sl_to (α := ByteArray) (hG.sl ?_) (new_known hM) (fun a c e => by
    obtain ⟨a', c', e', h⟩ := R.Grow.caps hG
    rw [e] at e'; cases e'; exact h)⟩
  have := L.partsF_len l (fun _ => [])
  unfold L.parts; split
  · omega
  · simp⟩
theorem lbytes_a (l : List Event) (hl : l.length ≤ 1000) (hk : L.fit l) : ACall Try.prog 11 [.sl 6 (l.map Event.row)] (tv (V.ba (L.bytes l))) := A.ofv (fun _ _ => by kernel_rfl) (by
    have h1 := L.cat_len _ (L.parts_size hk)
    have h2 : (L.parts l).length ≤ 1000 := by
      have := L.partsF_len l (fun _ => [])
      unfold L.parts; split
      · omega
      · simp
    have h3 := V.num_len64 (n := l.length) (by omega)
    simp only [vok, ba_size, A.maxI]
    unfold L.bytes; split
    · simp only [List.length_append]; omega
    · simp) fun M w vs ha => by
  obtain ⟨x, xs, rfl, h1, h2⟩ := allc ha
  obtain rfl := all0 h2
  exact lbytes_any l x _ w (sl_of (α := Event) h1) hl hk
theorem lcheck_a (e : Event) : ACall Try.prog 14 [.row e.row] (bv (L.check e)) := A.ofv (fun _ _ => by kernel_rfl) trivial fun M w vs ha => by
  obtain ⟨x, xs, rfl, h1, h2⟩ := allc ha
  obtain rfl := all0 h2
  obtain ⟨cs, rfl, v, rfl, hk, hs⟩ := A.row_of (α := Event) h1
  exact lcheck_any e v _ w hk.1 hs
theorem rlcheck_a (e : Event) : ACall Try.prog 15 [.row e.row] (bv (L.check e)) := A.ofv (fun _ _ => by kernel_rfl) trivial fun M w vs ha => by
  obtain ⟨x, xs, rfl, h1, h2⟩ := allc ha
  obtain rfl := all0 h2
  obtain ⟨cs, rfl, v, rfl, hk, hs⟩ := A.row_of (α := Event) h1
  exact rlcheck_any e v _ w hk.1 hs
theorem lawake_a : ACall Try.prog 8 [] (bv true) := A.ofv (fun _ _ => by kernel_rfl) trivial fun M w vs ha => by
  obtain rfl := all0 ha
  exact lawake_any w
theorem lshort_a (s : ByteArray) : ACall Try.prog 28 [tv s] (tv (s.extract 0 12)) := A.ofv (fun _ _ => by kernel_rfl) (by simp [vok, A.maxI]; omega) fun M w vs ha => by
  obtain ⟨rfl, _⟩ := A.all1 ha
  exact (lshort_any s w).mono fun e w' ⟨h1, h2⟩ => ⟨h1, h2 ▸ Ev.Ext.refl _⟩
end Go.Proofs.Ytbdejgbjelfbeaa
