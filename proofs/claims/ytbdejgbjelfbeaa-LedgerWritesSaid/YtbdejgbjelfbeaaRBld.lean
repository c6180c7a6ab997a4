/- A builder of the call's own, and what a write to it keeps. -/
import Derived.Test.YtbdejgbjelfbeaaRDel
import Derived.Test.YtbdejgbjelfbeaaShelf
import Derived.Test.YtbdejgbjelfbeaaVWalks
set_option linter.unusedSimpArgs false
set_option linter.unusedVariables false
namespace Go.Proofs.Ytbdejgbjelfbeaa
open Go.RowKit R
/-- All stands but the builder b and rows of bytes from b on. -/
structure Kp (b : Nat) (w w' : World) : Prop where
  below : Below b w w'
  kept : Lib.OthersKept 5 (some b) w w'
theorem Kp.refl (b : Nat) (w : World) : Kp b w w := ⟨Below.refl _ _, Lib.OthersKept.refl _ _ _⟩
theorem Kp.trans {b : Nat} {x y z : World} (h : Kp b x y) (k : Kp b y z) : Kp b x z := ⟨h.below.trans k.below, h.kept.trans k.kept⟩
theorem Kp.of_ext {b : Nat} {w w' : World} (h : Ev.Ext w w') (hb : b < w.heap.size) : Kp b w w' :=
  ⟨h.mono (Nat.le_of_lt hb), fun k o hk _ _ => by rw [h.block k (Array.getElem?_eq_some_iff.1 hk).1]; exact hk⟩
theorem Kp.size {b : Nat} {w w' : World} (h : Kp b w w') : w.heap.size ≤ w'.heap.size := h.below.size
theorem Kp.tick {b : Nat} {w w' : World} (h : Kp b w w') : Kp b w { w' with drawn := w'.drawn + 1 } := ⟨⟨h.below.os, h.below.tape, h.below.output, h.below.size, h.below.block⟩, h.kept⟩
/-- A block that is no row of bytes. -/
theorem Kp.block {b k : Nat} {w w' : World} (h : Kp b w w') {cs : Array Value} {T : TypeId} {fz : Nat × Nat} (hk : w.heap[k]? = some (.cells cs T fz)) (hT : T ≠ 5) (hb : k ≠ b) : w'.heap[k]? = some (.cells cs T fz) :=
  h.kept k _ hk (fun e => hb (Option.some.inj e)) (fun c fz' e => by simp only [Obj.cells.injEq] at e; exact hT e.2.1)
theorem Kp.map {b k : Nat} {w w' : World} (h : Kp b w w') {es : Array MapEntry} {c : Nat} (hk : w.heap[k]? = some (.map es c)) (hb : k ≠ b) : w'.heap[k]? = some (.map es c) :=
  h.kept k _ hk (fun e => hb (Option.some.inj e)) (fun c fz' e => by cases e)
abbrev IsBk (b : Nat) (l : List UInt8) (w : World) : Prop := Lib.IsBuilderF 77 5 b b (Lib.byteCells l) w
theorem IsBk.lt {b : Nat} {l : List UInt8} {w : World} (h : IsBk b l w) : b < w.heap.size := by
  rcases h with ⟨_, v, hb, _⟩ | ⟨_, v, hb, _⟩ <;> exact (Array.getElem?_eq_some_iff.1 hb).1
theorem atF_ext {T e : TypeId} {B b : Nat} {p : Value} {bs : List Value} {w w' : World} (h : Lib.BuilderAtF T e B b p bs w) (he : Ev.Ext w w') : Lib.BuilderAtF T e B b p bs w' := by
  obtain ⟨h1, v, hb, ⟨h2, h3⟩, h4⟩ := h
  refine ⟨h1, v, by rw [he.block b (Array.getElem?_eq_some_iff.1 hb).1]; exact hb, ⟨h2, ?_⟩, h4⟩
  rcases h3 with h3 | ⟨g, cap, cur, fz, hv, hg, hgg, rest⟩
  · exact .inl h3
  · exact .inr ⟨g, cap, cur, fz, hv, hg, by rw [he.block g (Array.getElem?_eq_some_iff.1 hgg).1]; exact hgg, rest⟩
theorem IsBk.ext {b : Nat} {l : List UInt8} {w w' : World} (h : IsBk b l w) (he : Ev.Ext w w') : IsBk b l w' := h.elim (fun x => .inl (atF_ext x he)) (fun x => .inr (atF_ext x he))
theorem IsBk.fresh (w : World) : IsBk w.heap.size [] (w.alloc (.cells #[.pointer none, .slice none 0 0] 77)) := Lib.IsBuilderF.of (Lib.fresh_isBuilder _ _ w)
theorem strk_any (b : Nat) (l : List UInt8) (s : ByteArray) (w : World) (h : IsBk b l w) (hlen : l.length + s.size ≤ 140737488355328) :
    Calls Try.prog 48 #[.pointer (some ⟨b, 0, none⟩), .string s] w fun e w' => e = .returned (.tuple #[.int .i64 s.size, .nilIface]) ∧ IsBk b (l ++ s.data.toList) w' ∧ Kp b w w' := by
  refine (Try.Builder_WriteString_k b b (Lib.byteCells l) s w h (by rw [Lib.byteCells_length]; exact hlen) (Nat.le_of_lt h.lt)).mono ?_
  rintro e w' ⟨rfl, h1, h2, h3⟩
  refine ⟨rfl, .inr ?_, h2, h3⟩
  rw [Lib.byteCells_append]; exact h1
theorem bstr_any (b : Nat) (l : List UInt8) (w : World) (h : IsBk b l w) :
    Calls Try.prog 57 #[.pointer (some ⟨b, 0, none⟩)] w fun e w' => e = .returned (.string (V.ba l)) ∧ IsBk b l w' ∧ Kp b w w' := by
  refine (Try.Builder_String_any_k b b l w h (Nat.le_of_lt h.lt)).mono ?_
  rintro e w' ⟨rfl, h1, h2, h3⟩
  exact ⟨rfl, h1, h2, h3⟩
end Go.Proofs.Ytbdejgbjelfbeaa
