/- Abstract states: data told as less, cell by cell. -/
import Derived.Test.YtgoncpjgpkoacaaAB
set_option linter.unusedSimpArgs false
set_option linter.unusedVariables false
namespace Go.Proofs.Ytgoncpjgpkoacaa.A
open Go Go.RowKit
/-- Whatever reads as the one reads as the other. -/
def ASub (a a' : AV) : Prop := ∀ (M : Nat → Prop) (w : World) (x : Value), Rep M w a x → Rep M w a' x
theorem ASub.rfl {a : AV} : ASub a a := fun _ _ _ h => h
theorem ASub.eq {a b : AV} (h : a = b) : ASub a b := h ▸ ASub.rfl
theorem ASub.nil {n : Nat} : ASub (.v (.slice none 0 0)) (.sl n []) := fun _ _ _ h => by cases h; exact .nil n _ _
theorem ASub.sub {a a' : AV} (h : ASub a a') : Sub (.d a) (.d a') := fun M w _ x hx => h M w x hx
def LSub : List AV → List AV → Prop
  | [], [] => True
  | a :: l, b :: m => ASub a b ∧ LSub l m
  | _, _ => False
theorem LSub.refl : ∀ (l : List AV), LSub l l
  | [] => trivial
  | _ :: l => ⟨ASub.rfl, LSub.refl l⟩
theorem LSub.get : ∀ {l m : List AV}, LSub l m → l.length = m.length ∧ ∀ (j : Nat) (b : AV), m[j]? = some b → ∃ a, l[j]? = some a ∧ ASub a b
  | [], [], _ => ⟨rfl, fun j b h => by simp at h⟩
  | a :: l, b :: m, h => by
    obtain ⟨h1, h2⟩ := h.2.get
    refine ⟨by simp [h1], fun j c hc => ?_⟩
    cases j with
    | zero => simp at hc; subst hc; exact ⟨a, rfl, h.1⟩
    | succ j => exact h2 j c (by simpa using hc)
  | [], _ :: _, h => h.elim
  | _ :: _, [], h => h.elim
def RSub : List (List AV) → List (List AV) → Prop
  | [], [] => True
  | a :: l, b :: m => LSub a b ∧ RSub l m
  | _, _ => False
theorem RSub.get : ∀ {l m : List (List AV)}, RSub l m → l.length = m.length ∧ ∀ (j : Nat) (b : List AV), m[j]? = some b → ∃ a, l[j]? = some a ∧ LSub a b
  | [], [], _ => ⟨rfl, fun j b h => by simp at h⟩
  | a :: l, b :: m, h => by
    obtain ⟨h1, h2⟩ := h.2.get
    refine ⟨by simp [h1], fun j c hc => ?_⟩
    cases j with
    | zero => simp at hc; subst hc; exact ⟨a, rfl, h.1⟩
    | succ j => exact h2 j c (by simpa using hc)
  | [], _ :: _, h => h.elim
  | _ :: _, [], h => h.elim
theorem ASub.sl {n : Nat} {rows rows' : List (List AV)} (h : RSub rows rows') : ASub (.sl n rows) (.sl n rows') := fun M w x hx => by
  obtain ⟨h1, h2⟩ := h.get
  cases hx with
  | nil n a c =>
    cases rows' with
    | nil => exact .nil n a c
    | cons r l => simp at h1
  | sl n rows b o cap f hl hcap hn hc hr =>
    rw [h1]
    refine .sl n rows' b o cap f (by omega) (by omega) (fun i r hi => ?_) (fun i r j a hi hj => ?_) (fun i r j a hi hj => ?_)
    · obtain ⟨q, h3, h4⟩ := h2 i r hi
      rw [← h4.get.1]; exact hn i q h3
    · obtain ⟨q, h3, h4⟩ := h2 i r hi
      obtain ⟨c, h5, _⟩ := h4.get.2 j a hj
      exact hc i q j c h3 h5
    · obtain ⟨q, h3, h4⟩ := h2 i r hi
      obtain ⟨c, h5, h6⟩ := h4.get.2 j a hj
      exact h6 _ _ _ (hr i q j c h3 h5)
theorem ASub.row {cs cs' : List AV} (h : LSub cs cs') : ASub (.row cs) (.row cs') := fun M w x hx => by
  obtain ⟨h1, h2⟩ := h.get
  cases hx with
  | row cs vs hl hone hr =>
    refine .row cs' vs (by omega) hone (fun j a x hj hx => ?_)
    obtain ⟨c, h3, h4⟩ := h2 j a hj
    exact h4 _ _ _ (hr j c x h3 hx)
end Go.Proofs.Ytgoncpjgpkoacaa.A
