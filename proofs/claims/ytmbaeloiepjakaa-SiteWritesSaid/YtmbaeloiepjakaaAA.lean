/- A logic of abstract states over the walk: values that lie in memory are told as data; rows and variables of the call's own are told apart from them. Control, calls, operations. -/
import Derived.Test.YtmbaeloiepjakaaRep
import Derived.Deep.LoopGhost
set_option linter.unusedSimpArgs false
set_option linter.unusedVariables false
namespace Go.Proofs.Ytmbaeloiepjakaa.A
open Go Go.RowKit
/-- What a value reads as, told without memory. -/
inductive AV where
  | any
  | v (x : Value)
  | sl (n : Nat) (rows : List (List AV))
  | row (cs : List AV)
  | fp (cs : List AV)
  | fn (f : FuncId) (caps : List AV)
  | tup (xs : List AV)
instance : Inhabited AV := ⟨.any⟩
abbrev maxI : Nat := 9223372036854775807
def inI (x : Int) : Prop := -9223372036854775808 ≤ x ∧ x ≤ 9223372036854775807
instance (x : Int) : Decidable (inI x) := by unfold inI; infer_instance
/-- A value of one cell, which fits, and leads to no memory. -/
def vok : Value → Prop
  | .int .i64 n => inI n
  | .int .u64 n => 0 ≤ n ∧ n ≤ 18446744073709551615
  | .int .u8 n => 0 ≤ n ∧ n ≤ 255
  | .string s => s.size ≤ maxI
  | .agg _ => False
  | .tuple _ => False
  | .pointer (some _) => False
  | .slice (some _) _ _ => False
  | .slice none l c => l = 0 ∧ c = 0
  | .map (some _) => False
  | _ => True
instance (x : Value) : Decidable (vok x) := by unfold vok; split <;> infer_instance
theorem vok.one {x : Value} (h : vok x) : x.oneCell' = true := by
  cases x <;> first | rfl | (simp [vok] at h)
/-- 'x' reads as the datum, at blocks that are not in M (those that are written). -/
inductive Rep (M : Nat → Prop) (w : World) : AV → Value → Prop
  | any (x : Value) (h : x.oneCell' = true) : Rep M w .any x
  | v (x : Value) (h : vok x) : Rep M w (.v x) x
  | nil (n : Nat) (a : Option Addr) (c : Nat) : Rep M w (.sl n []) (.slice a 0 c)
  | sl (n : Nat) (rows : List (List AV)) (b o cap : Nat) (f : Nat → Nat → Value) (hl : rows.length ≤ maxI) (hcap : rows.length ≤ cap)
      (hn : ∀ (i : Nat) (r : List AV), rows[i]? = some r → r.length = n)
      (hc : ∀ (i : Nat) (r : List AV) (j : Nat) (a : AV), rows[i]? = some r → r[j]? = some a → ¬ M b ∧ w.cell? ⟨b, o + i * n + j, none⟩ = some (f i j) ∧ (f i j).oneCell' = true)
      (hr : ∀ (i : Nat) (r : List AV) (j : Nat) (a : AV), rows[i]? = some r → r[j]? = some a → Rep M w a (f i j)) : Rep M w (.sl n rows) (.slice (some ⟨b, o, none⟩) rows.length cap)
  | row (cs : List AV) (vs : List Value) (hl : vs.length = cs.length) (h1 : ∀ x ∈ vs, x.oneCell' = true) (hr : ∀ (j : Nat) (a : AV) (x : Value), cs[j]? = some a → vs[j]? = some x → Rep M w a x) : Rep M w (.row cs) (.agg vs.toArray)
  | fp (cs : List AV) (b o : Nat) (f : Nat → Value)
      (hc : ∀ (j : Nat) (a : AV), cs[j]? = some a → ¬ M b ∧ w.cell? ⟨b, o + j, none⟩ = some (f j) ∧ (f j).oneCell' = true)
      (hr : ∀ (j : Nat) (a : AV), cs[j]? = some a → Rep M w a (f j)) : Rep M w (.fp cs) (.pointer (some ⟨b, o, none⟩))
  | fn (f : FuncId) (cs : List AV) (vs : List Value) (hl : vs.length = cs.length) (hr : ∀ (j : Nat) (a : AV) (x : Value), cs[j]? = some a → vs[j]? = some x → Rep M w a x) : Rep M w (.fn f cs) (.func (.func f) #[] vs.toArray)
  | tup (cs : List AV) (vs : List Value) (hl : vs.length = cs.length) (hr : ∀ (j : Nat) (a : AV) (x : Value), cs[j]? = some a → vs[j]? = some x → Rep M w a x) : Rep M w (.tup cs) (.tuple vs.toArray)
/-- From a world to one in which what is known stands as it stood. -/
def Known (M M' : Nat → Prop) (w w' : World) : Prop := ∀ b, b < w.heap.size → ¬ M b → ¬ M' b ∧ w'.heap[b]? = w.heap[b]?
theorem Known.cell {M M' : Nat → Prop} {w w' : World} (h : Known M M' w w') {b o : Nat} {x : Value} (hb : ¬ M b) (hx : w.cell? ⟨b, o, none⟩ = some x) : ¬ M' b ∧ w'.cell? ⟨b, o, none⟩ = some x := by
  have hlt := World.block_lt_of_cell? w _ hx
  exact ⟨(h b hlt hb).1, (World.cell?_of_block (w := w) (w' := w') (a := ⟨b, o, none⟩) (h b hlt hb).2).trans hx⟩
theorem Rep.mono {M M' : Nat → Prop} {w w' : World} (k : Known M M' w w') {a : AV} {x : Value} (h : Rep M w a x) : Rep M' w' a x := by
  induction h with
  | any x h => exact .any x h
  | v x h => exact .v x h
  | nil n a c => exact .nil n a c
  | sl n rows b o cap f hl hcap hn hc hr ih =>
    exact .sl n rows b o cap f hl hcap hn (fun i r j a h1 h2 => by
      obtain ⟨c1, c2, c3⟩ := hc i r j a h1 h2
      have := k.cell c1 c2
      exact ⟨this.1, this.2, c3⟩) ih
  | row cs vs hl h1 hr ih => exact .row cs vs hl h1 ih
  | fp cs b o f hc hr ih =>
    exact .fp cs b o f (fun j a h => by
      obtain ⟨c1, c2, c3⟩ := hc j a h
      have := k.cell c1 c2
      exact ⟨this.1, this.2, c3⟩) ih
  | fn f cs vs hl hr ih => exact .fn f cs vs hl ih
  | tup cs vs hl hr ih => exact .tup cs vs hl ih
theorem Known.refl (M : Nat → Prop) (w : World) : Known M M w w := fun _ _ h => ⟨h, rfl⟩
/-- Memory has only grown, and what is written was there before. -/
theorem Known.ext {M : Nat → Prop} {w w' : World} (h : Ev.Ext w w') : Known M M w w' := fun b hb hm => ⟨hm, h.block b hb⟩
theorem Rep.ext {M : Nat → Prop} {w w' : World} (h : Ev.Ext w w') {a : AV} {x : Value} (hr : Rep M w a x) : Rep M w' a x := hr.mono (Known.ext h)
/-- What a closure, a tuple, or a row that is not written holds. -/
inductive CV where
  | d (a : AV)
  | bx (k g off : Nat)
  | ow (k g : Nat)
/-- What a slot holds: a datum; a place of a variable of the call's own; a row of the call's own; a closure, a tuple, a slice, a place of these. -/
inductive SV where
  | any
  | d (a : AV)
  | bx (k g off : Nat)
  | ow (k g : Nat)
  | ifb (p : Prop) (s : SV)
  | fnb (f : FuncId) (first caps : List CV)
  | tp (l : List CV)
  | ag (l : List CV)
  | psl (l : List CV)
  | pc (c : CV)
  | ows (k g n lo hi : Nat)
  | slc (n : Nat) (rows : List (List AV))
abbrev Rho := Nat → Nat → Option Value
def RhoLe (ρ ρ' : Rho) : Prop := ∀ k g x, ρ k g = some x → ρ' k g = some x
def blk : Value → Option Nat
  | .slice (some a) _ _ => some a.block
  | .pointer (some a) => some a.block
  | .map (some b) => some b
  | _ => none
def CRep (M : Nat → Prop) (w : World) (ρ : Rho) : CV → Value → Prop
  | .d a, x => Rep M w a x
  | .bx k g off, x => ∃ h b, ρ k g = some h ∧ blk h = some b ∧ x = .pointer (some ⟨b, off, none⟩)
  | .ow k g, x => ρ k g = some x ∧ x.oneCell' = true
def CReps (M : Nat → Prop) (w : World) (ρ : Rho) (l : List CV) (vs : List Value) : Prop := vs.length = l.length ∧ ∀ (j : Nat) (c : CV) (x : Value), l[j]? = some c → vs[j]? = some x → CRep M w ρ c x
def SRep (M : Nat → Prop) (w : World) (ρ : Rho) : SV → Value → Prop
  | .any, _ => True
  | .d a, x => Rep M w a x
  | .bx k g off, x => ∃ h b, ρ k g = some h ∧ blk h = some b ∧ x = .pointer (some ⟨b, off, none⟩)
  | .ow k g, x => ρ k g = some x ∧ x.oneCell' = true
  | .ifb p s, x => (p → SRep M w ρ s x) ∧ (¬ p → x = undef)
  | .fnb f first caps, x => ∃ us vs, x = .func (.func f) us.toArray vs.toArray ∧ CReps M w ρ first us ∧ CReps M w ρ caps vs
  | .tp l, x => ∃ vs, x = .tuple vs.toArray ∧ CReps M w ρ l vs
  | .ag l, x => ∃ vs, x = .agg vs.toArray ∧ (∀ v ∈ vs, v.oneCell' = true) ∧ CReps M w ρ l vs
  | .psl l, x => ∃ b o cap, x = .slice (some ⟨b, o, none⟩) l.length cap ∧ l.length ≤ cap ∧ l.length ≤ maxI ∧ ∀ (j : Nat) (c : CV), l[j]? = some c → ¬ M b ∧ ∃ v, w.cell? ⟨b, o + j, none⟩ = some v ∧ v.oneCell' = true ∧ CRep M w ρ c v
  | .pc c, x => ∃ b o v, x = .pointer (some ⟨b, o, none⟩) ∧ ¬ M b ∧ w.cell? ⟨b, o, none⟩ = some v ∧ v.oneCell' = true ∧ CRep M w ρ c v
  | .ows k g n lo hi, x => ∃ ad len c a, ρ k g = some (.slice ad len c) ∧ x = .slice a (hi - lo) (c - lo) ∧ lo ≤ hi ∧ hi ≤ c ∧ (lo < hi → ∃ b, ad = some ⟨b, 0, none⟩ ∧ a = some ⟨b, lo * n, none⟩)
  | .slc n rows, x => Rep M w (.sl n rows) x ∧ ∃ a len, x = .slice a len len
theorem CRep.mono {M M' : Nat → Prop} {w w' : World} {ρ : Rho} (k : Known M M' w w') {c : CV} {x : Value} (h : CRep M w ρ c x) : CRep M' w' ρ c x := by
  cases c with
  | d a => exact Rep.mono k h
  | bx k g off => exact h
  | ow k g => exact h
theorem CReps.mono {M M' : Nat → Prop} {w w' : World} {ρ : Rho} (k : Known M M' w w') {l : List CV} {vs : List Value} (h : CReps M w ρ l vs) : CReps M' w' ρ l vs := ⟨h.1, fun j c x h1 h2 => (h.2 j c x h1 h2).mono k⟩
theorem SRep.mono {M M' : Nat → Prop} {w w' : World} {ρ : Rho} (k : Known M M' w w') {s : SV} {x : Value} (h : SRep M w ρ s x) : SRep M' w' ρ s x := by
  induction s with
  | any => trivial
  | d a => exact Rep.mono k h
  | bx k g off => exact h
  | ow k g => exact h
  | ifb p s ih => exact ⟨fun hp => ih (h.1 hp), h.2⟩
  | fnb f first caps => obtain ⟨us, vs, h1, h2, h3⟩ := h; exact ⟨us, vs, h1, h2.mono k, h3.mono k⟩
  | tp l => obtain ⟨vs, h1, h2⟩ := h; exact ⟨vs, h1, h2.mono k⟩
  | ag l => obtain ⟨vs, h1, h0, h2⟩ := h; exact ⟨vs, h1, h0, h2.mono k⟩
  | psl l =>
    obtain ⟨b, o, cap, h1, h2, h3, h4⟩ := h
    exact ⟨b, o, cap, h1, h2, h3, fun j c hj => by
      obtain ⟨hm, v, h5, h6, h7⟩ := h4 j c hj
      obtain ⟨h8, h9⟩ := k.cell hm h5
      exact ⟨h8, v, h9, h6, h7.mono k⟩⟩
  | pc c =>
    obtain ⟨b, o, v, h1, hm, h5, h6, h7⟩ := h
    obtain ⟨h8, h9⟩ := k.cell hm h5
    exact ⟨b, o, v, h1, h8, h9, h6, h7.mono k⟩
  | ows k g n lo hi => exact h
  | slc n rows => exact ⟨Rep.mono k h.1, h.2⟩
theorem SRep.ext {M : Nat → Prop} {w w' : World} {ρ : Rho} (h : Ev.Ext w w') {s : SV} {x : Value} (hr : SRep M w ρ s x) : SRep M w' ρ s x := hr.mono (Known.ext h)
theorem CRep.rho {M : Nat → Prop} {w : World} {ρ ρ' : Rho} (hr : RhoLe ρ ρ') {c : CV} {x : Value} (h : CRep M w ρ c x) : CRep M w ρ' c x := by
  cases c with
  | d a => exact h
  | bx k g off => obtain ⟨y, b, h1, h2⟩ := h; exact ⟨y, b, hr _ _ _ h1, h2⟩
  | ow k g => exact ⟨hr _ _ _ h.1, h.2⟩
theorem CReps.rho {M : Nat → Prop} {w : World} {ρ ρ' : Rho} (hr : RhoLe ρ ρ') {l : List CV} {vs : List Value} (h : CReps M w ρ l vs) : CReps M w ρ' l vs := ⟨h.1, fun j c x h1 h2 => (h.2 j c x h1 h2).rho hr⟩
theorem SRep.rho {M : Nat → Prop} {w : World} {ρ ρ' : Rho} (hr : RhoLe ρ ρ') {s : SV} {x : Value} (h : SRep M w ρ s x) : SRep M w ρ' s x := by
  induction s with
  | any => trivial
  | d a => exact h
  | bx k g off => obtain ⟨y, b, h1, h2⟩ := h; exact ⟨y, b, hr _ _ _ h1, h2⟩
  | ow k g => exact ⟨hr _ _ _ h.1, h.2⟩
  | ifb p s ih => exact ⟨fun hp => ih (h.1 hp), h.2⟩
  | fnb f first caps => obtain ⟨us, vs, h1, h2, h3⟩ := h; exact ⟨us, vs, h1, h2.rho hr, h3.rho hr⟩
  | tp l => obtain ⟨vs, h1, h2⟩ := h; exact ⟨vs, h1, h2.rho hr⟩
  | ag l => obtain ⟨vs, h1, h0, h2⟩ := h; exact ⟨vs, h1, h0, h2.rho hr⟩
  | psl l =>
    obtain ⟨b, o, cap, h1, h2, h3, h4⟩ := h
    exact ⟨b, o, cap, h1, h2, h3, fun j c hj => by
      obtain ⟨hm, v, h5, h6, h7⟩ := h4 j c hj
      exact ⟨hm, v, h5, h6, h7.rho hr⟩⟩
  | pc c =>
    obtain ⟨b, o, v, h1, hm, h5, h6, h7⟩ := h
    exact ⟨b, o, v, h1, hm, h5, h6, h7.rho hr⟩
  | ows k g n lo hi =>
    obtain ⟨ad, len, c, a, h1, h2⟩ := h
    exact ⟨ad, len, c, a, hr _ _ _ h1, h2⟩
  | slc n rows => exact h
/-- An object told by what it means: the blocks that it stands in, and what is so of it. -/
structure OP where
  F : Nat → Prop
  I : (Nat → Prop) → World → Rho → Value → Prop
  mono : ∀ {M M' : Nat → Prop} {w w' : World} {ρ : Rho} {h : Value}, Known M M' w w' → (∀ b, F b → w'.heap[b]? = w.heap[b]?) → I M w ρ h → I M' w' ρ h
  rho : ∀ {M : Nat → Prop} {w : World} {ρ ρ' : Rho} {h : Value}, RhoLe ρ ρ' → I M w ρ h → I M w ρ' h
  lt : ∀ {M : Nat → Prop} {w : World} {ρ : Rho} {h : Value}, I M w ρ h → ∀ b, F b → b < w.heap.size
/-- The call's own: a variable, by its cells; a row that grows, by its elements; an object that is told by what it means. -/
inductive AO where
  | box (T : TypeId) (cs : List SV)
  | arr (T : TypeId) (n : Nat) (rows : List (List AV))
  | op (I : OP)
/-- The blocks that an object stands in. -/
def fpO : AO → Value → Nat → Prop
  | .box _ _, h, b => blk h = some b
  | .arr _ _ _, h, b => blk h = some b
  | .op I, _, b => I.F b
attribute [simp] fpO
/-- The cells of elements. -/
def Rows (M : Nat → Prop) (w : World) (n : Nat) (vals : List (List Value)) (rows : List (List AV)) : Prop :=
  vals.length = rows.length ∧ ∀ (i : Nat) (r : List AV) (v : List Value), rows[i]? = some r → vals[i]? = some v → r.length = n ∧ v.length = n ∧ ∀ (j : Nat) (a : AV) (x : Value), r[j]? = some a → v[j]? = some x → Rep M w a x ∧ x.oneCell' = true
/-- The world that a call began in, the blocks that it was lent, and what it deferred; which objects stand where. -/
structure Base where
  w : World
  l : Nat → Prop
  d : List Deferred
  p : Nat → Nat → Option Value
/-- But for what was lent, memory has only grown. -/
structure ExtL (B : Base) (w : World) : Prop where
  os : w.os = B.w.os
  tape : w.tape = B.w.tape
  output : w.output = B.w.output
  size : B.w.heap.size ≤ w.heap.size
  block : ∀ b, b < B.w.heap.size → ¬ B.l b → w.heap[b]? = B.w.heap[b]?
theorem ExtL.trans {B : Base} {w w' : World} (h : ExtL B w) (k : Ev.Ext w w') : ExtL B w' :=
  ⟨k.os.trans h.os, k.tape.trans h.tape, k.output.trans h.output, Nat.le_trans h.size k.size, fun b hb hl => (k.block b (Nat.lt_of_lt_of_le hb h.size)).trans (h.block b hb hl)⟩
theorem ExtL.ext {w w' : World} (h : ExtL ⟨w, fun _ => False, [], fun _ _ => none⟩ w') : Ev.Ext w w' := ⟨h.os, h.tape, h.output, h.size, fun b hb => h.block b hb id⟩
def ORep (B : Base) (M : Nat → Prop) (w : World) (ρ : Rho) (h : Value) : AO → Prop
  | .box T cs => ∃ b vs, h = .pointer (some ⟨b, 0, none⟩) ∧ (B.w.heap.size ≤ b ∨ B.l b) ∧ w.heap[b]? = some (.cells vs T (0, 0)) ∧ vs.size = cs.length ∧ ∀ (j : Nat) (s : SV) (x : Value), cs[j]? = some s → vs[j]? = some x → SRep M w ρ s x ∧ x.oneCell' = true
  | .arr T n rows => ∃ vals : List (List Value), w.ownsRow 0 T n h rows.length vals.flatten ∧ Rows M w n vals rows ∧ (∃ a cap, h = .slice a rows.length cap) ∧ rows.length ≤ maxI ∧ ∀ b, blk h = some b → B.w.heap.size ≤ b ∨ B.l b
  | .op I => (∀ b, I.F b → B.w.heap.size ≤ b ∨ B.l b) ∧ I.I M w ρ h
structure ASt where
  sl : Nat → SV
  ob : Nat → Option (Nat × AO)
def ASt.set (st : ASt) (i : Nat) (s : SV) : ASt := { st with sl := fun k => bif Nat.beq k i then s else st.sl k }
def ASt.put (st : ASt) (i g : Nat) (o : AO) : ASt := { st with ob := fun k => bif Nat.beq k i then some (g, o) else st.ob k }
def ASt.drop (st : ASt) (i : Nat) : ASt := { st with ob := fun k => bif Nat.beq k i then none else st.ob k }
def ASt.ev (st : ASt) : Operand → SV
  | .tmp t => st.sl t
  | .const v => .d (.v v)
  | .func f => .d (.fn f [])
  | .global _ => .any
/-- The blocks that are written. -/
def Mt (M0 : Nat → Prop) (ρ : Rho) (ob : Nat → Option (Nat × AO)) : Nat → Prop := fun b => M0 b ∨ ∃ k g o h, ob k = some (g, o) ∧ ρ k g = some h ∧ fpO o h b
structure SimR (N : Nat) (M0 : Nat → Prop) (w0 : Base) (st : ASt) (ρ : Rho) (a : Act) (w : World) : Prop where
  size : a.tmps.size = N
  defers : a.defers = w0.d
  slot : ∀ i, SRep (Mt M0 ρ st.ob) w ρ (st.sl i) (a.tmps.getD i undef)
  obj : ∀ k g o, st.ob k = some (g, o) → ∃ h, ρ k g = some h ∧ ORep w0 (Mt M0 ρ st.ob) w ρ h o
  apart : ∀ k g o k' g' o' h h' b, st.ob k = some (g, o) → st.ob k' = some (g', o') → ρ k g = some h → ρ k' g' = some h' → fpO o h b → fpO o' h' b → k = k'
  gens : ∃ G, ∀ k g, ρ k g ≠ none → g < G
  base : ∀ b, M0 b → b < w0.w.heap.size
  ext : ExtL w0 w
  pin : ∀ k g v, w0.p k g = some v → ρ k g = some v
def Sim (N : Nat) (M0 : Nat → Prop) (w0 : Base) (st : ASt) (a : Act) (w : World) : Prop := ∃ ρ, SimR N M0 w0 st ρ a w
theorem ORep.blk_lt {B : Base} {M : Nat → Prop} {w : World} {ρ : Rho} {h : Value} {o : AO} (r : ORep B M w ρ h o) {b : Nat} (hb : fpO o h b) : (B.w.heap.size ≤ b ∨ B.l b) ∧ b < w.heap.size := by
  cases o with
  | box T cs =>
    obtain ⟨b', vs, rfl, h1, h2, _⟩ := r
    simp [fpO, blk] at hb; subst hb
    exact ⟨h1, (Array.getElem?_eq_some_iff.1 h2).1⟩
  | arr T n rows =>
    obtain ⟨vals, hown, _, ⟨a, cap, rfl⟩, _, hl⟩ := r
    refine ⟨hl b hb, (hown.lt b ?_).2⟩
    cases a with
    | none => simp [fpO, blk] at hb
    | some a => simpa [fpO, blk, Value.ownBlock] using hb
  | op I => exact ⟨r.1 b hb, I.lt r.2 b hb⟩
theorem SimR.mt_lt {N : Nat} {M0 : Nat → Prop} {w0 : Base} {st : ASt} {ρ : Rho} {a : Act} {w : World} (h : SimR N M0 w0 st ρ a w) : ∀ b, Mt M0 ρ st.ob b → b < w.heap.size := by
  rintro b (hb | ⟨k, g, o, x, h1, h2, h3⟩)
  · exact Nat.lt_of_lt_of_le (h.base b hb) h.ext.size
  · obtain ⟨x', h4, h5⟩ := h.obj k g o h1
    rw [h2] at h4; cases h4
    exact (h5.blk_lt h3).2
theorem Rows.mono {M M' : Nat → Prop} {w w' : World} {n : Nat} {vals : List (List Value)} {rows : List (List AV)} (k : Known M M' w w') (h : Rows M w n vals rows) : Rows M' w' n vals rows :=
  ⟨h.1, fun i r v hr hv => ⟨(h.2 i r v hr hv).1, (h.2 i r v hr hv).2.1, fun j a x ha hx => ⟨Rep.mono k ((h.2 i r v hr hv).2.2 j a x ha hx).1, ((h.2 i r v hr hv).2.2 j a x ha hx).2⟩⟩⟩
theorem owns_kept {w w' : World} {B : Nat} {T : TypeId} {n : Nat} {h : Value} {l : Nat} {xs : List Value} (ho : w.ownsRow B T n h l xs) (hk : ∀ b, blk h = some b → w'.heap[b]? = w.heap[b]?) : w'.ownsRow B T n h l xs := by
  refine ⟨ho.1, ?_⟩
  rcases ho.2 with hn | ⟨g, cap, cur, rfl, hb, hg, rest⟩
  · exact .inl hn
  · exact .inr ⟨g, cap, cur, rfl, hb, (hk g rfl).trans hg, rest⟩
theorem ORep.mono {B : Base} {M M' : Nat → Prop} {w w' : World} {ρ : Rho} (k : Known M M' w w') {h : Value} {o : AO} (hk : ∀ b, fpO o h b → w'.heap[b]? = w.heap[b]?) (r : ORep B M w ρ h o) : ORep B M' w' ρ h o := by
  cases o with
  | box T cs =>
    obtain ⟨b, vs, rfl, h1, h2, h3, h4⟩ := r
    exact ⟨b, vs, rfl, h1, (hk b rfl).trans h2, h3, fun j s x hs hx => ⟨(h4 j s x hs hx).1.mono k, (h4 j s x hs hx).2⟩⟩
  | arr T n rows =>
    obtain ⟨vals, h1, h2, h3⟩ := r
    exact ⟨vals, owns_kept h1 hk, h2.mono k, h3⟩
  | op I => exact ⟨r.1, I.mono k hk r.2⟩
/-- Memory has only grown. -/
theorem SimR.grow {N : Nat} {M0 : Nat → Prop} {w0 : Base} {st : ASt} {ρ : Rho} {a : Act} {w w' : World} (h : SimR N M0 w0 st ρ a w) (he : Ev.Ext w w') : SimR N M0 w0 st ρ a w' where
  size := h.size
  defers := h.defers
  slot i := (h.slot i).ext he
  obj k g o ho := by
    obtain ⟨x, h1, h2⟩ := h.obj k g o ho
    exact ⟨x, h1, h2.mono (Known.ext he) fun b hb => he.block b (h2.blk_lt hb).2⟩
  apart := h.apart
  gens := h.gens
  base := h.base
  ext := h.ext.trans he
  pin := h.pin
/-- A slot is laid. -/
theorem SimR.set {N : Nat} {M0 : Nat → Prop} {w0 : Base} {st : ASt} {ρ : Rho} {a : Act} {w : World} (h : SimR N M0 w0 st ρ a w) {i : Nat} (hi : i < N) {s : SV} {x : Value} (hs : SRep (Mt M0 ρ st.ob) w ρ s x) : SimR N M0 w0 (st.set i s) ρ (a.put (some i) x) w where
  size := by simp [Act.put, h.size]
  defers := h.defers
  slot k := by
    show SRep _ _ _ (bif Nat.beq k i then s else st.sl k) ((a.tmps.setIfInBounds i x).getD k undef)
    by_cases hk : k = i
    · subst hk
      have : Nat.beq k k = true := by simp
      rw [this]
      have hlt : k < a.tmps.size := by rw [h.size]; exact hi
      have e : (a.tmps.setIfInBounds k x).getD k undef = x := by simp [Array.getD, hlt]
      rw [e]
      exact hs
    · have : Nat.beq k i = false := by cases hb : Nat.beq k i with
        | false => rfl
        | true => exact (hk (Nat.eq_of_beq_eq_true hb)).elim
      rw [this]
      have e : (a.tmps.setIfInBounds i x).getD k undef = a.tmps.getD k undef := by
        simp [Array.getD_eq_getD_getElem?, Array.getElem?_setIfInBounds, Ne.symm hk]
      rw [e]
      exact h.slot k
  obj := h.obj
  apart := h.apart
  gens := h.gens
  base := h.base
  ext := h.ext
  pin := h.pin

/-! ### operations -/
abbrev opsOf (o : Oper) : List Operand := o.op.operands.toList
/-- Constants that fit. -/
def conB (o : Oper) : Bool := (opsOf o).all fun | .const c => decide (vok c) | _ => true
def Bnd (ρ : Rho) : Prop := ∃ G, ∀ k g, ρ k g ≠ none → g < G
/-- How objects stand. -/
structure Env (M : Nat → Prop) (ρ : Rho) (ob : Nat → Option (Nat × AO)) : Prop where
  bnd : Bnd ρ
  inM : ∀ k g o h b, ob k = some (g, o) → ρ k g = some h → fpO o h b → M b
  apart : ∀ k g o k' g' o' h h' b, ob k = some (g, o) → ob k' = some (g', o') → ρ k g = some h → ρ k' g' = some h' → fpO o h b → fpO o' h' b → k = k'
theorem SimR.env {N : Nat} {M0 : Nat → Prop} {w0 : Base} {st : ASt} {ρ : Rho} {a : Act} {w : World} (h : SimR N M0 w0 st ρ a w) : Env (Mt M0 ρ st.ob) ρ st.ob := ⟨h.gens, fun k g o x b h1 h2 h3 => .inr ⟨k, g, o, x, h1, h2, h3⟩, h.apart⟩
/-- Memory has grown; objects of the call's own may have been written, but are told as they were. -/
structure Kn (B : Base) (M : Nat → Prop) (ρ : Rho) (ob : Nat → Option (Nat × AO)) (w w' : World) : Prop where
  os : w'.os = w.os
  tape : w'.tape = w.tape
  output : w'.output = w.output
  size : w.heap.size ≤ w'.heap.size
  block : ∀ b, b < w.heap.size → (∀ k g o h, ob k = some (g, o) → ρ k g = some h → ¬ fpO o h b) → w'.heap[b]? = w.heap[b]?
  obj : ∀ k g o h, ob k = some (g, o) → ρ k g = some h → ORep B M w ρ h o → ORep B M w' ρ h o
theorem Kn.ext {B : Base} {M : Nat → Prop} {ρ : Rho} {ob : Nat → Option (Nat × AO)} {w w' : World} (h : Ev.Ext w w') : Kn B M ρ ob w w' :=
  ⟨h.os, h.tape, h.output, h.size, fun b hb _ => h.block b hb, fun _ _ _ _ _ _ hO => hO.mono (Known.ext h) fun b hb => h.block b (hO.blk_lt hb).2⟩
theorem Kn.refl {B : Base} {M : Nat → Prop} {ρ : Rho} {ob : Nat → Option (Nat × AO)} (w : World) : Kn B M ρ ob w w := ⟨rfl, rfl, rfl, Nat.le_refl _, fun _ _ _ => rfl, fun _ _ _ _ _ _ h => h⟩
theorem Kn.trans {B : Base} {M : Nat → Prop} {ρ : Rho} {ob : Nat → Option (Nat × AO)} {w w' w'' : World} (h : Kn B M ρ ob w w') (k : Kn B M ρ ob w' w'') : Kn B M ρ ob w w'' :=
  ⟨k.os.trans h.os, k.tape.trans h.tape, k.output.trans h.output, Nat.le_trans h.size k.size, fun b hb hn => (k.block b (Nat.lt_of_lt_of_le hb h.size) hn).trans (h.block b hb hn), fun i g o x h1 h2 h3 => k.obj i g o x h1 h2 (h.obj i g o x h1 h2 h3)⟩
theorem Kn.known {B : Base} {M : Nat → Prop} {ρ : Rho} {ob : Nat → Option (Nat × AO)} {w w' : World} (h : Kn B M ρ ob w w') (he : Env M ρ ob) : Known M M w w' := fun b hb hm => ⟨hm, h.block b hb fun i g o x h1 h2 h3 => hm (he.inM i g o x b h1 h2 h3)⟩
theorem SimR.kn {N : Nat} {M0 : Nat → Prop} {w0 : Base} {st : ASt} {ρ : Rho} {a : Act} {w w' : World} (h : SimR N M0 w0 st ρ a w) (hk : Kn w0 (Mt M0 ρ st.ob) ρ st.ob w w') : SimR N M0 w0 st ρ a w' where
  size := h.size
  defers := h.defers
  slot i := (h.slot i).mono (hk.known h.env)
  obj k g o ho := by
    obtain ⟨x, h1, h2⟩ := h.obj k g o ho
    exact ⟨x, h1, hk.obj k g o x ho h1 h2⟩
  apart := h.apart
  gens := h.gens
  base := h.base
  ext := ⟨hk.os.trans h.ext.os, hk.tape.trans h.ext.tape, hk.output.trans h.ext.output, Nat.le_trans h.ext.size hk.size, fun b hb hn => (hk.block b (Nat.lt_of_lt_of_le hb h.ext.size) fun k g o x h1 h2 h3 => by
    obtain ⟨y, h4, h5⟩ := h.obj k g o h1
    rw [h2] at h4; cases h4
    rcases (h5.blk_lt h3).1 with h6 | h6
    · omega
    · exact hn h6).trans (h.ext.block b hb hn)⟩
  pin := h.pin
theorem Env.sub {M : Nat → Prop} {ρ : Rho} {ob ob' : Nat → Option (Nat × AO)} (h : Env M ρ ob') (hob : ∀ k g o, ob k = some (g, o) → ob' k = some (g, o)) : Env M ρ ob :=
  ⟨h.bnd, fun k g o x b h1 => h.inM k g o x b (hob _ _ _ h1), fun k g o k' g' o' x x' b h1 h2 => h.apart k g o k' g' o' x x' b (hob _ _ _ h1) (hob _ _ _ h2)⟩
theorem Kn.sup {B : Base} {M : Nat → Prop} {ρ : Rho} {ob ob' : Nat → Option (Nat × AO)} {w w' : World} (h : Kn B M ρ ob w w') (he : Env M ρ ob') (hob : ∀ k g o, ob k = some (g, o) → ob' k = some (g, o)) : Kn B M ρ ob' w w' :=
  ⟨h.os, h.tape, h.output, h.size, fun b hb hn => h.block b hb fun k g o x h1 => hn k g o x (hob _ _ _ h1), fun k g o x h1 h2 h3 => by
    cases hk : ob k with
    | some p =>
      have h6 := hob k p.1 p.2 hk
      rw [h1] at h6
      have h7 : ob k = some (g, o) := hk.trans h6.symm
      exact h.obj k g o x h7 h2 h3
    | none =>
      refine h3.mono (h.known (he.sub hob)) fun b hb => h.block b (h3.blk_lt hb).2 fun k2 g2 o2 x2 k1 k3 k4 => ?_
      have := he.apart _ _ _ _ _ _ _ _ b (hob _ _ _ k1) h1 k3 h2 k4 hb
      subst this
      rw [hk] at k1; cases k1⟩
/-- An operation that writes nothing of the call's own, and what it yields. -/
def Pu (P : Program) (st : ASt) (o : Oper) (s : SV) : Prop :=
  ∀ (B : Base) (M : Nat → Prop) (ρ : Rho) (w : World) (a : Act), (∀ b, M b → b < w.heap.size) → (∀ x ∈ opsOf o, SRep M w ρ (st.ev x) (a.eval x)) →
    (∀ k g ob, st.ob k = some (g, ob) → ∃ h, ρ k g = some h ∧ ORep B M w ρ h ob) → Env M ρ st.ob →
    ∀ K : Value → World → Prop, (∀ v w', Kn B M ρ st.ob w w' → SRep M w' ρ s v → K v w') → Ev.upon P K ((execOp a.eval o).run P w)
theorem SimR.ev {N : Nat} {M0 : Nat → Prop} {w0 : Base} {st : ASt} {ρ : Rho} {a : Act} {w : World} (h : SimR N M0 w0 st ρ a w) {o : Oper} (hc : conB o = true) : ∀ x ∈ opsOf o, SRep (Mt M0 ρ st.ob) w ρ (st.ev x) (a.eval x) := by
  intro x hx
  cases x with
  | tmp t => exact h.slot t
  | const c =>
    have := List.all_eq_true.1 hc _ hx
    exact .v c (by simpa using this)
  | global g => trivial
  | func f => exact .fn f [] [] rfl (fun j a x h => by simp at h)
/-- What stands behind some code: an abstract state. -/
def QL (N : Nat) (M0 : Nat → Prop) (w0 : Base) (Q : Exit → ASt → Prop) : Exit → Act → World → Prop := fun e a w => ∃ st, Q e st ∧ Sim N M0 w0 st a w
structure Al (P : Program) (N : Nat) (M0 : Nat → Prop) (w0 : Base) (ops : Array Oper) (Q : Exit → ASt → Prop) (l : List Oper) (st : ASt) : Prop where
  out : ∀ a w, Sim N M0 w0 st a w → wpList P ops (QL N M0 w0 Q) l a w
structure Aw (P : Program) (N : Nat) (M0 : Nat → Prop) (w0 : Base) (c : Code) (Q : Exit → ASt → Prop) (st : ASt) : Prop where
  out : ∀ a w, Sim N M0 w0 st a w → c.wp P (QL N M0 w0 Q) a w
section
variable {P : Program} {N : Nat} {M0 : Nat → Prop} {w0 : Base} {ops : Array Oper} {Q : Exit → ASt → Prop} {o : Oper} {l : List Oper} {st : ASt}
theorem wp_upon {a : Act} {w : World} {R : Exit → Act → World → Prop} {next : Act → World → Prop} (h : Ev.upon P (fun v w' => next (a.put o.dst v) w') ((execOp a.eval o).run P w)) : o.wp P a w next R := by
  unfold Oper.wp
  generalize (execOp a.eval o).run P w = r at *
  cases r with
  | ok n w' =>
    cases n <;> simp only [Ev.upon] at h <;> simp only [Oper.upon]
    case value => exact h
    case skip => exact h
    case enter => exact h.mono fun e w'' ⟨v, he, hk⟩ => by subst he; exact hk
  | halt x w' => simp only [Ev.upon] at h
/-- An operation in its region, with its guard: what its slot holds behind it. -/
def St (P : Program) (ops : Array Oper) (st : ASt) (o : Oper) (s : SV) : Prop :=
  ∀ (B : Base) (M : Nat → Prop) (ρ : Rho) (w : World) (a : Act), (∀ b, M b → b < w.heap.size) → (∀ x ∈ opsOf o, SRep M w ρ (st.ev x) (a.eval x)) →
    (∀ j b oj dj, o.guard = some (j, b) → ops[j]? = some oj → oj.dst = some dj → dj < a.tmps.size ∧ SRep M w ρ (st.sl dj) (a.tmps.getD dj undef)) →
    (∀ k g ob, st.ob k = some (g, ob) → ∃ h, ρ k g = some h ∧ ORep B M w ρ h ob) → Env M ρ st.ob →
    if Region.wanted o (yielded ops a.tmps) then ∀ K : Value → World → Prop, (∀ v w', Kn B M ρ st.ob w w' → SRep M w' ρ s v → K v w') → Ev.upon P K ((execOp a.eval o).run P w) else SRep M w ρ s undef
theorem St_pu {s : SV} (hg : o.guard = none) (h : Pu P st o s) : St P ops st o s := fun B M ρ w a h1 h2 _ h4 h5 => by
  rw [if_pos (by simp [Region.wanted, hg])]
  exact h B M ρ w a h1 h2 h4 h5
theorem yield_of {j dj : Nat} {oj : Oper} {a : Act} {x : Value} (hj : ops[j]? = some oj) (hd : oj.dst = some dj) (hlt : dj < a.tmps.size) (hx : a.tmps.getD dj undef = x) : yielded ops a.tmps j = (match (generalizing := false) x with | .bool b => some b | _ => none) := by
  unfold yielded
  have e : a.tmps[dj]? = some x := by
    rw [Array.getD] at hx
    rw [dif_pos hlt] at hx
    rw [← hx]; simp [hlt]
  simp only [hj, hd, Option.bind_some, e]
  cases x <;> rfl
def unif : SV → SV
  | .ifb _ s => s
  | s => s
/-- Of some slots the guard is known to hold. -/
def ASt.open (st : ASt) (is : List Nat) : ASt := { st with sl := fun k => bif is.contains k then unif (st.sl k) else st.sl k }
def Guarded (st : ASt) (p : Prop) : List Nat → Prop
  | [] => True
  | i :: r => (∃ s, st.sl i = .ifb p s) ∧ Guarded st p r
theorem Guarded.get {p : Prop} : ∀ {is : List Nat}, Guarded st p is → ∀ i ∈ is, ∃ s, st.sl i = .ifb p s
  | [], _, i, h => by cases h
  | i :: r, h, k, hk => by
    rcases List.mem_cons.1 hk with rfl | hk
    · exact h.1
    · exact h.2.get k hk
theorem open_ops {p : Prop} {is : List Nat} (hG : Guarded st p is) (hp : p) {M : Nat → Prop} {w : World} {ρ : Rho} {a : Act} (h2 : ∀ x ∈ opsOf o, SRep M w ρ (st.ev x) (a.eval x)) : ∀ x ∈ opsOf o, SRep M w ρ ((st.open is).ev x) (a.eval x) := fun x hx => by
  have h5 := h2 x hx
  cases x with
  | tmp i =>
    show SRep M w ρ (bif is.contains i then unif (st.sl i) else st.sl i) _
    by_cases hi : i ∈ is
    · have : is.contains i = true := by simpa using hi
      rw [this]
      obtain ⟨s', hs'⟩ := hG.get i hi
      have h6 : SRep M w ρ (st.sl i) _ := h5
      rw [hs'] at h6 ⊢
      exact h6.1 hp
    · have : is.contains i = false := by simpa using hi
      rw [this]
      exact h5
  | const c => exact h5
  | global g => exact h5
  | func f => exact h5
/-- A guarded operation: where its guard is as it is wanted, it yields 's'. -/
theorem St_gd {s : SV} {t b : Bool} {j dj : Nat} {oj : Oper} (is : List Nat) (hg : o.guard = some (j, b)) (hj : ops[j]? = some oj) (hd : oj.dst = some dj) (hy : st.sl dj = .d (.v (.bool t))) (hG : Guarded st (t = b) is)
    (h : t = b → Pu P (st.open is) o s) : St P ops st o (.ifb (t = b) s) := fun B M ρ w a h1 h2 h3 h4 hev => by
  obtain ⟨hlt, hs⟩ := h3 j b oj dj hg hj hd
  rw [hy] at hs
  have hx : a.tmps.getD dj undef = .bool t := by
    generalize a.tmps.getD dj undef = x at hs
    cases hs; rfl
  have hyy := yield_of hj hd hlt hx
  have hw : Region.wanted o (yielded ops a.tmps) = decide (t = b) := by
    simp only [Region.wanted, hg, hyy]
    cases t <;> cases b <;> rfl
  rw [hw]
  by_cases e : t = b
  · rw [if_pos (by simpa using e)]
    intro K hK
    exact h e B M ρ w a h1 (open_ops hG e h2) h4 hev K fun v w' he hv => hK v w' he ⟨fun _ => hv, fun hn => (hn e).elim⟩
  · rw [if_neg (by simpa using e)]
    exact ⟨fun h => (e h).elim, fun _ => rfl⟩
/-- The same, where the guard itself is guarded. -/
theorem St_gd2 {s : SV} {p : Prop} {t b : Bool} {j dj : Nat} {oj : Oper} (is : List Nat) (hg : o.guard = some (j, b)) (hj : ops[j]? = some oj) (hd : oj.dst = some dj) (hy : st.sl dj = .ifb p (.d (.v (.bool t)))) (hG : Guarded st (p ∧ t = b) is)
    (h : p → t = b → Pu P (st.open is) o s) : St P ops st o (.ifb (p ∧ t = b) s) := fun B M ρ w a h1 h2 h3 h4 hev => by
  obtain ⟨hlt, hs⟩ := h3 j b oj dj hg hj hd
  rw [hy] at hs
  have hF : ¬ (p ∧ t = b) → SRep M w ρ (.ifb (p ∧ t = b) s) undef := fun hn => ⟨fun hh => (hn hh).elim, fun _ => rfl⟩
  by_cases hp : p
  · have hs' := hs.1 hp
    have hx : a.tmps.getD dj undef = .bool t := by
      generalize a.tmps.getD dj undef = x at hs'
      cases hs'; rfl
    have hyy := yield_of hj hd hlt hx
    have hw : Region.wanted o (yielded ops a.tmps) = decide (t = b) := by
      simp only [Region.wanted, hg, hyy]
      cases t <;> cases b <;> rfl
    rw [hw]
    by_cases e : t = b
    · rw [if_pos (by simpa using e)]
      intro K hK
      exact h hp e B M ρ w a h1 (open_ops hG ⟨hp, e⟩ h2) h4 hev K fun v w' he hv => hK v w' he ⟨fun _ => hv, fun hn => (hn ⟨hp, e⟩).elim⟩
    · rw [if_neg (by simpa using e)]
      exact hF fun hh => e hh.2
  · have hyy := yield_of hj hd hlt (hs.2 hp)
    have hw : Region.wanted o (yielded ops a.tmps) = false := by
      simp only [Region.wanted, hg, hyy]
      rfl
    rw [hw]
    rw [if_neg (by simp)]
    exact hF fun hh => hp hh.1
theorem Al_nil (h : Q .normal st) : Al P N M0 w0 ops Q [] st := ⟨fun a w hs => ⟨st, h, hs⟩⟩
theorem Al_st {d : Nat} {s : SV} (h : St P ops st o s) (hd : o.dst = some d) (hN : d < N) (hc : conB o = true) (hg : ∀ j b oj dj, o.guard = some (j, b) → ops[j]? = some oj → oj.dst = some dj → dj < N) (hr : Al P N M0 w0 ops Q l (st.set d s)) : Al P N M0 w0 ops Q (o :: l) st := by
  refine ⟨?_⟩
  rintro a w ⟨ρ, hs⟩
  refine wpList_step fun K hK => ?_
  have h1 := h w0 _ ρ w a hs.mt_lt (hs.ev hc) (fun j b oj dj h1 h2 h3 => ⟨by rw [hs.size]; exact hg j b oj dj h1 h2 h3, hs.slot dj⟩) hs.obj hs.env
  split
  · rename_i hw
    rw [if_pos hw] at h1
    refine wp_upon (h1 _ fun v w' he hv => hK _ _ (hr.out _ _ ⟨ρ, ?_⟩))
    rw [hd]
    exact (hs.kn he).set hN hv
  · rename_i hw
    rw [if_neg hw] at h1
    refine hK _ _ (hr.out _ _ ⟨ρ, ?_⟩)
    rw [hd]
    exact hs.set hN h1
theorem Al_pu {d : Nat} {s : SV} (h : Pu P st o s) (hg : o.guard = none) (hd : o.dst = some d) (hN : d < N) (hc : conB o = true) (hr : Al P N M0 w0 ops Q l (st.set d s)) : Al P N M0 w0 ops Q (o :: l) st :=
  Al_st (St_pu hg h) hd hN hc (fun j b oj dj h => by rw [hg] at h; cases h) hr
/-- The same, with what is plain found by itself. -/
theorem Al_p {d : Nat} {s : SV} (h : Pu P st o s) (hr : Al P N M0 w0 ops Q l (st.set d s)) (hg : o.guard = none := by rfl) (hd : o.dst = some d := by rfl) (hN : d < N := by decide) (hc : conB o = true := by kernel_rfl) : Al P N M0 w0 ops Q (o :: l) st := Al_pu h hg hd hN hc hr
end
/-! ### control -/
def Then (next : ASt → Prop) (Q : Exit → ASt → Prop) : Exit → ASt → Prop
  | .normal, st => next st
  | e, st => Q e st
def InBlk (id : Nat) (Q : Exit → ASt → Prop) : Exit → ASt → Prop
  | .exit id', st => bif Nat.beq id' id then Q .normal st else Q (.exit id') st
  | e, st => Q e st
section
variable {P : Program} {N : Nat} {M0 : Nat → Prop} {w0 : Base} {Q : Exit → ASt → Prop} {st : ASt}
theorem Aw_mono {c : Code} {Q' : Exit → ASt → Prop} (h : Aw P N M0 w0 c Q st) (hq : ∀ e s, Q e s → Q' e s) : Aw P N M0 w0 c Q' st := ⟨fun a w hs => wp_mono (h.out a w hs) fun e a' w' ⟨s, h1, h2⟩ => ⟨s, hq e s h1, h2⟩⟩
theorem Aw_seq {x y : Code} (h : Aw P N M0 w0 x (Then (Aw P N M0 w0 y Q) Q) st) : Aw P N M0 w0 (.seq x y) Q st := by
  refine ⟨fun a w hs => ?_⟩
  refine wp_seq (wp_mono (h.out a w hs) fun e a' w' ⟨s, h1, h2⟩ => ?_)
  cases e with
  | normal => exact h1.out a' w' h2
  | _ => exact ⟨s, h1, h2⟩
theorem Aw_skip (h : Q .normal st) : Aw P N M0 w0 .skip Q st := ⟨fun a w hs => wp_skip ⟨st, h, hs⟩⟩
theorem Aw_ret (h : Q .ret st) : Aw P N M0 w0 .ret Q st := ⟨fun a w hs => wp_ret ⟨st, h, hs⟩⟩
theorem Aw_exit {id : Nat} (h : Q (.exit id) st) : Aw P N M0 w0 (.exit id) Q st := ⟨fun a w hs => wp_exit ⟨st, h, hs⟩⟩
theorem Aw_block {id : Nat} {c : Code} (h : Aw P N M0 w0 c (InBlk id Q) st) : Aw P N M0 w0 (.block id c) Q st := by
  refine ⟨fun a w hs => ?_⟩
  refine wp_block (wp_mono (h.out a w hs) fun e a' w' ⟨s, h1, h2⟩ => ?_)
  cases e with
  | exit id' =>
    simp only [InBlk] at h1
    simp only [Exit.inBlock]
    by_cases e : id' = id
    · subst e
      rw [if_pos rfl]
      have : Nat.beq id' id' = true := by simp
      rw [this] at h1
      exact ⟨s, h1, h2⟩
    · rw [if_neg e]
      have : Nat.beq id' id = false := by cases hb : Nat.beq id' id with
        | false => rfl
        | true => exact (e (Nat.eq_of_beq_eq_true hb)).elim
      rw [this] at h1
      exact ⟨s, h1, h2⟩
  | _ => exact ⟨s, h1, h2⟩
theorem Aw_region {id : Nat} {l : List Oper} (h : Al P N M0 w0 l.toArray Q l st) : Aw P N M0 w0 (.region id l.toArray false) Q st := ⟨fun a w hs => wp_region_lit (h.out a w hs)⟩
theorem Aw_cond {c : Operand} {x y : Code} {t : Bool} (hc : st.ev c = .d (.v (.bool t))) (ht : t = true → Aw P N M0 w0 x Q st) (hf : t = false → Aw P N M0 w0 y Q st) : Aw P N M0 w0 (.cond c x y) Q st := by
  refine ⟨fun a w hs => ?_⟩
  have he : a.eval c = .bool t := by
    obtain ⟨ρ, h⟩ := hs
    cases c with
    | tmp i =>
      have := h.slot i
      rw [show st.sl i = _ from hc] at this
      show a.tmps.getD i undef = _
      generalize a.tmps.getD i undef = x at this
      cases this; rfl
    | const v => simp only [ASt.ev, SV.d.injEq, AV.v.injEq] at hc; exact hc
    | global g => simp [ASt.ev] at hc
    | func f => simp [ASt.ev] at hc
  exact wp_cond_split he (fun h => (ht h).out a w hs) (fun h => (hf h).out a w hs)
/-- A weaker state. -/
def Le (N : Nat) (M0 : Nat → Prop) (w0 : Base) (st st' : ASt) : Prop := ∀ a w, Sim N M0 w0 st a w → Sim N M0 w0 st' a w
theorem Aw_le {c : Code} {st' : ASt} (hl : Le N M0 w0 st st') (h : Aw P N M0 w0 c Q st') : Aw P N M0 w0 c Q st := ⟨fun a w hs => h.out a w (hl a w hs)⟩
theorem Al_le {ops : Array Oper} {l : List Oper} {st' : ASt} (hl : Le N M0 w0 st st') (h : Al P N M0 w0 ops Q l st') : Al P N M0 w0 ops Q l st := ⟨fun a w hs => h.out a w (hl a w hs)⟩
theorem Aw_loop {c : Code} {ι : Type} (I : ι → ASt) (Ok : ι → Prop) (μ : ι → Nat) (i0 : ι) (h0 : Ok i0) (hl : Le N M0 w0 st (I i0))
    (round : ∀ i, Ok i → Aw P N M0 w0 c (Then (fun s => ∃ i', Ok i' ∧ μ i' < μ i ∧ Le N M0 w0 s (I i')) Q) (I i)) : Aw P N M0 w0 (.loop c) Q st := by
  refine ⟨fun a w hs => ?_⟩
  refine wp_loop_ghost (fun n a w => ∃ i, Ok i ∧ μ i = n ∧ Sim N M0 w0 (I i) a w) (μ i0) ⟨i0, h0, rfl, hl a w hs⟩ fun n a w ⟨i, h1, h2, h3⟩ => ?_
  refine wp_mono ((round i h1).out a w h3) fun e a' w' ⟨s, h4, h5⟩ => ?_
  cases e with
  | normal =>
    obtain ⟨i', k1, k2, k3⟩ := h4
    exact ⟨μ i', by omega, i', k1, rfl, k3 a' w' h5⟩
  | _ => exact ⟨s, h4, h5⟩
end
end Go.Proofs.Ytmbaeloiepjakaa.A
namespace Go.Proofs.Ytmbaeloiepjakaa.A
open Go Go.RowKit
/-! ### a region that draws its order -/
def inB (l : List Oper) (t : Nat) : Bool := l.any fun o => o.dst == some t
/-- An operand that the region writes is waited for. -/
def opB (l : List Oper) (i : Nat) (o : Oper) (t : Nat) : Bool := !inB l t || (List.range i).any fun j => (l[j]?.bind (·.dst)) == some t && (Ev.depsOf o).contains j
def drB (N : Nat) (l : List Oper) (k : Nat) : Bool := (List.range k).all fun i => match l[i]? with
  | none => true
  | some o => ((opsOf o).all fun | .tmp t => opB (l.take k) i o t | _ => true) && (match o.guard with | some (j, _) => (match l[j]? with | some oj => (match oj.dst with | some dj => opB (l.take k) i o dj && decide (dj < N) | none => true) | none => true) | none => true) && conB o
def drawB (N : Nat) (l : List Oper) (k : Nat) : Bool := Ev.distinct (l.take k) && Ev.backB l.toArray && Ev.tailB l.toArray (l.take k).length && drB N l k && (l.take k).all fun o => match o.dst with | some d => decide (d < N) | none => false
def Dr (P : Program) (ops : Array Oper) (R : ASt → Prop) : List Oper → ASt → Prop
  | [], st => R st
  | o :: l, st => ∃ d s, o.dst = some d ∧ St P ops st o s ∧ Dr P ops R l (st.set d s)
theorem Dr_st {P : Program} {ops : Array Oper} {R : ASt → Prop} {o : Oper} {l : List Oper} {st : ASt} {d : Nat} {s : SV} (h : St P ops st o s) (hd : o.dst = some d) (hr : Dr P ops R l (st.set d s)) : Dr P ops R (o :: l) st := ⟨d, s, hd, h, hr⟩
theorem Dr_pu {P : Program} {ops : Array Oper} {R : ASt → Prop} {o : Oper} {l : List Oper} {st : ASt} {d : Nat} {s : SV} (h : Pu P st o s) (hg : o.guard = none) (hd : o.dst = some d) (hr : Dr P ops R l (st.set d s)) : Dr P ops R (o :: l) st := ⟨d, s, hd, St_pu hg h, hr⟩
theorem Dr_p {P : Program} {ops : Array Oper} {R : ASt → Prop} {o : Oper} {l : List Oper} {st : ASt} {d : Nat} {s : SV} (h : Pu P st o s) (hr : Dr P ops R l (st.set d s)) (hg : o.guard = none := by rfl) (hd : o.dst = some d := by rfl) : Dr P ops R (o :: l) st := Dr_pu h hg hd hr
theorem Dr_nil {P : Program} {ops : Array Oper} {R : ASt → Prop} {st : ASt} (h : R st) : Dr P ops R [] st := h
theorem putU_size : ∀ (l : List Oper) (k : Nat) (u : Nat → Value) (a : Act), (Ev.putU l k u a).tmps.size = a.tmps.size ∧ (Ev.putU l k u a).defers = a.defers
  | [], _, _, _ => ⟨rfl, rfl⟩
  | o :: r, k, u, a => by
    obtain ⟨h1, h2⟩ := putU_size r (k + 1) u (a.put o.dst (u k))
    rw [Ev.putU, h1, h2]
    cases o.dst <;> simp [Act.put]
theorem getD_put (a : Act) (d : Option Tmp) (x : Value) (t : Nat) : (a.put d x).tmps.getD t undef = if d = some t ∧ t < a.tmps.size then x else a.tmps.getD t undef := by
  cases d with
  | none => simp [Act.put]
  | some d =>
    simp only [Act.put, Option.some.injEq]
    by_cases e : d = t
    · subst e
      by_cases hlt : d < a.tmps.size
      · simp [Array.getD, hlt]
      · simp [Array.getD, hlt]
    · rw [if_neg (fun h => e h.1)]
      simp [Array.getD_eq_getD_getElem?, Array.getElem?_setIfInBounds, e]
theorem putU_out : ∀ (l : List Oper) (k : Nat) (u : Nat → Value) (a : Act) (t : Nat), inB l t = false → (Ev.putU l k u a).tmps.getD t undef = a.tmps.getD t undef
  | [], _, _, _, _, _ => rfl
  | o :: r, k, u, a, t, h => by
    simp only [inB, List.any_cons, Bool.or_eq_false_iff, beq_eq_false_iff_ne] at h
    rw [Ev.putU, putU_out r (k + 1) u _ t h.2, getD_put, if_neg (fun hh => h.1 hh.1)]
theorem putU_in : ∀ (l : List Oper) (k : Nat) (u : Nat → Value) (a : Act) (i t : Nat) (o : Oper), Ev.distinct l = true → l[i]? = some o → o.dst = some t → t < a.tmps.size → (Ev.putU l k u a).tmps.getD t undef = u (k + i)
  | [], _, _, _, _, _, _, _, h, _, _ => by simp at h
  | o :: r, k, u, a, 0, t, o', hd, h, ht, hlt => by
    simp at h
    subst h
    simp only [Ev.distinct, Bool.and_eq_true] at hd
    have hr : inB r t = false := by
      rw [ht] at hd
      simp only [Ev.freshD, List.all_eq_true, bne_iff_ne] at hd
      simp only [inB, List.any_eq_false, beq_iff_eq]
      exact fun x hx => hd.1 x hx
    rw [Ev.putU, putU_out r _ u _ t hr, getD_put, if_pos ⟨ht, hlt⟩]; rfl
  | o :: r, k, u, a, i + 1, t, o', hd, h, ht, hlt => by
    simp only [Ev.distinct, Bool.and_eq_true] at hd
    have hs : (a.put o.dst (u k)).tmps.size = a.tmps.size := by cases o.dst <;> simp [Act.put]
    rw [Ev.putU, putU_in r (k + 1) u _ i t o' hd.2 (by simpa using h) ht (by rw [hs]; exact hlt), show k + 1 + i = k + (i + 1) from by omega]
theorem dist_ne : ∀ {l : List Oper} {i j : Nat} {o o' : Oper} {d : Nat}, Ev.distinct l = true → l[i]? = some o → l[j]? = some o' → i < j → o.dst = some d → o'.dst = some d → False
  | [], _, _, _, _, _, _, h, _, _, _, _ => by simp at h
  | x :: r, 0, j + 1, o, o', d, hd, h1, h2, _, h4, h5 => by
    simp at h1
    subst h1
    simp only [Ev.distinct, Bool.and_eq_true] at hd
    have := hd.1
    rw [h4] at this
    simp only [Ev.freshD, List.all_eq_true, bne_iff_ne] at this
    exact this o' (List.mem_of_getElem? (by simpa using h2)) h5
  | x :: r, i + 1, j + 1, o, o', d, hd, h1, h2, h3, h4, h5 => by
    simp only [Ev.distinct, Bool.and_eq_true] at hd
    exact dist_ne hd.2 (by simpa using h1) (by simpa using h2) (by omega) h4 h5
  | x :: r, i, 0, o, o', d, _, _, _, h3, _, _ => by omega
section
variable {P : Program} {N : Nat} {M0 : Nat → Prop} {w0 : Base} {Q : Exit → ASt → Prop}
/-- The states behind the operations of a region. -/
structure Run (N : Nat) (M : Nat → Prop) (ρ : Rho) (l1 : List Oper) (st0 st : ASt) (env : List Ev.Fact) : Prop where
  ob : st.ob = st0.ob
  len : env.length ≤ l1.length
  new : ∀ i o d, l1[i]? = some o → o.dst = some d → i < env.length → ∀ v w, (env.getD i (fun _ _ => True)) v w → SRep M w ρ (st.sl d) v
  old : ∀ t, (∀ i o, l1[i]? = some o → i < env.length → o.dst ≠ some t) → st.sl t = st0.sl t
theorem walk_dr {st0 : ASt} {ρ : Rho} {a0 : Act} {w1 : World} {ops : Array Oper} {l1 : List Oper} (hs : SimR N M0 w0 st0 ρ a0 w1) (hdis : Ev.distinct l1 = true)
    (hops : ∀ i, i < l1.length → ops[i]? = l1[i]?)
    (hchk : ∀ i o, l1[i]? = some o → (∀ t, Operand.tmp t ∈ opsOf o → opB l1 i o t = true) ∧ (∀ j b oj dj, o.guard = some (j, b) → ops[j]? = some oj → oj.dst = some dj → opB l1 i o dj = true ∧ dj < N) ∧ conB o = true ∧ ∃ d, o.dst = some d ∧ d < N)
    {R : ASt → Prop} {QQ : Act → World → Prop} (hR : ∀ st u wx, R st → Kn w0 (Mt M0 ρ st0.ob) ρ st0.ob w1 wx → SimR N M0 w0 st ρ (Ev.putU l1 0 u a0) wx → QQ (Ev.putU l1 0 u a0) wx) :
    ∀ (l : List Oper) (st : ASt) (env : List Ev.Fact), l1.drop env.length = l → Run N (Mt M0 ρ st0.ob) ρ l1 st0 st env → Dr P ops R l st → Ev.walk P ops l1 (Kn w0 (Mt M0 ρ st0.ob) ρ st0.ob w1) (Kn w0 (Mt M0 ρ st0.ob) ρ st0.ob) a0 QQ l env := by
  have hM : ∀ wx, Kn w0 (Mt M0 ρ st0.ob) ρ st0.ob w1 wx → ∀ b, Mt M0 ρ st0.ob b → b < wx.heap.size := fun wx he b hb => Nat.lt_of_lt_of_le (hs.mt_lt b hb) he.size
  have hobj : ∀ wx, Kn w0 (Mt M0 ρ st0.ob) ρ st0.ob w1 wx → ∀ k g o, st0.ob k = some (g, o) → ∃ h, ρ k g = some h ∧ ORep w0 (Mt M0 ρ st0.ob) wx ρ h o := fun wx he => (hs.kn he).obj
  intro l
  induction l with
  | nil =>
    intro st env hdrop hrun hdr u wx hcx hf
    have hlen : env.length = l1.length := by
      have := congrArg List.length hdrop
      simp at this
      have := hrun.len
      omega
    have hfi : ∀ i, i < env.length → (env.getD i (fun _ _ => True)) (u i) wx := by
      have gen : ∀ (env : List Ev.Fact) (k : Nat), Ev.factsFrom u wx k env → ∀ i, i < env.length → (env.getD i (fun _ _ => True)) (u (k + i)) wx := by
        intro env
        induction env with
        | nil => intro k _ i hi; simp at hi
        | cons A r ih =>
          intro k h i hi
          cases i with
          | zero => exact h.1
          | succ i =>
            have := ih (k + 1) h.2 i (by simpa using hi)
            rw [show k + 1 + i = k + (i + 1) from by omega] at this
            simpa using this
      intro i hi
      have := gen env 0 hf i hi
      rwa [Nat.zero_add] at this
    refine hR st u wx hdr hcx ?_
    have hg := hs.kn hcx
    obtain ⟨p1, p2⟩ := putU_size l1 0 u a0
    exact {
      size := by rw [p1]; exact hs.size
      defers := by rw [p2]; exact hs.defers
      slot := fun t => by
        rw [hrun.ob]
        by_cases ht : ∃ (i : Nat) (o : Oper), l1[i]? = some o ∧ o.dst = some t
        · obtain ⟨i, o, h1, h2⟩ := ht
          have hi : i < l1.length := (List.getElem?_eq_some_iff.1 h1).1
          obtain ⟨_, _, _, d, hd, hdN⟩ := hchk i o h1
          rw [h2] at hd; cases hd
          rw [putU_in l1 0 u a0 i t o hdis h1 h2 (by rw [hs.size]; exact hdN), Nat.zero_add]
          exact hrun.new i o t h1 h2 (by omega) _ _ (hfi i (by omega))
        · have ho : inB l1 t = false := by
            simp only [inB, List.any_eq_false, beq_iff_eq]
            intro x hx e
            obtain ⟨i, hi, rfl⟩ := List.getElem_of_mem hx
            exact ht ⟨i, _, by simp [hi], e⟩
          rw [putU_out l1 0 u a0 t ho, hrun.old t (fun i o h1 _ e => ht ⟨i, o, h1, e⟩)]
          exact hg.slot t
      obj := by rw [hrun.ob]; exact hg.obj
      apart := by rw [hrun.ob]; exact hs.apart
      gens := hs.gens
      base := hs.base
      ext := hg.ext
      pin := hs.pin }
  | cons o l ih =>
    intro st env hdrop hrun hdr
    obtain ⟨d, s, hd, hst, hdr⟩ := hdr
    have hi : env.length < l1.length := by
      have := congrArg List.length hdrop
      simp at this; omega
    have hio : l1[env.length]? = some o := by
      have : (l1.drop env.length)[0]? = some o := by rw [hdrop]; rfl
      simpa using this
    obtain ⟨hc1, hc2, hc3, d', hd', hdN⟩ := hchk env.length o hio
    rw [hd] at hd'; cases hd'
    refine ⟨fun v wx => SRep (Mt M0 ρ st0.ob) wx ρ s v, fun v w w' he h => h.mono (he.known hs.env), ?_, ?_⟩
    · intro u wx hcx hf
      have hval : ∀ t, opB l1 env.length o t = true → SRep (Mt M0 ρ st0.ob) wx ρ (st.sl t) ((Ev.putU l1 0 u a0).tmps.getD t undef) := by
        intro t ht
        by_cases hin : inB l1 t = true
        · simp only [opB, hin, Bool.not_true, Bool.false_or, List.any_eq_true, List.mem_range, Bool.and_eq_true, beq_iff_eq] at ht
          obtain ⟨j, hj, hjd, hjc⟩ := ht
          obtain ⟨oj, hoj, hojd⟩ := Option.bind_eq_some_iff.1 hjd
          obtain ⟨_, _, _, dj, hdj, hdjN⟩ := hchk j oj hoj
          rw [hojd] at hdj; cases hdj
          rw [putU_in l1 0 u a0 j t oj hdis hoj hojd (by rw [hs.size]; exact hdjN), Nat.zero_add]
          exact hrun.new j oj t hoj hojd hj _ _ (Ev.facts_mem.1 hf j (by simpa using hjc))
        · have ho : inB l1 t = false := by simpa using hin
          rw [putU_out l1 0 u a0 t ho, hrun.old t (fun i o' h1 _ e => by
            have : inB l1 t = true := by
              simp only [inB, List.any_eq_true, beq_iff_eq]
              exact ⟨o', List.mem_of_getElem? h1, e⟩
            rw [ho] at this; cases this)]
          exact (hs.slot t).mono (hcx.known hs.env)
      have hob3 : st0.ob = st.ob := hrun.ob.symm
      rw [show (Kn w0 (Mt M0 ρ st0.ob) ρ st0.ob) = (Kn w0 (Mt M0 ρ st0.ob) ρ st.ob) from by rw [hob3]]
      refine hst w0 (Mt M0 ρ st0.ob) ρ wx (Ev.putU l1 0 u a0) (hM wx hcx) (fun x hx => ?_) (fun j b oj dj h1 h2 h3 => ?_) (fun k g ob h => ?_) (by rw [hrun.ob]; exact hs.env)
      · cases x with
        | tmp t => exact hval t (hc1 t hx)
        | const c =>
          have := List.all_eq_true.1 hc3 _ hx
          exact .v c (by simpa using this)
        | global g => trivial
        | func f => exact .fn f [] [] rfl (fun j a x h => by simp at h)
      · obtain ⟨k1, k2⟩ := hc2 j b oj dj h1 h2 h3
        exact ⟨by rw [(putU_size l1 0 u a0).1, hs.size]; exact k2, hval dj k1⟩
      · rw [hrun.ob] at h
        exact hobj wx hcx k g ob h
    · refine ih (st.set d s) _ ?_ ?_ hdr
      · rw [List.length_append, List.length_singleton]
        have : (l1.drop env.length).drop 1 = l := by rw [hdrop]; rfl
        rwa [List.drop_drop] at this
      · have hsame : ∀ i o', l1[i]? = some o' → o'.dst = some d → i = env.length := fun i o' h1 h2 => by
          rcases Nat.lt_trichotomy i env.length with h | h | h
          · exact (dist_ne hdis h1 hio h h2 hd).elim
          · exact h
          · exact (dist_ne hdis hio h1 h hd h2).elim
        exact {
          ob := hrun.ob
          len := by simp; omega
          new := fun i o' t h1 h2 h3 v w hv => by
            show SRep _ _ _ (bif Nat.beq t d then s else st.sl t) v
            by_cases e : i = env.length
            · subst e
              rw [hio] at h1; cases h1
              rw [hd] at h2; cases h2
              have : Nat.beq d d = true := by simp
              rw [this]
              simpa [List.getD_eq_getElem?_getD] using hv
            · have hi' : i < env.length := by simp at h3; omega
              have hne : Nat.beq t d = false := by
                cases hb : Nat.beq t d with
                | false => rfl
                | true =>
                  have := Nat.eq_of_beq_eq_true hb
                  subst this
                  exact (e (hsame i o' h1 h2)).elim
              rw [hne]
              refine hrun.new i o' t h1 h2 hi' v w ?_
              rwa [Ev.getD_app_lt _ _ _ hi'] at hv
          old := fun t h => by
            have hne : Nat.beq t d = false := by
              cases hb : Nat.beq t d with
              | false => rfl
              | true =>
                have := Nat.eq_of_beq_eq_true hb
                subst this
                exact (h env.length o hio (by simp) hd).elim
            show (bif Nat.beq t d then s else st.sl t) = _
            rw [hne]
            exact hrun.old t fun i o' h1 h2 => h i o' h1 (by simp; omega) }
theorem Aw_draw {id : Nat} {l : List Oper} {st : ASt} (n : Nat) (hm : P.follows .mixedOrders = true) (hok : drawB N l n = true) (h : Dr P l.toArray (fun st' => Al P N M0 w0 l.toArray Q (l.drop n) st') (l.take n) st) : Aw P N M0 w0 (.region id l.toArray true) Q st := by
  refine ⟨?_⟩
  rintro a w ⟨ρ, hs⟩
  simp only [drawB, Bool.and_eq_true] at hok
  obtain ⟨⟨⟨⟨h1, h2⟩, h3⟩, h4⟩, h5⟩ := hok
  have hs1 : SimR N M0 w0 st ρ a { w with drawn := w.drawn + 1 } := hs.grow (Ev.Ext.refl w).tick
  refine Ev.wp_region_tail (Kn w0 (Mt M0 ρ st.ob) ρ st.ob { w with drawn := w.drawn + 1 }) (Kn w0 (Mt M0 ρ st.ob) ρ st.ob) n hm (by simp only [Bool.and_eq_true]; exact ⟨⟨h1, h2⟩, h3⟩) Kn.refl (fun _ _ h k => k.trans h) (Kn.refl _) ?_
  refine walk_dr hs1 h1 (fun i hi => ?_) (fun i o ho => ?_) (fun st' u wx hal _ hsim => hal.out _ _ ⟨ρ, hsim⟩) _ st [] (by simp) ⟨rfl, by simp, fun i o d _ _ h => by simp at h, fun _ _ => rfl⟩ h
  · simp only [List.getElem?_toArray]
    rw [List.getElem?_take]
    rw [if_pos (by simp at hi; omega)]
  · have hi : i < n := by
      have := (List.getElem?_eq_some_iff.1 ho).1
      simp at this; omega
    have hl : l[i]? = some o := by
      rw [List.getElem?_take] at ho
      rw [if_pos hi] at ho; exact ho
    have hmem : o ∈ l.take n := List.mem_of_getElem? ho
    have h6 := List.all_eq_true.1 h4 i (List.mem_range.2 hi)
    rw [hl] at h6
    simp only [Bool.and_eq_true] at h6
    have h7 := List.all_eq_true.1 h5 o hmem
    refine ⟨fun t ht => by simpa using List.all_eq_true.1 h6.1.1 _ ht, fun j b oj dj k1 k2 k3 => ?_, h6.2, ?_⟩
    · have k4 := h6.1.2
      rw [k1] at k4
      have k2' : l[j]? = some oj := by simpa using k2
      simp only [k2', k3, Bool.and_eq_true, decide_eq_true_eq] at k4
      exact k4
    · cases hd : o.dst with
      | none => rw [hd] at h7; cases h7
      | some d => rw [hd] at h7; exact ⟨d, rfl, by simpa using h7⟩
end
/-! ### weaker states -/
/-- Whatever reads as the one reads as the other. -/
def Sub (s s' : SV) : Prop := ∀ (M : Nat → Prop) (w : World) (ρ : Rho) (x : Value), SRep M w ρ s x → SRep M w ρ s' x
theorem Sub.rfl {s : SV} : Sub s s := fun _ _ _ _ h => h
theorem Sub.any {s : SV} : Sub s .any := fun _ _ _ _ _ => trivial
theorem Sub.eq {s s' : SV} (h : s = s') : Sub s s' := h ▸ Sub.rfl
theorem Sub.num {k : IntKind} {a b : Int} (h : a = b) : Sub (.d (.v (.int k a))) (.d (.v (.int k b))) := h ▸ Sub.rfl
theorem Sub.d {a b : AV} (h : a = b) : Sub (.d a) (.d b) := h ▸ Sub.rfl
theorem Sub.str {a b : ByteArray} (h : a = b) : Sub (.d (.v (.string a))) (.d (.v (.string b))) := h ▸ Sub.rfl
theorem Sub.nil {n : Nat} : Sub (.d (.v (.slice none 0 0))) (.d (.sl n [])) := fun _ _ _ _ h => by cases h; exact .nil n _ _
def lookS : List (Nat × SV) → Nat → SV
  | [], _ => .any
  | (j, s) :: r, i => bif Nat.beq i j then s else lookS r i
def lookO : List (Nat × Nat × AO) → Nat → Option (Nat × AO)
  | [], _ => none
  | (j, g, o) :: r, i => bif Nat.beq i j then some (g, o) else lookO r i
def mk (l : List (Nat × SV)) (obs : List (Nat × Nat × AO)) : ASt := ⟨lookS l, lookO obs⟩
def LeS (st : ASt) : List (Nat × SV) → Prop
  | [] => True
  | (i, s) :: r => Sub (st.sl i) s ∧ LeS st r
def LeO (st : ASt) : List (Nat × Nat × AO) → Prop
  | [] => True
  | (k, g, o) :: r => st.ob k = some (g, o) ∧ LeO st r
theorem LeS.get {st : ASt} : ∀ {l : List (Nat × SV)}, LeS st l → ∀ i, Sub (st.sl i) (lookS l i)
  | [], _, i => Sub.any
  | (j, s) :: r, h, i => by
    unfold lookS
    cases hb : Nat.beq i j with
    | true => have := Nat.eq_of_beq_eq_true hb; subst this; exact h.1
    | false => exact LeS.get h.2 i
theorem LeO.get {st : ASt} : ∀ {l : List (Nat × Nat × AO)}, LeO st l → ∀ k g o, lookO l k = some (g, o) → st.ob k = some (g, o)
  | [], _, k, g, o, hh => by simp [lookO] at hh
  | (j, g', o') :: r, h, k, g, o, hh => by
    unfold lookO at hh
    cases hb : Nat.beq k j with
    | true =>
      rw [hb] at hh
      have := Nat.eq_of_beq_eq_true hb
      subst this
      simp only [cond_true, Option.some.injEq, Prod.mk.injEq] at hh
      obtain ⟨rfl, rfl⟩ := hh
      exact h.1
    | false =>
      rw [hb] at hh
      exact LeO.get h.2 k g o hh
theorem SimR.le {N : Nat} {M0 : Nat → Prop} {w0 : Base} {st st' : ASt} {ρ : Rho} {a : Act} {w : World} (h : SimR N M0 w0 st ρ a w) (hs : ∀ i, Sub (st.sl i) (st'.sl i)) (ho : ∀ k g o, st'.ob k = some (g, o) → st.ob k = some (g, o)) : SimR N M0 w0 st' ρ a w := by
  have hk : Known (Mt M0 ρ st.ob) (Mt M0 ρ st'.ob) w w := fun b _ hb => ⟨fun hm => hb (hm.imp id fun ⟨k, g, o, x, h1, h2, h3⟩ => ⟨k, g, o, x, ho k g o h1, h2, h3⟩), rfl⟩
  exact {
    size := h.size
    defers := h.defers
    slot := fun i => hs i _ _ _ _ ((h.slot i).mono hk)
    obj := fun k g o hh => by
      obtain ⟨x, h1, h2⟩ := h.obj k g o (ho k g o hh)
      exact ⟨x, h1, h2.mono hk fun _ _ => rfl⟩
    apart := fun k g o k' g' o' x x' b h1 h2 => h.apart k g o k' g' o' x x' b (ho _ _ _ h1) (ho _ _ _ h2)
    gens := h.gens
    base := h.base
    ext := h.ext
    pin := h.pin }
theorem Le.mk {N : Nat} {M0 : Nat → Prop} {w0 : Base} {st : ASt} {l : List (Nat × SV)} {obs : List (Nat × Nat × AO)} (hs : LeS st l) (ho : LeO st obs) : Le N M0 w0 st (mk l obs) := fun a w ⟨ρ, h⟩ => ⟨ρ, h.le hs.get ho.get⟩
theorem Le.rfl {N : Nat} {M0 : Nat → Prop} {w0 : Base} {st : ASt} : Le N M0 w0 st st := fun _ _ h => h
theorem Le.trans {N : Nat} {M0 : Nat → Prop} {w0 : Base} {st st' st'' : ASt} (h : Le N M0 w0 st st') (h' : Le N M0 w0 st' st'') : Le N M0 w0 st st'' := fun a w hs => h' a w (h a w hs)
def memB : List Nat → Nat → Bool
  | [], _ => false
  | j :: r, i => bif Nat.beq i j then true else memB r i
def lookSD : List (Nat × SV) → (Nat → SV) → Nat → SV
  | [], d, i => d i
  | (j, s) :: r, d, i => bif Nat.beq i j then s else lookSD r d i
def lookOD : List (Nat × Nat × AO) → (Nat → Option (Nat × AO)) → Nat → Option (Nat × AO)
  | [], d, i => d i
  | (j, g, o) :: r, d, i => bif Nat.beq i j then some (g, o) else lookOD r d i
/-- A state in which some slots are turned, some are kept, and of the others nothing is known. -/
def ASt.ov (st : ASt) (keep : List Nat) (l : List (Nat × SV)) (kob : List Nat) (obs : List (Nat × Nat × AO)) : ASt := ⟨lookSD l fun i => bif memB keep i then st.sl i else .any, lookOD obs fun k => bif memB kob k then st.ob k else none⟩
def KeepS (s st : ASt) : List Nat → Prop
  | [] => True
  | i :: r => Sub (s.sl i) (st.sl i) ∧ KeepS s st r
def KeepO (s st : ASt) : List Nat → Prop
  | [] => True
  | k :: r => s.ob k = st.ob k ∧ KeepO s st r
theorem KeepS.refl (st : ASt) : ∀ l, KeepS st st l
  | [] => trivial
  | _ :: r => ⟨Sub.rfl, KeepS.refl st r⟩
theorem KeepO.refl (st : ASt) : ∀ l, KeepO st st l
  | [] => trivial
  | _ :: r => ⟨Eq.refl _, KeepO.refl st r⟩
theorem memB.get {s st : ASt} : ∀ {l : List Nat}, KeepS s st l → ∀ i, memB l i = true → Sub (s.sl i) (st.sl i)
  | [], _, i, h => by cases h
  | j :: r, hk, i, h => by
    unfold memB at h
    cases hb : Nat.beq i j with
    | true => have := Nat.eq_of_beq_eq_true hb; subst this; exact hk.1
    | false => rw [hb] at h; exact memB.get hk.2 i h
theorem memB.getO {s st : ASt} : ∀ {l : List Nat}, KeepO s st l → ∀ i, memB l i = true → s.ob i = st.ob i
  | [], _, i, h => by cases h
  | j :: r, hk, i, h => by
    unfold memB at h
    cases hb : Nat.beq i j with
    | true => have := Nat.eq_of_beq_eq_true hb; subst this; exact hk.1
    | false => rw [hb] at h; exact memB.getO hk.2 i h
theorem LeS.getD {st : ASt} {d : Nat → SV} (hd : ∀ i, Sub (st.sl i) (d i)) : ∀ {l : List (Nat × SV)}, LeS st l → ∀ i, Sub (st.sl i) (lookSD l d i)
  | [], _, i => hd i
  | (j, s) :: r, h, i => by
    unfold lookSD
    cases hb : Nat.beq i j with
    | true => have := Nat.eq_of_beq_eq_true hb; subst this; exact h.1
    | false => exact LeS.getD hd h.2 i
theorem LeO.getD {st : ASt} {d : Nat → Option (Nat × AO)} (hd : ∀ k g o, d k = some (g, o) → st.ob k = some (g, o)) : ∀ {l : List (Nat × Nat × AO)}, LeO st l → ∀ k g o, lookOD l d k = some (g, o) → st.ob k = some (g, o)
  | [], _, k, g, o, hh => hd k g o hh
  | (j, g', o') :: r, h, k, g, o, hh => by
    unfold lookOD at hh
    cases hb : Nat.beq k j with
    | true =>
      rw [hb] at hh
      have := Nat.eq_of_beq_eq_true hb
      subst this
      simp only [cond_true, Option.some.injEq, Prod.mk.injEq] at hh
      obtain ⟨rfl, rfl⟩ := hh
      exact h.1
    | false =>
      rw [hb] at hh
      exact LeO.getD hd h.2 k g o hh
theorem Le.ov {N : Nat} {M0 : Nat → Prop} {w0 : Base} {s st : ASt} {keep kob : List Nat} {l : List (Nat × SV)} {obs : List (Nat × Nat × AO)} (h1 : LeS s l) (h2 : KeepS s st keep) (h3 : LeO s obs) (h4 : KeepO s st kob) : Le N M0 w0 s (st.ov keep l kob obs) := fun a w ⟨ρ, h⟩ => ⟨ρ, h.le (fun i => LeS.getD (fun i => by
  show Sub _ (bif memB keep i then st.sl i else .any)
  cases hb : memB keep i with
  | true => exact memB.get h2 i hb
  | false => exact Sub.any) h1 i) (LeO.getD (fun k g o hh => by
  have : (bif memB kob k then st.ob k else none) = some (g, o) := hh
  cases hb : memB kob k with
  | true => rw [hb] at this; rw [memB.getO h4 k hb]; exact this
  | false => rw [hb] at this; cases this) h3)⟩
theorem Aw_loopk {P : Program} {N : Nat} {M0 : Nat → Prop} {w0 : Base} {Q : Exit → ASt → Prop} {st : ASt} {c : Code} {ι : Type} (keep kob : List Nat) (I : ι → List (Nat × SV)) (J : ι → List (Nat × Nat × AO)) (Ok : ι → Prop) (μ : ι → Nat) (i0 : ι) (h0 : Ok i0) (hl : LeS st (I i0)) (ho : LeO st (J i0))
    (round : ∀ i, Ok i → Aw P N M0 w0 c (Then (fun s => ∃ i', Ok i' ∧ μ i' < μ i ∧ Le N M0 w0 s (st.ov keep (I i') kob (J i'))) Q) (st.ov keep (I i) kob (J i))) : Aw P N M0 w0 (.loop c) Q st :=
  Aw_loop (fun i => st.ov keep (I i) kob (J i)) Ok μ i0 h0 (Le.ov hl (KeepS.refl st _) ho (KeepO.refl st _)) round
/-- Where ways meet again. -/
theorem Aw_join {P : Program} {N : Nat} {M0 : Nat → Prop} {w0 : Base} {Q : Exit → ASt → Prop} {st : ASt} {x y : Code} {ι : Type} (keep kob : List Nat) (I : ι → List (Nat × SV)) (J : ι → List (Nat × Nat × AO)) (Ok : ι → Prop)
    (h : Aw P N M0 w0 x (Then (fun s => ∃ i, Ok i ∧ Le N M0 w0 s (st.ov keep (I i) kob (J i))) Q) st) (hk : ∀ i, Ok i → Aw P N M0 w0 y Q (st.ov keep (I i) kob (J i))) : Aw P N M0 w0 (.seq x y) Q st := Aw_seq (Aw_mono h fun e s hs => by
  cases e with
  | normal =>
    obtain ⟨i, h1, h2⟩ := hs
    exact Aw_le h2 (hk i h1)
  | _ => exact hs)
/-! ### calls -/
def AllRep (M : Nat → Prop) (w : World) (aa : List AV) (vs : List Value) : Prop := vs.length = aa.length ∧ ∀ (j : Nat) (a : AV) (x : Value), aa[j]? = some a → vs[j]? = some x → Rep M w a x
def okA (a : AV) : Prop := ∃ M w x, Rep M w a x
/-- Called with what reads as 'as' it returns what reads as 'res'; nothing that was there has turned. -/
def ACall (P : Program) (f : FuncId) (aa : List AV) (res : AV) : Prop := (∀ (vs : Array Value) (w : World), (callFunc f vs).run P w = .ok (.enter f vs) w) ∧
  ∀ (M : Nat → Prop) (w : World) (vs : List Value), (∀ b, M b → b < w.heap.size) → AllRep M w aa vs → Calls P f vs.toArray w fun e w' => ∃ v, e = .returned v ∧ Ev.Ext w w' ∧ Rep M w' res v
def argS : Nat → List AV → List (Nat × SV)
  | _, [] => []
  | i, a :: r => (i, .d a) :: argS (i + 1) r
def Rt (r : Nat) (res : AV) : Exit → ASt → Prop
  | .ret, st => Sub (st.sl r) (.d res)
  | .normal, st => Sub (st.sl r) (.d res)
  | _, _ => False
def Rt2 (r r' : Nat) (res res' : AV) : Exit → ASt → Prop
  | .ret, st => Sub (st.sl r) (.d res) ∧ Sub (st.sl r') (.d res')
  | .normal, st => Sub (st.sl r) (.d res) ∧ Sub (st.sl r') (.d res')
  | _, _ => False
theorem argS_get : ∀ (aa : List AV) (k i : Nat), lookS (argS k aa) (k + i) = match aa[i]? with | some a => .d a | none => .any
  | [], k, i => by simp [argS, lookS]
  | a :: r, k, 0 => by simp [argS, lookS]
  | a :: r, k, i + 1 => by
    have := argS_get r (k + 1) i
    rw [show k + 1 + i = k + (i + 1) from by omega] at this
    unfold argS lookS
    have hb : Nat.beq (k + (i + 1)) k = false := by cases hb : Nat.beq (k + (i + 1)) k with
      | false => rfl
      | true => have := Nat.eq_of_beq_eq_true hb; omega
    rw [hb]
    simpa using this
theorem sim_enter {N : Nat} {M : Nat → Prop} {w : World} {aa : List AV} {vs : List Value} (hM : ∀ b, M b → b < w.heap.size) (ha : AllRep M w aa vs) (hn : aa.length ≤ N) : SimR N M ⟨w, fun _ => False, [], fun _ _ => none⟩ (mk (argS 0 aa) []) (fun _ _ => none) { tmps := vs.toArray ++ Array.replicate (N - vs.toArray.size) undef, defers := [] } w where
  size := by have := ha.1; simp; omega
  defers := rfl
  slot i := by
    have e := argS_get aa 0 i
    rw [Nat.zero_add] at e
    show SRep _ _ _ (lookS (argS 0 aa) i) _
    rw [e]
    cases h : aa[i]? with
    | none => trivial
    | some a =>
      have hi : i < vs.length := by rw [ha.1]; exact (List.getElem?_eq_some_iff.1 h).1
      have e2 : (vs.toArray ++ Array.replicate (N - vs.toArray.size) undef).getD i undef = vs[i] := by
        simp [Array.getD_eq_getD_getElem?, Array.getElem?_append, hi]
      show SRep _ _ _ (.d a) ((vs.toArray ++ Array.replicate (N - vs.toArray.size) undef).getD i undef)
      rw [e2]
      exact (ha.2 i a vs[i] h (by simp [hi])).mono fun b hb hm => ⟨fun h => by
        rcases h with h | ⟨k, g, o, x, h1, _⟩
        · exact hm h
        · simp [mk, lookO] at h1, rfl⟩
  obj k g o h := by simp [mk, lookO] at h
  apart k g o k' g' o' x x' b h := by simp [mk, lookO] at h
  gens := ⟨0, fun k g h => (h rfl).elim⟩
  base := hM
  ext := ⟨rfl, rfl, rfl, Nat.le_refl _, fun _ _ _ => rfl⟩
  pin := fun _ _ _ h => by cases h
theorem SimR.res {N : Nat} {M0 : Nat → Prop} {w0 : Base} {st : ASt} {ρ : Rho} {a : Act} {w : World} (h : SimR N M0 w0 st ρ a w) {r : Nat} {res : AV} (hr : Sub (st.sl r) (.d res)) : Rep M0 w res (a.tmps.getD r undef) :=
  Rep.mono (fun b _ hb => ⟨fun hm => hb (.inl hm), rfl⟩) (hr _ _ _ _ (h.slot r))
theorem okA_of {M : Nat → Prop} {w : World} {aa : List AV} {vs : List Value} (ha : AllRep M w aa vs) : ∀ a ∈ aa, okA a := fun a h => by
  obtain ⟨i, hi, rfl⟩ := List.getElem_of_mem h
  have hv : i < vs.length := by rw [ha.1]; exact hi
  exact ⟨M, w, vs[i], ha.2 i _ _ (by simp [hi]) (by simp [hv])⟩
theorem ACall_enter {P : Program} {f : FuncId} {fn : Func} {c : Code} {N r : Nat} {aa : List AV} {res : AV} (hcf : ∀ (vs : Array Value) (w : World), (callFunc f vs).run P w = .ok (.enter f vs) w) (hf : P.funcs[f]? = some fn) (hb : fn.body = some c) (hN : fn.ntmps = N) (hr : fn.results = #[.tmp r]) (hn : aa.length ≤ N)
    (h : (∀ a ∈ aa, okA a) → ∀ M0 w0, (∀ b, ¬ w0.l b) → Aw P N M0 w0 c (Rt r res) (mk (argS 0 aa) [])) : ACall P f aa res := ⟨hcf, fun M w vs hM ha => by
  refine calls_of_wp hf hb ?_
  rw [hN]
  refine wp_mono ((h (okA_of ha) M ⟨w, fun _ => False, [], fun _ _ => none⟩ (fun _ h => h)).out _ _ ⟨_, sim_enter hM ha hn⟩) fun e a' w' ⟨st, h1, ρ, h2⟩ => ?_
  have key : Sub (st.sl r) (.d res) → a'.defers = [] ∧ ∃ v, (results fn a'.tmps).run P w' = .ok v w' ∧ (∃ v', Ending.returned v = .returned v' ∧ Ev.Ext w w' ∧ Rep M w' res v') := fun hs =>
    ⟨h2.defers, _, results_tmp hr _ _ _, _, rfl, h2.ext.ext, h2.res hs⟩
  cases e with
  | normal => exact key h1
  | ret => exact key h1
  | _ => exact h1.elim⟩
theorem ACall_enter2 {P : Program} {f : FuncId} {fn : Func} {c : Code} {N r r' : Nat} {aa : List AV} {res res' : AV} (hcf : ∀ (vs : Array Value) (w : World), (callFunc f vs).run P w = .ok (.enter f vs) w) (hf : P.funcs[f]? = some fn) (hb : fn.body = some c) (hN : fn.ntmps = N) (hr : fn.results = #[.tmp r, .tmp r']) (hn : aa.length ≤ N)
    (h : (∀ a ∈ aa, okA a) → ∀ M0 w0, (∀ b, ¬ w0.l b) → Aw P N M0 w0 c (Rt2 r r' res res') (mk (argS 0 aa) [])) : ACall P f aa (.tup [res, res']) := ⟨hcf, fun M w vs hM ha => by
  refine calls_of_wp hf hb ?_
  rw [hN]
  refine wp_mono ((h (okA_of ha) M ⟨w, fun _ => False, [], fun _ _ => none⟩ (fun _ h => h)).out _ _ ⟨_, sim_enter hM ha hn⟩) fun e a' w' ⟨st, h1, ρ, h2⟩ => ?_
  have key : Sub (st.sl r) (.d res) ∧ Sub (st.sl r') (.d res') → a'.defers = [] ∧ ∃ v, (results fn a'.tmps).run P w' = .ok v w' ∧ (∃ v', Ending.returned v = .returned v' ∧ Ev.Ext w w' ∧ Rep M w' (.tup [res, res']) v') := fun hs =>
    ⟨h2.defers, _, results_tmp2 hr _ _ _, _, rfl, h2.ext.ext, .tup [res, res'] [_, _] rfl fun j a x h3 h4 => by
      match j with
      | 0 => simp only [List.getElem?_cons_zero, Option.some.injEq] at h3 h4; subst h3 h4; exact h2.res hs.1
      | 1 => simp only [List.getElem?_cons_succ, List.getElem?_cons_zero, Option.some.injEq] at h3 h4; subst h3 h4; exact h2.res hs.2
      | j + 2 => simp at h3⟩
  cases e with
  | normal => exact key h1
  | ret => exact key h1
  | _ => exact h1.elim⟩
end Go.Proofs.Ytmbaeloiepjakaa.A
namespace Go.Proofs.Ytmbaeloiepjakaa.A
open Go Go.RowKit
section
variable {P : Program} {st : ASt} {o : Oper}
theorem Pu_of {s : SV} (h : ∀ (B : Base) (M : Nat → Prop) (ρ : Rho) (w : World) (a : Act), (∀ b, M b → b < w.heap.size) → (∀ x ∈ opsOf o, SRep M w ρ (st.ev x) (a.eval x)) → (∀ k g ob, st.ob k = some (g, ob) → ∃ h, ρ k g = some h ∧ ORep B M w ρ h ob) →
    ∃ v w', (execOp a.eval o).run P w = .ok (.value v) w' ∧ Ev.Ext w w' ∧ SRep M w' ρ s v) : Pu P st o s := fun B M ρ w a h1 h2 h3 hev K hK => by
  obtain ⟨v, w', h4, h5, h6⟩ := h B M ρ w a h1 h2 h3
  rw [h4]
  exact hK v w' (Kn.ext h5) h6
/-- The same, where memory stays as it is. -/
theorem Pu_q {s : SV} (h : ∀ (B : Base) (M : Nat → Prop) (ρ : Rho) (w : World) (a : Act), (∀ x ∈ opsOf o, SRep M w ρ (st.ev x) (a.eval x)) → (∀ k g ob, st.ob k = some (g, ob) → ∃ h, ρ k g = some h ∧ ORep B M w ρ h ob) →
    ∃ v, (execOp a.eval o).run P w = .ok (.value v) w ∧ SRep M w ρ s v) : Pu P st o s := Pu_of fun B M ρ w a _ h2 h3 => by
  obtain ⟨v, h4, h5⟩ := h B M ρ w a h2 h3
  exact ⟨v, w, h4, Ev.Ext.refl _, h5⟩
theorem rep_v {M : Nat → Prop} {w : World} {ρ : Rho} {x y : Value} (h : SRep M w ρ (.d (.v x)) y) : y = x ∧ vok x := by
  cases h with
  | v _ h => exact ⟨rfl, h⟩
theorem ev_v {M : Nat → Prop} {w : World} {ρ : Rho} {a : Act} (h : ∀ x ∈ opsOf o, SRep M w ρ (st.ev x) (a.eval x)) {x : Operand} (hx : x ∈ opsOf o) {y : Value} (he : st.ev x = .d (.v y)) : a.eval x = y ∧ vok y := by
  have := h x hx
  rw [he] at this
  exact rep_v this
theorem Pu_move {x : Operand} {s : SV} (ho : o.op = .move x ∨ o.op = .assign x) (hs : st.ev x = s) : Pu P st o s := Pu_q fun B M ρ w a h2 _ => by
  refine ⟨a.eval x, ?_, ?_⟩
  · rcases ho with ho | ho <;> simp [execOp, ho, Sem.run]
  · rw [← hs]
    exact h2 x (by rcases ho with ho | ho <;> simp [opsOf, ho, Op.operands])
theorem Pu_mvl {x : Operand} {s : SV} (ho : o.op = .move x := by rfl) (hs : st.ev x = s := by conv => lhs; whnf) : Pu P st o s := Pu_move (.inl ho) hs
theorem Pu_mvr {x : Operand} {s : SV} (ho : o.op = .assign x := by rfl) (hs : st.ev x = s := by conv => lhs; whnf) : Pu P st o s := Pu_move (.inr ho) hs
theorem mem2l {op : BinOp} {t yt : TypeId} {x y : Operand} (ho : o.op = .binOp op t x y yt) : x ∈ opsOf o ∧ y ∈ opsOf o := by simp [opsOf, ho, Op.operands]
/-- A test or a sum of two values of one cell. -/
theorem Pu_bin {op : BinOp} {t yt : TypeId} {x y : Operand} {u v r : Value} (ho : o.op = .binOp op t x y yt) (hx : st.ev x = .d (.v u)) (hy : st.ev y = .d (.v v)) (hr : vok u → vok v → ∀ w, (do eqGuard op t x y u v; binOp op t u v : Sem Value).run P w = .ok r w) (hv : vok u → vok v → vok r) : Pu P st o (.d (.v r)) := Pu_q fun B M ρ w a h2 _ => by
  obtain ⟨e1, k1⟩ := ev_v h2 (mem2l ho).1 hx
  obtain ⟨e2, k2⟩ := ev_v h2 (mem2l ho).2 hy
  refine ⟨r, ?_, .v _ (hv k1 k2)⟩
  have := hr k1 k2 w
  simp only [execOp, ho, e1, e2, Sem.run_bind, Sem.run_pure] at this ⊢
  rw [this]; rfl
theorem guard_int (op : BinOp) (t : TypeId) (x y : Operand) (k k' : IntKind) (a b : Int) (w : World) : (eqGuard op t x y (.int k a) (.int k' b)).run P w = .ok () w := by
  cases op <;> rfl
theorem guard_str (op : BinOp) (t : TypeId) (x y : Operand) (a b : ByteArray) (w : World) : (eqGuard op t x y (.string a) (.string b)).run P w = .ok () w := by
  cases op <;> rfl
theorem guard_bool (op : BinOp) (t : TypeId) (x y : Operand) (a b : Bool) (w : World) : (eqGuard op t x y (.bool a) (.bool b)).run P w = .ok () w := by
  cases op <;> rfl
theorem wrapI {x : Int} (h : inI x) : IntKind.i64.wrap x = x := by
  unfold inI at h
  exact IntWalk.i64_in _ (by omega)
theorem Pu_add {t yt : TypeId} {x y : Operand} {a b : Int} (ho : o.op = .binOp .add t x y yt) (hx : st.ev x = .d (.v (.int .i64 a))) (hy : st.ev y = .d (.v (.int .i64 b))) (hI : inI a → inI b → inI (a + b)) : Pu P st o (.d (.v (.int .i64 (a + b)))) :=
  Pu_bin ho hx hy (fun h1 h2 w => by simp only [Sem.run_bind, guard_int, Result.andThen_ok, binOp]; simp [Op.intArith, wrapI (hI h1 h2), Sem.run]) hI
theorem Pu_sub {t yt : TypeId} {x y : Operand} {a b : Int} (ho : o.op = .binOp .sub t x y yt) (hx : st.ev x = .d (.v (.int .i64 a))) (hy : st.ev y = .d (.v (.int .i64 b))) (hI : inI a → inI b → inI (a - b)) : Pu P st o (.d (.v (.int .i64 (a - b)))) :=
  Pu_bin ho hx hy (fun h1 h2 w => by simp only [Sem.run_bind, guard_int, Result.andThen_ok, binOp]; simp [Op.intArith, wrapI (hI h1 h2), Sem.run]) hI
def cmpB : BinOp → Int → Int → Option Bool
  | .eql, a, b => some (decide (a = b))
  | .neq, a, b => some (!decide (a = b))
  | .lss, a, b => some (decide (a < b))
  | .leq, a, b => some (decide (a ≤ b))
  | .gtr, a, b => some (decide (b < a))
  | .geq, a, b => some (decide (b ≤ a))
  | _, _, _ => none
theorem Pu_cmp {op : BinOp} {t yt : TypeId} {x y : Operand} {k : IntKind} {a b : Int} {r : Bool} (ho : o.op = .binOp op t x y yt) (hx : st.ev x = .d (.v (.int k a))) (hy : st.ev y = .d (.v (.int k b))) (hr : cmpB op a b = some r) : Pu P st o (.d (.v (.bool r))) :=
  Pu_bin ho hx hy (fun h1 h2 w => by
    simp only [Sem.run_bind, guard_int, Result.andThen_ok]
    cases op <;> simp only [cmpB, Option.some.injEq, reduceCtorEq] at hr <;> subst hr <;> simp [binOp, Op.intCmp, Sem.run] <;> rfl) (fun _ _ => trivial)
def strB : BinOp → ByteArray → ByteArray → Option Bool
  | .eql, a, b => some (a.toList == b.toList)
  | .neq, a, b => some (!(a.toList == b.toList))
  | .lss, a, b => some (Op.bytesLess a.toList b.toList)
  | .leq, a, b => some (Op.bytesLess a.toList b.toList || a.toList == b.toList)
  | .gtr, a, b => some (!(Op.bytesLess a.toList b.toList || a.toList == b.toList))
  | .geq, a, b => some (!Op.bytesLess a.toList b.toList)
  | _, _, _ => none
theorem Pu_str {op : BinOp} {t yt : TypeId} {x y : Operand} {a b : ByteArray} {r : Bool} (ho : o.op = .binOp op t x y yt) (hx : st.ev x = .d (.v (.string a))) (hy : st.ev y = .d (.v (.string b))) (hr : strB op a b = some r) : Pu P st o (.d (.v (.bool r))) :=
  Pu_bin ho hx hy (fun h1 h2 w => by
    simp only [Sem.run_bind, guard_str, Result.andThen_ok]
    cases op <;> simp only [strB, Option.some.injEq, reduceCtorEq] at hr <;> subst hr <;> rfl) (fun _ _ => trivial)
theorem Pu_cat {t yt : TypeId} {x y : Operand} {a b : ByteArray} (ho : o.op = .binOp .add t x y yt) (hx : st.ev x = .d (.v (.string a))) (hy : st.ev y = .d (.v (.string b))) (hI : a.size + b.size ≤ maxI) : Pu P st o (.d (.v (.string (a ++ b)))) :=
  Pu_bin ho hx hy (fun h1 h2 w => by
    simp only [Sem.run_bind, guard_str, Result.andThen_ok, binOp, Op.stringOp]
    rw [if_neg (by show ¬ _ > (9223372036854775807 : Int); unfold maxI at hI; omega)]; rfl) (fun _ _ => by simp [vok]; exact hI)
theorem Pu_not {t : TypeId} {x : Operand} {b : Bool} (ho : o.op = .unOp .not t x) (hx : st.ev x = .d (.v (.bool b))) : Pu P st o (.d (.v (.bool (!b)))) := Pu_q fun B M ρ w a h2 _ => by
  obtain ⟨e1, k1⟩ := ev_v h2 (x := x) (by simp [opsOf, ho, Op.operands]) hx
  exact ⟨_, by simp [execOp, ho, e1, Op.unary, Sem.run], .v _ trivial⟩
/-- 'a && b', 'a || b': the second one, where it is asked. -/
theorem Pu_and {c x y : Operand} {t u : Bool} (ho : o.op = .pick c x y) (hc : st.ev c = .d (.v (.bool t))) (hx : st.ev x = .ifb (t = true) (.d (.v (.bool u)))) (hy : st.ev y = .d (.v (.bool false))) : Pu P st o (.d (.v (.bool (t && u)))) := Pu_q fun B M ρ w a h2 _ => by
  have m : c ∈ opsOf o ∧ x ∈ opsOf o ∧ y ∈ opsOf o := by simp [opsOf, ho, Op.operands]
  obtain ⟨e1, _⟩ := ev_v h2 m.1 hc
  obtain ⟨e3, _⟩ := ev_v h2 m.2.2 hy
  have hx' := h2 x m.2.1
  rw [hx] at hx'
  cases t
  · exact ⟨_, by simp [execOp, ho, e1, e3, asBool, Sem.run], .v _ trivial⟩
  · obtain ⟨e2, _⟩ := rep_v (hx'.1 rfl)
    exact ⟨.bool u, by simp [execOp, ho, e1, e2, asBool, Sem.run], .v (.bool u) trivial⟩
theorem Pu_or {c x y : Operand} {t u : Bool} (ho : o.op = .pick c x y) (hc : st.ev c = .d (.v (.bool t))) (hx : st.ev x = .d (.v (.bool true))) (hy : st.ev y = .ifb (t = false) (.d (.v (.bool u)))) : Pu P st o (.d (.v (.bool (t || u)))) := Pu_q fun B M ρ w a h2 _ => by
  have m : c ∈ opsOf o ∧ x ∈ opsOf o ∧ y ∈ opsOf o := by simp [opsOf, ho, Op.operands]
  obtain ⟨e1, _⟩ := ev_v h2 m.1 hc
  obtain ⟨e3, _⟩ := ev_v h2 m.2.1 hx
  have hy' := h2 y m.2.2
  rw [hy] at hy'
  cases t
  · obtain ⟨e2, _⟩ := rep_v (hy'.1 rfl)
    exact ⟨.bool u, by simp [execOp, ho, e1, e2, asBool, Sem.run], .v (.bool u) trivial⟩
  · exact ⟨_, by simp [execOp, ho, e1, e3, asBool, Sem.run], .v _ trivial⟩
theorem mem_call {c : Callee} {xs : Array Operand} {ts : Array TypeId} (ho : o.op = .call ⟨c, xs, ts⟩) : ∀ x ∈ xs, x ∈ opsOf o := fun x hx => by
  simp only [opsOf, ho, Op.operands, Call.operands, Array.toList_append, List.mem_append]
  exact .inr (by simpa using hx)
/-- The length of a slice. -/
theorem Pu_len {x : Operand} {t e : TypeId} {n k : Nat} {rows : List (List AV)} (ho : o.op = .call ⟨.builtin .len, #[x], #[t]⟩) (ht : P.underlying t = some (.slice e)) (hx : st.ev x = .d (.sl n rows)) (hk : rows.length = k) : Pu P st o (.d (.v (.int .i64 k))) := Pu_q fun B M ρ w a h2 _ => by
  subst hk
  have hm := h2 x (mem_call ho x (by simp))
  rw [hx] at hm
  have key : ∃ b c, a.eval x = .slice b rows.length c ∧ rows.length ≤ maxI := by
    generalize a.eval x = y at hm
    cases hm with
    | nil n a c => exact ⟨_, _, rfl, by simp⟩
    | sl n rows b o cap f hl hcap hn hc hr => exact ⟨_, _, rfl, hl⟩
  obtain ⟨b, c, e1, hl⟩ := key
  refine ⟨.int .i64 rows.length, ?_, .v _ ?_⟩
  · simp [execOp, ho, resolve, invoke, builtin, Builtin.len_, e1, run_underlying ht, Sem.run, goInt]
  · unfold maxI at hl; simp [vok, inI]; omega
theorem Pu_lenS {x : Operand} {t : TypeId} {s : ByteArray} (ho : o.op = .call ⟨.builtin .len, #[x], #[t]⟩) (ht : P.underlying t = some .string) (hx : st.ev x = .d (.v (.string s))) : Pu P st o (.d (.v (.int .i64 s.size))) := Pu_q fun B M ρ w a h2 _ => by
  obtain ⟨e1, k1⟩ := ev_v h2 (mem_call ho x (by simp)) hx
  refine ⟨.int .i64 s.size, ?_, .v _ ?_⟩
  · simp [execOp, ho, resolve, invoke, builtin, Builtin.len_, e1, run_underlying ht, Sem.run, goInt]
  · simp [vok, maxI] at k1; simp [vok, inI]; omega
theorem add_addr (b o n : Nat) : (⟨b, o, none⟩ : Addr).add n = ⟨b, o + n, none⟩ := by unfold Addr.add; split <;> simp_all
/-- An element of a slice. -/
theorem Pu_index {t e : TypeId} {x i : Operand} {n k : Nat} {z : Int} {rows : List (List AV)} {r : List AV} (ho : o.op = .indexAddr t x i) (ht : P.underlying t = some (.slice e)) (hz : ∀ w, (sizeOf e).run P w = .ok n w) (hx : st.ev x = .d (.sl n rows)) (hi : st.ev i = .d (.v (.int .i64 z))) (hk : z = k) (hr : rows[k]? = some r) : Pu P st o (.d (.fp r)) := Pu_q fun B M ρ w a h2 _ => by
  have m : x ∈ opsOf o ∧ i ∈ opsOf o := by simp [opsOf, ho, Op.operands]
  obtain ⟨e2, _⟩ := ev_v h2 m.2 hi
  have hm := h2 x m.1
  rw [hx] at hm
  have hlt : k < rows.length := (List.getElem?_eq_some_iff.1 hr).1
  generalize hy : a.eval x = y at hm
  cases hm with
  | nil n a c => simp at hr
  | sl n rows b o' cap f hl hcap hn hc hrr =>
    refine ⟨.pointer (some ⟨b, o' + k * n, none⟩), ?_, .fp r b (o' + k * n) (f k) (fun j a ha => hc k r j a hr ha) (fun j a ha => hrr k r j a hr ha)⟩
    subst hk
    simp only [execOp, ho, hy, e2, Instr.indexAt, Sem.run_bind, asIntOf, Sem.run_pure, Result.andThen_ok, run_underlying ht]
    rw [if_pos ⟨by omega, by omega⟩]
    simp only [Sem.run_bind, hz, Result.andThen_ok, Int.toNat_natCast, add_addr, Sem.run_pure]
/-- A field of what lies at a place that is not written. -/
theorem Pu_field {t : TypeId} {x : Operand} {i : Nat} {fs : Array Field} {fd : Field} {n : Nat} {cs : List AV} (off : Nat) (ho : o.op = .fieldAddr t x i) (ht : P.underlying t = some (.struct fs)) (hf : fs[i]? = some fd) (hoff : fd.offset = off) (hz : ∀ w, (sizeOf fd.type).run P w = .ok (n + 1) w) (hx : st.ev x = .d (.fp cs)) : Pu P st o (.d (.fp (cs.drop off))) := Pu_q fun B M ρ w a h2 _ => by
  subst hoff
  have hm := h2 x (by simp [opsOf, ho, Op.operands])
  rw [hx] at hm
  generalize hy : a.eval x = y at hm
  cases hm with
  | fp cs b o' f hc hr =>
    refine ⟨.pointer (some ⟨b, o' + fd.offset, none⟩), ?_, .fp _ b (o' + fd.offset) (fun j => f (fd.offset + j)) (fun j a ha => ?_) (fun j a ha => ?_)⟩
    · simp only [execOp, ho, hy, Instr.fieldAt, Sem.run_bind, run_underlying ht, Result.andThen_ok, hf, Instr.sureAddr, Sem.run_pure, fieldPlace, hz]
      rw [if_neg (by omega)]
      simp [add_addr, Sem.run]
    · rw [List.getElem?_drop] at ha
      have := hc _ a ha
      rw [show o' + fd.offset + j = o' + (fd.offset + j) from by omega]
      exact this
    · rw [List.getElem?_drop] at ha
      exact hr _ a ha
theorem Pu_load1 {t : TypeId} {x : Operand} {c : AV} {cs : List AV} (ho : o.op = .load t x) (ht : ∀ w, (isAgg t).run P w = .ok false w) (hx : st.ev x = .d (.fp cs)) (hc : cs[0]? = some c) : Pu P st o (.d c) := Pu_q fun B M ρ w a h2 _ => by
  have hm := h2 x (by simp [opsOf, ho, Op.operands])
  rw [hx] at hm
  generalize hy : a.eval x = y at hm
  cases hm with
  | fp cs b o' f hcc hr =>
    obtain ⟨_, h5, _⟩ := hcc 0 c hc
    rw [Nat.add_zero] at h5
    exact ⟨f 0, by simp [execOp, ho, hy, Instr.loadAt, Instr.sureAddr, loadVar, ht, load, Sem.run, h5, Sem.run_bind], hr 0 c hc⟩
theorem run_cells {w : World} {b : Nat} : ∀ (n : Nat) (o i : Nat) (f : Nat → Value) (acc : Array Value), (∀ j, j < n → w.cell? ⟨b, o + (i + j), none⟩ = some (f (i + j))) → (loadCellsFrom ⟨b, o, none⟩ i n acc).run P w = .ok (acc ++ ((List.range n).map fun j => f (i + j)).toArray) w
  | 0, o, i, f, acc, _ => by simp [loadCellsFrom, Sem.run]
  | n + 1, o, i, f, acc, h => by
    have h0 := h 0 (by omega)
    rw [Nat.add_zero] at h0
    simp only [loadCellsFrom, Sem.run_bind, load, Sem.run, add_addr, h0, Result.andThen_ok]
    rw [run_cells n o (i + 1) f (acc.push (f i)) (fun j hj => by have := h (j + 1) (by omega); rwa [show i + (j + 1) = i + 1 + j from by omega] at this)]
    rw [List.range_succ_eq_map]
    simp [Function.comp_def, Nat.add_assoc, Nat.add_comm 1]
theorem Pu_loadN {t : TypeId} {x : Operand} {n : Nat} {cs : List AV} (ho : o.op = .load t x) (ht : ∀ w, (isAgg t).run P w = .ok true w) (hz : ∀ w, (sizeOf t).run P w = .ok n w) (hx : st.ev x = .d (.fp cs)) (hn : n ≤ cs.length) : Pu P st o (.d (.row (cs.take n))) := Pu_q fun B M ρ w a h2 _ => by
  have hm := h2 x (by simp [opsOf, ho, Op.operands])
  rw [hx] at hm
  generalize hy : a.eval x = y at hm
  cases hm with
  | fp cs b o' f hcc hr =>
    have hcell : ∀ j, j < n → ∃ c, cs[j]? = some c := fun j hj => ⟨cs[j]'(by omega), by simp [show j < cs.length by omega]⟩
    have h1 := run_cells (P := P) (w := w) (b := b) n o' 0 f #[] (fun j hj => by
      obtain ⟨c, hc⟩ := hcell j hj
      rw [Nat.zero_add]
      exact (hcc j c hc).2.1)
    refine ⟨.agg ((List.range n).map f).toArray, ?_, .row _ _ (by simp; omega) (fun x hx => ?_) (fun j a x h3 h4 => ?_)⟩
    · simp only [execOp, ho, hy, Instr.loadAt, Instr.sureAddr, loadVar, Sem.run_bind, Sem.run_pure, Result.andThen_ok, ht, hz, loadCells, if_true, h1]
      simp
    · simp only [List.mem_map, List.mem_range] at hx
      obtain ⟨j, hj, rfl⟩ := hx
      obtain ⟨c, hc⟩ := hcell j hj
      exact (hcc j c hc).2.2
    · rw [List.getElem?_take] at h3
      split at h3
      · rename_i hj
        simp only [List.getElem?_map, List.getElem?_range hj, Option.map_some, Option.some.injEq] at h4
        subst h4
        exact hr j a h3
      · cases h3
theorem cell_new (w : World) (cs : Array Value) (t : TypeId) (fr : Nat × Nat) (j : Nat) : (w.alloc (.cells cs t fr)).cell? ⟨w.heap.size, j, none⟩ = cs[j]? := by
  unfold World.cell?
  rw [heap_alloc_new]
  rfl
/-- A variable that is never written again. -/
theorem Pu_box1 {t : TypeId} {x : Operand} {c : AV} (ho : o.op = .box t x) (hx : st.ev x = .d c) (hc : ∀ cs, c ≠ .row cs) (hc2 : ∀ cs, c ≠ .tup cs) : Pu P st o (.d (.fp [c])) := Pu_of fun B M ρ w a hM h2 _ => by
  have hm := h2 x (by simp [opsOf, ho, Op.operands])
  rw [hx] at hm
  have h1 : (a.eval x).cells = #[a.eval x] ∧ (a.eval x).oneCell' = true := by
    generalize a.eval x = y at hm
    cases hm with
    | v _ h => exact ⟨by cases y <;> first | rfl | (simp [vok] at h), h.one⟩
    | any _ h => exact ⟨by cases y <;> first | rfl | (simp [Value.oneCell'] at h), h⟩
    | row cs vs hl h1 hr => exact (hc _ rfl).elim
    | tup cs vs hl hr => exact (hc2 _ rfl).elim
    | _ => exact ⟨rfl, rfl⟩
  have hE : Ev.Ext w (w.alloc (.cells #[a.eval x] t)) := (Below.refl _ _).alloc (Nat.le_refl _) _
  refine ⟨.pointer (some ⟨w.heap.size, 0, none⟩), w.alloc (.cells #[a.eval x] t), ?_, hE, .fp [c] w.heap.size 0 (fun _ => a.eval x) (fun j b hb => ?_) (fun j b hb => ?_)⟩
  · simp [execOp, ho, Instr.box, newVar, newRow, newObj, h1.1, Sem.run, Sem.run_bind]
  · have : j = 0 ∧ b = c := by cases j with
      | zero => simp at hb; exact ⟨rfl, hb.symm⟩
      | succ j => simp at hb
    obtain ⟨rfl, rfl⟩ := this
    exact ⟨fun h => by have := hM _ h; omega, by rw [cell_new]; rfl, h1.2⟩
  · have : b = c := by cases j with
      | zero => simp at hb; exact hb.symm
      | succ j => simp at hb
    subst this
    exact hm.ext hE
theorem Pu_boxN {t : TypeId} {x : Operand} {cs : List AV} (ho : o.op = .box t x) (hx : st.ev x = .d (.row cs)) : Pu P st o (.d (.fp cs)) := Pu_of fun B M ρ w a hM h2 _ => by
  have hm := h2 x (by simp [opsOf, ho, Op.operands])
  rw [hx] at hm
  generalize hy : a.eval x = y at hm
  cases hm with
  | row cs vs hl h1 hr =>
    have hE : Ev.Ext w (w.alloc (.cells vs.toArray t)) := (Below.refl _ _).alloc (Nat.le_refl _) _
    refine ⟨.pointer (some ⟨w.heap.size, 0, none⟩), w.alloc (.cells vs.toArray t), ?_, hE, .fp cs w.heap.size 0 (fun j => vs.getD j undef) (fun j b hb => ?_) (fun j b hb => ?_)⟩
    · simp [execOp, ho, hy, Instr.box, newVar, newRow, newObj, Value.cells, Sem.run, Sem.run_bind]
    · have hj : j < vs.length := by rw [hl]; exact (List.getElem?_eq_some_iff.1 hb).1
      have e : vs.getD j undef = vs[j] := by simp [List.getD_eq_getElem?_getD, hj]
      rw [e]
      exact ⟨fun h => by have := hM _ h; omega, by rw [cell_new]; simp [hj], h1 _ (List.getElem_mem hj)⟩
    · have hj : j < vs.length := by rw [hl]; exact (List.getElem?_eq_some_iff.1 hb).1
      have e : vs.getD j undef = vs[j] := by simp [List.getD_eq_getElem?_getD, hj]
      rw [e]
      exact (hr j b _ hb (by simp [hj])).ext hE
theorem Pu_extract {x : Operand} {i : Nat} {aa : List AV} {b : AV} (ho : o.op = .extract x i) (hx : st.ev x = .d (.tup aa)) (hb : aa[i]? = some b) : Pu P st o (.d b) := Pu_q fun B M ρ w a h2 _ => by
  have hm := h2 x (by simp [opsOf, ho, Op.operands])
  rw [hx] at hm
  generalize hy : a.eval x = y at hm
  cases hm with
  | tup cs vs hl hr =>
    have hj : i < vs.length := by rw [hl]; exact (List.getElem?_eq_some_iff.1 hb).1
    exact ⟨vs[i], by simp [execOp, ho, hy, Instr.extract, hj, Sem.run], hr i b _ hb (by simp [hj])⟩
/-! ### calls -/
def ArgsOk (st : ASt) : List Operand → List AV → Prop
  | [], [] => True
  | x :: xs, a :: aa => Sub (st.ev x) (.d a) ∧ ArgsOk st xs aa
  | _, _ => False
theorem ArgsOk.rep {M : Nat → Prop} {w : World} {ρ : Rho} {a : Act} : ∀ {xs : List Operand} {aa : List AV}, ArgsOk st xs aa → (∀ x ∈ xs, SRep M w ρ (st.ev x) (a.eval x)) → AllRep M w aa (xs.map a.eval)
  | [], [], _, _ => ⟨rfl, fun j a x h => by simp at h⟩
  | x :: xs, b :: aa, h, hs => by
    have ih := ArgsOk.rep (a := a) h.2 fun y hy => hs y (by simp [hy])
    refine ⟨by simp [ih.1], fun j c y h1 h2 => ?_⟩
    cases j with
    | zero =>
      simp at h1 h2
      subst h1 h2
      exact h.1 _ _ _ _ (hs x (by simp))
    | succ j => exact ih.2 j c y (by simpa using h1) (by simpa using h2)
  | [], _ :: _, h, _ => h.elim
  | _ :: _, [], h, _ => h.elim
theorem Pu_call {f : FuncId} {xs : Array Operand} {ts : Array TypeId} {aa : List AV} {res : AV} (hc : ACall P f aa res) (ho : o.op = .call ⟨.value (.func f), xs, ts⟩) (ha : ArgsOk st xs.toList aa) : Pu P st o (.d res) := fun B M ρ w a hM h2 h3 hev K hK => by
  have h4 := ha.rep (a := a) fun x hx => h2 x (mem_call ho x (by simpa using hx))
  have h5 := hc.2 M w _ hM h4
  have e : (execOp a.eval o).run P w = .ok (.enter f (xs.toList.map a.eval).toArray) w := by
    simp only [execOp, ho, resolve, Act.eval, Deferred.ofValue, invoke, Sem.run_bind, Sem.run_pure, Result.andThen_ok]
    rw [hc.1]
    congr 2
    apply Array.ext'
    simp
  rw [e]
  exact h5.mono fun e w' ⟨v, h6, h7, h8⟩ => ⟨v, h6, hK v w' (Kn.ext h7) h8⟩
/-- A call of a function that lies in a slot. -/
theorem Pu_callv {f : FuncId} {y : Operand} {xs : Array Operand} {ts : Array TypeId} {caps aa : List AV} {res : AV} (hc : ACall P f (aa ++ caps) res) (ho : o.op = .call ⟨.value y, xs, ts⟩) (hy : st.ev y = .d (.fn f caps)) (ha : ArgsOk st xs.toList aa) : Pu P st o (.d res) := fun B M ρ w a hM h2 h3 hev K hK => by
  have h4 := ha.rep (a := a) fun x hx => h2 x (mem_call ho x (by simpa using hx))
  have hm := h2 y (by simp [opsOf, ho, Op.operands, Call.operands])
  rw [hy] at hm
  generalize hyy : a.eval y = u at hm
  cases hm with
  | fn f cs vs hl hr =>
    have h5 := hc.2 M w (xs.toList.map a.eval ++ vs) hM ⟨by simp [hl]; have := h4.1; simp at this; omega, fun j b x h6 h7 => by
      have hlen := h4.1
      rcases Nat.lt_or_ge j aa.length with h | h
      · rw [List.getElem?_append_left h] at h6
        rw [List.getElem?_append_left (by omega)] at h7
        exact h4.2 j b x h6 h7
      · rw [List.getElem?_append_right h] at h6
        rw [List.getElem?_append_right (by omega), hlen] at h7
        exact hr _ b x h6 h7⟩
    have e : (execOp a.eval o).run P w = .ok (.enter f (xs.toList.map a.eval ++ vs).toArray) w := by
      simp only [execOp, ho, resolve, hyy, Deferred.ofValue, invoke, Sem.run_bind, Sem.run_pure, Result.andThen_ok]
      rw [hc.1]
      simp
    rw [e]
    exact h5.mono fun e w' ⟨v, h6, h7, h8⟩ => ⟨v, h6, hK v w' (Kn.ext h7) h8⟩
end
end Go.Proofs.Ytmbaeloiepjakaa.A
namespace Go.Proofs.Ytmbaeloiepjakaa.A
open Go Go.RowKit
section
variable {P : Program} {st : ASt} {o : Oper}
/-! ### building -/
def Cells (M : Nat → Prop) (w : World) (aa : List AV) (vs : List Value) : Prop := vs.length = aa.length ∧ ∀ (j : Nat) (a : AV) (x : Value), aa[j]? = some a → vs[j]? = some x → Rep M w a x ∧ x.oneCell' = true
def cellsA : AV → List AV
  | .row cs => cs
  | a => [a]
def cellB : AV → Bool
  | .tup _ => false
  | _ => true
theorem Rep.cells {M : Nat → Prop} {w : World} {a : AV} {x : Value} (h : Rep M w a x) (hb : cellB a = true) : Cells M w (cellsA a) x.cells.toList := by
  have one : ∀ (a : AV) (x : Value), Rep M w a x → x.oneCell' = true → cellsA a = [a] → Cells M w (cellsA a) x.cells.toList := fun a x h1 h2 h3 => by
    have hx : x.cells = #[x] := by cases x <;> first | rfl | (simp [Value.oneCell'] at h2)
    rw [hx, h3]
    refine ⟨rfl, fun j a' x' h4 h5 => ?_⟩
    cases j with
    | zero => simp at h4 h5; subst h4 h5; exact ⟨h1, h2⟩
    | succ j => simp at h4
  cases h with
  | any x h => exact one _ _ (.any x h) h rfl
  | v x h => exact one _ _ (.v x h) h.one rfl
  | nil n a c => exact one _ _ (.nil n a c) rfl rfl
  | sl n rows b o cap f hl hcap hn hc hr => exact one _ _ (.sl n rows b o cap f hl hcap hn hc hr) rfl rfl
  | row cs vs hl h1 hr => exact ⟨by simpa [Value.cells, cellsA] using hl, fun j a x h2 h3 => ⟨hr j a x h2 (by simpa [Value.cells] using h3), h1 x (by
      have : vs[j]? = some x := by simpa [Value.cells] using h3
      exact List.mem_of_getElem? this)⟩⟩
  | fp cs b o f hc hr => exact one _ _ (.fp cs b o f hc hr) rfl rfl
  | fn f cs vs hl hr => exact one _ _ (.fn f cs vs hl hr) rfl rfl
  | tup cs vs hl hr => cases hb
theorem Cells.ext {M : Nat → Prop} {w w' : World} {aa : List AV} {vs : List Value} (h : Cells M w aa vs) (he : Ev.Ext w w') : Cells M w' aa vs := ⟨h.1, fun j a x h1 h2 => ⟨(h.2 j a x h1 h2).1.ext he, (h.2 j a x h1 h2).2⟩⟩
theorem Cells.row {M : Nat → Prop} {w : World} {aa : List AV} {vs : List Value} (h : Cells M w aa vs) : Rep M w (.row aa) (.agg vs.toArray) := .row aa vs h.1 (fun x hx => by
  obtain ⟨j, hj, rfl⟩ := List.getElem_of_mem hx
  have hja : j < aa.length := by rw [← h.1]; exact hj
  exact (h.2 j aa[j] _ (by simp [hja]) (by simp [hj])).2) fun j a x h1 h2 => (h.2 j a x h1 h2).1
theorem Cells.append {M : Nat → Prop} {w : World} {aa bs : List AV} {vs us : List Value} (h : Cells M w aa vs) (k : Cells M w bs us) : Cells M w (aa ++ bs) (vs ++ us) := ⟨by simp [h.1, k.1], fun j a x h1 h2 => by
  rcases Nat.lt_or_ge j aa.length with hj | hj
  · rw [List.getElem?_append_left hj] at h1
    rw [List.getElem?_append_left (by rw [h.1]; exact hj)] at h2
    exact h.2 j a x h1 h2
  · rw [List.getElem?_append_right hj] at h1
    rw [List.getElem?_append_right (by rw [h.1]; exact hj), h.1] at h2
    exact k.2 _ a x h1 h2⟩
theorem Cells.take {M : Nat → Prop} {w : World} {aa : List AV} {vs : List Value} (h : Cells M w aa vs) (n : Nat) : Cells M w (aa.take n) (vs.take n) := ⟨by simp [h.1], fun j a x h1 h2 => by
  rw [List.getElem?_take] at h1 h2
  split at h1
  · rename_i hj
    rw [if_pos hj] at h2
    exact h.2 j a x h1 h2
  · cases h1⟩
theorem Cells.drop {M : Nat → Prop} {w : World} {aa : List AV} {vs : List Value} (h : Cells M w aa vs) (n : Nat) : Cells M w (aa.drop n) (vs.drop n) := ⟨by simp [h.1], fun j a x h1 h2 => by
  rw [List.getElem?_drop] at h1 h2
  exact h.2 _ a x h1 h2⟩
theorem fold_splice (off : Nat) : ∀ (l : List Value) (k : Nat) (cells : Array Value), off + k + l.length ≤ cells.size →
    (((l.zipIdx k).foldl (fun cs (p : Value × Nat) => cs.setIfInBounds (off + p.2) p.1) cells).toList = cells.toList.take (off + k) ++ l ++ cells.toList.drop (off + k + l.length))
  | [], k, cells, h => by simp
  | c :: l, k, cells, h => by
    simp only [List.length_cons] at h
    have h1 := fold_splice off l (k + 1) (cells.setIfInBounds (off + k) c) (by simp; omega)
    rw [List.zipIdx_cons, List.foldl_cons, h1]
    have hlt : off + k < cells.toList.length := by simp; omega
    simp only [Array.toList_setIfInBounds, List.length_cons]
    have e1 : (cells.toList.set (off + k) c).take (off + (k + 1)) = cells.toList.take (off + k) ++ [c] := by
      rw [show off + (k + 1) = off + k + 1 from by omega, List.take_succ_eq_append_getElem (by simpa using hlt)]
      rw [List.getElem_set_self, List.take_set_of_le (Nat.le_refl _)]
    have e2 : (cells.toList.set (off + k) c).drop (off + (k + 1) + l.length) = cells.toList.drop (off + k + (l.length + 1)) := by
      rw [List.drop_set_of_lt (by omega)]
      congr 1; omega
    rw [e1, e2]
    simp
/-- Parts that are laid at their places. -/
def fillA (place : Nat → Option (Nat × Nat)) (cells : List AV) : List (Nat × AV) → Option (List AV)
  | [] => some cells
  | (i, a) :: rest => match place i with
    | none => none
    | some (off, size) => if (cellsA a).length ≠ size || off + (cellsA a).length > cells.length then none else fillA place (cells.take off ++ cellsA a ++ cells.drop (off + (cellsA a).length)) rest
def PartsOk (st : ASt) : List (Nat × Operand) → List (Nat × AV) → Prop
  | [], [] => True
  | (i, x) :: xs, (j, a) :: aa => i = j ∧ st.ev x = .d a ∧ cellB a = true ∧ PartsOk st xs aa
  | _, _ => False
theorem run_fill {M : Nat → Prop} {w : World} {ρ : Rho} {a : Act} (place : Nat → Option (Nat × Nat)) : ∀ (ps : List (Nat × Operand)) (aa : List (Nat × AV)) (cs r : List AV) (vs : Array Value), PartsOk st ps aa → (∀ p ∈ ps, SRep M w ρ (st.ev p.2) (a.eval p.2)) → Cells M w cs vs.toList → fillA place cs aa = some r →
    ∃ us : Array Value, Instr.fill place vs (ps.map fun (i, x) => (i, a.eval x)) = some us ∧ Cells M w r us.toList
  | [], [], cs, r, vs, _, _, hc, hr => by simp only [fillA, Option.some.injEq] at hr; subst hr; exact ⟨vs, rfl, hc⟩
  | (i, x) :: ps, (j, b) :: aa, cs, r, vs, hp, hs, hc, hr => by
    obtain ⟨rfl, hx, hb, hp⟩ := hp
    have h1 := hs (i, x) (by simp)
    simp only [hx] at h1
    have h2 := Rep.cells h1 hb
    simp only [fillA] at hr
    simp only [List.map_cons, Instr.fill]
    cases hpl : place i with
    | none => rw [hpl] at hr; cases hr
    | some p =>
      obtain ⟨off, size⟩ := p
      rw [hpl] at hr
      simp only at hr ⊢
      split at hr
      · cases hr
      · rename_i hn
        simp only [Bool.or_eq_true, decide_eq_true_eq, not_or, Nat.not_lt] at hn
        obtain ⟨h3, h4⟩ := hn
        have hl1 : (a.eval x).cells.size = (cellsA b).length := by rw [← h2.1]; simp
        have hl2 : vs.size = cs.length := by rw [← hc.1]; simp
        have h3' : (cellsA b).length = size := by simpa using h3
        rw [if_neg (by simp only [Bool.or_eq_true, decide_eq_true_eq, not_or, Nat.not_lt]; exact ⟨by simp; omega, by omega⟩)]
        refine run_fill place ps aa _ r _ hp (fun p hp' => hs p (by simp [hp'])) ?_ hr
        have h5 := fold_splice off (a.eval x).cells.toList 0 vs (by simp; omega)
        have e : (Array.foldl (fun cs (p : Value × Nat) => cs.setIfInBounds (off + p.2) p.1) vs (a.eval x).cells.zipIdx).toList = vs.toList.take off ++ (a.eval x).cells.toList ++ vs.toList.drop (off + (cellsA b).length) := by
          rw [← Array.foldl_toList, Array.toList_zipIdx, h5]
          simp [hl1]
        have e' : (Array.foldl (fun cs (x : Value × Nat) => match x with | (c, j) => cs.setIfInBounds (off + j) c) vs (a.eval x).cells.zipIdx).toList = _ := e
        rw [e']
        exact ((hc.take off).append h2).append (hc.drop _)
  | [], _ :: _, _, _, _, h, _, _, _ => h.elim
  | _ :: _, [], _, _, _, h, _, _, _ => h.elim
theorem cells_v {M : Nat → Prop} {w : World} {zs : List Value} (h : zs.all (fun z => decide (vok z)) = true) : Cells M w (zs.map .v) zs := ⟨by simp, fun j a x h1 h2 => by
  rw [List.getElem?_map, h2] at h1
  simp at h1
  subst h1
  have := List.all_eq_true.1 h x (List.mem_of_getElem? h2)
  have hv : vok x := by simpa using this
  exact ⟨.v x hv, hv.one⟩⟩
theorem Pu_build {t : TypeId} {ps : Array (Nat × Operand)} {aa : List (Nat × AV)} {fs : Array Field} {places : Array (Nat × Nat)} {zs : List Value} {r : List AV} (ho : o.op = .build t ps) (ht : P.underlying t = some (.struct fs)) (hz : ∀ w, (zeroValue t).run P w = .ok (.agg zs.toArray) w)
    (hp : ∀ w, (fs.mapM (fun f => do pure (f.offset, ← sizeOf f.type)) : Sem (Array (Nat × Nat))).run P w = .ok places w) (hv : zs.all (fun z => decide (vok z)) = true) (ha : PartsOk st ps.toList aa) (hr : fillA (places[·]?) (zs.map .v) aa = some r) : Pu P st o (.d (.row r)) := Pu_q fun B M ρ w a h2 _ => by
  obtain ⟨us, h3, h4⟩ := run_fill (M := M) (w := w) (ρ := ρ) (a := a) (places[·]?) ps.toList aa _ r zs.toArray ha (fun p hp => h2 p.2 (by
    simp only [opsOf, ho, Op.operands]
    exact List.mem_map.2 ⟨p, hp, rfl⟩)) (cells_v hv) hr
  refine ⟨.agg us, ?_, h4.row⟩
  have e : (ps.map fun (p : Nat × Operand) => (p.1, a.eval p.2)).toList = ps.toList.map fun (i, x) => (i, a.eval x) := by simp
  simp only [execOp, ho, Instr.build, Sem.run_bind, hz, Result.andThen_ok, run_underlying ht, hp, Value.cells]
  rw [e]
  simp only [h3, Sem.run_pure, Sem.run_bind, Result.andThen_ok]
theorem flat_get {n : Nat} : ∀ (rows : List (List AV)) (i j : Nat) (r : List AV) (x : AV), (∀ r ∈ rows, r.length = n) → rows[i]? = some r → r[j]? = some x → rows.flatten[i * n + j]? = some x
  | [], _, _, _, _, _, h, _ => by simp at h
  | q :: rest, 0, j, r, x, hn, h, hx => by
    simp at h
    subst h
    have : j < q.length := (List.getElem?_eq_some_iff.1 hx).1
    simp only [List.flatten_cons, Nat.zero_mul, Nat.zero_add]
    rw [List.getElem?_append_left this]; exact hx
  | q :: rest, i + 1, j, r, x, hn, h, hx => by
    have hq := hn q (by simp)
    have := flat_get rest i j r x (fun r hr => hn r (by simp [hr])) (by simpa using h) hx
    simp only [List.flatten_cons]
    rw [List.getElem?_append_right (by rw [hq, Nat.add_mul]; omega), hq, show (i + 1) * n + j - n = i * n + j from by rw [Nat.add_mul]; omega]
    exact this
theorem flat_len {n : Nat} {rows : List (List AV)} (h : ∀ r ∈ rows, r.length = n) : rows.flatten.length = rows.length * n := by
  induction rows with
  | nil => simp
  | cons q r ih =>
    have h1 := h q (by simp)
    have h2 := ih fun x hx => h x (by simp [hx])
    simp only [List.flatten_cons, List.length_append, List.length_cons, h1, h2, Nat.add_mul]
    omega
/-- A block of cells, read as elements. -/
theorem Cells.sl {M : Nat → Prop} {w : World} {n b cap : Nat} {rows : List (List AV)} {us : Array Value} {T : TypeId} {fr : Nat × Nat} (h : Cells M w rows.flatten us.toList) (hn : ∀ r ∈ rows, r.length = n) (hl : rows.length ≤ maxI) (hcap : rows.length ≤ cap) (hb : w.heap[b]? = some (.cells us T fr)) (hM : ¬ M b) : Rep M w (.sl n rows) (.slice (some ⟨b, 0, none⟩) rows.length cap) := by
  have key : ∀ (i : Nat) (r : List AV) (j : Nat) (a : AV), rows[i]? = some r → r[j]? = some a → ∃ x, us[i * n + j]? = some x ∧ Rep M w a x ∧ x.oneCell' = true := fun i r j a h1 h2 => by
    have h3 := flat_get rows i j r a hn h1 h2
    have h4 : i * n + j < us.toList.length := by rw [h.1]; exact (List.getElem?_eq_some_iff.1 h3).1
    have h5 : us.toList[i * n + j]? = some us.toList[i * n + j] := by simp [h4]
    exact ⟨_, by rw [← Array.getElem?_toList]; exact h5, h.2 _ a _ h3 h5⟩
  have gd : ∀ (k : Nat) (x : Value), us[k]? = some x → us.getD k undef = x := fun k x hk => by simp [Array.getD_eq_getD_getElem?, hk]
  refine .sl n rows b 0 cap (fun i j => us.getD (i * n + j) undef) hl hcap (fun i r hr => hn r (List.mem_of_getElem? hr)) (fun i r j a h1 h2 => ?_) (fun i r j a h1 h2 => ?_)
  · obtain ⟨x, h3, h4, h5⟩ := key i r j a h1 h2
    rw [gd _ _ h3]
    exact ⟨hM, by simp [World.cell?, hb, h3], h5⟩
  · obtain ⟨x, h3, h4, h5⟩ := key i r j a h1 h2
    rw [gd _ _ h3]
    exact h4
def zerosA (zs : List Value) (k : Nat) : List AV := (List.range k).map fun i => .v (zs.getD (i % zs.length) undef)
theorem Pu_buildSlice {t e : TypeId} {len n : Nat} {ps : Array (Nat × Operand)} {aa : List (Nat × AV)} {zs : Value} {rows : List (List AV)} (ho : o.op = .buildSlice t len ps) (ht : P.underlying t = some (.slice e)) (hs : ∀ w, (sizeOf e).run P w = .ok n w) (hz : ∀ w, (zeroValue e).run P w = .ok zs w) (hzs : zs.cells.size = n) (hn0 : 0 < n) (hl0 : 0 < len) (hmax : len * n ≤ 16777216)
    (hv : zs.cells.toList.all (fun z => decide (vok z)) = true) (ha : PartsOk st ps.toList aa) (hr : fillA (fun i => some (i * n, n)) (zerosA zs.cells.toList (len * n)) aa = some rows.flatten) (hlen : rows.length = len) (hn : (rows.all fun r => r.length == n) = true) : Pu P st o (.d (.sl n rows)) := Pu_of fun B M ρ w a hM h2 _ => by
  have hzl : zs.cells.toList.length = n := by simpa using hzs
  have hz0 : Cells M w (zerosA zs.cells.toList (len * n)) ((Array.range (len * n)).map (zs.cells[· % zs.cells.size]!)).toList := by
    refine ⟨by simp [zerosA], fun j b x h3 h4 => ?_⟩
    unfold zerosA at h3
    have hj : j < len * n := by
      have := (List.getElem?_eq_some_iff.1 h3).1
      simpa using this
    rw [List.getElem?_map, List.getElem?_range hj] at h3
    simp only [Option.map_some, Option.some.injEq] at h3
    simp only [Array.toList_map, Array.toList_range, List.getElem?_map, List.getElem?_range hj, Option.map_some, Option.some.injEq] at h4
    have hlt : j % n < zs.cells.size := by rw [hzs]; exact Nat.mod_lt _ hn0
    have e1 : zs.cells[j % zs.cells.size]! = zs.cells[j % n] := by rw [hzs]; simp [hlt]
    have e2 : zs.cells.toList.getD (j % zs.cells.toList.length) undef = zs.cells[j % n] := by rw [hzl]; simp [List.getD_eq_getElem?_getD, hlt]
    rw [e1] at h4
    rw [e2] at h3
    subst h3 h4
    have := List.all_eq_true.1 hv zs.cells[j % n] (by simp)
    have hvk : vok zs.cells[j % n] := by simpa using this
    exact ⟨.v _ hvk, hvk.one⟩
  obtain ⟨us, h3, h4⟩ := run_fill (M := M) (w := w) (ρ := ρ) (a := a) (fun i => some (i * n, n)) ps.toList aa _ _ _ ha (fun p hp => h2 p.2 (by
    simp only [opsOf, ho, Op.operands]
    exact List.mem_map.2 ⟨p, hp, rfl⟩)) hz0 hr
  have hE : Ev.Ext w (w.alloc (.cells us e)) := (Below.refl _ _).alloc (Nat.le_refl _) _
  have hn' : ∀ r ∈ rows, r.length = n := fun r hr' => by have := List.all_eq_true.1 hn r hr'; simpa using this
  have hlm : len ≤ len * n := Nat.le_mul_of_pos_right _ hn0
  refine ⟨.slice (some ⟨w.heap.size, 0, none⟩) rows.length len, w.alloc (.cells us e), ?_, hE, (h4.ext hE).sl hn' (by unfold maxI; omega) (by omega) (heap_alloc_new _ _) (fun h => by have := hM _ h; omega)⟩
  have e1 : (ps.map fun (p : Nat × Operand) => (p.1, a.eval p.2)).toList = ps.toList.map fun (i, x) => (i, a.eval x) := by simp
  simp only [execOp, ho, Instr.buildSlice, Sem.run_bind, run_underlying ht, Result.andThen_ok, hs]
  rw [if_neg (by show ¬ _ > 16777216; omega)]
  simp only [Sem.run_bind, Sem.run_pure, Result.andThen_ok]
  rw [if_neg (by intro h; have : 0 < len * n := Nat.mul_pos hl0 hn0; omega)]
  simp only [Sem.run_bind, Sem.run_pure, Result.andThen_ok, hz]
  rw [e1]
  simp only [h3, Sem.run_pure, Sem.run_bind, Result.andThen_ok, newRow, newObj, Sem.run, hlen]
  rfl
end
end Go.Proofs.Ytmbaeloiepjakaa.A
