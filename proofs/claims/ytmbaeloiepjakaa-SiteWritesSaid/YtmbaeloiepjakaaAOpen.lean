/- Arguments of laws, opened over abstract states: by the shape of their type. -/
import Derived.Test.YtmbaeloiepjakaaOpen2
import Derived.Test.YtmbaeloiepjakaaAG
import Derived.OpenShut
set_option linter.unusedSimpArgs false
set_option linter.unusedVariables false
namespace Go.Proofs.Ytmbaeloiepjakaa.A
open Go Go.ChangeShapes Go.WideShapes Go.ChangeAt Go.RowKit Go.Joins Go.Deep R
inductive Shape where
  | i64 | str | boo | unit
  | pair (a b : Shape)
  | stru (s : Shape)
  | sl (n : Nat) (s : Shape)
  | ar (k n : Nat) (s : Shape)
/-- Cells of a shape. -/
def Fits : Shape → List AV → Prop
  | .i64, aa => ∃ x, aa = [iv x]
  | .str, aa => ∃ s, aa = [tv s]
  | .boo, aa => ∃ b, aa = [bv b]
  | .unit, aa => aa = []
  | .pair a b, aa => ∃ l m, aa = l ++ m ∧ Fits a l ∧ Fits b m
  | .stru s, aa => Fits s aa
  | .sl n s, aa => ∃ rows : List (List AV), aa = [.sl n rows] ∧ ∀ r ∈ rows, Fits s r
  | .ar k _ s, aa => ∃ rows : List (List AV), rows.length = k ∧ aa = rows.flatten ∧ ∀ r ∈ rows, Fits s r
/-- A type, or fields from a place on, of a shape. -/
def okG (P : Program) : Shape → (TypeId → Prop) × (List Field → Nat → Nat → Prop)
  | .i64 => (fun t => P.underlying t = some (.int .i64), fun _ _ _ => False)
  | .str => (fun t => P.underlying t = some .string, fun _ _ _ => False)
  | .boo => (fun t => P.underlying t = some .bool, fun _ _ _ => False)
  | .unit => (fun _ => False, fun fs off tot => fs = [] ∧ off = tot)
  | .pair a b => (fun _ => False, fun fs off tot => ∃ f r k, fs = f :: r ∧ f.offset = off ∧ P.cellsOf f.type = k ∧ (okG P a).1 f.type ∧ (okG P b).2 r (off + k) tot)
  | .stru s => (fun t => ∃ fs, P.underlying t = some (.struct fs) ∧ (okG P s).2 fs.toList 0 (P.cellsOf t), fun _ _ _ => False)
  | .sl n s => (fun t => ∃ e, P.underlying t = some (.slice e) ∧ P.cellsOf e = n ∧ 0 < n ∧ (okG P s).1 e, fun _ _ _ => False)
  | .ar k n s => (fun t => ∃ e, P.underlying t = some (.array k e) ∧ P.cellsOf e = n ∧ P.cellsOf t = k * n ∧ (okG P s).1 e, fun _ _ _ => False)
section
variable {H : Type} {enc : TypeId × Value → H} {P : Program} {W : World} {base : Nat} {spare : Nat → Bool} {held : Bool}
abbrev NoM : Nat → Prop := fun _ => False
theorem cell1 {a : AV} {x : Value} (h : Rep NoM W a x) (h1 : x.oneCell' = true) : Cells NoM W [a] [x] := ⟨rfl, fun j b y h2 h3 => by
  cases j with
  | zero => simp at h2 h3; subst h2 h3; exact ⟨h, h1⟩
  | succ j => simp at h2⟩
theorem fits_sl {n : Nat} {s : Shape} {t e : TypeId} {fuel : Nat} {cs : List Value} {x : DataW H × List MemPlace} (ht : P.underlying t = some (.slice e)) (hn : P.cellsOf e = n) (hpos : 0 < n)
    (elem : ∀ (m : Nat) (cs : List Value) (y : DataW H × List MemPlace), DataW.trod enc P W base spare held m e cs = some y → ∃ aa, Fits s aa ∧ Cells NoM W aa cs)
    (h : DataW.trod enc P W base spare held fuel t cs = some x) : ∃ rows : List (List AV), (∀ r ∈ rows, Fits s r) ∧ Cells NoM W [.sl n rows] cs := by
  rcases open_slice ht h with ⟨hcs, _⟩ | ⟨a, len, cap, m, k, D, Pl, hcs, hb, hl, hm, hmm, _, hx⟩
  · subst hcs
    exact ⟨[], (fun r hr => by cases hr), cell1 (.nil _ _ _) rfl⟩
  · subst hcs
    have hlm : len ≤ m := by rw [hmm]; split <;> omega
    have hel : ∀ i, i < len → ∃ (aa : List AV) (cs : List Value), Fits s aa ∧ Cells NoM W aa cs ∧ W.cells? base (a.add (i * n)) n = some cs := fun i hi => by
      obtain ⟨cs', h1, h2⟩ := hx i (by omega)
      rw [hn] at h1
      obtain ⟨aa, ha, hc⟩ := elem k cs' _ h2
      exact ⟨aa, cs', ha, hc, h1⟩
    have hcl : ∀ i, i < len → ∀ cs, W.cells? base (a.add (i * n)) n = some cs → cs.length = n ∧ ∀ j c, cs[j]? = some c → W.cell? ((a.add (i * n)).add j) = some c := fun i hi cs h1 => by
      obtain ⟨_, h2, h3⟩ := World.cells?_some h1
      exact ⟨h2, fun j c hj => by rw [h3 j (by rw [← h2]; exact (List.getElem?_eq_some_iff.1 hj).1)]; exact hj⟩
    by_cases h0 : len = 0
    · subst h0
      exact ⟨[], (fun r hr => by cases hr), cell1 (.nil _ _ _) rfl⟩
    · obtain ⟨b, o, sp⟩ := a
      have hsp : sp = none := by
        obtain ⟨aa, cs, _, hc, h1⟩ := hel 0 (by omega)
        obtain ⟨h2, h3⟩ := hcl 0 (by omega) cs h1
        cases cs with
        | nil => simp at h2; omega
        | cons c t =>
          have := h3 0 c rfl
          have e0 : ((⟨b, o, sp⟩ : Addr).add (0 * n)).add 0 = ⟨b, o, sp⟩ := by simp [Addr.add]
          rw [e0] at this
          exact World.cell?_spot this
      subst hsp
      let rows : List (List AV) := (List.range len).map fun i => if h : i < len then Classical.choose (hel i h) else []
      have hrow : ∀ (i : Nat) (r : List AV), rows[i]? = some r → ∃ h : i < len, r = Classical.choose (hel i h) := fun i r hr => by
        simp only [rows, List.getElem?_map] at hr
        obtain ⟨k, h1, h2⟩ := Option.map_eq_some_iff.1 hr
        have hi : i < len := by
          have := (List.getElem?_eq_some_iff.1 h1).1
          simpa using this
        rw [List.getElem?_range hi] at h1
        cases h1
        rw [dif_pos hi] at h2
        exact ⟨hi, h2.symm⟩
      let f : Nat → Nat → Value := fun i j => if h : i < len then (Classical.choose (Classical.choose_spec (hel i h))).getD j undef else undef
      have hf : ∀ (i : Nat) (r : List AV) (j : Nat) (a' : AV), rows[i]? = some r → r[j]? = some a' → W.cell? ⟨b, o + i * n + j, none⟩ = some (f i j) ∧ (f i j).oneCell' = true ∧ Rep NoM W a' (f i j) := fun i r j a' hr ha => by
        obtain ⟨hi, rfl⟩ := hrow i r hr
        obtain ⟨k1, k2, k3⟩ := Classical.choose_spec (Classical.choose_spec (hel i hi))
        obtain ⟨k4, k5⟩ := hcl i hi _ k3
        have hj : j < (Classical.choose (Classical.choose_spec (hel i hi))).length := by rw [k2.1]; exact (List.getElem?_eq_some_iff.1 ha).1
        have e : f i j = (Classical.choose (Classical.choose_spec (hel i hi))).getD j undef := by show (if h : i < len then _ else _) = _; rw [dif_pos hi]
        have e2 : (Classical.choose (Classical.choose_spec (hel i hi)))[j]? = some (f i j) := by
          rw [e, List.getD_eq_getElem?_getD, List.getElem?_eq_getElem hj]
          rfl
        have k6 := k5 j _ e2
        rw [add_addr, add_addr] at k6
        exact ⟨k6, (k2.2 j a' _ ha e2).2, (k2.2 j a' _ ha e2).1⟩
      have hlen : rows.length = len := by simp [rows]
      refine ⟨rows, fun r hr => ?_, ?_⟩
      · obtain ⟨i, hi, rfl⟩ := List.getElem_of_mem hr
        obtain ⟨h1, h2⟩ := hrow i rows[i] (by simp [hi])
        rw [h2]
        exact (Classical.choose_spec (Classical.choose_spec (hel i h1))).1
      · have := Rep.sl (M := NoM) (w := W) n rows b o cap f (by rw [hlen]; unfold maxLen at hm; unfold A.maxI; omega) (by omega) (fun i r hr => by
          obtain ⟨hi, rfl⟩ := hrow i r hr
          obtain ⟨k1, k2, k3⟩ := Classical.choose_spec (Classical.choose_spec (hel i hi))
          rw [← k2.1]
          exact (hcl i hi _ k3).1) (fun i r j a' hr ha => ⟨fun h => h, (hf i r j a' hr ha).1, (hf i r j a' hr ha).2.1⟩) (fun i r j a' hr ha => (hf i r j a' hr ha).2.2)
        rw [hlen] at this
        exact cell1 this rfl
theorem fits : ∀ (sh : Shape), (∀ (t : TypeId) (fuel : Nat) (cs : List Value) (x : DataW H × List MemPlace), (okG P sh).1 t → DataW.trod enc P W base spare held fuel t cs = some x → ∃ aa, Fits sh aa ∧ Cells NoM W aa cs) ∧
    (∀ (fs : List Field) (off tot n : Nat) (cs : List Value), (okG P sh).2 fs off tot → cs.length = tot → (∀ (f : Field), f ∈ fs → ∃ x, DataW.trod enc P W base spare held n f.type ((cs.drop f.offset).take (P.cellsOf f.type)) = some x) → ∃ aa, Fits sh aa ∧ Cells NoM W aa (cs.drop off))
  | .i64 => ⟨fun t fuel cs x ht h => by
      obtain ⟨n, rfl, _, hw⟩ := DataW.trod_int ht h
      refine ⟨_, ⟨n, rfl⟩, cell1 (.v _ ?_) rfl⟩
      simp [Lit.wf, IntKind.min, IntKind.max, IntKind.signed, IntKind.bits] at hw
      exact ⟨by omega, by omega⟩, fun _ _ _ _ _ h => h.elim⟩
  | .str => ⟨fun t fuel cs x ht h => by
      obtain ⟨s, rfl, _, hw⟩ := DataW.trod_string ht h
      exact ⟨_, ⟨s, rfl⟩, cell1 (.v _ (by unfold maxLen at hw; show s.size ≤ maxI; omega)) rfl⟩, fun _ _ _ _ _ h => h.elim⟩
  | .boo => ⟨fun t fuel cs x ht h => by
      obtain ⟨b, rfl, _⟩ := DataW.trod_bool ht h
      exact ⟨_, ⟨b, rfl⟩, cell1 (.v _ trivial) rfl⟩, fun _ _ _ _ _ h => h.elim⟩
  | .unit => ⟨fun _ _ _ _ h => h.elim, fun fs off tot n cs h hl _ => by
      obtain ⟨_, rfl⟩ := h
      exact ⟨[], rfl, by rw [List.drop_eq_nil_of_le (by omega)]; exact ⟨rfl, fun j a x h => by simp at h⟩⟩⟩
  | .pair a b => ⟨fun _ _ _ _ h => h.elim, fun fs off tot n cs h hl hel => by
      obtain ⟨f, r, k, rfl, rfl, rfl, h1, h2⟩ := h
      obtain ⟨x, hx⟩ := hel f (by simp)
      obtain ⟨l, hl1, hl2⟩ := (fits a).1 f.type n _ x h1 hx
      obtain ⟨m, hm1, hm2⟩ := (fits b).2 r _ tot n cs h2 hl (fun f hf => hel f (by simp [hf]))
      refine ⟨l ++ m, ⟨l, m, rfl, hl1, hm1⟩, ?_⟩
      have e : cs.drop f.offset = (cs.drop f.offset).take (P.cellsOf f.type) ++ cs.drop (f.offset + P.cellsOf f.type) := by
        rw [← List.drop_drop, List.take_append_drop]
      rw [e]
      exact hl2.append hm2⟩
  | .stru s => ⟨fun t fuel cs x ht h => by
      obtain ⟨fs, h1, h2⟩ := ht
      obtain ⟨xs, n, _, _, hl, hsz, hel⟩ := DataW.trod_struct h1 h
      obtain ⟨aa, h3, h4⟩ := (fits s).2 fs.toList 0 _ n cs h2 hl (fun f hf => by
        obtain ⟨i, hi, rfl⟩ := List.getElem_of_mem hf
        have hi' : i < fs.size := by simpa using hi
        have := hel i fs[i] (by simp [hi'])
        have hx : i < xs.length := by omega
        exact ⟨xs[i], by simpa [hx] using this⟩)
      exact ⟨aa, h3, by simpa using h4⟩, fun _ _ _ _ _ h => h.elim⟩
  | .sl n s => ⟨fun t fuel cs x ht h => by
      obtain ⟨e, h1, h2, h3, h4⟩ := ht
      obtain ⟨rows, h5, h6⟩ := fits_sl (s := s) h1 h2 h3 (fun m cs y hy => (fits s).1 e m cs y h4 hy) h
      exact ⟨_, ⟨rows, rfl, h5⟩, h6⟩, fun _ _ _ _ _ h => h.elim⟩
  | .ar k n s => ⟨fun t fuel cs x ht h => by
      obtain ⟨e, h1, h2, h3, h4⟩ := ht
      obtain ⟨xs, m, _, _, hl, hsz, hel⟩ := DataW.trod_array h1 h
      rw [h2] at hel
      rw [h3] at hl
      have key : ∀ j, j ≤ k → ∃ rows : List (List AV), rows.length = j ∧ (∀ r ∈ rows, Fits s r) ∧ Cells NoM W rows.flatten (cs.take (j * n)) := by
        intro j
        induction j with
        | zero => intro _; exact ⟨[], rfl, (fun r hr => by cases hr), by rw [Nat.zero_mul]; exact ⟨rfl, fun j a x h => by simp at h⟩⟩
        | succ j ih =>
          intro hj
          obtain ⟨rows, r1, r2, r3⟩ := ih (by omega)
          have hx : j < xs.length := by omega
          have hj2 := hel j (by omega)
          rw [List.getElem?_eq_getElem hx] at hj2
          obtain ⟨aa, a1, a2⟩ := (fits s).1 e m _ _ h4 hj2
          refine ⟨rows ++ [aa], by simp [r1], fun r hr => ?_, ?_⟩
          · rcases List.mem_append.1 hr with h | h
            · exact r2 r h
            · rw [List.mem_singleton.1 h]; exact a1
          · rw [List.flatten_append, show [aa].flatten = aa from by simp, Nat.add_mul, Nat.one_mul, List.take_add]
            exact r3.append a2
      obtain ⟨rows, r1, r2, r3⟩ := key k (Nat.le_refl _)
      rw [← hl, List.take_length] at r3
      exact ⟨_, ⟨rows, r1, rfl, r2⟩, r3⟩, fun _ _ _ _ _ h => h.elim⟩
end
end Go.Proofs.Ytmbaeloiepjakaa.A
