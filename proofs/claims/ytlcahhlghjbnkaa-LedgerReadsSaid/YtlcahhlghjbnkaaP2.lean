/- What the proofs need in common, laid together (2 of 5): no condition. -/
import Derived.Test.YtlcahhlghjbnkaaP1
import Derived.Test.YtlcahhlghjbnkaaProg
import Derived.OpenShut
import Derived.Maps.OwnSet
import Derived.Maps.RangeWalk
import Derived.Lib.SliceRun
import Derived.WalkKit
import Derived.WalkSpells
import Derived.WalkLawsBesides
import Derived.BigQuiet
import Derived.Deep.QuietTactic
import Derived.Lib.Hide
import Derived.StringKeys
import GoSem.Core.Utf8
import Derived.Laws.RangeAny
import Derived.Laws.Strings
import Derived.Lib.OthersKept
import Derived.Deep.DeepCutAuto
set_option linter.unusedSimpArgs false
set_option linter.unusedVariables false
set_option linter.constructorNameAsVariable false

section
namespace Go.Proofs.Ytlcahhlghjbnkaa.A
open Go Go.ChangeShapes Go.WideShapes Go.ChangeAt Go.RowKit Go.Joins Go.Deep R
inductive Shape where
  | i64 | str | boo | unit
  | pair (a b : Shape)
  | stru (s : Shape)
  | sl (n : Nat) (s : Shape)
  | ar (k n : Nat) (s : Shape)
/-- Cells of a shape. -/
def Fits : Shape → List AV → Prop
  | .i64, aa => ∃ x, aa = [iv x]
  | .str, aa => ∃ s, aa = [tv s]
  | .boo, aa => ∃ b, aa = [bv b]
  | .unit, aa => aa = []
  | .pair a b, aa => ∃ l m, aa = l ++ m ∧ Fits a l ∧ Fits b m
  | .stru s, aa => Fits s aa
  | .sl n s, aa => ∃ rows : List (List AV), aa = [.sl n rows] ∧ ∀ r ∈ rows, Fits s r
  | .ar k _ s, aa => ∃ rows : List (List AV), rows.length = k ∧ aa = rows.flatten ∧ ∀ r ∈ rows, Fits s r
/-- A type, or fields from a place on, of a shape. -/
def okG (P : Program) : Shape → (TypeId → Prop) × (List Field → Nat → Nat → Prop)
  | .i64 => (fun t => P.underlying t = some (.int .i64), fun _ _ _ => False)
  | .str => (fun t => P.underlying t = some .string, fun _ _ _ => False)
  | .boo => (fun t => P.underlying t = some .bool, fun _ _ _ => False)
  | .unit => (fun _ => False, fun fs off tot => fs = [] ∧ off = tot)
  | .pair a b => (fun _ => False, fun fs off tot => ∃ f r k, fs = f :: r ∧ f.offset = off ∧ P.cellsOf f.type = k ∧ (okG P a).1 f.type ∧ (okG P b).2 r (off + k) tot)
  | .stru s => (fun t => ∃ fs, P.underlying t = some (.struct fs) ∧ (okG P s).2 fs.toList 0 (P.cellsOf t), fun _ _ _ => False)
  | .sl n s => (fun t => ∃ e, P.underlying t = some (.slice e) ∧ P.cellsOf e = n ∧ 0 < n ∧ (okG P s).1 e, fun _ _ _ => False)
  | .ar k n s => (fun t => ∃ e, P.underlying t = some (.array k e) ∧ P.cellsOf e = n ∧ P.cellsOf t = k * n ∧ (okG P s).1 e, fun _ _ _ => False)
section
variable {H : Type} {enc : TypeId × Value → H} {P : Program} {W : World} {base : Nat} {spare : Nat → Bool} {held : Bool}
abbrev NoM : Nat → Prop := fun _ => False
theorem cell1 {a : AV} {x : Value} (h : Rep NoM W a x) (h1 : x.oneCell' = true) : Cells NoM W [a] [x] := ⟨rfl, fun j b y h2 h3 => by
  cases j with
  | zero => simp at h2 h3; subst h2 h3; exact ⟨h, h1⟩
  | succ j => simp at h2⟩
theorem fits_sl {n : Nat} {s : Shape} {t e : TypeId} {fuel : Nat} {cs : List Value} {x : DataW H × List MemPlace} (ht : P.underlying t = some (.slice e)) (hn : P.cellsOf e = n) (hpos : 0 < n)
    (elem : ∀ (m : Nat) (cs : List Value) (y : DataW H × List MemPlace), DataW.trod enc P W base spare held m e cs = some y → ∃ aa, Fits s aa ∧ Cells NoM W aa cs)
    (h : DataW.trod enc P W base spare held fuel t cs = some x) : ∃ rows : List (List AV), (∀ r ∈ rows, Fits s r) ∧ Cells NoM W [.sl n rows] cs := by
  rcases open_slice ht h with ⟨hcs, _⟩ | ⟨a, len, cap, m, k, D, Pl, hcs, hb, hl, hm, hmm, _, hx⟩
  · subst hcs
    exact ⟨[], (fun r hr => by cases hr), cell1 (.nil _ _ _) rfl⟩
  · subst hcs
    have hlm : len ≤ m := by rw [hmm]; split <;> omega
    have hel : ∀ i, i < len → ∃ (aa : List AV) (cs : List Value), Fits s aa ∧ Cells NoM W aa cs ∧ W.cells? base (a.add (i * n)) n = some cs := fun i hi => by
      obtain ⟨cs', h1, h2⟩ := hx i (by omega)
      rw [hn] at h1
      obtain ⟨aa, ha, hc⟩ := elem k cs' _ h2
      exact ⟨aa, cs', ha, hc, h1⟩
    have hcl : ∀ i, i < len → ∀ cs, W.cells? base (a.add (i * n)) n = some cs → cs.length = n ∧ ∀ j c, cs[j]? = some c → W.cell? ((a.add (i * n)).add j) = some c := fun i hi cs h1 => by
      obtain ⟨_, h2, h3⟩ := World.cells?_some h1
      exact ⟨h2, fun j c hj => by rw [h3 j (by rw [← h2]; exact (List.getElem?_eq_some_iff.1 hj).1)]; exact hj⟩
    by_cases h0 : len = 0
    · subst h0
      exact ⟨[], (fun r hr => by cases hr), cell1 (.nil _ _ _) rfl⟩
    · obtain ⟨b, o, sp⟩ := a
      have hsp : sp = none := by
        obtain ⟨aa, cs, _, hc, h1⟩ := hel 0 (by omega)
        obtain ⟨h2, h3⟩ := hcl 0 (by omega) cs h1
        cases cs with
        | nil => simp at h2; omega
        | cons c t =>
          have := h3 0 c rfl
          have e0 : ((⟨b, o, sp⟩ : Addr).add (0 * n)).add 0 = ⟨b, o, sp⟩ := by simp [Addr.add]
          rw [e0] at this
          exact World.cell?_spot this
      subst hsp
      let rows : List (List AV) := (List.range len).map fun i => if h : i < len then Classical.choose (hel i h) else []
      have hrow : ∀ (i : Nat) (r : List AV), rows[i]? = some r → ∃ h : i < len, r = Classical.choose (hel i h) := fun i r hr => by
        simp only [rows, List.getElem?_map] at hr
        obtain ⟨k, h1, h2⟩ := Option.map_eq_some_iff.1 hr
        have hi : i < len := by
          have := (List.getElem?_eq_some_iff.1 h1).1
          simpa using this
        rw [List.getElem?_range hi] at h1
        cases h1
        rw [dif_pos hi] at h2
        exact ⟨hi, h2.symm⟩
      let f : Nat → Nat → Value := fun i j => if h : i < len then (Classical.choose (Classical.choose_spec (hel i h))).getD j undef else undef
      have hf : ∀ (i : Nat) (r : List AV) (j : Nat) (a' : AV), rows[i]? = some r → r[j]? = some a' → W.cell? ⟨b, o + i * n + j, none⟩ = some (f i j) ∧ (f i j).oneCell' = true ∧ Rep NoM W a' (f i j) := fun i r j a' hr ha => by
        obtain ⟨hi, rfl⟩ := hrow i r hr
        obtain ⟨k1, k2, k3⟩ := Classical.choose_spec (Classical.choose_spec (hel i hi))
        obtain ⟨k4, k5⟩ := hcl i hi _ k3
        have hj : j < (Classical.choose (Classical.choose_spec (hel i hi))).length := by rw [k2.1]; exact (List.getElem?_eq_some_iff.1 ha).1
        have e : f i j = (Classical.choose (Classical.choose_spec (hel i hi))).getD j undef := by show (if h : i < len then _ else _) = _; rw [dif_pos hi]
        have e2 : (Classical.choose (Classical.choose_spec (hel i hi)))[j]? = some (f i j) := by
          rw [e, List.getD_eq_getElem?_getD, List.getElem?_eq_getElem hj]
          rfl
        have k6 := k5 j _ e2
        rw [add_addr, add_addr] at k6
        exact ⟨k6, (k2.2 j a' _ ha e2).2, (k2.2 j a' _ ha e2).1⟩
      have hlen : rows.length = len := by simp [rows]
      refine ⟨rows, fun r hr => ?_, ?_⟩
      · obtain ⟨i, hi, rfl⟩ := List.getElem_of_mem hr
        obtain ⟨h1, h2⟩ := hrow i rows[i] (by simp [hi])
        rw [h2]
        exact (Classical.choose_spec (Classical.choose_spec (hel i h1))).1
      · have := Rep.sl (M := NoM) (w := W) n rows b o cap f (by rw [hlen]; unfold maxLen at hm; unfold A.maxI; omega) (by omega) (fun i r hr => by
          obtain ⟨hi, rfl⟩ := hrow i r hr
          obtain ⟨k1, k2, k3⟩ := Classical.choose_spec (Classical.choose_spec (hel i hi))
          rw [← k2.1]
          exact (hcl i hi _ k3).1) (fun i r j a' hr ha => ⟨fun h => h, (hf i r j a' hr ha).1, (hf i r j a' hr ha).2.1⟩) (fun i r j a' hr ha => (hf i r j a' hr ha).2.2)
        rw [hlen] at this
        exact cell1 this rfl
theorem fits : ∀ (sh : Shape), (∀ (t : TypeId) (fuel : Nat) (cs : List Value) (x : DataW H × List MemPlace), (okG P sh).1 t → DataW.trod enc P W base spare held fuel t cs = some x → ∃ aa, Fits sh aa ∧ Cells NoM W aa cs) ∧
    (∀ (fs : List Field) (off tot n : Nat) (cs : List Value), (okG P sh).2 fs off tot → cs.length = tot → (∀ (f : Field), f ∈ fs → ∃ x, DataW.trod enc P W base spare held n f.type ((cs.drop f.offset).take (P.cellsOf f.type)) = some x) → ∃ aa, Fits sh aa ∧ Cells NoM W aa (cs.drop off))
  | .i64 => ⟨fun t fuel cs x ht h => by
      obtain ⟨n, rfl, _, hw⟩ := DataW.trod_int ht h
      refine ⟨_, ⟨n, rfl⟩, cell1 (.v _ ?_) rfl⟩
      simp [Lit.wf, IntKind.min, IntKind.max, IntKind.signed, IntKind.bits] at hw
      exact ⟨by omega, by omega⟩, fun _ _ _ _ _ h => h.elim⟩
  | .str => ⟨fun t fuel cs x ht h => by
      obtain ⟨s, rfl, _, hw⟩ := DataW.trod_string ht h
      exact ⟨_, ⟨s, rfl⟩, cell1 (.v _ (by unfold maxLen at hw; show s.size ≤ maxI; omega)) rfl⟩, fun _ _ _ _ _ h => h.elim⟩
  | .boo => ⟨fun t fuel cs x ht h => by
      obtain ⟨b, rfl, _⟩ := DataW.trod_bool ht h
      exact ⟨_, ⟨b, rfl⟩, cell1 (.v _ trivial) rfl⟩, fun _ _ _ _ _ h => h.elim⟩
  | .unit => ⟨fun _ _ _ _ h => h.elim, fun fs off tot n cs h hl _ => by
      obtain ⟨_, rfl⟩ := h
      exact ⟨[], rfl, by rw [List.drop_eq_nil_of_le (by omega)]; exact ⟨rfl, fun j a x h => by simp at h⟩⟩⟩
  | .pair a b => ⟨fun _ _ _ _ h => h.elim, fun fs off tot n cs h hl hel => by
      obtain ⟨f, r, k, rfl, rfl, rfl, h1, h2⟩ := h
      obtain ⟨x, hx⟩ := hel f (by simp)
      obtain ⟨l, hl1, hl2⟩ := (fits a).1 f.type n _ x h1 hx
      obtain ⟨m, hm1, hm2⟩ := (fits b).2 r _ tot n cs h2 hl (fun f hf => hel f (by simp [hf]))
      refine ⟨l ++ m, ⟨l, m, rfl, hl1, hm1⟩, ?_⟩
      have e : cs.drop f.offset = (cs.drop f.offset).take (P.cellsOf f.type) ++ cs.drop (f.offset + P.cellsOf f.type) := by
        rw [← List.drop_drop, List.take_append_drop]
      rw [e]
      exact hl2.append hm2⟩
  | .stru s => ⟨fun t fuel cs x ht h => by
      obtain ⟨fs, h1, h2⟩ := ht
      obtain ⟨xs, n, _, _, hl, hsz, hel⟩ := DataW.trod_struct h1 h
      obtain ⟨aa, h3, h4⟩ := (fits s).2 fs.toList 0 _ n cs h2 hl (fun f hf => by
        obtain ⟨i, hi, rfl⟩ := List.getElem_of_mem hf
        have hi' : i < fs.size := by simpa using hi
        have := hel i fs[i] (by simp [hi'])
        have hx : i < xs.length := by omega
        exact ⟨xs[i], by simpa [hx] using this⟩)
      exact ⟨aa, h3, by simpa using h4⟩, fun _ _ _ _ _ h => h.elim⟩
  | .sl n s => ⟨fun t fuel cs x ht h => by
      obtain ⟨e, h1, h2, h3, h4⟩ := ht
      obtain ⟨rows, h5, h6⟩ := fits_sl (s := s) h1 h2 h3 (fun m cs y hy => (fits s).1 e m cs y h4 hy) h
      exact ⟨_, ⟨rows, rfl, h5⟩, h6⟩, fun _ _ _ _ _ h => h.elim⟩
  | .ar k n s => ⟨fun t fuel cs x ht h => by
      obtain ⟨e, h1, h2, h3, h4⟩ := ht
      obtain ⟨xs, m, _, _, hl, hsz, hel⟩ := DataW.trod_array h1 h
      rw [h2] at hel
      rw [h3] at hl
      have key : ∀ j, j ≤ k → ∃ rows : List (List AV), rows.length = j ∧ (∀ r ∈ rows, Fits s r) ∧ Cells NoM W rows.flatten (cs.take (j * n)) := by
        intro j
        induction j with
        | zero => intro _; exact ⟨[], rfl, (fun r hr => by cases hr), by rw [Nat.zero_mul]; exact ⟨rfl, fun j a x h => by simp at h⟩⟩
        | succ j ih =>
          intro hj
          obtain ⟨rows, r1, r2, r3⟩ := ih (by omega)
          have hx : j < xs.length := by omega
          have hj2 := hel j (by omega)
          rw [List.getElem?_eq_getElem hx] at hj2
          obtain ⟨aa, a1, a2⟩ := (fits s).1 e m _ _ h4 hj2
          refine ⟨rows ++ [aa], by simp [r1], fun r hr => ?_, ?_⟩
          · rcases List.mem_append.1 hr with h | h
            · exact r2 r h
            · rw [List.mem_singleton.1 h]; exact a1
          · rw [List.flatten_append, show [aa].flatten = aa from by simp, Nat.add_mul, Nat.one_mul, List.take_add]
            exact r3.append a2
      obtain ⟨rows, r1, r2, r3⟩ := key k (Nat.le_refl _)
      rw [← hl, List.take_length] at r3
      exact ⟨_, ⟨rows, r1, rfl, r2⟩, r3⟩, fun _ _ _ _ _ h => h.elim⟩
end
end Go.Proofs.Ytlcahhlghjbnkaa.A
end

section
namespace Go.Proofs.Ytlcahhlghjbnkaa.R
open Go Go.RowKit Go.Maps Go.MapKept Go.ChangeMaps
/-- Keys of a type as plain data. -/
structure KeyT (P : Program) (k : TypeId) (κ : Type) (kv : κ → Value) (ok : κ → Prop) : Prop where
  check : ∀ (w : World) (em : Bool) (a : κ), ok a → (Instr.checkKey em 10000 k (kv a)).run P w = .ok () w
  find : ∀ (w : World) (a : κ), ok a → ∀ es : List MapEntry, (∀ e ∈ es, ∃ c, ok c ∧ e.key = kv c) →
    ((Instr.findKey k (kv a) es).run P w = .ok none w ∧ ∀ e ∈ es, e.key ≠ kv a) ∨ ∃ j e, (Instr.findKey k (kv a) es).run P w = .ok (some (j, e.val)) w ∧ es[j]? = some e ∧ e.key = kv a
  stays : ∀ (w : World) (a : κ), ok a → (Instr.keyThatStays (kv a) (kv a)).run P w = .ok (kv a) w
  inj : ∀ a b, kv a = kv b → a = b
theorem KeyT.of {P : Program} {k : TypeId} {κ : Type} {kv : κ → Value} {ok : κ → Prop} (K : Keyed P k) (lit : ∀ a, ok a → ∃ l, keyOf P k (kv a) = some l) (inj : ∀ a b, kv a = kv b → a = b) : KeyT P k κ kv ok where
  check w em a ha := by obtain ⟨l, hl⟩ := lit a ha; exact K.check w em hl
  find w a ha es he := by
    obtain ⟨l, hl⟩ := lit a ha
    exact K.find w hl es fun e h => by obtain ⟨c, hc, hk⟩ := he e h; rw [hk]; exact lit c hc
  stays w a ha := by obtain ⟨l, hl⟩ := lit a ha; exact K.stays w hl
  inj := inj
/-- Block b holds the map m, of at most n entries. -/
def Mp {κ α : Type} (kv : κ → Value) (ok : κ → Prop) (V : World → Value → α → Prop) (w : World) (b n : Nat) (m : κ → Option α) : Prop :=
  ∃ es clock, w.heap[b]? = some (.map es clock) ∧ Stamped es clock ∧ es.size ≤ n ∧ (∀ e ∈ es.toList, ∃ a x, ok a ∧ e.key = kv a ∧ m a = some x ∧ V w e.val x) ∧ (∀ a x, m a = some x → ∃ e ∈ es.toList, e.key = kv a)
section
variable {P : Program} {k t e : TypeId} {κ α : Type} {kv : κ → Value} {ok : κ → Prop} {V V' : World → Value → α → Prop} {w w' : World} {b n : Nat} {m : κ → Option α}
theorem Mp.made (kv : κ → Value) (ok : κ → Prop) (V : World → Value → α → Prop) (w : World) : Mp kv ok V (w.alloc (.map #[] 0)) w.heap.size 0 (fun _ => none) :=
  ⟨#[], 0, (MapKept.heap_alloc w _).1, stamped_empty 0, by simp, by simp, by simp⟩
theorem Mp.mono (h : Mp kv ok V w b n m) (hb : w'.heap[b]? = w.heap[b]?) (hV : ∀ v x, V w v x → V' w' v x) : Mp kv ok V' w' b n m := by
  obtain ⟨es, clock, h1, h2, h3, h4, h5⟩ := h
  refine ⟨es, clock, hb.trans h1, h2, h3, fun e he => ?_, h5⟩
  obtain ⟨a, x, ha, hk, hm, hv⟩ := h4 e he
  exact ⟨a, x, ha, hk, hm, hV _ _ hv⟩
theorem Mp.more (h : Mp kv ok V w b n m) {n' : Nat} (hn : n ≤ n') : Mp kv ok V w b n' m := by
  obtain ⟨es, clock, h1, h2, h3, h4, h5⟩ := h
  exact ⟨es, clock, h1, h2, Nat.le_trans h3 hn, h4, h5⟩
theorem Mp.lt (h : Mp kv ok V w b n m) : b < w.heap.size := by
  obtain ⟨es, clock, h1, _⟩ := h
  exact (Array.getElem?_eq_some_iff.1 h1).1
theorem Mp.keys (h : Mp kv ok V w b n m) (T : KeyT P k κ kv ok) : ∀ a x, m a = some x → ok a := by
  obtain ⟨es, clock, h1, h2, h3, h4, h5⟩ := h
  intro a x hm
  obtain ⟨e, he, hk⟩ := h5 a x hm
  obtain ⟨a', x', ha', hk', _, _⟩ := h4 e he
  exact T.inj _ _ (hk.symm.trans hk') ▸ ha'
/-- What is looked up. -/
theorem Mp.look (h : Mp kv ok V w b n m) (T : KeyT P k κ kv ok) (ht : P.underlying t = some (.map k e)) {z : Value} (hz : ∀ w, (zeroValue e).run P w = .ok z w) (a : κ) (ha : ok a) (c : Bool) :
    ∃ v, (Instr.lookup t (.map (some b)) (kv a) c).run P w = .ok (if c then .tuple #[v, .bool (m a).isSome] else v) w ∧ (∀ x, m a = some x → V w v x) ∧ (m a = none → v = z) := by
  obtain ⟨es, clock, h1, h2, h3, h4, h5⟩ := h
  have hes : ∀ e ∈ es.toList, ∃ c, ok c ∧ e.key = kv c := fun e he => by
    obtain ⟨a', x', ha', hk', _, _⟩ := h4 e he
    exact ⟨a', ha', hk'⟩
  rcases T.find w a ha es.toList hes with ⟨g1, g2⟩ | ⟨j, e0, g1, g2, g3⟩
  · have hn : m a = none := by
      cases hm : m a with
      | none => rfl
      | some x => obtain ⟨e, he, hk⟩ := h5 a x hm; exact (g2 e he hk).elim
    refine ⟨z, ?_, fun x hx => (by rw [hn] at hx; cases hx), fun _ => rfl⟩
    cases c <;> simp [Instr.lookup, run_underlying ht, MapKept.run_getObj_map h1, T.check w _ a ha, g1, hz, Result.andThen, hn]
  · have he0 : e0 ∈ es.toList := List.mem_of_getElem? g2
    obtain ⟨a', x', ha', hk', hm', hv'⟩ := h4 e0 he0
    obtain rfl := T.inj _ _ (g3.symm.trans hk')
    refine ⟨e0.val, ?_, fun x hx => (by rw [hm'] at hx; cases hx; exact hv'), fun hx => (by rw [hm'] at hx; cases hx)⟩
    cases c <;> simp [Instr.lookup, run_underlying ht, MapKept.run_getObj_map h1, T.check w _ a ha, g1, Result.andThen, hm']
theorem grown_set (w : World) (b : Nat) (o : Obj) : w.grownBy (setBlock w b o) (some b) :=
  ⟨rfl, rfl, rfl, by simp [setBlock], fun i _ hi => by simp [setBlock, Array.getElem?_setIfInBounds]; intro e; exact (hi (by rw [e])).elim⟩
theorem set_at {w : World} {b : Nat} (h : b < w.heap.size) (o : Obj) : (setBlock w b o).heap[b]? = some o := by simp [setBlock, h]
/-- A store. -/
theorem Mp.store [DecidableEq κ] (h : Mp kv ok V w b n m) (T : KeyT P k κ kv ok) (ht : P.underlying t = some (.map k e)) (hn : n < maxLen) (a : κ) (ha : ok a) (v : Value) (x : α)
    (hst : ∀ w', w.grownBy w' (some b) → w'.heap.size = w.heap.size → ∀ v x, V w v x → V w' v x) (hv : V w v x) :
    ∃ w', (Instr.mapUpdate t (.map (some b)) (kv a) v).run P w = .ok () w' ∧ Mp kv ok V w' b (n + 1) (fun c => if c = a then some x else m c) ∧ w.grownBy w' (some b) ∧ w'.heap.size = w.heap.size := by
  have hlt := h.lt
  obtain ⟨es, clock, h1, h2, h3, h4, h5⟩ := h
  have hes : ∀ e ∈ es.toList, ∃ c, ok c ∧ e.key = kv c := fun e he => by
    obtain ⟨a', x', ha', hk', _, _⟩ := h4 e he
    exact ⟨a', ha', hk'⟩
  have hsz : ∀ o, (setBlock w b o).heap.size = w.heap.size := fun o => by simp [setBlock]
  rcases T.find w a ha es.toList hes with ⟨g1, g2⟩ | ⟨j, e0, g1, g2, g3⟩
  · refine ⟨setBlock w b (.map (es.push ⟨kv a, v, clock⟩) (clock + 1)), ?_, ⟨_, _, set_at hlt _, stamped_push h2 g2, by simp; omega, fun e he => ?_, fun c y hc => ?_⟩, grown_set _ _ _, hsz _⟩
    · simp [Instr.mapUpdate, run_underlying ht, MapKept.run_getObj_map h1, T.check w false a ha, g1, MapKept.run_setObj_map _ h1, Result.andThen, setBlock]
    · simp only [Array.toList_push, List.mem_append, List.mem_singleton] at he
      rcases he with he | rfl
      · obtain ⟨a', x', ha', hk', hm', hv'⟩ := h4 e he
        refine ⟨a', x', ha', hk', ?_, hst _ (grown_set _ _ _) (hsz _) _ _ hv'⟩
        dsimp only; rw [if_neg (fun e1 => g2 e he (by rw [hk', e1]))]; exact hm'
      · exact ⟨a, x, ha, rfl, by simp, hst _ (grown_set _ _ _) (hsz _) _ _ hv⟩
    · by_cases e1 : c = a
      · subst e1; exact ⟨_, by simp; exact .inr rfl, rfl⟩
      · dsimp only at hc; rw [if_neg e1] at hc
        obtain ⟨e, he, hk⟩ := h5 c y hc
        exact ⟨e, by simp at he ⊢; exact .inl he, hk⟩
  · have hj : es[j]? = some e0 := by simpa using g2
    have hjl : j < es.toList.length := (List.getElem?_eq_some_iff.1 g2).1
    have hlist : (es.modify j (fun e' => { e' with key := kv a, val := v })).toList = es.toList.set j { e0 with key := kv a, val := v } := by rw [Array.toList_modify, modify_eq_set _ _ _ _ g2]
    have hap := ((stamped_iff es clock).1 h2).2.2
    have other : ∀ (i : Nat) (y : MapEntry), es.toList[i]? = some y → i ≠ j → y.key ≠ kv a := fun i y hi hne hk => by
      have hil : i < es.toList.length := (List.getElem?_eq_some_iff.1 hi).1
      have e1 := (List.getElem?_eq_some_iff.1 hi).2
      have e2 := (List.getElem?_eq_some_iff.1 g2).2
      rcases Nat.lt_or_gt_of_ne hne with hlt | hlt
      · exact List.pairwise_iff_getElem.1 hap i j hil hjl hlt (by rw [e1, e2, hk, g3])
      · exact List.pairwise_iff_getElem.1 hap j i hjl hil hlt (by rw [e1, e2, hk, g3])
    refine ⟨setBlock w b (.map (es.modify j (fun e' => { e' with key := kv a, val := v })) clock), ?_, ⟨_, _, set_at hlt _, stamped_modify h2 _ _ (fun _ _ => rfl) (fun e' _ he' => by rw [hj] at he'; cases he'; exact g3.symm), by simp; omega, fun e he => ?_, fun c y hc => ?_⟩, grown_set _ _ _, hsz _⟩
    · simp [Instr.mapUpdate, run_underlying ht, MapKept.run_getObj_map h1, T.check w false a ha, g1, hj, g3, T.stays w a ha, MapKept.run_setObj_map _ h1, Result.andThen, setBlock]
    · rw [hlist] at he
      obtain ⟨i, hi, ex⟩ := List.getElem_of_mem he
      rw [List.getElem_set] at ex
      split at ex
      · subst ex
        exact ⟨a, x, ha, rfl, by simp, hst _ (grown_set _ _ _) (hsz _) _ _ hv⟩
      · rename_i hne
        have hi' : i < es.toList.length := by simpa using hi
        have hie : es.toList[i]? = some e := by rw [List.getElem?_eq_getElem hi', ex]
        obtain ⟨a', x', ha', hk', hm', hv'⟩ := h4 e (List.mem_of_getElem? hie)
        refine ⟨a', x', ha', hk', ?_, hst _ (grown_set _ _ _) (hsz _) _ _ hv'⟩
        dsimp only; rw [if_neg (fun e1 => other i e hie (fun h => hne h.symm) (by rw [hk', e1]))]; exact hm'
    · rw [hlist]
      by_cases e1 : c = a
      · subst e1; exact ⟨{ e0 with key := kv c, val := v }, List.mem_iff_getElem.2 ⟨j, by simpa using hjl, by simp⟩, rfl⟩
      · dsimp only at hc; rw [if_neg e1] at hc
        obtain ⟨e, he, hk⟩ := h5 c y hc
        obtain ⟨i, hi, ex⟩ := List.getElem_of_mem he
        have hne : j ≠ i := fun hh => by
          subst hh
          have : es.toList[j] = e0 := (List.getElem?_eq_some_iff.1 g2).2
          rw [ex] at this
          subst this
          exact e1 (T.inj _ _ (hk.symm.trans g3))
        exact ⟨e, List.mem_iff_getElem.2 ⟨i, by simpa using hi, by rw [List.getElem_set_ne hne]; exact ex⟩, hk⟩
/-- A key is struck. -/
theorem Mp.drop [DecidableEq κ] (h : Mp kv ok V w b n m) (T : KeyT P k κ kv ok) (ht : P.underlying t = some (.map k e)) (a : κ) (ha : ok a) (ty : TypeId)
    (hst : ∀ w', w.grownBy w' (some b) → w'.heap.size = w.heap.size → ∀ v x, V w v x → V w' v x) :
    ∃ w', (Builtin.delete_ #[t, k] ty #[.map (some b), kv a]).run P w = .ok (.tuple #[]) w' ∧ Mp kv ok V w' b n (fun c => if c = a then none else m c) ∧ w.grownBy w' (some b) ∧ w'.heap.size = w.heap.size := by
  have hlt := h.lt
  obtain ⟨es, clock, h1, h2, h3, h4, h5⟩ := h
  have hes : ∀ e ∈ es.toList, ∃ c, ok c ∧ e.key = kv c := fun e he => by
    obtain ⟨a', x', ha', hk', _, _⟩ := h4 e he
    exact ⟨a', ha', hk'⟩
  have hsz : ∀ o, (setBlock w b o).heap.size = w.heap.size := fun o => by simp [setBlock]
  rcases T.find w a ha es.toList hes with ⟨g1, g2⟩ | ⟨j, e0, g1, g2, g3⟩
  · refine ⟨setBlock w b (.map es clock), ?_, ⟨_, _, set_at hlt _, h2, h3, fun e he => ?_, fun c y hc => ?_⟩, grown_set _ _ _, hsz _⟩
    · simp [Builtin.delete_, run_underlying ht, MapKept.run_getObj_map h1, T.check w _ a ha, g1, MapKept.run_setObj_map _ h1, Result.andThen, setBlock]
    · obtain ⟨a', x', ha', hk', hm', hv'⟩ := h4 e he
      refine ⟨a', x', ha', hk', ?_, hst _ (grown_set _ _ _) (hsz _) _ _ hv'⟩
      dsimp only; rw [if_neg (fun e1 => g2 e he (by rw [hk', e1]))]; exact hm'
    · dsimp only at hc
      split at hc
      · cases hc
      · exact h5 c y hc
  · have hjl : j < es.toList.length := (List.getElem?_eq_some_iff.1 g2).1
    have hjs : j < es.size := by simpa using hjl
    have hsub : (es.eraseIdxIfInBounds j).toList = es.toList.eraseIdx j := by
      unfold Array.eraseIdxIfInBounds
      rw [dif_pos hjs]
      simp
    have hap := ((stamped_iff es clock).1 h2).2.2
    have other : ∀ (i : Nat) (y : MapEntry), es.toList[i]? = some y → i ≠ j → y.key ≠ kv a := fun i y hi hne hk => by
      have hil : i < es.toList.length := (List.getElem?_eq_some_iff.1 hi).1
      have e1 := (List.getElem?_eq_some_iff.1 hi).2
      have e2 := (List.getElem?_eq_some_iff.1 g2).2
      rcases Nat.lt_or_gt_of_ne hne with hlt | hlt
      · exact List.pairwise_iff_getElem.1 hap i j hil hjl hlt (by rw [e1, e2, hk, g3])
      · exact List.pairwise_iff_getElem.1 hap j i hjl hil hlt (by rw [e1, e2, hk, g3])
    refine ⟨setBlock w b (.map (es.eraseIdxIfInBounds j) clock), ?_, ⟨_, _, set_at hlt _, stamped_erase h2 j, Nat.le_trans (MapFrom.size_erase es j) h3, fun e he => ?_, fun c y hc => ?_⟩, grown_set _ _ _, hsz _⟩
    · simp [Builtin.delete_, run_underlying ht, MapKept.run_getObj_map h1, T.check w _ a ha, g1, MapKept.run_setObj_map _ h1, Result.andThen, setBlock]
    · rw [hsub] at he
      obtain ⟨i, hne, hi⟩ := List.mem_eraseIdx_iff_getElem?.1 he
      obtain ⟨a', x', ha', hk', hm', hv'⟩ := h4 e (List.mem_of_getElem? hi)
      refine ⟨a', x', ha', hk', ?_, hst _ (grown_set _ _ _) (hsz _) _ _ hv'⟩
      dsimp only; rw [if_neg (fun e1 => other i e hi hne (by rw [hk', e1]))]; exact hm'
    · dsimp only at hc
      split at hc
      · cases hc
      · rename_i e1
        obtain ⟨e, he, hk⟩ := h5 c y hc
        obtain ⟨i, hi, ex⟩ := List.getElem_of_mem he
        refine ⟨e, ?_, hk⟩
        rw [hsub]
        refine List.mem_eraseIdx_iff_getElem?.2 ⟨i, fun hh => ?_, by rw [List.getElem?_eq_getElem hi, ex]⟩
        subst hh
        have : es.toList[i] = e0 := (List.getElem?_eq_some_iff.1 g2).2
        rw [ex] at this
        subst this
        exact e1 (T.inj _ _ (hk.symm.trans g3))
end
section
variable {P : Program} {w : World} {ops : Array Oper} {rest : List Oper} {o : Oper} {a : Act} {Q : Exit → Act → World → Prop}
/-- A store into a map, at the operation, by its run. -/
theorem wpList_mapUpdate (hg : o.guard = none) (m x v : Operand) (t : TypeId) (hop : o.op = Op.mapUpdate t m x v) (mv kv vv : Value) (hm : a.eval m = mv) (hx : a.eval x = kv) (hv : a.eval v = vv) {w' : World}
    (hrun : (Instr.mapUpdate t mv kv vv).run P w = .ok () w') (hK : wpList P ops Q rest (a.put o.dst undef) w') : wpList P ops Q (o :: rest) a w := by
  refine wpList_plain hg fun K' hK' => ?_
  unfold Oper.wp
  simp [execOp, hop, hm, hx, hv, hrun, Result.andThen]
  exact hK' _ _ hK
end
theorem str_key0 {P : Program} {t : TypeId} (ht : P.underlying t = some .string) : KeyT P t ByteArray Value.string (fun s => s.size ≤ 9223372036854775807) :=
  .of (Go.Maps.string_keyed ht) (fun a ha => ⟨_, Go.WideMaps.keyOf_string_mk ht ha⟩) (fun a b h => by simpa using h)
theorem int_key0 {P : Program} {t : TypeId} (ht : P.underlying t = some (.int .i64)) : KeyT P t Int (Value.int .i64) (fun a => -9223372036854775808 ≤ a ∧ a ≤ 9223372036854775807) :=
  .of (Go.Maps.int_keyed ht) (fun a ha => ⟨_, Go.Maps.keyOf_int_mk ht (by simp only [Lit.wf, Bool.and_eq_true, decide_eq_true_eq]; exact ha)⟩) (fun a b h => by simpa using h)
end Go.Proofs.Ytlcahhlghjbnkaa.R
namespace Go.Proofs.Ytlcahhlghjbnkaa.R
open Go Go.RowKit
/-- All blocks but that of v, as they were. -/
def But (w w' : World) (v : Value) : Prop := w.grownBy w' v.ownBlock
theorem But.refl (w : World) (v : Value) : But w w v := ⟨rfl, rfl, rfl, Nat.le_refl _, fun _ _ _ => rfl⟩
theorem But.trans {a b c : World} {v v' : Value} (h : But a b v) (h' : But b c v') (hv : v'.ownBlock = v.ownBlock) : But a c v :=
  ⟨h'.os.trans h.os, h'.tape.trans h.tape, h'.output.trans h.output, Nat.le_trans h.size h'.size, fun k hk hne => (h'.block k (Nat.lt_of_lt_of_le hk h.size) (by rw [hv]; exact hne)).trans (h.block k hk hne)⟩
theorem But.of_ext {w w' : World} (v : Value) (h : Ev.Ext w w') : But w w' v := ⟨h.os, h.tape, h.output, h.size, fun k hk _ => h.block k hk⟩
/-- the first place of which p is true -/
def idxB {α : Type} (p : α → Bool) (l : List α) : Int := match l.findIdx? p with | some i => i | none => -1
def NoTo {α : Type} (p : α → Bool) (l : List α) (k : Nat) : Prop := ∀ (i : Nat) (x : α), i < k → l[i]? = some x → p x = false
theorem NoTo.zero {α : Type} (p : α → Bool) (l : List α) : NoTo p l 0 := fun i x h => by omega
theorem NoTo.next {α : Type} {p : α → Bool} {l : List α} {k : Nat} (h : NoTo p l k) {x : α} (hx : l[k]? = some x) (hp : p x = false) : NoTo p l (k + 1) := fun i y hi hy => by
  by_cases e : i = k
  · subst e; rw [hx] at hy; cases hy; exact hp
  · exact h i y (by omega) hy
theorem NoTo.found {α : Type} {p : α → Bool} {l : List α} {k : Nat} (h : NoTo p l k) {x : α} (hx : l[k]? = some x) (hp : p x = true) : idxB p l = k := by
  have hlt : k < l.length := (List.getElem?_eq_some_iff.1 hx).1
  have : l.findIdx? p = some k := by
    rw [List.findIdx?_eq_some_iff_getElem]
    refine ⟨hlt, ?_, fun j hj => ?_⟩
    · have := (List.getElem?_eq_some_iff.1 hx).2; rw [this]; exact hp
    · rw [h j _ hj (List.getElem?_eq_getElem (by omega))]; simp
  unfold idxB; rw [this]
theorem NoTo.all {α : Type} {p : α → Bool} {l : List α} (h : NoTo p l l.length) : idxB p l = -1 := by
  have : l.findIdx? p = none := by
    rw [List.findIdx?_eq_none_iff]
    intro x hx
    obtain ⟨i, hi, rfl⟩ := List.getElem_of_mem hx
    exact h i _ hi (List.getElem?_eq_getElem hi)
  unfold idxB; rw [this]
theorem idxB_spec {α : Type} (p : α → Bool) (l : List α) : (idxB p l = -1 ∧ NoTo p l l.length) ∨ ∃ k : Nat, idxB p l = k ∧ ∃ h : k < l.length, p l[k] = true ∧ NoTo p l k := by
  unfold idxB
  cases hf : l.findIdx? p with
  | none =>
    refine .inl ⟨rfl, fun i x _ hx => ?_⟩
    rw [List.findIdx?_eq_none_iff] at hf
    simpa using hf x (List.mem_of_getElem? hx)
  | some k =>
    rw [List.findIdx?_eq_some_iff_getElem] at hf
    obtain ⟨hk, hp, hn⟩ := hf
    refine .inr ⟨k, rfl, hk, hp, fun i x hi hx => ?_⟩
    have := hn i hi
    rw [(List.getElem?_eq_some_iff.1 hx).2] at this
    simpa using this
/-- what is left of a row in which those of which p is true go -/
def strike {α : Type} (p : α → Bool) (l : List α) : List α := l.filter fun s => !p s
theorem strike_snoc {α : Type} (p : α → Bool) (l : List α) {j : Nat} (hj : j < l.length) : strike p (l.take (j + 1)) = strike p (l.take j) ++ (if p l[j] then [] else [l[j]]) := by
  unfold strike
  rw [List.take_succ_eq_append_getElem hj, List.filter_append]
  cases hpx : p l[j] <;> simp [hpx]
theorem strike_none {α : Type} {p : α → Bool} {l : List α} {k : Nat} (h : NoTo p l k) (hk : k ≤ l.length) : strike p (l.take k) = l.take k := by
  unfold strike
  rw [List.filter_eq_self]
  intro x hx
  obtain ⟨i, hi, rfl⟩ := List.getElem_of_mem hx
  rw [List.length_take] at hi
  have := h i _ (by omega) (List.getElem?_eq_getElem (by omega : i < l.length))
  simpa using this
theorem strike_all {α : Type} {p : α → Bool} {l : List α} (h : NoTo p l l.length) : strike p l = l := by have := strike_none h (Nat.le_refl _); rwa [List.take_length] at this
theorem strike_le {α : Type} (p : α → Bool) (l : List α) : (strike p l).length ≤ l.length := List.length_filter_le _ _
theorem flat_take {n : Nat} : ∀ (cur : List (List Value)) (i : Nat), (∀ r ∈ cur, r.length = n) → cur.flatten.take (i * n) = (cur.take i).flatten
  | [], i, _ => by simp
  | r :: c, 0, _ => by simp
  | r :: c, i + 1, h => by
    have hr := h r (by simp)
    have ih := flat_take c i fun x hx => h x (by simp [hx])
    rw [List.flatten_cons, List.take_succ_cons, List.flatten_cons, ← ih, show (i + 1) * n = r.length + i * n from by rw [hr, Nat.add_mul]; omega, List.take_length_add_append]
theorem flat_drop {n : Nat} : ∀ (cur : List (List Value)) (i : Nat), (∀ r ∈ cur, r.length = n) → cur.flatten.drop (i * n) = (cur.drop i).flatten
  | [], i, _ => by simp
  | r :: c, 0, _ => by simp
  | r :: c, i + 1, h => by
    have hr := h r (by simp)
    have ih := flat_drop c i fun x hx => h x (by simp [hx])
    rw [List.flatten_cons, List.drop_succ_cons, ← ih, show (i + 1) * n = r.length + i * n from by rw [hr, Nat.add_mul]; omega, List.drop_append, List.drop_of_length_le (by omega : r.length ≤ r.length + i * n), Nat.add_sub_cancel_left, List.nil_append]
theorem flat_set {n : Nat} (cur : List (List Value)) (i : Nat) (r : List Value) (h : ∀ r ∈ cur, r.length = n) (hi : i < cur.length) (hr : r.length = n) :
    cur.flatten.take (i * n) ++ r ++ cur.flatten.drop (i * n + n) = (cur.set i r).flatten := by
  rw [flat_take cur i h, show i * n + n = (i + 1) * n from by rw [Nat.add_mul]; omega, flat_drop cur (i + 1) h, List.set_eq_take_append_cons_drop, if_pos hi]
  simp
theorem setCells_heap (g : Nat) (e : TypeId) : ∀ (vs : List Value) (a : Nat) (w : World) (L : List Value), w.heap[g]? = some (.cells L.toArray e) → a + vs.length ≤ L.length →
    (w.setCells g a vs).heap[g]? = some (.cells (L.take a ++ vs ++ L.drop (a + vs.length)).toArray e)
  | [], a, w, L, h, _ => by simpa [World.setCells] using h
  | v :: r, a, w, L, h, hl => by
    simp only [List.length_cons] at hl
    have h1 : (w.setCell ⟨g, a, none⟩ v).heap[g]? = some (.cells (L.set a v).toArray e) := by simp [World.setCell, Array.getElem?_modify, h]
    rw [World.setCells, setCells_heap g e r (a + 1) _ _ h1 (by simpa using by omega)]
    have e1 : (L.set a v).take (a + 1) = L.take a ++ [v] := by
      rw [List.take_succ_eq_append_getElem (by simp; omega)]
      simp
      rw [List.take_set_of_le (Nat.le_refl _)]
    have e2 : (L.set a v).drop (a + 1 + r.length) = L.drop (a + 1 + r.length) := List.drop_set_of_lt (by omega)
    rw [e1, e2]
    simp [Nat.add_assoc, Nat.add_comm 1]
theorem setCells_but (g : Nat) (v : Value) (hv : v.ownBlock = some g) : ∀ (vs : List Value) (a : Nat) (w : World), But w (w.setCells g a vs) v
  | [], a, w => But.refl w v
  | x :: r, a, w => by
    have h1 : But w (w.setCell ⟨g, a, none⟩ x) v := ⟨rfl, rfl, rfl, by simp [World.setCell], fun k _ hne => Below.heap_setCell _ _ _ _ (fun e => hne (by rw [hv, e]))⟩
    exact h1.trans (setCells_but g v hv r (a + 1) _) rfl
section
variable {α : Type} {n : Nat} {e : TypeId}
/-- The row in the midst of DeleteFunc: in front the i that are kept, behind what was there from j on. L: each element's cells, and what they read as. -/
structure DelAt (e : TypeId) (n : Nat) (w : World) (g : Nat) (L : List (List Value × α)) (tail : List Value) (p : α → Bool) (i j : Nat) : Prop where
  ex : ∃ cur : List (List Value), w.heap[g]? = some (.cells (cur.flatten ++ tail).toArray e) ∧ (∀ r ∈ cur, r.length = n) ∧ cur.length = L.length ∧ cur.take i = (strike (p ∘ Prod.snd) (L.take j)).map Prod.fst ∧ cur.drop j = (L.drop j).map Prod.fst
  len : (strike (p ∘ Prod.snd) (L.take j)).length = i
  le : i ≤ j ∧ j ≤ L.length
variable {w w' : World} {g : Nat} {L : List (List Value × α)} {tail : List Value} {p : α → Bool} {i j k : Nat}
theorem DelAt.mono (h : DelAt e n w g L tail p i j) (hb : w'.heap[g]? = w.heap[g]?) : DelAt e n w' g L tail p i j := by
  obtain ⟨⟨cur, h1, h2⟩, h5, h6⟩ := h
  exact ⟨⟨cur, hb.trans h1, h2⟩, h5, h6⟩
theorem DelAt.ext (h : DelAt e n w g L tail p i j) (he : Ev.Ext w w') : DelAt e n w' g L tail p i j := by
  obtain ⟨⟨cur, h1, h2⟩, h5, h6⟩ := h
  exact ⟨⟨cur, (he.block g (Array.getElem?_eq_some_iff.1 h1).1).trans h1, h2⟩, h5, h6⟩
theorem DelAt.cell (h : DelAt e n w g L tail p i j) (hj : j < L.length) (t : Nat) (c : Value) (hc : L[j].1[t]? = some c) : w.cell? ⟨g, j * n + t, none⟩ = some c := by
  obtain ⟨⟨cur, h1, h2, h3, h4, h5⟩, _, _⟩ := h
  have hcj : cur[j]? = some L[j].1 := by
    have := congrArg (·[0]?) h5
    simp [hj] at this
    exact this
  have hf := flat_get h2 j t _ c hcj hc
  have hlt : j * n + t < cur.flatten.length := (List.getElem?_eq_some_iff.1 hf).1
  simp only [World.cell?, h1]
  simp [List.getElem?_append_left hlt, hf]
theorem DelAt.there (h : DelAt e n w g L tail p i j) (hk : k < L.length * n) : (∃ u, w.cell? ⟨g, k, none⟩ = some u) ∧ w.frozen? ⟨g, k, none⟩ = false := by
  obtain ⟨⟨cur, h1, h2, h3, h4, h5⟩, _, _⟩ := h
  have hlen := flat_length h2
  have hlt : k < cur.flatten.length := by rw [hlen, h3]; exact hk
  exact ⟨⟨cur.flatten[k], by simp only [World.cell?, h1]; simp [List.getElem?_append_left hlt, hlt]⟩, by simp [World.frozen?, h1]⟩
theorem DelAt.drop (h : DelAt e n w g L tail p i j) (hj : j < L.length) (hp : p L[j].2 = true) : DelAt e n w g L tail p i (j + 1) := by
  obtain ⟨⟨cur, h1, h2, h3, h4, h5⟩, h6, h7⟩ := h
  have es := strike_snoc (p ∘ Prod.snd) L hj
  rw [show (p ∘ Prod.snd) L[j] = true from hp] at es
  simp at es
  refine ⟨⟨cur, h1, h2, h3, by rw [es]; exact h4, ?_⟩, by rw [es]; exact h6, by omega⟩
  have := congrArg (List.drop 1) h5
  simpa [List.drop_drop] using this
theorem DelAt.keep (h : DelAt e n w g L tail p i j) (hj : j < L.length) (hp : p L[j].2 = false) (hr : L[j].1.length = n) : DelAt e n (w.setCells g (i * n) L[j].1) g L tail p (i + 1) (j + 1) := by
  obtain ⟨⟨cur, h1, h2, h3, h4, h5⟩, h6, h7⟩ := h
  have es := strike_snoc (p ∘ Prod.snd) L hj
  rw [show (p ∘ Prod.snd) L[j] = false from hp] at es
  simp at es
  have hi : i < cur.length := by omega
  have hlen := flat_length h2
  have hin : i * n + n ≤ cur.flatten.length := by rw [hlen, show i * n + n = (i + 1) * n from by rw [Nat.add_mul]; omega]; exact Nat.mul_le_mul_right _ (by omega)
  refine ⟨⟨cur.set i L[j].1, ?_, ?_, by simpa using h3, ?_, ?_⟩, by rw [es]; simp; omega, by omega⟩
  · rw [setCells_heap g e _ _ w _ h1 (by rw [List.length_append, hr]; omega), hr, List.take_append_of_le_length (by omega), List.drop_append_of_le_length (by omega), ← List.append_assoc, flat_set cur i _ h2 hi hr]
  · intro r hr'
    rcases List.mem_or_eq_of_mem_set hr' with hr' | rfl
    · exact h2 r hr'
    · exact hr
  · rw [es, List.map_append, ← h4, List.take_succ_eq_append_getElem (by simpa using hi)]
    simp
    rw [List.take_set_of_le (Nat.le_refl _)]
  · rw [List.drop_set_of_lt (by omega)]
    have := congrArg (List.drop 1) h5
    simpa [List.drop_drop] using this
/-- The row behind: what is kept, zeros, the tail. -/
theorem DelAt.last (h : DelAt e n w g L tail p i L.length) (Z : List Value) (hZ : Z.length = (L.length - i) * n) :
    (w.setCells g (i * n) Z).heap[g]? = some (.cells (((strike (p ∘ Prod.snd) L).map Prod.fst).flatten ++ (Z ++ tail)).toArray e) := by
  obtain ⟨⟨cur, h1, h2, h3, h4, h5⟩, h6, h7⟩ := h
  rw [List.take_length] at h4 h6
  have hlen := flat_length h2
  have hm : (L.length - i) * n = L.length * n - i * n := by rw [Nat.sub_mul]
  have hle : i * n ≤ L.length * n := Nat.mul_le_mul_right _ h7.1
  rw [setCells_heap g e _ _ w _ h1 (by rw [List.length_append, hZ, hlen, h3]; omega), List.take_append_of_le_length (by rw [hlen, h3]; exact hle), flat_take cur i h2, h4]
  rw [hZ, show i * n + (L.length - i) * n = cur.flatten.length from by rw [hlen, h3]; omega, List.drop_left]
  simp
theorem strike_map {β : Type} (q : β → Bool) (f : α → β) : ∀ l : List α, strike q (l.map f) = (strike (q ∘ f) l).map f
  | [] => rfl
  | x :: l => by
    have ih := strike_map q f l
    unfold strike at ih ⊢
    rw [List.map_cons, List.filter_cons, List.filter_cons]
    simp only [Function.comp]
    split <;> simp_all
end
/-- rows and what they read as, side by side -/
theorem all2_zip {α β : Type} {S : α → β → Prop} {l : List α} {m : List β} (h : All2 S l m) : ∃ L : List (α × β), L.map Prod.fst = l ∧ L.map Prod.snd = m ∧ ∀ x ∈ L, S x.1 x.2 := by
  induction h with
  | nil => exact ⟨[], rfl, rfl, by simp⟩
  | @cons a b l m r _ ih =>
    obtain ⟨L, h1, h2, h3⟩ := ih
    exact ⟨(a, b) :: L, by simp [h1], by simp [h2], fun x hx => by rcases List.mem_cons.1 hx with rfl | hx; exact r; exact h3 x hx⟩
theorem all2_unzip {α β : Type} {S : α → β → Prop} : ∀ (L : List (α × β)), (∀ x ∈ L, S x.1 x.2) → All2 S (L.map Prod.fst) (L.map Prod.snd)
  | [], _ => .nil
  | x :: L, h => .cons (h x (by simp)) (all2_unzip L fun y hy => h y (by simp [hy]))
theorem Sl.nil_none {α : Type} [GoT α] {K : Blocks} {w : World} {n cap : Nat} {xs : List α} (h : Sl K w (.slice none n cap) xs) : xs = [] := by
  obtain ⟨a, c, hv, _, hc⟩ := h
  cases xs with
  | nil => rfl
  | cons x r => obtain ⟨b, o, rfl, _⟩ := hc (by simp); simp at hv
/-- What was known lies nowhere in what is new. -/
theorem Sl.own {α : Type} [GoT α] {K : Blocks} {w w' : World} {v v' : Value} {xs : List α} (h : Sl K w v xs) (he : Ev.Ext w w') : Sl (elemK K w.heap.size v') w' v xs := h.mono fun b hb hlt => ⟨.inl ⟨hb, hlt⟩, he.block b hlt⟩
/-- The cells of a slice's elements, all in a row. -/
theorem rows_of {α : Type} [GoT α] {K : Blocks} {w : World} {b : Nat} : ∀ (xs : List α) (o : Nat), (∀ (i : Nat) (x : α), xs[i]? = some x → ∃ cs, GoT.rep K w cs x ∧ At w b (o + i * GoT.n α) cs) →
    ∃ rows, All2 (GoT.rep K w) rows xs ∧ ∀ j u, rows.flatten[j]? = some u → w.cell? ⟨b, o + j, none⟩ = some u
  | [], o, _ => ⟨[], .nil, by simp⟩
  | x :: xs, o, h => by
    obtain ⟨cs, h1, h2⟩ := h 0 x rfl
    have hl := GoT.len h1
    obtain ⟨rows, h3, h4⟩ := rows_of xs (o + GoT.n α) fun i y hy => by
      obtain ⟨ds, g1, g2⟩ := h (i + 1) y (by simpa using hy)
      refine ⟨ds, g1, ?_⟩
      rw [show o + GoT.n α + i * GoT.n α = o + (i + 1) * GoT.n α from by rw [Nat.add_mul]; omega]
      exact g2
    refine ⟨cs :: rows, .cons h1 h3, fun j u hj => ?_⟩
    rw [List.flatten_cons] at hj
    by_cases hjl : j < cs.length
    · rw [List.getElem?_append_left hjl] at hj
      have := h2 j u hj
      simpa using this
    · rw [List.getElem?_append_right (by omega)] at hj
      have := h4 _ u hj
      rwa [show o + GoT.n α + (j - cs.length) = o + j from by omega] at this
theorem Sl.rows {α : Type} [GoT α] {K : Blocks} {w : World} {ad : Addr} {cap : Nat} {xs : List α} (h : Sl K w (.slice (some ad) xs.length cap) xs) :
    ∃ rows, All2 (GoT.rep K w) rows xs ∧ ∀ j u, rows.flatten[j]? = some u → w.cell? (ad.add j) = some u := by
  cases xs with
  | nil => exact ⟨[], .nil, by simp⟩
  | cons x r =>
    obtain ⟨a, c, hv, _, hc⟩ := h
    obtain ⟨b, o, rfl, _, hel⟩ := hc (by simp)
    simp only [Value.slice.injEq, Option.some.injEq] at hv
    obtain ⟨rfl, _, _⟩ := hv
    obtain ⟨rows, h1, h2⟩ := rows_of (x :: r) o hel
    refine ⟨rows, h1, fun j u hj => ?_⟩
    have e : (⟨b, o, none⟩ : Addr).add j = ⟨b, o + j, none⟩ := by unfold Addr.add; split <;> simp_all
    rw [e]
    exact h2 j u hj
/-- 'append' onto a slice of the call's own, of all that another slice holds. -/
theorem wpList_append_sl {α : Type} [GoT α] {P : Program} {w : World} {ops : Array Oper} {rest : List Oper} {o : Oper} {a : Act} {Q : Exit → Act → World → Prop} (hgd : o.guard = none) (s x : Operand) (t : TypeId)
    (ho : o.op = .call { callee := .builtin .append, args := #[s, x], argTypes := #[t, t] }) {e : TypeId} {K : Blocks} {B bytes : Nat} (T : ElemT P t e (GoT.n α) bytes)
    (v : Value) (xs : List α) (hs : a.eval s = v) (G : Grow e K B w v xs) (ad : Addr) (c : Nat) (ys : List α) (hx : a.eval x = .slice (some ad) ys.length c) (hsl : Sl (elemK K B v) w (.slice (some ad) ys.length c) ys)
    (h63 : xs.length + ys.length ≤ maxLen) (hbytes : (xs.length + ys.length) * bytes ≤ 140737488355328) (hbase : B ≤ w.heap.size)
    (h : ∀ v' w', Grow e K B w' v' (xs ++ ys) → w.grownBy w' v.ownBlock → wpList P ops Q rest (a.put o.dst v') w') : wpList P ops Q (o :: rest) a w := by
  obtain ⟨rows, h1, h2⟩ := hsl.rows
  exact wpList_append hgd s x t ho T v xs hs G ad c ys hx rows h1 h2 h63 hbytes hbase h
theorem Grow.empty {α : Type} [GoT α] (e : TypeId) (K : Blocks) {B : Nat} {w : World} {g : Nat} (hg : w.heap[g]? = some (.cells #[] e)) (hB : B ≤ g) : Grow e K B w (.slice (some ⟨g, 0, none⟩) 0 0) ([] : List α) :=
  ⟨⟨[], ⟨by simp, .inr ⟨g, 0, #[], rfl, hB, hg, Nat.le_refl _, by simp, by simp, by simp⟩⟩, .nil⟩⟩
theorem run_clear_rows {P : Program} (w : World) (t e ty : TypeId) (z : Value) (ht : P.underlying t = some (.slice e)) (hv : ∀ w, (zeroValue e).run P w = .ok z w) (h1 : ∀ c ∈ z.cells.toList, c.oneCell' = true) (b o n c : Nat) (hn : 0 < n)
    (hc : ∀ j, j < n * z.cells.size → (w.cell? ⟨b, o + j, none⟩).isSome = true) (hf : ∀ j, j < n * z.cells.size → w.frozen? ⟨b, o + j, none⟩ = false) :
    (Builtin.clear_ #[t] ty #[.slice (some ⟨b, o, none⟩) n c]).run P w = .ok (.tuple #[]) (w.setCells b o (Builtin.zeroCells z.cells n).toList) := by
  have hlen : (Builtin.zeroCells z.cells n).toList.length = n * z.cells.size := by simp [Builtin.zeroCells]
  have hone : ∀ v ∈ (Builtin.zeroCells z.cells n).toList, v.oneCell' = true := fun v hv' => by
    simp only [Builtin.zeroCells, Array.toList_map, Array.toList_range, List.mem_map, List.mem_range] at hv'
    obtain ⟨i, hi, rfl⟩ := hv'
    have hp : 0 < z.cells.size := Nat.pos_of_ne_zero fun h0 => by rw [h0] at hi; omega
    have hlt : i % z.cells.size < z.cells.size := Nat.mod_lt _ hp
    rw [getElem!_pos z.cells (i % z.cells.size) hlt]
    exact h1 _ (by simp)
  have hst := run_storeCells_cells (P := P) b o (Builtin.zeroCells z.cells n).toList 0 w (by simpa [hlen] using hc) (by simpa [hlen] using hf) hone
  simp only [Nat.add_zero] at hst
  obtain ⟨m, rfl⟩ : ∃ m, n = m + 1 := ⟨n - 1, by omega⟩
  simp only [Builtin.clear_, run_underlying ht]
  simp [run_underlying ht, hv, hst]
end Go.Proofs.Ytlcahhlghjbnkaa.R
namespace Go.Proofs.Ytlcahhlghjbnkaa
open Go.RowKit R
theorem extA (w : World) (o : Obj) : Ev.Ext w (w.alloc o) := (Below.refl _ _).alloc (Nat.le_refl _) _
theorem extA2 (w : World) (o o' : Obj) : Ev.Ext w ((w.alloc o).alloc o') := (extA _ _).trans (extA _ _)
structure Dep where
  key : ByteArray
  n : Int
  s : Int
def inI (x : Int) : Prop := -9223372036854775808 ≤ x ∧ x ≤ 9223372036854775807
def Dep.val (d : Dep) : Value := .agg #[.string d.key, .int .i64 d.n, .int .i64 d.s]
instance : GoT Dep where
  n := 3
  pos := by decide
  rep _ _ cs d := cs = [.string d.key, .int .i64 d.n, .int .i64 d.s] ∧ d.key.size ≤ 9223372036854775807 ∧ inI d.n ∧ inI d.s
  len h := by rw [h.1]; rfl
  one h c hc := by rw [h.1] at hc; simp at hc; rcases hc with rfl | rfl | rfl <;> rfl
  mono _ h := h
structure Event where
  kind : Int
  client : Int
  key : ByteArray
  n : Int
  s : Int
  seen : List Dep
def Event.val (e : Event) (v : Value) : Value := .agg #[.int .i64 e.kind, .int .i64 e.client, .string e.key, .int .i64 e.n, .int .i64 e.s, v]
instance : GoT Event where
  n := 6
  pos := by decide
  rep K w cs e := ∃ v, cs = [.int .i64 e.kind, .int .i64 e.client, .string e.key, .int .i64 e.n, .int .i64 e.s, v] ∧ (e.key.size ≤ 9223372036854775807 ∧ inI e.kind ∧ inI e.client ∧ inI e.n ∧ inI e.s) ∧ Sl K w v e.seen
  len h := by obtain ⟨v, h, _⟩ := h; rw [h]; rfl
  one h c hc := by
    obtain ⟨v, h, _, a, cap, hv, _⟩ := h
    rw [h] at hc; simp at hc
    rcases hc with rfl | rfl | rfl | rfl | rfl | rfl
    all_goals first | rfl | (rw [hv]; rfl)
  mono hk h := by
    obtain ⟨v, h1, h2, h3⟩ := h
    exact ⟨v, h1, h2, h3.mono hk⟩
/-- The cells of a dep in a slice. -/
theorem dep_cells {K : Blocks} {w : World} {a : Option Addr} {len cap : Nat} {l : List Dep} (h : Sl K w (.slice a len cap) l) :
    len = l.length ∧ ∀ (i : Nat) (x : Dep), l[i]? = some x → ∃ b o, a = some ⟨b, o, none⟩ ∧ K b ∧ (x.key.size ≤ 9223372036854775807 ∧ inI x.n ∧ inI x.s) ∧ w.cell? ⟨b, o + i * 3, none⟩ = some (.string x.key) ∧ w.cell? ⟨b, o + i * 3 + 1, none⟩ = some (.int .i64 x.n) ∧ w.cell? ⟨b, o + i * 3 + 2, none⟩ = some (.int .i64 x.s) := by
  obtain ⟨hl, h⟩ := h.get
  refine ⟨hl, fun i x hx => ?_⟩
  obtain ⟨b, o, cs, ha, hb, ⟨rfl, h1⟩, hat⟩ := h i x hx
  exact ⟨b, o, ha, hb, h1, hat 0 _ rfl, hat 1 _ rfl, hat 2 _ rfl⟩
theorem dep_elem : ElemT Try.prog 35 61 3 32 := ⟨Try.underlying35, by
  have h : (Try.prog.info? 61).map (fun i => (i.zero, i.size, i.bytes)) = some (some (.agg #[.string ⟨#[]⟩, .int .i64 0, .int .i64 0]), 3, 32) := by kernel_rfl
  obtain ⟨i, hi, h1, h2, h3⟩ := info_parts h
  exact ⟨i, _, hi, h1, h2, h3, rfl⟩⟩
end Go.Proofs.Ytlcahhlghjbnkaa
end

section
namespace Go.Proofs.Ytlcahhlghjbnkaa
open Go.RowKit A R
open A.RowT
def Dep.row (d : Dep) : List AV := [tv d.key, iv d.n, iv d.s]
def Event.row (e : Event) : List AV := [iv e.kind, iv e.client, tv e.key, iv e.n, iv e.s, .sl 3 (e.seen.map Dep.row)]
instance : DecidableEq Dep := fun a b => decidable_of_iff (a.key = b.key ∧ a.n = b.n ∧ a.s = b.s) (by cases a; cases b; simp)
instance : RowI Dep where
  row := Dep.row
  into h _ := by
    obtain ⟨rfl, h2, h3, h4⟩ := h
    exact cellsc (.v _ h2) rfl (cellsc (.v _ h3) rfl (cells1 (.v _ h4) rfl))
  back h := by
    obtain ⟨x1, xs1, rfl, h1_1, h2_1, g1⟩ := uncons h
    obtain ⟨rfl, k1⟩ := repv h1_1
    obtain ⟨x2, xs2, rfl, h1_2, h2_2, g2⟩ := uncons g1
    obtain ⟨rfl, k2⟩ := repv h1_2
    obtain ⟨x3, xs3, rfl, h1_3, h2_3, g3⟩ := uncons g2
    obtain ⟨rfl, k3⟩ := repv h1_3
    obtain rfl := uncons0 g3
    exact ⟨rfl, k1, k2, k3⟩
instance : RowT Event where
  row := Event.row
  back h := by
    obtain ⟨x1, xs1, rfl, h1_1, h2_1, g1⟩ := uncons h
    obtain ⟨rfl, k1⟩ := repv h1_1
    obtain ⟨x2, xs2, rfl, h1_2, h2_2, g2⟩ := uncons g1
    obtain ⟨rfl, k2⟩ := repv h1_2
    obtain ⟨x3, xs3, rfl, h1_3, h2_3, g3⟩ := uncons g2
    obtain ⟨rfl, k3⟩ := repv h1_3
    obtain ⟨x4, xs4, rfl, h1_4, h2_4, g4⟩ := uncons g3
    obtain ⟨rfl, k4⟩ := repv h1_4
    obtain ⟨x5, xs5, rfl, h1_5, h2_5, g5⟩ := uncons g4
    obtain ⟨rfl, k5⟩ := repv h1_5
    obtain ⟨x6, xs6, rfl, h1_6, h2_6, g6⟩ := uncons g5
    obtain rfl := uncons0 g6
    exact ⟨x6, rfl, ⟨k3, k1, k2, k4, k5⟩, sl_of (α := Dep) h1_6⟩
end Go.Proofs.Ytlcahhlghjbnkaa
end

section
namespace Go.Proofs.Ytlcahhlghjbnkaa
open Go.ChangeShapes Go.WideShapes Go.ChangeAt Go.RowKit A
open Go.ChangeMaps (open_string shut_string)
theorem A.rows_map {α : Type} {f : α → List AV} : ∀ {rows : List (List AV)}, (∀ r ∈ rows, ∃ x, r = f x) → ∃ l : List α, rows = l.map f
  | [], _ => ⟨[], rfl⟩
  | r :: rest, h => by
    obtain ⟨x, rfl⟩ := h r (by simp)
    obtain ⟨l, rfl⟩ := A.rows_map (rows := rest) fun r hr => h r (by simp [hr])
    exact ⟨x :: l, rfl⟩
theorem A.law {f : FuncId} {aa : List AV} {vs : List Value} {W : World} (h : ACall Try.prog f aa (bv true)) (hr : AllRep NoM W aa vs) : Calls Try.prog f vs.toArray W fun e W' => e = .returned (.bool true) ∧ Ev.Ext W W' :=
  (h.2 NoM W vs (fun b hb => hb.elim) hr).mono fun e w' ⟨v, h1, h2, h3⟩ => by
    cases h3
    exact ⟨h1, h2⟩
theorem A.allcons {W : World} {a : AV} {aa : List AV} {v : Value} {vs : List Value} (h : Rep NoM W a v) (hr : AllRep NoM W aa vs) : AllRep NoM W (a :: aa) (v :: vs) := ⟨by simp [hr.1], fun j b x h1 h2 => by
  cases j with
  | zero => simp at h1 h2; subst h1 h2; exact h
  | succ j => exact hr.2 j b x (by simpa using h1) (by simpa using h2)⟩
theorem A.allnil {W : World} : AllRep NoM W [] [] := ⟨rfl, fun j b x h1 h2 => by simp at h1⟩
section
variable {H : Type} {enc : TypeId × Value → H} {W : World} {base : Nat} {spare : Nat → Bool} {held : Bool} {v : Value} {d : DataW H} {p : List MemPlace}
set_option maxRecDepth 100000 in
/-- An argument of a slice's type. -/
theorem A.open_slice {t n : Nat} {s : Shape} {e : TypeId} (ht : Try.prog.underlying t = some (.slice e)) (hk : (okG Try.prog (.sl n s)).1 t) (hv : Value.okWide Try.prog W .any base t v) (h : DataW.Trod enc Try.prog W 0 spare held t v d p) : ∃ rows : List (List AV), (∀ r ∈ rows, Fits s r) ∧ Rep NoM W (.sl n rows) v := by
  obtain ⟨a, len, cap, rfl⟩ := okWide_slice ht hv
  obtain ⟨fuel, hf⟩ := h
  obtain ⟨aa, ⟨rows, rfl, h1⟩, h2⟩ := (fits (.sl n s)).1 t fuel _ _ hk (by simpa [Value.cells] using hf)
  exact ⟨rows, h1, (h2.2 0 _ _ rfl rfl).1⟩
set_option maxRecDepth 100000 in
theorem dep_fits {r : List AV} (h : Fits (.stru (.pair .str (.pair (.stru (.pair .i64 (.pair .i64 .unit))) .unit))) r) : ∃ x : Dep, r = x.row := by
  obtain ⟨_, _, rfl, ⟨k, rfl⟩, _, _, rfl, ⟨_, _, rfl, ⟨n, rfl⟩, _, _, rfl, ⟨s, rfl⟩, rfl⟩, rfl⟩ := h
  exact ⟨⟨k, n, s⟩, rfl⟩
set_option maxRecDepth 100000 in
theorem event_fits {r : List AV} (h : Fits (.stru (.pair .i64 (.pair .i64 (.pair .str (.pair (.stru (.pair .i64 (.pair .i64 .unit))) (.pair (.sl 3 (.stru (.pair .str (.pair (.stru (.pair .i64 (.pair .i64 .unit))) .unit)))) .unit)))))) r) : ∃ x : Event, r = x.row := by
  obtain ⟨_, _, rfl, ⟨kind, rfl⟩, _, _, rfl, ⟨client, rfl⟩, _, _, rfl, ⟨key, rfl⟩, _, _, rfl, ⟨_, _, rfl, ⟨n, rfl⟩, _, _, rfl, ⟨s, rfl⟩, rfl⟩, _, _, rfl, ⟨rows, rfl, hr⟩, rfl⟩ := h
  obtain ⟨l, rfl⟩ := A.rows_map fun r h => dep_fits (hr r h)
  exact ⟨⟨kind, client, key, n, s, l⟩, rfl⟩
set_option maxRecDepth 100000 in
theorem open_events (hv : Value.okWide Try.prog W .any base 22 v) (h : DataW.Trod enc Try.prog W 0 spare held 22 v d p) : ∃ l : List Event, Rep NoM W (.sl 6 (l.map Event.row)) v := by
  obtain ⟨rows, h1, h2⟩ := A.open_slice Try.underlying22 (n := 6) (s := (.stru (.pair .i64 (.pair .i64 (.pair .str (.pair (.stru (.pair .i64 (.pair .i64 .unit))) (.pair (.sl 3 (.stru (.pair .str (.pair (.stru (.pair .i64 (.pair .i64 .unit))) .unit)))) .unit))))))) ⟨_, Try.underlying22, by kernel_rfl, by decide, ⟨_, Try.underlying37, ⟨_, _, 1, rfl, rfl, by kernel_rfl, Try.underlying3, ⟨_, _, 1, rfl, rfl, by kernel_rfl, Try.underlying3, ⟨_, _, 1, rfl, rfl, by kernel_rfl, Try.underlying9, ⟨_, _, 2, rfl, rfl, by kernel_rfl, ⟨_, Try.underlying34, ⟨_, _, 1, rfl, rfl, by kernel_rfl, Try.underlying3, ⟨_, _, 1, rfl, rfl, by kernel_rfl, Try.underlying3, ⟨rfl, by kernel_rfl⟩⟩⟩⟩, ⟨_, _, 1, rfl, rfl, by kernel_rfl, ⟨_, Try.underlying35, by kernel_rfl, by decide, ⟨_, Try.underlying61, ⟨_, _, 1, rfl, rfl, by kernel_rfl, Try.underlying9, ⟨_, _, 2, rfl, rfl, by kernel_rfl, ⟨_, Try.underlying34, ⟨_, _, 1, rfl, rfl, by kernel_rfl, Try.underlying3, ⟨_, _, 1, rfl, rfl, by kernel_rfl, Try.underlying3, ⟨rfl, by kernel_rfl⟩⟩⟩⟩, ⟨rfl, by kernel_rfl⟩⟩⟩⟩⟩, ⟨rfl, by kernel_rfl⟩⟩⟩⟩⟩⟩⟩⟩ hv h
  obtain ⟨l, rfl⟩ := A.rows_map fun r h => event_fits (h1 r h)
  exact ⟨l, h2⟩
end
end Go.Proofs.Ytlcahhlghjbnkaa
end

section
namespace Go.Proofs.Ytlcahhlghjbnkaa
open Go.RowKit R
theorem eql_nil_D (w : World) (a : Option Addr) (n c : Nat) : (binOp .eql 35 (.slice a n c) (.slice none 0 0)).run Try.prog w = .ok (.bool a.isNone) w :=
  Lib.run_eql_slice_nil w 35 61 a n c 0 0 Try.underlying35
set_option maxHeartbeats 1000000 in
set_option maxRecDepth 100000 in
theorem cloneD_any (v : Value) (l : List Dep) (Kb : Blocks) (w : World) (h : Sl Kb w v l) (hl : l.length ≤ 1000) :
    Calls Try.prog 64 #[v] w fun e w' => ∃ v', e = .returned v' ∧ Grow 61 Kb w.heap.size w' v' l ∧ Ev.Ext w w' := by
  obtain ⟨a, cap, rfl⟩ := h.form
  have hlen := h.len_le
  have hq := fun w' => eql_nil_D w' a l.length cap
  cases a with
  | none =>
    obtain rfl : l = [] := h.nil_none
    have hq := fun w' => eql_nil_D w' none 0 cap
    go_enter Try.func64, Try.ntmps64
    go_wp2
    go_ret
    exact ⟨_, rfl, Grow.nil _ _ _ _, Ev.Ext.refl _⟩
  | some a =>
    have hE := extA w (.cells #[] 61)
    have hG : Grow 61 Kb w.heap.size (w.alloc (.cells #[] 61)) (.slice (some ⟨w.heap.size, 0, none⟩) 0 0) ([] : List Dep) := Grow.empty _ _ (heap_alloc_new _ _) (Nat.le_refl _)
    go_enter Try.func64, Try.ntmps64
    go_wp2_with (at_builtin; refine R.wpList_append_sl rfl _ _ 35 rfl dep_elem _ _ rfl hG a cap l rfl (h.own hE) (by simp [maxLen]; omega) (by simp; omega) hE.size ?_; intro v1 w1 hg1 hgb1)
    go_ret
    exact ⟨_, rfl, hg1, grown_below hE hgb1 hE.size hG.base⟩
set_option maxHeartbeats 1000000 in
theorem indexD_any (v : Value) (l : List Dep) (Kb : Blocks) (w : World) (h : Sl Kb w v l) (F : Nat) (caps : Array Value) (hF : ∀ (args : Array Value) (wy : World), (callFunc F args).run Try.prog wy = .ok (.enter F args) wy) (p : Dep → Bool)
    (hp : ∀ (x : Dep) (wy : World), x ∈ l → Ev.Ext w wy → Calls Try.prog F (#[x.val] ++ caps) wy fun e w' => e = .returned (.bool (p x)) ∧ Ev.Ext wy w') :
    Calls Try.prog 75 #[v, .func (.func F) #[] caps] w fun e w' => e = .returned (.int .i64 (idxB p l)) ∧ Ev.Ext w w' := by
  obtain ⟨a, cap, rfl⟩ := h.form
  have hlen := h.len_le
  have HP := Lib.hid hp
  clear hp
  go_enter Try.func75, Try.ntmps75
  go_wp2_with fail
  go_loopw [4, 8] (fun r i wr => ∃ (k : Nat), r = .int .i64 0 ∧ i = .int .i64 k ∧ k ≤ l.length ∧ Ev.Ext w wr ∧ NoTo p l k) (fun _ i _ => l.length - (intOf i).toNat)
  case atStart => exact ⟨0, rfl, rfl, by omega, Ev.Ext.refl _, NoTo.zero p l⟩
  case round =>
    obtain ⟨k, rfl, rfl, hk, hext, hno⟩ := hrel
    by_cases h1 : k < l.length
    · have hx : l[k]? = some l[k] := by simp [h1]
      obtain ⟨b, o, rfl, hKb, hs0, c0, c1, c2⟩ := (dep_cells h).2 k l[k] hx
      have c0 := cell_later hext c0
      have c1 := cell_later hext c1
      have c2 := cell_later hext c2
      have hc := HP.out l[k] wr (List.getElem_mem h1) hext
      unfold Dep.val at hc
      have HX := Lib.hid hx
      clear hx
      cases hpx : p l[k]
      all_goals
        rw [hpx] at hc
        have HX2 := Lib.hid hpx
        clear hpx
        go_wp2_with fail
        refine hc.mono ?_; rintro e w3 ⟨rfl, hb3⟩
        clear hc
        go_wp2
      · go_roundw
        case rel => exact ⟨k + 1, rfl, by go_num, by omega, hext.trans hb3, hno.next HX.out HX2.out⟩
        case measure => simp [intOf]; omega
      · go_ret
        rw [hno.found HX.out HX2.out]
        exact ⟨rfl, hext.trans hb3⟩
    · obtain rfl : k = l.length := by omega
      go_wp2
      go_ret
      rw [hno.all]
      exact ⟨rfl, hext⟩
set_option maxHeartbeats 4000000 in
set_option maxRecDepth 100000 in
theorem delD_any (Kb : Blocks) (B : Nat) (v : Value) (l : List Dep) (w : World) (h : Grow 61 Kb B w v l) (hl : l.length ≤ 9223372036854775807) (F : Nat) (caps : Array Value) (hF : ∀ (args : Array Value) (wy : World), (callFunc F args).run Try.prog wy = .ok (.enter F args) wy) (p : Dep → Bool)
    (hp : ∀ (x : Dep) (wy : World), x ∈ l → But w wy v → Calls Try.prog F (#[x.val] ++ caps) wy fun e w' => e = .returned (.bool (p x)) ∧ Ev.Ext wy w') :
    Calls Try.prog 63 #[v, .func (.func F) #[] caps] w fun e w' => ∃ v', e = .returned v' ∧ But w w' v ∧ Grow 61 Kb B w' v' (strike p l) := by
  have hsl := h.sl hl
  have HP := Lib.hid hp
  clear hp
  rcases idxB_spec p l with ⟨hi, hno⟩ | ⟨k0, hi, hk0, hpk, hno⟩
  · have e : strike p l = l := strike_all hno
    have HE := Lib.hid e
    have HI := Lib.hid hi
    clear e hi
    go_enter Try.func63, Try.ntmps63
    go_wp2_with fail
    refine (indexD_any v l _ w hsl F caps hF p (fun x wy hx hy => HP.out x wy hx (But.of_ext v hy))).mono ?_
    rintro e w1 ⟨rfl, hb1⟩
    rw [HI.out]
    go_wp2
    go_ret
    rw [HE.out]
    exact ⟨_, rfl, But.of_ext v hb1, h.ext hb1⟩
  · obtain ⟨rows, hown, hall⟩ := h.ex
    obtain ⟨L, hL1, hL2, hL3⟩ := all2_zip hall
    have hlen : L.length = l.length := by rw [← hL2]; simp
    rcases hown.2 with ⟨rfl, h0⟩ | ⟨g, cap, cur, rfl, hBg, hg, hnc, hcm, hcs, htake⟩
    · omega
    have hrl := rows_len hall
    have hLr : ∀ (j : Nat) (hj : j < L.length), L[j].1.length = 3 := fun j hj => hrl _ (by rw [← hL1]; exact List.mem_map.2 ⟨_, List.getElem_mem hj, rfl⟩)
    have hLe : ∀ (j : Nat) (hj : j < l.length), ∃ hj' : j < L.length, L[j].1 = [.string l[j].key, .int .i64 l[j].n, .int .i64 l[j].s] ∧ L[j].2 = l[j] := fun j hj => by
      have hj' : j < L.length := by omega
      have e2 : L[j].2 = l[j] := by simp [← hL2]
      obtain ⟨h1, _⟩ := hL3 _ (List.getElem_mem hj')
      rw [e2] at h1
      exact ⟨hj', h1, e2⟩
    have hfl := flat_length hrl
    have hrows : rows.length = l.length := hall.length
    have HI := Lib.hid hi
    have hd0 : DelAt 61 3 w g L (cur.toList.drop (l.length * 3)) p k0 (k0 + 1) := by
      obtain ⟨hk1, _, e2⟩ := hLe k0 hk0
      have hno2 : NoTo (p ∘ Prod.snd) L k0 := fun i x hi hx => by
        have hx2 : l[i]? = some x.2 := by rw [← hL2]; simp [hx]
        exact hno i _ hi hx2
      have es := strike_snoc (p ∘ Prod.snd) L hk1
      rw [show (p ∘ Prod.snd) L[k0] = true from by simp [e2, hpk]] at es
      simp at es
      refine ⟨⟨rows, ?_, hrl, by omega, ?_, by rw [← hL1, List.map_drop]⟩, ?_, by omega⟩
      · rw [hg, ← htake, show GoT.n Dep = 3 from rfl, List.take_append_drop]
      · rw [es, strike_none hno2 (by omega), ← hL1, List.map_take]
      · rw [es, strike_none hno2 (by omega)]; simp; omega
    clear hi hall hown h htake hg hfl
    go_enter Try.func63, Try.ntmps63
    go_wp2_with fail
    refine (indexD_any _ l _ w hsl F caps hF p (fun x wy hx hy => HP.out x wy hx (But.of_ext _ hy))).mono ?_
    rintro e w1 ⟨rfl, hb1⟩
    rw [HI.out]
    have hd1 := hd0.ext hb1
    have hbut := But.of_ext (.slice (some ⟨g, 0, none⟩) l.length cap) hb1
    have hkz : ((k0 : Int) == -1) = false := by simp <;> omega
    clear hb1 hno hpk hsl hd0 hrows hrl
    have HL2 := Lib.hid hL2
    have HL1 := Lib.hid hL1
    have HLE := Lib.hid hlen
    clear hL1 hL2
    go_wp2_with fail
    go_loopw [5, 6] (fun i j wr => ∃ (a b : Nat), i = .int .i64 a ∧ j = .int .i64 b ∧ a < b ∧ But w wr (.slice (some ⟨g, 0, none⟩) l.length cap) ∧ DelAt 61 3 wr g L (cur.toList.drop (l.length * 3)) p a b) (fun _ j _ => l.length - (intOf j).toNat)
    case atStart => exact ⟨k0, k0 + 1, rfl, by go_num, by omega, hbut, hd1⟩
    case round =>
      obtain ⟨a, b, rfl, rfl, hab, hbr, hd⟩ := hrel
      have hle := hd.le
      by_cases h1 : b < l.length
      · obtain ⟨h2, hr, hx⟩ := hLe b h1
        have c0 : wr.cell? ⟨g, b * 3, none⟩ = some (.string l[b].key) := hd.cell h2 0 _ (by rw [hr]; rfl)
        have c1 : wr.cell? ⟨g, b * 3 + 1, none⟩ = some (.int .i64 l[b].n) := hd.cell h2 1 _ (by rw [hr]; rfl)
        have c2 : wr.cell? ⟨g, b * 3 + 2, none⟩ = some (.int .i64 l[b].s) := hd.cell h2 2 _ (by rw [hr]; rfl)
        have hc2 := HP.out l[b] (wr.alloc (.cells #[.string l[b].key, .int .i64 l[b].n, .int .i64 l[b].s] 61)) (List.getElem_mem h1) (hbr.trans (But.of_ext (.slice (some ⟨g, 0, none⟩) l.length cap) (extA _ _)) rfl)
        unfold Dep.val at hc2
        have HR := Lib.hid hr
        have HX := Lib.hid hx
        clear hr hx
        cases hpx : p l[b]
        all_goals
          rw [hpx] at hc2
          have HX2 := Lib.hid hpx
          clear hpx
          go_wp2_with fail
          refine hc2.mono ?_; rintro e w3 ⟨rfl, hb3⟩
          clear hc2
          have hbr3 := (hbr.trans (But.of_ext (.slice (some ⟨g, 0, none⟩) l.length cap) (extA _ _)) rfl).trans (But.of_ext (.slice (some ⟨g, 0, none⟩) l.length cap) hb3) rfl
          have hd3 := (hd.ext (extA wr (.cells #[.string l[b].key, .int .i64 l[b].n, .int .i64 l[b].s] 61))).ext hb3
        · obtain ⟨⟨u0, cu0⟩, zu0⟩ := hd3.there (k := a * 3) (by omega)
          obtain ⟨⟨u1, cu1⟩, zu1⟩ := hd3.there (k := a * 3 + 1) (by omega)
          obtain ⟨⟨u2, cu2⟩, zu2⟩ := hd3.there (k := a * 3 + 2) (by omega)
          have f0 : w3.cell? ⟨wr.heap.size, 0, none⟩ = some (.string l[b].key) := cell_later hb3 (by simp)
          have f1 : w3.cell? ⟨wr.heap.size, 1, none⟩ = some (.int .i64 l[b].n) := cell_later hb3 (by simp)
          have f2 : w3.cell? ⟨wr.heap.size, 2, none⟩ = some (.int .i64 l[b].s) := cell_later hb3 (by simp)
          have hkeep := hd3.keep h2 (by rw [HX.out]; exact HX2.out) (hLr b h2)
          rw [HR.out] at hkeep
          have hbk := hbr3.trans (setCells_but g (.slice (some ⟨g, 0, none⟩) l.length cap) rfl [.string l[b].key, .int .i64 l[b].n, .int .i64 l[b].s] (a * 3) w3) rfl
          have HK := Lib.hid hkeep
          have HB := Lib.hid hbk
          clear hkeep hbk
          go_wp2
          go_roundw
          case rel => exact ⟨a + 1, b + 1, by go_num, by go_num, by omega, HB.out, HK.out⟩
          case measure => simp [intOf]; omega
        · go_wp2
          go_roundw
          case rel => exact ⟨a, b + 1, by go_num, by go_num, by omega, hbr3, hd3.drop h2 (by rw [HX.out]; exact HX2.out)⟩
          case measure => simp [intOf]; omega
      · obtain rfl : b = l.length := by omega
        have hal : a < l.length := hab
        have hac : a ≤ cap := by omega
        have hlc : l.length ≤ cap := by omega
        have hne : ¬ cap = a := by omega
        have hn0 : 0 < l.length - a := by omega
        have hz3 : (Value.agg #[.string ⟨#[]⟩, .int .i64 0, .int .i64 0]).cells.size = 3 := rfl
        have hcl : ∀ ty, (Builtin.clear_ #[35] ty #[.slice (some ⟨g, a * 3, none⟩) (l.length - a) (cap - a)]).run Try.prog wr = .ok (.tuple #[]) (wr.setCells g (a * 3) (Builtin.zeroCells #[.string ⟨#[]⟩, .int .i64 0, .int .i64 0] (l.length - a)).toList) := fun ty =>
          run_clear_rows (P := Try.prog) wr 35 61 ty (.agg #[.string ⟨#[]⟩, .int .i64 0, .int .i64 0]) Try.underlying35 (fun w => by kernel_rfl) (by intro c hc; simp [Value.cells] at hc; rcases hc with rfl | rfl <;> rfl) g (a * 3) (l.length - a) (cap - a) hn0
            (fun j hj => by rw [hz3] at hj; obtain ⟨⟨u, cu⟩, _⟩ := hd.there (k := a * 3 + j) (by omega); rw [cu]; rfl) (fun j hj => by rw [hz3] at hj; exact (hd.there (k := a * 3 + j) (by omega)).2)
        have hZ : (Builtin.zeroCells #[.string ⟨#[]⟩, .int .i64 0, .int .i64 0] (l.length - a)).toList.length = (l.length - a) * 3 := by simp [Builtin.zeroCells]
        have hdd := hd
        rw [← hlen] at hdd
        have hlast := hdd.last (Builtin.zeroCells #[.string ⟨#[]⟩, .int .i64 0, .int .i64 0] (l.length - a)).toList (by rw [hZ, hlen])
        have hsl2 := hdd.len
        rw [List.take_length] at hsl2
        have hmap : (strike (p ∘ Prod.snd) L).map Prod.snd = strike p l := by rw [← HL2.out, strike_map]
        have hsn : (strike p l).length = a := by rw [← hmap, List.length_map, hsl2]
        have hbz := hbr.trans (setCells_but g (.slice (some ⟨g, 0, none⟩) l.length cap) rfl (Builtin.zeroCells #[.string ⟨#[]⟩, .int .i64 0, .int .i64 0] (l.length - a)).toList (a * 3) wr) rfl
        have hfin : Grow 61 Kb B (wr.setCells g (a * 3) (Builtin.zeroCells #[.string ⟨#[]⟩, .int .i64 0, .int .i64 0] (l.length - a)).toList) (.slice (some ⟨g, 0, none⟩) a cap) (strike p l) := by
          have hrow : ∀ r ∈ (strike (p ∘ Prod.snd) L).map Prod.fst, r.length = 3 := fun r hr => by
            obtain ⟨x, hx, rfl⟩ := List.mem_map.1 hr
            obtain ⟨j, hj, rfl⟩ := List.getElem_of_mem (List.mem_filter.1 hx).1
            exact hLr j hj
          have hfl := flat_length hrow
          rw [List.length_map, hsl2] at hfl
          refine ⟨⟨(strike (p ∘ Prod.snd) L).map Prod.fst, ⟨by rw [hfl, hsn]; rfl, .inr ⟨g, cap, _, by rw [hsn], hBg, hlast, by omega, hcm, ?_, ?_⟩⟩, ?_⟩⟩
          · simp only [List.size_toArray, List.length_append, List.length_drop, Array.length_toList, hZ, hfl, hcs]
            rw [show GoT.n Dep = 3 from rfl]; omega
          · rw [hsn, show GoT.n Dep = 3 from rfl]
            simp only [List.toList_toArray]
            rw [List.take_append_of_le_length (by omega), List.take_of_length_le (by omega)]
          · rw [← hmap]
            refine all2_unzip _ fun x hx => ?_
            refine GoT.mono (fun b hb hlt => ⟨?_, hbz.block b hlt ?_⟩) (hL3 x (List.mem_filter.1 hx).1)
            · exact hb
            · intro e
              rcases hb with ⟨_, hb⟩ | ⟨_, hb⟩
              · simp [Value.ownBlock] at e; omega
              · exact hb e.symm
        have HF := Lib.hid hfin
        have HB := Lib.hid hbz
        clear hfin hbz hlast hsl2 hmap hsn hZ hdd hlen hLe hLr
        go_wp2
        go_ret
        exact ⟨_, rfl, HB.out, HF.out⟩
end Go.Proofs.Ytlcahhlghjbnkaa
end

section
namespace Go.Proofs.Ytlcahhlghjbnkaa
open Go.RowKit R
instance : DecidableEq ByteArray := fun a b => if h : a.data = b.data then isTrue (by cases a; cases b; simp_all) else isFalse (fun e => h (by rw [e]))
theorem str_key : KeyT Try.prog 9 ByteArray Value.string (fun s => s.size ≤ 9223372036854775807) := str_key0 Try.underlying9
def stv (w : World) (v : Value) (x : Int × Int) : Prop := v = .agg #[.int .i64 x.1, .int .i64 x.2]
abbrev SMap (w : World) (b n : Nat) (m : ByteArray → Option (Int × Int)) : Prop := Mp Value.string (fun s => s.size ≤ 9223372036854775807) stv w b n m
namespace L
def ofM (l : List Dep) : ByteArray → Option (Int × Int) := l.foldl (fun m d => fun c => if c = d.key then some (d.n, d.s) else m c) (fun _ => none)
theorem ofM_snoc (l : List Dep) (k : Nat) (hk : k < l.length) : ofM (l.take (k + 1)) = fun c => if c = l[k].key then some (l[k].n, l[k].s) else ofM (l.take k) c := by
  unfold ofM
  rw [List.take_succ_eq_append_getElem hk, List.foldl_append]; rfl
end L
set_option maxHeartbeats 2000000 in
set_option maxRecDepth 100000 in
theorem of_any (v : Value) (l : List Dep) (Kb : Blocks) (w : World) (h : Sl Kb w v l) (hl : l.length ≤ 1000) :
    Calls Try.prog 62 #[v] w fun e w' => ∃ b, e = .returned (.map (some b)) ∧ w.heap.size ≤ b ∧ SMap w' b l.length (L.ofM l) ∧ Ev.Ext w w' := by
  obtain ⟨a, cap, rfl⟩ := h.form
  have hlen := h.len_le
  have hmm := @run_makeMap Try.prog
  go_enter Try.func62, Try.ntmps62
  go_wp2_with fail
  go_loopw [9] (fun i wr => ∃ (k : Nat), i = .int .i64 k ∧ k ≤ l.length ∧ Ev.Ext w wr ∧ SMap wr w.heap.size k (L.ofM (l.take k))) (fun i _ => l.length - (intOf i).toNat)
  case atStart => exact ⟨0, rfl, by omega, extA _ _, Mp.made _ _ _ _⟩
  case round =>
    obtain ⟨k, rfl, hk, hext, hm⟩ := hrel
    by_cases h1 : k < l.length
    · obtain ⟨bb, o, rfl, hKb, ⟨hs0, hs1, hs2⟩, c0, c1, c2⟩ := (dep_cells h).2 k l[k] (by simp [h1])
      have c0 := cell_later hext c0
      have c1 := cell_later hext c1
      have c2 := cell_later hext c2
      have hm1 : SMap (wr.alloc (.cells #[.string l[k].key, .int .i64 l[k].n, .int .i64 l[k].s] 61)) w.heap.size k (L.ofM (l.take k)) := hm.mono ((extA _ _).block _ hm.lt) (fun _ _ h => h)
      obtain ⟨w2, hrun, hm2, hg2, hz2⟩ := hm1.store str_key Try.underlying69 (by unfold maxLen; omega) l[k].key hs0 (.agg #[.int .i64 l[k].n, .int .i64 l[k].s]) (l[k].n, l[k].s) (fun _ _ _ _ _ h => h) rfl
      have he2 : Ev.Ext w w2 := grown_below (v := .slice (some ⟨w.heap.size, 0, none⟩) 0 0) (hext.trans (extA _ _)) hg2 (hext.trans (extA _ _)).size (fun j hj => by simp [Value.ownBlock] at hj; omega)
      rw [← L.ofM_snoc l k h1] at hm2
      have HM := Lib.hid hm2
      clear hm2 hm1 hm
      go_wp2_with (at_mapUpdate; refine wpList_mapUpdate rfl _ _ _ 69 rfl _ _ _ rfl rfl rfl hrun ?_)
      go_roundw
      case rel => exact ⟨k + 1, by go_num, by omega, he2, HM.out⟩
      case measure => simp [intOf]; omega
    · obtain rfl : k = l.length := by omega
      rw [List.take_length] at hm
      go_wp2
      go_ret
      exact ⟨_, rfl, Nat.le_refl _, hm, hext⟩
end Go.Proofs.Ytlcahhlghjbnkaa
end

section
namespace Go.Proofs.Ytlcahhlghjbnkaa
open Go.RowKit R
theorem smap_look {w : World} {b n : Nat} {m : ByteArray → Option (Int × Int)} (h : SMap w b n m) (key : ByteArray) (hk : key.size ≤ 9223372036854775807) :
    (Instr.lookup 69 (.map (some b)) (.string key) false).run Try.prog w = .ok (.agg #[.int .i64 ((m key).getD (0, 0)).1, .int .i64 ((m key).getD (0, 0)).2]) w := by
  obtain ⟨v, h1, h2, h3⟩ := h.look str_key Try.underlying69 (z := .agg #[.int .i64 0, .int .i64 0]) (fun w => by kernel_rfl) key hk false
  rw [h1]
  cases hm : m key with
  | none => rw [h3 hm]; rfl
  | some x => have := h2 x hm; unfold stv at this; rw [this]; rfl
theorem smap_ext {w w' : World} {b n : Nat} {m : ByteArray → Option (Int × Int)} (h : SMap w b n m) (he : Ev.Ext w w') : SMap w' b n m := h.mono (he.block b h.lt) (fun _ _ h => h)
namespace L
/-- of those that were seen ahead: is a dep there just so? -/
def hadB (m : ByteArray → Option (Int × Int)) (d : Dep) : Bool := decide ((m d.key).getD (0, 0) = (d.n, d.s))
/-- is a key there? -/
def hasB (m : ByteArray → Option (Int × Int)) (d : Dep) : Bool := !decide ((m d.key).getD (0, 0) = (0, 0))
end L
set_option maxRecDepth 100000 in
set_option maxHeartbeats 1000000 in
theorem part1_any (d : Dep) (hd : d.key.size ≤ 9223372036854775807) (c b n : Nat) (m : ByteArray → Option (Int × Int)) (w : World) (hc : w.cell? ⟨c, 0, none⟩ = some (.map (some b))) (hm : SMap w b n m) :
    Calls Try.prog 65 #[d.val, .pointer (some ⟨c, 0, none⟩)] w fun e w' => e = .returned (.bool (L.hadB m d)) ∧ Ev.Ext w w' := by
  unfold Dep.val
  have hE := extA w (.cells #[.string d.key, .int .i64 d.n, .int .i64 d.s] 61)
  have hl := smap_look (smap_ext hm hE) d.key hd
  have hc1 := cell_later hE hc
  clear hc
  go_enter Try.func65, Try.ntmps65
  go_wp2
  all_goals (go_ret; exact ⟨by simp_all [L.hadB, Prod.ext_iff], hE⟩)
set_option maxRecDepth 100000 in
set_option maxHeartbeats 1000000 in
theorem part2_any (d : Dep) (hd : d.key.size ≤ 9223372036854775807) (c z b n : Nat) (m : ByteArray → Option (Int × Int)) (w : World) (hc : w.cell? ⟨c, 0, none⟩ = some (.map (some b))) (hz0 : w.cell? ⟨z, 0, none⟩ = some (.int .i64 0)) (hz1 : w.cell? ⟨z, 1, none⟩ = some (.int .i64 0)) (hm : SMap w b n m) :
    Calls Try.prog 66 #[d.val, .pointer (some ⟨c, 0, none⟩), .pointer (some ⟨z, 0, none⟩)] w fun e w' => e = .returned (.bool (L.hasB m d)) ∧ Ev.Ext w w' := by
  unfold Dep.val
  have hE := extA w (.cells #[.string d.key, .int .i64 d.n, .int .i64 d.s] 61)
  have hl := smap_look (smap_ext hm hE) d.key hd
  have hc1 := cell_later hE hc
  have hz0 := cell_later hE hz0
  have hz1 := cell_later hE hz1
  clear hc
  go_enter Try.func66, Try.ntmps66
  go_wp2
  all_goals (go_ret; exact ⟨by simp_all [L.hasB, Prod.ext_iff], hE⟩)
namespace L
/-- P26.1: a part. -/
def noStamp (n s : Int) : Bool := decide (n = 0) && decide (s = 0)
def stampOpt (n s : Int) : List UInt8 := if noStamp n s then V.num 0 else V.num 1 ++ V.stamp n s
def more (e : Event) (ahead : List Dep) : List Dep := strike (hadB (ofM ahead)) e.seen
def less (e : Event) (ahead : List Dep) : List Dep := strike (hasB (ofM e.seen)) ahead
def depBytes (d : Dep) : List UInt8 := V.text d.key ++ V.stamp d.n d.s
def headBytes (e : Event) : List UInt8 := V.num e.kind.toNat ++ V.num e.client.toNat ++ V.text e.key ++ stampOpt e.n e.s
def part (e : Event) (ahead : List Dep) : List UInt8 :=
  headBytes e ++ V.num (more e ahead).length ++ (more e ahead).flatMap depBytes ++ V.num (less e ahead).length ++ (less e ahead).flatMap fun d => V.text d.key
end L
end Go.Proofs.Ytlcahhlghjbnkaa
end

section
namespace Go.Proofs.Ytlcahhlghjbnkaa
open Go.RowKit R
/-- All stands but the builder b and rows of bytes from b on. -/
structure Kp (b : Nat) (w w' : World) : Prop where
  below : Below b w w'
  kept : Lib.OthersKept 5 (some b) w w'
theorem Kp.refl (b : Nat) (w : World) : Kp b w w := ⟨Below.refl _ _, Lib.OthersKept.refl _ _ _⟩
theorem Kp.trans {b : Nat} {x y z : World} (h : Kp b x y) (k : Kp b y z) : Kp b x z := ⟨h.below.trans k.below, h.kept.trans k.kept⟩
theorem Kp.of_ext {b : Nat} {w w' : World} (h : Ev.Ext w w') (hb : b < w.heap.size) : Kp b w w' :=
  ⟨h.mono (Nat.le_of_lt hb), fun k o hk _ _ => by rw [h.block k (Array.getElem?_eq_some_iff.1 hk).1]; exact hk⟩
theorem Kp.size {b : Nat} {w w' : World} (h : Kp b w w') : w.heap.size ≤ w'.heap.size := h.below.size
theorem Kp.tick {b : Nat} {w w' : World} (h : Kp b w w') : Kp b w { w' with drawn := w'.drawn + 1 } := ⟨⟨h.below.os, h.below.tape, h.below.output, h.below.size, h.below.block⟩, h.kept⟩
/-- A block that is no row of bytes. -/
theorem Kp.block {b k : Nat} {w w' : World} (h : Kp b w w') {cs : Array Value} {T : TypeId} {fz : Nat × Nat} (hk : w.heap[k]? = some (.cells cs T fz)) (hT : T ≠ 5) (hb : k ≠ b) : w'.heap[k]? = some (.cells cs T fz) :=
  h.kept k _ hk (fun e => hb (Option.some.inj e)) (fun c fz' e => by simp only [Obj.cells.injEq] at e; exact hT e.2.1)
theorem Kp.map {b k : Nat} {w w' : World} (h : Kp b w w') {es : Array MapEntry} {c : Nat} (hk : w.heap[k]? = some (.map es c)) (hb : k ≠ b) : w'.heap[k]? = some (.map es c) :=
  h.kept k _ hk (fun e => hb (Option.some.inj e)) (fun c fz' e => by cases e)
abbrev IsBk (b : Nat) (l : List UInt8) (w : World) : Prop := Lib.IsBuilderF 85 5 b b (Lib.byteCells l) w
theorem IsBk.lt {b : Nat} {l : List UInt8} {w : World} (h : IsBk b l w) : b < w.heap.size := by
  rcases h with ⟨_, v, hb, _⟩ | ⟨_, v, hb, _⟩ <;> exact (Array.getElem?_eq_some_iff.1 hb).1
theorem atF_ext {T e : TypeId} {B b : Nat} {p : Value} {bs : List Value} {w w' : World} (h : Lib.BuilderAtF T e B b p bs w) (he : Ev.Ext w w') : Lib.BuilderAtF T e B b p bs w' := by
  obtain ⟨h1, v, hb, ⟨h2, h3⟩, h4⟩ := h
  refine ⟨h1, v, by rw [he.block b (Array.getElem?_eq_some_iff.1 hb).1]; exact hb, ⟨h2, ?_⟩, h4⟩
  rcases h3 with h3 | ⟨g, cap, cur, fz, hv, hg, hgg, rest⟩
  · exact .inl h3
  · exact .inr ⟨g, cap, cur, fz, hv, hg, by rw [he.block g (Array.getElem?_eq_some_iff.1 hgg).1]; exact hgg, rest⟩
theorem IsBk.ext {b : Nat} {l : List UInt8} {w w' : World} (h : IsBk b l w) (he : Ev.Ext w w') : IsBk b l w' := h.elim (fun x => .inl (atF_ext x he)) (fun x => .inr (atF_ext x he))
theorem IsBk.fresh (w : World) : IsBk w.heap.size [] (w.alloc (.cells #[.pointer none, .slice none 0 0] 85)) := Lib.IsBuilderF.of (Lib.fresh_isBuilder _ _ w)
theorem strk_any (b : Nat) (l : List UInt8) (s : ByteArray) (w : World) (h : IsBk b l w) (hlen : l.length + s.size ≤ 140737488355328) :
    Calls Try.prog 48 #[.pointer (some ⟨b, 0, none⟩), .string s] w fun e w' => e = .returned (.tuple #[.int .i64 s.size, .nilIface]) ∧ IsBk b (l ++ s.data.toList) w' ∧ Kp b w w' := by
  refine (Try.Builder_WriteString_k b b (Lib.byteCells l) s w h (by rw [Lib.byteCells_length]; exact hlen) (Nat.le_of_lt h.lt)).mono ?_
  rintro e w' ⟨rfl, h1, h2, h3⟩
  refine ⟨rfl, .inr ?_, h2, h3⟩
  rw [Lib.byteCells_append]; exact h1
theorem bstr_any (b : Nat) (l : List UInt8) (w : World) (h : IsBk b l w) :
    Calls Try.prog 49 #[.pointer (some ⟨b, 0, none⟩)] w fun e w' => e = .returned (.string (V.ba l)) ∧ IsBk b l w' ∧ Kp b w w' := by
  refine (Try.Builder_String_any_k b b l w h (Nat.le_of_lt h.lt)).mono ?_
  rintro e w' ⟨rfl, h1, h2, h3⟩
  exact ⟨rfl, h1, h2, h3⟩
end Go.Proofs.Ytlcahhlghjbnkaa
end

section
namespace Go.Proofs.Ytlcahhlghjbnkaa.Ev2
open Go Go.Proofs.Ytlcahhlghjbnkaa.Ev
/-- The block that a pointer points into. -/
def blk : Value → Option Nat
  | .pointer (some a) => some a.block
  | .slice (some a) _ _ => some a.block
  | .map (some b) => some b
  | _ => none
def Old (v : Value) (w : World) : Prop := ∀ b, blk v = some b → b < w.heap.size
def Fresh (v : Value) (w : World) : Prop := ∀ b, blk v = some b → w.heap.size ≤ b
def D (x y : Value) : Prop := ∀ b, blk x = some b → blk y ≠ some b
theorem D.mk {x y : Value} {w : World} (h : Old x w) (k : Fresh y w) : D x y ∧ D y x :=
  ⟨fun b h1 h2 => by have := h b h1; have := k b h2; omega, fun b h1 h2 => by have := h b h2; have := k b h1; omega⟩
def Apart (S : List Nat) (u : Nat → Value) : Prop := ∀ i ∈ S, ∀ j ∈ S, i ≠ j → D (u i) (u j)
section
variable (P : Program) (ops : Array Oper) (l1 : List Oper) (C : World → Prop) (E : World → World → Prop) (S : List Nat)
def RuleN (a0 : Act) (o : Oper) (env : List Fact) (A : Fact) : Prop :=
  ∀ u w, C w → facts env u w (depsOf o) →
    if Region.wanted o (yielded ops (putU l1 0 u a0).tmps) then ∀ K : Value → World → Prop, (∀ v w', E w w' → A v w' → Fresh v w → K v w') → upon P K ((execOp (putU l1 0 u a0).eval o).run P w)
    else A undef w
/-- What is asked of an operation, by its place. -/
def Asked (a0 : Act) (o : Oper) (env : List Fact) (A : Fact) (k : Nat) : Prop :=
  if S.contains k then (∀ v w, A v w → Old v w) ∧ RuleN P ops l1 C E a0 o env A else Rule P ops l1 C E a0 o env A
def walk2 (a0 : Act) (Q : Act → World → Prop) : List Oper → List Fact → Prop
  | [], env => ∀ u w, C w → factsFrom u w 0 env → Apart S u → Q (putU l1 0 u a0) w
  | o :: r, env => ∃ A, Stable E A ∧ Asked P ops l1 C E S a0 o env A env.length ∧ walk2 a0 Q r (env ++ [A])
end
variable {P : Program} {ops : Array Oper} {l1 : List Oper} {C : World → Prop} {E : World → World → Prop} {S : List Nat}
theorem walk2_env {a0 : Act} {Q : Act → World → Prop} : ∀ (l : List Oper) (env : List Fact), walk2 P ops l1 C E S a0 Q l env →
    ∃ full : List Fact, full.length = env.length + l.length ∧ full.take env.length = env ∧ (∀ j o, l[j]? = some o → ∃ A, full[env.length + j]? = some A ∧ Stable E A ∧ Asked P ops l1 C E S a0 o (full.take (env.length + j)) A (env.length + j)) ∧
      (∀ u w, C w → factsFrom u w 0 full → Apart S u → Q (putU l1 0 u a0) w)
  | [], env, h => ⟨env, by simp, by simp, by simp, h⟩
  | o :: r, env, ⟨A, hs, hr, h⟩ => by
    obtain ⟨full, h1, h2, h3, h4⟩ := walk2_env r _ h
    rw [List.length_append, List.length_singleton] at h1 h2 h3
    have e0 : full.take env.length = env := by
      have : (full.take (env.length + 1)).take env.length = env := by rw [h2]; simp
      rwa [List.take_take, Nat.min_eq_left (by omega)] at this
    have eA : full[env.length]? = some A := by
      have : (full.take (env.length + 1))[env.length]? = some A := by rw [h2]; simp
      rwa [List.getElem?_take_of_lt (by omega)] at this
    refine ⟨full, by simp only [List.length_cons]; omega, e0, fun j o' hj => ?_, h4⟩
    cases j with
    | zero =>
      simp at hj
      subst hj
      exact ⟨A, eA, hs, by rw [Nat.add_zero, e0]; exact hr⟩
    | succ j =>
      have := h3 j o' (by simpa using hj)
      rwa [show env.length + 1 + j = env.length + (j + 1) from by omega] at this
theorem wp_any_tail2 {a0 : Act} {Q : Exit → Act → World → Prop} {l2 : List Oper} (hops : ops.toList = l1 ++ l2) (hd : Ev.distinct l1 = true) (hb : backB ops = true) (ht : tailB ops l1.length = true) (full : List Fact) (hlen : full.length = l1.length) (hS : ∀ i ∈ S, i < l1.length)
    (hE : ∀ w, E w w) (hC : ∀ w w', E w w' → C w → C w')
    (hr : ∀ j o, l1[j]? = some o → ∃ A, full[j]? = some A ∧ Stable E A ∧ Asked P ops l1 C E S a0 o (full.take j) A j)
    (hQ : ∀ u w, C w → factsFrom u w 0 full → Apart S u → wpList P ops Q l2 (putU l1 0 u a0) w) :
    ∀ (fuel : Nat) (listed : Array Bool) (u : Nat → Value) (w : World), listed.size = ops.size → C w → (∀ (i : Nat), listed[i]? = some true → (full.getD i (fun _ _ => True)) (u i) w) → (∀ (i j : Nat), listed[i]? = some true → listed[j]? = some true → i ∈ S → j ∈ S → i ≠ j → D (u i) (u j)) → Closed ops listed →
      (∀ (i : Nat), l1.length ≤ i → i < ops.size → listed[i]? = some false) → listed.count false ≤ fuel → wpAny P .any ops Q fuel listed (putU l1 0 u a0) w := by
  have hsz : ops.size = l1.length + l2.length := by have := congrArg List.length hops; simpa using this
  have hget : ∀ (j : Nat), j < l1.length → ops[j]? = l1[j]? := fun j hj => by
    have : ops.toList[j]? = (l1 ++ l2)[j]? := by rw [hops]
    rw [List.getElem?_append_left hj] at this
    simpa using this
  have fin : ∀ (fuel : Nat) (listed : Array Bool) (u : Nat → Value) (w : World), listed.size = ops.size → C w → (∀ (i : Nat), listed[i]? = some true → (full.getD i (fun _ _ => True)) (u i) w) → (∀ (i j : Nat), listed[i]? = some true → listed[j]? = some true → i ∈ S → j ∈ S → i ≠ j → D (u i) (u j)) → Closed ops listed →
      (∀ (i : Nat), l1.length ≤ i → i < ops.size → listed[i]? = some false) → l2.length ≤ fuel → (∀ (i : Nat), i < l1.length → listed[i]? = some true) → wpAny P .any ops Q fuel listed (putU l1 0 u a0) w := fun fuel listed u w hs hc hf hap hcl hun hfu hall => by
    refine seq_any hb ht l2.length fuel l1.length listed _ w hsz hfu (Nat.le_refl _) hs hall hun hcl ?_
    have h1 := wpOps_eq_wpList (P := P) (ops := ops) (Q := Q) l2 l1.length (fun j => by
      have : ops.toList[l1.length + j]? = (l1 ++ l2)[l1.length + j]? := by rw [hops]
      rw [List.getElem?_append_right (by omega), Nat.add_sub_cancel_left] at this
      simpa using this.symm)
    rw [h1]
    exact hQ u w hc (factsFrom_of full 0 fun i A hi => by
      have hlt : i < l1.length := by rw [← hlen]; exact (List.getElem?_eq_some_iff.1 hi).1
      have := hf i (hall i hlt)
      rw [List.getD_eq_getElem?_getD, hi] at this
      simpa using this) (fun i hi j hj hne => hap i j (hall i (hS i hi)) (hall j (hS j hj)) hi hj hne)
  have cnt2 : ∀ (listed : Array Bool), listed.size = ops.size → (∀ (i : Nat), l1.length ≤ i → i < ops.size → listed[i]? = some false) → l2.length ≤ listed.count false := fun listed hs hun => by
    have e : listed.toList = listed.toList.take l1.length ++ List.replicate l2.length false := by
      apply List.ext_getElem?
      intro i
      rcases Nat.lt_or_ge i l1.length with h | h
      · rw [List.getElem?_append_left (by simp; omega), List.getElem?_take_of_lt h]
      · rw [List.getElem?_append_right (by simp; omega)]
        rcases Nat.lt_or_ge i ops.size with h2 | h2
        · have := hun i h h2
          have e1 : listed.toList[i]? = some false := by simpa using this
          rw [e1, List.getElem?_replicate, if_pos (by simp; omega)]
        · rw [List.getElem?_eq_none (by simp; omega), List.getElem?_eq_none (by simp; omega)]
    have : listed.count false = listed.toList.count false := by rw [Array.count_toList]
    rw [this, e, List.count_append]
    simp
  intro fuel
  induction fuel with
  | zero =>
    intro listed u w hs hc hf hap hcl hun hn
    have h2 := cnt2 listed hs hun
    refine fin 0 listed u w hs hc hf hap hcl hun (by omega) (fun i hi => ?_)
    cases hl : listed[i]? with
    | none => rw [Array.getElem?_eq_none_iff] at hl; omega
    | some b =>
      cases b with
      | true => rfl
      | false =>
        have : false ∈ listed := Array.mem_of_getElem? hl
        have := Array.count_pos_iff.2 this
        omega
  | succ fuel ih =>
    intro listed u w hs hc hf hap hcl hun hn
    by_cases hall : ∀ (i : Nat), i < l1.length → listed[i]? = some true
    · exact fin (fuel + 1) listed u w hs hc hf hap hcl hun (Nat.le_trans (cnt2 listed hs hun) hn) hall
    refine ⟨fun h0 => ?_, fun j hj => ?_⟩
    · exfalso
      apply hall
      intro i
      induction i using Nat.strongRecOn with
      | _ i ih' =>
        intro hi
        cases hl : listed[i]? with
        | none => rw [Array.getElem?_eq_none_iff] at hl; omega
        | some b =>
          cases b with
          | true => rfl
          | false =>
            have := ready_of_least hb hs (by omega) hl (fun k hk => ih' k hk (by omega))
            rw [h0] at this
            cases this
    obtain ⟨hju, o, ho, hdone⟩ := mem_ready.1 hj
    have hjo : j < ops.size := (Array.getElem?_eq_some_iff.1 ho).1
    have hlt : j < listed.size := by omega
    have hjl : listed[j]? = some false := by simp [Array.getD, hlt] at hju; simp [hlt, hju]
    have hj1 : j < l1.length := by
      rcases Nat.lt_or_ge j l1.length with h | h
      · exact h
      · exact (hall fun i hi => ready_all ht hcl hj h i (by omega)).elim
    rw [hget j hj1] at ho
    obtain ⟨A, hA, hst, hrule⟩ := hr j o ho
    have hdl : ∀ d ∈ depsOf o, listed[d]? = some true := deps_listed hdone
    have hlt2 : ∀ d ∈ depsOf o, d < j := fun d hd => by
      obtain ⟨e, he, hbe, rfl⟩ := mem_deps hd
      have h1 := List.all_eq_true.1 hb j (List.mem_range.2 hjo)
      rw [hget j hj1, ho] at h1
      have h2 := Array.all_eq_true_iff_forall_mem.1 h1 e (by simpa using he)
      rw [hbe] at h2
      simpa using h2
    have hdeps : facts (full.take j) u w (depsOf o) := by
      rw [facts_mem]
      intro d hd
      have hf' := hf d (hdl d hd)
      simp only [List.getD_eq_getElem?_getD, List.getElem?_take_of_lt (hlt2 d hd)] at hf' ⊢
      exact hf'
    have step : ∀ v w', E w w' → A v w' → (j ∈ S → Fresh v w) → wpAny P .any ops Q fuel (listed.setIfInBounds j true) ((putU l1 0 u a0).put o.dst v) w' := by
      intro v w' hE' hAv hfr
      rw [putU_upd v l1 0 u a0 j o hd ho, Nat.zero_add]
      have hold : ∀ (i : Nat), i ≠ j → (listed.setIfInBounds j true)[i]? = listed[i]? := fun i hij => by
        rw [Array.getElem?_setIfInBounds, if_neg (Ne.symm hij)]
      refine ih _ _ _ (by simpa using hs) (hC _ _ hE' hc) (fun i hi => ?_) ?_ (fun i o' hi ho' d hd' => ?_) (fun i hi hi2 => ?_) ?_
      · by_cases hij : i = j
        · subst hij
          have : upd u i v i = v := by simp [upd]
          rw [this, List.getD_eq_getElem?_getD, hA]
          exact hAv
        · have h1 : upd u j v i = u i := by simp [upd, hij]
          have h2 : listed[i]? = some true := by rw [← hold i hij]; exact hi
          rw [h1]
          have hold' := hf i h2
          have hi' : i < l1.length := by
            rcases Nat.lt_or_ge i l1.length with h | h
            · exact h
            · have hi3 : i < ops.size := by rw [← hs]; exact (Array.getElem?_eq_some_iff.1 h2).1
              have := hun i h hi3
              rw [h2] at this; cases this
          obtain ⟨B, hB, hBs, _⟩ := hr i _ (List.getElem?_eq_getElem hi')
          rw [List.getD_eq_getElem?_getD, hB] at hold' ⊢
          exact hBs _ _ _ hE' hold'
      · intro i k hi hk hiS hkS hne
        have old : ∀ x, x ≠ j → x ∈ S → (listed.setIfInBounds j true)[x]? = some true → listed[x]? = some true ∧ upd u j v x = u x ∧ Old (u x) w := fun x hxj hxS hx => by
          rw [hold x hxj] at hx
          refine ⟨hx, by simp [upd, hxj], ?_⟩
          obtain ⟨B, hB, hBs, hBr⟩ := hr x _ (List.getElem?_eq_getElem (hS x hxS))
          have hfx := hf x hx
          rw [List.getD_eq_getElem?_getD, hB] at hfx
          unfold Asked at hBr
          rw [if_pos (by simpa using hxS)] at hBr
          exact hBr.1 _ _ hfx
        by_cases hij : i = j
        · subst hij
          obtain ⟨h1, h2, h3⟩ := old k (Ne.symm hne) hkS hk
          rw [h2, show upd u i v i = v from by simp [upd]]
          exact (D.mk h3 (hfr hiS)).2
        · by_cases hkj : k = j
          · subst hkj
            obtain ⟨h1, h2, h3⟩ := old i hij hiS hi
            rw [h2, show upd u k v k = v from by simp [upd]]
            exact (D.mk h3 (hfr hkS)).1
          · obtain ⟨h1, h2, h3⟩ := old i hij hiS hi
            obtain ⟨g1, g2, g3⟩ := old k hkj hkS hk
            rw [h2, g2]
            exact hap i k h1 g1 hiS hkS hne
      · have keep : ∀ (y : Nat), listed[y]? = some true → (listed.setIfInBounds j true)[y]? = some true := fun y hy => by
          by_cases e : y = j
          · subst e; simp [hlt]
          · rw [hold y e]; exact hy
        by_cases hij : i = j
        · subst hij
          rw [hget i hj1, ho] at ho'
          cases ho'
          exact keep d (hdl d hd')
        · rw [hold i hij] at hi
          exact keep d (hcl i o' hi ho' d hd')
      · rw [hold i (by omega)]
        exact hun i hi hi2
      · have hcnt : (listed.setIfInBounds j true).count false + 1 = listed.count false := by
          have := Array.count_set (xs := listed) (i := j) (a := true) (b := false) hlt
          rw [Array.setIfInBounds, dif_pos hlt]
          have h3 : listed[j] = false := by simpa [hlt] using hjl
          have h4 : 0 < listed.count false := Array.count_pos_iff.2 (Array.mem_iff_getElem.2 ⟨j, hlt, h3⟩)
          rw [this]
          simp [h3]
          omega
        omega
    have hgo : (if Region.wanted o (yielded ops (putU l1 0 u a0).tmps) then ∀ K : Value → World → Prop, (∀ v w', E w w' → A v w' → (j ∈ S → Fresh v w) → K v w') → upon P K ((execOp (putU l1 0 u a0).eval o).run P w) else A undef w) := by
      unfold Asked at hrule
      by_cases hjS : S.contains j = true
      · rw [if_pos hjS] at hrule
        have := hrule.2 u w hc hdeps
        split
        · rename_i hw; rw [if_pos hw] at this
          exact fun K hK => this K fun v w' h1 h2 h3 => hK v w' h1 h2 (fun _ => h3)
        · rename_i hw; rw [if_neg hw] at this; exact this
      · rw [if_neg hjS] at hrule
        have := hrule u w hc hdeps
        split
        · rename_i hw; rw [if_pos hw] at this
          exact fun K hK => this K fun v w' h1 h2 => hK v w' h1 h2 (fun h => (hjS (by simpa using h)).elim)
        · rename_i hw; rw [if_neg hw] at this; exact this
    unfold wpOp
    rw [hget j hj1]
    simp only [ho]
    split
    · rename_i hw
      rw [if_pos hw] at hgo
      refine .inl ?_
      have h2 := hgo (fun v w' => wpAny P .any ops Q fuel (listed.setIfInBounds j true) ((putU l1 0 u a0).put o.dst v) w') step
      unfold Oper.wp
      generalize (execOp (putU l1 0 u a0).eval o).run P w = r at *
      cases r with
      | ok n w' =>
        cases n <;> simp only [upon] at h2 <;> simp only [Oper.upon]
        case value => exact h2
        case skip => exact h2
        case enter f args => exact h2.mono fun e w'' ⟨v, he, hk⟩ => by subst he; exact hk
      | halt x w' => simp only [upon] at h2
    · rename_i hw
      rw [if_neg hw] at hgo
      exact step undef w (hE w) hgo (fun _ b h => by simp [blk, undef] at h)
/-- A region that draws its order: the operations of l1, each walked once; behind them those of l2, one behind the other. -/
theorem wp_region_tail2 {id : Nat} {Q : Exit → Act → World → Prop} {a : Act} {w : World} {l : List Oper} (C : World → Prop) (E : World → World → Prop) (S : List Nat) (n : Nat) (hm : P.follows .mixedOrders = true) (hok : (S.all (fun i => i < (l.take n).length) && Ev.distinct (l.take n) && backB l.toArray && tailB l.toArray (l.take n).length) = true)
    (hE : ∀ w, E w w) (hC : ∀ w w', E w w' → C w → C w') (h0 : C { w with drawn := w.drawn + 1 })
    (h : walk2 P l.toArray (l.take n) C E S a (fun a' w' => wpList P l.toArray Q (l.drop n) a' w') (l.take n) []) : (Code.region id l.toArray true).wp P Q a w := by
  simp only [Bool.and_eq_true] at hok
  obtain ⟨⟨⟨hS, hd⟩, hb⟩, ht⟩ := hok
  obtain ⟨full, h1, _, h3, h4⟩ := walk2_env (l.take n) [] h
  simp only [List.length_nil, Nat.zero_add] at h1 h3
  refine wp_region_any hm ?_
  have hself : putU (l.take n) 0 (u0 a (l.take n).toArray) a = a := putU_self a (l.take n) 0 (fun j => by simp)
  have := wp_any_tail2 (P := P) (ops := l.toArray) (l1 := l.take n) (C := C) (E := E) (a0 := a) (Q := Q) (l2 := l.drop n) (S := S) (by simp) hd hb ht full (by simpa using h1) (fun i hi => by simpa using List.all_eq_true.1 hS i hi) hE hC (fun j o hj => h3 j o hj) h4
    l.toArray.size (Array.replicate l.toArray.size false) (u0 a (l.take n).toArray) _ (by simp) h0
    (fun i hi => by rw [Array.getElem?_replicate] at hi; split at hi <;> cases hi) (fun i _ hi => by rw [Array.getElem?_replicate] at hi; split at hi <;> cases hi) (fun i o hi => by rw [Array.getElem?_replicate] at hi; split at hi <;> cases hi)
    (fun i _ hi => by rw [Array.getElem?_replicate, if_pos (by simpa using hi)]) (by simp)
  rwa [hself] at this
/-- One operation that yields the one value 'c'. -/
theorem walk2_eq {ops : Array Oper} {l1 : List Oper} {C : World → Prop} {E : World → World → Prop} {S : List Nat} {a0 : Act} {Q : Act → World → Prop} {o : Oper} {r : List Oper} {env : List Fact} (c : Value) (hS : S.contains env.length = false)
    (h : ∀ u w, C w → facts env u w (depsOf o) →
      if Region.wanted o (yielded ops (putU l1 0 u a0).tmps) then ∀ K : Value → World → Prop, (∀ w', E w w' → K c w') → upon P K ((execOp (putU l1 0 u a0).eval o).run P w)
      else c = undef)
    (hr : walk2 P ops l1 C E S a0 Q r (env ++ [fun v _ => v = c])) : walk2 P ops l1 C E S a0 Q (o :: r) env :=
  ⟨_, fun _ _ _ _ h => h, by
    unfold Asked
    rw [hS]
    intro u w hc hf
    have := h u w hc hf
    split
    · rename_i hw
      rw [if_pos hw] at this
      exact fun K hK => this K (fun w' he => hK c w' he rfl)
    · rename_i hw
      rw [if_neg hw] at this
      exact this.symm, hr⟩
/-- One operation of which a fact is known. -/
theorem walk2_rel {ops : Array Oper} {l1 : List Oper} {C : World → Prop} {E : World → World → Prop} {S : List Nat} {a0 : Act} {Q : Act → World → Prop} {o : Oper} {r : List Oper} {env : List Fact} (A : Fact) (hs : Stable E A) (hS : S.contains env.length = false)
    (h : Rule P ops l1 C E a0 o env A) (hr : walk2 P ops l1 C E S a0 Q r (env ++ [A])) : walk2 P ops l1 C E S a0 Q (o :: r) env := ⟨A, hs, by unfold Asked; rw [hS]; exact h, hr⟩
/-- One operation that makes memory. -/
theorem walk2_new {ops : Array Oper} {l1 : List Oper} {C : World → Prop} {E : World → World → Prop} {S : List Nat} {a0 : Act} {Q : Act → World → Prop} {o : Oper} {r : List Oper} {env : List Fact} (A : Fact) (hs : Stable E A) (ho : ∀ v w, A v w → Old v w) (hS : S.contains env.length = true)
    (h : RuleN P ops l1 C E a0 o env A) (hr : walk2 P ops l1 C E S a0 Q r (env ++ [A])) : walk2 P ops l1 C E S a0 Q (o :: r) env := ⟨A, hs, by unfold Asked; rw [hS]; exact ⟨ho, h⟩, hr⟩
/-- A variable that was just made. -/
def NewBox (B : Nat) (cells : Array Value) (T : TypeId) (v : Value) (w : World) : Prop := ∃ b, v = .pointer (some ⟨b, 0, none⟩) ∧ B ≤ b ∧ w.heap[b]? = some (.cells cells T)
theorem NewBox.stable {B : Nat} {cells : Array Value} {T : TypeId} : Ev.Stable Ev.Ext (NewBox B cells T) := fun v w w' h ⟨b, e, hb, hc⟩ => ⟨b, e, hb, by rw [h.block b (Array.getElem?_eq_some_iff.1 hc).1]; exact hc⟩
theorem NewBox.old {B : Nat} {cells : Array Value} {T : TypeId} : ∀ v w, NewBox B cells T v w → Old v w := fun v w ⟨b, e, hb, hc⟩ c h => by
  subst e
  simp [blk] at h
  subst h
  exact (Array.getElem?_eq_some_iff.1 hc).1
theorem fresh_ptr (w : World) : Fresh (.pointer (some ⟨w.heap.size, 0, none⟩)) w := fun b h => by simp [blk] at h; omega
end Go.Proofs.Ytlcahhlghjbnkaa.Ev2
end

section
namespace Go.Proofs.Ytlcahhlghjbnkaa.K
open Go
structure Hid' (a b : Int) : Prop where
  out : a = b
def bt (s : ByteArray) (i : Nat) : Nat := (s.get! i).toNat
theorem bt_lt (s : ByteArray) (i : Nat) : bt s i < 256 := (s.get! i).toNat_lt
theorem get_bt (s : ByteArray) (i : Nat) (h : i < s.size) : (s[i]'h).toNat = bt s i := by
  unfold bt; rw [← get_at s i h]; rfl
def okAt (s : ByteArray) (i : Nat) : Bool := !((Utf8.decode s i).1 == 65533 && (Utf8.decode s i).2 == 1)
def wd (s : ByteArray) (i : Nat) : Nat := (Utf8.decode s i).2
def rn (s : ByteArray) (i : Nat) : Nat := (Utf8.decode s i).1
def longN (b : Nat) : Nat := if b < 128 then 1 else if 194 ≤ b ∧ b ≤ 223 then 2 else if 224 ≤ b ∧ b ≤ 239 then 3 else if 240 ≤ b ∧ b ≤ 244 then 4 else 0
def contN (b : Nat) : Bool := decide (128 ≤ b ∧ b ≤ 191)
def exc (a b : Nat) : Bool := (a == 224 && decide (b < 160)) || (a == 237 && decide (159 < b)) || (a == 240 && decide (b < 144)) || (a == 244 && decide (143 < b))
/-- the reference's step -/
def refOk (s : ByteArray) (i : Nat) : Bool :=
  longN (bt s i) != 0 && decide (longN (bt s i) ≤ s.size - i) && (decide (longN (bt s i) ≤ 1) || contN (bt s (i+1))) && (decide (longN (bt s i) ≤ 2) || contN (bt s (i+2))) && (decide (longN (bt s i) ≤ 3) || contN (bt s (i+3))) && !(exc (bt s i) (bt s (i+1)))
def dec (b0 b1 b2 b3 : Nat) (c1 c2 c3 : Bool) : Nat × Nat :=
  if b0 < 0x80 then (b0, 1)
  else if b0 / 32 == 6 && (c1 && b1 / 64 == 2) then
    if (b0 % 32) * 64 + b1 % 64 ≥ 0x80 then ((b0 % 32) * 64 + b1 % 64, 2) else (65533, 1)
  else if b0 / 16 == 14 && (c1 && b1 / 64 == 2) && (c2 && b2 / 64 == 2) then
    if (b0 % 16) * 4096 + (b1 % 64) * 64 + b2 % 64 ≥ 0x800 && Utf8.valid ((b0 % 16) * 4096 + (b1 % 64) * 64 + b2 % 64 : Nat) then ((b0 % 16) * 4096 + (b1 % 64) * 64 + b2 % 64, 3) else (65533, 1)
  else if b0 / 8 == 30 && (c1 && b1 / 64 == 2) && (c2 && b2 / 64 == 2) && (c3 && b3 / 64 == 2) then
    if (b0 % 8) * 262144 + (b1 % 64) * 4096 + (b2 % 64) * 64 + b3 % 64 ≥ 0x10000 && Utf8.valid ((b0 % 8) * 262144 + (b1 % 64) * 4096 + (b2 % 64) * 64 + b3 % 64 : Nat) then ((b0 % 8) * 262144 + (b1 % 64) * 4096 + (b2 % 64) * 64 + b3 % 64, 4) else (65533, 1)
  else (65533, 1)
theorem decode_bt (s : ByteArray) (i : Nat) : Utf8.decode s i = dec (bt s i) (bt s (i+1)) (bt s (i+2)) (bt s (i+3)) (i + 1 < s.size) (i + 2 < s.size) (i + 3 < s.size) := rfl
theorem valid_iff (n : Nat) : Utf8.valid (n : Int) = true ↔ n < 55296 ∨ (57344 ≤ n ∧ n ≤ 1114111) := by
  simp only [Utf8.valid, Bool.or_eq_true, Bool.and_eq_true, decide_eq_true_eq]; omega
theorem ref_ok (s : ByteArray) (i : Nat) (h : i < s.size) : refOk s i = okAt s i ∧ (okAt s i = true → longN (bt s i) = wd s i) := by
  have h0 := bt_lt s i; have h1 := bt_lt s (i+1); have h2 := bt_lt s (i+2); have h3 := bt_lt s (i+3)
  have key : (refOk s i = true ↔ okAt s i = true) ∧ (okAt s i = true → longN (bt s i) = wd s i) := by
    simp only [okAt, wd, refOk, exc, contN, decode_bt]
    simp only [Bool.and_eq_true, Bool.or_eq_true, Bool.not_eq_true', Bool.or_eq_false_iff, Bool.and_eq_false_iff, bne_iff_ne, decide_eq_true_eq, beq_eq_false_iff_ne, decide_eq_false_iff_not]
    generalize bt s i = a at *
    generalize bt s (i+1) = b at *
    generalize bt s (i+2) = c at *
    generalize bt s (i+3) = d at *
    unfold longN dec
    simp only [Bool.and_eq_true, beq_iff_eq, decide_eq_true_eq, ge_iff_le, valid_iff]
    repeat' split
    all_goals simp
    all_goals (try omega)
  exact ⟨by rw [Bool.eq_iff_iff]; exact key.1, key.2⟩
end Go.Proofs.Ytlcahhlghjbnkaa.K
namespace Go.Proofs.Ytlcahhlghjbnkaa.K
open Go
theorem wd_pos (s : ByteArray) (i : Nat) (h : i < s.size) : 1 ≤ wd s i := by
  unfold wd
  by_cases ha : (s[i]'h).toNat < 128
  · rw [decode_ascii s i h ha]; exact Nat.le_refl _
  · exact (decode_high s i h (by omega)).2
def runesF (s : ByteArray) : Nat → Nat → Option Nat
  | 0, _ => some 0
  | f + 1, i => if i < s.size then (if okAt s i then (runesF s f (i + wd s i)).map (· + 1) else none) else some 0
def runes (s : ByteArray) : Int := match runesF s s.size 0 with | some n => n | none => -1
theorem runesF_end (s : ByteArray) (f i : Nat) (h : ¬ i < s.size) : runesF s f i = some 0 := by cases f <;> simp [runesF, h]
theorem runesF_bad (s : ByteArray) (f i : Nat) (h : i < s.size) (hf : s.size ≤ i + f) (ho : okAt s i = false) : runesF s f i = none := by
  cases f with
  | zero => omega
  | succ f => simp [runesF, h, ho]
theorem runesF_ok (s : ByteArray) (f i : Nat) (h : i < s.size) (hf : s.size ≤ i + f) (ho : okAt s i = true) : ∃ g, s.size ≤ i + wd s i + g ∧ runesF s f i = (runesF s g (i + wd s i)).map (· + 1) := by
  cases f with
  | zero => omega
  | succ f => exact ⟨f, by have := wd_pos s i h; omega, by simp [runesF, h, ho]⟩
/-- where a count stands -/
def At (s : ByteArray) (i n : Nat) : Prop := ∃ f, s.size ≤ i + f ∧ runesF s s.size 0 = (runesF s f i).map (· + n)
theorem At.start (s : ByteArray) : At s 0 0 := ⟨s.size, by omega, by simp⟩
theorem At.next {s : ByteArray} {i n : Nat} (h : At s i n) (hi : i < s.size) (ho : okAt s i = true) : At s (i + wd s i) (n + 1) := by
  obtain ⟨f, h1, h2⟩ := h
  obtain ⟨g, h3, h4⟩ := runesF_ok s f i hi h1 ho
  refine ⟨g, h3, ?_⟩
  rw [h2, h4, Option.map_map]
  congr 1; funext x; simp; omega
theorem At.bad {s : ByteArray} {i n : Nat} (h : At s i n) (hi : i < s.size) (ho : okAt s i = false) : runes s = -1 := by
  obtain ⟨f, h1, h2⟩ := h
  unfold runes
  rw [h2, runesF_bad s f i hi h1 ho]; rfl
theorem At.done {s : ByteArray} {i n : Nat} (h : At s i n) (hi : ¬ i < s.size) : runes s = n := by
  obtain ⟨f, h1, h2⟩ := h
  unfold runes
  rw [h2, runesF_end s f i hi]; simp
theorem decode_fffd (s : ByteArray) (i : Nat) (h : i < s.size) :
    (okAt s i = true → rn s i = 65533 → bt s i = 239 ∧ 3 ≤ s.size - i ∧ bt s (i+1) = 191 ∧ bt s (i+2) = 189) ∧
    (okAt s i = false → rn s i = 65533 ∧ ¬ (bt s i = 239 ∧ 3 ≤ s.size - i ∧ bt s (i+1) = 191 ∧ bt s (i+2) = 189)) := by
  have h0 := bt_lt s i; have h1 := bt_lt s (i+1); have h2 := bt_lt s (i+2); have h3 := bt_lt s (i+3)
  simp only [okAt, rn, decode_bt]
  simp only [Bool.not_eq_true', Bool.not_eq_false', Bool.and_eq_true, Bool.and_eq_false_iff, beq_iff_eq, beq_eq_false_iff_ne]
  generalize bt s i = a at *
  generalize bt s (i+1) = b at *
  generalize bt s (i+2) = c at *
  generalize bt s (i+3) = d at *
  unfold dec
  simp only [Bool.and_eq_true, beq_iff_eq, decide_eq_true_eq, ge_iff_le, valid_iff]
  repeat' split
  all_goals simp
  all_goals (try omega)
theorem rn_bytes (s : ByteArray) (i : Nat) (h : i < s.size) (ho : okAt s i = true) :
    i + wd s i ≤ s.size ∧ (33 ≤ rn s i ↔ ∀ t, i ≤ t → t < i + wd s i → 33 ≤ bt s t) := by
  have h0 := bt_lt s i; have h1 := bt_lt s (i+1); have h2 := bt_lt s (i+2); have h3 := bt_lt s (i+3)
  have hq : i + wd s i ≤ s.size ∧ wd s i ≤ 4 ∧ (wd s i ≤ 1 → rn s i = bt s i ∧ wd s i = 1) ∧ (2 ≤ wd s i → 33 ≤ rn s i ∧ 33 ≤ bt s i ∧ 33 ≤ bt s (i+1)) ∧ (3 ≤ wd s i → 33 ≤ bt s (i+2)) ∧ (4 ≤ wd s i → 33 ≤ bt s (i+3)) := by
    simp only [okAt, rn, wd, decode_bt] at *
    simp only [Bool.not_eq_true', Bool.and_eq_false_iff, beq_eq_false_iff_ne] at ho
    generalize bt s i = a at *
    generalize bt s (i+1) = b at *
    generalize bt s (i+2) = c at *
    generalize bt s (i+3) = d at *
    generalize hq : dec a b c d _ _ _ = q at *
    obtain ⟨r, k⟩ := q
    unfold dec at hq
    simp only [Bool.and_eq_true, beq_iff_eq, decide_eq_true_eq, ge_iff_le, valid_iff] at hq
    simp only at ho ⊢
    repeat' split at hq
    all_goals
      simp only [Prod.mk.injEq] at hq
      obtain ⟨rfl, rfl⟩ := hq
      omega
  obtain ⟨q1, q2, q3, q4, q5, q6⟩ := hq
  refine ⟨q1, fun hr t t1 t2 => ?_, fun hall => ?_⟩
  · rcases Nat.lt_or_ge 1 (wd s i) with hw | hw
    · have := q4 hw
      have e : t = i ∨ t = i + 1 ∨ t = i + 2 ∨ t = i + 3 := by omega
      rcases e with rfl | rfl | rfl | rfl
      · exact this.2.1
      · exact this.2.2
      · exact q5 (by omega)
      · exact q6 (by omega)
    · have := q3 hw
      obtain rfl : t = i := by omega
      omega
  · rcases Nat.lt_or_ge 1 (wd s i) with hw | hw
    · exact (q4 hw).1
    · have := q3 hw
      have := hall i (Nat.le_refl _) (by omega)
      omega
end Go.Proofs.Ytlcahhlghjbnkaa.K
namespace Go.Proofs.Ytlcahhlghjbnkaa.K
open Go
theorem get_list (s : ByteArray) (i : Nat) (h : i < s.size) : s.get! i = s.data.toList[i]'(by simpa using h) := by
  have := get_at s i h
  rw [Nat.add_zero] at this
  rw [this]; rfl
theorem ext3 (s : ByteArray) (i : Nat) (h : i + 3 ≤ s.size) : (s.extract i (i + 3)).toList = [s.get! i, s.get! (i+1), s.get! (i+2)] := by
  rw [ByteArray.toList_eq, ByteArray.data_extract, Array.toList_extract, get_list s i (by omega), get_list s (i+1) (by omega), get_list s (i+2) (by omega)]
  simp only [List.extract_eq_take_drop]
  have hl : s.data.toList.length = s.size := by simp
  apply List.ext_getElem
  · simp only [List.length_take, List.length_drop, hl, List.length_cons, List.length_nil]; omega
  · intro k h1 h2
    have : k = 0 ∨ k = 1 ∨ k = 2 := by simp at h2; omega
    rcases this with rfl | rfl | rfl <;> simp [List.getElem_drop]
theorem fffd_no (s : ByteArray) (i : Nat) (h : i < s.size) (ho : okAt s i = false) (h1 : (((s[i]'h).toNat : Int) != (((⟨#[239, 191, 189]⟩ : ByteArray)[0]).toNat : Int)) = false)
    (h2 : (3 : Int) ≤ (s.size : Int) - (i : Int)) (h3 : (!(s.extract i (i + 3)).toList == [239, 191, 189]) = false) : False := by
  have := (decode_fffd s i h).2 ho
  refine this.2 ⟨?_, by omega, ?_⟩
  · rw [← get_bt s i h]
    have e : (((⟨#[239, 191, 189]⟩ : ByteArray)[0]).toNat : Int) = 239 := rfl
    rw [e, bne_eq_false_iff_eq] at h1
    omega
  · rw [ext3 s i (by omega)] at h3
    have e : s.get! i = 239 ∧ s.get! (i+1) = 191 ∧ s.get! (i+2) = 189 := by simpa using h3
    unfold bt
    rw [e.2.1, e.2.2]
    exact ⟨rfl, rfl⟩
theorem fffd_b (s : ByteArray) (i : Nat) (h : i < s.size) (ho : okAt s i = true) (hr : Hid' ((Utf8.decode s i).1 : Int) 65533) : (((s[i]'h).toNat : Int) != (((⟨#[239, 191, 189]⟩ : ByteArray)[0]).toNat : Int)) = false ∧ (3 : Int) ≤ (s.size : Int) - (i : Int) ∧ (!(s.extract i (i + 3)).toList == [239, 191, 189]) = false := by
  have := (decode_fffd s i h).1 ho (by have := hr.out; unfold rn; omega)
  obtain ⟨a, b, c, d⟩ := this
  refine ⟨?_, by omega, ?_⟩
  · have e : (s[i]'h).toNat = 239 := by rw [get_bt s i h, a]
    rw [bne_eq_false_iff_eq, e]; rfl
  · rw [ext3 s i (by omega)]
    have e0 : s.get! i = 239 := UInt8.toNat_inj.1 a
    have e1 : s.get! (i+1) = 191 := UInt8.toNat_inj.1 c
    have e2 : s.get! (i+2) = 189 := UInt8.toNat_inj.1 d
    rw [e0, e1, e2]; rfl
theorem extract_all (s : ByteArray) (n : Nat) (h : s.size ≤ n) : s.extract 0 n = s := by
  apply ByteArray.ext
  rw [ByteArray.data_extract]
  apply Array.ext
  · simp only [Array.size_extract, ByteArray.size_data]; omega
  · intro i h1 h2; simp
def hasB (f t k : ByteArray) : Bool := !(Op.bytesLess k.toList f.toList) && (t.toList.isEmpty || Op.bytesLess k.toList t.toList)
def allF (s : ByteArray) : Nat → Nat → Bool
  | 0, _ => true
  | f + 1, i => if i < s.size then decide (33 ≤ rn s i) && allF s f (i + wd s i) else true
def lim (s : ByteArray) : Bool := decide (1 ≤ runes s) && decide (runes s ≤ 8)
def checkB (s : ByteArray) : Bool := lim s && allF s s.size 0
theorem allF_end (s : ByteArray) (f i : Nat) (h : ¬ i < s.size) : allF s f i = true := by cases f <;> simp [allF, h]
theorem allF_step (s : ByteArray) (f i : Nat) (h : i < s.size) (hf : s.size ≤ i + f) : ∃ g, s.size ≤ i + wd s i + g ∧ allF s f i = (decide (33 ≤ rn s i) && allF s g (i + wd s i)) := by
  cases f with
  | zero => omega
  | succ f => exact ⟨f, by have := wd_pos s i h; omega, by simp [allF, h]⟩
/-- where the loop of Check stands: right so far is r -/
def CAt (s : ByteArray) (i : Nat) (r : Bool) : Prop := ∃ f, s.size ≤ i + f ∧ checkB s = (r && allF s f i)
theorem CAt.start (s : ByteArray) : CAt s 0 (lim s) := ⟨s.size, by omega, rfl⟩
theorem CAt.next {s : ByteArray} {i : Nat} (h : CAt s i true) (hi : i < s.size) : CAt s (i + wd s i) (decide (33 ≤ rn s i)) := by
  obtain ⟨f, h1, h2⟩ := h
  obtain ⟨g, h3, h4⟩ := allF_step s f i hi h1
  exact ⟨g, h3, by rw [h2, h4]; simp⟩
theorem CAt.no {s : ByteArray} {i : Nat} (h : CAt s i false) : checkB s = false := by
  obtain ⟨f, h1, h2⟩ := h
  simpa using h2
theorem CAt.done {s : ByteArray} {i : Nat} {r : Bool} (h : CAt s i r) (hi : ¬ i < s.size) : checkB s = r := by
  obtain ⟨f, h1, h2⟩ := h
  rw [h2, allF_end s f i hi]; simp
/-- the reference: all bytes -/
def bytesOk (s : ByteArray) : Bool := s.data.toList.all (fun c => decide (33 ≤ c.toNat))
def rcheckB (s : ByteArray) : Bool := bytesOk s && lim s
def longI (n : Int) : Int := if n < 128 then 1 else if 194 ≤ n ∧ n ≤ 223 then 2 else if 224 ≤ n ∧ n ≤ 239 then 3 else if 240 ≤ n ∧ n ≤ 244 then 4 else 0
theorem longI_eq (b : Nat) : longI (b : Int) = (longN b : Int) := by
  unfold longI longN
  repeat' split
  all_goals first | rfl | omega
theorem longI_big {K n : Int} (h : Hid' K (longI n)) (h0 : ¬ K = 0) (h1 : 224 ≤ n) : 3 ≤ K := by
  have := h.out
  unfold longI at this
  (repeat' split at this) <;> omega
theorem longI_le {K n : Int} (h : Hid' K (longI n)) : 0 ≤ K ∧ K ≤ 4 := by
  have := h.out
  unfold longI at this
  (repeat' split at this) <;> omega
theorem longN_le (b : Nat) : longN b ≤ 4 := by
  unfold longN
  repeat' split
  all_goals omega
def Conts (s : ByteArray) (i j : Nat) : Prop := ∀ t, 1 ≤ t → t < j → contN (bt s (i + t)) = true
theorem Conts.start (s : ByteArray) (i : Nat) : Conts s i 1 := fun t h1 h2 => by omega
theorem Conts.next {s : ByteArray} {i j : Nat} (h : Conts s i j) (hj : contN (bt s (i + j)) = true) : Conts s i (j + 1) := fun t h1 h2 => by
  by_cases e : t = j
  · rw [e]; exact hj
  · exact h t h1 (by omega)
theorem refOk_of {s : ByteArray} {i : Nat} (h0 : longN (bt s i) ≠ 0) (h1 : longN (bt s i) ≤ s.size - i) (hc : Conts s i (longN (bt s i))) (he : exc (bt s i) (bt s (i + 1)) = false) : refOk s i = true := by
  unfold refOk
  simp only [Bool.and_eq_true, bne_iff_ne, ne_eq, decide_eq_true_eq, Bool.or_eq_true, he, Bool.not_false, and_true]
  refine ⟨⟨⟨⟨h0, h1⟩, ?_⟩, ?_⟩, ?_⟩
  all_goals first
    | (rcases Nat.lt_or_ge 1 (longN (bt s i)) with h | h; exact .inr (hc 1 (by omega) h); exact .inl h)
    | (rcases Nat.lt_or_ge 2 (longN (bt s i)) with h | h; exact .inr (hc 2 (by omega) h); exact .inl h)
    | (rcases Nat.lt_or_ge 3 (longN (bt s i)) with h | h; exact .inr (hc 3 (by omega) h); exact .inl h)
theorem refOk_spec {s : ByteArray} {i : Nat} (h : refOk s i = true) : longN (bt s i) ≠ 0 ∧ longN (bt s i) ≤ s.size - i ∧ Conts s i (longN (bt s i)) ∧ exc (bt s i) (bt s (i + 1)) = false := by
  unfold refOk at h
  simp only [Bool.and_eq_true, bne_iff_ne, ne_eq, decide_eq_true_eq, Bool.or_eq_true, Bool.not_eq_true'] at h
  obtain ⟨⟨⟨⟨⟨h0, h1⟩, h2⟩, h3⟩, h4⟩, h5⟩ := h
  refine ⟨h0, h1, fun t t1 t2 => ?_, h5⟩
  have := longN_le (bt s i)
  have : t = 1 ∨ t = 2 ∨ t = 3 := by omega
  rcases this with rfl | rfl | rfl
  · exact h2.resolve_left (by omega)
  · exact h3.resolve_left (by omega)
  · exact h4.resolve_left (by omega)
/-- the reference's round, bad: the count is -1 -/
theorem At.rbad {s : ByteArray} {i n : Nat} (h : At s i n) (hi : i < s.size) (hn : refOk s i = false) : runes s = -1 := h.bad hi (by rw [← (ref_ok s i hi).1]; exact hn)
theorem At.rlong0 {s : ByteArray} {i n : Nat} (h : At s i n) (hi : i < s.size) {K : Int} (hK : Hid' K (longI (s[i]'hi).toNat)) (h0 : K = 0 ∨ (s.size : Int) - i < K) : runes s = -1 := h.rbad hi (by
  rw [hK.out] at h0
  rw [get_bt s i hi] at h0
  cases hr : refOk s i with
  | false => rfl
  | true =>
    obtain ⟨a, b, _⟩ := refOk_spec hr
    rw [longI_eq] at h0
    omega)
theorem At.rcont {s : ByteArray} {i n j : Nat} (h : At s i n) (hi : i < s.size) (h1 : 1 ≤ j) {K : Int} (hK : Hid' K (longI (s[i]'hi).toNat)) (hj : (j : Int) < K) (h2 : i + j < s.size) (hb : (((s[i + j]'h2).toNat : Nat) : Int) < 128 ∨ (191 : Int) < ((s[i + j]'h2).toNat : Nat)) : runes s = -1 := h.rbad hi (by
  rw [hK.out, get_bt s i hi] at hj
  rw [get_bt s (i + j) h2] at hb
  cases hr : refOk s i with
  | false => rfl
  | true =>
    obtain ⟨a, b, c, _⟩ := refOk_spec hr
    rw [longI_eq] at hj
    have := c j h1 (by omega)
    unfold contN at this
    simp only [decide_eq_true_eq] at this
    omega)
theorem At.rexc {s : ByteArray} {i n : Nat} (h : At s i n) (hi : i < s.size) (he : exc (bt s i) (bt s (i + 1)) = true) : runes s = -1 := h.rbad hi (by
  cases hr : refOk s i with
  | false => rfl
  | true => rw [(refOk_spec hr).2.2.2] at he; cases he)
theorem At.rnext {s : ByteArray} {i n : Nat} {K : Int} (h : At s i n) (hi : i < s.size) (hK' : Hid' K (longI (s[i]'hi).toNat)) (h0 : ¬ K = 0) (h1 : K ≤ (s.size : Int) - i) (hc : Conts s i K.toNat) (he : exc (bt s i) (bt s (i + 1)) = false) : At s (i + K.toNat) (n + 1) := by
  have hK := hK'.out
  rw [get_bt s i hi, longI_eq] at hK
  obtain rfl : K = _ := hK
  rw [Int.toNat_natCast] at hc ⊢
  have hr : refOk s i = true := refOk_of (by omega) (by omega) hc he
  have ho := (ref_ok s i hi)
  rw [ho.1] at hr
  rw [ho.2 hr]
  exact h.next hi hr
def BOk (s : ByteArray) (i : Nat) : Prop := ∀ t, t < i → 33 ≤ bt s t
theorem BOk.start (s : ByteArray) : BOk s 0 := fun t h => by omega
theorem BOk.next {s : ByteArray} {i : Nat} (h : BOk s i) (hi : 33 ≤ bt s i) : BOk s (i + 1) := fun t ht => by
  by_cases e : t = i
  · rw [e]; exact hi
  · exact h t (by omega)
theorem bytesOk_iff (s : ByteArray) : bytesOk s = true ↔ BOk s s.size := by
  unfold bytesOk BOk
  rw [List.all_eq_true]
  constructor
  · intro h t ht
    have := h _ (List.getElem_mem (l := s.data.toList) (n := t) (by simpa using ht))
    rw [← get_list s t ht] at this
    simpa [bt] using this
  · intro h x hx
    obtain ⟨t, ht, rfl⟩ := List.getElem_of_mem hx
    have h' : t < s.size := by simpa using ht
    have := h t h'
    rw [← get_list s t h']
    simpa [bt] using this
theorem BOk.yes {s : ByteArray} (h : BOk s s.size) : rcheckB s = lim s := by
  unfold rcheckB; rw [(bytesOk_iff s).2 h]; simp
theorem rcheck_no {s : ByteArray} {i : Nat} (h : i < s.size) (hb : bt s i < 33) : rcheckB s = false := by
  unfold rcheckB
  have : bytesOk s = false := by
    cases hb' : bytesOk s with
    | false => rfl
    | true => have := (bytesOk_iff s).1 hb' i h; omega
  rw [this]; rfl
theorem allF_iff (s : ByteArray) : ∀ (f i : Nat), s.size ≤ i + f → runesF s f i ≠ none → (allF s f i = true ↔ ∀ t, i ≤ t → t < s.size → 33 ≤ bt s t)
  | 0, i, hf, _ => by simp only [allF, true_iff]; intro t h1 h2; omega
  | f + 1, i, hf, hn => by
    by_cases hi : i < s.size
    · cases ho : okAt s i with
      | false => simp [runesF, hi, ho] at hn
      | true =>
        have hr := rn_bytes s i hi ho
        have hw := wd_pos s i hi
        have ih := allF_iff s f (i + wd s i) (by omega) (by simp [runesF, hi, ho] at hn; exact hn)
        simp only [allF, hi, if_true, Bool.and_eq_true, decide_eq_true_eq, ih, hr.2]
        constructor
        · rintro ⟨a, b⟩ t t1 t2
          rcases Nat.lt_or_ge t (i + wd s i) with h | h
          · exact a t t1 h
          · exact b t h t2
        · intro h
          exact ⟨fun t t1 t2 => h t t1 (by omega), fun t t1 t2 => h t (by omega) t2⟩
    · simp only [allF, hi, if_false, true_iff]; intro t h1 h2; omega
theorem check_eq (s : ByteArray) : checkB s = rcheckB s := by
  unfold checkB rcheckB
  cases hl : lim s with
  | false => simp
  | true =>
    have hn : runesF s s.size 0 ≠ none := by
      intro h
      unfold lim runes at hl
      rw [h] at hl
      simp at hl
    have := allF_iff s s.size 0 (by omega) hn
    rw [Bool.true_and, Bool.and_true, Bool.eq_iff_iff, this, bytesOk_iff]
    exact ⟨fun h t ht => h t (Nat.zero_le _) ht, fun h t _ ht => h t ht⟩
theorem bl_irrefl : ∀ a : List UInt8, Op.bytesLess a a = false
  | [] => rfl
  | x :: r => by simp [Op.bytesLess, bl_irrefl r]
theorem bl_trans : ∀ a b c : List UInt8, Op.bytesLess a b = true → Op.bytesLess b c = true → Op.bytesLess a c = true
  | [], [], _, h, _ => by simp [Op.bytesLess] at h
  | [], _ :: _, [], _, h => by simp [Op.bytesLess] at h
  | [], _ :: _, _ :: _, _, _ => by simp [Op.bytesLess]
  | _ :: _, [], _, h, _ => by simp [Op.bytesLess] at h
  | _ :: _, _ :: _, [], _, h => by simp [Op.bytesLess] at h
  | x :: a, y :: b, z :: c, h1, h2 => by
    have ih := bl_trans a b c
    simp only [Op.bytesLess, Bool.or_eq_true, Bool.and_eq_true, decide_eq_true_eq, beq_iff_eq] at *
    rcases h1 with h1 | ⟨rfl, h1⟩ <;> rcases h2 with h2 | ⟨rfl, h2⟩
    · exact .inl (UInt8.lt_trans h1 h2)
    · exact .inl h1
    · exact .inl h2
    · exact .inr ⟨rfl, ih h1 h2⟩
theorem bl_tri : ∀ a b : List UInt8, Op.bytesLess a b = false → Op.bytesLess b a = false → a = b
  | [], [], _, _ => rfl
  | [], _ :: _, h, _ => by simp [Op.bytesLess] at h
  | _ :: _, [], _, h => by simp [Op.bytesLess] at h
  | x :: a, y :: b, h1, h2 => by
    have ih := bl_tri a b
    simp only [Op.bytesLess, Bool.or_eq_false_iff, Bool.and_eq_false_iff, decide_eq_false_iff_not, beq_eq_false_iff_ne] at h1 h2
    have e : x = y := UInt8.le_antisymm (UInt8.not_lt.1 h2.1) (UInt8.not_lt.1 h1.1)
    subst e
    rw [ih (h1.2.resolve_left (fun h => h rfl)) (h2.2.resolve_left (fun h => h rfl))]
/-- at most -/
def le (a b : List UInt8) : Prop := Op.bytesLess b a = false
theorem le_of_lt {a b : List UInt8} (h : Op.bytesLess a b = true) : le a b := by
  unfold le
  cases hb : Op.bytesLess b a with
  | false => rfl
  | true => have := bl_trans a b a h hb; rw [bl_irrefl] at this; cases this
theorem lt_of_lt_le {a b c : List UInt8} (h : Op.bytesLess a b = true) (h2 : le b c) : Op.bytesLess a c = true := by
  cases hbc : Op.bytesLess b c with
  | true => exact bl_trans a b c h hbc
  | false => rw [← bl_tri b c hbc h2]; exact h
theorem le_trans {a b c : List UInt8} (h : le a b) (h2 : le b c) : le a c := by
  unfold le
  cases hca : Op.bytesLess c a with
  | false => rfl
  | true => have := lt_of_lt_le hca h; rw [h2] at this; cases this
end Go.Proofs.Ytlcahhlghjbnkaa.K
namespace Go.Proofs.Ytlcahhlghjbnkaa.K
open Go
end Go.Proofs.Ytlcahhlghjbnkaa.K
end

section
namespace Go.Proofs.Ytlcahhlghjbnkaa
open Go.RowKit
set_option maxHeartbeats 400000 in
theorem runes_any (s : ByteArray) (hs : s.size ≤ 9223372036854775807) (w : World) :
    Calls Try.prog 50 #[.string s] w fun e w' => e = .returned (.int .i64 (K.runes s)) ∧ Below w.heap.size w w' := by
  go_enter Try.func50, Try.ntmps50
  go_wp2
  go_loopw [2, 3] (fun r n wr => ∃ (pos k : Nat), wr.heap[w.heap.size]? = some (.stringIter s pos) ∧ Below w.heap.size w wr ∧ r = .int .i64 0 ∧ n = .int .i64 k ∧ k ≤ pos ∧ K.At s pos k) (fun _ _ wr => s.size - wr.iterPos w.heap.size)
  case atStart => exact ⟨0, 0, World.iter_heap w s 0, (Below.refl _ _).alloc (Nat.le_refl _) _, rfl, rfl, Nat.le_refl _, K.At.start s⟩
  case round =>
    obtain ⟨pos, k, hit, hb, rfl, rfl, hk, hat⟩ := hrel
    by_cases hp : pos < s.size
    · have hnx : ∀ ty, (Instr.next (.pointer (some ⟨w.heap.size, 0, none⟩)) true ty).run Try.prog wr = _ := fun ty => Lib.run_next_any_at wr w.heap.size s pos ty hit hp
      have hw0 := K.wd_pos s pos hp
      have hit2 := Lib.iterAt_heap wr w.heap.size s pos (pos + (Utf8.decode s pos).2) hit
      have hb2 := Lib.below_iterAt hb (k := w.heap.size) (Nat.le_refl _) s (pos + (Utf8.decode s pos).2)
      unfold K.wd at hw0
      have hm : ∀ nq, s.size - ((wr.iterAt w.heap.size s (pos + (Utf8.decode s pos).2)).drewN nq).iterPos w.heap.size < s.size - wr.iterPos w.heap.size := fun nq => by
        have e1 : wr.iterPos w.heap.size = pos := by simp [World.iterPos, hit]
        have e2 : ((wr.iterAt w.heap.size s (pos + (Utf8.decode s pos).2)).drewN nq).iterPos w.heap.size = pos + (Utf8.decode s pos).2 := by simp [World.iterPos, hit2]
        rw [e1, e2]; omega
      have HM := Lib.hid hm
      clear hm
      go_wp2
      by_cases hr : (((Utf8.decode s pos).1 : Nat) : Int) = 65533
      · have hr1 : ((((Utf8.decode s pos).1 : Nat) : Int) == 65533) = true := by rw [hr]; rfl
        have HR : K.Hid' _ _ := ⟨hr⟩
        clear hr
        cases hok : K.okAt s pos
        · go_quiet (fail)
          go_wp2
          · go_ret
            rw [hat.bad hp hok]; exact ⟨rfl, below_drewN hb2 _⟩
          · go_ret
            rw [hat.bad hp hok]; exact ⟨rfl, below_drewN hb2 _⟩
          · exact (K.fffd_no s pos hp hok (by assumption) (by assumption) (by rename_i h; exact h.2)).elim
          · go_ret
            rw [hat.bad hp hok]; exact ⟨rfl, below_drewN hb2 _⟩
        · have ⟨f1, f2, f3⟩ := K.fffd_b s pos hp hok HR
          have f4 : ¬ (s.size : Int) - (pos : Int) < 3 := by omega
          go_quiet (fail)
          go_wp2
          exact ⟨⟨pos + (Utf8.decode s pos).2, k + 1, hit2, below_drewN hb2 _, rfl, by go_num, by omega, hat.next hp hok⟩, HM.out _⟩
      · have hr1 : ((((Utf8.decode s pos).1 : Nat) : Int) == 65533) = false := by simpa using hr
        have hok : K.okAt s pos = true := by
          cases ho : K.okAt s pos with
          | true => rfl
          | false => exact absurd (by have := ((K.decode_fffd s pos hp).2 ho).1; unfold K.rn at this; omega) hr
        clear hr
        go_quiet (fail)
        go_wp2
        exact ⟨⟨pos + (Utf8.decode s pos).2, k + 1, hit2, below_drewN hb2 _, rfl, by go_num, by omega, hat.next hp hok⟩, HM.out _⟩
    · have hnx : ∀ ty, (Instr.next (.pointer (some ⟨w.heap.size, 0, none⟩)) true ty).run Try.prog wr = _ := fun ty => Lib.run_next_end_at wr w.heap.size s pos ty hit hp
      go_wp2
      go_ret
      rw [hat.done hp]; exact ⟨rfl, hb⟩
set_option maxHeartbeats 400000 in
theorem check_any (s : ByteArray) (hs : s.size ≤ 9223372036854775807) (w : World) :
    Calls Try.prog 30 #[.string s] w fun e w' => e = .returned (.bool (K.checkB s)) ∧ Below w.heap.size w w' := by
  by_cases h1 : 1 ≤ K.runes s
  all_goals
    have hl0 : K.lim s = decide (K.runes s ≤ 8) ∨ ¬ 1 ≤ K.runes s := by simp [K.lim, h1]
    have hl1 : K.lim s = false ∨ 1 ≤ K.runes s := by simp [K.lim, h1]
    have HL0 := Lib.hid hl0
    have HL1 := Lib.hid hl1
    clear hl0 hl1
    go_enter Try.func30, Try.ntmps30
    go_wp2
    go_step3
    go_wp2_with (go_at_call 50; refine (runes_any _ hs _).mono ?_; rintro e w1 ⟨rfl, hb1⟩)
    go_step3
    go_wp2
    go_loopw [4] (fun r wr => ∃ (pos : Nat) (b : Bool), wr.heap[w1.heap.size]? = some (.stringIter s pos) ∧ Below w.heap.size w wr ∧ r = .bool b ∧ K.CAt s pos b) (fun _ wr => s.size - wr.iterPos w1.heap.size)
    case atStart =>
      refine ⟨0, _, World.iter_heap w1 s 0, hb1.trans ((Below.refl _ _).alloc hb1.size _), rfl, ?_⟩
      have := K.CAt.start s
      first
        | (rw [(HL0.out).resolve_right (by simpa using h1)] at this; exact this)
        | (rw [(HL1.out).resolve_right (by omega)] at this; exact this)
    case round =>
      obtain ⟨pos, b, hit, hb, rfl, hat⟩ := hrel
      by_cases hp : pos < s.size
      · have hnx : ∀ ty, (Instr.next (.pointer (some ⟨w1.heap.size, 0, none⟩)) true ty).run Try.prog wr = _ := fun ty => Lib.run_next_any_at wr w1.heap.size s pos ty hit hp
        have hw0 := K.wd_pos s pos hp
        have hit2 := Lib.iterAt_heap wr w1.heap.size s pos (pos + (Utf8.decode s pos).2) hit
        have hb2 := Lib.below_iterAt hb (k := w1.heap.size) hb1.size s (pos + (Utf8.decode s pos).2)
        have hm : s.size - (wr.iterAt w1.heap.size s (pos + (Utf8.decode s pos).2)).iterPos w1.heap.size < s.size - wr.iterPos w1.heap.size := by
          unfold K.wd at hw0
          have e1 : wr.iterPos w1.heap.size = pos := by simp [World.iterPos, hit]
          have e2 : (wr.iterAt w1.heap.size s (pos + (Utf8.decode s pos).2)).iterPos w1.heap.size = pos + (Utf8.decode s pos).2 := by simp [World.iterPos, hit2]
          rw [e1, e2]; omega
        have HM := Lib.hid hm
        clear hm hw0
        cases b
        · go_wp2
          rw [Exit.noGoto_ret]
          go_ret
          rw [hat.no]
          exact ⟨rfl, hb2⟩
        · go_wp2
          have hn := hat.next hp
          have e : decide ((33 : Int) ≤ ((Utf8.decode s pos).1 : Int)) = decide (33 ≤ K.rn s pos) := by
            unfold K.rn; rw [decide_eq_decide]; omega
          exact ⟨⟨pos + (Utf8.decode s pos).2, _, hit2, hb2, rfl, by rw [e]; exact hn⟩, HM.out⟩
      · have hnx : ∀ ty, (Instr.next (.pointer (some ⟨w1.heap.size, 0, none⟩)) true ty).run Try.prog wr = _ := fun ty => Lib.run_next_end_at wr w1.heap.size s pos ty hit hp
        go_wp2
        rw [Exit.noGoto_ret]
        go_ret
        rw [hat.done hp]
        exact ⟨rfl, hb⟩
end Go.Proofs.Ytlcahhlghjbnkaa
namespace Go.Proofs.Ytlcahhlghjbnkaa
open Go.RowKit
set_option maxHeartbeats 400000 in
theorem long_any (n : Int) (h0 : 0 ≤ n) (h1 : n < 256) (w : World) :
    Calls Try.prog 71 #[.int .u8 n] w fun e w' => ∃ k, e = .returned (.int .i64 k) ∧ K.Hid' k (K.longI n) ∧ w = w' := by
  go_enter Try.func71, Try.ntmps71
  go_wp2
  all_goals (go_ret; refine ⟨_, rfl, ⟨?_⟩, rfl⟩; unfold K.longI; (repeat' split) <;> first | rfl | omega)
set_option maxHeartbeats 1000000 in
set_option maxRecDepth 100000 in
theorem rruns_any (s : ByteArray) (hs : s.size ≤ 9223372036854775807) (w : World) :
    Calls Try.prog 55 #[.string s] w fun e w' => e = .returned (.int .i64 (K.runes s)) ∧ w = w' := by
  go_enter Try.func55, Try.ntmps55
  go_wp2
  go_loop [2, 3, 4] (fun r n p => ∃ (pos k : Nat), r = .int .i64 0 ∧ n = .int .i64 k ∧ p = .int .i64 pos ∧ k ≤ pos ∧ pos ≤ s.size ∧ K.At s pos k) (fun _ _ p => s.size - (intOf p).toNat)
  case atStart => exact ⟨0, 0, rfl, rfl, rfl, Nat.le_refl _, Nat.zero_le _, K.At.start s⟩
  case round =>
    obtain ⟨pos, k, rfl, rfl, rfl, hk, hps, hat⟩ := hrel
    by_cases hp : pos < s.size
    · have hb := (s[pos]'hp).toNat_lt
      go_wp2_with fail
      refine (long_any _ (by omega) (by omega) _).mono ?_
      rintro e w' ⟨kk, rfl, HK, rfl⟩
      obtain ⟨hk0, hk4⟩ := K.longI_le HK
      by_cases hz : kk = 0
      · have hz1 : (kk == 0) = true := by rw [hz]; rfl
        have HZ := Lib.hid hz
        clear hz
        go_wp2
        go_ret
        rw [hat.rlong0 hp HK (.inl HZ.out)]
        exact ⟨rfl, rfl⟩
      have hz1 : (kk == 0) = false := by simpa using hz
      by_cases hgt : (s.size : Int) - pos < kk
      · go_wp2
        go_ret
        rw [hat.rlong0 hp HK (.inr (by assumption))]
        exact ⟨rfl, rfl⟩
      have hgt1 : decide ((s.size : Int) - pos < kk) = false := by simpa using hgt
      have hne : 1 ≤ kk := by omega
      have hle : kk ≤ (s.size : Int) - pos := by omega
      clear hz
      go_wp2
      go_loop [2, 6] (fun r i => r = .int .i64 0 ∧ ∃ j : Nat, i = .int .i64 j ∧ 1 ≤ j ∧ (j : Int) ≤ kk ∧ K.Conts s pos j) (fun _ i => 5 - (intOf i).toNat)
      case atStart => exact ⟨rfl, 1, rfl, by omega, by omega, K.Conts.start s pos⟩
      case round =>
        obtain ⟨rfl, j, rfl, hj1, hj2, hc⟩ := hrel
        by_cases hjl : (j : Int) < kk
        · have hjp : pos + j < s.size := by omega
          go_wp2
          · go_ret
            rw [hat.rcont hp hj1 HK hjl hjp (by assumption)]
            exact ⟨rfl, rfl⟩
          · go_round
            case rel => exact ⟨rfl, j + 1, by go_num, by omega, by omega, hc.next (by rw [← K.get_bt s _ hjp]; unfold K.contN; simp; omega)⟩
            case measure => simp [intOf]; omega
          · go_ret
            rw [hat.rcont hp hj1 HK hjl hjp (.inl (by assumption))]
            exact ⟨rfl, rfl⟩
        · obtain rfl : kk = j := by omega
          by_cases h224 : 224 ≤ ((s[pos]'hp).toNat : Int)
          · have hp1 : pos + 1 < s.size := by have := K.longI_big HK (by omega) h224; omega
            have hb1 := (s[pos + 1]'hp1).toNat_lt
            go_wp2
            all_goals first
              | (go_ret; rw [hat.rexc hp (by rw [← K.get_bt s _ hp, ← K.get_bt s _ hp1]; unfold K.exc; simp; omega)]; exact ⟨rfl, rfl⟩)
              | (go_round
                 case rel => exact ⟨pos + j, k + 1, rfl, by go_num, by go_num, by omega, by omega, hat.rnext hp HK (by omega) hle hc (by rw [← K.get_bt s _ hp, ← K.get_bt s _ hp1]; unfold K.exc; simp; omega)⟩
                 case measure => simp [intOf]; omega)
          · go_wp2
            go_round
            case rel => exact ⟨pos + j, k + 1, rfl, by go_num, by go_num, by omega, by omega, hat.rnext hp HK (by omega) hle hc (by rw [← K.get_bt s _ hp]; unfold K.exc; simp; omega)⟩
            case measure => simp [intOf]; omega
    · have : ¬ (pos : Int) < s.size := by omega
      go_wp2
      go_ret
      rw [hat.done hp]
      exact ⟨rfl, rfl⟩
end Go.Proofs.Ytlcahhlghjbnkaa
namespace Go.Proofs.Ytlcahhlghjbnkaa
open Go.RowKit
set_option maxHeartbeats 400000 in
theorem rcheck_any (s : ByteArray) (hs : s.size ≤ 9223372036854775807) (w : World) :
    Calls Try.prog 34 #[.string s] w fun e w' => e = .returned (.bool (K.checkB s)) ∧ w = w' := by
  rw [K.check_eq]
  by_cases h1 : 1 ≤ K.runes s
  all_goals
    have hl0 : K.lim s = decide (K.runes s ≤ 8) ∨ ¬ 1 ≤ K.runes s := by simp [K.lim, h1]
    have hl1 : K.lim s = false ∨ 1 ≤ K.runes s := by simp [K.lim, h1]
    have HL0 := Lib.hid hl0
    have HL1 := Lib.hid hl1
    clear hl0 hl1
    go_enter Try.func34, Try.ntmps34
    go_wp2_with (go_at_call 55; refine (rruns_any _ hs _).mono ?_; rintro e w' ⟨rfl, rfl⟩)
    go_loop [4] (fun i => ∃ j : Nat, i = .int .i64 j ∧ j ≤ s.size ∧ K.BOk s j) (fun i => s.size - (intOf i).toNat)
    case atStart => exact ⟨0, rfl, Nat.zero_le _, K.BOk.start s⟩
    case round =>
      obtain ⟨j, rfl, hj, hok⟩ := hrel
      by_cases hjs : j < s.size
      · by_cases hc : ((s[j]'hjs).toNat : Int) < 33
        · go_wp2
          go_ret
          rw [K.rcheck_no hjs (by rw [← K.get_bt s j hjs]; omega)]
          exact ⟨rfl, rfl⟩
        · go_wp2
          go_round
          case rel => exact ⟨j + 1, by go_num, by omega, hok.next (by rw [← K.get_bt s j hjs]; omega)⟩
          case measure => simp [intOf]; omega
      · obtain rfl : j = s.size := by omega
        go_wp2
        go_ret
        rw [hok.yes]
        first
          | (rw [(HL0.out).resolve_right (by omega)]; exact ⟨rfl, rfl⟩)
          | (rw [(HL1.out).resolve_right (by omega)]; exact ⟨rfl, rfl⟩)
end Go.Proofs.Ytlcahhlghjbnkaa
end

section
namespace Go.Proofs.Ytlcahhlghjbnkaa
open Go.RowKit R
namespace L
def kindB (e : Event) : Bool := (e.kind == 1 && V.stampB e.n e.s) || (e.kind == 2 && ((e.n == 0 && e.s == 0) || V.stampB e.n e.s))
def depB (d : Dep) : Bool := K.checkB d.key && V.stampB d.n d.s
def lt? (p : Option ByteArray) (d : Dep) : Bool := match p with | none => true | some q => Op.bytesLess q.toList d.key.toList
def seenF : Option ByteArray → List Dep → Bool
  | _, [] => true
  | p, d :: l => depB d && (lt? p d && seenF (some d.key) l)
def headB (e : Event) : Bool := kindB e && (decide (0 ≤ e.client) && (decide (e.client ≤ 1000) && (K.checkB e.key && decide (e.seen.length ≤ 64))))
def check (e : Event) : Bool := headB e && seenF none e.seen
end L
end Go.Proofs.Ytlcahhlghjbnkaa
end

section
namespace Go.Proofs.Ytlcahhlghjbnkaa
open Go.RowKit R
namespace L
def prv (l : List Dep) (k : Nat) : Option ByteArray := if k = 0 then none else (l[k - 1]?).map (·.key)
def SeenAt (l : List Dep) (k : Nat) : Prop := seenF none l = seenF (prv l k) (l.drop k)
theorem SeenAt.start (l : List Dep) : SeenAt l 0 := rfl
theorem SeenAt.step {l : List Dep} {k : Nat} (h : SeenAt l k) (hk : k < l.length) : seenF none l = (depB l[k] && (lt? (prv l k) l[k] && seenF (prv l (k + 1)) (l.drop (k + 1)))) := by
  unfold SeenAt at h
  rw [h, List.drop_eq_getElem_cons hk, seenF]
  have e : prv l (k + 1) = some l[k].key := by simp [prv, hk]
  rw [e]
theorem SeenAt.next {l : List Dep} {k : Nat} (h : SeenAt l k) (hk : k < l.length) (hd : depB l[k] = true) (hl : lt? (prv l k) l[k] = true) : SeenAt l (k + 1) := by
  have := h.step hk
  rw [hd, hl] at this
  simpa [SeenAt] using this
theorem SeenAt.no {l : List Dep} {k : Nat} (h : SeenAt l k) (hk : k < l.length) (hd : depB l[k] = false ∨ lt? (prv l k) l[k] = false) : seenF none l = false := by
  rw [h.step hk]
  rcases hd with hd | hd <;> rw [hd] <;> simp
theorem SeenAt.done {l : List Dep} (h : SeenAt l l.length) : seenF none l = true := by
  unfold SeenAt at h
  rw [h]; simp [seenF]
theorem lt_pos {l : List Dep} {k : Nat} (h0 : 0 < k) (hk : k < l.length) (d : Dep) : lt? (prv l k) d = Op.bytesLess (l[k - 1]'(by omega)).key.toList d.key.toList := by
  have e : prv l k = some (l[k - 1]'(by omega)).key := by
    unfold prv
    rw [if_neg (by omega), List.getElem?_eq_getElem (by omega)]
    rfl
  rw [e]; rfl
end L
theorem lshort_any (s : ByteArray) (w : World) :
    Calls Try.prog 32 #[.string s] w fun e w' => e = .returned (.string (s.extract 0 12)) ∧ w' = w := by
  by_cases h : s.size ≤ 12
  · have hx := K.extract_all s 12 h
    go_enter Try.func32, Try.ntmps32
    go_wp2
    go_ret
    exact ⟨by rw [hx]; rfl, rfl⟩
  · go_enter Try.func32, Try.ntmps32
    go_wp2
    go_ret
    exact ⟨rfl, rfl⟩
/-- The six cells of an event that a call has boxed. -/
theorem six_later {w w1 : World} {a : Nat} {x0 x1 x2 x3 x4 x5 : Value} {T : TypeId} (hb : Ev.Ext (w.alloc (.cells #[x0, x1, x2, x3, x4, x5] T)) w1) (ha : a = w.heap.size) :
    w1.cell? ⟨a, 0, none⟩ = some x0 ∧ w1.cell? ⟨a, 1, none⟩ = some x1 ∧ w1.cell? ⟨a, 2, none⟩ = some x2 ∧ w1.cell? ⟨a, 3, none⟩ = some x3 ∧ w1.cell? ⟨a, 4, none⟩ = some x4 ∧ w1.cell? ⟨a, 5, none⟩ = some x5 := by
  subst ha
  exact ⟨cell_later hb (by simp), cell_later hb (by simp), cell_later hb (by simp), cell_later hb (by simp), cell_later hb (by simp), cell_later hb (by simp)⟩
set_option maxHeartbeats 4000000 in
set_option maxRecDepth 100000 in
theorem rlcheck_no (kind client n s : Int) (key : ByteArray) (seen : List Dep) (a : Option Addr) (cap : Nat) (w : World) (hks : key.size ≤ 9223372036854775807) (hlen : seen.length ≤ 9223372036854775807)
    (hh : L.headB ⟨kind, client, key, n, s, seen⟩ = false) :
    Calls Try.prog 16 #[.agg #[.int .i64 kind, .int .i64 client, .string key, .int .i64 n, .int .i64 s, .slice a seen.length cap]] w fun r w' => r = .returned (.bool false) ∧ Ev.Ext w w' := by
  have hE := ext_alloc' w (.cells #[.int .i64 kind, .int .i64 client, .string key, .int .i64 n, .int .i64 s, .slice a seen.length cap] 37)
  have HH := Lib.hid hh
  clear hh
  go_enter Try.func16, Try.ntmps16
  go_wp2_with fail
  refine (rcheck_any key hks _).mono ?_; rintro e w1 ⟨rfl, rfl⟩
  go_wp2_with fail
  refine (rstcheck_any n s _).mono ?_; rintro e w2 ⟨rfl, hb2⟩
  obtain ⟨c0, c1, c2, c3, c4, c5⟩ := six_later hb2 rfl
  have hext := hE.trans hb2
  clear hE hb2
  go_wp2_with fail
  all_goals first
    | (go_ret; exact ⟨rfl, hext⟩)
    | (exfalso; have := HH.out; simp_all [L.headB, L.kindB, V.stampB]; done)
    | (exfalso; have := HH.out; simp_all [L.headB, L.kindB, V.stampB]; omega)
end Go.Proofs.Ytlcahhlghjbnkaa
end

section
namespace Go.Proofs.Ytlcahhlghjbnkaa
open Go.RowKit R
theorem lt_zero' {k : Nat} (h : k = 0) (d : Dep) (l : List Dep) : L.lt? (L.prv l k) d = true := by subst h; rfl
theorem dep_load {Kb : Blocks} {w w' : World} {v : Value} {l : List Dep} (h : Sl Kb w v l) (he : Ev.Ext w w') {b o : Nat} {cap : Nat} (hv : v = .slice (some ⟨b, o, none⟩) l.length cap) {i : Nat} (hi : i < l.length) :
    w'.cell? ⟨b, o + i * 3, none⟩ = some (.string l[i].key) ∧ w'.cell? ⟨b, o + i * 3 + 1, none⟩ = some (.int .i64 l[i].n) ∧ w'.cell? ⟨b, o + i * 3 + 2, none⟩ = some (.int .i64 l[i].s) := by
  subst hv
  obtain ⟨b', o', e, _, _, c0, c1, c2⟩ := (dep_cells h).2 i l[i] (by simp [hi])
  simp only [Option.some.injEq, Addr.mk.injEq, and_true] at e
  obtain ⟨rfl, rfl⟩ := e
  exact ⟨cell_later he c0, cell_later he c1, cell_later he c2⟩
theorem six_ext {w w1 : World} {a : Nat} {x0 x1 x2 x3 x4 x5 : Value} (he : Ev.Ext w w1) (h : w.cell? ⟨a, 0, none⟩ = some x0 ∧ w.cell? ⟨a, 1, none⟩ = some x1 ∧ w.cell? ⟨a, 2, none⟩ = some x2 ∧ w.cell? ⟨a, 3, none⟩ = some x3 ∧ w.cell? ⟨a, 4, none⟩ = some x4 ∧ w.cell? ⟨a, 5, none⟩ = some x5) :
    w1.cell? ⟨a, 0, none⟩ = some x0 ∧ w1.cell? ⟨a, 1, none⟩ = some x1 ∧ w1.cell? ⟨a, 2, none⟩ = some x2 ∧ w1.cell? ⟨a, 3, none⟩ = some x3 ∧ w1.cell? ⟨a, 4, none⟩ = some x4 ∧ w1.cell? ⟨a, 5, none⟩ = some x5 :=
  ⟨cell_later he h.1, cell_later he h.2.1, cell_later he h.2.2.1, cell_later he h.2.2.2.1, cell_later he h.2.2.2.2.1, cell_later he h.2.2.2.2.2⟩
set_option maxHeartbeats 8000000 in
set_option maxRecDepth 100000 in
theorem rlcheck_yes (kind client n s : Int) (key : ByteArray) (seen : List Dep) (v : Value) (Kb : Blocks) (w : World) (hks : key.size ≤ 9223372036854775807) (h : Sl Kb w v seen)
    (hc0 : 0 ≤ client) (hc1 : client ≤ 1000) (hkey : K.checkB key = true) (h64 : seen.length ≤ 64)
    (hk : (kind = 1 ∧ V.stampB n s = true) ∨ (kind = 2 ∧ n = 0 ∧ s = 0 ∧ V.stampB n s = false) ∨ (kind = 2 ∧ (n == 0) = false ∧ V.stampB n s = true)) :
    Calls Try.prog 16 #[.agg #[.int .i64 kind, .int .i64 client, .string key, .int .i64 n, .int .i64 s, v]] w fun r w' => r = .returned (.bool (L.seenF none seen)) ∧ Ev.Ext w w' := by
  obtain ⟨a, cap, rfl⟩ := h.form
  have hE := ext_alloc' w (.cells #[.int .i64 kind, .int .i64 client, .string key, .int .i64 n, .int .i64 s, .slice a seen.length cap] 37)
  have hchk := fun w => rcheck_any key hks w
  rw [hkey] at hchk
  have HCHK := Lib.hid hchk
  clear hchk hkey
  have h64i : (seen.length : Int) ≤ 64 := by omega
  rcases hk with ⟨rfl, hst⟩ | ⟨rfl, rfl, rfl, hst⟩ | ⟨rfl, hn0, hst⟩
  all_goals
    first | have hs := fun w => rstcheck_any n s w | have hs := fun w => rstcheck_any 0 0 w
    rw [hst] at hs
    have HS := Lib.hid hs
    clear hs hst
    go_enter Try.func16, Try.ntmps16
    go_wp2_with fail
    refine (HCHK.out _).mono ?_; rintro e w1 ⟨rfl, rfl⟩
    go_wp2_with fail
    refine (HS.out _).mono ?_; rintro e w2 ⟨rfl, hb2⟩
    have hcs := six_later hb2 rfl
    obtain ⟨c0, c1, c2, c3, c4, c5⟩ := hcs
    have hl := (h.ext hE).ext hb2
    have hext := hE.trans hb2
    clear hE hb2 h
    go_wp2_with fail
    go_loopw [2, 6] (fun r i wr => ∃ (k : Nat), r = .bool false ∧ i = .int .i64 k ∧ k ≤ seen.length ∧ Ev.Ext w2 wr ∧ L.SeenAt seen k) (fun _ i _ => seen.length - (intOf i).toNat)
    case atStart => exact ⟨0, rfl, rfl, by omega, Ev.Ext.refl _, L.SeenAt.start _⟩
    case round =>
      obtain ⟨i, rfl, rfl, hi, he, hat⟩ := hrel
      have hcs := six_ext he ⟨c0, c1, c2, c3, c4, c5⟩
      clear c0 c1 c2 c3 c4 c5
      obtain ⟨c0, c1, c2, c3, c4, c5⟩ := hcs
      by_cases h1 : i < seen.length
      · obtain ⟨b, o, rfl, _, ⟨hxs, _, _⟩, _, _, _⟩ := (dep_cells hl).2 i seen[i] (by simp [h1])
        obtain ⟨d0, d1, d2⟩ := dep_load hl he rfl h1
        have hkx := fun w => rcheck_any seen[i].key hxs w
        cases q1 : K.checkB seen[i].key <;> cases q2 : V.stampB seen[i].n seen[i].s
        all_goals
          have hsx := fun w => rstcheck_any seen[i].n seen[i].s w
          rw [q2] at hsx
          rw [q1] at hkx
          have HKX := Lib.hid hkx
          have HSX := Lib.hid hsx
          have HAT := Lib.hid hat
          have Q1 := Lib.hid q1
          have Q2 := Lib.hid q2
          clear hkx hsx hat q1 q2
        case true.true =>
          by_cases h0 : i = 0
          · have hz : decide (0 < i) = false := by simp; omega
            have H0 := Lib.hid h0
            clear h0
            go_wp2_with fail
            refine (HKX.out _).mono ?_; rintro e w3 ⟨rfl, rfl⟩
            go_wp2_with fail
            refine (HSX.out _).mono ?_; rintro e w4 ⟨rfl, hb4⟩
            have he4 := he.trans hb4
            go_wp2
            go_quiet (fail)
            go_wp2
            exact ⟨⟨i + 1, rfl, by go_num, by omega, below_drewN he4 _, HAT.out.next h1 (by simp [L.depB, Q1.out, Q2.out]) (lt_zero' H0.out _ _)⟩, by simp [intOf]; omega⟩
          · have hp : 0 < i := by omega
            have hpi : (0 : Int) < i := by omega
            have hp1 : i - 1 < seen.length := by omega
            obtain ⟨g0, _, _⟩ := dep_load hl he rfl hp1
            have hlp := L.lt_pos hp h1 seen[i]
            cases q3 : Op.bytesLess seen[i - 1].key.toList seen[i].key.toList
            all_goals
              rw [q3] at hlp
              have HLP := Lib.hid hlp
              clear hlp h0
              go_wp2_with fail
              refine (HKX.out _).mono ?_; rintro e w3 ⟨rfl, rfl⟩
              go_wp2_with fail
              refine (HSX.out _).mono ?_; rintro e w4 ⟨rfl, hb4⟩
              have he4 := he.trans hb4
              have c5 := cell_later hb4 c5
              have d0 := cell_later hb4 d0
              have g0 := cell_later hb4 g0
              go_wp2
              go_quiet (fail)
              go_wp2
              first
                | (go_ret; exact ⟨by rw [HAT.out.no h1 (.inr HLP.out)]; rfl, hext.trans (below_drewN he4 _)⟩)
                | exact ⟨⟨i + 1, rfl, by go_num, by omega, below_drewN he4 _, HAT.out.next h1 (by simp [L.depB, Q1.out, Q2.out]) HLP.out⟩, by simp [intOf]; omega⟩
        all_goals
          go_wp2_with fail
          refine (HKX.out _).mono ?_; rintro e w3 ⟨rfl, rfl⟩
          go_wp2_with fail
          refine (HSX.out _).mono ?_; rintro e w4 ⟨rfl, hb4⟩
          have he4 := he.trans hb4
          go_wp2
          go_quiet (fail)
          go_wp2
          go_ret
          exact ⟨by rw [HAT.out.no h1 (.inl (by simp [L.depB, Q1.out, Q2.out]))]; rfl, hext.trans (below_drewN he4 _)⟩
      · obtain rfl : i = seen.length := by omega
        have hd := hat.done
        go_wp2
        go_ret
        exact ⟨by rw [hd]; rfl, hext.trans he⟩
end Go.Proofs.Ytlcahhlghjbnkaa
end

section
namespace Go.Proofs.Ytlcahhlghjbnkaa
open Go.RowKit R
theorem six_of {w : World} {b : Nat} {x0 x1 x2 x3 x4 x5 : Value} {T : TypeId} (h : w.heap[b]? = some (.cells #[x0, x1, x2, x3, x4, x5] T)) :
    w.cell? ⟨b, 0, none⟩ = some x0 ∧ w.cell? ⟨b, 1, none⟩ = some x1 ∧ w.cell? ⟨b, 2, none⟩ = some x2 ∧ w.cell? ⟨b, 3, none⟩ = some x3 ∧ w.cell? ⟨b, 4, none⟩ = some x4 ∧ w.cell? ⟨b, 5, none⟩ = some x5 := by
  simp [World.cell?, h]
theorem two_of {w : World} {b : Nat} {x0 x1 : Value} {T : TypeId} (h : w.heap[b]? = some (.cells #[x0, x1] T)) : w.cell? ⟨b, 0, none⟩ = some x0 ∧ w.cell? ⟨b, 1, none⟩ = some x1 := by
  simp [World.cell?, h]
theorem but_block {w w' : World} {v : Value} {B k : Nat} (h : But w w' v) (hv : ∀ b, v.ownBlock = some b → B ≤ b) (hk : k < B) (hkw : k < w.heap.size) : w'.heap[k]? = w.heap[k]? :=
  h.block k hkw (fun e => by have := hv k e.symm; omega)
theorem smap_at {w w' : World} {b n : Nat} {m : ByteArray → Option (Int × Int)} (h : SMap w b n m) (he : w'.heap[b]? = w.heap[b]?) : SMap w' b n m := h.mono he (fun _ _ h => h)
theorem one_of {w : World} {b : Nat} {x : Value} {T : TypeId} (h : w.heap[b]? = some (.cells #[x] T)) : w.cell? ⟨b, 0, none⟩ = some x ∧ w.frozen? ⟨b, 0, none⟩ = false := by simp [World.cell?, World.frozen?, h]
theorem smap_ne {w : World} {b n x : Nat} {m : ByteArray → Option (Int × Int)} (h : SMap w b n m) {cs : Array Value} {T : TypeId} (hx : w.heap[x]? = some (.cells cs T)) : b ≠ x := by
  obtain ⟨es, c, h1, _⟩ := h
  rintro rfl
  rw [h1] at hx; cases hx
theorem setCell_at {w : World} {x : Nat} {v u : Value} {T : TypeId} (h : w.heap[x]? = some (.cells #[v] T)) : (w.setCell ⟨x, 0, none⟩ u).heap[x]? = some (.cells #[u] T) := by simp [World.setCell, Array.getElem?_modify, h]
theorem setCell_other {w : World} {x k : Nat} {u : Value} (h : k ≠ x) : (w.setCell ⟨x, 0, none⟩ u).heap[k]? = w.heap[k]? := Below.heap_setCell _ _ _ _ h
theorem ext_set {w w' : World} (h : Ev.Ext w w') {x : Nat} (hx : w.heap.size ≤ x) (u : Value) : Ev.Ext w (w'.setCell ⟨x, 0, none⟩ u) := h.setCell hx _
theorem grow_kp {Kb : Blocks} {B b : Nat} {w w' : World} {v : Value} {xs : List Dep} (h : Grow 61 Kb B w v xs) (hk : Kp b w w') (hb : b < B) : Grow 61 Kb B w' v xs := by
  obtain ⟨rows, hown, hall⟩ := h.ex
  refine ⟨⟨rows, ⟨hown.1, ?_⟩, hall.imp fun r x hr => hr⟩⟩
  rcases hown.2 with hn | ⟨g, cap, cur, hv, hbg, hg, rest⟩
  · exact .inl hn
  · exact .inr ⟨g, cap, cur, hv, hbg, hk.block hg (by decide) (by omega), rest⟩
theorem stamp_len (n s : Int) : (V.stamp n s).length ≤ 20 := by
  unfold V.stamp
  split
  · rename_i h
    obtain ⟨h1, h2, h3, h4⟩ := V.stampB_iff.1 h
    have a := V.num_len64 (n := n.toNat) (by omega)
    have b := V.num_len64 (n := s.toNat) (by omega)
    simp; omega
  · simp
theorem three_after {w w1 : World} {x0 x1 x2 : Value} {T : TypeId} (he : Ev.Ext (w.alloc (.cells #[x0, x1, x2] T)) w1) :
    w1.cell? ⟨w.heap.size, 0, none⟩ = some x0 ∧ w1.cell? ⟨w.heap.size, 1, none⟩ = some x1 ∧ w1.cell? ⟨w.heap.size, 2, none⟩ = some x2 :=
  ⟨cell_later he (by simp), cell_later he (by simp), cell_later he (by simp)⟩
theorem dep_flat (l : List Dep) (h : ∀ d ∈ l, d.key.size ≤ 1000) : (l.flatMap L.depBytes).length ≤ 1030 * l.length ∧ (l.flatMap fun d => V.text d.key).length ≤ 1030 * l.length := by
  induction l with
  | nil => simp
  | cons d r ih =>
    have h1 := h d List.mem_cons_self
    have h2 := ih fun x hx => h x (List.mem_cons_of_mem _ hx)
    have t1 := V.num_len64 (n := d.key.size) (by omega)
    have t3 := stamp_len d.n d.s
    have t2 : (V.text d.key).length ≤ 1010 := by simp [V.text]; omega
    simp only [List.flatMap_cons, List.length_append, List.length_cons]
    have t4 : (L.depBytes d).length ≤ 1030 := by simp only [L.depBytes, List.length_append]; omega
    omega
def OfMap (B : Nat) (l : List Dep) (v : Value) (w : World) : Prop := ∃ b, v = .map (some b) ∧ B ≤ b ∧ SMap w b l.length (L.ofM l)
theorem OfMap.stable {B : Nat} {l : List Dep} : Ev.Stable Ev.Ext (OfMap B l) := fun v w w' h ⟨b, e, hb, hm⟩ => ⟨b, e, hb, smap_ext hm h⟩
theorem ba_size (l : List UInt8) : (V.ba l).size = l.length := by simp [ByteArray.size]
theorem number_z (z : Int) (n : Nat) (hn : n < 18446744073709551616) (hz : z = n) (w : World) :
    Calls Try.prog 27 #[.int .u64 z] w fun e w' => e = .returned (.string (V.ba (V.num n))) ∧ Ev.Ext w w' := by
  subst hz; exact number_any n hn w
theorem numRow2 {k c : Nat} {b : Nat} {w : World} {T : TypeId} (hk : k < 18446744073709551616) (hc : c < 18446744073709551616) (h : w.heap[b]? = some (.cells #[.int .u64 k, .int .u64 c] T)) : NumRow [k, c] (some ⟨b, 0, none⟩) w := by
  intro i m hm
  match i with
  | 0 => simp at hm; subst hm; exact ⟨hk, _, _, rfl, by simp [World.cell?, h]⟩
  | 1 => simp at hm; subst hm; exact ⟨hc, _, _, rfl, by simp [World.cell?, h]⟩
  | (i + 2) => simp at hm
set_option maxHeartbeats 8000000 in
set_option maxRecDepth 100000 in
theorem part_any (k c : Nat) (key : ByteArray) (n s : Int) (seen : List Dep) (v va : Value) (ahead : List Dep) (Kb : Blocks) (w : World) (hk : k ≤ 1000) (hc : c ≤ 1000) (hkey : key.size ≤ 1000)
    (hs : Sl Kb w v seen) (ha : Sl Kb w va ahead) (hsl : seen.length ≤ 64) (hal : ahead.length ≤ 64) (hsk : ∀ d ∈ seen, d.key.size ≤ 1000) (hak : ∀ d ∈ ahead, d.key.size ≤ 1000) :
    Calls Try.prog 45 #[.agg #[.int .i64 k, .int .i64 c, .string key, .int .i64 n, .int .i64 s, v], va] w fun r w' => r = .returned (.string (V.ba (L.part ⟨k, c, key, n, s, seen⟩ ahead))) ∧ Ev.Ext w w' := by
  obtain ⟨a, cap, rfl⟩ := hs.form
  obtain ⟨a', cap', rfl⟩ := ha.form
  have l1 := V.num_len64 (n := k) (by omega)
  have l2 := V.num_len64 (n := c) (by omega)
  have l3 := V.num_len64 (n := key.size) (by omega)
  have l4 : (V.text key).length ≤ 1010 := by simp [V.text]; omega
  have hno : ¬ 9223372036854775807 < (V.num k).length + (V.num c).length + (V.text key).length := by omega
  go_enter Try.func45, Try.ntmps45
  go_wp2_with fail
  obtain ⟨W, hW⟩ : ∃ W, W = (w.alloc (.cells #[.int .i64 k, .int .i64 c, .string key, .int .i64 n, .int .i64 s, .slice a seen.length cap] 37)).alloc (.cells #[.pointer none, .slice none 0 0] 85) := ⟨_, rfl⟩
  have hb0 : W.heap[w.heap.size]? = some (.cells #[.int .i64 k, .int .i64 c, .string key, .int .i64 n, .int .i64 s, .slice a seen.length cap] 37) := by
    rw [hW]; exact ((extA _ _).block _ (by simp)).trans (heap_alloc_new _ _)
  have hbk : IsBk (w.heap.size + 1) [] W := by rw [hW]; have := IsBk.fresh (w.alloc (.cells #[.int .i64 k, .int .i64 c, .string key, .int .i64 n, .int .i64 s, .slice a seen.length cap] 37)); simpa using this
  have hEW : Ev.Ext w W := by rw [hW]; exact extA2 _ _ _
  rw [← hW]
  clear hW
  have H0 := six_of hb0
  obtain ⟨c0, c1, c2, c3, c4, c5⟩ := H0
  have hwk : IntKind.u64.wrap (k : Int) = (k : Int) := by simp only [IntKind.wrap_u64]; omega
  have hwc : IntKind.u64.wrap (c : Int) = (c : Int) := by simp only [IntKind.wrap_u64]; omega
  refine Ev.wp_region_tail (Ev.Ext W) (Ev.Ext) 12 (by kernel_rfl) (by kernel_rfl) Ev.Ext.refl (fun _ _ h k => k.trans h) (Ev.Ext.refl _).tick ?_
  simp only [List.take, List.drop]
  repeat
    first
    | (first | (refine Ev.walk_rel (fun v _ => v = .string (V.ba (V.num k ++ V.num c))) (fun _ _ _ _ h => h) ?_ ?_; (intro u wx hcx hfx; (try simp at hfx); obtain ⟨b', f4, f5, f6⟩ := hfx; have f7 : _ = some (Obj.cells #[.int .u64 k, .int .u64 c] 42 _) := f6; go_simp; intro K hK; go_at_call 46; refine (join_any (some ⟨b', 0, none⟩) 2 [k, c] (by simp) _ (numRow2 (by omega) (by omega) f6)).mono ?_; rintro e wy ⟨rfl, hby⟩; exact ⟨_, rfl, hK _ _ hby (by simp)⟩)) | (refine Ev.walk_rel (NewRow W.heap.size #[.int .u64 k, .int .u64 c] 42 2) NewRow.stable ?_ ?_; (intro u wx hcx hfx; (try simp at hfx); go_simp; intro K hK; refine hK _ _ ?_ ⟨_, rfl, hcx.size, heap_alloc_new _ _⟩; exact (Below.refl _ _).alloc (Nat.le_refl _) _)))
    | (apply Ev.walk_eq
       · intro u wx hcx hfx
         have hk4 := six_ext hcx ⟨c0, c1, c2, c3, c4, c5⟩
         try simp at hfx
         try go_simp
         first
           | rfl
           | (intro K hK
              try go_simp
              first
                | (refine hK _ ?_; first | exact Ev.Ext.refl _ | assumption)
                | (first | (go_at_call 60; refine (text_any key (by omega) _).mono ?_; rintro e wy ⟨rfl, hby⟩; exact ⟨_, rfl, hK _ hby⟩))))
    | (fail)
    try simp only [List.nil_append]
    try simp only [List.cons_append]
  intro u wx hcx hfx
  simp at hfx
  simp only [Ev.putU, Act.put, List.setIfInBounds_toArray, List.set_cons_zero, List.set_cons_succ]
  obtain ⟨_, _, _, _, _, _, _, _, _, _, _, e11⟩ := hfx
  have hbk1 := hbk.ext hcx
  have hb1 : wx.heap[w.heap.size]? = some (.cells #[.int .i64 k, .int .i64 c, .string key, .int .i64 n, .int .i64 s, .slice a seen.length cap] 37) := by rw [hcx.block _ (Array.getElem?_eq_some_iff.1 hb0).1]; exact hb0
  have hEx := hEW.trans hcx
  rw [V.ba_append] at e11
  simp only [e11]
  clear hbk hEW hb0 c0 c1 c2 c3 c4 c5 hcx hwk hwc e11 hno
  go_wp2_with fail
  refine (strk_any _ _ _ _ hbk1 (by simp only [ba_size, List.length_append, List.length_nil]; omega)).mono ?_; rintro e w2 ⟨rfl, hbk2, hkp⟩
  have hb2 := hkp.block hb1 (by decide) (by omega)
  have hE2 : Kp (w.heap.size + 1) wx w2 := hkp
  have hB : Below w.heap.size w w2 := Below.trans hEx (hkp.below.mono (Nat.le_succ _))
  clear hbk1 hb1 hkp hE2 hEx
  have l5 := stamp_len n s
  have l1z := V.num_len64 (n := 1) (by omega)
  have l0z := V.num_len64 (n := 0) (by omega)
  have hno2 : ¬ 9223372036854775807 < (V.num 1).length + (V.stamp n s).length := by omega
  have HN2 := Lib.hid hno2
  clear hno2
  have hb3 : (w2.alloc (.cells #[.int .i64 0, .int .i64 0] 34)).heap[w.heap.size]? = _ := ((extA w2 (.cells #[.int .i64 0, .int .i64 0] 34)).block _ (Array.getElem?_eq_some_iff.1 hb2).1).trans hb2
  have hbk3 := hbk2.ext (extA w2 (.cells #[.int .i64 0, .int .i64 0] 34))
  have H2 := six_of hb3
  obtain ⟨c0, c1, c2, c3, c4, c5⟩ := H2
  go_upto_region 4 with fail
  go_cut [32] (fun u wy => u = .bool (L.noStamp n s) ∧ (w2.alloc (.cells #[.int .i64 0, .int .i64 0] 34)) = wy)
  case first =>
    go_wp2
    all_goals (try subst_vars)
    all_goals go_meet
    all_goals exact ⟨by simp_all [L.noStamp], rfl⟩
  case rest =>
    obtain ⟨rfl, rfl⟩ := hcut
    go_upto_if 32 with (fail)
    go_cut [] (fun wy => IsBk (w.heap.size + 1) (L.headBytes ⟨k, c, key, n, s, seen⟩) wy ∧ Kp (w.heap.size + 1) (w2.alloc (.cells #[.int .i64 0, .int .i64 0] 34)) wy)
    case first =>
      have hfin : (V.num k ++ (V.num c ++ V.text key)) ++ L.stampOpt n s = L.headBytes ⟨k, c, key, n, s, seen⟩ := by simp [L.headBytes]
      cases hz : L.noStamp n s
      · have hso : L.stampOpt n s = V.num 1 ++ V.stamp n s := by simp [L.stampOpt, hz]
        rw [hso] at hfin
        have HF := Lib.hid hfin
        clear hfin hso
        have hno2 := HN2.out
        go_wp2_with fail
        refine Ev.wp_region_tail (Ev.Ext (w2.alloc (.cells #[.int .i64 0, .int .i64 0] 34))) (Ev.Ext) 5 (by kernel_rfl) (by kernel_rfl) Ev.Ext.refl (fun _ _ h k => k.trans h) (Ev.Ext.refl _).tick ?_
        simp only [List.take, List.drop]
        repeat
          first
          | (apply Ev.walk_eq
             · intro u wx hcx hfx
               have hk4 := six_ext hcx ⟨c0, c1, c2, c3, c4, c5⟩
               try simp at hfx
               try go_simp
               first
                 | rfl
                 | (intro K hK
                    try go_simp
                    first
                      | (refine hK _ ?_; first | exact Ev.Ext.refl _ | assumption)
                      | (first | (go_at_call 27; refine (number_z _ 1 (by omega) rfl _).mono ?_; rintro e wy ⟨rfl, hby⟩; exact ⟨_, rfl, hK _ hby⟩) | (go_at_call 61; refine (stbytes_any n s _).mono ?_; rintro e wy ⟨rfl, hby⟩; exact ⟨_, rfl, hK _ hby⟩))))
          | (fail)
          try simp only [List.nil_append]
          try simp only [List.cons_append]
        intro u wx hcx hfx
        simp at hfx
        simp only [Ev.putU, Act.put, List.setIfInBounds_toArray, List.set_cons_zero, List.set_cons_succ]
        obtain ⟨_, _, _, _, e4⟩ := hfx
        rw [V.ba_append] at e4
        simp only [e4]
        clear hno2 e4
        go_wp2_with fail
        refine (strk_any _ _ _ _ (hbk3.ext hcx) (by simp only [ba_size, List.length_append, List.length_nil]; omega)).mono ?_; rintro e w4 ⟨rfl, hbk4, hkp4⟩
        go_wp2
        go_meet
        exact ⟨by rw [← HF.out]; simpa using hbk4, (Kp.of_ext hcx hbk3.lt).trans hkp4⟩
      · have hso : L.stampOpt n s = V.num 0 := by simp [L.stampOpt, hz]
        rw [hso] at hfin
        have HF := Lib.hid hfin
        clear hfin hso
        go_wp2_with fail
        refine (number_z _ 0 (by omega) rfl _).mono ?_; rintro e w3 ⟨rfl, hb4⟩
        go_wp2_with fail
        refine (strk_any _ _ _ _ (hbk3.ext hb4) (by simp only [ba_size, List.length_append, List.length_nil]; omega)).mono ?_; rintro e w4 ⟨rfl, hbk4, hkp4⟩
        go_wp2
        go_meet
        exact ⟨by rw [← HF.out]; simpa using hbk4, (Kp.of_ext hb4 hbk3.lt).trans hkp4⟩
    case rest =>
      obtain ⟨hbk4, hkp4⟩ := hcut
      have hz0 : (w2.alloc (.cells #[.int .i64 0, .int .i64 0] 34)).heap[w2.heap.size]? = _ := heap_alloc_new _ _
      have hz1 := hkp4.block hz0 (by decide) (by have := hbk2.lt; omega)
      have hb5 := hkp4.block hb3 (by decide) (by omega)
      have hB5 : Below w.heap.size w wc := Below.trans (Ev.Ext.trans hB (extA _ _)) (hkp4.below.mono (Nat.le_succ _))
      clear hz0 hkp4 hbk3 hb3 c0 c1 c2 c3 c4 c5 hb2 hB
      have H2 := six_of hb5
      obtain ⟨c0, c1, c2, c3, c4, c5⟩ := H2
      have H3 := two_of hz1
      obtain ⟨z0, z1⟩ := H3
      go_upto_region 7 with fail
      refine Ev2.wp_region_tail2 (Ev.Ext wc) (Ev.Ext) [5, 6] 7 (by kernel_rfl) (by kernel_rfl) Ev.Ext.refl (fun _ _ h k => k.trans h) (Ev.Ext.refl _).tick ?_
      simp only [List.take, List.drop]
      repeat
        first
        | (first | (refine Ev2.walk2_rel (OfMap wc.heap.size ahead) OfMap.stable (by rfl) ?_ ?_; (intro u wx hcx hfx; (try simp at hfx); go_simp; intro K hK; go_at_call 62; ((with_reducible refine (of_any (.slice a' ahead.length cap') ahead Kb _ (ha.ext (Ev.Ext.trans hB5 hcx)) (by omega)).mono ?_); rintro e wy ⟨b, rfl, hb, hm, hby⟩; exact ⟨_, rfl, hK _ _ hby ⟨b, rfl, Nat.le_trans hcx.size hb, hm⟩⟩))) | (refine Ev2.walk2_rel (OfMap wc.heap.size seen) OfMap.stable (by rfl) ?_ ?_; (intro u wx hcx hfx; (try simp at hfx); go_simp; intro K hK; go_at_call 62; ((with_reducible refine (of_any (.slice a seen.length cap) seen Kb _ (hs.ext (Ev.Ext.trans hB5 hcx)) (by omega)).mono ?_); rintro e wy ⟨b, rfl, hb, hm, hby⟩; exact ⟨_, rfl, hK _ _ hby ⟨b, rfl, Nat.le_trans hcx.size hb, hm⟩⟩))) | (refine Ev2.walk2_new (Ev2.NewBox wc.heap.size #[.map none] 69) Ev2.NewBox.stable Ev2.NewBox.old (by rfl) ?_ ?_; (intro u wx hcx hfx; (try simp at hfx); go_simp; intro K hK; refine hK _ _ ?_ ⟨_, rfl, hcx.size, heap_alloc_new _ _⟩ (Ev2.fresh_ptr _); exact (Below.refl _ _).alloc (Nat.le_refl _) _)))
        | (apply Ev2.walk2_eq
           · rfl
           · intro u wx hcx hfx
             have hk4 := six_ext hcx ⟨c0, c1, c2, c3, c4, c5⟩
             try simp at hfx
             try go_simp
             first
               | rfl
               | (intro K hK
                  try go_simp
                  first
                    | (refine hK _ ?_; first | exact Ev.Ext.refl _ | assumption)
                    | (fail)))
        | (fail)
        try simp only [List.nil_append]
        try simp only [List.cons_append]
      intro u wx hcx hfx hap
      simp at hfx
      simp only [Ev.putU, Act.put, List.setIfInBounds_toArray, List.set_cons_zero, List.set_cons_succ]
      obtain ⟨_, ⟨m1, e1, hm1b, hm1⟩, _, _, ⟨m2, e2, hm2b, hm2⟩, ⟨x7, e7, hx7, hh7⟩, ⟨x8, e8, hx8, hh8⟩⟩ := hfx
      have hne : x7 ≠ x8 := by
        intro h
        have := hap 5 (by simp) 6 (by simp) (by decide)
        rw [e7, e8] at this
        exact this x7 rfl (by simp [Ev2.blk, h])
      have hne' : x8 ≠ x7 := Ne.symm hne
      have Q7 := one_of hh7
      have Q8 := one_of hh8
      obtain ⟨q7, r7⟩ := Q7
      obtain ⟨q8, r8⟩ := Q8
      obtain ⟨W3, hW3⟩ : ∃ W, W = (wx.setCell ⟨x7, 0, none⟩ (.map (some m1))).setCell ⟨x8, 0, none⟩ (.map (some m2)) := ⟨_, rfl⟩
      have hE3 : Ev.Ext wc W3 := by rw [hW3]; exact ext_set (ext_set hcx hx7 _) hx8 _
      have g7 : W3.heap[x7]? = some (.cells #[.map (some m1)] 69) := by rw [hW3, setCell_other hne]; exact setCell_at hh7
      have g8 : W3.heap[x8]? = some (.cells #[.map (some m2)] 69) := by rw [hW3]; exact setCell_at (by rw [setCell_other hne']; exact hh8)
      have s1 : SMap W3 m1 ahead.length (L.ofM ahead) := smap_at hm1 (by rw [hW3, setCell_other (smap_ne hm1 hh8), setCell_other (smap_ne hm1 hh7)])
      have s2 : SMap W3 m2 seen.length (L.ofM seen) := smap_at hm2 (by rw [hW3, setCell_other (smap_ne hm2 hh8), setCell_other (smap_ne hm2 hh7)])
      have hz2 : W3.heap[w2.heap.size]? = _ := (hE3.block _ (Array.getElem?_eq_some_iff.1 hz1).1).trans hz1
      have hzl : w2.heap.size < W3.heap.size := (Array.getElem?_eq_some_iff.1 hz2).1
      have l7 : x7 < W3.heap.size := (Array.getElem?_eq_some_iff.1 g7).1
      have l8 : x8 < W3.heap.size := (Array.getElem?_eq_some_iff.1 g8).1
      have hbk5 := hbk4.ext hE3
      have hEs : Ev.Ext w W3 := Ev.Ext.trans hB5 hE3
      have c5' := cell_later hE3 c5
      have HNE := Lib.hid hne
      have HNE' := Lib.hid hne'
      have HW := Lib.hid hW3
      clear hh7 hh8 hm1 hm2 hap hcx hW3 z0 z1 c0 c1 c2 c3 c4 hb5 hz1 hB5
      simp only [e1, e2, e7, e8]
      go_upto_region 8 with fail
      rw [← HW.out]
      clear q7 q8 r7 r8 HW c5 e1 e2 e7 e8
      have hF1 : ∀ (args : Array Value) (wy : World), (callFunc 65 args).run Try.prog wy = .ok (.enter 65 args) wy := fun _ _ => by kernel_rfl
      have hF2 : ∀ (args : Array Value) (wy : World), (callFunc 66 args).run Try.prog wy = .ok (.enter 66 args) wy := fun _ _ => by kernel_rfl
      have HF1 := Lib.hid hF1
      have HF2 := Lib.hid hF2
      clear hF1 hF2 hne hne'
      go_wp2_with fail
      refine (cloneD_any _ seen Kb _ (hs.ext hEs) (by omega)).mono ?_; rintro e w4 ⟨v1, rfl, hG1, hx4⟩
      go_wp2_with fail
      refine (delD_any Kb W3.heap.size v1 seen w4 hG1 (by omega) 65 #[.pointer (some ⟨x7, 0, none⟩)] HF1.out (L.hadB (L.ofM ahead)) ?_).mono ?_
      · intro x wy hx hby
        have k1 : w4.heap[x7]? = _ := (hx4.block _ l7).trans g7
        have k2 := (but_block hby hG1.base l7 (Nat.lt_of_lt_of_le l7 hx4.size)).trans k1
        have k3 := smap_at (smap_ext s1 hx4) (but_block hby hG1.base s1.lt (Nat.lt_of_lt_of_le s1.lt hx4.size))
        exact part1_any x (by have := hsk x hx; omega) x7 m1 _ _ wy (one_of k2).1 k3
      rintro e w5 ⟨v2, rfl, hbt5, hG2⟩
      have hE5 : Ev.Ext W3 w5 := grown_below hx4 hbt5 hx4.size hG1.base
      clear hbt5 hG1 hx4
      go_wp2_with fail
      refine (cloneD_any _ ahead Kb _ (ha.ext (Ev.Ext.trans hEs hE5)) (by omega)).mono ?_; rintro e w6 ⟨v3, rfl, hG3, hx6⟩
      go_wp2_with fail
      have hsz5 : W3.heap.size ≤ w5.heap.size := hE5.size
      refine (delD_any Kb w5.heap.size v3 ahead w6 hG3 (by omega) 66 #[.pointer (some ⟨x8, 0, none⟩), .pointer (some ⟨w2.heap.size, 0, none⟩)] HF2.out (L.hasB (L.ofM seen)) ?_).mono ?_
      · intro x wy hx hby
        have k1 : w6.heap[x8]? = _ := ((hE5.trans hx6).block _ l8).trans g8
        have k2 := (but_block hby hG3.base (by omega) (Nat.lt_of_lt_of_le l8 (hE5.trans hx6).size)).trans k1
        have k3 := smap_at (smap_ext s2 (hE5.trans hx6)) (but_block hby hG3.base (Nat.lt_of_lt_of_le s2.lt hsz5) (Nat.lt_of_lt_of_le s2.lt (hE5.trans hx6).size))
        have k4 : w6.heap[w2.heap.size]? = _ := ((hE5.trans hx6).block _ hzl).trans hz2
        have k5 := (but_block hby hG3.base (by omega) (Nat.lt_of_lt_of_le hzl (hE5.trans hx6).size)).trans k4
        exact part2_any x (by have := hak x hx; omega) x8 w2.heap.size m2 _ _ wy (one_of k2).1 (two_of k5).1 (two_of k5).2 k3
      rintro e w7 ⟨v4, rfl, hbt7, hG4⟩
      have hE7 : Ev.Ext w5 w7 := grown_below hx6 hbt7 hx6.size hG3.base
      have hG2' := hG2.ext hE7
      have hbk7 := hbk5.ext (hE5.trans hE7)
      have hE8 : Ev.Ext w w7 := Ev.Ext.trans hEs (hE5.trans hE7)
      have hmore : strike (L.hadB (L.ofM ahead)) seen = L.more ⟨k, c, key, n, s, seen⟩ ahead := rfl
      have hless : strike (L.hasB (L.ofM seen)) ahead = L.less ⟨k, c, key, n, s, seen⟩ ahead := rfl
      rw [hmore] at hG2'
      rw [hless] at hG4
      have hml : (L.more ⟨k, c, key, n, s, seen⟩ ahead).length ≤ 64 := Nat.le_trans (strike_le _ _) hsl
      have hll : (L.less ⟨k, c, key, n, s, seen⟩ ahead).length ≤ 64 := Nat.le_trans (strike_le _ _) hal
      have hmk : ∀ d ∈ L.more ⟨k, c, key, n, s, seen⟩ ahead, d.key.size ≤ 1000 := fun d hd => hsk d (List.mem_filter.1 hd).1
      have hlk : ∀ d ∈ L.less ⟨k, c, key, n, s, seen⟩ ahead, d.key.size ≤ 1000 := fun d hd => hak d (List.mem_filter.1 hd).1
      have hpt : L.headBytes ⟨k, c, key, n, s, seen⟩ ++ V.num (L.more ⟨k, c, key, n, s, seen⟩ ahead).length ++ (L.more ⟨k, c, key, n, s, seen⟩ ahead).flatMap L.depBytes ++ V.num (L.less ⟨k, c, key, n, s, seen⟩ ahead).length ++ ((L.less ⟨k, c, key, n, s, seen⟩ ahead).flatMap fun d => V.text d.key) = L.part ⟨k, c, key, n, s, seen⟩ ahead := rfl
      have hhl : (L.headBytes ⟨k, c, key, n, s, seen⟩).length ≤ 2000 := by
        have : (L.stampOpt n s).length ≤ 30 := by unfold L.stampOpt; split <;> (try simp) <;> omega
        simp only [L.headBytes, List.length_append, Int.toNat_natCast]; omega
      have hszb : w.heap.size + 1 < W3.heap.size := by have := hbk5.lt; omega
      clear hbt7 hG3 hx6 hG2 hE7 hmore hless hbk5 hbk4 hbk2 s1 s2 g7 g8 hz2 hzl l7 l8 c5' hE3 HF1 HF2 HNE HNE' hs ha
      generalize L.more ⟨k, c, key, n, s, seen⟩ ahead = mo at *
      generalize L.less ⟨k, c, key, n, s, seen⟩ ahead = le at *
      generalize L.headBytes ⟨k, c, key, n, s, seen⟩ = hd at *
      have HPT := Lib.hid hpt
      clear hpt
      have hG2S := hG2'.slice
      have hG4S := hG4.slice
      obtain ⟨a9, cap9, rfl⟩ := hG2S
      obtain ⟨a10, cap10, rfl⟩ := hG4S
      go_wp2_with fail
      have l6 := V.num_len64 (n := mo.length) (by omega)
      have l7 := V.num_len64 (n := le.length) (by omega)
      refine (number_z _ mo.length (by omega) rfl _).mono ?_; rintro e w8 ⟨rfl, hx8'⟩
      go_wp2_with fail
      refine (strk_any _ _ _ _ (hbk7.ext hx8') (by simp only [ba_size, List.length_append, List.length_nil]; omega)).mono ?_; rintro e w9 ⟨rfl, hbk9, hkp9⟩
      have hk9 : Kp (w.heap.size + 1) w7 w9 := (Kp.of_ext hx8' hbk7.lt).trans hkp9
      have hG2 := grow_kp hG2' hk9 hszb
      have hG4' := grow_kp hG4 hk9 (by omega)
      have hB9 : Below w.heap.size w w9 := Below.trans hE8 (hk9.below.mono (Nat.le_succ _))
      clear hbk7 hx8' hkp9 hk9 hG2' hG4 hE8 hE5 hEs
      go_wp2_with fail
      go_loopw [62] (fun i wr => ∃ (j : Nat), i = .int .i64 j ∧ j ≤ mo.length ∧ Kp (w.heap.size + 1) w9 wr ∧ IsBk (w.heap.size + 1) (hd ++ V.num mo.length ++ (mo.take j).flatMap L.depBytes) wr) (fun i _ => mo.length - (intOf i).toNat)
      case atStart => exact ⟨0, rfl, by omega, Kp.refl _ _, by simpa using hbk9⟩
      case round =>
        obtain ⟨j, rfl, hj, hkp, hbk⟩ := hrel
        by_cases h1 : j < mo.length
        · have hsl2 := (grow_kp hG2 hkp hszb).sl (by omega)
          obtain ⟨bb, o, rfl, _, ⟨hxs, _, _⟩, d0, d1, d2⟩ := (dep_cells hsl2).2 j mo[j] (by simp [h1])
          have hxk := hmk mo[j] (List.getElem_mem h1)
          have LD := Lib.hid (fun w' (he' : Ev.Ext (wr.alloc (.cells #[.string mo[j].key, .int .i64 mo[j].n, .int .i64 mo[j].s] 61)) w') => three_after he')
          have t1 := V.num_len64 (n := mo[j].key.size) (by omega)
          have t2 : (V.text mo[j].key).length ≤ 1010 := by simp [V.text]; omega
          have t3 := stamp_len mo[j].n mo[j].s
          have hno2 : ¬ 9223372036854775807 < (V.text mo[j].key).length + (V.stamp mo[j].n mo[j].s).length := by omega
          have e1 : (mo.take (j + 1)).flatMap L.depBytes = (mo.take j).flatMap L.depBytes ++ (V.text mo[j].key ++ V.stamp mo[j].n mo[j].s) := by rw [List.take_succ_eq_append_getElem h1, List.flatMap_append]; simp [L.depBytes]
          have hfl := dep_flat (mo.take j) (fun d hd => hmk d (List.mem_of_mem_take hd))
          rw [List.length_take] at hfl
          have HE := Lib.hid e1
          clear e1 hsl2
          go_wp2_with fail
          refine Ev.wp_region_tail (Ev.Ext (wr.alloc (.cells #[.string mo[j].key, .int .i64 mo[j].n, .int .i64 mo[j].s] 61))) (Ev.Ext) 7 (by kernel_rfl) (by kernel_rfl) Ev.Ext.refl (fun _ _ h k => k.trans h) (Ev.Ext.refl _).tick ?_
          simp only [List.take, List.drop]
          repeat
            first
            | (apply Ev.walk_eq
               · intro u wx hcx hfx
                 have hk4 := LD.out wx hcx
                 try simp at hfx
                 try go_simp
                 first
                   | rfl
                   | (intro K hK
                      try go_simp
                      first
                        | (refine hK _ ?_; first | exact Ev.Ext.refl _ | assumption)
                        | (first | (go_at_call 60; refine (text_any _ (by omega) _).mono ?_; rintro e wy ⟨rfl, hby⟩; exact ⟨_, rfl, hK _ hby⟩) | (go_at_call 61; refine (stbytes_any _ _ _).mono ?_; rintro e wy ⟨rfl, hby⟩; exact ⟨_, rfl, hK _ hby⟩))))
            | (fail)
            try simp only [List.nil_append]
            try simp only [List.cons_append]
          intro u wx hcx hfx
          simp at hfx
          simp only [Ev.putU, Act.put, List.setIfInBounds_toArray, List.set_cons_zero, List.set_cons_succ]
          obtain ⟨_, _, _, _, _, _, e6⟩ := hfx
          rw [V.ba_append] at e6
          simp only [e6]
          clear hno2 e6
          have hx9 : Ev.Ext wr wx := Ev.Ext.trans (extA _ _) hcx
          go_wp2_with fail
          refine (strk_any _ _ _ _ (hbk.ext hx9) (by simp only [ba_size, List.length_append, List.length_nil]; omega)).mono ?_; rintro e w10 ⟨rfl, hbk10, hkp10⟩
          have hkq : Kp (w.heap.size + 1) w9 w10 := (hkp.trans (Kp.of_ext hx9 hbk.lt)).trans hkp10
          clear hkp10 hcx hx9
          go_wp2
          go_roundw
          case rel => exact ⟨j + 1, by go_num, by omega, hkq, by rw [HE.out]; simpa using hbk10⟩
          case measure => simp [intOf]; omega
        · obtain rfl : j = mo.length := by omega
          rw [List.take_length] at hbk
          have hfl := (dep_flat mo hmk).1
          have hG4w := grow_kp hG4' hkp (by omega)
          have hBw : Below w.heap.size w wr := Below.trans hB9 (hkp.below.mono (Nat.le_succ _))
          clear hG2 hG4' hB9 hkp hbk9
          go_wp2_with fail
          refine (number_z _ le.length (by omega) rfl _).mono ?_; rintro e w12 ⟨rfl, hx12⟩
          go_wp2_with fail
          refine (strk_any _ _ _ _ (hbk.ext hx12) (by simp only [ba_size, List.length_append, List.length_nil]; omega)).mono ?_; rintro e w13 ⟨rfl, hbk13, hkp13⟩
          have hk13 : Kp (w.heap.size + 1) wr w13 := (Kp.of_ext hx12 hbk.lt).trans hkp13
          have hG5 := grow_kp hG4w hk13 (by omega)
          have hB13 : Below w.heap.size w w13 := Below.trans hBw (hk13.below.mono (Nat.le_succ _))
          clear hbk hx12 hkp13 hk13 hG4w hBw
          go_wp2_with fail
          go_loopw [82] (fun i wq => ∃ (j : Nat), i = .int .i64 j ∧ j ≤ le.length ∧ Kp (w.heap.size + 1) w13 wq ∧ IsBk (w.heap.size + 1) (hd ++ V.num mo.length ++ mo.flatMap L.depBytes ++ V.num le.length ++ (le.take j).flatMap fun d => V.text d.key) wq) (fun i _ => le.length - (intOf i).toNat)
          case atStart => exact ⟨0, rfl, by omega, Kp.refl _ _, by simpa using hbk13⟩
          case round =>
            obtain ⟨j, rfl, hj, hkp, hbk⟩ := hrel
            by_cases h1 : j < le.length
            · have hsl2 := (grow_kp hG5 hkp (by omega)).sl (by omega)
              obtain ⟨bb, o, rfl, _, ⟨hxs, _, _⟩, d0, d1, d2⟩ := (dep_cells hsl2).2 j le[j] (by simp [h1])
              have hxk := hlk le[j] (List.getElem_mem h1)
              have t1 := V.num_len64 (n := le[j].key.size) (by omega)
              have t2 : (V.text le[j].key).length ≤ 1010 := by simp [V.text]; omega
              have e1 : ((le.take (j + 1)).flatMap fun d => V.text d.key) = ((le.take j).flatMap fun d => V.text d.key) ++ V.text le[j].key := by rw [List.take_succ_eq_append_getElem h1, List.flatMap_append]; simp
              have hfl2 := (dep_flat (le.take j) (fun d hd => hlk d (List.mem_of_mem_take hd))).2
              rw [List.length_take] at hfl2
              have HE := Lib.hid e1
              clear e1 hsl2
              go_wp2_with fail
              refine (text_any _ (by omega) _).mono ?_; rintro e w14 ⟨rfl, hx14⟩
              have hx9 := Ev.Ext.trans (extA _ _) hx14
              go_wp2_with fail
              refine (strk_any _ _ _ _ (hbk.ext hx9) (by simp only [ba_size, List.length_append, List.length_nil]; omega)).mono ?_; rintro e w15 ⟨rfl, hbk15, hkp15⟩
              have hkq : Kp (w.heap.size + 1) w13 w15 := (hkp.trans (Kp.of_ext hx9 hbk.lt)).trans hkp15
              clear hkp15 hx14 hx9
              go_wp2
              go_roundw
              case rel => exact ⟨j + 1, by go_num, by omega, hkq, by rw [HE.out]; simpa using hbk15⟩
              case measure => simp [intOf]; omega
            · obtain rfl : j = le.length := by omega
              rw [List.take_length, HPT.out] at hbk
              go_wp2_with fail
              refine (bstr_any _ _ _ hbk).mono ?_; rintro e w16 ⟨rfl, _, hkp16⟩
              go_wp2
              go_ret
              exact ⟨rfl, Below.trans hB13 ((hkp.trans hkp16).below.mono (Nat.le_succ _))⟩
end Go.Proofs.Ytlcahhlghjbnkaa
end

section
namespace Go.Proofs.Ytlcahhlghjbnkaa
open Go.RowKit R
/-- The cells of an event that a call has boxed, and those of a stamp of its own. -/
theorem eight_later {w w1 : World} {x0 x1 x2 x3 x4 x5 y0 y1 : Value} {T T' : TypeId} (he : Ev.Ext ((w.alloc (.cells #[x0, x1, x2, x3, x4, x5] T)).alloc (.cells #[y0, y1] T')) w1) :
    w1.cell? ⟨w.heap.size, 0, none⟩ = some x0 ∧ w1.cell? ⟨w.heap.size, 1, none⟩ = some x1 ∧ w1.cell? ⟨w.heap.size, 2, none⟩ = some x2 ∧ w1.cell? ⟨w.heap.size, 3, none⟩ = some x3 ∧ w1.cell? ⟨w.heap.size, 4, none⟩ = some x4 ∧ w1.cell? ⟨w.heap.size, 5, none⟩ = some x5 ∧ w1.cell? ⟨w.heap.size + 1, 0, none⟩ = some y0 ∧ w1.cell? ⟨w.heap.size + 1, 1, none⟩ = some y1 ∧ Ev.Ext w w1 :=
  ⟨cell_later he (by simp), cell_later he (by simp), cell_later he (by simp), cell_later he (by simp), cell_later he (by simp), cell_later he (by simp), cell_later he (by simp), cell_later he (by simp), ((ext_alloc' _ _).trans (ext_alloc' _ _)).trans he⟩
theorem ext_two (w : World) (o o' : Obj) : Ev.Ext w ((w.alloc o).alloc o') := (ext_alloc' _ _).trans (ext_alloc' _ _)
set_option maxHeartbeats 4000000 in
set_option maxRecDepth 100000 in
theorem lcheck_no (kind client n s : Int) (key : ByteArray) (seen : List Dep) (a : Option Addr) (cap : Nat) (w : World) (hks : key.size ≤ 9223372036854775807) (hlen : seen.length ≤ 9223372036854775807)
    (hh : L.headB ⟨kind, client, key, n, s, seen⟩ = false) :
    Calls Try.prog 12 #[.agg #[.int .i64 kind, .int .i64 client, .string key, .int .i64 n, .int .i64 s, .slice a seen.length cap]] w fun r w' => r = .returned (.bool false) ∧ Ev.Ext w w' := by
  have HH := Lib.hid hh
  clear hh
  go_enter Try.func12, Try.ntmps12
  go_wp2_with (first | (go_at_call 29; refine (stcheck_any _ _ _).mono ?_; rintro e w3 ⟨rfl, hb3⟩; obtain ⟨c0, c1, c2, c3, c4, c5, y0, y1, hx⟩ := eight_later hb3) | (go_at_call 30; refine (check_any _ hks _).mono ?_; rintro e w4 ⟨rfl, hb4⟩; first | (replace hx := Ev.Ext.trans hx hb4; replace c5 := cell_later hb4 c5) | (have h8 := eight_later hb4; obtain ⟨c0, c1, c2, c3, c4, c5, y0, y1, hx⟩ := h8)))
  all_goals first
    | (go_ret; exact ⟨rfl, hx⟩)
    | (go_ret; exact ⟨rfl, ext_two _ _ _⟩)
    | (exfalso; have := HH.out; simp_all [L.headB, L.kindB, V.stampB]; done)
    | (exfalso; have := HH.out; simp_all [L.headB, L.kindB, V.stampB]; omega)
end Go.Proofs.Ytlcahhlghjbnkaa
end

section
namespace Go.Proofs.Ytlcahhlghjbnkaa
open Go.RowKit R
theorem three_later {w w1 : World} {x0 x1 x2 : Value} {T : TypeId} (he : Ev.Ext (w.alloc (.cells #[x0, x1, x2] T)) w1) :
    w1.cell? ⟨w.heap.size, 0, none⟩ = some x0 ∧ w1.cell? ⟨w.heap.size, 1, none⟩ = some x1 ∧ w1.cell? ⟨w.heap.size, 2, none⟩ = some x2 :=
  ⟨cell_later he (by simp), cell_later he (by simp), cell_later he (by simp)⟩
set_option maxHeartbeats 8000000 in
set_option maxRecDepth 100000 in
theorem lcheck_yes (kind client n s : Int) (key : ByteArray) (seen : List Dep) (v : Value) (Kb : Blocks) (w : World) (hks : key.size ≤ 9223372036854775807) (h : Sl Kb w v seen)
    (hc0 : 0 ≤ client) (hc1 : client ≤ 1000) (hkey : K.checkB key = true) (h64 : seen.length ≤ 64) (hk : L.kindB ⟨kind, client, key, n, s, seen⟩ = true) :
    Calls Try.prog 12 #[.agg #[.int .i64 kind, .int .i64 client, .string key, .int .i64 n, .int .i64 s, v]] w fun r w' => r = .returned (.bool (L.seenF none seen)) ∧ Ev.Ext w w' := by
  obtain ⟨a, cap, rfl⟩ := h.form
  have hchk := fun w => check_any key hks w
  rw [hkey] at hchk
  have HCHK := Lib.hid hchk
  have HK := Lib.hid hk
  clear hchk hkey hk
  have h64i : (seen.length : Int) ≤ 64 := by omega
  go_enter Try.func12, Try.ntmps12
  go_upto_region 2 with fail
  go_cut [4] (fun u wx => u = .bool true ∧ Ev.Ext w wx ∧ wx.cell? ⟨w.heap.size, 0, none⟩ = some (.int .i64 kind) ∧ wx.cell? ⟨w.heap.size, 1, none⟩ = some (.int .i64 client) ∧ wx.cell? ⟨w.heap.size, 2, none⟩ = some (.string key) ∧ wx.cell? ⟨w.heap.size, 3, none⟩ = some (.int .i64 n) ∧ wx.cell? ⟨w.heap.size, 4, none⟩ = some (.int .i64 s) ∧ wx.cell? ⟨w.heap.size, 5, none⟩ = some (.slice a seen.length cap))
  case first =>
    go_wp2_with (go_at_call 29; refine (stcheck_any _ _ _).mono ?_; rintro e w3 ⟨rfl, hb3⟩; obtain ⟨c0, c1, c2, c3, c4, c5, y0, y1, hx⟩ := eight_later hb3)
    all_goals (try subst_vars)
    all_goals go_meet
    all_goals first
      | exact ⟨rfl, hx, c0, c1, c2, c3, c4, c5⟩
      | exact ⟨rfl, ext_two _ _ _, by simp, by simp, by simp, by simp, by simp, by simp⟩
      | (refine ⟨?_, hx, c0, c1, c2, c3, c4, c5⟩; have := HK.out; simp_all [L.kindB]; done)
      | (refine ⟨?_, hx, c0, c1, c2, c3, c4, c5⟩; have := HK.out; simp [L.kindB] at this; (try simp_all); omega)
      | (refine ⟨?_, ext_two _ _ _, by simp, by simp, by simp, by simp, by simp, by simp⟩; have := HK.out; simp_all [L.kindB]; done)
  case rest =>
    obtain ⟨rfl, hx, c0, c1, c2, c3, c4, c5⟩ := hcut
    go_wp2_with (go_at_call 30; refine (HCHK.out _).mono ?_; rintro e w4 ⟨rfl, hb4⟩; replace hx := Ev.Ext.trans hx hb4; replace c5 := cell_later hb4 c5)
    have hl := h.ext hx
    clear h hb4 c0 c1 c2 c3 c4
    go_loopw [2, 59] (fun r i wr => ∃ (k : Nat), r = .bool false ∧ i = .int .i64 k ∧ k ≤ seen.length ∧ Ev.Ext w4 wr ∧ L.SeenAt seen k) (fun _ i _ => seen.length - (intOf i).toNat)
    case atStart => exact ⟨0, rfl, rfl, by omega, Ev.Ext.refl _, L.SeenAt.start _⟩
    case round =>
      obtain ⟨i, rfl, rfl, hi, he, hat⟩ := hrel
      have c5 := cell_later he c5
      by_cases h1 : i < seen.length
      · obtain ⟨b, o, rfl, _, ⟨hxs, _, _⟩, _, _, _⟩ := (dep_cells hl).2 i seen[i] (by simp [h1])
        obtain ⟨d0, d1, d2⟩ := dep_load hl he rfl h1
        have LD := Lib.hid (fun w' (he' : Ev.Ext (wr.alloc (.cells #[.string seen[i].key, .int .i64 seen[i].n, .int .i64 seen[i].s] 61)) w') => three_later he')
        have HAT := Lib.hid hat
        clear hat
        go_upto_region 8 with fail
        go_cut [89] (fun u wx => u = .bool (!(L.depB seen[i] && L.lt? (L.prv seen i) seen[i])) ∧ Ev.Ext wr wx)
        case first =>
          have hkx := fun w => check_any seen[i].key hxs w
          have hsx := fun w => stcheck_any seen[i].n seen[i].s w
          cases q1 : K.checkB seen[i].key
          · rw [q1] at hkx
            have HKX := Lib.hid hkx
            have Q1 := Lib.hid q1
            clear hkx hsx q1
            refine Ev.wp_region (Ev.Ext _) (Ev.Ext) (by kernel_rfl) (by kernel_rfl) Ev.Ext.refl (fun _ _ h k => k.trans h) (Ev.Ext.refl _).tick ?_
            repeat
              first
              | (apply Ev.walk_eq
                 · intro u wx hcx hfx
                   have hk4 := LD.out wx hcx
                   try simp at hfx
                   try go_simp
                   first
                     | rfl
                     | (intro K hK
                        try go_simp
                        first
                          | (refine hK _ ?_; first | exact Ev.Ext.refl _ | assumption)
                          | (first | (go_at_call 30; refine (HKX.out _).mono ?_; rintro e wy ⟨rfl, hby⟩; exact ⟨_, rfl, hK _ hby⟩))))
              | (fail)
              try simp only [List.nil_append]
              try simp only [List.cons_append]
            intro u wx hcx hfx
            simp at hfx
            simp only [Ev.putU, Act.put, List.setIfInBounds_toArray, List.set_cons_zero, List.set_cons_succ]
            simp only [hfx]
            clear hfx
            go_wp2_with fail
            go_meet
            exact ⟨by simp [L.depB, Q1.out], (extA _ _).trans hcx⟩
          · rw [q1] at hkx
            have HKX := Lib.hid hkx
            have Q1 := Lib.hid q1
            clear hkx q1
            cases q2 : V.stampB seen[i].n seen[i].s
            · rw [q2] at hsx
              have HSX := Lib.hid hsx
              have Q2 := Lib.hid q2
              clear hsx q2
              refine Ev.wp_region (Ev.Ext _) (Ev.Ext) (by kernel_rfl) (by kernel_rfl) Ev.Ext.refl (fun _ _ h k => k.trans h) (Ev.Ext.refl _).tick ?_
              repeat
                first
                | (apply Ev.walk_eq
                   · intro u wx hcx hfx
                     have hk4 := LD.out wx hcx
                     try simp at hfx
                     try go_simp
                     first
                       | rfl
                       | (intro K hK
                          try go_simp
                          first
                            | (refine hK _ ?_; first | exact Ev.Ext.refl _ | assumption)
                            | (first | (go_at_call 30; refine (HKX.out _).mono ?_; rintro e wy ⟨rfl, hby⟩; exact ⟨_, rfl, hK _ hby⟩) | (go_at_call 29; refine (HSX.out _).mono ?_; rintro e wy ⟨rfl, hby⟩; exact ⟨_, rfl, hK _ hby⟩))))
                | (fail)
                try simp only [List.nil_append]
                try simp only [List.cons_append]
              intro u wx hcx hfx
              simp at hfx
              simp only [Ev.putU, Act.put, List.setIfInBounds_toArray, List.set_cons_zero, List.set_cons_succ]
              simp only [hfx]
              clear hfx
              go_wp2_with fail
              go_meet
              exact ⟨by simp [L.depB, Q1.out, Q2.out], (extA _ _).trans hcx⟩
            · rw [q2] at hsx
              have HSX := Lib.hid hsx
              have Q2 := Lib.hid q2
              clear hsx q2
              by_cases h0 : i = 0
              · have hz : decide (0 < i) = false := by simp; omega
                have H0 := Lib.hid h0
                clear h0
                refine Ev.wp_region (Ev.Ext _) (Ev.Ext) (by kernel_rfl) (by kernel_rfl) Ev.Ext.refl (fun _ _ h k => k.trans h) (Ev.Ext.refl _).tick ?_
                repeat
                  first
                  | (apply Ev.walk_eq
                     · intro u wx hcx hfx
                       have hk4 := LD.out wx hcx
                       try simp at hfx
                       try go_simp
                       first
                         | rfl
                         | (intro K hK
                            try go_simp
                            first
                              | (refine hK _ ?_; first | exact Ev.Ext.refl _ | assumption)
                              | (first | (go_at_call 30; refine (HKX.out _).mono ?_; rintro e wy ⟨rfl, hby⟩; exact ⟨_, rfl, hK _ hby⟩) | (go_at_call 29; refine (HSX.out _).mono ?_; rintro e wy ⟨rfl, hby⟩; exact ⟨_, rfl, hK _ hby⟩))))
                  | (fail)
                  try simp only [List.nil_append]
                  try simp only [List.cons_append]
                intro u wx hcx hfx
                simp at hfx
                simp only [Ev.putU, Act.put, List.setIfInBounds_toArray, List.set_cons_zero, List.set_cons_succ]
                simp only [hfx]
                clear hfx
                go_wp2_with fail
                go_meet
                exact ⟨by rw [lt_zero' H0.out]; simp [L.depB, Q1.out, Q2.out], (extA _ _).trans hcx⟩
              · have hp : 0 < i := by omega
                have hpi : decide ((0 : Int) < i) = true := by simp; omega
                have hpn : decide (0 < i) = true := by simp; omega
                have hp1 : i - 1 < seen.length := by omega
                have hi1 : (1 : Int) ≤ i := by omega
                obtain ⟨g0, _, _⟩ := dep_load hl he rfl hp1
                have hlp := L.lt_pos hp h1 seen[i]
                have LC := Lib.hid (fun w' (he' : Ev.Ext (wr.alloc (.cells #[.string seen[i].key, .int .i64 seen[i].n, .int .i64 seen[i].s] 61)) w') => And.intro (cell_later ((extA _ _).trans he') c5) (cell_later ((extA _ _).trans he') g0))
                have HLP := Lib.hid hlp
                have hw1 : IntKind.i64.wrap ((i : Int) - 1) = ((i - 1 : Nat) : Int) := by simp only [IntKind.wrap_i64]; omega
                clear hlp h0
                refine Ev.wp_region (Ev.Ext _) (Ev.Ext) (by kernel_rfl) (by kernel_rfl) Ev.Ext.refl (fun _ _ h k => k.trans h) (Ev.Ext.refl _).tick ?_
                repeat
                  first
                  | (apply Ev.walk_eq
                     · intro u wx hcx hfx
                       have hk4 := And.intro (LD.out wx hcx) (LC.out wx hcx)
                       try simp at hfx
                       try go_simp
                       first
                         | rfl
                         | (intro K hK
                            try go_simp
                            first
                              | (refine hK _ ?_; first | exact Ev.Ext.refl _ | assumption)
                              | (first | (go_at_call 30; refine (HKX.out _).mono ?_; rintro e wy ⟨rfl, hby⟩; exact ⟨_, rfl, hK _ hby⟩) | (go_at_call 29; refine (HSX.out _).mono ?_; rintro e wy ⟨rfl, hby⟩; exact ⟨_, rfl, hK _ hby⟩))))
                  | (fail)
                  try simp only [List.nil_append]
                  try simp only [List.cons_append]
                intro u wx hcx hfx
                simp at hfx
                simp only [Ev.putU, Act.put, List.setIfInBounds_toArray, List.set_cons_zero, List.set_cons_succ]
                simp only [hfx]
                clear hfx hw1
                go_wp2_with fail
                go_meet
                exact ⟨by rw [HLP.out]; simp [L.depB, Q1.out, Q2.out], (extA _ _).trans hcx⟩
        case rest =>
          obtain ⟨rfl, hx2⟩ := hcut
          cases hd : (L.depB seen[i] && L.lt? (L.prv seen i) seen[i])
          all_goals
            have HD := Lib.hid hd
            clear hd
            go_wp2_with fail
          · go_ret
            exact ⟨by rw [HAT.out.step h1, ← Bool.and_assoc, HD.out]; rfl, (hx.trans he).trans hx2⟩
          · go_roundw
            case rel => exact ⟨i + 1, rfl, by go_num, by omega, he.trans hx2, by have hd := HD.out; rw [Bool.and_eq_true] at hd; exact HAT.out.next h1 hd.1 hd.2⟩
            case measure => simp [intOf]; omega
      · obtain rfl : i = seen.length := by omega
        have hd := hat.done
        go_wp2
        go_ret
        exact ⟨by rw [hd]; rfl, hx.trans he⟩
end Go.Proofs.Ytlcahhlghjbnkaa
end

section
namespace Go.Proofs.Ytlcahhlghjbnkaa
open Go.RowKit R
theorem head_parts {e : Event} (h : L.headB e = true) : L.kindB e = true ∧ 0 ≤ e.client ∧ e.client ≤ 1000 ∧ K.checkB e.key = true ∧ e.seen.length ≤ 64 := by
  simpa [L.headB, and_assoc] using h
theorem lcheck_any (e : Event) (v : Value) (Kb : Blocks) (w : World) (hks : e.key.size ≤ 9223372036854775807) (h : Sl Kb w v e.seen) :
    Calls Try.prog 12 #[e.val v] w fun r w' => r = .returned (.bool (L.check e)) ∧ Ev.Ext w w' := by
  obtain ⟨kind, client, key, n, s, seen⟩ := e
  cases hh : L.headB ⟨kind, client, key, n, s, seen⟩
  · obtain ⟨a, cap, rfl⟩ := h.form
    have := lcheck_no kind client n s key seen a cap w hks h.len_le hh
    unfold L.check; rw [hh]; exact this
  · obtain ⟨h1, h2, h3, h4, h5⟩ := head_parts hh
    have := lcheck_yes kind client n s key seen v Kb w hks h h2 h3 h4 h5 h1
    unfold L.check; rw [hh]; exact this
theorem rlcheck_any (e : Event) (v : Value) (Kb : Blocks) (w : World) (hks : e.key.size ≤ 9223372036854775807) (h : Sl Kb w v e.seen) :
    Calls Try.prog 16 #[e.val v] w fun r w' => r = .returned (.bool (L.check e)) ∧ Ev.Ext w w' := by
  obtain ⟨kind, client, key, n, s, seen⟩ := e
  cases hh : L.headB ⟨kind, client, key, n, s, seen⟩
  · obtain ⟨a, cap, rfl⟩ := h.form
    have := rlcheck_no kind client n s key seen a cap w hks h.len_le hh
    unfold L.check; rw [hh]; exact this
  · obtain ⟨h1, h2, h3, h4, h5⟩ := head_parts hh
    have hk : (kind = 1 ∧ V.stampB n s = true) ∨ (kind = 2 ∧ n = 0 ∧ s = 0 ∧ V.stampB n s = false) ∨ (kind = 2 ∧ (n == 0) = false ∧ V.stampB n s = true) := by
      have hz : V.stampB 0 s = false := by simp [V.stampB]
      simp only [L.kindB, Bool.or_eq_true, Bool.and_eq_true, beq_iff_eq] at h1
      rcases h1 with ⟨h1, h6⟩ | ⟨h1, ⟨h6, h7⟩ | h6⟩
      · exact .inl ⟨h1, h6⟩
      · exact .inr (.inl ⟨h1, h6, h7, by rw [h6]; exact hz⟩)
      · refine .inr (.inr ⟨h1, ?_, h6⟩)
        have := V.stampB_iff.1 h6
        simp; omega
    have := rlcheck_yes kind client n s key seen v Kb w hks h h2 h3 h4 h5 hk
    unfold L.check; rw [hh]; exact this
end Go.Proofs.Ytlcahhlghjbnkaa
end

section
namespace Go.Proofs.Ytlcahhlghjbnkaa
open Go.RowKit R
theorem event_cells {K : Blocks} {w : World} {a : Option Addr} {len cap : Nat} {l : List Event} (h : Sl K w (.slice a len cap) l) :
    len = l.length ∧ ∀ (i : Nat) (x : Event), l[i]? = some x → ∃ b o v, a = some ⟨b, o, none⟩ ∧ K b ∧ (x.key.size ≤ 9223372036854775807 ∧ inI x.kind ∧ inI x.client ∧ inI x.n ∧ inI x.s) ∧ Sl K w v x.seen ∧ w.cell? ⟨b, o + i * 6, none⟩ = some (.int .i64 x.kind) ∧ w.cell? ⟨b, o + i * 6 + 1, none⟩ = some (.int .i64 x.client) ∧ w.cell? ⟨b, o + i * 6 + 2, none⟩ = some (.string x.key) ∧ w.cell? ⟨b, o + i * 6 + 3, none⟩ = some (.int .i64 x.n) ∧ w.cell? ⟨b, o + i * 6 + 4, none⟩ = some (.int .i64 x.s) ∧ w.cell? ⟨b, o + i * 6 + 5, none⟩ = some v := by
  obtain ⟨hl, h⟩ := h.get
  refine ⟨hl, fun i x hx => ?_⟩
  obtain ⟨b, o, cs, ha, hb, ⟨v, rfl, h1, h2⟩, hat⟩ := h i x hx
  exact ⟨b, o, v, ha, hb, h1, h2, hat 0 _ rfl, hat 1 _ rfl, hat 2 _ rfl, hat 3 _ rfl, hat 4 _ rfl, hat 5 _ rfl⟩
theorem int_key : KeyT Try.prog 3 Int (Value.int .i64) inI := int_key0 Try.underlying3
/-- What was known ahead of a call. -/
abbrev KB (K : Blocks) (B : Nat) : Blocks := fun b => K b ∧ b < B
theorem R.Sl.bound {α : Type} [GoT α] {K : Blocks} {w : World} {v : Value} {xs : List α} (h : Sl K w v xs) : Sl (KB K w.heap.size) w v xs := h.mono fun b hb hlt => ⟨⟨hb, hlt⟩, rfl⟩
theorem R.Sl.known {α : Type} [GoT α] {K : Blocks} {B : Nat} {w w' : World} {v : Value} {xs : List α} (h : Sl (KB K B) w v xs) (he : ∀ b, b < B → w'.heap[b]? = w.heap[b]?) : Sl (KB K B) w' v xs := h.mono fun b hb _ => ⟨hb, he b hb.2⟩
abbrev DMap (K : Blocks) (B : Nat) (w : World) (b n : Nat) (m : Int → Option (List Dep)) : Prop := Mp (Value.int .i64) inI (fun w v (x : List Dep) => Sl (KB K B) w v x) w b n m
namespace L
def partsF (m : Int → List Dep) : List Event → List ByteArray
  | [] => []
  | e :: r => V.ba (part e (m e.client)) :: partsF (fun c => if c = e.client then e.seen else m c) r
def parts (l : List Event) : List ByteArray := if l.all check then partsF (fun _ => []) l else []
theorem check_parts {e : Event} (h : check e = true) : (∃ k c : Nat, e.kind = k ∧ e.client = c ∧ k ≤ 1000 ∧ c ≤ 1000) ∧ e.seen.length ≤ 64 := by
  unfold check at h
  rw [Bool.and_eq_true] at h
  obtain ⟨h1, h2, h3, h4, h5⟩ := head_parts h.1
  refine ⟨?_, h5⟩
  have hk : e.kind = 1 ∨ e.kind = 2 := by
    simp only [kindB, Bool.or_eq_true, Bool.and_eq_true, beq_iff_eq] at h1
    rcases h1 with ⟨h, _⟩ | ⟨h, _⟩
    · exact .inl h
    · exact .inr h
  exact ⟨e.kind.toNat, e.client.toNat, by omega, by omega, by omega, by omega⟩
end L
theorem strE : ElemT Try.prog 39 9 1 16 := ⟨Try.underlying39, by
  have h : (Try.prog.info? 9).map (fun i => (i.zero, i.size, i.bytes)) = some (some (.string ⟨#[]⟩), 1, 16) := by kernel_rfl
  obtain ⟨i, hi, h1, h2, h3⟩ := info_parts h
  exact ⟨i, _, hi, h1, h2, h3, rfl⟩⟩
theorem part_size (e : Event) (ahead : List Dep) (hc : L.check e = true) (hkey : e.key.size ≤ 1000) (hsk : ∀ d ∈ e.seen, d.key.size ≤ 1000) (hal : ahead.length ≤ 64) (hak : ∀ d ∈ ahead, d.key.size ≤ 1000) :
    (V.ba (L.part e ahead)).size ≤ 200000 := by
  obtain ⟨⟨k, c, h1, h2, h3, h4⟩, h5⟩ := L.check_parts hc
  have l1 := V.num_len64 (n := e.kind.toNat) (by omega)
  have l2 := V.num_len64 (n := e.client.toNat) (by omega)
  have l3 := V.num_len64 (n := e.key.size) (by omega)
  have l4 : (V.text e.key).length ≤ 1010 := by simp [V.text]; omega
  have l5 := stamp_len e.n e.s
  have l1z := V.num_len64 (n := 1) (by omega)
  have l0z := V.num_len64 (n := 0) (by omega)
  have hso : (L.stampOpt e.n e.s).length ≤ 30 := by unfold L.stampOpt; split <;> (try simp) <;> omega
  have hml : (L.more e ahead).length ≤ 64 := Nat.le_trans (strike_le _ _) h5
  have hll : (L.less e ahead).length ≤ 64 := Nat.le_trans (strike_le _ _) hal
  have l6 := V.num_len64 (n := (L.more e ahead).length) (by omega)
  have l7 := V.num_len64 (n := (L.less e ahead).length) (by omega)
  have f1 := (dep_flat (L.more e ahead) (fun d hd => hsk d (List.mem_filter.1 hd).1)).1
  have f2 := (dep_flat (L.less e ahead) (fun d hd => hak d (List.mem_filter.1 hd).1)).2
  rw [ba_size]
  simp only [L.part, L.headBytes, List.length_append]
  omega
theorem part_ev (e : Event) (v va : Value) (ahead : List Dep) (Kb : Blocks) (w : World) (hc : L.check e = true) (hkey : e.key.size ≤ 1000) (hs : Sl Kb w v e.seen) (ha : Sl Kb w va ahead) (hal : ahead.length ≤ 64) (hsk : ∀ d ∈ e.seen, d.key.size ≤ 1000) (hak : ∀ d ∈ ahead, d.key.size ≤ 1000) :
    Calls Try.prog 45 #[e.val v, va] w fun r w' => r = .returned (.string (V.ba (L.part e ahead))) ∧ Ev.Ext w w' := by
  obtain ⟨⟨k, c, h1, h2, h3, h4⟩, h5⟩ := L.check_parts hc
  obtain ⟨kind, client, key, n, s, seen⟩ := e
  subst h1 h2
  exact part_any k c key n s seen v va ahead Kb w h3 h4 hkey hs ha h5 hal hsk hak
theorem grow_own {α : Type} [GoT α] {e : TypeId} {K : Blocks} {B : Nat} {w : World} {v : Value} {xs : List α} (h : Grow e K B w v xs) : ∀ g, v.ownBlock = some g → B ≤ g ∧ ∃ cur, w.heap[g]? = some (.cells cur e (0, 0)) := by
  obtain ⟨rows, hown, _⟩ := h.ex
  intro g hg
  rcases hown.2 with ⟨rfl, _⟩ | ⟨g', cap, cur, rfl, hbg, hgg, _⟩
  · simp [Value.ownBlock] at hg
  · simp [Value.ownBlock] at hg; subst hg; exact ⟨hbg, cur, hgg⟩
/-- A row of texts, while other blocks are written. -/
theorem growS_kept {e : TypeId} {K : Blocks} {B : Nat} {w w' : World} {v : Value} {xs : List ByteArray} (h : Grow e K B w v xs) (hk : ∀ g, v.ownBlock = some g → w'.heap[g]? = w.heap[g]?) : Grow e K B w' v xs := by
  obtain ⟨rows, hown, hall⟩ := h.ex
  refine ⟨⟨rows, ⟨hown.1, ?_⟩, hall.imp fun r x hr => hr⟩⟩
  rcases hown.2 with hn | ⟨g, cap, cur, hv, hbg, hg, rest⟩
  · exact .inl hn
  · exact .inr ⟨g, cap, cur, hv, hbg, (hk g (by rw [hv]; rfl)).trans hg, rest⟩
/-- Where Parts' loop stands. -/
structure PAt (K : Blocks) (w : World) (l : List Event) (k : Nat) (out : List ByteArray) (m : Int → Option (List Dep)) (o : Value) (wr : World) : Prop where
  ext : Ev.Ext w wr
  row : Grow 9 K w.heap.size wr o out
  map : DMap K w.heap.size wr w.heap.size k m
  good : ∀ i (h : i < l.length), i < k → L.check l[i] = true
  eq : out ++ L.partsF (fun c => (m c).getD []) (l.drop k) = L.partsF (fun _ => []) l
  len : out.length = k
  from_ : ∀ c x, m c = some x → ∃ e ∈ l, L.check e = true ∧ x = e.seen
theorem block_kept {w4 w5 : World} {o : Obj} {row : Option Nat} {e : TypeId} {B x : Nat} {ob : Obj} (hg : (w4.alloc o).grownBy w5 row) (hgo : ∀ g, row = some g → B ≤ g ∧ ∃ cur, w4.heap[g]? = some (.cells cur e (0, 0))) (hx : w4.heap[x]? = some ob) (hne : ∀ cur, ob ≠ .cells cur e (0, 0)) : w5.heap[x]? = some ob := by
  have hlt : x < w4.heap.size := (Array.getElem?_eq_some_iff.1 hx).1
  rw [hg.block x (by simp; omega) (fun e1 => ?_), (extA w4 o).block x hlt]
  · exact hx
  · obtain ⟨_, cur, hc⟩ := hgo x e1.symm
    rw [hx] at hc
    exact hne cur (Option.some.inj hc)
theorem known_kept {w4 w5 : World} {o : Obj} {row : Option Nat} {B x : Nat} (hg : (w4.alloc o).grownBy w5 row) (hgo : ∀ g, row = some g → B ≤ g) (hx : x < B) (hB : B ≤ w4.heap.size) : w5.heap[x]? = w4.heap[x]? := by
  rw [hg.block x (by simp; omega) (fun e1 => by have := hgo x e1.symm; omega), (extA w4 o).block x (by omega)]
theorem parts_step {Kb : Blocks} {w wr w4 w5 : World} {l : List Event} {k : Nat} {out : List ByteArray} {m : Int → Option (List Dep)} {o v1 vs : Value} {ob : Obj} {T : Obj} (hP : PAt Kb w l k out m o wr) (h1 : k < l.length) (hl : l.length ≤ 1000) (hc : L.check l[k] = true) (h4 : Ev.Ext wr w4)
    (hg5 : Grow 9 Kb w.heap.size w5 v1 (out ++ [V.ba (L.part l[k] ((m l[k].client).getD []))])) (hgb : (w4.alloc ob).grownBy w5 o.ownBlock) (hsl : Sl (KB Kb w.heap.size) w vs l[k].seen) (hcl : inI l[k].client)
    (hbx : w4.heap[wr.heap.size]? = some T) (hT : ∀ cur, T ≠ .cells cur 9 (0, 0)) :
    w5.heap[wr.heap.size]? = some T ∧ ∃ w6, (Instr.mapUpdate 81 (.map (some w.heap.size)) (.int .i64 l[k].client) vs).run Try.prog w5 = .ok () w6 ∧
      PAt Kb w l (k + 1) (out ++ [V.ba (L.part l[k] ((m l[k].client).getD []))]) (fun c => if c = l[k].client then some l[k].seen else m c) v1 w6 := by
  have hG4 := hP.row.ext h4
  have hgo := grow_own hG4
  have hE4 : Ev.Ext w w4 := hP.ext.trans h4
  have hsz : w.heap.size ≤ w4.heap.size := hE4.size
  have hE5 : Ev.Ext w w5 := grown_below (hE4.trans (extA _ _)) hgb (Nat.le_trans hE4.size (extA _ _).size) hG4.base
  have kn : ∀ b, b < w.heap.size → w5.heap[b]? = w4.heap[b]? := fun b hb => known_kept hgb (fun g hg => (hgo g hg).1) hb hsz
  have hM4 : DMap Kb w.heap.size w4 w.heap.size k m := hP.map.mono (h4.block _ hP.map.lt) (fun v x h => h.ext h4)
  have hmb : w5.heap[w.heap.size]? = w4.heap[w.heap.size]? := by
    obtain ⟨es, ck, hes, _⟩ := hM4
    rw [hes]
    exact block_kept hgb hgo hes (fun cur h => by cases h)
  have hM5 : DMap Kb w.heap.size w5 w.heap.size k m := hM4.mono hmb (fun v x h => h.known kn)
  refine ⟨block_kept hgb hgo hbx hT, ?_⟩
  obtain ⟨w6, hrun, hM6, hg6, hz6⟩ := hM5.store int_key Try.underlying81 (by unfold maxLen; omega) l[k].client hcl vs l[k].seen
    (fun w' hg _ v x h => h.known fun b hb => hg.block b (Nat.lt_of_lt_of_le hb hE5.size) (fun e => by simp at e; omega))
    (hsl.known fun b hb => hE5.block b hb)
  refine ⟨w6, hrun, ⟨?_, ?_, hM6, fun i hi hik => ?_, ?_, by simp [hP.len], fun c x hcx => ?_⟩⟩
  · exact grown_below (v := .slice (some ⟨w.heap.size, 0, none⟩) 0 0) hE5 hg6 hE5.size (fun j hj => by simp [Value.ownBlock] at hj; omega)
  · refine growS_kept hg5 fun g hg => ?_
    obtain ⟨_, cur, hcur⟩ := grow_own hg5 g hg
    refine hg6.block g (Array.getElem?_eq_some_iff.1 hcur).1 fun e => ?_
    simp at e
    subst e
    obtain ⟨es, ck, hes, _⟩ := hM5
    rw [hes] at hcur; cases hcur
  · by_cases e : i = k
    · subst e; exact hc
    · exact hP.good i hi (by omega)
  · rw [← hP.eq, List.drop_eq_getElem_cons h1, L.partsF]
    simp only [List.append_assoc, List.cons_append, List.nil_append]
    have hfun : (fun c => ((fun c => if c = l[k].client then some l[k].seen else m c) c).getD []) = (fun c => if c = l[k].client then l[k].seen else (m c).getD []) := by
      funext c
      by_cases e : c = l[k].client
      · simp only [if_pos e]; rfl
      · simp only [if_neg e]
    rw [hfun]
  · split at hcx
    · cases hcx; exact ⟨l[k], List.getElem_mem h1, hc, rfl⟩
    · exact hP.from_ c x hcx
theorem all_check {l : List Event} (h : ∀ i (h : i < l.length), i < l.length → L.check l[i] = true) : l.all L.check = true := by
  rw [List.all_eq_true]
  intro x hx
  obtain ⟨i, hi, rfl⟩ := List.getElem_of_mem hx
  exact h i hi hi
set_option maxHeartbeats 8000000 in
set_option maxRecDepth 100000 in
theorem lparts_any (l : List Event) (v : Value) (Kb : Blocks) (w : World) (h : Sl Kb w v l) (hl : l.length ≤ 1000) (hk : ∀ e ∈ l, e.key.size ≤ 1000 ∧ ∀ d ∈ e.seen, d.key.size ≤ 1000) :
    Calls Try.prog 26 #[v] w fun r w' => ∃ v', r = .returned v' ∧ Grow 9 Kb w.heap.size w' v' (L.parts l) ∧ Ev.Ext w w' := by
  have hK := h.bound
  obtain ⟨a, cap, rfl⟩ := h.form
  have hmm := @run_makeMap Try.prog
  go_enter Try.func26, Try.ntmps26
  go_wp2_with fail
  go_loopw [3, 10] (fun o i wr => ∃ (k : Nat) (out : List ByteArray) (m : Int → Option (List Dep)), i = .int .i64 k ∧ k ≤ l.length ∧ PAt Kb w l k out m o wr) (fun _ i _ => l.length - (intOf i).toNat)
  case atStart => exact ⟨0, [], fun _ => none, rfl, by omega, ⟨extA _ _, Grow.nil _ _ _ _, Mp.made _ _ _ _, fun i _ h => by omega, rfl, rfl, fun c x h => by cases h⟩⟩
  case round =>
    obtain ⟨k, out, m, rfl, hk', hp⟩ := hrel
    have hext := hp.ext
    by_cases h1 : k < l.length
    · have hx : l[k]? = some l[k] := by simp [h1]
      obtain ⟨b, o, vs, rfl, hKb, ⟨hs0, hs1, hs2, hs3, hs4⟩, hsl, c0, c1, c2, c3, c4, c5⟩ := (event_cells hK).2 k l[k] hx
      obtain ⟨a2, cap2, rfl⟩ := hsl.form
      have hke := hk l[k] (List.getElem_mem h1)
      have c0 := cell_later hext c0
      have c1 := cell_later hext c1
      have c2 := cell_later hext c2
      have c3 := cell_later hext c3
      have c4 := cell_later hext c4
      have c5 := cell_later hext c5
      have hA := extA wr (.cells #[.int .i64 l[k].kind, .int .i64 l[k].client, .string l[k].key, .int .i64 l[k].n, .int .i64 l[k].s, .slice a2 l[k].seen.length cap2] 37)
      have hP := Lib.hid hp
      clear hx hp
      go_wp2_with fail
      refine (lcheck_any l[k] _ _ _ (by omega) (hsl.ext (hext.trans hA))).mono ?_; rintro e w3 ⟨rfl, hb3⟩
      have hE3 := (hext.trans hA).trans hb3
      cases hc : L.check l[k]
      · have hps : L.parts l = [] := by
          unfold L.parts
          rw [if_neg]
          rw [List.all_eq_true]
          intro hh
          rw [hh l[k] (List.getElem_mem h1)] at hc; cases hc
        have HPS := Lib.hid hps
        clear hps
        go_wp2
        go_ret
        exact ⟨_, rfl, HPS.out ▸ Grow.nil _ _ _ _, hE3⟩
      · have hp := hP.out
        have hG := hp.row.ext (hA.trans hb3)
        have hM : DMap Kb w.heap.size w3 w.heap.size k m := hp.map.mono ((hA.trans hb3).block _ hp.map.lt) (fun v x h => h.ext (hA.trans hb3))
        have hlt : w.heap.size < wr.heap.size := hp.map.lt
        have hln := hp.len
        obtain ⟨va, hrun, hv1, hv2⟩ := hM.look int_key Try.underlying81 (z := .slice none 0 0) (fun w => by kernel_rfl) l[k].client hs2 false
        simp only [Bool.false_eq_true, if_false] at hrun
        have hva : Sl (KB Kb w.heap.size) w3 va ((m l[k].client).getD []) ∧ ((m l[k].client).getD []).length ≤ 64 ∧ ∀ d ∈ (m l[k].client).getD [], d.key.size ≤ 1000 := by
          cases hm : m l[k].client with
          | none => rw [hv2 hm]; exact ⟨Sl.nil _ _, by simp, by simp⟩
          | some x =>
            obtain ⟨e, he, hce, rfl⟩ := hp.from_ _ _ hm
            exact ⟨hv1 _ hm, (L.check_parts hce).2, (hk e he).2⟩
        obtain ⟨hva1, hva2, hva3⟩ := hva
        have hb6 := six_later hb3 rfl
        obtain ⟨d0, d1, d2, d3, d4, d5⟩ := hb6
        have hbx : w3.heap[wr.heap.size]? = _ := (hb3.block _ (by simp)).trans (heap_alloc_new _ _)
        have HC := Lib.hid hc
        have hE13 := hA.trans hb3
        clear hv1 hv2 c0 c1 c2 c3 c4 c5 hb3 hA hc hp
        go_wp2_with fail
        refine (part_ev l[k] _ va _ _ _ HC.out hke.1 (hsl.ext hE3) hva1 hva2 hke.2 hva3).mono ?_; rintro e w4 ⟨rfl, hb4⟩
        have hbx4 : w4.heap[wr.heap.size]? = _ := (hb4.block _ (Array.getElem?_eq_some_iff.1 hbx).1).trans hbx
        have hG4 := hG.ext hb4
        have hE4 := hE3.trans hb4
        have hE34 := hE13.trans hb4
        have hM4 : DMap Kb w.heap.size w4 w.heap.size k m := hM.mono (hb4.block _ hM.lt) (fun v x h => h.ext hb4)
        have hps : (V.ba (L.part l[k] ((m l[k].client).getD []))).size ≤ 9223372036854775807 := Nat.le_trans (part_size _ _ HC.out hke.1 hke.2 hva2 hva3) (by omega)
        have hxb : wr.heap.size < w4.heap.size := (Array.getElem?_eq_some_iff.1 hbx4).1
        clear hrun hG hM hb4 hbx d0 d1 d2 d3 d4 d5 hE3 hext
        go_wp2_with (first | (at_builtin; refine R.wpList_append rfl _ _ 39 rfl strE _ _ rfl (hG4.ext (extA _ _)) ⟨_, 0, none⟩ 1 [V.ba (L.part l[k] ((m l[k].client).getD []))] rfl [[.string (V.ba (L.part l[k] ((m l[k].client).getD [])))]] (.cons ⟨rfl, hps⟩ .nil) (row_cells (heap_alloc_new _ _)) (by simp [maxLen]; omega) (by simp; omega) (Nat.le_trans hE4.size (extA _ _).size) ?_; intro v1 w5 hg5 hgb5; obtain ⟨hbx5, w6, hrun6, hP6⟩ := parts_step (o := u3) hP.out h1 hl HC.out hE34 hg5 hgb5 hsl hs2 hbx4 (fun cur h => by simp at h); have h6 := six_of hbx5; obtain ⟨d0, d1, d2, d3, d4, d5⟩ := h6; have HP6 := Lib.hid hP6; clear hP6 hg5 hgb5) | (at_mapUpdate; refine wpList_mapUpdate rfl _ _ _ 81 rfl _ _ _ rfl rfl rfl hrun6 ?_))
        go_roundw
        case rel => exact ⟨k + 1, _, _, by go_num, by omega, HP6.out⟩
        case measure => simp [intOf]; omega
    · obtain rfl : k = l.length := by omega
      have hps : L.parts l = out := by
        have h2 := hp.eq
        rw [List.drop_length] at h2
        unfold L.parts
        rw [if_pos (all_check (fun i hi _ => hp.good i hi hi)), ← h2]; simp [L.partsF]
      have HPS := Lib.hid hps
      have hG := hp.row
      have hln := hp.len
      clear hps hp
      go_wp2
      go_ret
      exact ⟨_, rfl, HPS.out ▸ hG, hext⟩
end Go.Proofs.Ytlcahhlghjbnkaa
end

section
namespace Go.Proofs.Ytlcahhlghjbnkaa
open Go.RowKit R
namespace L
def cat (l : List ByteArray) : List UInt8 := l.flatMap (·.data.toList)
def bytes (l : List Event) : List UInt8 := if l.all check then V.num l.length ++ cat (parts l) else []
theorem partsF_len : ∀ (l : List Event) (m : Int → List Dep), (partsF m l).length = l.length
  | [], _ => rfl
  | e :: r, m => by rw [partsF, List.length_cons, List.length_cons, partsF_len r]
def fit (l : List Event) : Prop := ∀ e ∈ l, e.key.size ≤ 1000 ∧ ∀ d ∈ e.seen, d.key.size ≤ 1000
theorem partsF_size : ∀ (l : List Event) (m : Int → List Dep), (∀ e ∈ l, check e = true) → fit l → (∀ c, (m c).length ≤ 64 ∧ ∀ d ∈ m c, d.key.size ≤ 1000) → ∀ s ∈ partsF m l, s.size ≤ 200000
  | [], _, _, _, _, s, h => by cases h
  | e :: r, m, hc, hf, hm, s, h => by
    rw [partsF] at h
    rcases List.mem_cons.1 h with rfl | h
    · exact part_size e _ (hc e (by simp)) (hf e (by simp)).1 (hf e (by simp)).2 (hm _).1 (hm _).2
    · refine partsF_size r _ (fun x hx => hc x (by simp [hx])) (fun x hx => hf x (by simp [hx])) (fun c => ?_) s h
      split
      · exact ⟨(check_parts (hc e (by simp))).2, (hf e (by simp)).2⟩
      · exact hm c
theorem parts_size {l : List Event} (hf : fit l) : ∀ s ∈ parts l, s.size ≤ 200000 := by
  intro s hs
  unfold parts at hs
  split at hs
  · rename_i h
    exact partsF_size l _ (fun e he => List.all_eq_true.1 h e he) hf (fun c => by simp) s hs
  · cases hs
theorem cat_len : ∀ (l : List ByteArray), (∀ s ∈ l, s.size ≤ 200000) → (cat l).length ≤ 200000 * l.length
  | [], _ => by simp [cat]
  | s :: l, h => by
    have h1 := h s (by simp)
    have h2 := cat_len l fun x hx => h x (by simp [hx])
    have : s.data.size = s.size := rfl
    simp only [cat, List.flatMap_cons, List.length_append, Array.length_toList, List.length_cons] at *
    omega
theorem cat_join (l : List ByteArray) : Lib.join (l.map (·.data.toList)) [] = cat l := by
  cases l with
  | nil => rfl
  | cons s r =>
    rw [List.map_cons, Lib.join_cons, Lib.joinTail]
    simp [cat, List.flatMap]
    rfl
end L
theorem grow_strs {e : TypeId} {K : Blocks} {B : Nat} {w : World} {v : Value} {xs : List ByteArray} (h : Grow e K B w v xs) :
    (v = .slice none 0 0 ∧ xs = []) ∨ ∃ g cap, v = .slice (some ⟨g, 0, none⟩) xs.length cap ∧ B ≤ g ∧ g < w.heap.size ∧ xs.length ≤ cap ∧ ∀ j x, xs[j]? = some x → x.size ≤ 9223372036854775807 ∧ w.cell? ⟨g, j, none⟩ = some (.string x) := by
  obtain ⟨rows, hown, hall⟩ := h.ex
  rcases hown.2 with ⟨rfl, h0⟩ | ⟨g, cap, cur, rfl, hbg, hg, hnc, hcm, hcs, htake⟩
  · exact .inl ⟨rfl, List.eq_nil_of_length_eq_zero h0⟩
  · refine .inr ⟨g, cap, rfl, hbg, (Array.getElem?_eq_some_iff.1 hg).1, hnc, fun j x hx => ?_⟩
    obtain ⟨r, hr, hrep⟩ := hall.get j x hx
    obtain ⟨rfl, hs⟩ := hrep
    have hc := flat_get (rows_len hall) j 0 _ (.string x) hr rfl
    rw [← htake] at hc
    have hc' : cur[j]? = some (.string x) := by
      rw [List.getElem?_take] at hc
      split at hc
      · rw [show GoT.n ByteArray = 1 from rfl, Nat.mul_one, Nat.add_zero] at hc; simpa using hc
      · cases hc
    exact ⟨hs, by simp [World.cell?, hg, hc']⟩
theorem join_parts (xs : List ByteArray) (v : Value) {e : TypeId} {K : Blocks} {B : Nat} (w : World) (h : Grow e K B w v xs) (hl : xs.length ≤ 1000) (hs : ∀ s ∈ xs, s.size ≤ 200000) :
    Calls Try.prog 28 #[v, .string ⟨#[]⟩] w fun e w' => e = .returned (.string (V.ba (L.cat xs))) ∧ Ev.Ext w w' := by
  rcases grow_strs h with ⟨rfl, rfl⟩ | ⟨g, cap, rfl, hB, hg, hc, hcell⟩
  · refine (Try.strings_Join_none none 0 ⟨#[]⟩ w).mono ?_
    rintro e w' ⟨rfl, rfl⟩
    exact ⟨rfl, Ev.Ext.refl _⟩
  · have hcl := L.cat_len xs hs
    have := Try.strings_Join g 0 cap xs ⟨#[]⟩ w (fun j x hx => by rw [Nat.zero_add]; exact (hcell j x hx).2) hg (by omega) hc (by rw [show (⟨#[]⟩ : ByteArray).data.toList = [] from rfl, L.cat_join]; omega)
    refine this.mono ?_
    rintro e w' ⟨rfl, hb⟩
    rw [show (⟨#[]⟩ : ByteArray).data.toList = [] from rfl, L.cat_join]
    exact ⟨rfl, hb⟩
set_option maxHeartbeats 2000000 in
set_option maxRecDepth 100000 in
theorem lbytes_any (l : List Event) (v : Value) (Kb : Blocks) (w : World) (h : Sl Kb w v l) (hl : l.length ≤ 1000) (hk : L.fit l) :
    Calls Try.prog 11 #[v] w fun r w' => r = .returned (.string (V.ba (L.bytes l))) ∧ Ev.Ext w w' := by
  obtain ⟨a, cap, rfl⟩ := h.form
  cases hall : l.all L.check
  · have hp : L.parts l = [] := by simp [L.parts, hall]
    have hb : L.bytes l = [] := by simp [L.bytes, hall]
    have hn : 0 < l.length := by
      cases l with
      | nil => simp at hall
      | cons x r => simp
    have hpn := lparts_any l _ Kb w h hl hk
    rw [hp] at hpn
    have HP := Lib.hid hpn
    have HB := Lib.hid hb
    clear hpn hb hp hall
    go_enter Try.func11, Try.ntmps11
    go_wp2_with fail
    refine HP.out.mono ?_; rintro e w1 ⟨v1, rfl, hG, hx⟩
    have hv1 : v1 = .slice none 0 0 ∨ ∃ g cap, v1 = .slice (some ⟨g, 0, none⟩) 0 cap := by
      rcases grow_strs hG with ⟨rfl, _⟩ | ⟨g, cap, h, _⟩
      · exact .inl rfl
      · exact .inr ⟨g, cap, h⟩
    have hn0 : ((0 : Int) != (l.length : Int)) = true := by simp; omega
    have hn1 : ((0 : Nat) != l.length) = true := by simp; omega
    rcases hv1 with rfl | ⟨g, cp, rfl⟩
    all_goals
      go_wp2
      go_ret
      exact ⟨by rw [HB.out]; rfl, hx⟩
  · have hpl : (L.parts l).length = l.length := by unfold L.parts; rw [if_pos hall, L.partsF_len]
    have hb : L.bytes l = V.num l.length ++ L.cat (L.parts l) := by simp [L.bytes, hall]
    have hsz := L.parts_size hk
    have hcl := L.cat_len _ hsz
    have h10 := V.num_len64 (n := l.length) (by omega)
    have HP := Lib.hid (lparts_any l _ Kb w h hl hk)
    have HB := Lib.hid hb
    have HL := Lib.hid hpl
    have hno : ¬ 9223372036854775807 < (V.num l.length).length + (L.cat (L.parts l)).length := by omega
    have HNO := Lib.hid hno
    clear hb hall hpl hno
    go_enter Try.func11, Try.ntmps11
    go_wp2_with fail
    refine HP.out.mono ?_; rintro e w1 ⟨v1, rfl, hG, hx⟩
    have hv1 := hG.slice
    obtain ⟨a1, cap1, rfl⟩ := hv1
    rw [HL.out]
    go_wp2_with fail
    refine (number_z _ l.length (by omega) rfl _).mono ?_; rintro e w2 ⟨rfl, hx2⟩
    go_wp2_with fail
    have hG2 := hG.ext hx2
    rw [HL.out] at hG2
    refine (join_parts (L.parts l) _ _ hG2 (by rw [HL.out]; exact hl) hsz).mono ?_; rintro e w3 ⟨rfl, hx3⟩
    have hno := HNO.out
    go_wp2
    go_ret
    exact ⟨by rw [HB.out, ← V.ba_append]; rfl, (hx.trans hx2).trans hx3⟩
end Go.Proofs.Ytlcahhlghjbnkaa
end

section
namespace Go.Proofs.Ytlcahhlghjbnkaa
open Go.RowKit R
namespace L
def stepM (m : ByteArray → Option (Int × Int)) (d : Dep) : ByteArray → Option (Int × Int) := fun c => if c = d.key then some (d.n, d.s) else m c
theorem foldM_out : ∀ (l : List Dep) (m : ByteArray → Option (Int × Int)) (c : ByteArray), (∀ d ∈ l, d.key ≠ c) → l.foldl stepM m c = m c
  | [], m, c, _ => rfl
  | d :: r, m, c, h => by
    rw [List.foldl_cons, foldM_out r _ c (fun x hx => h x (by simp [hx]))]
    unfold stepM
    rw [if_neg (fun e => h d (by simp) e.symm)]
theorem seen_above : ∀ (l : List Dep) (q : ByteArray), seenF (some q) l = true → ∀ d ∈ l, Op.bytesLess q.toList d.key.toList = true
  | [], q, _, d, hd => by cases hd
  | x :: r, q, h, d, hd => by
    simp only [seenF, Bool.and_eq_true] at h
    obtain ⟨_, h1, h2⟩ := h
    rcases List.mem_cons.1 hd with rfl | hd
    · exact h1
    · exact K.bl_trans _ _ _ h1 (seen_above r x.key h2 d hd)
theorem foldM_in : ∀ (l : List Dep) (p : Option ByteArray) (m : ByteArray → Option (Int × Int)), seenF p l = true → ∀ d ∈ l, l.foldl stepM m d.key = some (d.n, d.s)
  | [], p, m, _, d, hd => by cases hd
  | x :: r, p, m, h, d, hd => by
    simp only [seenF, Bool.and_eq_true] at h
    obtain ⟨_, _, h2⟩ := h
    rw [List.foldl_cons]
    rcases List.mem_cons.1 hd with rfl | hd
    · rw [foldM_out r _ _ (fun y hy e => by
        have := seen_above r d.key h2 y hy
        rw [e, K.bl_irrefl] at this; cases this)]
      unfold stepM; rw [if_pos rfl]
    · exact foldM_in r _ _ h2 d hd
theorem seen_dep : ∀ (l : List Dep) (p : Option ByteArray), seenF p l = true → ∀ d ∈ l, V.stampB d.n d.s = true
  | [], p, _, d, hd => by cases hd
  | x :: r, p, h, d, hd => by
    simp only [seenF, Bool.and_eq_true] at h
    obtain ⟨h0, _, h2⟩ := h
    rcases List.mem_cons.1 hd with rfl | hd
    · unfold depB at h0; simp only [Bool.and_eq_true] at h0; exact h0.2
    · exact seen_dep r _ h2 d hd
theorem seen_of {e : Event} (h : check e = true) : seenF none e.seen = true := by unfold check at h; rw [Bool.and_eq_true] at h; exact h.2
/-- The map behind some events. -/
def lastM (m : Int → List Dep) : List Event → Int → List Dep
  | [] => m
  | e :: r => lastM (fun c => if c = e.client then e.seen else m c) r
theorem partsF_app : ∀ (l r : List Event) (m : Int → List Dep), partsF m (l ++ r) = partsF m l ++ partsF (lastM m l) r
  | [], r, m => rfl
  | e :: l, r, m => by simp only [List.cons_append, partsF, lastM, partsF_app l r]
theorem lastM_app : ∀ (l r : List Event) (m : Int → List Dep), lastM m (l ++ r) = lastM (lastM m l) r
  | [], r, m => rfl
  | e :: l, r, m => by simp only [List.cons_append, lastM, lastM_app l r]
theorem take_snoc {α : Type} {l : List α} {k : Nat} (h : k < l.length) : l.take (k + 1) = l.take k ++ [l[k]] := by rw [List.take_succ_eq_append_getElem h]
end L
end Go.Proofs.Ytlcahhlghjbnkaa
end

section
namespace Go.Proofs.Ytlcahhlghjbnkaa
open Go.RowKit A
theorem rstbytes_a (n s : Int) : ACall Try.prog 52 [.row [iv n, iv s]] (tv (V.ba (V.stamp n s))) := A.ofv (fun _ _ => by kernel_rfl) (by have := stamp_len n s; simp [vok, ba_size, A.maxI]; omega) fun M w vs ha => by
  obtain rfl := A.all1r (us := [.int .i64 n, .int .i64 s]) ha
  exact rstbytes_any n s w
end Go.Proofs.Ytlcahhlghjbnkaa
end

section
namespace Go.Proofs.Ytlcahhlghjbnkaa
open Go.RowKit A
theorem byte_beq (a b : ByteArray) : (a == b) = decide (a = b) := by
  rw [beq_toListBytes, Bool.eq_iff_iff]
  simp only [beq_iff_eq, decide_eq_true_eq]
  exact ⟨fun h => by rw [← V.ba_data a, ← V.ba_data b, ← ByteArray.toList_eq, ← ByteArray.toList_eq, h], fun h => h ▸ rfl⟩
theorem dep_eqB (x d : Dep) : ((x.key.toList == d.key.toList) && ((x.n == d.n) && (x.s == d.s))) = decide (x = d) := by
  have hk : (x.key.toList == d.key.toList) = decide (x.key = d.key) := by rw [← beq_toListBytes]; exact byte_beq _ _
  rw [hk]
  cases x; cases d
  rw [Bool.eq_iff_iff]
  simp only [Bool.and_eq_true, beq_iff_eq, decide_eq_true_eq, Dep.mk.injEq]
theorem str_eqB (a b : ByteArray) : (a.toList == b.toList) = decide (a = b) := by rw [← beq_toListBytes]; exact byte_beq _ _
namespace L
theorem same_step {α : Type} {l m : List α} {k : Nat} (h : l.take k = m.take k) (hl : k < l.length) (hm : k < m.length) (e : l[k] = m[k]) : l.take (k + 1) = m.take (k + 1) := by
  rw [List.take_succ_eq_append_getElem hl, List.take_succ_eq_append_getElem hm, h, e]
theorem same_end {α : Type} {l m : List α} {k : Nat} (h : l.take k = m.take k) (hk : ¬ k < l.length) (e : l.length = m.length) : l = m := by
  rwa [List.take_of_length_le (by omega), List.take_of_length_le (by omega)] at h
theorem same_ne {α : Type} [DecidableEq α] {l m : List α} {k : Nat} (hl : k < l.length) (hm : k < m.length) (e : l[k] ≠ m[k]) : decide (l = m) = false := by
  rw [decide_eq_false_iff_not]; rintro rfl; exact e rfl
theorem same_len {α : Type} [DecidableEq α] {l m : List α} (e : l.length ≠ m.length) : decide (l = m) = false := by
  rw [decide_eq_false_iff_not]; rintro rfl; exact e rfl
end L
set_option maxRecDepth 100000 in
theorem dsame_a (l m : List Dep) : ACall Try.prog 25 [.sl 3 (l.map Dep.row), .sl 3 (m.map Dep.row)] (bv (decide (l = m))) := by
  refine ACall_enter (fun _ _ => by kernel_rfl) Try.func25 rfl Try.ntmps25 Try.results25 (Nat.le_of_ble_eq_true rfl) (fun hok M0 w0 hnl => ?_)
  have hlen := (hok _ (List.mem_cons_self ..)).len
  rw [List.length_map] at hlen
  refine Aw_seq (Aw_region ?_)
  refine Al_p Pu_mvr ?_
  refine Al_nil (Aw_seq (Aw_seq (Aw_region ?_)))
  refine Al_p Pu_mvl ?_
  refine Al_p (Pu_len rfl Try.underlying35 rfl (by first | exact List.length_map .. | exact rfl)) ?_
  refine Al_p Pu_mvl ?_
  refine Al_p (Pu_len rfl Try.underlying35 rfl (by first | exact List.length_map .. | exact rfl)) ?_
  refine Al_p (Pu_cmp rfl rfl rfl rfl) ?_
  refine Al_nil ?_
  refine Aw_cond rfl (fun h10 => ?_) (fun h10 => ?_)
  · (try simp only [decide_eq_true_eq, decide_eq_false_iff_not, Bool.and_eq_true, Bool.or_eq_true, Bool.and_eq_false_iff, Bool.or_eq_false_iff, Bool.not_eq_true', Bool.not_eq_false', beq_iff_eq, Bool.not_eq_eq_eq_not, Bool.not_true, Bool.not_false, List.length_map, Bool.and_true, Bool.and_false, Bool.false_and, Bool.true_and, Bool.or_false, Bool.false_or] at h10)
    refine Aw_seq (Aw_region ?_)
    refine Al_p Pu_mvr ?_
    refine Al_nil ?_
    refine Aw_ret ?_
    exact Sub.bool (by rw [L.same_len (by omega)]) -- ret 0
  · (try simp only [decide_eq_true_eq, decide_eq_false_iff_not, Bool.and_eq_true, Bool.or_eq_true, Bool.and_eq_false_iff, Bool.or_eq_false_iff, Bool.not_eq_true', Bool.not_eq_false', beq_iff_eq, Bool.not_eq_eq_eq_not, Bool.not_true, Bool.not_false, List.length_map, Bool.and_true, Bool.and_false, Bool.false_and, Bool.true_and, Bool.or_false, Bool.false_or] at h10)
    refine Aw_skip (Aw_seq (Aw_seq (Aw_region ?_)))
    refine Al_p Pu_mvr ?_
    refine Al_nil (Aw_block ?_)
    refine Aw_loopk (ι := Nat) [0, 1] [] (fun k => [(5, .d (iv k))]) (fun k => []) (fun k => k ≤ l.length ∧ l.take k = m.take k) (fun k => l.length - k) (0) (⟨Nat.zero_le _, rfl⟩) ⟨Sub.rfl, trivial⟩ trivial ?_
    rintro k ⟨hk0, he⟩
    refine Aw_seq (Aw_seq (Aw_region ?_))
    refine Al_p Pu_mvl ?_
    refine Al_p Pu_mvl ?_
    refine Al_p (Pu_len rfl Try.underlying35 rfl (by first | exact List.length_map .. | exact rfl)) ?_
    refine Al_p (Pu_cmp rfl rfl rfl rfl) ?_
    refine Al_nil ?_
    refine Aw_cond rfl (fun h14 => ?_) (fun h14 => ?_)
    · (try simp only [decide_eq_true_eq, decide_eq_false_iff_not, Bool.and_eq_true, Bool.or_eq_true, Bool.and_eq_false_iff, Bool.or_eq_false_iff, Bool.not_eq_true', Bool.not_eq_false', beq_iff_eq, Bool.not_eq_eq_eq_not, Bool.not_true, Bool.not_false, List.length_map, Bool.and_true, Bool.and_false, Bool.false_and, Bool.true_and, Bool.or_false, Bool.false_or] at h14)
      have hkl : k < l.length := by omega
      have hkm : k < m.length := by omega
      refine Aw_skip (Aw_seq (Aw_block (Aw_seq ?_)))
      refine Aw_draw 9 (by kernel_rfl) (by kernel_rfl) ?_
      refine Dr_p Pu_mvl ?_
      refine Dr_p Pu_mvl ?_
      refine Dr_p (Pu_index rfl Try.underlying35 Try.sizeOf61 rfl rfl (rfl) (mapget hkl)) ?_
      refine Dr_p (Pu_loadN rfl Try.isAgg61 Try.sizeOf61 rfl (Nat.le_of_ble_eq_true rfl)) ?_
      refine Dr_p Pu_mvl ?_
      refine Dr_p Pu_mvl ?_
      refine Dr_p (Pu_index rfl Try.underlying35 Try.sizeOf61 rfl rfl (rfl) (mapget hkm)) ?_
      refine Dr_p (Pu_loadN rfl Try.isAgg61 Try.sizeOf61 rfl (Nat.le_of_ble_eq_true rfl)) ?_
      refine Dr_p (Pu_eqrow [.string _, .int .i64 _, .int .i64 _] [.string _, .int .i64 _, .int .i64 _] (fun w => nev61 _ _ _ _ _ _ _ _ w) rfl rfl rfl) ?_
      refine Dr_nil (Al_nil ?_)
      refine Aw_cond rfl (fun h25 => ?_) (fun h25 => ?_)
      · skip
        have hne : l[k] ≠ m[k] := of_decide_eq_false (by rw [← dep_eqB]; simpa only [Bool.not_eq_true'] using h25)
        refine Aw_seq (Aw_region ?_)
        refine Al_p Pu_mvr ?_
        refine Al_nil ?_
        refine Aw_ret ?_
        exact Sub.bool (by rw [L.same_ne hkl hkm hne]) -- ret 1
      · skip
        have heq : l[k] = m[k] := of_decide_eq_true (by rw [← dep_eqB]; simpa only [Bool.not_eq_false'] using h25)
        refine Aw_skip (Aw_region ?_)
        refine Al_p Pu_mvl ?_
        refine Al_p (Pu_add rfl rfl rfl (fun h1 h2 => by simp only [A.inI, A.maxI] at *; omega)) ?_
        refine Al_p Pu_mvr ?_
        refine Al_nil ?_
        exact ⟨k + 1, ⟨by omega, L.same_step he hkl hkm heq⟩, by omega, Le.ov ⟨Sub.num (by omega), trivial⟩ ⟨Sub.rfl, Sub.rfl, trivial⟩ trivial trivial⟩ -- loop 0 next.0
    · (try simp only [decide_eq_true_eq, decide_eq_false_iff_not, Bool.and_eq_true, Bool.or_eq_true, Bool.and_eq_false_iff, Bool.or_eq_false_iff, Bool.not_eq_true', Bool.not_eq_false', beq_iff_eq, Bool.not_eq_eq_eq_not, Bool.not_true, Bool.not_false, List.length_map, Bool.and_true, Bool.and_false, Bool.false_and, Bool.true_and, Bool.or_false, Bool.false_or] at h14)
      obtain rfl := L.same_end he (by omega) (by omega)
      refine Aw_exit (Aw_seq (Aw_region ?_))
      refine Al_p Pu_mvr ?_
      refine Al_nil ?_
      refine Aw_ret ?_
      exact Sub.bool (by simp) -- ret 2
end Go.Proofs.Ytlcahhlghjbnkaa
end

section
namespace Go.Proofs.Ytlcahhlghjbnkaa
open Go.RowKit A
namespace L
/-- What the last event of a client ahead of a place had seen. -/
def lastS (l : List Event) (c : Int) : Nat → List Dep
  | 0 => []
  | k + 1 => if h : k < l.length then (if l[k].client = c then l[k].seen else lastS l c k) else []
def keyB (l : List Dep) (k : ByteArray) : Bool := l.any fun d => d.key.toList == k.toList
end L
set_option maxRecDepth 100000 in
theorem rlast_a (l : List Event) (i : Nat) (hi : i < l.length) : ACall Try.prog 24 [.sl 6 (l.map Event.row), iv i] (.sl 3 ((L.lastS l l[i].client i).map Dep.row)) := by
  refine ACall_enter (fun _ _ => by kernel_rfl) Try.func24 rfl Try.ntmps24 Try.results24 (Nat.le_of_ble_eq_true rfl) (fun hok M0 w0 hnl => ?_)
  refine Aw_seq (Aw_region ?_)
  refine Al_p Pu_mvr ?_
  refine Al_nil (Aw_seq (Aw_seq (Aw_region ?_)))
  refine Al_p Pu_mvl ?_
  refine Al_p (Pu_sub rfl rfl rfl (fun h1 h2 => by simp only [A.inI, A.maxI] at *; omega)) ?_
  refine Al_p Pu_mvr ?_
  refine Al_nil (Aw_block ?_)
  refine Aw_loopk (ι := Nat) [0, 1] [] (fun k => [(5, .d (iv ((k : Int) - 1)))]) (fun k => []) (fun k => k ≤ i ∧ L.lastS l l[i].client k = L.lastS l l[i].client i) (fun k => k) (i) (⟨Nat.le_refl _, rfl⟩) ⟨Sub.rfl, trivial⟩ trivial ?_
  rintro k ⟨hk, he⟩
  refine Aw_seq (Aw_seq (Aw_region ?_))
  refine Al_p Pu_mvl ?_
  refine Al_p (Pu_cmp rfl rfl rfl rfl) ?_
  refine Al_nil ?_
  refine Aw_cond rfl (fun h9 => ?_) (fun h9 => ?_)
  · (try simp only [decide_eq_true_eq, decide_eq_false_iff_not, Bool.and_eq_true, Bool.or_eq_true, Bool.and_eq_false_iff, Bool.or_eq_false_iff, Bool.not_eq_true', Bool.not_eq_false', beq_iff_eq, Bool.not_eq_eq_eq_not, Bool.not_true, Bool.not_false, List.length_map, Bool.and_true, Bool.and_false, Bool.false_and, Bool.true_and, Bool.or_false, Bool.false_or] at h9)
    obtain ⟨k, rfl⟩ : ∃ j, k = j + 1 := ⟨k - 1, by omega⟩
    have hkl : k < l.length := by omega
    refine Aw_skip (Aw_seq (Aw_block (Aw_seq ?_)))
    refine Aw_draw 11 (by kernel_rfl) (by kernel_rfl) ?_
    refine Dr_p Pu_mvl ?_
    refine Dr_p Pu_mvl ?_
    refine Dr_p (Pu_index rfl Try.underlying22 Try.sizeOf37 rfl rfl ((show (((k + 1 : Nat) : Int) - 1) = (k : Int) by omega)) (mapget hkl)) ?_
    refine Dr_p (Pu_field 1 rfl Try.underlying37 rfl rfl Try.sizeOf3 rfl) ?_
    refine Dr_p (Pu_load1 rfl Try.isAgg3 rfl rfl) ?_
    refine Dr_p Pu_mvl ?_
    refine Dr_p Pu_mvl ?_
    refine Dr_p (Pu_index rfl Try.underlying22 Try.sizeOf37 rfl rfl (rfl) (mapget hi)) ?_
    refine Dr_p (Pu_field 1 rfl Try.underlying37 rfl rfl Try.sizeOf3 rfl) ?_
    refine Dr_p (Pu_load1 rfl Try.isAgg3 rfl rfl) ?_
    refine Dr_p (Pu_cmp rfl rfl rfl rfl) ?_
    refine Dr_nil (Al_nil ?_)
    refine Aw_cond rfl (fun h22 => ?_) (fun h22 => ?_)
    · (try simp only [decide_eq_true_eq, decide_eq_false_iff_not, Bool.and_eq_true, Bool.or_eq_true, Bool.and_eq_false_iff, Bool.or_eq_false_iff, Bool.not_eq_true', Bool.not_eq_false', beq_iff_eq, Bool.not_eq_eq_eq_not, Bool.not_true, Bool.not_false, List.length_map, Bool.and_true, Bool.and_false, Bool.false_and, Bool.true_and, Bool.or_false, Bool.false_or] at h22)
      refine Aw_seq (Aw_region ?_)
      refine Al_p Pu_mvl ?_
      refine Al_p Pu_mvl ?_
      refine Al_p (Pu_index rfl Try.underlying22 Try.sizeOf37 rfl rfl ((show (((k + 1 : Nat) : Int) - 1) = (k : Int) by omega)) (mapget hkl)) ?_
      refine Al_p (Pu_field 5 rfl Try.underlying37 rfl rfl Try.sizeOf35 rfl) ?_
      refine Al_p (Pu_load1 rfl Try.isAgg35 rfl rfl) ?_
      refine Al_p Pu_mvr ?_
      refine Al_nil ?_
      refine Aw_ret ?_
      exact Sub.d (by rw [← he, L.lastS, dif_pos hkl, if_pos h22]) -- ret 0
    · (try simp only [decide_eq_true_eq, decide_eq_false_iff_not, Bool.and_eq_true, Bool.or_eq_true, Bool.and_eq_false_iff, Bool.or_eq_false_iff, Bool.not_eq_true', Bool.not_eq_false', beq_iff_eq, Bool.not_eq_eq_eq_not, Bool.not_true, Bool.not_false, List.length_map, Bool.and_true, Bool.and_false, Bool.false_and, Bool.true_and, Bool.or_false, Bool.false_or] at h22)
      refine Aw_skip (Aw_region ?_)
      refine Al_p Pu_mvl ?_
      refine Al_p (Pu_sub rfl rfl rfl (fun h1 h2 => by simp only [A.inI, A.maxI] at *; omega)) ?_
      refine Al_p Pu_mvr ?_
      refine Al_nil ?_
      exact ⟨k, ⟨by omega, by rw [← he, L.lastS, dif_pos hkl, if_neg h22]⟩, by omega, Le.ov ⟨Sub.num (by omega), trivial⟩ ⟨Sub.rfl, Sub.rfl, trivial⟩ trivial trivial⟩ -- loop 0 next.0
  · (try simp only [decide_eq_true_eq, decide_eq_false_iff_not, Bool.and_eq_true, Bool.or_eq_true, Bool.and_eq_false_iff, Bool.or_eq_false_iff, Bool.not_eq_true', Bool.not_eq_false', beq_iff_eq, Bool.not_eq_eq_eq_not, Bool.not_true, Bool.not_false, List.length_map, Bool.and_true, Bool.and_false, Bool.false_and, Bool.true_and, Bool.or_false, Bool.false_or] at h9)
    obtain rfl : k = 0 := by omega
    refine Aw_exit (Aw_seq (Aw_region ?_))
    refine Al_p Pu_mvr ?_
    refine Al_nil ?_
    refine Aw_ret ?_
    rw [show L.lastS l l[i].client i = [] from by rw [← he]; rfl]; exact Sub.nil -- ret 1
namespace L
def hasD (l : List Dep) (d : Dep) : Bool := l.any fun x => decide (x = d)
theorem any_step {α : Type} (p : α → Bool) (l : List α) {k : Nat} (h : k < l.length) : (l.drop k).any p = (p l[k] || (l.drop (k + 1)).any p) := by
  rw [List.drop_eq_getElem_cons h, List.any_cons]
theorem any_end {α : Type} (p : α → Bool) (l : List α) : (l.drop l.length).any p = false := by rw [List.drop_length]; rfl
end L
set_option maxRecDepth 100000 in
theorem rhas_a (l : List Dep) (d : Dep) : ACall Try.prog 53 [.sl 3 (l.map Dep.row), .row d.row] (bv (L.hasD l d)) := by
  refine ACall_enter (fun _ _ => by kernel_rfl) Try.func53 rfl Try.ntmps53 Try.results53 (Nat.le_of_ble_eq_true rfl) (fun hok M0 w0 hnl => ?_)
  have hlen := (hok _ (List.mem_cons_self ..)).len
  rw [List.length_map] at hlen
  refine Aw_seq (Aw_region ?_)
  refine Al_p (Pu_boxN rfl rfl) ?_
  refine Al_p Pu_mvr ?_
  refine Al_nil (Aw_seq (Aw_seq (Aw_region ?_)))
  refine Al_p Pu_mvr ?_
  refine Al_nil (Aw_block ?_)
  refine Aw_loopk (ι := Nat) [0, 3] [] (fun k => [(5, .d (iv k))]) (fun k => []) (fun k => k ≤ l.length ∧ L.hasD l d = (l.drop k).any fun x => decide (x = d)) (fun k => l.length - k) (0) (⟨Nat.zero_le _, rfl⟩) ⟨Sub.rfl, trivial⟩ trivial ?_
  rintro k ⟨hk0, he⟩
  refine Aw_seq (Aw_seq (Aw_region ?_))
  refine Al_p Pu_mvl ?_
  refine Al_p Pu_mvl ?_
  refine Al_p (Pu_len rfl Try.underlying35 rfl (by first | exact List.length_map .. | exact rfl)) ?_
  refine Al_p (Pu_cmp rfl rfl rfl rfl) ?_
  refine Al_nil ?_
  refine Aw_cond rfl (fun h9 => ?_) (fun h9 => ?_)
  · (try simp only [decide_eq_true_eq, decide_eq_false_iff_not, Bool.and_eq_true, Bool.or_eq_true, Bool.and_eq_false_iff, Bool.or_eq_false_iff, Bool.not_eq_true', Bool.not_eq_false', beq_iff_eq, Bool.not_eq_eq_eq_not, Bool.not_true, Bool.not_false, List.length_map, Bool.and_true, Bool.and_false, Bool.false_and, Bool.true_and, Bool.or_false, Bool.false_or] at h9)
    refine Aw_skip (Aw_seq (Aw_block (Aw_seq ?_)))
    refine Aw_draw 6 (by kernel_rfl) (by kernel_rfl) ?_
    refine Dr_p Pu_mvl ?_
    refine Dr_p Pu_mvl ?_
    refine Dr_p (Pu_index rfl Try.underlying35 Try.sizeOf61 rfl rfl (rfl) (mapget (by omega))) ?_
    refine Dr_p (Pu_loadN rfl Try.isAgg61 Try.sizeOf61 rfl (Nat.le_of_ble_eq_true rfl)) ?_
    refine Dr_p (Pu_loadN rfl Try.isAgg61 Try.sizeOf61 rfl (Nat.le_of_ble_eq_true rfl)) ?_
    refine Dr_p (Pu_eqrow [.string _, .int .i64 _, .int .i64 _] [.string _, .int .i64 _, .int .i64 _] (fun w => eqv61 _ _ _ _ _ _ _ _ w) rfl rfl rfl) ?_
    refine Dr_nil (Al_nil ?_)
    refine Aw_cond rfl (fun h17 => ?_) (fun h17 => ?_)
    · skip
      rw [L.any_step _ _ (show k < l.length by omega), ← dep_eqB, h17, Bool.true_or] at he
      refine Aw_seq (Aw_region ?_)
      refine Al_p Pu_mvr ?_
      refine Al_nil ?_
      refine Aw_ret ?_
      rw [he]; exact Sub.rfl -- ret 0
    · skip
      rw [L.any_step _ _ (show k < l.length by omega), ← dep_eqB, h17, Bool.false_or] at he
      refine Aw_skip (Aw_region ?_)
      refine Al_p Pu_mvl ?_
      refine Al_p (Pu_add rfl rfl rfl (fun h1 h2 => by simp only [A.inI, A.maxI] at *; omega)) ?_
      refine Al_p Pu_mvr ?_
      refine Al_nil ?_
      exact ⟨k + 1, ⟨by omega, he⟩, by omega, Le.ov ⟨Sub.num (by omega), trivial⟩ ⟨Sub.rfl, Sub.rfl, trivial⟩ trivial trivial⟩ -- loop 0 next.0
  · (try simp only [decide_eq_true_eq, decide_eq_false_iff_not, Bool.and_eq_true, Bool.or_eq_true, Bool.and_eq_false_iff, Bool.or_eq_false_iff, Bool.not_eq_true', Bool.not_eq_false', beq_iff_eq, Bool.not_eq_eq_eq_not, Bool.not_true, Bool.not_false, List.length_map, Bool.and_true, Bool.and_false, Bool.false_and, Bool.true_and, Bool.or_false, Bool.false_or] at h9)
    obtain rfl : k = l.length := by omega
    rw [L.any_end] at he
    refine Aw_exit (Aw_seq (Aw_region ?_))
    refine Al_p Pu_mvr ?_
    refine Al_nil ?_
    refine Aw_ret ?_
    rw [he]; exact Sub.rfl -- ret 1
set_option maxRecDepth 100000 in
theorem rkey_a (l : List Dep) (k : ByteArray) : ACall Try.prog 44 [.sl 3 (l.map Dep.row), tv k] (bv (L.keyB l k)) := by
  refine ACall_enter (fun _ _ => by kernel_rfl) Try.func44 rfl Try.ntmps44 Try.results44 (Nat.le_of_ble_eq_true rfl) (fun hok M0 w0 hnl => ?_)
  have hlen := (hok _ (List.mem_cons_self ..)).len
  rw [List.length_map] at hlen
  refine Aw_seq (Aw_region ?_)
  refine Al_p Pu_mvr ?_
  refine Al_nil (Aw_seq (Aw_seq (Aw_region ?_)))
  refine Al_p Pu_mvr ?_
  refine Al_nil (Aw_block ?_)
  refine Aw_loopk (ι := Nat) [0, 1] [] (fun j => [(5, .d (iv j))]) (fun j => []) (fun j => j ≤ l.length ∧ L.keyB l k = (l.drop j).any fun x => x.key.toList == k.toList) (fun j => l.length - j) (0) (⟨Nat.zero_le _, rfl⟩) ⟨Sub.rfl, trivial⟩ trivial ?_
  rintro j ⟨hk0, he⟩
  refine Aw_seq (Aw_seq (Aw_region ?_))
  refine Al_p Pu_mvl ?_
  refine Al_p Pu_mvl ?_
  refine Al_p (Pu_len rfl Try.underlying35 rfl (by first | exact List.length_map .. | exact rfl)) ?_
  refine Al_p (Pu_cmp rfl rfl rfl rfl) ?_
  refine Al_nil ?_
  refine Aw_cond rfl (fun h9 => ?_) (fun h9 => ?_)
  · (try simp only [decide_eq_true_eq, decide_eq_false_iff_not, Bool.and_eq_true, Bool.or_eq_true, Bool.and_eq_false_iff, Bool.or_eq_false_iff, Bool.not_eq_true', Bool.not_eq_false', beq_iff_eq, Bool.not_eq_eq_eq_not, Bool.not_true, Bool.not_false, List.length_map, Bool.and_true, Bool.and_false, Bool.false_and, Bool.true_and, Bool.or_false, Bool.false_or] at h9)
    refine Aw_skip (Aw_seq (Aw_block (Aw_seq (Aw_region ?_))))
    refine Al_p Pu_mvl ?_
    refine Al_p Pu_mvl ?_
    refine Al_p (Pu_index rfl Try.underlying35 Try.sizeOf61 rfl rfl (rfl) (mapget (by omega))) ?_
    refine Al_p (Pu_field 0 rfl Try.underlying61 rfl rfl Try.sizeOf9 rfl) ?_
    refine Al_p (Pu_load1 rfl Try.isAgg9 rfl rfl) ?_
    refine Al_p Pu_mvl ?_
    refine Al_p (Pu_str rfl rfl rfl rfl) ?_
    refine Al_nil ?_
    refine Aw_cond rfl (fun h18 => ?_) (fun h18 => ?_)
    · skip
      rw [L.any_step _ _ (show j < l.length by omega), h18, Bool.true_or] at he
      refine Aw_seq (Aw_region ?_)
      refine Al_p Pu_mvr ?_
      refine Al_nil ?_
      refine Aw_ret ?_
      rw [he]; exact Sub.rfl -- ret 0
    · skip
      rw [L.any_step _ _ (show j < l.length by omega), h18, Bool.false_or] at he
      refine Aw_skip (Aw_region ?_)
      refine Al_p Pu_mvl ?_
      refine Al_p (Pu_add rfl rfl rfl (fun h1 h2 => by simp only [A.inI, A.maxI] at *; omega)) ?_
      refine Al_p Pu_mvr ?_
      refine Al_nil ?_
      exact ⟨j + 1, ⟨by omega, he⟩, by omega, Le.ov ⟨Sub.num (by omega), trivial⟩ ⟨Sub.rfl, Sub.rfl, trivial⟩ trivial trivial⟩ -- loop 0 next.0
  · (try simp only [decide_eq_true_eq, decide_eq_false_iff_not, Bool.and_eq_true, Bool.or_eq_true, Bool.and_eq_false_iff, Bool.or_eq_false_iff, Bool.not_eq_true', Bool.not_eq_false', beq_iff_eq, Bool.not_eq_eq_eq_not, Bool.not_true, Bool.not_false, List.length_map, Bool.and_true, Bool.and_false, Bool.false_and, Bool.true_and, Bool.or_false, Bool.false_or] at h9)
    obtain rfl : j = l.length := by omega
    rw [L.any_end] at he
    refine Aw_exit (Aw_seq (Aw_region ?_))
    refine Al_p Pu_mvr ?_
    refine Al_nil ?_
    refine Aw_ret ?_
    rw [he]; exact Sub.rfl -- ret 1
namespace L
def rmore (e : Event) (ahead : List Dep) : List Dep := e.seen.filter fun d => !hasD ahead d
def rless (e : Event) (ahead : List Dep) : List Dep := ahead.filter fun d => !keyB e.seen d.key
def rstampOpt (n s : Int) : List UInt8 := if n = 0 then V.num 0 else V.num 1 ++ V.stamp n s
def rhead (e : Event) : List UInt8 := V.num e.kind.toNat ++ V.num e.client.toNat ++ V.text e.key ++ rstampOpt e.n e.s
def rpart (e : Event) (ahead : List Dep) : List UInt8 := rhead e ++ V.num (rmore e ahead).length ++ (rmore e ahead).flatMap depBytes ++ V.num (rless e ahead).length ++ (rless e ahead).flatMap fun d => V.text d.key
theorem filter_snoc {α : Type} (p : α → Bool) (l : List α) {j : Nat} (hj : j < l.length) : (l.take (j + 1)).filter p = (l.take j).filter p ++ (if p l[j] then [l[j]] else []) := by
  rw [List.take_succ_eq_append_getElem hj, List.filter_append]
  congr 1
  simp only [List.filter]
  split <;> simp_all
end L
set_option maxRecDepth 100000 in
theorem rpart_a (e : Event) (ahead : List Dep) (h0 : 0 ≤ e.kind) (h1 : 0 ≤ e.client) (hkey : e.key.size ≤ 1000) (hs : e.seen.length ≤ 64) (hsk : ∀ d ∈ e.seen, d.key.size ≤ 1000) (hal : ahead.length ≤ 64) (hak : ∀ d ∈ ahead, d.key.size ≤ 1000) :
    ACall Try.prog 31 [.row e.row, .sl 3 (ahead.map Dep.row)] (tv (V.ba (L.rpart e ahead))) := by
  refine ACall_enter (fun _ _ => by kernel_rfl) Try.func31 rfl Try.ntmps31 Try.results31 (Nat.le_of_ble_eq_true rfl) (fun hok M0 w0 hnl => ?_)
  have hr := (hok _ (List.mem_cons_self ..)).row
  have i0 := (hr (iv e.kind) (by simp [Event.row])).int
  have i1 := (hr (iv e.client) (by simp [Event.row])).int
  simp only [A.inI] at i0 i1
  have l0 := V.num_len64 (n := e.kind.toNat) (by omega)
  have l1 := V.num_len64 (n := e.client.toNat) (by omega)
  have l2 := V.num_len64 (n := e.key.size) (by omega)
  have l3 : (V.text e.key).length ≤ 1010 := by simp [V.text]; omega
  have l4 := stamp_len e.n e.s
  have l5 := V.num_len64 (n := 0) (by omega)
  have l6 := V.num_len64 (n := 1) (by omega)
  refine Aw_seq (Aw_region ?_)
  refine Al_p (Pu_boxN rfl rfl) ?_
  refine Al_p Pu_mvr ?_
  refine Al_nil (Aw_seq ?_)
  refine Aw_draw 13 (by kernel_rfl) (by kernel_rfl) ?_
  refine Dr_p (Pu_field 0 rfl Try.underlying37 rfl rfl Try.sizeOf3 rfl) ?_
  refine Dr_p (Pu_load1 rfl Try.isAgg3 rfl rfl) ?_
  refine Dr_p (Pu_conv rfl Try.underlying3 Try.underlying42 rfl (fun hv => u64_nat (by omega) (by simp only [vok, A.inI] at hv; omega))) ?_
  refine Dr_p (Pu_call (rnumber_az _ (by omega) (by omega)) rfl ⟨Sub.rfl, trivial⟩) ?_
  refine Dr_p (Pu_field 1 rfl Try.underlying37 rfl rfl Try.sizeOf3 rfl) ?_
  refine Dr_p (Pu_load1 rfl Try.isAgg3 rfl rfl) ?_
  refine Dr_p (Pu_conv rfl Try.underlying3 Try.underlying42 rfl (fun hv => u64_nat (by omega) (by simp only [vok, A.inI] at hv; omega))) ?_
  refine Dr_p (Pu_call (rnumber_az _ (by omega) (by omega)) rfl ⟨Sub.rfl, trivial⟩) ?_
  refine Dr_p (Pu_catB rfl rfl rfl (by simp only [A.ba_sz, List.length_append, A.maxI]; omega)) ?_
  refine Dr_p (Pu_field 2 rfl Try.underlying37 rfl rfl Try.sizeOf9 rfl) ?_
  refine Dr_p (Pu_load1 rfl Try.isAgg9 rfl rfl) ?_
  refine Dr_p (Pu_call (rtext_a _ (by omega)) rfl ⟨Sub.rfl, trivial⟩) ?_
  refine Dr_p (Pu_catB rfl rfl rfl (by simp only [A.ba_sz, List.length_append, A.maxI]; omega)) ?_
  refine Dr_nil ?_
  refine Al_p Pu_mvr ?_
  refine Al_nil ?_
  refine Aw_join (ι := Unit) [1, 2] [] (fun _ => [(5, .d (tv (V.ba (L.rhead e))))]) (fun _ => []) (fun _ => True) ?_ ?_ -- join 0
  · refine Aw_seq (Aw_region ?_)
    refine Al_p (Pu_field 3 rfl Try.underlying37 rfl rfl Try.sizeOf34 rfl) ?_
    refine Al_p (Pu_field 0 rfl Try.underlying34 rfl rfl Try.sizeOf3 rfl) ?_
    refine Al_p (Pu_load1 rfl Try.isAgg3 rfl rfl) ?_
    refine Al_p (Pu_cmp rfl rfl rfl rfl) ?_
    refine Al_nil ?_
    refine Aw_cond rfl (fun h30 => ?_) (fun h30 => ?_)
    · (try simp only [decide_eq_true_eq, decide_eq_false_iff_not, Bool.and_eq_true, Bool.or_eq_true, Bool.and_eq_false_iff, Bool.or_eq_false_iff, Bool.not_eq_true', Bool.not_eq_false', beq_iff_eq, Bool.not_eq_eq_eq_not, Bool.not_true, Bool.not_false, List.length_map, Bool.and_true, Bool.and_false, Bool.false_and, Bool.true_and, Bool.or_false, Bool.false_or] at h30)
      refine Aw_region ?_
      refine Al_p Pu_mvl ?_
      refine Al_p (Pu_call (rnumber_a 0 (by omega)) rfl ⟨Sub.rfl, trivial⟩) ?_
      refine Al_p (Pu_catB rfl rfl rfl (by simp only [A.ba_sz, List.length_append, A.maxI]; omega)) ?_
      refine Al_p Pu_mvr ?_
      refine Al_nil ?_
      exact ⟨(), trivial, Le.ov ⟨Sub.str (by unfold L.rhead L.rstampOpt; rw [if_pos h30]), trivial⟩ ⟨Sub.rfl, Sub.rfl, trivial⟩ trivial trivial⟩ -- join 0 next.0
    · (try simp only [decide_eq_true_eq, decide_eq_false_iff_not, Bool.and_eq_true, Bool.or_eq_true, Bool.and_eq_false_iff, Bool.or_eq_false_iff, Bool.not_eq_true', Bool.not_eq_false', beq_iff_eq, Bool.not_eq_eq_eq_not, Bool.not_true, Bool.not_false, List.length_map, Bool.and_true, Bool.and_false, Bool.false_and, Bool.true_and, Bool.or_false, Bool.false_or] at h30)
      refine Aw_draw 7 (by kernel_rfl) (by kernel_rfl) ?_
      refine Dr_p Pu_mvl ?_
      refine Dr_p (Pu_call (rnumber_a 1 (by omega)) rfl ⟨Sub.rfl, trivial⟩) ?_
      refine Dr_p (Pu_catB rfl rfl rfl (by simp only [A.ba_sz, List.length_append, A.maxI]; omega)) ?_
      refine Dr_p (Pu_field 3 rfl Try.underlying37 rfl rfl Try.sizeOf34 rfl) ?_
      refine Dr_p (Pu_loadN rfl Try.isAgg34 Try.sizeOf34 rfl (Nat.le_of_ble_eq_true rfl)) ?_
      refine Dr_p (Pu_call (rstbytes_a _ _) rfl ⟨Sub.rfl, trivial⟩) ?_
      refine Dr_p (Pu_catB rfl rfl rfl (by simp only [A.ba_sz, List.length_append, A.maxI]; omega)) ?_
      refine Dr_nil ?_
      refine Al_p Pu_mvr ?_
      refine Al_nil ?_
      exact ⟨(), trivial, Le.ov ⟨Sub.str (by unfold L.rhead L.rstampOpt; rw [if_neg h30]; simp only [List.append_assoc]), trivial⟩ ⟨Sub.rfl, Sub.rfl, trivial⟩ trivial trivial⟩ -- join 0 next.1
  · rintro _ hj0
    have l7 : (L.rhead e).length ≤ 2000 := by unfold L.rhead L.rstampOpt; split <;> simp only [List.length_append] <;> omega
    refine Aw_seq (Aw_region ?_)
    refine Al_p Pu_mvr ?_
    refine Al_nil (Aw_seq (Aw_region ?_))
    refine Al_p Pu_mvr ?_
    refine Al_nil (Aw_seq (Aw_seq (Aw_region ?_)))
    refine Al_p Pu_mvr ?_
    refine Al_nil (Aw_block ?_)
    refine Aw_loopk (ι := Nat) [1, 2, 5] [] (fun j => [(8, .d (iv j)), (6, .d (tv (V.ba (((e.seen.take j).filter fun d => !L.hasD ahead d).flatMap L.depBytes)))), (7, .d (iv (((e.seen.take j).filter fun d => !L.hasD ahead d).length)))]) (fun j => []) (fun j => j ≤ e.seen.length) (fun j => e.seen.length - j) (0) (Nat.zero_le _) ⟨Sub.rfl, Sub.rfl, Sub.rfl, trivial⟩ trivial ?_
    rintro j hk0
    refine Aw_seq (Aw_seq (Aw_region ?_))
    refine Al_p Pu_mvl ?_
    refine Al_p (Pu_field 5 rfl Try.underlying37 rfl rfl Try.sizeOf35 rfl) ?_
    refine Al_p (Pu_load1 rfl Try.isAgg35 rfl rfl) ?_
    refine Al_p (Pu_len rfl Try.underlying35 rfl (by first | exact List.length_map .. | exact rfl)) ?_
    refine Al_p (Pu_cmp rfl rfl rfl rfl) ?_
    refine Al_nil ?_
    refine Aw_cond rfl (fun h45 => ?_) (fun h45 => ?_)
    · (try simp only [decide_eq_true_eq, decide_eq_false_iff_not, Bool.and_eq_true, Bool.or_eq_true, Bool.and_eq_false_iff, Bool.or_eq_false_iff, Bool.not_eq_true', Bool.not_eq_false', beq_iff_eq, Bool.not_eq_eq_eq_not, Bool.not_true, Bool.not_false, List.length_map, Bool.and_true, Bool.and_false, Bool.false_and, Bool.true_and, Bool.or_false, Bool.false_or] at h45)
      have hj : j < e.seen.length := by omega
      have hsn := L.filter_snoc (fun d => !L.hasD ahead d) e.seen hj
      have hfl := (dep_flat ((e.seen.take j).filter fun d => !L.hasD ahead d) (fun d hd => hsk d (List.mem_of_mem_take (List.mem_filter.1 hd).1))).1
      have hfn : ((e.seen.take j).filter fun d => !L.hasD ahead d).length ≤ j := Nat.le_trans (List.length_filter_le _ _) (by rw [List.length_take]; omega)
      have k0 := hsk e.seen[j] (List.getElem_mem hj)
      have k1 := V.num_len64 (n := e.seen[j].key.size) (by omega)
      have k2 : (V.text e.seen[j].key).length ≤ 1010 := by simp [V.text]; omega
      have k3 := stamp_len e.seen[j].n e.seen[j].s
      refine Aw_skip ?_
      refine Aw_join (ι := Unit) [1, 2, 5, 8] [] (fun _ => [(6, .d (tv (V.ba (((e.seen.take (j + 1)).filter fun d => !L.hasD ahead d).flatMap L.depBytes)))), (7, .d (iv (((e.seen.take (j + 1)).filter fun d => !L.hasD ahead d).length)))]) (fun _ => []) (fun _ => True) ?_ ?_ -- join 1
      · refine Aw_block (Aw_seq (Aw_region ?_))
        refine Al_p Pu_mvl ?_
        refine Al_p (Pu_field 5 rfl Try.underlying37 rfl rfl Try.sizeOf35 rfl) ?_
        refine Al_p (Pu_load1 rfl Try.isAgg35 rfl rfl) ?_
        refine Al_p Pu_mvl ?_
        refine Al_p (Pu_index rfl Try.underlying35 Try.sizeOf61 rfl rfl (rfl) (mapget (by omega))) ?_
        refine Al_p (Pu_loadN rfl Try.isAgg61 Try.sizeOf61 rfl (Nat.le_of_ble_eq_true rfl)) ?_
        refine Al_p (Pu_call (rhas_a _ _) rfl ⟨Sub.rfl, Sub.rfl, trivial⟩) ?_
        refine Al_p Pu_mvr ?_
        refine Al_nil (Aw_seq (Aw_region ?_))
        refine Al_p Pu_mvl ?_
        refine Al_p (Pu_not rfl rfl) ?_
        refine Al_nil ?_
        refine Aw_cond rfl (fun h56 => ?_) (fun h56 => ?_)
        · (try simp only [decide_eq_true_eq, decide_eq_false_iff_not, Bool.and_eq_true, Bool.or_eq_true, Bool.and_eq_false_iff, Bool.or_eq_false_iff, Bool.not_eq_true', Bool.not_eq_false', beq_iff_eq, Bool.not_eq_eq_eq_not, Bool.not_true, Bool.not_false, List.length_map, Bool.and_true, Bool.and_false, Bool.false_and, Bool.true_and, Bool.or_false, Bool.false_or] at h56)
          refine Aw_seq (Aw_region ?_)
          refine Al_p Pu_mvl ?_
          refine Al_p (Pu_add rfl rfl rfl (fun h1 h2 => by simp only [A.inI, A.maxI] at *; omega)) ?_
          refine Al_p Pu_mvr ?_
          refine Al_nil ?_
          refine Aw_draw 17 (by kernel_rfl) (by kernel_rfl) ?_
          refine Dr_p Pu_mvl ?_
          refine Dr_p (Pu_field 5 rfl Try.underlying37 rfl rfl Try.sizeOf35 rfl) ?_
          refine Dr_p (Pu_load1 rfl Try.isAgg35 rfl rfl) ?_
          refine Dr_p Pu_mvl ?_
          refine Dr_p (Pu_index rfl Try.underlying35 Try.sizeOf61 rfl rfl (rfl) (mapget (by omega))) ?_
          refine Dr_p (Pu_field 0 rfl Try.underlying61 rfl rfl Try.sizeOf9 rfl) ?_
          refine Dr_p (Pu_load1 rfl Try.isAgg9 rfl rfl) ?_
          refine Dr_p (Pu_call (rtext_a _ (by omega)) rfl ⟨Sub.rfl, trivial⟩) ?_
          refine Dr_p (Pu_catB rfl rfl rfl (by simp only [A.ba_sz, List.length_append, A.maxI]; omega)) ?_
          refine Dr_p (Pu_field 5 rfl Try.underlying37 rfl rfl Try.sizeOf35 rfl) ?_
          refine Dr_p (Pu_load1 rfl Try.isAgg35 rfl rfl) ?_
          refine Dr_p Pu_mvl ?_
          refine Dr_p (Pu_index rfl Try.underlying35 Try.sizeOf61 rfl rfl (rfl) (mapget (by omega))) ?_
          refine Dr_p (Pu_field 1 rfl Try.underlying61 rfl rfl Try.sizeOf34 rfl) ?_
          refine Dr_p (Pu_loadN rfl Try.isAgg34 Try.sizeOf34 rfl (Nat.le_of_ble_eq_true rfl)) ?_
          refine Dr_p (Pu_call (rstbytes_a _ _) rfl ⟨Sub.rfl, trivial⟩) ?_
          refine Dr_p (Pu_catB rfl rfl rfl (by simp only [A.ba_sz, List.length_append, A.maxI]; omega)) ?_
          refine Dr_nil ?_
          refine Al_p Pu_mvr ?_
          refine Al_nil ?_
          exact ⟨(), trivial, Le.ov ⟨Sub.str (by rw [hsn, h56]; simp [L.depBytes]), Sub.num (by rw [hsn, h56]; simp), trivial⟩ ⟨Sub.rfl, Sub.rfl, Sub.rfl, Sub.rfl, trivial⟩ trivial trivial⟩ -- join 1 next.0
        · (try simp only [decide_eq_true_eq, decide_eq_false_iff_not, Bool.and_eq_true, Bool.or_eq_true, Bool.and_eq_false_iff, Bool.or_eq_false_iff, Bool.not_eq_true', Bool.not_eq_false', beq_iff_eq, Bool.not_eq_eq_eq_not, Bool.not_true, Bool.not_false, List.length_map, Bool.and_true, Bool.and_false, Bool.false_and, Bool.true_and, Bool.or_false, Bool.false_or] at h56)
          refine Aw_skip ?_
          exact ⟨(), trivial, Le.ov ⟨Sub.str (by rw [hsn, h56]; simp), Sub.num (by rw [hsn, h56]; simp), trivial⟩ ⟨Sub.rfl, Sub.rfl, Sub.rfl, Sub.rfl, trivial⟩ trivial trivial⟩ -- join 1 next.1
      · rintro _ hj1
        refine Aw_region ?_
        refine Al_p Pu_mvl ?_
        refine Al_p (Pu_add rfl rfl rfl (fun h1 h2 => by simp only [A.inI, A.maxI] at *; omega)) ?_
        refine Al_p Pu_mvr ?_
        refine Al_nil ?_
        exact ⟨j + 1, by omega, by omega, Le.ov ⟨Sub.num (by omega), Sub.rfl, Sub.rfl, trivial⟩ ⟨Sub.rfl, Sub.rfl, Sub.rfl, trivial⟩ trivial trivial⟩ -- loop 0 next.0
    · (try simp only [decide_eq_true_eq, decide_eq_false_iff_not, Bool.and_eq_true, Bool.or_eq_true, Bool.and_eq_false_iff, Bool.or_eq_false_iff, Bool.not_eq_true', Bool.not_eq_false', beq_iff_eq, Bool.not_eq_eq_eq_not, Bool.not_true, Bool.not_false, List.length_map, Bool.and_true, Bool.and_false, Bool.false_and, Bool.true_and, Bool.or_false, Bool.false_or] at h45)
      obtain rfl : j = e.seen.length := by omega
      rw [List.take_length]
      have hmo : (e.seen.filter fun d => !L.hasD ahead d) = L.rmore e ahead := rfl
      have hml : (L.rmore e ahead).length ≤ 64 := Nat.le_trans (List.length_filter_le _ _) hs
      have hfm := (dep_flat (L.rmore e ahead) (fun d hd => hsk d (List.mem_filter.1 hd).1)).1
      rw [hmo]
      generalize hmo2 : L.rmore e ahead = mo at *
      refine Aw_exit (Aw_seq (Aw_region ?_))
      refine Al_p Pu_mvr ?_
      refine Al_nil (Aw_seq (Aw_region ?_))
      refine Al_p Pu_mvr ?_
      refine Al_nil (Aw_seq (Aw_seq (Aw_region ?_)))
      refine Al_p Pu_mvr ?_
      refine Al_nil (Aw_block ?_)
      refine Aw_loopk (ι := Nat) [1, 2, 5, 6, 7] [] (fun j => [(12, .d (iv j)), (10, .d (tv (V.ba (((ahead.take j).filter fun d => !L.keyB e.seen d.key).flatMap fun d => V.text d.key)))), (11, .d (iv (((ahead.take j).filter fun d => !L.keyB e.seen d.key).length)))]) (fun j => []) (fun j => j ≤ ahead.length) (fun j => ahead.length - j) (0) (Nat.zero_le _) ⟨Sub.rfl, Sub.rfl, Sub.rfl, trivial⟩ trivial ?_
      rintro j hk1
      refine Aw_seq (Aw_seq (Aw_region ?_))
      refine Al_p Pu_mvl ?_
      refine Al_p Pu_mvl ?_
      refine Al_p (Pu_len rfl Try.underlying35 rfl (by first | exact List.length_map .. | exact rfl)) ?_
      refine Al_p (Pu_cmp rfl rfl rfl rfl) ?_
      refine Al_nil ?_
      refine Aw_cond rfl (fun h79 => ?_) (fun h79 => ?_)
      · (try simp only [decide_eq_true_eq, decide_eq_false_iff_not, Bool.and_eq_true, Bool.or_eq_true, Bool.and_eq_false_iff, Bool.or_eq_false_iff, Bool.not_eq_true', Bool.not_eq_false', beq_iff_eq, Bool.not_eq_eq_eq_not, Bool.not_true, Bool.not_false, List.length_map, Bool.and_true, Bool.and_false, Bool.false_and, Bool.true_and, Bool.or_false, Bool.false_or] at h79)
        have hj : j < ahead.length := by omega
        have hsn := L.filter_snoc (fun d => !L.keyB e.seen d.key) ahead hj
        have hfl := (dep_flat ((ahead.take j).filter fun d => !L.keyB e.seen d.key) (fun d hd => hak d (List.mem_of_mem_take (List.mem_filter.1 hd).1))).2
        have hfn : ((ahead.take j).filter fun d => !L.keyB e.seen d.key).length ≤ j := Nat.le_trans (List.length_filter_le _ _) (by rw [List.length_take]; omega)
        have k0 := hak ahead[j] (List.getElem_mem hj)
        have k1 := V.num_len64 (n := ahead[j].key.size) (by omega)
        have k2 : (V.text ahead[j].key).length ≤ 1010 := by simp [V.text]; omega
        refine Aw_skip ?_
        refine Aw_join (ι := Unit) [1, 2, 5, 6, 7, 12] [] (fun _ => [(10, .d (tv (V.ba (((ahead.take (j + 1)).filter fun d => !L.keyB e.seen d.key).flatMap fun d => V.text d.key)))), (11, .d (iv (((ahead.take (j + 1)).filter fun d => !L.keyB e.seen d.key).length)))]) (fun _ => []) (fun _ => True) ?_ ?_ -- join 2
        · refine Aw_block (Aw_seq ?_)
          refine Aw_draw 8 (by kernel_rfl) (by kernel_rfl) ?_
          refine Dr_p (Pu_field 5 rfl Try.underlying37 rfl rfl Try.sizeOf35 rfl) ?_
          refine Dr_p (Pu_load1 rfl Try.isAgg35 rfl rfl) ?_
          refine Dr_p Pu_mvl ?_
          refine Dr_p Pu_mvl ?_
          refine Dr_p (Pu_index rfl Try.underlying35 Try.sizeOf61 rfl rfl (rfl) (mapget (by omega))) ?_
          refine Dr_p (Pu_field 0 rfl Try.underlying61 rfl rfl Try.sizeOf9 rfl) ?_
          refine Dr_p (Pu_load1 rfl Try.isAgg9 rfl rfl) ?_
          refine Dr_p (Pu_call (rkey_a _ _) rfl ⟨Sub.rfl, Sub.rfl, trivial⟩) ?_
          refine Dr_nil ?_
          refine Al_p Pu_mvr ?_
          refine Al_nil (Aw_seq (Aw_region ?_))
          refine Al_p Pu_mvl ?_
          refine Al_p (Pu_not rfl rfl) ?_
          refine Al_nil ?_
          refine Aw_cond rfl (fun h91 => ?_) (fun h91 => ?_)
          · (try simp only [decide_eq_true_eq, decide_eq_false_iff_not, Bool.and_eq_true, Bool.or_eq_true, Bool.and_eq_false_iff, Bool.or_eq_false_iff, Bool.not_eq_true', Bool.not_eq_false', beq_iff_eq, Bool.not_eq_eq_eq_not, Bool.not_true, Bool.not_false, List.length_map, Bool.and_true, Bool.and_false, Bool.false_and, Bool.true_and, Bool.or_false, Bool.false_or] at h91)
            refine Aw_seq (Aw_region ?_)
            refine Al_p Pu_mvl ?_
            refine Al_p (Pu_add rfl rfl rfl (fun h1 h2 => by simp only [A.inI, A.maxI] at *; omega)) ?_
            refine Al_p Pu_mvr ?_
            refine Al_nil (Aw_region ?_)
            refine Al_p Pu_mvl ?_
            refine Al_p Pu_mvl ?_
            refine Al_p Pu_mvl ?_
            refine Al_p (Pu_index rfl Try.underlying35 Try.sizeOf61 rfl rfl (rfl) (mapget (by omega))) ?_
            refine Al_p (Pu_field 0 rfl Try.underlying61 rfl rfl Try.sizeOf9 rfl) ?_
            refine Al_p (Pu_load1 rfl Try.isAgg9 rfl rfl) ?_
            refine Al_p (Pu_call (rtext_a _ (by omega)) rfl ⟨Sub.rfl, trivial⟩) ?_
            refine Al_p (Pu_catB rfl rfl rfl (by simp only [A.ba_sz, List.length_append, A.maxI]; omega)) ?_
            refine Al_p Pu_mvr ?_
            refine Al_nil ?_
            exact ⟨(), trivial, Le.ov ⟨Sub.str (by rw [hsn, h91]; simp), Sub.num (by rw [hsn, h91]; simp), trivial⟩ ⟨Sub.rfl, Sub.rfl, Sub.rfl, Sub.rfl, Sub.rfl, Sub.rfl, trivial⟩ trivial trivial⟩ -- join 2 next.0
          · (try simp only [decide_eq_true_eq, decide_eq_false_iff_not, Bool.and_eq_true, Bool.or_eq_true, Bool.and_eq_false_iff, Bool.or_eq_false_iff, Bool.not_eq_true', Bool.not_eq_false', beq_iff_eq, Bool.not_eq_eq_eq_not, Bool.not_true, Bool.not_false, List.length_map, Bool.and_true, Bool.and_false, Bool.false_and, Bool.true_and, Bool.or_false, Bool.false_or] at h91)
            refine Aw_skip ?_
            exact ⟨(), trivial, Le.ov ⟨Sub.str (by rw [hsn, h91]; simp), Sub.num (by rw [hsn, h91]; simp), trivial⟩ ⟨Sub.rfl, Sub.rfl, Sub.rfl, Sub.rfl, Sub.rfl, Sub.rfl, trivial⟩ trivial trivial⟩ -- join 2 next.1
        · rintro _ hj2
          refine Aw_region ?_
          refine Al_p Pu_mvl ?_
          refine Al_p (Pu_add rfl rfl rfl (fun h1 h2 => by simp only [A.inI, A.maxI] at *; omega)) ?_
          refine Al_p Pu_mvr ?_
          refine Al_nil ?_
          exact ⟨j + 1, by omega, by omega, Le.ov ⟨Sub.num (by omega), Sub.rfl, Sub.rfl, trivial⟩ ⟨Sub.rfl, Sub.rfl, Sub.rfl, Sub.rfl, Sub.rfl, trivial⟩ trivial trivial⟩ -- loop 1 next.0
      · (try simp only [decide_eq_true_eq, decide_eq_false_iff_not, Bool.and_eq_true, Bool.or_eq_true, Bool.and_eq_false_iff, Bool.or_eq_false_iff, Bool.not_eq_true', Bool.not_eq_false', beq_iff_eq, Bool.not_eq_eq_eq_not, Bool.not_true, Bool.not_false, List.length_map, Bool.and_true, Bool.and_false, Bool.false_and, Bool.true_and, Bool.or_false, Bool.false_or] at h79)
        obtain rfl : j = ahead.length := by omega
        rw [List.take_length]
        have hle : (ahead.filter fun d => !L.keyB e.seen d.key) = L.rless e ahead := rfl
        have hll : (L.rless e ahead).length ≤ 64 := Nat.le_trans (List.length_filter_le _ _) hal
        have hfn := (dep_flat (L.rless e ahead) (fun d hd => hak d (List.mem_filter.1 hd).1)).2
        have n1 := V.num_len64 (n := mo.length) (by omega)
        have n2 := V.num_len64 (n := (L.rless e ahead).length) (by omega)
        rw [hle]
        refine Aw_exit (Aw_seq (Aw_region ?_))
        refine Al_p Pu_mvl ?_
        refine Al_p Pu_mvl ?_
        refine Al_p (Pu_conv rfl Try.underlying3 Try.underlying42 rfl (fun hv => u64_nat (by omega) (by simp only [vok, A.inI] at hv; omega))) ?_
        refine Al_p (Pu_call (rnumber_a _ (by omega)) rfl ⟨Sub.rfl, trivial⟩) ?_
        refine Al_p (Pu_catB rfl rfl rfl (by simp only [A.ba_sz, List.length_append, A.maxI]; omega)) ?_
        refine Al_p Pu_mvl ?_
        refine Al_p (Pu_catB rfl rfl rfl (by simp only [A.ba_sz, List.length_append, A.maxI]; omega)) ?_
        refine Al_p Pu_mvl ?_
        refine Al_p (Pu_conv rfl Try.underlying3 Try.underlying42 rfl (fun hv => u64_nat (by omega) (by simp only [vok, A.inI] at hv; omega))) ?_
        refine Al_p (Pu_call (rnumber_a _ (by omega)) rfl ⟨Sub.rfl, trivial⟩) ?_
        refine Al_p (Pu_catB rfl rfl rfl (by simp only [A.ba_sz, List.length_append, A.maxI]; omega)) ?_
        refine Al_p Pu_mvl ?_
        refine Al_p (Pu_catB rfl rfl rfl (by simp only [A.ba_sz, List.length_append, A.maxI]; omega)) ?_
        refine Al_p Pu_mvr ?_
        refine Al_nil ?_
        refine Aw_ret ?_
        exact Sub.str (by unfold L.rpart; rw [hmo2]) -- ret 0
end Go.Proofs.Ytlcahhlghjbnkaa
end

section
namespace Go.Proofs.Ytlcahhlghjbnkaa
open Go.RowKit R
def wokeE : Event := ⟨1, 0, ⟨#[97]⟩, 1, 0, []⟩
theorem woke_check : L.check wokeE = true := by decide +kernel
theorem woke_bytes : L.bytes [wokeE] = [1, 1, 0, 1, 97, 1, 1, 0, 0, 0] := by
  have h1 : V.num 1 = [1] := V.num_small (by omega)
  have h0 : V.num 0 = [0] := V.num_small (by omega)
  have hs : V.stamp 1 0 = [1, 0] := by unfold V.stamp; rw [if_pos (by decide)]; simp [h1, h0]
  have hp : L.part wokeE [] = [1, 0, 1, 97, 1, 1, 0, 0, 0] := by
    have ht : V.text ⟨#[97]⟩ = [1, 97] := by show V.num 1 ++ [97] = _; rw [h1]; rfl
    have hb : L.headBytes wokeE = [1, 0, 1, 97, 1, 1, 0] := by
      show V.num 1 ++ V.num 0 ++ V.text ⟨#[97]⟩ ++ L.stampOpt 1 0 = _
      rw [h1, h0, ht]
      have : L.stampOpt 1 0 = [1, 1, 0] := by unfold L.stampOpt; rw [if_neg (by decide), h1, hs]; rfl
      rw [this]; rfl
    show L.headBytes wokeE ++ V.num 0 ++ [] ++ V.num 0 ++ [] = _
    rw [hb, h0]; rfl
  unfold L.bytes L.parts
  rw [if_pos (by decide +kernel), if_pos (by decide +kernel)]
  show V.num 1 ++ L.cat [V.ba (L.part wokeE [])] = _
  rw [hp, h1]; rfl
theorem none_bytes : L.bytes [] = [0] := by
  show V.num 0 ++ [] = _
  rw [V.num_small (by omega)]; rfl
theorem one_event {w : World} {b : Nat} {e : Event} {v : Value} {T : TypeId} (h : w.heap[b]? = some (.cells #[.int .i64 e.kind, .int .i64 e.client, .string e.key, .int .i64 e.n, .int .i64 e.s, v] T)) (hz : e.key.size ≤ 9223372036854775807 ∧ inI e.kind ∧ inI e.client ∧ inI e.n ∧ inI e.s) (hs : Sl (fun _ => True) w v e.seen) :
    Sl (fun _ => True) w (.slice (some ⟨b, 0, none⟩) 1 1) [e] := by
  refine ⟨_, 1, rfl, by simp, fun _ => ⟨b, 0, rfl, trivial, fun i x hx => ?_⟩⟩
  match i with
  | 0 =>
    simp at hx; subst hx
    refine ⟨_, ⟨v, rfl, hz, hs⟩, fun j c hj => ?_⟩
    have hj' : ([Value.int .i64 e.kind, .int .i64 e.client, .string e.key, .int .i64 e.n, .int .i64 e.s, v] : List Value)[j]? = some c := hj
    simp [World.cell?, h, hj']
  | (i + 1) => simp at hx
set_option maxHeartbeats 4000000 in
set_option maxRecDepth 100000 in
theorem lawake_any (w : World) : Calls Try.prog 5 #[] w fun r w' => r = .returned (.bool true) ∧ Ev.Ext w w' := by
  have hb : (w.alloc (.cells #[.int .i64 1, .int .i64 0, .string ⟨#[97]⟩, .int .i64 1, .int .i64 0, .slice none 0 0] 37)).heap[w.heap.size]? = _ := heap_alloc_new _ _
  have hE := extA w (.cells #[.int .i64 1, .int .i64 0, .string ⟨#[97]⟩, .int .i64 1, .int .i64 0, .slice none 0 0] 37)
  go_enter Try.func5, Try.ntmps5
  go_wp2_with fail
  refine (lbytes_any [] _ (fun _ => True) _ (Sl.nil _ _) (by simp) (by intro e he; cases he)).mono ?_; rintro e w1 ⟨rfl, hx1⟩
  rw [none_bytes]
  have hb1 := (hx1.block _ (Array.getElem?_eq_some_iff.1 hb).1).trans hb
  go_wp2_with fail
  have hs1 : Sl (fun _ => True) w1 (.slice (some ⟨w.heap.size, 0, none⟩) 1 1) [wokeE] := one_event (e := wokeE) hb1 (by unfold inI; decide) (Sl.nil _ _)
  refine (lbytes_any [wokeE] _ (fun _ => True) _ hs1 (by simp) (by intro e he; simp at he; subst he; exact ⟨by decide, by intro d hd; cases hd⟩)).mono ?_; rintro e w2 ⟨rfl, hx2⟩
  rw [woke_bytes]
  have hb2 := (hx2.block _ (Array.getElem?_eq_some_iff.1 hb1).1).trans hb1
  obtain ⟨c0, c1, c2, c3, c4, c5⟩ := six_of hb2
  clear hb hb1 hb2
  go_wp2_with fail
  refine (lcheck_any wokeE _ (fun _ => True) _ (by decide) (Sl.nil _ _)).mono ?_; rintro e w3 ⟨rfl, hx3⟩
  rw [woke_check]
  go_wp2
  go_ret
  exact ⟨rfl, ((hE.trans hx1).trans hx2).trans hx3⟩
end Go.Proofs.Ytlcahhlghjbnkaa
end
