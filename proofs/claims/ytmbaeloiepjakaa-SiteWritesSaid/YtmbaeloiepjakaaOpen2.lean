/- Arguments of laws, opened. -/
/- Arguments that are slices, opened as plain data. -/
import Derived.Test.YtmbaeloiepjakaaRows
import Derived.WalkKit
import Derived.ProofKit
import Derived.OpenShut
import Derived.ShutString
import Derived.ChangeOld
import Derived.Lib.SmallJoins
import Derived.Test.YtmbaeloiepjakaaRep
import Derived.Deep.Slices
namespace Go.Proofs.Ytmbaeloiepjakaa
open Go.ChangeShapes Go.WideShapes Go.ChangeAt Go.RowKit Go.Joins Go.Deep
open Go.ChangeMaps (open_string shut_string)
section
variable {H : Type} {enc : TypeId × Value → H} {P : Program} {W : World} {base : Nat} {sp : Nat → Bool} {held : Bool}
/-- A struct of two texts. -/
theorem open_two {r : Reach} {b0 t ts : TypeId} {f0 f1 : Field} {v : Value} {d : DataW H} {p : List MemPlace} (hs : P.underlying t = some (.struct #[f0, f1])) (hone : oneCellFields P #[f0, f1] = true) (hC : P.cellsOf t = 2)
    (h0 : f0.type = ts) (h1 : f1.type = ts) (hts : P.underlying ts = some .string)
    (hv : Value.okWide P W r b0 t v) (h : DataW.Trod enc P W base sp held t v d p) : ∃ a b : ByteArray, v = .agg #[.string a, .string b] ∧ a.size ≤ maxLen ∧ b.size ≤ maxLen := by
  obtain ⟨c0, c1, y0, y1, m, rfl, rfl, rfl, hy0, hy1⟩ := open_agg2 hs hone hC hv h
  rw [h0] at hy0
  rw [h1] at hy1
  obtain ⟨a, e0, _, wa⟩ := DataW.trod_string hts hy0
  obtain ⟨b, e1, _, wb⟩ := DataW.trod_string hts hy1
  simp at e0 e1
  subst e0 e1
  exact ⟨a, b, rfl, wa, wb⟩
theorem arr_cells {r : Reach} {b0 t e : TypeId} {n : Nat} {v : Value} {d : DataW H} {p : List MemPlace} (ht : P.underlying t = some (.array n e)) (hC : P.cellsOf t = n) (hE : P.cellsOf e = 1)
    (hv : Value.okWide P W r b0 t v) (h : DataW.Trod enc P W base sp held t v d p) :
    ∃ cs : List Value, v = .agg cs.toArray ∧ cs.length = n ∧ ∀ i, i < n → ∃ m x, DataW.trod enc P W base sp held m e [cs.getD i undef] = some x := by
  unfold Value.okWide at hv
  rw [ht] at hv
  obtain ⟨cs, rfl, hsz, _⟩ := hv
  obtain ⟨fuel, hf⟩ := h
  obtain ⟨xs, m, _, _, _, hn, hel⟩ := DataW.trod_array ht hf
  refine ⟨cs.toList, by simp, by simpa using hsz.trans hC, fun i hi => ?_⟩
  have := hel i hi
  have hlt : i < cs.size := by omega
  have hx : i < xs.length := by omega
  rw [hE, Nat.mul_one, List.getElem?_eq_getElem hx] at this
  have e : (cs.toList.drop i).take 1 = [cs.toList.getD i undef] := by
    rw [List.drop_eq_getElem_cons (by simpa using hlt)]
    simp [List.getD, hlt]
  simp only [Value.cells] at this
  rw [e] at this
  exact ⟨m, _, this⟩
theorem list3 {cs : List Value} {a b c : Value} (hl : cs.length = 3) (ha : cs.getD 0 undef = a) (hb : cs.getD 1 undef = b) (hc : cs.getD 2 undef = c) : cs = [a, b, c] := by
  match cs, hl with
  | [x, y, z], _ => simp at ha hb hc; rw [ha, hb, hc]
theorem list2 {cs : List Value} {a b : Value} (hl : cs.length = 2) (ha : cs.getD 0 undef = a) (hb : cs.getD 1 undef = b) : cs = [a, b] := by
  match cs, hl with
  | [x, y], _ => simp at ha hb; rw [ha, hb]
theorem list4 {cs : List Value} {a b c d : Value} (hl : cs.length = 4) (ha : cs.getD 0 undef = a) (hb : cs.getD 1 undef = b) (hc : cs.getD 2 undef = c) (hd : cs.getD 3 undef = d) : cs = [a, b, c, d] := by
  match cs, hl with
  | [x, y, z, u], _ => simp at ha hb hc hd; rw [ha, hb, hc, hd]
theorem open_strs {r : Reach} {b0 t e : TypeId} {n : Nat} {v : Value} {d : DataW H} {p : List MemPlace} (ht : P.underlying t = some (.array n e)) (hC : P.cellsOf t = n) (hE : P.cellsOf e = 1) (he : P.underlying e = some .string)
    (hv : Value.okWide P W r b0 t v) (h : DataW.Trod enc P W base sp held t v d p) :
    ∃ cs : List Value, v = .agg cs.toArray ∧ cs.length = n ∧ ∀ i, i < n → ∃ s : ByteArray, cs.getD i undef = .string s ∧ s.size ≤ maxLen := by
  obtain ⟨cs, rfl, hl, hel⟩ := arr_cells ht hC hE hv h
  refine ⟨cs, rfl, hl, fun i hi => ?_⟩
  obtain ⟨m, x, hx⟩ := hel i hi
  obtain ⟨s, e0, _, ws⟩ := DataW.trod_string he hx
  exact ⟨s, by simpa using e0, ws⟩
theorem open_arrint {k : IntKind} {r : Reach} {b0 t e : TypeId} {n : Nat} {v : Value} {d : DataW H} {p : List MemPlace} (ht : P.underlying t = some (.array n e)) (hC : P.cellsOf t = n) (hE : P.cellsOf e = 1) (he : P.underlying e = some (.int k))
    (hv : Value.okWide P W r b0 t v) (h : DataW.Trod enc P W base sp held t v d p) :
    ∃ cs : List Value, v = .agg cs.toArray ∧ cs.length = n ∧ ∀ i, i < n → ∃ x : Int, cs.getD i undef = .int k x ∧ (Lit.int k x).wf = true := by
  obtain ⟨cs, rfl, hl, hel⟩ := arr_cells ht hC hE hv h
  refine ⟨cs, rfl, hl, fun i hi => ?_⟩
  obtain ⟨m, x, hx⟩ := hel i hi
  obtain ⟨s, e0, _, ws⟩ := DataW.trod_int he hx
  exact ⟨s, by simpa using e0, ws⟩
theorem open_arrbool {r : Reach} {b0 t e : TypeId} {n : Nat} {v : Value} {d : DataW H} {p : List MemPlace} (ht : P.underlying t = some (.array n e)) (hC : P.cellsOf t = n) (hE : P.cellsOf e = 1) (he : P.underlying e = some .bool)
    (hv : Value.okWide P W r b0 t v) (h : DataW.Trod enc P W base sp held t v d p) :
    ∃ cs : List Value, v = .agg cs.toArray ∧ cs.length = n ∧ ∀ i, i < n → ∃ x : Bool, cs.getD i undef = .bool x := by
  obtain ⟨cs, rfl, hl, hel⟩ := arr_cells ht hC hE hv h
  refine ⟨cs, rfl, hl, fun i hi => ?_⟩
  obtain ⟨m, x, hx⟩ := hel i hi
  obtain ⟨s, e0, _⟩ := DataW.trod_bool he hx
  exact ⟨s, by simpa using e0⟩
end
end Go.Proofs.Ytmbaeloiepjakaa

set_option linter.unusedSimpArgs false
set_option linter.unusedVariables false
namespace Go.Proofs.Ytmbaeloiepjakaa
open Go.ChangeShapes Go.WideShapes Go.ChangeAt Go.RowKit Go.Joins Go.Deep R
section
variable {H : Type} {enc : TypeId × Value → H} {P : Program} {W : World} {base : Nat} {spare : Nat → Bool} {held : Bool}
theorem add_lit (b o i : Nat) : (⟨b, o, none⟩ : Addr).add i = ⟨b, o + i, none⟩ := by unfold Addr.add; split <;> simp_all
theorem open_sl {α : Type} [GoT α] {t e : TypeId} {fuel : Nat} {v : Value} {x : DataW H × List MemPlace} (ht : P.underlying t = some (.slice e)) (hn : P.cellsOf e = GoT.n α)
    (elem : ∀ (n : Nat) (cs : List Value) (y : DataW H × List MemPlace), DataW.trod enc P W base spare held n e cs = some y → ∃ a : α, GoT.rep (fun b => b < W.heap.size) W cs a)
    (h : DataW.trod enc P W base spare held fuel t [v] = some x) : ∃ l : List α, Sl (fun b => b < W.heap.size) W v l := by
  rcases open_slice ht h with ⟨hcs, _⟩ | ⟨a, len, cap, m, n, D, Pl, hcs, hb, hl, hm, hmm, _, hx⟩
  · simp at hcs
    subst hcs
    exact ⟨[], Sl.nil _ _⟩
  · simp at hcs
    subst hcs
    have hlm : len ≤ m := by rw [hmm]; split <;> omega
    have hel : ∀ i, i < len → ∃ (a' : α) (cs : List Value), GoT.rep (fun b => b < W.heap.size) W cs a' ∧ W.cells? base (a.add (i * GoT.n α)) (GoT.n α) = some cs := fun i hi => by
      obtain ⟨cs', h1, h2⟩ := hx i (by omega)
      rw [hn] at h1
      obtain ⟨a', ha⟩ := elem n cs' _ h2
      exact ⟨a', cs', ha, h1⟩
    have hlist : ∀ k, k ≤ len → ∃ l : List α, l.length = k ∧ ∀ (i : Nat) (y : α), l[i]? = some y → ∃ cs, GoT.rep (fun b => b < W.heap.size) W cs y ∧ W.cells? base (a.add (i * GoT.n α)) (GoT.n α) = some cs := by
      intro k
      induction k with
      | zero => intro _; exact ⟨[], rfl, fun i y hy => by simp at hy⟩
      | succ k ih =>
        intro hk
        obtain ⟨l, h1, h2⟩ := ih (by omega)
        obtain ⟨a', cs, h3, h4⟩ := hel k (by omega)
        refine ⟨l ++ [a'], by simp [h1], fun i y hy => ?_⟩
        rcases Nat.lt_or_ge i l.length with hi | hi
        · rw [List.getElem?_append_left hi] at hy
          exact h2 i y hy
        · have hi2 : i < (l ++ [a']).length := (List.getElem?_eq_some_iff.1 hy).1
          simp at hi2
          obtain rfl : i = k := by omega
          rw [List.getElem?_append_right hi] at hy
          simp [h1] at hy
          subst hy
          exact ⟨cs, h3, h4⟩
    obtain ⟨l, hll, hel2⟩ := hlist len (Nat.le_refl _)
    subst hll
    refine ⟨l, some a, cap, rfl, by unfold maxLen at hm; omega, fun hne => ?_⟩
    have at0 : ∀ (i : Nat) (y : α), l[i]? = some y → ∃ cs, GoT.rep (fun b => b < W.heap.size) W cs y ∧ ∀ j c, cs[j]? = some c → W.cell? ((a.add (i * GoT.n α)).add j) = some c := fun i y hy => by
      obtain ⟨cs, h1, h2⟩ := hel2 i y hy
      exact ⟨cs, h1, fun j c hj => by
        obtain ⟨_, h4, h5⟩ := World.cells?_some h2
        rw [h5 j (by rw [← h4]; exact (List.getElem?_eq_some_iff.1 hj).1)]; exact hj⟩
    obtain ⟨b, o, sp⟩ := a
    have hsp : sp = none ∧ b < W.heap.size := by
      cases l with
      | nil => exact (hne rfl).elim
      | cons y r =>
        obtain ⟨cs, h1, h2⟩ := at0 0 y rfl
        have hlen := GoT.len h1
        have hpos := GoT.pos (α := α)
        cases cs with
        | nil => simp at hlen; omega
        | cons c t =>
          have := h2 0 c rfl
          have e0 : ((⟨b, o, sp⟩ : Addr).add (0 * GoT.n α)).add 0 = ⟨b, o, sp⟩ := by simp [Addr.add]
          rw [e0] at this
          exact ⟨World.cell?_spot this, World.block_lt_of_cell? W _ this⟩
    obtain ⟨rfl, hbl⟩ := hsp
    refine ⟨b, o, rfl, hbl, fun i y hy => ?_⟩
    obtain ⟨cs, h1, h2⟩ := at0 i y hy
    exact ⟨cs, h1, fun j c hj => by have := h2 j c hj; rwa [add_lit, add_lit] at this⟩
theorem list_two {cs : List Value} (h : cs.length = 2) : ∃ a b, cs = [a, b] := by
  match cs, h with
  | [a, b], _ => exact ⟨a, b, rfl⟩
theorem elem_two {t ts : TypeId} {f0 f1 : Field} {fuel : Nat} {cs : List Value} {x : DataW H × List MemPlace} (hs : P.underlying t = some (.struct #[f0, f1])) (hone : oneCellFields P #[f0, f1] = true) (hC : P.cellsOf t = 2)
    (h0 : f0.type = ts) (h1 : f1.type = ts) (hts : P.underlying ts = some .string) (h : DataW.trod enc P W base spare held fuel t cs = some x) : ∃ a b : ByteArray, cs = [.string a, .string b] ∧ a.size ≤ maxLen ∧ b.size ≤ maxLen := by
  obtain ⟨y0, y1, n, hx, hl, k0, k1⟩ := trod_struct2 hs h
  obtain ⟨o0, q0⟩ := hone_of hone 0 f0 rfl
  obtain ⟨o1, q1⟩ := hone_of hone 1 f1 rfl
  obtain ⟨c0, c1, rfl⟩ := list_two (hl.trans hC)
  have k0' : DataW.trod enc P W base spare held n f0.type [c0] = some y0 := by simpa [o0, q0] using k0
  have k1' : DataW.trod enc P W base spare held n f1.type [c1] = some y1 := by simpa [o1, q1] using k1
  rw [h0] at k0'
  rw [h1] at k1'
  obtain ⟨a, e0, _, wa⟩ := DataW.trod_string hts k0'
  obtain ⟨b, e1, _, wb⟩ := DataW.trod_string hts k1'
  simp at e0 e1
  exact ⟨a, b, by rw [e0, e1], wa, wb⟩
end
end Go.Proofs.Ytmbaeloiepjakaa
