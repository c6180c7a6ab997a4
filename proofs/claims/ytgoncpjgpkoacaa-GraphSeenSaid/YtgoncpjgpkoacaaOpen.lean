/- Arguments of laws, opened. -/
import Derived.Test.YtgoncpjgpkoacaaRows
import Derived.WalkKit
import Derived.ProofKit
import Derived.OpenShut
import Derived.ShutString
import Derived.ChangeOld
import Derived.Lib.SmallJoins
namespace Go.Proofs.Ytgoncpjgpkoacaa
open Go.ChangeShapes Go.WideShapes Go.ChangeAt Go.RowKit Go.Joins Go.Deep
open Go.ChangeMaps (open_string shut_string)
section
variable {H : Type} {enc : TypeId × Value → H} {P : Program} {W : World} {base : Nat} {sp : Nat → Bool} {held : Bool}
/-- A struct of two texts. -/
theorem open_two {r : Reach} {b0 t ts : TypeId} {f0 f1 : Field} {v : Value} {d : DataW H} {p : List MemPlace} (hs : P.underlying t = some (.struct #[f0, f1])) (hone : oneCellFields P #[f0, f1] = true) (hC : P.cellsOf t = 2)
    (h0 : f0.type = ts) (h1 : f1.type = ts) (hts : P.underlying ts = some .string)
    (hv : Value.okWide P W r b0 t v) (h : DataW.Trod enc P W base sp held t v d p) : ∃ a b : ByteArray, v = .agg #[.string a, .string b] ∧ a.size ≤ maxLen ∧ b.size ≤ maxLen := by
  obtain ⟨c0, c1, y0, y1, m, rfl, rfl, rfl, hy0, hy1⟩ := open_agg2 hs hone hC hv h
  rw [h0] at hy0
  rw [h1] at hy1
  obtain ⟨a, e0, _, wa⟩ := DataW.trod_string hts hy0
  obtain ⟨b, e1, _, wb⟩ := DataW.trod_string hts hy1
  simp at e0 e1
  subst e0 e1
  exact ⟨a, b, rfl, wa, wb⟩
theorem arr_cells {r : Reach} {b0 t e : TypeId} {n : Nat} {v : Value} {d : DataW H} {p : List MemPlace} (ht : P.underlying t = some (.array n e)) (hC : P.cellsOf t = n) (hE : P.cellsOf e = 1)
    (hv : Value.okWide P W r b0 t v) (h : DataW.Trod enc P W base sp held t v d p) :
    ∃ cs : List Value, v = .agg cs.toArray ∧ cs.length = n ∧ ∀ i, i < n → ∃ m x, DataW.trod enc P W base sp held m e [cs.getD i undef] = some x := by
  unfold Value.okWide at hv
  rw [ht] at hv
  obtain ⟨cs, rfl, hsz, _⟩ := hv
  obtain ⟨fuel, hf⟩ := h
  obtain ⟨xs, m, _, _, _, hn, hel⟩ := DataW.trod_array ht hf
  refine ⟨cs.toList, by simp, by simpa using hsz.trans hC, fun i hi => ?_⟩
  have := hel i hi
  have hlt : i < cs.size := by omega
  have hx : i < xs.length := by omega
  rw [hE, Nat.mul_one, List.getElem?_eq_getElem hx] at this
  have e : (cs.toList.drop i).take 1 = [cs.toList.getD i undef] := by
    rw [List.drop_eq_getElem_cons (by simpa using hlt)]
    simp [List.getD, hlt]
  simp only [Value.cells] at this
  rw [e] at this
  exact ⟨m, _, this⟩
theorem list3 {cs : List Value} {a b c : Value} (hl : cs.length = 3) (ha : cs.getD 0 undef = a) (hb : cs.getD 1 undef = b) (hc : cs.getD 2 undef = c) : cs = [a, b, c] := by
  match cs, hl with
  | [x, y, z], _ => simp at ha hb hc; rw [ha, hb, hc]
theorem list2 {cs : List Value} {a b : Value} (hl : cs.length = 2) (ha : cs.getD 0 undef = a) (hb : cs.getD 1 undef = b) : cs = [a, b] := by
  match cs, hl with
  | [x, y], _ => simp at ha hb; rw [ha, hb]
theorem list4 {cs : List Value} {a b c d : Value} (hl : cs.length = 4) (ha : cs.getD 0 undef = a) (hb : cs.getD 1 undef = b) (hc : cs.getD 2 undef = c) (hd : cs.getD 3 undef = d) : cs = [a, b, c, d] := by
  match cs, hl with
  | [x, y, z, u], _ => simp at ha hb hc hd; rw [ha, hb, hc, hd]
theorem open_strs {r : Reach} {b0 t e : TypeId} {n : Nat} {v : Value} {d : DataW H} {p : List MemPlace} (ht : P.underlying t = some (.array n e)) (hC : P.cellsOf t = n) (hE : P.cellsOf e = 1) (he : P.underlying e = some .string)
    (hv : Value.okWide P W r b0 t v) (h : DataW.Trod enc P W base sp held t v d p) :
    ∃ cs : List Value, v = .agg cs.toArray ∧ cs.length = n ∧ ∀ i, i < n → ∃ s : ByteArray, cs.getD i undef = .string s ∧ s.size ≤ maxLen := by
  obtain ⟨cs, rfl, hl, hel⟩ := arr_cells ht hC hE hv h
  refine ⟨cs, rfl, hl, fun i hi => ?_⟩
  obtain ⟨m, x, hx⟩ := hel i hi
  obtain ⟨s, e0, _, ws⟩ := DataW.trod_string he hx
  exact ⟨s, by simpa using e0, ws⟩
theorem open_arrint {k : IntKind} {r : Reach} {b0 t e : TypeId} {n : Nat} {v : Value} {d : DataW H} {p : List MemPlace} (ht : P.underlying t = some (.array n e)) (hC : P.cellsOf t = n) (hE : P.cellsOf e = 1) (he : P.underlying e = some (.int k))
    (hv : Value.okWide P W r b0 t v) (h : DataW.Trod enc P W base sp held t v d p) :
    ∃ cs : List Value, v = .agg cs.toArray ∧ cs.length = n ∧ ∀ i, i < n → ∃ x : Int, cs.getD i undef = .int k x ∧ (Lit.int k x).wf = true := by
  obtain ⟨cs, rfl, hl, hel⟩ := arr_cells ht hC hE hv h
  refine ⟨cs, rfl, hl, fun i hi => ?_⟩
  obtain ⟨m, x, hx⟩ := hel i hi
  obtain ⟨s, e0, _, ws⟩ := DataW.trod_int he hx
  exact ⟨s, by simpa using e0, ws⟩
theorem open_arrbool {r : Reach} {b0 t e : TypeId} {n : Nat} {v : Value} {d : DataW H} {p : List MemPlace} (ht : P.underlying t = some (.array n e)) (hC : P.cellsOf t = n) (hE : P.cellsOf e = 1) (he : P.underlying e = some .bool)
    (hv : Value.okWide P W r b0 t v) (h : DataW.Trod enc P W base sp held t v d p) :
    ∃ cs : List Value, v = .agg cs.toArray ∧ cs.length = n ∧ ∀ i, i < n → ∃ x : Bool, cs.getD i undef = .bool x := by
  obtain ⟨cs, rfl, hl, hel⟩ := arr_cells ht hC hE hv h
  refine ⟨cs, rfl, hl, fun i hi => ?_⟩
  obtain ⟨m, x, hx⟩ := hel i hi
  obtain ⟨s, e0, _⟩ := DataW.trod_bool he hx
  exact ⟨s, by simpa using e0⟩
end
end Go.Proofs.Ytgoncpjgpkoacaa
