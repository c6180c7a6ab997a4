/- Sort and Compact of numbers, where they lie. -/
import Derived.Test.YtgoncpjgpkoacaaAC
import Derived.Test.YtgoncpjgpkoacaaShelfSort
set_option linter.unusedSimpArgs false
set_option linter.unusedVariables false
namespace Go.Proofs.Ytgoncpjgpkoacaa
open Go.RowKit Go.Sort
theorem A.putRow_heap {α : Type} [Inhabited α] (enc : α → Value) {w : World} {g n : Nat} {e : TypeId} {cur tail : List Value} {d : Array α} {os : Array Obj} (h : w.heap[g]? = some (.cells (cur ++ tail).toArray e)) (hd : d.size = cur.length) :
    (grow (putRow enc (Go.Sort.ahead w n) g 0 d) os).heap[g]? = some (.cells (d.toList.map enc ++ tail).toArray e) := by
  have hlt : g < w.heap.size := (Array.getElem?_eq_some_iff.1 h).1
  have h1 : (putRow enc (Go.Sort.ahead w n) g 0 d).heap[g]? = some (.cells (d.toList.map enc ++ tail).toArray e) := by
    unfold putRow mapBlock Go.Sort.ahead
    simp only [Array.getElem?_modify, if_true, h, Option.map_some, onCells, putCells]
    congr 2
    apply Array.ext
    · simp; omega
    · intro i h1 h2
      simp only [Array.getElem_mapIdx, Nat.zero_le, true_and, Nat.zero_add, Nat.sub_zero]
      split
      · rename_i hi
        rw [getElem!_pos d i hi]
        simp [List.getElem_append_left, hi]
      · rename_i hi
        simp only [List.getElem_toArray]
        rw [List.getElem_append_right (by omega), List.getElem_append_right (by simp; omega)]
        simp [hd]
  unfold grow
  have hsz : (putRow enc (Go.Sort.ahead w n) g 0 d).heap.size = w.heap.size := by simp [putRow, mapBlock, Go.Sort.ahead]
  rw [Array.getElem?_append_left (by rw [hsz]; exact hlt)]
  exact h1
theorem A.putRow_but {α : Type} [Inhabited α] (enc : α → Value) {w : World} {g n : Nat} {d : Array α} {os : Array Obj} : ∀ b, b < w.heap.size → g ≠ b → (grow (putRow enc (Go.Sort.ahead w n) g 0 d) os).heap[b]? = w.heap[b]? := fun k hk hne => by
  simp only [grow]
  rw [Array.getElem?_append_left (by simp [putRow, mapBlock, Go.Sort.ahead]; exact hk)]
  simp [putRow, mapBlock, Go.Sort.ahead, Array.getElem?_modify, hne]
theorem A.own_split {w : World} {B : Nat} {T : TypeId} {v : Value} {xs : List Value} (h : w.ownsRow B T 1 v xs.length xs) : (v = .slice none 0 0 ∧ xs = []) ∨ ∃ g cap tail, v = .slice (some ⟨g, 0, none⟩) xs.length cap ∧ B ≤ g ∧ w.heap[g]? = some (.cells (xs ++ tail).toArray T) ∧ xs.length + tail.length = cap ∧ cap ≤ maxLen := by
  rcases h.2 with ⟨rfl, e⟩ | ⟨g, cap, cur, rfl, hb, hg, hnc, hcm, hcs, ht⟩
  · exact .inl ⟨rfl, List.eq_nil_of_length_eq_zero e⟩
  · refine .inr ⟨g, cap, cur.toList.drop xs.length, rfl, hb, ?_, ?_, hcm⟩
    · rw [hg]
      congr 2
      rw [Nat.mul_one] at ht
      conv => rhs; rw [← ht]
      rw [← List.length_take_of_le (l := cur.toList) (i := xs.length) (by simp; omega)]
      simp
    · simp; omega
theorem A.own_join {w : World} {B : Nat} {T : TypeId} {g cap : Nat} {xs tail : List Value} (hb : B ≤ g) (hg : w.heap[g]? = some (.cells (xs ++ tail).toArray T)) (hc : xs.length + tail.length = cap) (hm : cap ≤ maxLen) : w.ownsRow B T 1 (.slice (some ⟨g, 0, none⟩) xs.length cap) xs.length xs :=
  ⟨by simp, .inr ⟨g, cap, _, rfl, hb, hg, by omega, hm, by simp; omega, by simp⟩⟩
theorem A.holds_of {α : Type} [Inhabited α] (enc : α → Value) {w : World} {g : Nat} {e : TypeId} {xs : List α} {tail : List Value} (h : w.heap[g]? = some (.cells (xs.map enc ++ tail).toArray e)) : Holds enc w g 0 xs.toArray := by
  intro j hj
  simp at hj
  refine ⟨?_, by simp [World.frozen?, h]⟩
  rw [getElem!_pos _ j (by simpa using hj)]
  simp [World.cell?, h, List.getElem?_append_left, hj]
def sortI (l : List Int) : List Int := l.mergeSort fun x y => decide (x ≤ y)
theorem sortI_same (xs : List Int) : (sortI xs).length = xs.length ∧ ∀ x ∈ sortI xs, x ∈ xs := ⟨by simp [sortI], fun x h => by simpa [sortI] using h⟩
theorem sortI_in : A.InPlace Try.prog 46 3 (Value.int .i64) sortI (fun _ => .tuple #[]) := ⟨fun _ _ => by kernel_rfl, fun B w v xs hl hv h => by
  have hlm : (xs.map (Value.int .i64)).length = xs.length := by simp
  rcases A.own_split (by rw [hlm]; exact h) with ⟨rfl, e⟩ | ⟨g, cap, tail, rfl, hb, hg, hc, hm⟩
  · have : xs = [] := by simpa using e
    subst this
    refine (Try.slices_Sort_int_none none 0 w).mono ?_
    rintro e w' ⟨rfl, rfl⟩
    exact ⟨_, rfl, by simpa [sortI] using h, rfl, rfl, rfl, rfl, Nat.le_refl _, fun _ _ _ => rfl, fun _ => rfl⟩
  · have hlt := (Array.getElem?_eq_some_iff.1 hg).1
    have hc2 := Try.slices_Sort_int g 0 cap xs w (A.holds_of _ hg) hlt (by omega)
    rw [hlm]
    refine hc2.mono ?_
    rintro e w' ⟨rfl, n, os, rfl⟩
    refine ⟨.slice (some ⟨g, 0, none⟩) xs.length cap, rfl, ?_, rfl, rfl, rfl, rfl, by simp [grow, putRow, mapBlock, Go.Sort.ahead], fun b hbl hne => A.putRow_but _ b hbl (fun e => hne (by rw [e]; rfl)), fun _ => rfl⟩
    have h2 := A.putRow_heap (Value.int .i64) (n := n) (os := os) (d := (sortI xs).toArray) hg (by simp [sortI])
    have hl2 : ((sortI xs).map (Value.int .i64)).length = xs.length := by simp [sortI]
    have := A.own_join (B := B) (xs := (sortI xs).map (Value.int .i64)) hb h2 (by rw [hl2, ← hlm]; exact hc) hm
    rw [hl2] at this
    rw [show (sortI xs).length = xs.length from by simp [sortI]]
    exact this⟩
end Go.Proofs.Ytgoncpjgpkoacaa
