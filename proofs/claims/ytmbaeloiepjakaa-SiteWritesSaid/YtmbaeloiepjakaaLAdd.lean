
/- The reference's Add, plain; Less. -/
/- The reference's Add, by abstract states. -/
import Derived.Test.YtmbaeloiepjakaaRMap
import Derived.Test.YtmbaeloiepjakaaVNum
import Derived.Test.YtmbaeloiepjakaaKWalks
import Derived.Test.YtmbaeloiepjakaaGDat
set_option linter.unusedSimpArgs false
set_option linter.unusedVariables false
namespace Go.Proofs.Ytmbaeloiepjakaa
open Go.RowKit R
namespace D
def lessB (a b c d : Int) : Bool := if a = c then decide (b < d) else decide (a < c)
def okB (d : Dep) : Bool := K.checkB d.key && V.stampB d.n d.s
def eqB (x d : Dep) : Bool := x.key.toList == d.key.toList
def ltB (x d : Dep) : Bool := Op.bytesLess x.key.toList d.key.toList
def addF : List Dep → Dep → Bool → List Dep
  | [], d, put => if put then [] else [d]
  | x :: r, d, put =>
    if eqB x d then (if lessB x.n x.s d.n d.s then d else x) :: addF r d true
    else if put then x :: addF r d true
    else if ltB x d then x :: addF r d false
    else d :: x :: addF r d true
def add (p : List Dep) (d : Dep) : List Dep := if okB d then addF p d false else p
theorem addF_len : ∀ (p : List Dep) (d : Dep) (put : Bool), (addF p d put).length ≤ p.length + 1
  | [], d, put => by unfold addF; split <;> simp
  | x :: r, d, put => by
    have h1 := addF_len r d true
    have h2 := addF_len r d false
    have h3 : (addF r d true).length ≤ r.length := addF_len_true r d
    unfold addF
    split
    · simp; omega
    · split
      · simp; omega
      · split <;> simp <;> omega
where addF_len_true : ∀ (p : List Dep) (d : Dep), (addF p d true).length ≤ p.length
  | [], d => by simp [addF]
  | x :: r, d => by
    have h1 := addF_len_true r d
    unfold addF
    split <;> simp <;> omega
theorem add_len (p : List Dep) (d : Dep) : (add p d).length ≤ p.length + 1 := by
  unfold add; split
  · exact addF_len p d false
  · omega
theorem addF_mem : ∀ (p : List Dep) (d : Dep) (put : Bool) (x : Dep), x ∈ addF p d put → x ∈ p ∨ x = d
  | [], d, put, x, h => by
    unfold addF at h; split at h
    · cases h
    · simp at h; exact .inr h
  | y :: r, d, put, x, h => by
    unfold addF at h
    split at h
    · rcases List.mem_cons.1 h with h | h
      · split at h
        · exact .inr h
        · exact .inl (by simp [h])
      · rcases addF_mem r d _ x h with h | h
        · exact .inl (by simp [h])
        · exact .inr h
    · split at h
      · rcases List.mem_cons.1 h with h | h
        · exact .inl (by simp [h])
        · rcases addF_mem r d _ x h with h | h
          · exact .inl (by simp [h])
          · exact .inr h
      · split at h
        · rcases List.mem_cons.1 h with h | h
          · exact .inl (by simp [h])
          · rcases addF_mem r d _ x h with h | h
            · exact .inl (by simp [h])
            · exact .inr h
        · rcases List.mem_cons.1 h with h | h
          · exact .inr h
          · rcases List.mem_cons.1 h with h | h
            · exact .inl (by simp [h])
            · rcases addF_mem r d _ x h with h | h
              · exact .inl (by simp [h])
              · exact .inr h
theorem add_mem (p : List Dep) (d x : Dep) (h : x ∈ add p d) : x ∈ p ∨ x = d := by
  unfold add at h; split at h
  · exact addF_mem p d false x h
  · exact .inl h
/-- where Add's loop stands -/
def At (p : List Dep) (d : Dep) (k : Nat) (put : Bool) (out : List Dep) : Prop := out ++ addF (p.drop k) d put = addF p d false
theorem At.eq {p : List Dep} {d : Dep} {k : Nat} {put : Bool} {out : List Dep} (h : At p d k put out) (hk : k < p.length) (he : eqB p[k] d = true) : At p d (k + 1) true (out ++ [if lessB p[k].n p[k].s d.n d.s then d else p[k]]) := by
  unfold At at *
  rw [← h, List.drop_eq_getElem_cons hk, addF, if_pos he]; simp
theorem At.skip {p : List Dep} {d : Dep} {k : Nat} {out : List Dep} (h : At p d k true out) (hk : k < p.length) (he : eqB p[k] d = false) : At p d (k + 1) true (out ++ [p[k]]) := by
  unfold At at *
  rw [← h, List.drop_eq_getElem_cons hk, addF, if_neg (by simp [he]), if_pos rfl]; simp
theorem At.lt {p : List Dep} {d : Dep} {k : Nat} {out : List Dep} (h : At p d k false out) (hk : k < p.length) (he : eqB p[k] d = false) (hl : ltB p[k] d = true) : At p d (k + 1) false (out ++ [p[k]]) := by
  unfold At at *
  rw [← h, List.drop_eq_getElem_cons hk, addF, if_neg (by simp [he]), if_neg (by simp), if_pos hl]; simp
theorem At.put {p : List Dep} {d : Dep} {k : Nat} {out : List Dep} (h : At p d k false out) (hk : k < p.length) (he : eqB p[k] d = false) (hl : ltB p[k] d = false) : At p d (k + 1) true (out ++ [d] ++ [p[k]]) := by
  unfold At at *
  rw [← h, List.drop_eq_getElem_cons hk, addF, if_neg (by simp [he]), if_neg (by simp), if_neg (by simp [hl])]; simp
end D
theorem three_afterD {w w1 : World} {x0 x1 x2 : Value} {T : TypeId} (he : Ev.Ext (w.alloc (.cells #[x0, x1, x2] T)) w1) :
    w1.cell? ⟨w.heap.size, 0, none⟩ = some x0 ∧ w1.cell? ⟨w.heap.size, 1, none⟩ = some x1 ∧ w1.cell? ⟨w.heap.size, 2, none⟩ = some x2 :=
  ⟨cell_later he (by simp), cell_later he (by simp), cell_later he (by simp)⟩
/-- A variable of the call's own, behind an append. -/
theorem box_kept {e : TypeId} {K : Blocks} {B : Nat} {w w' : World} {v : Value} {xs : List Dep} {o : Obj} {x0 x1 x2 : Value} {T : TypeId} (h : Grow e K B w v xs) (hg : ((w.alloc (.cells #[x0, x1, x2] T)).alloc o).grownBy w' v.ownBlock) :
    w'.cell? ⟨w.heap.size, 0, none⟩ = some x0 ∧ w'.cell? ⟨w.heap.size, 1, none⟩ = some x1 ∧ w'.cell? ⟨w.heap.size, 2, none⟩ = some x2 := by
  have hb : w'.heap[w.heap.size]? = some (.cells #[x0, x1, x2] T) := by
    rw [hg.block _ (by simp; omega) (fun e1 => ?_), (extA _ o).block _ (by simp)]
    · exact heap_alloc_new _ _
    · obtain ⟨rows, hown, _⟩ := h.ex
      have := (hown.lt _ e1.symm).2
      omega
  simp [World.cell?, hb]
theorem heap_new2 (w : World) (o o' : Obj) : ((w.alloc o).alloc o').heap[w.heap.size + 1]? = some o' := by
  have := heap_alloc_new (w.alloc o) o'
  simpa using this
theorem heap_set3 (w : World) (a b c : Addr) (x y z : Value) (o : Obj) : ((((w.setCell a x).setCell b y).setCell c z).alloc o).heap[w.heap.size]? = some o := by
  have := heap_alloc_new (((w.setCell a x).setCell b y).setCell c z) o
  simpa [World.setCell] using this
theorem dep_row (d : Dep) (hd : d.key.size ≤ 9223372036854775807) (h1 : inI d.n) (h2 : inI d.s) {K : Blocks} {w : World} : All2 (GoT.rep K w) [[.string d.key, .int .i64 d.n, .int .i64 d.s]] [d] := .cons ⟨rfl, hd, h1, h2⟩ .nil
end Go.Proofs.Ytmbaeloiepjakaa

set_option linter.unusedSimpArgs false
set_option linter.unusedVariables false
namespace Go.Proofs.Ytmbaeloiepjakaa
open Go.RowKit A
end Go.Proofs.Ytmbaeloiepjakaa
