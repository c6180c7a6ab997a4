/- The seat's types: elements of slices, places of fields. -/
import Derived.Test.YtocgnmklgklfnaaAB
import Derived.Test.YtocgnmklgklfnaaProg
set_option linter.unusedSimpArgs false
set_option linter.unusedVariables false
namespace Go.Proofs.Ytocgnmklgklfnaa
open Go.RowKit A
theorem places7 {fs : Array Field} (h : Try.prog.underlying 7 = some (.struct fs)) : ∀ w, ((fs.mapM fun f => do pure (f.offset, ← sizeOf f.type)) : Sem (Array (Nat × Nat))).run Try.prog w = .ok #[(0, 1), (1, 1), (2, 1), (3, 1)] w := by cases h.symm.trans Try.underlying7; intro w; kernel_rfl
theorem places8 {fs : Array Field} (h : Try.prog.underlying 8 = some (.struct fs)) : ∀ w, ((fs.mapM fun f => do pure (f.offset, ← sizeOf f.type)) : Sem (Array (Nat × Nat))).run Try.prog w = .ok #[(0, 1), (1, 1), (2, 1), (3, 1)] w := by cases h.symm.trans Try.underlying8; intro w; kernel_rfl
theorem places13 {fs : Array Field} (h : Try.prog.underlying 13 = some (.struct fs)) : ∀ w, ((fs.mapM fun f => do pure (f.offset, ← sizeOf f.type)) : Sem (Array (Nat × Nat))).run Try.prog w = .ok #[(0, 1), (1, 1)] w := by cases h.symm.trans Try.underlying13; intro w; kernel_rfl
theorem places14 {fs : Array Field} (h : Try.prog.underlying 14 = some (.struct fs)) : ∀ w, ((fs.mapM fun f => do pure (f.offset, ← sizeOf f.type)) : Sem (Array (Nat × Nat))).run Try.prog w = .ok #[(0, 1), (1, 1)] w := by cases h.symm.trans Try.underlying14; intro w; kernel_rfl
theorem places18 {fs : Array Field} (h : Try.prog.underlying 18 = some (.struct fs)) : ∀ w, ((fs.mapM fun f => do pure (f.offset, ← sizeOf f.type)) : Sem (Array (Nat × Nat))).run Try.prog w = .ok #[(0, 1)] w := by cases h.symm.trans Try.underlying18; intro w; kernel_rfl
theorem places19 {fs : Array Field} (h : Try.prog.underlying 19 = some (.struct fs)) : ∀ w, ((fs.mapM fun f => do pure (f.offset, ← sizeOf f.type)) : Sem (Array (Nat × Nat))).run Try.prog w = .ok #[(0, 1)] w := by cases h.symm.trans Try.underlying19; intro w; kernel_rfl
theorem elem22 : R.ElemT Try.prog 22 30 12 176 := ⟨Try.underlying22, by
  have h : (Try.prog.info? 30).map (fun i => ((match i.zero with | some z => z.cells.size | none => 99999), i.zero.isSome, i.size, i.bytes)) = some (12, true, 12, 176) := by kernel_rfl
  exact elem_of h⟩
theorem elem24 : R.ElemT Try.prog 24 9 1 16 := ⟨Try.underlying24, by
  have h : (Try.prog.info? 9).map (fun i => ((match i.zero with | some z => z.cells.size | none => 99999), i.zero.isSome, i.size, i.bytes)) = some (1, true, 1, 16) := by kernel_rfl
  exact elem_of h⟩
theorem elem25 : R.ElemT Try.prog 25 46 2 32 := ⟨Try.underlying25, by
  have h : (Try.prog.info? 46).map (fun i => ((match i.zero with | some z => z.cells.size | none => 99999), i.zero.isSome, i.size, i.bytes)) = some (2, true, 2, 32) := by kernel_rfl
  exact elem_of h⟩
theorem elem26 : R.ElemT Try.prog 26 3 1 8 := ⟨Try.underlying26, by
  have h : (Try.prog.info? 3).map (fun i => ((match i.zero with | some z => z.cells.size | none => 99999), i.zero.isSome, i.size, i.bytes)) = some (1, true, 1, 8) := by kernel_rfl
  exact elem_of h⟩
theorem places27 {fs : Array Field} (h : Try.prog.underlying 27 = some (.struct fs)) : ∀ w, ((fs.mapM fun f => do pure (f.offset, ← sizeOf f.type)) : Sem (Array (Nat × Nat))).run Try.prog w = .ok #[(0, 1), (1, 1), (2, 1)] w := by cases h.symm.trans Try.underlying27; intro w; kernel_rfl
theorem places28 {fs : Array Field} (h : Try.prog.underlying 28 = some (.struct fs)) : ∀ w, ((fs.mapM fun f => do pure (f.offset, ← sizeOf f.type)) : Sem (Array (Nat × Nat))).run Try.prog w = .ok #[(0, 1), (1, 1), (2, 1)] w := by cases h.symm.trans Try.underlying28; intro w; kernel_rfl
theorem places29 {fs : Array Field} (h : Try.prog.underlying 29 = some (.struct fs)) : ∀ w, ((fs.mapM fun f => do pure (f.offset, ← sizeOf f.type)) : Sem (Array (Nat × Nat))).run Try.prog w = .ok #[(0, 1), (1, 1), (2, 1), (3, 1), (4, 1), (5, 1), (6, 1), (7, 1), (8, 1), (9, 3)] w := by cases h.symm.trans Try.underlying29; intro w; kernel_rfl
theorem places30 {fs : Array Field} (h : Try.prog.underlying 30 = some (.struct fs)) : ∀ w, ((fs.mapM fun f => do pure (f.offset, ← sizeOf f.type)) : Sem (Array (Nat × Nat))).run Try.prog w = .ok #[(0, 1), (1, 1), (2, 1), (3, 1), (4, 1), (5, 1), (6, 1), (7, 1), (8, 1), (9, 3)] w := by cases h.symm.trans Try.underlying30; intro w; kernel_rfl
theorem elem36 : R.ElemT Try.prog 36 5 1 1 := ⟨Try.underlying36, by
  have h : (Try.prog.info? 5).map (fun i => ((match i.zero with | some z => z.cells.size | none => 99999), i.zero.isSome, i.size, i.bytes)) = some (1, true, 1, 1) := by kernel_rfl
  exact elem_of h⟩
theorem places45 {fs : Array Field} (h : Try.prog.underlying 45 = some (.struct fs)) : ∀ w, ((fs.mapM fun f => do pure (f.offset, ← sizeOf f.type)) : Sem (Array (Nat × Nat))).run Try.prog w = .ok #[(0, 1), (1, 1)] w := by cases h.symm.trans Try.underlying45; intro w; kernel_rfl
theorem places46 {fs : Array Field} (h : Try.prog.underlying 46 = some (.struct fs)) : ∀ w, ((fs.mapM fun f => do pure (f.offset, ← sizeOf f.type)) : Sem (Array (Nat × Nat))).run Try.prog w = .ok #[(0, 1), (1, 1)] w := by cases h.symm.trans Try.underlying46; intro w; kernel_rfl
theorem places56 {fs : Array Field} (h : Try.prog.underlying 56 = some (.struct fs)) : ∀ w, ((fs.mapM fun f => do pure (f.offset, ← sizeOf f.type)) : Sem (Array (Nat × Nat))).run Try.prog w = .ok #[(0, 1), (1, 1)] w := by cases h.symm.trans Try.underlying56; intro w; kernel_rfl
theorem places57 {fs : Array Field} (h : Try.prog.underlying 57 = some (.struct fs)) : ∀ w, ((fs.mapM fun f => do pure (f.offset, ← sizeOf f.type)) : Sem (Array (Nat × Nat))).run Try.prog w = .ok #[(0, 1), (1, 1)] w := by cases h.symm.trans Try.underlying57; intro w; kernel_rfl
theorem places67 {fs : Array Field} (h : Try.prog.underlying 67 = some (.struct fs)) : ∀ w, ((fs.mapM fun f => do pure (f.offset, ← sizeOf f.type)) : Sem (Array (Nat × Nat))).run Try.prog w = .ok #[(0, 1), (1, 1)] w := by cases h.symm.trans Try.underlying67; intro w; kernel_rfl
theorem places68 {fs : Array Field} (h : Try.prog.underlying 68 = some (.struct fs)) : ∀ w, ((fs.mapM fun f => do pure (f.offset, ← sizeOf f.type)) : Sem (Array (Nat × Nat))).run Try.prog w = .ok #[(0, 1), (1, 1)] w := by cases h.symm.trans Try.underlying68; intro w; kernel_rfl
theorem places71 {fs : Array Field} (h : Try.prog.underlying 71 = some (.struct fs)) : ∀ w, ((fs.mapM fun f => do pure (f.offset, ← sizeOf f.type)) : Sem (Array (Nat × Nat))).run Try.prog w = .ok #[(0, 1), (1, 1)] w := by cases h.symm.trans Try.underlying71; intro w; kernel_rfl
theorem places72 {fs : Array Field} (h : Try.prog.underlying 72 = some (.struct fs)) : ∀ w, ((fs.mapM fun f => do pure (f.offset, ← sizeOf f.type)) : Sem (Array (Nat × Nat))).run Try.prog w = .ok #[(0, 1), (1, 1)] w := by cases h.symm.trans Try.underlying72; intro w; kernel_rfl
theorem places74 {fs : Array Field} (h : Try.prog.underlying 74 = some (.struct fs)) : ∀ w, ((fs.mapM fun f => do pure (f.offset, ← sizeOf f.type)) : Sem (Array (Nat × Nat))).run Try.prog w = .ok #[(0, 12), (12, 1)] w := by cases h.symm.trans Try.underlying74; intro w; kernel_rfl
theorem places75 {fs : Array Field} (h : Try.prog.underlying 75 = some (.struct fs)) : ∀ w, ((fs.mapM fun f => do pure (f.offset, ← sizeOf f.type)) : Sem (Array (Nat × Nat))).run Try.prog w = .ok #[(0, 12), (12, 1)] w := by cases h.symm.trans Try.underlying75; intro w; kernel_rfl
theorem elem79 : R.ElemT Try.prog 79 63 1 8 := ⟨Try.underlying79, by
  have h : (Try.prog.info? 63).map (fun i => ((match i.zero with | some z => z.cells.size | none => 99999), i.zero.isSome, i.size, i.bytes)) = some (1, true, 1, 8) := by kernel_rfl
  exact elem_of h⟩
theorem elem87 : R.ElemT Try.prog 87 86 1 8 := ⟨Try.underlying87, by
  have h : (Try.prog.info? 86).map (fun i => ((match i.zero with | some z => z.cells.size | none => 99999), i.zero.isSome, i.size, i.bytes)) = some (1, true, 1, 8) := by kernel_rfl
  exact elem_of h⟩
theorem places91 {fs : Array Field} (h : Try.prog.underlying 91 = some (.struct fs)) : ∀ w, ((fs.mapM fun f => do pure (f.offset, ← sizeOf f.type)) : Sem (Array (Nat × Nat))).run Try.prog w = .ok #[(0, 1), (1, 1)] w := by cases h.symm.trans Try.underlying91; intro w; kernel_rfl
theorem places92 {fs : Array Field} (h : Try.prog.underlying 92 = some (.struct fs)) : ∀ w, ((fs.mapM fun f => do pure (f.offset, ← sizeOf f.type)) : Sem (Array (Nat × Nat))).run Try.prog w = .ok #[(0, 1), (1, 1)] w := by cases h.symm.trans Try.underlying92; intro w; kernel_rfl
theorem places104 {fs : Array Field} (h : Try.prog.underlying 104 = some (.struct fs)) : ∀ w, ((fs.mapM fun f => do pure (f.offset, ← sizeOf f.type)) : Sem (Array (Nat × Nat))).run Try.prog w = .ok #[(0, 1), (1, 1), (2, 1)] w := by cases h.symm.trans Try.underlying104; intro w; kernel_rfl
theorem places105 {fs : Array Field} (h : Try.prog.underlying 105 = some (.struct fs)) : ∀ w, ((fs.mapM fun f => do pure (f.offset, ← sizeOf f.type)) : Sem (Array (Nat × Nat))).run Try.prog w = .ok #[(0, 1), (1, 1), (2, 1)] w := by cases h.symm.trans Try.underlying105; intro w; kernel_rfl
theorem places113 {fs : Array Field} (h : Try.prog.underlying 113 = some (.struct fs)) : ∀ w, ((fs.mapM fun f => do pure (f.offset, ← sizeOf f.type)) : Sem (Array (Nat × Nat))).run Try.prog w = .ok #[(0, 1), (1, 1), (2, 1), (3, 1)] w := by cases h.symm.trans Try.underlying113; intro w; kernel_rfl
theorem places114 {fs : Array Field} (h : Try.prog.underlying 114 = some (.struct fs)) : ∀ w, ((fs.mapM fun f => do pure (f.offset, ← sizeOf f.type)) : Sem (Array (Nat × Nat))).run Try.prog w = .ok #[(0, 1), (1, 1), (2, 1), (3, 1)] w := by cases h.symm.trans Try.underlying114; intro w; kernel_rfl
theorem places116 {fs : Array Field} (h : Try.prog.underlying 116 = some (.struct fs)) : ∀ w, ((fs.mapM fun f => do pure (f.offset, ← sizeOf f.type)) : Sem (Array (Nat × Nat))).run Try.prog w = .ok #[(0, 0)] w := by cases h.symm.trans Try.underlying116; intro w; kernel_rfl
theorem places117 {fs : Array Field} (h : Try.prog.underlying 117 = some (.struct fs)) : ∀ w, ((fs.mapM fun f => do pure (f.offset, ← sizeOf f.type)) : Sem (Array (Nat × Nat))).run Try.prog w = .ok #[(0, 0)] w := by cases h.symm.trans Try.underlying117; intro w; kernel_rfl
theorem places125 {fs : Array Field} (h : Try.prog.underlying 125 = some (.struct fs)) : ∀ w, ((fs.mapM fun f => do pure (f.offset, ← sizeOf f.type)) : Sem (Array (Nat × Nat))).run Try.prog w = .ok #[(0, 1), (1, 1), (2, 1), (3, 1), (4, 1), (5, 1), (6, 1), (7, 1), (8, 1), (9, 1), (10, 1)] w := by cases h.symm.trans Try.underlying125; intro w; kernel_rfl
theorem places126 {fs : Array Field} (h : Try.prog.underlying 126 = some (.struct fs)) : ∀ w, ((fs.mapM fun f => do pure (f.offset, ← sizeOf f.type)) : Sem (Array (Nat × Nat))).run Try.prog w = .ok #[(0, 1), (1, 1), (2, 1), (3, 1), (4, 1), (5, 1), (6, 1), (7, 1), (8, 1), (9, 1), (10, 1)] w := by cases h.symm.trans Try.underlying126; intro w; kernel_rfl
end Go.Proofs.Ytocgnmklgklfnaa
