/- The seat's types: elements of slices, places of fields. -/
import Derived.Test.YtgoncpjgpkoacaaAB
import Derived.Test.YtgoncpjgpkoacaaProg
set_option linter.unusedSimpArgs false
set_option linter.unusedVariables false
namespace Go.Proofs.Ytgoncpjgpkoacaa
open Go.RowKit A
theorem places7 {fs : Array Field} (h : Try.prog.underlying 7 = some (.struct fs)) : ∀ w, ((fs.mapM fun f => do pure (f.offset, ← sizeOf f.type)) : Sem (Array (Nat × Nat))).run Try.prog w = .ok #[(0, 1), (1, 1), (2, 1), (3, 1)] w := by cases h.symm.trans Try.underlying7; intro w; kernel_rfl
theorem places8 {fs : Array Field} (h : Try.prog.underlying 8 = some (.struct fs)) : ∀ w, ((fs.mapM fun f => do pure (f.offset, ← sizeOf f.type)) : Sem (Array (Nat × Nat))).run Try.prog w = .ok #[(0, 1), (1, 1), (2, 1), (3, 1)] w := by cases h.symm.trans Try.underlying8; intro w; kernel_rfl
theorem places13 {fs : Array Field} (h : Try.prog.underlying 13 = some (.struct fs)) : ∀ w, ((fs.mapM fun f => do pure (f.offset, ← sizeOf f.type)) : Sem (Array (Nat × Nat))).run Try.prog w = .ok #[(0, 1), (1, 1)] w := by cases h.symm.trans Try.underlying13; intro w; kernel_rfl
theorem places14 {fs : Array Field} (h : Try.prog.underlying 14 = some (.struct fs)) : ∀ w, ((fs.mapM fun f => do pure (f.offset, ← sizeOf f.type)) : Sem (Array (Nat × Nat))).run Try.prog w = .ok #[(0, 1), (1, 1)] w := by cases h.symm.trans Try.underlying14; intro w; kernel_rfl
theorem places18 {fs : Array Field} (h : Try.prog.underlying 18 = some (.struct fs)) : ∀ w, ((fs.mapM fun f => do pure (f.offset, ← sizeOf f.type)) : Sem (Array (Nat × Nat))).run Try.prog w = .ok #[(0, 1)] w := by cases h.symm.trans Try.underlying18; intro w; kernel_rfl
theorem places19 {fs : Array Field} (h : Try.prog.underlying 19 = some (.struct fs)) : ∀ w, ((fs.mapM fun f => do pure (f.offset, ← sizeOf f.type)) : Sem (Array (Nat × Nat))).run Try.prog w = .ok #[(0, 1)] w := by cases h.symm.trans Try.underlying19; intro w; kernel_rfl
theorem elem22 : R.ElemT Try.prog 22 39 5 40 := ⟨Try.underlying22, by
  have h : (Try.prog.info? 39).map (fun i => ((match i.zero with | some z => z.cells.size | none => 99999), i.zero.isSome, i.size, i.bytes)) = some (5, true, 5, 40) := by kernel_rfl
  exact elem_of h⟩
theorem elem24 : R.ElemT Try.prog 24 33 6 72 := ⟨Try.underlying24, by
  have h : (Try.prog.info? 33).map (fun i => ((match i.zero with | some z => z.cells.size | none => 99999), i.zero.isSome, i.size, i.bytes)) = some (6, true, 6, 72) := by kernel_rfl
  exact elem_of h⟩
theorem elem27 : R.ElemT Try.prog 27 3 1 8 := ⟨Try.underlying27, by
  have h : (Try.prog.info? 3).map (fun i => ((match i.zero with | some z => z.cells.size | none => 99999), i.zero.isSome, i.size, i.bytes)) = some (1, true, 1, 8) := by kernel_rfl
  exact elem_of h⟩
theorem places29 {fs : Array Field} (h : Try.prog.underlying 29 = some (.struct fs)) : ∀ w, ((fs.mapM fun f => do pure (f.offset, ← sizeOf f.type)) : Sem (Array (Nat × Nat))).run Try.prog w = .ok #[(0, 1), (1, 1)] w := by cases h.symm.trans Try.underlying29; intro w; kernel_rfl
theorem eqv30 (x0 : Int) (x1 : Int) (y0 : Int) (y1 : Int) (o1 o2 : Operand) (w : World) : (do eqGuard .eql 30 o1 o2 (.agg [.int .i64 x0, .int .i64 x1].toArray) (.agg [.int .i64 y0, .int .i64 y1].toArray); binOp .eql 30 (.agg [.int .i64 x0, .int .i64 x1].toArray) (.agg [.int .i64 y0, .int .i64 y1].toArray) : Sem Value).run Try.prog w = .ok (.bool (((x0 == y0) && (x1 == y1)))) w := by
  have hm : Try.prog.eqGuardType Try.prog.depth 30 = false := by kernel_rfl
  rw [Sem.run_bind, run_eqGuard_agg _ _ _ _ _ _ _ hm]
  simp only [Result.andThen_ok]
  have hs30 : Try.prog.stoodInHeld 30 = false := by kernel_rfl
  by_cases h0 : (x0 == y0) = true <;> by_cases h1 : (x1 == y1) = true <;>
  go_simp
theorem nev30 (x0 : Int) (x1 : Int) (y0 : Int) (y1 : Int) (o1 o2 : Operand) (w : World) : (do eqGuard .neq 30 o1 o2 (.agg [.int .i64 x0, .int .i64 x1].toArray) (.agg [.int .i64 y0, .int .i64 y1].toArray); binOp .neq 30 (.agg [.int .i64 x0, .int .i64 x1].toArray) (.agg [.int .i64 y0, .int .i64 y1].toArray) : Sem Value).run Try.prog w = .ok (.bool (!((x0 == y0) && (x1 == y1)))) w := by
  have hm : Try.prog.eqGuardType Try.prog.depth 30 = false := by kernel_rfl
  rw [Sem.run_bind, run_eqGuard_agg _ _ _ _ _ _ _ hm]
  simp only [Result.andThen_ok]
  have hs30 : Try.prog.stoodInHeld 30 = false := by kernel_rfl
  by_cases h0 : (x0 == y0) = true <;> by_cases h1 : (x1 == y1) = true <;>
  go_simp
theorem places30 {fs : Array Field} (h : Try.prog.underlying 30 = some (.struct fs)) : ∀ w, ((fs.mapM fun f => do pure (f.offset, ← sizeOf f.type)) : Sem (Array (Nat × Nat))).run Try.prog w = .ok #[(0, 1), (1, 1)] w := by cases h.symm.trans Try.underlying30; intro w; kernel_rfl
theorem elem31 : R.ElemT Try.prog 31 60 3 32 := ⟨Try.underlying31, by
  have h : (Try.prog.info? 60).map (fun i => ((match i.zero with | some z => z.cells.size | none => 99999), i.zero.isSome, i.size, i.bytes)) = some (3, true, 3, 32) := by kernel_rfl
  exact elem_of h⟩
theorem places32 {fs : Array Field} (h : Try.prog.underlying 32 = some (.struct fs)) : ∀ w, ((fs.mapM fun f => do pure (f.offset, ← sizeOf f.type)) : Sem (Array (Nat × Nat))).run Try.prog w = .ok #[(0, 1), (1, 1), (2, 1), (3, 2), (5, 1)] w := by cases h.symm.trans Try.underlying32; intro w; kernel_rfl
theorem places33 {fs : Array Field} (h : Try.prog.underlying 33 = some (.struct fs)) : ∀ w, ((fs.mapM fun f => do pure (f.offset, ← sizeOf f.type)) : Sem (Array (Nat × Nat))).run Try.prog w = .ok #[(0, 1), (1, 1), (2, 1), (3, 2), (5, 1)] w := by cases h.symm.trans Try.underlying33; intro w; kernel_rfl
theorem places38 {fs : Array Field} (h : Try.prog.underlying 38 = some (.struct fs)) : ∀ w, ((fs.mapM fun f => do pure (f.offset, ← sizeOf f.type)) : Sem (Array (Nat × Nat))).run Try.prog w = .ok #[(0, 1), (1, 1), (2, 1), (3, 1), (4, 1)] w := by cases h.symm.trans Try.underlying38; intro w; kernel_rfl
theorem places39 {fs : Array Field} (h : Try.prog.underlying 39 = some (.struct fs)) : ∀ w, ((fs.mapM fun f => do pure (f.offset, ← sizeOf f.type)) : Sem (Array (Nat × Nat))).run Try.prog w = .ok #[(0, 1), (1, 1), (2, 1), (3, 1), (4, 1)] w := by cases h.symm.trans Try.underlying39; intro w; kernel_rfl
theorem elem41 : R.ElemT Try.prog 41 31 1 24 := ⟨Try.underlying41, by
  have h : (Try.prog.info? 31).map (fun i => ((match i.zero with | some z => z.cells.size | none => 99999), i.zero.isSome, i.size, i.bytes)) = some (1, true, 1, 24) := by kernel_rfl
  exact elem_of h⟩
theorem elem44 : R.ElemT Try.prog 44 47 2 16 := ⟨Try.underlying44, by
  have h : (Try.prog.info? 47).map (fun i => ((match i.zero with | some z => z.cells.size | none => 99999), i.zero.isSome, i.size, i.bytes)) = some (2, true, 2, 16) := by kernel_rfl
  exact elem_of h⟩
theorem elem56 : R.ElemT Try.prog 56 27 1 24 := ⟨Try.underlying56, by
  have h : (Try.prog.info? 27).map (fun i => ((match i.zero with | some z => z.cells.size | none => 99999), i.zero.isSome, i.size, i.bytes)) = some (1, true, 1, 24) := by kernel_rfl
  exact elem_of h⟩
theorem places59 {fs : Array Field} (h : Try.prog.underlying 59 = some (.struct fs)) : ∀ w, ((fs.mapM fun f => do pure (f.offset, ← sizeOf f.type)) : Sem (Array (Nat × Nat))).run Try.prog w = .ok #[(0, 1), (1, 2)] w := by cases h.symm.trans Try.underlying59; intro w; kernel_rfl
theorem eqv60 (x0 : ByteArray) (x1 : Int) (x2 : Int) (y0 : ByteArray) (y1 : Int) (y2 : Int) (o1 o2 : Operand) (w : World) : (do eqGuard .eql 60 o1 o2 (.agg [.string x0, .int .i64 x1, .int .i64 x2].toArray) (.agg [.string y0, .int .i64 y1, .int .i64 y2].toArray); binOp .eql 60 (.agg [.string x0, .int .i64 x1, .int .i64 x2].toArray) (.agg [.string y0, .int .i64 y1, .int .i64 y2].toArray) : Sem Value).run Try.prog w = .ok (.bool (((x0.toList == y0.toList) && ((x1 == y1) && (x2 == y2))))) w := by
  have hm : Try.prog.eqGuardType Try.prog.depth 60 = false := by kernel_rfl
  rw [Sem.run_bind, run_eqGuard_agg _ _ _ _ _ _ _ hm]
  simp only [Result.andThen_ok]
  have hs30 : Try.prog.stoodInHeld 30 = false := by kernel_rfl
  have hs60 : Try.prog.stoodInHeld 60 = false := by kernel_rfl
  by_cases h0 : (x0.toList == y0.toList) = true <;> by_cases h1 : (x1 == y1) = true <;> by_cases h2 : (x2 == y2) = true <;>
  go_simp
theorem nev60 (x0 : ByteArray) (x1 : Int) (x2 : Int) (y0 : ByteArray) (y1 : Int) (y2 : Int) (o1 o2 : Operand) (w : World) : (do eqGuard .neq 60 o1 o2 (.agg [.string x0, .int .i64 x1, .int .i64 x2].toArray) (.agg [.string y0, .int .i64 y1, .int .i64 y2].toArray); binOp .neq 60 (.agg [.string x0, .int .i64 x1, .int .i64 x2].toArray) (.agg [.string y0, .int .i64 y1, .int .i64 y2].toArray) : Sem Value).run Try.prog w = .ok (.bool (!((x0.toList == y0.toList) && ((x1 == y1) && (x2 == y2))))) w := by
  have hm : Try.prog.eqGuardType Try.prog.depth 60 = false := by kernel_rfl
  rw [Sem.run_bind, run_eqGuard_agg _ _ _ _ _ _ _ hm]
  simp only [Result.andThen_ok]
  have hs30 : Try.prog.stoodInHeld 30 = false := by kernel_rfl
  have hs60 : Try.prog.stoodInHeld 60 = false := by kernel_rfl
  by_cases h0 : (x0.toList == y0.toList) = true <;> by_cases h1 : (x1 == y1) = true <;> by_cases h2 : (x2 == y2) = true <;>
  go_simp
theorem places60 {fs : Array Field} (h : Try.prog.underlying 60 = some (.struct fs)) : ∀ w, ((fs.mapM fun f => do pure (f.offset, ← sizeOf f.type)) : Sem (Array (Nat × Nat))).run Try.prog w = .ok #[(0, 1), (1, 2)] w := by cases h.symm.trans Try.underlying60; intro w; kernel_rfl
theorem places70 {fs : Array Field} (h : Try.prog.underlying 70 = some (.struct fs)) : ∀ w, ((fs.mapM fun f => do pure (f.offset, ← sizeOf f.type)) : Sem (Array (Nat × Nat))).run Try.prog w = .ok #[(0, 1), (1, 1)] w := by cases h.symm.trans Try.underlying70; intro w; kernel_rfl
theorem places71 {fs : Array Field} (h : Try.prog.underlying 71 = some (.struct fs)) : ∀ w, ((fs.mapM fun f => do pure (f.offset, ← sizeOf f.type)) : Sem (Array (Nat × Nat))).run Try.prog w = .ok #[(0, 1), (1, 1)] w := by cases h.symm.trans Try.underlying71; intro w; kernel_rfl
theorem places72 {fs : Array Field} (h : Try.prog.underlying 72 = some (.struct fs)) : ∀ w, ((fs.mapM fun f => do pure (f.offset, ← sizeOf f.type)) : Sem (Array (Nat × Nat))).run Try.prog w = .ok #[(0, 1), (1, 2)] w := by cases h.symm.trans Try.underlying72; intro w; kernel_rfl
theorem places73 {fs : Array Field} (h : Try.prog.underlying 73 = some (.struct fs)) : ∀ w, ((fs.mapM fun f => do pure (f.offset, ← sizeOf f.type)) : Sem (Array (Nat × Nat))).run Try.prog w = .ok #[(0, 1), (1, 2)] w := by cases h.symm.trans Try.underlying73; intro w; kernel_rfl
theorem elem83 : R.ElemT Try.prog 83 4 1 1 := ⟨Try.underlying83, by
  have h : (Try.prog.info? 4).map (fun i => ((match i.zero with | some z => z.cells.size | none => 99999), i.zero.isSome, i.size, i.bytes)) = some (1, true, 1, 1) := by kernel_rfl
  exact elem_of h⟩
theorem elem94 : R.ElemT Try.prog 94 30 2 16 := ⟨Try.underlying94, by
  have h : (Try.prog.info? 30).map (fun i => ((match i.zero with | some z => z.cells.size | none => 99999), i.zero.isSome, i.size, i.bytes)) = some (2, true, 2, 16) := by kernel_rfl
  exact elem_of h⟩
theorem places120 {fs : Array Field} (h : Try.prog.underlying 120 = some (.struct fs)) : ∀ w, ((fs.mapM fun f => do pure (f.offset, ← sizeOf f.type)) : Sem (Array (Nat × Nat))).run Try.prog w = .ok #[(0, 1), (1, 1), (2, 1), (3, 1)] w := by cases h.symm.trans Try.underlying120; intro w; kernel_rfl
theorem places121 {fs : Array Field} (h : Try.prog.underlying 121 = some (.struct fs)) : ∀ w, ((fs.mapM fun f => do pure (f.offset, ← sizeOf f.type)) : Sem (Array (Nat × Nat))).run Try.prog w = .ok #[(0, 1), (1, 1), (2, 1), (3, 1)] w := by cases h.symm.trans Try.underlying121; intro w; kernel_rfl
theorem places123 {fs : Array Field} (h : Try.prog.underlying 123 = some (.struct fs)) : ∀ w, ((fs.mapM fun f => do pure (f.offset, ← sizeOf f.type)) : Sem (Array (Nat × Nat))).run Try.prog w = .ok #[(0, 0)] w := by cases h.symm.trans Try.underlying123; intro w; kernel_rfl
theorem places124 {fs : Array Field} (h : Try.prog.underlying 124 = some (.struct fs)) : ∀ w, ((fs.mapM fun f => do pure (f.offset, ← sizeOf f.type)) : Sem (Array (Nat × Nat))).run Try.prog w = .ok #[(0, 0)] w := by cases h.symm.trans Try.underlying124; intro w; kernel_rfl
theorem places132 {fs : Array Field} (h : Try.prog.underlying 132 = some (.struct fs)) : ∀ w, ((fs.mapM fun f => do pure (f.offset, ← sizeOf f.type)) : Sem (Array (Nat × Nat))).run Try.prog w = .ok #[(0, 1), (1, 1), (2, 1), (3, 1), (4, 1), (5, 1), (6, 1), (7, 1), (8, 1), (9, 1), (10, 1)] w := by cases h.symm.trans Try.underlying132; intro w; kernel_rfl
theorem places133 {fs : Array Field} (h : Try.prog.underlying 133 = some (.struct fs)) : ∀ w, ((fs.mapM fun f => do pure (f.offset, ← sizeOf f.type)) : Sem (Array (Nat × Nat))).run Try.prog w = .ok #[(0, 1), (1, 1), (2, 1), (3, 1), (4, 1), (5, 1), (6, 1), (7, 1), (8, 1), (9, 1), (10, 1)] w := by cases h.symm.trans Try.underlying133; intro w; kernel_rfl
end Go.Proofs.Ytgoncpjgpkoacaa
