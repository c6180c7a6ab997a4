/- The seat's types: elements of slices, places of fields. -/
import Derived.Test.YtbdejgbjelfbeaaAB
import Derived.Test.YtbdejgbjelfbeaaProg
set_option linter.unusedSimpArgs false
set_option linter.unusedVariables false
namespace Go.Proofs.Ytbdejgbjelfbeaa
open Go.RowKit A
theorem places7 {fs : Array Field} (h : Try.prog.underlying 7 = some (.struct fs)) : ∀ w, ((fs.mapM fun f => do pure (f.offset, ← sizeOf f.type)) : Sem (Array (Nat × Nat))).run Try.prog w = .ok #[(0, 1), (1, 1), (2, 1), (3, 1)] w := by cases h.symm.trans Try.underlying7; intro w; kernel_rfl
theorem places8 {fs : Array Field} (h : Try.prog.underlying 8 = some (.struct fs)) : ∀ w, ((fs.mapM fun f => do pure (f.offset, ← sizeOf f.type)) : Sem (Array (Nat × Nat))).run Try.prog w = .ok #[(0, 1), (1, 1), (2, 1), (3, 1)] w := by cases h.symm.trans Try.underlying8; intro w; kernel_rfl
theorem places13 {fs : Array Field} (h : Try.prog.underlying 13 = some (.struct fs)) : ∀ w, ((fs.mapM fun f => do pure (f.offset, ← sizeOf f.type)) : Sem (Array (Nat × Nat))).run Try.prog w = .ok #[(0, 1), (1, 1)] w := by cases h.symm.trans Try.underlying13; intro w; kernel_rfl
theorem places14 {fs : Array Field} (h : Try.prog.underlying 14 = some (.struct fs)) : ∀ w, ((fs.mapM fun f => do pure (f.offset, ← sizeOf f.type)) : Sem (Array (Nat × Nat))).run Try.prog w = .ok #[(0, 1), (1, 1)] w := by cases h.symm.trans Try.underlying14; intro w; kernel_rfl
theorem places18 {fs : Array Field} (h : Try.prog.underlying 18 = some (.struct fs)) : ∀ w, ((fs.mapM fun f => do pure (f.offset, ← sizeOf f.type)) : Sem (Array (Nat × Nat))).run Try.prog w = .ok #[(0, 1)] w := by cases h.symm.trans Try.underlying18; intro w; kernel_rfl
theorem places19 {fs : Array Field} (h : Try.prog.underlying 19 = some (.struct fs)) : ∀ w, ((fs.mapM fun f => do pure (f.offset, ← sizeOf f.type)) : Sem (Array (Nat × Nat))).run Try.prog w = .ok #[(0, 1)] w := by cases h.symm.trans Try.underlying19; intro w; kernel_rfl
theorem elem22 : R.ElemT Try.prog 22 29 6 72 := ⟨Try.underlying22, by
  have h : (Try.prog.info? 29).map (fun i => ((match i.zero with | some z => z.cells.size | none => 99999), i.zero.isSome, i.size, i.bytes)) = some (6, true, 6, 72) := by kernel_rfl
  exact elem_of h⟩
theorem places25 {fs : Array Field} (h : Try.prog.underlying 25 = some (.struct fs)) : ∀ w, ((fs.mapM fun f => do pure (f.offset, ← sizeOf f.type)) : Sem (Array (Nat × Nat))).run Try.prog w = .ok #[(0, 1), (1, 1)] w := by cases h.symm.trans Try.underlying25; intro w; kernel_rfl
theorem eqv26 (x0 : Int) (x1 : Int) (y0 : Int) (y1 : Int) (o1 o2 : Operand) (w : World) : (do eqGuard .eql 26 o1 o2 (.agg [.int .i64 x0, .int .i64 x1].toArray) (.agg [.int .i64 y0, .int .i64 y1].toArray); binOp .eql 26 (.agg [.int .i64 x0, .int .i64 x1].toArray) (.agg [.int .i64 y0, .int .i64 y1].toArray) : Sem Value).run Try.prog w = .ok (.bool (((x0 == y0) && (x1 == y1)))) w := by
  have hm : Try.prog.eqGuardType Try.prog.depth 26 = false := by kernel_rfl
  rw [Sem.run_bind, run_eqGuard_agg _ _ _ _ _ _ _ hm]
  simp only [Result.andThen_ok]
  have hs26 : Try.prog.stoodInHeld 26 = false := by kernel_rfl
  by_cases h0 : (x0 == y0) = true <;> by_cases h1 : (x1 == y1) = true <;>
  go_simp
theorem nev26 (x0 : Int) (x1 : Int) (y0 : Int) (y1 : Int) (o1 o2 : Operand) (w : World) : (do eqGuard .neq 26 o1 o2 (.agg [.int .i64 x0, .int .i64 x1].toArray) (.agg [.int .i64 y0, .int .i64 y1].toArray); binOp .neq 26 (.agg [.int .i64 x0, .int .i64 x1].toArray) (.agg [.int .i64 y0, .int .i64 y1].toArray) : Sem Value).run Try.prog w = .ok (.bool (!((x0 == y0) && (x1 == y1)))) w := by
  have hm : Try.prog.eqGuardType Try.prog.depth 26 = false := by kernel_rfl
  rw [Sem.run_bind, run_eqGuard_agg _ _ _ _ _ _ _ hm]
  simp only [Result.andThen_ok]
  have hs26 : Try.prog.stoodInHeld 26 = false := by kernel_rfl
  by_cases h0 : (x0 == y0) = true <;> by_cases h1 : (x1 == y1) = true <;>
  go_simp
theorem places26 {fs : Array Field} (h : Try.prog.underlying 26 = some (.struct fs)) : ∀ w, ((fs.mapM fun f => do pure (f.offset, ← sizeOf f.type)) : Sem (Array (Nat × Nat))).run Try.prog w = .ok #[(0, 1), (1, 1)] w := by cases h.symm.trans Try.underlying26; intro w; kernel_rfl
theorem elem27 : R.ElemT Try.prog 27 56 3 32 := ⟨Try.underlying27, by
  have h : (Try.prog.info? 56).map (fun i => ((match i.zero with | some z => z.cells.size | none => 99999), i.zero.isSome, i.size, i.bytes)) = some (3, true, 3, 32) := by kernel_rfl
  exact elem_of h⟩
theorem places28 {fs : Array Field} (h : Try.prog.underlying 28 = some (.struct fs)) : ∀ w, ((fs.mapM fun f => do pure (f.offset, ← sizeOf f.type)) : Sem (Array (Nat × Nat))).run Try.prog w = .ok #[(0, 1), (1, 1), (2, 1), (3, 2), (5, 1)] w := by cases h.symm.trans Try.underlying28; intro w; kernel_rfl
theorem places29 {fs : Array Field} (h : Try.prog.underlying 29 = some (.struct fs)) : ∀ w, ((fs.mapM fun f => do pure (f.offset, ← sizeOf f.type)) : Sem (Array (Nat × Nat))).run Try.prog w = .ok #[(0, 1), (1, 1), (2, 1), (3, 2), (5, 1)] w := by cases h.symm.trans Try.underlying29; intro w; kernel_rfl
theorem elem30 : R.ElemT Try.prog 30 9 1 16 := ⟨Try.underlying30, by
  have h : (Try.prog.info? 9).map (fun i => ((match i.zero with | some z => z.cells.size | none => 99999), i.zero.isSome, i.size, i.bytes)) = some (1, true, 1, 16) := by kernel_rfl
  exact elem_of h⟩
theorem elem34 : R.ElemT Try.prog 34 3 1 8 := ⟨Try.underlying34, by
  have h : (Try.prog.info? 3).map (fun i => ((match i.zero with | some z => z.cells.size | none => 99999), i.zero.isSome, i.size, i.bytes)) = some (1, true, 1, 8) := by kernel_rfl
  exact elem_of h⟩
theorem elem43 : R.ElemT Try.prog 43 5 1 1 := ⟨Try.underlying43, by
  have h : (Try.prog.info? 5).map (fun i => ((match i.zero with | some z => z.cells.size | none => 99999), i.zero.isSome, i.size, i.bytes)) = some (1, true, 1, 1) := by kernel_rfl
  exact elem_of h⟩
theorem places55 {fs : Array Field} (h : Try.prog.underlying 55 = some (.struct fs)) : ∀ w, ((fs.mapM fun f => do pure (f.offset, ← sizeOf f.type)) : Sem (Array (Nat × Nat))).run Try.prog w = .ok #[(0, 1), (1, 2)] w := by cases h.symm.trans Try.underlying55; intro w; kernel_rfl
theorem eqv56 (x0 : ByteArray) (x1 : Int) (x2 : Int) (y0 : ByteArray) (y1 : Int) (y2 : Int) (o1 o2 : Operand) (w : World) : (do eqGuard .eql 56 o1 o2 (.agg [.string x0, .int .i64 x1, .int .i64 x2].toArray) (.agg [.string y0, .int .i64 y1, .int .i64 y2].toArray); binOp .eql 56 (.agg [.string x0, .int .i64 x1, .int .i64 x2].toArray) (.agg [.string y0, .int .i64 y1, .int .i64 y2].toArray) : Sem Value).run Try.prog w = .ok (.bool (((x0.toList == y0.toList) && ((x1 == y1) && (x2 == y2))))) w := by
  have hm : Try.prog.eqGuardType Try.prog.depth 56 = false := by kernel_rfl
  rw [Sem.run_bind, run_eqGuard_agg _ _ _ _ _ _ _ hm]
  simp only [Result.andThen_ok]
  have hs26 : Try.prog.stoodInHeld 26 = false := by kernel_rfl
  have hs56 : Try.prog.stoodInHeld 56 = false := by kernel_rfl
  by_cases h0 : (x0.toList == y0.toList) = true <;> by_cases h1 : (x1 == y1) = true <;> by_cases h2 : (x2 == y2) = true <;>
  go_simp
theorem nev56 (x0 : ByteArray) (x1 : Int) (x2 : Int) (y0 : ByteArray) (y1 : Int) (y2 : Int) (o1 o2 : Operand) (w : World) : (do eqGuard .neq 56 o1 o2 (.agg [.string x0, .int .i64 x1, .int .i64 x2].toArray) (.agg [.string y0, .int .i64 y1, .int .i64 y2].toArray); binOp .neq 56 (.agg [.string x0, .int .i64 x1, .int .i64 x2].toArray) (.agg [.string y0, .int .i64 y1, .int .i64 y2].toArray) : Sem Value).run Try.prog w = .ok (.bool (!((x0.toList == y0.toList) && ((x1 == y1) && (x2 == y2))))) w := by
  have hm : Try.prog.eqGuardType Try.prog.depth 56 = false := by kernel_rfl
  rw [Sem.run_bind, run_eqGuard_agg _ _ _ _ _ _ _ hm]
  simp only [Result.andThen_ok]
  have hs26 : Try.prog.stoodInHeld 26 = false := by kernel_rfl
  have hs56 : Try.prog.stoodInHeld 56 = false := by kernel_rfl
  by_cases h0 : (x0.toList == y0.toList) = true <;> by_cases h1 : (x1 == y1) = true <;> by_cases h2 : (x2 == y2) = true <;>
  go_simp
theorem places56 {fs : Array Field} (h : Try.prog.underlying 56 = some (.struct fs)) : ∀ w, ((fs.mapM fun f => do pure (f.offset, ← sizeOf f.type)) : Sem (Array (Nat × Nat))).run Try.prog w = .ok #[(0, 1), (1, 2)] w := by cases h.symm.trans Try.underlying56; intro w; kernel_rfl
theorem places65 {fs : Array Field} (h : Try.prog.underlying 65 = some (.struct fs)) : ∀ w, ((fs.mapM fun f => do pure (f.offset, ← sizeOf f.type)) : Sem (Array (Nat × Nat))).run Try.prog w = .ok #[(0, 1), (1, 1), (2, 1)] w := by cases h.symm.trans Try.underlying65; intro w; kernel_rfl
theorem places66 {fs : Array Field} (h : Try.prog.underlying 66 = some (.struct fs)) : ∀ w, ((fs.mapM fun f => do pure (f.offset, ← sizeOf f.type)) : Sem (Array (Nat × Nat))).run Try.prog w = .ok #[(0, 1), (1, 1), (2, 1)] w := by cases h.symm.trans Try.underlying66; intro w; kernel_rfl
theorem places70 {fs : Array Field} (h : Try.prog.underlying 70 = some (.struct fs)) : ∀ w, ((fs.mapM fun f => do pure (f.offset, ← sizeOf f.type)) : Sem (Array (Nat × Nat))).run Try.prog w = .ok #[(0, 1), (1, 1), (2, 1)] w := by cases h.symm.trans Try.underlying70; intro w; kernel_rfl
theorem places71 {fs : Array Field} (h : Try.prog.underlying 71 = some (.struct fs)) : ∀ w, ((fs.mapM fun f => do pure (f.offset, ← sizeOf f.type)) : Sem (Array (Nat × Nat))).run Try.prog w = .ok #[(0, 1), (1, 1), (2, 1)] w := by cases h.symm.trans Try.underlying71; intro w; kernel_rfl
theorem places76 {fs : Array Field} (h : Try.prog.underlying 76 = some (.struct fs)) : ∀ w, ((fs.mapM fun f => do pure (f.offset, ← sizeOf f.type)) : Sem (Array (Nat × Nat))).run Try.prog w = .ok #[(0, 1), (1, 1)] w := by cases h.symm.trans Try.underlying76; intro w; kernel_rfl
theorem places77 {fs : Array Field} (h : Try.prog.underlying 77 = some (.struct fs)) : ∀ w, ((fs.mapM fun f => do pure (f.offset, ← sizeOf f.type)) : Sem (Array (Nat × Nat))).run Try.prog w = .ok #[(0, 1), (1, 1)] w := by cases h.symm.trans Try.underlying77; intro w; kernel_rfl
theorem places101 {fs : Array Field} (h : Try.prog.underlying 101 = some (.struct fs)) : ∀ w, ((fs.mapM fun f => do pure (f.offset, ← sizeOf f.type)) : Sem (Array (Nat × Nat))).run Try.prog w = .ok #[(0, 1), (1, 1)] w := by cases h.symm.trans Try.underlying101; intro w; kernel_rfl
theorem places102 {fs : Array Field} (h : Try.prog.underlying 102 = some (.struct fs)) : ∀ w, ((fs.mapM fun f => do pure (f.offset, ← sizeOf f.type)) : Sem (Array (Nat × Nat))).run Try.prog w = .ok #[(0, 1), (1, 1)] w := by cases h.symm.trans Try.underlying102; intro w; kernel_rfl
theorem places104 {fs : Array Field} (h : Try.prog.underlying 104 = some (.struct fs)) : ∀ w, ((fs.mapM fun f => do pure (f.offset, ← sizeOf f.type)) : Sem (Array (Nat × Nat))).run Try.prog w = .ok #[(0, 1), (1, 1)] w := by cases h.symm.trans Try.underlying104; intro w; kernel_rfl
theorem places105 {fs : Array Field} (h : Try.prog.underlying 105 = some (.struct fs)) : ∀ w, ((fs.mapM fun f => do pure (f.offset, ← sizeOf f.type)) : Sem (Array (Nat × Nat))).run Try.prog w = .ok #[(0, 1), (1, 1)] w := by cases h.symm.trans Try.underlying105; intro w; kernel_rfl
theorem places107 {fs : Array Field} (h : Try.prog.underlying 107 = some (.struct fs)) : ∀ w, ((fs.mapM fun f => do pure (f.offset, ← sizeOf f.type)) : Sem (Array (Nat × Nat))).run Try.prog w = .ok #[(0, 2), (2, 1)] w := by cases h.symm.trans Try.underlying107; intro w; kernel_rfl
theorem places108 {fs : Array Field} (h : Try.prog.underlying 108 = some (.struct fs)) : ∀ w, ((fs.mapM fun f => do pure (f.offset, ← sizeOf f.type)) : Sem (Array (Nat × Nat))).run Try.prog w = .ok #[(0, 2), (2, 1)] w := by cases h.symm.trans Try.underlying108; intro w; kernel_rfl
theorem elem110 : R.ElemT Try.prog 110 51 1 8 := ⟨Try.underlying110, by
  have h : (Try.prog.info? 51).map (fun i => ((match i.zero with | some z => z.cells.size | none => 99999), i.zero.isSome, i.size, i.bytes)) = some (1, true, 1, 8) := by kernel_rfl
  exact elem_of h⟩
theorem places163 {fs : Array Field} (h : Try.prog.underlying 163 = some (.struct fs)) : ∀ w, ((fs.mapM fun f => do pure (f.offset, ← sizeOf f.type)) : Sem (Array (Nat × Nat))).run Try.prog w = .ok #[(0, 1), (1, 1), (2, 1), (3, 1)] w := by cases h.symm.trans Try.underlying163; intro w; kernel_rfl
theorem places164 {fs : Array Field} (h : Try.prog.underlying 164 = some (.struct fs)) : ∀ w, ((fs.mapM fun f => do pure (f.offset, ← sizeOf f.type)) : Sem (Array (Nat × Nat))).run Try.prog w = .ok #[(0, 1), (1, 1), (2, 1), (3, 1)] w := by cases h.symm.trans Try.underlying164; intro w; kernel_rfl
theorem places166 {fs : Array Field} (h : Try.prog.underlying 166 = some (.struct fs)) : ∀ w, ((fs.mapM fun f => do pure (f.offset, ← sizeOf f.type)) : Sem (Array (Nat × Nat))).run Try.prog w = .ok #[(0, 0)] w := by cases h.symm.trans Try.underlying166; intro w; kernel_rfl
theorem places167 {fs : Array Field} (h : Try.prog.underlying 167 = some (.struct fs)) : ∀ w, ((fs.mapM fun f => do pure (f.offset, ← sizeOf f.type)) : Sem (Array (Nat × Nat))).run Try.prog w = .ok #[(0, 0)] w := by cases h.symm.trans Try.underlying167; intro w; kernel_rfl
theorem places174 {fs : Array Field} (h : Try.prog.underlying 174 = some (.struct fs)) : ∀ w, ((fs.mapM fun f => do pure (f.offset, ← sizeOf f.type)) : Sem (Array (Nat × Nat))).run Try.prog w = .ok #[(0, 1), (1, 1), (2, 1), (3, 1), (4, 1), (5, 1), (6, 1), (7, 1), (8, 1), (9, 1), (10, 1)] w := by cases h.symm.trans Try.underlying174; intro w; kernel_rfl
theorem places175 {fs : Array Field} (h : Try.prog.underlying 175 = some (.struct fs)) : ∀ w, ((fs.mapM fun f => do pure (f.offset, ← sizeOf f.type)) : Sem (Array (Nat × Nat))).run Try.prog w = .ok #[(0, 1), (1, 1), (2, 1), (3, 1), (4, 1), (5, 1), (6, 1), (7, 1), (8, 1), (9, 1), (10, 1)] w := by cases h.symm.trans Try.underlying175; intro w; kernel_rfl
end Go.Proofs.Ytbdejgbjelfbeaa
