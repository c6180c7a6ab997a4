/- The seat's types: elements of slices, places of fields. -/
import Derived.Test.YtfalbocgnmlncaaAB
import Derived.Test.YtfalbocgnmlncaaProg
set_option linter.unusedSimpArgs false
set_option linter.unusedVariables false
namespace Go.Proofs.Ytfalbocgnmlncaa
open Go.RowKit A
theorem places7 {fs : Array Field} (h : Try.prog.underlying 7 = some (.struct fs)) : ∀ w, ((fs.mapM fun f => do pure (f.offset, ← sizeOf f.type)) : Sem (Array (Nat × Nat))).run Try.prog w = .ok #[(0, 1), (1, 1), (2, 1), (3, 1)] w := by cases h.symm.trans Try.underlying7; intro w; kernel_rfl
theorem places8 {fs : Array Field} (h : Try.prog.underlying 8 = some (.struct fs)) : ∀ w, ((fs.mapM fun f => do pure (f.offset, ← sizeOf f.type)) : Sem (Array (Nat × Nat))).run Try.prog w = .ok #[(0, 1), (1, 1), (2, 1), (3, 1)] w := by cases h.symm.trans Try.underlying8; intro w; kernel_rfl
theorem places13 {fs : Array Field} (h : Try.prog.underlying 13 = some (.struct fs)) : ∀ w, ((fs.mapM fun f => do pure (f.offset, ← sizeOf f.type)) : Sem (Array (Nat × Nat))).run Try.prog w = .ok #[(0, 1), (1, 1)] w := by cases h.symm.trans Try.underlying13; intro w; kernel_rfl
theorem places14 {fs : Array Field} (h : Try.prog.underlying 14 = some (.struct fs)) : ∀ w, ((fs.mapM fun f => do pure (f.offset, ← sizeOf f.type)) : Sem (Array (Nat × Nat))).run Try.prog w = .ok #[(0, 1), (1, 1)] w := by cases h.symm.trans Try.underlying14; intro w; kernel_rfl
theorem places18 {fs : Array Field} (h : Try.prog.underlying 18 = some (.struct fs)) : ∀ w, ((fs.mapM fun f => do pure (f.offset, ← sizeOf f.type)) : Sem (Array (Nat × Nat))).run Try.prog w = .ok #[(0, 1)] w := by cases h.symm.trans Try.underlying18; intro w; kernel_rfl
theorem places19 {fs : Array Field} (h : Try.prog.underlying 19 = some (.struct fs)) : ∀ w, ((fs.mapM fun f => do pure (f.offset, ← sizeOf f.type)) : Sem (Array (Nat × Nat))).run Try.prog w = .ok #[(0, 1)] w := by cases h.symm.trans Try.underlying19; intro w; kernel_rfl
theorem elem22 : R.ElemT Try.prog 22 3 1 8 := ⟨Try.underlying22, by
  have h : (Try.prog.info? 3).map (fun i => ((match i.zero with | some z => z.cells.size | none => 99999), i.zero.isSome, i.size, i.bytes)) = some (1, true, 1, 8) := by kernel_rfl
  exact elem_of h⟩
theorem places24 {fs : Array Field} (h : Try.prog.underlying 24 = some (.struct fs)) : ∀ w, ((fs.mapM fun f => do pure (f.offset, ← sizeOf f.type)) : Sem (Array (Nat × Nat))).run Try.prog w = .ok #[(0, 2), (2, 2), (4, 1), (5, 1)] w := by cases h.symm.trans Try.underlying24; intro w; kernel_rfl
theorem places25 {fs : Array Field} (h : Try.prog.underlying 25 = some (.struct fs)) : ∀ w, ((fs.mapM fun f => do pure (f.offset, ← sizeOf f.type)) : Sem (Array (Nat × Nat))).run Try.prog w = .ok #[(0, 2), (2, 2), (4, 1), (5, 1)] w := by cases h.symm.trans Try.underlying25; intro w; kernel_rfl
theorem elem27 : R.ElemT Try.prog 27 35 2 32 := ⟨Try.underlying27, by
  have h : (Try.prog.info? 35).map (fun i => ((match i.zero with | some z => z.cells.size | none => 99999), i.zero.isSome, i.size, i.bytes)) = some (2, true, 2, 32) := by kernel_rfl
  exact elem_of h⟩
theorem places28 {fs : Array Field} (h : Try.prog.underlying 28 = some (.struct fs)) : ∀ w, ((fs.mapM fun f => do pure (f.offset, ← sizeOf f.type)) : Sem (Array (Nat × Nat))).run Try.prog w = .ok #[(0, 1), (1, 1), (2, 1)] w := by cases h.symm.trans Try.underlying28; intro w; kernel_rfl
theorem places29 {fs : Array Field} (h : Try.prog.underlying 29 = some (.struct fs)) : ∀ w, ((fs.mapM fun f => do pure (f.offset, ← sizeOf f.type)) : Sem (Array (Nat × Nat))).run Try.prog w = .ok #[(0, 1), (1, 1), (2, 1)] w := by cases h.symm.trans Try.underlying29; intro w; kernel_rfl
theorem elem31 : R.ElemT Try.prog 31 37 4 48 := ⟨Try.underlying31, by
  have h : (Try.prog.info? 37).map (fun i => ((match i.zero with | some z => z.cells.size | none => 99999), i.zero.isSome, i.size, i.bytes)) = some (4, true, 4, 48) := by kernel_rfl
  exact elem_of h⟩
theorem places34 {fs : Array Field} (h : Try.prog.underlying 34 = some (.struct fs)) : ∀ w, ((fs.mapM fun f => do pure (f.offset, ← sizeOf f.type)) : Sem (Array (Nat × Nat))).run Try.prog w = .ok #[(0, 1), (1, 1)] w := by cases h.symm.trans Try.underlying34; intro w; kernel_rfl
theorem eqv35 (x0 : ByteArray) (x1 : ByteArray) (y0 : ByteArray) (y1 : ByteArray) (o1 o2 : Operand) (w : World) : (do eqGuard .eql 35 o1 o2 (.agg [.string x0, .string x1].toArray) (.agg [.string y0, .string y1].toArray); binOp .eql 35 (.agg [.string x0, .string x1].toArray) (.agg [.string y0, .string y1].toArray) : Sem Value).run Try.prog w = .ok (.bool (((x0.toList == y0.toList) && (x1.toList == y1.toList)))) w := by
  have hm : Try.prog.eqGuardType Try.prog.depth 35 = false := by kernel_rfl
  rw [Sem.run_bind, run_eqGuard_agg _ _ _ _ _ _ _ hm]
  simp only [Result.andThen_ok]
  have hs35 : Try.prog.stoodInHeld 35 = false := by kernel_rfl
  by_cases h0 : (x0.toList == y0.toList) = true <;> by_cases h1 : (x1.toList == y1.toList) = true <;>
  go_simp
theorem nev35 (x0 : ByteArray) (x1 : ByteArray) (y0 : ByteArray) (y1 : ByteArray) (o1 o2 : Operand) (w : World) : (do eqGuard .neq 35 o1 o2 (.agg [.string x0, .string x1].toArray) (.agg [.string y0, .string y1].toArray); binOp .neq 35 (.agg [.string x0, .string x1].toArray) (.agg [.string y0, .string y1].toArray) : Sem Value).run Try.prog w = .ok (.bool (!((x0.toList == y0.toList) && (x1.toList == y1.toList)))) w := by
  have hm : Try.prog.eqGuardType Try.prog.depth 35 = false := by kernel_rfl
  rw [Sem.run_bind, run_eqGuard_agg _ _ _ _ _ _ _ hm]
  simp only [Result.andThen_ok]
  have hs35 : Try.prog.stoodInHeld 35 = false := by kernel_rfl
  by_cases h0 : (x0.toList == y0.toList) = true <;> by_cases h1 : (x1.toList == y1.toList) = true <;>
  go_simp
theorem places35 {fs : Array Field} (h : Try.prog.underlying 35 = some (.struct fs)) : ∀ w, ((fs.mapM fun f => do pure (f.offset, ← sizeOf f.type)) : Sem (Array (Nat × Nat))).run Try.prog w = .ok #[(0, 1), (1, 1)] w := by cases h.symm.trans Try.underlying35; intro w; kernel_rfl
theorem places36 {fs : Array Field} (h : Try.prog.underlying 36 = some (.struct fs)) : ∀ w, ((fs.mapM fun f => do pure (f.offset, ← sizeOf f.type)) : Sem (Array (Nat × Nat))).run Try.prog w = .ok #[(0, 1), (1, 1), (2, 2)] w := by cases h.symm.trans Try.underlying36; intro w; kernel_rfl
theorem eqv37 (x0 : Int) (x1 : Int) (x2 : ByteArray) (x3 : ByteArray) (y0 : Int) (y1 : Int) (y2 : ByteArray) (y3 : ByteArray) (o1 o2 : Operand) (w : World) : (do eqGuard .eql 37 o1 o2 (.agg [.int .i64 x0, .int .i64 x1, .string x2, .string x3].toArray) (.agg [.int .i64 y0, .int .i64 y1, .string y2, .string y3].toArray); binOp .eql 37 (.agg [.int .i64 x0, .int .i64 x1, .string x2, .string x3].toArray) (.agg [.int .i64 y0, .int .i64 y1, .string y2, .string y3].toArray) : Sem Value).run Try.prog w = .ok (.bool (((x0 == y0) && ((x1 == y1) && ((x2.toList == y2.toList) && (x3.toList == y3.toList)))))) w := by
  have hm : Try.prog.eqGuardType Try.prog.depth 37 = false := by kernel_rfl
  rw [Sem.run_bind, run_eqGuard_agg _ _ _ _ _ _ _ hm]
  simp only [Result.andThen_ok]
  have hs35 : Try.prog.stoodInHeld 35 = false := by kernel_rfl
  have hs37 : Try.prog.stoodInHeld 37 = false := by kernel_rfl
  by_cases h0 : (x0 == y0) = true <;> by_cases h1 : (x1 == y1) = true <;> by_cases h2 : (x2.toList == y2.toList) = true <;> by_cases h3 : (x3.toList == y3.toList) = true <;>
  go_simp
theorem nev37 (x0 : Int) (x1 : Int) (x2 : ByteArray) (x3 : ByteArray) (y0 : Int) (y1 : Int) (y2 : ByteArray) (y3 : ByteArray) (o1 o2 : Operand) (w : World) : (do eqGuard .neq 37 o1 o2 (.agg [.int .i64 x0, .int .i64 x1, .string x2, .string x3].toArray) (.agg [.int .i64 y0, .int .i64 y1, .string y2, .string y3].toArray); binOp .neq 37 (.agg [.int .i64 x0, .int .i64 x1, .string x2, .string x3].toArray) (.agg [.int .i64 y0, .int .i64 y1, .string y2, .string y3].toArray) : Sem Value).run Try.prog w = .ok (.bool (!((x0 == y0) && ((x1 == y1) && ((x2.toList == y2.toList) && (x3.toList == y3.toList)))))) w := by
  have hm : Try.prog.eqGuardType Try.prog.depth 37 = false := by kernel_rfl
  rw [Sem.run_bind, run_eqGuard_agg _ _ _ _ _ _ _ hm]
  simp only [Result.andThen_ok]
  have hs35 : Try.prog.stoodInHeld 35 = false := by kernel_rfl
  have hs37 : Try.prog.stoodInHeld 37 = false := by kernel_rfl
  by_cases h0 : (x0 == y0) = true <;> by_cases h1 : (x1 == y1) = true <;> by_cases h2 : (x2.toList == y2.toList) = true <;> by_cases h3 : (x3.toList == y3.toList) = true <;>
  go_simp
theorem places37 {fs : Array Field} (h : Try.prog.underlying 37 = some (.struct fs)) : ∀ w, ((fs.mapM fun f => do pure (f.offset, ← sizeOf f.type)) : Sem (Array (Nat × Nat))).run Try.prog w = .ok #[(0, 1), (1, 1), (2, 2)] w := by cases h.symm.trans Try.underlying37; intro w; kernel_rfl
theorem elem51 : R.ElemT Try.prog 51 5 1 1 := ⟨Try.underlying51, by
  have h : (Try.prog.info? 5).map (fun i => ((match i.zero with | some z => z.cells.size | none => 99999), i.zero.isSome, i.size, i.bytes)) = some (1, true, 1, 1) := by kernel_rfl
  exact elem_of h⟩
theorem elem59 : R.ElemT Try.prog 59 9 1 16 := ⟨Try.underlying59, by
  have h : (Try.prog.info? 9).map (fun i => ((match i.zero with | some z => z.cells.size | none => 99999), i.zero.isSome, i.size, i.bytes)) = some (1, true, 1, 16) := by kernel_rfl
  exact elem_of h⟩
theorem elem69 : R.ElemT Try.prog 69 27 1 24 := ⟨Try.underlying69, by
  have h : (Try.prog.info? 27).map (fun i => ((match i.zero with | some z => z.cells.size | none => 99999), i.zero.isSome, i.size, i.bytes)) = some (1, true, 1, 24) := by kernel_rfl
  exact elem_of h⟩
theorem elem80 : R.ElemT Try.prog 80 4 1 1 := ⟨Try.underlying80, by
  have h : (Try.prog.info? 4).map (fun i => ((match i.zero with | some z => z.cells.size | none => 99999), i.zero.isSome, i.size, i.bytes)) = some (1, true, 1, 1) := by kernel_rfl
  exact elem_of h⟩
theorem places106 {fs : Array Field} (h : Try.prog.underlying 106 = some (.struct fs)) : ∀ w, ((fs.mapM fun f => do pure (f.offset, ← sizeOf f.type)) : Sem (Array (Nat × Nat))).run Try.prog w = .ok #[(0, 1), (1, 1), (2, 1), (3, 1)] w := by cases h.symm.trans Try.underlying106; intro w; kernel_rfl
theorem places107 {fs : Array Field} (h : Try.prog.underlying 107 = some (.struct fs)) : ∀ w, ((fs.mapM fun f => do pure (f.offset, ← sizeOf f.type)) : Sem (Array (Nat × Nat))).run Try.prog w = .ok #[(0, 1), (1, 1), (2, 1), (3, 1)] w := by cases h.symm.trans Try.underlying107; intro w; kernel_rfl
theorem places109 {fs : Array Field} (h : Try.prog.underlying 109 = some (.struct fs)) : ∀ w, ((fs.mapM fun f => do pure (f.offset, ← sizeOf f.type)) : Sem (Array (Nat × Nat))).run Try.prog w = .ok #[(0, 0)] w := by cases h.symm.trans Try.underlying109; intro w; kernel_rfl
theorem places110 {fs : Array Field} (h : Try.prog.underlying 110 = some (.struct fs)) : ∀ w, ((fs.mapM fun f => do pure (f.offset, ← sizeOf f.type)) : Sem (Array (Nat × Nat))).run Try.prog w = .ok #[(0, 0)] w := by cases h.symm.trans Try.underlying110; intro w; kernel_rfl
theorem places118 {fs : Array Field} (h : Try.prog.underlying 118 = some (.struct fs)) : ∀ w, ((fs.mapM fun f => do pure (f.offset, ← sizeOf f.type)) : Sem (Array (Nat × Nat))).run Try.prog w = .ok #[(0, 1), (1, 1), (2, 1), (3, 1), (4, 1), (5, 1), (6, 1), (7, 1), (8, 1), (9, 1), (10, 1)] w := by cases h.symm.trans Try.underlying118; intro w; kernel_rfl
theorem places119 {fs : Array Field} (h : Try.prog.underlying 119 = some (.struct fs)) : ∀ w, ((fs.mapM fun f => do pure (f.offset, ← sizeOf f.type)) : Sem (Array (Nat × Nat))).run Try.prog w = .ok #[(0, 1), (1, 1), (2, 1), (3, 1), (4, 1), (5, 1), (6, 1), (7, 1), (8, 1), (9, 1), (10, 1)] w := by cases h.symm.trans Try.underlying119; intro w; kernel_rfl
end Go.Proofs.Ytfalbocgnmlncaa
