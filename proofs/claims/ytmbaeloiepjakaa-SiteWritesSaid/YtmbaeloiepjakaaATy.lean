/- The seat's types: elements of slices, places of fields. -/
import Derived.Test.YtmbaeloiepjakaaAB
import Derived.Test.YtmbaeloiepjakaaProg
set_option linter.unusedSimpArgs false
set_option linter.unusedVariables false
namespace Go.Proofs.Ytmbaeloiepjakaa
open Go.RowKit A
theorem places7 {fs : Array Field} (h : Try.prog.underlying 7 = some (.struct fs)) : ∀ w, ((fs.mapM fun f => do pure (f.offset, ← sizeOf f.type)) : Sem (Array (Nat × Nat))).run Try.prog w = .ok #[(0, 1), (1, 1), (2, 1), (3, 1)] w := by cases h.symm.trans Try.underlying7; intro w; kernel_rfl
theorem places8 {fs : Array Field} (h : Try.prog.underlying 8 = some (.struct fs)) : ∀ w, ((fs.mapM fun f => do pure (f.offset, ← sizeOf f.type)) : Sem (Array (Nat × Nat))).run Try.prog w = .ok #[(0, 1), (1, 1), (2, 1), (3, 1)] w := by cases h.symm.trans Try.underlying8; intro w; kernel_rfl
theorem places13 {fs : Array Field} (h : Try.prog.underlying 13 = some (.struct fs)) : ∀ w, ((fs.mapM fun f => do pure (f.offset, ← sizeOf f.type)) : Sem (Array (Nat × Nat))).run Try.prog w = .ok #[(0, 1), (1, 1)] w := by cases h.symm.trans Try.underlying13; intro w; kernel_rfl
theorem places14 {fs : Array Field} (h : Try.prog.underlying 14 = some (.struct fs)) : ∀ w, ((fs.mapM fun f => do pure (f.offset, ← sizeOf f.type)) : Sem (Array (Nat × Nat))).run Try.prog w = .ok #[(0, 1), (1, 1)] w := by cases h.symm.trans Try.underlying14; intro w; kernel_rfl
theorem places18 {fs : Array Field} (h : Try.prog.underlying 18 = some (.struct fs)) : ∀ w, ((fs.mapM fun f => do pure (f.offset, ← sizeOf f.type)) : Sem (Array (Nat × Nat))).run Try.prog w = .ok #[(0, 1)] w := by cases h.symm.trans Try.underlying18; intro w; kernel_rfl
theorem places19 {fs : Array Field} (h : Try.prog.underlying 19 = some (.struct fs)) : ∀ w, ((fs.mapM fun f => do pure (f.offset, ← sizeOf f.type)) : Sem (Array (Nat × Nat))).run Try.prog w = .ok #[(0, 1)] w := by cases h.symm.trans Try.underlying19; intro w; kernel_rfl
theorem elem22 : R.ElemT Try.prog 22 32 7 80 := ⟨Try.underlying22, by
  have h : (Try.prog.info? 32).map (fun i => ((match i.zero with | some z => z.cells.size | none => 99999), i.zero.isSome, i.size, i.bytes)) = some (7, true, 7, 80) := by kernel_rfl
  exact elem_of h⟩
theorem elem26 : R.ElemT Try.prog 26 46 2 32 := ⟨Try.underlying26, by
  have h : (Try.prog.info? 46).map (fun i => ((match i.zero with | some z => z.cells.size | none => 99999), i.zero.isSome, i.size, i.bytes)) = some (2, true, 2, 32) := by kernel_rfl
  exact elem_of h⟩
theorem places28 {fs : Array Field} (h : Try.prog.underlying 28 = some (.struct fs)) : ∀ w, ((fs.mapM fun f => do pure (f.offset, ← sizeOf f.type)) : Sem (Array (Nat × Nat))).run Try.prog w = .ok #[(0, 1), (1, 1)] w := by cases h.symm.trans Try.underlying28; intro w; kernel_rfl
theorem eqv29 (x0 : Int) (x1 : Int) (y0 : Int) (y1 : Int) (o1 o2 : Operand) (w : World) : (do eqGuard .eql 29 o1 o2 (.agg [.int .i64 x0, .int .i64 x1].toArray) (.agg [.int .i64 y0, .int .i64 y1].toArray); binOp .eql 29 (.agg [.int .i64 x0, .int .i64 x1].toArray) (.agg [.int .i64 y0, .int .i64 y1].toArray) : Sem Value).run Try.prog w = .ok (.bool (((x0 == y0) && (x1 == y1)))) w := by
  have hm : Try.prog.eqGuardType Try.prog.depth 29 = false := by kernel_rfl
  rw [Sem.run_bind, run_eqGuard_agg _ _ _ _ _ _ _ hm]
  simp only [Result.andThen_ok]
  have hs29 : Try.prog.stoodInHeld 29 = false := by kernel_rfl
  by_cases h0 : (x0 == y0) = true <;> by_cases h1 : (x1 == y1) = true <;>
  go_simp
theorem nev29 (x0 : Int) (x1 : Int) (y0 : Int) (y1 : Int) (o1 o2 : Operand) (w : World) : (do eqGuard .neq 29 o1 o2 (.agg [.int .i64 x0, .int .i64 x1].toArray) (.agg [.int .i64 y0, .int .i64 y1].toArray); binOp .neq 29 (.agg [.int .i64 x0, .int .i64 x1].toArray) (.agg [.int .i64 y0, .int .i64 y1].toArray) : Sem Value).run Try.prog w = .ok (.bool (!((x0 == y0) && (x1 == y1)))) w := by
  have hm : Try.prog.eqGuardType Try.prog.depth 29 = false := by kernel_rfl
  rw [Sem.run_bind, run_eqGuard_agg _ _ _ _ _ _ _ hm]
  simp only [Result.andThen_ok]
  have hs29 : Try.prog.stoodInHeld 29 = false := by kernel_rfl
  by_cases h0 : (x0 == y0) = true <;> by_cases h1 : (x1 == y1) = true <;>
  go_simp
theorem places29 {fs : Array Field} (h : Try.prog.underlying 29 = some (.struct fs)) : ∀ w, ((fs.mapM fun f => do pure (f.offset, ← sizeOf f.type)) : Sem (Array (Nat × Nat))).run Try.prog w = .ok #[(0, 1), (1, 1)] w := by cases h.symm.trans Try.underlying29; intro w; kernel_rfl
theorem elem30 : R.ElemT Try.prog 30 49 3 32 := ⟨Try.underlying30, by
  have h : (Try.prog.info? 49).map (fun i => ((match i.zero with | some z => z.cells.size | none => 99999), i.zero.isSome, i.size, i.bytes)) = some (3, true, 3, 32) := by kernel_rfl
  exact elem_of h⟩
theorem places31 {fs : Array Field} (h : Try.prog.underlying 31 = some (.struct fs)) : ∀ w, ((fs.mapM fun f => do pure (f.offset, ← sizeOf f.type)) : Sem (Array (Nat × Nat))).run Try.prog w = .ok #[(0, 1), (1, 1), (2, 1), (3, 1), (4, 1), (5, 1), (6, 1)] w := by cases h.symm.trans Try.underlying31; intro w; kernel_rfl
theorem places32 {fs : Array Field} (h : Try.prog.underlying 32 = some (.struct fs)) : ∀ w, ((fs.mapM fun f => do pure (f.offset, ← sizeOf f.type)) : Sem (Array (Nat × Nat))).run Try.prog w = .ok #[(0, 1), (1, 1), (2, 1), (3, 1), (4, 1), (5, 1), (6, 1)] w := by cases h.symm.trans Try.underlying32; intro w; kernel_rfl
theorem places33 {fs : Array Field} (h : Try.prog.underlying 33 = some (.struct fs)) : ∀ w, ((fs.mapM fun f => do pure (f.offset, ← sizeOf f.type)) : Sem (Array (Nat × Nat))).run Try.prog w = .ok #[(0, 1), (1, 1), (2, 1), (3, 2), (5, 1)] w := by cases h.symm.trans Try.underlying33; intro w; kernel_rfl
theorem places34 {fs : Array Field} (h : Try.prog.underlying 34 = some (.struct fs)) : ∀ w, ((fs.mapM fun f => do pure (f.offset, ← sizeOf f.type)) : Sem (Array (Nat × Nat))).run Try.prog w = .ok #[(0, 1), (1, 1), (2, 1), (3, 2), (5, 1)] w := by cases h.symm.trans Try.underlying34; intro w; kernel_rfl
theorem places45 {fs : Array Field} (h : Try.prog.underlying 45 = some (.struct fs)) : ∀ w, ((fs.mapM fun f => do pure (f.offset, ← sizeOf f.type)) : Sem (Array (Nat × Nat))).run Try.prog w = .ok #[(0, 1), (1, 1)] w := by cases h.symm.trans Try.underlying45; intro w; kernel_rfl
theorem places46 {fs : Array Field} (h : Try.prog.underlying 46 = some (.struct fs)) : ∀ w, ((fs.mapM fun f => do pure (f.offset, ← sizeOf f.type)) : Sem (Array (Nat × Nat))).run Try.prog w = .ok #[(0, 1), (1, 1)] w := by cases h.symm.trans Try.underlying46; intro w; kernel_rfl
theorem places48 {fs : Array Field} (h : Try.prog.underlying 48 = some (.struct fs)) : ∀ w, ((fs.mapM fun f => do pure (f.offset, ← sizeOf f.type)) : Sem (Array (Nat × Nat))).run Try.prog w = .ok #[(0, 1), (1, 2)] w := by cases h.symm.trans Try.underlying48; intro w; kernel_rfl
theorem eqv49 (x0 : ByteArray) (x1 : Int) (x2 : Int) (y0 : ByteArray) (y1 : Int) (y2 : Int) (o1 o2 : Operand) (w : World) : (do eqGuard .eql 49 o1 o2 (.agg [.string x0, .int .i64 x1, .int .i64 x2].toArray) (.agg [.string y0, .int .i64 y1, .int .i64 y2].toArray); binOp .eql 49 (.agg [.string x0, .int .i64 x1, .int .i64 x2].toArray) (.agg [.string y0, .int .i64 y1, .int .i64 y2].toArray) : Sem Value).run Try.prog w = .ok (.bool (((x0.toList == y0.toList) && ((x1 == y1) && (x2 == y2))))) w := by
  have hm : Try.prog.eqGuardType Try.prog.depth 49 = false := by kernel_rfl
  rw [Sem.run_bind, run_eqGuard_agg _ _ _ _ _ _ _ hm]
  simp only [Result.andThen_ok]
  have hs29 : Try.prog.stoodInHeld 29 = false := by kernel_rfl
  have hs49 : Try.prog.stoodInHeld 49 = false := by kernel_rfl
  by_cases h0 : (x0.toList == y0.toList) = true <;> by_cases h1 : (x1 == y1) = true <;> by_cases h2 : (x2 == y2) = true <;>
  go_simp
theorem nev49 (x0 : ByteArray) (x1 : Int) (x2 : Int) (y0 : ByteArray) (y1 : Int) (y2 : Int) (o1 o2 : Operand) (w : World) : (do eqGuard .neq 49 o1 o2 (.agg [.string x0, .int .i64 x1, .int .i64 x2].toArray) (.agg [.string y0, .int .i64 y1, .int .i64 y2].toArray); binOp .neq 49 (.agg [.string x0, .int .i64 x1, .int .i64 x2].toArray) (.agg [.string y0, .int .i64 y1, .int .i64 y2].toArray) : Sem Value).run Try.prog w = .ok (.bool (!((x0.toList == y0.toList) && ((x1 == y1) && (x2 == y2))))) w := by
  have hm : Try.prog.eqGuardType Try.prog.depth 49 = false := by kernel_rfl
  rw [Sem.run_bind, run_eqGuard_agg _ _ _ _ _ _ _ hm]
  simp only [Result.andThen_ok]
  have hs29 : Try.prog.stoodInHeld 29 = false := by kernel_rfl
  have hs49 : Try.prog.stoodInHeld 49 = false := by kernel_rfl
  by_cases h0 : (x0.toList == y0.toList) = true <;> by_cases h1 : (x1 == y1) = true <;> by_cases h2 : (x2 == y2) = true <;>
  go_simp
theorem places49 {fs : Array Field} (h : Try.prog.underlying 49 = some (.struct fs)) : ∀ w, ((fs.mapM fun f => do pure (f.offset, ← sizeOf f.type)) : Sem (Array (Nat × Nat))).run Try.prog w = .ok #[(0, 1), (1, 2)] w := by cases h.symm.trans Try.underlying49; intro w; kernel_rfl
theorem places55 {fs : Array Field} (h : Try.prog.underlying 55 = some (.struct fs)) : ∀ w, ((fs.mapM fun f => do pure (f.offset, ← sizeOf f.type)) : Sem (Array (Nat × Nat))).run Try.prog w = .ok #[(0, 1)] w := by cases h.symm.trans Try.underlying55; intro w; kernel_rfl
theorem places56 {fs : Array Field} (h : Try.prog.underlying 56 = some (.struct fs)) : ∀ w, ((fs.mapM fun f => do pure (f.offset, ← sizeOf f.type)) : Sem (Array (Nat × Nat))).run Try.prog w = .ok #[(0, 1)] w := by cases h.symm.trans Try.underlying56; intro w; kernel_rfl
theorem elem57 : R.ElemT Try.prog 57 34 6 80 := ⟨Try.underlying57, by
  have h : (Try.prog.info? 34).map (fun i => ((match i.zero with | some z => z.cells.size | none => 99999), i.zero.isSome, i.size, i.bytes)) = some (6, true, 6, 80) := by kernel_rfl
  exact elem_of h⟩
theorem places58 {fs : Array Field} (h : Try.prog.underlying 58 = some (.struct fs)) : ∀ w, ((fs.mapM fun f => do pure (f.offset, ← sizeOf f.type)) : Sem (Array (Nat × Nat))).run Try.prog w = .ok #[(0, 1), (1, 1), (2, 1), (3, 2)] w := by cases h.symm.trans Try.underlying58; intro w; kernel_rfl
theorem places59 {fs : Array Field} (h : Try.prog.underlying 59 = some (.struct fs)) : ∀ w, ((fs.mapM fun f => do pure (f.offset, ← sizeOf f.type)) : Sem (Array (Nat × Nat))).run Try.prog w = .ok #[(0, 1), (1, 1), (2, 1), (3, 2)] w := by cases h.symm.trans Try.underlying59; intro w; kernel_rfl
theorem elem66 : R.ElemT Try.prog 66 5 1 1 := ⟨Try.underlying66, by
  have h : (Try.prog.info? 5).map (fun i => ((match i.zero with | some z => z.cells.size | none => 99999), i.zero.isSome, i.size, i.bytes)) = some (1, true, 1, 1) := by kernel_rfl
  exact elem_of h⟩
theorem places77 {fs : Array Field} (h : Try.prog.underlying 77 = some (.struct fs)) : ∀ w, ((fs.mapM fun f => do pure (f.offset, ← sizeOf f.type)) : Sem (Array (Nat × Nat))).run Try.prog w = .ok #[(0, 1), (1, 1)] w := by cases h.symm.trans Try.underlying77; intro w; kernel_rfl
theorem places78 {fs : Array Field} (h : Try.prog.underlying 78 = some (.struct fs)) : ∀ w, ((fs.mapM fun f => do pure (f.offset, ← sizeOf f.type)) : Sem (Array (Nat × Nat))).run Try.prog w = .ok #[(0, 1), (1, 1)] w := by cases h.symm.trans Try.underlying78; intro w; kernel_rfl
theorem elem80 : R.ElemT Try.prog 80 29 2 16 := ⟨Try.underlying80, by
  have h : (Try.prog.info? 29).map (fun i => ((match i.zero with | some z => z.cells.size | none => 99999), i.zero.isSome, i.size, i.bytes)) = some (2, true, 2, 16) := by kernel_rfl
  exact elem_of h⟩
theorem elem98 : R.ElemT Try.prog 98 9 1 16 := ⟨Try.underlying98, by
  have h : (Try.prog.info? 9).map (fun i => ((match i.zero with | some z => z.cells.size | none => 99999), i.zero.isSome, i.size, i.bytes)) = some (1, true, 1, 16) := by kernel_rfl
  exact elem_of h⟩
theorem places147 {fs : Array Field} (h : Try.prog.underlying 147 = some (.struct fs)) : ∀ w, ((fs.mapM fun f => do pure (f.offset, ← sizeOf f.type)) : Sem (Array (Nat × Nat))).run Try.prog w = .ok #[(0, 1), (1, 1), (2, 1), (3, 1)] w := by cases h.symm.trans Try.underlying147; intro w; kernel_rfl
theorem places148 {fs : Array Field} (h : Try.prog.underlying 148 = some (.struct fs)) : ∀ w, ((fs.mapM fun f => do pure (f.offset, ← sizeOf f.type)) : Sem (Array (Nat × Nat))).run Try.prog w = .ok #[(0, 1), (1, 1), (2, 1), (3, 1)] w := by cases h.symm.trans Try.underlying148; intro w; kernel_rfl
theorem places150 {fs : Array Field} (h : Try.prog.underlying 150 = some (.struct fs)) : ∀ w, ((fs.mapM fun f => do pure (f.offset, ← sizeOf f.type)) : Sem (Array (Nat × Nat))).run Try.prog w = .ok #[(0, 0)] w := by cases h.symm.trans Try.underlying150; intro w; kernel_rfl
theorem places151 {fs : Array Field} (h : Try.prog.underlying 151 = some (.struct fs)) : ∀ w, ((fs.mapM fun f => do pure (f.offset, ← sizeOf f.type)) : Sem (Array (Nat × Nat))).run Try.prog w = .ok #[(0, 0)] w := by cases h.symm.trans Try.underlying151; intro w; kernel_rfl
theorem places158 {fs : Array Field} (h : Try.prog.underlying 158 = some (.struct fs)) : ∀ w, ((fs.mapM fun f => do pure (f.offset, ← sizeOf f.type)) : Sem (Array (Nat × Nat))).run Try.prog w = .ok #[(0, 1), (1, 1), (2, 1), (3, 1), (4, 1), (5, 1), (6, 1), (7, 1), (8, 1), (9, 1), (10, 1)] w := by cases h.symm.trans Try.underlying158; intro w; kernel_rfl
theorem places159 {fs : Array Field} (h : Try.prog.underlying 159 = some (.struct fs)) : ∀ w, ((fs.mapM fun f => do pure (f.offset, ← sizeOf f.type)) : Sem (Array (Nat × Nat))).run Try.prog w = .ok #[(0, 1), (1, 1), (2, 1), (3, 1), (4, 1), (5, 1), (6, 1), (7, 1), (8, 1), (9, 1), (10, 1)] w := by cases h.symm.trans Try.underlying159; intro w; kernel_rfl
end Go.Proofs.Ytmbaeloiepjakaa
