/- The seat's types: elements of slices, places of fields. -/
import Derived.Test.YtmbaeloiepjakaaGreatAB
import Derived.Test.YtmbaeloiepjakaaGreatProg
set_option linter.unusedSimpArgs false
set_option linter.unusedVariables false
namespace Go.Proofs.YtmbaeloiepjakaaGreat
open Go.RowKit A
theorem places7 {fs : Array Field} (h : Tryz.prog.underlying 7 = some (.struct fs)) : ∀ w, ((fs.mapM fun f => do pure (f.offset, ← sizeOf f.type)) : Sem (Array (Nat × Nat))).run Tryz.prog w = .ok #[(0, 1), (1, 1), (2, 1), (3, 1)] w := by cases h.symm.trans Tryz.underlying7; intro w; kernel_rfl
theorem places8 {fs : Array Field} (h : Tryz.prog.underlying 8 = some (.struct fs)) : ∀ w, ((fs.mapM fun f => do pure (f.offset, ← sizeOf f.type)) : Sem (Array (Nat × Nat))).run Tryz.prog w = .ok #[(0, 1), (1, 1), (2, 1), (3, 1)] w := by cases h.symm.trans Tryz.underlying8; intro w; kernel_rfl
theorem places13 {fs : Array Field} (h : Tryz.prog.underlying 13 = some (.struct fs)) : ∀ w, ((fs.mapM fun f => do pure (f.offset, ← sizeOf f.type)) : Sem (Array (Nat × Nat))).run Tryz.prog w = .ok #[(0, 1), (1, 1)] w := by cases h.symm.trans Tryz.underlying13; intro w; kernel_rfl
theorem places14 {fs : Array Field} (h : Tryz.prog.underlying 14 = some (.struct fs)) : ∀ w, ((fs.mapM fun f => do pure (f.offset, ← sizeOf f.type)) : Sem (Array (Nat × Nat))).run Tryz.prog w = .ok #[(0, 1), (1, 1)] w := by cases h.symm.trans Tryz.underlying14; intro w; kernel_rfl
theorem places18 {fs : Array Field} (h : Tryz.prog.underlying 18 = some (.struct fs)) : ∀ w, ((fs.mapM fun f => do pure (f.offset, ← sizeOf f.type)) : Sem (Array (Nat × Nat))).run Tryz.prog w = .ok #[(0, 1)] w := by cases h.symm.trans Tryz.underlying18; intro w; kernel_rfl
theorem places19 {fs : Array Field} (h : Tryz.prog.underlying 19 = some (.struct fs)) : ∀ w, ((fs.mapM fun f => do pure (f.offset, ← sizeOf f.type)) : Sem (Array (Nat × Nat))).run Tryz.prog w = .ok #[(0, 1)] w := by cases h.symm.trans Tryz.underlying19; intro w; kernel_rfl
theorem elem22 : R.ElemT Tryz.prog 22 36 7 80 := ⟨Tryz.underlying22, by
  have h : (Tryz.prog.info? 36).map (fun i => ((match i.zero with | some z => z.cells.size | none => 99999), i.zero.isSome, i.size, i.bytes)) = some (7, true, 7, 80) := by kernel_rfl
  exact elem_of h⟩
theorem elem26 : R.ElemT Tryz.prog 26 49 2 32 := ⟨Tryz.underlying26, by
  have h : (Tryz.prog.info? 49).map (fun i => ((match i.zero with | some z => z.cells.size | none => 99999), i.zero.isSome, i.size, i.bytes)) = some (2, true, 2, 32) := by kernel_rfl
  exact elem_of h⟩
theorem places30 {fs : Array Field} (h : Tryz.prog.underlying 30 = some (.struct fs)) : ∀ w, ((fs.mapM fun f => do pure (f.offset, ← sizeOf f.type)) : Sem (Array (Nat × Nat))).run Tryz.prog w = .ok #[(0, 1), (1, 1)] w := by cases h.symm.trans Tryz.underlying30; intro w; kernel_rfl
theorem eqv31 (x0 : Int) (x1 : Int) (y0 : Int) (y1 : Int) (o1 o2 : Operand) (w : World) : (do eqGuard .eql 31 o1 o2 (.agg [.int .i64 x0, .int .i64 x1].toArray) (.agg [.int .i64 y0, .int .i64 y1].toArray); binOp .eql 31 (.agg [.int .i64 x0, .int .i64 x1].toArray) (.agg [.int .i64 y0, .int .i64 y1].toArray) : Sem Value).run Tryz.prog w = .ok (.bool (((x0 == y0) && (x1 == y1)))) w := by
  have hm : Tryz.prog.eqGuardType Tryz.prog.depth 31 = false := by kernel_rfl
  rw [Sem.run_bind, run_eqGuard_agg _ _ _ _ _ _ _ hm]
  simp only [Result.andThen_ok]
  have hs31 : Tryz.prog.stoodInHeld 31 = false := by kernel_rfl
  by_cases h0 : (x0 == y0) = true <;> by_cases h1 : (x1 == y1) = true <;>
  go_simp
theorem nev31 (x0 : Int) (x1 : Int) (y0 : Int) (y1 : Int) (o1 o2 : Operand) (w : World) : (do eqGuard .neq 31 o1 o2 (.agg [.int .i64 x0, .int .i64 x1].toArray) (.agg [.int .i64 y0, .int .i64 y1].toArray); binOp .neq 31 (.agg [.int .i64 x0, .int .i64 x1].toArray) (.agg [.int .i64 y0, .int .i64 y1].toArray) : Sem Value).run Tryz.prog w = .ok (.bool (!((x0 == y0) && (x1 == y1)))) w := by
  have hm : Tryz.prog.eqGuardType Tryz.prog.depth 31 = false := by kernel_rfl
  rw [Sem.run_bind, run_eqGuard_agg _ _ _ _ _ _ _ hm]
  simp only [Result.andThen_ok]
  have hs31 : Tryz.prog.stoodInHeld 31 = false := by kernel_rfl
  by_cases h0 : (x0 == y0) = true <;> by_cases h1 : (x1 == y1) = true <;>
  go_simp
theorem places31 {fs : Array Field} (h : Tryz.prog.underlying 31 = some (.struct fs)) : ∀ w, ((fs.mapM fun f => do pure (f.offset, ← sizeOf f.type)) : Sem (Array (Nat × Nat))).run Tryz.prog w = .ok #[(0, 1), (1, 1)] w := by cases h.symm.trans Tryz.underlying31; intro w; kernel_rfl
theorem elem32 : R.ElemT Tryz.prog 32 59 3 32 := ⟨Tryz.underlying32, by
  have h : (Tryz.prog.info? 59).map (fun i => ((match i.zero with | some z => z.cells.size | none => 99999), i.zero.isSome, i.size, i.bytes)) = some (3, true, 3, 32) := by kernel_rfl
  exact elem_of h⟩
theorem places33 {fs : Array Field} (h : Tryz.prog.underlying 33 = some (.struct fs)) : ∀ w, ((fs.mapM fun f => do pure (f.offset, ← sizeOf f.type)) : Sem (Array (Nat × Nat))).run Tryz.prog w = .ok #[(0, 1), (1, 1), (2, 1), (3, 2), (5, 1)] w := by cases h.symm.trans Tryz.underlying33; intro w; kernel_rfl
theorem places34 {fs : Array Field} (h : Tryz.prog.underlying 34 = some (.struct fs)) : ∀ w, ((fs.mapM fun f => do pure (f.offset, ← sizeOf f.type)) : Sem (Array (Nat × Nat))).run Tryz.prog w = .ok #[(0, 1), (1, 1), (2, 1), (3, 2), (5, 1)] w := by cases h.symm.trans Tryz.underlying34; intro w; kernel_rfl
theorem places35 {fs : Array Field} (h : Tryz.prog.underlying 35 = some (.struct fs)) : ∀ w, ((fs.mapM fun f => do pure (f.offset, ← sizeOf f.type)) : Sem (Array (Nat × Nat))).run Tryz.prog w = .ok #[(0, 1), (1, 1), (2, 1), (3, 1), (4, 1), (5, 1), (6, 1)] w := by cases h.symm.trans Tryz.underlying35; intro w; kernel_rfl
theorem places36 {fs : Array Field} (h : Tryz.prog.underlying 36 = some (.struct fs)) : ∀ w, ((fs.mapM fun f => do pure (f.offset, ← sizeOf f.type)) : Sem (Array (Nat × Nat))).run Tryz.prog w = .ok #[(0, 1), (1, 1), (2, 1), (3, 1), (4, 1), (5, 1), (6, 1)] w := by cases h.symm.trans Tryz.underlying36; intro w; kernel_rfl
theorem places48 {fs : Array Field} (h : Tryz.prog.underlying 48 = some (.struct fs)) : ∀ w, ((fs.mapM fun f => do pure (f.offset, ← sizeOf f.type)) : Sem (Array (Nat × Nat))).run Tryz.prog w = .ok #[(0, 1), (1, 1)] w := by cases h.symm.trans Tryz.underlying48; intro w; kernel_rfl
theorem eqv49 (x0 : ByteArray) (x1 : ByteArray) (y0 : ByteArray) (y1 : ByteArray) (o1 o2 : Operand) (w : World) : (do eqGuard .eql 49 o1 o2 (.agg [.string x0, .string x1].toArray) (.agg [.string y0, .string y1].toArray); binOp .eql 49 (.agg [.string x0, .string x1].toArray) (.agg [.string y0, .string y1].toArray) : Sem Value).run Tryz.prog w = .ok (.bool (((x0.toList == y0.toList) && (x1.toList == y1.toList)))) w := by
  have hm : Tryz.prog.eqGuardType Tryz.prog.depth 49 = false := by kernel_rfl
  rw [Sem.run_bind, run_eqGuard_agg _ _ _ _ _ _ _ hm]
  simp only [Result.andThen_ok]
  have hs49 : Tryz.prog.stoodInHeld 49 = false := by kernel_rfl
  by_cases h0 : (x0.toList == y0.toList) = true <;> by_cases h1 : (x1.toList == y1.toList) = true <;>
  go_simp
theorem nev49 (x0 : ByteArray) (x1 : ByteArray) (y0 : ByteArray) (y1 : ByteArray) (o1 o2 : Operand) (w : World) : (do eqGuard .neq 49 o1 o2 (.agg [.string x0, .string x1].toArray) (.agg [.string y0, .string y1].toArray); binOp .neq 49 (.agg [.string x0, .string x1].toArray) (.agg [.string y0, .string y1].toArray) : Sem Value).run Tryz.prog w = .ok (.bool (!((x0.toList == y0.toList) && (x1.toList == y1.toList)))) w := by
  have hm : Tryz.prog.eqGuardType Tryz.prog.depth 49 = false := by kernel_rfl
  rw [Sem.run_bind, run_eqGuard_agg _ _ _ _ _ _ _ hm]
  simp only [Result.andThen_ok]
  have hs49 : Tryz.prog.stoodInHeld 49 = false := by kernel_rfl
  by_cases h0 : (x0.toList == y0.toList) = true <;> by_cases h1 : (x1.toList == y1.toList) = true <;>
  go_simp
theorem places49 {fs : Array Field} (h : Tryz.prog.underlying 49 = some (.struct fs)) : ∀ w, ((fs.mapM fun f => do pure (f.offset, ← sizeOf f.type)) : Sem (Array (Nat × Nat))).run Tryz.prog w = .ok #[(0, 1), (1, 1)] w := by cases h.symm.trans Tryz.underlying49; intro w; kernel_rfl
theorem places58 {fs : Array Field} (h : Tryz.prog.underlying 58 = some (.struct fs)) : ∀ w, ((fs.mapM fun f => do pure (f.offset, ← sizeOf f.type)) : Sem (Array (Nat × Nat))).run Tryz.prog w = .ok #[(0, 1), (1, 2)] w := by cases h.symm.trans Tryz.underlying58; intro w; kernel_rfl
theorem eqv59 (x0 : ByteArray) (x1 : Int) (x2 : Int) (y0 : ByteArray) (y1 : Int) (y2 : Int) (o1 o2 : Operand) (w : World) : (do eqGuard .eql 59 o1 o2 (.agg [.string x0, .int .i64 x1, .int .i64 x2].toArray) (.agg [.string y0, .int .i64 y1, .int .i64 y2].toArray); binOp .eql 59 (.agg [.string x0, .int .i64 x1, .int .i64 x2].toArray) (.agg [.string y0, .int .i64 y1, .int .i64 y2].toArray) : Sem Value).run Tryz.prog w = .ok (.bool (((x0.toList == y0.toList) && ((x1 == y1) && (x2 == y2))))) w := by
  have hm : Tryz.prog.eqGuardType Tryz.prog.depth 59 = false := by kernel_rfl
  rw [Sem.run_bind, run_eqGuard_agg _ _ _ _ _ _ _ hm]
  simp only [Result.andThen_ok]
  have hs31 : Tryz.prog.stoodInHeld 31 = false := by kernel_rfl
  have hs59 : Tryz.prog.stoodInHeld 59 = false := by kernel_rfl
  by_cases h0 : (x0.toList == y0.toList) = true <;> by_cases h1 : (x1 == y1) = true <;> by_cases h2 : (x2 == y2) = true <;>
  go_simp
theorem nev59 (x0 : ByteArray) (x1 : Int) (x2 : Int) (y0 : ByteArray) (y1 : Int) (y2 : Int) (o1 o2 : Operand) (w : World) : (do eqGuard .neq 59 o1 o2 (.agg [.string x0, .int .i64 x1, .int .i64 x2].toArray) (.agg [.string y0, .int .i64 y1, .int .i64 y2].toArray); binOp .neq 59 (.agg [.string x0, .int .i64 x1, .int .i64 x2].toArray) (.agg [.string y0, .int .i64 y1, .int .i64 y2].toArray) : Sem Value).run Tryz.prog w = .ok (.bool (!((x0.toList == y0.toList) && ((x1 == y1) && (x2 == y2))))) w := by
  have hm : Tryz.prog.eqGuardType Tryz.prog.depth 59 = false := by kernel_rfl
  rw [Sem.run_bind, run_eqGuard_agg _ _ _ _ _ _ _ hm]
  simp only [Result.andThen_ok]
  have hs31 : Tryz.prog.stoodInHeld 31 = false := by kernel_rfl
  have hs59 : Tryz.prog.stoodInHeld 59 = false := by kernel_rfl
  by_cases h0 : (x0.toList == y0.toList) = true <;> by_cases h1 : (x1 == y1) = true <;> by_cases h2 : (x2 == y2) = true <;>
  go_simp
theorem places59 {fs : Array Field} (h : Tryz.prog.underlying 59 = some (.struct fs)) : ∀ w, ((fs.mapM fun f => do pure (f.offset, ← sizeOf f.type)) : Sem (Array (Nat × Nat))).run Tryz.prog w = .ok #[(0, 1), (1, 2)] w := by cases h.symm.trans Tryz.underlying59; intro w; kernel_rfl
theorem elem65 : R.ElemT Tryz.prog 65 34 6 80 := ⟨Tryz.underlying65, by
  have h : (Tryz.prog.info? 34).map (fun i => ((match i.zero with | some z => z.cells.size | none => 99999), i.zero.isSome, i.size, i.bytes)) = some (6, true, 6, 80) := by kernel_rfl
  exact elem_of h⟩
theorem places67 {fs : Array Field} (h : Tryz.prog.underlying 67 = some (.struct fs)) : ∀ w, ((fs.mapM fun f => do pure (f.offset, ← sizeOf f.type)) : Sem (Array (Nat × Nat))).run Tryz.prog w = .ok #[(0, 1), (1, 1), (2, 1), (3, 2)] w := by cases h.symm.trans Tryz.underlying67; intro w; kernel_rfl
theorem places68 {fs : Array Field} (h : Tryz.prog.underlying 68 = some (.struct fs)) : ∀ w, ((fs.mapM fun f => do pure (f.offset, ← sizeOf f.type)) : Sem (Array (Nat × Nat))).run Tryz.prog w = .ok #[(0, 1), (1, 1), (2, 1), (3, 2)] w := by cases h.symm.trans Tryz.underlying68; intro w; kernel_rfl
theorem elem74 : R.ElemT Tryz.prog 74 108 2 40 := ⟨Tryz.underlying74, by
  have h : (Tryz.prog.info? 108).map (fun i => ((match i.zero with | some z => z.cells.size | none => 99999), i.zero.isSome, i.size, i.bytes)) = some (2, true, 2, 40) := by kernel_rfl
  exact elem_of h⟩
theorem places75 {fs : Array Field} (h : Tryz.prog.underlying 75 = some (.struct fs)) : ∀ w, ((fs.mapM fun f => do pure (f.offset, ← sizeOf f.type)) : Sem (Array (Nat × Nat))).run Tryz.prog w = .ok #[(0, 1), (1, 1)] w := by cases h.symm.trans Tryz.underlying75; intro w; kernel_rfl
theorem places76 {fs : Array Field} (h : Tryz.prog.underlying 76 = some (.struct fs)) : ∀ w, ((fs.mapM fun f => do pure (f.offset, ← sizeOf f.type)) : Sem (Array (Nat × Nat))).run Tryz.prog w = .ok #[(0, 1), (1, 1)] w := by cases h.symm.trans Tryz.underlying76; intro w; kernel_rfl
theorem places81 {fs : Array Field} (h : Tryz.prog.underlying 81 = some (.struct fs)) : ∀ w, ((fs.mapM fun f => do pure (f.offset, ← sizeOf f.type)) : Sem (Array (Nat × Nat))).run Tryz.prog w = .ok #[(0, 1)] w := by cases h.symm.trans Tryz.underlying81; intro w; kernel_rfl
theorem places82 {fs : Array Field} (h : Tryz.prog.underlying 82 = some (.struct fs)) : ∀ w, ((fs.mapM fun f => do pure (f.offset, ← sizeOf f.type)) : Sem (Array (Nat × Nat))).run Tryz.prog w = .ok #[(0, 1)] w := by cases h.symm.trans Tryz.underlying82; intro w; kernel_rfl
theorem places83 {fs : Array Field} (h : Tryz.prog.underlying 83 = some (.struct fs)) : ∀ w, ((fs.mapM fun f => do pure (f.offset, ← sizeOf f.type)) : Sem (Array (Nat × Nat))).run Tryz.prog w = .ok #[(0, 1), (1, 1), (2, 1), (3, 2)] w := by cases h.symm.trans Tryz.underlying83; intro w; kernel_rfl
theorem places84 {fs : Array Field} (h : Tryz.prog.underlying 84 = some (.struct fs)) : ∀ w, ((fs.mapM fun f => do pure (f.offset, ← sizeOf f.type)) : Sem (Array (Nat × Nat))).run Tryz.prog w = .ok #[(0, 1), (1, 1), (2, 1), (3, 2)] w := by cases h.symm.trans Tryz.underlying84; intro w; kernel_rfl
theorem elem97 : R.ElemT Tryz.prog 97 5 1 1 := ⟨Tryz.underlying97, by
  have h : (Tryz.prog.info? 5).map (fun i => ((match i.zero with | some z => z.cells.size | none => 99999), i.zero.isSome, i.size, i.bytes)) = some (1, true, 1, 1) := by kernel_rfl
  exact elem_of h⟩
theorem elem101 : R.ElemT Tryz.prog 101 31 2 16 := ⟨Tryz.underlying101, by
  have h : (Tryz.prog.info? 31).map (fun i => ((match i.zero with | some z => z.cells.size | none => 99999), i.zero.isSome, i.size, i.bytes)) = some (2, true, 2, 16) := by kernel_rfl
  exact elem_of h⟩
theorem places102 {fs : Array Field} (h : Tryz.prog.underlying 102 = some (.struct fs)) : ∀ w, ((fs.mapM fun f => do pure (f.offset, ← sizeOf f.type)) : Sem (Array (Nat × Nat))).run Tryz.prog w = .ok #[(0, 6), (6, 1), (7, 1)] w := by cases h.symm.trans Tryz.underlying102; intro w; kernel_rfl
theorem places103 {fs : Array Field} (h : Tryz.prog.underlying 103 = some (.struct fs)) : ∀ w, ((fs.mapM fun f => do pure (f.offset, ← sizeOf f.type)) : Sem (Array (Nat × Nat))).run Tryz.prog w = .ok #[(0, 6), (6, 1), (7, 1)] w := by cases h.symm.trans Tryz.underlying103; intro w; kernel_rfl
theorem places107 {fs : Array Field} (h : Tryz.prog.underlying 107 = some (.struct fs)) : ∀ w, ((fs.mapM fun f => do pure (f.offset, ← sizeOf f.type)) : Sem (Array (Nat × Nat))).run Tryz.prog w = .ok #[(0, 1), (1, 1)] w := by cases h.symm.trans Tryz.underlying107; intro w; kernel_rfl
theorem places108 {fs : Array Field} (h : Tryz.prog.underlying 108 = some (.struct fs)) : ∀ w, ((fs.mapM fun f => do pure (f.offset, ← sizeOf f.type)) : Sem (Array (Nat × Nat))).run Tryz.prog w = .ok #[(0, 1), (1, 1)] w := by cases h.symm.trans Tryz.underlying108; intro w; kernel_rfl
theorem places114 {fs : Array Field} (h : Tryz.prog.underlying 114 = some (.struct fs)) : ∀ w, ((fs.mapM fun f => do pure (f.offset, ← sizeOf f.type)) : Sem (Array (Nat × Nat))).run Tryz.prog w = .ok #[(0, 1), (1, 1)] w := by cases h.symm.trans Tryz.underlying114; intro w; kernel_rfl
theorem places115 {fs : Array Field} (h : Tryz.prog.underlying 115 = some (.struct fs)) : ∀ w, ((fs.mapM fun f => do pure (f.offset, ← sizeOf f.type)) : Sem (Array (Nat × Nat))).run Tryz.prog w = .ok #[(0, 1), (1, 1)] w := by cases h.symm.trans Tryz.underlying115; intro w; kernel_rfl
theorem elem121 : R.ElemT Tryz.prog 121 9 1 16 := ⟨Tryz.underlying121, by
  have h : (Tryz.prog.info? 9).map (fun i => ((match i.zero with | some z => z.cells.size | none => 99999), i.zero.isSome, i.size, i.bytes)) = some (1, true, 1, 16) := by kernel_rfl
  exact elem_of h⟩
theorem places183 {fs : Array Field} (h : Tryz.prog.underlying 183 = some (.struct fs)) : ∀ w, ((fs.mapM fun f => do pure (f.offset, ← sizeOf f.type)) : Sem (Array (Nat × Nat))).run Tryz.prog w = .ok #[(0, 1), (1, 1), (2, 1), (3, 1)] w := by cases h.symm.trans Tryz.underlying183; intro w; kernel_rfl
theorem places184 {fs : Array Field} (h : Tryz.prog.underlying 184 = some (.struct fs)) : ∀ w, ((fs.mapM fun f => do pure (f.offset, ← sizeOf f.type)) : Sem (Array (Nat × Nat))).run Tryz.prog w = .ok #[(0, 1), (1, 1), (2, 1), (3, 1)] w := by cases h.symm.trans Tryz.underlying184; intro w; kernel_rfl
theorem places186 {fs : Array Field} (h : Tryz.prog.underlying 186 = some (.struct fs)) : ∀ w, ((fs.mapM fun f => do pure (f.offset, ← sizeOf f.type)) : Sem (Array (Nat × Nat))).run Tryz.prog w = .ok #[(0, 0)] w := by cases h.symm.trans Tryz.underlying186; intro w; kernel_rfl
theorem places187 {fs : Array Field} (h : Tryz.prog.underlying 187 = some (.struct fs)) : ∀ w, ((fs.mapM fun f => do pure (f.offset, ← sizeOf f.type)) : Sem (Array (Nat × Nat))).run Tryz.prog w = .ok #[(0, 0)] w := by cases h.symm.trans Tryz.underlying187; intro w; kernel_rfl
theorem places194 {fs : Array Field} (h : Tryz.prog.underlying 194 = some (.struct fs)) : ∀ w, ((fs.mapM fun f => do pure (f.offset, ← sizeOf f.type)) : Sem (Array (Nat × Nat))).run Tryz.prog w = .ok #[(0, 1), (1, 1), (2, 1), (3, 1), (4, 1), (5, 1), (6, 1), (7, 1), (8, 1), (9, 1), (10, 1)] w := by cases h.symm.trans Tryz.underlying194; intro w; kernel_rfl
theorem places195 {fs : Array Field} (h : Tryz.prog.underlying 195 = some (.struct fs)) : ∀ w, ((fs.mapM fun f => do pure (f.offset, ← sizeOf f.type)) : Sem (Array (Nat × Nat))).run Tryz.prog w = .ok #[(0, 1), (1, 1), (2, 1), (3, 1), (4, 1), (5, 1), (6, 1), (7, 1), (8, 1), (9, 1), (10, 1)] w := by cases h.symm.trans Tryz.underlying195; intro w; kernel_rfl
end Go.Proofs.YtmbaeloiepjakaaGreat
