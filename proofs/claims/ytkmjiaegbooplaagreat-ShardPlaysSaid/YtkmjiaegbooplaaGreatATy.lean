/- The seat's types: elements of slices, places of fields. -/
import Derived.Test.YtkmjiaegbooplaaGreatAB
import Derived.Test.YtkmjiaegbooplaaGreatProg
set_option linter.unusedSimpArgs false
set_option linter.unusedVariables false
namespace Go.Proofs.YtkmjiaegbooplaaGreat
open Go.RowKit A
theorem places7 {fs : Array Field} (h : Tryz.prog.underlying 7 = some (.struct fs)) : ∀ w, ((fs.mapM fun f => do pure (f.offset, ← sizeOf f.type)) : Sem (Array (Nat × Nat))).run Tryz.prog w = .ok #[(0, 1), (1, 1), (2, 1), (3, 1)] w := by cases h.symm.trans Tryz.underlying7; intro w; kernel_rfl
theorem places8 {fs : Array Field} (h : Tryz.prog.underlying 8 = some (.struct fs)) : ∀ w, ((fs.mapM fun f => do pure (f.offset, ← sizeOf f.type)) : Sem (Array (Nat × Nat))).run Tryz.prog w = .ok #[(0, 1), (1, 1), (2, 1), (3, 1)] w := by cases h.symm.trans Tryz.underlying8; intro w; kernel_rfl
theorem places13 {fs : Array Field} (h : Tryz.prog.underlying 13 = some (.struct fs)) : ∀ w, ((fs.mapM fun f => do pure (f.offset, ← sizeOf f.type)) : Sem (Array (Nat × Nat))).run Tryz.prog w = .ok #[(0, 1), (1, 1)] w := by cases h.symm.trans Tryz.underlying13; intro w; kernel_rfl
theorem places14 {fs : Array Field} (h : Tryz.prog.underlying 14 = some (.struct fs)) : ∀ w, ((fs.mapM fun f => do pure (f.offset, ← sizeOf f.type)) : Sem (Array (Nat × Nat))).run Tryz.prog w = .ok #[(0, 1), (1, 1)] w := by cases h.symm.trans Tryz.underlying14; intro w; kernel_rfl
theorem places18 {fs : Array Field} (h : Tryz.prog.underlying 18 = some (.struct fs)) : ∀ w, ((fs.mapM fun f => do pure (f.offset, ← sizeOf f.type)) : Sem (Array (Nat × Nat))).run Tryz.prog w = .ok #[(0, 1)] w := by cases h.symm.trans Tryz.underlying18; intro w; kernel_rfl
theorem places19 {fs : Array Field} (h : Tryz.prog.underlying 19 = some (.struct fs)) : ∀ w, ((fs.mapM fun f => do pure (f.offset, ← sizeOf f.type)) : Sem (Array (Nat × Nat))).run Tryz.prog w = .ok #[(0, 1)] w := by cases h.symm.trans Tryz.underlying19; intro w; kernel_rfl
theorem elem22 : R.ElemT Tryz.prog 22 40 14 152 := ⟨Tryz.underlying22, by
  have h : (Tryz.prog.info? 40).map (fun i => ((match i.zero with | some z => z.cells.size | none => 99999), i.zero.isSome, i.size, i.bytes)) = some (14, true, 14, 152) := by kernel_rfl
  exact elem_of h⟩
theorem elem26 : R.ElemT Tryz.prog 26 63 2 32 := ⟨Tryz.underlying26, by
  have h : (Tryz.prog.info? 63).map (fun i => ((match i.zero with | some z => z.cells.size | none => 99999), i.zero.isSome, i.size, i.bytes)) = some (2, true, 2, 32) := by kernel_rfl
  exact elem_of h⟩
theorem elem29 : R.ElemT Tryz.prog 29 75 2 40 := ⟨Tryz.underlying29, by
  have h : (Tryz.prog.info? 75).map (fun i => ((match i.zero with | some z => z.cells.size | none => 99999), i.zero.isSome, i.size, i.bytes)) = some (2, true, 2, 40) := by kernel_rfl
  exact elem_of h⟩
theorem places30 {fs : Array Field} (h : Tryz.prog.underlying 30 = some (.struct fs)) : ∀ w, ((fs.mapM fun f => do pure (f.offset, ← sizeOf f.type)) : Sem (Array (Nat × Nat))).run Tryz.prog w = .ok #[(0, 1), (1, 1)] w := by cases h.symm.trans Tryz.underlying30; intro w; kernel_rfl
theorem places31 {fs : Array Field} (h : Tryz.prog.underlying 31 = some (.struct fs)) : ∀ w, ((fs.mapM fun f => do pure (f.offset, ← sizeOf f.type)) : Sem (Array (Nat × Nat))).run Tryz.prog w = .ok #[(0, 1), (1, 1)] w := by cases h.symm.trans Tryz.underlying31; intro w; kernel_rfl
theorem places32 {fs : Array Field} (h : Tryz.prog.underlying 32 = some (.struct fs)) : ∀ w, ((fs.mapM fun f => do pure (f.offset, ← sizeOf f.type)) : Sem (Array (Nat × Nat))).run Tryz.prog w = .ok #[(0, 1), (1, 1)] w := by cases h.symm.trans Tryz.underlying32; intro w; kernel_rfl
theorem eqv33 (x0 : Int) (x1 : Int) (y0 : Int) (y1 : Int) (o1 o2 : Operand) (w : World) : (do eqGuard .eql 33 o1 o2 (.agg [.int .i64 x0, .int .i64 x1].toArray) (.agg [.int .i64 y0, .int .i64 y1].toArray); binOp .eql 33 (.agg [.int .i64 x0, .int .i64 x1].toArray) (.agg [.int .i64 y0, .int .i64 y1].toArray) : Sem Value).run Tryz.prog w = .ok (.bool (((x0 == y0) && (x1 == y1)))) w := by
  have hm : Tryz.prog.eqGuardType Tryz.prog.depth 33 = false := by kernel_rfl
  rw [Sem.run_bind, run_eqGuard_agg _ _ _ _ _ _ _ hm]
  simp only [Result.andThen_ok]
  have hs33 : Tryz.prog.stoodInHeld 33 = false := by kernel_rfl
  by_cases h0 : (x0 == y0) = true <;> by_cases h1 : (x1 == y1) = true <;>
  go_simp
theorem nev33 (x0 : Int) (x1 : Int) (y0 : Int) (y1 : Int) (o1 o2 : Operand) (w : World) : (do eqGuard .neq 33 o1 o2 (.agg [.int .i64 x0, .int .i64 x1].toArray) (.agg [.int .i64 y0, .int .i64 y1].toArray); binOp .neq 33 (.agg [.int .i64 x0, .int .i64 x1].toArray) (.agg [.int .i64 y0, .int .i64 y1].toArray) : Sem Value).run Tryz.prog w = .ok (.bool (!((x0 == y0) && (x1 == y1)))) w := by
  have hm : Tryz.prog.eqGuardType Tryz.prog.depth 33 = false := by kernel_rfl
  rw [Sem.run_bind, run_eqGuard_agg _ _ _ _ _ _ _ hm]
  simp only [Result.andThen_ok]
  have hs33 : Tryz.prog.stoodInHeld 33 = false := by kernel_rfl
  by_cases h0 : (x0 == y0) = true <;> by_cases h1 : (x1 == y1) = true <;>
  go_simp
theorem places33 {fs : Array Field} (h : Tryz.prog.underlying 33 = some (.struct fs)) : ∀ w, ((fs.mapM fun f => do pure (f.offset, ← sizeOf f.type)) : Sem (Array (Nat × Nat))).run Tryz.prog w = .ok #[(0, 1), (1, 1)] w := by cases h.symm.trans Tryz.underlying33; intro w; kernel_rfl
theorem elem34 : R.ElemT Tryz.prog 34 38 3 32 := ⟨Tryz.underlying34, by
  have h : (Tryz.prog.info? 38).map (fun i => ((match i.zero with | some z => z.cells.size | none => 99999), i.zero.isSome, i.size, i.bytes)) = some (3, true, 3, 32) := by kernel_rfl
  exact elem_of h⟩
theorem places35 {fs : Array Field} (h : Tryz.prog.underlying 35 = some (.struct fs)) : ∀ w, ((fs.mapM fun f => do pure (f.offset, ← sizeOf f.type)) : Sem (Array (Nat × Nat))).run Tryz.prog w = .ok #[(0, 1), (1, 1), (2, 1), (3, 2), (5, 1)] w := by cases h.symm.trans Tryz.underlying35; intro w; kernel_rfl
theorem places36 {fs : Array Field} (h : Tryz.prog.underlying 36 = some (.struct fs)) : ∀ w, ((fs.mapM fun f => do pure (f.offset, ← sizeOf f.type)) : Sem (Array (Nat × Nat))).run Tryz.prog w = .ok #[(0, 1), (1, 1), (2, 1), (3, 2), (5, 1)] w := by cases h.symm.trans Tryz.underlying36; intro w; kernel_rfl
theorem places37 {fs : Array Field} (h : Tryz.prog.underlying 37 = some (.struct fs)) : ∀ w, ((fs.mapM fun f => do pure (f.offset, ← sizeOf f.type)) : Sem (Array (Nat × Nat))).run Tryz.prog w = .ok #[(0, 1), (1, 2)] w := by cases h.symm.trans Tryz.underlying37; intro w; kernel_rfl
theorem eqv38 (x0 : ByteArray) (x1 : Int) (x2 : Int) (y0 : ByteArray) (y1 : Int) (y2 : Int) (o1 o2 : Operand) (w : World) : (do eqGuard .eql 38 o1 o2 (.agg [.string x0, .int .i64 x1, .int .i64 x2].toArray) (.agg [.string y0, .int .i64 y1, .int .i64 y2].toArray); binOp .eql 38 (.agg [.string x0, .int .i64 x1, .int .i64 x2].toArray) (.agg [.string y0, .int .i64 y1, .int .i64 y2].toArray) : Sem Value).run Tryz.prog w = .ok (.bool (((x0.toList == y0.toList) && ((x1 == y1) && (x2 == y2))))) w := by
  have hm : Tryz.prog.eqGuardType Tryz.prog.depth 38 = false := by kernel_rfl
  rw [Sem.run_bind, run_eqGuard_agg _ _ _ _ _ _ _ hm]
  simp only [Result.andThen_ok]
  have hs33 : Tryz.prog.stoodInHeld 33 = false := by kernel_rfl
  have hs38 : Tryz.prog.stoodInHeld 38 = false := by kernel_rfl
  by_cases h0 : (x0.toList == y0.toList) = true <;> by_cases h1 : (x1 == y1) = true <;> by_cases h2 : (x2 == y2) = true <;>
  go_simp
theorem nev38 (x0 : ByteArray) (x1 : Int) (x2 : Int) (y0 : ByteArray) (y1 : Int) (y2 : Int) (o1 o2 : Operand) (w : World) : (do eqGuard .neq 38 o1 o2 (.agg [.string x0, .int .i64 x1, .int .i64 x2].toArray) (.agg [.string y0, .int .i64 y1, .int .i64 y2].toArray); binOp .neq 38 (.agg [.string x0, .int .i64 x1, .int .i64 x2].toArray) (.agg [.string y0, .int .i64 y1, .int .i64 y2].toArray) : Sem Value).run Tryz.prog w = .ok (.bool (!((x0.toList == y0.toList) && ((x1 == y1) && (x2 == y2))))) w := by
  have hm : Tryz.prog.eqGuardType Tryz.prog.depth 38 = false := by kernel_rfl
  rw [Sem.run_bind, run_eqGuard_agg _ _ _ _ _ _ _ hm]
  simp only [Result.andThen_ok]
  have hs33 : Tryz.prog.stoodInHeld 33 = false := by kernel_rfl
  have hs38 : Tryz.prog.stoodInHeld 38 = false := by kernel_rfl
  by_cases h0 : (x0.toList == y0.toList) = true <;> by_cases h1 : (x1 == y1) = true <;> by_cases h2 : (x2 == y2) = true <;>
  go_simp
theorem places38 {fs : Array Field} (h : Tryz.prog.underlying 38 = some (.struct fs)) : ∀ w, ((fs.mapM fun f => do pure (f.offset, ← sizeOf f.type)) : Sem (Array (Nat × Nat))).run Tryz.prog w = .ok #[(0, 1), (1, 2)] w := by cases h.symm.trans Tryz.underlying38; intro w; kernel_rfl
theorem places39 {fs : Array Field} (h : Tryz.prog.underlying 39 = some (.struct fs)) : ∀ w, ((fs.mapM fun f => do pure (f.offset, ← sizeOf f.type)) : Sem (Array (Nat × Nat))).run Tryz.prog w = .ok #[(0, 1), (1, 1), (2, 1), (3, 1), (4, 1), (5, 6), (11, 3)] w := by cases h.symm.trans Tryz.underlying39; intro w; kernel_rfl
theorem places40 {fs : Array Field} (h : Tryz.prog.underlying 40 = some (.struct fs)) : ∀ w, ((fs.mapM fun f => do pure (f.offset, ← sizeOf f.type)) : Sem (Array (Nat × Nat))).run Tryz.prog w = .ok #[(0, 1), (1, 1), (2, 1), (3, 1), (4, 1), (5, 6), (11, 3)] w := by cases h.symm.trans Tryz.underlying40; intro w; kernel_rfl
theorem elem47 : R.ElemT Tryz.prog 47 36 6 80 := ⟨Tryz.underlying47, by
  have h : (Tryz.prog.info? 36).map (fun i => ((match i.zero with | some z => z.cells.size | none => 99999), i.zero.isSome, i.size, i.bytes)) = some (6, true, 6, 80) := by kernel_rfl
  exact elem_of h⟩
theorem elem57 : R.ElemT Tryz.prog 57 9 1 16 := ⟨Tryz.underlying57, by
  have h : (Tryz.prog.info? 9).map (fun i => ((match i.zero with | some z => z.cells.size | none => 99999), i.zero.isSome, i.size, i.bytes)) = some (1, true, 1, 16) := by kernel_rfl
  exact elem_of h⟩
theorem places62 {fs : Array Field} (h : Tryz.prog.underlying 62 = some (.struct fs)) : ∀ w, ((fs.mapM fun f => do pure (f.offset, ← sizeOf f.type)) : Sem (Array (Nat × Nat))).run Tryz.prog w = .ok #[(0, 1), (1, 1)] w := by cases h.symm.trans Tryz.underlying62; intro w; kernel_rfl
theorem eqv63 (x0 : ByteArray) (x1 : ByteArray) (y0 : ByteArray) (y1 : ByteArray) (o1 o2 : Operand) (w : World) : (do eqGuard .eql 63 o1 o2 (.agg [.string x0, .string x1].toArray) (.agg [.string y0, .string y1].toArray); binOp .eql 63 (.agg [.string x0, .string x1].toArray) (.agg [.string y0, .string y1].toArray) : Sem Value).run Tryz.prog w = .ok (.bool (((x0.toList == y0.toList) && (x1.toList == y1.toList)))) w := by
  have hm : Tryz.prog.eqGuardType Tryz.prog.depth 63 = false := by kernel_rfl
  rw [Sem.run_bind, run_eqGuard_agg _ _ _ _ _ _ _ hm]
  simp only [Result.andThen_ok]
  have hs63 : Tryz.prog.stoodInHeld 63 = false := by kernel_rfl
  by_cases h0 : (x0.toList == y0.toList) = true <;> by_cases h1 : (x1.toList == y1.toList) = true <;>
  go_simp
theorem nev63 (x0 : ByteArray) (x1 : ByteArray) (y0 : ByteArray) (y1 : ByteArray) (o1 o2 : Operand) (w : World) : (do eqGuard .neq 63 o1 o2 (.agg [.string x0, .string x1].toArray) (.agg [.string y0, .string y1].toArray); binOp .neq 63 (.agg [.string x0, .string x1].toArray) (.agg [.string y0, .string y1].toArray) : Sem Value).run Tryz.prog w = .ok (.bool (!((x0.toList == y0.toList) && (x1.toList == y1.toList)))) w := by
  have hm : Tryz.prog.eqGuardType Tryz.prog.depth 63 = false := by kernel_rfl
  rw [Sem.run_bind, run_eqGuard_agg _ _ _ _ _ _ _ hm]
  simp only [Result.andThen_ok]
  have hs63 : Tryz.prog.stoodInHeld 63 = false := by kernel_rfl
  by_cases h0 : (x0.toList == y0.toList) = true <;> by_cases h1 : (x1.toList == y1.toList) = true <;>
  go_simp
theorem places63 {fs : Array Field} (h : Tryz.prog.underlying 63 = some (.struct fs)) : ∀ w, ((fs.mapM fun f => do pure (f.offset, ← sizeOf f.type)) : Sem (Array (Nat × Nat))).run Tryz.prog w = .ok #[(0, 1), (1, 1)] w := by cases h.symm.trans Tryz.underlying63; intro w; kernel_rfl
theorem places67 {fs : Array Field} (h : Tryz.prog.underlying 67 = some (.struct fs)) : ∀ w, ((fs.mapM fun f => do pure (f.offset, ← sizeOf f.type)) : Sem (Array (Nat × Nat))).run Tryz.prog w = .ok #[(0, 1), (1, 1)] w := by cases h.symm.trans Tryz.underlying67; intro w; kernel_rfl
theorem places68 {fs : Array Field} (h : Tryz.prog.underlying 68 = some (.struct fs)) : ∀ w, ((fs.mapM fun f => do pure (f.offset, ← sizeOf f.type)) : Sem (Array (Nat × Nat))).run Tryz.prog w = .ok #[(0, 1), (1, 1)] w := by cases h.symm.trans Tryz.underlying68; intro w; kernel_rfl
theorem elem70 : R.ElemT Tryz.prog 70 5 1 1 := ⟨Tryz.underlying70, by
  have h : (Tryz.prog.info? 5).map (fun i => ((match i.zero with | some z => z.cells.size | none => 99999), i.zero.isSome, i.size, i.bytes)) = some (1, true, 1, 1) := by kernel_rfl
  exact elem_of h⟩
theorem elem71 : R.ElemT Tryz.prog 71 33 2 16 := ⟨Tryz.underlying71, by
  have h : (Tryz.prog.info? 33).map (fun i => ((match i.zero with | some z => z.cells.size | none => 99999), i.zero.isSome, i.size, i.bytes)) = some (2, true, 2, 16) := by kernel_rfl
  exact elem_of h⟩
theorem places74 {fs : Array Field} (h : Tryz.prog.underlying 74 = some (.struct fs)) : ∀ w, ((fs.mapM fun f => do pure (f.offset, ← sizeOf f.type)) : Sem (Array (Nat × Nat))).run Tryz.prog w = .ok #[(0, 1), (1, 1)] w := by cases h.symm.trans Tryz.underlying74; intro w; kernel_rfl
theorem places75 {fs : Array Field} (h : Tryz.prog.underlying 75 = some (.struct fs)) : ∀ w, ((fs.mapM fun f => do pure (f.offset, ← sizeOf f.type)) : Sem (Array (Nat × Nat))).run Tryz.prog w = .ok #[(0, 1), (1, 1)] w := by cases h.symm.trans Tryz.underlying75; intro w; kernel_rfl
theorem places133 {fs : Array Field} (h : Tryz.prog.underlying 133 = some (.struct fs)) : ∀ w, ((fs.mapM fun f => do pure (f.offset, ← sizeOf f.type)) : Sem (Array (Nat × Nat))).run Tryz.prog w = .ok #[(0, 1), (1, 1), (2, 1), (3, 1)] w := by cases h.symm.trans Tryz.underlying133; intro w; kernel_rfl
theorem places134 {fs : Array Field} (h : Tryz.prog.underlying 134 = some (.struct fs)) : ∀ w, ((fs.mapM fun f => do pure (f.offset, ← sizeOf f.type)) : Sem (Array (Nat × Nat))).run Tryz.prog w = .ok #[(0, 1), (1, 1), (2, 1), (3, 1)] w := by cases h.symm.trans Tryz.underlying134; intro w; kernel_rfl
theorem places136 {fs : Array Field} (h : Tryz.prog.underlying 136 = some (.struct fs)) : ∀ w, ((fs.mapM fun f => do pure (f.offset, ← sizeOf f.type)) : Sem (Array (Nat × Nat))).run Tryz.prog w = .ok #[(0, 0)] w := by cases h.symm.trans Tryz.underlying136; intro w; kernel_rfl
theorem places137 {fs : Array Field} (h : Tryz.prog.underlying 137 = some (.struct fs)) : ∀ w, ((fs.mapM fun f => do pure (f.offset, ← sizeOf f.type)) : Sem (Array (Nat × Nat))).run Tryz.prog w = .ok #[(0, 0)] w := by cases h.symm.trans Tryz.underlying137; intro w; kernel_rfl
theorem places145 {fs : Array Field} (h : Tryz.prog.underlying 145 = some (.struct fs)) : ∀ w, ((fs.mapM fun f => do pure (f.offset, ← sizeOf f.type)) : Sem (Array (Nat × Nat))).run Tryz.prog w = .ok #[(0, 1), (1, 1), (2, 1), (3, 1), (4, 1), (5, 1), (6, 1), (7, 1), (8, 1), (9, 1), (10, 1)] w := by cases h.symm.trans Tryz.underlying145; intro w; kernel_rfl
theorem places146 {fs : Array Field} (h : Tryz.prog.underlying 146 = some (.struct fs)) : ∀ w, ((fs.mapM fun f => do pure (f.offset, ← sizeOf f.type)) : Sem (Array (Nat × Nat))).run Tryz.prog w = .ok #[(0, 1), (1, 1), (2, 1), (3, 1), (4, 1), (5, 1), (6, 1), (7, 1), (8, 1), (9, 1), (10, 1)] w := by cases h.symm.trans Tryz.underlying146; intro w; kernel_rfl
end Go.Proofs.YtkmjiaegbooplaaGreat
