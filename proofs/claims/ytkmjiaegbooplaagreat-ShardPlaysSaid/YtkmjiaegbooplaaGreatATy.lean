/- The seat's types: elements of slices, places of fields. -/
import Derived.Test.YtkmjiaegbooplaaGreatAB
import Derived.Test.YtkmjiaegbooplaaGreatProg
set_option linter.unusedSimpArgs false
set_option linter.unusedVariables false
namespace Go.Proofs.YtkmjiaegbooplaaGreat
open Go.RowKit A
theorem places7 : ∀ w, ((#[⟨"x", 2, 0, false, "", "runtime", 0⟩, ⟨"y", 3, 1, false, "", "runtime", 8⟩, ⟨"signed", 4, 2, false, "", "runtime", 16⟩, ⟨"code", 6, 3, false, "", "runtime", 17⟩] : Array Field).mapM (fun f => do pure (f.offset, ← sizeOf f.type)) : Sem (Array (Nat × Nat))).run Tryz.prog w = .ok #[(0, 1), (1, 1), (2, 1), (3, 1)] w := fun w => by kernel_rfl
theorem places8 : ∀ w, ((#[⟨"x", 2, 0, false, "", "runtime", 0⟩, ⟨"y", 3, 1, false, "", "runtime", 8⟩, ⟨"signed", 4, 2, false, "", "runtime", 16⟩, ⟨"code", 6, 3, false, "", "runtime", 17⟩] : Array Field).mapM (fun f => do pure (f.offset, ← sizeOf f.type)) : Sem (Array (Nat × Nat))).run Tryz.prog w = .ok #[(0, 1), (1, 1), (2, 1), (3, 1)] w := fun w => by kernel_rfl
theorem places13 : ∀ w, ((#[⟨"msg", 9, 0, false, "", "runtime", 0⟩, ⟨"addr", 12, 1, false, "", "runtime", 16⟩] : Array Field).mapM (fun f => do pure (f.offset, ← sizeOf f.type)) : Sem (Array (Nat × Nat))).run Tryz.prog w = .ok #[(0, 1), (1, 1)] w := fun w => by kernel_rfl
theorem places14 : ∀ w, ((#[⟨"msg", 9, 0, false, "", "runtime", 0⟩, ⟨"addr", 12, 1, false, "", "runtime", 16⟩] : Array Field).mapM (fun f => do pure (f.offset, ← sizeOf f.type)) : Sem (Array (Nat × Nat))).run Tryz.prog w = .ok #[(0, 1), (1, 1)] w := fun w => by kernel_rfl
theorem places18 : ∀ w, ((#[⟨"typ", 17, 0, false, "", "internal/runtime/maps", 0⟩] : Array Field).mapM (fun f => do pure (f.offset, ← sizeOf f.type)) : Sem (Array (Nat × Nat))).run Tryz.prog w = .ok #[(0, 1)] w := fun w => by kernel_rfl
theorem places19 : ∀ w, ((#[⟨"typ", 17, 0, false, "", "internal/runtime/maps", 0⟩] : Array Field).mapM (fun f => do pure (f.offset, ← sizeOf f.type)) : Sem (Array (Nat × Nat))).run Tryz.prog w = .ok #[(0, 1)] w := fun w => by kernel_rfl
theorem elem22 : R.ElemT Tryz.prog 22 40 14 152 := ⟨Tryz.underlying22, by
  have h : (Tryz.prog.info? 40).map (fun i => ((match i.zero with | some z => z.cells.size | none => 99999), i.zero.isSome, i.size, i.bytes)) = some (14, true, 14, 152) := by kernel_rfl
  exact elem_of h⟩
theorem elem26 : R.ElemT Tryz.prog 26 63 2 32 := ⟨Tryz.underlying26, by
  have h : (Tryz.prog.info? 63).map (fun i => ((match i.zero with | some z => z.cells.size | none => 99999), i.zero.isSome, i.size, i.bytes)) = some (2, true, 2, 32) := by kernel_rfl
  exact elem_of h⟩
theorem elem29 : R.ElemT Tryz.prog 29 75 2 40 := ⟨Tryz.underlying29, by
  have h : (Tryz.prog.info? 75).map (fun i => ((match i.zero with | some z => z.cells.size | none => 99999), i.zero.isSome, i.size, i.bytes)) = some (2, true, 2, 40) := by kernel_rfl
  exact elem_of h⟩
theorem places30 : ∀ w, ((#[⟨"R", 26, 0, false, "", "", 0⟩, ⟨"C", 29, 1, false, "", "", 24⟩] : Array Field).mapM (fun f => do pure (f.offset, ← sizeOf f.type)) : Sem (Array (Nat × Nat))).run Tryz.prog w = .ok #[(0, 1), (1, 1)] w := fun w => by kernel_rfl
theorem places31 : ∀ w, ((#[⟨"R", 26, 0, false, "", "", 0⟩, ⟨"C", 29, 1, false, "", "", 24⟩] : Array Field).mapM (fun f => do pure (f.offset, ← sizeOf f.type)) : Sem (Array (Nat × Nat))).run Tryz.prog w = .ok #[(0, 1), (1, 1)] w := fun w => by kernel_rfl
theorem places32 : ∀ w, ((#[⟨"N", 3, 0, false, "", "", 0⟩, ⟨"Site", 3, 1, false, "", "", 8⟩] : Array Field).mapM (fun f => do pure (f.offset, ← sizeOf f.type)) : Sem (Array (Nat × Nat))).run Tryz.prog w = .ok #[(0, 1), (1, 1)] w := fun w => by kernel_rfl
theorem eqv33 (x0 : Int) (x1 : Int) (y0 : Int) (y1 : Int) (o1 o2 : Operand) (w : World) : (do eqGuard .eql 33 o1 o2 (.agg [.int .i64 x0, .int .i64 x1].toArray) (.agg [.int .i64 y0, .int .i64 y1].toArray); binOp .eql 33 (.agg [.int .i64 x0, .int .i64 x1].toArray) (.agg [.int .i64 y0, .int .i64 y1].toArray) : Sem Value).run Tryz.prog w = .ok (.bool (((x0 == y0) && (x1 == y1)))) w := by
  have hm : Tryz.prog.eqGuardType Tryz.prog.depth 33 = false := by kernel_rfl
  rw [Sem.run_bind, run_eqGuard_agg _ _ _ _ _ _ _ hm]
  simp only [Result.andThen_ok]
  have hs33 : Tryz.prog.stoodInHeld 33 = false := by kernel_rfl
  by_cases h0 : (x0 == y0) = true <;> by_cases h1 : (x1 == y1) = true <;>
  go_simp
theorem nev33 (x0 : Int) (x1 : Int) (y0 : Int) (y1 : Int) (o1 o2 : Operand) (w : World) : (do eqGuard .neq 33 o1 o2 (.agg [.int .i64 x0, .int .i64 x1].toArray) (.agg [.int .i64 y0, .int .i64 y1].toArray); binOp .neq 33 (.agg [.int .i64 x0, .int .i64 x1].toArray) (.agg [.int .i64 y0, .int .i64 y1].toArray) : Sem Value).run Tryz.prog w = .ok (.bool (!((x0 == y0) && (x1 == y1)))) w := by
  have hm : Tryz.prog.eqGuardType Tryz.prog.depth 33 = false := by kernel_rfl
  rw [Sem.run_bind, run_eqGuard_agg _ _ _ _ _ _ _ hm]
  simp only [Result.andThen_ok]
  have hs33 : Tryz.prog.stoodInHeld 33 = false := by kernel_rfl
  by_cases h0 : (x0 == y0) = true <;> by_cases h1 : (x1 == y1) = true <;>
  go_simp
theorem places33 : ∀ w, ((#[⟨"N", 3, 0, false, "", "", 0⟩, ⟨"Site", 3, 1, false, "", "", 8⟩] : Array Field).mapM (fun f => do pure (f.offset, ← sizeOf f.type)) : Sem (Array (Nat × Nat))).run Tryz.prog w = .ok #[(0, 1), (1, 1)] w := fun w => by kernel_rfl
theorem elem34 : R.ElemT Tryz.prog 34 38 3 32 := ⟨Tryz.underlying34, by
  have h : (Tryz.prog.info? 38).map (fun i => ((match i.zero with | some z => z.cells.size | none => 99999), i.zero.isSome, i.size, i.bytes)) = some (3, true, 3, 32) := by kernel_rfl
  exact elem_of h⟩
theorem places35 : ∀ w, ((#[⟨"Key", 9, 0, false, "", "", 0⟩, ⟨"Value", 9, 1, false, "", "", 16⟩, ⟨"Gone", 4, 2, false, "", "", 32⟩, ⟨"Stamp", 33, 3, false, "", "", 40⟩, ⟨"Past", 34, 5, false, "", "", 56⟩] : Array Field).mapM (fun f => do pure (f.offset, ← sizeOf f.type)) : Sem (Array (Nat × Nat))).run Tryz.prog w = .ok #[(0, 1), (1, 1), (2, 1), (3, 2), (5, 1)] w := fun w => by kernel_rfl
theorem places36 : ∀ w, ((#[⟨"Key", 9, 0, false, "", "", 0⟩, ⟨"Value", 9, 1, false, "", "", 16⟩, ⟨"Gone", 4, 2, false, "", "", 32⟩, ⟨"Stamp", 33, 3, false, "", "", 40⟩, ⟨"Past", 34, 5, false, "", "", 56⟩] : Array Field).mapM (fun f => do pure (f.offset, ← sizeOf f.type)) : Sem (Array (Nat × Nat))).run Tryz.prog w = .ok #[(0, 1), (1, 1), (2, 1), (3, 2), (5, 1)] w := fun w => by kernel_rfl
theorem places37 : ∀ w, ((#[⟨"Key", 9, 0, false, "", "", 0⟩, ⟨"Stamp", 33, 1, false, "", "", 16⟩] : Array Field).mapM (fun f => do pure (f.offset, ← sizeOf f.type)) : Sem (Array (Nat × Nat))).run Tryz.prog w = .ok #[(0, 1), (1, 2)] w := fun w => by kernel_rfl
theorem eqv38 (x0 : ByteArray) (x1 : Int) (x2 : Int) (y0 : ByteArray) (y1 : Int) (y2 : Int) (o1 o2 : Operand) (w : World) : (do eqGuard .eql 38 o1 o2 (.agg [.string x0, .int .i64 x1, .int .i64 x2].toArray) (.agg [.string y0, .int .i64 y1, .int .i64 y2].toArray); binOp .eql 38 (.agg [.string x0, .int .i64 x1, .int .i64 x2].toArray) (.agg [.string y0, .int .i64 y1, .int .i64 y2].toArray) : Sem Value).run Tryz.prog w = .ok (.bool (((x0.toList == y0.toList) && ((x1 == y1) && (x2 == y2))))) w := by
  have hm : Tryz.prog.eqGuardType Tryz.prog.depth 38 = false := by kernel_rfl
  rw [Sem.run_bind, run_eqGuard_agg _ _ _ _ _ _ _ hm]
  simp only [Result.andThen_ok]
  have hs33 : Tryz.prog.stoodInHeld 33 = false := by kernel_rfl
  have hs38 : Tryz.prog.stoodInHeld 38 = false := by kernel_rfl
  by_cases h0 : (x0.toList == y0.toList) = true <;> by_cases h1 : (x1 == y1) = true <;> by_cases h2 : (x2 == y2) = true <;>
  go_simp
theorem nev38 (x0 : ByteArray) (x1 : Int) (x2 : Int) (y0 : ByteArray) (y1 : Int) (y2 : Int) (o1 o2 : Operand) (w : World) : (do eqGuard .neq 38 o1 o2 (.agg [.string x0, .int .i64 x1, .int .i64 x2].toArray) (.agg [.string y0, .int .i64 y1, .int .i64 y2].toArray); binOp .neq 38 (.agg [.string x0, .int .i64 x1, .int .i64 x2].toArray) (.agg [.string y0, .int .i64 y1, .int .i64 y2].toArray) : Sem Value).run Tryz.prog w = .ok (.bool (!((x0.toList == y0.toList) && ((x1 == y1) && (x2 == y2))))) w := by
  have hm : Tryz.prog.eqGuardType Tryz.prog.depth 38 = false := by kernel_rfl
  rw [Sem.run_bind, run_eqGuard_agg _ _ _ _ _ _ _ hm]
  simp only [Result.andThen_ok]
  have hs33 : Tryz.prog.stoodInHeld 33 = false := by kernel_rfl
  have hs38 : Tryz.prog.stoodInHeld 38 = false := by kernel_rfl
  by_cases h0 : (x0.toList == y0.toList) = true <;> by_cases h1 : (x1 == y1) = true <;> by_cases h2 : (x2 == y2) = true <;>
  go_simp
theorem places38 : ∀ w, ((#[⟨"Key", 9, 0, false, "", "", 0⟩, ⟨"Stamp", 33, 1, false, "", "", 16⟩] : Array Field).mapM (fun f => do pure (f.offset, ← sizeOf f.type)) : Sem (Array (Nat × Nat))).run Tryz.prog w = .ok #[(0, 1), (1, 2)] w := fun w => by kernel_rfl
theorem places39 : ∀ w, ((#[⟨"Kind", 3, 0, false, "", "", 0⟩, ⟨"Key", 3, 1, false, "", "", 8⟩, ⟨"N", 3, 2, false, "", "", 16⟩, ⟨"Site", 3, 3, false, "", "", 24⟩, ⟨"Raw", 4, 4, false, "", "", 32⟩, ⟨"Version", 36, 5, false, "", "", 40⟩, ⟨"Pin", 38, 11, false, "", "", 120⟩] : Array Field).mapM (fun f => do pure (f.offset, ← sizeOf f.type)) : Sem (Array (Nat × Nat))).run Tryz.prog w = .ok #[(0, 1), (1, 1), (2, 1), (3, 1), (4, 1), (5, 6), (11, 3)] w := fun w => by kernel_rfl
theorem places40 : ∀ w, ((#[⟨"Kind", 3, 0, false, "", "", 0⟩, ⟨"Key", 3, 1, false, "", "", 8⟩, ⟨"N", 3, 2, false, "", "", 16⟩, ⟨"Site", 3, 3, false, "", "", 24⟩, ⟨"Raw", 4, 4, false, "", "", 32⟩, ⟨"Version", 36, 5, false, "", "", 40⟩, ⟨"Pin", 38, 11, false, "", "", 120⟩] : Array Field).mapM (fun f => do pure (f.offset, ← sizeOf f.type)) : Sem (Array (Nat × Nat))).run Tryz.prog w = .ok #[(0, 1), (1, 1), (2, 1), (3, 1), (4, 1), (5, 6), (11, 3)] w := fun w => by kernel_rfl
theorem elem47 : R.ElemT Tryz.prog 47 36 6 80 := ⟨Tryz.underlying47, by
  have h : (Tryz.prog.info? 36).map (fun i => ((match i.zero with | some z => z.cells.size | none => 99999), i.zero.isSome, i.size, i.bytes)) = some (6, true, 6, 80) := by kernel_rfl
  exact elem_of h⟩
theorem elem57 : R.ElemT Tryz.prog 57 9 1 16 := ⟨Tryz.underlying57, by
  have h : (Tryz.prog.info? 9).map (fun i => ((match i.zero with | some z => z.cells.size | none => 99999), i.zero.isSome, i.size, i.bytes)) = some (1, true, 1, 16) := by kernel_rfl
  exact elem_of h⟩
theorem places62 : ∀ w, ((#[⟨"From", 9, 0, false, "", "", 0⟩, ⟨"To", 9, 1, false, "", "", 16⟩] : Array Field).mapM (fun f => do pure (f.offset, ← sizeOf f.type)) : Sem (Array (Nat × Nat))).run Tryz.prog w = .ok #[(0, 1), (1, 1)] w := fun w => by kernel_rfl
theorem eqv63 (x0 : ByteArray) (x1 : ByteArray) (y0 : ByteArray) (y1 : ByteArray) (o1 o2 : Operand) (w : World) : (do eqGuard .eql 63 o1 o2 (.agg [.string x0, .string x1].toArray) (.agg [.string y0, .string y1].toArray); binOp .eql 63 (.agg [.string x0, .string x1].toArray) (.agg [.string y0, .string y1].toArray) : Sem Value).run Tryz.prog w = .ok (.bool (((x0.toList == y0.toList) && (x1.toList == y1.toList)))) w := by
  have hm : Tryz.prog.eqGuardType Tryz.prog.depth 63 = false := by kernel_rfl
  rw [Sem.run_bind, run_eqGuard_agg _ _ _ _ _ _ _ hm]
  simp only [Result.andThen_ok]
  have hs63 : Tryz.prog.stoodInHeld 63 = false := by kernel_rfl
  by_cases h0 : (x0.toList == y0.toList) = true <;> by_cases h1 : (x1.toList == y1.toList) = true <;>
  go_simp
theorem nev63 (x0 : ByteArray) (x1 : ByteArray) (y0 : ByteArray) (y1 : ByteArray) (o1 o2 : Operand) (w : World) : (do eqGuard .neq 63 o1 o2 (.agg [.string x0, .string x1].toArray) (.agg [.string y0, .string y1].toArray); binOp .neq 63 (.agg [.string x0, .string x1].toArray) (.agg [.string y0, .string y1].toArray) : Sem Value).run Tryz.prog w = .ok (.bool (!((x0.toList == y0.toList) && (x1.toList == y1.toList)))) w := by
  have hm : Tryz.prog.eqGuardType Tryz.prog.depth 63 = false := by kernel_rfl
  rw [Sem.run_bind, run_eqGuard_agg _ _ _ _ _ _ _ hm]
  simp only [Result.andThen_ok]
  have hs63 : Tryz.prog.stoodInHeld 63 = false := by kernel_rfl
  by_cases h0 : (x0.toList == y0.toList) = true <;> by_cases h1 : (x1.toList == y1.toList) = true <;>
  go_simp
theorem places63 : ∀ w, ((#[⟨"From", 9, 0, false, "", "", 0⟩, ⟨"To", 9, 1, false, "", "", 16⟩] : Array Field).mapM (fun f => do pure (f.offset, ← sizeOf f.type)) : Sem (Array (Nat × Nat))).run Tryz.prog w = .ok #[(0, 1), (1, 1)] w := fun w => by kernel_rfl
theorem places67 : ∀ w, ((#[⟨"ranges", 26, 0, false, "", "archipelago/shard", 0⟩, ⟨"chains", 66, 1, false, "", "archipelago/shard", 24⟩] : Array Field).mapM (fun f => do pure (f.offset, ← sizeOf f.type)) : Sem (Array (Nat × Nat))).run Tryz.prog w = .ok #[(0, 1), (1, 1)] w := fun w => by kernel_rfl
theorem places68 : ∀ w, ((#[⟨"ranges", 26, 0, false, "", "archipelago/shard", 0⟩, ⟨"chains", 66, 1, false, "", "archipelago/shard", 24⟩] : Array Field).mapM (fun f => do pure (f.offset, ← sizeOf f.type)) : Sem (Array (Nat × Nat))).run Tryz.prog w = .ok #[(0, 1), (1, 1)] w := fun w => by kernel_rfl
theorem elem70 : R.ElemT Tryz.prog 70 5 1 1 := ⟨Tryz.underlying70, by
  have h : (Tryz.prog.info? 5).map (fun i => ((match i.zero with | some z => z.cells.size | none => 99999), i.zero.isSome, i.size, i.bytes)) = some (1, true, 1, 1) := by kernel_rfl
  exact elem_of h⟩
theorem elem71 : R.ElemT Tryz.prog 71 33 2 16 := ⟨Tryz.underlying71, by
  have h : (Tryz.prog.info? 33).map (fun i => ((match i.zero with | some z => z.cells.size | none => 99999), i.zero.isSome, i.size, i.bytes)) = some (2, true, 2, 16) := by kernel_rfl
  exact elem_of h⟩
theorem places74 : ∀ w, ((#[⟨"Key", 9, 0, false, "", "", 0⟩, ⟨"L", 47, 1, false, "", "", 16⟩] : Array Field).mapM (fun f => do pure (f.offset, ← sizeOf f.type)) : Sem (Array (Nat × Nat))).run Tryz.prog w = .ok #[(0, 1), (1, 1)] w := fun w => by kernel_rfl
theorem places75 : ∀ w, ((#[⟨"Key", 9, 0, false, "", "", 0⟩, ⟨"L", 47, 1, false, "", "", 16⟩] : Array Field).mapM (fun f => do pure (f.offset, ← sizeOf f.type)) : Sem (Array (Nat × Nat))).run Tryz.prog w = .ok #[(0, 1), (1, 1)] w := fun w => by kernel_rfl
theorem places133 : ∀ w, ((#[⟨"_interface", 17, 0, false, "", "runtime", 0⟩, ⟨"concrete", 17, 1, false, "", "runtime", 8⟩, ⟨"asserted", 17, 2, false, "", "runtime", 16⟩, ⟨"missingMethod", 9, 3, false, "", "runtime", 24⟩] : Array Field).mapM (fun f => do pure (f.offset, ← sizeOf f.type)) : Sem (Array (Nat × Nat))).run Tryz.prog w = .ok #[(0, 1), (1, 1), (2, 1), (3, 1)] w := fun w => by kernel_rfl
theorem places134 : ∀ w, ((#[⟨"_interface", 17, 0, false, "", "runtime", 0⟩, ⟨"concrete", 17, 1, false, "", "runtime", 8⟩, ⟨"asserted", 17, 2, false, "", "runtime", 16⟩, ⟨"missingMethod", 9, 3, false, "", "runtime", 24⟩] : Array Field).mapM (fun f => do pure (f.offset, ← sizeOf f.type)) : Sem (Array (Nat × Nat))).run Tryz.prog w = .ok #[(0, 1), (1, 1), (2, 1), (3, 1)] w := fun w => by kernel_rfl
theorem places136 : ∀ w, ((#[⟨"_", 135, 0, false, "", "runtime", 0⟩] : Array Field).mapM (fun f => do pure (f.offset, ← sizeOf f.type)) : Sem (Array (Nat × Nat))).run Tryz.prog w = .ok #[(0, 0)] w := fun w => by kernel_rfl
theorem places137 : ∀ w, ((#[⟨"_", 135, 0, false, "", "runtime", 0⟩] : Array Field).mapM (fun f => do pure (f.offset, ← sizeOf f.type)) : Sem (Array (Nat × Nat))).run Tryz.prog w = .ok #[(0, 0)] w := fun w => by kernel_rfl
theorem places145 : ∀ w, ((#[⟨"Size_", 12, 0, false, "", "", 0⟩, ⟨"PtrBytes", 12, 1, false, "", "", 8⟩, ⟨"Hash", 118, 2, false, "", "", 16⟩, ⟨"TFlag", 139, 3, false, "", "", 20⟩, ⟨"Align_", 5, 4, false, "", "", 21⟩, ⟨"FieldAlign_", 5, 5, false, "", "", 22⟩, ⟨"Kind_", 140, 6, false, "", "", 23⟩, ⟨"Equal", 141, 7, false, "", "", 24⟩, ⟨"GCData", 142, 8, false, "", "", 32⟩, ⟨"Str", 143, 9, false, "", "", 40⟩, ⟨"PtrToThis", 144, 10, false, "", "", 44⟩] : Array Field).mapM (fun f => do pure (f.offset, ← sizeOf f.type)) : Sem (Array (Nat × Nat))).run Tryz.prog w = .ok #[(0, 1), (1, 1), (2, 1), (3, 1), (4, 1), (5, 1), (6, 1), (7, 1), (8, 1), (9, 1), (10, 1)] w := fun w => by kernel_rfl
theorem places146 : ∀ w, ((#[⟨"Size_", 12, 0, false, "", "", 0⟩, ⟨"PtrBytes", 12, 1, false, "", "", 8⟩, ⟨"Hash", 118, 2, false, "", "", 16⟩, ⟨"TFlag", 139, 3, false, "", "", 20⟩, ⟨"Align_", 5, 4, false, "", "", 21⟩, ⟨"FieldAlign_", 5, 5, false, "", "", 22⟩, ⟨"Kind_", 140, 6, false, "", "", 23⟩, ⟨"Equal", 141, 7, false, "", "", 24⟩, ⟨"GCData", 142, 8, false, "", "", 32⟩, ⟨"Str", 143, 9, false, "", "", 40⟩, ⟨"PtrToThis", 144, 10, false, "", "", 44⟩] : Array Field).mapM (fun f => do pure (f.offset, ← sizeOf f.type)) : Sem (Array (Nat × Nat))).run Tryz.prog w = .ok #[(0, 1), (1, 1), (2, 1), (3, 1), (4, 1), (5, 1), (6, 1), (7, 1), (8, 1), (9, 1), (10, 1)] w := fun w => by kernel_rfl
end Go.Proofs.YtkmjiaegbooplaaGreat
