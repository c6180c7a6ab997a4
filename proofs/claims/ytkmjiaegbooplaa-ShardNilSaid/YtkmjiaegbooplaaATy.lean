/- The seat's types: elements of slices, places of fields. -/
import Derived.Test.YtkmjiaegbooplaaAB
import Derived.Test.YtkmjiaegbooplaaProg
set_option linter.unusedSimpArgs false
set_option linter.unusedVariables false
namespace Go.Proofs.Ytkmjiaegbooplaa
open Go.RowKit A
theorem places7 : ∀ w, ((#[⟨"x", 2, 0, false, "", "runtime", 0⟩, ⟨"y", 3, 1, false, "", "runtime", 8⟩, ⟨"signed", 4, 2, false, "", "runtime", 16⟩, ⟨"code", 6, 3, false, "", "runtime", 17⟩] : Array Field).mapM (fun f => do pure (f.offset, ← sizeOf f.type)) : Sem (Array (Nat × Nat))).run Try.prog w = .ok #[(0, 1), (1, 1), (2, 1), (3, 1)] w := fun w => by kernel_rfl
theorem places8 : ∀ w, ((#[⟨"x", 2, 0, false, "", "runtime", 0⟩, ⟨"y", 3, 1, false, "", "runtime", 8⟩, ⟨"signed", 4, 2, false, "", "runtime", 16⟩, ⟨"code", 6, 3, false, "", "runtime", 17⟩] : Array Field).mapM (fun f => do pure (f.offset, ← sizeOf f.type)) : Sem (Array (Nat × Nat))).run Try.prog w = .ok #[(0, 1), (1, 1), (2, 1), (3, 1)] w := fun w => by kernel_rfl
theorem places13 : ∀ w, ((#[⟨"msg", 9, 0, false, "", "runtime", 0⟩, ⟨"addr", 12, 1, false, "", "runtime", 16⟩] : Array Field).mapM (fun f => do pure (f.offset, ← sizeOf f.type)) : Sem (Array (Nat × Nat))).run Try.prog w = .ok #[(0, 1), (1, 1)] w := fun w => by kernel_rfl
theorem places14 : ∀ w, ((#[⟨"msg", 9, 0, false, "", "runtime", 0⟩, ⟨"addr", 12, 1, false, "", "runtime", 16⟩] : Array Field).mapM (fun f => do pure (f.offset, ← sizeOf f.type)) : Sem (Array (Nat × Nat))).run Try.prog w = .ok #[(0, 1), (1, 1)] w := fun w => by kernel_rfl
theorem places18 : ∀ w, ((#[⟨"typ", 17, 0, false, "", "internal/runtime/maps", 0⟩] : Array Field).mapM (fun f => do pure (f.offset, ← sizeOf f.type)) : Sem (Array (Nat × Nat))).run Try.prog w = .ok #[(0, 1)] w := fun w => by kernel_rfl
theorem places19 : ∀ w, ((#[⟨"typ", 17, 0, false, "", "internal/runtime/maps", 0⟩] : Array Field).mapM (fun f => do pure (f.offset, ← sizeOf f.type)) : Sem (Array (Nat × Nat))).run Try.prog w = .ok #[(0, 1)] w := fun w => by kernel_rfl
theorem elem22 : R.ElemT Try.prog 22 38 14 152 := ⟨Try.underlying22, by
  have h : (Try.prog.info? 38).map (fun i => ((match i.zero with | some z => z.cells.size | none => 99999), i.zero.isSome, i.size, i.bytes)) = some (14, true, 14, 152) := by kernel_rfl
  exact elem_of h⟩
theorem elem27 : R.ElemT Try.prog 27 69 2 32 := ⟨Try.underlying27, by
  have h : (Try.prog.info? 69).map (fun i => ((match i.zero with | some z => z.cells.size | none => 99999), i.zero.isSome, i.size, i.bytes)) = some (2, true, 2, 32) := by kernel_rfl
  exact elem_of h⟩
theorem places30 : ∀ w, ((#[⟨"N", 3, 0, false, "", "", 0⟩, ⟨"Site", 3, 1, false, "", "", 8⟩] : Array Field).mapM (fun f => do pure (f.offset, ← sizeOf f.type)) : Sem (Array (Nat × Nat))).run Try.prog w = .ok #[(0, 1), (1, 1)] w := fun w => by kernel_rfl
theorem eqv31 (x0 : Int) (x1 : Int) (y0 : Int) (y1 : Int) (o1 o2 : Operand) (w : World) : (do eqGuard .eql 31 o1 o2 (.agg [.int .i64 x0, .int .i64 x1].toArray) (.agg [.int .i64 y0, .int .i64 y1].toArray); binOp .eql 31 (.agg [.int .i64 x0, .int .i64 x1].toArray) (.agg [.int .i64 y0, .int .i64 y1].toArray) : Sem Value).run Try.prog w = .ok (.bool (((x0 == y0) && (x1 == y1)))) w := by
  have hm : Try.prog.eqGuardType Try.prog.depth 31 = false := by kernel_rfl
  rw [Sem.run_bind, run_eqGuard_agg _ _ _ _ _ _ _ hm]
  simp only [Result.andThen_ok]
  have hs31 : Try.prog.stoodInHeld 31 = false := by kernel_rfl
  by_cases h0 : (x0 == y0) = true <;> by_cases h1 : (x1 == y1) = true <;>
  go_simp
theorem nev31 (x0 : Int) (x1 : Int) (y0 : Int) (y1 : Int) (o1 o2 : Operand) (w : World) : (do eqGuard .neq 31 o1 o2 (.agg [.int .i64 x0, .int .i64 x1].toArray) (.agg [.int .i64 y0, .int .i64 y1].toArray); binOp .neq 31 (.agg [.int .i64 x0, .int .i64 x1].toArray) (.agg [.int .i64 y0, .int .i64 y1].toArray) : Sem Value).run Try.prog w = .ok (.bool (!((x0 == y0) && (x1 == y1)))) w := by
  have hm : Try.prog.eqGuardType Try.prog.depth 31 = false := by kernel_rfl
  rw [Sem.run_bind, run_eqGuard_agg _ _ _ _ _ _ _ hm]
  simp only [Result.andThen_ok]
  have hs31 : Try.prog.stoodInHeld 31 = false := by kernel_rfl
  by_cases h0 : (x0 == y0) = true <;> by_cases h1 : (x1 == y1) = true <;>
  go_simp
theorem places31 : ∀ w, ((#[⟨"N", 3, 0, false, "", "", 0⟩, ⟨"Site", 3, 1, false, "", "", 8⟩] : Array Field).mapM (fun f => do pure (f.offset, ← sizeOf f.type)) : Sem (Array (Nat × Nat))).run Try.prog w = .ok #[(0, 1), (1, 1)] w := fun w => by kernel_rfl
theorem elem32 : R.ElemT Try.prog 32 36 3 32 := ⟨Try.underlying32, by
  have h : (Try.prog.info? 36).map (fun i => ((match i.zero with | some z => z.cells.size | none => 99999), i.zero.isSome, i.size, i.bytes)) = some (3, true, 3, 32) := by kernel_rfl
  exact elem_of h⟩
theorem places33 : ∀ w, ((#[⟨"Key", 9, 0, false, "", "", 0⟩, ⟨"Value", 9, 1, false, "", "", 16⟩, ⟨"Gone", 4, 2, false, "", "", 32⟩, ⟨"Stamp", 31, 3, false, "", "", 40⟩, ⟨"Past", 32, 5, false, "", "", 56⟩] : Array Field).mapM (fun f => do pure (f.offset, ← sizeOf f.type)) : Sem (Array (Nat × Nat))).run Try.prog w = .ok #[(0, 1), (1, 1), (2, 1), (3, 2), (5, 1)] w := fun w => by kernel_rfl
theorem places34 : ∀ w, ((#[⟨"Key", 9, 0, false, "", "", 0⟩, ⟨"Value", 9, 1, false, "", "", 16⟩, ⟨"Gone", 4, 2, false, "", "", 32⟩, ⟨"Stamp", 31, 3, false, "", "", 40⟩, ⟨"Past", 32, 5, false, "", "", 56⟩] : Array Field).mapM (fun f => do pure (f.offset, ← sizeOf f.type)) : Sem (Array (Nat × Nat))).run Try.prog w = .ok #[(0, 1), (1, 1), (2, 1), (3, 2), (5, 1)] w := fun w => by kernel_rfl
theorem places35 : ∀ w, ((#[⟨"Key", 9, 0, false, "", "", 0⟩, ⟨"Stamp", 31, 1, false, "", "", 16⟩] : Array Field).mapM (fun f => do pure (f.offset, ← sizeOf f.type)) : Sem (Array (Nat × Nat))).run Try.prog w = .ok #[(0, 1), (1, 2)] w := fun w => by kernel_rfl
theorem eqv36 (x0 : ByteArray) (x1 : Int) (x2 : Int) (y0 : ByteArray) (y1 : Int) (y2 : Int) (o1 o2 : Operand) (w : World) : (do eqGuard .eql 36 o1 o2 (.agg [.string x0, .int .i64 x1, .int .i64 x2].toArray) (.agg [.string y0, .int .i64 y1, .int .i64 y2].toArray); binOp .eql 36 (.agg [.string x0, .int .i64 x1, .int .i64 x2].toArray) (.agg [.string y0, .int .i64 y1, .int .i64 y2].toArray) : Sem Value).run Try.prog w = .ok (.bool (((x0.toList == y0.toList) && ((x1 == y1) && (x2 == y2))))) w := by
  have hm : Try.prog.eqGuardType Try.prog.depth 36 = false := by kernel_rfl
  rw [Sem.run_bind, run_eqGuard_agg _ _ _ _ _ _ _ hm]
  simp only [Result.andThen_ok]
  have hs31 : Try.prog.stoodInHeld 31 = false := by kernel_rfl
  have hs36 : Try.prog.stoodInHeld 36 = false := by kernel_rfl
  by_cases h0 : (x0.toList == y0.toList) = true <;> by_cases h1 : (x1 == y1) = true <;> by_cases h2 : (x2 == y2) = true <;>
  go_simp
theorem nev36 (x0 : ByteArray) (x1 : Int) (x2 : Int) (y0 : ByteArray) (y1 : Int) (y2 : Int) (o1 o2 : Operand) (w : World) : (do eqGuard .neq 36 o1 o2 (.agg [.string x0, .int .i64 x1, .int .i64 x2].toArray) (.agg [.string y0, .int .i64 y1, .int .i64 y2].toArray); binOp .neq 36 (.agg [.string x0, .int .i64 x1, .int .i64 x2].toArray) (.agg [.string y0, .int .i64 y1, .int .i64 y2].toArray) : Sem Value).run Try.prog w = .ok (.bool (!((x0.toList == y0.toList) && ((x1 == y1) && (x2 == y2))))) w := by
  have hm : Try.prog.eqGuardType Try.prog.depth 36 = false := by kernel_rfl
  rw [Sem.run_bind, run_eqGuard_agg _ _ _ _ _ _ _ hm]
  simp only [Result.andThen_ok]
  have hs31 : Try.prog.stoodInHeld 31 = false := by kernel_rfl
  have hs36 : Try.prog.stoodInHeld 36 = false := by kernel_rfl
  by_cases h0 : (x0.toList == y0.toList) = true <;> by_cases h1 : (x1 == y1) = true <;> by_cases h2 : (x2 == y2) = true <;>
  go_simp
theorem places36 : ∀ w, ((#[⟨"Key", 9, 0, false, "", "", 0⟩, ⟨"Stamp", 31, 1, false, "", "", 16⟩] : Array Field).mapM (fun f => do pure (f.offset, ← sizeOf f.type)) : Sem (Array (Nat × Nat))).run Try.prog w = .ok #[(0, 1), (1, 2)] w := fun w => by kernel_rfl
theorem places37 : ∀ w, ((#[⟨"Kind", 3, 0, false, "", "", 0⟩, ⟨"Key", 3, 1, false, "", "", 8⟩, ⟨"N", 3, 2, false, "", "", 16⟩, ⟨"Site", 3, 3, false, "", "", 24⟩, ⟨"Raw", 4, 4, false, "", "", 32⟩, ⟨"Version", 34, 5, false, "", "", 40⟩, ⟨"Pin", 36, 11, false, "", "", 120⟩] : Array Field).mapM (fun f => do pure (f.offset, ← sizeOf f.type)) : Sem (Array (Nat × Nat))).run Try.prog w = .ok #[(0, 1), (1, 1), (2, 1), (3, 1), (4, 1), (5, 6), (11, 3)] w := fun w => by kernel_rfl
theorem places38 : ∀ w, ((#[⟨"Kind", 3, 0, false, "", "", 0⟩, ⟨"Key", 3, 1, false, "", "", 8⟩, ⟨"N", 3, 2, false, "", "", 16⟩, ⟨"Site", 3, 3, false, "", "", 24⟩, ⟨"Raw", 4, 4, false, "", "", 32⟩, ⟨"Version", 34, 5, false, "", "", 40⟩, ⟨"Pin", 36, 11, false, "", "", 120⟩] : Array Field).mapM (fun f => do pure (f.offset, ← sizeOf f.type)) : Sem (Array (Nat × Nat))).run Try.prog w = .ok #[(0, 1), (1, 1), (2, 1), (3, 1), (4, 1), (5, 6), (11, 3)] w := fun w => by kernel_rfl
theorem elem41 : R.ElemT Try.prog 41 34 6 80 := ⟨Try.underlying41, by
  have h : (Try.prog.info? 34).map (fun i => ((match i.zero with | some z => z.cells.size | none => 99999), i.zero.isSome, i.size, i.bytes)) = some (6, true, 6, 80) := by kernel_rfl
  exact elem_of h⟩
theorem elem51 : R.ElemT Try.prog 51 3 1 8 := ⟨Try.underlying51, by
  have h : (Try.prog.info? 3).map (fun i => ((match i.zero with | some z => z.cells.size | none => 99999), i.zero.isSome, i.size, i.bytes)) = some (1, true, 1, 8) := by kernel_rfl
  exact elem_of h⟩
theorem elem59 : R.ElemT Try.prog 59 9 1 16 := ⟨Try.underlying59, by
  have h : (Try.prog.info? 9).map (fun i => ((match i.zero with | some z => z.cells.size | none => 99999), i.zero.isSome, i.size, i.bytes)) = some (1, true, 1, 16) := by kernel_rfl
  exact elem_of h⟩
theorem places65 : ∀ w, ((#[⟨"ranges", 27, 0, false, "", "archipelago/shard", 0⟩, ⟨"chains", 64, 1, false, "", "archipelago/shard", 24⟩] : Array Field).mapM (fun f => do pure (f.offset, ← sizeOf f.type)) : Sem (Array (Nat × Nat))).run Try.prog w = .ok #[(0, 1), (1, 1)] w := fun w => by kernel_rfl
theorem places66 : ∀ w, ((#[⟨"ranges", 27, 0, false, "", "archipelago/shard", 0⟩, ⟨"chains", 64, 1, false, "", "archipelago/shard", 24⟩] : Array Field).mapM (fun f => do pure (f.offset, ← sizeOf f.type)) : Sem (Array (Nat × Nat))).run Try.prog w = .ok #[(0, 1), (1, 1)] w := fun w => by kernel_rfl
theorem places68 : ∀ w, ((#[⟨"From", 9, 0, false, "", "", 0⟩, ⟨"To", 9, 1, false, "", "", 16⟩] : Array Field).mapM (fun f => do pure (f.offset, ← sizeOf f.type)) : Sem (Array (Nat × Nat))).run Try.prog w = .ok #[(0, 1), (1, 1)] w := fun w => by kernel_rfl
theorem places69 : ∀ w, ((#[⟨"From", 9, 0, false, "", "", 0⟩, ⟨"To", 9, 1, false, "", "", 16⟩] : Array Field).mapM (fun f => do pure (f.offset, ← sizeOf f.type)) : Sem (Array (Nat × Nat))).run Try.prog w = .ok #[(0, 1), (1, 1)] w := fun w => by kernel_rfl
theorem elem73 : R.ElemT Try.prog 73 5 1 1 := ⟨Try.underlying73, by
  have h : (Try.prog.info? 5).map (fun i => ((match i.zero with | some z => z.cells.size | none => 99999), i.zero.isSome, i.size, i.bytes)) = some (1, true, 1, 1) := by kernel_rfl
  exact elem_of h⟩
theorem elem77 : R.ElemT Try.prog 77 31 2 16 := ⟨Try.underlying77, by
  have h : (Try.prog.info? 31).map (fun i => ((match i.zero with | some z => z.cells.size | none => 99999), i.zero.isSome, i.size, i.bytes)) = some (2, true, 2, 16) := by kernel_rfl
  exact elem_of h⟩
theorem places131 : ∀ w, ((#[⟨"_interface", 17, 0, false, "", "runtime", 0⟩, ⟨"concrete", 17, 1, false, "", "runtime", 8⟩, ⟨"asserted", 17, 2, false, "", "runtime", 16⟩, ⟨"missingMethod", 9, 3, false, "", "runtime", 24⟩] : Array Field).mapM (fun f => do pure (f.offset, ← sizeOf f.type)) : Sem (Array (Nat × Nat))).run Try.prog w = .ok #[(0, 1), (1, 1), (2, 1), (3, 1)] w := fun w => by kernel_rfl
theorem places132 : ∀ w, ((#[⟨"_interface", 17, 0, false, "", "runtime", 0⟩, ⟨"concrete", 17, 1, false, "", "runtime", 8⟩, ⟨"asserted", 17, 2, false, "", "runtime", 16⟩, ⟨"missingMethod", 9, 3, false, "", "runtime", 24⟩] : Array Field).mapM (fun f => do pure (f.offset, ← sizeOf f.type)) : Sem (Array (Nat × Nat))).run Try.prog w = .ok #[(0, 1), (1, 1), (2, 1), (3, 1)] w := fun w => by kernel_rfl
theorem places134 : ∀ w, ((#[⟨"_", 133, 0, false, "", "runtime", 0⟩] : Array Field).mapM (fun f => do pure (f.offset, ← sizeOf f.type)) : Sem (Array (Nat × Nat))).run Try.prog w = .ok #[(0, 0)] w := fun w => by kernel_rfl
theorem places135 : ∀ w, ((#[⟨"_", 133, 0, false, "", "runtime", 0⟩] : Array Field).mapM (fun f => do pure (f.offset, ← sizeOf f.type)) : Sem (Array (Nat × Nat))).run Try.prog w = .ok #[(0, 0)] w := fun w => by kernel_rfl
theorem places143 : ∀ w, ((#[⟨"Size_", 12, 0, false, "", "", 0⟩, ⟨"PtrBytes", 12, 1, false, "", "", 8⟩, ⟨"Hash", 117, 2, false, "", "", 16⟩, ⟨"TFlag", 137, 3, false, "", "", 20⟩, ⟨"Align_", 5, 4, false, "", "", 21⟩, ⟨"FieldAlign_", 5, 5, false, "", "", 22⟩, ⟨"Kind_", 138, 6, false, "", "", 23⟩, ⟨"Equal", 139, 7, false, "", "", 24⟩, ⟨"GCData", 140, 8, false, "", "", 32⟩, ⟨"Str", 141, 9, false, "", "", 40⟩, ⟨"PtrToThis", 142, 10, false, "", "", 44⟩] : Array Field).mapM (fun f => do pure (f.offset, ← sizeOf f.type)) : Sem (Array (Nat × Nat))).run Try.prog w = .ok #[(0, 1), (1, 1), (2, 1), (3, 1), (4, 1), (5, 1), (6, 1), (7, 1), (8, 1), (9, 1), (10, 1)] w := fun w => by kernel_rfl
theorem places144 : ∀ w, ((#[⟨"Size_", 12, 0, false, "", "", 0⟩, ⟨"PtrBytes", 12, 1, false, "", "", 8⟩, ⟨"Hash", 117, 2, false, "", "", 16⟩, ⟨"TFlag", 137, 3, false, "", "", 20⟩, ⟨"Align_", 5, 4, false, "", "", 21⟩, ⟨"FieldAlign_", 5, 5, false, "", "", 22⟩, ⟨"Kind_", 138, 6, false, "", "", 23⟩, ⟨"Equal", 139, 7, false, "", "", 24⟩, ⟨"GCData", 140, 8, false, "", "", 32⟩, ⟨"Str", 141, 9, false, "", "", 40⟩, ⟨"PtrToThis", 142, 10, false, "", "", 44⟩] : Array Field).mapM (fun f => do pure (f.offset, ← sizeOf f.type)) : Sem (Array (Nat × Nat))).run Try.prog w = .ok #[(0, 1), (1, 1), (2, 1), (3, 1), (4, 1), (5, 1), (6, 1), (7, 1), (8, 1), (9, 1), (10, 1)] w := fun w => by kernel_rfl
end Go.Proofs.Ytkmjiaegbooplaa
