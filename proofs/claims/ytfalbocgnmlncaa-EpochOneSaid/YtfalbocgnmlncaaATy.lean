/- The seat's types: elements of slices, places of fields. -/
import Derived.Test.YtfalbocgnmlncaaAB
import Derived.Test.YtfalbocgnmlncaaProg
set_option linter.unusedSimpArgs false
set_option linter.unusedVariables false
namespace Go.Proofs.Ytfalbocgnmlncaa
open Go.RowKit A
theorem places7 : ∀ w, ((#[⟨"x", 2, 0, false, "", "runtime", 0⟩, ⟨"y", 3, 1, false, "", "runtime", 8⟩, ⟨"signed", 4, 2, false, "", "runtime", 16⟩, ⟨"code", 6, 3, false, "", "runtime", 17⟩] : Array Field).mapM (fun f => do pure (f.offset, ← sizeOf f.type)) : Sem (Array (Nat × Nat))).run Try.prog w = .ok #[(0, 1), (1, 1), (2, 1), (3, 1)] w := fun w => by kernel_rfl
theorem places8 : ∀ w, ((#[⟨"x", 2, 0, false, "", "runtime", 0⟩, ⟨"y", 3, 1, false, "", "runtime", 8⟩, ⟨"signed", 4, 2, false, "", "runtime", 16⟩, ⟨"code", 6, 3, false, "", "runtime", 17⟩] : Array Field).mapM (fun f => do pure (f.offset, ← sizeOf f.type)) : Sem (Array (Nat × Nat))).run Try.prog w = .ok #[(0, 1), (1, 1), (2, 1), (3, 1)] w := fun w => by kernel_rfl
theorem places13 : ∀ w, ((#[⟨"msg", 9, 0, false, "", "runtime", 0⟩, ⟨"addr", 12, 1, false, "", "runtime", 16⟩] : Array Field).mapM (fun f => do pure (f.offset, ← sizeOf f.type)) : Sem (Array (Nat × Nat))).run Try.prog w = .ok #[(0, 1), (1, 1)] w := fun w => by kernel_rfl
theorem places14 : ∀ w, ((#[⟨"msg", 9, 0, false, "", "runtime", 0⟩, ⟨"addr", 12, 1, false, "", "runtime", 16⟩] : Array Field).mapM (fun f => do pure (f.offset, ← sizeOf f.type)) : Sem (Array (Nat × Nat))).run Try.prog w = .ok #[(0, 1), (1, 1)] w := fun w => by kernel_rfl
theorem places18 : ∀ w, ((#[⟨"typ", 17, 0, false, "", "internal/runtime/maps", 0⟩] : Array Field).mapM (fun f => do pure (f.offset, ← sizeOf f.type)) : Sem (Array (Nat × Nat))).run Try.prog w = .ok #[(0, 1)] w := fun w => by kernel_rfl
theorem places19 : ∀ w, ((#[⟨"typ", 17, 0, false, "", "internal/runtime/maps", 0⟩] : Array Field).mapM (fun f => do pure (f.offset, ← sizeOf f.type)) : Sem (Array (Nat × Nat))).run Try.prog w = .ok #[(0, 1)] w := fun w => by kernel_rfl
theorem elem22 : R.ElemT Try.prog 22 3 1 8 := ⟨Try.underlying22, by
  have h : (Try.prog.info? 3).map (fun i => ((match i.zero with | some z => z.cells.size | none => 99999), i.zero.isSome, i.size, i.bytes)) = some (1, true, 1, 8) := by kernel_rfl
  exact elem_of h⟩
theorem places24 : ∀ w, ((#[⟨"Ends", 23, 0, false, "", "", 0⟩, ⟨"Owners", 23, 2, false, "", "", 48⟩, ⟨"Parents", 22, 4, false, "", "", 96⟩, ⟨"Odd", 4, 5, false, "", "", 120⟩] : Array Field).mapM (fun f => do pure (f.offset, ← sizeOf f.type)) : Sem (Array (Nat × Nat))).run Try.prog w = .ok #[(0, 2), (2, 2), (4, 1), (5, 1)] w := fun w => by kernel_rfl
theorem places25 : ∀ w, ((#[⟨"Ends", 23, 0, false, "", "", 0⟩, ⟨"Owners", 23, 2, false, "", "", 48⟩, ⟨"Parents", 22, 4, false, "", "", 96⟩, ⟨"Odd", 4, 5, false, "", "", 120⟩] : Array Field).mapM (fun f => do pure (f.offset, ← sizeOf f.type)) : Sem (Array (Nat × Nat))).run Try.prog w = .ok #[(0, 2), (2, 2), (4, 1), (5, 1)] w := fun w => by kernel_rfl
theorem elem27 : R.ElemT Try.prog 27 35 2 32 := ⟨Try.underlying27, by
  have h : (Try.prog.info? 35).map (fun i => ((match i.zero with | some z => z.cells.size | none => 99999), i.zero.isSome, i.size, i.bytes)) = some (2, true, 2, 32) := by kernel_rfl
  exact elem_of h⟩
theorem places28 : ∀ w, ((#[⟨"Ranges", 27, 0, false, "", "", 0⟩, ⟨"Owners", 22, 1, false, "", "", 24⟩, ⟨"Parents", 22, 2, false, "", "", 48⟩] : Array Field).mapM (fun f => do pure (f.offset, ← sizeOf f.type)) : Sem (Array (Nat × Nat))).run Try.prog w = .ok #[(0, 1), (1, 1), (2, 1)] w := fun w => by kernel_rfl
theorem places29 : ∀ w, ((#[⟨"Ranges", 27, 0, false, "", "", 0⟩, ⟨"Owners", 22, 1, false, "", "", 24⟩, ⟨"Parents", 22, 2, false, "", "", 48⟩] : Array Field).mapM (fun f => do pure (f.offset, ← sizeOf f.type)) : Sem (Array (Nat × Nat))).run Try.prog w = .ok #[(0, 1), (1, 1), (2, 1)] w := fun w => by kernel_rfl
theorem elem31 : R.ElemT Try.prog 31 37 4 48 := ⟨Try.underlying31, by
  have h : (Try.prog.info? 37).map (fun i => ((match i.zero with | some z => z.cells.size | none => 99999), i.zero.isSome, i.size, i.bytes)) = some (4, true, 4, 48) := by kernel_rfl
  exact elem_of h⟩
theorem places34 : ∀ w, ((#[⟨"From", 9, 0, false, "", "", 0⟩, ⟨"To", 9, 1, false, "", "", 16⟩] : Array Field).mapM (fun f => do pure (f.offset, ← sizeOf f.type)) : Sem (Array (Nat × Nat))).run Try.prog w = .ok #[(0, 1), (1, 1)] w := fun w => by kernel_rfl
theorem eqv35 (x0 : ByteArray) (x1 : ByteArray) (y0 : ByteArray) (y1 : ByteArray) (o1 o2 : Operand) (w : World) : (do eqGuard .eql 35 o1 o2 (.agg [.string x0, .string x1].toArray) (.agg [.string y0, .string y1].toArray); binOp .eql 35 (.agg [.string x0, .string x1].toArray) (.agg [.string y0, .string y1].toArray) : Sem Value).run Try.prog w = .ok (.bool (((x0.toList == y0.toList) && (x1.toList == y1.toList)))) w := by
  have hm : Try.prog.eqGuardType Try.prog.depth 35 = false := by kernel_rfl
  rw [Sem.run_bind, run_eqGuard_agg _ _ _ _ _ _ _ hm]
  simp only [Result.andThen_ok]
  have hs35 : Try.prog.stoodInHeld 35 = false := by kernel_rfl
  by_cases h0 : (x0.toList == y0.toList) = true <;> by_cases h1 : (x1.toList == y1.toList) = true <;>
  go_simp
theorem nev35 (x0 : ByteArray) (x1 : ByteArray) (y0 : ByteArray) (y1 : ByteArray) (o1 o2 : Operand) (w : World) : (do eqGuard .neq 35 o1 o2 (.agg [.string x0, .string x1].toArray) (.agg [.string y0, .string y1].toArray); binOp .neq 35 (.agg [.string x0, .string x1].toArray) (.agg [.string y0, .string y1].toArray) : Sem Value).run Try.prog w = .ok (.bool (!((x0.toList == y0.toList) && (x1.toList == y1.toList)))) w := by
  have hm : Try.prog.eqGuardType Try.prog.depth 35 = false := by kernel_rfl
  rw [Sem.run_bind, run_eqGuard_agg _ _ _ _ _ _ _ hm]
  simp only [Result.andThen_ok]
  have hs35 : Try.prog.stoodInHeld 35 = false := by kernel_rfl
  by_cases h0 : (x0.toList == y0.toList) = true <;> by_cases h1 : (x1.toList == y1.toList) = true <;>
  go_simp
theorem places35 : ∀ w, ((#[⟨"From", 9, 0, false, "", "", 0⟩, ⟨"To", 9, 1, false, "", "", 16⟩] : Array Field).mapM (fun f => do pure (f.offset, ← sizeOf f.type)) : Sem (Array (Nat × Nat))).run Try.prog w = .ok #[(0, 1), (1, 1)] w := fun w => by kernel_rfl
theorem places36 : ∀ w, ((#[⟨"To", 3, 0, false, "", "", 0⟩, ⟨"From", 3, 1, false, "", "", 8⟩, ⟨"Range", 35, 2, false, "", "", 16⟩] : Array Field).mapM (fun f => do pure (f.offset, ← sizeOf f.type)) : Sem (Array (Nat × Nat))).run Try.prog w = .ok #[(0, 1), (1, 1), (2, 2)] w := fun w => by kernel_rfl
theorem eqv37 (x0 : Int) (x1 : Int) (x2 : ByteArray) (x3 : ByteArray) (y0 : Int) (y1 : Int) (y2 : ByteArray) (y3 : ByteArray) (o1 o2 : Operand) (w : World) : (do eqGuard .eql 37 o1 o2 (.agg [.int .i64 x0, .int .i64 x1, .string x2, .string x3].toArray) (.agg [.int .i64 y0, .int .i64 y1, .string y2, .string y3].toArray); binOp .eql 37 (.agg [.int .i64 x0, .int .i64 x1, .string x2, .string x3].toArray) (.agg [.int .i64 y0, .int .i64 y1, .string y2, .string y3].toArray) : Sem Value).run Try.prog w = .ok (.bool (((x0 == y0) && ((x1 == y1) && ((x2.toList == y2.toList) && (x3.toList == y3.toList)))))) w := by
  have hm : Try.prog.eqGuardType Try.prog.depth 37 = false := by kernel_rfl
  rw [Sem.run_bind, run_eqGuard_agg _ _ _ _ _ _ _ hm]
  simp only [Result.andThen_ok]
  have hs35 : Try.prog.stoodInHeld 35 = false := by kernel_rfl
  have hs37 : Try.prog.stoodInHeld 37 = false := by kernel_rfl
  by_cases h0 : (x0 == y0) = true <;> by_cases h1 : (x1 == y1) = true <;> by_cases h2 : (x2.toList == y2.toList) = true <;> by_cases h3 : (x3.toList == y3.toList) = true <;>
  go_simp
theorem nev37 (x0 : Int) (x1 : Int) (x2 : ByteArray) (x3 : ByteArray) (y0 : Int) (y1 : Int) (y2 : ByteArray) (y3 : ByteArray) (o1 o2 : Operand) (w : World) : (do eqGuard .neq 37 o1 o2 (.agg [.int .i64 x0, .int .i64 x1, .string x2, .string x3].toArray) (.agg [.int .i64 y0, .int .i64 y1, .string y2, .string y3].toArray); binOp .neq 37 (.agg [.int .i64 x0, .int .i64 x1, .string x2, .string x3].toArray) (.agg [.int .i64 y0, .int .i64 y1, .string y2, .string y3].toArray) : Sem Value).run Try.prog w = .ok (.bool (!((x0 == y0) && ((x1 == y1) && ((x2.toList == y2.toList) && (x3.toList == y3.toList)))))) w := by
  have hm : Try.prog.eqGuardType Try.prog.depth 37 = false := by kernel_rfl
  rw [Sem.run_bind, run_eqGuard_agg _ _ _ _ _ _ _ hm]
  simp only [Result.andThen_ok]
  have hs35 : Try.prog.stoodInHeld 35 = false := by kernel_rfl
  have hs37 : Try.prog.stoodInHeld 37 = false := by kernel_rfl
  by_cases h0 : (x0 == y0) = true <;> by_cases h1 : (x1 == y1) = true <;> by_cases h2 : (x2.toList == y2.toList) = true <;> by_cases h3 : (x3.toList == y3.toList) = true <;>
  go_simp
theorem places37 : ∀ w, ((#[⟨"To", 3, 0, false, "", "", 0⟩, ⟨"From", 3, 1, false, "", "", 8⟩, ⟨"Range", 35, 2, false, "", "", 16⟩] : Array Field).mapM (fun f => do pure (f.offset, ← sizeOf f.type)) : Sem (Array (Nat × Nat))).run Try.prog w = .ok #[(0, 1), (1, 1), (2, 2)] w := fun w => by kernel_rfl
theorem elem51 : R.ElemT Try.prog 51 5 1 1 := ⟨Try.underlying51, by
  have h : (Try.prog.info? 5).map (fun i => ((match i.zero with | some z => z.cells.size | none => 99999), i.zero.isSome, i.size, i.bytes)) = some (1, true, 1, 1) := by kernel_rfl
  exact elem_of h⟩
theorem elem59 : R.ElemT Try.prog 59 9 1 16 := ⟨Try.underlying59, by
  have h : (Try.prog.info? 9).map (fun i => ((match i.zero with | some z => z.cells.size | none => 99999), i.zero.isSome, i.size, i.bytes)) = some (1, true, 1, 16) := by kernel_rfl
  exact elem_of h⟩
theorem elem69 : R.ElemT Try.prog 69 27 1 24 := ⟨Try.underlying69, by
  have h : (Try.prog.info? 27).map (fun i => ((match i.zero with | some z => z.cells.size | none => 99999), i.zero.isSome, i.size, i.bytes)) = some (1, true, 1, 24) := by kernel_rfl
  exact elem_of h⟩
theorem elem80 : R.ElemT Try.prog 80 4 1 1 := ⟨Try.underlying80, by
  have h : (Try.prog.info? 4).map (fun i => ((match i.zero with | some z => z.cells.size | none => 99999), i.zero.isSome, i.size, i.bytes)) = some (1, true, 1, 1) := by kernel_rfl
  exact elem_of h⟩
theorem places106 : ∀ w, ((#[⟨"_interface", 17, 0, false, "", "runtime", 0⟩, ⟨"concrete", 17, 1, false, "", "runtime", 8⟩, ⟨"asserted", 17, 2, false, "", "runtime", 16⟩, ⟨"missingMethod", 9, 3, false, "", "runtime", 24⟩] : Array Field).mapM (fun f => do pure (f.offset, ← sizeOf f.type)) : Sem (Array (Nat × Nat))).run Try.prog w = .ok #[(0, 1), (1, 1), (2, 1), (3, 1)] w := fun w => by kernel_rfl
theorem places107 : ∀ w, ((#[⟨"_interface", 17, 0, false, "", "runtime", 0⟩, ⟨"concrete", 17, 1, false, "", "runtime", 8⟩, ⟨"asserted", 17, 2, false, "", "runtime", 16⟩, ⟨"missingMethod", 9, 3, false, "", "runtime", 24⟩] : Array Field).mapM (fun f => do pure (f.offset, ← sizeOf f.type)) : Sem (Array (Nat × Nat))).run Try.prog w = .ok #[(0, 1), (1, 1), (2, 1), (3, 1)] w := fun w => by kernel_rfl
theorem places109 : ∀ w, ((#[⟨"_", 108, 0, false, "", "runtime", 0⟩] : Array Field).mapM (fun f => do pure (f.offset, ← sizeOf f.type)) : Sem (Array (Nat × Nat))).run Try.prog w = .ok #[(0, 0)] w := fun w => by kernel_rfl
theorem places110 : ∀ w, ((#[⟨"_", 108, 0, false, "", "runtime", 0⟩] : Array Field).mapM (fun f => do pure (f.offset, ← sizeOf f.type)) : Sem (Array (Nat × Nat))).run Try.prog w = .ok #[(0, 0)] w := fun w => by kernel_rfl
theorem places118 : ∀ w, ((#[⟨"Size_", 12, 0, false, "", "", 0⟩, ⟨"PtrBytes", 12, 1, false, "", "", 8⟩, ⟨"Hash", 92, 2, false, "", "", 16⟩, ⟨"TFlag", 112, 3, false, "", "", 20⟩, ⟨"Align_", 5, 4, false, "", "", 21⟩, ⟨"FieldAlign_", 5, 5, false, "", "", 22⟩, ⟨"Kind_", 113, 6, false, "", "", 23⟩, ⟨"Equal", 114, 7, false, "", "", 24⟩, ⟨"GCData", 115, 8, false, "", "", 32⟩, ⟨"Str", 116, 9, false, "", "", 40⟩, ⟨"PtrToThis", 117, 10, false, "", "", 44⟩] : Array Field).mapM (fun f => do pure (f.offset, ← sizeOf f.type)) : Sem (Array (Nat × Nat))).run Try.prog w = .ok #[(0, 1), (1, 1), (2, 1), (3, 1), (4, 1), (5, 1), (6, 1), (7, 1), (8, 1), (9, 1), (10, 1)] w := fun w => by kernel_rfl
theorem places119 : ∀ w, ((#[⟨"Size_", 12, 0, false, "", "", 0⟩, ⟨"PtrBytes", 12, 1, false, "", "", 8⟩, ⟨"Hash", 92, 2, false, "", "", 16⟩, ⟨"TFlag", 112, 3, false, "", "", 20⟩, ⟨"Align_", 5, 4, false, "", "", 21⟩, ⟨"FieldAlign_", 5, 5, false, "", "", 22⟩, ⟨"Kind_", 113, 6, false, "", "", 23⟩, ⟨"Equal", 114, 7, false, "", "", 24⟩, ⟨"GCData", 115, 8, false, "", "", 32⟩, ⟨"Str", 116, 9, false, "", "", 40⟩, ⟨"PtrToThis", 117, 10, false, "", "", 44⟩] : Array Field).mapM (fun f => do pure (f.offset, ← sizeOf f.type)) : Sem (Array (Nat × Nat))).run Try.prog w = .ok #[(0, 1), (1, 1), (2, 1), (3, 1), (4, 1), (5, 1), (6, 1), (7, 1), (8, 1), (9, 1), (10, 1)] w := fun w => by kernel_rfl
end Go.Proofs.Ytfalbocgnmlncaa
