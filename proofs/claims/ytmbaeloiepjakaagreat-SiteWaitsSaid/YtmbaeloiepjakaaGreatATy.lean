/- The seat's types: elements of slices, places of fields. -/
import Derived.Test.YtmbaeloiepjakaaGreatAB
import Derived.Test.YtmbaeloiepjakaaGreatProg
set_option linter.unusedSimpArgs false
set_option linter.unusedVariables false
namespace Go.Proofs.YtmbaeloiepjakaaGreat
open Go.RowKit A
theorem places7 : ∀ w, ((#[⟨"x", 2, 0, false, "", "runtime", 0⟩, ⟨"y", 3, 1, false, "", "runtime", 8⟩, ⟨"signed", 4, 2, false, "", "runtime", 16⟩, ⟨"code", 6, 3, false, "", "runtime", 17⟩] : Array Field).mapM (fun f => do pure (f.offset, ← sizeOf f.type)) : Sem (Array (Nat × Nat))).run Tryz.prog w = .ok #[(0, 1), (1, 1), (2, 1), (3, 1)] w := fun w => by kernel_rfl
theorem places8 : ∀ w, ((#[⟨"x", 2, 0, false, "", "runtime", 0⟩, ⟨"y", 3, 1, false, "", "runtime", 8⟩, ⟨"signed", 4, 2, false, "", "runtime", 16⟩, ⟨"code", 6, 3, false, "", "runtime", 17⟩] : Array Field).mapM (fun f => do pure (f.offset, ← sizeOf f.type)) : Sem (Array (Nat × Nat))).run Tryz.prog w = .ok #[(0, 1), (1, 1), (2, 1), (3, 1)] w := fun w => by kernel_rfl
theorem places13 : ∀ w, ((#[⟨"msg", 9, 0, false, "", "runtime", 0⟩, ⟨"addr", 12, 1, false, "", "runtime", 16⟩] : Array Field).mapM (fun f => do pure (f.offset, ← sizeOf f.type)) : Sem (Array (Nat × Nat))).run Tryz.prog w = .ok #[(0, 1), (1, 1)] w := fun w => by kernel_rfl
theorem places14 : ∀ w, ((#[⟨"msg", 9, 0, false, "", "runtime", 0⟩, ⟨"addr", 12, 1, false, "", "runtime", 16⟩] : Array Field).mapM (fun f => do pure (f.offset, ← sizeOf f.type)) : Sem (Array (Nat × Nat))).run Tryz.prog w = .ok #[(0, 1), (1, 1)] w := fun w => by kernel_rfl
theorem places18 : ∀ w, ((#[⟨"typ", 17, 0, false, "", "internal/runtime/maps", 0⟩] : Array Field).mapM (fun f => do pure (f.offset, ← sizeOf f.type)) : Sem (Array (Nat × Nat))).run Tryz.prog w = .ok #[(0, 1)] w := fun w => by kernel_rfl
theorem places19 : ∀ w, ((#[⟨"typ", 17, 0, false, "", "internal/runtime/maps", 0⟩] : Array Field).mapM (fun f => do pure (f.offset, ← sizeOf f.type)) : Sem (Array (Nat × Nat))).run Tryz.prog w = .ok #[(0, 1)] w := fun w => by kernel_rfl
theorem elem22 : R.ElemT Tryz.prog 22 36 7 80 := ⟨Tryz.underlying22, by
  have h : (Tryz.prog.info? 36).map (fun i => ((match i.zero with | some z => z.cells.size | none => 99999), i.zero.isSome, i.size, i.bytes)) = some (7, true, 7, 80) := by kernel_rfl
  exact elem_of h⟩
theorem elem26 : R.ElemT Tryz.prog 26 49 2 32 := ⟨Tryz.underlying26, by
  have h : (Tryz.prog.info? 49).map (fun i => ((match i.zero with | some z => z.cells.size | none => 99999), i.zero.isSome, i.size, i.bytes)) = some (2, true, 2, 32) := by kernel_rfl
  exact elem_of h⟩
theorem places30 : ∀ w, ((#[⟨"N", 3, 0, false, "", "", 0⟩, ⟨"Site", 3, 1, false, "", "", 8⟩] : Array Field).mapM (fun f => do pure (f.offset, ← sizeOf f.type)) : Sem (Array (Nat × Nat))).run Tryz.prog w = .ok #[(0, 1), (1, 1)] w := fun w => by kernel_rfl
theorem eqv31 (x0 : Int) (x1 : Int) (y0 : Int) (y1 : Int) (o1 o2 : Operand) (w : World) : (do eqGuard .eql 31 o1 o2 (.agg [.int .i64 x0, .int .i64 x1].toArray) (.agg [.int .i64 y0, .int .i64 y1].toArray); binOp .eql 31 (.agg [.int .i64 x0, .int .i64 x1].toArray) (.agg [.int .i64 y0, .int .i64 y1].toArray) : Sem Value).run Tryz.prog w = .ok (.bool (((x0 == y0) && (x1 == y1)))) w := by
  have hm : Tryz.prog.eqGuardType Tryz.prog.depth 31 = false := by kernel_rfl
  rw [Sem.run_bind, run_eqGuard_agg _ _ _ _ _ _ _ hm]
  simp only [Result.andThen_ok]
  have hs31 : Tryz.prog.stoodInHeld 31 = false := by kernel_rfl
  by_cases h0 : (x0 == y0) = true <;> by_cases h1 : (x1 == y1) = true <;>
  go_simp
theorem nev31 (x0 : Int) (x1 : Int) (y0 : Int) (y1 : Int) (o1 o2 : Operand) (w : World) : (do eqGuard .neq 31 o1 o2 (.agg [.int .i64 x0, .int .i64 x1].toArray) (.agg [.int .i64 y0, .int .i64 y1].toArray); binOp .neq 31 (.agg [.int .i64 x0, .int .i64 x1].toArray) (.agg [.int .i64 y0, .int .i64 y1].toArray) : Sem Value).run Tryz.prog w = .ok (.bool (!((x0 == y0) && (x1 == y1)))) w := by
  have hm : Tryz.prog.eqGuardType Tryz.prog.depth 31 = false := by kernel_rfl
  rw [Sem.run_bind, run_eqGuard_agg _ _ _ _ _ _ _ hm]
  simp only [Result.andThen_ok]
  have hs31 : Tryz.prog.stoodInHeld 31 = false := by kernel_rfl
  by_cases h0 : (x0 == y0) = true <;> by_cases h1 : (x1 == y1) = true <;>
  go_simp
theorem places31 : ∀ w, ((#[⟨"N", 3, 0, false, "", "", 0⟩, ⟨"Site", 3, 1, false, "", "", 8⟩] : Array Field).mapM (fun f => do pure (f.offset, ← sizeOf f.type)) : Sem (Array (Nat × Nat))).run Tryz.prog w = .ok #[(0, 1), (1, 1)] w := fun w => by kernel_rfl
theorem elem32 : R.ElemT Tryz.prog 32 59 3 32 := ⟨Tryz.underlying32, by
  have h : (Tryz.prog.info? 59).map (fun i => ((match i.zero with | some z => z.cells.size | none => 99999), i.zero.isSome, i.size, i.bytes)) = some (3, true, 3, 32) := by kernel_rfl
  exact elem_of h⟩
theorem places33 : ∀ w, ((#[⟨"Key", 9, 0, false, "", "", 0⟩, ⟨"Value", 9, 1, false, "", "", 16⟩, ⟨"Gone", 4, 2, false, "", "", 32⟩, ⟨"Stamp", 31, 3, false, "", "", 40⟩, ⟨"Past", 32, 5, false, "", "", 56⟩] : Array Field).mapM (fun f => do pure (f.offset, ← sizeOf f.type)) : Sem (Array (Nat × Nat))).run Tryz.prog w = .ok #[(0, 1), (1, 1), (2, 1), (3, 2), (5, 1)] w := fun w => by kernel_rfl
theorem places34 : ∀ w, ((#[⟨"Key", 9, 0, false, "", "", 0⟩, ⟨"Value", 9, 1, false, "", "", 16⟩, ⟨"Gone", 4, 2, false, "", "", 32⟩, ⟨"Stamp", 31, 3, false, "", "", 40⟩, ⟨"Past", 32, 5, false, "", "", 56⟩] : Array Field).mapM (fun f => do pure (f.offset, ← sizeOf f.type)) : Sem (Array (Nat × Nat))).run Tryz.prog w = .ok #[(0, 1), (1, 1), (2, 1), (3, 2), (5, 1)] w := fun w => by kernel_rfl
theorem places35 : ∀ w, ((#[⟨"Kind", 3, 0, false, "", "", 0⟩, ⟨"Key", 3, 1, false, "", "", 8⟩, ⟨"N", 3, 2, false, "", "", 16⟩, ⟨"Site", 3, 3, false, "", "", 24⟩, ⟨"Gone", 4, 4, false, "", "", 32⟩, ⟨"Value", 9, 5, false, "", "", 40⟩, ⟨"Past", 32, 6, false, "", "", 56⟩] : Array Field).mapM (fun f => do pure (f.offset, ← sizeOf f.type)) : Sem (Array (Nat × Nat))).run Tryz.prog w = .ok #[(0, 1), (1, 1), (2, 1), (3, 1), (4, 1), (5, 1), (6, 1)] w := fun w => by kernel_rfl
theorem places36 : ∀ w, ((#[⟨"Kind", 3, 0, false, "", "", 0⟩, ⟨"Key", 3, 1, false, "", "", 8⟩, ⟨"N", 3, 2, false, "", "", 16⟩, ⟨"Site", 3, 3, false, "", "", 24⟩, ⟨"Gone", 4, 4, false, "", "", 32⟩, ⟨"Value", 9, 5, false, "", "", 40⟩, ⟨"Past", 32, 6, false, "", "", 56⟩] : Array Field).mapM (fun f => do pure (f.offset, ← sizeOf f.type)) : Sem (Array (Nat × Nat))).run Tryz.prog w = .ok #[(0, 1), (1, 1), (2, 1), (3, 1), (4, 1), (5, 1), (6, 1)] w := fun w => by kernel_rfl
theorem places48 : ∀ w, ((#[⟨"From", 9, 0, false, "", "", 0⟩, ⟨"To", 9, 1, false, "", "", 16⟩] : Array Field).mapM (fun f => do pure (f.offset, ← sizeOf f.type)) : Sem (Array (Nat × Nat))).run Tryz.prog w = .ok #[(0, 1), (1, 1)] w := fun w => by kernel_rfl
theorem eqv49 (x0 : ByteArray) (x1 : ByteArray) (y0 : ByteArray) (y1 : ByteArray) (o1 o2 : Operand) (w : World) : (do eqGuard .eql 49 o1 o2 (.agg [.string x0, .string x1].toArray) (.agg [.string y0, .string y1].toArray); binOp .eql 49 (.agg [.string x0, .string x1].toArray) (.agg [.string y0, .string y1].toArray) : Sem Value).run Tryz.prog w = .ok (.bool (((x0.toList == y0.toList) && (x1.toList == y1.toList)))) w := by
  have hm : Tryz.prog.eqGuardType Tryz.prog.depth 49 = false := by kernel_rfl
  rw [Sem.run_bind, run_eqGuard_agg _ _ _ _ _ _ _ hm]
  simp only [Result.andThen_ok]
  have hs49 : Tryz.prog.stoodInHeld 49 = false := by kernel_rfl
  by_cases h0 : (x0.toList == y0.toList) = true <;> by_cases h1 : (x1.toList == y1.toList) = true <;>
  go_simp
theorem nev49 (x0 : ByteArray) (x1 : ByteArray) (y0 : ByteArray) (y1 : ByteArray) (o1 o2 : Operand) (w : World) : (do eqGuard .neq 49 o1 o2 (.agg [.string x0, .string x1].toArray) (.agg [.string y0, .string y1].toArray); binOp .neq 49 (.agg [.string x0, .string x1].toArray) (.agg [.string y0, .string y1].toArray) : Sem Value).run Tryz.prog w = .ok (.bool (!((x0.toList == y0.toList) && (x1.toList == y1.toList)))) w := by
  have hm : Tryz.prog.eqGuardType Tryz.prog.depth 49 = false := by kernel_rfl
  rw [Sem.run_bind, run_eqGuard_agg _ _ _ _ _ _ _ hm]
  simp only [Result.andThen_ok]
  have hs49 : Tryz.prog.stoodInHeld 49 = false := by kernel_rfl
  by_cases h0 : (x0.toList == y0.toList) = true <;> by_cases h1 : (x1.toList == y1.toList) = true <;>
  go_simp
theorem places49 : ∀ w, ((#[⟨"From", 9, 0, false, "", "", 0⟩, ⟨"To", 9, 1, false, "", "", 16⟩] : Array Field).mapM (fun f => do pure (f.offset, ← sizeOf f.type)) : Sem (Array (Nat × Nat))).run Tryz.prog w = .ok #[(0, 1), (1, 1)] w := fun w => by kernel_rfl
theorem places58 : ∀ w, ((#[⟨"Key", 9, 0, false, "", "", 0⟩, ⟨"Stamp", 31, 1, false, "", "", 16⟩] : Array Field).mapM (fun f => do pure (f.offset, ← sizeOf f.type)) : Sem (Array (Nat × Nat))).run Tryz.prog w = .ok #[(0, 1), (1, 2)] w := fun w => by kernel_rfl
theorem eqv59 (x0 : ByteArray) (x1 : Int) (x2 : Int) (y0 : ByteArray) (y1 : Int) (y2 : Int) (o1 o2 : Operand) (w : World) : (do eqGuard .eql 59 o1 o2 (.agg [.string x0, .int .i64 x1, .int .i64 x2].toArray) (.agg [.string y0, .int .i64 y1, .int .i64 y2].toArray); binOp .eql 59 (.agg [.string x0, .int .i64 x1, .int .i64 x2].toArray) (.agg [.string y0, .int .i64 y1, .int .i64 y2].toArray) : Sem Value).run Tryz.prog w = .ok (.bool (((x0.toList == y0.toList) && ((x1 == y1) && (x2 == y2))))) w := by
  have hm : Tryz.prog.eqGuardType Tryz.prog.depth 59 = false := by kernel_rfl
  rw [Sem.run_bind, run_eqGuard_agg _ _ _ _ _ _ _ hm]
  simp only [Result.andThen_ok]
  have hs31 : Tryz.prog.stoodInHeld 31 = false := by kernel_rfl
  have hs59 : Tryz.prog.stoodInHeld 59 = false := by kernel_rfl
  by_cases h0 : (x0.toList == y0.toList) = true <;> by_cases h1 : (x1 == y1) = true <;> by_cases h2 : (x2 == y2) = true <;>
  go_simp
theorem nev59 (x0 : ByteArray) (x1 : Int) (x2 : Int) (y0 : ByteArray) (y1 : Int) (y2 : Int) (o1 o2 : Operand) (w : World) : (do eqGuard .neq 59 o1 o2 (.agg [.string x0, .int .i64 x1, .int .i64 x2].toArray) (.agg [.string y0, .int .i64 y1, .int .i64 y2].toArray); binOp .neq 59 (.agg [.string x0, .int .i64 x1, .int .i64 x2].toArray) (.agg [.string y0, .int .i64 y1, .int .i64 y2].toArray) : Sem Value).run Tryz.prog w = .ok (.bool (!((x0.toList == y0.toList) && ((x1 == y1) && (x2 == y2))))) w := by
  have hm : Tryz.prog.eqGuardType Tryz.prog.depth 59 = false := by kernel_rfl
  rw [Sem.run_bind, run_eqGuard_agg _ _ _ _ _ _ _ hm]
  simp only [Result.andThen_ok]
  have hs31 : Tryz.prog.stoodInHeld 31 = false := by kernel_rfl
  have hs59 : Tryz.prog.stoodInHeld 59 = false := by kernel_rfl
  by_cases h0 : (x0.toList == y0.toList) = true <;> by_cases h1 : (x1 == y1) = true <;> by_cases h2 : (x2 == y2) = true <;>
  go_simp
theorem places59 : ∀ w, ((#[⟨"Key", 9, 0, false, "", "", 0⟩, ⟨"Stamp", 31, 1, false, "", "", 16⟩] : Array Field).mapM (fun f => do pure (f.offset, ← sizeOf f.type)) : Sem (Array (Nat × Nat))).run Tryz.prog w = .ok #[(0, 1), (1, 2)] w := fun w => by kernel_rfl
theorem elem65 : R.ElemT Tryz.prog 65 34 6 80 := ⟨Tryz.underlying65, by
  have h : (Tryz.prog.info? 34).map (fun i => ((match i.zero with | some z => z.cells.size | none => 99999), i.zero.isSome, i.size, i.bytes)) = some (6, true, 6, 80) := by kernel_rfl
  exact elem_of h⟩
theorem places67 : ∀ w, ((#[⟨"ID", 3, 0, false, "", "", 0⟩, ⟨"S", 66, 1, false, "", "", 8⟩, ⟨"Wait", 65, 2, false, "", "", 16⟩, ⟨"At", 31, 3, false, "", "", 40⟩] : Array Field).mapM (fun f => do pure (f.offset, ← sizeOf f.type)) : Sem (Array (Nat × Nat))).run Tryz.prog w = .ok #[(0, 1), (1, 1), (2, 1), (3, 2)] w := fun w => by kernel_rfl
theorem places68 : ∀ w, ((#[⟨"ID", 3, 0, false, "", "", 0⟩, ⟨"S", 66, 1, false, "", "", 8⟩, ⟨"Wait", 65, 2, false, "", "", 16⟩, ⟨"At", 31, 3, false, "", "", 40⟩] : Array Field).mapM (fun f => do pure (f.offset, ← sizeOf f.type)) : Sem (Array (Nat × Nat))).run Tryz.prog w = .ok #[(0, 1), (1, 1), (2, 1), (3, 2)] w := fun w => by kernel_rfl
theorem elem74 : R.ElemT Tryz.prog 74 108 2 40 := ⟨Tryz.underlying74, by
  have h : (Tryz.prog.info? 108).map (fun i => ((match i.zero with | some z => z.cells.size | none => 99999), i.zero.isSome, i.size, i.bytes)) = some (2, true, 2, 40) := by kernel_rfl
  exact elem_of h⟩
theorem places75 : ∀ w, ((#[⟨"R", 26, 0, false, "", "", 0⟩, ⟨"C", 74, 1, false, "", "", 24⟩] : Array Field).mapM (fun f => do pure (f.offset, ← sizeOf f.type)) : Sem (Array (Nat × Nat))).run Tryz.prog w = .ok #[(0, 1), (1, 1)] w := fun w => by kernel_rfl
theorem places76 : ∀ w, ((#[⟨"R", 26, 0, false, "", "", 0⟩, ⟨"C", 74, 1, false, "", "", 24⟩] : Array Field).mapM (fun f => do pure (f.offset, ← sizeOf f.type)) : Sem (Array (Nat × Nat))).run Tryz.prog w = .ok #[(0, 1), (1, 1)] w := fun w => by kernel_rfl
theorem places81 : ∀ w, ((#[⟨"shard", 79, 0, false, "", "archipelago/site", 0⟩] : Array Field).mapM (fun f => do pure (f.offset, ← sizeOf f.type)) : Sem (Array (Nat × Nat))).run Tryz.prog w = .ok #[(0, 1)] w := fun w => by kernel_rfl
theorem places82 : ∀ w, ((#[⟨"shard", 79, 0, false, "", "archipelago/site", 0⟩] : Array Field).mapM (fun f => do pure (f.offset, ← sizeOf f.type)) : Sem (Array (Nat × Nat))).run Tryz.prog w = .ok #[(0, 1)] w := fun w => by kernel_rfl
theorem places83 : ∀ w, ((#[⟨"kept", 82, 0, true, "", "archipelago/site", 0⟩, ⟨"id", 3, 1, false, "", "archipelago/site", 8⟩, ⟨"wait", 65, 2, false, "", "archipelago/site", 16⟩, ⟨"clock", 31, 3, false, "", "archipelago/site", 40⟩] : Array Field).mapM (fun f => do pure (f.offset, ← sizeOf f.type)) : Sem (Array (Nat × Nat))).run Tryz.prog w = .ok #[(0, 1), (1, 1), (2, 1), (3, 2)] w := fun w => by kernel_rfl
theorem places84 : ∀ w, ((#[⟨"kept", 82, 0, true, "", "archipelago/site", 0⟩, ⟨"id", 3, 1, false, "", "archipelago/site", 8⟩, ⟨"wait", 65, 2, false, "", "archipelago/site", 16⟩, ⟨"clock", 31, 3, false, "", "archipelago/site", 40⟩] : Array Field).mapM (fun f => do pure (f.offset, ← sizeOf f.type)) : Sem (Array (Nat × Nat))).run Tryz.prog w = .ok #[(0, 1), (1, 1), (2, 1), (3, 2)] w := fun w => by kernel_rfl
theorem elem97 : R.ElemT Tryz.prog 97 5 1 1 := ⟨Tryz.underlying97, by
  have h : (Tryz.prog.info? 5).map (fun i => ((match i.zero with | some z => z.cells.size | none => 99999), i.zero.isSome, i.size, i.bytes)) = some (1, true, 1, 1) := by kernel_rfl
  exact elem_of h⟩
theorem elem101 : R.ElemT Tryz.prog 101 31 2 16 := ⟨Tryz.underlying101, by
  have h : (Tryz.prog.info? 31).map (fun i => ((match i.zero with | some z => z.cells.size | none => 99999), i.zero.isSome, i.size, i.bytes)) = some (2, true, 2, 16) := by kernel_rfl
  exact elem_of h⟩
theorem places102 : ∀ w, ((#[⟨"V", 34, 0, false, "", "", 0⟩, ⟨"L", 65, 6, false, "", "", 80⟩, ⟨"Is", 4, 7, false, "", "", 104⟩] : Array Field).mapM (fun f => do pure (f.offset, ← sizeOf f.type)) : Sem (Array (Nat × Nat))).run Tryz.prog w = .ok #[(0, 6), (6, 1), (7, 1)] w := fun w => by kernel_rfl
theorem places103 : ∀ w, ((#[⟨"V", 34, 0, false, "", "", 0⟩, ⟨"L", 65, 6, false, "", "", 80⟩, ⟨"Is", 4, 7, false, "", "", 104⟩] : Array Field).mapM (fun f => do pure (f.offset, ← sizeOf f.type)) : Sem (Array (Nat × Nat))).run Tryz.prog w = .ok #[(0, 6), (6, 1), (7, 1)] w := fun w => by kernel_rfl
theorem places107 : ∀ w, ((#[⟨"Key", 9, 0, false, "", "", 0⟩, ⟨"L", 65, 1, false, "", "", 16⟩] : Array Field).mapM (fun f => do pure (f.offset, ← sizeOf f.type)) : Sem (Array (Nat × Nat))).run Tryz.prog w = .ok #[(0, 1), (1, 1)] w := fun w => by kernel_rfl
theorem places108 : ∀ w, ((#[⟨"Key", 9, 0, false, "", "", 0⟩, ⟨"L", 65, 1, false, "", "", 16⟩] : Array Field).mapM (fun f => do pure (f.offset, ← sizeOf f.type)) : Sem (Array (Nat × Nat))).run Tryz.prog w = .ok #[(0, 1), (1, 1)] w := fun w => by kernel_rfl
theorem places114 : ∀ w, ((#[⟨"ranges", 26, 0, false, "", "archipelago/shard", 0⟩, ⟨"chains", 113, 1, false, "", "archipelago/shard", 24⟩] : Array Field).mapM (fun f => do pure (f.offset, ← sizeOf f.type)) : Sem (Array (Nat × Nat))).run Tryz.prog w = .ok #[(0, 1), (1, 1)] w := fun w => by kernel_rfl
theorem places115 : ∀ w, ((#[⟨"ranges", 26, 0, false, "", "archipelago/shard", 0⟩, ⟨"chains", 113, 1, false, "", "archipelago/shard", 24⟩] : Array Field).mapM (fun f => do pure (f.offset, ← sizeOf f.type)) : Sem (Array (Nat × Nat))).run Tryz.prog w = .ok #[(0, 1), (1, 1)] w := fun w => by kernel_rfl
theorem elem121 : R.ElemT Tryz.prog 121 9 1 16 := ⟨Tryz.underlying121, by
  have h : (Tryz.prog.info? 9).map (fun i => ((match i.zero with | some z => z.cells.size | none => 99999), i.zero.isSome, i.size, i.bytes)) = some (1, true, 1, 16) := by kernel_rfl
  exact elem_of h⟩
theorem places183 : ∀ w, ((#[⟨"_interface", 17, 0, false, "", "runtime", 0⟩, ⟨"concrete", 17, 1, false, "", "runtime", 8⟩, ⟨"asserted", 17, 2, false, "", "runtime", 16⟩, ⟨"missingMethod", 9, 3, false, "", "runtime", 24⟩] : Array Field).mapM (fun f => do pure (f.offset, ← sizeOf f.type)) : Sem (Array (Nat × Nat))).run Tryz.prog w = .ok #[(0, 1), (1, 1), (2, 1), (3, 1)] w := fun w => by kernel_rfl
theorem places184 : ∀ w, ((#[⟨"_interface", 17, 0, false, "", "runtime", 0⟩, ⟨"concrete", 17, 1, false, "", "runtime", 8⟩, ⟨"asserted", 17, 2, false, "", "runtime", 16⟩, ⟨"missingMethod", 9, 3, false, "", "runtime", 24⟩] : Array Field).mapM (fun f => do pure (f.offset, ← sizeOf f.type)) : Sem (Array (Nat × Nat))).run Tryz.prog w = .ok #[(0, 1), (1, 1), (2, 1), (3, 1)] w := fun w => by kernel_rfl
theorem places186 : ∀ w, ((#[⟨"_", 185, 0, false, "", "runtime", 0⟩] : Array Field).mapM (fun f => do pure (f.offset, ← sizeOf f.type)) : Sem (Array (Nat × Nat))).run Tryz.prog w = .ok #[(0, 0)] w := fun w => by kernel_rfl
theorem places187 : ∀ w, ((#[⟨"_", 185, 0, false, "", "runtime", 0⟩] : Array Field).mapM (fun f => do pure (f.offset, ← sizeOf f.type)) : Sem (Array (Nat × Nat))).run Tryz.prog w = .ok #[(0, 0)] w := fun w => by kernel_rfl
theorem places194 : ∀ w, ((#[⟨"Size_", 12, 0, false, "", "", 0⟩, ⟨"PtrBytes", 12, 1, false, "", "", 8⟩, ⟨"Hash", 167, 2, false, "", "", 16⟩, ⟨"TFlag", 188, 3, false, "", "", 20⟩, ⟨"Align_", 5, 4, false, "", "", 21⟩, ⟨"FieldAlign_", 5, 5, false, "", "", 22⟩, ⟨"Kind_", 189, 6, false, "", "", 23⟩, ⟨"Equal", 190, 7, false, "", "", 24⟩, ⟨"GCData", 191, 8, false, "", "", 32⟩, ⟨"Str", 192, 9, false, "", "", 40⟩, ⟨"PtrToThis", 193, 10, false, "", "", 44⟩] : Array Field).mapM (fun f => do pure (f.offset, ← sizeOf f.type)) : Sem (Array (Nat × Nat))).run Tryz.prog w = .ok #[(0, 1), (1, 1), (2, 1), (3, 1), (4, 1), (5, 1), (6, 1), (7, 1), (8, 1), (9, 1), (10, 1)] w := fun w => by kernel_rfl
theorem places195 : ∀ w, ((#[⟨"Size_", 12, 0, false, "", "", 0⟩, ⟨"PtrBytes", 12, 1, false, "", "", 8⟩, ⟨"Hash", 167, 2, false, "", "", 16⟩, ⟨"TFlag", 188, 3, false, "", "", 20⟩, ⟨"Align_", 5, 4, false, "", "", 21⟩, ⟨"FieldAlign_", 5, 5, false, "", "", 22⟩, ⟨"Kind_", 189, 6, false, "", "", 23⟩, ⟨"Equal", 190, 7, false, "", "", 24⟩, ⟨"GCData", 191, 8, false, "", "", 32⟩, ⟨"Str", 192, 9, false, "", "", 40⟩, ⟨"PtrToThis", 193, 10, false, "", "", 44⟩] : Array Field).mapM (fun f => do pure (f.offset, ← sizeOf f.type)) : Sem (Array (Nat × Nat))).run Tryz.prog w = .ok #[(0, 1), (1, 1), (2, 1), (3, 1), (4, 1), (5, 1), (6, 1), (7, 1), (8, 1), (9, 1), (10, 1)] w := fun w => by kernel_rfl
end Go.Proofs.YtmbaeloiepjakaaGreat
