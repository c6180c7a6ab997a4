/- The seat's types: elements of slices, places of fields. -/
import Derived.Test.YtbdejgbjelfbeaaAB
import Derived.Test.YtbdejgbjelfbeaaProg
set_option linter.unusedSimpArgs false
set_option linter.unusedVariables false
namespace Go.Proofs.Ytbdejgbjelfbeaa
open Go.RowKit A
theorem places7 : ∀ w, ((#[⟨ "x", 2, 0, false, "", "runtime", 0⟩, ⟨ "y", 3, 1, false, "", "runtime", 8⟩, ⟨ "signed", 4, 2, false, "", "runtime", 16⟩, ⟨ "code", 6, 3, false, "", "runtime", 17⟩] : Array Field).mapM (fun f => do pure (f.offset, ← sizeOf f.type)) : Sem (Array (Nat × Nat))).run Try.prog w = .ok #[(0, 1), (1, 1), (2, 1), (3, 1)] w := fun w => by kernel_rfl
theorem places8 : ∀ w, ((#[⟨ "x", 2, 0, false, "", "runtime", 0⟩, ⟨ "y", 3, 1, false, "", "runtime", 8⟩, ⟨ "signed", 4, 2, false, "", "runtime", 16⟩, ⟨ "code", 6, 3, false, "", "runtime", 17⟩] : Array Field).mapM (fun f => do pure (f.offset, ← sizeOf f.type)) : Sem (Array (Nat × Nat))).run Try.prog w = .ok #[(0, 1), (1, 1), (2, 1), (3, 1)] w := fun w => by kernel_rfl
theorem places13 : ∀ w, ((#[⟨ "msg", 9, 0, false, "", "runtime", 0⟩, ⟨ "addr", 12, 1, false, "", "runtime", 16⟩] : Array Field).mapM (fun f => do pure (f.offset, ← sizeOf f.type)) : Sem (Array (Nat × Nat))).run Try.prog w = .ok #[(0, 1), (1, 1)] w := fun w => by kernel_rfl
theorem places14 : ∀ w, ((#[⟨ "msg", 9, 0, false, "", "runtime", 0⟩, ⟨ "addr", 12, 1, false, "", "runtime", 16⟩] : Array Field).mapM (fun f => do pure (f.offset, ← sizeOf f.type)) : Sem (Array (Nat × Nat))).run Try.prog w = .ok #[(0, 1), (1, 1)] w := fun w => by kernel_rfl
theorem places18 : ∀ w, ((#[⟨ "typ", 17, 0, false, "", "internal/runtime/maps", 0⟩] : Array Field).mapM (fun f => do pure (f.offset, ← sizeOf f.type)) : Sem (Array (Nat × Nat))).run Try.prog w = .ok #[(0, 1)] w := fun w => by kernel_rfl
theorem places19 : ∀ w, ((#[⟨ "typ", 17, 0, false, "", "internal/runtime/maps", 0⟩] : Array Field).mapM (fun f => do pure (f.offset, ← sizeOf f.type)) : Sem (Array (Nat × Nat))).run Try.prog w = .ok #[(0, 1)] w := fun w => by kernel_rfl
theorem elem22 : R.ElemT Try.prog 22 29 6 72 := ⟨Try.underlying22, by
  have h : (Try.prog.info? 29).map (fun i => ((match i.zero with | some z => z.cells.size | none => 99999), i.zero.isSome, i.size, i.bytes)) = some (6, true, 6, 72) := by kernel_rfl
  exact elem_of h⟩
theorem places25 : ∀ w, ((#[⟨ "N", 3, 0, false, "", "", 0⟩, ⟨ "Site", 3, 1, false, "", "", 8⟩] : Array Field).mapM (fun f => do pure (f.offset, ← sizeOf f.type)) : Sem (Array (Nat × Nat))).run Try.prog w = .ok #[(0, 1), (1, 1)] w := fun w => by kernel_rfl
theorem eqv26 (x0 : Int) (x1 : Int) (y0 : Int) (y1 : Int) (o1 o2 : Operand) (w : World) : (do eqGuard .eql 26 o1 o2 (.agg [.int .i64 x0, .int .i64 x1].toArray) (.agg [.int .i64 y0, .int .i64 y1].toArray); binOp .eql 26 (.agg [.int .i64 x0, .int .i64 x1].toArray) (.agg [.int .i64 y0, .int .i64 y1].toArray) : Sem Value).run Try.prog w = .ok (.bool (((x0 == y0) && (x1 == y1)))) w := by
  have hm : Try.prog.eqGuardType Try.prog.depth 26 = false := by kernel_rfl
  rw [Sem.run_bind, run_eqGuard_agg _ _ _ _ _ _ _ hm]
  simp only [Result.andThen_ok]
  have hs26 : Try.prog.stoodInHeld 26 = false := by kernel_rfl
  by_cases h0 : (x0 == y0) = true <;> by_cases h1 : (x1 == y1) = true <;>
  go_simp
theorem nev26 (x0 : Int) (x1 : Int) (y0 : Int) (y1 : Int) (o1 o2 : Operand) (w : World) : (do eqGuard .neq 26 o1 o2 (.agg [.int .i64 x0, .int .i64 x1].toArray) (.agg [.int .i64 y0, .int .i64 y1].toArray); binOp .neq 26 (.agg [.int .i64 x0, .int .i64 x1].toArray) (.agg [.int .i64 y0, .int .i64 y1].toArray) : Sem Value).run Try.prog w = .ok (.bool (!((x0 == y0) && (x1 == y1)))) w := by
  have hm : Try.prog.eqGuardType Try.prog.depth 26 = false := by kernel_rfl
  rw [Sem.run_bind, run_eqGuard_agg _ _ _ _ _ _ _ hm]
  simp only [Result.andThen_ok]
  have hs26 : Try.prog.stoodInHeld 26 = false := by kernel_rfl
  by_cases h0 : (x0 == y0) = true <;> by_cases h1 : (x1 == y1) = true <;>
  go_simp
theorem places26 : ∀ w, ((#[⟨ "N", 3, 0, false, "", "", 0⟩, ⟨ "Site", 3, 1, false, "", "", 8⟩] : Array Field).mapM (fun f => do pure (f.offset, ← sizeOf f.type)) : Sem (Array (Nat × Nat))).run Try.prog w = .ok #[(0, 1), (1, 1)] w := fun w => by kernel_rfl
theorem elem27 : R.ElemT Try.prog 27 56 3 32 := ⟨Try.underlying27, by
  have h : (Try.prog.info? 56).map (fun i => ((match i.zero with | some z => z.cells.size | none => 99999), i.zero.isSome, i.size, i.bytes)) = some (3, true, 3, 32) := by kernel_rfl
  exact elem_of h⟩
theorem places28 : ∀ w, ((#[⟨ "Kind", 3, 0, false, "", "", 0⟩, ⟨ "Client", 3, 1, false, "", "", 8⟩, ⟨ "Key", 9, 2, false, "", "", 16⟩, ⟨ "Stamp", 26, 3, false, "", "", 32⟩, ⟨ "Seen", 27, 5, false, "", "", 48⟩] : Array Field).mapM (fun f => do pure (f.offset, ← sizeOf f.type)) : Sem (Array (Nat × Nat))).run Try.prog w = .ok #[(0, 1), (1, 1), (2, 1), (3, 2), (5, 1)] w := fun w => by kernel_rfl
theorem places29 : ∀ w, ((#[⟨ "Kind", 3, 0, false, "", "", 0⟩, ⟨ "Client", 3, 1, false, "", "", 8⟩, ⟨ "Key", 9, 2, false, "", "", 16⟩, ⟨ "Stamp", 26, 3, false, "", "", 32⟩, ⟨ "Seen", 27, 5, false, "", "", 48⟩] : Array Field).mapM (fun f => do pure (f.offset, ← sizeOf f.type)) : Sem (Array (Nat × Nat))).run Try.prog w = .ok #[(0, 1), (1, 1), (2, 1), (3, 2), (5, 1)] w := fun w => by kernel_rfl
theorem elem30 : R.ElemT Try.prog 30 9 1 16 := ⟨Try.underlying30, by
  have h : (Try.prog.info? 9).map (fun i => ((match i.zero with | some z => z.cells.size | none => 99999), i.zero.isSome, i.size, i.bytes)) = some (1, true, 1, 16) := by kernel_rfl
  exact elem_of h⟩
theorem elem34 : R.ElemT Try.prog 34 3 1 8 := ⟨Try.underlying34, by
  have h : (Try.prog.info? 3).map (fun i => ((match i.zero with | some z => z.cells.size | none => 99999), i.zero.isSome, i.size, i.bytes)) = some (1, true, 1, 8) := by kernel_rfl
  exact elem_of h⟩
theorem elem43 : R.ElemT Try.prog 43 5 1 1 := ⟨Try.underlying43, by
  have h : (Try.prog.info? 5).map (fun i => ((match i.zero with | some z => z.cells.size | none => 99999), i.zero.isSome, i.size, i.bytes)) = some (1, true, 1, 1) := by kernel_rfl
  exact elem_of h⟩
theorem places55 : ∀ w, ((#[⟨ "Key", 9, 0, false, "", "", 0⟩, ⟨ "Stamp", 26, 1, false, "", "", 16⟩] : Array Field).mapM (fun f => do pure (f.offset, ← sizeOf f.type)) : Sem (Array (Nat × Nat))).run Try.prog w = .ok #[(0, 1), (1, 2)] w := fun w => by kernel_rfl
theorem eqv56 (x0 : ByteArray) (x1 : Int) (x2 : Int) (y0 : ByteArray) (y1 : Int) (y2 : Int) (o1 o2 : Operand) (w : World) : (do eqGuard .eql 56 o1 o2 (.agg [.string x0, .int .i64 x1, .int .i64 x2].toArray) (.agg [.string y0, .int .i64 y1, .int .i64 y2].toArray); binOp .eql 56 (.agg [.string x0, .int .i64 x1, .int .i64 x2].toArray) (.agg [.string y0, .int .i64 y1, .int .i64 y2].toArray) : Sem Value).run Try.prog w = .ok (.bool (((x0.toList == y0.toList) && ((x1 == y1) && (x2 == y2))))) w := by
  have hm : Try.prog.eqGuardType Try.prog.depth 56 = false := by kernel_rfl
  rw [Sem.run_bind, run_eqGuard_agg _ _ _ _ _ _ _ hm]
  simp only [Result.andThen_ok]
  have hs26 : Try.prog.stoodInHeld 26 = false := by kernel_rfl
  have hs56 : Try.prog.stoodInHeld 56 = false := by kernel_rfl
  by_cases h0 : (x0.toList == y0.toList) = true <;> by_cases h1 : (x1 == y1) = true <;> by_cases h2 : (x2 == y2) = true <;>
  go_simp
theorem nev56 (x0 : ByteArray) (x1 : Int) (x2 : Int) (y0 : ByteArray) (y1 : Int) (y2 : Int) (o1 o2 : Operand) (w : World) : (do eqGuard .neq 56 o1 o2 (.agg [.string x0, .int .i64 x1, .int .i64 x2].toArray) (.agg [.string y0, .int .i64 y1, .int .i64 y2].toArray); binOp .neq 56 (.agg [.string x0, .int .i64 x1, .int .i64 x2].toArray) (.agg [.string y0, .int .i64 y1, .int .i64 y2].toArray) : Sem Value).run Try.prog w = .ok (.bool (!((x0.toList == y0.toList) && ((x1 == y1) && (x2 == y2))))) w := by
  have hm : Try.prog.eqGuardType Try.prog.depth 56 = false := by kernel_rfl
  rw [Sem.run_bind, run_eqGuard_agg _ _ _ _ _ _ _ hm]
  simp only [Result.andThen_ok]
  have hs26 : Try.prog.stoodInHeld 26 = false := by kernel_rfl
  have hs56 : Try.prog.stoodInHeld 56 = false := by kernel_rfl
  by_cases h0 : (x0.toList == y0.toList) = true <;> by_cases h1 : (x1 == y1) = true <;> by_cases h2 : (x2 == y2) = true <;>
  go_simp
theorem places56 : ∀ w, ((#[⟨ "Key", 9, 0, false, "", "", 0⟩, ⟨ "Stamp", 26, 1, false, "", "", 16⟩] : Array Field).mapM (fun f => do pure (f.offset, ← sizeOf f.type)) : Sem (Array (Nat × Nat))).run Try.prog w = .ok #[(0, 1), (1, 2)] w := fun w => by kernel_rfl
theorem places65 : ∀ w, ((#[⟨ "s", 9, 0, false, "", "archipelago/ledger", 0⟩, ⟨ "at", 3, 1, false, "", "archipelago/ledger", 16⟩, ⟨ "last", 64, 2, false, "", "archipelago/ledger", 24⟩] : Array Field).mapM (fun f => do pure (f.offset, ← sizeOf f.type)) : Sem (Array (Nat × Nat))).run Try.prog w = .ok #[(0, 1), (1, 1), (2, 1)] w := fun w => by kernel_rfl
theorem places66 : ∀ w, ((#[⟨ "s", 9, 0, false, "", "archipelago/ledger", 0⟩, ⟨ "at", 3, 1, false, "", "archipelago/ledger", 16⟩, ⟨ "last", 64, 2, false, "", "archipelago/ledger", 24⟩] : Array Field).mapM (fun f => do pure (f.offset, ← sizeOf f.type)) : Sem (Array (Nat × Nat))).run Try.prog w = .ok #[(0, 1), (1, 1), (2, 1)] w := fun w => by kernel_rfl
theorem places70 : ∀ w, ((#[⟨ "S", 9, 0, false, "", "", 0⟩, ⟨ "At", 3, 1, false, "", "", 16⟩, ⟨ "Bad", 4, 2, false, "", "", 24⟩] : Array Field).mapM (fun f => do pure (f.offset, ← sizeOf f.type)) : Sem (Array (Nat × Nat))).run Try.prog w = .ok #[(0, 1), (1, 1), (2, 1)] w := fun w => by kernel_rfl
theorem places71 : ∀ w, ((#[⟨ "S", 9, 0, false, "", "", 0⟩, ⟨ "At", 3, 1, false, "", "", 16⟩, ⟨ "Bad", 4, 2, false, "", "", 24⟩] : Array Field).mapM (fun f => do pure (f.offset, ← sizeOf f.type)) : Sem (Array (Nat × Nat))).run Try.prog w = .ok #[(0, 1), (1, 1), (2, 1)] w := fun w => by kernel_rfl
theorem places76 : ∀ w, ((#[⟨ "addr", 75, 0, false, "", "strings", 0⟩, ⟨ "buf", 43, 1, false, "", "strings", 8⟩] : Array Field).mapM (fun f => do pure (f.offset, ← sizeOf f.type)) : Sem (Array (Nat × Nat))).run Try.prog w = .ok #[(0, 1), (1, 1)] w := fun w => by kernel_rfl
theorem places77 : ∀ w, ((#[⟨ "addr", 75, 0, false, "", "strings", 0⟩, ⟨ "buf", 43, 1, false, "", "strings", 8⟩] : Array Field).mapM (fun f => do pure (f.offset, ← sizeOf f.type)) : Sem (Array (Nat × Nat))).run Try.prog w = .ok #[(0, 1), (1, 1)] w := fun w => by kernel_rfl
theorem places101 : ∀ w, ((#[⟨ "N", 51, 0, false, "", "", 0⟩, ⟨ "End", 3, 1, false, "", "", 8⟩] : Array Field).mapM (fun f => do pure (f.offset, ← sizeOf f.type)) : Sem (Array (Nat × Nat))).run Try.prog w = .ok #[(0, 1), (1, 1)] w := fun w => by kernel_rfl
theorem places102 : ∀ w, ((#[⟨ "N", 51, 0, false, "", "", 0⟩, ⟨ "End", 3, 1, false, "", "", 8⟩] : Array Field).mapM (fun f => do pure (f.offset, ← sizeOf f.type)) : Sem (Array (Nat × Nat))).run Try.prog w = .ok #[(0, 1), (1, 1)] w := fun w => by kernel_rfl
theorem places104 : ∀ w, ((#[⟨ "S", 9, 0, false, "", "", 0⟩, ⟨ "End", 3, 1, false, "", "", 16⟩] : Array Field).mapM (fun f => do pure (f.offset, ← sizeOf f.type)) : Sem (Array (Nat × Nat))).run Try.prog w = .ok #[(0, 1), (1, 1)] w := fun w => by kernel_rfl
theorem places105 : ∀ w, ((#[⟨ "S", 9, 0, false, "", "", 0⟩, ⟨ "End", 3, 1, false, "", "", 16⟩] : Array Field).mapM (fun f => do pure (f.offset, ← sizeOf f.type)) : Sem (Array (Nat × Nat))).run Try.prog w = .ok #[(0, 1), (1, 1)] w := fun w => by kernel_rfl
theorem places107 : ∀ w, ((#[⟨ "S", 26, 0, false, "", "", 0⟩, ⟨ "End", 3, 2, false, "", "", 16⟩] : Array Field).mapM (fun f => do pure (f.offset, ← sizeOf f.type)) : Sem (Array (Nat × Nat))).run Try.prog w = .ok #[(0, 2), (2, 1)] w := fun w => by kernel_rfl
theorem places108 : ∀ w, ((#[⟨ "S", 26, 0, false, "", "", 0⟩, ⟨ "End", 3, 2, false, "", "", 16⟩] : Array Field).mapM (fun f => do pure (f.offset, ← sizeOf f.type)) : Sem (Array (Nat × Nat))).run Try.prog w = .ok #[(0, 2), (2, 1)] w := fun w => by kernel_rfl
theorem elem110 : R.ElemT Try.prog 110 51 1 8 := ⟨Try.underlying110, by
  have h : (Try.prog.info? 51).map (fun i => ((match i.zero with | some z => z.cells.size | none => 99999), i.zero.isSome, i.size, i.bytes)) = some (1, true, 1, 8) := by kernel_rfl
  exact elem_of h⟩
theorem places163 : ∀ w, ((#[⟨ "_interface", 17, 0, false, "", "runtime", 0⟩, ⟨ "concrete", 17, 1, false, "", "runtime", 8⟩, ⟨ "asserted", 17, 2, false, "", "runtime", 16⟩, ⟨ "missingMethod", 9, 3, false, "", "runtime", 24⟩] : Array Field).mapM (fun f => do pure (f.offset, ← sizeOf f.type)) : Sem (Array (Nat × Nat))).run Try.prog w = .ok #[(0, 1), (1, 1), (2, 1), (3, 1)] w := fun w => by kernel_rfl
theorem places164 : ∀ w, ((#[⟨ "_interface", 17, 0, false, "", "runtime", 0⟩, ⟨ "concrete", 17, 1, false, "", "runtime", 8⟩, ⟨ "asserted", 17, 2, false, "", "runtime", 16⟩, ⟨ "missingMethod", 9, 3, false, "", "runtime", 24⟩] : Array Field).mapM (fun f => do pure (f.offset, ← sizeOf f.type)) : Sem (Array (Nat × Nat))).run Try.prog w = .ok #[(0, 1), (1, 1), (2, 1), (3, 1)] w := fun w => by kernel_rfl
theorem places166 : ∀ w, ((#[⟨ "_", 165, 0, false, "", "runtime", 0⟩] : Array Field).mapM (fun f => do pure (f.offset, ← sizeOf f.type)) : Sem (Array (Nat × Nat))).run Try.prog w = .ok #[(0, 0)] w := fun w => by kernel_rfl
theorem places167 : ∀ w, ((#[⟨ "_", 165, 0, false, "", "runtime", 0⟩] : Array Field).mapM (fun f => do pure (f.offset, ← sizeOf f.type)) : Sem (Array (Nat × Nat))).run Try.prog w = .ok #[(0, 0)] w := fun w => by kernel_rfl
theorem places174 : ∀ w, ((#[⟨ "Size_", 12, 0, false, "", "", 0⟩, ⟨ "PtrBytes", 12, 1, false, "", "", 8⟩, ⟨ "Hash", 125, 2, false, "", "", 16⟩, ⟨ "TFlag", 169, 3, false, "", "", 20⟩, ⟨ "Align_", 5, 4, false, "", "", 21⟩, ⟨ "FieldAlign_", 5, 5, false, "", "", 22⟩, ⟨ "Kind_", 170, 6, false, "", "", 23⟩, ⟨ "Equal", 171, 7, false, "", "", 24⟩, ⟨ "GCData", 114, 8, false, "", "", 32⟩, ⟨ "Str", 172, 9, false, "", "", 40⟩, ⟨ "PtrToThis", 173, 10, false, "", "", 44⟩] : Array Field).mapM (fun f => do pure (f.offset, ← sizeOf f.type)) : Sem (Array (Nat × Nat))).run Try.prog w = .ok #[(0, 1), (1, 1), (2, 1), (3, 1), (4, 1), (5, 1), (6, 1), (7, 1), (8, 1), (9, 1), (10, 1)] w := fun w => by kernel_rfl
theorem places175 : ∀ w, ((#[⟨ "Size_", 12, 0, false, "", "", 0⟩, ⟨ "PtrBytes", 12, 1, false, "", "", 8⟩, ⟨ "Hash", 125, 2, false, "", "", 16⟩, ⟨ "TFlag", 169, 3, false, "", "", 20⟩, ⟨ "Align_", 5, 4, false, "", "", 21⟩, ⟨ "FieldAlign_", 5, 5, false, "", "", 22⟩, ⟨ "Kind_", 170, 6, false, "", "", 23⟩, ⟨ "Equal", 171, 7, false, "", "", 24⟩, ⟨ "GCData", 114, 8, false, "", "", 32⟩, ⟨ "Str", 172, 9, false, "", "", 40⟩, ⟨ "PtrToThis", 173, 10, false, "", "", 44⟩] : Array Field).mapM (fun f => do pure (f.offset, ← sizeOf f.type)) : Sem (Array (Nat × Nat))).run Try.prog w = .ok #[(0, 1), (1, 1), (2, 1), (3, 1), (4, 1), (5, 1), (6, 1), (7, 1), (8, 1), (9, 1), (10, 1)] w := fun w => by kernel_rfl
end Go.Proofs.Ytbdejgbjelfbeaa
