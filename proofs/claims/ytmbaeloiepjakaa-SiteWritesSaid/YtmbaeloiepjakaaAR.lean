/- Abstract states: values of array types, and the greater of two numbers. -/
import Derived.Test.YtmbaeloiepjakaaAL
import Derived.Test.YtmbaeloiepjakaaADr
set_option linter.unusedSimpArgs false
set_option linter.unusedVariables false
namespace Go.Proofs.Ytmbaeloiepjakaa.A
open Go Go.RowKit
variable {P : Program} {st : ASt} {o : Oper}
/-- An array's value, built of its elements. -/
theorem Pu_buildArr {t e : TypeId} {len n : Nat} {ps : Array (Nat × Operand)} {aa : List (Nat × AV)} {zs : List Value} {r : List AV} (ho : o.op = .build t ps) (ht : P.underlying t = some (.array len e)) (hz : ∀ w, (zeroValue t).run P w = .ok (.agg zs.toArray) w)
    (hs : ∀ w, (sizeOf e).run P w = .ok n w) (hv : zs.all (fun z => decide (vok z)) = true) (ha : PartsOk st ps.toList aa) (hr : fillA (fun i => some (i * n, n)) (zs.map .v) aa = some r) : Pu P st o (.d (.row r)) := Pu_q fun B M ρ w a h2 _ => by
  obtain ⟨us, h3, h4⟩ := run_fill (M := M) (w := w) (ρ := ρ) (a := a) (fun i => some (i * n, n)) ps.toList aa _ r zs.toArray ha (fun p hp => h2 p.2 (by
    simp only [opsOf, ho, Op.operands]
    exact List.mem_map.2 ⟨p, hp, rfl⟩)) (cells_v hv) hr
  refine ⟨.agg us, ?_, h4.row⟩
  have e : (ps.map fun (p : Nat × Operand) => (p.1, a.eval p.2)).toList = ps.toList.map fun (i, x) => (i, a.eval x) := by simp
  simp only [execOp, ho, Instr.build, Sem.run_bind, hz, Result.andThen_ok, run_underlying ht, hs, Value.cells]
  rw [e]
  simp only [h3, Sem.run_pure, Sem.run_bind, Result.andThen_ok]
/-- The greater of two numbers. -/
theorem Pu_max2 {x y : Operand} {ts : Array TypeId} {a b c : Int} (ho : o.op = .call ⟨.builtin .max, #[x, y], ts⟩) (hx : st.ev x = .d (.v (.int .i64 a))) (hy : st.ev y = .d (.v (.int .i64 b))) (hc : c = if b > a then b else a) : Pu P st o (.d (.v (.int .i64 c))) := Pu_q fun B M ρ w act h2 h3 => by
  subst hc
  obtain ⟨e1, o1⟩ := ev_v h2 (mem_call ho x (by simp)) hx
  obtain ⟨e2, o2⟩ := ev_v h2 (mem_call ho y (by simp)) hy
  refine ⟨.int .i64 (if b > a then b else a), ?_, .v _ ?_⟩
  · simp [execOp, ho, resolve, invoke, builtin, Builtin.max_, Builtin.max2, e1, e2, Sem.run]
  · split
    · exact o2
    · exact o1
theorem Pu_int_and {t yt : TypeId} {x y : Operand} {k : IntKind} {a b r : Int} (ho : o.op = .binOp .and t x y yt) (hx : st.ev x = .d (.v (.int k a))) (hy : st.ev y = .d (.v (.int k b))) (hr : k.wrap (BitVec.ofInt k.bits a &&& BitVec.ofInt k.bits b).toNat = r) (hv : vok (.int k a) → vok (.int k r)) : Pu P st o (.d (.v (.int k r))) :=
  Pu_bin ho hx hy (fun h1 h2 w => by
    simp only [Sem.run_bind, guard_int, Result.andThen_ok, binOp]; simp only [Op.intBits, hr, ne_eq, not_true_eq_false, if_false, Sem.run_pure]) (fun h _ => hv h)
theorem Pu_int_xor {t yt : TypeId} {x y : Operand} {k : IntKind} {a b r : Int} (ho : o.op = .binOp .xor t x y yt) (hx : st.ev x = .d (.v (.int k a))) (hy : st.ev y = .d (.v (.int k b))) (hr : k.wrap (BitVec.ofInt k.bits a ^^^ BitVec.ofInt k.bits b).toNat = r) (hv : vok (.int k a) → vok (.int k r)) : Pu P st o (.d (.v (.int k r))) :=
  Pu_bin ho hx hy (fun h1 h2 w => by
    simp only [Sem.run_bind, guard_int, Result.andThen_ok, binOp]; simp only [Op.intBits, hr, ne_eq, not_true_eq_false, if_false, Sem.run_pure]) (fun h _ => hv h)
theorem Pu_convW {f t : TypeId} {x : Operand} {k k' k2 : IntKind} {a r : Int} (ho : o.op = .convert f t x) (hf : P.underlying f = some (.int k2)) (ht : P.underlying t = some (.int k')) (hx : st.ev x = .d (.v (.int k a))) (hw : k'.wrap a = r) (hv : vok (.int k' r)) : Pu P st o (.d (.v (.int k' r))) := Pu_q fun B M ρ w a2 h2 _ => by
  obtain ⟨e1, k1⟩ := ev_v h2 (x := x) (by simp [opsOf, ho, Op.operands]) hx
  refine ⟨.int k' r, ?_, .v _ hv⟩
  simp only [execOp, ho, e1, convert, Sem.run_bind, run_underlying hf, run_underlying ht, Result.andThen_ok, Conv.intToInt, hw, Sem.run_pure]
end Go.Proofs.Ytmbaeloiepjakaa.A
namespace Go.Proofs.Ytmbaeloiepjakaa.V
open Go.RowKit A R
theorem i64_ok (z : Int) : vok (.int .i64 (IntKind.i64.wrap z)) := by
  show A.inI _
  rw [IntKind.wrap_i64]
  simp only [A.inI]; omega
end Go.Proofs.Ytmbaeloiepjakaa.V
