/- epoch.between: the ranges between bounds, one by one. -/
import Derived.RangeFuncNested
import Derived.RangeFuncBound
import Derived.RangeFuncCalls
import Derived.RangeFuncLeaves
import Derived.RangeFuncBox
import Derived.Shelf.Abstract
import Derived.Shelf.RegionOpen
import Derived.OwnWalkIn
import Derived.TacticsInMore
import Derived.LoopNIn
import Derived.LoopIn
import Derived.Maps.AppendAt
import Derived.Test.YtfalbocgnmlncaaEBd
import Derived.Test.YtfalbocgnmlncaaEGr
import Derived.Test.YtfalbocgnmlncaaETa
set_option linter.unusedSimpArgs false
set_option linter.unusedVariables false
namespace Go.Proofs.Ytfalbocgnmlncaa
open Go.RowKit Go.Shelf
attribute [local go_sem] Oper.semAt_some
namespace T
/-- The bound ahead of the j-th one. -/
def atF (ss : List ByteArray) : Nat → ByteArray
  | 0 => ⟨#[]⟩
  | j + 1 => ss[j]?.getD ⟨#[]⟩
/-- The first k ranges between bounds. -/
def upto (ss : List ByteArray) (k : Nat) : List Rng := (List.range k).map fun j => ⟨atF ss j, ss[j]?.getD ⟨#[]⟩⟩
theorem upto_succ (ss : List ByteArray) (k : Nat) : upto ss (k + 1) = upto ss k ++ [⟨atF ss k, ss[k]?.getD ⟨#[]⟩⟩] := by simp [upto, List.range_succ]
theorem upto_len (ss : List ByteArray) (k : Nat) : (upto ss k).length = k := by simp [upto]
/-- All of them. -/
def parts (ss : List ByteArray) : List Rng := upto ss (ss.length + 1)
theorem parts_eq (ss : List ByteArray) : parts ss = upto ss ss.length ++ [⟨atF ss ss.length, ⟨#[]⟩⟩] := by
  unfold parts
  rw [upto_succ]
  simp
def encR (r : Rng) : Value := .agg #[.string r.f, .string r.t]
end T
/-- All blocks below n, but x, lie as they lay. -/
structure KeepX (x n : Nat) (W W' : World) : Prop where
  os : W'.os = W.os
  tape : W'.tape = W.tape
  output : W'.output = W.output
  size : W.heap.size ≤ W'.heap.size
  block : ∀ b, b < n → b ≠ x → W'.heap[b]? = W.heap[b]?
theorem KeepX.refl (x n : Nat) (W : World) : KeepX x n W W := ⟨rfl, rfl, rfl, Nat.le_refl _, fun _ _ _ => rfl⟩
theorem KeepX.trans {x n : Nat} {A B C : World} (h : KeepX x n A B) (k : KeepX x n B C) : KeepX x n A C := ⟨k.os.trans h.os, k.tape.trans h.tape, k.output.trans h.output, Nat.le_trans h.size k.size, fun b h1 h2 => (k.block b h1 h2).trans (h.block b h1 h2)⟩
theorem KeepX.of_below {x n : Nat} {A B : World} (h : Below n A B) : KeepX x n A B := ⟨h.os, h.tape, h.output, h.size, fun b hb _ => h.block b hb⟩
theorem KeepX.cell {x n b o : Nat} {A B : World} (h : KeepX x n A B) (hb : b < n) (hx : b ≠ x) : B.cell? ⟨b, o, none⟩ = A.cell? ⟨b, o, none⟩ := by
  simp only [World.cell?, h.block b hb hx]
theorem keepX_b {x n₀ : Nat} {w : World} (hn : n₀ ≤ w.heap.size) (W : World) (l : Nat) (o o' : Obj) (hl : w.heap.size ≤ l) (h : W.heap[l]? = some o) (h1 : o.isCells = false) (h2 : o.isWalk = false) : KeepX x n₀ W (W.putObj l o') := .of_below (belowK_b hn W l o o' hl h h1 h2)
set_option maxRecDepth 100000 in
set_option maxHeartbeats 2000000 in
theorem between1_in (F : Fence) (n : Nat) (h7 : F.fn 44) (hro : F.round = none) (hn : 1 ≤ n) (l Bs os x0 n₀ cap : Nat) (a0 : Option Addr) (ss : List ByteArray) (hreach : ss.length ≤ 1000000) (J Jx : List Rng → World → Prop)
    (hY : ∀ pre x W, J pre W → pre.length < ss.length + 1 → YieldAt F (n - 1) Try.prog l #[T.encR x] W fun e W' =>
      (e = .returned (.bool true) ∧ J (pre ++ [x]) W' ∧ KeepX x0 n₀ W W') ∨ (e = .returned (.bool false) ∧ Jx (pre ++ [x]) W'))
    (W : World) (hBs : W.cell? ⟨Bs, os, none⟩ = some (.slice a0 ss.length cap)) (hc : ∀ j, j < ss.length → ∃ b off, a0 = some ⟨b, off, none⟩ ∧ b < n₀ ∧ b ≠ x0 ∧ W.cell? ⟨b, off + j, none⟩ = some (.string (ss[j]?.getD ⟨#[]⟩))) (h0 : J [] W) :
    CallsIn F n Try.prog 44 #[.func (.yield l) #[] #[], .pointer (some ⟨Bs, os, none⟩)] W fun e W' => (∃ v, e = .returned v) ∧
      ((∃ ys, ys = T.parts ss ∧ J ys W') ∨ (∃ pre, True ∧ Jx pre W')) := by
  refine callsIn_of_wp Try.func44 rfl h7 ?_ hro
  simp only [Try.ntmps44, List.size_toArray, List.length_cons, List.length_nil, Nat.reduceAdd, Nat.reduceSub, Array.replicate_succ, Array.replicate_zero, List.push_toArray, List.append_toArray, List.nil_append, List.cons_append]
  gi_wp2
  gi_loopw [3, 8] (fun s i wr => ∃ k : Nat, k ≤ ss.length ∧ i = .int .i64 k ∧ s = .string (T.atF ss k) ∧ J (T.upto ss k) wr ∧ KeepX x0 n₀ W wr)
    (fun _ i _ => ss.length - (intOf i).toNat)
  case atStart => exact ⟨0, Nat.zero_le _, rfl, rfl, h0, KeepX.refl _ _ _⟩
  case round =>
    obtain ⟨k, hk, rfl, rfl, hJs, hnx⟩ := hrel
    by_cases hlt : k < ss.length
    · have eg : ss[k]?.getD ⟨#[]⟩ = ss[k] := by simp [hlt]
      obtain ⟨fn, tmps, assign, body, hy, hR⟩ := hY _ ⟨T.atF ss k, ss[k]⟩ wr hJs (by rw [T.upto_len]; omega)
      dsimp only [T.encR] at hy
      obtain ⟨b, off, rfl, hb, hbx, hc1⟩ := hc k hlt
      have hcx' : wr.cell? ⟨b, off + k, none⟩ = some (.string ss[k]) := by rw [← eg]; exact (hnx.cell hb hbx).trans hc1
      gi_wp2
      refine hR.mono ?_
      rintro e W3 (⟨rfl, hJ3, hk3⟩ | ⟨rfl, hJx3⟩)
      · gi_wp2
        go_roundw
        case rel => exact ⟨k + 1, by omega, by simp, by show _ = Value.string (ss[k]?.getD ⟨#[]⟩); rw [eg], by rw [T.upto_succ, eg]; exact hJ3, hnx.trans hk3⟩
        case measure => simp [intOf]; omega
      · gi_wp2
        refine bodyPost_ret (results_none rfl _ _ _) rfl ?_
        exact ⟨⟨_, rfl⟩, .inr ⟨_, trivial, hJx3⟩⟩
    · obtain rfl : k = ss.length := by omega
      obtain ⟨fn, tmps, assign, body, hy, hR⟩ := hY _ ⟨T.atF ss ss.length, ⟨#[]⟩⟩ wr hJs (by rw [T.upto_len]; omega)
      dsimp only [T.encR] at hy
      gi_wp2
      refine hR.mono ?_
      rintro e W3 (⟨rfl, hJ3, hk3⟩ | ⟨rfl, hJx3⟩)
      · gi_wp2
        go_end0
        exact ⟨⟨_, rfl⟩, .inl ⟨_, rfl, by rw [T.parts_eq]; exact hJ3⟩⟩
      · gi_wp2
        go_end0
        exact ⟨⟨_, rfl⟩, .inr ⟨_, trivial, hJx3⟩⟩
set_option maxHeartbeats 1000000 in
theorem between_in (F : Fence) (n : Nat) (h5 : F.fn 31) (hro : F.round = none) (a : Option Addr) (len cap : Nat) (w : World) :
    CallsIn F n Try.prog 31 #[.slice a len cap] w fun e w' => e = .returned (.func (.func 44) #[] #[.pointer (some ⟨w.heap.size, 0, none⟩)]) ∧ w' = w.alloc (.cells #[.slice a len cap] 59) := by
  refine callsIn_of_wp Try.func31 rfl h5 ?_ hro
  simp only [Try.ntmps31, List.size_toArray, List.length_cons, List.length_nil, Nat.reduceAdd, Nat.reduceSub, Array.replicate_succ, Array.replicate_zero, List.push_toArray, List.append_toArray, List.nil_append, List.cons_append]
  gi_wp2
  go_ret
  exact ⟨rfl, rfl⟩
theorem between_stops (F : Fence) (n : Nat) (h7 : F.fn 44) (hro : F.round = none) (hn : 1 ≤ n) (Bs os x0 n₀ cap : Nat) (a0 : Option Addr) (ss : List ByteArray) (hreach : ss.length ≤ 1000000) (w : World) (hBs : Bs < w.heap.size) (hn₀ : n₀ ≤ w.heap.size)
    (hc : w.cell? ⟨Bs, os, none⟩ = some (.slice a0 ss.length cap)) (hI : ∀ j, j < ss.length → ∃ b off, a0 = some ⟨b, off, none⟩ ∧ b < n₀ ∧ b ≠ x0 ∧ w.cell? ⟨b, off + j, none⟩ = some (.string (ss[j]?.getD ⟨#[]⟩))) :
    SeqStopsK F n Try.prog 44 #[.pointer (some ⟨Bs, os, none⟩)] (fun x : Rng => #[T.encR x]) (KeepX x0 n₀) (fun ys => ys = T.parts ss) (fun _ => True) (ss.length + 1) w := fun l J Jx W hW _ _ hY h0 =>
  between1_in F n h7 hro hn l Bs os x0 n₀ cap a0 ss hreach J Jx hY W ((hW.cell (p := ⟨Bs, os, none⟩) hBs).trans hc) (fun j hj => by
    obtain ⟨b, off, h1, h2, h3, h4⟩ := hI j hj
    exact ⟨b, off, h1, h2, h3, ((hW.mono hn₀).cell (p := ⟨b, off + j, none⟩) h2).trans h4⟩) h0
end Go.Proofs.Ytfalbocgnmlncaa
