/- script.Read at the text of no steps. -/
import Derived.Test.YtocgnmklgklfnaaSRd1
import Derived.Recover
set_option linter.unusedSimpArgs false
set_option linter.unusedVariables false
namespace Go.Proofs.Ytocgnmklgklfnaa
open Go.RowKit A R
theorem rcatch_idle (p q : Addr) (w : World) :
    CallsD Try.prog 32 #[.pointer (some p), .pointer (some q)] .returning w fun e u' w' => e = .returned (.tuple #[]) ∧ u' = .returning ∧ w' = w := by
  refine callsD_of_wpS Try.func32 rfl fun c₀ cs hu => ?_
  apply wpS_seq
  apply wpS_region
  simp [wpOpsS, go_sem, recoverD, hu, Try.ntmps32, Exit.thenS]
  refine wpS_cond (t := false) (by simp [Act.eval, Array.replicate]) ?_
  simp only [Bool.false_eq_true, if_false]
  refine wpS_of_wp (wp_skip ?_)
  cases c₀
  simp_all [bodyPostS, results, Try.results32]
theorem rnum0_any (b : Nat) (w : World) (h : w.heap[b]? = some (.cells #[.string ⟨#[0]⟩, .int .i64 0] 68 (0, 0))) :
    Calls Try.prog 33 #[.pointer (some ⟨b, 0, none⟩), .int .u64 4096] w fun e w' => e = .returned (.int .i64 0) ∧ w'.heap[b]? = some (.cells #[.string ⟨#[0]⟩, .int .i64 1] 68 (0, 0)) ∧ w'.os = w.os ∧ w'.tape = w.tape ∧ w'.output = w.output ∧ w.heap.size ≤ w'.heap.size ∧ ∀ c, c < w.heap.size → c ≠ b → w'.heap[c]? = w.heap[c]? := by
  have hlt : b < w.heap.size := (Array.getElem?_eq_some_iff.1 h).1
  refine (rnum0.2 (fun c => c = b) w b _ [.int .u64 4096] (fun c hc => by rw [hc]; exact hlt) rfl h ?_ ?_).mono ?_
  · exact cellsc (.v _ (by decide)) rfl (cells1 (.v _ (by show A.inI 0; simp only [A.inI]; omega)) rfl)
  · exact ⟨rfl, fun j a x h1 h2 => by
      cases j with
      | zero => simp at h1 h2; subst h1 h2; exact .v _ (by show (0 : Int) ≤ 4096 ∧ (4096 : Int) ≤ _; omega)
      | succ j => simp at h1⟩
  · rintro e w' ⟨hx, xs', hh, v, he, hc, hr⟩
    obtain ⟨e1, _⟩ := repv hr
    refine ⟨by rw [he, e1], ?_, hx.os, hx.tape, hx.output, hx.size, fun c hc1 hc2 => hx.block c hc1 hc2⟩
    obtain ⟨x1, r1, hr1, k1, _, g1⟩ := uncons hc
    obtain ⟨x2, r2, hr2, k2, _, g2⟩ := uncons g1
    have h3 := uncons0 g2
    obtain ⟨rfl, _⟩ := repv k1
    obtain ⟨rfl, _⟩ := repv k2
    rw [hh]
    have : xs' = #[.string ⟨#[0]⟩, .int .i64 1] := by
      apply Array.ext'
      rw [hr1, hr2, h3]
    rw [this]
theorem push3 (h : Array Obj) (a b c : Obj) : (((h.push a).push b).push c)[h.size]? = some a ∧ (((h.push a).push b).push c)[h.size + 1]? = some b ∧ (((h.push a).push b).push c)[h.size + 1 + 1]? = some c := by
  refine ⟨?_, ?_, ?_⟩
  · rw [Array.getElem?_push, Array.getElem?_push, Array.getElem?_push]
    simp only [Array.size_push]
    rw [if_neg (by omega), if_neg (by omega)]; simp
  · rw [Array.getElem?_push, Array.getElem?_push]
    simp only [Array.size_push]
    rw [if_neg (by omega)]; simp
  · rw [Array.getElem?_push]
    simp only [Array.size_push]
    simp
set_option maxRecDepth 100000 in
set_option maxHeartbeats 2000000 in
theorem read0 (w : World) : Calls Try.prog 14 #[.string ⟨#[0]⟩] w fun e w' => e = .returned (.tuple #[.slice none 0 0, .bool true]) ∧ Ev.Ext w w' := by
  have hmf : ∀ (fn : Fn) (first cap : Array Value) (w : World), (Instr.makeFunc fn first cap).run Try.prog w = .ok (.func fn first cap) w := fun _ _ _ _ => rfl
  go_enter_defers Try.func14, Try.ntmps14
  go_wp2_with (go_at_call 33; refine (rnum0_any _ _ ?hb).mono ?_)
  case hb => exact (push3 w.heap _ _ _).2.2
  rintro e w3 ⟨rfl, hb3, ho1, ho2, ho3, hsz, hold⟩
  have hs0 : (((w.alloc (Obj.cells #[Value.slice none 0 0] 22)).alloc (Obj.cells #[Value.bool false] 4)).alloc (Obj.cells #[Value.string { data := #[0] }, Value.int IntKind.i64 0] 68)).heap.size = w.heap.size + 3 := by show (((w.heap.push _).push _).push _).size = _; simp
  have g0 : w3.heap[w.heap.size]? = some (.cells #[.slice none 0 0] 22 (0, 0)) := by
    rw [hold _ (by omega) (by omega)]; exact (push3 w.heap _ _ _).1
  have g1 : w3.heap[w.heap.size + 1]? = some (.cells #[.bool false] 4 (0, 0)) := by
    rw [hold _ (by omega) (by omega)]; exact (push3 w.heap _ _ _).2.1
  have c0 : w3.cell? ⟨w.heap.size, 0, none⟩ = some (.slice none 0 0) := by rw [Lib.cell_of_heap g0]; rfl
  have c1 : w3.cell? ⟨w.heap.size + 1, 0, none⟩ = some (.bool false) := by rw [Lib.cell_of_heap g1]; rfl
  have z0 : w3.frozen? ⟨w.heap.size, 0, none⟩ = false := Lib.frozen_of_heap g0 0
  have z1 : w3.frozen? ⟨w.heap.size + 1, 0, none⟩ = false := Lib.frozen_of_heap g1 0
  have d1 : w3.cell? ⟨w.heap.size + 1 + 1, 1, none⟩ = some (.int .i64 1) := by rw [Lib.cell_of_heap hb3]; rfl
  go_wp2
  apply wp_loop_once
  go_wp2
  refine leaves_cons (f := 32) (args := #[.pointer (some ⟨w.heap.size, 0, none⟩), .pointer (some ⟨w.heap.size + 1, 0, none⟩)]) (by simp) (by simp [go_sem]) ?_
  refine (rcatch_idle _ _ _).mono ?_
  rintro e u' w'' ⟨rfl, rfl, rfl⟩
  simp [Leaves, settle, results, Try.results14, go_sem, c0, c1, z0, z1]
  have hE : Below w.heap.size w w3 := ⟨ho1, ho2, ho3, by omega, fun c hc => by
    rw [hold c (by omega) (by omega)]
    show (((w.heap.push _).push _).push _)[c]? = w.heap[c]?
    rw [Array.getElem?_push, Array.getElem?_push, Array.getElem?_push]
    simp only [Array.size_push]
    rw [if_neg (by omega), if_neg (by omega), if_neg (by omega)]⟩
  exact (hE.setCell (p := ⟨w.heap.size, 0, none⟩) (Nat.le_refl _) _).setCell (p := ⟨w.heap.size + 1, 0, none⟩) (Nat.le_succ _) _
theorem read0_a : ACall Try.prog 14 [tv ⟨#[0]⟩] (.tup [.sl 12 [], bv true]) := ⟨fun _ _ => by kernel_rfl, fun M w vs hM ha => by
  obtain ⟨rfl, _⟩ := A.all1 ha
  refine (read0 w).mono ?_
  rintro e w' ⟨rfl, hx⟩
  refine ⟨_, rfl, hx, .tup _ [_, _] rfl fun j a x h1 h2 => ?_⟩
  match j with
  | 0 => simp at h1 h2; subst h1 h2; exact .nil 12 none 0
  | 1 => simp at h1 h2; subst h1 h2; exact .v _ trivial
  | j + 2 => simp at h1⟩
theorem sawake_a : ACall Try.prog 8 [] (bv true) := sawake_of read0_a
end Go.Proofs.Ytocgnmklgklfnaa
