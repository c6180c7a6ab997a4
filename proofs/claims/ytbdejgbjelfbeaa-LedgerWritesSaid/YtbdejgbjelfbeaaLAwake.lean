/- awake: the ledger's examples. -/
import Derived.Test.YtbdejgbjelfbeaaLBytes
set_option linter.unusedSimpArgs false
set_option linter.unusedVariables false
namespace Go.Proofs.Ytbdejgbjelfbeaa
open Go.RowKit R
def wokeE : Event := ⟨1, 0, ⟨#[97]⟩, 1, 0, []⟩
theorem woke_check : L.check wokeE = true := by decide +kernel
theorem woke_bytes : L.bytes [wokeE] = [1, 1, 0, 1, 97, 1, 1, 0, 0, 0] := by
  have h1 : V.num 1 = [1] := V.num_small (by omega)
  have h0 : V.num 0 = [0] := V.num_small (by omega)
  have hs : V.stamp 1 0 = [1, 0] := by unfold V.stamp; rw [if_pos (by decide)]; simp [h1, h0]
  have hp : L.part wokeE [] = [1, 0, 1, 97, 1, 1, 0, 0, 0] := by
    have ht : V.text ⟨#[97]⟩ = [1, 97] := by show V.num 1 ++ [97] = _; rw [h1]; rfl
    have hb : L.headBytes wokeE = [1, 0, 1, 97, 1, 1, 0] := by
      show V.num 1 ++ V.num 0 ++ V.text ⟨#[97]⟩ ++ L.stampOpt 1 0 = _
      rw [h1, h0, ht]
      have : L.stampOpt 1 0 = [1, 1, 0] := by unfold L.stampOpt; rw [if_neg (by decide), h1, hs]; rfl
      rw [this]; rfl
    show L.headBytes wokeE ++ V.num 0 ++ [] ++ V.num 0 ++ [] = _
    rw [hb, h0]; rfl
  unfold L.bytes L.parts
  rw [if_pos (by decide +kernel), if_pos (by decide +kernel)]
  show V.num 1 ++ L.cat [V.ba (L.part wokeE [])] = _
  rw [hp, h1]; rfl
theorem none_bytes : L.bytes [] = [0] := by
  show V.num 0 ++ [] = _
  rw [V.num_small (by omega)]; rfl
theorem one_event {w : World} {b : Nat} {e : Event} {v : Value} {T : TypeId} (h : w.heap[b]? = some (.cells #[.int .i64 e.kind, .int .i64 e.client, .string e.key, .int .i64 e.n, .int .i64 e.s, v] T)) (hz : e.key.size ≤ 9223372036854775807 ∧ inI e.kind ∧ inI e.client ∧ inI e.n ∧ inI e.s) (hs : Sl (fun _ => True) w v e.seen) :
    Sl (fun _ => True) w (.slice (some ⟨b, 0, none⟩) 1 1) [e] := by
  refine ⟨_, 1, rfl, by simp, fun _ => ⟨b, 0, rfl, trivial, fun i x hx => ?_⟩⟩
  match i with
  | 0 =>
    simp at hx; subst hx
    refine ⟨_, ⟨v, rfl, hz, hs⟩, fun j c hj => ?_⟩
    have hj' : ([Value.int .i64 e.kind, .int .i64 e.client, .string e.key, .int .i64 e.n, .int .i64 e.s, v] : List Value)[j]? = some c := hj
    simp [World.cell?, h, hj']
  | (i + 1) => simp at hx
set_option maxHeartbeats 4000000 in
set_option maxRecDepth 100000 in
theorem lawake_any (w : World) : Calls Try.prog 8 #[] w fun r w' => r = .returned (.bool true) ∧ Ev.Ext w w' := by
  have hb : (w.alloc (.cells #[.int .i64 1, .int .i64 0, .string ⟨#[97]⟩, .int .i64 1, .int .i64 0, .slice none 0 0] 29)).heap[w.heap.size]? = _ := heap_alloc_new _ _
  have hE := extA w (.cells #[.int .i64 1, .int .i64 0, .string ⟨#[97]⟩, .int .i64 1, .int .i64 0, .slice none 0 0] 29)
  go_enter Try.func8, Try.ntmps8
  go_wp2_with fail
  refine (lbytes_any [] _ (fun _ => True) _ (Sl.nil _ _) (by simp) (by intro e he; cases he)).mono ?_; rintro e w1 ⟨rfl, hx1⟩
  rw [none_bytes]
  have hb1 := (hx1.block _ (Array.getElem?_eq_some_iff.1 hb).1).trans hb
  go_wp2_with fail
  have hs1 : Sl (fun _ => True) w1 (.slice (some ⟨w.heap.size, 0, none⟩) 1 1) [wokeE] := one_event (e := wokeE) hb1 (by unfold inI; decide) (Sl.nil _ _)
  refine (lbytes_any [wokeE] _ (fun _ => True) _ hs1 (by simp) (by intro e he; simp at he; subst he; exact ⟨by decide, by intro d hd; cases hd⟩)).mono ?_; rintro e w2 ⟨rfl, hx2⟩
  rw [woke_bytes]
  have hb2 := (hx2.block _ (Array.getElem?_eq_some_iff.1 hb1).1).trans hb1
  obtain ⟨c0, c1, c2, c3, c4, c5⟩ := six_of hb2
  clear hb hb1 hb2
  go_wp2_with fail
  refine (lcheck_any wokeE _ (fun _ => True) _ (by decide) (Sl.nil _ _)).mono ?_; rintro e w3 ⟨rfl, hx3⟩
  rw [woke_check]
  go_wp2
  go_ret
  exact ⟨rfl, ((hE.trans hx1).trans hx2).trans hx3⟩
end Go.Proofs.Ytbdejgbjelfbeaa
