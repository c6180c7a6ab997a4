/- Numbers put together: the walks. -/
import Derived.Test.YtocgnmklgklfnaaVWalks
set_option linter.unusedSimpArgs false
set_option linter.unusedVariables false
namespace Go.Proofs.Ytocgnmklgklfnaa
open Go.RowKit
theorem ext_alloc' (w : World) (o : Obj) : Ev.Ext w (w.alloc o) := (Below.refl _ _).alloc (Nat.le_refl _) _
set_option maxRecDepth 100000 in
theorem each_any (B b : Nat) (l : List UInt8) (n : Nat) (hn : n < 18446744073709551616) (w : World) (h : IsB B b l w) (hlen : l.length + 10 ≤ 140737488355328) (hBw : B ≤ w.heap.size) :
    Calls Try.prog 54 #[.int .u64 n, .pointer (some ⟨b, 0, none⟩)] w fun e w' => e = .returned (.tuple #[]) ∧ IsB B b (l ++ V.num n) w' ∧ Below B w w' := by
  go_enter Try.func54, Try.ntmps54
  go_wp2_with fail
  refine (put_any B b l n hn w h hlen hBw).mono ?_; rintro e w1 ⟨rfl, h1, hb1⟩
  go_wp2
  go_end0
  exact ⟨rfl, h1, hb1⟩
def NumRow (ns : List Nat) (a : Option Addr) (w : World) : Prop := ∀ (i n : Nat), ns[i]? = some n → n < 18446744073709551616 ∧ ∃ b o, a = some ⟨b, o, none⟩ ∧ w.cell? ⟨b, o + i, none⟩ = some (.int .u64 n)
theorem flat_len (ns : List Nat) (h : ∀ n ∈ ns, n < 18446744073709551616) : (ns.flatMap V.num).length ≤ 10 * ns.length := by
  induction ns with
  | nil => simp
  | cons n r ih =>
    have h1 := V.num_len64 (h n List.mem_cons_self)
    have h2 := ih fun m hm => h m (List.mem_cons_of_mem _ hm)
    rw [List.flatMap_cons, List.length_append, List.length_cons]
    omega
set_option maxHeartbeats 1000000 in
set_option maxRecDepth 100000 in
theorem join_any (a : Option Addr) (cap : Nat) (ns : List Nat) (hl : ns.length ≤ 1000) (w : World) (h : NumRow ns a w) :
    Calls Try.prog 40 #[.slice a ns.length cap] w fun e w' => e = .returned (.string (V.ba (ns.flatMap V.num))) ∧ Ev.Ext w w' := by
  have hfl := flat_len
  go_enter Try.func40, Try.ntmps40
  go_wp2_with fail
  go_loopw [6, 10] (fun _ i wr => ∃ (k : Nat), i = .int .i64 k ∧ k ≤ ns.length ∧ IsB w.heap.size w.heap.size ((ns.take k).flatMap V.num) wr ∧ Ev.Ext w wr) (fun _ i _ => ns.length - (intOf i).toNat)
  case atStart => exact ⟨0, rfl, by omega, Lib.fresh_isBuilder _ _ w, ext_alloc' _ _⟩
  case round =>
    obtain ⟨k, rfl, hk, hB, he⟩ := hrel
    by_cases h1 : k < ns.length
    · obtain ⟨hn, b, o, rfl, c0⟩ := h k ns[k] (by simp [h1])
      have c0 := cell_later he c0
      have e1 : (ns.take (k + 1)).flatMap V.num = (ns.take k).flatMap V.num ++ V.num ns[k] := by rw [List.take_succ_eq_append_getElem h1, List.flatMap_append]; simp
      have hlk : ((ns.take k).flatMap V.num).length + 10 ≤ 140737488355328 := by
        have := flat_len (ns.take k) fun n hn => by
          obtain ⟨j, hj, rfl⟩ := List.getElem_of_mem (List.mem_of_mem_take hn)
          exact (h j ns[j] (by simp [hj])).1
        rw [List.length_take] at this; omega
      have HE := Lib.hid e1
      clear e1
      go_wp2_with fail
      refine (each_any _ _ _ _ hn wr hB hlk he.size).mono ?_; rintro e w3 ⟨rfl, h3, hb3⟩
      go_wp2
      go_roundw
      case rel => exact ⟨k + 1, by go_num, by omega, by rw [HE.out]; exact h3, Below.trans he hb3⟩
      case measure => simp [intOf]; omega
    · obtain rfl : k = ns.length := by omega
      rw [List.take_length] at hB
      go_wp2_with fail
      refine (Try.Builder_String_any _ _ _ _ hB he.size).mono ?_; rintro e w3 ⟨rfl, hb3⟩
      go_wp2
      go_ret
      exact ⟨rfl, Below.trans he hb3⟩
end Go.Proofs.Ytocgnmklgklfnaa
