/- Number, Text, stamps' bytes: the walks. -/
import Derived.Test.YtocgnmklgklfnaaVJoin
import Derived.Test.YtocgnmklgklfnaaRep
set_option linter.unusedSimpArgs false
set_option linter.unusedVariables false
namespace Go.Proofs.Ytocgnmklgklfnaa
open Go.RowKit R
set_option maxRecDepth 100000 in
theorem number_any (n : Nat) (hn : n < 18446744073709551616) (w : World) :
    Calls Try.prog 27 #[.int .u64 n] w fun e w' => e = .returned (.string (V.ba (V.num n))) ∧ Ev.Ext w w' := by
  go_enter Try.func27, Try.ntmps27
  go_wp2_with fail
  refine (join_any (some ⟨w.heap.size, 0, none⟩) 1 [n] (by simp) _ ?_).mono ?_
  · intro i m hm
    cases i with
    | zero => simp at hm; subst hm; exact ⟨hn, _, _, rfl, by simp⟩
    | succ i => simp at hm
  rintro e w3 ⟨rfl, hb3⟩
  go_wp2
  go_ret
  exact ⟨by simp, (ext_alloc' _ _).trans hb3⟩
set_option maxRecDepth 100000 in
theorem text_any (s : ByteArray) (hs : s.size ≤ 1000000) (w : World) :
    Calls Try.prog 28 #[.string s] w fun e w' => e = .returned (.string (V.ba (V.text s))) ∧ Ev.Ext w w' := by
  have h10 := V.num_len64 (n := s.size) (by omega)
  go_enter Try.func28, Try.ntmps28
  go_wp2_with fail
  refine (number_any s.size (by omega) _).mono ?_; rintro e w3 ⟨rfl, hb3⟩
  go_wp2
  go_ret
  exact ⟨by unfold V.text; rw [← V.ba_append, V.ba_data]; rfl, hb3⟩
theorem conv1' (wr : World) (x : Int) : (convert 36 9 (.slice (some ⟨wr.heap.size, 0, none⟩) 1 1)).run Try.prog (wr.alloc (.cells #[.int .u8 x] 5)) = .ok (.string ⟨[UInt8.ofNat x.toNat].toArray⟩) (wr.alloc (.cells #[.int .u8 x] 5)) :=
  run_convert_bytes_arg (P := Try.prog) (w := wr.alloc (.cells #[.int .u8 x] 5)) 36 5 Try.underlying36 Try.underlying5 wr.heap.size 0 1 1 [x] rfl (fun i hi => by
    obtain rfl : i = 0 := by omega
    simp) 9 Try.underlying9
theorem conv_row {w : World} {b : Nat} {x : Int} {T : TypeId} (h : w.heap[b]? = some (.cells #[.int .u8 x] T)) : (convert 36 9 (.slice (some ⟨b, 0, none⟩) 1 1)).run Try.prog w = .ok (.string ⟨[UInt8.ofNat x.toNat].toArray⟩) w :=
  run_convert_bytes_arg (P := Try.prog) (w := w) 36 5 Try.underlying36 Try.underlying5 b 0 1 1 [x] rfl (fun i hi => by
    obtain rfl : i = 0 := by omega
    simp [World.cell?, h]) 9 Try.underlying9
set_option maxRecDepth 100000 in
theorem rnumber_any : ∀ (n : Nat) (hn : n < 18446744073709551616) (w : World),
    Calls Try.prog 30 #[.int .u64 n] w fun e w' => e = .returned (.string (V.ba (V.num n))) ∧ Ev.Ext w w' := by
  intro n
  induction n using Nat.strongRecOn with
  | _ n ih =>
  intro hn w
  by_cases h1 : n < 128
  · have hz := V.num_small h1
    have hcv := fun x => conv1' w x
    go_enter Try.func30, Try.ntmps30
    go_wp2_with fail
    go_ret
    exact ⟨by rw [hz]; simp, ext_alloc' _ _⟩
  · have hz := V.num_big h1
    have h10 := V.num_len64 (n := n / 128) (by omega)
    have hno : ¬ 9223372036854775807 < 1 + (V.num (n / 128)).length := by omega
    obtain ⟨q, hq⟩ : ∃ q, IntKind.u64.wrap ((n : Int) / 128) = q := ⟨_, rfl⟩
    have hrec := ih (n / 128) (by omega) (by omega)
    rw [show ((n / 128 : Nat) : Int) = q from by rw [← hq]; simp only [IntKind.wrap_u64]; omega] at hrec
    have HREC := Lib.hid hrec
    clear hrec
    obtain ⟨c, hc⟩ : ∃ c, IntKind.u8.wrap (IntKind.u64.wrap (128 + (n : Int).tmod 128)) = c := ⟨_, rfl⟩
    have hcn : c = ((128 + n % 128 : Nat) : Int) := by
      rw [← hc, Int.tmod_eq_emod_of_nonneg (by omega)]
      simp only [IntKind.wrap_u8, IntKind.wrap_u64]
      omega
    have HC := Lib.hid hcn
    clear hcn
    go_enter Try.func30, Try.ntmps30
    go_wp2_with fail
    refine Ev.wp_region (Ev.Ext _) (Ev.Ext) (by kernel_rfl) (by kernel_rfl) Ev.Ext.refl (fun _ _ h k => k.trans h) (Ev.Ext.refl _).tick ?_
    repeat
      first
      | (first | (refine Ev.walk_rel (fun v _ => v = .string ⟨[UInt8.ofNat c.toNat].toArray⟩) (fun _ _ _ _ h => h) ?_ ?_; (intro u wx hcx hfx; (try simp at hfx); obtain ⟨b', f4, f5, f6⟩ := hfx; have f7 : _ = some (Obj.cells #[.int .u8 c] 5 _) := f6; go_simp; intro K hK; rw [conv_row f6]; exact hK _ _ (Ev.Ext.refl _) rfl)) | (refine Ev.walk_rel (NewRow w.heap.size #[.int .u8 c] 5 1) NewRow.stable ?_ ?_; (intro u wx hcx hfx; (try simp at hfx); go_simp; intro K hK; refine hK _ _ ?_ ⟨_, rfl, hcx.size, heap_alloc_new _ _⟩; exact (Below.refl _ _).alloc (Nat.le_refl _) _)))
      | (apply Ev.walk_eq
         · intro u wx hcx hfx
           have hk := hcx
           try simp at hfx
           try go_simp
           first
             | rfl
             | (intro K hK
                try go_simp
                first
                  | (refine hK _ ?_; first | exact Ev.Ext.refl _ | assumption)
                  | (first | (go_at_call 30; refine (HREC.out _).mono ?_; rintro e wy ⟨rfl, hby⟩; exact ⟨_, rfl, hK _ hby⟩))))
      | (fail)
      try simp only [List.nil_append]
      try simp only [List.cons_append]
    intro u wx hcx hfx
    simp at hfx
    simp only [Ev.putU, Act.put, List.setIfInBounds_toArray, List.set_cons_zero, List.set_cons_succ]
    obtain ⟨_, _, _, _, _, _, _, _, _, e2⟩ := hfx
    simp only [e2]
    go_wp2
    go_ret
    exact ⟨by rw [hz, HC.out]; congr 1, hcx⟩
end Go.Proofs.Ytocgnmklgklfnaa
