/- The ledger's Check: the walk of an event whose head is right. -/
import Derived.Test.YtbdejgbjelfbeaaLCheck3
import Derived.Deep.DeepCutAuto
set_option linter.unusedSimpArgs false
set_option linter.unusedVariables false
namespace Go.Proofs.Ytbdejgbjelfbeaa
open Go.RowKit R
theorem three_later {w w1 : World} {x0 x1 x2 : Value} {T : TypeId} (he : Ev.Ext (w.alloc (.cells #[x0, x1, x2] T)) w1) :
    w1.cell? ⟨w.heap.size, 0, none⟩ = some x0 ∧ w1.cell? ⟨w.heap.size, 1, none⟩ = some x1 ∧ w1.cell? ⟨w.heap.size, 2, none⟩ = some x2 :=
  ⟨cell_later he (by simp), cell_later he (by simp), cell_later he (by simp)⟩
set_option maxHeartbeats 8000000 in
set_option maxRecDepth 100000 in
theorem lcheck_yes (kind client n s : Int) (key : ByteArray) (seen : List Dep) (v : Value) (Kb : Blocks) (w : World) (hks : key.size ≤ 9223372036854775807) (h : Sl Kb w v seen)
    (hc0 : 0 ≤ client) (hc1 : client ≤ 1000) (hkey : K.checkB key = true) (h64 : seen.length ≤ 64) (hk : L.kindB ⟨kind, client, key, n, s, seen⟩ = true) :
    Calls Try.prog 14 #[.agg #[.int .i64 kind, .int .i64 client, .string key, .int .i64 n, .int .i64 s, v]] w fun r w' => r = .returned (.bool (L.seenF none seen)) ∧ Ev.Ext w w' := by
  obtain ⟨a, cap, rfl⟩ := h.form
  have hchk := fun w => check_any key hks w
  rw [hkey] at hchk
  have HCHK := Lib.hid hchk
  have HK := Lib.hid hk
  clear hchk hkey hk
  have h64i : (seen.length : Int) ≤ 64 := by omega
  go_enter Try.func14, Try.ntmps14
  go_upto_region 2 with fail
  go_cut [4] (fun u wx => u = .bool true ∧ Ev.Ext w wx ∧ wx.cell? ⟨w.heap.size, 0, none⟩ = some (.int .i64 kind) ∧ wx.cell? ⟨w.heap.size, 1, none⟩ = some (.int .i64 client) ∧ wx.cell? ⟨w.heap.size, 2, none⟩ = some (.string key) ∧ wx.cell? ⟨w.heap.size, 3, none⟩ = some (.int .i64 n) ∧ wx.cell? ⟨w.heap.size, 4, none⟩ = some (.int .i64 s) ∧ wx.cell? ⟨w.heap.size, 5, none⟩ = some (.slice a seen.length cap))
  case first =>
    go_wp2_with (go_at_call 32; refine (stcheck_any _ _ _).mono ?_; rintro e w3 ⟨rfl, hb3⟩; obtain ⟨c0, c1, c2, c3, c4, c5, y0, y1, hx⟩ := eight_later hb3)
    all_goals (try subst_vars)
    all_goals go_meet
    all_goals first
      | exact ⟨rfl, hx, c0, c1, c2, c3, c4, c5⟩
      | exact ⟨rfl, ext_two _ _ _, by simp, by simp, by simp, by simp, by simp, by simp⟩
      | (refine ⟨?_, hx, c0, c1, c2, c3, c4, c5⟩; have := HK.out; simp_all [L.kindB]; done)
      | (refine ⟨?_, hx, c0, c1, c2, c3, c4, c5⟩; have := HK.out; simp [L.kindB] at this; (try simp_all); omega)
      | (refine ⟨?_, ext_two _ _ _, by simp, by simp, by simp, by simp, by simp, by simp⟩; have := HK.out; simp_all [L.kindB]; done)
  case rest =>
    obtain ⟨rfl, hx, c0, c1, c2, c3, c4, c5⟩ := hcut
    go_wp2_with (go_at_call 33; refine (HCHK.out _).mono ?_; rintro e w4 ⟨rfl, hb4⟩; replace hx := Ev.Ext.trans hx hb4; replace c5 := cell_later hb4 c5)
    have hl := h.ext hx
    clear h hb4 c0 c1 c2 c3 c4
    go_loopw [2, 59] (fun r i wr => ∃ (k : Nat), r = .bool false ∧ i = .int .i64 k ∧ k ≤ seen.length ∧ Ev.Ext w4 wr ∧ L.SeenAt seen k) (fun _ i _ => seen.length - (intOf i).toNat)
    case atStart => exact ⟨0, rfl, rfl, by omega, Ev.Ext.refl _, L.SeenAt.start _⟩
    case round =>
      obtain ⟨i, rfl, rfl, hi, he, hat⟩ := hrel
      have c5 := cell_later he c5
      by_cases h1 : i < seen.length
      · obtain ⟨b, o, rfl, _, ⟨hxs, _, _⟩, _, _, _⟩ := (dep_cells hl).2 i seen[i] (by simp [h1])
        obtain ⟨d0, d1, d2⟩ := dep_load hl he rfl h1
        have LD := Lib.hid (fun w' (he' : Ev.Ext (wr.alloc (.cells #[.string seen[i].key, .int .i64 seen[i].n, .int .i64 seen[i].s] 56)) w') => three_later he')
        have HAT := Lib.hid hat
        clear hat
        go_upto_region 8 with fail
        go_cut [89] (fun u wx => u = .bool (!(L.depB seen[i] && L.lt? (L.prv seen i) seen[i])) ∧ Ev.Ext wr wx)
        case first =>
          have hkx := fun w => check_any seen[i].key hxs w
          have hsx := fun w => stcheck_any seen[i].n seen[i].s w
          cases q1 : K.checkB seen[i].key
          · rw [q1] at hkx
            have HKX := Lib.hid hkx
            have Q1 := Lib.hid q1
            clear hkx hsx q1
            refine Ev.wp_region (Ev.Ext _) (Ev.Ext) (by kernel_rfl) (by kernel_rfl) Ev.Ext.refl (fun _ _ h k => k.trans h) (Ev.Ext.refl _).tick ?_
            repeat
              first
              | (apply Ev.walk_eq
                 · intro u wx hcx hfx
                   have hk4 := LD.out wx hcx
                   try simp at hfx
                   try go_simp
                   first
                     | rfl
                     | (intro K hK
                        try go_simp
                        first
                          | (refine hK _ ?_; first | exact Ev.Ext.refl _ | assumption)
                          | (first | (go_at_call 33; refine (HKX.out _).mono ?_; rintro e wy ⟨rfl, hby⟩; exact ⟨_, rfl, hK _ hby⟩))))
              | (fail)
              try simp only [List.nil_append]
              try simp only [List.cons_append]
            intro u wx hcx hfx
            simp at hfx
            simp only [Ev.putU, Act.put, List.setIfInBounds_toArray, List.set_cons_zero, List.set_cons_succ]
            simp only [hfx]
            clear hfx
            go_wp2_with fail
            go_meet
            exact ⟨by simp [L.depB, Q1.out], (extA _ _).trans hcx⟩
          · rw [q1] at hkx
            have HKX := Lib.hid hkx
            have Q1 := Lib.hid q1
            clear hkx q1
            cases q2 : V.stampB seen[i].n seen[i].s
            · rw [q2] at hsx
              have HSX := Lib.hid hsx
              have Q2 := Lib.hid q2
              clear hsx q2
              refine Ev.wp_region (Ev.Ext _) (Ev.Ext) (by kernel_rfl) (by kernel_rfl) Ev.Ext.refl (fun _ _ h k => k.trans h) (Ev.Ext.refl _).tick ?_
              repeat
                first
                | (apply Ev.walk_eq
                   · intro u wx hcx hfx
                     have hk4 := LD.out wx hcx
                     try simp at hfx
                     try go_simp
                     first
                       | rfl
                       | (intro K hK
                          try go_simp
                          first
                            | (refine hK _ ?_; first | exact Ev.Ext.refl _ | assumption)
                            | (first | (go_at_call 33; refine (HKX.out _).mono ?_; rintro e wy ⟨rfl, hby⟩; exact ⟨_, rfl, hK _ hby⟩) | (go_at_call 32; refine (HSX.out _).mono ?_; rintro e wy ⟨rfl, hby⟩; exact ⟨_, rfl, hK _ hby⟩))))
                | (fail)
                try simp only [List.nil_append]
                try simp only [List.cons_append]
              intro u wx hcx hfx
              simp at hfx
              simp only [Ev.putU, Act.put, List.setIfInBounds_toArray, List.set_cons_zero, List.set_cons_succ]
              simp only [hfx]
              clear hfx
              go_wp2_with fail
              go_meet
              exact ⟨by simp [L.depB, Q1.out, Q2.out], (extA _ _).trans hcx⟩
            · rw [q2] at hsx
              have HSX := Lib.hid hsx
              have Q2 := Lib.hid q2
              clear hsx q2
              by_cases h0 : i = 0
              · have hz : decide (0 < i) = false := by simp; omega
                have H0 := Lib.hid h0
                clear h0
                refine Ev.wp_region (Ev.Ext _) (Ev.Ext) (by kernel_rfl) (by kernel_rfl) Ev.Ext.refl (fun _ _ h k => k.trans h) (Ev.Ext.refl _).tick ?_
                repeat
                  first
                  | (apply Ev.walk_eq
                     · intro u wx hcx hfx
                       have hk4 := LD.out wx hcx
                       try simp at hfx
                       try go_simp
                       first
                         | rfl
                         | (intro K hK
                            try go_simp
                            first
                              | (refine hK _ ?_; first | exact Ev.Ext.refl _ | assumption)
                              | (first | (go_at_call 33; refine (HKX.out _).mono ?_; rintro e wy ⟨rfl, hby⟩; exact ⟨_, rfl, hK _ hby⟩) | (go_at_call 32; refine (HSX.out _).mono ?_; rintro e wy ⟨rfl, hby⟩; exact ⟨_, rfl, hK _ hby⟩))))
                  | (fail)
                  try simp only [List.nil_append]
                  try simp only [List.cons_append]
                intro u wx hcx hfx
                simp at hfx
                simp only [Ev.putU, Act.put, List.setIfInBounds_toArray, List.set_cons_zero, List.set_cons_succ]
                simp only [hfx]
                clear hfx
                go_wp2_with fail
                go_meet
                exact ⟨by rw [lt_zero' H0.out]; simp [L.depB, Q1.out, Q2.out], (extA _ _).trans hcx⟩
              · have hp : 0 < i := by omega
                have hpi : decide ((0 : Int) < i) = true := by simp; omega
                have hpn : decide (0 < i) = true := by simp; omega
                have hp1 : i - 1 < seen.length := by omega
                have hi1 : (1 : Int) ≤ i := by omega
                obtain ⟨g0, _, _⟩ := dep_load hl he rfl hp1
                have hlp := L.lt_pos hp h1 seen[i]
                have LC := Lib.hid (fun w' (he' : Ev.Ext (wr.alloc (.cells #[.string seen[i].key, .int .i64 seen[i].n, .int .i64 seen[i].s] 56)) w') => And.intro (cell_later ((extA _ _).trans he') c5) (cell_later ((extA _ _).trans he') g0))
                have HLP := Lib.hid hlp
                have hw1 : IntKind.i64.wrap ((i : Int) - 1) = ((i - 1 : Nat) : Int) := by simp only [IntKind.wrap_i64]; omega
                clear hlp h0
                refine Ev.wp_region (Ev.Ext _) (Ev.Ext) (by kernel_rfl) (by kernel_rfl) Ev.Ext.refl (fun _ _ h k => k.trans h) (Ev.Ext.refl _).tick ?_
                repeat
                  first
                  | (apply Ev.walk_eq
                     · intro u wx hcx hfx
                       have hk4 := And.intro (LD.out wx hcx) (LC.out wx hcx)
                       try simp at hfx
                       try go_simp
                       first
                         | rfl
                         | (intro K hK
                            try go_simp
                            first
                              | (refine hK _ ?_; first | exact Ev.Ext.refl _ | assumption)
                              | (first | (go_at_call 33; refine (HKX.out _).mono ?_; rintro e wy ⟨rfl, hby⟩; exact ⟨_, rfl, hK _ hby⟩) | (go_at_call 32; refine (HSX.out _).mono ?_; rintro e wy ⟨rfl, hby⟩; exact ⟨_, rfl, hK _ hby⟩))))
                  | (fail)
                  try simp only [List.nil_append]
                  try simp only [List.cons_append]
                intro u wx hcx hfx
                simp at hfx
                simp only [Ev.putU, Act.put, List.setIfInBounds_toArray, List.set_cons_zero, List.set_cons_succ]
                simp only [hfx]
                clear hfx hw1
                go_wp2_with fail
                go_meet
                exact ⟨by rw [HLP.out]; simp [L.depB, Q1.out, Q2.out], (extA _ _).trans hcx⟩
        case rest =>
          obtain ⟨rfl, hx2⟩ := hcut
          cases hd : (L.depB seen[i] && L.lt? (L.prv seen i) seen[i])
          all_goals
            have HD := Lib.hid hd
            clear hd
            go_wp2_with fail
          · go_ret
            exact ⟨by rw [HAT.out.step h1, ← Bool.and_assoc, HD.out]; rfl, (hx.trans he).trans hx2⟩
          · go_roundw
            case rel => exact ⟨i + 1, rfl, by go_num, by omega, he.trans hx2, by have hd := HD.out; rw [Bool.and_eq_true] at hd; exact HAT.out.next h1 hd.1 hd.2⟩
            case measure => simp [intOf]; omega
      · obtain rfl : i = seen.length := by omega
        have hd := hat.done
        go_wp2
        go_ret
        exact ⟨by rw [hd]; rfl, hx.trans he⟩
end Go.Proofs.Ytbdejgbjelfbeaa
