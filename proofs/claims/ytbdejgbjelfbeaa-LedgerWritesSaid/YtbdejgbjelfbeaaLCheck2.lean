/- The reference's Check: the walk of an event whose head is right. -/
import Derived.Test.YtbdejgbjelfbeaaLCheck
set_option linter.unusedSimpArgs false
set_option linter.unusedVariables false
namespace Go.Proofs.Ytbdejgbjelfbeaa
open Go.RowKit R
theorem lt_zero' {k : Nat} (h : k = 0) (d : Dep) (l : List Dep) : L.lt? (L.prv l k) d = true := by subst h; rfl
theorem dep_load {Kb : Blocks} {w w' : World} {v : Value} {l : List Dep} (h : Sl Kb w v l) (he : Ev.Ext w w') {b o : Nat} {cap : Nat} (hv : v = .slice (some ⟨b, o, none⟩) l.length cap) {i : Nat} (hi : i < l.length) :
    w'.cell? ⟨b, o + i * 3, none⟩ = some (.string l[i].key) ∧ w'.cell? ⟨b, o + i * 3 + 1, none⟩ = some (.int .i64 l[i].n) ∧ w'.cell? ⟨b, o + i * 3 + 2, none⟩ = some (.int .i64 l[i].s) := by
  subst hv
  obtain ⟨b', o', e, _, _, c0, c1, c2⟩ := (dep_cells h).2 i l[i] (by simp [hi])
  simp only [Option.some.injEq, Addr.mk.injEq, and_true] at e
  obtain ⟨rfl, rfl⟩ := e
  exact ⟨cell_later he c0, cell_later he c1, cell_later he c2⟩
theorem six_ext {w w1 : World} {a : Nat} {x0 x1 x2 x3 x4 x5 : Value} (he : Ev.Ext w w1) (h : w.cell? ⟨a, 0, none⟩ = some x0 ∧ w.cell? ⟨a, 1, none⟩ = some x1 ∧ w.cell? ⟨a, 2, none⟩ = some x2 ∧ w.cell? ⟨a, 3, none⟩ = some x3 ∧ w.cell? ⟨a, 4, none⟩ = some x4 ∧ w.cell? ⟨a, 5, none⟩ = some x5) :
    w1.cell? ⟨a, 0, none⟩ = some x0 ∧ w1.cell? ⟨a, 1, none⟩ = some x1 ∧ w1.cell? ⟨a, 2, none⟩ = some x2 ∧ w1.cell? ⟨a, 3, none⟩ = some x3 ∧ w1.cell? ⟨a, 4, none⟩ = some x4 ∧ w1.cell? ⟨a, 5, none⟩ = some x5 :=
  ⟨cell_later he h.1, cell_later he h.2.1, cell_later he h.2.2.1, cell_later he h.2.2.2.1, cell_later he h.2.2.2.2.1, cell_later he h.2.2.2.2.2⟩
set_option maxHeartbeats 8000000 in
set_option maxRecDepth 100000 in
theorem rlcheck_yes (kind client n s : Int) (key : ByteArray) (seen : List Dep) (v : Value) (Kb : Blocks) (w : World) (hks : key.size ≤ 9223372036854775807) (h : Sl Kb w v seen)
    (hc0 : 0 ≤ client) (hc1 : client ≤ 1000) (hkey : K.checkB key = true) (h64 : seen.length ≤ 64)
    (hk : (kind = 1 ∧ V.stampB n s = true) ∨ (kind = 2 ∧ n = 0 ∧ s = 0 ∧ V.stampB n s = false) ∨ (kind = 2 ∧ (n == 0) = false ∧ V.stampB n s = true)) :
    Calls Try.prog 15 #[.agg #[.int .i64 kind, .int .i64 client, .string key, .int .i64 n, .int .i64 s, v]] w fun r w' => r = .returned (.bool (L.seenF none seen)) ∧ Ev.Ext w w' := by
  obtain ⟨a, cap, rfl⟩ := h.form
  have hE := ext_alloc' w (.cells #[.int .i64 kind, .int .i64 client, .string key, .int .i64 n, .int .i64 s, .slice a seen.length cap] 29)
  have hchk := fun w => rcheck_any key hks w
  rw [hkey] at hchk
  have HCHK := Lib.hid hchk
  clear hchk hkey
  have h64i : (seen.length : Int) ≤ 64 := by omega
  rcases hk with ⟨rfl, hst⟩ | ⟨rfl, rfl, rfl, hst⟩ | ⟨rfl, hn0, hst⟩
  all_goals
    first | have hs := fun w => rstcheck_any n s w | have hs := fun w => rstcheck_any 0 0 w
    rw [hst] at hs
    have HS := Lib.hid hs
    clear hs hst
    go_enter Try.func15, Try.ntmps15
    go_wp2_with fail
    refine (HCHK.out _).mono ?_; rintro e w1 ⟨rfl, rfl⟩
    go_wp2_with fail
    refine (HS.out _).mono ?_; rintro e w2 ⟨rfl, hb2⟩
    have hcs := six_later hb2 rfl
    obtain ⟨c0, c1, c2, c3, c4, c5⟩ := hcs
    have hl := (h.ext hE).ext hb2
    have hext := hE.trans hb2
    clear hE hb2 h
    go_wp2_with fail
    go_loopw [2, 6] (fun r i wr => ∃ (k : Nat), r = .bool false ∧ i = .int .i64 k ∧ k ≤ seen.length ∧ Ev.Ext w2 wr ∧ L.SeenAt seen k) (fun _ i _ => seen.length - (intOf i).toNat)
    case atStart => exact ⟨0, rfl, rfl, by omega, Ev.Ext.refl _, L.SeenAt.start _⟩
    case round =>
      obtain ⟨i, rfl, rfl, hi, he, hat⟩ := hrel
      have hcs := six_ext he ⟨c0, c1, c2, c3, c4, c5⟩
      clear c0 c1 c2 c3 c4 c5
      obtain ⟨c0, c1, c2, c3, c4, c5⟩ := hcs
      by_cases h1 : i < seen.length
      · obtain ⟨b, o, rfl, _, ⟨hxs, _, _⟩, _, _, _⟩ := (dep_cells hl).2 i seen[i] (by simp [h1])
        obtain ⟨d0, d1, d2⟩ := dep_load hl he rfl h1
        have hkx := fun w => rcheck_any seen[i].key hxs w
        cases q1 : K.checkB seen[i].key <;> cases q2 : V.stampB seen[i].n seen[i].s
        all_goals
          have hsx := fun w => rstcheck_any seen[i].n seen[i].s w
          rw [q2] at hsx
          rw [q1] at hkx
          have HKX := Lib.hid hkx
          have HSX := Lib.hid hsx
          have HAT := Lib.hid hat
          have Q1 := Lib.hid q1
          have Q2 := Lib.hid q2
          clear hkx hsx hat q1 q2
        case true.true =>
          by_cases h0 : i = 0
          · have hz : decide (0 < i) = false := by simp; omega
            have H0 := Lib.hid h0
            clear h0
            go_wp2_with fail
            refine (HKX.out _).mono ?_; rintro e w3 ⟨rfl, rfl⟩
            go_wp2_with fail
            refine (HSX.out _).mono ?_; rintro e w4 ⟨rfl, hb4⟩
            have he4 := he.trans hb4
            go_wp2
            go_quiet (fail)
            go_wp2
            exact ⟨⟨i + 1, rfl, by go_num, by omega, below_drewN he4 _, HAT.out.next h1 (by simp [L.depB, Q1.out, Q2.out]) (lt_zero' H0.out _ _)⟩, by simp [intOf]; omega⟩
          · have hp : 0 < i := by omega
            have hpi : (0 : Int) < i := by omega
            have hp1 : i - 1 < seen.length := by omega
            obtain ⟨g0, _, _⟩ := dep_load hl he rfl hp1
            have hlp := L.lt_pos hp h1 seen[i]
            cases q3 : Op.bytesLess seen[i - 1].key.toList seen[i].key.toList
            all_goals
              rw [q3] at hlp
              have HLP := Lib.hid hlp
              clear hlp h0
              go_wp2_with fail
              refine (HKX.out _).mono ?_; rintro e w3 ⟨rfl, rfl⟩
              go_wp2_with fail
              refine (HSX.out _).mono ?_; rintro e w4 ⟨rfl, hb4⟩
              have he4 := he.trans hb4
              have c5 := cell_later hb4 c5
              have d0 := cell_later hb4 d0
              have g0 := cell_later hb4 g0
              go_wp2
              go_quiet (fail)
              go_wp2
              first
                | (go_ret; exact ⟨by rw [HAT.out.no h1 (.inr HLP.out)]; rfl, hext.trans (below_drewN he4 _)⟩)
                | exact ⟨⟨i + 1, rfl, by go_num, by omega, below_drewN he4 _, HAT.out.next h1 (by simp [L.depB, Q1.out, Q2.out]) HLP.out⟩, by simp [intOf]; omega⟩
        all_goals
          go_wp2_with fail
          refine (HKX.out _).mono ?_; rintro e w3 ⟨rfl, rfl⟩
          go_wp2_with fail
          refine (HSX.out _).mono ?_; rintro e w4 ⟨rfl, hb4⟩
          have he4 := he.trans hb4
          go_wp2
          go_quiet (fail)
          go_wp2
          go_ret
          exact ⟨by rw [HAT.out.no h1 (.inl (by simp [L.depB, Q1.out, Q2.out]))]; rfl, hext.trans (below_drewN he4 _)⟩
      · obtain rfl : i = seen.length := by omega
        have hd := hat.done
        go_wp2
        go_ret
        exact ⟨by rw [hd]; rfl, hext.trans he⟩
end Go.Proofs.Ytbdejgbjelfbeaa
