/- script.reader.step: the walk. -/
import Derived.Test.YtocgnmklgklfnaaSRr
set_option linter.unusedSimpArgs false
set_option linter.unusedVariables false
namespace Go.Proofs.Ytocgnmklgklfnaa
open Go.RowKit A R
namespace V
def opOf (ns : List Nat) (k v : List UInt8) (ks : List (List UInt8)) (c : SRow) : SOp := ⟨ns.getD 0 0, ns.getD 1 0, ns.getD 2 0, ns.getD 3 0, ns.getD 4 0, ns.getD 5 0, ba k, ba v, ks.map ba, c⟩
/-- The row that a step's last text tells. -/
def prow (w : List UInt8) : Option SRow := if w = [] then some ⟨[], [], []⟩ else rrow (ba w)
def pstep (r : List UInt8) : Option (SOp × List UInt8) := match pmany (pnum 63) 6 r with
  | none => none
  | some (ns, r1) => match ptext 32 r1 with
    | none => none
    | some (k, r2) => match ptext 32 r2 with
      | none => none
      | some (v, r3) => match pnum 8 r3 with
        | none => none
        | some (m, r4) => match pmany (ptext 32) m r4 with
          | none => none
          | some (ks, r5) => match ptext 1000 r5 with
            | none => none
            | some (w, r6) => match prow w with
              | none => none
              | some c => if S.check (opOf ns k v ks c) then some (opOf ns k v ks c, r6) else none
def stepR (s : ByteArray) (r : List UInt8) : Option (List AV × AV) := match pstep r with
  | some (o, t) => some ([tv s, iv (pos s t)], .row o.row)
  | none => none
def rrR (s : ByteArray) : List AV := match rrow s with | some c => c.row | none => zrow
def rrB (s : ByteArray) : Bool := (rrow s).isSome
theorem rrowA_eq (s : ByteArray) : rrowA s = .tup [.row (rrR s), bv (rrB s)] := by
  unfold rrowA rrR rrB
  cases rrow s <;> rfl
theorem numR_no {s : ByteArray} {most : Nat} {r : List UInt8} (h : pnum most r = none) : numR s most r = none := by unfold numR; rw [h]
theorem numR_yes {s : ByteArray} {most n : Nat} {r t : List UInt8} (h : pnum most r = some (n, t)) : numR s most r = some ([tv s, iv (pos s t)], iv n) := by unfold numR; rw [h]
theorem textR_no {s : ByteArray} {most : Nat} {r : List UInt8} (h : ptext most r = none) : textR s most r = none := by unfold textR; rw [h]
theorem textR_yes {s : ByteArray} {most : Nat} {r t x : List UInt8} (h : ptext most r = some (x, t)) : textR s most r = some ([tv s, iv (pos s t)], tv (ba x)) := by unfold textR; rw [h]
theorem pnum_suf {s : ByteArray} {most n : Nat} {r t : List UInt8} (hm : most < 18446744073709551616) (hr : r <:+ s.data.toList) (h : pnum most r = some (n, t)) : t <:+ s.data.toList ∧ n ≤ most := by
  obtain ⟨h1, h2⟩ := (pnum_iff hm).1 h
  exact ⟨suf_app (p := num n) (by rw [← h2]; exact hr), h1⟩
theorem ptext_suf {s : ByteArray} {most : Nat} {r t x : List UInt8} (hm : most < 18446744073709551616) (hr : r <:+ s.data.toList) (h : ptext most r = some (x, t)) : t <:+ s.data.toList ∧ x.length ≤ most := by
  obtain ⟨h1, h2⟩ := (ptext_iff hm).1 h
  exact ⟨suf_app (p := text (ba x)) (by rw [← h2]; exact hr), h1⟩
/-- A step's cells, of which some numbers are read. -/
def stCells (ns : List Nat) (k v : ByteArray) (ks : SV) (c : List SV) : List SV := [.d (iv (ns.getD 0 0 : Nat)), .d (iv (ns.getD 1 0 : Nat)), .d (iv (ns.getD 2 0 : Nat)), .d (iv (ns.getD 3 0 : Nat)), .d (iv (ns.getD 4 0 : Nat)), .d (iv (ns.getD 5 0 : Nat)), .d (tv k), .d (tv v), ks] ++ c
def nilS : SV := .d (.v (.slice none 0 0))
def nil3 : List SV := [nilS, nilS, nilS]
theorem stCells_set {ns : List Nat} {n j : Nat} {k v : ByteArray} {ks : SV} {c : List SV} (h : ns.length = j) (hj : j < 6) : (stCells ns k v ks c).set (0 + j) (.d (iv (n : Nat))) = stCells (ns ++ [n]) k v ks c := by
  subst h
  rw [Nat.zero_add]
  match ns, hj with
  | [], _ => rfl
  | [_], _ => rfl
  | [_, _], _ => rfl
  | [_, _, _], _ => rfl
  | [_, _, _, _], _ => rfl
  | [_, _, _, _, _], _ => rfl
theorem ptr_at {k g j : Nat} (hj : j < 6) : [CV.bx k g (0 + 0), .bx k g (0 + 1), .bx k g (0 + 2), .bx k g (0 + 3), .bx k g (0 + 4), .bx k g (0 + 5)][j]? = some (.bx k g (0 + j)) := by
  match j, hj with
  | 0, _ => rfl
  | 1, _ => rfl
  | 2, _ => rfl
  | 3, _ => rfl
  | 4, _ => rfl
  | 5, _ => rfl
theorem rtT_le (s : ByteArray) (at_ most : Nat) (hm : most < 18446744073709551616) : (rtT s at_ most).size ≤ most := by
  unfold rtT
  split
  · rename_i x t h
    rw [A.ba_sz]
    exact ((ptext_iff hm).1 h).1
  · show 0 ≤ most; omega
theorem wtexts_fits (s : ByteArray) (p : WS) : ∀ (k : Nat) (rs : List Rng) (fr : ByteArray) (q : WS), wtexts s k p = some (rs, fr, q) → fr.size ≤ 32 ∧ ∀ r ∈ rs, r.f.size ≤ 32 ∧ r.t.size ≤ 32
  | 0, rs, fr, q, h => by
    simp only [wtexts, Option.some.injEq, Prod.mk.injEq] at h
    obtain ⟨rfl, rfl, _⟩ := h
    exact ⟨by show 0 ≤ 32; omega, fun r hr => by cases hr⟩
  | k + 1, rs, fr, q, h => by
    simp only [wtexts] at h
    split at h
    · cases h
    · rename_i rs' fr' q' h1
      split at h
      · cases h
      · simp only [Option.some.injEq, Prod.mk.injEq] at h
        obtain ⟨rfl, rfl, _⟩ := h
        obtain ⟨k1, k2⟩ := wtexts_fits s p k rs' fr' q' h1
        have k3 := rtT_le s q'.1 32 (by omega)
        refine ⟨k3, fun r hr => ?_⟩
        rcases List.mem_append.1 hr with hr | hr
        · exact k2 r hr
        · rw [List.mem_singleton.1 hr]; exact ⟨k1, k3⟩
theorem rrow_fits {s : ByteArray} {c : SRow} (h : rrow s = some c) : S.fitRow c ∧ c.ranges.length ≤ 1000000 ∧ c.owners.length ≤ 1000000 ∧ c.parents.length ≤ 1000000 := by
  unfold rrow at h
  split at h
  · cases h
  · split at h
    · cases h
    · rename_i rs fr q hw
      split at h
      · cases h
      · simp only at h
        split at h
        · rename_i hc
          simp only [Option.some.injEq] at h
          subst h
          obtain ⟨k1, k2⟩ := wtexts_fits _ _ _ _ _ _ hw
          have hn := wnumV_le s 8 (0, false)
          have hl := wtexts_len _ _ _ _ _ _ hw
          refine ⟨fun r hr => ?_, ?_, ?_, ?_⟩
          · rcases List.mem_append.1 hr with hr | hr
            · have := k2 r hr; omega
            · rw [List.mem_singleton.1 hr]; exact ⟨by show fr.size ≤ 1000; omega, by show 0 ≤ 1000; omega⟩
          · simp; omega
          · rw [List.length_map, wmany_len]; omega
          · rw [List.length_map, wmany_len]
            have := wnumV_le s 6 (wmany s 63 (wnumV s 8 (0, false)) q).2
            omega
        · cases h
end V
theorem A.bxeq {g : Nat} {T : TypeId} {a b : List SV} (h : a = b) : some (g, AO.box T a) = some (g, AO.box T b) := h ▸ rfl
set_option maxRecDepth 100000 in
set_option maxHeartbeats 2000000 in
theorem sstep_m (s : ByteArray) (r : List UInt8) (hs : s.size ≤ 1000000) (hr : r <:+ s.data.toList) : MCall Try.prog 34 68 [tv s, iv (V.pos s r)] [] (V.stepR s r) := by
  refine MCall_enter (fun _ _ => by kernel_rfl) Try.func34 rfl Try.ntmps34 (Reads.cN Try.results34 Try.isAgg30 Try.sizeOf30) (Nat.le_of_ble_eq_true rfl) (fun hok hokc M0 w0 hlent => ?_)
  refine Aw_seq ?_
  refine Aw_region ?_
  refine Al_alloc rfl rfl rfl (by decide) Try.zeroValue30 rfl (by kernel_rfl) (fun g2 => ?_)
  refine Al_nil ?_
  refine Aw_seq ?_
  refine Aw_region ?_
  refine Al_alloc rfl rfl rfl (by decide) Try.zeroValue30 rfl (by kernel_rfl) (fun g3 => ?_)
  refine Al_nil ?_
  refine Aw_seq ?_
  refine Aw_seq ?_
  refine Aw_region ?_
  refine Al_pu (Pu_fieldb 0 rfl Try.underlying30 rfl rfl Try.sizeOf3 rfl) rfl rfl (by decide) (by kernel_rfl) ?_
  refine Al_pu (Pu_fieldb 1 rfl Try.underlying30 rfl rfl Try.sizeOf3 rfl) rfl rfl (by decide) (by kernel_rfl) ?_
  refine Al_pu (Pu_fieldb 2 rfl Try.underlying30 rfl rfl Try.sizeOf3 rfl) rfl rfl (by decide) (by kernel_rfl) ?_
  refine Al_pu (Pu_fieldb 3 rfl Try.underlying30 rfl rfl Try.sizeOf3 rfl) rfl rfl (by decide) (by kernel_rfl) ?_
  refine Al_pu (Pu_fieldb 4 rfl Try.underlying30 rfl rfl Try.sizeOf3 rfl) rfl rfl (by decide) (by kernel_rfl) ?_
  refine Al_pu (Pu_fieldb 5 rfl Try.underlying30 rfl rfl Try.sizeOf3 rfl) rfl rfl (by decide) (by kernel_rfl) ?_
  refine Al_pu (Pu_buildSliceP (xs := [_, _, _, _, _, _]) [.bx 3 g3 (0 + 0), .bx 3 g3 (0 + 1), .bx 3 g3 (0 + 2), .bx 3 g3 (0 + 3), .bx 3 g3 (0 + 4), .bx 3 g3 (0 + 5)] rfl rfl Try.underlying87 Try.sizeOf86 Try.zeroValue86 rfl (by decide) (by decide) rfl (fun c hc => by simp only [List.mem_cons, List.not_mem_nil, or_false] at hc; rcases hc with rfl | rfl | rfl | rfl | rfl | rfl <;> rfl) ⟨Sub.rfl, Sub.rfl, Sub.rfl, Sub.rfl, Sub.rfl, Sub.rfl, trivial⟩) rfl rfl (by decide) (by kernel_rfl) ?_
  refine Al_pu (Pu_lenP rfl Try.underlying87 rfl) rfl rfl (by decide) (by kernel_rfl) ?_
  refine Al_pu (Pu_move (.inl rfl) (by conv => lhs; whnf)) rfl rfl (by decide) (by kernel_rfl) ?_
  refine Al_nil ?_
  refine Aw_block ?_
  refine Aw_loopk (ι := Nat × (List Nat) × (List UInt8)) [0, 2, 3, 15, 16] [2] (fun (j, ns, rj) => [(17, .d (iv j))]) (fun (j, ns, rj) => [(3, g3, .box 30 (V.stCells ns ⟨#[]⟩ ⟨#[]⟩ V.nilS V.nil3)), (1000, 0, .box 68 [.d (tv s), .d (iv (V.pos s rj))])]) (fun (j, ns, rj) => j ≤ 6 ∧ ns.length = j ∧ V.pmany (V.pnum 63) j r = some (ns, rj) ∧ rj <:+ s.data.toList) (fun (j, ns, rj) => 6 - j) ((0, [], r)) (⟨Nat.zero_le _, ⟨rfl, rfl, hr⟩⟩) ⟨Sub.rfl, trivial⟩ ⟨rfl, rfl, trivial⟩ ?_
  rintro ⟨j, ns, rj⟩ ⟨hk0, ⟨hnl, hns, hrj⟩⟩
  refine Aw_seq ?_
  refine Aw_region ?_
  refine Al_pu (Pu_cmp rfl rfl rfl rfl) rfl rfl (by decide) (by kernel_rfl) ?_
  refine Al_nil ?_
  refine Aw_seq ?_
  refine Aw_cond rfl (fun h18 => ?_) (fun h18 => ?_)
  · (try simp only [decide_eq_true_eq, decide_eq_false_iff_not, Bool.and_eq_true, Bool.or_eq_true, Bool.and_eq_false_iff, Bool.or_eq_false_iff, Bool.not_eq_true', Bool.not_eq_false', beq_iff_eq, Bool.not_eq_eq_eq_not, Bool.not_true, Bool.not_false, List.length_map, Bool.and_true, Bool.and_false, Bool.false_and, Bool.true_and, Bool.or_false, Bool.false_or] at h18)
    have hj6 : j < 6 := by have : (j : Int) < ((6 : Nat) : Int) := h18; omega
    refine Aw_skip ?_
    refine Aw_seq ?_
    refine Aw_block ?_
    refine Aw_seq ?_
    refine Aw_region ?_
    refine Al_pu (Pu_indexP rfl Try.underlying87 Try.sizeOf86 rfl rfl rfl (V.ptr_at hj6)) rfl rfl (by decide) (by kernel_rfl) ?_
    refine Al_pu (Pu_loadP rfl Try.isAgg86 rfl) rfl rfl (by decide) (by kernel_rfl) ?_
    refine Al_pu (Pu_move (.inr rfl) (by conv => lhs; whnf)) rfl rfl (by decide) (by kernel_rfl) ?_
    refine Al_nil ?_
    refine Aw_region ?_
    refine Al_pu (Pu_move (.inl rfl) (by conv => lhs; whnf)) rfl rfl (by decide) (by kernel_rfl) ?_
    refine Al_pu (Pu_move (.inl rfl) (by conv => lhs; whnf)) rfl rfl (by decide) (by kernel_rfl) ?_
    have hm := snum_m s rj 63 hs hrj (by omega)
    rcases hb : V.pnum 63 rj with _ | ⟨n, t⟩
    · rw [V.numR_no hb] at hm
      have hno : V.pmany (V.pnum 63) (j + 1) r = none := by rw [V.pmany_snoc, hns]; simp only [hb]
      have hno6 := V.pmany_none hno (show j + 1 ≤ 6 by omega)
      exact Al_mpanic hm rfl rfl (by kernel_rfl) rfl rfl ⟨Sub.rfl, trivial⟩ (fun pv => ⟨by unfold V.stepR V.pstep; rw [hno6], ⟨pv, rfl⟩, _, rfl, by simp⟩)
    rw [V.numR_yes hb] at hm
    obtain ⟨ht, hn63⟩ := V.pnum_suf (by omega) hrj hb
    refine Al_mcall (hm) rfl rfl rfl (by decide) (by kernel_rfl) rfl rfl ⟨Sub.rfl, trivial⟩ ?_
    refine Al_pu (Pu_nilb rfl rfl) rfl rfl (by decide) (by kernel_rfl) ?_
    refine Al_store1 rfl rfl rfl (by kernel_rfl) Try.isAgg3 Try.sizeOf3 rfl rfl (by show 0 + j < 12; omega) (by conv => lhs; whnf) rfl ?_
    refine Al_nil ?_
    refine Aw_region ?_
    refine Al_pu (Pu_add rfl rfl rfl (fun h1 h2 => by simp only [A.inI, A.maxI] at *; omega)) rfl rfl (by decide) (by kernel_rfl) ?_
    refine Al_pu (Pu_move (.inl rfl) (by conv => lhs; whnf)) rfl rfl (by decide) (by kernel_rfl) ?_
    refine Al_nil ?_
    exact ⟨(j + 1, (ns ++ [n]), t), ⟨by omega, ⟨by simp [hnl], by rw [V.pmany_snoc, hns]; simp only [hb], ht⟩⟩, by simp only []; omega, Le.ov ⟨Sub.num (by omega), trivial⟩ ⟨Sub.rfl, Sub.rfl, Sub.rfl, Sub.rfl, Sub.rfl, trivial⟩ ⟨bxeq (V.stCells_set hnl hj6), rfl, trivial⟩ ⟨rfl, trivial⟩⟩ -- loop 0 next.0
  · (try simp only [decide_eq_true_eq, decide_eq_false_iff_not, Bool.and_eq_true, Bool.or_eq_true, Bool.and_eq_false_iff, Bool.or_eq_false_iff, Bool.not_eq_true', Bool.not_eq_false', beq_iff_eq, Bool.not_eq_eq_eq_not, Bool.not_true, Bool.not_false, List.length_map, Bool.and_true, Bool.and_false, Bool.false_and, Bool.true_and, Bool.or_false, Bool.false_or] at h18)
    obtain rfl : j = 6 := by have : ¬ (j : Int) < ((6 : Nat) : Int) := h18; omega
    refine Aw_exit ?_
    refine Aw_seq ?_
    refine Aw_region ?_
    refine Al_pu (Pu_move (.inl rfl) (by conv => lhs; whnf)) rfl rfl (by decide) (by kernel_rfl) ?_
    have hm := stext_m s rj 32 hs hrj (by omega)
    rcases hb : V.ptext 32 rj with _ | ⟨k, r2⟩
    · rw [V.textR_no hb] at hm
      exact Al_mpanic hm rfl rfl (by kernel_rfl) rfl rfl ⟨Sub.rfl, trivial⟩ (fun pv => ⟨by unfold V.stepR V.pstep; simp only [hns, hb], ⟨pv, rfl⟩, _, rfl, by simp⟩)
    rw [V.textR_yes hb] at hm
    obtain ⟨hr2, hk32⟩ := V.ptext_suf (by omega) hrj hb
    refine Al_mcall (hm) rfl rfl rfl (by decide) (by kernel_rfl) rfl rfl ⟨Sub.rfl, trivial⟩ ?_
    refine Al_pu (Pu_fieldb 6 rfl Try.underlying30 rfl rfl Try.sizeOf9 rfl) rfl rfl (by decide) (by kernel_rfl) ?_
    refine Al_store1 rfl rfl rfl (by kernel_rfl) Try.isAgg9 Try.sizeOf9 rfl rfl (Nat.le_of_ble_eq_true rfl) (by conv => lhs; whnf) rfl ?_
    refine Al_nil ?_
    refine Aw_seq ?_
    refine Aw_region ?_
    refine Al_pu (Pu_move (.inl rfl) (by conv => lhs; whnf)) rfl rfl (by decide) (by kernel_rfl) ?_
    have hm2 := stext_m s r2 32 hs hr2 (by omega)
    rcases hb2 : V.ptext 32 r2 with _ | ⟨v, r3⟩
    · rw [V.textR_no hb2] at hm2
      exact Al_mpanic hm2 rfl rfl (by kernel_rfl) rfl rfl ⟨Sub.rfl, trivial⟩ (fun pv => ⟨by unfold V.stepR V.pstep; simp only [hns, hb, hb2], ⟨pv, rfl⟩, _, rfl, by simp⟩)
    rw [V.textR_yes hb2] at hm2
    obtain ⟨hr3, hv32⟩ := V.ptext_suf (by omega) hr2 hb2
    refine Al_mcall (hm2) rfl rfl rfl (by decide) (by kernel_rfl) rfl rfl ⟨Sub.rfl, trivial⟩ ?_
    refine Al_pu (Pu_fieldb 7 rfl Try.underlying30 rfl rfl Try.sizeOf9 rfl) rfl rfl (by decide) (by kernel_rfl) ?_
    refine Al_store1 rfl rfl rfl (by kernel_rfl) Try.isAgg9 Try.sizeOf9 rfl rfl (Nat.le_of_ble_eq_true rfl) (by conv => lhs; whnf) rfl ?_
    refine Al_nil ?_
    refine Aw_seq ?_
    refine Aw_seq ?_
    refine Aw_region ?_
    refine Al_pu (Pu_move (.inl rfl) (by conv => lhs; whnf)) rfl rfl (by decide) (by kernel_rfl) ?_
    have hm3 := snum_m s r3 8 hs hr3 (by omega)
    rcases hb3 : V.pnum 8 r3 with _ | ⟨m, r4⟩
    · rw [V.numR_no hb3] at hm3
      exact Al_mpanic hm3 rfl rfl (by kernel_rfl) rfl rfl ⟨Sub.rfl, trivial⟩ (fun pv => ⟨by unfold V.stepR V.pstep; simp only [hns, hb, hb2, hb3], ⟨pv, rfl⟩, _, rfl, by simp⟩)
    rw [V.numR_yes hb3] at hm3
    obtain ⟨hr4, hm8⟩ := V.pnum_suf (by omega) hr3 hb3
    refine Al_mcall (hm3) rfl rfl rfl (by decide) (by kernel_rfl) rfl rfl ⟨Sub.rfl, trivial⟩ ?_
    refine Al_pu (Pu_move (.inl rfl) (by conv => lhs; whnf)) rfl rfl (by decide) (by kernel_rfl) ?_
    refine Al_nil ?_
    refine Aw_block ?_
    refine Aw_owncell 8 (k := 3) (k2 := 80) (e := 9) (n := 1) rfl rfl rfl (fun g80 => ?_)
    refine Aw_loopk (ι := Nat × (List (List UInt8)) × (List UInt8) × Nat) [0, 2, 3, 33] [2] (fun (i, ks, ri, g) => [(34, .d (iv i))]) (fun (i, ks, ri, g) => [(3, g3, .box 30 (V.stCells ns (V.ba k) (V.ba v) (.ow 80 g) V.nil3)), (80, g, .arr 9 1 ((ks.map V.ba).map fun x => [tv x])), (1000, 0, .box 68 [.d (tv s), .d (iv (V.pos s ri))])]) (fun (i, ks, ri, g) => i ≤ m ∧ ks.length = i ∧ V.pmany (V.ptext 32) i r4 = some (ks, ri) ∧ ri <:+ s.data.toList) (fun (i, ks, ri, g) => m - i) ((0, [], r4, g80)) (⟨Nat.zero_le _, ⟨rfl, rfl, hr4⟩⟩) ⟨Sub.rfl, trivial⟩ ⟨rfl, rfl, rfl, trivial⟩ ?_
    rintro ⟨i, ks, ri, g⟩ ⟨hk1, ⟨hkl, hks, hri⟩⟩
    refine Aw_seq ?_
    refine Aw_region ?_
    refine Al_pu (Pu_cmp rfl rfl rfl rfl) rfl rfl (by decide) (by kernel_rfl) ?_
    refine Al_nil ?_
    refine Aw_seq ?_
    refine Aw_cond rfl (fun h35 => ?_) (fun h35 => ?_)
    · (try simp only [decide_eq_true_eq, decide_eq_false_iff_not, Bool.and_eq_true, Bool.or_eq_true, Bool.and_eq_false_iff, Bool.or_eq_false_iff, Bool.not_eq_true', Bool.not_eq_false', beq_iff_eq, Bool.not_eq_eq_eq_not, Bool.not_true, Bool.not_false, List.length_map, Bool.and_true, Bool.and_false, Bool.false_and, Bool.true_and, Bool.or_false, Bool.false_or] at h35)
      refine Aw_skip ?_
      -- join 0: live [0, 2, 3, 33, 34], turned []
      refine Aw_seq ?_
      refine Aw_block ?_
      refine Aw_drawn (by kernel_rfl) ?_
      refine Ad_take 0 rfl (PuI_fieldb 8 rfl Try.underlying30 rfl rfl Try.sizeOf24 rfl) rfl rfl (by decide) (by kernel_rfl) (by kernel_rfl) (by kernel_rfl) (by kernel_rfl) (fun _ _ h => h) ?_
      refine Ad_take 2 rfl (PuI_move (.inl rfl) (by conv => lhs; whnf)) rfl rfl (by decide) (by kernel_rfl) (by kernel_rfl) (by kernel_rfl) (by kernel_rfl) (fun _ _ h => h) ?_
      refine Ad_two 1 3 rfl rfl (by kernel_rfl) ?_ ?_
      · refine Al_pu (Pu_loadb rfl Try.isAgg24 rfl rfl rfl) rfl rfl (by decide) (by kernel_rfl) ?_
        refine Al_nil ?_
        refine Ad_one 3 rfl (by kernel_rfl) ?_
        have hm4 := stext_m s ri 32 hs hri (by omega)
        rcases hb4 : V.ptext 32 ri with _ | ⟨x, t⟩
        · rw [V.textR_no hb4] at hm4
          have hno : V.pmany (V.ptext 32) (i + 1) r4 = none := by rw [V.pmany_snoc, hks]; simp only [hb4]
          have hnom := V.pmany_none hno (show i + 1 ≤ m by omega)
          exact Al_mpanic hm4 rfl rfl (by kernel_rfl) rfl rfl ⟨Sub.rfl, trivial⟩ (fun pv => ⟨by unfold V.stepR V.pstep; simp only [hns, hb, hb2, hb3, hnom], ⟨pv, rfl⟩, _, rfl, by simp⟩)
        rw [V.textR_yes hb4] at hm4
        obtain ⟨ht, hx32⟩ := V.ptext_suf (by omega) hri hb4
        refine Al_mcall (hm4) rfl rfl rfl (by decide) (by kernel_rfl) rfl rfl ⟨Sub.rfl, trivial⟩ ?_
        refine Al_nil ?_
        refine Ad_one 4 rfl (by kernel_rfl) ?_
        refine Al_pu (Pu_slice1 rfl Try.underlying24 Try.sizeOf9 Try.zeroValue9 rfl (by decide) (by decide) (by kernel_rfl) rfl rfl rfl) rfl rfl (by decide) (by kernel_rfl) ?_
        refine Al_nil ?_
        refine Ad_one 5 rfl (by kernel_rfl) ?_
        refine Al_append rfl rfl rfl (by decide) (by kernel_rfl) elem24 (by decide) Try.sizeOf9 rfl rfl rfl (by simp; omega) (by decide) (fun g41 => ?_)
        refine Al_nil ?_
        refine Ad_take 6 rfl (PuI_fieldb 8 rfl Try.underlying30 rfl rfl Try.sizeOf24 rfl) rfl rfl (by decide) (by kernel_rfl) (by kernel_rfl) (by kernel_rfl) (by kernel_rfl) (fun _ _ h => h) ?_
        refine Ad_one 7 rfl (by kernel_rfl) ?_
        refine Al_store1 rfl rfl rfl (by kernel_rfl) Try.isAgg24 Try.sizeOf24 rfl rfl (Nat.le_of_ble_eq_true rfl) (by conv => lhs; whnf) rfl ?_
        refine Al_nil ?_
        refine Ad_done (by kernel_rfl) ?_
        refine Aw_region ?_
        refine Al_pu (Pu_add rfl rfl rfl (fun h1 h2 => by simp only [A.inI, A.maxI] at *; omega)) rfl rfl (by decide) (by kernel_rfl) ?_
        refine Al_pu (Pu_move (.inl rfl) (by conv => lhs; whnf)) rfl rfl (by decide) (by kernel_rfl) ?_
        refine Al_nil ?_
        exact ⟨(i + 1, (ks ++ [x]), t, g41), ⟨by omega, ⟨by simp [hkl], by rw [V.pmany_snoc, hks]; simp only [hb4], ht⟩⟩, by simp only []; omega, Le.ov ⟨Sub.num (by omega), trivial⟩ ⟨Sub.rfl, Sub.rfl, Sub.rfl, Sub.rfl, trivial⟩ ⟨rfl, obeq (by simp [A.cellsA]), rfl, trivial⟩ ⟨rfl, trivial⟩⟩ -- loop 1 next.0
      · have hm4 := stext_m s ri 32 hs hri (by omega)
        rcases hb4 : V.ptext 32 ri with _ | ⟨x, t⟩
        · rw [V.textR_no hb4] at hm4
          have hno : V.pmany (V.ptext 32) (i + 1) r4 = none := by rw [V.pmany_snoc, hks]; simp only [hb4]
          have hnom := V.pmany_none hno (show i + 1 ≤ m by omega)
          exact Al_mpanic hm4 rfl rfl (by kernel_rfl) rfl rfl ⟨Sub.rfl, trivial⟩ (fun pv => ⟨by unfold V.stepR V.pstep; simp only [hns, hb, hb2, hb3, hnom], ⟨pv, rfl⟩, _, rfl, by simp⟩)
        rw [V.textR_yes hb4] at hm4
        obtain ⟨ht, hx32⟩ := V.ptext_suf (by omega) hri hb4
        refine Al_mcall (hm4) rfl rfl rfl (by decide) (by kernel_rfl) rfl rfl ⟨Sub.rfl, trivial⟩ ?_
        refine Al_nil ?_
        refine Ad_two 1 4 rfl rfl (by kernel_rfl) ?_ ?_
        · refine Al_pu (Pu_loadb rfl Try.isAgg24 rfl rfl rfl) rfl rfl (by decide) (by kernel_rfl) ?_
          refine Al_nil ?_
          refine Ad_one 4 rfl (by kernel_rfl) ?_
          refine Al_pu (Pu_slice1 rfl Try.underlying24 Try.sizeOf9 Try.zeroValue9 rfl (by decide) (by decide) (by kernel_rfl) rfl rfl rfl) rfl rfl (by decide) (by kernel_rfl) ?_
          refine Al_nil ?_
          refine Ad_one 5 rfl (by kernel_rfl) ?_
          refine Al_append rfl rfl rfl (by decide) (by kernel_rfl) elem24 (by decide) Try.sizeOf9 rfl rfl rfl (by simp; omega) (by decide) (fun g41 => ?_)
          refine Al_nil ?_
          refine Ad_take 6 rfl (PuI_fieldb 8 rfl Try.underlying30 rfl rfl Try.sizeOf24 rfl) rfl rfl (by decide) (by kernel_rfl) (by kernel_rfl) (by kernel_rfl) (by kernel_rfl) (fun _ _ h => h) ?_
          refine Ad_one 7 rfl (by kernel_rfl) ?_
          refine Al_store1 rfl rfl rfl (by kernel_rfl) Try.isAgg24 Try.sizeOf24 rfl rfl (Nat.le_of_ble_eq_true rfl) (by conv => lhs; whnf) rfl ?_
          refine Al_nil ?_
          refine Ad_done (by kernel_rfl) ?_
          refine Aw_region ?_
          refine Al_pu (Pu_add rfl rfl rfl (fun h1 h2 => by simp only [A.inI, A.maxI] at *; omega)) rfl rfl (by decide) (by kernel_rfl) ?_
          refine Al_pu (Pu_move (.inl rfl) (by conv => lhs; whnf)) rfl rfl (by decide) (by kernel_rfl) ?_
          refine Al_nil ?_
          exact ⟨(i + 1, (ks ++ [x]), t, g41), ⟨by omega, ⟨by simp [hkl], by rw [V.pmany_snoc, hks]; simp only [hb4], ht⟩⟩, by simp only []; omega, Le.ov ⟨Sub.num (by omega), trivial⟩ ⟨Sub.rfl, Sub.rfl, Sub.rfl, Sub.rfl, trivial⟩ ⟨rfl, obeq (by simp [A.cellsA]), rfl, trivial⟩ ⟨rfl, trivial⟩⟩ -- loop 1 next.1
        · refine Al_pu (Pu_slice1 rfl Try.underlying24 Try.sizeOf9 Try.zeroValue9 rfl (by decide) (by decide) (by kernel_rfl) rfl rfl rfl) rfl rfl (by decide) (by kernel_rfl) ?_
          refine Al_nil ?_
          refine Ad_one 1 rfl (by kernel_rfl) ?_
          refine Al_pu (Pu_loadb rfl Try.isAgg24 rfl rfl rfl) rfl rfl (by decide) (by kernel_rfl) ?_
          refine Al_nil ?_
          refine Ad_one 5 rfl (by kernel_rfl) ?_
          refine Al_append rfl rfl rfl (by decide) (by kernel_rfl) elem24 (by decide) Try.sizeOf9 rfl rfl rfl (by simp; omega) (by decide) (fun g41 => ?_)
          refine Al_nil ?_
          refine Ad_take 6 rfl (PuI_fieldb 8 rfl Try.underlying30 rfl rfl Try.sizeOf24 rfl) rfl rfl (by decide) (by kernel_rfl) (by kernel_rfl) (by kernel_rfl) (by kernel_rfl) (fun _ _ h => h) ?_
          refine Ad_one 7 rfl (by kernel_rfl) ?_
          refine Al_store1 rfl rfl rfl (by kernel_rfl) Try.isAgg24 Try.sizeOf24 rfl rfl (Nat.le_of_ble_eq_true rfl) (by conv => lhs; whnf) rfl ?_
          refine Al_nil ?_
          refine Ad_done (by kernel_rfl) ?_
          refine Aw_region ?_
          refine Al_pu (Pu_add rfl rfl rfl (fun h1 h2 => by simp only [A.inI, A.maxI] at *; omega)) rfl rfl (by decide) (by kernel_rfl) ?_
          refine Al_pu (Pu_move (.inl rfl) (by conv => lhs; whnf)) rfl rfl (by decide) (by kernel_rfl) ?_
          refine Al_nil ?_
          exact ⟨(i + 1, (ks ++ [x]), t, g41), ⟨by omega, ⟨by simp [hkl], by rw [V.pmany_snoc, hks]; simp only [hb4], ht⟩⟩, by simp only []; omega, Le.ov ⟨Sub.num (by omega), trivial⟩ ⟨Sub.rfl, Sub.rfl, Sub.rfl, Sub.rfl, trivial⟩ ⟨rfl, obeq (by simp [A.cellsA]), rfl, trivial⟩ ⟨rfl, trivial⟩⟩ -- loop 1 next.2
    · (try simp only [decide_eq_true_eq, decide_eq_false_iff_not, Bool.and_eq_true, Bool.or_eq_true, Bool.and_eq_false_iff, Bool.or_eq_false_iff, Bool.not_eq_true', Bool.not_eq_false', beq_iff_eq, Bool.not_eq_eq_eq_not, Bool.not_true, Bool.not_false, List.length_map, Bool.and_true, Bool.and_false, Bool.false_and, Bool.true_and, Bool.or_false, Bool.false_or] at h35)
      obtain rfl : i = m := by omega
      refine Aw_exit ?_
      refine Aw_seq ?_
      refine Aw_region ?_
      refine Al_pu (Pu_move (.inl rfl) (by conv => lhs; whnf)) rfl rfl (by decide) (by kernel_rfl) ?_
      have hm5 := stext_m s ri 1000 hs hri (by omega)
      rcases hb5 : V.ptext 1000 ri with _ | ⟨w, r6⟩
      · rw [V.textR_no hb5] at hm5
        exact Al_mpanic hm5 rfl rfl (by kernel_rfl) rfl rfl ⟨Sub.rfl, trivial⟩ (fun pv => ⟨by unfold V.stepR V.pstep; simp only [hns, hb, hb2, hb3, hks, hb5], ⟨pv, rfl⟩, _, rfl, by simp⟩)
      rw [V.textR_yes hb5] at hm5
      obtain ⟨hr6, hw1000⟩ := V.ptext_suf (by omega) hri hb5
      refine Al_mcall (hm5) rfl rfl rfl (by decide) (by kernel_rfl) rfl rfl ⟨Sub.rfl, trivial⟩ ?_
      refine Al_pu (Pu_move (.inr rfl) (by conv => lhs; whnf)) rfl rfl (by decide) (by kernel_rfl) ?_
      refine Al_nil ?_
      -- join 1: live [0, 2, 3], turned []
      refine Aw_seq ?_
      refine Aw_seq ?_
      refine Aw_region ?_
      refine Al_pu (Pu_move (.inl rfl) (by conv => lhs; whnf)) rfl rfl (by decide) (by kernel_rfl) ?_
      refine Al_pu (Pu_str rfl rfl rfl rfl) rfl rfl (by decide) (by kernel_rfl) ?_
      refine Al_nil ?_
      refine Aw_cond rfl (fun h47 => ?_) (fun h47 => ?_)
      · skip
        have hwn : w ≠ [] := fun e => by subst e; revert h47; rw [V.nil_text]; decide
        have hpw : V.prow w = V.rrow (V.ba w) := by unfold V.prow; rw [if_neg hwn]
        have hrr := readrow_a (V.ba w) (by rw [A.ba_sz]; omega)
        unfold V.rrowA at hrr
        refine Aw_seq ?_
        rcases hrw : V.rrow (V.ba w) with _ | c
        · rw [hrw] at hrr hpw
          refine Aw_region ?_
          refine Al_pu (Pu_move (.inl rfl) (by conv => lhs; whnf)) rfl rfl (by decide) (by kernel_rfl) ?_
          refine Al_pu (Pu_call (hrr) rfl ⟨Sub.rfl, trivial⟩) rfl rfl (by decide) (by kernel_rfl) ?_
          refine Al_pu (Pu_move (.inl rfl) (by conv => lhs; whnf)) rfl rfl (by decide) (by kernel_rfl) ?_
          refine Al_pu (Pu_extract rfl rfl rfl) rfl rfl (by decide) (by kernel_rfl) ?_
          refine Al_pu (Pu_extract rfl rfl rfl) rfl rfl (by decide) (by kernel_rfl) ?_
          refine Al_alloc rfl rfl rfl (by decide) Try.zeroValue28 rfl (by kernel_rfl) (fun g7 => ?_)
          refine Al_storeN rfl rfl rfl (by kernel_rfl) Try.isAgg28 Try.sizeOf28 rfl rfl rfl rfl (Nat.le_of_ble_eq_true rfl) ?_
          refine Al_pu (Pu_move (.inr rfl) (by conv => lhs; whnf)) rfl rfl (by decide) (by kernel_rfl) ?_
          refine Al_nil ?_
          refine Aw_seq ?_
          refine Aw_region ?_
          refine Al_pu (Pu_move (.inl rfl) (by conv => lhs; whnf)) rfl rfl (by decide) (by kernel_rfl) ?_
          refine Al_pu (Pu_move (.inl rfl) (by conv => lhs; whnf)) rfl rfl (by decide) (by kernel_rfl) ?_
          exact Al_mpanic (must_no [tv s, iv (V.pos s r6)]) rfl rfl (by kernel_rfl) rfl rfl ⟨Sub.rfl, trivial⟩ (fun pv => ⟨by unfold V.stepR V.pstep; simp only [hns, hb, hb2, hb3, hks, hb5, hpw], ⟨pv, rfl⟩, _, rfl, by simp⟩)
        rw [hrw] at hrr hpw
        have hfit := V.rrow_fits hrw
        refine Aw_region ?_
        refine Al_pu (Pu_move (.inl rfl) (by conv => lhs; whnf)) rfl rfl (by decide) (by kernel_rfl) ?_
        refine Al_pu (Pu_call (hrr) rfl ⟨Sub.rfl, trivial⟩) rfl rfl (by decide) (by kernel_rfl) ?_
        refine Al_pu (Pu_move (.inl rfl) (by conv => lhs; whnf)) rfl rfl (by decide) (by kernel_rfl) ?_
        refine Al_pu (Pu_extract rfl rfl rfl) rfl rfl (by decide) (by kernel_rfl) ?_
        refine Al_pu (Pu_extract rfl rfl rfl) rfl rfl (by decide) (by kernel_rfl) ?_
        refine Al_alloc rfl rfl rfl (by decide) Try.zeroValue28 rfl (by kernel_rfl) (fun g7 => ?_)
        refine Al_storeN rfl rfl rfl (by kernel_rfl) Try.isAgg28 Try.sizeOf28 rfl rfl rfl rfl (Nat.le_of_ble_eq_true rfl) ?_
        refine Al_pu (Pu_move (.inr rfl) (by conv => lhs; whnf)) rfl rfl (by decide) (by kernel_rfl) ?_
        refine Al_nil ?_
        refine Aw_seq ?_
        refine Aw_region ?_
        refine Al_pu (Pu_move (.inl rfl) (by conv => lhs; whnf)) rfl rfl (by decide) (by kernel_rfl) ?_
        refine Al_pu (Pu_move (.inl rfl) (by conv => lhs; whnf)) rfl rfl (by decide) (by kernel_rfl) ?_
        refine Al_mcall (must_m [tv s, iv (V.pos s r6)]) rfl rfl rfl (by decide) (by kernel_rfl) rfl rfl ⟨Sub.rfl, trivial⟩ ?_
        refine Al_nil ?_
        refine Aw_region ?_
        refine Al_pu (Pu_loadbN (r := [_, _, _]) rfl Try.isAgg28 Try.sizeOf28 rfl rfl rfl rfl) rfl rfl (by decide) (by kernel_rfl) ?_
        refine Al_pu (Pu_fieldb 9 rfl Try.underlying30 rfl rfl Try.sizeOf28 rfl) rfl rfl (by decide) (by kernel_rfl) ?_
        refine Al_storeN rfl rfl rfl (by kernel_rfl) Try.isAgg28 Try.sizeOf28 rfl rfl rfl rfl (Nat.le_of_ble_eq_true rfl) ?_
        refine Al_nil ?_
        refine Aw_seq ?_
        refine Aw_frzcM 8 (k := 80) (kb := 3) hlent [] rfl rfl rfl rfl rfl rfl trivial ?_
        refine Aw_region ?_
        refine Al_pu (Pu_move (.inl rfl) (by conv => lhs; whnf)) rfl rfl (by decide) (by kernel_rfl) ?_
        refine Al_pu (Pu_loadbN (r := [_, _, _, _, _, _, _, _, _, _, _, _]) rfl Try.isAgg30 Try.sizeOf30 rfl rfl rfl rfl) rfl rfl (by decide) (by kernel_rfl) ?_
        refine Al_pu (Pu_call (scheck_a (V.opOf ns k v ks c) hfit) rfl ⟨Sub.rfl, trivial⟩) rfl rfl (by decide) (by kernel_rfl) ?_
        rcases hchk : S.check (V.opOf ns k v ks c) with _ | _
        · exact Al_mpanic (must_no [tv s, iv (V.pos s r6)]) rfl rfl (by kernel_rfl) rfl rfl ⟨Sub.rfl, trivial⟩ (fun pv => ⟨by unfold V.stepR V.pstep; simp only [hns, hb, hb2, hb3, hks, hb5, hpw, hchk]; rfl, ⟨pv, rfl⟩, _, rfl, by simp⟩)
        refine Al_mcall (must_m [tv s, iv (V.pos s r6)]) rfl rfl rfl (by decide) (by kernel_rfl) rfl rfl ⟨Sub.rfl, trivial⟩ ?_
        refine Al_nil ?_
        refine Aw_seq ?_
        refine Aw_region ?_
        refine Al_pu (Pu_loadbN (r := [_, _, _, _, _, _, _, _, _, _, _, _]) rfl Try.isAgg30 Try.sizeOf30 rfl rfl rfl rfl) rfl rfl (by decide) (by kernel_rfl) ?_
        refine Al_storeN rfl rfl rfl (by kernel_rfl) Try.isAgg30 Try.sizeOf30 rfl rfl rfl rfl (Nat.le_of_ble_eq_true rfl) ?_
        refine Al_nil ?_
        refine Aw_ret ?_
        exact ⟨_, _, by unfold V.stepR V.pstep; simp only [hns, hb, hb2, hb3, hks, hb5, hpw, hchk]; rfl, ⟨_, _, _, _, _, [_, _, _, _, _, _, _, _, _, _, _, _], rfl, rfl, rfl, rfl, rfl⟩, rfl⟩ -- ret 0
      · skip
        have hwn : w = [] := by
          rw [V.nil_text] at h47
          have : (V.ba w).size = 0 := by simpa using h47
          rw [A.ba_sz] at this
          exact List.eq_nil_of_length_eq_zero this
        obtain ⟨c, hc⟩ : ∃ c : SRow, c = ⟨[], [], []⟩ := ⟨_, rfl⟩
        have hpw : V.prow w = some c := by unfold V.prow; rw [if_pos hwn, hc]
        have hfit : S.fitRow c ∧ c.ranges.length ≤ 1000000 ∧ c.owners.length ≤ 1000000 ∧ c.parents.length ≤ 1000000 := by subst hc; exact ⟨(fun r hr => by cases hr), Nat.zero_le _, Nat.zero_le _, Nat.zero_le _⟩
        refine Aw_boxle (k := 3) (V.stCells ns (V.ba k) (V.ba v) (.ow 80 g) (c.row.map .d)) rfl (by subst hc; exact ⟨Sub.rfl, Sub.rfl, Sub.rfl, Sub.rfl, Sub.rfl, Sub.rfl, Sub.rfl, Sub.rfl, Sub.rfl, Sub.nil, Sub.nil, Sub.nil, trivial⟩) ?_
        refine Aw_skip ?_
        refine Aw_seq ?_
        refine Aw_frzcM 8 (k := 80) (kb := 3) hlent [] rfl rfl rfl rfl rfl rfl trivial ?_
        refine Aw_region ?_
        refine Al_pu (Pu_move (.inl rfl) (by conv => lhs; whnf)) rfl rfl (by decide) (by kernel_rfl) ?_
        refine Al_pu (Pu_loadbN (r := [_, _, _, _, _, _, _, _, _, _, _, _]) rfl Try.isAgg30 Try.sizeOf30 rfl rfl rfl rfl) rfl rfl (by decide) (by kernel_rfl) ?_
        refine Al_pu (Pu_call (scheck_a (V.opOf ns k v ks c) hfit) rfl ⟨Sub.rfl, trivial⟩) rfl rfl (by decide) (by kernel_rfl) ?_
        rcases hchk : S.check (V.opOf ns k v ks c) with _ | _
        · exact Al_mpanic (must_no [tv s, iv (V.pos s r6)]) rfl rfl (by kernel_rfl) rfl rfl ⟨Sub.rfl, trivial⟩ (fun pv => ⟨by unfold V.stepR V.pstep; simp only [hns, hb, hb2, hb3, hks, hb5, hpw, hchk]; rfl, ⟨pv, rfl⟩, _, rfl, by simp⟩)
        refine Al_mcall (must_m [tv s, iv (V.pos s r6)]) rfl rfl rfl (by decide) (by kernel_rfl) rfl rfl ⟨Sub.rfl, trivial⟩ ?_
        refine Al_nil ?_
        refine Aw_seq ?_
        refine Aw_region ?_
        refine Al_pu (Pu_loadbN (r := [_, _, _, _, _, _, _, _, _, _, _, _]) rfl Try.isAgg30 Try.sizeOf30 rfl rfl rfl rfl) rfl rfl (by decide) (by kernel_rfl) ?_
        refine Al_storeN rfl rfl rfl (by kernel_rfl) Try.isAgg30 Try.sizeOf30 rfl rfl rfl rfl (Nat.le_of_ble_eq_true rfl) ?_
        refine Al_nil ?_
        refine Aw_ret ?_
        exact ⟨_, _, by unfold V.stepR V.pstep; simp only [hns, hb, hb2, hb3, hks, hb5, hpw, hchk]; rfl, ⟨_, _, _, _, _, [_, _, _, _, _, _, _, _, _, _, _, _], rfl, rfl, rfl, rfl, rfl⟩, rfl⟩ -- ret 1
end Go.Proofs.Ytocgnmklgklfnaa
