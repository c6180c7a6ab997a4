/- Steps written and read again; plain. -/
/- Rows and steps written and read again; plain. -/
import Derived.Test.YtocgnmklgklfnaaSSt
import Derived.Test.YtocgnmklgklfnaaSRe
set_option linter.unusedSimpArgs false
set_option linter.unusedVariables false
namespace Go.Proofs.Ytocgnmklgklfnaa
open Go.RowKit A R
theorem K.size_runes (s : ByteArray) : ∀ (k i f n : Nat), s.size - i ≤ k → s.size ≤ i + f → K.runesF s f i = some n → s.size ≤ i + 4 * n := by
  intro k
  induction k with
  | zero => intro i f n h _ _; omega
  | succ k ih =>
    intro i f n h hf hr
    by_cases hi : i < s.size
    · cases ho : K.okAt s i with
      | false => rw [K.runesF_bad s f i hi hf ho] at hr; cases hr
      | true =>
        obtain ⟨g, hg, e⟩ := K.runesF_ok s f i hi hf ho
        rw [e] at hr
        obtain ⟨m, hm, rfl⟩ := Option.map_eq_some_iff.1 hr
        have hw := K.wd_pos s i hi
        have hw4 : K.wd s i ≤ 4 := by rw [← (K.ref_ok s i hi).2 ho]; exact K.longN_le _
        have := ih (i + K.wd s i) g m (by omega) hg hm
        omega
    · omega
theorem K.check_size {s : ByteArray} (h : K.checkB s = true) : s.size ≤ 32 := by
  unfold K.checkB K.lim at h
  simp only [Bool.and_eq_true, decide_eq_true_eq] at h
  obtain ⟨⟨h1, h2⟩, _⟩ := h
  unfold K.runes at h1 h2
  split at h1
  · rename_i n hn
    have := K.size_runes s s.size 0 s.size n (by omega) (by omega) hn
    rw [hn] at h2
    simp only at h2
    omega
  · omega
theorem K.may_size {s : ByteArray} (h : K.mayB s = true) : s.size ≤ 32 := by
  unfold K.mayB at h
  rw [Bool.or_eq_true] at h
  rcases h with h | h
  · rw [Lib.toList_data] at h
    have : s.data.toList = [] := by simpa using h
    show s.data.size ≤ 32
    rw [← Array.length_toList, this]; simp
  · exact K.check_size h
namespace V
theorem data_ba (l : List UInt8) : (ba l).data.toList = l := by simp [ba]
/-! ### parts -/
theorem pmany_flat {α β : Type} {p : List UInt8 → Option (β × List UInt8)} {enc : α → List UInt8} {g : α → β} : ∀ (xs : List α), (∀ x ∈ xs, ∀ t, p (enc x ++ t) = some (g x, t)) → ∀ t, pmany p xs.length (xs.flatMap enc ++ t) = some (xs.map g, t)
  | [], _, t => rfl
  | x :: xs, h, t => by
    simp only [List.length_cons, pmany, List.flatMap_cons, List.append_assoc]
    rw [h x (by simp)]
    simp only
    rw [pmany_flat xs (fun y hy => h y (by simp [hy])) t]
    rfl
def Grows {α : Type} (p : List UInt8 → Option (α × List UInt8)) : Prop := ∀ l x t z, p l = some (x, t) → p (l ++ z) = some (x, t ++ z)
theorem pnum_grows {most : Nat} (hm : most < 18446744073709551616) : Grows (pnum most) := fun l x t z h => by
  obtain ⟨h1, rfl⟩ := (pnum_iff hm).1 h
  rw [List.append_assoc]
  exact (pnum_iff hm).2 ⟨h1, rfl⟩
theorem ptext_grows {most : Nat} (hm : most < 18446744073709551616) : Grows (ptext most) := fun l x t z h => by
  obtain ⟨h1, rfl⟩ := (ptext_iff hm).1 h
  rw [List.append_assoc]
  exact (ptext_iff hm).2 ⟨h1, rfl⟩
theorem pmany_grows {α : Type} {p : List UInt8 → Option (α × List UInt8)} (hp : Grows p) : ∀ k, Grows (pmany p k)
  | 0, l, x, t, z, h => by simp only [pmany, Option.some.injEq, Prod.mk.injEq] at h ⊢; exact ⟨h.1, by rw [h.2]⟩
  | k + 1, l, x, t, z, h => by
    simp only [pmany] at h ⊢
    split at h
    · cases h
    · rename_i y t1 h1
      split at h
      · cases h
      · rename_i ys t2 h2
        simp only [Option.some.injEq, Prod.mk.injEq] at h
        rw [hp _ _ _ z h1]
        simp only
        rw [pmany_grows hp k _ _ _ z h2]
        simp only [Option.some.injEq, Prod.mk.injEq]
        exact ⟨h.1, by rw [h.2]⟩
theorem pstep_grows : Grows pstep := fun l x t z h => by
  unfold pstep at h ⊢
  split at h
  · cases h
  · rename_i ns r1 h1
    rw [pmany_grows (pnum_grows (by omega)) 6 _ _ _ z h1]
    simp only
    split at h
    · cases h
    · rename_i k r2 h2
      rw [ptext_grows (by omega) _ _ _ z h2]
      simp only
      split at h
      · cases h
      · rename_i v r3 h3
        rw [ptext_grows (by omega) _ _ _ z h3]
        simp only
        split at h
        · cases h
        · rename_i m r4 h4
          rw [pnum_grows (by omega) _ _ _ z h4]
          simp only
          split at h
          · cases h
          · rename_i ks r5 h5
            rw [pmany_grows (ptext_grows (by omega)) m _ _ _ z h5]
            simp only
            split at h
            · cases h
            · rename_i w r6 h6
              rw [ptext_grows (by omega) _ _ _ z h6]
              simp only
              split at h
              · cases h
              · rename_i c hc
                split at h
                · rename_i hk
                  rw [if_pos hk]
                  simp only [Option.some.injEq, Prod.mk.injEq] at h ⊢
                  exact ⟨h.1, by rw [h.2]⟩
                · cases h
theorem pread_more {l z : List UInt8} {os : List SOp} (h : pread l = some os) (hz : z ≠ []) : pread (l ++ z) = none := by
  unfold pread at h ⊢
  split at h
  · cases h
  · rename_i n r h1
    rw [pnum_grows (by omega) _ _ _ z h1]
    simp only
    split at h
    · cases h
    · rename_i os' t h2
      rw [pmany_grows pstep_grows n _ _ _ z h2]
      simp only
      rw [if_neg]
      intro e
      exact hz (List.append_eq_nil_iff.1 e).2
/-! ### a row -/
def mkR (fr : ByteArray) : List (List UInt8) → List Rng
  | [] => [⟨fr, ⟨#[]⟩⟩]
  | t :: ts => ⟨fr, ba t⟩ :: mkR (ba t) ts
def lastF (fr : ByteArray) : List (List UInt8) → ByteArray
  | [] => fr
  | t :: ts => lastF (ba t) ts
def cutF (fr : ByteArray) : List (List UInt8) → List Rng
  | [] => []
  | t :: ts => ⟨fr, ba t⟩ :: cutF (ba t) ts
theorem mkR_eq : ∀ (ts : List (List UInt8)) (fr : ByteArray), mkR fr ts = cutF fr ts ++ [⟨lastF fr ts, ⟨#[]⟩⟩]
  | [], fr => rfl
  | t :: ts, fr => by simp [mkR, cutF, lastF, mkR_eq ts (ba t)]
theorem cutF_snoc : ∀ (ts : List (List UInt8)) (fr : ByteArray) (t : List UInt8), cutF fr (ts ++ [t]) = cutF fr ts ++ [⟨lastF fr ts, ba t⟩] ∧ lastF fr (ts ++ [t]) = ba t
  | [], fr, t => ⟨rfl, rfl⟩
  | x :: ts, fr, t => by
    obtain ⟨h1, h2⟩ := cutF_snoc ts (ba x) t
    exact ⟨by simp [cutF, lastF, h1], by simp [lastF, h2]⟩
def mkRow (ts : List (List UInt8)) (os ps : List Nat) : SRow := ⟨mkR ⟨#[]⟩ ts, os.map fun x => ((x : Nat) : Int), ps.map fun x => ((x : Nat) : Int) - 1⟩
def prow0 (l : List UInt8) : Option SRow := match pnum 8 l with
  | none => none
  | some (n, r) => if n = 0 then none else match pmany (ptext 32) (n - 1) r with
    | none => none
    | some (ts, r2) => match pmany (pnum 63) n r2 with
      | none => none
      | some (os, r3) => match pnum 6 r3 with
        | none => none
        | some (m, r4) => match pmany (pnum 6) m r4 with
          | none => none
          | some (ps, r5) => if r5 = [] then some (mkRow ts os ps) else none
theorem wokN_eq {s : ByteArray} {r : List UInt8} {most : Nat} (hr : r <:+ s.data.toList) : wokN s most (pos s r, false) = (pnum most r).isSome := by
  cases hb : wokN s most (pos s r, false) with
  | false => rw [pnum_no hr hb]; rfl
  | true => obtain ⟨n, t, h, _⟩ := pnum_yes hr hb; rw [h]; rfl
theorem wnum_yes {s : ByteArray} {r t : List UInt8} {most n : Nat} (hr : r <:+ s.data.toList) (h : pnum most r = some (n, t)) : wnumS s most (pos s r, false) = (pos s t, false) ∧ wnumV s most (pos s r, false) = n := by
  have hb : wokN s most (pos s r, false) = true := by rw [wokN_eq hr, h]; rfl
  obtain ⟨n', t', k1, k2, k3, _⟩ := pnum_yes hr hb
  rw [h] at k1
  simp only [Option.some.injEq, Prod.mk.injEq] at k1
  obtain ⟨rfl, rfl⟩ := k1
  have e : wnumS s most (pos s r, false) = (pos s t, false) := by
    unfold wnumS
    rw [hb, k3]; rfl
  refine ⟨e, ?_⟩
  unfold wnumV
  rw [e, if_neg (by simp), k2]
theorem wnum_no {s : ByteArray} {r : List UInt8} {most : Nat} (hr : r <:+ s.data.toList) (h : pnum most r = none) : (wnumS s most (pos s r, false)).2 = true := by
  show (false || !wokN s most (pos s r, false)) = true
  rw [wokN_eq hr, h]; rfl
theorem wmany_bad {s : ByteArray} {most : Nat} {p : WS} (h : p.2 = true) : ∀ k, (wmany s most k p).2.2 = true
  | 0 => h
  | k + 1 => by
    show ((wmany s most k p).2.2 || _) = true
    rw [wmany_bad h k]; rfl
theorem wmany_eq {s : ByteArray} {most : Nat} {r : List UInt8} (hm : most < 18446744073709551616) (hr : r <:+ s.data.toList) : ∀ k, match pmany (pnum most) k r with
    | some (xs, t) => wmany s most k (pos s r, false) = (xs, (pos s t, false)) ∧ t <:+ s.data.toList
    | none => (wmany s most k (pos s r, false)).2.2 = true
  | 0 => ⟨rfl, hr⟩
  | k + 1 => by
    have ih := wmany_eq hm hr k
    rw [pmany_snoc]
    cases h1 : pmany (pnum most) k r with
    | none =>
      rw [h1] at ih
      simp only at ih ⊢
      show ((wmany s most k (pos s r, false)).2.2 || _) = true
      rw [ih]; rfl
    | some y =>
      obtain ⟨xs, t⟩ := y
      rw [h1] at ih
      simp only at ih ⊢
      obtain ⟨e, ht⟩ := ih
      cases h2 : pnum most t with
      | none =>
        simp only
        show (wnumS s most (wmany s most k (pos s r, false)).2).2 = true
        rw [e]; exact wnum_no ht h2
      | some z =>
        obtain ⟨n, t'⟩ := z
        simp only
        obtain ⟨k1, k2⟩ := wnum_yes ht h2
        refine ⟨?_, (pnum_suf hm ht h2).1⟩
        show ((wmany s most k (pos s r, false)).1 ++ [wnumV s most (wmany s most k (pos s r, false)).2], wnumS s most (wmany s most k (pos s r, false)).2) = _
        rw [e]
        simp only
        rw [k1, k2]
theorem wtexts_eq {s : ByteArray} {r : List UInt8} (hr : r <:+ s.data.toList) : ∀ k, match pmany (ptext 32) k r with
    | some (ts, t) => t <:+ s.data.toList ∧ (wtexts s k (pos s r, false) = if ([] : List UInt8) ∈ ts then none else some (cutF ⟨#[]⟩ ts, lastF ⟨#[]⟩ ts, (pos s t, false)))
    | none => wtexts s k (pos s r, false) = none
  | 0 => ⟨hr, rfl⟩
  | k + 1 => by
    have ih := wtexts_eq hr k
    rw [pmany_snoc]
    cases h1 : pmany (ptext 32) k r with
    | none =>
      rw [h1] at ih
      simp only at ih ⊢
      rw [wtexts, ih]
    | some y =>
      obtain ⟨ts, t⟩ := y
      rw [h1] at ih
      simp only at ih ⊢
      obtain ⟨ht, e⟩ := ih
      have hb : rtB s (pos s t) 32 = (ptext 32 t).isSome := by unfold rtB; rw [drop_suf ht]
      cases h2 : ptext 32 t with
      | none =>
        simp only
        rw [wtexts, e]
        by_cases hin : ([] : List UInt8) ∈ ts
        · rw [if_pos hin]
        · rw [if_neg hin]
          simp only
          rw [if_pos (.inl (by
            show (false || !rtB s (pos s t) 32) = true
            rw [hb, h2]; rfl))]
      | some z =>
        obtain ⟨x, t'⟩ := z
        simp only
        have hrt : rtB s (pos s t) 32 = true := by rw [hb, h2]; rfl
        obtain ⟨x', t2, k1, k2, k3, k4, _⟩ := ptext_yes (by omega) ht hrt
        rw [h2] at k1
        simp only [Option.some.injEq, Prod.mk.injEq] at k1
        obtain ⟨rfl, rfl⟩ := k1
        refine ⟨k4, ?_⟩
        rw [wtexts, e]
        have hsS : wtextS s 32 (pos s t, false) = (pos s t', false) := by
          unfold wtextS
          rw [hrt, k3]; rfl
        by_cases hin : ([] : List UInt8) ∈ ts
        · rw [if_pos hin, if_pos (by simp [hin])]
        · rw [if_neg hin]
          simp only
          rw [hsS, k2, A.ba_sz]
          by_cases hx : x = []
          · rw [if_pos (.inr (by rw [hx]; rfl)), if_pos (by simp [hx])]
          · rw [if_neg (by
              rintro (h | h)
              · cases h
              · exact hx (List.eq_nil_of_length_eq_zero h)), if_neg (by simp [hin, Ne.symm hx])]
            obtain ⟨c1, c2⟩ := cutF_snoc ts ⟨#[]⟩ x
            rw [c1, c2]
end V
end Go.Proofs.Ytocgnmklgklfnaa

set_option linter.unusedSimpArgs false
set_option linter.unusedVariables false
namespace Go.Proofs.Ytocgnmklgklfnaa
open Go.RowKit A R
namespace V
theorem ba_inj {l m : List UInt8} (h : ba l = ba m) : l = m := by rw [← data_ba l, h, data_ba]
theorem toList_eq {s t : ByteArray} (h : (s.toList == t.toList) = true) : s = t := by
  rw [Lib.toList_data, Lib.toList_data] at h
  have : s.data.toList = t.data.toList := by simpa using h
  rw [← ba_data s, this, ba_data]
theorem empty_eq {s : ByteArray} (h : s.toList.isEmpty = true) : s = ⟨#[]⟩ := by
  rw [Lib.toList_data] at h
  have : s.data.toList = [] := by simpa using h
  rw [← ba_data s, this]
theorem empty_ba {l : List UInt8} : (ba l).toList.isEmpty = l.isEmpty := by rw [Lib.toList_data, data_ba]
/-- What is whole, is what some texts cut. -/
theorem wholeF_mk : ∀ (l : List Rng) (a : ByteArray) (fst : Bool), l ≠ [] → wholeF a fst l = true → (fst = true ∨ a.toList.isEmpty = false) ∧ ∃ ts : List (List UInt8), l = mkR a ts ∧ ts.length + 1 = l.length ∧ ([] : List UInt8) ∉ ts ∧ ∀ t ∈ ts, t.length ≤ 32
  | [], _, _, h, _ => (h rfl).elim
  | r :: l, a, fst, _, h => by
    rw [wholeF] at h
    simp only [Bool.and_eq_true] at h
    obtain ⟨h1, h2, h3, h4⟩ := h
    have hf := toList_eq h2
    have hfst : fst = true ∨ a.toList.isEmpty = false := by
      rw [Bool.or_eq_true] at h3
      rcases h3 with h3 | h3
      · exact .inl h3
      · exact .inr (by simpa using h3)
    refine ⟨hfst, ?_⟩
    cases l with
    | nil =>
      rw [wholeF] at h4
      have ht := empty_eq h4
      obtain ⟨f, t⟩ := r
      simp only at hf ht
      subst hf ht
      exact ⟨[], rfl, rfl, by simp, fun t ht => by cases ht⟩
    | cons r2 l =>
      obtain ⟨h5, ts, h6, h7, h8, h9⟩ := wholeF_mk (r2 :: l) r.t false (by simp) h4
      have h5' := h5.resolve_left (by simp)
      obtain ⟨f, t⟩ := r
      simp only at hf h5' h6 h1
      subst hf
      have hsz : t.size ≤ 32 := by
        unfold K.goodB at h1
        simp only [Bool.and_eq_true] at h1
        exact K.may_size h1.1.2
      refine ⟨t.data.toList :: ts, ?_, by simp only [List.length_cons] at h7 ⊢; omega, ?_, fun x hx => ?_⟩
      · rw [h6, mkR, ba_data]
      · simp only [List.mem_cons, not_or]
        refine ⟨fun e => ?_, h8⟩
        rw [Lib.toList_data, ← e] at h5'
        cases h5'
      · rcases List.mem_cons.1 hx with rfl | hx
        · rw [Array.length_toList]; exact hsz
        · exact h9 x hx
theorem whole_mk {l : List Rng} (h : whole l = true) : ∃ ts : List (List UInt8), l = mkR ⟨#[]⟩ ts ∧ ts.length + 1 = l.length ∧ ([] : List UInt8) ∉ ts ∧ ∀ t ∈ ts, t.length ≤ 32 := by
  unfold whole at h
  rw [Bool.and_eq_true] at h
  exact (wholeF_mk l _ _ (by intro e; rw [e] at h; cases h.1) h.2).2
theorem mkR_ne (fr : ByteArray) (ts : List (List UInt8)) : mkR fr ts ≠ [] := by cases ts <;> simp [mkR]
theorem mkR_len : ∀ (ts : List (List UInt8)) (fr : ByteArray), (mkR fr ts).length = ts.length + 1
  | [], _ => rfl
  | t :: ts, _ => by simp [mkR, mkR_len ts]
theorem wholeF_bad : ∀ (ts : List (List UInt8)) (a : ByteArray) (fst : Bool), ([] : List UInt8) ∈ ts → wholeF a fst (mkR a ts) = false
  | [], _, _, h => by cases h
  | t :: ts, a, fst, h => by
    rw [mkR, wholeF]
    rcases List.mem_cons.1 h with h | h
    · have e : wholeF (ba t) false (mkR (ba t) ts) = false := by
        cases hb : wholeF (ba t) false (mkR (ba t) ts) with
        | false => rfl
        | true =>
          have := (wholeF_mk _ _ _ (mkR_ne _ _) hb).1
          rw [empty_ba, ← h] at this
          rcases this with h1 | h1 <;> cases h1
      simp only [e, Bool.and_false]
    · simp only [wholeF_bad ts (ba t) false h, Bool.and_false]
theorem whole_bad {ts : List (List UInt8)} (h : ([] : List UInt8) ∈ ts) : whole (mkR ⟨#[]⟩ ts) = false := by
  unfold whole
  rw [wholeF_bad ts _ _ h, Bool.and_false]
theorem written_whole {c : SRow} (h : S.written c = true) : whole c.ranges = true := (S.shape_facts (S.written_facts h).1).2.2.2.2
/-- A row that is read: what its parts are, if it may be written. -/
theorem rrow_eq (s : ByteArray) : rrow s = match prow0 s.data.toList with
    | some c => if S.written c then some c else none
    | none => none := by
  have hr0 : s.data.toList <:+ s.data.toList := List.suffix_refl _
  have hp0 : pos s s.data.toList = 0 := by show s.size - s.data.toList.length = 0; rw [Array.length_toList]; exact Nat.sub_self _
  unfold rrow prow0
  rw [show ((0, false) : WS) = (pos s s.data.toList, false) from by rw [hp0]]
  cases h1 : pnum 8 s.data.toList with
  | none => rw [if_pos (.inl (wnum_no hr0 h1))]
  | some y =>
    obtain ⟨n, r⟩ := y
    obtain ⟨e1, e2⟩ := wnum_yes hr0 h1
    have hr := (pnum_suf (by omega) hr0 h1).1
    rw [e1, e2]
    simp only
    by_cases hn : n = 0
    · rw [if_pos (.inr hn), if_pos hn]
    · rw [if_neg (by rintro (h | h); cases h; exact hn h), if_neg hn]
      have ht := wtexts_eq hr (n - 1)
      cases h2 : pmany (ptext 32) (n - 1) r with
      | none =>
        rw [h2] at ht
        simp only at ht ⊢
        rw [ht]
      | some y =>
        obtain ⟨ts, r2⟩ := y
        rw [h2] at ht
        simp only at ht ⊢
        obtain ⟨hr2, e3⟩ := ht
        rw [e3]
        by_cases hin : ([] : List UInt8) ∈ ts
        · rw [if_pos hin]
          simp only
          have hbad : ∀ os ps, S.written (mkRow ts os ps) = false := fun os ps => by
            cases hb : S.written (mkRow ts os ps) with
            | false => rfl
            | true => have := written_whole hb; rw [show (mkRow ts os ps).ranges = mkR ⟨#[]⟩ ts from rfl, whole_bad hin] at this; cases this
          cases h3 : pmany (pnum 63) n r2 with
          | none => rfl
          | some y =>
            obtain ⟨os, r3⟩ := y
            simp only
            cases h4 : pnum 6 r3 with
            | none => rfl
            | some y =>
              obtain ⟨m, r4⟩ := y
              simp only
              cases h5 : pmany (pnum 6) m r4 with
              | none => rfl
              | some y =>
                obtain ⟨ps, r5⟩ := y
                simp only
                by_cases h6 : r5 = []
                · rw [if_pos h6]; simp only; rw [hbad]; rfl
                · rw [if_neg h6]
        · rw [if_neg hin]
          simp only
          have ho := wmany_eq (most := 63) (by omega) hr2 n
          cases h3 : pmany (pnum 63) n r2 with
          | none =>
            rw [h3] at ho
            simp only at ho ⊢
            rw [if_pos ho]
          | some y =>
            obtain ⟨os, r3⟩ := y
            rw [h3] at ho
            simp only at ho ⊢
            obtain ⟨e4, hr3⟩ := ho
            rw [e4, if_neg (by simp)]
            simp only
            cases h4 : pnum 6 r3 with
            | none =>
              simp only
              rw [if_neg]
              rw [wmany_bad (wnum_no hr3 h4)]
              simp
            | some y =>
              obtain ⟨m, r4⟩ := y
              obtain ⟨e5, e6⟩ := wnum_yes hr3 h4
              have hr4 := (pnum_suf (by omega) hr3 h4).1
              simp only
              rw [e5, e6]
              have hp := wmany_eq (most := 6) (by omega) hr4 m
              cases h5 : pmany (pnum 6) m r4 with
              | none =>
                rw [h5] at hp
                simp only at hp ⊢
                rw [if_neg]
                rw [hp]; simp
              | some y =>
                obtain ⟨ps, r5⟩ := y
                rw [h5] at hp
                simp only at hp ⊢
                obtain ⟨e7, hr5⟩ := hp
                rw [e7]
                have hl := suf_len hr5
                simp only [Bool.not_false, Bool.true_and, Bool.and_eq_true, decide_eq_true_eq]
                have em : (SRow.mk (cutF ⟨#[]⟩ ts ++ [⟨lastF ⟨#[]⟩ ts, ⟨#[]⟩⟩]) (os.map fun x => ((x : Nat) : Int)) (ps.map fun x => ((x : Nat) : Int) - 1)) = mkRow ts os ps := by
                  unfold mkRow; rw [mkR_eq]
                rw [em]
                by_cases h6 : r5 = []
                · rw [if_pos h6]
                  simp only
                  subst h6
                  by_cases hw : S.written (mkRow ts os ps) = true
                  · rw [if_pos ⟨by show ((s.size - 0 : Nat) : Int) = s.size; rw [Nat.sub_zero], hw⟩, if_pos hw]
                  · rw [if_neg (fun h => hw h.2), if_neg hw]
                · rw [if_neg h6, if_neg]
                  rintro ⟨h7, _⟩
                  apply h6
                  apply List.eq_nil_of_length_eq_zero
                  have h8 : ((s.size - r5.length : Nat) : Int) = s.size := h7
                  omega
/-! ### there and back -/
theorem cutF_texts : ∀ (ts : List (List UInt8)) (fr : ByteArray), (cutF fr ts).flatMap (fun r => text r.t) = ts.flatMap fun t => text (ba t)
  | [], _ => rfl
  | t :: ts, _ => by simp [cutF, cutF_texts ts]
theorem prow0_bytes {c : SRow} (h : S.written c = true) : prow0 (S.rowBytes c) = some c := by
  obtain ⟨hs, hp, hx⟩ := S.written_facts h
  obtain ⟨n1, n2, n3, n4, n5⟩ := S.shape_facts hs
  obtain ⟨ts, t1, t2, t3, t4⟩ := whole_mk n5
  have hcuts : S.cuts c = cutF ⟨#[]⟩ ts := by
    unfold S.cuts
    rw [t1, mkR_eq]
    rw [List.length_append, List.length_singleton, Nat.add_sub_cancel, List.take_left]
  have hos : c.owners.flatMap (fun x => num x.toNat) = (c.owners.map fun x => x.toNat).flatMap num := by rw [List.flatMap_map]
  have hps : c.parents.flatMap (fun p => num (p + 1).toNat) = (c.parents.map fun p => (p + 1).toNat).flatMap num := by rw [List.flatMap_map]
  unfold prow0 S.rowBytes
  rw [hcuts, cutF_texts, hos, hps]
  simp only [List.append_assoc]
  rw [(pnum_iff (by omega)).2 ⟨n3, rfl⟩]
  simp only
  rw [if_neg (by omega), show c.ranges.length - 1 = ts.length from by omega, pmany_flat (g := fun t => t) ts (fun t ht z => (ptext_iff (by omega)).2 ⟨t4 t ht, rfl⟩)]
  simp only
  rw [show c.ranges.length = (c.owners.map fun x => x.toNat).length from by rw [List.length_map]; omega, pmany_flat (g := fun n => n) _ (fun n hn z => (pnum_iff (by omega)).2 ⟨by
    obtain ⟨x, hx1, rfl⟩ := List.mem_map.1 hn
    have := hx x hx1
    omega, rfl⟩)]
  simp only
  rw [(pnum_iff (by omega)).2 ⟨n2, rfl⟩]
  simp only
  have hpe := pmany_flat (p := pnum 6) (enc := num) (g := fun n => n) (c.parents.map fun p => (p + 1).toNat) (fun n hn z => (pnum_iff (by omega)).2 ⟨by
    obtain ⟨x, hx1, rfl⟩ := List.mem_map.1 hn
    have := hp x hx1
    omega, rfl⟩) []
  rw [List.append_nil, List.length_map] at hpe
  rw [hpe]
  simp only [if_true, Option.some.injEq]
  obtain ⟨rs, os, ps⟩ := c
  simp only at *
  unfold mkRow
  simp only [List.map_id', List.map_map, SRow.mk.injEq]
  refine ⟨t1.symm, ?_, ?_⟩
  · conv => rhs; rw [← List.map_id os]
    refine List.map_congr_left fun x hx1 => ?_
    have := hx x hx1
    simp only [Function.comp, id]
    omega
  · conv => rhs; rw [← List.map_id ps]
    refine List.map_congr_left fun x hx1 => ?_
    have := hp x hx1
    simp only [Function.comp, id]
    omega
theorem rowBytes_len {c : SRow} (h : S.written c = true) : (S.rowBytes c).length ≤ 1000 ∧ S.rowBytes c ≠ [] := by
  obtain ⟨hs, hp, hx⟩ := S.written_facts h
  obtain ⟨n1, n2, n3, n4, n5⟩ := S.shape_facts hs
  obtain ⟨ts, t1, t2, t3, t4⟩ := whole_mk n5
  have hcuts : S.cuts c = cutF ⟨#[]⟩ ts := by
    unfold S.cuts
    rw [t1, mkR_eq]
    rw [List.length_append, List.length_singleton, Nat.add_sub_cancel, List.take_left]
  have b1 := num_len64 (n := c.ranges.length) (by omega)
  have b0 := num_pos c.ranges.length
  have b2 := num_len64 (n := c.parents.length) (by omega)
  have q1 := S.flat_le (fun t : List UInt8 => text (ba t)) 42 ts (fun t ht => by
    have := t4 t ht
    have := num_len64 (n := t.length) (by omega)
    rw [text_ba, List.length_append]; omega)
  have q2 := S.flat_le (fun x : Int => num x.toNat) 10 c.owners (fun x h => num_len64 (by have := hx x h; omega))
  have q3 := S.flat_le (fun p : Int => num (p + 1).toNat) 10 c.parents (fun p h => num_len64 (by have := hp p h; omega))
  unfold S.rowBytes
  rw [hcuts, cutF_texts]
  simp only [List.length_append]
  refine ⟨by omega, fun e => ?_⟩
  have := congrArg List.length e
  simp only [List.length_append, List.length_nil] at this
  omega
theorem rrow_bytes {c : SRow} (h : S.written c = true) : rrow (ba (S.rowBytes c)) = some c := by
  rw [rrow_eq, data_ba, prow0_bytes h]
  simp only
  rw [if_pos h]
theorem check_row {o : SOp} (h : S.check o = true) : prow (S.rowText o.c) = some o.c ∧ (S.rowText o.c).length ≤ 1000 := by
  obtain ⟨_, _, _, _, _, hr⟩ := S.check_facts h
  unfold S.rowText
  by_cases he : S.empty o.c = true
  · rw [if_pos he]
    unfold prow
    rw [if_pos rfl]
    refine ⟨?_, by simp⟩
    unfold S.empty at he
    have he' := of_decide_eq_true he
    have e1 := List.eq_nil_of_length_eq_zero (show o.c.ranges.length = 0 by omega)
    have e2 := List.eq_nil_of_length_eq_zero (show o.c.owners.length = 0 by omega)
    have e3 := List.eq_nil_of_length_eq_zero (show o.c.parents.length = 0 by omega)
    generalize o.c = c at e1 e2 e3
    obtain ⟨a, b, d⟩ := c
    simp only at e1 e2 e3
    rw [e1, e2, e3]
  · have hw := hr.resolve_left he
    rw [if_neg he, if_pos hw]
    obtain ⟨l1, l2⟩ := rowBytes_len hw
    unfold prow
    rw [if_neg l2, rrow_bytes hw]
    exact ⟨rfl, l1⟩
theorem pstep_one {o : SOp} (h : S.check o = true) (t : List UInt8) : pstep (S.one o ++ t) = some (o, t) := by
  obtain ⟨h1, h2, h3, h4, h5, _⟩ := S.check_facts h
  obtain ⟨r1, r2⟩ := check_row h
  have hn : (S.numbers o).flatMap (fun x => num x.toNat) = ((S.numbers o).map fun x => x.toNat).flatMap num := by rw [List.flatMap_map]
  have hk : o.keys.flatMap text = (o.keys.map fun s => s.data.toList).flatMap fun x => text (ba x) := by
    rw [List.flatMap_map]
  have hl6 : ((S.numbers o).map fun x => x.toNat).length = 6 := by simp [S.numbers]
  unfold pstep S.one
  rw [hn, hk]
  simp only [List.append_assoc]
  have e1 := pmany_flat (p := pnum 63) (enc := num) (g := fun n => n) ((S.numbers o).map fun x => x.toNat) (fun n hn z => (pnum_iff (by omega)).2 ⟨by
    obtain ⟨x, hx1, rfl⟩ := List.mem_map.1 hn
    have := h1 x hx1
    omega, rfl⟩)
  rw [hl6] at e1
  rw [e1]
  simp only
  have ek := ba_data o.key
  have ev := ba_data o.value
  rw [show text o.key = text (ba o.key.data.toList) from by rw [ek], (ptext_iff (by omega)).2 ⟨by rw [Array.length_toList]; exact h4, rfl⟩]
  simp only
  rw [show text o.value = text (ba o.value.data.toList) from by rw [ev], (ptext_iff (by omega)).2 ⟨by rw [Array.length_toList]; exact h5, rfl⟩]
  simp only
  rw [(pnum_iff (by omega)).2 ⟨h2, rfl⟩]
  simp only
  have e2 := pmany_flat (p := ptext 32) (enc := fun x => text (ba x)) (g := fun n => n) (o.keys.map fun s => s.data.toList) (fun x hx z => (ptext_iff (by omega)).2 ⟨by
    obtain ⟨s, hs, rfl⟩ := List.mem_map.1 hx
    rw [Array.length_toList]; exact h3 s hs, rfl⟩)
  rw [List.length_map] at e2
  rw [e2]
  simp only
  rw [(ptext_iff (by omega)).2 ⟨r2, rfl⟩]
  simp only
  rw [r1]
  simp only
  have eo : opOf (List.map (fun n => n) ((S.numbers o).map fun x => x.toNat)) o.key.data.toList o.value.data.toList (List.map (fun n => n) (o.keys.map fun s => s.data.toList)) o.c = o := by
    have q0 := h1 o.kind (by simp [S.numbers])
    have q1 := h1 o.client (by simp [S.numbers])
    have q2 := h1 o.site (by simp [S.numbers])
    have q3 := h1 o.to' (by simp [S.numbers])
    have q4 := h1 o.at' (by simp [S.numbers])
    have q5 := h1 o.how (by simp [S.numbers])
    obtain ⟨kind, client, site, to1, at1, how, key, value, keys, c⟩ := o
    simp only at q0 q1 q2 q3 q4 q5
    unfold opOf S.numbers
    simp only [List.map_cons, List.map_nil, List.getD_cons_zero, List.getD_cons_succ, ba_data, List.map_map, SOp.mk.injEq]
    refine ⟨by omega, by omega, by omega, by omega, by omega, by omega, trivial, trivial, ?_, trivial⟩
    conv => rhs; rw [← List.map_id keys]
    refine List.map_congr_left fun x _ => ?_
    simp only [Function.comp, id, ba_data]
  rw [eo, if_pos h]
theorem pread_bytes {l : List SOp} (hc : ∀ o ∈ l, S.check o = true) (hl : l.length ≤ 4096) : pread (S.bytes l) = some l := by
  unfold pread S.bytes
  rw [if_pos (List.all_eq_true.2 hc), (pnum_iff (by omega)).2 ⟨hl, rfl⟩]
  simp only
  have e := pmany_flat (p := pstep) (enc := S.one) (g := fun o => o) l (fun o ho t => pstep_one (hc o ho) t) []
  rw [List.append_nil] at e
  rw [e]
  simp
theorem pread_cut {l : List SOp} (hc : ∀ o ∈ l, S.check o = true) (hl : l.length ≤ 4096) {k : Nat} (hk : k < (S.bytes l).length) : pread ((S.bytes l).take k) = none := by
  cases h : pread ((S.bytes l).take k) with
  | none => rfl
  | some os =>
    have h1 := pread_more (z := (S.bytes l).drop k) h (by
      intro e
      have := congrArg List.length e
      simp at this
      omega)
    rw [List.take_append_drop, pread_bytes hc hl] at h1
    cases h1
end V
end Go.Proofs.Ytocgnmklgklfnaa
