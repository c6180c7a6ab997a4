import GoSem.Core.Utf8
import Derived.Laws.RangeAny
import Derived.Laws.Strings
namespace Go.Proofs.Ytmbaeloiepjakaa.K
open Go
structure Hid' (a b : Int) : Prop where
  out : a = b
def bt (s : ByteArray) (i : Nat) : Nat := (s.get! i).toNat
theorem bt_lt (s : ByteArray) (i : Nat) : bt s i < 256 := (s.get! i).toNat_lt
theorem get_bt (s : ByteArray) (i : Nat) (h : i < s.size) : (s[i]'h).toNat = bt s i := by
  unfold bt; rw [← get_at s i h]; rfl
def okAt (s : ByteArray) (i : Nat) : Bool := !((Utf8.decode s i).1 == 65533 && (Utf8.decode s i).2 == 1)
def wd (s : ByteArray) (i : Nat) : Nat := (Utf8.decode s i).2
def rn (s : ByteArray) (i : Nat) : Nat := (Utf8.decode s i).1
def longN (b : Nat) : Nat := if b < 128 then 1 else if 194 ≤ b ∧ b ≤ 223 then 2 else if 224 ≤ b ∧ b ≤ 239 then 3 else if 240 ≤ b ∧ b ≤ 244 then 4 else 0
def contN (b : Nat) : Bool := decide (128 ≤ b ∧ b ≤ 191)
def exc (a b : Nat) : Bool := (a == 224 && decide (b < 160)) || (a == 237 && decide (159 < b)) || (a == 240 && decide (b < 144)) || (a == 244 && decide (143 < b))
/-- the reference's step -/
def refOk (s : ByteArray) (i : Nat) : Bool :=
  longN (bt s i) != 0 && decide (longN (bt s i) ≤ s.size - i) && (decide (longN (bt s i) ≤ 1) || contN (bt s (i+1))) && (decide (longN (bt s i) ≤ 2) || contN (bt s (i+2))) && (decide (longN (bt s i) ≤ 3) || contN (bt s (i+3))) && !(exc (bt s i) (bt s (i+1)))
def dec (b0 b1 b2 b3 : Nat) (c1 c2 c3 : Bool) : Nat × Nat :=
  if b0 < 0x80 then (b0, 1)
  else if b0 / 32 == 6 && (c1 && b1 / 64 == 2) then
    if (b0 % 32) * 64 + b1 % 64 ≥ 0x80 then ((b0 % 32) * 64 + b1 % 64, 2) else (65533, 1)
  else if b0 / 16 == 14 && (c1 && b1 / 64 == 2) && (c2 && b2 / 64 == 2) then
    if (b0 % 16) * 4096 + (b1 % 64) * 64 + b2 % 64 ≥ 0x800 && Utf8.valid ((b0 % 16) * 4096 + (b1 % 64) * 64 + b2 % 64 : Nat) then ((b0 % 16) * 4096 + (b1 % 64) * 64 + b2 % 64, 3) else (65533, 1)
  else if b0 / 8 == 30 && (c1 && b1 / 64 == 2) && (c2 && b2 / 64 == 2) && (c3 && b3 / 64 == 2) then
    if (b0 % 8) * 262144 + (b1 % 64) * 4096 + (b2 % 64) * 64 + b3 % 64 ≥ 0x10000 && Utf8.valid ((b0 % 8) * 262144 + (b1 % 64) * 4096 + (b2 % 64) * 64 + b3 % 64 : Nat) then ((b0 % 8) * 262144 + (b1 % 64) * 4096 + (b2 % 64) * 64 + b3 % 64, 4) else (65533, 1)
  else (65533, 1)
theorem decode_bt (s : ByteArray) (i : Nat) : Utf8.decode s i = dec (bt s i) (bt s (i+1)) (bt s (i+2)) (bt s (i+3)) (i + 1 < s.size) (i + 2 < s.size) (i + 3 < s.size) := rfl
theorem valid_iff (n : Nat) : Utf8.valid (n : Int) = true ↔ n < 55296 ∨ (57344 ≤ n ∧ n ≤ 1114111) := by
  simp only [Utf8.valid, Bool.or_eq_true, Bool.and_eq_true, decide_eq_true_eq]; omega
theorem ref_ok (s : ByteArray) (i : Nat) (h : i < s.size) : refOk s i = okAt s i ∧ (okAt s i = true → longN (bt s i) = wd s i) := by
  have h0 := bt_lt s i; have h1 := bt_lt s (i+1); have h2 := bt_lt s (i+2); have h3 := bt_lt s (i+3)
  have key : (refOk s i = true ↔ okAt s i = true) ∧ (okAt s i = true → longN (bt s i) = wd s i) := by
    simp only [okAt, wd, refOk, exc, contN, decode_bt]
    simp only [Bool.and_eq_true, Bool.or_eq_true, Bool.not_eq_true', Bool.or_eq_false_iff, Bool.and_eq_false_iff, bne_iff_ne, decide_eq_true_eq, beq_eq_false_iff_ne, decide_eq_false_iff_not]
    generalize bt s i = a at *
    generalize bt s (i+1) = b at *
    generalize bt s (i+2) = c at *
    generalize bt s (i+3) = d at *
    unfold longN dec
    simp only [Bool.and_eq_true, beq_iff_eq, decide_eq_true_eq, ge_iff_le, valid_iff]
    repeat' split
    all_goals simp
    all_goals (try omega)
  exact ⟨by rw [Bool.eq_iff_iff]; exact key.1, key.2⟩
end Go.Proofs.Ytmbaeloiepjakaa.K
namespace Go.Proofs.Ytmbaeloiepjakaa.K
open Go
theorem wd_pos (s : ByteArray) (i : Nat) (h : i < s.size) : 1 ≤ wd s i := by
  unfold wd
  by_cases ha : (s[i]'h).toNat < 128
  · rw [decode_ascii s i h ha]; exact Nat.le_refl _
  · exact (decode_high s i h (by omega)).2
def runesF (s : ByteArray) : Nat → Nat → Option Nat
  | 0, _ => some 0
  | f + 1, i => if i < s.size then (if okAt s i then (runesF s f (i + wd s i)).map (· + 1) else none) else some 0
def runes (s : ByteArray) : Int := match runesF s s.size 0 with | some n => n | none => -1
theorem runesF_end (s : ByteArray) (f i : Nat) (h : ¬ i < s.size) : runesF s f i = some 0 := by cases f <;> simp [runesF, h]
theorem runesF_bad (s : ByteArray) (f i : Nat) (h : i < s.size) (hf : s.size ≤ i + f) (ho : okAt s i = false) : runesF s f i = none := by
  cases f with
  | zero => omega
  | succ f => simp [runesF, h, ho]
theorem runesF_ok (s : ByteArray) (f i : Nat) (h : i < s.size) (hf : s.size ≤ i + f) (ho : okAt s i = true) : ∃ g, s.size ≤ i + wd s i + g ∧ runesF s f i = (runesF s g (i + wd s i)).map (· + 1) := by
  cases f with
  | zero => omega
  | succ f => exact ⟨f, by have := wd_pos s i h; omega, by simp [runesF, h, ho]⟩
/-- where a count stands -/
def At (s : ByteArray) (i n : Nat) : Prop := ∃ f, s.size ≤ i + f ∧ runesF s s.size 0 = (runesF s f i).map (· + n)
theorem At.start (s : ByteArray) : At s 0 0 := ⟨s.size, by omega, by simp⟩
theorem At.next {s : ByteArray} {i n : Nat} (h : At s i n) (hi : i < s.size) (ho : okAt s i = true) : At s (i + wd s i) (n + 1) := by
  obtain ⟨f, h1, h2⟩ := h
  obtain ⟨g, h3, h4⟩ := runesF_ok s f i hi h1 ho
  refine ⟨g, h3, ?_⟩
  rw [h2, h4, Option.map_map]
  congr 1; funext x; simp; omega
theorem At.bad {s : ByteArray} {i n : Nat} (h : At s i n) (hi : i < s.size) (ho : okAt s i = false) : runes s = -1 := by
  obtain ⟨f, h1, h2⟩ := h
  unfold runes
  rw [h2, runesF_bad s f i hi h1 ho]; rfl
theorem At.done {s : ByteArray} {i n : Nat} (h : At s i n) (hi : ¬ i < s.size) : runes s = n := by
  obtain ⟨f, h1, h2⟩ := h
  unfold runes
  rw [h2, runesF_end s f i hi]; simp
theorem decode_fffd (s : ByteArray) (i : Nat) (h : i < s.size) :
    (okAt s i = true → rn s i = 65533 → bt s i = 239 ∧ 3 ≤ s.size - i ∧ bt s (i+1) = 191 ∧ bt s (i+2) = 189) ∧
    (okAt s i = false → rn s i = 65533 ∧ ¬ (bt s i = 239 ∧ 3 ≤ s.size - i ∧ bt s (i+1) = 191 ∧ bt s (i+2) = 189)) := by
  have h0 := bt_lt s i; have h1 := bt_lt s (i+1); have h2 := bt_lt s (i+2); have h3 := bt_lt s (i+3)
  simp only [okAt, rn, decode_bt]
  simp only [Bool.not_eq_true', Bool.not_eq_false', Bool.and_eq_true, Bool.and_eq_false_iff, beq_iff_eq, beq_eq_false_iff_ne]
  generalize bt s i = a at *
  generalize bt s (i+1) = b at *
  generalize bt s (i+2) = c at *
  generalize bt s (i+3) = d at *
  unfold dec
  simp only [Bool.and_eq_true, beq_iff_eq, decide_eq_true_eq, ge_iff_le, valid_iff]
  repeat' split
  all_goals simp
  all_goals (try omega)
theorem rn_bytes (s : ByteArray) (i : Nat) (h : i < s.size) (ho : okAt s i = true) :
    i + wd s i ≤ s.size ∧ (33 ≤ rn s i ↔ ∀ t, i ≤ t → t < i + wd s i → 33 ≤ bt s t) := by
  have h0 := bt_lt s i; have h1 := bt_lt s (i+1); have h2 := bt_lt s (i+2); have h3 := bt_lt s (i+3)
  have hq : i + wd s i ≤ s.size ∧ wd s i ≤ 4 ∧ (wd s i ≤ 1 → rn s i = bt s i ∧ wd s i = 1) ∧ (2 ≤ wd s i → 33 ≤ rn s i ∧ 33 ≤ bt s i ∧ 33 ≤ bt s (i+1)) ∧ (3 ≤ wd s i → 33 ≤ bt s (i+2)) ∧ (4 ≤ wd s i → 33 ≤ bt s (i+3)) := by
    simp only [okAt, rn, wd, decode_bt] at *
    simp only [Bool.not_eq_true', Bool.and_eq_false_iff, beq_eq_false_iff_ne] at ho
    generalize bt s i = a at *
    generalize bt s (i+1) = b at *
    generalize bt s (i+2) = c at *
    generalize bt s (i+3) = d at *
    generalize hq : dec a b c d _ _ _ = q at *
    obtain ⟨r, k⟩ := q
    unfold dec at hq
    simp only [Bool.and_eq_true, beq_iff_eq, decide_eq_true_eq, ge_iff_le, valid_iff] at hq
    simp only at ho ⊢
    repeat' split at hq
    all_goals
      simp only [Prod.mk.injEq] at hq
      obtain ⟨rfl, rfl⟩ := hq
      omega
  obtain ⟨q1, q2, q3, q4, q5, q6⟩ := hq
  refine ⟨q1, fun hr t t1 t2 => ?_, fun hall => ?_⟩
  · rcases Nat.lt_or_ge 1 (wd s i) with hw | hw
    · have := q4 hw
      have e : t = i ∨ t = i + 1 ∨ t = i + 2 ∨ t = i + 3 := by omega
      rcases e with rfl | rfl | rfl | rfl
      · exact this.2.1
      · exact this.2.2
      · exact q5 (by omega)
      · exact q6 (by omega)
    · have := q3 hw
      obtain rfl : t = i := by omega
      omega
  · rcases Nat.lt_or_ge 1 (wd s i) with hw | hw
    · exact (q4 hw).1
    · have := q3 hw
      have := hall i (Nat.le_refl _) (by omega)
      omega
end Go.Proofs.Ytmbaeloiepjakaa.K

namespace Go.Proofs.Ytmbaeloiepjakaa.K
open Go
theorem get_list (s : ByteArray) (i : Nat) (h : i < s.size) : s.get! i = s.data.toList[i]'(by simpa using h) := by
  have := get_at s i h
  rw [Nat.add_zero] at this
  rw [this]; rfl
theorem ext3 (s : ByteArray) (i : Nat) (h : i + 3 ≤ s.size) : (s.extract i (i + 3)).toList = [s.get! i, s.get! (i+1), s.get! (i+2)] := by
  rw [ByteArray.toList_eq, ByteArray.data_extract, Array.toList_extract, get_list s i (by omega), get_list s (i+1) (by omega), get_list s (i+2) (by omega)]
  simp only [List.extract_eq_take_drop]
  have hl : s.data.toList.length = s.size := by simp
  apply List.ext_getElem
  · simp only [List.length_take, List.length_drop, hl, List.length_cons, List.length_nil]; omega
  · intro k h1 h2
    have : k = 0 ∨ k = 1 ∨ k = 2 := by simp at h2; omega
    rcases this with rfl | rfl | rfl <;> simp [List.getElem_drop]
theorem fffd_no (s : ByteArray) (i : Nat) (h : i < s.size) (ho : okAt s i = false) (h1 : (((s[i]'h).toNat : Int) != (((⟨#[239, 191, 189]⟩ : ByteArray)[0]).toNat : Int)) = false)
    (h2 : (3 : Int) ≤ (s.size : Int) - (i : Int)) (h3 : (!(s.extract i (i + 3)).toList == [239, 191, 189]) = false) : False := by
  have := (decode_fffd s i h).2 ho
  refine this.2 ⟨?_, by omega, ?_⟩
  · rw [← get_bt s i h]
    have e : (((⟨#[239, 191, 189]⟩ : ByteArray)[0]).toNat : Int) = 239 := rfl
    rw [e, bne_eq_false_iff_eq] at h1
    omega
  · rw [ext3 s i (by omega)] at h3
    have e : s.get! i = 239 ∧ s.get! (i+1) = 191 ∧ s.get! (i+2) = 189 := by simpa using h3
    unfold bt
    rw [e.2.1, e.2.2]
    exact ⟨rfl, rfl⟩
theorem fffd_b (s : ByteArray) (i : Nat) (h : i < s.size) (ho : okAt s i = true) (hr : Hid' ((Utf8.decode s i).1 : Int) 65533) : (((s[i]'h).toNat : Int) != (((⟨#[239, 191, 189]⟩ : ByteArray)[0]).toNat : Int)) = false ∧ (3 : Int) ≤ (s.size : Int) - (i : Int) ∧ (!(s.extract i (i + 3)).toList == [239, 191, 189]) = false := by
  have := (decode_fffd s i h).1 ho (by have := hr.out; unfold rn; omega)
  obtain ⟨a, b, c, d⟩ := this
  refine ⟨?_, by omega, ?_⟩
  · have e : (s[i]'h).toNat = 239 := by rw [get_bt s i h, a]
    rw [bne_eq_false_iff_eq, e]; rfl
  · rw [ext3 s i (by omega)]
    have e0 : s.get! i = 239 := UInt8.toNat_inj.1 a
    have e1 : s.get! (i+1) = 191 := UInt8.toNat_inj.1 c
    have e2 : s.get! (i+2) = 189 := UInt8.toNat_inj.1 d
    rw [e0, e1, e2]; rfl

theorem extract_all (s : ByteArray) (n : Nat) (h : s.size ≤ n) : s.extract 0 n = s := by
  apply ByteArray.ext
  rw [ByteArray.data_extract]
  apply Array.ext
  · simp only [Array.size_extract, ByteArray.size_data]; omega
  · intro i h1 h2; simp
/-! ### ranges -/
def hasB (f t k : ByteArray) : Bool := !(Op.bytesLess k.toList f.toList) && (t.toList.isEmpty || Op.bytesLess k.toList t.toList)
/-! ### Check -/
def allF (s : ByteArray) : Nat → Nat → Bool
  | 0, _ => true
  | f + 1, i => if i < s.size then decide (33 ≤ rn s i) && allF s f (i + wd s i) else true
def lim (s : ByteArray) : Bool := decide (1 ≤ runes s) && decide (runes s ≤ 8)
def checkB (s : ByteArray) : Bool := lim s && allF s s.size 0
theorem allF_end (s : ByteArray) (f i : Nat) (h : ¬ i < s.size) : allF s f i = true := by cases f <;> simp [allF, h]
theorem allF_step (s : ByteArray) (f i : Nat) (h : i < s.size) (hf : s.size ≤ i + f) : ∃ g, s.size ≤ i + wd s i + g ∧ allF s f i = (decide (33 ≤ rn s i) && allF s g (i + wd s i)) := by
  cases f with
  | zero => omega
  | succ f => exact ⟨f, by have := wd_pos s i h; omega, by simp [allF, h]⟩
/-- where the loop of Check stands: right so far is r -/
def CAt (s : ByteArray) (i : Nat) (r : Bool) : Prop := ∃ f, s.size ≤ i + f ∧ checkB s = (r && allF s f i)
theorem CAt.start (s : ByteArray) : CAt s 0 (lim s) := ⟨s.size, by omega, rfl⟩
theorem CAt.next {s : ByteArray} {i : Nat} (h : CAt s i true) (hi : i < s.size) : CAt s (i + wd s i) (decide (33 ≤ rn s i)) := by
  obtain ⟨f, h1, h2⟩ := h
  obtain ⟨g, h3, h4⟩ := allF_step s f i hi h1
  exact ⟨g, h3, by rw [h2, h4]; simp⟩
theorem CAt.no {s : ByteArray} {i : Nat} (h : CAt s i false) : checkB s = false := by
  obtain ⟨f, h1, h2⟩ := h
  simpa using h2
theorem CAt.done {s : ByteArray} {i : Nat} {r : Bool} (h : CAt s i r) (hi : ¬ i < s.size) : checkB s = r := by
  obtain ⟨f, h1, h2⟩ := h
  rw [h2, allF_end s f i hi]; simp
/-- the reference: all bytes -/
def bytesOk (s : ByteArray) : Bool := s.data.toList.all (fun c => decide (33 ≤ c.toNat))
def rcheckB (s : ByteArray) : Bool := bytesOk s && lim s

def longI (n : Int) : Int := if n < 128 then 1 else if 194 ≤ n ∧ n ≤ 223 then 2 else if 224 ≤ n ∧ n ≤ 239 then 3 else if 240 ≤ n ∧ n ≤ 244 then 4 else 0
theorem longI_eq (b : Nat) : longI (b : Int) = (longN b : Int) := by
  unfold longI longN
  repeat' split
  all_goals first | rfl | omega
theorem longI_big {K n : Int} (h : Hid' K (longI n)) (h0 : ¬ K = 0) (h1 : 224 ≤ n) : 3 ≤ K := by
  have := h.out
  unfold longI at this
  (repeat' split at this) <;> omega
theorem longI_le {K n : Int} (h : Hid' K (longI n)) : 0 ≤ K ∧ K ≤ 4 := by
  have := h.out
  unfold longI at this
  (repeat' split at this) <;> omega
theorem longN_le (b : Nat) : longN b ≤ 4 := by
  unfold longN
  repeat' split
  all_goals omega
def Conts (s : ByteArray) (i j : Nat) : Prop := ∀ t, 1 ≤ t → t < j → contN (bt s (i + t)) = true
theorem Conts.start (s : ByteArray) (i : Nat) : Conts s i 1 := fun t h1 h2 => by omega
theorem Conts.next {s : ByteArray} {i j : Nat} (h : Conts s i j) (hj : contN (bt s (i + j)) = true) : Conts s i (j + 1) := fun t h1 h2 => by
  by_cases e : t = j
  · rw [e]; exact hj
  · exact h t h1 (by omega)
theorem refOk_of {s : ByteArray} {i : Nat} (h0 : longN (bt s i) ≠ 0) (h1 : longN (bt s i) ≤ s.size - i) (hc : Conts s i (longN (bt s i))) (he : exc (bt s i) (bt s (i + 1)) = false) : refOk s i = true := by
  unfold refOk
  simp only [Bool.and_eq_true, bne_iff_ne, ne_eq, decide_eq_true_eq, Bool.or_eq_true, he, Bool.not_false, and_true]
  refine ⟨⟨⟨⟨h0, h1⟩, ?_⟩, ?_⟩, ?_⟩
  all_goals first
    | (rcases Nat.lt_or_ge 1 (longN (bt s i)) with h | h; exact .inr (hc 1 (by omega) h); exact .inl h)
    | (rcases Nat.lt_or_ge 2 (longN (bt s i)) with h | h; exact .inr (hc 2 (by omega) h); exact .inl h)
    | (rcases Nat.lt_or_ge 3 (longN (bt s i)) with h | h; exact .inr (hc 3 (by omega) h); exact .inl h)
theorem refOk_spec {s : ByteArray} {i : Nat} (h : refOk s i = true) : longN (bt s i) ≠ 0 ∧ longN (bt s i) ≤ s.size - i ∧ Conts s i (longN (bt s i)) ∧ exc (bt s i) (bt s (i + 1)) = false := by
  unfold refOk at h
  simp only [Bool.and_eq_true, bne_iff_ne, ne_eq, decide_eq_true_eq, Bool.or_eq_true, Bool.not_eq_true'] at h
  obtain ⟨⟨⟨⟨⟨h0, h1⟩, h2⟩, h3⟩, h4⟩, h5⟩ := h
  refine ⟨h0, h1, fun t t1 t2 => ?_, h5⟩
  have := longN_le (bt s i)
  have : t = 1 ∨ t = 2 ∨ t = 3 := by omega
  rcases this with rfl | rfl | rfl
  · exact h2.resolve_left (by omega)
  · exact h3.resolve_left (by omega)
  · exact h4.resolve_left (by omega)
/-- the reference's round, bad: the count is -1 -/
theorem At.rbad {s : ByteArray} {i n : Nat} (h : At s i n) (hi : i < s.size) (hn : refOk s i = false) : runes s = -1 := h.bad hi (by rw [← (ref_ok s i hi).1]; exact hn)
theorem At.rlong0 {s : ByteArray} {i n : Nat} (h : At s i n) (hi : i < s.size) {K : Int} (hK : Hid' K (longI (s[i]'hi).toNat)) (h0 : K = 0 ∨ (s.size : Int) - i < K) : runes s = -1 := h.rbad hi (by
  rw [hK.out] at h0
  rw [get_bt s i hi] at h0
  cases hr : refOk s i with
  | false => rfl
  | true =>
    obtain ⟨a, b, _⟩ := refOk_spec hr
    rw [longI_eq] at h0
    omega)
theorem At.rcont {s : ByteArray} {i n j : Nat} (h : At s i n) (hi : i < s.size) (h1 : 1 ≤ j) {K : Int} (hK : Hid' K (longI (s[i]'hi).toNat)) (hj : (j : Int) < K) (h2 : i + j < s.size) (hb : (((s[i + j]'h2).toNat : Nat) : Int) < 128 ∨ (191 : Int) < ((s[i + j]'h2).toNat : Nat)) : runes s = -1 := h.rbad hi (by
  rw [hK.out, get_bt s i hi] at hj
  rw [get_bt s (i + j) h2] at hb
  cases hr : refOk s i with
  | false => rfl
  | true =>
    obtain ⟨a, b, c, _⟩ := refOk_spec hr
    rw [longI_eq] at hj
    have := c j h1 (by omega)
    unfold contN at this
    simp only [decide_eq_true_eq] at this
    omega)
theorem At.rexc {s : ByteArray} {i n : Nat} (h : At s i n) (hi : i < s.size) (he : exc (bt s i) (bt s (i + 1)) = true) : runes s = -1 := h.rbad hi (by
  cases hr : refOk s i with
  | false => rfl
  | true => rw [(refOk_spec hr).2.2.2] at he; cases he)
theorem At.rnext {s : ByteArray} {i n : Nat} {K : Int} (h : At s i n) (hi : i < s.size) (hK' : Hid' K (longI (s[i]'hi).toNat)) (h0 : ¬ K = 0) (h1 : K ≤ (s.size : Int) - i) (hc : Conts s i K.toNat) (he : exc (bt s i) (bt s (i + 1)) = false) : At s (i + K.toNat) (n + 1) := by
  have hK := hK'.out
  rw [get_bt s i hi, longI_eq] at hK
  obtain rfl : K = _ := hK
  rw [Int.toNat_natCast] at hc ⊢
  have hr : refOk s i = true := refOk_of (by omega) (by omega) hc he
  have ho := (ref_ok s i hi)
  rw [ho.1] at hr
  rw [ho.2 hr]
  exact h.next hi hr

def BOk (s : ByteArray) (i : Nat) : Prop := ∀ t, t < i → 33 ≤ bt s t
theorem BOk.start (s : ByteArray) : BOk s 0 := fun t h => by omega
theorem BOk.next {s : ByteArray} {i : Nat} (h : BOk s i) (hi : 33 ≤ bt s i) : BOk s (i + 1) := fun t ht => by
  by_cases e : t = i
  · rw [e]; exact hi
  · exact h t (by omega)
theorem bytesOk_iff (s : ByteArray) : bytesOk s = true ↔ BOk s s.size := by
  unfold bytesOk BOk
  rw [List.all_eq_true]
  constructor
  · intro h t ht
    have := h _ (List.getElem_mem (l := s.data.toList) (n := t) (by simpa using ht))
    rw [← get_list s t ht] at this
    simpa [bt] using this
  · intro h x hx
    obtain ⟨t, ht, rfl⟩ := List.getElem_of_mem hx
    have h' : t < s.size := by simpa using ht
    have := h t h'
    rw [← get_list s t h']
    simpa [bt] using this
theorem BOk.yes {s : ByteArray} (h : BOk s s.size) : rcheckB s = lim s := by
  unfold rcheckB; rw [(bytesOk_iff s).2 h]; simp
theorem rcheck_no {s : ByteArray} {i : Nat} (h : i < s.size) (hb : bt s i < 33) : rcheckB s = false := by
  unfold rcheckB
  have : bytesOk s = false := by
    cases hb' : bytesOk s with
    | false => rfl
    | true => have := (bytesOk_iff s).1 hb' i h; omega
  rw [this]; rfl
theorem allF_iff (s : ByteArray) : ∀ (f i : Nat), s.size ≤ i + f → runesF s f i ≠ none → (allF s f i = true ↔ ∀ t, i ≤ t → t < s.size → 33 ≤ bt s t)
  | 0, i, hf, _ => by simp only [allF, true_iff]; intro t h1 h2; omega
  | f + 1, i, hf, hn => by
    by_cases hi : i < s.size
    · cases ho : okAt s i with
      | false => simp [runesF, hi, ho] at hn
      | true =>
        have hr := rn_bytes s i hi ho
        have hw := wd_pos s i hi
        have ih := allF_iff s f (i + wd s i) (by omega) (by simp [runesF, hi, ho] at hn; exact hn)
        simp only [allF, hi, if_true, Bool.and_eq_true, decide_eq_true_eq, ih, hr.2]
        constructor
        · rintro ⟨a, b⟩ t t1 t2
          rcases Nat.lt_or_ge t (i + wd s i) with h | h
          · exact a t t1 h
          · exact b t h t2
        · intro h
          exact ⟨fun t t1 t2 => h t t1 (by omega), fun t t1 t2 => h t (by omega) t2⟩
    · simp only [allF, hi, if_false, true_iff]; intro t h1 h2; omega
theorem check_eq (s : ByteArray) : checkB s = rcheckB s := by
  unfold checkB rcheckB
  cases hl : lim s with
  | false => simp
  | true =>
    have hn : runesF s s.size 0 ≠ none := by
      intro h
      unfold lim runes at hl
      rw [h] at hl
      simp at hl
    have := allF_iff s s.size 0 (by omega) hn
    rw [Bool.true_and, Bool.and_true, Bool.eq_iff_iff, this, bytesOk_iff]
    exact ⟨fun h t ht => h t (Nat.zero_le _) ht, fun h t _ ht => h t ht⟩
/-! ### Good, Meet -/
def mayB (s : ByteArray) : Bool := s.toList.isEmpty || checkB s
def goodB (f t : ByteArray) : Bool := mayB f && mayB t && (t.toList.isEmpty || Op.bytesLess f.toList t.toList)
def meetB (f t f' t' : ByteArray) : Bool := goodB f t && goodB f' t' && (t'.toList.isEmpty || Op.bytesLess f.toList t'.toList) && (t.toList.isEmpty || Op.bytesLess f'.toList t.toList)
def rmeetB (f t f' t' : ByteArray) : Bool := goodB f t && goodB f' t' && (if Op.bytesLess f.toList f'.toList then hasB f t f' else hasB f' t' f)
/-! ### the order of texts -/
theorem bl_irrefl : ∀ a : List UInt8, Op.bytesLess a a = false
  | [] => rfl
  | x :: r => by simp [Op.bytesLess, bl_irrefl r]
theorem bl_trans : ∀ a b c : List UInt8, Op.bytesLess a b = true → Op.bytesLess b c = true → Op.bytesLess a c = true
  | [], [], _, h, _ => by simp [Op.bytesLess] at h
  | [], _ :: _, [], _, h => by simp [Op.bytesLess] at h
  | [], _ :: _, _ :: _, _, _ => by simp [Op.bytesLess]
  | _ :: _, [], _, h, _ => by simp [Op.bytesLess] at h
  | _ :: _, _ :: _, [], _, h => by simp [Op.bytesLess] at h
  | x :: a, y :: b, z :: c, h1, h2 => by
    have ih := bl_trans a b c
    simp only [Op.bytesLess, Bool.or_eq_true, Bool.and_eq_true, decide_eq_true_eq, beq_iff_eq] at *
    rcases h1 with h1 | ⟨rfl, h1⟩ <;> rcases h2 with h2 | ⟨rfl, h2⟩
    · exact .inl (UInt8.lt_trans h1 h2)
    · exact .inl h1
    · exact .inl h2
    · exact .inr ⟨rfl, ih h1 h2⟩
theorem bl_tri : ∀ a b : List UInt8, Op.bytesLess a b = false → Op.bytesLess b a = false → a = b
  | [], [], _, _ => rfl
  | [], _ :: _, h, _ => by simp [Op.bytesLess] at h
  | _ :: _, [], _, h => by simp [Op.bytesLess] at h
  | x :: a, y :: b, h1, h2 => by
    have ih := bl_tri a b
    simp only [Op.bytesLess, Bool.or_eq_false_iff, Bool.and_eq_false_iff, decide_eq_false_iff_not, beq_eq_false_iff_ne] at h1 h2
    have e : x = y := UInt8.le_antisymm (UInt8.not_lt.1 h2.1) (UInt8.not_lt.1 h1.1)
    subst e
    rw [ih (h1.2.resolve_left (fun h => h rfl)) (h2.2.resolve_left (fun h => h rfl))]
/-- at most -/
def le (a b : List UInt8) : Prop := Op.bytesLess b a = false
theorem le_of_lt {a b : List UInt8} (h : Op.bytesLess a b = true) : le a b := by
  unfold le
  cases hb : Op.bytesLess b a with
  | false => rfl
  | true => have := bl_trans a b a h hb; rw [bl_irrefl] at this; cases this
theorem lt_of_le_lt {a b c : List UInt8} (h : le a b) (h2 : Op.bytesLess b c = true) : Op.bytesLess a c = true := by
  cases hab : Op.bytesLess a b with
  | true => exact bl_trans a b c hab h2
  | false => rw [bl_tri a b hab h]; exact h2
theorem lt_of_lt_le {a b c : List UInt8} (h : Op.bytesLess a b = true) (h2 : le b c) : Op.bytesLess a c = true := by
  cases hbc : Op.bytesLess b c with
  | true => exact bl_trans a b c h hbc
  | false => rw [← bl_tri b c hbc h2]; exact h
theorem le_trans {a b c : List UInt8} (h : le a b) (h2 : le b c) : le a c := by
  unfold le
  cases hca : Op.bytesLess c a with
  | false => rfl
  | true => have := lt_of_lt_le hca h; rw [h2] at this; cases this
theorem le_of_leq {a b : List UInt8} (h : Op.bytesLess a b = true ∨ a = b) : le a b := by
  rcases h with h | rfl
  · exact le_of_lt h
  · exact bl_irrefl a
theorem has_between {f t a b c : ByteArray} (h1 : Op.bytesLess a.toList b.toList = true ∨ a.toList = b.toList) (h2 : Op.bytesLess b.toList c.toList = true ∨ b.toList = c.toList) (ha : hasB f t a = true) (hc : hasB f t c = true) : hasB f t b = true := by
  have h1' := le_of_leq h1
  have h2' := le_of_leq h2
  unfold hasB at *
  simp only [Bool.and_eq_true, Bool.not_eq_true', Bool.or_eq_true] at *
  refine ⟨le_trans ha.1 h1', hc.2.imp id fun h => lt_of_le_lt h2' h⟩
end Go.Proofs.Ytmbaeloiepjakaa.K

namespace Go.Proofs.Ytmbaeloiepjakaa.K
open Go
/-! ### the edges of a range -/
theorem less_nil (a : List UInt8) : Op.bytesLess a [] = false := by cases a <;> rfl
theorem nil_less {a : List UInt8} (h : a.isEmpty = false) : Op.bytesLess [] a = true := by cases a with | nil => simp at h | cons x r => rfl
theorem empty_list : (⟨#[]⟩ : ByteArray).toList = [] := by decide +kernel
theorem has_all (k : ByteArray) : hasB ⟨#[]⟩ ⟨#[]⟩ k = true := by simp [hasB, less_nil]
theorem has_from {f t : ByteArray} (h : goodB f t = true) : hasB f t f = true := by
  unfold goodB at h
  simp only [Bool.and_eq_true] at h
  simp [hasB, bl_irrefl, h.2]
theorem has_to {f t : ByteArray} (h : t.toList.isEmpty = false) : hasB f t t = false := by simp [hasB, bl_irrefl, h]
theorem has_ge {f t k : ByteArray} (h : hasB f t k = true) : Op.bytesLess k.toList f.toList = false := by
  unfold hasB at h
  simp only [Bool.and_eq_true, Bool.not_eq_true'] at h
  exact h.1
theorem meet_all {f t : ByteArray} (h : goodB f t = true) : meetB f t ⟨#[]⟩ ⟨#[]⟩ = true := by
  have e : goodB ⟨#[]⟩ ⟨#[]⟩ = true := by decide +kernel
  unfold meetB
  rw [h, e, empty_list]
  cases ht : t.toList.isEmpty with
  | true => rfl
  | false => simp [nil_less ht]
end Go.Proofs.Ytmbaeloiepjakaa.K
