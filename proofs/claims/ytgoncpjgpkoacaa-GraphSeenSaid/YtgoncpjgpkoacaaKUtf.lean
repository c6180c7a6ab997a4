import GoSem.Core.Utf8
import Derived.Laws.RangeAny
import Derived.Laws.Strings
namespace Go.Proofs.Ytgoncpjgpkoacaa.K
open Go
structure Hid' (a b : Int) : Prop where
  out : a = b
def bt (s : ByteArray) (i : Nat) : Nat := (s.get! i).toNat
theorem bt_lt (s : ByteArray) (i : Nat) : bt s i < 256 := (s.get! i).toNat_lt
theorem get_bt (s : ByteArray) (i : Nat) (h : i < s.size) : (s[i]'h).toNat = bt s i := by
  unfold bt; rw [← get_at s i h]; rfl
def okAt (s : ByteArray) (i : Nat) : Bool := !((Utf8.decode s i).1 == 65533 && (Utf8.decode s i).2 == 1)
def wd (s : ByteArray) (i : Nat) : Nat := (Utf8.decode s i).2
def rn (s : ByteArray) (i : Nat) : Nat := (Utf8.decode s i).1
def longN (b : Nat) : Nat := if b < 128 then 1 else if 194 ≤ b ∧ b ≤ 223 then 2 else if 224 ≤ b ∧ b ≤ 239 then 3 else if 240 ≤ b ∧ b ≤ 244 then 4 else 0
def contN (b : Nat) : Bool := decide (128 ≤ b ∧ b ≤ 191)
def exc (a b : Nat) : Bool := (a == 224 && decide (b < 160)) || (a == 237 && decide (159 < b)) || (a == 240 && decide (b < 144)) || (a == 244 && decide (143 < b))
/-- the reference's step -/
def refOk (s : ByteArray) (i : Nat) : Bool :=
  longN (bt s i) != 0 && decide (longN (bt s i) ≤ s.size - i) && (decide (longN (bt s i) ≤ 1) || contN (bt s (i+1))) && (decide (longN (bt s i) ≤ 2) || contN (bt s (i+2))) && (decide (longN (bt s i) ≤ 3) || contN (bt s (i+3))) && !(exc (bt s i) (bt s (i+1)))
def dec (b0 b1 b2 b3 : Nat) (c1 c2 c3 : Bool) : Nat × Nat :=
  if b0 < 0x80 then (b0, 1)
  else if b0 / 32 == 6 && (c1 && b1 / 64 == 2) then
    if (b0 % 32) * 64 + b1 % 64 ≥ 0x80 then ((b0 % 32) * 64 + b1 % 64, 2) else (65533, 1)
  else if b0 / 16 == 14 && (c1 && b1 / 64 == 2) && (c2 && b2 / 64 == 2) then
    if (b0 % 16) * 4096 + (b1 % 64) * 64 + b2 % 64 ≥ 0x800 && Utf8.valid ((b0 % 16) * 4096 + (b1 % 64) * 64 + b2 % 64 : Nat) then ((b0 % 16) * 4096 + (b1 % 64) * 64 + b2 % 64, 3) else (65533, 1)
  else if b0 / 8 == 30 && (c1 && b1 / 64 == 2) && (c2 && b2 / 64 == 2) && (c3 && b3 / 64 == 2) then
    if (b0 % 8) * 262144 + (b1 % 64) * 4096 + (b2 % 64) * 64 + b3 % 64 ≥ 0x10000 && Utf8.valid ((b0 % 8) * 262144 + (b1 % 64) * 4096 + (b2 % 64) * 64 + b3 % 64 : Nat) then ((b0 % 8) * 262144 + (b1 % 64) * 4096 + (b2 % 64) * 64 + b3 % 64, 4) else (65533, 1)
  else (65533, 1)
theorem decode_bt (s : ByteArray) (i : Nat) : Utf8.decode s i = dec (bt s i) (bt s (i+1)) (bt s (i+2)) (bt s (i+3)) (i + 1 < s.size) (i + 2 < s.size) (i + 3 < s.size) := rfl
theorem valid_iff (n : Nat) : Utf8.valid (n : Int) = true ↔ n < 55296 ∨ (57344 ≤ n ∧ n ≤ 1114111) := by
  simp only [Utf8.valid, Bool.or_eq_true, Bool.and_eq_true, decide_eq_true_eq]; omega
theorem ref_ok (s : ByteArray) (i : Nat) (h : i < s.size) : refOk s i = okAt s i ∧ (okAt s i = true → longN (bt s i) = wd s i) := by
  have h0 := bt_lt s i; have h1 := bt_lt s (i+1); have h2 := bt_lt s (i+2); have h3 := bt_lt s (i+3)
  have key : (refOk s i = true ↔ okAt s i = true) ∧ (okAt s i = true → longN (bt s i) = wd s i) := by
    simp only [okAt, wd, refOk, exc, contN, decode_bt]
    simp only [Bool.and_eq_true, Bool.or_eq_true, Bool.not_eq_true', Bool.or_eq_false_iff, Bool.and_eq_false_iff, bne_iff_ne, decide_eq_true_eq, beq_eq_false_iff_ne, decide_eq_false_iff_not]
    generalize bt s i = a at *
    generalize bt s (i+1) = b at *
    generalize bt s (i+2) = c at *
    generalize bt s (i+3) = d at *
    unfold longN dec
    simp only [Bool.and_eq_true, beq_iff_eq, decide_eq_true_eq, ge_iff_le, valid_iff]
    repeat' split
    all_goals simp
    all_goals (try omega)
  exact ⟨by rw [Bool.eq_iff_iff]; exact key.1, key.2⟩
end Go.Proofs.Ytgoncpjgpkoacaa.K
namespace Go.Proofs.Ytgoncpjgpkoacaa.K
open Go
theorem wd_pos (s : ByteArray) (i : Nat) (h : i < s.size) : 1 ≤ wd s i := by
  unfold wd
  by_cases ha : (s[i]'h).toNat < 128
  · rw [decode_ascii s i h ha]; exact Nat.le_refl _
  · exact (decode_high s i h (by omega)).2
def runesF (s : ByteArray) : Nat → Nat → Option Nat
  | 0, _ => some 0
  | f + 1, i => if i < s.size then (if okAt s i then (runesF s f (i + wd s i)).map (· + 1) else none) else some 0
def runes (s : ByteArray) : Int := match runesF s s.size 0 with | some n => n | none => -1
theorem runesF_end (s : ByteArray) (f i : Nat) (h : ¬ i < s.size) : runesF s f i = some 0 := by cases f <;> simp [runesF, h]
theorem runesF_bad (s : ByteArray) (f i : Nat) (h : i < s.size) (hf : s.size ≤ i + f) (ho : okAt s i = false) : runesF s f i = none := by
  cases f with
  | zero => omega
  | succ f => simp [runesF, h, ho]
theorem runesF_ok (s : ByteArray) (f i : Nat) (h : i < s.size) (hf : s.size ≤ i + f) (ho : okAt s i = true) : ∃ g, s.size ≤ i + wd s i + g ∧ runesF s f i = (runesF s g (i + wd s i)).map (· + 1) := by
  cases f with
  | zero => omega
  | succ f => exact ⟨f, by have := wd_pos s i h; omega, by simp [runesF, h, ho]⟩
/-- where a count stands -/
def At (s : ByteArray) (i n : Nat) : Prop := ∃ f, s.size ≤ i + f ∧ runesF s s.size 0 = (runesF s f i).map (· + n)
theorem At.start (s : ByteArray) : At s 0 0 := ⟨s.size, by omega, by simp⟩
theorem At.next {s : ByteArray} {i n : Nat} (h : At s i n) (hi : i < s.size) (ho : okAt s i = true) : At s (i + wd s i) (n + 1) := by
  obtain ⟨f, h1, h2⟩ := h
  obtain ⟨g, h3, h4⟩ := runesF_ok s f i hi h1 ho
  refine ⟨g, h3, ?_⟩
  rw [h2, h4, Option.map_map]
  congr 1; funext x; simp; omega
theorem At.bad {s : ByteArray} {i n : Nat} (h : At s i n) (hi : i < s.size) (ho : okAt s i = false) : runes s = -1 := by
  obtain ⟨f, h1, h2⟩ := h
  unfold runes
  rw [h2, runesF_bad s f i hi h1 ho]; rfl
theorem At.done {s : ByteArray} {i n : Nat} (h : At s i n) (hi : ¬ i < s.size) : runes s = n := by
  obtain ⟨f, h1, h2⟩ := h
  unfold runes
  rw [h2, runesF_end s f i hi]; simp
theorem decode_fffd (s : ByteArray) (i : Nat) (h : i < s.size) :
    (okAt s i = true → rn s i = 65533 → bt s i = 239 ∧ 3 ≤ s.size - i ∧ bt s (i+1) = 191 ∧ bt s (i+2) = 189) ∧
    (okAt s i = false → rn s i = 65533 ∧ ¬ (bt s i = 239 ∧ 3 ≤ s.size - i ∧ bt s (i+1) = 191 ∧ bt s (i+2) = 189)) := by
  have h0 := bt_lt s i; have h1 := bt_lt s (i+1); have h2 := bt_lt s (i+2); have h3 := bt_lt s (i+3)
  simp only [okAt, rn, decode_bt]
  simp only [Bool.not_eq_true', Bool.not_eq_false', Bool.and_eq_true, Bool.and_eq_false_iff, beq_iff_eq, beq_eq_false_iff_ne]
  generalize bt s i = a at *
  generalize bt s (i+1) = b at *
  generalize bt s (i+2) = c at *
  generalize bt s (i+3) = d at *
  unfold dec
  simp only [Bool.and_eq_true, beq_iff_eq, decide_eq_true_eq, ge_iff_le, valid_iff]
  repeat' split
  all_goals simp
  all_goals (try omega)
theorem rn_bytes (s : ByteArray) (i : Nat) (h : i < s.size) (ho : okAt s i = true) :
    i + wd s i ≤ s.size ∧ (33 ≤ rn s i ↔ ∀ t, i ≤ t → t < i + wd s i → 33 ≤ bt s t) := by
  have h0 := bt_lt s i; have h1 := bt_lt s (i+1); have h2 := bt_lt s (i+2); have h3 := bt_lt s (i+3)
  have hq : i + wd s i ≤ s.size ∧ wd s i ≤ 4 ∧ (wd s i ≤ 1 → rn s i = bt s i ∧ wd s i = 1) ∧ (2 ≤ wd s i → 33 ≤ rn s i ∧ 33 ≤ bt s i ∧ 33 ≤ bt s (i+1)) ∧ (3 ≤ wd s i → 33 ≤ bt s (i+2)) ∧ (4 ≤ wd s i → 33 ≤ bt s (i+3)) := by
    simp only [okAt, rn, wd, decode_bt] at *
    simp only [Bool.not_eq_true', Bool.and_eq_false_iff, beq_eq_false_iff_ne] at ho
    generalize bt s i = a at *
    generalize bt s (i+1) = b at *
    generalize bt s (i+2) = c at *
    generalize bt s (i+3) = d at *
    generalize hq : dec a b c d _ _ _ = q at *
    obtain ⟨r, k⟩ := q
    unfold dec at hq
    simp only [Bool.and_eq_true, beq_iff_eq, decide_eq_true_eq, ge_iff_le, valid_iff] at hq
    simp only at ho ⊢
    repeat' split at hq
    all_goals
      simp only [Prod.mk.injEq] at hq
      obtain ⟨rfl, rfl⟩ := hq
      omega
  obtain ⟨q1, q2, q3, q4, q5, q6⟩ := hq
  refine ⟨q1, fun hr t t1 t2 => ?_, fun hall => ?_⟩
  · rcases Nat.lt_or_ge 1 (wd s i) with hw | hw
    · have := q4 hw
      have e : t = i ∨ t = i + 1 ∨ t = i + 2 ∨ t = i + 3 := by omega
      rcases e with rfl | rfl | rfl | rfl
      · exact this.2.1
      · exact this.2.2
      · exact q5 (by omega)
      · exact q6 (by omega)
    · have := q3 hw
      obtain rfl : t = i := by omega
      omega
  · rcases Nat.lt_or_ge 1 (wd s i) with hw | hw
    · exact (q4 hw).1
    · have := q3 hw
      have := hall i (Nat.le_refl _) (by omega)
      omega
end Go.Proofs.Ytgoncpjgpkoacaa.K
