/- Which events may be written: the walks. -/
import Derived.Test.YtbdejgbjelfbeaaLEvent
set_option linter.unusedSimpArgs false
set_option linter.unusedVariables false
namespace Go.Proofs.Ytbdejgbjelfbeaa
open Go.RowKit R
namespace L
def prv (l : List Dep) (k : Nat) : Option ByteArray := if k = 0 then none else (l[k - 1]?).map (·.key)
def SeenAt (l : List Dep) (k : Nat) : Prop := seenF none l = seenF (prv l k) (l.drop k)
theorem SeenAt.start (l : List Dep) : SeenAt l 0 := rfl
theorem SeenAt.step {l : List Dep} {k : Nat} (h : SeenAt l k) (hk : k < l.length) : seenF none l = (depB l[k] && (lt? (prv l k) l[k] && seenF (prv l (k + 1)) (l.drop (k + 1)))) := by
  unfold SeenAt at h
  rw [h, List.drop_eq_getElem_cons hk, seenF]
  have e : prv l (k + 1) = some l[k].key := by simp [prv, hk]
  rw [e]
theorem SeenAt.next {l : List Dep} {k : Nat} (h : SeenAt l k) (hk : k < l.length) (hd : depB l[k] = true) (hl : lt? (prv l k) l[k] = true) : SeenAt l (k + 1) := by
  have := h.step hk
  rw [hd, hl] at this
  simpa [SeenAt] using this
theorem SeenAt.no {l : List Dep} {k : Nat} (h : SeenAt l k) (hk : k < l.length) (hd : depB l[k] = false ∨ lt? (prv l k) l[k] = false) : seenF none l = false := by
  rw [h.step hk]
  rcases hd with hd | hd <;> rw [hd] <;> simp
theorem SeenAt.done {l : List Dep} (h : SeenAt l l.length) : seenF none l = true := by
  unfold SeenAt at h
  rw [h]; simp [seenF]
theorem lt_zero (d : Dep) (l : List Dep) : lt? (prv l 0) d = true := rfl
theorem lt_pos {l : List Dep} {k : Nat} (h0 : 0 < k) (hk : k < l.length) (d : Dep) : lt? (prv l k) d = Op.bytesLess (l[k - 1]'(by omega)).key.toList d.key.toList := by
  have e : prv l k = some (l[k - 1]'(by omega)).key := by
    unfold prv
    rw [if_neg (by omega), List.getElem?_eq_getElem (by omega)]
    rfl
  rw [e]; rfl
end L
theorem lshort_any (s : ByteArray) (w : World) :
    Calls Try.prog 28 #[.string s] w fun e w' => e = .returned (.string (s.extract 0 12)) ∧ w' = w := by
  by_cases h : s.size ≤ 12
  · have hx := K.extract_all s 12 h
    go_enter Try.func28, Try.ntmps28
    go_wp2
    go_ret
    exact ⟨by rw [hx]; rfl, rfl⟩
  · go_enter Try.func28, Try.ntmps28
    go_wp2
    go_ret
    exact ⟨rfl, rfl⟩
/-- The six cells of an event that a call has boxed. -/
theorem six_later {w w1 : World} {a : Nat} {x0 x1 x2 x3 x4 x5 : Value} {T : TypeId} (hb : Ev.Ext (w.alloc (.cells #[x0, x1, x2, x3, x4, x5] T)) w1) (ha : a = w.heap.size) :
    w1.cell? ⟨a, 0, none⟩ = some x0 ∧ w1.cell? ⟨a, 1, none⟩ = some x1 ∧ w1.cell? ⟨a, 2, none⟩ = some x2 ∧ w1.cell? ⟨a, 3, none⟩ = some x3 ∧ w1.cell? ⟨a, 4, none⟩ = some x4 ∧ w1.cell? ⟨a, 5, none⟩ = some x5 := by
  subst ha
  exact ⟨cell_later hb (by simp), cell_later hb (by simp), cell_later hb (by simp), cell_later hb (by simp), cell_later hb (by simp), cell_later hb (by simp)⟩
set_option maxHeartbeats 4000000 in
set_option maxRecDepth 100000 in
theorem rlcheck_no (kind client n s : Int) (key : ByteArray) (seen : List Dep) (a : Option Addr) (cap : Nat) (w : World) (hks : key.size ≤ 9223372036854775807) (hlen : seen.length ≤ 9223372036854775807)
    (hh : L.headB ⟨kind, client, key, n, s, seen⟩ = false) :
    Calls Try.prog 15 #[.agg #[.int .i64 kind, .int .i64 client, .string key, .int .i64 n, .int .i64 s, .slice a seen.length cap]] w fun r w' => r = .returned (.bool false) ∧ Ev.Ext w w' := by
  have hE := ext_alloc' w (.cells #[.int .i64 kind, .int .i64 client, .string key, .int .i64 n, .int .i64 s, .slice a seen.length cap] 29)
  have HH := Lib.hid hh
  clear hh
  go_enter Try.func15, Try.ntmps15
  go_wp2_with fail
  refine (rcheck_any key hks _).mono ?_; rintro e w1 ⟨rfl, rfl⟩
  go_wp2_with fail
  refine (rstcheck_any n s _).mono ?_; rintro e w2 ⟨rfl, hb2⟩
  obtain ⟨c0, c1, c2, c3, c4, c5⟩ := six_later hb2 rfl
  have hext := hE.trans hb2
  clear hE hb2
  go_wp2_with fail
  all_goals first
    | (go_ret; exact ⟨rfl, hext⟩)
    | (exfalso; have := HH.out; simp_all [L.headB, L.kindB, V.stampB]; done)
    | (exfalso; have := HH.out; simp_all [L.headB, L.kindB, V.stampB]; omega)
end Go.Proofs.Ytbdejgbjelfbeaa
