/- Bytes: the ledger's walk. -/
import Derived.Test.YtbdejgbjelfbeaaLParts
set_option linter.unusedSimpArgs false
set_option linter.unusedVariables false
namespace Go.Proofs.Ytbdejgbjelfbeaa
open Go.RowKit R
namespace L
def cat (l : List ByteArray) : List UInt8 := l.flatMap (·.data.toList)
def bytes (l : List Event) : List UInt8 := if l.all check then V.num l.length ++ cat (parts l) else []
theorem partsF_len : ∀ (l : List Event) (m : Int → List Dep), (partsF m l).length = l.length
  | [], _ => rfl
  | e :: r, m => by rw [partsF, List.length_cons, List.length_cons, partsF_len r]
def fit (l : List Event) : Prop := ∀ e ∈ l, e.key.size ≤ 1000 ∧ ∀ d ∈ e.seen, d.key.size ≤ 1000
theorem partsF_size : ∀ (l : List Event) (m : Int → List Dep), (∀ e ∈ l, check e = true) → fit l → (∀ c, (m c).length ≤ 64 ∧ ∀ d ∈ m c, d.key.size ≤ 1000) → ∀ s ∈ partsF m l, s.size ≤ 200000
  | [], _, _, _, _, s, h => by cases h
  | e :: r, m, hc, hf, hm, s, h => by
    rw [partsF] at h
    rcases List.mem_cons.1 h with rfl | h
    · exact part_size e _ (hc e (by simp)) (hf e (by simp)).1 (hf e (by simp)).2 (hm _).1 (hm _).2
    · refine partsF_size r _ (fun x hx => hc x (by simp [hx])) (fun x hx => hf x (by simp [hx])) (fun c => ?_) s h
      split
      · exact ⟨(check_parts (hc e (by simp))).2, (hf e (by simp)).2⟩
      · exact hm c
theorem parts_size {l : List Event} (hf : fit l) : ∀ s ∈ parts l, s.size ≤ 200000 := by
  intro s hs
  unfold parts at hs
  split at hs
  · rename_i h
    exact partsF_size l _ (fun e he => List.all_eq_true.1 h e he) hf (fun c => by simp) s hs
  · cases hs
theorem cat_len : ∀ (l : List ByteArray), (∀ s ∈ l, s.size ≤ 200000) → (cat l).length ≤ 200000 * l.length
  | [], _ => by simp [cat]
  | s :: l, h => by
    have h1 := h s (by simp)
    have h2 := cat_len l fun x hx => h x (by simp [hx])
    have : s.data.size = s.size := rfl
    simp only [cat, List.flatMap_cons, List.length_append, Array.length_toList, List.length_cons] at *
    omega
theorem cat_join (l : List ByteArray) : Lib.join (l.map (·.data.toList)) [] = cat l := by
  cases l with
  | nil => rfl
  | cons s r =>
    rw [List.map_cons, Lib.join_cons, Lib.joinTail]
    simp [cat, List.flatMap]
    rfl
end L
theorem grow_strs {e : TypeId} {K : Blocks} {B : Nat} {w : World} {v : Value} {xs : List ByteArray} (h : Grow e K B w v xs) :
    (v = .slice none 0 0 ∧ xs = []) ∨ ∃ g cap, v = .slice (some ⟨g, 0, none⟩) xs.length cap ∧ B ≤ g ∧ g < w.heap.size ∧ xs.length ≤ cap ∧ ∀ j x, xs[j]? = some x → x.size ≤ 9223372036854775807 ∧ w.cell? ⟨g, j, none⟩ = some (.string x) := by
  obtain ⟨rows, hown, hall⟩ := h.ex
  rcases hown.2 with ⟨rfl, h0⟩ | ⟨g, cap, cur, rfl, hbg, hg, hnc, hcm, hcs, htake⟩
  · exact .inl ⟨rfl, List.eq_nil_of_length_eq_zero h0⟩
  · refine .inr ⟨g, cap, rfl, hbg, (Array.getElem?_eq_some_iff.1 hg).1, hnc, fun j x hx => ?_⟩
    obtain ⟨r, hr, hrep⟩ := hall.get j x hx
    obtain ⟨rfl, hs⟩ := hrep
    have hc := flat_get (rows_len hall) j 0 _ (.string x) hr rfl
    rw [← htake] at hc
    have hc' : cur[j]? = some (.string x) := by
      rw [List.getElem?_take] at hc
      split at hc
      · rw [show GoT.n ByteArray = 1 from rfl, Nat.mul_one, Nat.add_zero] at hc; simpa using hc
      · cases hc
    exact ⟨hs, by simp [World.cell?, hg, hc']⟩
theorem join_parts (xs : List ByteArray) (v : Value) {e : TypeId} {K : Blocks} {B : Nat} (w : World) (h : Grow e K B w v xs) (hl : xs.length ≤ 1000) (hs : ∀ s ∈ xs, s.size ≤ 200000) :
    Calls Try.prog 27 #[v, .string ⟨#[]⟩] w fun e w' => e = .returned (.string (V.ba (L.cat xs))) ∧ Ev.Ext w w' := by
  rcases grow_strs h with ⟨rfl, rfl⟩ | ⟨g, cap, rfl, hB, hg, hc, hcell⟩
  · refine (Try.strings_Join_none none 0 ⟨#[]⟩ w).mono ?_
    rintro e w' ⟨rfl, rfl⟩
    exact ⟨rfl, Ev.Ext.refl _⟩
  · have hcl := L.cat_len xs hs
    have := Try.strings_Join g 0 cap xs ⟨#[]⟩ w (fun j x hx => by rw [Nat.zero_add]; exact (hcell j x hx).2) hg (by omega) hc (by rw [show (⟨#[]⟩ : ByteArray).data.toList = [] from rfl, L.cat_join]; omega)
    refine this.mono ?_
    rintro e w' ⟨rfl, hb⟩
    rw [show (⟨#[]⟩ : ByteArray).data.toList = [] from rfl, L.cat_join]
    exact ⟨rfl, hb⟩
set_option maxHeartbeats 2000000 in
set_option maxRecDepth 100000 in
theorem lbytes_any (l : List Event) (v : Value) (Kb : Blocks) (w : World) (h : Sl Kb w v l) (hl : l.length ≤ 1000) (hk : L.fit l) :
    Calls Try.prog 11 #[v] w fun r w' => r = .returned (.string (V.ba (L.bytes l))) ∧ Ev.Ext w w' := by
  obtain ⟨a, cap, rfl⟩ := h.form
  cases hall : l.all L.check
  · have hp : L.parts l = [] := by simp [L.parts, hall]
    have hb : L.bytes l = [] := by simp [L.bytes, hall]
    have hn : 0 < l.length := by
      cases l with
      | nil => simp at hall
      | cons x r => simp
    have hpn := lparts_any l _ Kb w h hl hk
    rw [hp] at hpn
    have HP := Lib.hid hpn
    have HB := Lib.hid hb
    clear hpn hb hp hall
    go_enter Try.func11, Try.ntmps11
    go_wp2_with fail
    refine HP.out.mono ?_; rintro e w1 ⟨v1, rfl, hG, hx⟩
    have hv1 : v1 = .slice none 0 0 ∨ ∃ g cap, v1 = .slice (some ⟨g, 0, none⟩) 0 cap := by
      rcases grow_strs hG with ⟨rfl, _⟩ | ⟨g, cap, h, _⟩
      · exact .inl rfl
      · exact .inr ⟨g, cap, h⟩
    have hn0 : ((0 : Int) != (l.length : Int)) = true := by simp; omega
    have hn1 : ((0 : Nat) != l.length) = true := by simp; omega
    rcases hv1 with rfl | ⟨g, cp, rfl⟩
    all_goals
      go_wp2
      go_ret
      exact ⟨by rw [HB.out]; rfl, hx⟩
  · have hpl : (L.parts l).length = l.length := by unfold L.parts; rw [if_pos hall, L.partsF_len]
    have hb : L.bytes l = V.num l.length ++ L.cat (L.parts l) := by simp [L.bytes, hall]
    have hsz := L.parts_size hk
    have hcl := L.cat_len _ hsz
    have h10 := V.num_len64 (n := l.length) (by omega)
    have HP := Lib.hid (lparts_any l _ Kb w h hl hk)
    have HB := Lib.hid hb
    have HL := Lib.hid hpl
    have hno : ¬ 9223372036854775807 < (V.num l.length).length + (L.cat (L.parts l)).length := by omega
    have HNO := Lib.hid hno
    clear hb hall hpl hno
    go_enter Try.func11, Try.ntmps11
    go_wp2_with fail
    refine HP.out.mono ?_; rintro e w1 ⟨v1, rfl, hG, hx⟩
    have hv1 := hG.slice
    obtain ⟨a1, cap1, rfl⟩ := hv1
    rw [HL.out]
    go_wp2_with fail
    refine (number_z _ l.length (by omega) rfl _).mono ?_; rintro e w2 ⟨rfl, hx2⟩
    go_wp2_with fail
    have hG2 := hG.ext hx2
    rw [HL.out] at hG2
    refine (join_parts (L.parts l) _ _ hG2 (by rw [HL.out]; exact hl) hsz).mono ?_; rintro e w3 ⟨rfl, hx3⟩
    have hno := HNO.out
    go_wp2
    go_ret
    exact ⟨by rw [HB.out, ← V.ba_append]; rfl, (hx.trans hx2).trans hx3⟩
end Go.Proofs.Ytbdejgbjelfbeaa
