
/- Ranges as data; 'few'. -/
/- Find, Whole. -/
/- Whole. -/
import Derived.Test.YtmbaeloiepjakaaRep
import Derived.Test.YtmbaeloiepjakaaKWalks
set_option linter.unusedSimpArgs false
set_option linter.unusedVariables false
namespace Go.Proofs.Ytmbaeloiepjakaa
open Go.RowKit R
structure Rng where
  f : ByteArray
  t : ByteArray
instance : GoT Rng where
  n := 2
  pos := by decide
  rep _ _ cs r := cs = [.string r.f, .string r.t] ∧ r.f.size ≤ 9223372036854775807 ∧ r.t.size ≤ 9223372036854775807
  len h := by rw [h.1]; rfl
  one h c hc := by rw [h.1] at hc; simp at hc; rcases hc with rfl | rfl <;> rfl
  mono _ h := h
theorem rng_n : GoT.n Rng = 2 := rfl
theorem rng_elem : ElemT Try.prog 26 46 2 32 := ⟨Try.underlying26, by
  have h : (Try.prog.info? 46).map (fun i => (i.zero, i.size, i.bytes)) = some (some (.agg #[.string ⟨#[]⟩, .string ⟨#[]⟩]), 2, 32) := by kernel_rfl
  obtain ⟨i, hi, h1, h2, h3⟩ := info_parts h
  exact ⟨i, _, hi, h1, h2, h3, rfl⟩⟩
/-- The two cells of a range in a slice. -/
theorem rng_cells {K : Blocks} {w : World} {a : Option Addr} {len cap : Nat} {l : List Rng} (h : Sl K w (.slice a len cap) l) :
    len = l.length ∧ ∀ (i : Nat) (x : Rng), l[i]? = some x → ∃ b o, a = some ⟨b, o, none⟩ ∧ K b ∧ x.f.size ≤ 9223372036854775807 ∧ x.t.size ≤ 9223372036854775807 ∧ w.cell? ⟨b, o + i * 2, none⟩ = some (.string x.f) ∧ w.cell? ⟨b, o + i * 2 + 1, none⟩ = some (.string x.t) := by
  obtain ⟨hl, h⟩ := h.get
  refine ⟨hl, fun i x hx => ?_⟩
  obtain ⟨b, o, cs, ha, hb, ⟨rfl, h1, h2⟩, hat⟩ := h i x hx
  exact ⟨b, o, ha, hb, h1, h2, hat 0 _ rfl, hat 1 _ rfl⟩
def cut20 (r : Rng) : Rng := ⟨r.f.extract 0 20, r.t.extract 0 20⟩
def fewR (l : List Rng) : List Rng := (l.take 8).map cut20
theorem two_later' {w w1 : World} {a b : Addr} {x y : Value} (hb : Ev.Ext w w1) (h0 : w.cell? a = some x) (h1 : w.cell? b = some y) : w1.cell? a = some x ∧ w1.cell? b = some y := ⟨cell_later hb h0, cell_later hb h1⟩
end Go.Proofs.Ytmbaeloiepjakaa

set_option linter.unusedSimpArgs false
set_option linter.unusedVariables false
namespace Go.Proofs.Ytmbaeloiepjakaa
open Go.RowKit R
/-- the first place of which p is true -/
def idxF {α : Type} (p : α → Bool) (l : List α) : Int := match l.findIdx? p with | some i => i | none => -1
def NoneTo {α : Type} (p : α → Bool) (l : List α) (k : Nat) : Prop := ∀ (i : Nat) (x : α), i < k → l[i]? = some x → p x = false
theorem NoneTo.zero {α : Type} (p : α → Bool) (l : List α) : NoneTo p l 0 := fun i x h => by omega
theorem NoneTo.next {α : Type} {p : α → Bool} {l : List α} {k : Nat} (h : NoneTo p l k) {x : α} (hx : l[k]? = some x) (hp : p x = false) : NoneTo p l (k + 1) := fun i y hi hy => by
  by_cases e : i = k
  · subst e; rw [hx] at hy; cases hy; exact hp
  · exact h i y (by omega) hy
theorem NoneTo.found {α : Type} {p : α → Bool} {l : List α} {k : Nat} (h : NoneTo p l k) {x : α} (hx : l[k]? = some x) (hp : p x = true) : idxF p l = k := by
  have hlt : k < l.length := (List.getElem?_eq_some_iff.1 hx).1
  have : l.findIdx? p = some k := by
    rw [List.findIdx?_eq_some_iff_getElem]
    refine ⟨hlt, ?_, fun j hj => ?_⟩
    · have := (List.getElem?_eq_some_iff.1 hx).2; rw [this]; exact hp
    · rw [h j _ hj (List.getElem?_eq_getElem (by omega))]; simp
  unfold idxF; rw [this]
theorem NoneTo.all {α : Type} {p : α → Bool} {l : List α} (h : NoneTo p l l.length) : idxF p l = -1 := by
  have : l.findIdx? p = none := by
    rw [List.findIdx?_eq_none_iff]
    intro x hx
    obtain ⟨i, hi, rfl⟩ := List.getElem_of_mem hx
    exact h i _ hi (List.getElem?_eq_getElem hi)
  unfold idxF; rw [this]
set_option maxHeartbeats 1000000 in
theorem indexR_any (v : Value) (l : List Rng) (K : Blocks) (w : World) (h : Sl K w v l) (F : Nat) (caps : Array Value) (hF : ∀ (args : Array Value) (wy : World), (callFunc F args).run Try.prog wy = .ok (.enter F args) wy) (p : Rng → Bool)
    (hp : ∀ (x : Rng) (wy : World), x ∈ l → Ev.Ext w wy → Calls Try.prog F (#[.agg #[.string x.f, .string x.t]] ++ caps) wy fun e w' => e = .returned (.bool (p x)) ∧ Ev.Ext wy w') :
    Calls Try.prog 44 #[v, .func (.func F) #[] caps] w fun e w' => e = .returned (.int .i64 (idxF p l)) ∧ Ev.Ext w w' := by
  obtain ⟨a, cap, rfl⟩ := h.form
  have hlen := h.len_le
  have HP := Lib.hid hp
  clear hp
  go_enter Try.func44, Try.ntmps44
  go_wp2_with fail
  go_loopw [4, 8] (fun r i wr => ∃ (k : Nat), r = .int .i64 0 ∧ i = .int .i64 k ∧ k ≤ l.length ∧ Ev.Ext w wr ∧ NoneTo p l k) (fun _ i _ => l.length - (intOf i).toNat)
  case atStart => exact ⟨0, rfl, rfl, by omega, Ev.Ext.refl _, NoneTo.zero p l⟩
  case round =>
    obtain ⟨k, rfl, rfl, hk, hext, hno⟩ := hrel
    by_cases h1 : k < l.length
    · have hx : l[k]? = some l[k] := by simp [h1]
      obtain ⟨b, o, rfl, hKb, hs0, hs1, c0, c1⟩ := (rng_cells h).2 k l[k] hx
      have c0 := cell_later hext c0
      have c1 := cell_later hext c1
      have hc := HP.out l[k] wr (List.getElem_mem h1) hext
      cases hpx : p l[k]
      · rw [hpx] at hc
        have HX := Lib.hid hx
        have HX2 := Lib.hid hpx
        clear hx hpx
        go_wp2_with fail
        refine hc.mono ?_; rintro e w3 ⟨rfl, hb3⟩
        clear hc
        go_wp2
        go_roundw
        case rel => exact ⟨k + 1, rfl, by go_num, by omega, hext.trans hb3, hno.next HX.out HX2.out⟩
        case measure => simp [intOf]; omega
      · rw [hpx] at hc
        have HX := Lib.hid hx
        have HX2 := Lib.hid hpx
        clear hx hpx
        go_wp2_with fail
        refine hc.mono ?_; rintro e w3 ⟨rfl, hb3⟩
        clear hc
        go_wp2
        go_ret
        rw [hno.found HX.out HX2.out]
        exact ⟨rfl, hext.trans hb3⟩
    · obtain rfl : k = l.length := by omega
      go_wp2
      go_ret
      rw [hno.all]
      exact ⟨rfl, hext⟩
def findR (l : List Rng) (key : ByteArray) : Int := idxF (fun r => K.hasB r.f r.t key) l
set_option maxHeartbeats 1000000 in
theorem find1_any (x : Rng) (key : ByteArray) (b : Nat) (w : World) (hk : w.cell? ⟨b, 0, none⟩ = some (.string key)) :
    Calls Try.prog 45 #[.agg #[.string x.f, .string x.t], .pointer (some ⟨b, 0, none⟩)] w fun e w' => e = .returned (.bool (K.hasB x.f x.t key)) ∧ Ev.Ext w w' := by
  go_enter Try.func45, Try.ntmps45
  have hb := World.block_lt_of_cell? w _ hk
  have hk2 : (w.alloc (.cells #[.string x.f, .string x.t] 46)).cell? ⟨b, 0, none⟩ = some (.string key) := cell_later ((Below.refl _ _).alloc (Nat.le_refl _) _) hk
  go_wp2_with (go_at_call 46; refine (has_any _ _ _ _).mono ?_; rintro e w3 ⟨rfl, hb3⟩)
  go_ret
  exact ⟨rfl, below_box hb3⟩
set_option maxHeartbeats 1000000 in
theorem find_any (v : Value) (l : List Rng) (key : ByteArray) (Kb : Blocks) (w : World) (h : Sl Kb w v l) :
    Calls Try.prog 31 #[v, .string key] w fun e w' => e = .returned (.int .i64 (findR l key)) ∧ Ev.Ext w w' := by
  have he : Ev.Ext w (w.alloc (.cells #[.string key] 9)) := (Below.refl _ _).alloc (Nat.le_refl _) _
  go_enter Try.func31, Try.ntmps31
  go_wp2_with fail
  refine (indexR_any v l Kb _ (h.ext he) 45 #[.pointer (some ⟨w.heap.size, 0, none⟩)] (fun _ _ => by kernel_rfl) (fun r => K.hasB r.f r.t key) (fun x wy _ hy => find1_any x key _ wy (cell_later (v := .string key) hy (by simp)))).mono ?_
  rintro e w3 ⟨rfl, hb3⟩
  go_wp2
  go_ret
  exact ⟨rfl, he.trans hb3⟩
end Go.Proofs.Ytmbaeloiepjakaa

set_option linter.unusedSimpArgs false
set_option linter.unusedVariables false
namespace Go.Proofs.Ytmbaeloiepjakaa
open Go.RowKit R
def wholeF : ByteArray → Bool → List Rng → Bool
  | at', _, [] => at'.toList.isEmpty
  | at', fst, r :: l => K.goodB r.f r.t && (r.f.toList == at'.toList && ((fst || !at'.toList.isEmpty) && wholeF r.t false l))
def whole (l : List Rng) : Bool := !l.isEmpty && wholeF ⟨#[]⟩ true l
/-- where Whole's loop stands -/
def WhAt (l : List Rng) (k : Nat) (at' : ByteArray) : Prop := whole l = (!l.isEmpty && wholeF at' (k == 0) (l.drop k))
theorem WhAt.start (l : List Rng) : WhAt l 0 ⟨#[]⟩ := rfl
theorem WhAt.step {l : List Rng} {k : Nat} {at' : ByteArray} (h : WhAt l k at') (hk : k < l.length) :
    whole l = (K.goodB l[k].f l[k].t && (l[k].f.toList == at'.toList && (((k == 0) || !at'.toList.isEmpty) && (!l.isEmpty && wholeF l[k].t false (l.drop (k + 1)))))) := by
  unfold WhAt at h
  rw [h, List.drop_eq_getElem_cons hk, wholeF]
  cases l.isEmpty <;> cases K.goodB l[k].f l[k].t <;> cases (l[k].f.toList == at'.toList) <;> simp
theorem WhAt.next {l : List Rng} {k : Nat} {at' : ByteArray} (h : WhAt l k at') (hk : k < l.length) (hg : K.goodB l[k].f l[k].t = true) (he : (l[k].f.toList == at'.toList) = true) (hf : ((k == 0) || !at'.toList.isEmpty) = true) : WhAt l (k + 1) l[k].t := by
  have := h.step hk
  rw [hg, he, hf] at this
  simpa [WhAt] using this
theorem WhAt.no {l : List Rng} {k : Nat} {at' : ByteArray} (h : WhAt l k at') (hk : k < l.length) (hg : K.goodB l[k].f l[k].t = false ∨ (l[k].f.toList == at'.toList) = false ∨ ((k == 0) || !at'.toList.isEmpty) = false) : whole l = false := by
  have := h.step hk
  rcases hg with hg | hg | hg <;> rw [hg] at this <;> simpa using this
theorem WhAt.done {l : List Rng} {at' : ByteArray} (h : WhAt l l.length at') : whole l = (!l.isEmpty && at'.toList.isEmpty) := by
  unfold WhAt at h
  rw [h, List.drop_length, wholeF]
end Go.Proofs.Ytmbaeloiepjakaa
