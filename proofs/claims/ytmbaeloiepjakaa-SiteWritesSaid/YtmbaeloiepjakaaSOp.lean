
/- Steps as data; short, few, empty, numbers, ContainsFunc: the walks. -/
import Derived.Test.YtmbaeloiepjakaaAG
import Derived.Test.YtmbaeloiepjakaaKRng
set_option linter.unusedSimpArgs false
set_option linter.unusedVariables false
namespace Go.Proofs.Ytmbaeloiepjakaa
open Go.RowKit A
def Rng.row (r : Rng) : List AV := [tv r.f, tv r.t]
structure SRow where
  ranges : List Rng
  owners : List Int
  parents : List Int
def SRow.row (c : SRow) : List AV := [.sl 2 (c.ranges.map Rng.row), .sl 1 (c.owners.map fun x => [iv x]), .sl 1 (c.parents.map fun x => [iv x])]
structure SOp where
  kind : Int
  client : Int
  site : Int
  to' : Int
  at' : Int
  how : Int
  key : ByteArray
  value : ByteArray
  keys : List ByteArray
  c : SRow
def SOp.row (o : SOp) : List AV := [iv o.kind, iv o.client, iv o.site, iv o.to', iv o.at', iv o.how, tv o.key, tv o.value, .sl 1 (o.keys.map fun s => [tv s]), .sl 2 (o.c.ranges.map Rng.row), .sl 1 (o.c.owners.map fun x => [iv x]), .sl 1 (o.c.parents.map fun x => [iv x])]
theorem ext_self (s : ByteArray) (n : Nat) (h : s.size ≤ n) : s.extract 0 n = s := by
  apply ByteArray.ext; rw [ByteArray.data_extract]; exact Array.extract_eq_self_of_le h
namespace S
def short (s : ByteArray) : ByteArray := s.extract 0 40
def cutR (r : Rng) : Rng := ⟨short r.f, short r.t⟩
def few (o : SOp) : SOp := ⟨o.kind, o.client, o.site, o.to', o.at', o.how, short o.key, short o.value, (o.keys.take 9).map short, ⟨(o.c.ranges.take 9).map cutR, o.c.owners.take 9, o.c.parents.take 9⟩⟩
theorem short_size (s : ByteArray) : (short s).size ≤ 40 := by simp [short]; omega
def empty (c : SRow) : Bool := decide (c.ranges.length + c.owners.length + c.parents.length = 0)
def numbers (o : SOp) : List Int := [o.kind, o.client, o.site, o.to', o.at', o.how]
def wild (n : Int) : Bool := decide (n < 0) || decide (63 < n)
def long (s : ByteArray) : Bool := decide (32 < s.size)
end S
/-- The first place of which p is true; -1: there is none. -/
def S.find {α : Type} (p : α → Bool) (l : List α) : Int := if l.any p then (l.findIdx p : Int) else -1
theorem S.find_at {α : Type} {p : α → Bool} {l : List α} {k : Nat} (hk : k < l.length) (h : p l[k] = true) (hb : ∀ j (h : j < l.length), j < k → p l[j] = false) : (k : Int) = S.find p l := by
  unfold S.find
  rw [if_pos (List.any_eq_true.2 ⟨_, List.getElem_mem hk, h⟩)]
  have e : l.findIdx p = k := by
    rw [List.findIdx_eq hk]
    exact ⟨h, fun j hj => hb j (by omega) hj⟩
  rw [e]
theorem S.find_no {α : Type} {p : α → Bool} {l : List α} (hb : ∀ j (h : j < l.length), j < l.length → p l[j] = false) : (-1 : Int) = S.find p l := by
  unfold S.find
  rw [if_neg]
  intro h
  obtain ⟨x, hx, hp⟩ := List.any_eq_true.1 h
  obtain ⟨i, hi, rfl⟩ := List.getElem_of_mem hx
  rw [hb i hi hi] at hp; cases hp
theorem S.find_any {α : Type} {p : α → Bool} {l : List α} : decide (0 ≤ S.find p l) = l.any p := by
  unfold S.find
  cases h : l.any p
  · simp
  · simp
end Go.Proofs.Ytmbaeloiepjakaa
