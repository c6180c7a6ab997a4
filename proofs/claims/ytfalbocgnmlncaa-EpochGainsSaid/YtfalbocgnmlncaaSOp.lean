
/- Steps as data; short, few, empty, numbers, ContainsFunc: the walks. -/
import Derived.Test.YtfalbocgnmlncaaAG
import Derived.Test.YtfalbocgnmlncaaKRng
set_option linter.unusedSimpArgs false
set_option linter.unusedVariables false
namespace Go.Proofs.Ytfalbocgnmlncaa
open Go.RowKit A
def Rng.row (r : Rng) : List AV := [tv r.f, tv r.t]
structure SRow where
  ranges : List Rng
  owners : List Int
  parents : List Int
def SRow.row (c : SRow) : List AV := [.sl 2 (c.ranges.map Rng.row), .sl 1 (c.owners.map fun x => [iv x]), .sl 1 (c.parents.map fun x => [iv x])]
structure SOp where
  kind : Int
  client : Int
  site : Int
  to' : Int
  at' : Int
  how : Int
  key : ByteArray
  value : ByteArray
  keys : List ByteArray
  c : SRow
def SOp.row (o : SOp) : List AV := [iv o.kind, iv o.client, iv o.site, iv o.to', iv o.at', iv o.how, tv o.key, tv o.value, .sl 1 (o.keys.map fun s => [tv s]), .sl 2 (o.c.ranges.map Rng.row), .sl 1 (o.c.owners.map fun x => [iv x]), .sl 1 (o.c.parents.map fun x => [iv x])]
theorem ext_self (s : ByteArray) (n : Nat) (h : s.size ≤ n) : s.extract 0 n = s := by
  apply ByteArray.ext; rw [ByteArray.data_extract]; exact Array.extract_eq_self_of_le h
namespace S
def short (s : ByteArray) : ByteArray := s.extract 0 40
def cutR (r : Rng) : Rng := ⟨short r.f, short r.t⟩
def few (o : SOp) : SOp := ⟨o.kind, o.client, o.site, o.to', o.at', o.how, short o.key, short o.value, (o.keys.take 9).map short, ⟨(o.c.ranges.take 9).map cutR, o.c.owners.take 9, o.c.parents.take 9⟩⟩
theorem short_size (s : ByteArray) : (short s).size ≤ 40 := by simp [short]; omega
def empty (c : SRow) : Bool := decide (c.ranges.length + c.owners.length + c.parents.length = 0)
def numbers (o : SOp) : List Int := [o.kind, o.client, o.site, o.to', o.at', o.how]
def wild (n : Int) : Bool := decide (n < 0) || decide (63 < n)
def long (s : ByteArray) : Bool := decide (32 < s.size)
end S
/-- The first place of which p is true; -1: there is none. -/
def S.find {α : Type} (p : α → Bool) (l : List α) : Int := if l.any p then (l.findIdx p : Int) else -1
theorem S.find_at {α : Type} {p : α → Bool} {l : List α} {k : Nat} (hk : k < l.length) (h : p l[k] = true) (hb : ∀ j (h : j < l.length), j < k → p l[j] = false) : (k : Int) = S.find p l := by
  unfold S.find
  rw [if_pos (List.any_eq_true.2 ⟨_, List.getElem_mem hk, h⟩)]
  have e : l.findIdx p = k := by
    rw [List.findIdx_eq hk]
    exact ⟨h, fun j hj => hb j (by omega) hj⟩
  rw [e]
theorem S.find_no {α : Type} {p : α → Bool} {l : List α} (hb : ∀ j (h : j < l.length), j < l.length → p l[j] = false) : (-1 : Int) = S.find p l := by
  unfold S.find
  rw [if_neg]
  intro h
  obtain ⟨x, hx, hp⟩ := List.any_eq_true.1 h
  obtain ⟨i, hi, rfl⟩ := List.getElem_of_mem hx
  rw [hb i hi hi] at hp; cases hp
theorem S.find_any {α : Type} {p : α → Bool} {l : List α} : decide (0 ≤ S.find p l) = l.any p := by
  unfold S.find
  cases h : l.any p
  · simp
  · simp
set_option maxRecDepth 100000 in
theorem indexS_a (l : List ByteArray) (f : FuncId) (caps : List AV) (p : ByteArray → Bool) (hf : ∀ x, ACall Try.prog f ([tv x] ++ caps) (bv (p x))) : ACall Try.prog 57 [.sl 1 (l.map fun x => [tv x]), .fn f caps] (iv (S.find p l)) := by
  refine ACall_enter (fun _ _ => by kernel_rfl) Try.func57 rfl Try.ntmps57 Try.results57 (Nat.le_of_ble_eq_true rfl) (fun hok M0 w0 hnl => ?_)
  have hlen := (hok _ (List.mem_cons_self ..)).len
  rw [List.length_map] at hlen
  refine Aw_seq ?_
  refine Aw_region ?_
  refine Al_pu (Pu_move (.inr rfl) (by conv => lhs; whnf)) rfl rfl (by decide) (by kernel_rfl) ?_
  refine Al_nil ?_
  refine Aw_seq ?_
  refine Aw_seq ?_
  refine Aw_region ?_
  refine Al_pu (Pu_move (.inl rfl) (by conv => lhs; whnf)) rfl rfl (by decide) (by kernel_rfl) ?_
  refine Al_pu (Pu_len rfl Try.underlying59 rfl (by first | exact List.length_map .. | exact rfl)) rfl rfl (by decide) (by kernel_rfl) ?_
  refine Al_pu (Pu_move (.inl rfl) (by conv => lhs; whnf)) rfl rfl (by decide) (by kernel_rfl) ?_
  refine Al_nil ?_
  refine Aw_block ?_
  refine Aw_loopk (ι := Nat) [0, 1, 7] [] (fun k => [(8, .d (iv k))]) (fun k => []) (fun k => k ≤ l.length ∧ ∀ j (h : j < l.length), j < k → p l[j] = false) (fun k => l.length - k) (0) (⟨Nat.zero_le _, by intros; omega⟩) ⟨Sub.rfl, trivial⟩ trivial ?_
  rintro k ⟨hk0, hk2⟩
  refine Aw_seq ?_
  refine Aw_region ?_
  refine Al_pu (Pu_cmp rfl rfl rfl rfl) rfl rfl (by decide) (by kernel_rfl) ?_
  refine Al_nil ?_
  refine Aw_seq ?_
  refine Aw_cond rfl (fun h9 => ?_) (fun h9 => ?_)
  · (try simp only [decide_eq_true_eq, decide_eq_false_iff_not, Bool.and_eq_true, Bool.or_eq_true, Bool.and_eq_false_iff, Bool.or_eq_false_iff, Bool.not_eq_true', Bool.not_eq_false', beq_iff_eq, Bool.not_eq_eq_eq_not, Bool.not_true, Bool.not_false, List.length_map, Bool.and_true, Bool.and_false, Bool.false_and, Bool.true_and, Bool.or_false, Bool.false_or] at h9)
    have hk : k < l.length := by omega
    refine Aw_skip ?_
    refine Aw_seq ?_
    refine Aw_block ?_
    refine Aw_seq ?_
    refine Aw_region ?_
    refine Al_pu (Pu_move (.inl rfl) (by conv => lhs; whnf)) rfl rfl (by decide) (by kernel_rfl) ?_
    refine Al_pu (Pu_move (.inr rfl) (by conv => lhs; whnf)) rfl rfl (by decide) (by kernel_rfl) ?_
    refine Al_nil ?_
    refine Aw_seq ?_
    refine Aw_region ?_
    refine Al_pu (Pu_move (.inl rfl) (by conv => lhs; whnf)) rfl rfl (by decide) (by kernel_rfl) ?_
    refine Al_pu (Pu_move (.inl rfl) (by conv => lhs; whnf)) rfl rfl (by decide) (by kernel_rfl) ?_
    refine Al_pu (Pu_move (.inl rfl) (by conv => lhs; whnf)) rfl rfl (by decide) (by kernel_rfl) ?_
    refine Al_pu (Pu_index rfl Try.underlying59 Try.sizeOf9 rfl rfl (rfl) (mapget hk)) rfl rfl (by decide) (by kernel_rfl) ?_
    refine Al_pu (Pu_load1 rfl Try.isAgg9 rfl rfl) rfl rfl (by decide) (by kernel_rfl) ?_
    refine Al_pu (Pu_callv (aa := [tv l[k]]) (caps := caps) (hf l[k]) rfl rfl ⟨Sub.rfl, trivial⟩) rfl rfl (by decide) (by kernel_rfl) ?_
    refine Al_nil ?_
    refine Aw_cond rfl (fun h16 => ?_) (fun h16 => ?_)
    · skip
      refine Aw_seq ?_
      refine Aw_region ?_
      refine Al_pu (Pu_move (.inl rfl) (by conv => lhs; whnf)) rfl rfl (by decide) (by kernel_rfl) ?_
      refine Al_pu (Pu_move (.inr rfl) (by conv => lhs; whnf)) rfl rfl (by decide) (by kernel_rfl) ?_
      refine Al_nil ?_
      refine Aw_ret ?_
      exact Sub.num (S.find_at hk h16 hk2) -- ret 0
    · skip
      have h16' : p l[k] = false := h16
      refine Aw_skip ?_
      refine Aw_region ?_
      refine Al_pu (Pu_add rfl rfl rfl (fun h1 h2 => by simp only [A.inI, A.maxI] at *; omega)) rfl rfl (by decide) (by kernel_rfl) ?_
      refine Al_pu (Pu_move (.inl rfl) (by conv => lhs; whnf)) rfl rfl (by decide) (by kernel_rfl) ?_
      refine Al_nil ?_
      exact ⟨k + 1, ⟨by omega, fun j hj hjk => by
        by_cases e : j = k
        · subst e; exact h16'
        · exact hk2 j hj (by omega)⟩, by omega, Le.ov ⟨Sub.num (by omega), trivial⟩ ⟨Sub.rfl, Sub.rfl, Sub.rfl, trivial⟩ trivial trivial⟩ -- loop 0 next.0
  · (try simp only [decide_eq_true_eq, decide_eq_false_iff_not, Bool.and_eq_true, Bool.or_eq_true, Bool.and_eq_false_iff, Bool.or_eq_false_iff, Bool.not_eq_true', Bool.not_eq_false', beq_iff_eq, Bool.not_eq_eq_eq_not, Bool.not_true, Bool.not_false, List.length_map, Bool.and_true, Bool.and_false, Bool.false_and, Bool.true_and, Bool.or_false, Bool.false_or] at h9)
    obtain rfl : k = l.length := by omega
    refine Aw_exit ?_
    refine Aw_seq ?_
    refine Aw_region ?_
    refine Al_pu (Pu_move (.inr rfl) (by conv => lhs; whnf)) rfl rfl (by decide) (by kernel_rfl) ?_
    refine Al_nil ?_
    refine Aw_ret ?_
    exact Sub.num (S.find_no hk2) -- ret 1
end Go.Proofs.Ytfalbocgnmlncaa
