/- graph: the walks. -/
import Derived.Test.YtgoncpjgpkoacaaGPast
import Derived.Test.YtgoncpjgpkoacaaAM
import Derived.Test.YtgoncpjgpkoacaaASort
import Derived.Test.YtgoncpjgpkoacaaSOp
import Derived.DeepKeys4
set_option linter.unusedSimpArgs false
set_option linter.unusedVariables false
namespace Go.Proofs.Ytgoncpjgpkoacaa
open Go.RowKit A R
open A.RowT
abbrev VK := ByteArray × Int × Int
def vkv (a : VK) : Value := .agg #[.string a.1, .int .i64 a.2.1, .int .i64 a.2.2]
def vok3 (a : VK) : Prop := a.1.size ≤ 9223372036854775807 ∧ A.inI a.2.1 ∧ A.inI a.2.2
theorem vkv_inj (a b : VK) (h : vkv a = vkv b) : a = b := by
  obtain ⟨a1, a2, a3⟩ := a
  obtain ⟨b1, b2, b3⟩ := b
  simp [vkv] at h
  simp [h]
theorem ver_lit (a : VK) (h : vok3 a) : ∃ l, keyOf Try.prog 73 (vkv a) = some l := by
  obtain ⟨a1, a2, a3⟩ := a
  obtain ⟨h1, h2, h3⟩ := h
  have w2 : (Lit.int .i64 a2).wf = true := by simp only [Lit.wf, Bool.and_eq_true, decide_eq_true_eq]; exact h2
  have w3 : (Lit.int .i64 a3).wf = true := by simp only [Lit.wf, Bool.and_eq_true, decide_eq_true_eq]; exact h3
  have k1 : Try.prog.keyType 73 = true := by kernel_rfl
  have k2 : (vkv (a1, a2, a3)).formed Try.prog 73 = true := by kernel_rfl
  have c1 : Try.prog.cellsOf 73 = 3 := by kernel_rfl
  have c2 : Try.prog.cellsOf 30 = 2 := by kernel_rfl
  have c3 : Try.prog.cellsOf 9 = 1 := by kernel_rfl
  have c4 : Try.prog.cellsOf 3 = 1 := by kernel_rfl
  have hl : ∃ n, Try.prog.types.size + 1 = n + 3 := ⟨Try.prog.types.size - 2, by have : 2 ≤ Try.prog.types.size := Nat.le_of_ble_eq_true (by kernel_rfl); omega⟩
  obtain ⟨n, hn⟩ := hl
  have h1' : a1.size ≤ maxLen := h1
  unfold keyOf
  simp only [Try.underlying73, k1, k2, Bool.and_self, if_true, hn]
  simp [vkv, Value.cells, Program.keyLits, Try.underlying73, Try.underlying30, Try.underlying9, Try.underlying3, c1, c2, c3, c4, h1', w2, w3]
  rw [if_pos (by decide)]
  exact ⟨_, rfl⟩
theorem ver_key : KeyT Try.prog 73 VK vkv vok3 :=
  .of (Go.Maps.Keyed.of_law (deep_law_laid (by kernel_rfl) (m := 3) (by decide) (Nat.lt_of_lt_of_le (Nat.lt_succ_self _) (Nat.le_of_ble_eq_true (by kernel_rfl))) (by kernel_rfl) (by rw [Try.underlying73]))) ver_lit vkv_inj
set_option maxRecDepth 100000 in
theorem indexv_a (l : List Int) (x : Int) : ACall Try.prog 54 [.sl 1 (l.map fun x => [iv x]), iv x] (iv (S.find (fun y => decide (x = y)) l)) := by
  refine ACall_enter (fun _ _ => by kernel_rfl) Try.func54 rfl Try.ntmps54 Try.results54 (Nat.le_of_ble_eq_true rfl) (fun hok M0 w0 hnl => ?_)
  have hlen := (hok _ (List.mem_cons_self ..)).len
  rw [List.length_map] at hlen
  refine Aw_seq ?_
  refine Aw_region ?_
  refine Al_pu (Pu_move (.inr rfl) (by conv => lhs; whnf)) rfl rfl (by decide) (by kernel_rfl) ?_
  refine Al_nil ?_
  refine Aw_seq ?_
  refine Aw_seq ?_
  refine Aw_region ?_
  refine Al_pu (Pu_move (.inl rfl) (by conv => lhs; whnf)) rfl rfl (by decide) (by kernel_rfl) ?_
  refine Al_pu (Pu_len rfl Try.underlying27 rfl (by first | exact List.length_map .. | exact rfl)) rfl rfl (by decide) (by kernel_rfl) ?_
  refine Al_pu (Pu_move (.inl rfl) (by conv => lhs; whnf)) rfl rfl (by decide) (by kernel_rfl) ?_
  refine Al_nil ?_
  refine Aw_block ?_
  refine Aw_loopk (ι := Nat) [0, 1, 7] [] (fun k => [(8, .d (iv k))]) (fun k => []) (fun k => k ≤ l.length ∧ ∀ j (h : j < l.length), j < k → (fun y => decide (x = y)) l[j] = false) (fun k => l.length - k) (0) (⟨Nat.zero_le _, by intros; omega⟩) ⟨Sub.rfl, trivial⟩ trivial ?_
  rintro k ⟨hk0, hk2⟩
  refine Aw_seq ?_
  refine Aw_region ?_
  refine Al_pu (Pu_cmp rfl rfl rfl rfl) rfl rfl (by decide) (by kernel_rfl) ?_
  refine Al_nil ?_
  refine Aw_seq ?_
  refine Aw_cond rfl (fun h9 => ?_) (fun h9 => ?_)
  · (try simp only [decide_eq_true_eq, decide_eq_false_iff_not, Bool.and_eq_true, Bool.or_eq_true, Bool.and_eq_false_iff, Bool.or_eq_false_iff, Bool.not_eq_true', Bool.not_eq_false', beq_iff_eq, Bool.not_eq_eq_eq_not, Bool.not_true, Bool.not_false, List.length_map, Bool.and_true, Bool.and_false, Bool.false_and, Bool.true_and, Bool.or_false, Bool.false_or] at h9)
    have hk : k < l.length := by omega
    refine Aw_skip ?_
    refine Aw_seq ?_
    refine Aw_block ?_
    refine Aw_seq ?_
    refine Aw_region ?_
    refine Al_pu (Pu_move (.inl rfl) (by conv => lhs; whnf)) rfl rfl (by decide) (by kernel_rfl) ?_
    refine Al_pu (Pu_move (.inr rfl) (by conv => lhs; whnf)) rfl rfl (by decide) (by kernel_rfl) ?_
    refine Al_nil ?_
    refine Aw_seq ?_
    refine Aw_region ?_
    refine Al_pu (Pu_move (.inl rfl) (by conv => lhs; whnf)) rfl rfl (by decide) (by kernel_rfl) ?_
    refine Al_pu (Pu_move (.inl rfl) (by conv => lhs; whnf)) rfl rfl (by decide) (by kernel_rfl) ?_
    refine Al_pu (Pu_move (.inl rfl) (by conv => lhs; whnf)) rfl rfl (by decide) (by kernel_rfl) ?_
    refine Al_pu (Pu_index rfl Try.underlying27 Try.sizeOf3 rfl rfl (rfl) (mapget hk)) rfl rfl (by decide) (by kernel_rfl) ?_
    refine Al_pu (Pu_load1 rfl Try.isAgg3 rfl rfl) rfl rfl (by decide) (by kernel_rfl) ?_
    refine Al_pu (Pu_cmp rfl rfl rfl rfl) rfl rfl (by decide) (by kernel_rfl) ?_
    refine Al_nil ?_
    refine Aw_cond rfl (fun h16 => ?_) (fun h16 => ?_)
    · skip
      refine Aw_seq ?_
      refine Aw_region ?_
      refine Al_pu (Pu_move (.inl rfl) (by conv => lhs; whnf)) rfl rfl (by decide) (by kernel_rfl) ?_
      refine Al_pu (Pu_move (.inr rfl) (by conv => lhs; whnf)) rfl rfl (by decide) (by kernel_rfl) ?_
      refine Al_nil ?_
      refine Aw_ret ?_
      exact Sub.num (S.find_at (p := fun y => decide (x = y)) hk h16 hk2) -- ret 0
    · skip
      have h16' : decide (x = l[k]) = false := h16
      refine Aw_skip ?_
      refine Aw_region ?_
      refine Al_pu (Pu_add rfl rfl rfl (fun h1 h2 => by simp only [A.inI, A.maxI] at *; omega)) rfl rfl (by decide) (by kernel_rfl) ?_
      refine Al_pu (Pu_move (.inl rfl) (by conv => lhs; whnf)) rfl rfl (by decide) (by kernel_rfl) ?_
      refine Al_nil ?_
      exact ⟨k + 1, ⟨by omega, fun j hj hjk => by
        by_cases e : j = k
        · subst e; exact h16'
        · exact hk2 j hj (by omega)⟩, by omega, Le.ov ⟨Sub.num (by omega), trivial⟩ ⟨Sub.rfl, Sub.rfl, Sub.rfl, trivial⟩ trivial trivial⟩ -- loop 0 next.0
  · (try simp only [decide_eq_true_eq, decide_eq_false_iff_not, Bool.and_eq_true, Bool.or_eq_true, Bool.and_eq_false_iff, Bool.or_eq_false_iff, Bool.not_eq_true', Bool.not_eq_false', beq_iff_eq, Bool.not_eq_eq_eq_not, Bool.not_true, Bool.not_false, List.length_map, Bool.and_true, Bool.and_false, Bool.false_and, Bool.true_and, Bool.or_false, Bool.false_or] at h9)
    obtain rfl : k = l.length := by omega
    refine Aw_exit ?_
    refine Aw_seq ?_
    refine Aw_region ?_
    refine Al_pu (Pu_move (.inr rfl) (by conv => lhs; whnf)) rfl rfl (by decide) (by kernel_rfl) ?_
    refine Al_nil ?_
    refine Aw_ret ?_
    exact Sub.num (S.find_no hk2) -- ret 1
set_option maxRecDepth 100000 in
theorem containsv_a (l : List Int) (x : Int) : ACall Try.prog 33 [.sl 1 (l.map fun x => [iv x]), iv x] (bv (l.any fun y => decide (x = y))) := by
  refine ACall_enter (fun _ _ => by kernel_rfl) Try.func33 rfl Try.ntmps33 Try.results33 (Nat.le_of_ble_eq_true rfl) (fun hok M0 w0 hnl => ?_)
  refine Aw_seq ?_
  refine Aw_region ?_
  refine Al_pu (Pu_move (.inr rfl) (by conv => lhs; whnf)) rfl rfl (by decide) (by kernel_rfl) ?_
  refine Al_nil ?_
  refine Aw_seq ?_
  refine Aw_region ?_
  refine Al_pu (Pu_move (.inl rfl) (by conv => lhs; whnf)) rfl rfl (by decide) (by kernel_rfl) ?_
  refine Al_pu (Pu_move (.inl rfl) (by conv => lhs; whnf)) rfl rfl (by decide) (by kernel_rfl) ?_
  refine Al_pu (Pu_call (indexv_a l x) rfl ⟨Sub.rfl, Sub.rfl, trivial⟩) rfl rfl (by decide) (by kernel_rfl) ?_
  refine Al_pu (Pu_cmp rfl rfl rfl rfl) rfl rfl (by decide) (by kernel_rfl) ?_
  refine Al_pu (Pu_move (.inr rfl) (by conv => lhs; whnf)) rfl rfl (by decide) (by kernel_rfl) ?_
  refine Al_nil ?_
  refine Aw_ret ?_
  exact Sub.bool S.find_any -- ret 0
instance : Inhabited Event := ⟨⟨0, 0, ⟨#[]⟩, 0, 0, []⟩⟩
/-! ### which events are directly ahead: plain -/
namespace G
def keyE (e : Event) : VK := (e.key, e.n, e.s)
def isW (v : VK) (e : Event) : Bool := decide (e.kind = 1) && decide (keyE e = v)
/-- The first write of a version, of the first so many events. -/
def first (l : List Event) (k : Nat) (v : VK) : Option Nat := (l.take k).findIdx? (isW v)
theorem first_zero (l : List Event) (v : VK) : first l 0 v = none := rfl
theorem first_succ (l : List Event) {k : Nat} (hk : k < l.length) (v : VK) : first l (k + 1) v = (first l k v).or (if isW v l[k] then some k else none) := by
  unfold first
  rw [List.take_succ_eq_append_getElem hk, List.findIdx?_append]
  congr 1
  have hl : (l.take k).length = k := by simp; omega
  rw [hl]
  cases h : isW v l[k] <;> simp [List.findIdx?_cons, h]
theorem first_lt {l : List Event} {k : Nat} {v : VK} {i : Nat} (h : first l k v = some i) : i < k ∧ ∃ hi : i < l.length, isW v l[i] = true := by
  unfold first at h
  rw [List.findIdx?_eq_some_iff_getElem] at h
  obtain ⟨h1, h2, _⟩ := h
  rw [List.length_take] at h1
  exact ⟨by omega, by omega, by rw [List.getElem_take] at h2; exact h2⟩
/-- The last event of a client, of the first so many. -/
def last (l : List Event) : Nat → Int → Option Nat
  | 0, _ => none
  | k + 1, c => match l[k]? with
    | some e => if e.client = c then some k else last l k c
    | none => last l k c
theorem last_succ (l : List Event) {k : Nat} (hk : k < l.length) (c : Int) : last l (k + 1) c = if l[k].client = c then some k else last l k c := by
  rw [last, List.getElem?_eq_getElem hk]
theorem last_lt {l : List Event} : ∀ {k : Nat} {c : Int} {i : Nat}, last l k c = some i → i < k ∧ ∃ hi : i < l.length, l[i].client = c ∧ ∀ (j : Nat) (hj : j < l.length), i < j → j < k → l[j].client ≠ c
  | 0, c, i, h => by cases h
  | k + 1, c, i, h => by
    rw [last] at h
    split at h
    · rename_i e he
      obtain ⟨hk, rfl⟩ := List.getElem?_eq_some_iff.1 he
      split at h
      · rename_i hc
        cases h
        exact ⟨by omega, hk, hc, fun j hj h1 h2 => by omega⟩
      · rename_i hc
        obtain ⟨h1, hi, h2, h3⟩ := last_lt h
        refine ⟨by omega, hi, h2, fun j hj h4 h5 => ?_⟩
        by_cases e : j = k
        · subst e; exact hc
        · exact h3 j hj h4 (by omega)
    · rename_i he
      have hk := List.getElem?_eq_none_iff.1 he
      obtain ⟨h1, hi, h2, h3⟩ := last_lt h
      exact ⟨by omega, hi, h2, fun j hj h4 h5 => h3 j hj h4 (by omega)⟩
theorem last_none {l : List Event} : ∀ {k : Nat} {c : Int}, last l k c = none → ∀ (j : Nat) (hj : j < l.length), j < k → l[j].client ≠ c
  | 0, c, _, j, hj, h => by omega
  | k + 1, c, h, j, hj, hjk => by
    rw [last] at h
    split at h
    · rename_i e he
      obtain ⟨hk, rfl⟩ := List.getElem?_eq_some_iff.1 he
      split at h
      · cases h
      · rename_i hc
        by_cases e : j = k
        · subst e; exact hc
        · exact last_none h j hj (by omega)
    · rename_i he
      have hk := List.getElem?_eq_none_iff.1 he
      exact last_none h j hj (by omega)
def prev (l : List Event) (j : Nat) : List Int := match last l j (l.getD j default).client with | some i => [(i : Int)] | none => []
/-- Is a read's write one more? -/
def reads (l : List Event) (j : Nat) : Bool := decide ((l.getD j default).kind = 2) && !(decide ((l.getD j default).n = 0) && decide ((l.getD j default).s = 0)) && (match first l l.length (keyE (l.getD j default)) with | some w => decide (w < j) && !((prev l j).any fun y => decide ((w : Int) = y)) | none => false)
def wr (l : List Event) (j : Nat) : Int := match first l l.length (keyE (l.getD j default)) with | some w => (w : Int) | none => 0
def dirs (l : List Event) (j : Nat) : List Int := sortI (prev l j ++ if reads l j then [wr l j] else [])
theorem dirs_len (l : List Event) (j : Nat) : (dirs l j).length ≤ 2 := by
  unfold dirs
  rw [(sortI_same _).1, List.length_append]
  unfold prev
  split <;> split <;> simp
def nilA : AV := .v (.slice none 0 0)
def dcells (l : List Event) (k : Nat) : List AV := ((List.range k).map fun i => .sl 1 ((dirs l i).map fun x => [iv x])) ++ List.replicate (l.length - k) nilA
theorem dcells_len (l : List Event) {k : Nat} (hk : k ≤ l.length) : (dcells l k).length = l.length := by simp [dcells]; omega
theorem dcells_at (l : List Event) {k : Nat} (hk : k < l.length) : (dcells l k)[k]? = some nilA := by
  unfold dcells
  rw [List.getElem?_append_right (by simp), List.getElem?_replicate, if_pos (by simp; omega)]
theorem dcells_set (l : List Event) {k : Nat} (hk : k < l.length) : (dcells l k).set k (.sl 1 ((dirs l k).map fun x => [iv x])) = dcells l (k + 1) := by
  unfold dcells
  rw [List.range_succ, List.map_append, show l.length - k = (l.length - (k + 1)) + 1 from by omega, List.replicate_succ]
  rw [List.set_append_right _ _ (by simp)]
  simp
theorem reads_eq (l : List Event) (j : Nat) : reads l j = (decide ((l.getD j default).kind = 2) && !((l.getD j default).n == 0 && (l.getD j default).s == 0) && (first l l.length (keyE (l.getD j default))).isSome && decide (wr l j < (j : Int)) && !((prev l j).any fun y => decide (wr l j = y))) := by
  unfold reads wr
  cases first l l.length (keyE (l.getD j default)) with
  | none => simp
  | some w =>
    simp only [Option.isSome_some, Bool.and_true, Int.ofNat_lt, Bool.and_assoc]
    rfl
theorem sub_nil {l : List Event} {j : Nat} (hj : j < l.length) (h : dirs l j = []) : SubL ((dcells l j).map SV.d) ((dcells l (j + 1)).map SV.d) := by
  rw [← dcells_set l hj, h]
  refine SubL.of (by simp) fun i s s' h1 h2 => ?_
  rw [List.getElem?_map] at h1 h2
  obtain ⟨a, ha, rfl⟩ := Option.map_eq_some_iff.1 h1
  obtain ⟨b, hb, rfl⟩ := Option.map_eq_some_iff.1 h2
  by_cases e : j = i
  · subst e
    rw [dcells_at l hj] at ha; cases ha
    rw [List.getElem?_set_self (by rw [dcells_len l (Nat.le_of_lt hj)]; exact hj)] at hb
    cases hb
    exact Sub.nil
  · rw [List.getElem?_set_ne e, ha] at hb
    cases hb
    exact Sub.rfl
theorem wr_eq (l : List Event) (j : Nat) : lookA (fun i : Nat => iv i) (iv 0) (first l l.length (keyE (l.getD j default))) = iv (wr l j) := by
  unfold wr lookA
  cases first l l.length (keyE (l.getD j default)) <;> rfl
end G
theorem A.rowAt {cs : List AV} {j : Nat} {a : AV} (h : cs[j]? = some a) : (cs.map SV.d)[j]? = some (.d a) := by rw [List.getElem?_map, h]; rfl
abbrev okI (a : Int) : Prop := -9223372036854775808 ≤ a ∧ a ≤ 9223372036854775807
set_option maxRecDepth 100000 in
set_option maxHeartbeats 4000000 in
theorem direct_a (l : List Event) (hl : l.length ≤ 1000) : ACall Try.prog 28 [.sl 6 (l.map Event.row)] (.sl 1 ((List.range l.length).map fun j => [.sl 1 ((G.dirs l j).map fun x => [iv x])])) := by
  refine ACall_enter (fun _ _ => by kernel_rfl) Try.func28 rfl Try.ntmps28 Try.results28 (Nat.le_of_ble_eq_true rfl) (fun hok M0 w0 hnl => ?_)
  have hrows := (hok _ (List.mem_cons_self ..)).rows
  have hokE : ∀ (k : Nat) (hk : k < l.length), vok3 (G.keyE l[k]) ∧ A.inI l[k].client := fun k hk => by
    have hr := hrows _ (List.mem_map.2 ⟨l[k], List.getElem_mem hk, rfl⟩)
    exact ⟨⟨(hr (tv l[k].key) (by simp [Event.row])).text, (hr (iv l[k].n) (by simp [Event.row])).int, (hr (iv l[k].s) (by simp [Event.row])).int⟩, (hr (iv l[k].client) (by simp [Event.row])).int⟩
  refine Aw_seq ?_
  refine Aw_region ?_
  refine Al_pu (Pu_move (.inr rfl) (by conv => lhs; whnf)) rfl rfl (by decide) (by kernel_rfl) ?_
  refine Al_nil ?_
  refine Aw_seq ?_
  refine Aw_region ?_
  refine Al_makeMap vkv vok3 (fun i : Nat => iv i) rfl rfl rfl (by decide) (fun b18 g18 => ?_)
  refine Al_makeMap (Value.int .i64) okI (fun i : Nat => iv i) rfl rfl rfl (by decide) (fun b19 g19 => ?_)
  refine Al_pu (Pu_buildAg (aa := [(0, _), (1, _)]) rfl Try.underlying71 Try.zeroValue71 (places71 Try.underlying71) (by kernel_rfl) ⟨rfl, rfl, rfl, rfl, trivial⟩ rfl) rfl rfl (by decide) (by kernel_rfl) ?_
  refine Al_alloc rfl rfl rfl (by decide) Try.zeroValue71 rfl (by kernel_rfl) (fun g3 => ?_)
  refine Al_storeAg rfl rfl rfl (by kernel_rfl) Try.sizeOf71 rfl rfl rfl rfl (Nat.le_of_ble_eq_true rfl) ?_
  refine Al_nil ?_
  refine Aw_seq ?_
  refine Aw_region ?_
  refine Al_pu (Pu_fieldb 0 rfl Try.underlying71 rfl rfl Try.sizeOf68 rfl) rfl rfl (by decide) (by kernel_rfl) ?_
  refine Al_pu (Pu_loadb rfl Try.isAgg68 rfl rfl rfl) rfl rfl (by decide) (by kernel_rfl) ?_
  refine Al_pu (Pu_move (.inr rfl) (by conv => lhs; whnf)) rfl rfl (by decide) (by kernel_rfl) ?_
  refine Al_nil ?_
  refine Aw_seq ?_
  refine Aw_seq ?_
  refine Aw_region ?_
  refine Al_pu (Pu_move (.inl rfl) (by conv => lhs; whnf)) rfl rfl (by decide) (by kernel_rfl) ?_
  refine Al_pu (Pu_len rfl Try.underlying24 rfl (by first | exact List.length_map .. | exact rfl)) rfl rfl (by decide) (by kernel_rfl) ?_
  refine Al_pu (Pu_move (.inl rfl) (by conv => lhs; whnf)) rfl rfl (by decide) (by kernel_rfl) ?_
  refine Al_nil ?_
  refine Aw_block ?_
  refine Aw_loopk (ι := Nat × Nat) [0, 3, 4, 23, 24] [3, 19] (fun (k, n) => [(25, .d (iv k))]) (fun (k, n) => [(18, g18, .op (mapO vkv vok3 (fun i : Nat => iv i) b18 n (G.first l k)))]) (fun (k, n) => k ≤ l.length ∧ n ≤ k) (fun (k, n) => l.length - k) ((0, 0)) (⟨Nat.zero_le _, Nat.le_refl _⟩) ⟨Sub.rfl, trivial⟩ ⟨mapeq rfl (funext fun v => (G.first_zero l v).symm), trivial⟩ ?_
  rintro ⟨k, n⟩ ⟨hk0, hn⟩
  refine Aw_seq ?_
  refine Aw_region ?_
  refine Al_pu (Pu_cmp rfl rfl rfl rfl) rfl rfl (by decide) (by kernel_rfl) ?_
  refine Al_nil ?_
  refine Aw_seq ?_
  refine Aw_cond rfl (fun h26 => ?_) (fun h26 => ?_)
  · (try simp only [decide_eq_true_eq, decide_eq_false_iff_not, Bool.and_eq_true, Bool.or_eq_true, Bool.and_eq_false_iff, Bool.or_eq_false_iff, Bool.not_eq_true', Bool.not_eq_false', beq_iff_eq, Bool.not_eq_eq_eq_not, Bool.not_true, Bool.not_false, List.length_map, Bool.and_true, Bool.and_false, Bool.false_and, Bool.true_and, Bool.or_false, Bool.false_or] at h26)
    have hk : k < l.length := by omega
    have hfs := G.first_succ l hk
    refine Aw_skip ?_
    -- join 0: live [0, 3, 4, 23, 24, 25], turned []
    refine Aw_seq ?_
    refine Aw_block ?_
    refine Aw_seq ?_
    refine Aw_region ?_
    refine Al_pu (Pu_move (.inl rfl) (by conv => lhs; whnf)) rfl rfl (by decide) (by kernel_rfl) ?_
    refine Al_pu (Pu_index rfl Try.underlying24 Try.sizeOf33 rfl rfl (rfl) (mapget hk)) rfl rfl (by decide) (by kernel_rfl) ?_
    refine Al_pu (Pu_loadN rfl Try.isAgg33 Try.sizeOf33 rfl (Nat.le_of_ble_eq_true rfl)) rfl rfl (by decide) (by kernel_rfl) ?_
    refine Al_alloc rfl rfl rfl (by decide) Try.zeroValue33 rfl (by kernel_rfl) (fun g6 => ?_)
    refine Al_pu (Pu_move (.inr rfl) (by conv => lhs; whnf)) rfl rfl (by decide) (by kernel_rfl) ?_
    refine Al_storeN rfl rfl rfl (by kernel_rfl) Try.isAgg33 Try.sizeOf33 rfl rfl rfl rfl (Nat.le_of_ble_eq_true rfl) ?_
    refine Al_nil ?_
    refine Aw_seq ?_
    refine Aw_region ?_
    refine Al_pu (Pu_fieldb 2 rfl Try.underlying33 rfl rfl Try.sizeOf9 rfl) rfl rfl (by decide) (by kernel_rfl) ?_
    refine Al_pu (Pu_loadb rfl Try.isAgg9 rfl rfl rfl) rfl rfl (by decide) (by kernel_rfl) ?_
    refine Al_pu (Pu_fieldb 3 rfl Try.underlying33 rfl rfl Try.sizeOf30 rfl) rfl rfl (by decide) (by kernel_rfl) ?_
    refine Al_pu (Pu_loadbN (r := [_, _]) rfl Try.isAgg30 Try.sizeOf30 rfl rfl rfl rfl) rfl rfl (by decide) (by kernel_rfl) ?_
    refine Al_pu (Pu_build (aa := [(0, _), (1, _)]) rfl Try.underlying73 Try.zeroValue73 (places73 Try.underlying73) (by kernel_rfl) ⟨rfl, rfl, rfl, rfl, rfl, rfl, trivial⟩ rfl) rfl rfl (by decide) (by kernel_rfl) ?_
    refine Al_alloc rfl rfl rfl (by decide) Try.zeroValue73 rfl (by kernel_rfl) (fun g7 => ?_)
    refine Al_storeN rfl rfl rfl (by kernel_rfl) Try.isAgg73 Try.sizeOf73 rfl rfl rfl rfl (Nat.le_of_ble_eq_true rfl) ?_
    refine Al_nil ?_
    refine Aw_seq ?_
    refine Aw_region ?_
    refine Al_pu (Pu_move (.inl rfl) (by conv => lhs; whnf)) rfl rfl (by decide) (by kernel_rfl) ?_
    refine Al_pu (Pu_loadbN (r := [_, _, _]) rfl Try.isAgg73 Try.sizeOf73 rfl rfl rfl rfl) rfl rfl (by decide) (by kernel_rfl) ?_
    refine Al_pu (Pu_lookup2 (c := G.keyE (l[k]'hk)) ver_key rfl Try.underlying68 Try.zeroValue3 (fun M w => .v _ (by decide)) rfl rfl rfl (Only.row [.string _, .int .i64 _, .int .i64 _]) (hokE k hk).1) rfl rfl (by decide) (by kernel_rfl) ?_
    refine Al_pu (Pu_move (.inl rfl) (by conv => lhs; whnf)) rfl rfl (by decide) (by kernel_rfl) ?_
    refine Al_pu (Pu_extract rfl rfl rfl) rfl rfl (by decide) (by kernel_rfl) ?_
    refine Al_pu (Pu_extract rfl rfl rfl) rfl rfl (by decide) (by kernel_rfl) ?_
    refine Al_pu (Pu_move (.inr rfl) (by conv => lhs; whnf)) rfl rfl (by decide) (by kernel_rfl) ?_
    refine Al_pu (Pu_move (.inr rfl) (by conv => lhs; whnf)) rfl rfl (by decide) (by kernel_rfl) ?_
    refine Al_nil ?_
    refine Aw_seq ?_
    refine Aw_region ?_
    refine Al_pu (Pu_fieldb 0 rfl Try.underlying33 rfl rfl Try.sizeOf3 rfl) rfl rfl (by decide) (by kernel_rfl) ?_
    refine Al_pu (Pu_loadb rfl Try.isAgg3 rfl rfl rfl) rfl rfl (by decide) (by kernel_rfl) ?_
    refine Al_pu (Pu_cmp rfl rfl rfl rfl) rfl rfl (by decide) (by kernel_rfl) ?_
    refine Al_pu (Pu_move (.inl rfl) (by conv => lhs; whnf)) rfl rfl (by decide) (by kernel_rfl) ?_
    refine Al_st (St_gd [] rfl rfl rfl rfl trivial (fun hg45 => by exact Pu_move (.inl rfl) (by conv => lhs; whnf))) rfl (by decide) (by kernel_rfl) (by intro j b oj dj h1 h2 h3; cases h1; cases h2; cases h3; decide) ?_
    refine Al_st (St_gd [45] rfl rfl rfl rfl ⟨⟨_, rfl⟩, trivial⟩ (fun hg46 => Pu_not rfl rfl)) rfl (by decide) (by kernel_rfl) (by intro j b oj dj h1 h2 h3; cases h1; cases h2; cases h3; decide) ?_
    refine Al_pu (Pu_and rfl rfl rfl rfl) rfl rfl (by decide) (by kernel_rfl) ?_
    refine Al_nil ?_
    refine Aw_cond rfl (fun h47 => ?_) (fun h47 => ?_)
    · skip
      have hw : G.isW (G.keyE (l[k]'hk)) (l[k]'hk) = true := by
        simp only [Bool.and_eq_true] at h47
        simp only [G.isW, h47.1, decide_true, Bool.and_self]
      have hno : G.first l k (G.keyE (l[k]'hk)) = none := by
        simp only [Bool.and_eq_true, Bool.not_eq_true'] at h47
        exact Option.isNone_iff_eq_none.1 (by rw [← Option.not_isSome, h47.2]; rfl)
      refine Aw_region ?_
      refine Al_pu (Pu_move (.inl rfl) (by conv => lhs; whnf)) rfl rfl (by decide) (by kernel_rfl) ?_
      refine Al_pu (Pu_loadbN (r := [_, _, _]) rfl Try.isAgg73 Try.sizeOf73 rfl rfl rfl rfl) rfl rfl (by decide) (by kernel_rfl) ?_
      refine Al_pu (Pu_move (.inl rfl) (by conv => lhs; whnf)) rfl rfl (by decide) (by kernel_rfl) ?_
      refine Al_mapUpdate (c := G.keyE (l[k]'hk)) (v := k) ver_key rfl rfl rfl (by kernel_rfl) Try.underlying68 (by simp only [maxLen]; omega) rfl rfl rfl (Only.row [.string _, .int .i64 _, .int .i64 _]) (hokE k hk).1 Sub.rfl ?_
      refine Al_nil ?_
      refine Aw_region ?_
      refine Al_pu (Pu_add rfl rfl rfl (fun h1 h2 => by simp only [A.inI, A.maxI] at *; omega)) rfl rfl (by decide) (by kernel_rfl) ?_
      refine Al_pu (Pu_move (.inl rfl) (by conv => lhs; whnf)) rfl rfl (by decide) (by kernel_rfl) ?_
      refine Al_nil ?_
      exact ⟨(k + 1, n + 1), ⟨by omega, by omega⟩, by simp only []; omega, Le.ov ⟨Sub.num (by omega), trivial⟩ ⟨Sub.rfl, Sub.rfl, Sub.rfl, Sub.rfl, Sub.rfl, trivial⟩ ⟨mapeq rfl (funext fun v => by
        rw [hfs v]
        by_cases e : v = G.keyE (l[k]'hk)
        · subst e; rw [if_pos rfl, hno, hw]; rfl
        · have hnw : G.isW v (l[k]'hk) = false := by unfold G.isW; rw [show decide (G.keyE (l[k]'hk) = v) = false from decide_eq_false fun h => e h.symm, Bool.and_false]
          rw [if_neg e, hnw]; simp), trivial⟩ ⟨rfl, rfl, trivial⟩⟩ -- loop 0 next.0
    · skip
      have hor : ∀ v, (G.first l k v).or (if G.isW v (l[k]'hk) then some k else none) = G.first l k v := fun v => by
        cases hw : G.isW v (l[k]'hk) with
        | false => simp
        | true =>
          unfold G.isW at hw
          simp only [Bool.and_eq_true, decide_eq_true_eq] at hw
          obtain ⟨hw1, rfl⟩ := hw
          cases hf : G.first l k (G.keyE (l[k]'hk)) with
          | some i => rfl
          | none => rw [hf, hw1] at h47; simp at h47
      refine Aw_skip ?_
      refine Aw_region ?_
      refine Al_pu (Pu_add rfl rfl rfl (fun h1 h2 => by simp only [A.inI, A.maxI] at *; omega)) rfl rfl (by decide) (by kernel_rfl) ?_
      refine Al_pu (Pu_move (.inl rfl) (by conv => lhs; whnf)) rfl rfl (by decide) (by kernel_rfl) ?_
      refine Al_nil ?_
      exact ⟨(k + 1, n), ⟨by omega, by omega⟩, by simp only []; omega, Le.ov ⟨Sub.num (by omega), trivial⟩ ⟨Sub.rfl, Sub.rfl, Sub.rfl, Sub.rfl, Sub.rfl, trivial⟩ ⟨mapeq rfl (funext fun v => by rw [hfs v, hor v]), trivial⟩ ⟨rfl, rfl, trivial⟩⟩ -- loop 0 next.1
  · (try simp only [decide_eq_true_eq, decide_eq_false_iff_not, Bool.and_eq_true, Bool.or_eq_true, Bool.and_eq_false_iff, Bool.or_eq_false_iff, Bool.not_eq_true', Bool.not_eq_false', beq_iff_eq, Bool.not_eq_eq_eq_not, Bool.not_true, Bool.not_false, List.length_map, Bool.and_true, Bool.and_false, Bool.false_and, Bool.true_and, Bool.or_false, Bool.false_or] at h26)
    obtain rfl : k = l.length := by omega
    refine Aw_exit ?_
    refine Aw_seq ?_
    refine Aw_region ?_
    refine Al_pu (Pu_move (.inl rfl) (by conv => lhs; whnf)) rfl rfl (by decide) (by kernel_rfl) ?_
    refine Al_pu (Pu_len rfl Try.underlying24 rfl (by first | exact List.length_map .. | exact rfl)) rfl rfl (by decide) (by kernel_rfl) ?_
    refine Al_make1 (n := l.length) (bytes := 24) (z := .slice none 0 0) rfl rfl rfl (by decide) (by kernel_rfl) Try.underlying56 (by kernel_rfl) rfl ⟨rfl, rfl⟩ rfl rfl (by omega) (by decide) (fun g54 => ?_)
    refine Al_pu (Pu_move (.inr rfl) (by conv => lhs; whnf)) rfl rfl (by decide) (by kernel_rfl) ?_
    refine Al_nil ?_
    refine Aw_seq ?_
    refine Aw_toRow (k := 54) (g := g54) (aas := G.dcells l 0) (obeq (by simp [G.dcells, G.nilA])) (fun b54 => ?_)
    refine Aw_region ?_
    refine Al_pu (Pu_build (aa := []) rfl Try.underlying30 Try.zeroValue30 (places30 Try.underlying30) (by kernel_rfl) trivial rfl) rfl rfl (by decide) (by kernel_rfl) ?_
    refine Al_alloc rfl rfl rfl (by decide) Try.zeroValue30 rfl (by kernel_rfl) (fun g11 => ?_)
    refine Al_storeN rfl rfl rfl (by kernel_rfl) Try.isAgg30 Try.sizeOf30 rfl rfl rfl rfl (Nat.le_of_ble_eq_true rfl) ?_
    refine Al_nil ?_
    refine Aw_seq ?_
    refine Aw_seq ?_
    refine Aw_region ?_
    refine Al_pu (Pu_move (.inl rfl) (by conv => lhs; whnf)) rfl rfl (by decide) (by kernel_rfl) ?_
    refine Al_pu (Pu_len rfl Try.underlying24 rfl (by first | exact List.length_map .. | exact rfl)) rfl rfl (by decide) (by kernel_rfl) ?_
    refine Al_pu (Pu_move (.inl rfl) (by conv => lhs; whnf)) rfl rfl (by decide) (by kernel_rfl) ?_
    refine Al_nil ?_
    refine Aw_block ?_
    refine Aw_loopk (ι := Nat × Nat) [3, 4, 10, 11, 56, 57] [3, 18, 11] (fun (j, n2) => [(58, .d (iv j))]) (fun (j, n2) => [(54, g54, .op (rowS b54 27 ((G.dcells l j).map .d))), (19, g19, .op (mapO (Value.int .i64) okI (fun i : Nat => iv i) b19 n2 (G.last l j)))]) (fun (j, n2) => j ≤ l.length ∧ n2 ≤ j) (fun (j, n2) => l.length - j) ((0, 0)) (⟨Nat.zero_le _, Nat.le_refl _⟩) ⟨Sub.rfl, trivial⟩ ⟨rfl, mapeq rfl (funext fun v => rfl), trivial⟩ ?_
    rintro ⟨j, n2⟩ ⟨hk1, hn2⟩
    refine Aw_seq ?_
    refine Aw_region ?_
    refine Al_pu (Pu_cmp rfl rfl rfl rfl) rfl rfl (by decide) (by kernel_rfl) ?_
    refine Al_nil ?_
    refine Aw_seq ?_
    refine Aw_cond rfl (fun h59 => ?_) (fun h59 => ?_)
    · (try simp only [decide_eq_true_eq, decide_eq_false_iff_not, Bool.and_eq_true, Bool.or_eq_true, Bool.and_eq_false_iff, Bool.or_eq_false_iff, Bool.not_eq_true', Bool.not_eq_false', beq_iff_eq, Bool.not_eq_eq_eq_not, Bool.not_true, Bool.not_false, List.length_map, Bool.and_true, Bool.and_false, Bool.false_and, Bool.true_and, Bool.or_false, Bool.false_or] at h59)
      have hj : j < l.length := by omega
      have hg : l.getD j default = l[j] := by simp [hj]
      have hls := G.last_succ l hj
      have hdl := G.dcells_len l (Nat.le_of_lt hj)
      have hda := A.rowAt (G.dcells_at l hj)
      have hjl : j < ((G.dcells l j).map SV.d).length := by rw [List.length_map, hdl]; exact hj
      have hds := G.dcells_set l hj
      have hwr := G.wr_eq l j
      rw [hg] at hwr
      have hprev : G.prev l j = (match G.last l j l[j].client with | some i => [(i : Int)] | none => []) := by unfold G.prev; rw [hg]
      refine Aw_skip ?_
      -- join 1: live [3, 4, 10, 11, 56, 57, 58], turned []
      refine Aw_seq ?_
      refine Aw_block ?_
      refine Aw_seq ?_
      refine Aw_region ?_
      refine Al_pu (Pu_move (.inl rfl) (by conv => lhs; whnf)) rfl rfl (by decide) (by kernel_rfl) ?_
      refine Al_pu (Pu_index rfl Try.underlying24 Try.sizeOf33 rfl rfl (rfl) (mapget hj)) rfl rfl (by decide) (by kernel_rfl) ?_
      refine Al_pu (Pu_loadN rfl Try.isAgg33 Try.sizeOf33 rfl (Nat.le_of_ble_eq_true rfl)) rfl rfl (by decide) (by kernel_rfl) ?_
      refine Al_alloc rfl rfl rfl (by decide) Try.zeroValue33 rfl (by kernel_rfl) (fun g13 => ?_)
      refine Al_pu (Pu_move (.inr rfl) (by conv => lhs; whnf)) rfl rfl (by decide) (by kernel_rfl) ?_
      refine Al_storeN rfl rfl rfl (by kernel_rfl) Try.isAgg33 Try.sizeOf33 rfl rfl rfl rfl (Nat.le_of_ble_eq_true rfl) ?_
      refine Al_nil ?_
      refine Aw_seq ?_
      refine Aw_region ?_
      refine Al_pu (Pu_fieldb 1 rfl Try.underlying71 rfl rfl Try.sizeOf69 rfl) rfl rfl (by decide) (by kernel_rfl) ?_
      refine Al_pu (Pu_loadb rfl Try.isAgg69 rfl rfl rfl) rfl rfl (by decide) (by kernel_rfl) ?_
      refine Al_pu (Pu_fieldb 1 rfl Try.underlying33 rfl rfl Try.sizeOf3 rfl) rfl rfl (by decide) (by kernel_rfl) ?_
      refine Al_pu (Pu_loadb rfl Try.isAgg3 rfl rfl rfl) rfl rfl (by decide) (by kernel_rfl) ?_
      refine Al_pu (Pu_lookup2 (c := (l[j]'hj).client) (int_key0 Try.underlying3) rfl Try.underlying69 Try.zeroValue3 (fun M w => .v _ (by decide)) rfl rfl rfl (Only.v _) (hokE j hj).2) rfl rfl (by decide) (by kernel_rfl) ?_
      refine Al_pu (Pu_move (.inl rfl) (by conv => lhs; whnf)) rfl rfl (by decide) (by kernel_rfl) ?_
      refine Al_pu (Pu_extract rfl rfl rfl) rfl rfl (by decide) (by kernel_rfl) ?_
      refine Al_pu (Pu_extract rfl rfl rfl) rfl rfl (by decide) (by kernel_rfl) ?_
      refine Al_pu (Pu_move (.inr rfl) (by conv => lhs; whnf)) rfl rfl (by decide) (by kernel_rfl) ?_
      refine Al_pu (Pu_move (.inr rfl) (by conv => lhs; whnf)) rfl rfl (by decide) (by kernel_rfl) ?_
      refine Al_nil ?_
      -- join 2: live [3, 4, 10, 11, 12, 13, 56, 57, 58], turned []
      refine Aw_seq ?_
      refine Aw_seq ?_
      refine Aw_region ?_
      refine Al_pu (Pu_move (.inl rfl) (by conv => lhs; whnf)) rfl rfl (by decide) (by kernel_rfl) ?_
      refine Al_nil ?_
      refine Aw_cond rfl (fun h71 => ?_) (fun h71 => ?_)
      · skip
        obtain ⟨i, hi⟩ := Option.isSome_iff_exists.1 h71
        have hpr : G.prev l j = [(i : Int)] := by rw [hprev, hi]
        rw [hi]
        refine Aw_region ?_
        refine Al_pu (Pu_move (.inl rfl) (by conv => lhs; whnf)) rfl rfl (by decide) (by kernel_rfl) ?_
        refine Al_pu (Pu_move (.inl rfl) (by conv => lhs; whnf)) rfl rfl (by decide) (by kernel_rfl) ?_
        refine Al_pu (Pu_move (.inl rfl) (by conv => lhs; whnf)) rfl rfl (by decide) (by kernel_rfl) ?_
        refine Al_pu (Pu_move (.inl rfl) (by conv => lhs; whnf)) rfl rfl (by decide) (by kernel_rfl) ?_
        refine Al_pu (Pu_indexRow (j := j) rfl Try.underlying56 Try.sizeOf27 rfl rfl rfl rfl hjl) rfl rfl (by decide) (by kernel_rfl) ?_
        refine Al_pu (Pu_loadRow rfl Try.isAgg27 rfl rfl hda) rfl rfl (by decide) (by kernel_rfl) ?_
        refine Al_pu (Pu_move (.inl rfl) (by conv => lhs; whnf)) rfl rfl (by decide) (by kernel_rfl) ?_
        refine Al_pu (Pu_slice1 rfl Try.underlying27 Try.sizeOf3 Try.zeroValue3 rfl (by decide) (by decide) (by kernel_rfl) rfl rfl rfl) rfl rfl (by decide) (by kernel_rfl) ?_
        refine Al_own (j := 77) (k := 140) (T := 3) (n := 1) rfl (fun g140 => ?_)
        refine Al_append rfl rfl rfl (by decide) (by kernel_rfl) elem27 (by decide) Try.sizeOf3 rfl rfl rfl (by simp) (by decide) (fun g80 => ?_)
        refine Al_pu (Pu_indexRow (j := j) rfl Try.underlying56 Try.sizeOf27 rfl rfl rfl rfl hjl) rfl rfl (by decide) (by kernel_rfl) ?_
        refine Al_storeRow rfl rfl rfl (by kernel_rfl) Try.sizeOf27 rfl rfl hjl (by conv => lhs; whnf) rfl ?_
        refine Al_nil ?_
        refine Aw_seq ?_
        refine Aw_region ?_
        refine Al_pu (Pu_fieldb 1 rfl Try.underlying71 rfl rfl Try.sizeOf69 rfl) rfl rfl (by decide) (by kernel_rfl) ?_
        refine Al_pu (Pu_loadb rfl Try.isAgg69 rfl rfl rfl) rfl rfl (by decide) (by kernel_rfl) ?_
        refine Al_pu (Pu_fieldb 1 rfl Try.underlying33 rfl rfl Try.sizeOf3 rfl) rfl rfl (by decide) (by kernel_rfl) ?_
        refine Al_pu (Pu_loadb rfl Try.isAgg3 rfl rfl rfl) rfl rfl (by decide) (by kernel_rfl) ?_
        refine Al_pu (Pu_move (.inl rfl) (by conv => lhs; whnf)) rfl rfl (by decide) (by kernel_rfl) ?_
        refine Al_mapUpdate (c := (l[j]'hj).client) (v := j) (int_key0 Try.underlying3) rfl rfl rfl (by kernel_rfl) Try.underlying69 (by simp only [maxLen]; omega) rfl rfl rfl (Only.v _) (hokE j hj).2 Sub.rfl ?_
        refine Al_nil ?_
        refine Aw_seq ?_
        refine Aw_region ?_
        refine Al_pu (Pu_move (.inl rfl) (by conv => lhs; whnf)) rfl rfl (by decide) (by kernel_rfl) ?_
        refine Al_pu (Pu_fieldb 2 rfl Try.underlying33 rfl rfl Try.sizeOf9 rfl) rfl rfl (by decide) (by kernel_rfl) ?_
        refine Al_pu (Pu_loadb rfl Try.isAgg9 rfl rfl rfl) rfl rfl (by decide) (by kernel_rfl) ?_
        refine Al_pu (Pu_fieldb 3 rfl Try.underlying33 rfl rfl Try.sizeOf30 rfl) rfl rfl (by decide) (by kernel_rfl) ?_
        refine Al_pu (Pu_loadbN (r := [_, _]) rfl Try.isAgg30 Try.sizeOf30 rfl rfl rfl rfl) rfl rfl (by decide) (by kernel_rfl) ?_
        refine Al_pu (Pu_build (aa := [(0, _), (1, _)]) rfl Try.underlying73 Try.zeroValue73 (places73 Try.underlying73) (by kernel_rfl) ⟨rfl, rfl, rfl, rfl, rfl, rfl, trivial⟩ rfl) rfl rfl (by decide) (by kernel_rfl) ?_
        refine Al_pu (Pu_lookup2 (c := G.keyE (l[j]'hj)) ver_key rfl Try.underlying68 Try.zeroValue3 (fun M w => .v _ (by decide)) rfl rfl rfl (Only.row [.string _, .int .i64 _, .int .i64 _]) (hokE j hj).1) rfl rfl (by decide) (by kernel_rfl) ?_
        refine Al_pu (Pu_move (.inl rfl) (by conv => lhs; whnf)) rfl rfl (by decide) (by kernel_rfl) ?_
        refine Al_pu (Pu_extract rfl rfl rfl) rfl rfl (by decide) (by kernel_rfl) ?_
        refine Al_pu (Pu_extract rfl rfl rfl) rfl rfl (by decide) (by kernel_rfl) ?_
        refine Al_pu (Pu_move (.inr rfl) (by conv => lhs; whnf)) rfl rfl (by decide) (by kernel_rfl) ?_
        refine Al_pu (Pu_move (.inr rfl) (by conv => lhs; whnf)) rfl rfl (by decide) (by kernel_rfl) ?_
        refine Al_nil ?_
        -- join 3: live [3, 4, 10, 11, 12, 56, 57, 58], turned []
        refine Aw_seq ?_
        refine Aw_seq ?_
        rw [hwr]
        have hre := G.reads_eq l j
        rw [hg, hpr] at hre
        refine Aw_region ?_
        refine Al_pu (Pu_fieldb 0 rfl Try.underlying33 rfl rfl Try.sizeOf3 rfl) rfl rfl (by decide) (by kernel_rfl) ?_
        refine Al_pu (Pu_loadb rfl Try.isAgg3 rfl rfl rfl) rfl rfl (by decide) (by kernel_rfl) ?_
        refine Al_pu (Pu_cmp rfl rfl rfl rfl) rfl rfl (by decide) (by kernel_rfl) ?_
        refine Al_pu (Pu_move (.inl rfl) (by conv => lhs; whnf)) rfl rfl (by decide) (by kernel_rfl) ?_
        refine Al_st (St_gd [] rfl rfl rfl rfl trivial (fun hg101 => Pu_fieldb 3 rfl Try.underlying33 rfl rfl Try.sizeOf30 rfl)) rfl (by decide) (by kernel_rfl) (by intro j b oj dj h1 h2 h3; cases h1; cases h2; cases h3; decide) ?_
        refine Al_st (St_gd [101] rfl rfl rfl rfl ⟨⟨_, rfl⟩, trivial⟩ (fun hg102 => Pu_loadbN (r := [_, _]) rfl Try.isAgg30 Try.sizeOf30 rfl rfl rfl rfl)) rfl (by decide) (by kernel_rfl) (by intro j b oj dj h1 h2 h3; cases h1; cases h2; cases h3; decide) ?_
        refine Al_st (St_gd [] rfl rfl rfl rfl trivial (fun hg103 => Pu_loadbN (r := [_, _]) rfl Try.isAgg30 Try.sizeOf30 rfl rfl rfl rfl)) rfl (by decide) (by kernel_rfl) (by intro j b oj dj h1 h2 h3; cases h1; cases h2; cases h3; decide) ?_
        refine Al_st (St_gd [102, 103] rfl rfl rfl rfl ⟨⟨_, rfl⟩, ⟨_, rfl⟩, trivial⟩ (fun hg104 => Pu_eqrow [.int .i64 _, .int .i64 _] [.int .i64 _, .int .i64 _] (fun w => nev30 _ _ _ _ _ _ w) rfl rfl rfl)) rfl (by decide) (by kernel_rfl) (by intro j b oj dj h1 h2 h3; cases h1; cases h2; cases h3; decide) ?_
        refine Al_pu (Pu_and rfl rfl rfl rfl) rfl rfl (by decide) (by kernel_rfl) ?_
        refine Al_pu (Pu_move (.inl rfl) (by conv => lhs; whnf)) rfl rfl (by decide) (by kernel_rfl) ?_
        refine Al_st (St_gd [] rfl rfl rfl rfl trivial (fun hg107 => by exact Pu_move (.inl rfl) (by conv => lhs; whnf))) rfl (by decide) (by kernel_rfl) (by intro j b oj dj h1 h2 h3; cases h1; cases h2; cases h3; decide) ?_
        refine Al_pu (Pu_and rfl rfl rfl rfl) rfl rfl (by decide) (by kernel_rfl) ?_
        refine Al_pu (Pu_move (.inl rfl) (by conv => lhs; whnf)) rfl rfl (by decide) (by kernel_rfl) ?_
        refine Al_st (St_gd [] rfl rfl rfl rfl trivial (fun hg110 => by exact Pu_move (.inl rfl) (by conv => lhs; whnf))) rfl (by decide) (by kernel_rfl) (by intro j b oj dj h1 h2 h3; cases h1; cases h2; cases h3; decide) ?_
        refine Al_st (St_gd [] rfl rfl rfl rfl trivial (fun hg111 => by exact Pu_move (.inl rfl) (by conv => lhs; whnf))) rfl (by decide) (by kernel_rfl) (by intro j b oj dj h1 h2 h3; cases h1; cases h2; cases h3; decide) ?_
        refine Al_st (St_gd [110, 111] rfl rfl rfl rfl ⟨⟨_, rfl⟩, ⟨_, rfl⟩, trivial⟩ (fun hg112 => Pu_cmp rfl rfl rfl rfl)) rfl (by decide) (by kernel_rfl) (by intro j b oj dj h1 h2 h3; cases h1; cases h2; cases h3; decide) ?_
        refine Al_pu (Pu_and rfl rfl rfl rfl) rfl rfl (by decide) (by kernel_rfl) ?_
        refine Al_pu (Pu_move (.inl rfl) (by conv => lhs; whnf)) rfl rfl (by decide) (by kernel_rfl) ?_
        refine Al_st (St_gd [] rfl rfl rfl rfl trivial (fun hg115 => by exact Pu_move (.inl rfl) (by conv => lhs; whnf))) rfl (by decide) (by kernel_rfl) (by intro j b oj dj h1 h2 h3; cases h1; cases h2; cases h3; decide) ?_
        refine Al_st (St_gd [] rfl rfl rfl rfl trivial (fun hg116 => by exact Pu_move (.inl rfl) (by conv => lhs; whnf))) rfl (by decide) (by kernel_rfl) (by intro j b oj dj h1 h2 h3; cases h1; cases h2; cases h3; decide) ?_
        refine Al_st (St_gd [115, 116] rfl rfl rfl rfl ⟨⟨_, rfl⟩, ⟨_, rfl⟩, trivial⟩ (fun hg117 => by exact Pu_indexRow (j := j) rfl Try.underlying56 Try.sizeOf27 rfl rfl rfl rfl (by first | exact hjl | (rw [List.length_set]; exact hjl)))) rfl (by decide) (by kernel_rfl) (by intro j b oj dj h1 h2 h3; cases h1; cases h2; cases h3; decide) ?_
        refine Al_st (St_gd [117] rfl rfl rfl rfl ⟨⟨_, rfl⟩, trivial⟩ (fun hg118 => by exact by first | exact Pu_loadRow rfl Try.isAgg27 rfl rfl hda | exact Pu_loadRow rfl Try.isAgg27 rfl rfl (List.getElem?_set_self hjl))) rfl (by decide) (by kernel_rfl) (by intro j b oj dj h1 h2 h3; cases h1; cases h2; cases h3; decide) ?_
        refine Al_st (St_gd [] rfl rfl rfl rfl trivial (fun hg119 => by exact Pu_move (.inl rfl) (by conv => lhs; whnf))) rfl (by decide) (by kernel_rfl) (by intro j b oj dj h1 h2 h3; cases h1; cases h2; cases h3; decide) ?_
        refine Al_st (St_gd [118, 119] rfl rfl rfl rfl ⟨⟨_, rfl⟩, ⟨_, rfl⟩, trivial⟩ (fun hg120 => by exact by first | exact Pu_callR (containsv_a [(i : Int)] (G.wr l j)) rfl rfl ⟨.inr ⟨140, g80, _, _, _, rfl, rfl, rfl⟩, .inl Sub.rfl, trivial⟩ | exact Pu_call (containsv_a [] (G.wr l j)) rfl ⟨Sub.nil, Sub.rfl, trivial⟩)) rfl (by decide) (by kernel_rfl) (by intro j b oj dj h1 h2 h3; cases h1; cases h2; cases h3; decide) ?_
        refine Al_st (St_gd [120] rfl rfl rfl rfl ⟨⟨_, rfl⟩, trivial⟩ (fun hg121 => Pu_not rfl rfl)) rfl (by decide) (by kernel_rfl) (by intro j b oj dj h1 h2 h3; cases h1; cases h2; cases h3; decide) ?_
        refine Al_pu (Pu_and rfl rfl rfl rfl) rfl rfl (by decide) (by kernel_rfl) ?_
        refine Al_nil ?_
        refine Aw_cond rfl (fun h122 => ?_) (fun h122 => ?_)
        · skip
          have hrd : G.reads l j = true := by rw [hre]; exact h122
          have hdj : G.dirs l j = sortI (G.prev l j ++ [G.wr l j]) := by unfold G.dirs; rw [hrd, if_pos rfl]
          rw [hpr] at hdj
          refine Aw_region ?_
          refine Al_pu (Pu_move (.inl rfl) (by conv => lhs; whnf)) rfl rfl (by decide) (by kernel_rfl) ?_
          refine Al_pu (Pu_move (.inl rfl) (by conv => lhs; whnf)) rfl rfl (by decide) (by kernel_rfl) ?_
          refine Al_pu (Pu_move (.inl rfl) (by conv => lhs; whnf)) rfl rfl (by decide) (by kernel_rfl) ?_
          refine Al_pu (Pu_move (.inl rfl) (by conv => lhs; whnf)) rfl rfl (by decide) (by kernel_rfl) ?_
          refine Al_pu (Pu_indexRow (j := j) rfl Try.underlying56 Try.sizeOf27 rfl rfl rfl rfl (by first | exact hjl | (rw [List.length_set]; exact hjl))) rfl rfl (by decide) (by kernel_rfl) ?_
          refine Al_pu (by first | exact Pu_loadRow rfl Try.isAgg27 rfl rfl hda | exact Pu_loadRow rfl Try.isAgg27 rfl rfl (List.getElem?_set_self hjl)) rfl rfl (by decide) (by kernel_rfl) ?_
          refine Al_pu (Pu_move (.inl rfl) (by conv => lhs; whnf)) rfl rfl (by decide) (by kernel_rfl) ?_
          refine Al_pu (Pu_slice1 rfl Try.underlying27 Try.sizeOf3 Try.zeroValue3 rfl (by decide) (by decide) (by kernel_rfl) rfl rfl rfl) rfl rfl (by decide) (by kernel_rfl) ?_
          (try refine Al_own (j := 128) (k := 140) (T := 3) (n := 1) rfl (fun g140 => ?_))
          refine Al_append rfl rfl rfl (by decide) (by kernel_rfl) elem27 (by decide) Try.sizeOf3 rfl rfl rfl (by simp) (by decide) (fun g131 => ?_)
          refine Al_pu (Pu_indexRow (j := j) rfl Try.underlying56 Try.sizeOf27 rfl rfl rfl rfl (by first | exact hjl | (rw [List.length_set]; exact hjl))) rfl rfl (by decide) (by kernel_rfl) ?_
          refine Al_storeRow rfl rfl rfl (by kernel_rfl) Try.sizeOf27 rfl rfl (by first | exact hjl | (rw [List.length_set]; exact hjl)) (by conv => lhs; whnf) rfl ?_
          refine Al_nil ?_
          refine Aw_region ?_
          refine Al_pu (Pu_move (.inl rfl) (by conv => lhs; whnf)) rfl rfl (by decide) (by kernel_rfl) ?_
          refine Al_pu (Pu_move (.inl rfl) (by conv => lhs; whnf)) rfl rfl (by decide) (by kernel_rfl) ?_
          refine Al_pu (Pu_indexRow (j := j) rfl Try.underlying56 Try.sizeOf27 rfl rfl rfl rfl (by first | exact hjl | (rw [List.length_set]; exact hjl) | (rw [List.length_set, List.length_set]; exact hjl))) rfl rfl (by decide) (by kernel_rfl) ?_
          refine Al_pu (by first | exact Pu_loadRow rfl Try.isAgg27 rfl rfl hda | exact Pu_loadRow rfl Try.isAgg27 rfl rfl (List.getElem?_set_self hjl) | exact Pu_loadRow rfl Try.isAgg27 rfl rfl (List.getElem?_set_self (by rw [List.length_set]; exact hjl))) rfl rfl (by decide) (by kernel_rfl) ?_
          (try refine Al_own (j := 136) (k := 140) (T := 3) (n := 1) rfl (fun g140 => ?_))
          first | refine Al_sort (k := 140) (xs := [(i : Int), G.wr l j]) sortI_in (sortI_same _) rfl rfl rfl (by decide) rfl rfl rfl (by simp) ?_ | refine Al_sort (k := 140) (xs := [(i : Int)]) sortI_in (sortI_same _) rfl rfl rfl (by decide) rfl rfl rfl (by simp) ?_ | refine Al_sort (k := 140) (xs := [G.wr l j]) sortI_in (sortI_same _) rfl rfl rfl (by decide) rfl rfl rfl (by simp) ?_ | refine Al_sort (k := 140) (xs := []) sortI_in (sortI_same _) rfl rfl rfl (by decide) rfl rfl rfl (by simp) ?_
          refine Al_nil ?_
          first
          | (refine Aw_frzS (k := 140) (kb := 54) j hnl [] rfl rfl rfl (List.getElem?_set_self (by first | exact hjl | (rw [List.length_set]; exact hjl))) trivial ?_
             refine Aw_rowLe (k := 54) ((G.dcells l (j + 1)).map SV.d) rfl (by rw [← hds, hdj]; simp only [List.set_set, List.map_set]; exact SubL.refl _) ?_)
          | refine Aw_rowLe (k := 54) ((G.dcells l (j + 1)).map SV.d) rfl (G.sub_nil hj (by rw [hdj]; simp [sortI])) ?_
          refine Aw_region ?_
          refine Al_pu (Pu_add rfl rfl rfl (fun h1 h2 => by simp only [A.inI, A.maxI] at *; omega)) rfl rfl (by decide) (by kernel_rfl) ?_
          refine Al_pu (Pu_move (.inl rfl) (by conv => lhs; whnf)) rfl rfl (by decide) (by kernel_rfl) ?_
          refine Al_nil ?_
          exact ⟨(j + 1, n2 + 1), ⟨by omega, by omega⟩, by simp only []; omega, Le.ov ⟨Sub.num (by omega), trivial⟩ ⟨Sub.rfl, Sub.rfl, Sub.rfl, Sub.rfl, Sub.rfl, Sub.rfl, trivial⟩ ⟨rfl, mapeq rfl (funext fun c => by rw [hls c]; simp only [eq_comm]), trivial⟩ ⟨rfl, rfl, rfl, trivial⟩⟩ -- loop 1 next.0
        · skip
          have hrd : G.reads l j = false := by rw [hre]; exact h122
          have hdj : G.dirs l j = sortI (G.prev l j ++ []) := by unfold G.dirs; rw [hrd, if_neg (by decide)]
          rw [hpr] at hdj
          refine Aw_skip ?_
          refine Aw_region ?_
          refine Al_pu (Pu_move (.inl rfl) (by conv => lhs; whnf)) rfl rfl (by decide) (by kernel_rfl) ?_
          refine Al_pu (Pu_move (.inl rfl) (by conv => lhs; whnf)) rfl rfl (by decide) (by kernel_rfl) ?_
          refine Al_pu (Pu_indexRow (j := j) rfl Try.underlying56 Try.sizeOf27 rfl rfl rfl rfl (by first | exact hjl | (rw [List.length_set]; exact hjl) | (rw [List.length_set, List.length_set]; exact hjl))) rfl rfl (by decide) (by kernel_rfl) ?_
          refine Al_pu (by first | exact Pu_loadRow rfl Try.isAgg27 rfl rfl hda | exact Pu_loadRow rfl Try.isAgg27 rfl rfl (List.getElem?_set_self hjl) | exact Pu_loadRow rfl Try.isAgg27 rfl rfl (List.getElem?_set_self (by rw [List.length_set]; exact hjl))) rfl rfl (by decide) (by kernel_rfl) ?_
          (try refine Al_own (j := 136) (k := 140) (T := 3) (n := 1) rfl (fun g140 => ?_))
          first | refine Al_sort (k := 140) (xs := [(i : Int), G.wr l j]) sortI_in (sortI_same _) rfl rfl rfl (by decide) rfl rfl rfl (by simp) ?_ | refine Al_sort (k := 140) (xs := [(i : Int)]) sortI_in (sortI_same _) rfl rfl rfl (by decide) rfl rfl rfl (by simp) ?_ | refine Al_sort (k := 140) (xs := [G.wr l j]) sortI_in (sortI_same _) rfl rfl rfl (by decide) rfl rfl rfl (by simp) ?_ | refine Al_sort (k := 140) (xs := []) sortI_in (sortI_same _) rfl rfl rfl (by decide) rfl rfl rfl (by simp) ?_
          refine Al_nil ?_
          first
          | (refine Aw_frzS (k := 140) (kb := 54) j hnl [] rfl rfl rfl (List.getElem?_set_self (by first | exact hjl | (rw [List.length_set]; exact hjl))) trivial ?_
             refine Aw_rowLe (k := 54) ((G.dcells l (j + 1)).map SV.d) rfl (by rw [← hds, hdj]; simp only [List.set_set, List.map_set]; exact SubL.refl _) ?_)
          | refine Aw_rowLe (k := 54) ((G.dcells l (j + 1)).map SV.d) rfl (G.sub_nil hj (by rw [hdj]; simp [sortI])) ?_
          refine Aw_region ?_
          refine Al_pu (Pu_add rfl rfl rfl (fun h1 h2 => by simp only [A.inI, A.maxI] at *; omega)) rfl rfl (by decide) (by kernel_rfl) ?_
          refine Al_pu (Pu_move (.inl rfl) (by conv => lhs; whnf)) rfl rfl (by decide) (by kernel_rfl) ?_
          refine Al_nil ?_
          exact ⟨(j + 1, n2 + 1), ⟨by omega, by omega⟩, by simp only []; omega, Le.ov ⟨Sub.num (by omega), trivial⟩ ⟨Sub.rfl, Sub.rfl, Sub.rfl, Sub.rfl, Sub.rfl, Sub.rfl, trivial⟩ ⟨rfl, mapeq rfl (funext fun c => by rw [hls c]; simp only [eq_comm]), trivial⟩ ⟨rfl, rfl, rfl, trivial⟩⟩ -- loop 1 next.1
      · skip
        have hi : G.last l j (l[j]'hj).client = none := Option.isNone_iff_eq_none.1 (by rw [← Option.not_isSome, h71]; rfl)
        have hpr : G.prev l j = [] := by rw [hprev, hi]
        rw [hi]
        refine Aw_skip ?_
        refine Aw_seq ?_
        refine Aw_region ?_
        refine Al_pu (Pu_fieldb 1 rfl Try.underlying71 rfl rfl Try.sizeOf69 rfl) rfl rfl (by decide) (by kernel_rfl) ?_
        refine Al_pu (Pu_loadb rfl Try.isAgg69 rfl rfl rfl) rfl rfl (by decide) (by kernel_rfl) ?_
        refine Al_pu (Pu_fieldb 1 rfl Try.underlying33 rfl rfl Try.sizeOf3 rfl) rfl rfl (by decide) (by kernel_rfl) ?_
        refine Al_pu (Pu_loadb rfl Try.isAgg3 rfl rfl rfl) rfl rfl (by decide) (by kernel_rfl) ?_
        refine Al_pu (Pu_move (.inl rfl) (by conv => lhs; whnf)) rfl rfl (by decide) (by kernel_rfl) ?_
        refine Al_mapUpdate (c := (l[j]'hj).client) (v := j) (int_key0 Try.underlying3) rfl rfl rfl (by kernel_rfl) Try.underlying69 (by simp only [maxLen]; omega) rfl rfl rfl (Only.v _) (hokE j hj).2 Sub.rfl ?_
        refine Al_nil ?_
        refine Aw_seq ?_
        refine Aw_region ?_
        refine Al_pu (Pu_move (.inl rfl) (by conv => lhs; whnf)) rfl rfl (by decide) (by kernel_rfl) ?_
        refine Al_pu (Pu_fieldb 2 rfl Try.underlying33 rfl rfl Try.sizeOf9 rfl) rfl rfl (by decide) (by kernel_rfl) ?_
        refine Al_pu (Pu_loadb rfl Try.isAgg9 rfl rfl rfl) rfl rfl (by decide) (by kernel_rfl) ?_
        refine Al_pu (Pu_fieldb 3 rfl Try.underlying33 rfl rfl Try.sizeOf30 rfl) rfl rfl (by decide) (by kernel_rfl) ?_
        refine Al_pu (Pu_loadbN (r := [_, _]) rfl Try.isAgg30 Try.sizeOf30 rfl rfl rfl rfl) rfl rfl (by decide) (by kernel_rfl) ?_
        refine Al_pu (Pu_build (aa := [(0, _), (1, _)]) rfl Try.underlying73 Try.zeroValue73 (places73 Try.underlying73) (by kernel_rfl) ⟨rfl, rfl, rfl, rfl, rfl, rfl, trivial⟩ rfl) rfl rfl (by decide) (by kernel_rfl) ?_
        refine Al_pu (Pu_lookup2 (c := G.keyE (l[j]'hj)) ver_key rfl Try.underlying68 Try.zeroValue3 (fun M w => .v _ (by decide)) rfl rfl rfl (Only.row [.string _, .int .i64 _, .int .i64 _]) (hokE j hj).1) rfl rfl (by decide) (by kernel_rfl) ?_
        refine Al_pu (Pu_move (.inl rfl) (by conv => lhs; whnf)) rfl rfl (by decide) (by kernel_rfl) ?_
        refine Al_pu (Pu_extract rfl rfl rfl) rfl rfl (by decide) (by kernel_rfl) ?_
        refine Al_pu (Pu_extract rfl rfl rfl) rfl rfl (by decide) (by kernel_rfl) ?_
        refine Al_pu (Pu_move (.inr rfl) (by conv => lhs; whnf)) rfl rfl (by decide) (by kernel_rfl) ?_
        refine Al_pu (Pu_move (.inr rfl) (by conv => lhs; whnf)) rfl rfl (by decide) (by kernel_rfl) ?_
        refine Al_nil ?_
        -- join 3: live [3, 4, 10, 11, 12, 56, 57, 58], turned []
        refine Aw_seq ?_
        refine Aw_seq ?_
        rw [hwr]
        have hre := G.reads_eq l j
        rw [hg, hpr] at hre
        refine Aw_region ?_
        refine Al_pu (Pu_fieldb 0 rfl Try.underlying33 rfl rfl Try.sizeOf3 rfl) rfl rfl (by decide) (by kernel_rfl) ?_
        refine Al_pu (Pu_loadb rfl Try.isAgg3 rfl rfl rfl) rfl rfl (by decide) (by kernel_rfl) ?_
        refine Al_pu (Pu_cmp rfl rfl rfl rfl) rfl rfl (by decide) (by kernel_rfl) ?_
        refine Al_pu (Pu_move (.inl rfl) (by conv => lhs; whnf)) rfl rfl (by decide) (by kernel_rfl) ?_
        refine Al_st (St_gd [] rfl rfl rfl rfl trivial (fun hg101 => Pu_fieldb 3 rfl Try.underlying33 rfl rfl Try.sizeOf30 rfl)) rfl (by decide) (by kernel_rfl) (by intro j b oj dj h1 h2 h3; cases h1; cases h2; cases h3; decide) ?_
        refine Al_st (St_gd [101] rfl rfl rfl rfl ⟨⟨_, rfl⟩, trivial⟩ (fun hg102 => Pu_loadbN (r := [_, _]) rfl Try.isAgg30 Try.sizeOf30 rfl rfl rfl rfl)) rfl (by decide) (by kernel_rfl) (by intro j b oj dj h1 h2 h3; cases h1; cases h2; cases h3; decide) ?_
        refine Al_st (St_gd [] rfl rfl rfl rfl trivial (fun hg103 => Pu_loadbN (r := [_, _]) rfl Try.isAgg30 Try.sizeOf30 rfl rfl rfl rfl)) rfl (by decide) (by kernel_rfl) (by intro j b oj dj h1 h2 h3; cases h1; cases h2; cases h3; decide) ?_
        refine Al_st (St_gd [102, 103] rfl rfl rfl rfl ⟨⟨_, rfl⟩, ⟨_, rfl⟩, trivial⟩ (fun hg104 => Pu_eqrow [.int .i64 _, .int .i64 _] [.int .i64 _, .int .i64 _] (fun w => nev30 _ _ _ _ _ _ w) rfl rfl rfl)) rfl (by decide) (by kernel_rfl) (by intro j b oj dj h1 h2 h3; cases h1; cases h2; cases h3; decide) ?_
        refine Al_pu (Pu_and rfl rfl rfl rfl) rfl rfl (by decide) (by kernel_rfl) ?_
        refine Al_pu (Pu_move (.inl rfl) (by conv => lhs; whnf)) rfl rfl (by decide) (by kernel_rfl) ?_
        refine Al_st (St_gd [] rfl rfl rfl rfl trivial (fun hg107 => by exact Pu_move (.inl rfl) (by conv => lhs; whnf))) rfl (by decide) (by kernel_rfl) (by intro j b oj dj h1 h2 h3; cases h1; cases h2; cases h3; decide) ?_
        refine Al_pu (Pu_and rfl rfl rfl rfl) rfl rfl (by decide) (by kernel_rfl) ?_
        refine Al_pu (Pu_move (.inl rfl) (by conv => lhs; whnf)) rfl rfl (by decide) (by kernel_rfl) ?_
        refine Al_st (St_gd [] rfl rfl rfl rfl trivial (fun hg110 => by exact Pu_move (.inl rfl) (by conv => lhs; whnf))) rfl (by decide) (by kernel_rfl) (by intro j b oj dj h1 h2 h3; cases h1; cases h2; cases h3; decide) ?_
        refine Al_st (St_gd [] rfl rfl rfl rfl trivial (fun hg111 => by exact Pu_move (.inl rfl) (by conv => lhs; whnf))) rfl (by decide) (by kernel_rfl) (by intro j b oj dj h1 h2 h3; cases h1; cases h2; cases h3; decide) ?_
        refine Al_st (St_gd [110, 111] rfl rfl rfl rfl ⟨⟨_, rfl⟩, ⟨_, rfl⟩, trivial⟩ (fun hg112 => Pu_cmp rfl rfl rfl rfl)) rfl (by decide) (by kernel_rfl) (by intro j b oj dj h1 h2 h3; cases h1; cases h2; cases h3; decide) ?_
        refine Al_pu (Pu_and rfl rfl rfl rfl) rfl rfl (by decide) (by kernel_rfl) ?_
        refine Al_pu (Pu_move (.inl rfl) (by conv => lhs; whnf)) rfl rfl (by decide) (by kernel_rfl) ?_
        refine Al_st (St_gd [] rfl rfl rfl rfl trivial (fun hg115 => by exact Pu_move (.inl rfl) (by conv => lhs; whnf))) rfl (by decide) (by kernel_rfl) (by intro j b oj dj h1 h2 h3; cases h1; cases h2; cases h3; decide) ?_
        refine Al_st (St_gd [] rfl rfl rfl rfl trivial (fun hg116 => by exact Pu_move (.inl rfl) (by conv => lhs; whnf))) rfl (by decide) (by kernel_rfl) (by intro j b oj dj h1 h2 h3; cases h1; cases h2; cases h3; decide) ?_
        refine Al_st (St_gd [115, 116] rfl rfl rfl rfl ⟨⟨_, rfl⟩, ⟨_, rfl⟩, trivial⟩ (fun hg117 => by exact Pu_indexRow (j := j) rfl Try.underlying56 Try.sizeOf27 rfl rfl rfl rfl (by first | exact hjl | (rw [List.length_set]; exact hjl)))) rfl (by decide) (by kernel_rfl) (by intro j b oj dj h1 h2 h3; cases h1; cases h2; cases h3; decide) ?_
        refine Al_st (St_gd [117] rfl rfl rfl rfl ⟨⟨_, rfl⟩, trivial⟩ (fun hg118 => by exact by first | exact Pu_loadRow rfl Try.isAgg27 rfl rfl hda | exact Pu_loadRow rfl Try.isAgg27 rfl rfl (List.getElem?_set_self hjl))) rfl (by decide) (by kernel_rfl) (by intro j b oj dj h1 h2 h3; cases h1; cases h2; cases h3; decide) ?_
        refine Al_st (St_gd [] rfl rfl rfl rfl trivial (fun hg119 => by exact Pu_move (.inl rfl) (by conv => lhs; whnf))) rfl (by decide) (by kernel_rfl) (by intro j b oj dj h1 h2 h3; cases h1; cases h2; cases h3; decide) ?_
        refine Al_st (St_gd [118, 119] rfl rfl rfl rfl ⟨⟨_, rfl⟩, ⟨_, rfl⟩, trivial⟩ (fun hg120 => by exact by first | exact Pu_callR (containsv_a [(i : Int)] (G.wr l j)) rfl rfl ⟨.inr ⟨140, g80, _, _, _, rfl, rfl, rfl⟩, .inl Sub.rfl, trivial⟩ | exact Pu_call (containsv_a [] (G.wr l j)) rfl ⟨Sub.nil, Sub.rfl, trivial⟩)) rfl (by decide) (by kernel_rfl) (by intro j b oj dj h1 h2 h3; cases h1; cases h2; cases h3; decide) ?_
        refine Al_st (St_gd [120] rfl rfl rfl rfl ⟨⟨_, rfl⟩, trivial⟩ (fun hg121 => Pu_not rfl rfl)) rfl (by decide) (by kernel_rfl) (by intro j b oj dj h1 h2 h3; cases h1; cases h2; cases h3; decide) ?_
        refine Al_pu (Pu_and rfl rfl rfl rfl) rfl rfl (by decide) (by kernel_rfl) ?_
        refine Al_nil ?_
        refine Aw_cond rfl (fun h122 => ?_) (fun h122 => ?_)
        · skip
          have hrd : G.reads l j = true := by rw [hre]; exact h122
          have hdj : G.dirs l j = sortI (G.prev l j ++ [G.wr l j]) := by unfold G.dirs; rw [hrd, if_pos rfl]
          rw [hpr] at hdj
          refine Aw_region ?_
          refine Al_pu (Pu_move (.inl rfl) (by conv => lhs; whnf)) rfl rfl (by decide) (by kernel_rfl) ?_
          refine Al_pu (Pu_move (.inl rfl) (by conv => lhs; whnf)) rfl rfl (by decide) (by kernel_rfl) ?_
          refine Al_pu (Pu_move (.inl rfl) (by conv => lhs; whnf)) rfl rfl (by decide) (by kernel_rfl) ?_
          refine Al_pu (Pu_move (.inl rfl) (by conv => lhs; whnf)) rfl rfl (by decide) (by kernel_rfl) ?_
          refine Al_pu (Pu_indexRow (j := j) rfl Try.underlying56 Try.sizeOf27 rfl rfl rfl rfl (by first | exact hjl | (rw [List.length_set]; exact hjl))) rfl rfl (by decide) (by kernel_rfl) ?_
          refine Al_pu (by first | exact Pu_loadRow rfl Try.isAgg27 rfl rfl hda | exact Pu_loadRow rfl Try.isAgg27 rfl rfl (List.getElem?_set_self hjl)) rfl rfl (by decide) (by kernel_rfl) ?_
          refine Al_pu (Pu_move (.inl rfl) (by conv => lhs; whnf)) rfl rfl (by decide) (by kernel_rfl) ?_
          refine Al_pu (Pu_slice1 rfl Try.underlying27 Try.sizeOf3 Try.zeroValue3 rfl (by decide) (by decide) (by kernel_rfl) rfl rfl rfl) rfl rfl (by decide) (by kernel_rfl) ?_
          (try refine Al_own (j := 128) (k := 140) (T := 3) (n := 1) rfl (fun g140 => ?_))
          refine Al_append rfl rfl rfl (by decide) (by kernel_rfl) elem27 (by decide) Try.sizeOf3 rfl rfl rfl (by simp) (by decide) (fun g131 => ?_)
          refine Al_pu (Pu_indexRow (j := j) rfl Try.underlying56 Try.sizeOf27 rfl rfl rfl rfl (by first | exact hjl | (rw [List.length_set]; exact hjl))) rfl rfl (by decide) (by kernel_rfl) ?_
          refine Al_storeRow rfl rfl rfl (by kernel_rfl) Try.sizeOf27 rfl rfl (by first | exact hjl | (rw [List.length_set]; exact hjl)) (by conv => lhs; whnf) rfl ?_
          refine Al_nil ?_
          refine Aw_region ?_
          refine Al_pu (Pu_move (.inl rfl) (by conv => lhs; whnf)) rfl rfl (by decide) (by kernel_rfl) ?_
          refine Al_pu (Pu_move (.inl rfl) (by conv => lhs; whnf)) rfl rfl (by decide) (by kernel_rfl) ?_
          refine Al_pu (Pu_indexRow (j := j) rfl Try.underlying56 Try.sizeOf27 rfl rfl rfl rfl (by first | exact hjl | (rw [List.length_set]; exact hjl) | (rw [List.length_set, List.length_set]; exact hjl))) rfl rfl (by decide) (by kernel_rfl) ?_
          refine Al_pu (by first | exact Pu_loadRow rfl Try.isAgg27 rfl rfl hda | exact Pu_loadRow rfl Try.isAgg27 rfl rfl (List.getElem?_set_self hjl) | exact Pu_loadRow rfl Try.isAgg27 rfl rfl (List.getElem?_set_self (by rw [List.length_set]; exact hjl))) rfl rfl (by decide) (by kernel_rfl) ?_
          (try refine Al_own (j := 136) (k := 140) (T := 3) (n := 1) rfl (fun g140 => ?_))
          first | refine Al_sort (k := 140) (xs := [(i : Int), G.wr l j]) sortI_in (sortI_same _) rfl rfl rfl (by decide) rfl rfl rfl (by simp) ?_ | refine Al_sort (k := 140) (xs := [(i : Int)]) sortI_in (sortI_same _) rfl rfl rfl (by decide) rfl rfl rfl (by simp) ?_ | refine Al_sort (k := 140) (xs := [G.wr l j]) sortI_in (sortI_same _) rfl rfl rfl (by decide) rfl rfl rfl (by simp) ?_ | refine Al_sort (k := 140) (xs := []) sortI_in (sortI_same _) rfl rfl rfl (by decide) rfl rfl rfl (by simp) ?_
          refine Al_nil ?_
          first
          | (refine Aw_frzS (k := 140) (kb := 54) j hnl [] rfl rfl rfl (List.getElem?_set_self (by first | exact hjl | (rw [List.length_set]; exact hjl))) trivial ?_
             refine Aw_rowLe (k := 54) ((G.dcells l (j + 1)).map SV.d) rfl (by rw [← hds, hdj]; simp only [List.set_set, List.map_set]; exact SubL.refl _) ?_)
          | refine Aw_rowLe (k := 54) ((G.dcells l (j + 1)).map SV.d) rfl (G.sub_nil hj (by rw [hdj]; simp [sortI])) ?_
          refine Aw_region ?_
          refine Al_pu (Pu_add rfl rfl rfl (fun h1 h2 => by simp only [A.inI, A.maxI] at *; omega)) rfl rfl (by decide) (by kernel_rfl) ?_
          refine Al_pu (Pu_move (.inl rfl) (by conv => lhs; whnf)) rfl rfl (by decide) (by kernel_rfl) ?_
          refine Al_nil ?_
          exact ⟨(j + 1, n2 + 1), ⟨by omega, by omega⟩, by simp only []; omega, Le.ov ⟨Sub.num (by omega), trivial⟩ ⟨Sub.rfl, Sub.rfl, Sub.rfl, Sub.rfl, Sub.rfl, Sub.rfl, trivial⟩ ⟨rfl, mapeq rfl (funext fun c => by rw [hls c]; simp only [eq_comm]), trivial⟩ ⟨rfl, rfl, rfl, trivial⟩⟩ -- loop 1 next.2
        · skip
          have hrd : G.reads l j = false := by rw [hre]; exact h122
          have hdj : G.dirs l j = sortI (G.prev l j ++ []) := by unfold G.dirs; rw [hrd, if_neg (by decide)]
          rw [hpr] at hdj
          refine Aw_skip ?_
          refine Aw_region ?_
          refine Al_pu (Pu_move (.inl rfl) (by conv => lhs; whnf)) rfl rfl (by decide) (by kernel_rfl) ?_
          refine Al_pu (Pu_move (.inl rfl) (by conv => lhs; whnf)) rfl rfl (by decide) (by kernel_rfl) ?_
          refine Al_pu (Pu_indexRow (j := j) rfl Try.underlying56 Try.sizeOf27 rfl rfl rfl rfl (by first | exact hjl | (rw [List.length_set]; exact hjl) | (rw [List.length_set, List.length_set]; exact hjl))) rfl rfl (by decide) (by kernel_rfl) ?_
          refine Al_pu (by first | exact Pu_loadRow rfl Try.isAgg27 rfl rfl hda | exact Pu_loadRow rfl Try.isAgg27 rfl rfl (List.getElem?_set_self hjl) | exact Pu_loadRow rfl Try.isAgg27 rfl rfl (List.getElem?_set_self (by rw [List.length_set]; exact hjl))) rfl rfl (by decide) (by kernel_rfl) ?_
          (try refine Al_own (j := 136) (k := 140) (T := 3) (n := 1) rfl (fun g140 => ?_))
          first | refine Al_sort (k := 140) (xs := [(i : Int), G.wr l j]) sortI_in (sortI_same _) rfl rfl rfl (by decide) rfl rfl rfl (by simp) ?_ | refine Al_sort (k := 140) (xs := [(i : Int)]) sortI_in (sortI_same _) rfl rfl rfl (by decide) rfl rfl rfl (by simp) ?_ | refine Al_sort (k := 140) (xs := [G.wr l j]) sortI_in (sortI_same _) rfl rfl rfl (by decide) rfl rfl rfl (by simp) ?_ | refine Al_sort (k := 140) (xs := []) sortI_in (sortI_same _) rfl rfl rfl (by decide) rfl rfl rfl (by simp) ?_
          refine Al_nil ?_
          first
          | (refine Aw_frzS (k := 140) (kb := 54) j hnl [] rfl rfl rfl (List.getElem?_set_self (by first | exact hjl | (rw [List.length_set]; exact hjl))) trivial ?_
             refine Aw_rowLe (k := 54) ((G.dcells l (j + 1)).map SV.d) rfl (by rw [← hds, hdj]; simp only [List.set_set, List.map_set]; exact SubL.refl _) ?_)
          | refine Aw_rowLe (k := 54) ((G.dcells l (j + 1)).map SV.d) rfl (G.sub_nil hj (by rw [hdj]; simp [sortI])) ?_
          refine Aw_region ?_
          refine Al_pu (Pu_add rfl rfl rfl (fun h1 h2 => by simp only [A.inI, A.maxI] at *; omega)) rfl rfl (by decide) (by kernel_rfl) ?_
          refine Al_pu (Pu_move (.inl rfl) (by conv => lhs; whnf)) rfl rfl (by decide) (by kernel_rfl) ?_
          refine Al_nil ?_
          exact ⟨(j + 1, n2 + 1), ⟨by omega, by omega⟩, by simp only []; omega, Le.ov ⟨Sub.num (by omega), trivial⟩ ⟨Sub.rfl, Sub.rfl, Sub.rfl, Sub.rfl, Sub.rfl, Sub.rfl, trivial⟩ ⟨rfl, mapeq rfl (funext fun c => by rw [hls c]; simp only [eq_comm]), trivial⟩ ⟨rfl, rfl, rfl, trivial⟩⟩ -- loop 1 next.3
    · (try simp only [decide_eq_true_eq, decide_eq_false_iff_not, Bool.and_eq_true, Bool.or_eq_true, Bool.and_eq_false_iff, Bool.or_eq_false_iff, Bool.not_eq_true', Bool.not_eq_false', beq_iff_eq, Bool.not_eq_eq_eq_not, Bool.not_true, Bool.not_false, List.length_map, Bool.and_true, Bool.and_false, Bool.false_and, Bool.true_and, Bool.or_false, Bool.false_or] at h59)
      obtain rfl : j = l.length := by omega
      refine Aw_exit ?_
      refine Aw_seq ?_
      refine Aw_region ?_
      refine Al_pu (Pu_move (.inl rfl) (by conv => lhs; whnf)) rfl rfl (by decide) (by kernel_rfl) ?_
      refine Al_pu (Pu_move (.inr rfl) (by conv => lhs; whnf)) rfl rfl (by decide) (by kernel_rfl) ?_
      refine Al_nil ?_
      refine Aw_frzRow hnl (k := 54) [2] rfl ⟨rfl, trivial⟩ ?_
      refine Aw_ret ?_
      exact Sub.d (by simp [G.dcells]) -- ret 0
end Go.Proofs.Ytgoncpjgpkoacaa
