/- Histories made step by step: pasts that cover one another; plain. -/
/- Histories made step by step, of acts: what holds of them; plain. -/
/- Histories made step by step: they are right, and all that is ahead was seen; plain. -/
import Derived.Test.YtgoncpjgpkoacaaGHi
import Derived.Test.YtgoncpjgpkoacaaGLf
set_option linter.unusedSimpArgs false
set_option linter.unusedVariables false
namespace Go.Proofs.Ytgoncpjgpkoacaa
open Go.RowKit A R
namespace D
theorem mem_add {p : List Dep} (hp : Good p) {d x : Dep} (h : x ∈ add p d) : x ∈ p ∨ x = d := by
  cases hok : okB d with
  | false => rw [add_no hok] at h; exact .inl h
  | true =>
    cases hk : hasK p d.key with
    | false =>
      rw [add_new hp.srt hok hk, List.mem_append, List.mem_cons] at h
      rcases h with h | h | h
      · exact .inl (List.mem_of_mem_take h)
      · exact .inr h
      · exact .inl (List.mem_of_mem_drop h)
    | true =>
      rw [add_old hp.srt hok hk] at h
      obtain ⟨hj, _⟩ := pos_at hp.srt hk
      rcases List.mem_or_eq_of_mem_set h with h | h
      · exact .inl h
      · split at h
        · exact .inr h
        · refine .inl ?_
          have : p.getD (pos p d.key) default = p[pos p d.key] := by simp [hj]
          rw [h, this]; exact List.getElem_mem hj
theorem good_uniq {p : List Dep} (hp : Good p) {i j : Nat} (hi : i < p.length) (hj : j < p.length) (h : p[i].key.toList = p[j].key.toList) : i = j := by
  rcases Nat.lt_trichotomy i j with h1 | h1 | h1
  · have := List.pairwise_iff_getElem.1 hp.srt i j hi hj h1
    rw [h, K.bl_irrefl] at this; cases this
  · exact h1
  · have := List.pairwise_iff_getElem.1 hp.srt j i hj hi h1
    rw [h, K.bl_irrefl] at this; cases this
theorem get_mem {p : List Dep} (hp : Good p) {d : Dep} (h : d ∈ p) : get p d.key = (d.n, d.s) := by
  obtain ⟨j, hj, rfl⟩ := List.getElem_of_mem h
  exact get_first hj rfl fun i hi hij e => by have := good_uniq hp hi hj e; omega
theorem get_cases {p : List Dep} (hp : Good p) (k : ByteArray) : (get p k = (0, 0) ∧ ∀ d ∈ p, ¬ d.key.toList = k.toList) ∨ ∃ d ∈ p, d.key.toList = k.toList ∧ get p k = (d.n, d.s) := by
  cases h : hasK p k with
  | false =>
    refine .inl ⟨get_no h, fun d hd e => ?_⟩
    have := List.any_eq_false.1 h d hd
    simp [e] at this
  | true =>
    obtain ⟨d, hd, he⟩ := List.any_eq_true.1 h
    have he : d.key.toList = k.toList := by simpa using he
    refine .inr ⟨d, hd, he, ?_⟩
    rw [← byte_inj he]; exact get_mem hp hd
/-- A past that has no less of any key. -/
def Ge (p q : List Dep) : Prop := ∀ k, lessB (get p k).1 (get p k).2 (get q k).1 (get q k).2 = false
theorem nless_trans {a b c d x y : Int} (h : lessB a b c d = false) (k : lessB c d x y = false) : lessB a b x y = false := by
  cases h1 : lessB a b x y with
  | false => rfl
  | true =>
    rcases G.less_or c d a b with h2 | ⟨h2, h3⟩ | h2
    · rw [G.less_trans h2 h1] at k; cases k
    · rw [h2, h3, h1] at k; cases k
    · rw [h2] at h; cases h
theorem Ge.refl (p : List Dep) : Ge p p := fun k => less_irrefl _ _
theorem Ge.trans {p q r : List Dep} (h : Ge p q) (k : Ge q r) : Ge p r := fun x => nless_trans (h x) (k x)
theorem ge_add {p : List Dep} (hp : Good p) (d : Dep) : Ge (add p d) p := fun k => by
  rw [G.get_add hp d k]
  split
  · rename_i h
    cases h1 : lessB d.n d.s (get p k).1 (get p k).2 with
    | false => rfl
    | true =>
      have := G.less_trans h1 h.2.2
      rw [less_irrefl] at this; cases this
  · exact less_irrefl _ _
theorem add_has {p : List Dep} (hp : Good p) {d : Dep} (h : okB d = true) : lessB (get (add p d) d.key).1 (get (add p d) d.key).2 d.n d.s = false := by
  rw [G.get_add hp d d.key]
  split
  · exact less_irrefl _ _
  · rename_i h1
    cases h2 : lessB (get p d.key).1 (get p d.key).2 d.n d.s with
    | false => rfl
    | true => exact absurd ⟨h, rfl, h2⟩ h1
theorem addAll_good : ∀ (q p : List Dep), Good p → Good (addAll p q) ∧ Ge (addAll p q) p ∧ (∀ d ∈ q, okB d = true → lessB (get (addAll p q) d.key).1 (get (addAll p q) d.key).2 d.n d.s = false) ∧ ∀ x ∈ addAll p q, x ∈ p ∨ x ∈ q
  | [], p, hp => ⟨hp, Ge.refl p, (fun d h => by cases h), fun x h => Or.inl h⟩
  | d :: q, p, hp => by
    obtain ⟨h1, h2, h3, h4⟩ := addAll_good q (add p d) (add_good hp d)
    refine ⟨h1, h2.trans (ge_add hp d), fun x hx hok => ?_, fun x hx => ?_⟩
    · rcases List.mem_cons.1 hx with rfl | hx
      · exact nless_trans (h2 x.key) (add_has hp hok)
      · exact h3 x hx hok
    · rcases h4 x hx with h | h
      · rcases mem_add hp h with h | h
        · exact .inl h
        · exact .inr (by simp [h])
      · exact .inr (by simp [h])
theorem good_ok0 {p : List Dep} (hp : Good p) (k : ByteArray) : lessB (get p k).1 (get p k).2 0 0 = false := by
  rcases get_cases hp k with ⟨h, _⟩ | ⟨d, hd, _, h⟩
  · rw [h]; rfl
  · rw [h]
    have := ok_stamp (hp.ok d hd)
    unfold lessB
    split <;> simp <;> omega
theorem addAll_ge {p q : List Dep} (hp : Good p) (hq : Good q) : Ge (addAll p q) q := fun k => by
  obtain ⟨h1, h2, h3, h4⟩ := addAll_good q p hp
  rcases get_cases hq k with ⟨h, _⟩ | ⟨d, hd, he, h⟩
  · rw [h]; exact good_ok0 h1 k
  · rw [h, ← byte_inj he]; exact h3 d hd (hq.ok d hd)
/-- Two pasts put together. -/
structure MergeI (p q : List Dep) : Prop where
  good : Good (mergeL [p, q])
  left : Good p → Ge (mergeL [p, q]) p
  right : Good q → Ge (mergeL [p, q]) q
  new : ∀ d ∈ q, okB d = true → lessB (get (mergeL [p, q]) d.key).1 (get (mergeL [p, q]) d.key).2 d.n d.s = false
  mem : ∀ x ∈ mergeL [p, q], x ∈ p ∨ x ∈ q
theorem merge_two (p q : List Dep) : mergeL [p, q] = addAll (addAll [] p) q := by
  unfold mergeL
  rw [List.flatten_cons, addAll_app, List.flatten_cons, List.flatten_nil, List.append_nil]
theorem mergeI (p q : List Dep) : MergeI p q := by
  obtain ⟨h1, h2, h3, h4⟩ := addAll_good p [] good_nil
  obtain ⟨k1, k2, k3, k4⟩ := addAll_good q _ h1
  refine ⟨?_, fun hp => ?_, fun hq => ?_, ?_, fun x hx => ?_⟩ <;> rw [merge_two] at *
  · exact k1
  · exact k2.trans (addAll_ge good_nil hp)
  · exact addAll_ge h1 hq
  · exact k3
  · rcases k4 x hx with h | h
    · rcases h4 x h with h | h
      · cases h
      · exact .inl h
    · exact .inr h
theorem covers_ge {p q : List Dep} (hq : Good q) (h : Ge p q) : coversB p q = true := by
  unfold coversB
  rw [List.all_eq_true]
  intro d hd
  have := h d.key
  rw [get_mem hq hd] at this
  simp [this]
/-- Of keys of four there are four at most. -/
def kidx (k : ByteArray) : Nat := G.keys4.findIdx fun x => x.toList == k.toList
theorem kidx_lt : ∀ k ∈ G.keys4, kidx k < 4 := by decide +kernel
theorem kidx_rise : ∀ k ∈ G.keys4, ∀ m ∈ G.keys4, Op.bytesLess k.toList m.toList = true → kidx k < kidx m := by decide +kernel
theorem keys_len {p : List Dep} (hp : Good p) (h : ∀ d ∈ p, d.key ∈ G.keys4) : p.length ≤ 4 := by
  have go : ∀ i, ∀ hi : i < p.length, i ≤ kidx p[i].key := by
    intro i
    induction i with
    | zero => intro _; omega
    | succ i ih =>
      intro hi
      have h1 := ih (by omega)
      have h2 := kidx_rise _ (h _ (List.getElem_mem (show i < p.length by omega))) _ (h _ (List.getElem_mem hi)) (List.pairwise_iff_getElem.1 hp.srt i (i + 1) (by omega) hi (by omega))
      omega
  rcases Nat.lt_or_ge 4 p.length with h1 | h1
  · have h2 := go 4 h1
    have h3 := kidx_lt _ (h _ (List.getElem_mem h1))
    omega
  · exact h1
end D
end Go.Proofs.Ytgoncpjgpkoacaa

set_option linter.unusedSimpArgs false
set_option linter.unusedVariables false
namespace Go.Proofs.Ytgoncpjgpkoacaa
open Go.RowKit A R
namespace G
/-- Is an event a write of a key? -/
def wk (e : List Event) (key : ByteArray) (k : Nat) : Bool := decide ((e.getD k default).kind = 1) && (e.getD k default).key.toList == key.toList
def rdAt (e : List Event) (c : Int) (key : ByteArray) (p : List Dep) : Nat → Event
  | 0 => ⟨2, c, key, 0, 0, p⟩
  | k + 1 => if wk e key k then ⟨2, c, key, (e.getD k default).n, (e.getD k default).s, D.mergeL [p, (e.getD k default).seen]⟩ else rdAt e c key p k
def keyOf (a : Act) : ByteArray := keys4.getD (andI a.key 3).toNat ⟨#[]⟩
def evt (e : List Event) (p : List Dep) (i : Nat) (a : Act) : Event := if a.write then ⟨1, andI a.client 3, keyOf a, 1 + i, andI a.client 3, p⟩ else rdAt e (andI a.client 3) (keyOf a) p e.length
abbrev HS := List Event × List (List Dep)
def hstep (h : HS) (i : Nat) (a : Act) : HS := (h.1 ++ [evt h.1 (h.2.getD (andI a.client 3).toNat []) i a], h.2.set (andI a.client 3).toNat (behindN (h.1 ++ [evt h.1 (h.2.getD (andI a.client 3).toNat []) i a]) h.1.length))
def hist (l : List Act) : Nat → HS
  | 0 => ([], [[], [], [], []])
  | i + 1 => hstep (hist l i) i (l.getD i default)
structure EvI (e : List Event) (j : Nat) (x : Event) : Prop where
  cl : 0 ≤ x.client ∧ x.client < 4
  key : x.key ∈ keys4
  good : D.Good x.seen
  ent : ∀ d ∈ x.seen, ∃ w, w < j ∧ (e.getD w default).kind = 1 ∧ d = depE (e.getD w default)
  cov : D.Ge x.seen (behind e (lastZ e j x.client))
  kw : x.kind = 1 → x.n = 1 + j ∧ x.s = x.client
  kr : x.kind ≠ 1 → x.kind = 2 ∧ ((x.n = 0 ∧ x.s = 0 ∧ ∀ w, w < j → wk e x.key w = false) ∨ ∃ w, w < j ∧ wk e x.key w = true ∧ (∀ v, w < v → v < j → wk e x.key v = false) ∧ x.n = (e.getD w default).n ∧ x.s = (e.getD w default).s ∧ D.Ge x.seen (e.getD w default).seen)
structure HI (h : HS) (i : Nat) : Prop where
  len : h.1.length = i
  small : i ≤ 16
  four : h.2.length = 4
  ev : ∀ j, j < h.1.length → EvI h.1 j (h.1.getD j default)
  sn : ∀ c : Nat, c < 4 → h.2.getD c [] = behind h.1 (lastZ h.1 h.1.length c)
/-! what stands ahead stays -/
theorem getD_app {e : List Event} {x : Event} {j : Nat} (h : j < e.length) : (e ++ [x]).getD j default = e.getD j default := by
  rw [List.getD_eq_getElem?_getD, List.getD_eq_getElem?_getD, List.getElem?_append_left h]
theorem getD_new {e : List Event} {x : Event} : (e ++ [x]).getD e.length default = x := by
  rw [List.getD_eq_getElem?_getD, List.getElem?_append_right (Nat.le_refl _), Nat.sub_self]; rfl
theorem last_app {e : List Event} {x : Event} (c : Int) : ∀ (j : Nat), j ≤ e.length → last (e ++ [x]) j c = last e j c
  | 0, _ => rfl
  | j + 1, h => by
    rw [last, last, List.getElem?_append_left (by omega), last_app c j (by omega)]
theorem lastZ_app {e : List Event} {x : Event} (c : Int) {j : Nat} (h : j ≤ e.length) : lastZ (e ++ [x]) j c = lastZ e j c := by
  unfold lastZ; rw [last_app c j h]
theorem behindN_app {e : List Event} {x : Event} {j : Nat} (h : j < e.length) : behindN (e ++ [x]) j = behindN e j := by
  unfold behindN; rw [getD_app h]
theorem behind_app {e : List Event} {x : Event} {z : Int} (h : z < e.length) : behind (e ++ [x]) z = behind e z := by
  unfold behind
  by_cases h0 : 0 ≤ z
  · rw [if_pos ⟨h0, by simp; omega⟩, if_pos ⟨h0, h⟩, behindN_app (by omega)]
  · rw [if_neg (fun e => h0 e.1), if_neg (fun e => h0 e.1)]
theorem wk_app {e : List Event} {x : Event} {key : ByteArray} {j : Nat} (h : j < e.length) : wk (e ++ [x]) key j = wk e key j := by
  unfold wk; rw [getD_app h]
theorem EvI.app {e : List Event} {y x : Event} {j : Nat} (hj : j ≤ e.length) (h : EvI e j x) : EvI (e ++ [y]) j x where
  cl := h.cl
  key := h.key
  good := h.good
  ent d hd := by
    obtain ⟨w, h1, h2, h3⟩ := h.ent d hd
    exact ⟨w, h1, by rw [getD_app (by omega)]; exact h2, by rw [getD_app (by omega)]; exact h3⟩
  cov := by
    rw [lastZ_app _ hj, behind_app (by have := lastZ_le e (k := j) x.client; omega)]
    exact h.cov
  kw := h.kw
  kr hk := by
    obtain ⟨h1, h2⟩ := h.kr hk
    refine ⟨h1, ?_⟩
    rcases h2 with ⟨h2, h3, h4⟩ | ⟨w, h2, h3, h4, h5, h6, h7⟩
    · exact .inl ⟨h2, h3, fun w hw => by rw [wk_app (by omega)]; exact h4 w hw⟩
    · refine .inr ⟨w, h2, by rw [wk_app (by omega)]; exact h3, fun v hv hvj => by rw [wk_app (by omega)]; exact h4 v hv hvj, ?_⟩
      rw [getD_app (by omega)]
      exact ⟨h5, h6, h7⟩
theorem wk_iff {e : List Event} {key : ByteArray} {k : Nat} : wk e key k = true ↔ (e.getD k default).kind = 1 ∧ (e.getD k default).key = key := by
  unfold wk
  rw [Bool.and_eq_true, decide_eq_true_eq, beq_iff_eq]
  exact ⟨fun h => ⟨h.1, D.byte_inj h.2⟩, fun h => ⟨h.1, by rw [h.2]⟩⟩
section
variable {e : List Event} (hev : ∀ j, j < e.length → EvI e j (e.getD j default))
theorem wr_ok {w : Nat} (hw : w < e.length) (hk : (e.getD w default).kind = 1) (hn : e.length ≤ 16) (hev : ∀ j, j < e.length → EvI e j (e.getD j default)) : D.okB (depE (e.getD w default)) = true := by
  have h := hev w hw
  obtain ⟨h1, h2⟩ := h.kw hk
  have h3 := h.cl
  unfold D.okB depE
  simp only [keys_ok _ h.key, Bool.true_and]
  rw [V.stampB_iff]
  omega
theorem behindN_I (j : Nat) : D.MergeI (e.getD j default).seen [depE (e.getD j default)] := D.mergeI _ _
theorem behindN_good (j : Nat) : D.Good (behindN e j) := (behindN_I j).good
theorem behind_good (z : Int) : D.Good (behind e z) := by
  unfold behind
  split
  · exact behindN_good _
  · exact D.good_nil
include hev in
/-- What is in a past behind an event is a write's. -/
theorem behindN_ent {j : Nat} (hj : j < e.length) : ∀ d ∈ behindN e j, ∃ w, w ≤ j ∧ (e.getD w default).kind = 1 ∧ d = depE (e.getD w default) := fun d hd => by
  have h := hev j hj
  have hI := behindN_I (e := e) j
  rcases hI.mem d hd with h1 | h1
  · obtain ⟨w, h2, h3, h4⟩ := h.ent d h1
    exact ⟨w, by omega, h3, h4⟩
  · rw [List.mem_singleton] at h1
    by_cases hk : (e.getD j default).kind = 1
    · exact ⟨j, Nat.le_refl _, hk, h1⟩
    · obtain ⟨_, h2⟩ := h.kr hk
      rcases h2 with ⟨h2, _, _⟩ | ⟨w, h2, h3, h4, h5, h6, h7⟩
      · have := D.ok_stamp (hI.good.ok d hd)
        rw [h1] at this
        unfold depE at this
        simp only at this
        omega
      · obtain ⟨h8, h9⟩ := wk_iff.1 h3
        exact ⟨w, by omega, h8, by rw [h1]; unfold depE; rw [h5, h6, h9]⟩
theorem behindN_seen {j : Nat} (h : D.Good (e.getD j default).seen) : D.Ge (behindN e j) (e.getD j default).seen := (behindN_I j).left h
include hev in
theorem behind_ent (z : Int) : ∀ d ∈ behind e z, ∃ w : Nat, (w : Int) ≤ z ∧ w < e.length ∧ (e.getD w default).kind = 1 ∧ d = depE (e.getD w default) := fun d hd => by
  by_cases hz : 0 ≤ z ∧ z < e.length
  · obtain ⟨n, rfl⟩ : ∃ n : Nat, z = n := ⟨z.toNat, by omega⟩
    rw [behind_at e (by omega)] at hd
    obtain ⟨w, h1, h2, h3⟩ := behindN_ent hev (by omega) d hd
    exact ⟨w, by omega, by omega, h2, h3⟩
  · rw [behind_no e hz] at hd; cases hd
structure RdI (e : List Event) (c : Int) (ky : ByteArray) (p : List Dep) (k : Nat) (x : Event) : Prop where
  kind : x.kind = 2
  client : x.client = c
  key : x.key = ky
  good : D.Good x.seen
  ge : D.Ge x.seen p
  ent : ∀ d ∈ x.seen, ∃ w, w < e.length ∧ (e.getD w default).kind = 1 ∧ d = depE (e.getD w default)
  st : (x.n = 0 ∧ x.s = 0 ∧ ∀ w, w < k → wk e ky w = false) ∨ ∃ w, w < k ∧ wk e ky w = true ∧ (∀ v, w < v → v < k → wk e ky v = false) ∧ x.n = (e.getD w default).n ∧ x.s = (e.getD w default).s ∧ D.Ge x.seen (e.getD w default).seen
include hev in
theorem rdAt_I {c : Int} {key : ByteArray} {p : List Dep} (hp : D.Good p) (hpe : ∀ d ∈ p, ∃ w, w < e.length ∧ (e.getD w default).kind = 1 ∧ d = depE (e.getD w default)) : ∀ (k : Nat), k ≤ e.length → RdI e c key p k (rdAt e c key p k)
  | 0, _ => ⟨rfl, rfl, rfl, hp, D.Ge.refl p, hpe, .inl ⟨rfl, rfl, fun w h => by omega⟩⟩
  | k + 1, hk => by
    have ih := rdAt_I (c := c) (key := key) hp hpe k (by omega)
    have hek := hev k (by omega)
    rw [rdAt]
    cases hw : wk e key k with
    | true =>
      rw [if_pos rfl]
      have hI := D.mergeI p (e.getD k default).seen
      refine ⟨rfl, rfl, rfl, hI.good, hI.left hp, fun d hd => ?_, .inr ⟨k, by omega, hw, fun v h1 h2 => by omega, rfl, rfl, hI.right hek.good⟩⟩
      rcases hI.mem d hd with h | h
      · exact hpe d h
      · obtain ⟨w, h1, h2, h3⟩ := hek.ent d h
        exact ⟨w, by omega, h2, h3⟩
    | false =>
      rw [if_neg (by simp)]
      refine ⟨ih.kind, ih.client, ih.key, ih.good, ih.ge, ih.ent, ?_⟩
      rcases ih.st with ⟨h1, h2, h3⟩ | ⟨w, h1, h2, h3, h4⟩
      · refine .inl ⟨h1, h2, fun w hw' => ?_⟩
        by_cases e' : w = k
        · rw [e']; exact hw
        · exact h3 w (by omega)
      · refine .inr ⟨w, by omega, h2, fun v hv hvk => ?_, h4⟩
        by_cases e' : v = k
        · rw [e']; exact hw
        · exact h3 v hv (by omega)
end
theorem keyOf_mem (a : Act) : keyOf a ∈ keys4 := by
  have h3 : 0 ≤ andI a.key 3 ∧ andI a.key 3 ≤ 3 := andI_le a.key 3 (by decide)
  unfold keyOf
  rw [List.getD_eq_getElem?_getD, List.getElem?_eq_getElem (show (andI a.key 3).toNat < keys4.length by show _ < 4; omega)]
  exact List.getElem_mem _
theorem evt_client (e : List Event) (p : List Dep) (i : Nat) (a : Act) : (evt e p i a).client = andI a.client 3 := by
  have h : ∀ k, (rdAt e (andI a.client 3) (keyOf a) p k).client = andI a.client 3 := by
    intro k
    induction k with
    | zero => rfl
    | succ k ih => rw [rdAt]; split; rfl; exact ih
  unfold evt
  split
  · rfl
  · exact h _
theorem evt_I {e : List Event} (hev : ∀ j, j < e.length → EvI e j (e.getD j default)) (a : Act) : EvI e e.length (evt e (behind e (lastZ e e.length (andI a.client 3))) e.length a) := by
  have hc : 0 ≤ andI a.client 3 ∧ andI a.client 3 ≤ 3 := andI_le a.client 3 (by decide)
  have hp := behind_good (e := e) (lastZ e e.length (andI a.client 3))
  have hpe : ∀ d ∈ behind e (lastZ e e.length (andI a.client 3)), ∃ w, w < e.length ∧ (e.getD w default).kind = 1 ∧ d = depE (e.getD w default) := fun d hd => by
    obtain ⟨w, _, h1, h2, h3⟩ := behind_ent hev _ d hd
    exact ⟨w, h1, h2, h3⟩
  unfold evt
  split
  · exact { cl := by show 0 ≤ andI a.client 3 ∧ andI a.client 3 < 4; omega
            key := keyOf_mem a
            good := hp
            ent := hpe
            cov := D.Ge.refl _
            kw := fun _ => ⟨rfl, rfl⟩
            kr := fun h => absurd rfl h }
  · have hr := rdAt_I hev (c := andI a.client 3) (key := keyOf a) hp hpe e.length (Nat.le_refl _)
    generalize rdAt e (andI a.client 3) (keyOf a) _ e.length = x at hr
    exact { cl := by rw [hr.client]; omega
            key := by rw [hr.key]; exact keyOf_mem a
            good := hr.good
            ent := hr.ent
            cov := by rw [hr.client]; exact hr.ge
            kw := fun h => by rw [hr.kind] at h; cases h
            kr := fun _ => ⟨hr.kind, by rw [hr.key]; exact hr.st⟩ }
theorem hstep_I {h : HS} {i : Nat} (hI : HI h i) (hi : i < 16) (a : Act) : HI (hstep h i a) (i + 1) := by
  obtain ⟨e, sn⟩ := h
  have hc : 0 ≤ andI a.client 3 ∧ andI a.client 3 ≤ 3 := andI_le a.client 3 (by decide)
  have hlen : e.length = i := hI.len
  have hcn : ((andI a.client 3).toNat : Int) = andI a.client 3 := by omega
  have hsn : sn.getD (andI a.client 3).toNat [] = behind e (lastZ e e.length (andI a.client 3)) := by
    have := hI.sn (andI a.client 3).toNat (by omega)
    rw [hcn] at this; exact this
  have hx := evt_I hI.ev a
  have hxe : evt e (sn.getD (andI a.client 3).toNat []) i a = evt e (behind e (lastZ e e.length (andI a.client 3))) e.length a := by rw [hsn, hlen]
  have hxc := evt_client e (sn.getD (andI a.client 3).toNat []) i a
  have hx : EvI e e.length (evt e (sn.getD (andI a.client 3).toNat []) i a) := by rw [hxe]; exact hx
  unfold hstep
  generalize evt (e, sn).1 ((e, sn).2.getD (andI a.client 3).toNat []) i a = x at hx hxc
  have hx : EvI e e.length x := hx
  have hxc : x.client = andI a.client 3 := hxc
  refine { len := by simp [hlen], small := by omega, four := by rw [List.length_set]; exact hI.four, ev := fun j hj => ?_, sn := fun c hc4 => ?_ }
  · have hj : j < e.length + 1 := by simpa using hj
    show EvI (e ++ [x]) j ((e ++ [x]).getD j default)
    by_cases h1 : j < e.length
    · rw [getD_app h1]
      exact (hI.ev j h1).app (Nat.le_of_lt h1)
    · obtain rfl : j = e.length := by omega
      rw [getD_new]
      exact hx.app (Nat.le_refl _)
  · show (sn.set (andI a.client 3).toNat (behindN (e ++ [x]) e.length)).getD c [] = behind (e ++ [x]) (lastZ (e ++ [x]) (e ++ [x]).length c)
    have hl : (e ++ [x]).length = e.length + 1 := by simp
    rw [hl, lastZ_succ (e ++ [x]) (by rw [hl]; omega), getD_new, hxc, List.getD_eq_getElem?_getD]
    by_cases h1 : (andI a.client 3).toNat = c
    · rw [if_pos (by omega), behind_at _ (by rw [hl]; omega), h1, List.getElem?_set_self (by rw [show sn.length = 4 from hI.four]; exact hc4)]; rfl
    · rw [if_neg (by omega), lastZ_app _ (Nat.le_refl _), behind_app (by have := lastZ_le e (k := e.length) (c : Int); omega), List.getElem?_set_ne h1, ← List.getD_eq_getElem?_getD]
      exact hI.sn c hc4
theorem hist0 (c : Nat) (h : c < 4) : ([[], [], [], []] : List (List Dep)).getD c [] = behind [] (lastZ [] 0 c) := by
  match c, h with
  | 0, _ => rfl
  | 1, _ => rfl
  | 2, _ => rfl
  | 3, _ => rfl
theorem hist_I (l : List Act) : ∀ (i : Nat), i ≤ 16 → HI (hist l i) i
  | 0, _ => ⟨rfl, by omega, rfl, (fun j h => by cases h), (fun c h => hist0 c h)⟩
  | i + 1, h => hstep_I (hist_I l i (by omega)) (by omega) _
end G
end Go.Proofs.Ytgoncpjgpkoacaa

set_option linter.unusedSimpArgs false
set_option linter.unusedVariables false
namespace Go.Proofs.Ytgoncpjgpkoacaa
open Go.RowKit A R
namespace G
theorem wr_less {n m s t : Int} (h : n < m) : D.lessB n s m t = true := by
  unfold D.lessB; rw [if_neg (by omega)]; simpa using h
theorem wr_nless {n m s t : Int} (h : n < m) : D.lessB m t n s = false := by
  unfold D.lessB; rw [if_neg (by omega)]; simp; omega
section
variable {e : List Event} (hn : e.length ≤ 16) (hev : ∀ j, j < e.length → EvI e j (e.getD j default))
include hev in
theorem seen_keys {j : Nat} (hj : j < e.length) : (e.getD j default).seen.length ≤ 4 := by
  have h := hev j hj
  refine D.keys_len h.good fun d hd => ?_
  obtain ⟨w, h1, _, h3⟩ := h.ent d hd
  rw [h3]
  exact (hev w (by omega)).key
include hev in
/-- A read's stamp is no less than those of writes of its key ahead. -/
theorem read_top {i v : Nat} (hi : i < e.length) (hk : (e.getD i default).kind ≠ 1) (hv : v < i) (hvw : wk e (e.getD i default).key v = true) : D.lessB (e.getD i default).n (e.getD i default).s (e.getD v default).n (e.getD v default).s = false := by
  obtain ⟨_, h⟩ := (hev i hi).kr hk
  rcases h with ⟨_, _, h3⟩ | ⟨w, h1, h2, h3, h4, h5, _⟩
  · rw [h3 v hv] at hvw; cases hvw
  · obtain ⟨h6, _⟩ := wk_iff.1 h2
    obtain ⟨h8, _⟩ := wk_iff.1 hvw
    have hw := (hev w (by omega)).kw h6
    have hv' := (hev v (by omega)).kw h8
    rw [h4, h5]
    rcases Nat.lt_trichotomy w v with h | h | h
    · rw [h3 v h hv] at hvw; cases hvw
    · rw [h]; exact D.less_irrefl _ _
    · rw [hw.1, hv'.1]; exact wr_nless (by omega)
theorem read_zero {n s : Int} (h : 0 ≤ n ∧ (n = 0 → 0 ≤ s)) : D.lessB n s 0 0 = false := by
  unfold D.lessB
  split <;> simp <;> omega
include hev in
theorem read_ge0 {i : Nat} (hi : i < e.length) (hk : (e.getD i default).kind ≠ 1) : D.lessB (e.getD i default).n (e.getD i default).s 0 0 = false := by
  obtain ⟨_, h⟩ := (hev i hi).kr hk
  rcases h with ⟨h1, h2, _⟩ | ⟨w, h1, h2, _, h4, h5, _⟩
  · rw [h1, h2]; rfl
  · have hw := (hev w (by omega)).kw (wk_iff.1 h2).1
    rw [h4, h5]
    exact read_zero (by omega)
include hn hev in
theorem right_of {i : Nat} (hi : i < e.length) : RightAt e i := by
  have h := hev i hi
  refine { key := keys_ok _ h.key, seen := h.good, cov := D.covers_ge (behind_good _) h.cov, wr := fun hk => ?_, rd := fun hk => ?_ }
  · obtain ⟨h1, h2⟩ := h.kw hk
    have hc := h.cl
    refine ⟨?_, fun d hd => ?_, ?_⟩
    · rw [V.stampB_iff]; omega
    · obtain ⟨w, h3, h4, h5⟩ := h.ent d hd
      have hw := (hev w (by omega)).kw h4
      rw [h5, h1]
      show D.lessB (e.getD w default).n (e.getD w default).s _ _ = true
      rw [hw.1]
      exact wr_less (by omega)
    · unfold thTo
      rw [List.any_eq_false]
      intro y hy
      obtain ⟨w, hw, rfl⟩ := List.getElem_of_mem hy
      rw [List.length_take] at hw
      have hg : e.getD w default = e[w]'(by omega) := by simp [show w < e.length by omega]
      rw [List.getElem_take, ← hg]
      unfold thB
      simp only [Bool.and_eq_true, decide_eq_true_eq, beq_iff_eq]
      rintro ⟨⟨h3, h4, _⟩, _⟩
      have := (hev w (by omega)).kw h3
      omega
  · obtain ⟨h1, h2⟩ := h.kr hk
    refine ⟨h1, ?_, ?_⟩
    · rcases D.get_cases h.good (e.getD i default).key with ⟨h3, _⟩ | ⟨d, hd, h3, h4⟩
      · rw [h3]; exact read_ge0 hev hi hk
      · rw [h4]
        obtain ⟨w, h5, h6, rfl⟩ := h.ent d hd
        exact read_top hev hi hk h5 (wk_iff.2 ⟨h6, D.byte_inj h3⟩)
    · rcases h2 with ⟨h3, h4, _⟩ | ⟨w, h3, h4, _, h5, h6, _⟩
      · exact .inl ⟨h3, h4⟩
      · refine .inr ?_
        obtain ⟨h7, h8⟩ := wk_iff.1 h4
        unfold thTo
        rw [List.any_eq_true]
        have hg : e.getD w default = e[w]'(by omega) := by simp [show w < e.length by omega]
        refine ⟨e[w]'(by omega), List.mem_take_iff_getElem.2 ⟨w, by omega, rfl⟩, ?_⟩
        rw [← hg]
        unfold thB
        rw [h7, h5, h6, h8]; simp
include hn hev in
/-- Whatever is directly ahead was seen, and all that it had seen. -/
theorem dir_ge {i j : Nat} (hi : i < e.length) (h : j ∈ dirN e i) : D.Ge (behindN e i) (behindN e j) := by
  have hx := hev i hi
  obtain ⟨hji, hb⟩ := dirN_mem.1 h
  have hs := behindN_seen (e := e) (j := i) hx.good
  unfold dirB at hb
  simp only [Bool.or_eq_true, Bool.and_eq_true, decide_eq_true_eq] at hb
  rcases hb with hb | ⟨⟨hk, hz⟩, hf⟩
  · have hc := hx.cov
    have hl : lastZ e i (e.getD i default).client = j := by unfold lastZ; rw [hb]
    rw [hl, behind_at e (by omega)] at hc
    exact hs.trans hc
  · have hk1 : (e.getD i default).kind ≠ 1 := by omega
    obtain ⟨_, h3⟩ := hx.kr hk1
    rcases h3 with ⟨h4, h5, _⟩ | ⟨w, h3, h4, _, h5, h6, h7⟩
    · rw [h4, h5] at hz; simp at hz
    · obtain ⟨h8, h9⟩ := wk_iff.1 h4
      obtain ⟨_, h10, h11⟩ := first_lt hf
      rw [wr_isW] at h11
      have hgj : e.getD j default = e[j] := by simp [h10]
      rw [← hgj] at h11
      unfold wrB at h11
      simp only [Bool.and_eq_true, decide_eq_true_eq, beq_iff_eq] at h11
      have hj1 := (hev j (by omega)).kw h11.1.1
      have hw1 := (hev w (by omega)).kw h8
      obtain rfl : j = w := by
        have := h11.2.1
        omega
      have hI := behindN_I (e := e) i
      have hde : depE (e.getD i default) = depE (e.getD j default) := by unfold depE; rw [h5, h6, h9]
      have hnew : D.lessB (D.get (behindN e i) (depE (e.getD i default)).key).1 (D.get (behindN e i) (depE (e.getD i default)).key).2 (depE (e.getD i default)).n (depE (e.getD i default)).s = false := hI.new (depE (e.getD i default)) (by simp) (by rw [hde]; exact wr_ok (by omega) h8 hn hev)
      intro k
      rcases D.get_cases (behindN_good (e := e) j) k with ⟨h12, _⟩ | ⟨d, hd, h12, h13⟩
      · rw [h12]; exact D.good_ok0 (behindN_good i) k
      · rw [h13]
        rcases (behindN_I (e := e) j).mem d hd with h14 | h14
        · have h15 := (hs.trans h7) d.key
          rw [D.get_mem (hev j (by omega)).good h14] at h15
          rw [← D.byte_inj h12]; exact h15
        · rw [List.mem_singleton] at h14
          rw [hde, ← h14] at hnew
          rw [← D.byte_inj h12]; exact hnew
include hn hev in
theorem ah_ge : ∀ {i j : Nat}, i < e.length → ah e i j = true → D.Ge (behindN e i) (behindN e j) := by
  intro i
  induction i using Nat.strongRecOn with
  | ind i ih =>
    intro j hi h
    obtain ⟨d, h1, h2⟩ := ah_iff.1 h
    have h3 := dir_ge hn hev hi h1
    have := dirN_lt h1
    rcases h2 with rfl | h2
    · exact h3
    · exact h3.trans (ih d this (by omega) h2)
theorem seenTo_ent {js : List Nat} : ∀ (k : Nat), k ≤ js.length → ∀ d ∈ seenTo e js k, ∃ j ∈ js, (e.getD j default).kind = 1 ∧ d = depE (e.getD j default)
  | 0, _, d, h => by cases h
  | k + 1, hk, d, h => by
    rw [seenTo_succ e js (by omega)] at h
    unfold seenS at h
    split at h
    · rename_i hw
      rcases D.mem_add (seenTo_good e js k (by omega)).1 h with h | h
      · exact seenTo_ent k (by omega) d h
      · exact ⟨js[k], List.getElem_mem _, hw, h⟩
    · exact seenTo_ent k (by omega) d h
include hn hev in
theorem covers_seen {i : Nat} (hi : i < e.length) : D.coversB (behind e i) (seen e i) = true := by
  rw [behind_at e hi]
  unfold D.coversB
  rw [List.all_eq_true]
  intro d hd
  obtain ⟨j, hj, h1, rfl⟩ := seenTo_ent _ (Nat.le_refl _) d hd
  have hah := (aheadI_mem hi).1 hj
  have hji := ah_lt hah
  have h2 := ah_ge hn hev hi hah (depE (e.getD j default)).key
  have h3 := (behindN_I (e := e) j).new (depE (e.getD j default)) (by simp) (wr_ok (by omega) h1 hn hev)
  rw [D.nless_trans h2 h3]; rfl
include hev in
theorem fine_of : fine e = -1 := by
  rcases fine_is e with ⟨h, _⟩ | ⟨i, hi, _, hb, _⟩
  · exact h
  · exfalso
    unfold badB at hb
    rw [Bool.and_eq_true, decide_eq_true_eq] at hb
    obtain ⟨hk, hb⟩ := hb
    have hk1 : (e.getD i default).kind ≠ 1 := by omega
    have hx := hev i hi
    obtain ⟨_, h2⟩ := hx.kr hk1
    have hw : writtenB e i = true := by
      unfold writtenB
      rw [Bool.or_eq_true]
      rcases h2 with ⟨h3, h4, _⟩ | ⟨w, h3, h4, _, h5, h6, _⟩
      · left; rw [h3, h4]; rfl
      · right
        obtain ⟨h7, h8⟩ := wk_iff.1 h4
        rw [List.any_eq_true]
        have hg : e.getD w default = e[w]'(by omega) := by simp [show w < e.length by omega]
        refine ⟨e[w]'(by omega), List.mem_take_iff_getElem.2 ⟨w, by omega, rfl⟩, ?_⟩
        rw [← hg]
        unfold wrB
        rw [h7, h5, h6, h8]; simp
    rw [hw, Bool.not_true, Bool.false_or] at hb
    rcases D.get_cases (seen_good e i) (e.getD i default).key with ⟨h3, _⟩ | ⟨d, hd, h3, h4⟩
    · rw [h3, read_ge0 hev hi hk1] at hb; cases hb
    · rw [h4] at hb
      obtain ⟨j, hj, h5, rfl⟩ := seenTo_ent _ (Nat.le_refl _) d hd
      have hji := ah_lt ((aheadI_mem hi).1 hj)
      have := read_top hev hi hk1 hji (wk_iff.2 ⟨h5, D.byte_inj h3⟩)
      unfold depE at hb
      rw [this] at hb; cases hb
end
end G
end Go.Proofs.Ytgoncpjgpkoacaa
