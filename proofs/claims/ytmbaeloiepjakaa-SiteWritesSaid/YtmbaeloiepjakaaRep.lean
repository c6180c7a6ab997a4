/- One walk of a region's operations, each in any world of a class, serves every order in which the region may be run: an invariant. -/
/- What lies in memory, read as plain data: slices of structs, slices of slices; a slice that a call makes and appends to. -/
import Derived.WalkKit
import Derived.WalkSpells
import Derived.WalkLawsBesides
namespace Go.Proofs.Ytmbaeloiepjakaa.Ev
open Go
section
variable (P : Program) (ops : Array Oper) (l1 : List Oper) (C : World → Prop) (E : World → World → Prop)
abbrev Fact := Value → World → Prop
/-- What an operation's run must be, K what is asked of its value and of the world behind it. -/
def upon (P : Program) (K : Value → World → Prop) : Result Next → Prop
  | .ok (.value u) w' => K u w'
  | .ok .skip w' => K undef w'
  | .ok (.enter f args) w' => Calls P f args w' (fun e w'' => ∃ v, e = .returned v ∧ K v w'')
  | _ => False
/-- All the region's slots, laid. -/
def putU : List Oper → Nat → (Nat → Value) → Act → Act
  | [], _, _, a => a
  | o :: r, k, u, a => putU r (k + 1) u (a.put o.dst (u k))
def deps : List Edge → List Nat
  | [] => []
  | e :: r => if Region.binds .any e = true then e.on :: deps r else deps r
theorem mem_deps {i : Nat} : ∀ {l : List Edge}, i ∈ deps l → ∃ e ∈ l, Region.binds .any e = true ∧ e.on = i
  | [], h => by simp [deps] at h
  | e :: r, h => by
    unfold deps at h
    split at h
    · rename_i hb
      rcases List.mem_cons.1 h with rfl | h
      · exact ⟨e, by simp, hb, rfl⟩
      · obtain ⟨e', h1, h2⟩ := mem_deps h
        exact ⟨e', by simp [h1], h2⟩
    · obtain ⟨e', h1, h2⟩ := mem_deps h
      exact ⟨e', by simp [h1], h2⟩
def depsOf (o : Oper) : List Nat := deps o.after.toList
def facts (env : List Fact) (u : Nat → Value) (w : World) : List Nat → Prop
  | [] => True
  | i :: r => (env.getD i (fun _ _ => True)) (u i) w ∧ facts env u w r
def factsFrom (u : Nat → Value) (w : World) : Nat → List Fact → Prop
  | _, [] => True
  | k, A :: r => A (u k) w ∧ factsFrom u w (k + 1) r
theorem factsFrom_of {u : Nat → Value} {w : World} : ∀ (l : List Fact) (k : Nat), (∀ (i : Nat) (A : Fact), l[i]? = some A → A (u (k + i)) w) → factsFrom u w k l
  | [], _, _ => trivial
  | A :: r, k, h => ⟨h 0 A rfl, factsFrom_of r (k + 1) fun i B hi => by have := h (i + 1) B (by simpa using hi); rwa [show k + 1 + i = k + (i + 1) from by omega]⟩
def Stable (A : Fact) : Prop := ∀ v w w', E w w' → A v w → A v w'
def Rule (a0 : Act) (o : Oper) (env : List Fact) (A : Fact) : Prop :=
  ∀ u w, C w → facts env u w (depsOf o) →
    if Region.wanted o (yielded ops (putU l1 0 u a0).tmps) then ∀ K : Value → World → Prop, (∀ v w', E w w' → A v w' → K v w') → upon P K ((execOp (putU l1 0 u a0).eval o).run P w)
    else A undef w
def walk (a0 : Act) (Q : Act → World → Prop) : List Oper → List Fact → Prop
  | [], env => ∀ u w, C w → factsFrom u w 0 env → Q (putU l1 0 u a0) w
  | o :: r, env => ∃ A, Stable E A ∧ Rule P ops l1 C E a0 o env A ∧ walk a0 Q r (env ++ [A])
end
variable {P : Program} {ops : Array Oper} {l1 : List Oper} {C : World → Prop} {E : World → World → Prop}
theorem facts_mem {env : List Fact} {u : Nat → Value} {w : World} : ∀ {l : List Nat}, facts env u w l ↔ ∀ i ∈ l, (env.getD i (fun _ _ => True)) (u i) w
  | [] => by simp [facts]
  | i :: r => by simp [facts, facts_mem (l := r)]
theorem walk_env {a0 : Act} {Q : Act → World → Prop} : ∀ (l : List Oper) (env : List Fact), walk P ops l1 C E a0 Q l env →
    ∃ full : List Fact, full.length = env.length + l.length ∧ full.take env.length = env ∧ (∀ j o, l[j]? = some o → ∃ A, full[env.length + j]? = some A ∧ Stable E A ∧ Rule P ops l1 C E a0 o (full.take (env.length + j)) A) ∧
      (∀ u w, C w → factsFrom u w 0 full → Q (putU l1 0 u a0) w)
  | [], env, h => ⟨env, by simp, by simp, by simp, h⟩
  | o :: r, env, ⟨A, hs, hr, h⟩ => by
    obtain ⟨full, h1, h2, h3, h4⟩ := walk_env r _ h
    rw [List.length_append, List.length_singleton] at h1 h2 h3
    have e0 : full.take env.length = env := by
      have : (full.take (env.length + 1)).take env.length = env := by rw [h2]; simp
      rwa [List.take_take, Nat.min_eq_left (by omega)] at this
    have eA : full[env.length]? = some A := by
      have : (full.take (env.length + 1))[env.length]? = some A := by rw [h2]; simp
      rwa [List.getElem?_take_of_lt (by omega)] at this
    refine ⟨full, by simp only [List.length_cons]; omega, e0, fun j o' hj => ?_, h4⟩
    cases j with
    | zero =>
      simp at hj
      subst hj
      exact ⟨A, eA, hs, by rw [Nat.add_zero, e0]; exact hr⟩
    | succ j =>
      have := h3 j o' (by simpa using hj)
      rwa [show env.length + 1 + j = env.length + (j + 1) from by omega] at this
theorem put_self (a : Act) (d : Option Tmp) : a.put d (match d with | some d => a.tmps.getD d undef | none => undef) = a := by
  cases d with
  | none => rfl
  | some d =>
    simp only [Act.put]
    have : a.tmps.setIfInBounds d (a.tmps.getD d undef) = a.tmps := by
      apply Array.ext (by simp)
      intro i h1 h2
      rw [Array.getElem_setIfInBounds]
      split
      · rename_i e; subst e; simp [Array.getD, h2]
      · rfl
    rw [this]
def u0 (a : Act) (ops : Array Oper) (i : Nat) : Value := match (ops[i]?).bind (·.dst) with | some d => a.tmps.getD d undef | none => undef
theorem putU_self (a : Act) : ∀ (l : List Oper) (k : Nat), (∀ j, l[j]? = ops[k + j]?) → putU l k (u0 a ops) a = a
  | [], _, _ => rfl
  | o :: r, k, h => by
    have h0 : ops[k]? = some o := by simpa using (h 0).symm
    have e : a.put o.dst (u0 a ops k) = a := by
      have := put_self a o.dst
      unfold u0
      rw [h0]
      simpa using this
    rw [putU, e]
    exact putU_self a r (k + 1) (fun j => by have := h (j + 1); simpa [Nat.add_assoc, Nat.add_comm 1 j] using this)
def upd (u : Nat → Value) (j : Nat) (v : Value) (i : Nat) : Value := if i = j then v else u i
theorem put_put_ne (a : Act) {d e : Option Tmp} (h : d = none ∨ e = none ∨ d ≠ e) (x y : Value) : (a.put d x).put e y = (a.put e y).put d x := by
  cases d with
  | none => rfl
  | some d =>
    cases e with
    | none => rfl
    | some e =>
      have hne : d ≠ e := by rcases h with h | h | h; cases h; cases h; exact fun hh => h (by rw [hh])
      simp only [Act.put]
      rw [Array.setIfInBounds_comm _ _ hne]
theorem put_put_same (a : Act) (d : Option Tmp) (x y : Value) : (a.put d x).put d y = a.put d y := by
  cases d with
  | none => rfl
  | some d => simp [Act.put]
def freshD (d : Option Tmp) (l : List Oper) : Bool := match d with | none => true | some d => l.all fun o => o.dst != some d
def distinct : List Oper → Bool
  | [] => true
  | o :: r => freshD o.dst r && distinct r
theorem putU_congr : ∀ (l : List Oper) (k : Nat) (u v : Nat → Value) (a : Act), (∀ i, k ≤ i → u i = v i) → putU l k u a = putU l k v a
  | [], _, _, _, _, _ => rfl
  | o :: r, k, u, v, a, h => by
    rw [putU, putU, h k (Nat.le_refl _)]
    exact putU_congr r (k + 1) u v _ (fun i hi => h i (by omega))
theorem putU_put (d : Option Tmp) (x : Value) : ∀ (l : List Oper) (k : Nat) (u : Nat → Value) (a : Act), freshD d l = true → putU l k u (a.put d x) = (putU l k u a).put d x
  | [], _, _, _, _ => rfl
  | o :: r, k, u, a, h => by
    rw [putU, putU]
    have h1 : d = none ∨ o.dst = none ∨ d ≠ o.dst := by
      cases d with
      | none => exact .inl rfl
      | some d =>
        refine .inr (.inr fun e => ?_)
        simp [freshD, ← e] at h
    have h2 : freshD d r = true := by
      cases d with
      | none => rfl
      | some d => simp [freshD] at h ⊢; exact h.2
    rw [put_put_ne a h1, putU_put d x r (k + 1) u _ h2]
theorem putU_upd (v : Value) : ∀ (l : List Oper) (k : Nat) (u : Nat → Value) (a : Act) (j : Nat) (o : Oper), distinct l = true → l[j]? = some o → (putU l k u a).put o.dst v = putU l k (upd u (k + j) v) a
  | [], _, _, _, _, _, _, h => by simp at h
  | o :: r, k, u, a, 0, o', hd, h => by
    simp at h
    subst h
    simp only [distinct, Bool.and_eq_true] at hd
    rw [putU, putU]
    have e : upd u (k + 0) v k = v := by simp [upd]
    rw [e, ← putU_put o.dst v r (k + 1) u _ hd.1, put_put_same]
    exact putU_congr r (k + 1) _ _ _ (fun i hi => by simp [upd, show i ≠ k by omega])
  | o :: r, k, u, a, j + 1, o', hd, h => by
    simp only [distinct, Bool.and_eq_true] at hd
    rw [putU, putU]
    have e : upd u (k + (j + 1)) v k = u k := by simp [upd]
    rw [e, putU_upd v r (k + 1) u _ j o' hd.2 (by simpa using h), show k + 1 + j = k + (j + 1) from by omega]
def backB (ops : Array Oper) : Bool := (List.range ops.size).all fun j => match ops[j]? with | some o => o.after.all (fun e => !Region.binds .any e || decide (e.on < j)) | none => true
def okB (ops : Array Oper) : Bool := distinct ops.toList && backB ops
theorem ready_of_least {listed : Array Bool} (hb : backB ops = true) (hs : listed.size = ops.size) {j : Nat} (hj : j < ops.size) (hu : listed[j]? = some false) (hl : ∀ i, i < j → listed[i]? = some true) : j ∈ Region.ready .any ops listed := by
  unfold backB at hb
  have := List.all_eq_true.1 hb j (List.mem_range.2 hj)
  rw [mem_ready]
  have ho : ops[j]? = some ops[j] := by simp [hj]
  rw [ho] at this
  refine ⟨by simp [Array.getD, hs, hj] at hu ⊢; exact hu, ops[j], ho, fun e he hbe => ?_⟩
  have h1 := Array.all_eq_true_iff_forall_mem.1 this e he
  rw [hbe] at h1
  simp at h1
  have h2 := hl _ h1
  simp [h2]
/-! ### a region of which the last operations are run one behind the other -/
/-- what an operation waits for, directly or not -/
def anc (ops : Array Oper) : Nat → List Nat → List Nat
  | 0, l => l
  | i + 1, l => anc ops i (if l.contains i then l ++ (match ops[i]? with | some o => depsOf o | none => []) else l)
def tailB (ops : Array Oper) (k : Nat) : Bool := (List.range ops.size).all fun j => decide (j < k) || (List.range j).all fun i => (anc ops j (match ops[j]? with | some o => depsOf o | none => [])).contains i
/-- Lists that hold with each what it waits for. -/
def Closed (ops : Array Oper) (listed : Array Bool) : Prop := ∀ (i : Nat) (o : Oper), listed[i]? = some true → ops[i]? = some o → ∀ d ∈ depsOf o, listed[d]? = some true
theorem anc_listed {ops : Array Oper} {listed : Array Bool} (hc : Closed ops listed) : ∀ (f : Nat) (l : List Nat), (∀ i ∈ l, listed[i]? = some true) → ∀ i ∈ anc ops f l, listed[i]? = some true
  | 0, l, h, i, hi => h i hi
  | f + 1, l, h, i, hi => anc_listed hc f _ (fun j hj => by
      split at hj
      · rename_i hf
        rcases List.mem_append.1 hj with hj | hj
        · exact h j hj
        · cases ho : ops[f]? with
          | none => rw [ho] at hj; cases hj
          | some o => rw [ho] at hj; exact hc f o (h f (by simpa using hf)) ho j hj
      · exact h j hj) i hi
theorem deps_mem {e : Edge} : ∀ {l : List Edge}, e ∈ l → Region.binds .any e = true → e.on ∈ deps l
  | [], h, _ => by cases h
  | x :: r, h, hb => by
    unfold deps
    rcases List.mem_cons.1 h with rfl | h
    · rw [if_pos hb]; exact List.mem_cons_self
    · split
      · exact List.mem_cons_of_mem _ (deps_mem h hb)
      · exact deps_mem h hb
theorem deps_listed {listed : Array Bool} {o : Oper} (hr : ∀ e ∈ o.after, Region.binds .any e = true → listed.getD e.on false = true) :
    ∀ d ∈ depsOf o, listed[d]? = some true := fun d hd => by
  obtain ⟨e, he, hb, rfl⟩ := mem_deps hd
  have := hr e (by simpa using he) hb
  rw [Array.getD] at this
  split at this
  · rename_i hlt; simp [hlt]; exact this
  · cases this
theorem ready_all {ops : Array Oper} {listed : Array Bool} {k j : Nat} (ht : tailB ops k = true) (hc : Closed ops listed) (hj : j ∈ Region.ready .any ops listed) (hk : k ≤ j) : ∀ i, i < j → listed[i]? = some true := by
  obtain ⟨_, o, ho, hall⟩ := mem_ready.1 hj
  have hlt : j < ops.size := (Array.getElem?_eq_some_iff.1 ho).1
  have h1 := List.all_eq_true.1 ht j (List.mem_range.2 hlt)
  rw [ho] at h1
  simp only [Bool.or_eq_true, decide_eq_true_eq, List.all_eq_true] at h1
  intro i hi
  have h2 := (h1.resolve_left (by omega)) i (List.mem_range.2 hi)
  exact anc_listed hc j _ (deps_listed hall) i (by simpa using h2)
/-- Where all up to k is done, the rest runs in its order. -/
theorem seq_any {Q : Exit → Act → World → Prop} {k0 : Nat} (hb : backB ops = true) (ht : tailB ops k0 = true) : ∀ (n fuel k : Nat) (listed : Array Bool) (a : Act) (w : World), ops.size = k + n → n ≤ fuel → k0 ≤ k → listed.size = ops.size →
    (∀ i, i < k → listed[i]? = some true) → (∀ i, k ≤ i → i < ops.size → listed[i]? = some false) → Closed ops listed → wpOps P ops Q (List.range' k n) a w → wpAny P .any ops Q fuel listed a w := by
  intro n
  induction n with
  | zero =>
    intro fuel k listed a w hsz _ _ hs hl hu _ h
    have h0 : Region.ready .any ops listed = [] := by
      cases hrd : Region.ready .any ops listed with
      | nil => rfl
      | cons x xs =>
        have hx : x ∈ Region.ready .any ops listed := by rw [hrd]; simp
        obtain ⟨h1, o, ho, _⟩ := mem_ready.1 hx
        have hlt : x < ops.size := (Array.getElem?_eq_some_iff.1 ho).1
        have := hl x (by omega)
        simp [Array.getD, hs, hlt] at h1 this
        rw [this] at h1; cases h1
    cases fuel with
    | zero => exact ⟨h0, h⟩
    | succ f => exact ⟨fun _ => h, fun i hi => by rw [h0] at hi; cases hi⟩
  | succ n ih =>
    intro fuel k listed a w hsz hf hk hs hl hu hc h
    cases fuel with
    | zero => omega
    | succ f =>
      have hkl : k < ops.size := by omega
      have hrk := ready_of_least hb hs hkl (hu k (Nat.le_refl _) hkl) hl
      refine ⟨fun h0 => by rw [h0] at hrk; (cases hrk), fun i hi => ?_⟩
      have hik : i = k := by
        obtain ⟨h1, o, ho, _⟩ := mem_ready.1 hi
        have hlt : i < ops.size := (Array.getElem?_eq_some_iff.1 ho).1
        rcases Nat.lt_trichotomy i k with hh | hh | hh
        · have := hl i hh
          simp [Array.getD, hs, hlt] at h1 this
          rw [this] at h1; cases h1
        · exact hh
        · have := ready_all ht hc hi (by omega) k hh
          rw [hu k (Nat.le_refl _) hkl] at this; cases this
      subst hik
      rw [List.range'_succ, wpOps_cons] at h
      refine wpOp_mono (fun a' w' h' => ?_) h
      refine ih f (i + 1) _ a' w' (by omega) (by omega) (by omega) (by simpa using hs) (fun x hx => ?_) (fun x hx hx2 => ?_) ?_ h'
      · rw [Array.getElem?_setIfInBounds]
        split
        · rename_i e; subst e; simp [hs, hkl]
        · exact hl x (by omega)
      · rw [Array.getElem?_setIfInBounds, if_neg (by omega)]
        exact hu x (by omega) hx2
      · intro x o hx hox d hd
        obtain ⟨_, o', ho', hall⟩ := mem_ready.1 hi
        have hset : ∀ y, listed[y]? = some true → (listed.setIfInBounds i true)[y]? = some true := fun y hy => by
          rw [Array.getElem?_setIfInBounds]
          split
          · rename_i e; subst e; simp [hs, hkl]
          · exact hy
        rw [Array.getElem?_setIfInBounds] at hx
        by_cases e : i = x
        · subst e
          rw [ho'] at hox
          cases hox
          exact hset d (deps_listed hall d hd)
        · rw [if_neg e] at hx
          exact hset d (hc x o hx hox d hd)
theorem wp_any_tail {a0 : Act} {Q : Exit → Act → World → Prop} {l2 : List Oper} (hops : ops.toList = l1 ++ l2) (hd : distinct l1 = true) (hb : backB ops = true) (ht : tailB ops l1.length = true) (full : List Fact) (hlen : full.length = l1.length)
    (hE : ∀ w, E w w) (hC : ∀ w w', E w w' → C w → C w')
    (hr : ∀ j o, l1[j]? = some o → ∃ A, full[j]? = some A ∧ Stable E A ∧ Rule P ops l1 C E a0 o (full.take j) A)
    (hQ : ∀ u w, C w → factsFrom u w 0 full → wpList P ops Q l2 (putU l1 0 u a0) w) :
    ∀ (fuel : Nat) (listed : Array Bool) (u : Nat → Value) (w : World), listed.size = ops.size → C w → (∀ (i : Nat), listed[i]? = some true → (full.getD i (fun _ _ => True)) (u i) w) → Closed ops listed →
      (∀ (i : Nat), l1.length ≤ i → i < ops.size → listed[i]? = some false) → listed.count false ≤ fuel → wpAny P .any ops Q fuel listed (putU l1 0 u a0) w := by
  have hsz : ops.size = l1.length + l2.length := by have := congrArg List.length hops; simpa using this
  have hget : ∀ (j : Nat), j < l1.length → ops[j]? = l1[j]? := fun j hj => by
    have : ops.toList[j]? = (l1 ++ l2)[j]? := by rw [hops]
    rw [List.getElem?_append_left hj] at this
    simpa using this
  have fin : ∀ (fuel : Nat) (listed : Array Bool) (u : Nat → Value) (w : World), listed.size = ops.size → C w → (∀ (i : Nat), listed[i]? = some true → (full.getD i (fun _ _ => True)) (u i) w) → Closed ops listed →
      (∀ (i : Nat), l1.length ≤ i → i < ops.size → listed[i]? = some false) → l2.length ≤ fuel → (∀ (i : Nat), i < l1.length → listed[i]? = some true) → wpAny P .any ops Q fuel listed (putU l1 0 u a0) w := fun fuel listed u w hs hc hf hcl hun hfu hall => by
    refine seq_any hb ht l2.length fuel l1.length listed _ w hsz hfu (Nat.le_refl _) hs hall hun hcl ?_
    have h1 := wpOps_eq_wpList (P := P) (ops := ops) (Q := Q) l2 l1.length (fun j => by
      have : ops.toList[l1.length + j]? = (l1 ++ l2)[l1.length + j]? := by rw [hops]
      rw [List.getElem?_append_right (by omega), Nat.add_sub_cancel_left] at this
      simpa using this.symm)
    rw [h1]
    exact hQ u w hc (factsFrom_of full 0 fun i A hi => by
      have hlt : i < l1.length := by rw [← hlen]; exact (List.getElem?_eq_some_iff.1 hi).1
      have := hf i (hall i hlt)
      rw [List.getD_eq_getElem?_getD, hi] at this
      simpa using this)
  have cnt2 : ∀ (listed : Array Bool), listed.size = ops.size → (∀ (i : Nat), l1.length ≤ i → i < ops.size → listed[i]? = some false) → l2.length ≤ listed.count false := fun listed hs hun => by
    have e : listed.toList = listed.toList.take l1.length ++ List.replicate l2.length false := by
      apply List.ext_getElem?
      intro i
      rcases Nat.lt_or_ge i l1.length with h | h
      · rw [List.getElem?_append_left (by simp; omega), List.getElem?_take_of_lt h]
      · rw [List.getElem?_append_right (by simp; omega)]
        rcases Nat.lt_or_ge i ops.size with h2 | h2
        · have := hun i h h2
          have e1 : listed.toList[i]? = some false := by simpa using this
          rw [e1, List.getElem?_replicate, if_pos (by simp; omega)]
        · rw [List.getElem?_eq_none (by simp; omega), List.getElem?_eq_none (by simp; omega)]
    have : listed.count false = listed.toList.count false := by rw [Array.count_toList]
    rw [this, e, List.count_append]
    simp
  intro fuel
  induction fuel with
  | zero =>
    intro listed u w hs hc hf hcl hun hn
    have h2 := cnt2 listed hs hun
    refine fin 0 listed u w hs hc hf hcl hun (by omega) (fun i hi => ?_)
    cases hl : listed[i]? with
    | none => rw [Array.getElem?_eq_none_iff] at hl; omega
    | some b =>
      cases b with
      | true => rfl
      | false =>
        have : false ∈ listed := Array.mem_of_getElem? hl
        have := Array.count_pos_iff.2 this
        omega
  | succ fuel ih =>
    intro listed u w hs hc hf hcl hun hn
    by_cases hall : ∀ (i : Nat), i < l1.length → listed[i]? = some true
    · exact fin (fuel + 1) listed u w hs hc hf hcl hun (Nat.le_trans (cnt2 listed hs hun) hn) hall
    refine ⟨fun h0 => ?_, fun j hj => ?_⟩
    · exfalso
      apply hall
      intro i
      induction i using Nat.strongRecOn with
      | _ i ih' =>
        intro hi
        cases hl : listed[i]? with
        | none => rw [Array.getElem?_eq_none_iff] at hl; omega
        | some b =>
          cases b with
          | true => rfl
          | false =>
            have := ready_of_least hb hs (by omega) hl (fun k hk => ih' k hk (by omega))
            rw [h0] at this
            cases this
    obtain ⟨hju, o, ho, hdone⟩ := mem_ready.1 hj
    have hjo : j < ops.size := (Array.getElem?_eq_some_iff.1 ho).1
    have hlt : j < listed.size := by omega
    have hjl : listed[j]? = some false := by simp [Array.getD, hlt] at hju; simp [hlt, hju]
    have hj1 : j < l1.length := by
      rcases Nat.lt_or_ge j l1.length with h | h
      · exact h
      · exact (hall fun i hi => ready_all ht hcl hj h i (by omega)).elim
    rw [hget j hj1] at ho
    obtain ⟨A, hA, hst, hrule⟩ := hr j o ho
    have hdl : ∀ d ∈ depsOf o, listed[d]? = some true := deps_listed hdone
    have hlt2 : ∀ d ∈ depsOf o, d < j := fun d hd => by
      obtain ⟨e, he, hbe, rfl⟩ := mem_deps hd
      have h1 := List.all_eq_true.1 hb j (List.mem_range.2 hjo)
      rw [hget j hj1, ho] at h1
      have h2 := Array.all_eq_true_iff_forall_mem.1 h1 e (by simpa using he)
      rw [hbe] at h2
      simpa using h2
    have hdeps : facts (full.take j) u w (depsOf o) := by
      rw [facts_mem]
      intro d hd
      have hf' := hf d (hdl d hd)
      simp only [List.getD_eq_getElem?_getD, List.getElem?_take_of_lt (hlt2 d hd)] at hf' ⊢
      exact hf'
    have hgo := hrule u w hc hdeps
    have step : ∀ v w', E w w' → A v w' → wpAny P .any ops Q fuel (listed.setIfInBounds j true) ((putU l1 0 u a0).put o.dst v) w' := by
      intro v w' hE' hAv
      rw [putU_upd v l1 0 u a0 j o hd ho, Nat.zero_add]
      have hold : ∀ (i : Nat), i ≠ j → (listed.setIfInBounds j true)[i]? = listed[i]? := fun i hij => by
        rw [Array.getElem?_setIfInBounds, if_neg (Ne.symm hij)]
      refine ih _ _ _ (by simpa using hs) (hC _ _ hE' hc) (fun i hi => ?_) (fun i o' hi ho' d hd' => ?_) (fun i hi hi2 => ?_) ?_
      · by_cases hij : i = j
        · subst hij
          have : upd u i v i = v := by simp [upd]
          rw [this, List.getD_eq_getElem?_getD, hA]
          exact hAv
        · have h1 : upd u j v i = u i := by simp [upd, hij]
          have h2 : listed[i]? = some true := by rw [← hold i hij]; exact hi
          rw [h1]
          have hold' := hf i h2
          have hi' : i < l1.length := by
            rcases Nat.lt_or_ge i l1.length with h | h
            · exact h
            · have hi3 : i < ops.size := by rw [← hs]; exact (Array.getElem?_eq_some_iff.1 h2).1
              have := hun i h hi3
              rw [h2] at this; cases this
          obtain ⟨B, hB, hBs, _⟩ := hr i _ (List.getElem?_eq_getElem hi')
          rw [List.getD_eq_getElem?_getD, hB] at hold' ⊢
          exact hBs _ _ _ hE' hold'
      · have keep : ∀ (y : Nat), listed[y]? = some true → (listed.setIfInBounds j true)[y]? = some true := fun y hy => by
          by_cases e : y = j
          · subst e; simp [hlt]
          · rw [hold y e]; exact hy
        by_cases hij : i = j
        · subst hij
          rw [hget i hj1, ho] at ho'
          cases ho'
          exact keep d (hdl d hd')
        · rw [hold i hij] at hi
          exact keep d (hcl i o' hi ho' d hd')
      · rw [hold i (by omega)]
        exact hun i hi hi2
      · have hcnt : (listed.setIfInBounds j true).count false + 1 = listed.count false := by
          have := Array.count_set (xs := listed) (i := j) (a := true) (b := false) hlt
          rw [Array.setIfInBounds, dif_pos hlt]
          have h3 : listed[j] = false := by simpa [hlt] using hjl
          have h4 : 0 < listed.count false := Array.count_pos_iff.2 (Array.mem_iff_getElem.2 ⟨j, hlt, h3⟩)
          rw [this]
          simp [h3]
          omega
        omega
    unfold wpOp
    rw [hget j hj1]
    simp only [ho]
    split
    · rename_i hw
      rw [if_pos hw] at hgo
      refine .inl ?_
      have h2 := hgo (fun v w' => wpAny P .any ops Q fuel (listed.setIfInBounds j true) ((putU l1 0 u a0).put o.dst v) w') step
      unfold Oper.wp
      generalize (execOp (putU l1 0 u a0).eval o).run P w = r at *
      cases r with
      | ok n w' =>
        cases n <;> simp only [upon] at h2 <;> simp only [Oper.upon]
        case value => exact h2
        case skip => exact h2
        case enter f args => exact h2.mono fun e w'' ⟨v, he, hk⟩ => by subst he; exact hk
      | halt x w' => simp only [upon] at h2
    · rename_i hw
      rw [if_neg hw] at hgo
      exact step undef w (hE w) hgo
/-- A region that draws its order: the operations of l1, each walked once; behind them those of l2, one behind the other. -/
theorem wp_region_tail {id : Nat} {Q : Exit → Act → World → Prop} {a : Act} {w : World} {l : List Oper} (C : World → Prop) (E : World → World → Prop) (n : Nat) (hm : P.follows .mixedOrders = true) (hok : (distinct (l.take n) && backB l.toArray && tailB l.toArray (l.take n).length) = true)
    (hE : ∀ w, E w w) (hC : ∀ w w', E w w' → C w → C w') (h0 : C { w with drawn := w.drawn + 1 })
    (h : walk P l.toArray (l.take n) C E a (fun a' w' => wpList P l.toArray Q (l.drop n) a' w') (l.take n) []) : (Code.region id l.toArray true).wp P Q a w := by
  simp only [Bool.and_eq_true] at hok
  obtain ⟨⟨hd, hb⟩, ht⟩ := hok
  obtain ⟨full, h1, _, h3, h4⟩ := walk_env (l.take n) [] h
  simp only [List.length_nil, Nat.zero_add] at h1 h3
  refine wp_region_any hm ?_
  have hself : putU (l.take n) 0 (u0 a (l.take n).toArray) a = a := putU_self a (l.take n) 0 (fun j => by simp)
  have := wp_any_tail (P := P) (ops := l.toArray) (l1 := l.take n) (C := C) (E := E) (a0 := a) (Q := Q) (l2 := l.drop n) (by simp) hd hb ht full (by simpa using h1) hE hC (fun j o hj => h3 j o hj) h4
    l.toArray.size (Array.replicate l.toArray.size false) (u0 a (l.take n).toArray) _ (by simp) h0
    (fun i hi => by rw [Array.getElem?_replicate] at hi; split at hi <;> cases hi) (fun i o hi => by rw [Array.getElem?_replicate] at hi; split at hi <;> cases hi)
    (fun i _ hi => by rw [Array.getElem?_replicate, if_pos (by simpa using hi)]) (by simp)
  rwa [hself] at this
/-- A region that draws its order: each of its operations, walked once. -/
theorem wp_region {id : Nat} {Q : Exit → Act → World → Prop} {a : Act} {w : World} {l : List Oper} (C : World → Prop) (E : World → World → Prop) (hm : P.follows .mixedOrders = true) (hok : okB l.toArray = true)
    (hE : ∀ w, E w w) (hC : ∀ w w', E w w' → C w → C w') (h0 : C { w with drawn := w.drawn + 1 })
    (h : walk P l.toArray l C E a (fun a' w' => Q .normal a' w') l []) : (Code.region id l.toArray true).wp P Q a w := by
  simp only [okB, Bool.and_eq_true] at hok
  refine wp_region_tail C E l.length hm ?_ hE hC h0 (by rw [List.take_length, List.drop_length]; exact h)
  rw [List.take_length]
  simp only [Bool.and_eq_true]
  refine ⟨⟨hok.1, hok.2⟩, ?_⟩
  unfold tailB
  rw [List.all_eq_true]
  intro j hj
  have : j < l.length := by simpa using hj
  simp [this]
/-- One operation that yields the one value 'c'. -/
theorem walk_eq {ops : Array Oper} {l1 : List Oper} {C : World → Prop} {E : World → World → Prop} {a0 : Act} {Q : Act → World → Prop} {o : Oper} {r : List Oper} {env : List Fact} (c : Value)
    (h : ∀ u w, C w → facts env u w (depsOf o) →
      if Region.wanted o (yielded ops (putU l1 0 u a0).tmps) then ∀ K : Value → World → Prop, (∀ w', E w w' → K c w') → upon P K ((execOp (putU l1 0 u a0).eval o).run P w)
      else c = undef)
    (hr : walk P ops l1 C E a0 Q r (env ++ [fun v _ => v = c])) : walk P ops l1 C E a0 Q (o :: r) env :=
  ⟨_, fun _ _ _ _ h => h, fun u w hc hf => by
    have := h u w hc hf
    split
    · rename_i hw
      rw [if_pos hw] at this
      exact fun K hK => this K (fun w' he => hK c w' he rfl)
    · rename_i hw
      rw [if_neg hw] at this
      exact this.symm, hr⟩
/-- One operation of which a fact is known. -/
theorem walk_rel {ops : Array Oper} {l1 : List Oper} {C : World → Prop} {E : World → World → Prop} {a0 : Act} {Q : Act → World → Prop} {o : Oper} {r : List Oper} {env : List Fact} (A : Fact) (hs : Stable E A)
    (h : Rule P ops l1 C E a0 o env A) (hr : walk P ops l1 C E a0 Q r (env ++ [A])) : walk P ops l1 C E a0 Q (o :: r) env := ⟨A, hs, h, hr⟩

theorem getD_app_lt (l : List Fact) (A : Fact) (i : Nat) (h : i < l.length) (d : Fact) : (l ++ [A]).getD i d = l.getD i d := by
  simp [List.getD_eq_getElem?_getD, List.getElem?_append_left h]
attribute [go_sem] upon facts depsOf deps putU
attribute [simp] facts depsOf deps factsFrom Region.binds
/-- Memory has only grown. -/
abbrev Ext (w w' : World) : Prop := Go.RowKit.Below w.heap.size w w'
theorem Ext.refl (w : World) : Ext w w := Go.RowKit.Below.refl _ _
theorem Ext.trans {a b c : World} (h : Ext a b) (k : Ext b c) : Ext a c := Go.RowKit.Below.trans h (k.mono h.size)
theorem Ext.tick {w w' : World} (h : Ext w w') : Ext w { w' with drawn := w'.drawn + 1 } := ⟨h.os, h.tape, h.output, h.size, h.block⟩
end Go.Proofs.Ytmbaeloiepjakaa.Ev
set_option linter.unusedSimpArgs false
set_option linter.unusedVariables false
namespace Go.Proofs.Ytmbaeloiepjakaa.R
open Go Go.RowKit
/-- Blocks that are known, and stay as they are. -/
abbrev Blocks := Nat → Prop
/-- A type of Go's as plain data: how many cells it has, and when cells read as a datum. -/
class GoT (α : Type) where
  n : Nat
  pos : 1 ≤ n
  rep : Blocks → World → List Value → α → Prop
  len : ∀ {K : Blocks} {w : World} {cs : List Value} {x : α}, rep K w cs x → cs.length = n
  one : ∀ {K : Blocks} {w : World} {cs : List Value} {x : α}, rep K w cs x → ∀ c ∈ cs, c.oneCell' = true
  mono : ∀ {K K' : Blocks} {w w' : World} {cs : List Value} {x : α}, (∀ b, K b → b < w.heap.size → K' b ∧ w'.heap[b]? = w.heap[b]?) → rep K w cs x → rep K' w' cs x
instance : GoT ByteArray where
  n := 1
  pos := Nat.le_refl _
  rep _ _ cs s := cs = [.string s] ∧ s.size ≤ 9223372036854775807
  len h := by rw [h.1]; rfl
  one h c hc := by rw [h.1] at hc; simp at hc; subst hc; rfl
  mono _ h := h
instance : GoT Int where
  n := 1
  pos := Nat.le_refl _
  rep _ _ cs x := cs = [.int .i64 x] ∧ -9223372036854775808 ≤ x ∧ x ≤ 9223372036854775807
  len h := by rw [h.1]; rfl
  one h c hc := by rw [h.1] at hc; simp at hc; subst hc; rfl
  mono _ h := h
instance : GoT Bool where
  n := 1
  pos := Nat.le_refl _
  rep _ _ cs x := cs = [.bool x]
  len h := by rw [h]; rfl
  one h c hc := by rw [h] at hc; simp at hc; subst hc; rfl
  mono _ h := h
/-- The cells of an element of a row that begins at (b, o). -/
def At (w : World) (b o : Nat) (cs : List Value) : Prop := ∀ j c, cs[j]? = some c → w.cell? ⟨b, o + j, none⟩ = some c
/-- A slice that reads as xs. -/
def Sl {α : Type} [GoT α] (K : Blocks) (w : World) (v : Value) (xs : List α) : Prop :=
  ∃ (a : Option Addr) (cap : Nat), v = .slice a xs.length cap ∧ xs.length ≤ 9223372036854775807 ∧
    (xs ≠ [] → ∃ b o, a = some ⟨b, o, none⟩ ∧ K b ∧ ∀ (i : Nat) (x : α), xs[i]? = some x → ∃ cs, GoT.rep K w cs x ∧ At w b (o + i * GoT.n α) cs)
theorem cell_kept {w w' : World} {a : Addr} {v : Value} (h : w.cell? a = some v) (he : w'.heap[a.block]? = w.heap[a.block]?) : w'.cell? a = some v := by rw [World.cell?_of_block he]; exact h
theorem Sl.mono {α : Type} [GoT α] {K K' : Blocks} {w w' : World} {v : Value} {xs : List α} (hk : ∀ b, K b → b < w.heap.size → K' b ∧ w'.heap[b]? = w.heap[b]?) (h : Sl K w v xs) : Sl K' w' v xs := by
  obtain ⟨a, cap, hv, hl, hc⟩ := h
  refine ⟨a, cap, hv, hl, fun hne => ?_⟩
  obtain ⟨b, o, ha, hb, hel⟩ := hc hne
  have hbw : b < w.heap.size := by
    cases xs with
    | nil => exact (hne rfl).elim
    | cons x r =>
      obtain ⟨cs, hr, hat⟩ := hel 0 x rfl
      have hlen := GoT.len hr
      have hp := GoT.pos (α := α)
      cases cs with
      | nil => simp at hlen; omega
      | cons c t => exact World.block_lt_of_cell? w _ (hat 0 c rfl)
  refine ⟨b, o, ha, (hk b hb hbw).1, fun i x hx => ?_⟩
  obtain ⟨cs, hr, hat⟩ := hel i x hx
  exact ⟨cs, GoT.mono hk hr, fun j c hj => cell_kept (hat j c hj) (hk b hb hbw).2⟩
instance {α : Type} [GoT α] : GoT (List α) where
  n := 1
  pos := Nat.le_refl _
  rep K w cs xs := ∃ v, cs = [v] ∧ Sl K w v xs
  len h := by obtain ⟨v, h, _⟩ := h; rw [h]; rfl
  one h c hc := by
    obtain ⟨v, h, a, cap, hv, _⟩ := h
    rw [h] at hc; simp at hc; subst hc; rw [hv]; rfl
  mono hk h := by
    obtain ⟨v, h, hs⟩ := h
    exact ⟨v, h, hs.mono hk⟩
theorem Sl.nil {α : Type} [GoT α] (K : Blocks) (w : World) : Sl K w (.slice none 0 0) ([] : List α) := ⟨none, 0, rfl, by simp, fun h => (h rfl).elim⟩
theorem Sl.len_le {α : Type} [GoT α] {K : Blocks} {w : World} {v : Value} {xs : List α} (h : Sl K w v xs) : xs.length ≤ 9223372036854775807 := by
  obtain ⟨a, cap, hv, hl, hc⟩ := h; exact hl
/-- An element of a slice: where it lies, and its cells. -/
theorem Sl.get {α : Type} [GoT α] {K : Blocks} {w : World} {a : Option Addr} {len cap : Nat} {xs : List α} (h : Sl K w (.slice a len cap) xs) :
    len = xs.length ∧ ∀ (i : Nat) (x : α), xs[i]? = some x → ∃ b o cs, a = some ⟨b, o, none⟩ ∧ K b ∧ GoT.rep K w cs x ∧ At w b (o + i * GoT.n α) cs := by
  obtain ⟨a', cap', hv, hl, hc⟩ := h
  simp only [Value.slice.injEq] at hv
  obtain ⟨rfl, rfl, rfl⟩ := hv
  refine ⟨rfl, fun i x hx => ?_⟩
  obtain ⟨b, o, ha, hb, hel⟩ := hc (by intro e; subst e; simp at hx)
  obtain ⟨cs, h1, h2⟩ := hel i x hx
  exact ⟨b, o, cs, ha, hb, h1, h2⟩
theorem Sl.form {α : Type} [GoT α] {K : Blocks} {w : World} {v : Value} {xs : List α} (h : Sl K w v xs) : ∃ a cap, v = .slice a xs.length cap := by
  obtain ⟨a, cap, hv, _⟩ := h; exact ⟨a, cap, hv⟩
/-- From a world to one in which memory has only grown. -/
theorem ext_known {K : Blocks} {w w' : World} (he : Ev.Ext w w') : ∀ b, K b → b < w.heap.size → K b ∧ w'.heap[b]? = w.heap[b]? := fun b hb h => ⟨hb, he.block b h⟩
theorem Sl.ext {α : Type} [GoT α] {K : Blocks} {w w' : World} {v : Value} {xs : List α} (h : Sl K w v xs) (he : Ev.Ext w w') : Sl K w' v xs := h.mono (ext_known he)
/-! ### what a call makes -/
inductive All2 {α β : Type} (R : α → β → Prop) : List α → List β → Prop
  | nil : All2 R [] []
  | cons {a : α} {b : β} {l : List α} {m : List β} : R a b → All2 R l m → All2 R (a :: l) (b :: m)
theorem All2.length {α β : Type} {R : α → β → Prop} {l : List α} {m : List β} (h : All2 R l m) : l.length = m.length := by
  induction h with
  | nil => rfl
  | cons _ _ ih => simp [ih]
theorem All2.append {α β : Type} {R : α → β → Prop} {l l' : List α} {m m' : List β} (h : All2 R l m) (h' : All2 R l' m') : All2 R (l ++ l') (m ++ m') := by
  induction h with
  | nil => exact h'
  | cons r _ ih => exact .cons r ih
theorem All2.imp {α β : Type} {R S : α → β → Prop} (hs : ∀ a b, R a b → S a b) {l : List α} {m : List β} (h : All2 R l m) : All2 S l m := by
  induction h with
  | nil => exact .nil
  | cons r _ ih => exact .cons (hs _ _ r) ih
theorem All2.get {α β : Type} {R : α → β → Prop} {l : List α} {m : List β} (h : All2 R l m) : ∀ (i : Nat) (b : β), m[i]? = some b → ∃ a, l[i]? = some a ∧ R a b := by
  induction h with
  | nil => intro i b hb; simp at hb
  | cons r _ ih =>
    intro i b hb
    cases i with
    | zero => simp at hb; subst hb; exact ⟨_, rfl, r⟩
    | succ i => exact ih i b (by simpa using hb)
theorem flat_length {l : List (List Value)} {n : Nat} (h : ∀ r ∈ l, r.length = n) : l.flatten.length = l.length * n := by
  induction l with
  | nil => simp
  | cons a r ih =>
    have h1 := h a (by simp)
    have h2 := ih (fun x hx => h x (by simp [hx]))
    simp only [List.flatten_cons, List.length_append, List.length_cons, h1, h2, Nat.add_mul]
    omega
theorem flat_get {l : List (List Value)} {n : Nat} (h : ∀ r ∈ l, r.length = n) : ∀ (i j : Nat) (r : List Value) (c : Value), l[i]? = some r → r[j]? = some c → l.flatten[i * n + j]? = some c := by
  induction l with
  | nil => intro i j r c hr; simp at hr
  | cons a t ih =>
    intro i j r c hr hc
    have ha := h a (by simp)
    cases i with
    | zero =>
      simp at hr
      subst hr
      have : j < a.length := (List.getElem?_eq_some_iff.1 hc).1
      simp only [List.flatten_cons, Nat.zero_mul, Nat.zero_add]
      rw [List.getElem?_append_left this]
      exact hc
    | succ i =>
      have := ih (fun x hx => h x (by simp [hx])) i j r c (by simpa using hr) hc
      simp only [List.flatten_cons]
      rw [List.getElem?_append_right (by rw [ha, Nat.add_mul]; omega), ha, show (i + 1) * n + j - n = i * n + j from by rw [Nat.add_mul]; omega]
      exact this
/-- Where elements of a slice of the call's own may lie: in what was known, or in what is new, but in the slice's own row. -/
def elemK (K : Blocks) (B : Nat) (v : Value) : Blocks := fun b => (K b ∧ b < B) ∨ (B ≤ b ∧ v.ownBlock ≠ some b)
/-- A slice of the call's own, that holds xs (B: the first block of the call's own). -/
structure Grow {α : Type} [GoT α] (e : TypeId) (K : Blocks) (B : Nat) (w : World) (v : Value) (xs : List α) : Prop where
  ex : ∃ rows : List (List Value), w.ownsRow B e (GoT.n α) v xs.length rows.flatten ∧ All2 (GoT.rep (elemK K B v) w) rows xs
theorem Grow.nil {α : Type} [GoT α] (e : TypeId) (K : Blocks) (B : Nat) (w : World) : Grow e K B w (.slice none 0 0) ([] : List α) :=
  ⟨⟨[], World.ownsRow_nil w B e _, .nil⟩⟩
theorem rows_len {α : Type} [GoT α] {K : Blocks} {w : World} {rows : List (List Value)} {xs : List α} (h : All2 (GoT.rep K w) rows xs) : ∀ r ∈ rows, r.length = GoT.n α := by
  induction h with
  | nil => intro r hr; cases hr
  | cons r0 _ ih =>
    intro r hr
    rcases List.mem_cons.1 hr with rfl | hr
    · exact GoT.len r0
    · exact ih r hr
theorem rows_one {α : Type} [GoT α] {K : Blocks} {w : World} {rows : List (List Value)} {xs : List α} (h : All2 (GoT.rep K w) rows xs) : ∀ c ∈ rows.flatten, c.oneCell' = true := by
  induction h with
  | nil => intro c hc; simp at hc
  | cons r0 _ ih =>
    intro c hc
    simp only [List.flatten_cons, List.mem_append] at hc
    rcases hc with hc | hc
    · exact GoT.one r0 c hc
    · exact ih c hc
/-- Read by others, once it is made. -/
theorem Grow.sl {α : Type} [GoT α] {e : TypeId} {K : Blocks} {B : Nat} {w : World} {v : Value} {xs : List α} (h : Grow e K B w v xs) (hl : xs.length ≤ 9223372036854775807) : Sl (fun b => (K b ∧ b < B) ∨ B ≤ b) w v xs := by
  obtain ⟨rows, hown, hall⟩ := h.ex
  have hk : ∀ b, elemK K B v b → b < w.heap.size → ((K b ∧ b < B) ∨ B ≤ b) ∧ w.heap[b]? = w.heap[b]? := fun b hb _ => ⟨hb.imp id (·.1), rfl⟩
  rcases hown.2 with ⟨rfl, h0⟩ | ⟨g, cap, cur, rfl, hbg, hg, hnc, hcm, hcs, htake⟩
  · obtain rfl := List.eq_nil_of_length_eq_zero h0
    exact Sl.nil _ _
  · refine ⟨_, cap, rfl, hl, fun hne => ⟨g, 0, rfl, .inr hbg, fun i x hx => ?_⟩⟩
    obtain ⟨r, hr, hrep⟩ := hall.get i x hx
    refine ⟨r, GoT.mono hk hrep, fun j c hj => ?_⟩
    have hc := flat_get (rows_len hall) i j r c hr hj
    rw [← htake] at hc
    have hc' : cur[i * GoT.n α + j]? = some c := by
      rw [List.getElem?_take] at hc
      split at hc
      · simpa using hc
      · cases hc
    simp [World.cell?, hg, hc']
theorem Grow.mono {α : Type} [GoT α] {e : TypeId} {K : Blocks} {B : Nat} {w w' : World} {v : Value} {xs : List α} (h : Grow e K B w v xs) (he : ∀ b, b < w.heap.size → w'.heap[b]? = w.heap[b]?) : Grow e K B w' v xs := by
  obtain ⟨rows, hown, hall⟩ := h.ex
  refine ⟨⟨rows, ⟨hown.1, ?_⟩, hall.imp fun r x hr => GoT.mono (fun b hb hlt => ⟨hb, he b hlt⟩) hr⟩⟩
  rcases hown.2 with hn | ⟨g, cap, cur, hv, hbg, hg, rest⟩
  · exact .inl hn
  · exact .inr ⟨g, cap, cur, hv, hbg, by rw [he g (Array.getElem?_eq_some_iff.1 hg).1]; exact hg, rest⟩
theorem Grow.ext {α : Type} [GoT α] {e : TypeId} {K : Blocks} {B : Nat} {w w' : World} {v : Value} {xs : List α} (h : Grow e K B w v xs) (he : Ev.Ext w w') : Grow e K B w' v xs := h.mono he.block
theorem Grow.slice {α : Type} [GoT α] {e : TypeId} {K : Blocks} {B : Nat} {w : World} {v : Value} {xs : List α} (h : Grow e K B w v xs) : ∃ a cap, v = .slice a xs.length cap := by
  obtain ⟨rows, hown, _⟩ := h.ex
  rcases hown.2 with ⟨rfl, h0⟩ | ⟨g, cap, cur, rfl, _⟩
  · exact ⟨none, 0, by rw [h0]⟩
  · exact ⟨_, cap, rfl⟩
/-- A type's row of the table, for append. -/
structure ElemT (P : Program) (t e : TypeId) (n bytes : Nat) : Prop where
  ht : P.underlying t = some (.slice e)
  hi : ∃ i z, P.info? e = some i ∧ i.zero = some z ∧ i.size = n ∧ i.bytes = bytes ∧ z.cells.size = n
/-- The builtin append onto a row of the call's own: the row's head stays where it was, or is new. -/
theorem run_append {P : Program} (w : World) (B : Nat) (t ty e : TypeId) (n bytes : Nat) (T : ElemT P t e n bytes) (hn : 1 ≤ n) (v : Value) (k : Nat) (xs : List Value) (hown : w.ownsRow B e n v k xs)
    (a : Addr) (m c : Nat) (news : List Value) (hl : news.length = m * n) (hnews : ∀ j u, news[j]? = some u → w.cell? (a.add j) = some u) (h1 : ∀ u ∈ news, u.oneCell' = true)
    (h63 : k + m ≤ maxLen) (hbytes : (k + m) * bytes ≤ 140737488355328) (hbase : B ≤ w.heap.size) :
    ∃ v' w', (Builtin.append_ #[t, t] ty #[v, .slice (some a) m c]).run P w = .ok v' w' ∧ w'.ownsRow B e n v' (k + m) (xs ++ news) ∧ w.grownBy w' v.ownBlock ∧ (v'.ownBlock = v.ownBlock ∨ v'.ownBlock = some w.heap.size) := by
  obtain ⟨i, z, hi, hz, hsize, hby, hzs⟩ := T.hi
  obtain ⟨v', w', h1', h2', h3', _⟩ := run_append_own (P := P) w B t ty e i z n bytes T.ht hi hz hsize hby hzs hn v k xs hown a m c news hl hnews h1 h63 hbytes hbase
  refine ⟨v', w', h1', h2', h3', ?_⟩
  subst hsize
  rcases hown.2 with ⟨rfl, rfl⟩ | ⟨g, cap, cur, rfl, hbg, hg, hnc, hcm, hcs, htake⟩
  · obtain rfl : xs = [] := List.eq_nil_of_length_eq_zero (by simpa using hown.1)
    by_cases hm : m = 0
    · subst hm
      obtain rfl : news = [] := List.eq_nil_of_length_eq_zero (by simpa using hl)
      rcases h2'.2 with ⟨rfl, _⟩ | ⟨g, cap, cur, rfl, hbg, hg, _⟩
      · exact .inl rfl
      · exfalso
        simp [Builtin.append_, run_underlying T.ht, sizeOf, typeInfo, hi, Builtin.lenOf, Builtin.firstCells, loadCells, loadCellsFrom] at h1'
    · have hr := run_append_nil (P := P) w t ty e i z T.ht hi hz a m c news hl hnews (by omega) (by simp only [maxLen] at h63; omega) (by rw [hby]; simp at hbytes; omega)
      rw [hr] at h1'
      simp only [Result.ok.injEq] at h1'
      obtain ⟨rfl, _⟩ := h1'
      exact .inr rfl
  · by_cases hroom : k + m ≤ cap
    · have hfit : k * i.size + news.length ≤ cur.size := by rw [hl, hcs, ← Nat.add_mul]; exact Nat.mul_le_mul_right _ hroom
      have hr := run_append_room (P := P) w t ty e i T.ht hi g k cap cur hg a m c news hl hnews h1 hroom hfit
      rw [hr] at h1'
      simp only [Result.ok.injEq] at h1'
      obtain ⟨rfl, _⟩ := h1'
      exact .inl rfl
    · have hr := run_append_grow (P := P) w t ty e i z T.ht hi hz ⟨g, 0, none⟩ k cap xs hown.1 (hown.cells (g := g) rfl) a m c news hl hnews (by omega) (by simp only [maxLen] at h63; omega) (growslice_fits (by omega) (by rw [hby]; exact hbytes))
      rw [hr] at h1'
      simp only [Result.ok.injEq] at h1'
      obtain ⟨rfl, _⟩ := h1'
      exact .inr rfl
/-- 'append' onto a slice of the call's own, of elements that lie in a row made for it. -/
theorem wpList_append {α : Type} [GoT α] {P : Program} {w : World} {ops : Array Oper} {rest : List Oper} {o : Oper} {a : Act} {Q : Exit → Act → World → Prop} (hgd : o.guard = none) (s x : Operand) (t : TypeId)
    (ho : o.op = .call { callee := .builtin .append, args := #[s, x], argTypes := #[t, t] }) {e : TypeId} {K : Blocks} {B bytes : Nat} (T : ElemT P t e (GoT.n α) bytes)
    (v : Value) (xs : List α) (hs : a.eval s = v) (G : Grow e K B w v xs) (ad : Addr) (c : Nat) (ys : List α) (hx : a.eval x = .slice (some ad) ys.length c) (rows : List (List Value)) (hall : All2 (GoT.rep (elemK K B v) w) rows ys)
    (hnews : ∀ j u, rows.flatten[j]? = some u → w.cell? (ad.add j) = some u) (h63 : xs.length + ys.length ≤ maxLen) (hbytes : (xs.length + ys.length) * bytes ≤ 140737488355328) (hbase : B ≤ w.heap.size)
    (h : ∀ v' w', Grow e K B w' v' (xs ++ ys) → w.grownBy w' v.ownBlock → wpList P ops Q rest (a.put o.dst v') w') : wpList P ops Q (o :: rest) a w := by
  obtain ⟨rows0, hown, hall0⟩ := G.ex
  obtain ⟨v', w', hr, hown', hg, hnew⟩ := run_append (P := P) w B t o.type e (GoT.n α) bytes T GoT.pos v xs.length rows0.flatten hown ad ys.length c rows.flatten (by rw [flat_length (rows_len hall), hall.length]) hnews (rows_one hall) h63 hbytes hbase
  have hk : ∀ b, elemK K B v b → b < w.heap.size → elemK K B v' b ∧ w'.heap[b]? = w.heap[b]? := fun b hb hlt => by
    refine ⟨?_, hg.block b hlt ?_⟩
    · rcases hb with hb | ⟨h1, h2⟩
      · exact .inl hb
      · refine .inr ⟨h1, fun h3 => ?_⟩
        rcases hnew with h4 | h4
        · exact h2 (h4 ▸ h3)
        · rw [h4] at h3; cases h3; omega
    · intro e
      rcases hb with ⟨_, hb⟩ | ⟨_, hb⟩
      · have := (hown.lt b e.symm).1; omega
      · exact hb e.symm
  refine wpList_plain hgd fun K' hK' => ?_
  unfold Oper.wp execOp
  simp only [ho, resolve, invoke, builtin, Sem.run_bind, Sem.run_pure, Result.andThen_ok, List.map_toArray, List.map_cons, List.map_nil, hs, hx, hr]
  exact hK' _ _ (h v' w' ⟨⟨rows0 ++ rows, by rw [List.flatten_append, List.length_append]; exact hown', (hall0.imp fun r x hr => GoT.mono hk hr).append (hall.imp fun r x hr => GoT.mono hk hr)⟩⟩ hg)
/-- A row that was just made. -/
def NewRow (B : Nat) (cells : Array Value) (T : TypeId) (n : Nat) (v : Value) (w : World) : Prop := ∃ b, v = .slice (some ⟨b, 0, none⟩) n n ∧ B ≤ b ∧ w.heap[b]? = some (.cells cells T)
theorem NewRow.stable {B : Nat} {cells : Array Value} {T : TypeId} {n : Nat} : Ev.Stable Ev.Ext (NewRow B cells T n) := fun v w w' h ⟨b, e, hb, hc⟩ => ⟨b, e, hb, by rw [h.block b (Array.getElem?_eq_some_iff.1 hc).1]; exact hc⟩
theorem row_cells {w : World} {b : Nat} {cells : List Value} {T : TypeId} (h : w.heap[b]? = some (.cells cells.toArray T)) : ∀ (j : Nat) (u : Value), cells[j]? = some u → w.cell? ((⟨b, 0, none⟩ : Addr).add j) = some u := fun j u hu => by
  have e : (⟨b, 0, none⟩ : Addr).add j = ⟨b, j, none⟩ := by unfold Addr.add; split <;> simp_all
  rw [e]
  simp [World.cell?, h, hu]
/-- Memory has only grown, or a row of the call's own was written. -/
theorem grown_below {B : Nat} {w0 w w' : World} {v : Value} (h : Below B w0 w) (hg : w.grownBy w' v.ownBlock) (hB : B ≤ w.heap.size) (hv : ∀ b, v.ownBlock = some b → B ≤ b) : Below B w0 w' := h.grown hg hB hv
theorem Grow.base {α : Type} [GoT α] {e : TypeId} {K : Blocks} {B : Nat} {w : World} {v : Value} {xs : List α} (h : Grow e K B w v xs) : ∀ b, v.ownBlock = some b → B ≤ b := by
  obtain ⟨rows, hown, _⟩ := h.ex
  exact fun b hb => (hown.lt b hb).1
end Go.Proofs.Ytmbaeloiepjakaa.R
