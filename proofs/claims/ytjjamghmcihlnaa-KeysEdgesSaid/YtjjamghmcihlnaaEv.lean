/- One walk of a region's operations, each in any world of a class, serves every order in which the region may be run: an invariant. -/
import Derived.WalkKit
import Derived.WalkSpells
namespace Go.Proofs.Ytjjamghmcihlnaa.Ev
open Go
section
variable (P : Program) (ops : Array Oper) (C : World → Prop) (E : World → World → Prop)
abbrev Fact := Value → World → Prop
/-- What an operation's run must be, K what is asked of its value and of the world behind it. -/
def upon (P : Program) (K : Value → World → Prop) : Result Next → Prop
  | .ok (.value u) w' => K u w'
  | .ok .skip w' => K undef w'
  | .ok (.enter f args) w' => Calls P f args w' (fun e w'' => ∃ v, e = .returned v ∧ K v w'')
  | _ => False
/-- All the region's slots, laid. -/
def putU : List Oper → Nat → (Nat → Value) → Act → Act
  | [], _, _, a => a
  | o :: r, k, u, a => putU r (k + 1) u (a.put o.dst (u k))
def deps : List Edge → List Nat
  | [] => []
  | e :: r => if Region.binds .any e = true then e.on :: deps r else deps r
theorem mem_deps {i : Nat} : ∀ {l : List Edge}, i ∈ deps l → ∃ e ∈ l, Region.binds .any e = true ∧ e.on = i
  | [], h => by simp [deps] at h
  | e :: r, h => by
    unfold deps at h
    split at h
    · rename_i hb
      rcases List.mem_cons.1 h with rfl | h
      · exact ⟨e, by simp, hb, rfl⟩
      · obtain ⟨e', h1, h2⟩ := mem_deps h
        exact ⟨e', by simp [h1], h2⟩
    · obtain ⟨e', h1, h2⟩ := mem_deps h
      exact ⟨e', by simp [h1], h2⟩
def depsOf (o : Oper) : List Nat := deps o.after.toList
def facts (env : List Fact) (u : Nat → Value) (w : World) : List Nat → Prop
  | [] => True
  | i :: r => (env.getD i (fun _ _ => True)) (u i) w ∧ facts env u w r
def factsFrom (u : Nat → Value) (w : World) : Nat → List Fact → Prop
  | _, [] => True
  | k, A :: r => A (u k) w ∧ factsFrom u w (k + 1) r
theorem factsFrom_of {u : Nat → Value} {w : World} : ∀ (l : List Fact) (k : Nat), (∀ (i : Nat) (A : Fact), l[i]? = some A → A (u (k + i)) w) → factsFrom u w k l
  | [], _, _ => trivial
  | A :: r, k, h => ⟨h 0 A rfl, factsFrom_of r (k + 1) fun i B hi => by have := h (i + 1) B (by simpa using hi); rwa [show k + 1 + i = k + (i + 1) from by omega]⟩
def Stable (A : Fact) : Prop := ∀ v w w', E w w' → A v w → A v w'
def Rule (a0 : Act) (o : Oper) (env : List Fact) (A : Fact) : Prop :=
  ∀ u w, C w → facts env u w (depsOf o) →
    if Region.wanted o (yielded ops (putU ops.toList 0 u a0).tmps) then ∀ K : Value → World → Prop, (∀ v w', E w w' → A v w' → K v w') → upon P K ((execOp (putU ops.toList 0 u a0).eval o).run P w)
    else A undef w
def walk (a0 : Act) (Q : Act → World → Prop) : List Oper → List Fact → Prop
  | [], env => ∀ u w, C w → factsFrom u w 0 env → Q (putU ops.toList 0 u a0) w
  | o :: r, env => ∃ A, Stable E A ∧ Rule P ops C E a0 o env A ∧ walk a0 Q r (env ++ [A])
end
variable {P : Program} {ops : Array Oper} {C : World → Prop} {E : World → World → Prop}
theorem facts_mem {env : List Fact} {u : Nat → Value} {w : World} : ∀ {l : List Nat}, facts env u w l ↔ ∀ i ∈ l, (env.getD i (fun _ _ => True)) (u i) w
  | [] => by simp [facts]
  | i :: r => by simp [facts, facts_mem (l := r)]
theorem walk_env {a0 : Act} {Q : Act → World → Prop} : ∀ (l : List Oper) (env : List Fact), walk P ops C E a0 Q l env →
    ∃ full : List Fact, full.length = env.length + l.length ∧ full.take env.length = env ∧ (∀ j o, l[j]? = some o → ∃ A, full[env.length + j]? = some A ∧ Stable E A ∧ Rule P ops C E a0 o (full.take (env.length + j)) A) ∧
      (∀ u w, C w → factsFrom u w 0 full → Q (putU ops.toList 0 u a0) w)
  | [], env, h => ⟨env, by simp, by simp, by simp, h⟩
  | o :: r, env, ⟨A, hs, hr, h⟩ => by
    obtain ⟨full, h1, h2, h3, h4⟩ := walk_env r _ h
    rw [List.length_append, List.length_singleton] at h1 h2 h3
    have e0 : full.take env.length = env := by
      have : (full.take (env.length + 1)).take env.length = env := by rw [h2]; simp
      rwa [List.take_take, Nat.min_eq_left (by omega)] at this
    have eA : full[env.length]? = some A := by
      have : (full.take (env.length + 1))[env.length]? = some A := by rw [h2]; simp
      rwa [List.getElem?_take_of_lt (by omega)] at this
    refine ⟨full, by simp only [List.length_cons]; omega, e0, fun j o' hj => ?_, h4⟩
    cases j with
    | zero =>
      simp at hj
      subst hj
      exact ⟨A, eA, hs, by rw [Nat.add_zero, e0]; exact hr⟩
    | succ j =>
      have := h3 j o' (by simpa using hj)
      rwa [show env.length + 1 + j = env.length + (j + 1) from by omega] at this
theorem put_self (a : Act) (d : Option Tmp) : a.put d (match d with | some d => a.tmps.getD d undef | none => undef) = a := by
  cases d with
  | none => rfl
  | some d =>
    simp only [Act.put]
    have : a.tmps.setIfInBounds d (a.tmps.getD d undef) = a.tmps := by
      apply Array.ext (by simp)
      intro i h1 h2
      rw [Array.getElem_setIfInBounds]
      split
      · rename_i e; subst e; simp [Array.getD, h2]
      · rfl
    rw [this]
def u0 (a : Act) (ops : Array Oper) (i : Nat) : Value := match (ops[i]?).bind (·.dst) with | some d => a.tmps.getD d undef | none => undef
theorem putU_self (a : Act) : ∀ (l : List Oper) (k : Nat), (∀ j, l[j]? = ops[k + j]?) → putU l k (u0 a ops) a = a
  | [], _, _ => rfl
  | o :: r, k, h => by
    have h0 : ops[k]? = some o := by simpa using (h 0).symm
    have e : a.put o.dst (u0 a ops k) = a := by
      have := put_self a o.dst
      unfold u0
      rw [h0]
      simpa using this
    rw [putU, e]
    exact putU_self a r (k + 1) (fun j => by have := h (j + 1); simpa [Nat.add_assoc, Nat.add_comm 1 j] using this)
def upd (u : Nat → Value) (j : Nat) (v : Value) (i : Nat) : Value := if i = j then v else u i
theorem put_put_ne (a : Act) {d e : Option Tmp} (h : d = none ∨ e = none ∨ d ≠ e) (x y : Value) : (a.put d x).put e y = (a.put e y).put d x := by
  cases d with
  | none => rfl
  | some d =>
    cases e with
    | none => rfl
    | some e =>
      have hne : d ≠ e := by rcases h with h | h | h; cases h; cases h; exact fun hh => h (by rw [hh])
      simp only [Act.put]
      rw [Array.setIfInBounds_comm _ _ hne]
theorem put_put_same (a : Act) (d : Option Tmp) (x y : Value) : (a.put d x).put d y = a.put d y := by
  cases d with
  | none => rfl
  | some d => simp [Act.put]
def freshD (d : Option Tmp) (l : List Oper) : Bool := match d with | none => true | some d => l.all fun o => o.dst != some d
def distinct : List Oper → Bool
  | [] => true
  | o :: r => freshD o.dst r && distinct r
theorem putU_congr : ∀ (l : List Oper) (k : Nat) (u v : Nat → Value) (a : Act), (∀ i, k ≤ i → u i = v i) → putU l k u a = putU l k v a
  | [], _, _, _, _, _ => rfl
  | o :: r, k, u, v, a, h => by
    rw [putU, putU, h k (Nat.le_refl _)]
    exact putU_congr r (k + 1) u v _ (fun i hi => h i (by omega))
theorem putU_put (d : Option Tmp) (x : Value) : ∀ (l : List Oper) (k : Nat) (u : Nat → Value) (a : Act), freshD d l = true → putU l k u (a.put d x) = (putU l k u a).put d x
  | [], _, _, _, _ => rfl
  | o :: r, k, u, a, h => by
    rw [putU, putU]
    have h1 : d = none ∨ o.dst = none ∨ d ≠ o.dst := by
      cases d with
      | none => exact .inl rfl
      | some d =>
        refine .inr (.inr fun e => ?_)
        simp [freshD, ← e] at h
    have h2 : freshD d r = true := by
      cases d with
      | none => rfl
      | some d => simp [freshD] at h ⊢; exact h.2
    rw [put_put_ne a h1, putU_put d x r (k + 1) u _ h2]
theorem putU_upd (v : Value) : ∀ (l : List Oper) (k : Nat) (u : Nat → Value) (a : Act) (j : Nat) (o : Oper), distinct l = true → l[j]? = some o → (putU l k u a).put o.dst v = putU l k (upd u (k + j) v) a
  | [], _, _, _, _, _, _, h => by simp at h
  | o :: r, k, u, a, 0, o', hd, h => by
    simp at h
    subst h
    simp only [distinct, Bool.and_eq_true] at hd
    rw [putU, putU]
    have e : upd u (k + 0) v k = v := by simp [upd]
    rw [e, ← putU_put o.dst v r (k + 1) u _ hd.1, put_put_same]
    exact putU_congr r (k + 1) _ _ _ (fun i hi => by simp [upd, show i ≠ k by omega])
  | o :: r, k, u, a, j + 1, o', hd, h => by
    simp only [distinct, Bool.and_eq_true] at hd
    rw [putU, putU]
    have e : upd u (k + (j + 1)) v k = u k := by simp [upd]
    rw [e, putU_upd v r (k + 1) u _ j o' hd.2 (by simpa using h), show k + 1 + j = k + (j + 1) from by omega]
def backB (ops : Array Oper) : Bool := (List.range ops.size).all fun j => match ops[j]? with | some o => o.after.all (fun e => !Region.binds .any e || decide (e.on < j)) | none => true
def okB (ops : Array Oper) : Bool := distinct ops.toList && backB ops
theorem ready_of_least {listed : Array Bool} (hb : backB ops = true) (hs : listed.size = ops.size) {j : Nat} (hj : j < ops.size) (hu : listed[j]? = some false) (hl : ∀ i, i < j → listed[i]? = some true) : j ∈ Region.ready .any ops listed := by
  unfold backB at hb
  have := List.all_eq_true.1 hb j (List.mem_range.2 hj)
  rw [mem_ready]
  have ho : ops[j]? = some ops[j] := by simp [hj]
  rw [ho] at this
  refine ⟨by simp [Array.getD, hs, hj] at hu ⊢; exact hu, ops[j], ho, fun e he hbe => ?_⟩
  have h1 := Array.all_eq_true_iff_forall_mem.1 this e he
  rw [hbe] at h1
  simp at h1
  have h2 := hl _ h1
  simp [h2]
theorem wp_any {a0 : Act} {Q : Exit → Act → World → Prop} (hok : okB ops = true) (full : List Fact) (hlen : full.length = ops.size)
    (hE : ∀ w, E w w) (hC : ∀ w w', E w w' → C w → C w')
    (hr : ∀ j o, ops[j]? = some o → ∃ A, full[j]? = some A ∧ Stable E A ∧ Rule P ops C E a0 o (full.take j) A)
    (hQ : ∀ u w, C w → factsFrom u w 0 full → Q .normal (putU ops.toList 0 u a0) w) :
    ∀ (fuel : Nat) (listed : Array Bool) (u : Nat → Value) (w : World), listed.size = ops.size → C w → (∀ i, listed[i]? = some true → (full.getD i (fun _ _ => True)) (u i) w) →
      listed.count false ≤ fuel → wpAny P .any ops Q fuel listed (putU ops.toList 0 u a0) w := by
  simp only [okB, Bool.and_eq_true] at hok
  have done : ∀ (listed : Array Bool), listed.size = ops.size → Region.ready .any ops listed = [] → ∀ i, i < ops.size → listed[i]? = some true := by
    intro listed hs h0 i
    induction i using Nat.strongRecOn with
    | _ i ih =>
      intro hi
      cases hl : listed[i]? with
      | none => rw [Array.getElem?_eq_none_iff] at hl; omega
      | some b =>
        cases b with
        | true => rfl
        | false =>
          have := ready_of_least hok.2 hs hi hl (fun k hk => ih k hk (by omega))
          rw [h0] at this
          cases this
  have fin : ∀ (listed : Array Bool) (u : Nat → Value) (w : World), listed.size = ops.size → C w → (∀ i, listed[i]? = some true → (full.getD i (fun _ _ => True)) (u i) w) →
      Region.ready .any ops listed = [] → Q .normal (putU ops.toList 0 u a0) w := fun listed u w hs hc hf h0 =>
    hQ u w hc (factsFrom_of full 0 fun i A hi => by
      have hlt : i < ops.size := by rw [← hlen]; exact (List.getElem?_eq_some_iff.1 hi).1
      have := hf i (done listed hs h0 i hlt)
      rw [List.getD_eq_getElem?_getD, hi] at this
      simpa using this)
  intro fuel
  induction fuel with
  | zero =>
    intro listed u w hs hc hf hn
    have h0 : Region.ready .any ops listed = [] := by
      cases hrd : Region.ready .any ops listed with
      | nil => rfl
      | cons x xs =>
        have hx : x ∈ Region.ready .any ops listed := by rw [hrd]; simp
        rw [mem_ready] at hx
        have hxl := hx.1
        have hxo := hx.2.choose_spec.1
        have hlt : x < listed.size := by rw [hs]; exact (Array.getElem?_eq_some_iff.1 hxo).1
        have : false ∈ listed := by
          rw [Array.mem_iff_getElem]
          exact ⟨x, hlt, by simpa [Array.getD, hlt] using hxl⟩
        have := Array.count_pos_iff.2 this
        omega
    exact ⟨h0, fin listed u w hs hc hf h0⟩
  | succ fuel ih =>
    intro listed u w hs hc hf hn
    refine ⟨fin listed u w hs hc hf, fun j hj => ?_⟩
    obtain ⟨hju, o, ho, hall⟩ := mem_ready.1 hj
    have hlt : j < listed.size := by rw [hs]; exact (Array.getElem?_eq_some_iff.1 ho).1
    have hjl : listed[j]? = some false := by simp [Array.getD, hlt] at hju; simp [hlt, hju]
    obtain ⟨A, hA, hst, hrule⟩ := hr j o ho
    have hdeps : facts (full.take j) u w (depsOf o) := by
      rw [facts_mem]
      intro i hi
      obtain ⟨e, he, hbe, rfl⟩ := mem_deps hi
      have hl := hall e (by simpa using he) hbe
      have hlt2 : e.on < j := by
        have hb := hok.2
        unfold backB at hb
        have := List.all_eq_true.1 hb j (List.mem_range.2 (by omega))
        rw [ho] at this
        have h1 := Array.all_eq_true_iff_forall_mem.1 this e (by simpa using he)
        rw [hbe] at h1
        simpa using h1
      have hf' := hf e.on (by
        have hlo : e.on < listed.size := by omega
        simp [hlo] at hl ⊢
        exact hl)
      simp only [List.getD_eq_getElem?_getD, List.getElem?_take_of_lt hlt2] at hf' ⊢
      exact hf'
    have hgo := hrule u w hc hdeps
    have step : ∀ v w', E w w' → A v w' → wpAny P .any ops Q fuel (listed.setIfInBounds j true) ((putU ops.toList 0 u a0).put o.dst v) w' := by
      intro v w' hE hAv
      rw [putU_upd v ops.toList 0 u a0 j o hok.1 (by simpa using ho), Nat.zero_add]
      refine ih _ _ _ (by simpa using hs) (hC _ _ hE hc) (fun i hi => ?_) ?_
      · by_cases hij : i = j
        · subst hij
          have : upd u i v i = v := by simp [upd]
          rw [this, List.getD_eq_getElem?_getD, hA]
          exact hAv
        · have h1 : upd u j v i = u i := by simp [upd, hij]
          have h2 : listed[i]? = some true := by
            rw [Array.getElem?_setIfInBounds] at hi
            simpa [Ne.symm hij] using hi
          rw [h1]
          have hold := hf i h2
          have hi' : i < ops.size := by rw [← hs]; exact (Array.getElem?_eq_some_iff.1 h2).1
          have hoi : ops[i]? = some ops[i] := by simp [hi']
          obtain ⟨B, hB, hBs, _⟩ := hr i _ hoi
          rw [List.getD_eq_getElem?_getD, hB] at hold ⊢
          exact hBs _ _ _ hE hold
      · have hcnt : (listed.setIfInBounds j true).count false + 1 = listed.count false := by
          have := Array.count_set (xs := listed) (i := j) (a := true) (b := false) hlt
          rw [Array.setIfInBounds, dif_pos hlt]
          have h3 : listed[j] = false := by simpa [hlt] using hjl
          have h4 : 0 < listed.count false := Array.count_pos_iff.2 (Array.mem_iff_getElem.2 ⟨j, hlt, h3⟩)
          rw [this]
          simp [h3]
          omega
        omega
    unfold wpOp
    simp only [ho]
    split
    · rename_i hw
      rw [if_pos hw] at hgo
      refine .inl ?_
      have h2 := hgo (fun v w' => wpAny P .any ops Q fuel (listed.setIfInBounds j true) ((putU ops.toList 0 u a0).put o.dst v) w') step
      unfold Oper.wp
      generalize (execOp (putU ops.toList 0 u a0).eval o).run P w = r at *
      cases r with
      | ok n w' =>
        cases n <;> simp only [upon] at h2 <;> simp only [Oper.upon]
        case value => exact h2
        case skip => exact h2
        case enter f args => exact h2.mono fun e w'' ⟨v, he, hk⟩ => by subst he; exact hk
      | halt x w' => simp only [upon] at h2
    · rename_i hw
      rw [if_neg hw] at hgo
      exact step undef w (hE w) hgo
/-- A region that draws its order: each of its operations, walked once. -/
theorem wp_region {id : Nat} {Q : Exit → Act → World → Prop} {a : Act} {w : World} {l : List Oper} (C : World → Prop) (E : World → World → Prop) (hm : P.follows .mixedOrders = true) (hok : okB l.toArray = true)
    (hE : ∀ w, E w w) (hC : ∀ w w', E w w' → C w → C w') (h0 : C { w with drawn := w.drawn + 1 })
    (h : walk P l.toArray C E a (fun a' w' => Q .normal a' w') l []) : (Code.region id l.toArray true).wp P Q a w := by
  obtain ⟨full, h1, _, h3, h4⟩ := walk_env l [] h
  simp only [List.length_nil, Nat.zero_add] at h1 h3
  refine wp_region_any hm ?_
  have := wp_any (P := P) (ops := l.toArray) (C := C) (E := E) (a0 := a) (Q := Q) hok full (by simpa using h1) hE hC (fun j o hj => h3 j o (by simpa using hj)) h4 l.toArray.size (Array.replicate l.toArray.size false) (u0 a l.toArray) _ (by simp) h0
    (fun i hi => by rw [Array.getElem?_replicate] at hi; split at hi <;> cases hi) (by simp)
  rwa [putU_self a l.toArray.toList 0 (fun j => by simp)] at this
/-- One operation that yields the one value 'c'. -/
theorem walk_eq {ops : Array Oper} {C : World → Prop} {E : World → World → Prop} {a0 : Act} {Q : Act → World → Prop} {o : Oper} {r : List Oper} {env : List Fact} (c : Value)
    (h : ∀ u w, C w → facts env u w (depsOf o) →
      if Region.wanted o (yielded ops (putU ops.toList 0 u a0).tmps) then ∀ K : Value → World → Prop, (∀ w', E w w' → K c w') → upon P K ((execOp (putU ops.toList 0 u a0).eval o).run P w)
      else c = undef)
    (hr : walk P ops C E a0 Q r (env ++ [fun v _ => v = c])) : walk P ops C E a0 Q (o :: r) env :=
  ⟨_, fun _ _ _ _ h => h, fun u w hc hf => by
    have := h u w hc hf
    split
    · rename_i hw
      rw [if_pos hw] at this
      exact fun K hK => this K (fun w' he => hK c w' he rfl)
    · rename_i hw
      rw [if_neg hw] at this
      exact this.symm, hr⟩
/-- One operation of which a fact is known. -/
theorem walk_rel {ops : Array Oper} {C : World → Prop} {E : World → World → Prop} {a0 : Act} {Q : Act → World → Prop} {o : Oper} {r : List Oper} {env : List Fact} (A : Fact) (hs : Stable E A)
    (h : Rule P ops C E a0 o env A) (hr : walk P ops C E a0 Q r (env ++ [A])) : walk P ops C E a0 Q (o :: r) env := ⟨A, hs, h, hr⟩

theorem getD_app_lt (l : List Fact) (A : Fact) (i : Nat) (h : i < l.length) (d : Fact) : (l ++ [A]).getD i d = l.getD i d := by
  simp [List.getD_eq_getElem?_getD, List.getElem?_append_left h]
attribute [go_sem] upon facts depsOf deps putU
attribute [simp] facts depsOf deps factsFrom Region.binds
/-- Memory has only grown. -/
abbrev Ext (w w' : World) : Prop := Go.RowKit.Below w.heap.size w w'
theorem Ext.refl (w : World) : Ext w w := Go.RowKit.Below.refl _ _
theorem Ext.trans {a b c : World} (h : Ext a b) (k : Ext b c) : Ext a c := Go.RowKit.Below.trans h (k.mono h.size)
theorem Ext.tick {w w' : World} (h : Ext w w') : Ext w { w' with drawn := w'.drawn + 1 } := ⟨h.os, h.tape, h.output, h.size, h.block⟩
end Go.Proofs.Ytjjamghmcihlnaa.Ev
