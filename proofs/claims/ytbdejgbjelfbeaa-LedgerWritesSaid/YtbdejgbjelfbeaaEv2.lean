/- As Ev, with what is newly made kept apart: the operations of S make memory, and no two of them the same. -/
import Derived.Test.YtbdejgbjelfbeaaEv
namespace Go.Proofs.Ytbdejgbjelfbeaa.Ev2
open Go Go.Proofs.Ytbdejgbjelfbeaa.Ev
/-- The block that a pointer points into. -/
def blk : Value → Option Nat
  | .pointer (some a) => some a.block
  | .slice (some a) _ _ => some a.block
  | .map (some b) => some b
  | _ => none
def Old (v : Value) (w : World) : Prop := ∀ b, blk v = some b → b < w.heap.size
def Fresh (v : Value) (w : World) : Prop := ∀ b, blk v = some b → w.heap.size ≤ b
def D (x y : Value) : Prop := ∀ b, blk x = some b → blk y ≠ some b
theorem D.mk {x y : Value} {w : World} (h : Old x w) (k : Fresh y w) : D x y ∧ D y x :=
  ⟨fun b h1 h2 => by have := h b h1; have := k b h2; omega, fun b h1 h2 => by have := h b h2; have := k b h1; omega⟩
def Apart (S : List Nat) (u : Nat → Value) : Prop := ∀ i ∈ S, ∀ j ∈ S, i ≠ j → D (u i) (u j)
section
variable (P : Program) (ops : Array Oper) (l1 : List Oper) (C : World → Prop) (E : World → World → Prop) (S : List Nat)
def RuleN (a0 : Act) (o : Oper) (env : List Fact) (A : Fact) : Prop :=
  ∀ u w, C w → facts env u w (depsOf o) →
    if Region.wanted o (yielded ops (putU l1 0 u a0).tmps) then ∀ K : Value → World → Prop, (∀ v w', E w w' → A v w' → Fresh v w → K v w') → upon P K ((execOp (putU l1 0 u a0).eval o).run P w)
    else A undef w
/-- What is asked of an operation, by its place. -/
def Asked (a0 : Act) (o : Oper) (env : List Fact) (A : Fact) (k : Nat) : Prop :=
  if S.contains k then (∀ v w, A v w → Old v w) ∧ RuleN P ops l1 C E a0 o env A else Rule P ops l1 C E a0 o env A
def walk2 (a0 : Act) (Q : Act → World → Prop) : List Oper → List Fact → Prop
  | [], env => ∀ u w, C w → factsFrom u w 0 env → Apart S u → Q (putU l1 0 u a0) w
  | o :: r, env => ∃ A, Stable E A ∧ Asked P ops l1 C E S a0 o env A env.length ∧ walk2 a0 Q r (env ++ [A])
end
variable {P : Program} {ops : Array Oper} {l1 : List Oper} {C : World → Prop} {E : World → World → Prop} {S : List Nat}
theorem walk2_env {a0 : Act} {Q : Act → World → Prop} : ∀ (l : List Oper) (env : List Fact), walk2 P ops l1 C E S a0 Q l env →
    ∃ full : List Fact, full.length = env.length + l.length ∧ full.take env.length = env ∧ (∀ j o, l[j]? = some o → ∃ A, full[env.length + j]? = some A ∧ Stable E A ∧ Asked P ops l1 C E S a0 o (full.take (env.length + j)) A (env.length + j)) ∧
      (∀ u w, C w → factsFrom u w 0 full → Apart S u → Q (putU l1 0 u a0) w)
  | [], env, h => ⟨env, by simp, by simp, by simp, h⟩
  | o :: r, env, ⟨A, hs, hr, h⟩ => by
    obtain ⟨full, h1, h2, h3, h4⟩ := walk2_env r _ h
    rw [List.length_append, List.length_singleton] at h1 h2 h3
    have e0 : full.take env.length = env := by
      have : (full.take (env.length + 1)).take env.length = env := by rw [h2]; simp
      rwa [List.take_take, Nat.min_eq_left (by omega)] at this
    have eA : full[env.length]? = some A := by
      have : (full.take (env.length + 1))[env.length]? = some A := by rw [h2]; simp
      rwa [List.getElem?_take_of_lt (by omega)] at this
    refine ⟨full, by simp only [List.length_cons]; omega, e0, fun j o' hj => ?_, h4⟩
    cases j with
    | zero =>
      simp at hj
      subst hj
      exact ⟨A, eA, hs, by rw [Nat.add_zero, e0]; exact hr⟩
    | succ j =>
      have := h3 j o' (by simpa using hj)
      rwa [show env.length + 1 + j = env.length + (j + 1) from by omega] at this
theorem wp_any_tail2 {a0 : Act} {Q : Exit → Act → World → Prop} {l2 : List Oper} (hops : ops.toList = l1 ++ l2) (hd : Ev.distinct l1 = true) (hb : backB ops = true) (ht : tailB ops l1.length = true) (full : List Fact) (hlen : full.length = l1.length) (hS : ∀ i ∈ S, i < l1.length)
    (hE : ∀ w, E w w) (hC : ∀ w w', E w w' → C w → C w')
    (hr : ∀ j o, l1[j]? = some o → ∃ A, full[j]? = some A ∧ Stable E A ∧ Asked P ops l1 C E S a0 o (full.take j) A j)
    (hQ : ∀ u w, C w → factsFrom u w 0 full → Apart S u → wpList P ops Q l2 (putU l1 0 u a0) w) :
    ∀ (fuel : Nat) (listed : Array Bool) (u : Nat → Value) (w : World), listed.size = ops.size → C w → (∀ (i : Nat), listed[i]? = some true → (full.getD i (fun _ _ => True)) (u i) w) → (∀ (i j : Nat), listed[i]? = some true → listed[j]? = some true → i ∈ S → j ∈ S → i ≠ j → D (u i) (u j)) → Closed ops listed →
      (∀ (i : Nat), l1.length ≤ i → i < ops.size → listed[i]? = some false) → listed.count false ≤ fuel → wpAny P .any ops Q fuel listed (putU l1 0 u a0) w := by
  have hsz : ops.size = l1.length + l2.length := by have := congrArg List.length hops; simpa using this
  have hget : ∀ (j : Nat), j < l1.length → ops[j]? = l1[j]? := fun j hj => by
    have : ops.toList[j]? = (l1 ++ l2)[j]? := by rw [hops]
    rw [List.getElem?_append_left hj] at this
    simpa using this
  have fin : ∀ (fuel : Nat) (listed : Array Bool) (u : Nat → Value) (w : World), listed.size = ops.size → C w → (∀ (i : Nat), listed[i]? = some true → (full.getD i (fun _ _ => True)) (u i) w) → (∀ (i j : Nat), listed[i]? = some true → listed[j]? = some true → i ∈ S → j ∈ S → i ≠ j → D (u i) (u j)) → Closed ops listed →
      (∀ (i : Nat), l1.length ≤ i → i < ops.size → listed[i]? = some false) → l2.length ≤ fuel → (∀ (i : Nat), i < l1.length → listed[i]? = some true) → wpAny P .any ops Q fuel listed (putU l1 0 u a0) w := fun fuel listed u w hs hc hf hap hcl hun hfu hall => by
    refine seq_any hb ht l2.length fuel l1.length listed _ w hsz hfu (Nat.le_refl _) hs hall hun hcl ?_
    have h1 := wpOps_eq_wpList (P := P) (ops := ops) (Q := Q) l2 l1.length (fun j => by
      have : ops.toList[l1.length + j]? = (l1 ++ l2)[l1.length + j]? := by rw [hops]
      rw [List.getElem?_append_right (by omega), Nat.add_sub_cancel_left] at this
      simpa using this.symm)
    rw [h1]
    exact hQ u w hc (factsFrom_of full 0 fun i A hi => by
      have hlt : i < l1.length := by rw [← hlen]; exact (List.getElem?_eq_some_iff.1 hi).1
      have := hf i (hall i hlt)
      rw [List.getD_eq_getElem?_getD, hi] at this
      simpa using this) (fun i hi j hj hne => hap i j (hall i (hS i hi)) (hall j (hS j hj)) hi hj hne)
  have cnt2 : ∀ (listed : Array Bool), listed.size = ops.size → (∀ (i : Nat), l1.length ≤ i → i < ops.size → listed[i]? = some false) → l2.length ≤ listed.count false := fun listed hs hun => by
    have e : listed.toList = listed.toList.take l1.length ++ List.replicate l2.length false := by
      apply List.ext_getElem?
      intro i
      rcases Nat.lt_or_ge i l1.length with h | h
      · rw [List.getElem?_append_left (by simp; omega), List.getElem?_take_of_lt h]
      · rw [List.getElem?_append_right (by simp; omega)]
        rcases Nat.lt_or_ge i ops.size with h2 | h2
        · have := hun i h h2
          have e1 : listed.toList[i]? = some false := by simpa using this
          rw [e1, List.getElem?_replicate, if_pos (by simp; omega)]
        · rw [List.getElem?_eq_none (by simp; omega), List.getElem?_eq_none (by simp; omega)]
    have : listed.count false = listed.toList.count false := by rw [Array.count_toList]
    rw [this, e, List.count_append]
    simp
  intro fuel
  induction fuel with
  | zero =>
    intro listed u w hs hc hf hap hcl hun hn
    have h2 := cnt2 listed hs hun
    refine fin 0 listed u w hs hc hf hap hcl hun (by omega) (fun i hi => ?_)
    cases hl : listed[i]? with
    | none => rw [Array.getElem?_eq_none_iff] at hl; omega
    | some b =>
      cases b with
      | true => rfl
      | false =>
        have : false ∈ listed := Array.mem_of_getElem? hl
        have := Array.count_pos_iff.2 this
        omega
  | succ fuel ih =>
    intro listed u w hs hc hf hap hcl hun hn
    by_cases hall : ∀ (i : Nat), i < l1.length → listed[i]? = some true
    · exact fin (fuel + 1) listed u w hs hc hf hap hcl hun (Nat.le_trans (cnt2 listed hs hun) hn) hall
    refine ⟨fun h0 => ?_, fun j hj => ?_⟩
    · exfalso
      apply hall
      intro i
      induction i using Nat.strongRecOn with
      | _ i ih' =>
        intro hi
        cases hl : listed[i]? with
        | none => rw [Array.getElem?_eq_none_iff] at hl; omega
        | some b =>
          cases b with
          | true => rfl
          | false =>
            have := ready_of_least hb hs (by omega) hl (fun k hk => ih' k hk (by omega))
            rw [h0] at this
            cases this
    obtain ⟨hju, o, ho, hdone⟩ := mem_ready.1 hj
    have hjo : j < ops.size := (Array.getElem?_eq_some_iff.1 ho).1
    have hlt : j < listed.size := by omega
    have hjl : listed[j]? = some false := by simp [Array.getD, hlt] at hju; simp [hlt, hju]
    have hj1 : j < l1.length := by
      rcases Nat.lt_or_ge j l1.length with h | h
      · exact h
      · exact (hall fun i hi => ready_all ht hcl hj h i (by omega)).elim
    rw [hget j hj1] at ho
    obtain ⟨A, hA, hst, hrule⟩ := hr j o ho
    have hdl : ∀ d ∈ depsOf o, listed[d]? = some true := deps_listed hdone
    have hlt2 : ∀ d ∈ depsOf o, d < j := fun d hd => by
      obtain ⟨e, he, hbe, rfl⟩ := mem_deps hd
      have h1 := List.all_eq_true.1 hb j (List.mem_range.2 hjo)
      rw [hget j hj1, ho] at h1
      have h2 := Array.all_eq_true_iff_forall_mem.1 h1 e (by simpa using he)
      rw [hbe] at h2
      simpa using h2
    have hdeps : facts (full.take j) u w (depsOf o) := by
      rw [facts_mem]
      intro d hd
      have hf' := hf d (hdl d hd)
      simp only [List.getD_eq_getElem?_getD, List.getElem?_take_of_lt (hlt2 d hd)] at hf' ⊢
      exact hf'
    have step : ∀ v w', E w w' → A v w' → (j ∈ S → Fresh v w) → wpAny P .any ops Q fuel (listed.setIfInBounds j true) ((putU l1 0 u a0).put o.dst v) w' := by
      intro v w' hE' hAv hfr
      rw [putU_upd v l1 0 u a0 j o hd ho, Nat.zero_add]
      have hold : ∀ (i : Nat), i ≠ j → (listed.setIfInBounds j true)[i]? = listed[i]? := fun i hij => by
        rw [Array.getElem?_setIfInBounds, if_neg (Ne.symm hij)]
      refine ih _ _ _ (by simpa using hs) (hC _ _ hE' hc) (fun i hi => ?_) ?_ (fun i o' hi ho' d hd' => ?_) (fun i hi hi2 => ?_) ?_
      · by_cases hij : i = j
        · subst hij
          have : upd u i v i = v := by simp [upd]
          rw [this, List.getD_eq_getElem?_getD, hA]
          exact hAv
        · have h1 : upd u j v i = u i := by simp [upd, hij]
          have h2 : listed[i]? = some true := by rw [← hold i hij]; exact hi
          rw [h1]
          have hold' := hf i h2
          have hi' : i < l1.length := by
            rcases Nat.lt_or_ge i l1.length with h | h
            · exact h
            · have hi3 : i < ops.size := by rw [← hs]; exact (Array.getElem?_eq_some_iff.1 h2).1
              have := hun i h hi3
              rw [h2] at this; cases this
          obtain ⟨B, hB, hBs, _⟩ := hr i _ (List.getElem?_eq_getElem hi')
          rw [List.getD_eq_getElem?_getD, hB] at hold' ⊢
          exact hBs _ _ _ hE' hold'
      · intro i k hi hk hiS hkS hne
        have old : ∀ x, x ≠ j → x ∈ S → (listed.setIfInBounds j true)[x]? = some true → listed[x]? = some true ∧ upd u j v x = u x ∧ Old (u x) w := fun x hxj hxS hx => by
          rw [hold x hxj] at hx
          refine ⟨hx, by simp [upd, hxj], ?_⟩
          obtain ⟨B, hB, hBs, hBr⟩ := hr x _ (List.getElem?_eq_getElem (hS x hxS))
          have hfx := hf x hx
          rw [List.getD_eq_getElem?_getD, hB] at hfx
          unfold Asked at hBr
          rw [if_pos (by simpa using hxS)] at hBr
          exact hBr.1 _ _ hfx
        by_cases hij : i = j
        · subst hij
          obtain ⟨h1, h2, h3⟩ := old k (Ne.symm hne) hkS hk
          rw [h2, show upd u i v i = v from by simp [upd]]
          exact (D.mk h3 (hfr hiS)).2
        · by_cases hkj : k = j
          · subst hkj
            obtain ⟨h1, h2, h3⟩ := old i hij hiS hi
            rw [h2, show upd u k v k = v from by simp [upd]]
            exact (D.mk h3 (hfr hkS)).1
          · obtain ⟨h1, h2, h3⟩ := old i hij hiS hi
            obtain ⟨g1, g2, g3⟩ := old k hkj hkS hk
            rw [h2, g2]
            exact hap i k h1 g1 hiS hkS hne
      · have keep : ∀ (y : Nat), listed[y]? = some true → (listed.setIfInBounds j true)[y]? = some true := fun y hy => by
          by_cases e : y = j
          · subst e; simp [hlt]
          · rw [hold y e]; exact hy
        by_cases hij : i = j
        · subst hij
          rw [hget i hj1, ho] at ho'
          cases ho'
          exact keep d (hdl d hd')
        · rw [hold i hij] at hi
          exact keep d (hcl i o' hi ho' d hd')
      · rw [hold i (by omega)]
        exact hun i hi hi2
      · have hcnt : (listed.setIfInBounds j true).count false + 1 = listed.count false := by
          have := Array.count_set (xs := listed) (i := j) (a := true) (b := false) hlt
          rw [Array.setIfInBounds, dif_pos hlt]
          have h3 : listed[j] = false := by simpa [hlt] using hjl
          have h4 : 0 < listed.count false := Array.count_pos_iff.2 (Array.mem_iff_getElem.2 ⟨j, hlt, h3⟩)
          rw [this]
          simp [h3]
          omega
        omega
    have hgo : (if Region.wanted o (yielded ops (putU l1 0 u a0).tmps) then ∀ K : Value → World → Prop, (∀ v w', E w w' → A v w' → (j ∈ S → Fresh v w) → K v w') → upon P K ((execOp (putU l1 0 u a0).eval o).run P w) else A undef w) := by
      unfold Asked at hrule
      by_cases hjS : S.contains j = true
      · rw [if_pos hjS] at hrule
        have := hrule.2 u w hc hdeps
        split
        · rename_i hw; rw [if_pos hw] at this
          exact fun K hK => this K fun v w' h1 h2 h3 => hK v w' h1 h2 (fun _ => h3)
        · rename_i hw; rw [if_neg hw] at this; exact this
      · rw [if_neg hjS] at hrule
        have := hrule u w hc hdeps
        split
        · rename_i hw; rw [if_pos hw] at this
          exact fun K hK => this K fun v w' h1 h2 => hK v w' h1 h2 (fun h => (hjS (by simpa using h)).elim)
        · rename_i hw; rw [if_neg hw] at this; exact this
    unfold wpOp
    rw [hget j hj1]
    simp only [ho]
    split
    · rename_i hw
      rw [if_pos hw] at hgo
      refine .inl ?_
      have h2 := hgo (fun v w' => wpAny P .any ops Q fuel (listed.setIfInBounds j true) ((putU l1 0 u a0).put o.dst v) w') step
      unfold Oper.wp
      generalize (execOp (putU l1 0 u a0).eval o).run P w = r at *
      cases r with
      | ok n w' =>
        cases n <;> simp only [upon] at h2 <;> simp only [Oper.upon]
        case value => exact h2
        case skip => exact h2
        case enter f args => exact h2.mono fun e w'' ⟨v, he, hk⟩ => by subst he; exact hk
      | halt x w' => simp only [upon] at h2
    · rename_i hw
      rw [if_neg hw] at hgo
      exact step undef w (hE w) hgo (fun _ b h => by simp [blk, undef] at h)
/-- A region that draws its order: the operations of l1, each walked once; behind them those of l2, one behind the other. -/
theorem wp_region_tail2 {id : Nat} {Q : Exit → Act → World → Prop} {a : Act} {w : World} {l : List Oper} (C : World → Prop) (E : World → World → Prop) (S : List Nat) (n : Nat) (hm : P.follows .mixedOrders = true) (hok : (S.all (fun i => i < (l.take n).length) && Ev.distinct (l.take n) && backB l.toArray && tailB l.toArray (l.take n).length) = true)
    (hE : ∀ w, E w w) (hC : ∀ w w', E w w' → C w → C w') (h0 : C { w with drawn := w.drawn + 1 })
    (h : walk2 P l.toArray (l.take n) C E S a (fun a' w' => wpList P l.toArray Q (l.drop n) a' w') (l.take n) []) : (Code.region id l.toArray true).wp P Q a w := by
  simp only [Bool.and_eq_true] at hok
  obtain ⟨⟨⟨hS, hd⟩, hb⟩, ht⟩ := hok
  obtain ⟨full, h1, _, h3, h4⟩ := walk2_env (l.take n) [] h
  simp only [List.length_nil, Nat.zero_add] at h1 h3
  refine wp_region_any hm ?_
  have hself : putU (l.take n) 0 (u0 a (l.take n).toArray) a = a := putU_self a (l.take n) 0 (fun j => by simp)
  have := wp_any_tail2 (P := P) (ops := l.toArray) (l1 := l.take n) (C := C) (E := E) (a0 := a) (Q := Q) (l2 := l.drop n) (S := S) (by simp) hd hb ht full (by simpa using h1) (fun i hi => by simpa using List.all_eq_true.1 hS i hi) hE hC (fun j o hj => h3 j o hj) h4
    l.toArray.size (Array.replicate l.toArray.size false) (u0 a (l.take n).toArray) _ (by simp) h0
    (fun i hi => by rw [Array.getElem?_replicate] at hi; split at hi <;> cases hi) (fun i _ hi => by rw [Array.getElem?_replicate] at hi; split at hi <;> cases hi) (fun i o hi => by rw [Array.getElem?_replicate] at hi; split at hi <;> cases hi)
    (fun i _ hi => by rw [Array.getElem?_replicate, if_pos (by simpa using hi)]) (by simp)
  rwa [hself] at this
/-- One operation that yields the one value 'c'. -/
theorem walk2_eq {ops : Array Oper} {l1 : List Oper} {C : World → Prop} {E : World → World → Prop} {S : List Nat} {a0 : Act} {Q : Act → World → Prop} {o : Oper} {r : List Oper} {env : List Fact} (c : Value) (hS : S.contains env.length = false)
    (h : ∀ u w, C w → facts env u w (depsOf o) →
      if Region.wanted o (yielded ops (putU l1 0 u a0).tmps) then ∀ K : Value → World → Prop, (∀ w', E w w' → K c w') → upon P K ((execOp (putU l1 0 u a0).eval o).run P w)
      else c = undef)
    (hr : walk2 P ops l1 C E S a0 Q r (env ++ [fun v _ => v = c])) : walk2 P ops l1 C E S a0 Q (o :: r) env :=
  ⟨_, fun _ _ _ _ h => h, by
    unfold Asked
    rw [hS]
    intro u w hc hf
    have := h u w hc hf
    split
    · rename_i hw
      rw [if_pos hw] at this
      exact fun K hK => this K (fun w' he => hK c w' he rfl)
    · rename_i hw
      rw [if_neg hw] at this
      exact this.symm, hr⟩
/-- One operation of which a fact is known. -/
theorem walk2_rel {ops : Array Oper} {l1 : List Oper} {C : World → Prop} {E : World → World → Prop} {S : List Nat} {a0 : Act} {Q : Act → World → Prop} {o : Oper} {r : List Oper} {env : List Fact} (A : Fact) (hs : Stable E A) (hS : S.contains env.length = false)
    (h : Rule P ops l1 C E a0 o env A) (hr : walk2 P ops l1 C E S a0 Q r (env ++ [A])) : walk2 P ops l1 C E S a0 Q (o :: r) env := ⟨A, hs, by unfold Asked; rw [hS]; exact h, hr⟩
/-- One operation that makes memory. -/
theorem walk2_new {ops : Array Oper} {l1 : List Oper} {C : World → Prop} {E : World → World → Prop} {S : List Nat} {a0 : Act} {Q : Act → World → Prop} {o : Oper} {r : List Oper} {env : List Fact} (A : Fact) (hs : Stable E A) (ho : ∀ v w, A v w → Old v w) (hS : S.contains env.length = true)
    (h : RuleN P ops l1 C E a0 o env A) (hr : walk2 P ops l1 C E S a0 Q r (env ++ [A])) : walk2 P ops l1 C E S a0 Q (o :: r) env := ⟨A, hs, by unfold Asked; rw [hS]; exact ⟨ho, h⟩, hr⟩
/-- A variable that was just made. -/
def NewBox (B : Nat) (cells : Array Value) (T : TypeId) (v : Value) (w : World) : Prop := ∃ b, v = .pointer (some ⟨b, 0, none⟩) ∧ B ≤ b ∧ w.heap[b]? = some (.cells cells T)
theorem NewBox.stable {B : Nat} {cells : Array Value} {T : TypeId} : Ev.Stable Ev.Ext (NewBox B cells T) := fun v w w' h ⟨b, e, hb, hc⟩ => ⟨b, e, hb, by rw [h.block b (Array.getElem?_eq_some_iff.1 hc).1]; exact hc⟩
theorem NewBox.old {B : Nat} {cells : Array Value} {T : TypeId} : ∀ v w, NewBox B cells T v w → Old v w := fun v w ⟨b, e, hb, hc⟩ c h => by
  subst e
  simp [blk] at h
  subst h
  exact (Array.getElem?_eq_some_iff.1 hc).1
theorem fresh_ptr (w : World) : Fresh (.pointer (some ⟨w.heap.size, 0, none⟩)) w := fun b h => by simp [blk] at h; omega
end Go.Proofs.Ytbdejgbjelfbeaa.Ev2
