/- Abstract states: a region that draws its order: pure operations ahead, in whichever order; behind them order by order. -/
import Derived.Test.YtkmjiaegbooplaaADr
set_option linter.unusedSimpArgs false
set_option linter.unusedVariables false
namespace Go.Proofs.Ytkmjiaegbooplaa.A
open Go Go.RowKit
/-- From n on all wait for what stands ahead of n. -/
def preB (ops : Array Oper) (n : Nat) : Bool := (List.range ops.size).all fun j => decide (j < n) || (List.range n).all fun i => (Ev.anc ops j (match ops[j]? with | some o => Ev.depsOf o | none => [])).contains i
theorem pre_ready {ops : Array Oper} {listed : Array Bool} {n j : Nat} (ht : preB ops n = true) (hc : Ev.Closed ops listed) (hj : j ∈ Region.ready .any ops listed) (hk : n ≤ j) : ∀ i, i < n → listed[i]? = some true := by
  obtain ⟨_, o, ho, hall⟩ := mem_ready.1 hj
  have hlt : j < ops.size := (Array.getElem?_eq_some_iff.1 ho).1
  have h1 := List.all_eq_true.1 ht j (List.mem_range.2 hlt)
  rw [ho] at h1
  simp only [Bool.or_eq_true, decide_eq_true_eq, List.all_eq_true] at h1
  intro i hi
  have h2 := (h1.resolve_left (by omega)) i (List.mem_range.2 hi)
  exact Ev.anc_listed hc j _ (Ev.deps_listed hall) i (by simpa using h2)
def drawPB (N : Nat) (l : List Oper) (n : Nat) : Bool := Ev.distinct (l.take n) && Ev.backB l.toArray && preB l.toArray n && drB N l n && (l.take n).all fun o => match o.dst with | some d => decide (d < N) | none => false
section
variable {P : Program} {N : Nat} {M0 : Nat → Prop} {w0 : Base} {Q : Exit → ASt → Prop} {st : ASt}
theorem drawP_go {l : List Oper} {n m : Nat} {ss : Nat → SV} (hok : drawPB N l n = true) (hnm : l.length = n + m)
    (hst : ∀ i o, (l.take n)[i]? = some o → ∃ d, o.dst = some d ∧ St P l.toArray (stL (l.take n) ss (fun x => decide (x < i)) st) o (ss i))
    (hfin : Ad P N M0 w0 l.toArray Q m (List.replicate n true ++ List.replicate m false).toArray (stL (l.take n) ss (fun _ => true) st)) :
    ∀ (fuel : Nat) (listed : Array Bool), listed.size = l.length → Ev.Closed l.toArray listed → (∀ i, n ≤ i → i < l.length → listed[i]? = some false) → listed.count false = fuel →
      Ad P N M0 w0 l.toArray Q fuel listed (stL (l.take n) ss (fun i => listed.getD i false) st) := by
  simp only [drawPB, Bool.and_eq_true] at hok
  obtain ⟨⟨⟨⟨hd, hb⟩, ht⟩, hdr⟩, hds⟩ := hok
  have hsz : l.toArray.size = l.length := by simp
  have hget : ∀ (j : Nat), l.toArray[j]? = l[j]? := fun j => by simp
  have htk : ∀ (j : Nat), j < n → (l.take n)[j]? = l[j]? := fun j hj => by rw [List.getElem?_take, if_pos hj]
  have hlen : (l.take n).length = n := by simp; omega
  have fin : ∀ (fuel : Nat) (listed : Array Bool), listed.size = l.length → (∀ i, n ≤ i → i < l.length → listed[i]? = some false) → listed.count false = fuel → (∀ i, i < n → listed[i]? = some true) →
      Ad P N M0 w0 l.toArray Q fuel listed (stL (l.take n) ss (fun i => listed.getD i false) st) := by
    intro fuel listed hs hun hfu hall
    have e1 : listed = (List.replicate n true ++ List.replicate m false).toArray := by
      apply Array.ext'
      apply List.ext_getElem?
      intro i
      rw [Array.getElem?_toList]
      rcases Nat.lt_or_ge i n with h | h
      · rw [hall i h, List.getElem?_append_left (by simpa using h), List.getElem?_replicate, if_pos h]
      · rw [List.getElem?_append_right (by simpa using h), List.getElem?_replicate, List.length_replicate]
        rcases Nat.lt_or_ge i l.length with h2 | h2
        · rw [hun i h h2, if_pos (by omega)]
        · rw [if_neg (by omega), Array.getElem?_eq_none (by omega)]
    have e2 : fuel = m := by rw [← hfu, e1]; simp [List.count_replicate]
    have e : stL (l.take n) ss (fun i => listed.getD i false) st = stL (l.take n) ss (fun _ => true) st := stL_congr (fun i hi => by
      have := hall i (by omega)
      simp [Array.getD_eq_getD_getElem?, this]) (fun _ _ _ => rfl)
    rw [e, e2, e1]
    exact hfin
  intro fuel
  induction fuel with
  | zero =>
    intro listed hs hcl hun hn
    refine fin 0 listed hs hun hn fun i hi => ?_
    cases hl : listed[i]? with
    | none => rw [Array.getElem?_eq_none_iff] at hl; omega
    | some b =>
      cases b with
      | true => rfl
      | false =>
        have : false ∈ listed := Array.mem_of_getElem? hl
        have := Array.count_pos_iff.2 this
        omega
  | succ fuel ih =>
    intro listed hs hcl hun hn
    by_cases hall : ∀ (i : Nat), i < n → listed[i]? = some true
    · exact fin (fuel + 1) listed hs hun hn hall
    refine ⟨fun a w hsim => ⟨fun h0 => ?_, fun j hj => ?_⟩⟩
    · exfalso
      apply hall
      intro i
      induction i using Nat.strongRecOn with
      | _ i ih' =>
        intro hi
        cases hl : listed[i]? with
        | none => rw [Array.getElem?_eq_none_iff] at hl; omega
        | some b =>
          cases b with
          | true => rfl
          | false =>
            have := Ev.ready_of_least hb (by simpa using hs) (by simp; omega) hl (fun k hk => ih' k hk (by omega))
            rw [h0] at this
            cases this
    obtain ⟨hju, o, hoj, hdone⟩ := mem_ready.1 hj
    have hjo : j < l.length := by
      have := (Array.getElem?_eq_some_iff.1 hoj).1
      simpa using this
    have hlt : j < listed.size := by omega
    have hjl : listed[j]? = some false := by simp [Array.getD, hlt] at hju; simp [hlt, hju]
    have hjn' : j < n := by
      rcases Nat.lt_or_ge j n with h | h
      · exact h
      · exact (hall (pre_ready ht hcl hj h)).elim
    have hoj' : l[j]? = some o := by rw [← hget]; exact hoj
    have hdl : ∀ d ∈ Ev.depsOf o, listed[d]? = some true := Ev.deps_listed hdone
    have hold : ∀ (i : Nat), i ≠ j → (listed.setIfInBounds j true)[i]? = listed[i]? := fun i hij => by
      rw [Array.getElem?_setIfInBounds, if_neg (Ne.symm hij)]
    have hcl' : Ev.Closed l.toArray (listed.setIfInBounds j true) := fun i o' hi ho' d hd' => by
      have keep : ∀ (y : Nat), listed[y]? = some true → (listed.setIfInBounds j true)[y]? = some true := fun y hy => by
        by_cases e : y = j
        · subst e; simp [hlt]
        · rw [hold y e]; exact hy
      by_cases hij : i = j
      · subst hij
        rw [hoj] at ho'
        cases ho'
        exact keep d (hdl d hd')
      · rw [hold i hij] at hi
        exact keep d (hcl i o' hi ho' d hd')
    have hcnt : (listed.setIfInBounds j true).count false = fuel := by
      have := Array.count_set (xs := listed) (i := j) (a := true) (b := false) hlt
      rw [Array.setIfInBounds, dif_pos hlt]
      have h3 : listed[j] = false := by simpa [hlt] using hjl
      have h4 : 0 < listed.count false := Array.count_pos_iff.2 (Array.mem_iff_getElem.2 ⟨j, hlt, h3⟩)
      rw [this]
      simp [h3]
      omega
    have hLL : ∀ i, (listed.setIfInBounds j true).getD i false = (listed.getD i false || decide (i = j)) := fun i => by
      by_cases e : i = j
      · subst e; simp [Array.getD_eq_getD_getElem?, hlt]
      · simp [Array.getD_eq_getD_getElem?, hold i e, e]
    have hun' : ∀ i, n ≤ i → i < l.length → (listed.setIfInBounds j true)[i]? = some false := fun i h1 h2 => by
      rw [hold i (by omega)]; exact hun i h1 h2
    have hjt : (l.take n)[j]? = some o := by rw [htk j hjn']; exact hoj'
    obtain ⟨d, hdo, hS⟩ := hst j o hjt
    have hmem : o ∈ l.take n := List.mem_of_getElem? hjt
    have hdN := List.all_eq_true.1 hds o hmem
    rw [hdo] at hdN
    simp only [decide_eq_true_eq] at hdN
    have hdrj := List.all_eq_true.1 hdr j (List.mem_range.2 hjn')
    rw [hoj'] at hdrj
    simp only [Bool.and_eq_true] at hdrj
    obtain ⟨⟨hops, hgd⟩, hconst⟩ := hdrj
    have hsl : ∀ t, opB (l.take n) j o t = true → (stL (l.take n) ss (fun i => listed.getD i false) st).sl t = (stL (l.take n) ss (fun x => decide (x < j)) st).sl t := by
      intro t hop
      by_cases hin : inB (l.take n) t = true
      · simp only [opB, hin, Bool.not_true, Bool.false_or, List.any_eq_true, List.mem_range, Bool.and_eq_true, beq_iff_eq] at hop
        obtain ⟨i, hi, hid, hic⟩ := hop
        obtain ⟨oi, hoi, hoid⟩ := Option.bind_eq_some_iff.1 hid
        have hli := hdl i (by simpa using hic)
        rw [stL_at hd hoi hoid (by simp [Array.getD_eq_getD_getElem?, hli]), stL_at hd hoi hoid (by simpa using hi)]
      · have hout : ∀ (i : Nat) (o' : Oper), (l.take n)[i]? = some o' → o'.dst ≠ some t := fun i o' h1 h2 => hin (by
          simp only [inB, List.any_eq_true, beq_iff_eq]
          exact ⟨o', List.mem_of_getElem? h1, h2⟩)
        rw [stL_out fun i o' h1 h2 => absurd h2 (hout i o' h1), stL_out fun i o' h1 h2 => absurd h2 (hout i o' h1)]
    have hS2 : St P l.toArray (stL (l.take n) ss (fun i => listed.getD i false) st) o (ss j) := by
      refine St_frame hS (fun x hx => ?_) (fun j' b oj dj h1 h2 h3 => ?_) (fun k g ob h => h)
      · cases x with
        | tmp t => exact hsl t (List.all_eq_true.1 hops _ hx)
        | _ => rfl
      · rw [hget] at h2
        rw [h1] at hgd
        simp only [h2, h3, Bool.and_eq_true, decide_eq_true_eq] at hgd
        exact hsl dj hgd.1
    refine wpOp_of_list hoj ((Al_st (l := []) (Q := Then (Ad P N M0 w0 l.toArray Q fuel (listed.setIfInBounds j true)) Q) hS2 hdo hdN hconst (fun j' b oj dj h1 h2 h3 => ?_) (Al_nil ?_)).out a w hsim) (fun a' w' ⟨st', h1, h2⟩ => h1.out a' w' h2) (fun c a' w' h => h) (fun ⟨a', w', h⟩ => ⟨a', w', h⟩)
    · rw [hget] at h2
      rw [h1] at hgd
      simp only [h2, h3, Bool.and_eq_true, decide_eq_true_eq] at hgd
      exact hgd.2
    · have := ih (listed.setIfInBounds j true) (by simpa using hs) hcl' hun' hcnt
      have e2 : (stL (l.take n) ss (fun i => listed.getD i false) st).set d (ss j) = stL (l.take n) ss (fun i => (listed.setIfInBounds j true).getD i false) st := stL_set hd hjt hdo hLL
      show Ad P N M0 w0 l.toArray Q fuel (listed.setIfInBounds j true) _
      rw [e2]
      exact this
/-- A region that draws its order: pure operations ahead; the rest is walked order by order. -/
theorem Aw_drawP {id : Nat} {l : List Oper} (n m : Nat) (hm : P.follows .mixedOrders = true) (hok : drawPB N l n = true) (hnm : l.length = n + m)
    (h : Dr P l.toArray (fun st' => Ad P N M0 w0 l.toArray Q m (List.replicate n true ++ List.replicate m false).toArray st') (l.take n) st) : Aw P N M0 w0 (.region id l.toArray true) Q st := by
  have hd : Ev.distinct (l.take n) = true := by
    simp only [drawPB, Bool.and_eq_true] at hok
    exact hok.1.1.1.1
  have h0 : stL (l.take n) (fun _ => .any) (fun i => decide (i < 0)) st = st := by
    refine Eq.trans (stL_congr (fun i _ => ?_) (fun _ _ _ => rfl)) (stL_none (l := l.take n) (ss := fun _ => .any) (st := st))
    simp
  obtain ⟨ss, _, h2, h3⟩ := dr_all hd (l.take n) 0 (fun _ => .any) rfl (by rw [h0]; exact h)
  refine Aw_drawn hm ?_
  have := drawP_go hok hnm (fun i o hi => h2 i o (Nat.zero_le _) hi) h3 l.length (List.replicate l.length false).toArray (by simp) (fun i o h1 _ d _ => by
    exfalso
    rw [List.getElem?_toArray, List.getElem?_replicate] at h1
    split at h1 <;> simp at h1) (fun i _ hi => by simp [List.getElem?_replicate, hi]) (by simp [Array.count_replicate])
  have e : stL (l.take n) ss (fun i => (List.replicate l.length false).toArray.getD i false) st = st := by
    refine Eq.trans (stL_congr (fun i _ => ?_) (fun _ _ _ => rfl)) stL_none
    rw [Array.getD_eq_getD_getElem?, List.getElem?_toArray, List.getElem?_replicate]
    split <;> rfl
  rw [e] at this
  exact this
end
end Go.Proofs.Ytkmjiaegbooplaa.A
