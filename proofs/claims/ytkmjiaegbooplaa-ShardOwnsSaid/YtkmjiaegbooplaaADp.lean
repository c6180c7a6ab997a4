/- Abstract states: a region that draws its order: pure operations ahead, in whichever order; behind them order by order. -/
import Derived.Test.YtkmjiaegbooplaaADr
set_option linter.unusedSimpArgs false
set_option linter.unusedVariables false
namespace Go.Proofs.Ytkmjiaegbooplaa.A
open Go Go.RowKit
/-- From n on all wait for what stands ahead of n. -/
def preB (ops : Array Oper) (n : Nat) : Bool := (List.range ops.size).all fun j => decide (j < n) || (List.range n).all fun i => (Ev.anc ops j (match ops[j]? with | some o => Ev.depsOf o | none => [])).contains i
theorem pre_ready {ops : Array Oper} {listed : Array Bool} {n j : Nat} (ht : preB ops n = true) (hc : Ev.Closed ops listed) (hj : j ∈ Region.ready .any ops listed) (hk : n ≤ j) : ∀ i, i < n → listed[i]? = some true := by
  obtain ⟨_, o, ho, hall⟩ := mem_ready.1 hj
  have hlt : j < ops.size := (Array.getElem?_eq_some_iff.1 ho).1
  have h1 := List.all_eq_true.1 ht j (List.mem_range.2 hlt)
  rw [ho] at h1
  simp only [Bool.or_eq_true, decide_eq_true_eq, List.all_eq_true] at h1
  intro i hi
  have h2 := (h1.resolve_left (by omega)) i (List.mem_range.2 hi)
  exact Ev.anc_listed hc j _ (Ev.deps_listed hall) i (by simpa using h2)
def drawPB (N : Nat) (l : List Oper) (n : Nat) : Bool := Ev.distinct (l.take n) && Ev.backB l.toArray && preB l.toArray n && drB N l n && (l.take n).all fun o => match o.dst with | some d => decide (d < N) | none => false
theorem back_lt {ops : Array Oper} {i d : Nat} {o : Oper} (hb : Ev.backB ops = true) (ho : ops[i]? = some o) (hd : d ∈ Ev.depsOf o) : d < i := by
  have hlt : i < ops.size := (Array.getElem?_eq_some_iff.1 ho).1
  have h1 := List.all_eq_true.1 hb i (List.mem_range.2 hlt)
  rw [ho] at h1
  simp only [Array.all_eq_true_iff_forall_mem, Bool.or_eq_true, Bool.not_eq_true', decide_eq_true_eq] at h1
  obtain ⟨e, he, hbi, rfl⟩ := Ev.mem_deps hd
  rcases h1 e (by simpa using he) with h | h
  · rw [h] at hbi; cases hbi
  · exact h
section
variable {P : Program} {N : Nat} {M0 : Nat → Prop} {w0 : Base} {Q : Exit → ASt → Prop} {st : ASt}
theorem drawP_go {l : List Oper} {k0 n m : Nat} {ss : Nat → SV} (hok : drawPB N l n = true) (hnm : l.length = n + m)
    (hst : ∀ i o, k0 ≤ i → (l.take n)[i]? = some o → ∃ d, o.dst = some d ∧ St P l.toArray (stL (l.take n) ss (fun x => decide (k0 ≤ x) && decide (x < i)) st) o (ss i))
    (hfin : Ad P N M0 w0 l.toArray Q m (List.replicate n true ++ List.replicate m false).toArray (stL (l.take n) ss (fun x => decide (k0 ≤ x)) st)) :
    ∀ (fuel : Nat) (listed : Array Bool), listed.size = l.length → Ev.Closed l.toArray listed → (∀ i, i < k0 → listed[i]? = some true) → (∀ i, n ≤ i → i < l.length → listed[i]? = some false) → listed.count false = fuel →
      Ad P N M0 w0 l.toArray Q fuel listed (stL (l.take n) ss (fun i => decide (k0 ≤ i) && listed.getD i false) st) := by
  simp only [drawPB, Bool.and_eq_true] at hok
  obtain ⟨⟨⟨⟨hd, hb⟩, ht⟩, hdr⟩, hds⟩ := hok
  have hsz : l.toArray.size = l.length := by simp
  have hget : ∀ (j : Nat), l.toArray[j]? = l[j]? := fun j => by simp
  have htk : ∀ (j : Nat), j < n → (l.take n)[j]? = l[j]? := fun j hj => by rw [List.getElem?_take, if_pos hj]
  have hlen : (l.take n).length = n := by simp; omega
  have fin : ∀ (fuel : Nat) (listed : Array Bool), listed.size = l.length → (∀ i, n ≤ i → i < l.length → listed[i]? = some false) → listed.count false = fuel → (∀ i, i < n → listed[i]? = some true) →
      Ad P N M0 w0 l.toArray Q fuel listed (stL (l.take n) ss (fun i => decide (k0 ≤ i) && listed.getD i false) st) := by
    intro fuel listed hs hun hfu hall
    have e1 : listed = (List.replicate n true ++ List.replicate m false).toArray := by
      apply Array.ext'
      apply List.ext_getElem?
      intro i
      rw [Array.getElem?_toList]
      rcases Nat.lt_or_ge i n with h | h
      · rw [hall i h, List.getElem?_append_left (by simpa using h), List.getElem?_replicate, if_pos h]
      · rw [List.getElem?_append_right (by simpa using h), List.getElem?_replicate, List.length_replicate]
        rcases Nat.lt_or_ge i l.length with h2 | h2
        · rw [hun i h h2, if_pos (by omega)]
        · rw [if_neg (by omega), Array.getElem?_eq_none (by omega)]
    have e2 : fuel = m := by rw [← hfu, e1]; simp [List.count_replicate]
    have e : stL (l.take n) ss (fun i => decide (k0 ≤ i) && listed.getD i false) st = stL (l.take n) ss (fun x => decide (k0 ≤ x)) st := stL_congr (fun i hi => by
      have := hall i (by omega)
      simp [Array.getD_eq_getD_getElem?, this]) (fun _ _ _ => rfl)
    rw [e, e2, e1]
    exact hfin
  intro fuel
  induction fuel with
  | zero =>
    intro listed hs hcl hk0 hun hn
    refine fin 0 listed hs hun hn fun i hi => ?_
    cases hl : listed[i]? with
    | none => rw [Array.getElem?_eq_none_iff] at hl; omega
    | some b =>
      cases b with
      | true => rfl
      | false =>
        have : false ∈ listed := Array.mem_of_getElem? hl
        have := Array.count_pos_iff.2 this
        omega
  | succ fuel ih =>
    intro listed hs hcl hk0 hun hn
    by_cases hall : ∀ (i : Nat), i < n → listed[i]? = some true
    · exact fin (fuel + 1) listed hs hun hn hall
    refine ⟨fun a w hsim => ⟨fun h0 => ?_, fun j hj => ?_⟩⟩
    · exfalso
      apply hall
      intro i
      induction i using Nat.strongRecOn with
      | _ i ih' =>
        intro hi
        cases hl : listed[i]? with
        | none => rw [Array.getElem?_eq_none_iff] at hl; omega
        | some b =>
          cases b with
          | true => rfl
          | false =>
            have := Ev.ready_of_least hb (by simpa using hs) (by simp; omega) hl (fun k hk => ih' k hk (by omega))
            rw [h0] at this
            cases this
    obtain ⟨hju, o, hoj, hdone⟩ := mem_ready.1 hj
    have hjo : j < l.length := by
      have := (Array.getElem?_eq_some_iff.1 hoj).1
      simpa using this
    have hlt : j < listed.size := by omega
    have hjl : listed[j]? = some false := by simp [Array.getD, hlt] at hju; simp [hlt, hju]
    have hjn' : j < n := by
      rcases Nat.lt_or_ge j n with h | h
      · exact h
      · exact (hall (pre_ready ht hcl hj h)).elim
    have hoj' : l[j]? = some o := by rw [← hget]; exact hoj
    have hdl : ∀ d ∈ Ev.depsOf o, listed[d]? = some true := Ev.deps_listed hdone
    have hold : ∀ (i : Nat), i ≠ j → (listed.setIfInBounds j true)[i]? = listed[i]? := fun i hij => by
      rw [Array.getElem?_setIfInBounds, if_neg (Ne.symm hij)]
    have hcl' : Ev.Closed l.toArray (listed.setIfInBounds j true) := fun i o' hi ho' d hd' => by
      have keep : ∀ (y : Nat), listed[y]? = some true → (listed.setIfInBounds j true)[y]? = some true := fun y hy => by
        by_cases e : y = j
        · subst e; simp [hlt]
        · rw [hold y e]; exact hy
      by_cases hij : i = j
      · subst hij
        rw [hoj] at ho'
        cases ho'
        exact keep d (hdl d hd')
      · rw [hold i hij] at hi
        exact keep d (hcl i o' hi ho' d hd')
    have hcnt : (listed.setIfInBounds j true).count false = fuel := by
      have := Array.count_set (xs := listed) (i := j) (a := true) (b := false) hlt
      rw [Array.setIfInBounds, dif_pos hlt]
      have h3 : listed[j] = false := by simpa [hlt] using hjl
      have h4 : 0 < listed.count false := Array.count_pos_iff.2 (Array.mem_iff_getElem.2 ⟨j, hlt, h3⟩)
      rw [this]
      simp [h3]
      omega
    have hLL : ∀ i, (listed.setIfInBounds j true).getD i false = (listed.getD i false || decide (i = j)) := fun i => by
      by_cases e : i = j
      · subst e; simp [Array.getD_eq_getD_getElem?, hlt]
      · simp [Array.getD_eq_getD_getElem?, hold i e, e]
    have hun' : ∀ i, n ≤ i → i < l.length → (listed.setIfInBounds j true)[i]? = some false := fun i h1 h2 => by
      rw [hold i (by omega)]; exact hun i h1 h2
    have hkj : k0 ≤ j := by
      rcases Nat.lt_or_ge j k0 with h | h
      · have := hk0 j h
        rw [hjl] at this; simp at this
      · exact h
    have hk0' : ∀ i, i < k0 → (listed.setIfInBounds j true)[i]? = some true := fun i hi => by rw [hold i (by omega)]; exact hk0 i hi
    have hjt : (l.take n)[j]? = some o := by rw [htk j hjn']; exact hoj'
    obtain ⟨d, hdo, hS⟩ := hst j o hkj hjt
    have hmem : o ∈ l.take n := List.mem_of_getElem? hjt
    have hdN := List.all_eq_true.1 hds o hmem
    rw [hdo] at hdN
    simp only [decide_eq_true_eq] at hdN
    have hdrj := List.all_eq_true.1 hdr j (List.mem_range.2 hjn')
    rw [hoj'] at hdrj
    simp only [Bool.and_eq_true] at hdrj
    obtain ⟨⟨hops, hgd⟩, hconst⟩ := hdrj
    have hsl : ∀ t, opB (l.take n) j o t = true → (stL (l.take n) ss (fun i => decide (k0 ≤ i) && listed.getD i false) st).sl t = (stL (l.take n) ss (fun x => decide (k0 ≤ x) && decide (x < j)) st).sl t := by
      intro t hop
      by_cases hin : inB (l.take n) t = true
      · simp only [opB, hin, Bool.not_true, Bool.false_or, List.any_eq_true, List.mem_range, Bool.and_eq_true, beq_iff_eq] at hop
        obtain ⟨i, hi, hid, hic⟩ := hop
        obtain ⟨oi, hoi, hoid⟩ := Option.bind_eq_some_iff.1 hid
        have hli := hdl i (by simpa using hic)
        rcases Nat.lt_or_ge i k0 with hik | hik
        · have hex : ∀ (L : Nat → Bool), L i = false → (stL (l.take n) ss L st).sl t = st.sl t := fun L hL => stL_out fun i' o' h1 h2 => by
            rcases Nat.lt_trichotomy i' i with h | h | h
            · exact (dist_ne hd h1 hoi h h2 hoid).elim
            · subst h; exact hL
            · exact (dist_ne hd hoi h1 h hoid h2).elim
          rw [hex _ (by simp [show ¬ k0 ≤ i from by omega]), hex _ (by simp [show ¬ k0 ≤ i from by omega])]
        · rw [stL_at hd hoi hoid (by simp [Array.getD_eq_getD_getElem?, hli, hik]), stL_at hd hoi hoid (by simp [hik]; exact hi)]
      · have hout : ∀ (i : Nat) (o' : Oper), (l.take n)[i]? = some o' → o'.dst ≠ some t := fun i o' h1 h2 => hin (by
          simp only [inB, List.any_eq_true, beq_iff_eq]
          exact ⟨o', List.mem_of_getElem? h1, h2⟩)
        rw [stL_out fun i o' h1 h2 => absurd h2 (hout i o' h1), stL_out fun i o' h1 h2 => absurd h2 (hout i o' h1)]
    have hS2 : St P l.toArray (stL (l.take n) ss (fun i => decide (k0 ≤ i) && listed.getD i false) st) o (ss j) := by
      refine St_frame hS (fun x hx => ?_) (fun j' b oj dj h1 h2 h3 => ?_) (fun k g ob h => h)
      · cases x with
        | tmp t => exact hsl t (List.all_eq_true.1 hops _ hx)
        | _ => rfl
      · rw [hget] at h2
        rw [h1] at hgd
        simp only [h2, h3, Bool.and_eq_true, decide_eq_true_eq] at hgd
        exact hsl dj hgd.1
    refine wpOp_of_list hoj ((Al_st (l := []) (Q := Then (Ad P N M0 w0 l.toArray Q fuel (listed.setIfInBounds j true)) Q) hS2 hdo hdN hconst (fun j' b oj dj h1 h2 h3 => ?_) (Al_nil ?_)).out a w hsim) (fun a' w' ⟨st', h1, h2⟩ => h1.out a' w' h2) (fun c a' w' h => h) (fun ⟨a', w', h⟩ => ⟨a', w', h⟩)
    · rw [hget] at h2
      rw [h1] at hgd
      simp only [h2, h3, Bool.and_eq_true, decide_eq_true_eq] at hgd
      exact hgd.2
    · have := ih (listed.setIfInBounds j true) (by simpa using hs) hcl' hk0' hun' hcnt
      have e2 : (stL (l.take n) ss (fun i => decide (k0 ≤ i) && listed.getD i false) st).set d (ss j) = stL (l.take n) ss (fun i => decide (k0 ≤ i) && (listed.setIfInBounds j true).getD i false) st := stL_set hd hjt hdo (fun i => by rw [hLL]; by_cases e : i = j <;> simp [e, hkj])
      show Ad P N M0 w0 l.toArray Q fuel (listed.setIfInBounds j true) _
      rw [e2]
      exact this
/-- The first k0 are done; of the next ones, up to n, all are pure. -/
theorem Ad_drawP {l : List Oper} {listed : Array Bool} {fuel : Nat} (k0 n m : Nat) (hok : drawPB N l n = true) (hk : k0 ≤ n) (hnm : l.length = n + m) (hl : listed = (List.replicate k0 true ++ List.replicate (n - k0 + m) false).toArray) (hf : fuel = n - k0 + m)
    (h : Dr P l.toArray (fun st' => Ad P N M0 w0 l.toArray Q m (List.replicate n true ++ List.replicate m false).toArray st') ((l.take n).drop k0) st) : Ad P N M0 w0 l.toArray Q fuel listed st := by
  have hok' := hok
  simp only [drawPB, Bool.and_eq_true] at hok'
  obtain ⟨⟨⟨⟨hd, hb⟩, _⟩, _⟩, _⟩ := hok'
  subst hl hf
  obtain ⟨ss, h2, h3⟩ : ∃ ss : Nat → SV, (∀ i o, k0 ≤ i → (l.take n)[i]? = some o → ∃ d, o.dst = some d ∧ St P l.toArray (stL (l.take n) ss (fun x => decide (k0 ≤ x) && decide (x < i)) st) o (ss i)) ∧ Ad P N M0 w0 l.toArray Q m (List.replicate n true ++ List.replicate m false).toArray (stL (l.take n) ss (fun x => decide (k0 ≤ x)) st) := by
    have gen : ∀ (r : List Oper) (j : Nat) (ss0 : Nat → SV), k0 ≤ j → (l.take n).drop j = r → Dr P l.toArray (fun st' => Ad P N M0 w0 l.toArray Q m (List.replicate n true ++ List.replicate m false).toArray st') r (stL (l.take n) ss0 (fun x => decide (k0 ≤ x) && decide (x < j)) st) →
        ∃ ss : Nat → SV, (∀ i, i < j → ss i = ss0 i) ∧ (∀ i o, j ≤ i → (l.take n)[i]? = some o → ∃ d, o.dst = some d ∧ St P l.toArray (stL (l.take n) ss (fun x => decide (k0 ≤ x) && decide (x < i)) st) o (ss i)) ∧ Ad P N M0 w0 l.toArray Q m (List.replicate n true ++ List.replicate m false).toArray (stL (l.take n) ss (fun x => decide (k0 ≤ x)) st) := by
      intro r
      induction r with
      | nil =>
        intro j ss0 hj hr hD
        have hlj : (l.take n).length ≤ j := by
          have := congrArg List.length hr
          simp only [List.length_drop, List.length_nil] at this
          omega
        refine ⟨ss0, fun _ _ => rfl, fun i o hi ho => ?_, ?_⟩
        · have := (List.getElem?_eq_some_iff.1 ho).1
          omega
        · have e : stL (l.take n) ss0 (fun x => decide (k0 ≤ x) && decide (x < j)) st = stL (l.take n) ss0 (fun x => decide (k0 ≤ x)) st := stL_congr (fun i hi => by simp [show i < j from by omega]) (fun _ _ _ => rfl)
          rw [← e]
          exact hD
      | cons o r ih =>
        intro j ss0 hj hr hD
        obtain ⟨d, s, hdo, hS, hD2⟩ := hD
        have hlt : j < (l.take n).length := by
          have := congrArg List.length hr
          simp only [List.length_drop, List.length_cons] at this
          omega
        have hoj : (l.take n)[j]? = some o := by
          have := congrArg (·[0]?) hr
          simpa [List.getElem?_drop] using this
        have hr2 : (l.take n).drop (j + 1) = r := by
          have := congrArg (List.drop 1) hr
          simpa [List.drop_drop, Nat.add_comm] using this
        let ss1 : Nat → SV := fun i => if i = j then s else ss0 i
        have e1 : (stL (l.take n) ss0 (fun x => decide (k0 ≤ x) && decide (x < j)) st) = stL (l.take n) ss1 (fun x => decide (k0 ≤ x) && decide (x < j)) st := stL_congr (fun _ _ => rfl) (fun i _ hi => by
          simp only [Bool.and_eq_true, decide_eq_true_eq] at hi
          show ss0 i = if i = j then s else ss0 i
          rw [if_neg (by omega)])
        have e2 : (stL (l.take n) ss1 (fun x => decide (k0 ≤ x) && decide (x < j)) st).set d s = stL (l.take n) ss1 (fun x => decide (k0 ≤ x) && decide (x < j + 1)) st := by
          have hs1 : ss1 j = s := if_pos rfl
          have := stL_set (st := st) (ss := ss1) (L := fun x => decide (k0 ≤ x) && decide (x < j)) (L' := fun x => decide (k0 ≤ x) && decide (x < j + 1)) hd hoj hdo (fun i => by
            by_cases e : i = j
            · subst e; simp [hj]
            · have : (i < j + 1) ↔ i < j := by omega
              simp [e, this])
          rw [hs1] at this
          exact this
        rw [e1, e2] at hD2
        obtain ⟨ss, g1, g2, g3⟩ := ih (j + 1) ss1 (by omega) hr2 hD2
        refine ⟨ss, fun i hi => ?_, fun i o' hi ho' => ?_, g3⟩
        · rw [g1 i (by omega)]
          show (if i = j then s else ss0 i) = _
          rw [if_neg (by omega)]
        · rcases Nat.lt_or_ge j i with h | h
          · exact g2 i o' h ho'
          · obtain rfl : i = j := by omega
            rw [hoj] at ho'; cases ho'
            refine ⟨d, hdo, ?_⟩
            have e3 : stL (l.take n) ss (fun x => decide (k0 ≤ x) && decide (x < i)) st = stL (l.take n) ss0 (fun x => decide (k0 ≤ x) && decide (x < i)) st := stL_congr (fun _ _ => rfl) (fun y _ hy => by
              simp only [Bool.and_eq_true, decide_eq_true_eq] at hy
              rw [g1 y (by omega)]
              show (if y = i then s else ss0 y) = _
              rw [if_neg (by omega)])
            rw [e3, g1 i (by omega), show ss1 i = s from if_pos rfl]
            exact hS
    have e0 : stL (l.take n) (fun _ => .any) (fun x => decide (k0 ≤ x) && decide (x < k0)) st = st := by
      refine Eq.trans (stL_congr (fun i _ => ?_) (fun _ _ _ => rfl)) (stL_none (l := l.take n) (ss := fun _ => .any) (st := st))
      simp only [Bool.and_eq_false_iff, decide_eq_false_iff_not]; omega
    obtain ⟨ss, _, g2, g3⟩ := gen ((l.take n).drop k0) k0 (fun _ => .any) (Nat.le_refl _) rfl (by rw [e0]; exact h)
    exact ⟨ss, g2, g3⟩
  have := drawP_go (k0 := k0) hok hnm h2 h3 (n - k0 + m) (List.replicate k0 true ++ List.replicate (n - k0 + m) false).toArray (by simp; omega) (fun i o h1 ho d hd' => ?_) (fun i hi => by rw [List.getElem?_toArray, List.getElem?_append_left (by simpa using hi), List.getElem?_replicate, if_pos hi]) (fun i h1 h2 => by rw [List.getElem?_toArray, List.getElem?_append_right (by simp; omega), List.getElem?_replicate, if_pos (by simp; omega)]) (by simp [List.count_replicate])
  · have e : stL (l.take n) ss (fun i => decide (k0 ≤ i) && (List.replicate k0 true ++ List.replicate (n - k0 + m) false).toArray.getD i false) st = st := by
      refine Eq.trans (stL_congr (fun i _ => ?_) (fun _ _ _ => rfl)) stL_none
      rw [Array.getD_eq_getD_getElem?, List.getElem?_toArray]
      rcases Nat.lt_or_ge i k0 with h | h
      · simp [show ¬ k0 ≤ i from by omega]
      · rw [List.getElem?_append_right (by simpa using h), List.getElem?_replicate]
        split <;> simp
    rw [e] at this
    exact this
  · have hi : i < k0 := by
      rcases Nat.lt_or_ge i k0 with h | h
      · exact h
      · rw [List.getElem?_toArray, List.getElem?_append_right (by simpa using h), List.getElem?_replicate] at h1
        split at h1 <;> simp at h1
    have hdi : d < i := back_lt hb ho hd'
    rw [List.getElem?_toArray, List.getElem?_append_left (by simp; omega), List.getElem?_replicate, if_pos (by omega)]
/-- A region that draws its order: pure operations ahead; the rest is walked order by order. -/
theorem Aw_drawP {id : Nat} {l : List Oper} (n m : Nat) (hm : P.follows .mixedOrders = true) (hok : drawPB N l n = true) (hnm : l.length = n + m)
    (h : Dr P l.toArray (fun st' => Ad P N M0 w0 l.toArray Q m (List.replicate n true ++ List.replicate m false).toArray st') (l.take n) st) : Aw P N M0 w0 (.region id l.toArray true) Q st := by
  refine Aw_drawn hm ?_
  exact Ad_drawP 0 n m hok (Nat.zero_le _) hnm (by rw [hnm]; simp) (by omega) (by rw [List.drop_zero]; exact h)
end
end Go.Proofs.Ytkmjiaegbooplaa.A
