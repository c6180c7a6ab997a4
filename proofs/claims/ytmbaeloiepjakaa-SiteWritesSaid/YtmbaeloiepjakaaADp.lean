/- Abstract states: a region that draws its order: pure operations ahead, in whichever order; behind them order by order. -/
import Derived.Test.YtmbaeloiepjakaaADr
set_option linter.unusedSimpArgs false
set_option linter.unusedVariables false
namespace Go.Proofs.Ytmbaeloiepjakaa.A
open Go Go.RowKit
/-- From n on all wait for what stands ahead of n. -/
def preB (ops : Array Oper) (n : Nat) : Bool := (List.range ops.size).all fun j => decide (j < n) || (List.range n).all fun i => (Ev.anc ops j (match ops[j]? with | some o => Ev.depsOf o | none => [])).contains i
theorem pre_ready {ops : Array Oper} {listed : Array Bool} {n j : Nat} (ht : preB ops n = true) (hc : Ev.Closed ops listed) (hj : j ∈ Region.ready .any ops listed) (hk : n ≤ j) : ∀ i, i < n → listed[i]? = some true := by
  obtain ⟨_, o, ho, hall⟩ := mem_ready.1 hj
  have hlt : j < ops.size := (Array.getElem?_eq_some_iff.1 ho).1
  have h1 := List.all_eq_true.1 ht j (List.mem_range.2 hlt)
  rw [ho] at h1
  simp only [Bool.or_eq_true, decide_eq_true_eq, List.all_eq_true] at h1
  intro i hi
  have h2 := (h1.resolve_left (by omega)) i (List.mem_range.2 hi)
  exact Ev.anc_listed hc j _ (Ev.deps_listed hall) i (by simpa using h2)
def drawPB (N : Nat) (l : List Oper) (n : Nat) : Bool := Ev.distinct (l.take n) && Ev.backB l.toArray && preB l.toArray n && drB N l n && (l.take n).all fun o => match o.dst with | some d => decide (d < N) | none => false
theorem back_lt {ops : Array Oper} {i d : Nat} {o : Oper} (hb : Ev.backB ops = true) (ho : ops[i]? = some o) (hd : d ∈ Ev.depsOf o) : d < i := by
  have hlt : i < ops.size := (Array.getElem?_eq_some_iff.1 ho).1
  have h1 := List.all_eq_true.1 hb i (List.mem_range.2 hlt)
  rw [ho] at h1
  simp only [Array.all_eq_true_iff_forall_mem, Bool.or_eq_true, Bool.not_eq_true', decide_eq_true_eq] at h1
  obtain ⟨e, he, hbi, rfl⟩ := Ev.mem_deps hd
  rcases h1 e (by simpa using he) with h | h
  · rw [h] at hbi; cases hbi
  · exact h
section
variable {P : Program} {N : Nat} {M0 : Nat → Prop} {w0 : Base} {Q : Exit → ASt → Prop} {st : ASt}
theorem drawP_go {l : List Oper} {k0 n m : Nat} {ss : Nat → SV} (hok : drawPB N l n = true) (hnm : l.length = n + m)
    (hst : ∀ i o, k0 ≤ i → (l.take n)[i]? = some o → ∃ d, o.dst = some d ∧ St P l.toArray (stL (l.take n) ss (fun x => decide (k0 ≤ x) && decide (x < i)) st) o (ss i))
    (hfin : Ad P N M0 w0 l.toArray Q m (List.replicate n true ++ List.replicate m false).toArray (stL (l.take n) ss (fun x => decide (k0 ≤ x)) st)) :
    ∀ (fuel : Nat) (listed : Array Bool), listed.size = l.length → Ev.Closed l.toArray listed → (∀ i, i < k0 → listed[i]? = some true) → (∀ i, n ≤ i → i < l.length → listed[i]? = some false) → listed.count false = fuel →
      Ad P N M0 w0 l.toArray Q fuel listed (stL (l.take n) ss (fun i => decide (k0 ≤ i) && listed.getD i false) st) := by
  simp only [drawPB, Bool.and_eq_true] at hok
  obtain ⟨⟨⟨⟨hd, hb⟩, ht⟩, hdr⟩, hds⟩ := hok
  have hsz : l.toArray.size = l.length := by simp
  have hget : ∀ (j : Nat), l.toArray[j]? = l[j]? := fun j => by simp
  have htk : ∀ (j : Nat), j < n → (l.take n)[j]? = l[j]? := fun j hj => by rw [List.getElem?_take, if_pos hj]
  have hlen : (l.take n).length = n := by simp; omega
  have fin : ∀ (fuel : Nat) (listed : Array Bool), listed.size = l.length → (∀ i, n ≤ i → i < l.length → listed[i]? = some false) → listed.count false = fuel → (∀ i, i < n → listed[i]? = some true) →
      Ad P N M0 w0 l.toArray Q fuel listed (stL (l.take n) ss (fun i => decide (k0 ≤ i) && listed.getD i false) st) := by
    intro fuel listed hs hun hfu hall
    have e1 : listed = (List.replicate n true ++ List.replicate m false).toArray := by
      apply Array.ext'
      apply List.ext_getElem?
      intro i
      rw [Array.getElem?_toList]
      rcases Nat.lt_or_ge i n with h | h
      · rw [hall i h, List.getElem?_append_left (by simpa using h), List.getElem?_replicate, if_pos h]
      · rw [List.getElem?_append_right (by simpa using h), List.getElem?_replicate, List.length_replicate]
        rcases Nat.lt_or_ge i l.length with h2 | h2
        · rw [hun i h h2, if_pos (by omega)]
        · rw [if_neg (by omega), Array.getElem?_eq_none (by omega)]
    have e2 : fuel = m := by rw [← hfu, e1]; simp [List.count_replicate]
    have e : stL (l.take n) ss (fun i => decide (k0 ≤ i) && listed.getD i false) st = stL (l.take n) ss (fun x => decide (k0 ≤ x)) st := stL_congr (fun i hi => by
      have := hall i (by omega)
      simp [Array.getD_eq_getD_getElem?, this]) (fun _ _ _ => rfl)
    rw [e, e2, e1]
    exact hfin
  intro fuel
  induction fuel with
  | zero =>
    intro listed hs hcl hk0 hun hn
    refine fin 0 listed hs hun hn fun i hi => ?_
    cases hl : listed[i]? with
    | none => rw [Array.getElem?_eq_none_iff] at hl; omega
    | some b =>
      cases b with
      | true => rfl
      | false =>
        have : false ∈ listed := Array.mem_of_getElem? hl
        have := Array.count_pos_iff.2 this
        omega
  | succ fuel ih =>
    intro listed hs hcl hk0 hun hn
    by_cases hall : ∀ (i : Nat), i < n → listed[i]? = some true
    · exact fin (fuel + 1) listed hs hun hn hall
    refine ⟨fun a w hsim => ⟨fun h0 => ?_, fun j hj => ?_⟩⟩
    · exfalso
      apply hall
      intro i
      induction i using Nat.strongRecOn with
      | _ i ih' =>
        intro hi
        cases hl : listed[i]? with
        | none => rw [Array.getElem?_eq_none_iff] at hl; omega
        | some b =>
          cases b with
          | true => rfl
          | false =>
            have := Ev.ready_of_least hb (by simpa using hs) (by simp; omega) hl (fun k hk => ih' k hk (by omega))
            rw [h0] at this
            cases this
    obtain ⟨hju, o, hoj, hdone⟩ := mem_ready.1 hj
    have hjo : j < l.length := by
      have := (Array.getElem?_eq_some_iff.1 hoj).1
      simpa using this
    have hlt : j < listed.size := by omega
    have hjl : listed[j]? = some false := by simp [Array.getD, hlt] at hju; simp [hlt, hju]
    have hjn' : j < n := by
      rcases Nat.lt_or_ge j n with h | h
      · exact h
      · exact (hall (pre_ready ht hcl hj h)).elim
    have hoj' : l[j]? = some o := by rw [← hget]; exact hoj
    have hdl : ∀ d ∈ Ev.depsOf o, listed[d]? = some true := Ev.deps_listed hdone
    have hold : ∀ (i : Nat), i ≠ j → (listed.setIfInBounds j true)[i]? = listed[i]? := fun i hij => by
      rw [Array.getElem?_setIfInBounds, if_neg (Ne.symm hij)]
    have hcl' : Ev.Closed l.toArray (listed.setIfInBounds j true) := fun i o' hi ho' d hd' => by
      have keep : ∀ (y : Nat), listed[y]? = some true → (listed.setIfInBounds j true)[y]? = some true := fun y hy => by
        by_cases e : y = j
        · subst e; simp [hlt]
        · rw [hold y e]; exact hy
      by_cases hij : i = j
      · subst hij
        rw [hoj] at ho'
        cases ho'
        exact keep d (hdl d hd')
      · rw [hold i hij] at hi
        exact keep d (hcl i o' hi ho' d hd')
    have hcnt : (listed.setIfInBounds j true).count false = fuel := by
      have := Array.count_set (xs := listed) (i := j) (a := true) (b := false) hlt
      rw [Array.setIfInBounds, dif_pos hlt]
      have h3 : listed[j] = false := by simpa [hlt] using hjl
      have h4 : 0 < listed.count false := Array.count_pos_iff.2 (Array.mem_iff_getElem.2 ⟨j, hlt, h3⟩)
      rw [this]
      simp [h3]
      omega
    have hLL : ∀ i, (listed.setIfInBounds j true).getD i false = (listed.getD i false || decide (i = j)) := fun i => by
      by_cases e : i = j
      · subst e; simp [Array.getD_eq_getD_getElem?, hlt]
      · simp [Array.getD_eq_getD_getElem?, hold i e, e]
    have hun' : ∀ i, n ≤ i → i < l.length → (listed.setIfInBounds j true)[i]? = some false := fun i h1 h2 => by
      rw [hold i (by omega)]; exact hun i h1 h2
    have hkj : k0 ≤ j := by
      rcases Nat.lt_or_ge j k0 with h | h
      · have := hk0 j h
        rw [hjl] at this; simp at this
      · exact h
    have hk0' : ∀ i, i < k0 → (listed.setIfInBounds j true)[i]? = some true := fun i hi => by rw [hold i (by omega)]; exact hk0 i hi
    have hjt : (l.take n)[j]? = some o := by rw [htk j hjn']; exact hoj'
    obtain ⟨d, hdo, hS⟩ := hst j o hkj hjt
    have hmem : o ∈ l.take n := List.mem_of_getElem? hjt
    have hdN := List.all_eq_true.1 hds o hmem
    rw [hdo] at hdN
    simp only [decide_eq_true_eq] at hdN
    have hdrj := List.all_eq_true.1 hdr j (List.mem_range.2 hjn')
    rw [hoj'] at hdrj
    simp only [Bool.and_eq_true] at hdrj
    obtain ⟨⟨hops, hgd⟩, hconst⟩ := hdrj
    have hsl : ∀ t, opB (l.take n) j o t = true → (stL (l.take n) ss (fun i => decide (k0 ≤ i) && listed.getD i false) st).sl t = (stL (l.take n) ss (fun x => decide (k0 ≤ x) && decide (x < j)) st).sl t := by
      intro t hop
      by_cases hin : inB (l.take n) t = true
      · simp only [opB, hin, Bool.not_true, Bool.false_or, List.any_eq_true, List.mem_range, Bool.and_eq_true, beq_iff_eq] at hop
        obtain ⟨i, hi, hid, hic⟩ := hop
        obtain ⟨oi, hoi, hoid⟩ := Option.bind_eq_some_iff.1 hid
        have hli := hdl i (by simpa using hic)
        rcases Nat.lt_or_ge i k0 with hik | hik
        · have hex : ∀ (L : Nat → Bool), L i = false → (stL (l.take n) ss L st).sl t = st.sl t := fun L hL => stL_out fun i' o' h1 h2 => by
            rcases Nat.lt_trichotomy i' i with h | h | h
            · exact (dist_ne hd h1 hoi h h2 hoid).elim
            · subst h; exact hL
            · exact (dist_ne hd hoi h1 h hoid h2).elim
          rw [hex _ (by simp [show ¬ k0 ≤ i from by omega]), hex _ (by simp [show ¬ k0 ≤ i from by omega])]
        · rw [stL_at hd hoi hoid (by simp [Array.getD_eq_getD_getElem?, hli, hik]), stL_at hd hoi hoid (by simp [hik]; exact hi)]
      · have hout : ∀ (i : Nat) (o' : Oper), (l.take n)[i]? = some o' → o'.dst ≠ some t := fun i o' h1 h2 => hin (by
          simp only [inB, List.any_eq_true, beq_iff_eq]
          exact ⟨o', List.mem_of_getElem? h1, h2⟩)
        rw [stL_out fun i o' h1 h2 => absurd h2 (hout i o' h1), stL_out fun i o' h1 h2 => absurd h2 (hout i o' h1)]
    have hS2 : St P l.toArray (stL (l.take n) ss (fun i => decide (k0 ≤ i) && listed.getD i false) st) o (ss j) := by
      refine St_frame hS (fun x hx => ?_) (fun j' b oj dj h1 h2 h3 => ?_) (fun k g ob h => h)
      · cases x with
        | tmp t => exact hsl t (List.all_eq_true.1 hops _ hx)
        | _ => rfl
      · rw [hget] at h2
        rw [h1] at hgd
        simp only [h2, h3, Bool.and_eq_true, decide_eq_true_eq] at hgd
        exact hsl dj hgd.1
    refine wpOp_of_list hoj ((Al_st (l := []) (Q := Then (Ad P N M0 w0 l.toArray Q fuel (listed.setIfInBounds j true)) Q) hS2 hdo hdN hconst (fun j' b oj dj h1 h2 h3 => ?_) (Al_nil ?_)).out a w hsim) (fun a' w' ⟨st', h1, h2⟩ => h1.out a' w' h2) (fun c a' w' h => h) (fun ⟨a', w', h⟩ => ⟨a', w', h⟩)
    · rw [hget] at h2
      rw [h1] at hgd
      simp only [h2, h3, Bool.and_eq_true, decide_eq_true_eq] at hgd
      exact hgd.2
    · have := ih (listed.setIfInBounds j true) (by simpa using hs) hcl' hk0' hun' hcnt
      have e2 : (stL (l.take n) ss (fun i => decide (k0 ≤ i) && listed.getD i false) st).set d (ss j) = stL (l.take n) ss (fun i => decide (k0 ≤ i) && (listed.setIfInBounds j true).getD i false) st := stL_set hd hjt hdo (fun i => by rw [hLL]; by_cases e : i = j <;> simp [e, hkj])
      show Ad P N M0 w0 l.toArray Q fuel (listed.setIfInBounds j true) _
      rw [e2]
      exact this
/-- The first k0 are done; of the next ones, up to n, all are pure. -/
theorem Ad_drawP {l : List Oper} {listed : Array Bool} {fuel : Nat} (k0 n m : Nat) (hok : drawPB N l n = true) (hk : k0 ≤ n) (hnm : l.length = n + m) (hl : listed = (List.replicate k0 true ++ List.replicate (n - k0 + m) false).toArray) (hf : fuel = n - k0 + m)
    (h : Dr P l.toArray (fun st' => Ad P N M0 w0 l.toArray Q m (List.replicate n true ++ List.replicate m false).toArray st') ((l.take n).drop k0) st) : Ad P N M0 w0 l.toArray Q fuel listed st := by
  have hok' := hok
  simp only [drawPB, Bool.and_eq_true] at hok'
  obtain ⟨⟨⟨⟨hd, hb⟩, _⟩, _⟩, _⟩ := hok'
  subst hl hf
  obtain ⟨ss, h2, h3⟩ : ∃ ss : Nat → SV, (∀ i o, k0 ≤ i → (l.take n)[i]? = some o → ∃ d, o.dst = some d ∧ St P l.toArray (stL (l.take n) ss (fun x => decide (k0 ≤ x) && decide (x < i)) st) o (ss i)) ∧ Ad P N M0 w0 l.toArray Q m (List.replicate n true ++ List.replicate m false).toArray (stL (l.take n) ss (fun x => decide (k0 ≤ x)) st) := by
    have gen : ∀ (r : List Oper) (j : Nat) (ss0 : Nat → SV), k0 ≤ j → (l.take n).drop j = r → Dr P l.toArray (fun st' => Ad P N M0 w0 l.toArray Q m (List.replicate n true ++ List.replicate m false).toArray st') r (stL (l.take n) ss0 (fun x => decide (k0 ≤ x) && decide (x < j)) st) →
        ∃ ss : Nat → SV, (∀ i, i < j → ss i = ss0 i) ∧ (∀ i o, j ≤ i → (l.take n)[i]? = some o → ∃ d, o.dst = some d ∧ St P l.toArray (stL (l.take n) ss (fun x => decide (k0 ≤ x) && decide (x < i)) st) o (ss i)) ∧ Ad P N M0 w0 l.toArray Q m (List.replicate n true ++ List.replicate m false).toArray (stL (l.take n) ss (fun x => decide (k0 ≤ x)) st) := by
      intro r
      induction r with
      | nil =>
        intro j ss0 hj hr hD
        have hlj : (l.take n).length ≤ j := by
          have := congrArg List.length hr
          simp only [List.length_drop, List.length_nil] at this
          omega
        refine ⟨ss0, fun _ _ => rfl, fun i o hi ho => ?_, ?_⟩
        · have := (List.getElem?_eq_some_iff.1 ho).1
          omega
        · have e : stL (l.take n) ss0 (fun x => decide (k0 ≤ x) && decide (x < j)) st = stL (l.take n) ss0 (fun x => decide (k0 ≤ x)) st := stL_congr (fun i hi => by simp [show i < j from by omega]) (fun _ _ _ => rfl)
          rw [← e]
          exact hD
      | cons o r ih =>
        intro j ss0 hj hr hD
        obtain ⟨d, s, hdo, hS, hD2⟩ := hD
        have hlt : j < (l.take n).length := by
          have := congrArg List.length hr
          simp only [List.length_drop, List.length_cons] at this
          omega
        have hoj : (l.take n)[j]? = some o := by
          have := congrArg (·[0]?) hr
          simpa [List.getElem?_drop] using this
        have hr2 : (l.take n).drop (j + 1) = r := by
          have := congrArg (List.drop 1) hr
          simpa [List.drop_drop, Nat.add_comm] using this
        let ss1 : Nat → SV := fun i => if i = j then s else ss0 i
        have e1 : (stL (l.take n) ss0 (fun x => decide (k0 ≤ x) && decide (x < j)) st) = stL (l.take n) ss1 (fun x => decide (k0 ≤ x) && decide (x < j)) st := stL_congr (fun _ _ => rfl) (fun i _ hi => by
          simp only [Bool.and_eq_true, decide_eq_true_eq] at hi
          show ss0 i = if i = j then s else ss0 i
          rw [if_neg (by omega)])
        have e2 : (stL (l.take n) ss1 (fun x => decide (k0 ≤ x) && decide (x < j)) st).set d s = stL (l.take n) ss1 (fun x => decide (k0 ≤ x) && decide (x < j + 1)) st := by
          have hs1 : ss1 j = s := if_pos rfl
          have := stL_set (st := st) (ss := ss1) (L := fun x => decide (k0 ≤ x) && decide (x < j)) (L' := fun x => decide (k0 ≤ x) && decide (x < j + 1)) hd hoj hdo (fun i => by
            by_cases e : i = j
            · subst e; simp [hj]
            · have : (i < j + 1) ↔ i < j := by omega
              simp [e, this])
          rw [hs1] at this
          exact this
        rw [e1, e2] at hD2
        obtain ⟨ss, g1, g2, g3⟩ := ih (j + 1) ss1 (by omega) hr2 hD2
        refine ⟨ss, fun i hi => ?_, fun i o' hi ho' => ?_, g3⟩
        · rw [g1 i (by omega)]
          show (if i = j then s else ss0 i) = _
          rw [if_neg (by omega)]
        · rcases Nat.lt_or_ge j i with h | h
          · exact g2 i o' h ho'
          · obtain rfl : i = j := by omega
            rw [hoj] at ho'; cases ho'
            refine ⟨d, hdo, ?_⟩
            have e3 : stL (l.take n) ss (fun x => decide (k0 ≤ x) && decide (x < i)) st = stL (l.take n) ss0 (fun x => decide (k0 ≤ x) && decide (x < i)) st := stL_congr (fun _ _ => rfl) (fun y _ hy => by
              simp only [Bool.and_eq_true, decide_eq_true_eq] at hy
              rw [g1 y (by omega)]
              show (if y = i then s else ss0 y) = _
              rw [if_neg (by omega)])
            rw [e3, g1 i (by omega), show ss1 i = s from if_pos rfl]
            exact hS
    have e0 : stL (l.take n) (fun _ => .any) (fun x => decide (k0 ≤ x) && decide (x < k0)) st = st := by
      refine Eq.trans (stL_congr (fun i _ => ?_) (fun _ _ _ => rfl)) (stL_none (l := l.take n) (ss := fun _ => .any) (st := st))
      simp only [Bool.and_eq_false_iff, decide_eq_false_iff_not]; omega
    obtain ⟨ss, _, g2, g3⟩ := gen ((l.take n).drop k0) k0 (fun _ => .any) (Nat.le_refl _) rfl (by rw [e0]; exact h)
    exact ⟨ss, g2, g3⟩
  have := drawP_go (k0 := k0) hok hnm h2 h3 (n - k0 + m) (List.replicate k0 true ++ List.replicate (n - k0 + m) false).toArray (by simp; omega) (fun i o h1 ho d hd' => ?_) (fun i hi => by rw [List.getElem?_toArray, List.getElem?_append_left (by simpa using hi), List.getElem?_replicate, if_pos hi]) (fun i h1 h2 => by rw [List.getElem?_toArray, List.getElem?_append_right (by simp; omega), List.getElem?_replicate, if_pos (by simp; omega)]) (by simp [List.count_replicate])
  · have e : stL (l.take n) ss (fun i => decide (k0 ≤ i) && (List.replicate k0 true ++ List.replicate (n - k0 + m) false).toArray.getD i false) st = st := by
      refine Eq.trans (stL_congr (fun i _ => ?_) (fun _ _ _ => rfl)) stL_none
      rw [Array.getD_eq_getD_getElem?, List.getElem?_toArray]
      rcases Nat.lt_or_ge i k0 with h | h
      · simp [show ¬ k0 ≤ i from by omega]
      · rw [List.getElem?_append_right (by simpa using h), List.getElem?_replicate]
        split <;> simp
    rw [e] at this
    exact this
  · have hi : i < k0 := by
      rcases Nat.lt_or_ge i k0 with h | h
      · exact h
      · rw [List.getElem?_toArray, List.getElem?_append_right (by simpa using h), List.getElem?_replicate] at h1
        split at h1 <;> simp at h1
    have hdi : d < i := back_lt hb ho hd'
    rw [List.getElem?_toArray, List.getElem?_append_left (by simp; omega), List.getElem?_replicate, if_pos (by omega)]
/-- A region that draws its order: pure operations ahead; the rest is walked order by order. -/
theorem Aw_drawP {id : Nat} {l : List Oper} (n m : Nat) (hm : P.follows .mixedOrders = true) (hok : drawPB N l n = true) (hnm : l.length = n + m)
    (h : Dr P l.toArray (fun st' => Ad P N M0 w0 l.toArray Q m (List.replicate n true ++ List.replicate m false).toArray st') (l.take n) st) : Aw P N M0 w0 (.region id l.toArray true) Q st := by
  refine Aw_drawn hm ?_
  exact Ad_drawP 0 n m hok (Nat.zero_le _) hnm (by rw [hnm]; simp) (by omega) (by rw [List.drop_zero]; exact h)
/-- From n on all but nA wait for what stands ahead of n. -/
def preAB (ops : Array Oper) (n nA : Nat) : Bool := (List.range ops.size).all fun j => decide (j < n) || (Nat.beq j nA || (List.range n).all fun i => (Ev.anc ops j (match ops[j]? with | some o => Ev.depsOf o | none => [])).contains i)
theorem preA_ready {ops : Array Oper} {listed : Array Bool} {n nA j : Nat} (ht : preAB ops n nA = true) (hc : Ev.Closed ops listed) (hj : j ∈ Region.ready .any ops listed) (hk : n ≤ j) (hA : j ≠ nA) : ∀ i, i < n → listed[i]? = some true := by
  obtain ⟨_, o, ho, hall⟩ := mem_ready.1 hj
  have hlt : j < ops.size := (Array.getElem?_eq_some_iff.1 ho).1
  have h1 := List.all_eq_true.1 ht j (List.mem_range.2 hlt)
  rw [ho] at h1
  simp only [Bool.or_eq_true, decide_eq_true_eq, List.all_eq_true] at h1
  intro i hi
  rcases h1 with h1 | h1 | h1
  · omega
  · exact (hA (Nat.eq_of_beq_eq_true h1)).elim
  · have h2 := h1 i (List.mem_range.2 hi)
    exact Ev.anc_listed hc j _ (Ev.deps_listed hall) i (by simpa using h2)
def drawPAB (N : Nat) (l : List Oper) (n nA dA : Nat) : Bool := Ev.distinct (l.take n) && Ev.backB l.toArray && preAB l.toArray n nA && drB N l n && ((l.take n).all fun o => match o.dst with | some d => decide (d < N) && !Nat.beq d dA | none => false) && (l.take n).all fun o => ((opsOf o).all fun | .tmp t => !Nat.beq t dA | _ => true) && match o.guard with | some (j, _) => (match l[j]? with | some oj => (match oj.dst with | some dj => !Nat.beq dj dA | none => true) | none => true) | none => true
theorem drawPA_go {l : List Oper} {n nA m dA : Nat} {oA : Oper} {T : TypeId} {z : Value} {zs : List AV} {ss : Nat → SV} (hok : drawPAB N l n nA dA = true) (hnm : l.length = n + (m + 1)) (hnA : n ≤ nA) (hA : l[nA]? = some oA) (ho : oA.op = .alloc T) (hgA : oA.guard = none) (hdA : oA.dst = some dA) (hNA : dA < N) (hz : ∀ w, (zeroValue T).run P w = .ok z w) (hzs : z.cells.toList.map AV.v = zs) (hv : z.cells.toList.all (fun z => decide (vok z)) = true) (hfree : st.ob dA = none)
    (hst : ∀ i o, (l.take n)[i]? = some o → ∃ d, o.dst = some d ∧ St P l.toArray (stL (l.take n) ss (fun x => decide (x < i)) st) o (ss i))
    (hfin1 : Ad P N M0 w0 l.toArray Q (m + 1) (List.replicate n true ++ List.replicate (m + 1) false).toArray (stL (l.take n) ss (fun _ => true) st))
    (hfin2 : ∀ g, Ad P N M0 w0 l.toArray Q m ((List.replicate n true ++ List.replicate (m + 1) false).toArray.setIfInBounds nA true) (alcS dA g (.box T (zs.map .d)) (stL (l.take n) ss (fun _ => true) st))) :
    ∀ (fuel : Nat) (listed : Array Bool) (og : Option Nat), listed.size = l.length → Ev.Closed l.toArray listed → listed[nA]? = some og.isSome → (∀ i, n ≤ i → i ≠ nA → i < l.length → listed[i]? = some false) → listed.count false = fuel →
      Ad P N M0 w0 l.toArray Q fuel listed (alcO dA (.box T (zs.map .d)) og (stL (l.take n) ss (fun i => listed.getD i false) st)) := by
  simp only [drawPAB, Bool.and_eq_true] at hok
  obtain ⟨⟨⟨⟨⟨hd, hb⟩, ht⟩, hdr⟩, hds⟩, hdA2⟩ := hok
  have hnl : nA < l.length := (List.getElem?_eq_some_iff.1 hA).1
  have hsz : l.toArray.size = l.length := by simp
  have hget : ∀ (j : Nat), l.toArray[j]? = l[j]? := fun j => by simp
  have htk : ∀ (j : Nat), j < n → (l.take n)[j]? = l[j]? := fun j hj => by rw [List.getElem?_take, if_pos hj]
  have hlen : (l.take n).length = n := by simp; omega
  have fin : ∀ (fuel : Nat) (listed : Array Bool) (og : Option Nat), listed.size = l.length → listed[nA]? = some og.isSome → (∀ i, n ≤ i → i ≠ nA → i < l.length → listed[i]? = some false) → listed.count false = fuel → (∀ i, i < n → listed[i]? = some true) →
      Ad P N M0 w0 l.toArray Q fuel listed (alcO dA (.box T (zs.map .d)) og (stL (l.take n) ss (fun i => listed.getD i false) st)) := by
    intro fuel listed og hs hog hun hfu hall
    have e : stL (l.take n) ss (fun i => listed.getD i false) st = stL (l.take n) ss (fun _ => true) st := stL_congr (fun i hi => by
      have := hall i (by omega)
      simp [Array.getD_eq_getD_getElem?, this]) (fun _ _ _ => rfl)
    have e1 : listed = if og.isSome then (List.replicate n true ++ List.replicate (m + 1) false).toArray.setIfInBounds nA true else (List.replicate n true ++ List.replicate (m + 1) false).toArray := by
      apply Array.ext'
      apply List.ext_getElem?
      intro i
      rw [Array.getElem?_toList, Array.getElem?_toList]
      have base : ∀ i, i ≠ nA → listed[i]? = (List.replicate n true ++ List.replicate (m + 1) false).toArray[i]? := fun i hi => by
        rw [List.getElem?_toArray (xs := List.replicate n true ++ List.replicate (m + 1) false)]
        rcases Nat.lt_or_ge i n with h | h
        · rw [hall i h, List.getElem?_append_left (by simpa using h), List.getElem?_replicate, if_pos h]
        · rw [List.getElem?_append_right (by simpa using h), List.getElem?_replicate, List.length_replicate]
          rcases Nat.lt_or_ge i l.length with h2 | h2
          · rw [hun i h hi h2, if_pos (by omega)]
          · rw [if_neg (by omega), Array.getElem?_eq_none (by omega)]
      by_cases hi : i = nA
      · subst hi
        rw [hog]
        cases og with
        | none =>
          simp only [Option.isSome_none, Bool.false_eq_true, if_false]
          rw [List.getElem?_toArray, List.getElem?_append_right (by simpa using hnA), List.getElem?_replicate, if_pos (by simp; omega)]
        | some g =>
          simp only [Option.isSome_some, if_true]
          rw [Array.getElem?_setIfInBounds_self_of_lt (by simp; omega)]
      · rw [base i hi]
        split
        · rw [Array.getElem?_setIfInBounds_ne (Ne.symm hi)]
        · rfl
    rw [e]
    cases og with
    | none =>
      simp only [Option.isSome_none, Bool.false_eq_true, if_false] at e1
      have e2 : fuel = m + 1 := by rw [← hfu, e1]; simp [List.count_replicate]
      rw [e2, e1]
      exact hfin1
    | some g =>
      simp only [Option.isSome_some, if_true] at e1
      have e2 : fuel = m := by
        have h3 : nA < (List.replicate n true ++ List.replicate (m + 1) false).toArray.size := by simp; omega
        have h4 : (List.replicate n true ++ List.replicate (m + 1) false).toArray[nA] = false := by
          have : (List.replicate n true ++ List.replicate (m + 1) false).toArray[nA]? = some false := by
            rw [List.getElem?_toArray, List.getElem?_append_right (by simpa using hnA), List.getElem?_replicate, if_pos (by simp; omega)]
          exact (Array.getElem?_eq_some_iff.1 this).2
        have h5 := Array.count_set (xs := (List.replicate n true ++ List.replicate (m + 1) false).toArray) (i := nA) (a := true) (b := false) h3
        rw [← hfu, e1, Array.setIfInBounds, dif_pos h3, h5, h4]
        simp [List.count_replicate]
      rw [e2, e1]
      exact hfin2 g
  intro fuel
  induction fuel with
  | zero =>
    intro listed og hs hcl hog hun hn
    refine fin 0 listed og hs hog hun hn fun i hi => ?_
    cases hl : listed[i]? with
    | none => rw [Array.getElem?_eq_none_iff] at hl; omega
    | some b =>
      cases b with
      | true => rfl
      | false =>
        have : false ∈ listed := Array.mem_of_getElem? hl
        have := Array.count_pos_iff.2 this
        omega
  | succ fuel ih =>
    intro listed og hs hcl hog hun hn
    by_cases hall : ∀ (i : Nat), i < n → listed[i]? = some true
    · exact fin (fuel + 1) listed og hs hog hun hn hall
    refine ⟨fun a w hsim => ⟨fun h0 => ?_, fun j hj => ?_⟩⟩
    · exfalso
      apply hall
      intro i
      induction i using Nat.strongRecOn with
      | _ i ih' =>
        intro hi
        cases hl : listed[i]? with
        | none => rw [Array.getElem?_eq_none_iff] at hl; omega
        | some b =>
          cases b with
          | true => rfl
          | false =>
            have := Ev.ready_of_least hb (by simpa using hs) (by simp; omega) hl (fun k hk => ih' k hk (by omega))
            rw [h0] at this
            cases this
    obtain ⟨hju, o, hoj, hdone⟩ := mem_ready.1 hj
    have hjo : j < l.length := by
      have := (Array.getElem?_eq_some_iff.1 hoj).1
      simpa using this
    have hlt : j < listed.size := by omega
    have hjl : listed[j]? = some false := by simp [Array.getD, hlt] at hju; simp [hlt, hju]
    have hoj' : l[j]? = some o := by rw [← hget]; exact hoj
    have hdl : ∀ d ∈ Ev.depsOf o, listed[d]? = some true := Ev.deps_listed hdone
    have hold : ∀ (i : Nat), i ≠ j → (listed.setIfInBounds j true)[i]? = listed[i]? := fun i hij => by
      rw [Array.getElem?_setIfInBounds, if_neg (Ne.symm hij)]
    have hcl' : Ev.Closed l.toArray (listed.setIfInBounds j true) := fun i o' hi ho' d hd' => by
      have keep : ∀ (y : Nat), listed[y]? = some true → (listed.setIfInBounds j true)[y]? = some true := fun y hy => by
        by_cases e : y = j
        · subst e; simp [hlt]
        · rw [hold y e]; exact hy
      by_cases hij : i = j
      · subst hij
        rw [hoj] at ho'
        cases ho'
        exact keep d (hdl d hd')
      · rw [hold i hij] at hi
        exact keep d (hcl i o' hi ho' d hd')
    have hcnt : (listed.setIfInBounds j true).count false = fuel := by
      have := Array.count_set (xs := listed) (i := j) (a := true) (b := false) hlt
      rw [Array.setIfInBounds, dif_pos hlt]
      have h3 : listed[j] = false := by simpa [hlt] using hjl
      have h4 : 0 < listed.count false := Array.count_pos_iff.2 (Array.mem_iff_getElem.2 ⟨j, hlt, h3⟩)
      rw [this]
      simp [h3]
      omega
    have hLL : ∀ i, (listed.setIfInBounds j true).getD i false = (listed.getD i false || decide (i = j)) := fun i => by
      by_cases e : i = j
      · subst e; simp [Array.getD_eq_getD_getElem?, hlt]
      · simp [Array.getD_eq_getD_getElem?, hold i e, e]
    by_cases hjn : j = nA
    · subst hjn
      rw [hA] at hoj'; cases hoj'
      have hog' : og = none := by
        rw [hjl] at hog
        cases og with
        | none => rfl
        | some g => simp at hog
      subst hog'
      refine wpOp_of_list hoj ((Al_alloc (l := []) (Q := Then (Ad P N M0 w0 l.toArray Q fuel (listed.setIfInBounds j true)) Q) ho hgA hdA hNA hz hzs hv (fun g => Al_nil ?_)).out a w hsim) (fun a' w' ⟨st', h1, h2⟩ => h1.out a' w' h2) (fun c a' w' h => h) (fun ⟨a', w', h⟩ => ⟨a', w', h⟩)
      have hun' : ∀ i, n ≤ i → i ≠ j → i < l.length → (listed.setIfInBounds j true)[i]? = some false := fun i h1 h2 h3 => by
        rw [hold i h2]; exact hun i h1 h2 h3
      have := ih (listed.setIfInBounds j true) (some g) (by simpa using hs) hcl' (by simp [hlt]) hun' hcnt
      have e : stL (l.take n) ss (fun i => (listed.setIfInBounds j true).getD i false) st = stL (l.take n) ss (fun i => listed.getD i false) st := stL_congr (fun i hi => by
        rw [hLL i]
        simp at hi
        simp [show i ≠ j by omega]) (fun _ _ _ => rfl)
      rw [e] at this
      exact this
    · have hjn' : j < n := by
        rcases Nat.lt_or_ge j n with h | h
        · exact h
        · exact (hall (preA_ready ht hcl hj h hjn)).elim
      have hun' : ∀ i, n ≤ i → i ≠ nA → i < l.length → (listed.setIfInBounds j true)[i]? = some false := fun i h1 h2 h3 => by
        rw [hold i (by omega)]; exact hun i h1 h2 h3
      have hjt : (l.take n)[j]? = some o := by rw [htk j hjn']; exact hoj'
      obtain ⟨d, hdo, hS⟩ := hst j o hjt
      have hmem : o ∈ l.take n := List.mem_of_getElem? hjt
      have hdN := List.all_eq_true.1 hds o hmem
      rw [hdo] at hdN
      simp only [Bool.and_eq_true, decide_eq_true_eq, Bool.not_eq_true'] at hdN
      have hddA : d ≠ dA := fun e => by rw [e] at hdN; simp at hdN
      have hno := List.all_eq_true.1 hdA2 o hmem
      simp only [Bool.and_eq_true] at hno
      have hdrj := List.all_eq_true.1 hdr j (List.mem_range.2 hjn')
      rw [hoj'] at hdrj
      simp only [Bool.and_eq_true] at hdrj
      obtain ⟨⟨hops, hgd⟩, hconst⟩ := hdrj
      have hsl : ∀ t, opB (l.take n) j o t = true → t ≠ dA → (alcO dA (.box T (zs.map .d)) og (stL (l.take n) ss (fun i => listed.getD i false) st)).sl t = (stL (l.take n) ss (fun x => decide (x < j)) st).sl t := by
        intro t hop hne
        have e1 : (alcO dA (.box T (zs.map .d)) og (stL (l.take n) ss (fun i => listed.getD i false) st)).sl t = (stL (l.take n) ss (fun i => listed.getD i false) st).sl t := by
          cases og with
          | none => rfl
          | some g =>
            show (bif Nat.beq t dA then _ else _) = _
            have : Nat.beq t dA = false := by
              cases hb : Nat.beq t dA with
              | false => rfl
              | true => exact absurd (Nat.eq_of_beq_eq_true hb) hne
            rw [this]; rfl
        rw [e1]
        by_cases hin : inB (l.take n) t = true
        · simp only [opB, hin, Bool.not_true, Bool.false_or, List.any_eq_true, List.mem_range, Bool.and_eq_true, beq_iff_eq] at hop
          obtain ⟨i, hi, hid, hic⟩ := hop
          obtain ⟨oi, hoi, hoid⟩ := Option.bind_eq_some_iff.1 hid
          have hli := hdl i (by simpa using hic)
          rw [stL_at hd hoi hoid (by simp [Array.getD_eq_getD_getElem?, hli]), stL_at hd hoi hoid (by simpa using hi)]
        · have hout : ∀ (i : Nat) (o' : Oper), (l.take n)[i]? = some o' → o'.dst ≠ some t := fun i o' h1 h2 => hin (by
            simp only [inB, List.any_eq_true, beq_iff_eq]
            exact ⟨o', List.mem_of_getElem? h1, h2⟩)
          rw [stL_out fun i o' h1 h2 => absurd h2 (hout i o' h1), stL_out fun i o' h1 h2 => absurd h2 (hout i o' h1)]
      have hS2 : St P l.toArray (alcO dA (.box T (zs.map .d)) og (stL (l.take n) ss (fun i => listed.getD i false) st)) o (ss j) := by
        refine St_frame hS (fun x hx => ?_) (fun j' b oj dj h1 h2 h3 => ?_) (fun k g ob h => ?_)
        · cases x with
          | tmp t =>
            have h1 := List.all_eq_true.1 hops _ hx
            have h2 := List.all_eq_true.1 hno.1 _ hx
            exact hsl t h1 (fun e => by rw [e] at h2; simp at h2)
          | _ => rfl
        · rw [hget] at h2
          rw [h1] at hgd
          simp only [h2, h3, Bool.and_eq_true, decide_eq_true_eq] at hgd
          have h4 := hno.2
          rw [h1] at h4
          simp only [h2, h3, Bool.not_eq_true'] at h4
          exact hsl dj hgd.1 (fun e => by rw [e] at h4; simp at h4)
        · cases og with
          | none => exact h
          | some g' =>
            show (bif Nat.beq k dA then _ else st.ob k) = _
            have h' : st.ob k = some (g, ob) := h
            have : Nat.beq k dA = false := by
              cases hb : Nat.beq k dA with
              | false => rfl
              | true =>
                have := Nat.eq_of_beq_eq_true hb
                subst this
                rw [hfree] at h'; cases h'
            rw [this]; exact h'
      refine wpOp_of_list hoj ((Al_st (l := []) (Q := Then (Ad P N M0 w0 l.toArray Q fuel (listed.setIfInBounds j true)) Q) hS2 hdo hdN.1 hconst (fun j' b oj dj h1 h2 h3 => ?_) (Al_nil ?_)).out a w hsim) (fun a' w' ⟨st', h1, h2⟩ => h1.out a' w' h2) (fun c a' w' h => h) (fun ⟨a', w', h⟩ => ⟨a', w', h⟩)
      · rw [hget] at h2
        rw [h1] at hgd
        simp only [h2, h3, Bool.and_eq_true, decide_eq_true_eq] at hgd
        exact hgd.2
      · have := ih (listed.setIfInBounds j true) og (by simpa using hs) hcl' (by rw [hold nA (Ne.symm hjn)]; exact hog) hun' hcnt
        have e : (alcO dA (.box T (zs.map .d)) og (stL (l.take n) ss (fun i => listed.getD i false) st)).set d (ss j) = alcO dA (.box T (zs.map .d)) og (stL (l.take n) ss (fun i => (listed.setIfInBounds j true).getD i false) st) := by
          have e2 : (stL (l.take n) ss (fun i => listed.getD i false) st).set d (ss j) = stL (l.take n) ss (fun i => (listed.setIfInBounds j true).getD i false) st := stL_set hd hjt hdo hLL
          cases og with
          | none => exact e2
          | some g => show (alcS _ _ _ _).set d (ss j) = alcS _ _ _ _; rw [alcS_set hddA, e2]
        show Ad P N M0 w0 l.toArray Q fuel (listed.setIfInBounds j true) _
        rw [e]
        exact this
/-- A region that draws its order: pure operations ahead, and a variable that is made somewhere; the rest is walked order by order. -/
theorem Aw_drawPA {id : Nat} {l : List Oper} (n nA m : Nat) {oA : Oper} {dA : Nat} {T : TypeId} {z : Value} {zs : List AV} (hm : P.follows .mixedOrders = true) (hok : drawPAB N l n nA dA = true) (hnm : l.length = n + (m + 1)) (hnA : n ≤ nA) (hA : l[nA]? = some oA) (ho : oA.op = .alloc T) (hgA : oA.guard = none) (hdA : oA.dst = some dA) (hNA : dA < N) (hz : ∀ w, (zeroValue T).run P w = .ok z w) (hzs : z.cells.toList.map AV.v = zs) (hv : z.cells.toList.all (fun z => decide (vok z)) = true) (hfree : st.ob dA = none)
    (h : Dr P l.toArray (fun st' => Ad P N M0 w0 l.toArray Q (m + 1) (List.replicate n true ++ List.replicate (m + 1) false).toArray st' ∧ ∀ g, Ad P N M0 w0 l.toArray Q m ((List.replicate n true ++ List.replicate (m + 1) false).toArray.setIfInBounds nA true) ((st'.put dA g (.box T (zs.map .d))).set dA (.bx dA g 0))) (l.take n) st) : Aw P N M0 w0 (.region id l.toArray true) Q st := by
  have hd : Ev.distinct (l.take n) = true := by
    simp only [drawPAB, Bool.and_eq_true] at hok
    exact hok.1.1.1.1.1
  have hnl : nA < l.length := (List.getElem?_eq_some_iff.1 hA).1
  have h0 : stL (l.take n) (fun _ => .any) (fun i => decide (i < 0)) st = st := by
    refine Eq.trans (stL_congr (fun i _ => ?_) (fun _ _ _ => rfl)) (stL_none (l := l.take n) (ss := fun _ => .any) (st := st))
    simp
  obtain ⟨ss, _, h2, h3, h4⟩ := dr_all hd (l.take n) 0 (fun _ => .any) rfl (by rw [h0]; exact h)
  refine Aw_drawn hm ?_
  have := drawPA_go hok hnm hnA hA ho hgA hdA hNA hz hzs hv hfree (fun i o hi => h2 i o (Nat.zero_le _) hi) h3 (fun g => h4 g) l.length (List.replicate l.length false).toArray none (by simp) (fun i o h1 _ d _ => by
    exfalso
    rw [List.getElem?_toArray, List.getElem?_replicate] at h1
    split at h1 <;> simp at h1) (by simp [List.getElem?_replicate, hnl]) (fun i _ _ hi => by simp [List.getElem?_replicate, hi]) (by simp [Array.count_replicate])
  have e : stL (l.take n) ss (fun i => (List.replicate l.length false).toArray.getD i false) st = st := by
    refine Eq.trans (stL_congr (fun i _ => ?_) (fun _ _ _ => rfl)) stL_none
    rw [Array.getD_eq_getD_getElem?, List.getElem?_toArray, List.getElem?_replicate]
    split <;> rfl
  rw [e] at this
  exact this
end
end Go.Proofs.Ytmbaeloiepjakaa.A
