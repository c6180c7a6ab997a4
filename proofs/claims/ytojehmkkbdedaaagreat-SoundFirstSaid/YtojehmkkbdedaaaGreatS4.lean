/- What the proofs need in common, laid together (4 of 5): no condition. -/
import Derived.Test.YtojehmkkbdedaaaGreatS3
import Derived.WideKeyEntry
import Derived.Laws.IdiomStrings
import Derived.Laws.BytesArg
set_option linter.unusedSimpArgs false
set_option linter.unusedVariables false
set_option linter.constructorNameAsVariable false

section
namespace Go.Proofs.YtojehmkkbdedaaaGreat.A
open Go Go.RowKit
/-- From n on all wait for what stands ahead of n. -/
def preB (ops : Array Oper) (n : Nat) : Bool := (List.range ops.size).all fun j => decide (j < n) || (List.range n).all fun i => (Ev.anc ops j (match ops[j]? with | some o => Ev.depsOf o | none => [])).contains i
theorem pre_ready {ops : Array Oper} {listed : Array Bool} {n j : Nat} (ht : preB ops n = true) (hc : Ev.Closed ops listed) (hj : j ∈ Region.ready .any ops listed) (hk : n ≤ j) : ∀ i, i < n → listed[i]? = some true := by
  obtain ⟨_, o, ho, hall⟩ := mem_ready.1 hj
  have hlt : j < ops.size := (Array.getElem?_eq_some_iff.1 ho).1
  have h1 := List.all_eq_true.1 ht j (List.mem_range.2 hlt)
  rw [ho] at h1
  simp only [Bool.or_eq_true, decide_eq_true_eq, List.all_eq_true] at h1
  intro i hi
  have h2 := (h1.resolve_left (by omega)) i (List.mem_range.2 hi)
  exact Ev.anc_listed hc j _ (Ev.deps_listed hall) i (by simpa using h2)
def drawPB (N : Nat) (l : List Oper) (n : Nat) : Bool := Ev.distinct (l.take n) && Ev.backB l.toArray && preB l.toArray n && drB N l n && (l.take n).all fun o => match o.dst with | some d => decide (d < N) | none => false
theorem back_lt {ops : Array Oper} {i d : Nat} {o : Oper} (hb : Ev.backB ops = true) (ho : ops[i]? = some o) (hd : d ∈ Ev.depsOf o) : d < i := by
  have hlt : i < ops.size := (Array.getElem?_eq_some_iff.1 ho).1
  have h1 := List.all_eq_true.1 hb i (List.mem_range.2 hlt)
  rw [ho] at h1
  simp only [Array.all_eq_true_iff_forall_mem, Bool.or_eq_true, Bool.not_eq_true', decide_eq_true_eq] at h1
  obtain ⟨e, he, hbi, rfl⟩ := Ev.mem_deps hd
  rcases h1 e (by simpa using he) with h | h
  · rw [h] at hbi; cases hbi
  · exact h
section
variable {P : Program} {N : Nat} {M0 : Nat → Prop} {w0 : Base} {Q : Exit → ASt → Prop} {st : ASt}
theorem drawP_go {l : List Oper} {k0 n m : Nat} {ss : Nat → SV} (hok : drawPB N l n = true) (hnm : l.length = n + m)
    (hst : ∀ i o, k0 ≤ i → (l.take n)[i]? = some o → ∃ d, o.dst = some d ∧ St P l.toArray (stL (l.take n) ss (fun x => decide (k0 ≤ x) && decide (x < i)) st) o (ss i))
    (hfin : Ad P N M0 w0 l.toArray Q m (List.replicate n true ++ List.replicate m false).toArray (stL (l.take n) ss (fun x => decide (k0 ≤ x)) st)) :
    ∀ (fuel : Nat) (listed : Array Bool), listed.size = l.length → Ev.Closed l.toArray listed → (∀ i, i < k0 → listed[i]? = some true) → (∀ i, n ≤ i → i < l.length → listed[i]? = some false) → listed.count false = fuel →
      Ad P N M0 w0 l.toArray Q fuel listed (stL (l.take n) ss (fun i => decide (k0 ≤ i) && listed.getD i false) st) := by
  simp only [drawPB, Bool.and_eq_true] at hok
  obtain ⟨⟨⟨⟨hd, hb⟩, ht⟩, hdr⟩, hds⟩ := hok
  have hsz : l.toArray.size = l.length := by simp
  have hget : ∀ (j : Nat), l.toArray[j]? = l[j]? := fun j => by simp
  have htk : ∀ (j : Nat), j < n → (l.take n)[j]? = l[j]? := fun j hj => by rw [List.getElem?_take, if_pos hj]
  have hlen : (l.take n).length = n := by simp; omega
  have fin : ∀ (fuel : Nat) (listed : Array Bool), listed.size = l.length → (∀ i, n ≤ i → i < l.length → listed[i]? = some false) → listed.count false = fuel → (∀ i, i < n → listed[i]? = some true) →
      Ad P N M0 w0 l.toArray Q fuel listed (stL (l.take n) ss (fun i => decide (k0 ≤ i) && listed.getD i false) st) := by
    intro fuel listed hs hun hfu hall
    have e1 : listed = (List.replicate n true ++ List.replicate m false).toArray := by
      apply Array.ext'
      apply List.ext_getElem?
      intro i
      rw [Array.getElem?_toList]
      rcases Nat.lt_or_ge i n with h | h
      · rw [hall i h, List.getElem?_append_left (by simpa using h), List.getElem?_replicate, if_pos h]
      · rw [List.getElem?_append_right (by simpa using h), List.getElem?_replicate, List.length_replicate]
        rcases Nat.lt_or_ge i l.length with h2 | h2
        · rw [hun i h h2, if_pos (by omega)]
        · rw [if_neg (by omega), Array.getElem?_eq_none (by omega)]
    have e2 : fuel = m := by rw [← hfu, e1]; simp [List.count_replicate]
    have e : stL (l.take n) ss (fun i => decide (k0 ≤ i) && listed.getD i false) st = stL (l.take n) ss (fun x => decide (k0 ≤ x)) st := stL_congr (fun i hi => by
      have := hall i (by omega)
      simp [Array.getD_eq_getD_getElem?, this]) (fun _ _ _ => rfl)
    rw [e, e2, e1]
    exact hfin
  intro fuel
  induction fuel with
  | zero =>
    intro listed hs hcl hk0 hun hn
    refine fin 0 listed hs hun hn fun i hi => ?_
    cases hl : listed[i]? with
    | none => rw [Array.getElem?_eq_none_iff] at hl; omega
    | some b =>
      cases b with
      | true => rfl
      | false =>
        have : false ∈ listed := Array.mem_of_getElem? hl
        have := Array.count_pos_iff.2 this
        omega
  | succ fuel ih =>
    intro listed hs hcl hk0 hun hn
    by_cases hall : ∀ (i : Nat), i < n → listed[i]? = some true
    · exact fin (fuel + 1) listed hs hun hn hall
    refine ⟨fun a w hsim => ⟨fun h0 => ?_, fun j hj => ?_⟩⟩
    · exfalso
      apply hall
      intro i
      induction i using Nat.strongRecOn with
      | _ i ih' =>
        intro hi
        cases hl : listed[i]? with
        | none => rw [Array.getElem?_eq_none_iff] at hl; omega
        | some b =>
          cases b with
          | true => rfl
          | false =>
            have := Ev.ready_of_least hb (by simpa using hs) (by simp; omega) hl (fun k hk => ih' k hk (by omega))
            rw [h0] at this
            cases this
    obtain ⟨hju, o, hoj, hdone⟩ := mem_ready.1 hj
    have hjo : j < l.length := by
      have := (Array.getElem?_eq_some_iff.1 hoj).1
      simpa using this
    have hlt : j < listed.size := by omega
    have hjl : listed[j]? = some false := by simp [Array.getD, hlt] at hju; simp [hlt, hju]
    have hjn' : j < n := by
      rcases Nat.lt_or_ge j n with h | h
      · exact h
      · exact (hall (pre_ready ht hcl hj h)).elim
    have hoj' : l[j]? = some o := by rw [← hget]; exact hoj
    have hdl : ∀ d ∈ Ev.depsOf o, listed[d]? = some true := Ev.deps_listed hdone
    have hold : ∀ (i : Nat), i ≠ j → (listed.setIfInBounds j true)[i]? = listed[i]? := fun i hij => by
      rw [Array.getElem?_setIfInBounds, if_neg (Ne.symm hij)]
    have hcl' : Ev.Closed l.toArray (listed.setIfInBounds j true) := fun i o' hi ho' d hd' => by
      have keep : ∀ (y : Nat), listed[y]? = some true → (listed.setIfInBounds j true)[y]? = some true := fun y hy => by
        by_cases e : y = j
        · subst e; simp [hlt]
        · rw [hold y e]; exact hy
      by_cases hij : i = j
      · subst hij
        rw [hoj] at ho'
        cases ho'
        exact keep d (hdl d hd')
      · rw [hold i hij] at hi
        exact keep d (hcl i o' hi ho' d hd')
    have hcnt : (listed.setIfInBounds j true).count false = fuel := by
      have := Array.count_set (xs := listed) (i := j) (a := true) (b := false) hlt
      rw [Array.setIfInBounds, dif_pos hlt]
      have h3 : listed[j] = false := by simpa [hlt] using hjl
      have h4 : 0 < listed.count false := Array.count_pos_iff.2 (Array.mem_iff_getElem.2 ⟨j, hlt, h3⟩)
      rw [this]
      simp [h3]
      omega
    have hLL : ∀ i, (listed.setIfInBounds j true).getD i false = (listed.getD i false || decide (i = j)) := fun i => by
      by_cases e : i = j
      · subst e; simp [Array.getD_eq_getD_getElem?, hlt]
      · simp [Array.getD_eq_getD_getElem?, hold i e, e]
    have hun' : ∀ i, n ≤ i → i < l.length → (listed.setIfInBounds j true)[i]? = some false := fun i h1 h2 => by
      rw [hold i (by omega)]; exact hun i h1 h2
    have hkj : k0 ≤ j := by
      rcases Nat.lt_or_ge j k0 with h | h
      · have := hk0 j h
        rw [hjl] at this; simp at this
      · exact h
    have hk0' : ∀ i, i < k0 → (listed.setIfInBounds j true)[i]? = some true := fun i hi => by rw [hold i (by omega)]; exact hk0 i hi
    have hjt : (l.take n)[j]? = some o := by rw [htk j hjn']; exact hoj'
    obtain ⟨d, hdo, hS⟩ := hst j o hkj hjt
    have hmem : o ∈ l.take n := List.mem_of_getElem? hjt
    have hdN := List.all_eq_true.1 hds o hmem
    rw [hdo] at hdN
    simp only [decide_eq_true_eq] at hdN
    have hdrj := List.all_eq_true.1 hdr j (List.mem_range.2 hjn')
    rw [hoj'] at hdrj
    simp only [Bool.and_eq_true] at hdrj
    obtain ⟨⟨hops, hgd⟩, hconst⟩ := hdrj
    have hsl : ∀ t, opB (l.take n) j o t = true → (stL (l.take n) ss (fun i => decide (k0 ≤ i) && listed.getD i false) st).sl t = (stL (l.take n) ss (fun x => decide (k0 ≤ x) && decide (x < j)) st).sl t := by
      intro t hop
      by_cases hin : inB (l.take n) t = true
      · simp only [opB, hin, Bool.not_true, Bool.false_or, List.any_eq_true, List.mem_range, Bool.and_eq_true, beq_iff_eq] at hop
        obtain ⟨i, hi, hid, hic⟩ := hop
        obtain ⟨oi, hoi, hoid⟩ := Option.bind_eq_some_iff.1 hid
        have hli := hdl i (by simpa using hic)
        rcases Nat.lt_or_ge i k0 with hik | hik
        · have hex : ∀ (L : Nat → Bool), L i = false → (stL (l.take n) ss L st).sl t = st.sl t := fun L hL => stL_out fun i' o' h1 h2 => by
            rcases Nat.lt_trichotomy i' i with h | h | h
            · exact (dist_ne hd h1 hoi h h2 hoid).elim
            · subst h; exact hL
            · exact (dist_ne hd hoi h1 h hoid h2).elim
          rw [hex _ (by simp [show ¬ k0 ≤ i from by omega]), hex _ (by simp [show ¬ k0 ≤ i from by omega])]
        · rw [stL_at hd hoi hoid (by simp [Array.getD_eq_getD_getElem?, hli, hik]), stL_at hd hoi hoid (by simp [hik]; exact hi)]
      · have hout : ∀ (i : Nat) (o' : Oper), (l.take n)[i]? = some o' → o'.dst ≠ some t := fun i o' h1 h2 => hin (by
          simp only [inB, List.any_eq_true, beq_iff_eq]
          exact ⟨o', List.mem_of_getElem? h1, h2⟩)
        rw [stL_out fun i o' h1 h2 => absurd h2 (hout i o' h1), stL_out fun i o' h1 h2 => absurd h2 (hout i o' h1)]
    have hS2 : St P l.toArray (stL (l.take n) ss (fun i => decide (k0 ≤ i) && listed.getD i false) st) o (ss j) := by
      refine St_frame hS (fun x hx => ?_) (fun j' b oj dj h1 h2 h3 => ?_) (fun k g ob h => h)
      · cases x with
        | tmp t => exact hsl t (List.all_eq_true.1 hops _ hx)
        | _ => rfl
      · rw [hget] at h2
        rw [h1] at hgd
        simp only [h2, h3, Bool.and_eq_true, decide_eq_true_eq] at hgd
        exact hsl dj hgd.1
    refine wpOp_of_list hoj ((Al_st (l := []) (Q := Then (Ad P N M0 w0 l.toArray Q fuel (listed.setIfInBounds j true)) Q) hS2 hdo hdN hconst (fun j' b oj dj h1 h2 h3 => ?_) (Al_nil ?_)).out a w hsim) (fun a' w' ⟨st', h1, h2⟩ => h1.out a' w' h2) (fun c a' w' h => h) (fun ⟨a', w', h⟩ => ⟨a', w', h⟩)
    · rw [hget] at h2
      rw [h1] at hgd
      simp only [h2, h3, Bool.and_eq_true, decide_eq_true_eq] at hgd
      exact hgd.2
    · have := ih (listed.setIfInBounds j true) (by simpa using hs) hcl' hk0' hun' hcnt
      have e2 : (stL (l.take n) ss (fun i => decide (k0 ≤ i) && listed.getD i false) st).set d (ss j) = stL (l.take n) ss (fun i => decide (k0 ≤ i) && (listed.setIfInBounds j true).getD i false) st := stL_set hd hjt hdo (fun i => by rw [hLL]; by_cases e : i = j <;> simp [e, hkj])
      show Ad P N M0 w0 l.toArray Q fuel (listed.setIfInBounds j true) _
      rw [e2]
      exact this
/-- The first k0 are done; of the next ones, up to n, all are pure. -/
theorem Ad_drawP {l : List Oper} {listed : Array Bool} {fuel : Nat} (k0 n m : Nat) (hok : drawPB N l n = true) (hk : k0 ≤ n) (hnm : l.length = n + m) (hl : listed = (List.replicate k0 true ++ List.replicate (n - k0 + m) false).toArray) (hf : fuel = n - k0 + m)
    (h : Dr P l.toArray (fun st' => Ad P N M0 w0 l.toArray Q m (List.replicate n true ++ List.replicate m false).toArray st') ((l.take n).drop k0) st) : Ad P N M0 w0 l.toArray Q fuel listed st := by
  have hok' := hok
  simp only [drawPB, Bool.and_eq_true] at hok'
  obtain ⟨⟨⟨⟨hd, hb⟩, _⟩, _⟩, _⟩ := hok'
  subst hl hf
  obtain ⟨ss, h2, h3⟩ : ∃ ss : Nat → SV, (∀ i o, k0 ≤ i → (l.take n)[i]? = some o → ∃ d, o.dst = some d ∧ St P l.toArray (stL (l.take n) ss (fun x => decide (k0 ≤ x) && decide (x < i)) st) o (ss i)) ∧ Ad P N M0 w0 l.toArray Q m (List.replicate n true ++ List.replicate m false).toArray (stL (l.take n) ss (fun x => decide (k0 ≤ x)) st) := by
    have gen : ∀ (r : List Oper) (j : Nat) (ss0 : Nat → SV), k0 ≤ j → (l.take n).drop j = r → Dr P l.toArray (fun st' => Ad P N M0 w0 l.toArray Q m (List.replicate n true ++ List.replicate m false).toArray st') r (stL (l.take n) ss0 (fun x => decide (k0 ≤ x) && decide (x < j)) st) →
        ∃ ss : Nat → SV, (∀ i, i < j → ss i = ss0 i) ∧ (∀ i o, j ≤ i → (l.take n)[i]? = some o → ∃ d, o.dst = some d ∧ St P l.toArray (stL (l.take n) ss (fun x => decide (k0 ≤ x) && decide (x < i)) st) o (ss i)) ∧ Ad P N M0 w0 l.toArray Q m (List.replicate n true ++ List.replicate m false).toArray (stL (l.take n) ss (fun x => decide (k0 ≤ x)) st) := by
      intro r
      induction r with
      | nil =>
        intro j ss0 hj hr hD
        have hlj : (l.take n).length ≤ j := by
          have := congrArg List.length hr
          simp only [List.length_drop, List.length_nil] at this
          omega
        refine ⟨ss0, fun _ _ => rfl, fun i o hi ho => ?_, ?_⟩
        · have := (List.getElem?_eq_some_iff.1 ho).1
          omega
        · have e : stL (l.take n) ss0 (fun x => decide (k0 ≤ x) && decide (x < j)) st = stL (l.take n) ss0 (fun x => decide (k0 ≤ x)) st := stL_congr (fun i hi => by simp [show i < j from by omega]) (fun _ _ _ => rfl)
          rw [← e]
          exact hD
      | cons o r ih =>
        intro j ss0 hj hr hD
        obtain ⟨d, s, hdo, hS, hD2⟩ := hD
        have hlt : j < (l.take n).length := by
          have := congrArg List.length hr
          simp only [List.length_drop, List.length_cons] at this
          omega
        have hoj : (l.take n)[j]? = some o := by
          have := congrArg (·[0]?) hr
          simpa [List.getElem?_drop] using this
        have hr2 : (l.take n).drop (j + 1) = r := by
          have := congrArg (List.drop 1) hr
          simpa [List.drop_drop, Nat.add_comm] using this
        let ss1 : Nat → SV := fun i => if i = j then s else ss0 i
        have e1 : (stL (l.take n) ss0 (fun x => decide (k0 ≤ x) && decide (x < j)) st) = stL (l.take n) ss1 (fun x => decide (k0 ≤ x) && decide (x < j)) st := stL_congr (fun _ _ => rfl) (fun i _ hi => by
          simp only [Bool.and_eq_true, decide_eq_true_eq] at hi
          show ss0 i = if i = j then s else ss0 i
          rw [if_neg (by omega)])
        have e2 : (stL (l.take n) ss1 (fun x => decide (k0 ≤ x) && decide (x < j)) st).set d s = stL (l.take n) ss1 (fun x => decide (k0 ≤ x) && decide (x < j + 1)) st := by
          have hs1 : ss1 j = s := if_pos rfl
          have := stL_set (st := st) (ss := ss1) (L := fun x => decide (k0 ≤ x) && decide (x < j)) (L' := fun x => decide (k0 ≤ x) && decide (x < j + 1)) hd hoj hdo (fun i => by
            by_cases e : i = j
            · subst e; simp [hj]
            · have : (i < j + 1) ↔ i < j := by omega
              simp [e, this])
          rw [hs1] at this
          exact this
        rw [e1, e2] at hD2
        obtain ⟨ss, g1, g2, g3⟩ := ih (j + 1) ss1 (by omega) hr2 hD2
        refine ⟨ss, fun i hi => ?_, fun i o' hi ho' => ?_, g3⟩
        · rw [g1 i (by omega)]
          show (if i = j then s else ss0 i) = _
          rw [if_neg (by omega)]
        · rcases Nat.lt_or_ge j i with h | h
          · exact g2 i o' h ho'
          · obtain rfl : i = j := by omega
            rw [hoj] at ho'; cases ho'
            refine ⟨d, hdo, ?_⟩
            have e3 : stL (l.take n) ss (fun x => decide (k0 ≤ x) && decide (x < i)) st = stL (l.take n) ss0 (fun x => decide (k0 ≤ x) && decide (x < i)) st := stL_congr (fun _ _ => rfl) (fun y _ hy => by
              simp only [Bool.and_eq_true, decide_eq_true_eq] at hy
              rw [g1 y (by omega)]
              show (if y = i then s else ss0 y) = _
              rw [if_neg (by omega)])
            rw [e3, g1 i (by omega), show ss1 i = s from if_pos rfl]
            exact hS
    have e0 : stL (l.take n) (fun _ => .any) (fun x => decide (k0 ≤ x) && decide (x < k0)) st = st := by
      refine Eq.trans (stL_congr (fun i _ => ?_) (fun _ _ _ => rfl)) (stL_none (l := l.take n) (ss := fun _ => .any) (st := st))
      simp only [Bool.and_eq_false_iff, decide_eq_false_iff_not]; omega
    obtain ⟨ss, _, g2, g3⟩ := gen ((l.take n).drop k0) k0 (fun _ => .any) (Nat.le_refl _) rfl (by rw [e0]; exact h)
    exact ⟨ss, g2, g3⟩
  have := drawP_go (k0 := k0) hok hnm h2 h3 (n - k0 + m) (List.replicate k0 true ++ List.replicate (n - k0 + m) false).toArray (by simp; omega) (fun i o h1 ho d hd' => ?_) (fun i hi => by rw [List.getElem?_toArray, List.getElem?_append_left (by simpa using hi), List.getElem?_replicate, if_pos hi]) (fun i h1 h2 => by rw [List.getElem?_toArray, List.getElem?_append_right (by simp; omega), List.getElem?_replicate, if_pos (by simp; omega)]) (by simp [List.count_replicate])
  · have e : stL (l.take n) ss (fun i => decide (k0 ≤ i) && (List.replicate k0 true ++ List.replicate (n - k0 + m) false).toArray.getD i false) st = st := by
      refine Eq.trans (stL_congr (fun i _ => ?_) (fun _ _ _ => rfl)) stL_none
      rw [Array.getD_eq_getD_getElem?, List.getElem?_toArray]
      rcases Nat.lt_or_ge i k0 with h | h
      · simp [show ¬ k0 ≤ i from by omega]
      · rw [List.getElem?_append_right (by simpa using h), List.getElem?_replicate]
        split <;> simp
    rw [e] at this
    exact this
  · have hi : i < k0 := by
      rcases Nat.lt_or_ge i k0 with h | h
      · exact h
      · rw [List.getElem?_toArray, List.getElem?_append_right (by simpa using h), List.getElem?_replicate] at h1
        split at h1 <;> simp at h1
    have hdi : d < i := back_lt hb ho hd'
    rw [List.getElem?_toArray, List.getElem?_append_left (by simp; omega), List.getElem?_replicate, if_pos (by omega)]
/-- A region that draws its order: pure operations ahead; the rest is walked order by order. -/
theorem Aw_drawP {id : Nat} {l : List Oper} (n m : Nat) (hm : P.follows .mixedOrders = true) (hok : drawPB N l n = true) (hnm : l.length = n + m)
    (h : Dr P l.toArray (fun st' => Ad P N M0 w0 l.toArray Q m (List.replicate n true ++ List.replicate m false).toArray st') (l.take n) st) : Aw P N M0 w0 (.region id l.toArray true) Q st := by
  refine Aw_drawn hm ?_
  exact Ad_drawP 0 n m hok (Nat.zero_le _) hnm (by rw [hnm]; simp) (by omega) (by rw [List.drop_zero]; exact h)
end
end Go.Proofs.YtojehmkkbdedaaaGreat.A
end

section
namespace Go.Proofs.YtojehmkkbdedaaaGreat
open Go.RowKit R
def SameTo (l m : List ByteArray) (k : Nat) : Prop := ∀ (i : Nat) (a b : ByteArray), i < k → l[i]? = some a → m[i]? = some b → (a.toList == b.toList) = true
theorem SameTo.next {l m : List ByteArray} {k : Nat} (h : SameTo l m k) {a b : ByteArray} (ha : l[k]? = some a) (hb : m[k]? = some b) (he : (a.toList == b.toList) = true) : SameTo l m (k + 1) := fun i x y hi hx hy => by
  by_cases e : i = k
  · subst e; rw [ha] at hx; rw [hb] at hy; cases hx; cases hy; exact he
  · exact h i x y (by omega) hx hy
def pv (l : List Rng) (k : Nat) : ByteArray := if k = 0 then ⟨#[]⟩ else (l.getD (k - 1) ⟨⟨#[]⟩, ⟨#[]⟩⟩).t
end Go.Proofs.YtojehmkkbdedaaaGreat
end

section
namespace Go.Proofs.YtojehmkkbdedaaaGreat
open Go.RowKit A R
open A.RowT
instance : RowI Rng where
  row := Rng.row
  into h _ := by
    obtain ⟨rfl, h2, h3⟩ := h
    exact cellsc (.v _ h2) rfl (cells1 (.v _ h3) rfl)
  back h := by
    obtain ⟨x1, xs1, rfl, h1_1, h2_1, g1⟩ := uncons h
    obtain ⟨rfl, k1⟩ := repv h1_1
    obtain ⟨x2, xs2, rfl, h1_2, h2_2, g2⟩ := uncons g1
    obtain ⟨rfl, k2⟩ := repv h1_2
    obtain rfl := uncons0 g2
    exact ⟨rfl, k1, k2⟩
theorem whole_a (l : List Rng) : ACall Tryz.prog 63 [.sl 2 (l.map Rng.row)] (bv (whole l)) := A.ofv (fun _ _ => by kernel_rfl) trivial fun M w vs ha => by
  obtain ⟨x, xs, rfl, h1, h2⟩ := allc ha
  obtain rfl := all0 h2
  exact whole_any x l _ w (sl_of (α := Rng) h1)
namespace S
def shape (c : SRow) : Bool := !(decide (c.parents.length < 1) || decide (6 < c.parents.length) || decide (8 < c.ranges.length) || !decide (c.owners.length = c.ranges.length) || !whole c.ranges)
def badP (p : Int) : Bool := decide (p < -1) || decide (6 ≤ p)
def badO (n : Nat) (x : Int) : Bool := decide (x < 1) || decide (2 ^ n ≤ x)
/-- A row that is written. -/
def written (c : SRow) : Bool := shape c && (!c.parents.any badP && !c.owners.any (badO c.parents.length))
end S
theorem shr_pos (x : Int) (n : Nat) (h : ¬ x < 1) : (!decide (x / 2 ^ n = 0)) = decide ((2 : Int) ^ n ≤ x) := by
  have hp : (0 : Int) < 2 ^ n := Int.pow_pos (by omega)
  by_cases h2 : (2 : Int) ^ n ≤ x
  · have : 1 ≤ x / 2 ^ n := (Int.le_ediv_iff_mul_le hp).2 (by omega)
    have h3 : ¬ x / 2 ^ n = 0 := by omega
    simp [h2, h3]
  · have : x / 2 ^ n = 0 := Int.ediv_eq_zero_of_lt (by omega) (by omega)
    simp [h2, this]
theorem div_in {x : Int} (n : Nat) (h : A.inI x) : A.inI (x / 2 ^ (n : Int).toNat) := by
  rw [Int.toNat_natCast]
  have hp : (0 : Int) < 2 ^ n := Int.pow_pos (by omega)
  simp only [A.inI] at *
  have h1 : -9223372036854775808 ≤ x / 2 ^ n := by
    rw [Int.le_ediv_iff_mul_le hp]
    have : (-9223372036854775808 : Int) * 2 ^ n ≤ -9223372036854775808 * 1 := Int.mul_le_mul_of_nonpos_left (by omega) (by omega)
    omega
  have h2 : x / 2 ^ n ≤ 9223372036854775807 := by
    by_cases h0 : 0 ≤ x
    · have := Int.ediv_le_self (2 ^ n) h0
      omega
    · have : x / 2 ^ n < 0 := Int.ediv_neg_of_neg_of_pos (by omega) hp
      omega
  omega
theorem S.shape_z (c : SRow) : (decide ((c.parents.length : Int) < 1) || decide (6 < (c.parents.length : Int)) || decide (8 < (c.ranges.length : Int)) || !decide ((c.owners.length : Int) = c.ranges.length) || !whole c.ranges) = !S.shape c := by
  have d1 : decide ((c.parents.length : Int) < 1) = decide (c.parents.length < 1) := decide_eq_decide.2 (by omega)
  have d2 : decide (6 < (c.parents.length : Int)) = decide (6 < c.parents.length) := decide_eq_decide.2 (by omega)
  have d3 : decide (8 < (c.ranges.length : Int)) = decide (8 < c.ranges.length) := decide_eq_decide.2 (by omega)
  have d4 : decide ((c.owners.length : Int) = c.ranges.length) = decide (c.owners.length = c.ranges.length) := decide_eq_decide.2 (by omega)
  rw [d1, d2, d3, d4, S.shape, Bool.not_not]
theorem S.shape_facts {c : SRow} (h : S.shape c = true) : 1 ≤ c.parents.length ∧ c.parents.length ≤ 6 ∧ c.ranges.length ≤ 8 ∧ c.owners.length = c.ranges.length ∧ whole c.ranges = true := by
  simp only [S.shape, Bool.not_eq_true', Bool.or_eq_false_iff, decide_eq_false_iff_not, Bool.not_eq_false', decide_eq_true_eq] at h
  obtain ⟨⟨⟨⟨h1, h2⟩, h3⟩, h4⟩, h5⟩ := h
  exact ⟨by omega, by omega, by omega, h4, h5⟩
namespace S
theorem any_at {α : Type} {p : α → Bool} {l : List α} {k : Nat} (hk : k < l.length) (h : p l[k] = true) : l.any p = true := List.any_eq_true.2 ⟨_, List.getElem_mem hk, h⟩
theorem any_snoc {α : Type} {p : α → Bool} {l : List α} {k : Nat} (hk : k < l.length) (h : (l.take k).any p = false) (h2 : p l[k] = false) : (l.take (k + 1)).any p = false := by
  rw [List.take_succ_eq_append_getElem hk, List.any_append, h]; simp [h2]
end S
end Go.Proofs.YtojehmkkbdedaaaGreat
end

section
namespace Go.Proofs.YtojehmkkbdedaaaGreat.A
open Go Go.RowKit
section
variable {P : Program} {st : ASt} {o : Oper}
theorem Pu_and1 {t yt : TypeId} {x y : Operand} {a : Nat} {r : Int} (ho : o.op = .binOp .and t x y yt) (hx : st.ev x = .d (.v (.int .i64 a))) (hy : st.ev y = .d (.v (.int .i64 1))) (ha : a < 9223372036854775808) (hr : ((a % 2 : Nat) : Int) = r) : Pu P st o (.d (.v (.int .i64 r))) := by
  subst hr
  exact Pu_bin ho hx hy (fun h1 h2 w => by
    simp only [Sem.run_bind, guard_int, Result.andThen_ok, binOp]
    have e : IntKind.i64.wrap (BitVec.ofInt IntKind.i64.bits (a : Int) &&& BitVec.ofInt IntKind.i64.bits 1).toNat = ((a % 2 : Nat) : Int) := by
      have e1 : (BitVec.ofInt IntKind.i64.bits (a : Int)).toNat = a := by
        show (BitVec.ofInt 64 (a : Int)).toNat = a
        rw [BitVec.ofInt_natCast, BitVec.toNat_ofNat]; omega
      have e2 : (BitVec.ofInt IntKind.i64.bits 1).toNat = 1 := rfl
      rw [BitVec.toNat_and, e1, e2, Nat.and_one_is_mod]
      exact IntWalk.i64_in _ (by omega)
    simp only [Op.intBits, e, ne_eq, not_true_eq_false, if_false, Sem.run_pure]) (fun h _ => by show inI _; simp only [inI]; omega)
end
end Go.Proofs.YtojehmkkbdedaaaGreat.A
namespace Go.Proofs.YtojehmkkbdedaaaGreat
open Go.RowKit A R
open A.RowT
namespace T
/-- A row that may be. -/
def ok (c : SRow) : Bool := S.shape c && !c.owners.any (S.badO c.parents.length)
theorem ok_facts {c : SRow} (h : ok c = true) : S.shape c = true ∧ ∀ x ∈ c.owners, 1 ≤ x ∧ x < 2 ^ c.parents.length := by
  unfold ok at h
  rw [Bool.and_eq_true] at h
  refine ⟨h.1, fun x hx => ?_⟩
  by_cases hb : S.badO c.parents.length x = true
  · rw [List.any_eq_true.2 ⟨x, hx, hb⟩] at h; cases h.2
  · simp only [S.badO, Bool.or_eq_true, decide_eq_true_eq, not_or] at hb; omega
/-- The sites that own a key. -/
def owners (c : SRow) (key : ByteArray) : Nat := if ok c then (if findR c.ranges key < 0 then 0 else (c.owners.getD (findR c.ranges key).toNat 0).toNat) else 0
def bit (m : Nat) (s : Int) : Bool := decide (0 ≤ s) && decide (s < 6) && decide (m / 2 ^ s.toNat % 2 = 1)
def firstF (m : Nat) : Int := match (List.range 6).find? (fun s => bit m (s : Nat)) with | some s => s | none => -1
theorem vok64 {m : Nat} (h : m < 64) : vok (.int .i64 (m : Int)) := by show A.inI _; simp only [A.inI]; omega
theorem shr_nat (m : Nat) (s : Int) : (m : Int) / 2 ^ s.toNat = ((m / 2 ^ s.toNat : Nat) : Int) := by
  rw [Int.natCast_ediv, Int.natCast_pow]; rfl
theorem bit_eq (m : Nat) (s : Int) : (decide (0 ≤ s) && decide (s < 6) && decide (((m / 2 ^ s.toNat % 2 : Nat) : Int) = 1)) = bit m s := by
  unfold bit
  congr 1
  exact decide_eq_decide.2 (by omega)
theorem pow_le {n : Nat} (h : n ≤ 6) : (2 : Nat) ^ n ≤ 64 := Nat.pow_le_pow_right (by omega) h
theorem first_none {m : Nat} (hn : ∀ j, j < 6 → bit m (j : Nat) = false) : firstF m = -1 := by
  unfold firstF
  have : (List.range 6).find? (fun s => bit m (s : Nat)) = none := by
    rw [List.find?_eq_none]
    intro j hj
    rw [hn j (List.mem_range.1 hj)]; simp
  rw [this]
end T
theorem idxF_le {α : Type} (p : α → Bool) (l : List α) : -1 ≤ idxF p l ∧ idxF p l < l.length ∨ l = [] ∧ idxF p l = -1 := by
  unfold idxF
  cases h : l.findIdx? p with
  | none =>
    cases l with
    | nil => exact .inr ⟨rfl, rfl⟩
    | cons x r => exact .inl ⟨by simp, by simp; omega⟩
  | some i =>
    have : i < l.length := by
      rw [List.findIdx?_eq_some_iff_getElem] at h
      exact h.1
    exact .inl ⟨by simp only []; omega, by simp only []; omega⟩
theorem find_vok (l : List Rng) (key : ByteArray) (h : l.length ≤ 1000000) : vok (.int .i64 (findR l key)) := by
  show A.inI _
  unfold findR
  simp only [A.inI]
  rcases idxF_le (fun r => K.hasB r.f r.t key) l with h1 | ⟨_, h1⟩ <;> omega
theorem find_a (l : List Rng) (key : ByteArray) (hl : l.length ≤ 1000000) : ACall Tryz.prog 44 [.sl 2 (l.map Rng.row), tv key] (iv (findR l key)) := A.ofv (fun _ _ => by kernel_rfl) (find_vok l key hl) fun M w vs ha => by
  obtain ⟨x, xs, rfl, h1, h2⟩ := allc ha
  obtain ⟨rfl, _⟩ := A.all1 h2
  exact find_any x l key _ w (sl_of (α := Rng) h1)
set_option maxRecDepth 100000 in
theorem sites_a (c : SRow) : ACall Tryz.prog 62 [.row c.row] (iv c.parents.length) := by
  refine ACall_enter (fun _ _ => by kernel_rfl) Tryz.func62 rfl Tryz.ntmps62 Tryz.results62 (Nat.le_of_ble_eq_true rfl) (fun hok M0 w0 hnl => ?_)
  refine Aw_seq (Aw_region ?_)
  refine Al_p (Pu_boxN rfl rfl) ?_
  refine Al_p Pu_mvr ?_
  refine Al_nil (Aw_seq (Aw_region ?_))
  refine Al_p (Pu_field 2 rfl Tryz.underlying27 rfl rfl Tryz.sizeOf22 rfl) ?_
  refine Al_p (Pu_load1 rfl Tryz.isAgg22 rfl rfl) ?_
  refine Al_p (Pu_len rfl Tryz.underlying22 rfl (by first | exact List.length_map .. | exact rfl)) ?_
  refine Al_p Pu_mvr ?_
  refine Al_nil ?_
  refine Aw_ret ?_
  exact Sub.rfl -- ret 0
set_option maxRecDepth 100000 in
theorem tcheck_a (c : SRow) : ACall Tryz.prog 45 [.row c.row] (bv (T.ok c)) := by
  refine ACall_enter (fun _ _ => by kernel_rfl) Tryz.func45 rfl Tryz.ntmps45 Tryz.results45 (Nat.le_of_ble_eq_true rfl) (fun hok M0 w0 hnl => ?_)
  refine Aw_seq (Aw_region ?_)
  refine Al_p (Pu_boxN rfl rfl) ?_
  refine Al_p Pu_mvr ?_
  refine Al_nil (Aw_seq (Aw_region ?_))
  refine Al_p (Pu_loadN rfl Tryz.isAgg27 Tryz.sizeOf27 rfl (Nat.le_of_ble_eq_true rfl)) ?_
  refine Al_p (Pu_call (sites_a c) rfl ⟨Sub.rfl, trivial⟩) ?_
  refine Al_p Pu_mvr ?_
  refine Al_nil (Aw_seq (Aw_seq (Aw_region ?_)))
  refine Al_p Pu_mvl ?_
  refine Al_p (Pu_cmp rfl rfl rfl rfl) ?_
  refine Al_p Pu_mvl ?_
  refine Al_st (St_gd [] rfl rfl rfl rfl trivial (fun hg11 => by exact Pu_move (.inl rfl) (by conv => lhs; whnf))) rfl (by decide) (by kernel_rfl) (by intro j b oj dj h1 h2 h3; cases h1; cases h2; cases h3; decide) ?_
  refine Al_st (St_gd [11] rfl rfl rfl rfl ⟨⟨_, rfl⟩, trivial⟩ (fun hg12 => Pu_cmp rfl rfl rfl rfl)) rfl (by decide) (by kernel_rfl) (by intro j b oj dj h1 h2 h3; cases h1; cases h2; cases h3; decide) ?_
  refine Al_p (Pu_or rfl rfl rfl rfl) ?_
  refine Al_p Pu_mvl ?_
  refine Al_st (St_gd [] rfl rfl rfl rfl trivial (fun hg15 => Pu_field 0 rfl Tryz.underlying27 rfl rfl Tryz.sizeOf25 rfl)) rfl (by decide) (by kernel_rfl) (by intro j b oj dj h1 h2 h3; cases h1; cases h2; cases h3; decide) ?_
  refine Al_st (St_gd [15] rfl rfl rfl rfl ⟨⟨_, rfl⟩, trivial⟩ (fun hg16 => Pu_load1 rfl Tryz.isAgg25 rfl rfl)) rfl (by decide) (by kernel_rfl) (by intro j b oj dj h1 h2 h3; cases h1; cases h2; cases h3; decide) ?_
  refine Al_st (St_gd [16] rfl rfl rfl rfl ⟨⟨_, rfl⟩, trivial⟩ (fun hg17 => by exact Pu_len rfl Tryz.underlying25 rfl (by first | exact List.length_map .. | exact rfl))) rfl (by decide) (by kernel_rfl) (by intro j b oj dj h1 h2 h3; cases h1; cases h2; cases h3; decide) ?_
  refine Al_st (St_gd [17] rfl rfl rfl rfl ⟨⟨_, rfl⟩, trivial⟩ (fun hg18 => Pu_cmp rfl rfl rfl rfl)) rfl (by decide) (by kernel_rfl) (by intro j b oj dj h1 h2 h3; cases h1; cases h2; cases h3; decide) ?_
  refine Al_p (Pu_or rfl rfl rfl rfl) ?_
  refine Al_p Pu_mvl ?_
  refine Al_st (St_gd [] rfl rfl rfl rfl trivial (fun hg21 => Pu_field 1 rfl Tryz.underlying27 rfl rfl Tryz.sizeOf22 rfl)) rfl (by decide) (by kernel_rfl) (by intro j b oj dj h1 h2 h3; cases h1; cases h2; cases h3; decide) ?_
  refine Al_st (St_gd [21] rfl rfl rfl rfl ⟨⟨_, rfl⟩, trivial⟩ (fun hg22 => Pu_load1 rfl Tryz.isAgg22 rfl rfl)) rfl (by decide) (by kernel_rfl) (by intro j b oj dj h1 h2 h3; cases h1; cases h2; cases h3; decide) ?_
  refine Al_st (St_gd [22] rfl rfl rfl rfl ⟨⟨_, rfl⟩, trivial⟩ (fun hg23 => by exact Pu_len rfl Tryz.underlying22 rfl (by first | exact List.length_map .. | exact rfl))) rfl (by decide) (by kernel_rfl) (by intro j b oj dj h1 h2 h3; cases h1; cases h2; cases h3; decide) ?_
  refine Al_st (St_gd [] rfl rfl rfl rfl trivial (fun hg24 => Pu_field 0 rfl Tryz.underlying27 rfl rfl Tryz.sizeOf25 rfl)) rfl (by decide) (by kernel_rfl) (by intro j b oj dj h1 h2 h3; cases h1; cases h2; cases h3; decide) ?_
  refine Al_st (St_gd [24] rfl rfl rfl rfl ⟨⟨_, rfl⟩, trivial⟩ (fun hg25 => Pu_load1 rfl Tryz.isAgg25 rfl rfl)) rfl (by decide) (by kernel_rfl) (by intro j b oj dj h1 h2 h3; cases h1; cases h2; cases h3; decide) ?_
  refine Al_st (St_gd [25] rfl rfl rfl rfl ⟨⟨_, rfl⟩, trivial⟩ (fun hg26 => by exact Pu_len rfl Tryz.underlying25 rfl (by first | exact List.length_map .. | exact rfl))) rfl (by decide) (by kernel_rfl) (by intro j b oj dj h1 h2 h3; cases h1; cases h2; cases h3; decide) ?_
  refine Al_st (St_gd [23, 26] rfl rfl rfl rfl ⟨⟨_, rfl⟩, ⟨_, rfl⟩, trivial⟩ (fun hg27 => Pu_cmp rfl rfl rfl rfl)) rfl (by decide) (by kernel_rfl) (by intro j b oj dj h1 h2 h3; cases h1; cases h2; cases h3; decide) ?_
  refine Al_p (Pu_or rfl rfl rfl rfl) ?_
  refine Al_p Pu_mvl ?_
  refine Al_st (St_gd [] rfl rfl rfl rfl trivial (fun hg30 => Pu_field 0 rfl Tryz.underlying27 rfl rfl Tryz.sizeOf25 rfl)) rfl (by decide) (by kernel_rfl) (by intro j b oj dj h1 h2 h3; cases h1; cases h2; cases h3; decide) ?_
  refine Al_st (St_gd [30] rfl rfl rfl rfl ⟨⟨_, rfl⟩, trivial⟩ (fun hg31 => Pu_load1 rfl Tryz.isAgg25 rfl rfl)) rfl (by decide) (by kernel_rfl) (by intro j b oj dj h1 h2 h3; cases h1; cases h2; cases h3; decide) ?_
  refine Al_st (St_gd [31] rfl rfl rfl rfl ⟨⟨_, rfl⟩, trivial⟩ (fun hg32 => Pu_call (whole_a c.ranges) rfl ⟨Sub.rfl, trivial⟩)) rfl (by decide) (by kernel_rfl) (by intro j b oj dj h1 h2 h3; cases h1; cases h2; cases h3; decide) ?_
  refine Al_st (St_gd [32] rfl rfl rfl rfl ⟨⟨_, rfl⟩, trivial⟩ (fun hg33 => Pu_not rfl rfl)) rfl (by decide) (by kernel_rfl) (by intro j b oj dj h1 h2 h3; cases h1; cases h2; cases h3; decide) ?_
  refine Al_p (Pu_or rfl rfl rfl rfl) ?_
  refine Al_nil ?_
  refine Aw_cond rfl (fun h34 => ?_) (fun h34 => ?_)
  · skip
    have hs : S.shape c = false := by
      have h := S.shape_z c
      rw [h34] at h
      simpa using h.symm
    refine Aw_seq (Aw_region ?_)
    refine Al_p Pu_mvr ?_
    refine Al_nil ?_
    refine Aw_ret ?_
    exact Sub.bool (by unfold T.ok; rw [hs]; rfl) -- ret 0
  · skip
    have hs : S.shape c = true := by
      have h := S.shape_z c
      rw [h34] at h
      simpa using h.symm
    obtain ⟨n1, n6, n8, no, _⟩ := S.shape_facts hs
    have hn : (0 : Int) ≤ (c.parents.length : Int) ∧ (c.parents.length : Int) ≤ (IntKind.i64.bits : Nat) := ⟨by omega, by show (c.parents.length : Int) ≤ 64; omega⟩
    refine Aw_skip (Aw_seq (Aw_seq (Aw_region ?_)))
    refine Al_p (Pu_field 1 rfl Tryz.underlying27 rfl rfl Tryz.sizeOf22 rfl) ?_
    refine Al_p (Pu_load1 rfl Tryz.isAgg22 rfl rfl) ?_
    refine Al_p (Pu_len rfl Tryz.underlying22 rfl (by first | exact List.length_map .. | exact rfl)) ?_
    refine Al_p Pu_mvl ?_
    refine Al_nil (Aw_block ?_)
    refine Aw_loopk (ι := Nat) [3, 36, 37] [] (fun k => [(38, .d (iv k))]) (fun k => []) (fun k => k ≤ c.owners.length ∧ (c.owners.take k).any (S.badO c.parents.length) = false) (fun k => c.owners.length - k) (0) (⟨Nat.zero_le _, by simp⟩) ⟨Sub.rfl, trivial⟩ trivial ?_
    rintro k ⟨hk0, hno⟩
    refine Aw_seq (Aw_region ?_)
    refine Al_p (Pu_cmp rfl rfl rfl rfl) ?_
    refine Al_nil (Aw_seq ?_)
    refine Aw_cond rfl (fun h39 => ?_) (fun h39 => ?_)
    · (try simp only [decide_eq_true_eq, decide_eq_false_iff_not, Bool.and_eq_true, Bool.or_eq_true, Bool.and_eq_false_iff, Bool.or_eq_false_iff, Bool.not_eq_true', Bool.not_eq_false', beq_iff_eq, Bool.not_eq_eq_eq_not, Bool.not_true, Bool.not_false, List.length_map, Bool.and_true, Bool.and_false, Bool.false_and, Bool.true_and, Bool.or_false, Bool.false_or] at h39)
      have hk : k < c.owners.length := by omega
      refine Aw_skip (Aw_seq (Aw_block (Aw_seq (Aw_region ?_))))
      refine Al_p (Pu_index rfl Tryz.underlying22 Tryz.sizeOf3 rfl rfl (rfl) (mapget hk)) ?_
      refine Al_p (Pu_load1 rfl Tryz.isAgg3 rfl rfl) ?_
      refine Al_p Pu_mvr ?_
      refine Al_nil (Aw_seq (Aw_region ?_))
      refine Al_p Pu_mvl ?_
      refine Al_p (Pu_cmp rfl rfl rfl rfl) ?_
      refine Al_p Pu_mvl ?_
      refine Al_st (St_gd [] rfl rfl rfl rfl trivial (fun hg45 => by exact Pu_move (.inl rfl) (by conv => lhs; whnf))) rfl (by decide) (by kernel_rfl) (by intro j b oj dj h1 h2 h3; cases h1; cases h2; cases h3; decide) ?_
      refine Al_st (St_gd [] rfl rfl rfl rfl trivial (fun hg46 => by exact Pu_move (.inl rfl) (by conv => lhs; whnf))) rfl (by decide) (by kernel_rfl) (by intro j b oj dj h1 h2 h3; cases h1; cases h2; cases h3; decide) ?_
      refine Al_st (St_gd [45, 46] rfl rfl rfl rfl ⟨⟨_, rfl⟩, ⟨_, rfl⟩, trivial⟩ (fun hg47 => Pu_int_shr rfl rfl rfl hn rfl (fun h => div_in _ h))) rfl (by decide) (by kernel_rfl) (by intro j b oj dj h1 h2 h3; cases h1; cases h2; cases h3; decide) ?_
      refine Al_st (St_gd [47] rfl rfl rfl rfl ⟨⟨_, rfl⟩, trivial⟩ (fun hg48 => Pu_cmp rfl rfl rfl rfl)) rfl (by decide) (by kernel_rfl) (by intro j b oj dj h1 h2 h3; cases h1; cases h2; cases h3; decide) ?_
      refine Al_p (Pu_or rfl rfl rfl rfl) ?_
      refine Al_nil ?_
      refine Aw_cond rfl (fun h49 => ?_) (fun h49 => ?_)
      · skip
        have hb : S.badO c.parents.length (c.owners[k]'hk) = true := by
          unfold S.badO
          by_cases h : c.owners[k]'hk < 1
          · simp [h]
          · have h2 := shr_pos (c.owners[k]'hk) c.parents.length h
            rw [← h2]
            exact h49
        refine Aw_seq (Aw_region ?_)
        refine Al_p Pu_mvr ?_
        refine Al_nil ?_
        refine Aw_ret ?_
        exact Sub.bool (by unfold T.ok; rw [S.any_at hk hb]; simp) -- ret 1
      · skip
        have hb : S.badO c.parents.length (c.owners[k]'hk) = false := by
          unfold S.badO
          by_cases h : c.owners[k]'hk < 1
          · simp [h] at h49
          · have h2 := shr_pos (c.owners[k]'hk) c.parents.length h
            rw [← h2]
            exact h49
        refine Aw_skip (Aw_region ?_)
        refine Al_p (Pu_add rfl rfl rfl (fun h1 h2 => by simp only [A.inI, A.maxI] at *; omega)) ?_
        refine Al_p Pu_mvl ?_
        refine Al_nil ?_
        exact ⟨k + 1, ⟨by omega, S.any_snoc hk hno hb⟩, by omega, Le.ov ⟨Sub.num (by omega), trivial⟩ ⟨Sub.rfl, Sub.rfl, Sub.rfl, trivial⟩ trivial trivial⟩ -- loop 0 next.0
    · (try simp only [decide_eq_true_eq, decide_eq_false_iff_not, Bool.and_eq_true, Bool.or_eq_true, Bool.and_eq_false_iff, Bool.or_eq_false_iff, Bool.not_eq_true', Bool.not_eq_false', beq_iff_eq, Bool.not_eq_eq_eq_not, Bool.not_true, Bool.not_false, List.length_map, Bool.and_true, Bool.and_false, Bool.false_and, Bool.true_and, Bool.or_false, Bool.false_or] at h39)
      obtain rfl : k = c.owners.length := by omega
      rw [List.take_length] at hno
      refine Aw_exit (Aw_seq (Aw_region ?_))
      refine Al_p Pu_mvr ?_
      refine Al_nil ?_
      refine Aw_ret ?_
      exact Sub.bool (by unfold T.ok; rw [hs, hno]; rfl) -- ret 2
set_option maxRecDepth 100000 in
theorem has_a (m : Nat) (s : Int) (hm : m < 64) : ACall Tryz.prog 35 [iv m, iv s] (bv (T.bit m s)) := by
  refine ACall_enter (fun _ _ => by kernel_rfl) Tryz.func35 rfl Tryz.ntmps35 Tryz.results35 (Nat.le_of_ble_eq_true rfl) (fun hok M0 w0 hnl => ?_)
  have q14 : (decide (0 ≤ s) && decide (s < 6)) = true → (0 : Int) ≤ s ∧ s ≤ (IntKind.i64.bits : Nat) := fun h => by
    simp only [Bool.and_eq_true, decide_eq_true_eq] at h
    exact ⟨h.1, by show s ≤ 64; omega⟩
  have q15 : m / 2 ^ s.toNat < 64 := by have := Nat.div_le_self m (2 ^ s.toNat); omega
  refine Aw_seq (Aw_region ?_)
  refine Al_p Pu_mvr ?_
  refine Al_nil (Aw_seq (Aw_region ?_))
  refine Al_p Pu_mvl ?_
  refine Al_p (Pu_cmp rfl rfl rfl rfl) ?_
  refine Al_p Pu_mvl ?_
  refine Al_st (St_gd [] rfl rfl rfl rfl trivial (fun hg8 => by exact Pu_move (.inl rfl) (by conv => lhs; whnf))) rfl (by decide) (by kernel_rfl) (by intro j b oj dj h1 h2 h3; cases h1; cases h2; cases h3; decide) ?_
  refine Al_st (St_gd [8] rfl rfl rfl rfl ⟨⟨_, rfl⟩, trivial⟩ (fun hg9 => Pu_cmp rfl rfl rfl rfl)) rfl (by decide) (by kernel_rfl) (by intro j b oj dj h1 h2 h3; cases h1; cases h2; cases h3; decide) ?_
  refine Al_p (Pu_and rfl rfl rfl rfl) ?_
  refine Al_p Pu_mvl ?_
  refine Al_st (St_gd [] rfl rfl rfl rfl trivial (fun hg12 => by exact Pu_move (.inl rfl) (by conv => lhs; whnf))) rfl (by decide) (by kernel_rfl) (by intro j b oj dj h1 h2 h3; cases h1; cases h2; cases h3; decide) ?_
  refine Al_st (St_gd [] rfl rfl rfl rfl trivial (fun hg13 => by exact Pu_move (.inl rfl) (by conv => lhs; whnf))) rfl (by decide) (by kernel_rfl) (by intro j b oj dj h1 h2 h3; cases h1; cases h2; cases h3; decide) ?_
  refine Al_st (St_gd [12, 13] rfl rfl rfl rfl ⟨⟨_, rfl⟩, ⟨_, rfl⟩, trivial⟩ (fun hg14 => Pu_int_shr (r := ((m / 2 ^ s.toNat : Nat) : Int)) rfl rfl rfl (q14 hg14) (T.shr_nat m s) (fun _ => T.vok64 q15))) rfl (by decide) (by kernel_rfl) (by intro j b oj dj h1 h2 h3; cases h1; cases h2; cases h3; decide) ?_
  refine Al_st (St_gd [14] rfl rfl rfl rfl ⟨⟨_, rfl⟩, trivial⟩ (fun hg15 => by exact Pu_and1 rfl rfl rfl (Nat.lt_trans q15 (by decide)) rfl)) rfl (by decide) (by kernel_rfl) (by intro j b oj dj h1 h2 h3; cases h1; cases h2; cases h3; decide) ?_
  refine Al_st (St_gd [15] rfl rfl rfl rfl ⟨⟨_, rfl⟩, trivial⟩ (fun hg16 => Pu_cmp rfl rfl rfl rfl)) rfl (by decide) (by kernel_rfl) (by intro j b oj dj h1 h2 h3; cases h1; cases h2; cases h3; decide) ?_
  refine Al_p (Pu_and rfl rfl rfl rfl) ?_
  refine Al_p Pu_mvr ?_
  refine Al_nil ?_
  refine Aw_ret ?_
  exact Sub.bool (T.bit_eq m s) -- ret 0
theorem T.shape_owner {c : SRow} (h : T.ok c = true) {key : ByteArray} (hf : ¬ findR c.ranges key < 0) : ∃ k : Nat, findR c.ranges key = (k : Int) ∧ ∃ hk : k < c.owners.length, 1 ≤ c.owners[k] ∧ c.owners[k] < 64 ∧ (T.owners c key : Int) = c.owners[k] := by
  obtain ⟨hs, ho⟩ := T.ok_facts h
  obtain ⟨n1, n6, n8, no, _⟩ := S.shape_facts hs
  have hi : findR c.ranges key < c.ranges.length := by
    rcases idxF_le (fun r => K.hasB r.f r.t key) c.ranges with h1 | ⟨_, h1⟩
    · exact h1.2
    · exact absurd (show findR c.ranges key < 0 by show idxF _ _ < 0; omega) hf
  refine ⟨(findR c.ranges key).toNat, by omega, by omega, ?_⟩
  have hk : (findR c.ranges key).toNat < c.owners.length := by omega
  have h1 := ho _ (List.getElem_mem hk)
  have h2 := T.pow_le n6
  have h3 : ((2 ^ c.parents.length : Nat) : Int) = (2 : Int) ^ c.parents.length := by rw [Int.natCast_pow]; rfl
  refine ⟨h1.1, by omega, ?_⟩
  unfold T.owners
  rw [if_pos h, if_neg hf, List.getD_eq_getElem?_getD, List.getElem?_eq_getElem hk]
  simp only [Option.getD_some]
  omega
theorem T.owners_lt (c : SRow) (key : ByteArray) : T.owners c key < 64 := by
  by_cases h : T.ok c = true
  · by_cases hf : findR c.ranges key < 0
    · unfold T.owners; rw [if_pos h, if_pos hf]; omega
    · obtain ⟨k, h1, h2, h3, h4, h5⟩ := T.shape_owner h hf
      omega
  · unfold T.owners; rw [if_neg h]; omega
set_option maxRecDepth 100000 in
theorem owners_a (c : SRow) (key : ByteArray) : ACall Tryz.prog 36 [.row c.row, tv key] (iv (T.owners c key)) := by
  refine ACall_enter (fun _ _ => by kernel_rfl) Tryz.func36 rfl Tryz.ntmps36 Tryz.results36 (Nat.le_of_ble_eq_true rfl) (fun hok M0 w0 hnl => ?_)
  refine Aw_seq (Aw_region ?_)
  refine Al_p (Pu_boxN rfl rfl) ?_
  refine Al_p Pu_mvr ?_
  refine Al_nil (Aw_seq (Aw_seq (Aw_region ?_)))
  refine Al_p (Pu_loadN rfl Tryz.isAgg27 Tryz.sizeOf27 rfl (Nat.le_of_ble_eq_true rfl)) ?_
  refine Al_p (Pu_call (tcheck_a c) rfl ⟨Sub.rfl, trivial⟩) ?_
  refine Al_p (Pu_not rfl rfl) ?_
  refine Al_nil ?_
  refine Aw_cond rfl (fun h8 => ?_) (fun h8 => ?_)
  · skip
    have hno : T.owners c key = 0 := by
      unfold T.owners; rw [if_neg]; simpa using h8
    refine Aw_seq (Aw_region ?_)
    refine Al_p Pu_mvr ?_
    refine Al_nil ?_
    refine Aw_ret ?_
    exact Sub.num (by rw [hno]; rfl) -- ret 0
  · skip
    have hok2 : T.ok c = true := by simpa using h8
    have hl := (S.shape_facts (T.ok_facts hok2).1).2.2.1
    refine Aw_skip (Aw_seq (Aw_region ?_))
    refine Al_p (Pu_field 0 rfl Tryz.underlying27 rfl rfl Tryz.sizeOf25 rfl) ?_
    refine Al_p (Pu_load1 rfl Tryz.isAgg25 rfl rfl) ?_
    refine Al_p Pu_mvl ?_
    refine Al_p (Pu_call (find_a c.ranges key (by omega)) rfl ⟨Sub.rfl, Sub.rfl, trivial⟩) ?_
    refine Al_p Pu_mvr ?_
    refine Al_nil (Aw_seq (Aw_seq (Aw_region ?_)))
    refine Al_p Pu_mvl ?_
    refine Al_p (Pu_cmp rfl rfl rfl rfl) ?_
    refine Al_nil ?_
    refine Aw_cond rfl (fun h14 => ?_) (fun h14 => ?_)
    · (try simp only [decide_eq_true_eq, decide_eq_false_iff_not, Bool.and_eq_true, Bool.or_eq_true, Bool.and_eq_false_iff, Bool.or_eq_false_iff, Bool.not_eq_true', Bool.not_eq_false', beq_iff_eq, Bool.not_eq_eq_eq_not, Bool.not_true, Bool.not_false, List.length_map, Bool.and_true, Bool.and_false, Bool.false_and, Bool.true_and, Bool.or_false, Bool.false_or] at h14)
      have hno : T.owners c key = 0 := by
        unfold T.owners; rw [if_pos hok2, if_pos h14]
      refine Aw_seq (Aw_region ?_)
      refine Al_p Pu_mvr ?_
      refine Al_nil ?_
      refine Aw_ret ?_
      exact Sub.num (by rw [hno]; rfl) -- ret 1
    · (try simp only [decide_eq_true_eq, decide_eq_false_iff_not, Bool.and_eq_true, Bool.or_eq_true, Bool.and_eq_false_iff, Bool.or_eq_false_iff, Bool.not_eq_true', Bool.not_eq_false', beq_iff_eq, Bool.not_eq_eq_eq_not, Bool.not_true, Bool.not_false, List.length_map, Bool.and_true, Bool.and_false, Bool.false_and, Bool.true_and, Bool.or_false, Bool.false_or] at h14)
      obtain ⟨k, e1, hk, e2, e3, e4⟩ := T.shape_owner hok2 h14
      refine Aw_skip (Aw_seq (Aw_region ?_))
      refine Al_p (Pu_field 1 rfl Tryz.underlying27 rfl rfl Tryz.sizeOf22 rfl) ?_
      refine Al_p (Pu_load1 rfl Tryz.isAgg22 rfl rfl) ?_
      refine Al_p Pu_mvl ?_
      refine Al_p (Pu_index rfl Tryz.underlying22 Tryz.sizeOf3 rfl rfl (e1) (mapget hk)) ?_
      refine Al_p (Pu_load1 rfl Tryz.isAgg3 rfl rfl) ?_
      refine Al_p Pu_mvr ?_
      refine Al_nil ?_
      refine Aw_ret ?_
      exact Sub.num e4.symm -- ret 2
set_option maxRecDepth 100000 in
theorem owns_a (c : SRow) (s : Int) (key : ByteArray) : ACall Tryz.prog 17 [.row c.row, iv s, tv key] (bv (T.bit (T.owners c key) s)) := by
  refine ACall_enter (fun _ _ => by kernel_rfl) Tryz.func17 rfl Tryz.ntmps17 Tryz.results17 (Nat.le_of_ble_eq_true rfl) (fun hok M0 w0 hnl => ?_)
  refine Aw_seq (Aw_region ?_)
  refine Al_p (Pu_boxN rfl rfl) ?_
  refine Al_p Pu_mvr ?_
  refine Al_nil (Aw_seq (Aw_region ?_))
  refine Al_p (Pu_loadN rfl Tryz.isAgg27 Tryz.sizeOf27 rfl (Nat.le_of_ble_eq_true rfl)) ?_
  refine Al_p Pu_mvl ?_
  refine Al_p (Pu_call (owners_a c key) rfl ⟨Sub.rfl, Sub.rfl, trivial⟩) ?_
  refine Al_p Pu_mvl ?_
  refine Al_p (Pu_call (has_a (T.owners c key) s (T.owners_lt c key)) rfl ⟨Sub.rfl, Sub.rfl, trivial⟩) ?_
  refine Al_p Pu_mvr ?_
  refine Al_nil ?_
  refine Aw_ret ?_
  exact Sub.rfl -- ret 0
end Go.Proofs.YtojehmkkbdedaaaGreat
namespace Go.Proofs.YtojehmkkbdedaaaGreat
open Go.RowKit A R
open A.RowT
end Go.Proofs.YtojehmkkbdedaaaGreat
namespace Go.Proofs.YtojehmkkbdedaaaGreat
open Go.RowKit A R
namespace T
end T
namespace T
end T
end Go.Proofs.YtojehmkkbdedaaaGreat
end

section
set_option maxRecDepth 100000
namespace Go.Proofs.YtojehmkkbdedaaaGreat
open Go.RowKit A R
open A.RowT
abbrev SC := List (ByteArray × List Ver)
namespace J
def look (cs : SC) (k : ByteArray) : Option (List Ver) := (cs.find? fun p => decide (p.1 = k)).map (·.2)
def getC (cs : SC) (k : ByteArray) : List Ver := (look cs k).getD []
theorem mem_look {cs : SC} {k : ByteArray} {l : List Ver} (h : look cs k = some l) : (k, l) ∈ cs := by
  unfold look at h
  obtain ⟨p, hp, rfl⟩ := Option.map_eq_some_iff.1 h
  have h1 := List.mem_of_find?_eq_some hp
  have h2 := List.find?_some hp
  simp only [decide_eq_true_eq] at h2
  subst h2; exact h1
/-- Not too many. -/
def Sm (m : Nat) (cs : SC) : Prop := cs.length ≤ m ∧ ∀ p ∈ cs, p.2.length ≤ m ∧ p.1.size ≤ 9223372036854775807
theorem Sm.get {m : Nat} {cs : SC} (h : Sm m cs) (k : ByteArray) : (getC cs k).length ≤ m := by
  unfold getC
  cases hl : look cs k with
  | none => exact Nat.zero_le _
  | some l => exact (h.2 _ (mem_look hl)).1
def keysC (cs : SC) : List ByteArray := cs.map (·.1)
def shead (cs : SC) (k : ByteArray) : Option Ver := head (getC cs k)
def have' (cs : SC) : List Dep := (keysC cs).map fun k => ⟨k, ((shead cs k).getD default).n, ((shead cs k).getD default).s⟩
end J
abbrev rngA (rs : List Rng) : AV := .sl 2 (rs.map Rng.row)
namespace J
end J
instance : Inhabited ByteArray := ⟨⟨#[]⟩⟩
namespace J
end J
end Go.Proofs.YtojehmkkbdedaaaGreat
end

section
namespace Go.Proofs.YtojehmkkbdedaaaGreat.A
open Go Go.RowKit
def cvIn (ks : List Nat) : CV → Bool
  | .d _ => true
  | .bx k g _ => ks.contains k && Nat.beq g 0
  | .ow k g => ks.contains k && Nat.beq g 0
  | .eq _ => true
/-- It names some objects alone. -/
def svIn (ks : List Nat) : SV → Bool
  | .any => true
  | .d _ => true
  | .bx k g _ => ks.contains k && Nat.beq g 0
  | .ow k g => ks.contains k && Nat.beq g 0
  | .ifb _ s => svIn ks s
  | .fnb _ a b => a.all (cvIn ks) && b.all (cvIn ks)
  | .tp l => l.all (cvIn ks)
  | .ag l => l.all (cvIn ks)
  | .psl l => l.all (cvIn ks)
  | .pc c => cvIn ks c
  | .ows k g _ _ _ => ks.contains k && Nat.beq g 0
  | .slc _ _ => true
  | .eq _ => true
section
variable {M : Nat → Prop} {w : World} {ρ ρ' : Rho} {ks : List Nat}
end
/-- An object that names some objects alone. -/
def aoIn (ks : List Nat) : AO → Prop
  | .box _ cs => cs.all (svIn ks) = true
  | .arr _ _ _ => True
  | .op I => ∀ (M : Nat → Prop) (w : World) (ρ ρ' : Rho) (h : Value), I.I M w ρ' h → I.I M w ρ h
def ObsIn (ks : List Nat) : Obs → Prop
  | [] => True
  | p :: r => aoIn ks p.2 ∧ ObsIn ks r
theorem ObsIn.get {ks : List Nat} : ∀ {obs : Obs}, ObsIn ks obs → ∀ p ∈ obs, aoIn ks p.2
  | [], _, p, h => by cases h
  | q :: r, h, p, hp => by
    rcases List.mem_cons.1 hp with rfl | hp
    · exact h.1
    · exact h.2.get p hp
section
variable {P : Program} {st : ASt} {o : Oper}
end
end Go.Proofs.YtojehmkkbdedaaaGreat.A
namespace Go.Proofs.YtojehmkkbdedaaaGreat.A
open Go Go.RowKit
section
variable {P : Program}
/-- Results of a call that is lent objects: a variable of many cells. -/
def ResNS (r n : Nat) (st : ASt) (res : SV) : Prop := ∃ a, res = .d a ∧ ResN r n st a
theorem ReadsS.cN {fn : Func} {r t n : Nat} (h : fn.results = #[.cell r t]) (ht : ∀ w, (isAgg t).run P w = .ok true w) (hz : ∀ w, (sizeOf t).run P w = .ok n w) : ReadsS P fn (ResNS r n) := ⟨fun {N M0 w0 st ρ a w res} hs ⟨res', hres, k, g, off, T, cs, rw', h1, h2, h3, h4, h6⟩ => by
  subst hres
  have hm := hs.slot r
  rw [h1] at hm
  obtain ⟨y, b', k1, k2, k3⟩ := hm
  obtain ⟨y', k4, hO⟩ := hs.obj k g _ h2
  rw [k1] at k4; cases k4
  obtain ⟨v, k5, k6⟩ := loadvarN ht hz hO k2 h3 h4
  refine ⟨v, ?_, ?_⟩
  · have ha : (asAddr (a.tmps.getD r undef)).run P w = .ok ⟨b', off, none⟩ w := by rw [k3]; rfl
    rw [Array.getD_eq_getD_getElem?] at ha
    simp [results, h, Sem.run_bind, ha, k5]
  · rw [h6]; exact k6⟩
end
end Go.Proofs.YtojehmkkbdedaaaGreat.A
namespace Go.Proofs.YtojehmkkbdedaaaGreat.A
open Go Go.RowKit
/-- A call that yields a row of its own, told as data. -/
theorem GCall.a {P : Program} {f : FuncId} {aa : List AV} {T : TypeId} {n k : Nat} {rows : List (List AV)} (h : GCall P f (aa.map .d) [] (some ([(k, .arr T n rows)], .ow k 0))) : ACall P f aa (.sl n rows) := by
  refine ⟨h.1, fun M w vs hM ha => ?_⟩
  have h1 := h.2 M w (fun _ _ => none) vs hM ⟨0, fun k g hh => (hh rfl).elim⟩ ⟨by rw [List.length_map]; exact ha.1, fun j s x h1 h2 => by
    rw [List.getElem?_map] at h1
    obtain ⟨a, h3, rfl⟩ := Option.map_eq_some_iff.1 h1
    exact ha.2 j a x h3 h2⟩ (fun p hp => by cases hp) (fun b ⟨p, hp, _⟩ => by cases hp) (fun p hp => by cases hp)
  refine h1.mono fun e w' ⟨hx, v, he, ρ', _, _, hobj, _, hres⟩ => ?_
  have hne : ∀ b, ¬ fps (fun _ _ => none) ([] : Obs) b := fun b ⟨p, hp, _⟩ => by cases hp
  refine ⟨v, he, ⟨hx.os, hx.tape, hx.output, hx.size, fun b hb => hx.block b hb (hne b)⟩, ?_⟩
  obtain ⟨y, h4, h5⟩ := hobj _ (List.mem_cons_self ..)
  have h6 : ρ' k 0 = some v := hres.1
  rw [h6] at h4; cases h4
  have hlt : ∀ b, blk v = some b → w.heap.size ≤ b := fun b hb => h5.arr_lt hne hb
  exact h5.frz (Known.sub fun b hb => .inl hb) fun b hb hm => by
    have := hlt b hb
    have := hM b hm
    omega
end Go.Proofs.YtojehmkkbdedaaaGreat.A
end

section
set_option maxRecDepth 100000
namespace Go.Proofs.YtojehmkkbdedaaaGreat
open Go.RowKit A R
open A.RowT
set_option maxRecDepth 100000 in
theorem indexD_a (l : List Dep) (f : FuncId) (caps : List AV) (p : Dep → Bool) (hf : ∀ x, ACall Tryz.prog f ([.row x.row] ++ caps) (bv (p x))) : ACall Tryz.prog 58 [.sl 3 (l.map Dep.row), .fn f caps] (iv (S.find p l)) := by
  refine ACall_enter (fun _ _ => by kernel_rfl) Tryz.func58 rfl Tryz.ntmps58 Tryz.results58 (Nat.le_of_ble_eq_true rfl) (fun hok M0 w0 hnl => ?_)
  have hlen := (hok _ (List.mem_cons_self ..)).len
  rw [List.length_map] at hlen
  refine Aw_seq (Aw_region ?_)
  refine Al_p Pu_mvr ?_
  refine Al_nil (Aw_seq (Aw_seq (Aw_region ?_)))
  refine Al_p Pu_mvl ?_
  refine Al_p (Pu_len rfl Tryz.underlying46 rfl (by first | exact List.length_map .. | exact rfl)) ?_
  refine Al_p Pu_mvl ?_
  refine Al_nil (Aw_block ?_)
  refine Aw_loopk (ι := Nat) [0, 1, 7] [] (fun k => [(8, .d (iv k))]) (fun k => []) (fun k => k ≤ l.length ∧ ∀ j (h : j < l.length), j < k → p l[j] = false) (fun k => l.length - k) (0) (⟨Nat.zero_le _, by intros; omega⟩) ⟨Sub.rfl, trivial⟩ trivial ?_
  rintro k ⟨hk0, hk2⟩
  refine Aw_seq (Aw_region ?_)
  refine Al_p (Pu_cmp rfl rfl rfl rfl) ?_
  refine Al_nil (Aw_seq ?_)
  refine Aw_cond rfl (fun h9 => ?_) (fun h9 => ?_)
  · (try simp only [decide_eq_true_eq, decide_eq_false_iff_not, Bool.and_eq_true, Bool.or_eq_true, Bool.and_eq_false_iff, Bool.or_eq_false_iff, Bool.not_eq_true', Bool.not_eq_false', beq_iff_eq, Bool.not_eq_eq_eq_not, Bool.not_true, Bool.not_false, List.length_map, Bool.and_true, Bool.and_false, Bool.false_and, Bool.true_and, Bool.or_false, Bool.false_or] at h9)
    have hk : k < l.length := by omega
    refine Aw_skip (Aw_seq (Aw_block (Aw_seq (Aw_region ?_))))
    refine Al_p Pu_mvl ?_
    refine Al_p Pu_mvr ?_
    refine Al_nil (Aw_seq (Aw_region ?_))
    refine Al_p Pu_mvl ?_
    refine Al_p Pu_mvl ?_
    refine Al_p Pu_mvl ?_
    refine Al_p (Pu_index rfl Tryz.underlying46 Tryz.sizeOf45 rfl rfl (rfl) (mapget hk)) ?_
    refine Al_p (Pu_loadN rfl Tryz.isAgg45 Tryz.sizeOf45 rfl (Nat.le_of_ble_eq_true rfl)) ?_
    refine Al_p (Pu_callv (aa := [(fun x => .row x.row) l[k]]) (caps := caps) (hf l[k]) rfl rfl ⟨Sub.rfl, trivial⟩) ?_
    refine Al_nil ?_
    refine Aw_cond rfl (fun h16 => ?_) (fun h16 => ?_)
    · skip
      refine Aw_seq (Aw_region ?_)
      refine Al_p Pu_mvl ?_
      refine Al_p Pu_mvr ?_
      refine Al_nil ?_
      refine Aw_ret ?_
      exact Sub.num (S.find_at hk h16 hk2) -- ret 0
    · skip
      have h16' : p l[k] = false := h16
      refine Aw_skip (Aw_region ?_)
      refine Al_p (Pu_add rfl rfl rfl (fun h1 h2 => by simp only [A.inI, A.maxI] at *; omega)) ?_
      refine Al_p Pu_mvl ?_
      refine Al_nil ?_
      exact ⟨k + 1, ⟨by omega, fun j hj hjk => by
        by_cases e : j = k
        · subst e; exact h16'
        · exact hk2 j hj (by omega)⟩, by omega, Le.ov ⟨Sub.num (by omega), trivial⟩ ⟨Sub.rfl, Sub.rfl, Sub.rfl, trivial⟩ trivial trivial⟩ -- loop 0 next.0
  · (try simp only [decide_eq_true_eq, decide_eq_false_iff_not, Bool.and_eq_true, Bool.or_eq_true, Bool.and_eq_false_iff, Bool.or_eq_false_iff, Bool.not_eq_true', Bool.not_eq_false', beq_iff_eq, Bool.not_eq_eq_eq_not, Bool.not_true, Bool.not_false, List.length_map, Bool.and_true, Bool.and_false, Bool.false_and, Bool.true_and, Bool.or_false, Bool.false_or] at h9)
    obtain rfl : k = l.length := by omega
    refine Aw_exit (Aw_seq (Aw_region ?_))
    refine Al_p Pu_mvr ?_
    refine Al_nil ?_
    refine Aw_ret ?_
    exact Sub.num (S.find_no hk2) -- ret 1
set_option maxRecDepth 100000 in
set_option maxHeartbeats 1000000 in
theorem delfuncD_g (l : List Dep) (f : FuncId) (caps : List AV) (p : Dep → Bool) (hf : ∀ x, ACall Tryz.prog f ([.row x.row] ++ caps) (bv (p x))) (hl : l.length ≤ 1000000) : GCall Tryz.prog 41 [.ow 1001 0, .d (.fn f caps)] [(1001, .arr 45 3 (l.map Dep.row))] (some ([(1002, .arr 45 3 ((l.filter fun x => !p x).map Dep.row))], .ow 1002 0)) := by
  refine GCall_enter (fun _ _ => by kernel_rfl) Tryz.func41 rfl Tryz.ntmps41 (ReadsS.r1 Tryz.results41) (Nat.le_of_ble_eq_true rfl) (fun hok hokB M0 w0 => ?_)
  have hu : ∀ (c : List Dep), ∀ r ∈ c.map Dep.row, r.length = 3 := fun c r hr => by obtain ⟨x, _, rfl⟩ := List.mem_map.1 hr; rfl
  refine Aw_seq (Aw_region ?_)
  refine Al_p Pu_mvr ?_
  refine Al_nil (Aw_seq (Aw_region ?_))
  refine Al_p Pu_mvl ?_
  refine Al_p Pu_mvl ?_
  refine Al_p (Pu_callR (indexD_a l f caps p hf) rfl rfl ⟨.inr ⟨1001, 0, _, _, _, rfl, rfl, rfl⟩, .inl Sub.rfl, trivial⟩) ?_
  refine Al_p Pu_mvr ?_
  refine Al_nil (Aw_seq (Aw_seq (Aw_region ?_)))
  refine Al_p Pu_mvl ?_
  refine Al_p (Pu_cmp rfl rfl rfl rfl) ?_
  refine Al_nil ?_
  refine Aw_cond rfl (fun h12 => ?_) (fun h12 => ?_)
  · (try simp only [decide_eq_true_eq, decide_eq_false_iff_not, Bool.and_eq_true, Bool.or_eq_true, Bool.and_eq_false_iff, Bool.or_eq_false_iff, Bool.not_eq_true', Bool.not_eq_false', beq_iff_eq, Bool.not_eq_eq_eq_not, Bool.not_true, Bool.not_false, List.length_map, Bool.and_true, Bool.and_false, Bool.false_and, Bool.true_and, Bool.or_false, Bool.false_or] at h12)
    have hno := S.find_neg h12
    refine Aw_seq (Aw_region ?_)
    refine Al_p Pu_mvl ?_
    refine Al_p Pu_mvr ?_
    refine Al_nil ?_
    refine Aw_ret ?_
    exact ⟨_, _, [(1002, 1001, 0)], rfl, Sub.rfl, ⟨obeq (by rw [hno]), trivial⟩, rfl⟩ -- ret 0
  · (try simp only [decide_eq_true_eq, decide_eq_false_iff_not, Bool.and_eq_true, Bool.or_eq_true, Bool.and_eq_false_iff, Bool.or_eq_false_iff, Bool.not_eq_true', Bool.not_eq_false', beq_iff_eq, Bool.not_eq_eq_eq_not, Bool.not_true, Bool.not_false, List.length_map, Bool.and_true, Bool.and_false, Bool.false_and, Bool.true_and, Bool.or_false, Bool.false_or] at h12)
    obtain ⟨i0, hi0, hfi, hpi, hbef⟩ := S.find_pos (p := p) (l := l) h12
    refine Aw_skip (Aw_seq (Aw_seq (Aw_region ?_)))
    refine Al_p Pu_mvl ?_
    refine Al_p (Pu_add rfl rfl rfl (fun h1 h2 => by simp only [A.inI, A.maxI] at *; omega)) ?_
    refine Al_p Pu_mvr ?_
    refine Al_nil (Aw_block ?_)
    refine Aw_loopk (ι := Nat × Nat × (List Dep)) [0, 1] [] (fun (i, j, c) => [(5, .d (iv i)), (6, .d (iv j))]) (fun (i, j, c) => [(1001, 0, .arr 45 3 (c.map Dep.row))]) (fun (i, j, c) => c.length = l.length ∧ i ≤ j ∧ j ≤ l.length ∧ c.take i = (l.take j).filter (fun x => !p x) ∧ c.drop j = l.drop j ∧ i < j) (fun (i, j, c) => l.length - j) (i0, i0 + 1, l) (⟨rfl, by omega, by omega, S.filter_first hi0 hpi hbef, rfl, by omega⟩) ⟨Sub.num hfi, Sub.num (by rw [hfi]; omega), trivial⟩ ⟨rfl, trivial⟩ ?_
    rintro ⟨i, j, c⟩ ⟨hcl, hij, hjl, hct, hcd, hij2⟩
    refine Aw_seq (Aw_seq (Aw_region ?_))
    refine Al_p Pu_mvl ?_
    refine Al_p Pu_mvl ?_
    refine Al_p (Pu_lenOw (m := l.length) rfl Tryz.underlying46 rfl rfl (by rw [List.length_map, hcl])) ?_
    refine Al_p (Pu_cmp rfl rfl rfl rfl) ?_
    refine Al_nil ?_
    refine Aw_cond rfl (fun h19 => ?_) (fun h19 => ?_)
    · (try simp only [decide_eq_true_eq, decide_eq_false_iff_not, Bool.and_eq_true, Bool.or_eq_true, Bool.and_eq_false_iff, Bool.or_eq_false_iff, Bool.not_eq_true', Bool.not_eq_false', beq_iff_eq, Bool.not_eq_eq_eq_not, Bool.not_true, Bool.not_false, List.length_map, Bool.and_true, Bool.and_false, Bool.false_and, Bool.true_and, Bool.or_false, Bool.false_or] at h19)
      have hj : j < l.length := by omega
      have hjc : j < (c.map Dep.row).length := by rw [List.length_map]; omega
      have hcj : c.getD j default = l[j] := S.drop_at hcd hj (by omega)
      have hrow := S.row_at (hu c) hjc
      rw [S.map_getD (by omega : j < c.length), hcj] at hrow
      have hset := S.flat_set (hu c) (x := Dep.row l[j]) (i := i) (by rw [List.length_map]; omega) rfl
      refine Aw_skip ?_
      -- join 0: live [0, 1, 5, 6], turned [5]
      refine Aw_seq (Aw_block (Aw_seq (Aw_region ?_)))
      refine Al_p Pu_mvl ?_
      refine Al_p Pu_mvl ?_
      refine Al_p (Pu_indexOw (j := j) rfl Tryz.underlying46 Tryz.sizeOf45 rfl rfl rfl rfl hjc) ?_
      refine Al_p (Pu_loadArrN rfl Tryz.isAgg45 Tryz.sizeOf45 rfl rfl hrow rfl) ?_
      refine Al_alloc rfl rfl rfl (by decide) Tryz.zeroValue45 rfl (by kernel_rfl) (fun g7 => ?_)
      refine Al_storeN rfl rfl rfl (by kernel_rfl) Tryz.isAgg45 Tryz.sizeOf45 rfl rfl rfl rfl (Nat.le_of_ble_eq_true rfl) ?_
      refine Al_nil (Aw_seq (Aw_region ?_))
      refine Al_p Pu_mvl ?_
      refine Al_p (Pu_loadbN (r := [_, _, _]) rfl Tryz.isAgg45 Tryz.sizeOf45 rfl rfl rfl rfl) ?_
      refine Al_p (Pu_callv (aa := [(fun x => .row x.row) l[j]]) (caps := caps) (hf l[j]) rfl rfl ⟨Sub.rfl, trivial⟩) ?_
      refine Al_p (Pu_not rfl rfl) ?_
      refine Al_nil ?_
      refine Aw_cond rfl (fun h29 => ?_) (fun h29 => ?_)
      · skip
        have hpj : p l[j] = false := by simpa using h29
        refine Aw_seq (Aw_region ?_)
        refine Al_p Pu_mvl ?_
        refine Al_p Pu_mvl ?_
        refine Al_p (Pu_loadbN (r := [_, _, _]) rfl Tryz.isAgg45 Tryz.sizeOf45 rfl rfl rfl rfl) ?_
        refine Al_p (Pu_indexOw (j := i) rfl Tryz.underlying46 Tryz.sizeOf45 rfl rfl rfl rfl (by rw [List.length_map]; omega)) ?_
        refine Al_storeArr ((c.map Dep.row).set i (Dep.row l[j])) rfl rfl rfl (by kernel_rfl) Tryz.sizeOf45 rfl rfl rfl rfl rfl (by rw [List.length_map]; omega) (by simp) (fun q hq => by rcases List.mem_or_eq_of_mem_set hq with h | rfl; exact hu c q h; rfl) hset ?_
        refine Al_nil (Aw_region ?_)
        refine Al_p Pu_mvl ?_
        refine Al_p (Pu_add rfl rfl rfl (fun h1 h2 => by simp only [A.inI, A.maxI] at *; omega)) ?_
        refine Al_p Pu_mvr ?_
        refine Al_nil (Aw_region ?_)
        refine Al_p Pu_mvl ?_
        refine Al_p (Pu_add rfl rfl rfl (fun h1 h2 => by simp only [A.inI, A.maxI] at *; omega)) ?_
        refine Al_p Pu_mvr ?_
        refine Al_nil ?_
        exact ⟨(i + 1, j + 1, c.set i l[j]), ⟨by rw [List.length_set, hcl], by omega, by omega, S.del_keep hj hct hpj (by omega), by rw [List.drop_set_of_lt (by omega), ← List.drop_drop, hcd, List.drop_drop], by omega⟩, by simp only []; omega, Le.ov ⟨Sub.num (by omega), Sub.num (by omega), trivial⟩ ⟨Sub.rfl, Sub.rfl, trivial⟩ ⟨obeq (by rw [List.map_set]), trivial⟩ trivial⟩ -- loop 0 next.0
      · skip
        have hpj : p l[j] = true := by simpa using h29
        refine Aw_skip (Aw_region ?_)
        refine Al_p Pu_mvl ?_
        refine Al_p (Pu_add rfl rfl rfl (fun h1 h2 => by simp only [A.inI, A.maxI] at *; omega)) ?_
        refine Al_p Pu_mvr ?_
        refine Al_nil ?_
        exact ⟨(i, j + 1, c), ⟨hcl, by omega, by omega, S.del_drop hj hct hpj, by rw [← List.drop_drop, hcd, List.drop_drop], by omega⟩, by simp only []; omega, Le.ov ⟨Sub.rfl, Sub.num (by omega), trivial⟩ ⟨Sub.rfl, Sub.rfl, trivial⟩ ⟨rfl, trivial⟩ trivial⟩ -- loop 0 next.1
    · (try simp only [decide_eq_true_eq, decide_eq_false_iff_not, Bool.and_eq_true, Bool.or_eq_true, Bool.and_eq_false_iff, Bool.or_eq_false_iff, Bool.not_eq_true', Bool.not_eq_false', beq_iff_eq, Bool.not_eq_eq_eq_not, Bool.not_true, Bool.not_false, List.length_map, Bool.and_true, Bool.and_false, Bool.false_and, Bool.true_and, Bool.or_false, Bool.false_or] at h19)
      obtain rfl : j = l.length := by omega
      rw [List.take_length] at hct
      have hfl : ∀ zz, ((c.map Dep.row).take i ++ List.replicate ((c.map Dep.row).length - i) zz).take i = (l.filter fun x => !p x).map Dep.row := fun zz => by
        rw [← hct, List.map_take, List.take_append_of_le_length (by simp; omega), List.take_take, Nat.min_self]
      refine Aw_exit (Aw_seq (Aw_region ?_))
      refine Al_p Pu_mvl ?_
      refine Al_p Pu_mvl ?_
      refine Al_p (Pu_sliceOw i (c.map Dep.row).length rfl Tryz.underlying46 Tryz.sizeOf45 rfl rfl ⟨_, rfl, rfl⟩ rfl ⟨by rw [List.length_map]; omega, .inl (Nat.le_refl _)⟩) ?_
      refine Al_clear0 rfl rfl rfl (by kernel_rfl) Tryz.underlying46 Tryz.zeroValue45 rfl (by decide) rfl (by decide) rfl rfl rfl ?_
      refine Al_nil (Aw_seq (Aw_region ?_))
      refine Al_p Pu_mvl ?_
      refine Al_p Pu_mvl ?_
      refine Al_cut i rfl rfl rfl (by decide) (by kernel_rfl) Tryz.underlying46 Tryz.sizeOf45 rfl rfl rfl ⟨_, rfl, rfl⟩ (by simp; omega) (fun g41 => ?_)
      refine Al_p Pu_mvr ?_
      refine Al_nil ?_
      refine Aw_ret ?_
      exact ⟨_, _, [(1002, 1001, g41)], rfl, Sub.rfl, ⟨obeq (hfl _), trivial⟩, rfl⟩ -- ret 1
namespace J
def only (p : List Dep) (own : List Rng) : List Dep := p.filter fun d => !decide (findR own d.key < 0)
def lacks (hv : List Dep) (d : Dep) : Bool := D.lessB (D.get hv d.key).1 (D.get hv d.key).2 d.n d.s
/-- What a version hangs on and is not there. -/
def misses (v : Ver) (hv : List Dep) (own : List Rng) : List Dep := (only v.past own).filter (lacks hv)
def ready (hv : List Dep) (own : List Rng) (v : Ver) : Bool := decide (((misses v hv own).length : Int) = 0)
end J
theorem ponly1_a (own : List Rng) (d : Dep) (hl : own.length ≤ 1000000) : ACall Tryz.prog 43 [.row d.row, .fp [rngA own]] (bv (decide (findR own d.key < 0))) := by
  refine ACall_enter (fun _ _ => by kernel_rfl) Tryz.func43 rfl Tryz.ntmps43 Tryz.results43 (Nat.le_of_ble_eq_true rfl) (fun hok M0 w0 hnl => ?_)
  refine Aw_seq (Aw_region ?_)
  refine Al_p (Pu_boxN rfl rfl) ?_
  refine Al_p Pu_mvr ?_
  refine Al_nil (Aw_seq (Aw_region ?_))
  refine Al_p (Pu_load1 rfl Tryz.isAgg25 rfl rfl) ?_
  refine Al_p (Pu_field 0 rfl Tryz.underlying45 rfl rfl Tryz.sizeOf9 rfl) ?_
  refine Al_p (Pu_load1 rfl Tryz.isAgg9 rfl rfl) ?_
  refine Al_p (Pu_call (find_a own d.key hl) rfl ⟨Sub.rfl, Sub.rfl, trivial⟩) ?_
  refine Al_p (Pu_cmp rfl rfl rfl rfl) ?_
  refine Al_p Pu_mvr ?_
  refine Al_nil ?_
  refine Aw_ret ?_
  exact Sub.rfl -- ret 0
theorem ponly_g (p : List Dep) (own : List Rng) (hl : own.length ≤ 1000000) (hp : p.length ≤ 1000000) : GCall Tryz.prog 21 [.d (.sl 3 (p.map Dep.row)), .d (rngA own)] [] (some ([(1001, .arr 45 3 ((J.only p own).map Dep.row))], .ow 1001 0)) := by
  refine GCall_enter (fun _ _ => by kernel_rfl) Tryz.func21 rfl Tryz.ntmps21 (ReadsS.r1 Tryz.results21) (Nat.le_of_ble_eq_true rfl) (fun hok hokB M0 w0 => ?_)
  have hdel := delfuncD_g p 43 [.fp [rngA own]] (fun d => decide (findR own d.key < 0)) (fun d => ponly1_a own d hl) hp
  refine Aw_seq (Aw_region ?_)
  refine Al_p (Pu_box1 rfl rfl (by nofun) (by nofun)) ?_
  refine Al_p Pu_mvr ?_
  refine Al_nil (Aw_seq (Aw_region ?_))
  refine Al_p Pu_mvl ?_
  refine Al_gcall [] [(1001, 6)] (cloneD_g p hp) rfl rfl rfl (by decide) (by kernel_rfl) trivial rfl ⟨Sub.rfl, trivial⟩ (fun g6 => ?_)
  refine Al_p (Pu_makeFunc (caps := [_]) rfl ⟨Sub.rfl, trivial⟩) ?_
  refine Al_gcall [(1001, 6, g6)] [(1002, 8)] (hdel) rfl rfl rfl (by decide) (by kernel_rfl) ⟨rfl, trivial⟩ rfl ⟨Sub.rfl, Sub.rfl, trivial⟩ (fun g8 => ?_)
  refine Al_p Pu_mvr ?_
  refine Al_nil ?_
  refine Aw_ret ?_
  exact ⟨_, _, [(1001, 8, g8)], rfl, Sub.rfl, ⟨rfl, trivial⟩, rfl⟩ -- ret 0
namespace J
end J
end Go.Proofs.YtojehmkkbdedaaaGreat
end

section
namespace Go.Proofs.YtojehmkkbdedaaaGreat.A
open Go Go.RowKit Go.Maps Go.MapKept Go.ChangeMaps Go.WideElems
/-- A map of which a new entry is being written: its place, and the others. -/
def mapW {κ α : Type} (kv : κ → Value) (ok : κ → Prop) (enc : α → AV) (b n st : Nat) (c : κ) (m : κ → Option α) : OP where
  F := fun x => x = b
  I := fun M w _ h => h = .map (some b) ∧ ∃ (es : Array MapEntry) (z0 : Value), w.heap[b]? = some (.map (es.push ⟨kv c, z0, st⟩) (st + 1)) ∧ Stamped es st ∧ es.size ≤ n ∧ (∀ e ∈ es.toList, e.key ≠ kv c) ∧ (∀ e ∈ es.toList, ∃ a x, ok a ∧ e.key = kv a ∧ m a = some x ∧ Rep M w (enc x) e.val) ∧ (∀ a x, m a = some x → ∃ e ∈ es.toList, e.key = kv a)
  mono := fun {M M' w w' ρ h} k hb ⟨h1, es, z0, h2, h3, h4, h5, h6, h7⟩ => ⟨h1, es, z0, (hb b rfl).trans h2, h3, h4, h5, fun e he => by
    obtain ⟨a, x, k1, k2, k3, k4⟩ := h6 e he
    exact ⟨a, x, k1, k2, k3, k4.mono k⟩, h7⟩
  rho := fun _ h => h
  lt := fun {M w ρ h} hI c hc => by subst hc; obtain ⟨_, _, _, h2, _⟩ := hI; exact (Array.getElem?_eq_some_iff.1 h2).1
section
variable {P : Program} {N : Nat} {M0 : Nat → Prop} {w0 : Base} {ops : Array Oper} {Q : Exit → ASt → Prop} {o : Oper} {l : List Oper} {st : ASt}
theorem Al_mapEntry0 {κ α : Type} [DecidableEq κ] {kv : κ → Value} {ok : κ → Prop} {enc : α → AV} {b n d : Nat} {m : κ → Option α} {t kt e : TypeId} {x y : Operand} {k g : Nat} {ky : AV} {c : κ} {zv : Value} (T : R.KeyT P kt κ kv ok) (ho : o.op = .mapEntry t x y) (hg : o.guard = none) (hd : o.dst = some d) (hN : d < N) (hc : conB o = true) (ht : P.underlying t = some (.map kt e)) (hz : ∀ w, (zeroValue e).run P w = .ok zv w) (hzv : vok zv) (hx : st.ev x = .ow k g) (hob : st.ob k = some (g, .op (mapO kv ok enc b n m))) (hy : st.ev y = .d ky) (hky : Only ky (kv c)) (hok : ok c) (hm : m c = none)
    (h : ∀ s, Al P N M0 w0 ops Q l ((st.put k g (.op (mapW kv ok enc b n s c m))).set d (.tp [.d (.v zv), .eq (goInt s)]))) : Al P N M0 w0 ops Q (o :: l) st := by
  refine ⟨?_⟩
  rintro a w ⟨ρ, hsim⟩
  have hev := hsim.ev hc
  have h1 := hev x (by simp [opsOf, ho, Op.operands])
  have h4 := hev y (by simp [opsOf, ho, Op.operands])
  rw [hx] at h1
  rw [hy] at h4
  obtain ⟨k1, _⟩ := h1
  obtain ⟨u, hu, hF, he, hmp⟩ := hsim.obj k g _ hob
  rw [k1] at hu; cases hu
  have hyv := hky _ _ _ h4
  have hlt := hmp.lt
  obtain ⟨es, clock, e1, e2, e3, e4, e5⟩ := hmp
  have hes : ∀ e ∈ es.toList, ∃ c, ok c ∧ e.key = kv c := fun e he => by
    obtain ⟨a', x', ha', hk', _, _⟩ := e4 e he
    exact ⟨a', ha', hk'⟩
  obtain ⟨g1, g2⟩ : (Instr.findKey kt (kv c) es.toList).run P w = .ok none w ∧ ∀ e ∈ es.toList, e.key ≠ kv c := by
    rcases T.find w c hok es.toList hes with hh | ⟨j, e0, g1, g2, g3⟩
    · exact hh
    · exfalso
      obtain ⟨a', x', _, hk', hm', _⟩ := e4 e0 (List.mem_of_getElem? g2)
      have := T.inj _ _ (g3.symm.trans hk')
      rw [← this, hm] at hm'; cases hm'
  have hgr := R.grown_set w b (.map (es.push ⟨kv c, zv, clock⟩) (clock + 1))
  have hsz : (setBlock w b (.map (es.push ⟨kv c, zv, clock⟩) (clock + 1))).heap.size = w.heap.size := by simp [setBlock]
  have hr : (Instr.mapEntry t (.map (some b)) (kv c)).run P w = .ok (.tuple #[zv, goInt clock]) (setBlock w b (.map (es.push ⟨kv c, zv, clock⟩) (clock + 1))) := by
    simp [Instr.mapEntry, run_underlying ht, MapKept.run_getObj_map e1, T.check w false c hok, g1, hz, MapKept.run_setObj_map _ e1, Result.andThen, setBlock]
  have hb : Mt M0 ρ st.ob b := .inr ⟨k, g, _, _, hob, k1, rfl⟩
  have hkn : ∀ w', w.grownBy w' (some b) → Known (Mt M0 ρ st.ob) (Mt M0 ρ st.ob) w w' := fun w' hgr c' hc' hm => ⟨hm, hgr.block c' hc' (fun e => hm (by simp only [Option.some.injEq] at e; exact e ▸ hb))⟩
  have hs2 := hsim.mod (w' := setBlock w b (.map (es.push ⟨kv c, zv, clock⟩) (clock + 1))) hob k1 ⟨hgr.os, hgr.tape, hgr.output⟩ hgr.size (fun c' hc' hne => hgr.block c' hc' (fun e => hne (by simp only [Option.some.injEq] at e; exact e))) (o' := .op (mapW kv ok enc b n clock c m)) (fun M' hK hle => ⟨hF, he, es, zv, R.set_at hlt _, e2, e3, g2, fun e he => by
    obtain ⟨a', x', q1, q2, q3, q4⟩ := e4 e he
    exact ⟨a', x', q1, q2, q3, (q4.mono (hkn _ hgr)).mono (Known.sub hle)⟩, e5⟩) (fun c' hc' => hc')
  refine wpList_plain hg fun K hK => wp_upon ?_
  have e : (execOp a.eval o).run P w = .ok (.value (.tuple #[zv, goInt clock])) (setBlock w b (.map (es.push ⟨kv c, zv, clock⟩) (clock + 1))) := by
    simp only [execOp, ho, he, hyv, hr, Sem.run_bind, Result.andThen_ok, Sem.run_pure]
  rw [e]
  refine hK _ _ ((h clock).out _ _ ⟨ρ, ?_⟩)
  rw [hd]
  refine hs2.set hN ⟨[zv, goInt clock], rfl, rfl, fun j c x h7 h8 => ?_⟩
  match j with
  | 0 => simp at h7 h8; subst h7 h8; exact .v _ hzv
  | 1 => simp at h7 h8; subst h7 h8; exact ⟨rfl, rfl⟩
  | j + 2 => simp at h7
theorem Al_entryStore0 {κ α : Type} [DecidableEq κ] {kv : κ → Value} {ok : κ → Prop} {enc : α → AV} {b n s : Nat} {m : κ → Option α} {t : TypeId} {x y z : Operand} {k g : Nat} {c : κ} {v : α} (hcin : ok c) (hinj : ∀ a c : κ, kv a = kv c → a = c) (hn : n < maxLen) (ho : o.op = .entryStore t x y z) (hg : o.guard = none) (hd : o.dst = none) (hc : conB o = true) (hx : st.ev x = .ow k g) (hob : st.ob k = some (g, .op (mapW kv ok enc b n s c m))) (hy : st.ev y = .eq (goInt s)) (hz : Sub (st.ev z) (.d (enc v)))
    (h : Al P N M0 w0 ops Q l (st.put k g (.op (mapO kv ok enc b (n + 1) (fun c' => if c' = c then some v else m c'))))) : Al P N M0 w0 ops Q (o :: l) st := by
  refine ⟨?_⟩
  rintro a w ⟨ρ, hsim⟩
  have hev := hsim.ev hc
  have h1 := hev x (by simp [opsOf, ho, Op.operands])
  have h4 := hev y (by simp [opsOf, ho, Op.operands])
  have h5 := hz _ _ _ _ (hev z (by simp [opsOf, ho, Op.operands]))
  rw [hx] at h1
  rw [hy] at h4
  obtain ⟨k1, _⟩ := h1
  obtain ⟨hyv, _⟩ := h4
  obtain ⟨u, hu, hF, he, es, z0, e1, e2, e3, e4, e5, e6⟩ := hsim.obj k g _ hob
  rw [k1] at hu; cases hu
  have hlt : b < w.heap.size := (Array.getElem?_eq_some_iff.1 e1).1
  obtain ⟨s1, s2, _⟩ := id e2
  have hidx : (es.push ⟨kv c, z0, s⟩).findIdx? (fun e => ((e.born : Nat) : Int) == ((s : Nat) : Int)) = some es.size := by
    rw [findIdx_arr]
    have := findIdx_born (l := (es.push ⟨kv c, z0, s⟩).toList) (j := es.size) (e0 := ⟨kv c, z0, s⟩) (by
      simp only [Array.toList_push, List.map_append, List.map_cons, List.map_nil]
      refine List.nodup_append.2 ⟨s2, by simp, fun a ha c hc e1 => ?_⟩
      simp only [List.mem_singleton] at hc
      obtain ⟨x, hx, rfl⟩ := List.mem_map.1 ha
      have := s1 x hx
      omega) (by simp)
    exact this
  have hmod : (es.push ⟨kv c, z0, s⟩).modify es.size (fun e => { e with val := a.eval z }) = es.push ⟨kv c, a.eval z, s⟩ := by
    apply Array.ext'
    rw [Array.toList_modify, Array.toList_push, Array.toList_push, ← Array.length_toList, modify_last]
  have hr : (Instr.entryStore t (.map (some b)) (goInt s) (a.eval z)).run P w = .ok () (setBlock w b (.map (es.push ⟨kv c, a.eval z, s⟩) (s + 1))) := by
    simp [Instr.entryStore, MapKept.run_getObj_map e1, asInt, asIntOf, goInt, hidx, hmod, MapKept.run_setObj_map _ e1, Result.andThen, setBlock]
  have hgr := R.grown_set w b (.map (es.push ⟨kv c, a.eval z, s⟩) (s + 1))
  have hb : Mt M0 ρ st.ob b := .inr ⟨k, g, _, _, hob, k1, rfl⟩
  have hkn : ∀ w', w.grownBy w' (some b) → Known (Mt M0 ρ st.ob) (Mt M0 ρ st.ob) w w' := fun w' hgr c' hc' hm => ⟨hm, hgr.block c' hc' (fun e => hm (by simp only [Option.some.injEq] at e; exact e ▸ hb))⟩
  have hs2 := hsim.mod (w' := setBlock w b (.map (es.push ⟨kv c, a.eval z, s⟩) (s + 1))) hob k1 ⟨hgr.os, hgr.tape, hgr.output⟩ hgr.size (fun c' hc' hne => hgr.block c' hc' (fun e => hne (by simp only [Option.some.injEq] at e; exact e))) (o' := .op (mapO kv ok enc b (n + 1) (fun c' => if c' = c then some v else m c'))) (fun M' hK hle => ⟨hF, he, _, _, R.set_at hlt _, stamped_push e2 e4, by simp; omega, fun e he => by
    simp only [Array.toList_push, List.mem_append, List.mem_singleton] at he
    rcases he with he | rfl
    · obtain ⟨a', x', q1, q2, q3, q4⟩ := e5 e he
      refine ⟨a', x', q1, q2, ?_, (q4.mono (hkn _ hgr)).mono (Known.sub hle)⟩
      dsimp only; rw [if_neg (fun e1 => e4 e he (by rw [q2, e1]))]; exact q3
    · exact ⟨c, v, hcin, rfl, by simp, (h5.mono (hkn _ hgr)).mono (Known.sub hle)⟩, fun c' y hc' => by
    by_cases e7 : c' = c
    · subst e7; exact ⟨⟨kv c', a.eval z, s⟩, by simp, rfl⟩
    · dsimp only at hc'; rw [if_neg e7] at hc'
      obtain ⟨e, he, hk⟩ := e6 c' y hc'
      exact ⟨e, by simp [he], hk⟩⟩) (fun c' hc' => hc')
  refine wpList_plain hg fun K hK => wp_upon ?_
  have e : (execOp a.eval o).run P w = .ok .skip (setBlock w b (.map (es.push ⟨kv c, a.eval z, s⟩) (s + 1))) := by
    simp only [execOp, ho, he, hyv, hr, Sem.run_bind, Result.andThen_ok, Sem.run_pure]
  rw [e]
  refine hK _ _ (h.out _ _ ⟨ρ, ?_⟩)
  rw [hd]
  exact hs2
end
end Go.Proofs.YtojehmkkbdedaaaGreat.A
end

section
namespace Go.Proofs.YtojehmkkbdedaaaGreat.A
open Go Go.RowKit
/-- Has the value such a type? -/
def tyB (as_ : TypeId) : Value → Bool
  | .iface t _ => decide (t = as_)
  | _ => false
def isIf : Value → Prop
  | .iface _ _ => True
  | .nilIface => True
  | _ => False
section
variable {P : Program} {N : Nat} {M0 : Nat → Prop} {w0 : Base} {ops : Array Oper} {Q : Exit → ASt → Prop} {o : Oper} {l : List Oper} {st : ASt}
theorem Al_makeIface {d : Nat} {t : TypeId} {fs : Array Field} {x : Operand} (ho : o.op = .makeInterface t x) (hg : o.guard = none) (hd : o.dst = some d) (hN : d < N) (ht : P.underlying t = some (.struct fs))
    (h : ∀ p, Al P N M0 w0 ops Q l (st.set d (.eq (.iface t p)))) : Al P N M0 w0 ops Q (o :: l) st := by
  refine ⟨?_⟩
  rintro a w ⟨ρ, hsim⟩
  refine wpList_plain hg fun K hK => wp_upon ?_
  have e : (execOp a.eval o).run P w = .ok (.value (.iface t (a.eval x))) w := by
    simp only [execOp, ho, Instr.makeInterface, run_underlying ht, Sem.run_bind, Result.andThen_ok, Sem.run_pure]
  rw [e]
  refine hK _ _ ((h (a.eval x)).out _ _ ⟨ρ, ?_⟩)
  rw [hd]
  exact hsim.set hN ⟨rfl, rfl⟩
theorem eval_put {a : Act} {d t : Nat} {v : Value} (hd : d < a.tmps.size) : (a.put (some d) v).eval (.tmp t) = if d = t then v else a.eval (.tmp t) := by
  show (a.put (some d) v).tmps.getD t undef = _
  rw [getD_put]
  by_cases e : d = t
  · subst e; simp [hd]
  · rw [if_neg (fun h => e (by simpa using h.1)), if_neg e]; rfl
/-- What is asked is a struct type: whether it is that, and what it holds. -/
theorem Al_typeAssert3 {o2 o3 : Oper} {d1 d2 d3 : Nat} {xT as_ : TypeId} {fs : Array Field} {x : Operand} {v zv : Value} (ho : o.op = .typeAssert x xT as_ true) (h2 : o2.op = .extract (.tmp d1) 1) (h3 : o3.op = .extract (.tmp d1) 0) (hg : o.guard = none) (hg2 : o2.guard = none) (hg3 : o3.guard = none) (hd : o.dst = some d1) (hd2 : o2.dst = some d2) (hd3 : o3.dst = some d3) (hN : d1 < N) (hN2 : d2 < N) (hN3 : d3 < N) (hne : d2 ≠ d1) (hc : conB o = true) (ht : P.underlying as_ = some (.struct fs)) (hz : ∀ w, (zeroValue as_).run P w = .ok zv w) (hx : st.ev x = .eq v) (hv : isIf v)
    (h : Al P N M0 w0 ops Q l (((st.set d1 .any).set d2 (.d (.v (.bool (tyB as_ v))))).set d3 .any)) : Al P N M0 w0 ops Q (o :: o2 :: o3 :: l) st := by
  refine ⟨?_⟩
  rintro a w ⟨ρ, hsim⟩
  have hev := hsim.ev hc x (by simp [opsOf, ho, Op.operands])
  rw [hx] at hev
  obtain ⟨hxv, _⟩ := hev
  obtain ⟨q, e⟩ : ∃ q, (execOp a.eval o).run P w = .ok (.value (.tuple #[q, .bool (tyB as_ v)])) w := by
    cases v with
    | nilIface => exact ⟨zv, by simp [execOp, ho, hxv, Instr.typeAssert, run_underlying ht, hz, tyB, Result.andThen]⟩
    | iface t p =>
      by_cases e : t = as_
      · exact ⟨p, by simp [execOp, ho, hxv, Instr.typeAssert, run_underlying ht, e, tyB, Result.andThen]⟩
      · exact ⟨zv, by simp [execOp, ho, hxv, Instr.typeAssert, run_underlying ht, hz, e, tyB, Result.andThen]⟩
    | _ => exact hv.elim
  have hsz := hsim.size
  refine wpList_plain hg fun K hK => wp_upon ?_
  rw [e]
  refine hK _ _ ?_
  rw [hd]
  have s1 : SimR N M0 w0 (st.set d1 .any) ρ (a.put (some d1) (.tuple #[q, .bool (tyB as_ v)])) w := hsim.set hN trivial
  have v1 : (a.put (some d1) (.tuple #[q, .bool (tyB as_ v)])).eval (.tmp d1) = .tuple #[q, .bool (tyB as_ v)] := by rw [eval_put (by rw [hsz]; exact hN), if_pos rfl]
  generalize a.put (some d1) (.tuple #[q, .bool (tyB as_ v)]) = a1 at s1 v1
  refine wpList_plain hg2 fun K2 hK2 => wp_upon ?_
  have e2 : (execOp a1.eval o2).run P w = .ok (.value (.bool (tyB as_ v))) w := by
    simp [execOp, h2, v1, Instr.extract, Sem.run]
  rw [e2]
  refine hK2 _ _ ?_
  rw [hd2]
  have s2 : SimR N M0 w0 ((st.set d1 .any).set d2 (.d (.v (.bool (tyB as_ v))))) ρ (a1.put (some d2) (.bool (tyB as_ v))) w := s1.set hN2 (Rep.v _ trivial)
  have v2 : (a1.put (some d2) (.bool (tyB as_ v))).eval (.tmp d1) = .tuple #[q, .bool (tyB as_ v)] := by rw [eval_put (by rw [s1.size]; exact hN2), if_neg hne]; exact v1
  generalize a1.put (some d2) (.bool (tyB as_ v)) = a2 at s2 v2
  refine wpList_plain hg3 fun K3 hK3 => wp_upon ?_
  have e3 : (execOp a2.eval o3).run P w = .ok (.value q) w := by
    simp [execOp, h3, v2, Instr.extract, Sem.run]
  rw [e3]
  refine hK3 _ _ (h.out _ _ ⟨ρ, ?_⟩)
  rw [hd3]
  exact s2.set hN3 trivial
/-- A plain value, told as just the value that it is. -/
theorem le_veq {j : Nat} {v : Value} (hj : st.sl j = .d (.v v)) : Le N M0 w0 st (st.set j (.eq v)) := fun a w ⟨ρ, hs⟩ => ⟨ρ, by
  have h1 := hs.slot j
  rw [hj] at h1
  obtain ⟨h2, h3⟩ := rep_v h1
  exact hs.tell (j := j) (s := .eq v) ⟨h2, h3.one⟩⟩
end
end Go.Proofs.YtojehmkkbdedaaaGreat.A
end

section
namespace Go.Proofs.YtojehmkkbdedaaaGreat.A
open Go Go.RowKit
/-- The value that a name's first object stands for. -/
def hd (ρ : Rho) : Value := (ρ 1001 0).getD undef
section
variable {P : Program} {st : ASt} {o : Oper}
end
section
variable {P : Program} {N : Nat} {M0 : Nat → Prop} {w0 : Base} {ops : Array Oper} {Q : Exit → ASt → Prop} {o : Oper} {l : List Oper} {st : ASt}
end
section
variable {P : Program} {N : Nat} {M0 : Nat → Prop} {w0 : Base} {ops : Array Oper} {Q : Exit → ASt → Prop} {o : Oper} {l : List Oper} {st : ASt}
end
end Go.Proofs.YtojehmkkbdedaaaGreat.A
end

section
namespace Go.Proofs.YtojehmkkbdedaaaGreat.A
open Go Go.RowKit
section
variable {P : Program} {N : Nat} {M0 : Nat → Prop} {w0 : Base} {ops : Array Oper} {Q : Exit → ASt → Prop} {o : Oper} {l : List Oper} {st : ASt}
theorem Pu_to {s s' : SV} (h : Pu P st o s) (e : s = s') : Pu P st o s' := e ▸ h
end
section
variable {κ α : Type} {kv : κ → Value} {ok : κ → Prop} {enc : α → AV}
end
theorem GCallE.no {P : Program} {f : FuncId} {ins : List SV} {obs : Obs} {ι : Type} (h : GCallE P f ins obs (fun _ : ι => none)) : GCall P f ins obs none := ⟨h.1, fun M w ρ vs h1 h2 h3 h4 h5 h6 => (h.2 M w ρ vs h1 h2 h3 h4 h5 h6).mono fun _ _ ⟨h7, _, h8⟩ => ⟨h7, h8⟩⟩
end Go.Proofs.YtojehmkkbdedaaaGreat.A
end

section
set_option maxRecDepth 100000
namespace Go.Proofs.YtojehmkkbdedaaaGreat
open Go Go.RowKit A R
open A.RowT
set_option maxRecDepth 100000 in
theorem containsD_a (l : List Dep) (f : FuncId) (caps : List AV) (p : Dep → Bool) (hf : ∀ x, ACall Tryz.prog f ([.row x.row] ++ caps) (bv (p x))) : ACall Tryz.prog 38 [.sl 3 (l.map Dep.row), .fn f caps] (bv (l.any p)) := by
  refine ACall_enter (fun _ _ => by kernel_rfl) Tryz.func38 rfl Tryz.ntmps38 Tryz.results38 (Nat.le_of_ble_eq_true rfl) (fun hok M0 w0 hnl => ?_)
  refine Aw_seq (Aw_region ?_)
  refine Al_p Pu_mvr ?_
  refine Al_nil (Aw_seq (Aw_region ?_))
  refine Al_p Pu_mvl ?_
  refine Al_p Pu_mvl ?_
  refine Al_p (Pu_call (indexD_a l f caps p hf) rfl ⟨Sub.rfl, Sub.rfl, trivial⟩) ?_
  refine Al_p (Pu_cmp rfl rfl rfl rfl) ?_
  refine Al_p Pu_mvr ?_
  refine Al_nil ?_
  refine Aw_ret ?_
  exact Sub.bool S.find_any -- ret 0
theorem covers1_a (p : List Dep) (d : Dep) (hs : D.Srt p) (hl : p.length ≤ 1000000) : ACall Tryz.prog 39 [.row d.row, .fp [pastA p]] (bv (D.lessB (D.get p d.key).1 (D.get p d.key).2 d.n d.s)) := by
  refine ACall_enter (fun _ _ => by kernel_rfl) Tryz.func39 rfl Tryz.ntmps39 Tryz.results39 (Nat.le_of_ble_eq_true rfl) (fun hok M0 w0 hnl => ?_)
  refine Aw_seq (Aw_region ?_)
  refine Al_p (Pu_boxN rfl rfl) ?_
  refine Al_p Pu_mvr ?_
  refine Al_nil (Aw_seq ?_)
  refine Aw_draw 7 (by kernel_rfl) (by kernel_rfl) ?_
  refine Dr_p (Pu_load1 rfl Tryz.isAgg46 rfl rfl) ?_
  refine Dr_p (Pu_field 0 rfl Tryz.underlying45 rfl rfl Tryz.sizeOf9 rfl) ?_
  refine Dr_p (Pu_load1 rfl Tryz.isAgg9 rfl rfl) ?_
  refine Dr_p (Pu_call (pget_a p d.key hs hl) rfl ⟨Sub.rfl, Sub.rfl, trivial⟩) ?_
  refine Dr_p (Pu_field 1 rfl Tryz.underlying45 rfl rfl Tryz.sizeOf43 rfl) ?_
  refine Dr_p (Pu_loadN rfl Tryz.isAgg43 Tryz.sizeOf43 rfl (Nat.le_of_ble_eq_true rfl)) ?_
  refine Dr_p (Pu_call (less_a _ _ _ _) rfl ⟨Sub.rfl, Sub.rfl, trivial⟩) ?_
  refine Dr_nil ?_
  refine Al_p Pu_mvr ?_
  refine Al_nil ?_
  refine Aw_ret ?_
  exact Sub.rfl -- ret 0
theorem covers_a (p q : List Dep) (hs : D.Srt p) (hl : p.length ≤ 1000000) : ACall Tryz.prog 20 [pastA p, pastA q] (bv (D.coversB p q)) := by
  refine ACall_enter (fun _ _ => by kernel_rfl) Tryz.func20 rfl Tryz.ntmps20 Tryz.results20 (Nat.le_of_ble_eq_true rfl) (fun hok M0 w0 hnl => ?_)
  refine Aw_seq (Aw_region ?_)
  refine Al_p (Pu_box1 rfl rfl (by nofun) (by nofun)) ?_
  refine Al_p Pu_mvr ?_
  refine Al_nil (Aw_seq (Aw_region ?_))
  refine Al_p Pu_mvl ?_
  refine Al_p (Pu_makeFunc (caps := [_]) rfl ⟨Sub.rfl, trivial⟩) ?_
  refine Al_p (Pu_call (containsD_a q 39 [.fp [pastA p]] (fun d => D.lessB (D.get p d.key).1 (D.get p d.key).2 d.n d.s) (fun d => covers1_a p d hs hl)) rfl ⟨Sub.rfl, Sub.rfl, trivial⟩) ?_
  refine Al_p (Pu_not rfl rfl) ?_
  refine Al_p Pu_mvr ?_
  refine Al_nil ?_
  refine Aw_ret ?_
  exact Sub.bool (by unfold D.coversB; rw [List.not_any_eq_all_not]) -- ret 0
namespace D
theorem addAll_good1 : ∀ (q p : List Dep), Good p → Good (addAll p q)
  | [], p, h => h
  | d :: q, p, h => addAll_good1 q (add p d) (add_good h d)
theorem nil_good : Good [] := ⟨List.Pairwise.nil, fun x hx => by cases hx⟩
theorem mergeL_good (l : List (List Dep)) : Good (mergeL l) := addAll_good1 _ _ nil_good
end D
set_option maxHeartbeats 1000000 in
theorem merge_a (l : List (List Dep)) (hl : l.flatten.length ≤ 1000) : ACall Tryz.prog 49 [.sl 1 (l.map fun p => [pastA p])] (pastA (D.mergeL l)) := by
  refine ACall_enter (fun _ _ => by kernel_rfl) Tryz.func49 rfl Tryz.ntmps49 Tryz.results49 (Nat.le_of_ble_eq_true rfl) (fun hok M0 w0 hnl => ?_)
  have hlen := (hok _ (List.mem_cons_self ..)).len
  rw [List.length_map] at hlen
  refine Aw_seq (Aw_region ?_)
  refine Al_p Pu_mvr ?_
  refine Al_nil (Aw_seq (Aw_region ?_))
  refine Al_p Pu_mvr ?_
  refine Al_nil (Aw_seq (Aw_seq (Aw_region ?_)))
  refine Al_p Pu_mvl ?_
  refine Al_p (Pu_len rfl Tryz.underlying28 rfl (by first | exact List.length_map .. | exact rfl)) ?_
  refine Al_p Pu_mvl ?_
  refine Al_nil (Aw_block ?_)
  refine Aw_loopk (ι := Nat) [8, 9] [] (fun i => [(10, .d (iv i)), (3, .d (pastA (D.mergeL (l.take i))))]) (fun i => []) (fun i => i ≤ l.length) (fun i => l.length - i) (0) (Nat.zero_le _) ⟨Sub.rfl, Sub.nil, trivial⟩ trivial ?_
  rintro i hk0
  refine Aw_seq (Aw_region ?_)
  refine Al_p (Pu_cmp rfl rfl rfl rfl) ?_
  refine Al_nil (Aw_seq ?_)
  refine Aw_cond rfl (fun h11 => ?_) (fun h11 => ?_)
  · (try simp only [decide_eq_true_eq, decide_eq_false_iff_not, Bool.and_eq_true, Bool.or_eq_true, Bool.and_eq_false_iff, Bool.or_eq_false_iff, Bool.not_eq_true', Bool.not_eq_false', beq_iff_eq, Bool.not_eq_eq_eq_not, Bool.not_true, Bool.not_false, List.length_map, Bool.and_true, Bool.and_false, Bool.false_and, Bool.true_and, Bool.or_false, Bool.false_or] at h11)
    have hi : i < l.length := by omega
    have hfl := D.flat_len2 l hi
    have hml := D.addAll_len (l.take i).flatten []
    have hgi : l.getD i default = l[i] := by simp [hi]
    refine Aw_skip (Aw_seq (Aw_block (Aw_seq (Aw_region ?_))))
    refine Al_p (Pu_index rfl Tryz.underlying28 Tryz.sizeOf46 rfl rfl (rfl) (mapgetD (d := default) hi)) ?_
    refine Al_p (Pu_load1 rfl Tryz.isAgg46 rfl rfl) ?_
    refine Al_p Pu_mvr ?_
    refine Al_nil (Aw_seq (Aw_region ?_))
    refine Al_p Pu_mvl ?_
    refine Al_p (Pu_len rfl Tryz.underlying46 rfl (by first | exact List.length_map .. | exact rfl)) ?_
    refine Al_p Pu_mvl ?_
    refine Al_nil (Aw_block ?_)
    refine Aw_loopk (ι := Nat) [8, 9, 10, 14, 15] [] (fun j => [(16, .d (iv j)), (3, .d (pastA (D.addAll (D.mergeL (l.take i)) ((l.getD i default).take j))))]) (fun j => []) (fun j => j ≤ (l.getD i default).length) (fun j => (l.getD i default).length - j) (0) (Nat.zero_le _) ⟨Sub.rfl, Sub.rfl, trivial⟩ trivial ?_
    rintro j hk1
    refine Aw_seq (Aw_region ?_)
    refine Al_p (Pu_cmp rfl rfl rfl rfl) ?_
    refine Al_nil (Aw_seq ?_)
    refine Aw_cond rfl (fun h17 => ?_) (fun h17 => ?_)
    · (try simp only [decide_eq_true_eq, decide_eq_false_iff_not, Bool.and_eq_true, Bool.or_eq_true, Bool.and_eq_false_iff, Bool.or_eq_false_iff, Bool.not_eq_true', Bool.not_eq_false', beq_iff_eq, Bool.not_eq_eq_eq_not, Bool.not_true, Bool.not_false, List.length_map, Bool.and_true, Bool.and_false, Bool.false_and, Bool.true_and, Bool.or_false, Bool.false_or] at h17)
      have hj : j < (l.getD i default).length := by omega
      have hal := D.addAll_len ((l.getD i default).take j) (D.mergeL (l.take i))
      have htl : ((l.getD i default).take j).length ≤ (l.getD i default).length := by rw [List.length_take]; omega
      have hml2 : (D.mergeL (l.take i)).length ≤ (l.take i).flatten.length := by unfold D.mergeL; simpa using hml
      have hgl : (l.getD i default).length = l[i].length := by rw [hgi]
      have hda := padd_a (D.addAll (D.mergeL (l.take i)) ((l.getD i default).take j)) ((l.getD i default)[j]'hj) (D.addAll_good1 _ _ (D.mergeL_good _)) (by omega)
      refine Aw_skip (Aw_seq (Aw_block (Aw_seq (Aw_region ?_))))
      refine Al_p (Pu_index rfl Tryz.underlying46 Tryz.sizeOf45 rfl rfl (rfl) (mapget hj)) ?_
      refine Al_p (Pu_loadN rfl Tryz.isAgg45 Tryz.sizeOf45 rfl (Nat.le_of_ble_eq_true rfl)) ?_
      refine Al_alloc rfl rfl rfl (by decide) Tryz.zeroValue45 rfl (by kernel_rfl) (fun g7 => ?_)
      refine Al_storeN rfl rfl rfl (by kernel_rfl) Tryz.isAgg45 Tryz.sizeOf45 rfl rfl rfl rfl (Nat.le_of_ble_eq_true rfl) ?_
      refine Al_nil (Aw_region ?_)
      refine Al_p Pu_mvl ?_
      refine Al_p (Pu_loadbN (r := [_, _, _]) rfl Tryz.isAgg45 Tryz.sizeOf45 rfl rfl rfl rfl) ?_
      refine Al_p (Pu_call (hda) rfl ⟨Sub.rfl, Sub.rfl, trivial⟩) ?_
      refine Al_p Pu_mvr ?_
      refine Al_nil (Aw_region ?_)
      refine Al_p (Pu_add rfl rfl rfl (fun h1 h2 => by simp only [A.inI, A.maxI] at *; omega)) ?_
      refine Al_p Pu_mvl ?_
      refine Al_nil ?_
      exact ⟨j + 1, by omega, by omega, Le.ov ⟨Sub.num (by omega), Sub.d (by rw [D.addAll_succ _ _ hj]), trivial⟩ ⟨Sub.rfl, Sub.rfl, Sub.rfl, Sub.rfl, Sub.rfl, trivial⟩ trivial trivial⟩ -- loop 1 next.0
    · (try simp only [decide_eq_true_eq, decide_eq_false_iff_not, Bool.and_eq_true, Bool.or_eq_true, Bool.and_eq_false_iff, Bool.or_eq_false_iff, Bool.not_eq_true', Bool.not_eq_false', beq_iff_eq, Bool.not_eq_eq_eq_not, Bool.not_true, Bool.not_false, List.length_map, Bool.and_true, Bool.and_false, Bool.false_and, Bool.true_and, Bool.or_false, Bool.false_or] at h17)
      have hjj : (l.getD i default).take j = l[i] := by rw [List.take_of_length_le (by omega), hgi]
      refine Aw_exit (Aw_region ?_)
      refine Al_p (Pu_add rfl rfl rfl (fun h1 h2 => by simp only [A.inI, A.maxI] at *; omega)) ?_
      refine Al_p Pu_mvl ?_
      refine Al_nil ?_
      exact ⟨i + 1, by omega, by omega, Le.ov ⟨Sub.num (by omega), Sub.d (by rw [hjj, D.mergeL_succ l hi]), trivial⟩ ⟨Sub.rfl, Sub.rfl, trivial⟩ trivial trivial⟩ -- loop 0 next.0
  · (try simp only [decide_eq_true_eq, decide_eq_false_iff_not, Bool.and_eq_true, Bool.or_eq_true, Bool.and_eq_false_iff, Bool.or_eq_false_iff, Bool.not_eq_true', Bool.not_eq_false', beq_iff_eq, Bool.not_eq_eq_eq_not, Bool.not_true, Bool.not_false, List.length_map, Bool.and_true, Bool.and_false, Bool.false_and, Bool.true_and, Bool.or_false, Bool.false_or] at h11)
    have hii : l.take i = l := List.take_of_length_le (by omega)
    refine Aw_exit (Aw_seq (Aw_region ?_))
    refine Al_p Pu_mvl ?_
    refine Al_p Pu_mvr ?_
    refine Al_nil ?_
    refine Aw_ret ?_
    exact Sub.d (by rw [hii]) -- ret 0
set_option maxHeartbeats 1000000 in
theorem hbehind_a (l : List Event) (hs : ∀ e ∈ l, e.seen.length ≤ 900) (i : Int) : ACall Tryz.prog 28 [.sl 6 (l.map Event.row), iv i] (pastA (G.behind l i)) := by
  refine ACall_enter (fun _ _ => by kernel_rfl) Tryz.func28 rfl Tryz.ntmps28 Tryz.results28 (Nat.le_of_ble_eq_true rfl) (fun hok M0 w0 hnl => ?_)
  refine Aw_seq (Aw_region ?_)
  refine Al_p Pu_mvr ?_
  refine Al_nil (Aw_seq (Aw_seq (Aw_region ?_)))
  refine Al_p Pu_mvl ?_
  refine Al_p (Pu_cmp rfl rfl rfl rfl) ?_
  refine Al_p Pu_mvl ?_
  refine Al_st (St_gd [] rfl rfl rfl rfl trivial (fun hg8 => by exact Pu_move (.inl rfl) (by conv => lhs; whnf))) rfl (by decide) (by kernel_rfl) (by intro j b oj dj h1 h2 h3; cases h1; cases h2; cases h3; decide) ?_
  refine Al_st (St_gd [] rfl rfl rfl rfl trivial (fun hg9 => by exact Pu_move (.inl rfl) (by conv => lhs; whnf))) rfl (by decide) (by kernel_rfl) (by intro j b oj dj h1 h2 h3; cases h1; cases h2; cases h3; decide) ?_
  refine Al_st (St_gd [9] rfl rfl rfl rfl ⟨⟨_, rfl⟩, trivial⟩ (fun hg10 => by exact Pu_len rfl Tryz.underlying30 rfl (by first | exact List.length_map .. | exact rfl))) rfl (by decide) (by kernel_rfl) (by intro j b oj dj h1 h2 h3; cases h1; cases h2; cases h3; decide) ?_
  refine Al_st (St_gd [8, 10] rfl rfl rfl rfl ⟨⟨_, rfl⟩, ⟨_, rfl⟩, trivial⟩ (fun hg11 => Pu_cmp rfl rfl rfl rfl)) rfl (by decide) (by kernel_rfl) (by intro j b oj dj h1 h2 h3; cases h1; cases h2; cases h3; decide) ?_
  refine Al_p (Pu_or rfl rfl rfl rfl) ?_
  refine Al_nil ?_
  refine Aw_cond rfl (fun h12 => ?_) (fun h12 => ?_)
  · (try simp only [decide_eq_true_eq, decide_eq_false_iff_not, Bool.and_eq_true, Bool.or_eq_true, Bool.and_eq_false_iff, Bool.or_eq_false_iff, Bool.not_eq_true', Bool.not_eq_false', beq_iff_eq, Bool.not_eq_eq_eq_not, Bool.not_true, Bool.not_false, List.length_map, Bool.and_true, Bool.and_false, Bool.false_and, Bool.true_and, Bool.or_false, Bool.false_or] at h12)
    have hno : ¬ (0 ≤ i ∧ i < l.length) := by omega
    rw [G.behind_no l hno]
    refine Aw_seq (Aw_region ?_)
    refine Al_p Pu_mvr ?_
    refine Al_nil ?_
    refine Aw_ret ?_
    exact Sub.nil -- ret 0
  · (try simp only [decide_eq_true_eq, decide_eq_false_iff_not, Bool.and_eq_true, Bool.or_eq_true, Bool.and_eq_false_iff, Bool.or_eq_false_iff, Bool.not_eq_true', Bool.not_eq_false', beq_iff_eq, Bool.not_eq_eq_eq_not, Bool.not_true, Bool.not_false, List.length_map, Bool.and_true, Bool.and_false, Bool.false_and, Bool.true_and, Bool.or_false, Bool.false_or] at h12)
    have hyes : 0 ≤ i ∧ i < l.length := by omega
    obtain ⟨i, rfl⟩ : ∃ n : Nat, i = n := ⟨i.toNat, by omega⟩
    have hi : i < l.length := by omega
    rw [G.behind_at l hi]
    have hsl : (l.getD i default).seen.length ≤ 900 := by
      have : l.getD i default = l[i] := by simp [hi]
      rw [this]; exact hs _ (List.getElem_mem hi)
    have hme := merge_a [(l.getD i default).seen, [G.depE (l.getD i default)]] (by
      have : [(l.getD i default).seen, [G.depE (l.getD i default)]].flatten.length = (l.getD i default).seen.length + 1 := by rw [List.flatten_cons, List.length_append]; rfl
      omega)
    refine Aw_skip (Aw_seq ?_)
    refine Aw_draw 19 (by kernel_rfl) (by kernel_rfl) ?_
    refine Dr_p Pu_mvl ?_
    refine Dr_p Pu_mvl ?_
    refine Dr_p (Pu_index rfl Tryz.underlying30 Tryz.sizeOf51 rfl rfl (rfl) (mapgetD (d := default) hi)) ?_
    refine Dr_p (Pu_field 5 rfl Tryz.underlying51 rfl rfl Tryz.sizeOf46 rfl) ?_
    refine Dr_p (Pu_load1 rfl Tryz.isAgg46 rfl rfl) ?_
    refine Dr_p Pu_mvl ?_
    refine Dr_p Pu_mvl ?_
    refine Dr_p (Pu_index rfl Tryz.underlying30 Tryz.sizeOf51 rfl rfl (rfl) (mapgetD (d := default) hi)) ?_
    refine Dr_p (Pu_field 2 rfl Tryz.underlying51 rfl rfl Tryz.sizeOf9 rfl) ?_
    refine Dr_p (Pu_load1 rfl Tryz.isAgg9 rfl rfl) ?_
    refine Dr_p Pu_mvl ?_
    refine Dr_p Pu_mvl ?_
    refine Dr_p (Pu_index rfl Tryz.underlying30 Tryz.sizeOf51 rfl rfl (rfl) (mapgetD (d := default) hi)) ?_
    refine Dr_p (Pu_field 3 rfl Tryz.underlying51 rfl rfl Tryz.sizeOf43 rfl) ?_
    refine Dr_p (Pu_loadN rfl Tryz.isAgg43 Tryz.sizeOf43 rfl (Nat.le_of_ble_eq_true rfl)) ?_
    refine Dr_p (Pu_build (aa := [(0, _), (1, _)]) rfl Tryz.underlying45 Tryz.zeroValue45 (places45 Tryz.underlying45) (by kernel_rfl) ⟨rfl, rfl, rfl, rfl, rfl, rfl, trivial⟩ rfl) ?_
    refine Dr_p (Pu_slice1 rfl Tryz.underlying46 Tryz.sizeOf45 Tryz.zeroValue45 rfl (by decide) (by decide) (by kernel_rfl) rfl rfl rfl) ?_
    refine Dr_p (Pu_buildSlice (aa := [(0, _), (1, _)]) rfl Tryz.underlying28 Tryz.sizeOf46 Tryz.zeroValue46 rfl (by decide) (by decide) (by decide) (by kernel_rfl) ⟨rfl, rfl, rfl, rfl, rfl, rfl, trivial⟩ ((rfl : _ = some [[pastA (l.getD i default).seen], [pastA [G.depE (l.getD i default)]]].flatten)) rfl rfl) ?_
    refine Dr_p (Pu_call (hme) rfl ⟨Sub.rfl, trivial⟩) ?_
    refine Dr_nil ?_
    refine Al_p Pu_mvr ?_
    refine Al_nil ?_
    refine Aw_ret ?_
    exact Sub.rfl -- ret 1
namespace H
/-- What was seen, as a past, but for how many there are. -/
def rowB (p : List Dep) : Bool := (List.range p.length).all (J.okAt p)
theorem row_no {p : List Dep} {i : Nat} (hi : i < p.length) (h : J.okAt p i = false) : rowB p = false := by
  unfold rowB
  rw [List.all_eq_false]
  exact ⟨i, List.mem_range.2 hi, by rw [h]; decide⟩
theorem row_all {p : List Dep} (h : ∀ i, i < p.length → J.okAt p i = true) : rowB p = true := List.all_eq_true.2 fun i hi => h i (List.mem_range.1 hi)
theorem row_good {p : List Dep} (h : rowB p = true) : D.Good p := by
  unfold rowB at h
  simp only [List.all_eq_true, List.mem_range] at h
  refine ⟨J.adj_srt p fun i hi => ?_, fun x hx => ?_⟩
  · have := h (i + 1) hi
    unfold J.okAt at this
    simp only [Bool.and_eq_true, Bool.or_eq_true, decide_eq_true_eq] at this
    rcases this.2 with h | h
    · omega
    · exact h
  · obtain ⟨i, hi, rfl⟩ := List.getElem_of_mem hx
    have := h i hi
    unfold J.okAt at this
    simp only [Bool.and_eq_true] at this
    have hg : p.getD i default = p[i] := by simp [hi]
    rw [hg] at this
    exact this.1
def writes (l : List Event) (k : ByteArray) : List (Int × Int) := (l.filter fun e => decide (e.kind = 1) && (e.key.toList == k.toList)).map fun e => (e.n, e.s)
theorem writes_snoc (l : List Event) (k : ByteArray) {j : Nat} (hj : j < l.length) : writes (l.take (j + 1)) k = writes (l.take j) k ++ (if decide (l[j].kind = 1) && (l[j].key.toList == k.toList) then [(l[j].n, l[j].s)] else []) := by
  unfold writes
  rw [List.take_succ_eq_append_getElem hj, List.filter_append, List.map_append]
  cases h : decide (l[j].kind = 1) && (l[j].key.toList == k.toList) <;> simp [List.filter_cons, h]
abbrev SK := Int × Int
def skv (x : SK) : Value := .agg #[.int .i64 x.1, .int .i64 x.2]
def skok (x : SK) : Prop := A.inI x.1 ∧ A.inI x.2
theorem skv_inj (a b : SK) (h : skv a = skv b) : a = b := by
  obtain ⟨a1, a2⟩ := a
  obtain ⟨b1, b2⟩ := b
  simp [skv] at h
  simp [h]
end H
theorem H.sk_lit (a : H.SK) (h : H.skok a) : ∃ l, keyOf Tryz.prog 43 (H.skv a) = some l := by
  obtain ⟨a2, a3⟩ := a
  obtain ⟨h2, h3⟩ := h
  have w2 : (Lit.int .i64 a2).wf = true := by simp only [Lit.wf, Bool.and_eq_true, decide_eq_true_eq]; exact h2
  have w3 : (Lit.int .i64 a3).wf = true := by simp only [Lit.wf, Bool.and_eq_true, decide_eq_true_eq]; exact h3
  have k1 : Tryz.prog.keyType 43 = true := by kernel_rfl
  have k2 : (H.skv (a2, a3)).formed Tryz.prog 43 = true := by kernel_rfl
  have c2 : Tryz.prog.cellsOf 43 = 2 := by kernel_rfl
  have c4 : Tryz.prog.cellsOf 3 = 1 := by kernel_rfl
  have hl : ∃ n, Tryz.prog.types.size + 1 = n + 3 := ⟨Tryz.prog.types.size - 2, by have : 2 ≤ Tryz.prog.types.size := Nat.le_of_ble_eq_true (by kernel_rfl); omega⟩
  obtain ⟨n, hn⟩ := hl
  unfold keyOf
  simp only [Tryz.underlying43, k1, k2, Bool.and_self, if_true, hn]
  simp [H.skv, Value.cells, Program.keyLits, Tryz.underlying43, Tryz.underlying3, c2, c4, w2, w3]
theorem H.sk_key : KeyT Tryz.prog 43 H.SK H.skv H.skok :=
  .of (Go.Maps.Keyed.of_law (deep_law_laid (by kernel_rfl) (m := 2) (by decide) (Nat.lt_of_lt_of_le (Nat.lt_succ_self _) (Nat.le_of_ble_eq_true (by kernel_rfl))) (by kernel_rfl) (by rw [Tryz.underlying43]))) H.sk_lit H.skv_inj
theorem hrow_a (p : List Dep) : ACall Tryz.prog 65 [pastA p] (bv (H.rowB p)) := by
  refine ACall_enter (fun _ _ => by kernel_rfl) Tryz.func65 rfl Tryz.ntmps65 Tryz.results65 (Nat.le_of_ble_eq_true rfl) (fun hok M0 w0 hnl => ?_)
  have hlen := (hok _ (List.mem_cons_self ..)).len
  rw [List.length_map] at hlen
  refine Aw_seq (Aw_region ?_)
  refine Al_p Pu_mvr ?_
  refine Al_nil (Aw_seq (Aw_seq (Aw_region ?_)))
  refine Al_p Pu_mvl ?_
  refine Al_p (Pu_len rfl Tryz.underlying46 rfl (by first | exact List.length_map .. | exact rfl)) ?_
  refine Al_p Pu_mvl ?_
  refine Al_nil (Aw_block ?_)
  refine Aw_loopk (ι := Nat) [0, 5, 6] [] (fun k => [(7, .d (iv k))]) (fun k => []) (fun k => k ≤ p.length ∧ ∀ i, i < k → J.okAt p i = true) (fun k => p.length - k) (0) (⟨Nat.zero_le _, by intros; omega⟩) ⟨Sub.rfl, trivial⟩ trivial ?_
  rintro k ⟨hk0, hno⟩
  refine Aw_seq (Aw_region ?_)
  refine Al_p (Pu_cmp rfl rfl rfl rfl) ?_
  refine Al_nil (Aw_seq ?_)
  refine Aw_cond rfl (fun h8 => ?_) (fun h8 => ?_)
  · (try simp only [decide_eq_true_eq, decide_eq_false_iff_not, Bool.and_eq_true, Bool.or_eq_true, Bool.and_eq_false_iff, Bool.or_eq_false_iff, Bool.not_eq_true', Bool.not_eq_false', beq_iff_eq, Bool.not_eq_eq_eq_not, Bool.not_true, Bool.not_false, List.length_map, Bool.and_true, Bool.and_false, Bool.false_and, Bool.true_and, Bool.or_false, Bool.false_or] at h8)
    have hk : k < p.length := by omega
    refine Aw_skip (Aw_seq (Aw_block (Aw_seq (Aw_region ?_))))
    refine Al_p Pu_mvl ?_
    refine Al_p (Pu_index rfl Tryz.underlying46 Tryz.sizeOf45 rfl rfl (rfl) (mapgetD (d := default) hk)) ?_
    refine Al_p (Pu_loadN rfl Tryz.isAgg45 Tryz.sizeOf45 rfl (Nat.le_of_ble_eq_true rfl)) ?_
    refine Al_alloc rfl rfl rfl (by decide) Tryz.zeroValue45 rfl (by kernel_rfl) (fun g4 => ?_)
    refine Al_p Pu_mvr ?_
    refine Al_storeN rfl rfl rfl (by kernel_rfl) Tryz.isAgg45 Tryz.sizeOf45 rfl rfl rfl rfl (Nat.le_of_ble_eq_true rfl) ?_
    refine Al_nil (Aw_seq ?_)
    refine Aw_draw 25 (by kernel_rfl) (by kernel_rfl) ?_
    refine Dr_p (Pu_fieldb 0 rfl Tryz.underlying45 rfl rfl Tryz.sizeOf9 rfl) ?_
    refine Dr_p (Pu_loadb rfl Tryz.isAgg9 rfl rfl rfl) ?_
    refine Dr_p (Pu_call (check_a _) rfl ⟨Sub.rfl, trivial⟩) ?_
    refine Dr_p (Pu_not rfl rfl) ?_
    refine Dr_p Pu_mvl ?_
    refine Dr_st (St_gd [] rfl rfl rfl rfl trivial (fun hg17 => Pu_fieldb 1 rfl Tryz.underlying45 rfl rfl Tryz.sizeOf43 rfl)) rfl ?_
    refine Dr_st (St_gd [17] rfl rfl rfl rfl ⟨⟨_, rfl⟩, trivial⟩ (fun hg18 => Pu_loadbN (r := [_, _]) rfl Tryz.isAgg43 Tryz.sizeOf43 rfl rfl rfl rfl)) rfl ?_
    refine Dr_st (St_gd [18] rfl rfl rfl rfl ⟨⟨_, rfl⟩, trivial⟩ (fun hg19 => Pu_call (stcheck_a _ _) rfl ⟨Sub.rfl, trivial⟩)) rfl ?_
    refine Dr_st (St_gd [19] rfl rfl rfl rfl ⟨⟨_, rfl⟩, trivial⟩ (fun hg20 => Pu_not rfl rfl)) rfl ?_
    refine Dr_p (Pu_or rfl rfl rfl rfl) ?_
    refine Dr_p Pu_mvl ?_
    refine Dr_st (St_gd [] rfl rfl rfl rfl trivial (fun hg23 => by exact Pu_move (.inl rfl) (by conv => lhs; whnf))) rfl ?_
    refine Dr_st (St_gd [23] rfl rfl rfl rfl ⟨⟨_, rfl⟩, trivial⟩ (fun hg24 => Pu_cmp rfl rfl rfl rfl)) rfl ?_
    refine Dr_st (St_gd [24] rfl rfl rfl rfl ⟨⟨_, rfl⟩, trivial⟩ (fun hg25 => by exact Pu_move (.inl rfl) (by conv => lhs; whnf))) rfl ?_
    refine Dr_st (St_gd2 [] rfl rfl rfl rfl trivial (fun hp26 hg26 => by exact Pu_move (.inl rfl) (by conv => lhs; whnf))) rfl ?_
    refine Dr_st (St_gd2 [] rfl rfl rfl rfl trivial (fun hp27 hg27 => by exact Pu_move (.inl rfl) (by conv => lhs; whnf))) rfl ?_
    refine Dr_st (St_gd2 [27] rfl rfl rfl rfl ⟨⟨_, rfl⟩, trivial⟩ (fun hp28 hg28 => by exact Pu_sub rfl rfl rfl (fun h1 h2 => by simp only [A.inI, A.maxI] at *; omega))) rfl ?_
    refine Dr_st (St_gd2 [26, 28] rfl rfl rfl rfl ⟨⟨_, rfl⟩, ⟨_, rfl⟩, trivial⟩ (fun hp29 hg29 => by exact Pu_index rfl Tryz.underlying46 Tryz.sizeOf45 rfl rfl ((show ((k : Int) - 1) = ((k - 1 : Nat) : Int) from by have := of_decide_eq_true hg29; omega)) (mapgetD (d := default) (show k - 1 < p.length by omega)))) rfl ?_
    refine Dr_st (St_gd2 [29] rfl rfl rfl rfl ⟨⟨_, rfl⟩, trivial⟩ (fun hp30 hg30 => Pu_field 0 rfl Tryz.underlying45 rfl rfl Tryz.sizeOf9 rfl)) rfl ?_
    refine Dr_st (St_gd2 [30] rfl rfl rfl rfl ⟨⟨_, rfl⟩, trivial⟩ (fun hp31 hg31 => Pu_load1 rfl Tryz.isAgg9 rfl rfl)) rfl ?_
    refine Dr_st (St_gd2 [] rfl rfl rfl rfl trivial (fun hp32 hg32 => Pu_fieldb 0 rfl Tryz.underlying45 rfl rfl Tryz.sizeOf9 rfl)) rfl ?_
    refine Dr_st (St_gd2 [32] rfl rfl rfl rfl ⟨⟨_, rfl⟩, trivial⟩ (fun hp33 hg33 => Pu_loadb rfl Tryz.isAgg9 rfl rfl rfl)) rfl ?_
    refine Dr_st (St_gd2 [31, 33] rfl rfl rfl rfl ⟨⟨_, rfl⟩, ⟨_, rfl⟩, trivial⟩ (fun hp34 hg34 => Pu_str rfl rfl rfl rfl)) rfl ?_
    refine Dr_st (St_gd [25] rfl rfl rfl rfl ⟨⟨_, rfl⟩, trivial⟩ (fun hg35 => Pu_andG rfl rfl (fun h => ⟨hg35, h⟩) rfl rfl)) rfl ?_
    refine Dr_p (Pu_or rfl rfl rfl rfl) ?_
    refine Dr_nil (Al_nil ?_)
    refine Aw_cond rfl (fun h36 => ?_) (fun h36 => ?_)
    · skip
      have hf : J.okAt p k = false := by
        unfold J.okAt D.okB
        rcases Nat.eq_zero_or_pos k with h0 | h0
        · subst h0
          simp at h36
          cases h1 : K.checkB (p.getD 0 default).key
          · rfl
          · simp_all
        · rw [show decide (k = 0) = false from by simp; omega, Bool.false_or]
          simp only [Bool.or_eq_true, Bool.not_eq_true', Bool.and_eq_true, decide_eq_true_eq] at h36
          rcases h36 with (h | h) | h
          · rw [h]; rfl
          · rw [h, Bool.and_false]; rfl
          · rw [h.2, Bool.and_false]
      refine Aw_seq (Aw_region ?_)
      refine Al_p Pu_mvr ?_
      refine Al_nil ?_
      refine Aw_ret ?_
      exact Sub.bool (H.row_no hk hf).symm -- ret 0
    · skip
      have hf : J.okAt p k = true := by
        unfold J.okAt D.okB
        rcases Nat.eq_zero_or_pos k with h0 | h0
        · subst h0
          simp at h36
          cases h1 : K.checkB (p.getD 0 default).key <;> simp_all
        · rw [show decide (k = 0) = false from by simp; omega, Bool.false_or]
          simp only [Bool.or_eq_false_iff, Bool.not_eq_false', Bool.and_eq_false_iff, decide_eq_false_iff_not] at h36
          obtain ⟨⟨h1, h2⟩, h3⟩ := h36
          rw [h1, h2, Bool.true_and, Bool.true_and]
          rcases h3 with h | h
          · omega
          · exact h
      refine Aw_skip (Aw_region ?_)
      refine Al_p (Pu_add rfl rfl rfl (fun h1 h2 => by simp only [A.inI, A.maxI] at *; omega)) ?_
      refine Al_p Pu_mvl ?_
      refine Al_nil ?_
      exact ⟨k + 1, ⟨by omega, fun i hi => by
        rcases Nat.lt_or_ge i k with h | h
        · exact hno i h
        · rw [show i = k from by omega]; exact hf⟩, by omega, Le.ov ⟨Sub.num (by omega), trivial⟩ ⟨Sub.rfl, Sub.rfl, Sub.rfl, trivial⟩ trivial trivial⟩ -- loop 0 next.0
  · (try simp only [decide_eq_true_eq, decide_eq_false_iff_not, Bool.and_eq_true, Bool.or_eq_true, Bool.and_eq_false_iff, Bool.or_eq_false_iff, Bool.not_eq_true', Bool.not_eq_false', beq_iff_eq, Bool.not_eq_eq_eq_not, Bool.not_true, Bool.not_false, List.length_map, Bool.and_true, Bool.and_false, Bool.false_and, Bool.true_and, Bool.or_false, Bool.false_or] at h8)
    obtain rfl : k = p.length := by omega
    refine Aw_exit (Aw_seq (Aw_region ?_))
    refine Al_p Pu_mvr ?_
    refine Al_nil ?_
    refine Aw_ret ?_
    exact Sub.bool (H.row_all hno).symm -- ret 1
theorem hwrites_a (l : List Event) (k : ByteArray) (hl : l.length ≤ 1000000) : ACall Tryz.prog 25 [.sl 6 (l.map Event.row), tv k] (.sl 2 ((H.writes l k).map fun s => [iv s.1, iv s.2])) := by
  refine ACall_enter (fun _ _ => by kernel_rfl) Tryz.func25 rfl Tryz.ntmps25 Tryz.results25 (Nat.le_of_ble_eq_true rfl) (fun hok M0 w0 hnl => ?_)
  have hlen := (hok _ (List.mem_cons_self ..)).len
  rw [List.length_map] at hlen
  refine Aw_seq (Aw_region ?_)
  refine Al_p Pu_mvr ?_
  refine Al_nil (Aw_seq (Aw_region ?_))
  refine Al_p Pu_mvr ?_
  refine Al_nil (Aw_seq (Aw_seq (Aw_region ?_)))
  refine Al_p Pu_mvl ?_
  refine Al_p (Pu_len rfl Tryz.underlying30 rfl (by first | exact List.length_map .. | exact rfl)) ?_
  refine Al_p Pu_mvl ?_
  refine Al_nil (Aw_block ?_)
  refine Aw_own (j := 5) (k := 5) (T := 43) (n := 2) rfl (fun g0 => ?_)
  refine Aw_loopk (ι := Nat × Nat) [1, 8, 9] [] (fun (j, g) => [(10, .d (iv j)), (5, .ow 5 g)]) (fun (j, g) => [(5, g, .arr 43 2 ((H.writes (l.take j) k).map fun s => [iv s.1, iv s.2]))]) (fun (j, g) => j ≤ l.length) (fun (j, g) => l.length - j) ((0, g0)) (Nat.zero_le _) ⟨Sub.rfl, Sub.rfl, trivial⟩ ⟨rfl, trivial⟩ ?_
  rintro ⟨j, g⟩ hk0
  refine Aw_seq (Aw_region ?_)
  refine Al_p (Pu_cmp rfl rfl rfl rfl) ?_
  refine Al_nil (Aw_seq ?_)
  refine Aw_cond rfl (fun h11 => ?_) (fun h11 => ?_)
  · (try simp only [decide_eq_true_eq, decide_eq_false_iff_not, Bool.and_eq_true, Bool.or_eq_true, Bool.and_eq_false_iff, Bool.or_eq_false_iff, Bool.not_eq_true', Bool.not_eq_false', beq_iff_eq, Bool.not_eq_eq_eq_not, Bool.not_true, Bool.not_false, List.length_map, Bool.and_true, Bool.and_false, Bool.false_and, Bool.true_and, Bool.or_false, Bool.false_or] at h11)
    have hj : j < l.length := by omega
    have hsn := H.writes_snoc l k hj
    have hwl : (H.writes (l.take j) k).length ≤ j := by unfold H.writes; rw [List.length_map]; exact Nat.le_trans (List.length_filter_le _ _) (by rw [List.length_take]; omega)
    refine Aw_skip ?_
    -- join 0: live [1, 5, 8, 9, 10], turned [5]
    refine Aw_seq (Aw_block (Aw_seq (Aw_region ?_)))
    refine Al_p (Pu_index rfl Tryz.underlying30 Tryz.sizeOf51 rfl rfl (rfl) (mapget hj)) ?_
    refine Al_p (Pu_loadN rfl Tryz.isAgg51 Tryz.sizeOf51 rfl (Nat.le_of_ble_eq_true rfl)) ?_
    refine Al_alloc rfl rfl rfl (by decide) Tryz.zeroValue51 rfl (by kernel_rfl) (fun g7 => ?_)
    refine Al_storeN rfl rfl rfl (by kernel_rfl) Tryz.isAgg51 Tryz.sizeOf51 rfl rfl rfl rfl (Nat.le_of_ble_eq_true rfl) ?_
    refine Al_nil (Aw_seq (Aw_region ?_))
    refine Al_p (Pu_fieldb 0 rfl Tryz.underlying51 rfl rfl Tryz.sizeOf3 rfl) ?_
    refine Al_p (Pu_loadb rfl Tryz.isAgg3 rfl rfl rfl) ?_
    refine Al_p (Pu_cmp rfl rfl rfl rfl) ?_
    refine Al_p Pu_mvl ?_
    refine Al_st (St_gd [] rfl rfl rfl rfl trivial (fun hg18 => Pu_fieldb 2 rfl Tryz.underlying51 rfl rfl Tryz.sizeOf9 rfl)) rfl (by decide) (by kernel_rfl) (by intro j b oj dj h1 h2 h3; cases h1; cases h2; cases h3; decide) ?_
    refine Al_st (St_gd [18] rfl rfl rfl rfl ⟨⟨_, rfl⟩, trivial⟩ (fun hg19 => Pu_loadb rfl Tryz.isAgg9 rfl rfl rfl)) rfl (by decide) (by kernel_rfl) (by intro j b oj dj h1 h2 h3; cases h1; cases h2; cases h3; decide) ?_
    refine Al_st (St_gd [] rfl rfl rfl rfl trivial (fun hg20 => by exact Pu_move (.inl rfl) (by conv => lhs; whnf))) rfl (by decide) (by kernel_rfl) (by intro j b oj dj h1 h2 h3; cases h1; cases h2; cases h3; decide) ?_
    refine Al_st (St_gd [19, 20] rfl rfl rfl rfl ⟨⟨_, rfl⟩, ⟨_, rfl⟩, trivial⟩ (fun hg21 => Pu_str rfl rfl rfl rfl)) rfl (by decide) (by kernel_rfl) (by intro j b oj dj h1 h2 h3; cases h1; cases h2; cases h3; decide) ?_
    refine Al_p (Pu_and rfl rfl rfl rfl) ?_
    refine Al_nil ?_
    refine Aw_cond rfl (fun h22 => ?_) (fun h22 => ?_)
    · skip
      refine Aw_region ?_
      refine Al_p Pu_mvl ?_
      refine Al_p (Pu_fieldb 3 rfl Tryz.underlying51 rfl rfl Tryz.sizeOf43 rfl) ?_
      refine Al_p (Pu_loadbN (r := [_, _]) rfl Tryz.isAgg43 Tryz.sizeOf43 rfl rfl rfl rfl) ?_
      refine Al_p (Pu_slice1 rfl Tryz.underlying63 Tryz.sizeOf43 Tryz.zeroValue43 rfl (by decide) (by decide) (by kernel_rfl) rfl rfl rfl) ?_
      refine Al_append rfl rfl rfl (by decide) (by kernel_rfl) elem63 (by decide) Tryz.sizeOf43 rfl rfl rfl (by simp; omega) (by decide) (fun g27 => ?_)
      refine Al_p Pu_mvr ?_
      refine Al_nil (Aw_region ?_)
      refine Al_p (Pu_add rfl rfl rfl (fun h1 h2 => by simp only [A.inI, A.maxI] at *; omega)) ?_
      refine Al_p Pu_mvl ?_
      refine Al_nil ?_
      exact ⟨(j + 1, g27), by omega, by simp only []; omega, Le.ov ⟨Sub.num (by omega), Sub.rfl, trivial⟩ ⟨Sub.rfl, Sub.rfl, Sub.rfl, trivial⟩ ⟨obeq (by rw [hsn, if_pos h22, List.map_append]; rfl), trivial⟩ trivial⟩ -- loop 0 next.0
    · skip
      refine Aw_skip (Aw_region ?_)
      refine Al_p (Pu_add rfl rfl rfl (fun h1 h2 => by simp only [A.inI, A.maxI] at *; omega)) ?_
      refine Al_p Pu_mvl ?_
      refine Al_nil ?_
      exact ⟨(j + 1, g), by omega, by simp only []; omega, Le.ov ⟨Sub.num (by omega), Sub.rfl, trivial⟩ ⟨Sub.rfl, Sub.rfl, Sub.rfl, trivial⟩ ⟨obeq (by rw [hsn, if_neg (by rw [h22]; simp), List.append_nil]), trivial⟩ trivial⟩ -- loop 0 next.1
  · (try simp only [decide_eq_true_eq, decide_eq_false_iff_not, Bool.and_eq_true, Bool.or_eq_true, Bool.and_eq_false_iff, Bool.or_eq_false_iff, Bool.not_eq_true', Bool.not_eq_false', beq_iff_eq, Bool.not_eq_eq_eq_not, Bool.not_true, Bool.not_false, List.length_map, Bool.and_true, Bool.and_false, Bool.false_and, Bool.true_and, Bool.or_false, Bool.false_or] at h11)
    have hjj : l.take j = l := List.take_of_length_le (by omega)
    refine Aw_exit (Aw_seq (Aw_region ?_))
    refine Al_p Pu_mvl ?_
    refine Al_p Pu_mvr ?_
    refine Al_nil ?_
    refine Aw_frz hnl (k := 5) [4] rfl ⟨rfl, trivial⟩ ?_
    refine Aw_ret ?_
    exact Sub.d (by rw [hjj]) -- ret 0
theorem hgreatest_a (l : List Event) (k : ByteArray) (hl : l.length ≤ 1000000) : ACall Tryz.prog 32 [.sl 6 (l.map Event.row), tv k] (.row [iv (D.maxS (H.writes l k)).1, iv (D.maxS (H.writes l k)).2]) := by
  refine ACall_enterG (fun _ _ => by kernel_rfl) Tryz.func32 rfl Tryz.ntmps32 (Reads.cN Tryz.results32 Tryz.isAgg43 Tryz.sizeOf43) (Nat.le_of_ble_eq_true rfl) (fun hok M0 w0 hnl => ?_)
  refine Aw_seq (Aw_region ?_)
  refine Al_alloc rfl rfl rfl (by decide) Tryz.zeroValue43 rfl (by kernel_rfl) (fun g4 => ?_)
  refine Al_nil (Aw_seq (Aw_region ?_))
  refine Al_p Pu_mvl ?_
  refine Al_p Pu_mvl ?_
  refine Al_p (Pu_call (hwrites_a l k hl) rfl ⟨Sub.rfl, Sub.rfl, trivial⟩) ?_
  refine Al_p (Pu_call (smax_a _) rfl ⟨Sub.rfl, trivial⟩) ?_
  refine Al_storeN rfl rfl rfl (by kernel_rfl) Tryz.isAgg43 Tryz.sizeOf43 rfl rfl rfl rfl (Nat.le_of_ble_eq_true rfl) ?_
  refine Al_nil ?_
  refine Aw_ret ?_
  exact ⟨_, _, _, _, _, [_, _], rfl, rfl, rfl, rfl, rfl⟩ -- ret 0
end Go.Proofs.YtojehmkkbdedaaaGreat
end

section
set_option maxRecDepth 100000
namespace Go.Proofs.YtojehmkkbdedaaaGreat
open Go Go.RowKit A R
open A.RowT
namespace H
def kindV (e : Event) (v : Value) : Prop := (e.kind = 1 ∧ ∃ p, v = .iface 108 p) ∨ (e.kind = 2 ∧ ∃ p, v = .iface 109 p) ∨ (e.kind ≠ 1 ∧ e.kind ≠ 2 ∧ v = .nilIface)
theorem kindV.isIf {e : Event} {v : Value} (h : kindV e v) : A.isIf v := by
  rcases h with ⟨_, p, rfl⟩ | ⟨_, p, rfl⟩ | ⟨_, _, rfl⟩ <;> trivial
theorem kindV.w {e : Event} {v : Value} (h : kindV e v) : tyB 108 v = decide (e.kind = 1) := by
  rcases h with ⟨h1, p, rfl⟩ | ⟨h1, p, rfl⟩ | ⟨h1, _, rfl⟩
  · rw [h1]; rfl
  · rw [h1]; rfl
  · rw [decide_eq_false h1]; rfl
theorem kindV.r {e : Event} {v : Value} (h : kindV e v) : tyB 109 v = decide (e.kind = 2) := by
  rcases h with ⟨h1, p, rfl⟩ | ⟨h1, p, rfl⟩ | ⟨h0, h1, rfl⟩
  · rw [h1]; rfl
  · rw [h1]; rfl
  · rw [decide_eq_false h1]; rfl
end H
theorem hkind_e (e : Event) : GCallE Tryz.prog 66 [.d (.row e.row)] [] (fun i : { v : Value // H.kindV e v } => some ([], .eq i.1)) := by
  refine GCallE_enter (fun _ _ => by kernel_rfl) Tryz.func66 rfl Tryz.ntmps66 (ReadsS.r1 Tryz.results66) (Nat.le_of_ble_eq_true rfl) (fun hok hokB M0 w0 => ?_)
  refine Aw_seq (Aw_region ?_)
  refine Al_p (Pu_boxN rfl rfl) ?_
  refine Al_p Pu_mvr ?_
  refine Al_nil (Aw_seq (Aw_seq (Aw_region ?_)))
  refine Al_p (Pu_field 0 rfl Tryz.underlying51 rfl rfl Tryz.sizeOf3 rfl) ?_
  refine Al_p (Pu_load1 rfl Tryz.isAgg3 rfl rfl) ?_
  refine Al_nil (Aw_block (Aw_seq (Aw_region ?_)))
  refine Al_p (Pu_cmp rfl rfl rfl rfl) ?_
  refine Al_p Pu_mvr ?_
  refine Al_nil ?_
  refine Aw_cond rfl (fun h5 => ?_) (fun h5 => ?_)
  · (try simp only [decide_eq_true_eq, decide_eq_false_iff_not, Bool.and_eq_true, Bool.or_eq_true, Bool.and_eq_false_iff, Bool.or_eq_false_iff, Bool.not_eq_true', Bool.not_eq_false', beq_iff_eq, Bool.not_eq_eq_eq_not, Bool.not_true, Bool.not_false, List.length_map, Bool.and_true, Bool.and_false, Bool.false_and, Bool.true_and, Bool.or_false, Bool.false_or] at h5)
    refine Aw_seq (Aw_region ?_)
    refine Al_p (Pu_loadN rfl Tryz.isAgg51 Tryz.sizeOf51 rfl (Nat.le_of_ble_eq_true rfl)) ?_
    refine Al_p (Pu_build (aa := [(0, _)]) rfl Tryz.underlying108 Tryz.zeroValue108 (places108 Tryz.underlying108) (by kernel_rfl) ⟨rfl, rfl, rfl, trivial⟩ rfl) ?_
    refine Al_makeIface rfl rfl rfl (by decide) Tryz.underlying108 (fun p9 => ?_)
    refine Al_p Pu_mvr ?_
    refine Al_nil ?_
    refine Aw_ret ?_
    exact ⟨⟨.iface 108 p9, .inl ⟨h5, p9, rfl⟩⟩, _, _, [], rfl, Sub.rfl, trivial, rfl⟩ -- ret 0
  · (try simp only [decide_eq_true_eq, decide_eq_false_iff_not, Bool.and_eq_true, Bool.or_eq_true, Bool.and_eq_false_iff, Bool.or_eq_false_iff, Bool.not_eq_true', Bool.not_eq_false', beq_iff_eq, Bool.not_eq_eq_eq_not, Bool.not_true, Bool.not_false, List.length_map, Bool.and_true, Bool.and_false, Bool.false_and, Bool.true_and, Bool.or_false, Bool.false_or] at h5)
    refine Aw_seq (Aw_region ?_)
    refine Al_p (Pu_cmp rfl rfl rfl rfl) ?_
    refine Al_p Pu_mvr ?_
    refine Al_nil ?_
    refine Aw_cond rfl (fun h10 => ?_) (fun h10 => ?_)
    · (try simp only [decide_eq_true_eq, decide_eq_false_iff_not, Bool.and_eq_true, Bool.or_eq_true, Bool.and_eq_false_iff, Bool.or_eq_false_iff, Bool.not_eq_true', Bool.not_eq_false', beq_iff_eq, Bool.not_eq_eq_eq_not, Bool.not_true, Bool.not_false, List.length_map, Bool.and_true, Bool.and_false, Bool.false_and, Bool.true_and, Bool.or_false, Bool.false_or] at h10)
      refine Aw_seq (Aw_region ?_)
      refine Al_p (Pu_loadN rfl Tryz.isAgg51 Tryz.sizeOf51 rfl (Nat.le_of_ble_eq_true rfl)) ?_
      refine Al_p (Pu_build (aa := [(0, _)]) rfl Tryz.underlying109 Tryz.zeroValue109 (places109 Tryz.underlying109) (by kernel_rfl) ⟨rfl, rfl, rfl, trivial⟩ rfl) ?_
      refine Al_makeIface rfl rfl rfl (by decide) Tryz.underlying109 (fun p14 => ?_)
      refine Al_p Pu_mvr ?_
      refine Al_nil ?_
      refine Aw_ret ?_
      exact ⟨⟨.iface 109 p14, .inr (.inl ⟨h10, p14, rfl⟩)⟩, _, _, [], rfl, Sub.rfl, trivial, rfl⟩ -- ret 1
    · (try simp only [decide_eq_true_eq, decide_eq_false_iff_not, Bool.and_eq_true, Bool.or_eq_true, Bool.and_eq_false_iff, Bool.or_eq_false_iff, Bool.not_eq_true', Bool.not_eq_false', beq_iff_eq, Bool.not_eq_eq_eq_not, Bool.not_true, Bool.not_false, List.length_map, Bool.and_true, Bool.and_false, Bool.false_and, Bool.true_and, Bool.or_false, Bool.false_or] at h10)
      refine Aw_skip (Aw_seq (Aw_region ?_))
      refine Al_p Pu_mvr ?_
      refine Al_nil ?_
      refine Aw_le (le_veq (j := 2) rfl) ?_
      refine Aw_ret ?_
      exact ⟨⟨.nilIface, .inr (.inr ⟨h5, h10, rfl⟩)⟩, _, _, [], rfl, Sub.rfl, trivial, rfl⟩ -- ret 2
namespace H
def encK (k : ByteArray) : AV := .sl 1 [[tv k]]
def encP (p : List Dep) : AV := pastA p
def keysA : Option ByteArray → List ByteArray
  | some k => [k]
  | none => []
theorem keys_len (o : Option ByteArray) : decide (((keysA o).length : Int) = 0) = decide (o = none) := by cases o <;> rfl
/-- Is an event right, behind those that are known? -/
def rightB (W : SK → Option ByteArray) (B : Int → Option (List Dep)) (e : Event) : Bool :=
  K.checkB e.key && rowB e.seen && D.coversB e.seen ((B e.client).getD []) &&
  (if e.kind = 1 then V.stampB e.n e.s && decide (W (e.n, e.s) = none) && !(e.seen.any fun d => !D.lessB d.n d.s e.n e.s)
   else if e.kind = 2 then !D.lessB e.n e.s (D.get e.seen e.key).1 (D.get e.seen e.key).2 && ((e.n == 0 && e.s == 0) || (keysA (W (e.n, e.s))).any fun k => e.key.toList == k.toList)
   else false)
def bookO (b1 n1 : Nat) (W : SK → Option ByteArray) (b2 n2 : Nat) (B : Int → Option (List Dep)) : Obs := [(1001, .box 87 [.ow 1002 0, .ow 1003 0]), (1002, .op (mapO skv skok encK b1 n1 W)), (1003, .op (mapO (Value.int .i64) (fun a => -9223372036854775808 ≤ a ∧ a ≤ 9223372036854775807) encP b2 n2 B))]
end H
theorem indexs_a (l : List ByteArray) (x : ByteArray) : ACall Tryz.prog 82 [.sl 1 (l.map fun x => [tv x]), tv x] (iv (S.find (fun y => x.toList == y.toList) l)) := by
  refine ACall_enter (fun _ _ => by kernel_rfl) Tryz.func82 rfl Tryz.ntmps82 Tryz.results82 (Nat.le_of_ble_eq_true rfl) (fun hok M0 w0 hnl => ?_)
  have hlen := (hok _ (List.mem_cons_self ..)).len
  rw [List.length_map] at hlen
  refine Aw_seq (Aw_region ?_)
  refine Al_p Pu_mvr ?_
  refine Al_nil (Aw_seq (Aw_seq (Aw_region ?_)))
  refine Al_p Pu_mvl ?_
  refine Al_p (Pu_len rfl Tryz.underlying89 rfl (by first | exact List.length_map .. | exact rfl)) ?_
  refine Al_p Pu_mvl ?_
  refine Al_nil (Aw_block ?_)
  refine Aw_loopk (ι := Nat) [0, 1, 7] [] (fun k => [(8, .d (iv k))]) (fun k => []) (fun k => k ≤ l.length ∧ ∀ j (h : j < l.length), j < k → (fun y : ByteArray => x.toList == y.toList) l[j] = false) (fun k => l.length - k) (0) (⟨Nat.zero_le _, by intros; omega⟩) ⟨Sub.rfl, trivial⟩ trivial ?_
  rintro k ⟨hk0, hk2⟩
  refine Aw_seq (Aw_region ?_)
  refine Al_p (Pu_cmp rfl rfl rfl rfl) ?_
  refine Al_nil (Aw_seq ?_)
  refine Aw_cond rfl (fun h9 => ?_) (fun h9 => ?_)
  · (try simp only [decide_eq_true_eq, decide_eq_false_iff_not, Bool.and_eq_true, Bool.or_eq_true, Bool.and_eq_false_iff, Bool.or_eq_false_iff, Bool.not_eq_true', Bool.not_eq_false', beq_iff_eq, Bool.not_eq_eq_eq_not, Bool.not_true, Bool.not_false, List.length_map, Bool.and_true, Bool.and_false, Bool.false_and, Bool.true_and, Bool.or_false, Bool.false_or] at h9)
    have hk : k < l.length := by omega
    refine Aw_skip (Aw_seq (Aw_block (Aw_seq (Aw_region ?_))))
    refine Al_p Pu_mvl ?_
    refine Al_p Pu_mvr ?_
    refine Al_nil (Aw_seq (Aw_region ?_))
    refine Al_p Pu_mvl ?_
    refine Al_p Pu_mvl ?_
    refine Al_p Pu_mvl ?_
    refine Al_p (Pu_index rfl Tryz.underlying89 Tryz.sizeOf9 rfl rfl (rfl) (mapget hk)) ?_
    refine Al_p (Pu_load1 rfl Tryz.isAgg9 rfl rfl) ?_
    refine Al_p (Pu_str rfl rfl rfl rfl) ?_
    refine Al_nil ?_
    refine Aw_cond rfl (fun h16 => ?_) (fun h16 => ?_)
    · skip
      refine Aw_seq (Aw_region ?_)
      refine Al_p Pu_mvl ?_
      refine Al_p Pu_mvr ?_
      refine Al_nil ?_
      refine Aw_ret ?_
      exact Sub.num (S.find_at (p := fun y => x.toList == y.toList) hk h16 hk2) -- ret 0
    · skip
      have h16' : (x.toList == l[k].toList) = false := h16
      refine Aw_skip (Aw_region ?_)
      refine Al_p (Pu_add rfl rfl rfl (fun h1 h2 => by simp only [A.inI, A.maxI] at *; omega)) ?_
      refine Al_p Pu_mvl ?_
      refine Al_nil ?_
      exact ⟨k + 1, ⟨by omega, fun j hj hjk => by
        by_cases e : j = k
        · subst e; exact h16'
        · exact hk2 j hj (by omega)⟩, by omega, Le.ov ⟨Sub.num (by omega), trivial⟩ ⟨Sub.rfl, Sub.rfl, Sub.rfl, trivial⟩ trivial trivial⟩ -- loop 0 next.0
  · (try simp only [decide_eq_true_eq, decide_eq_false_iff_not, Bool.and_eq_true, Bool.or_eq_true, Bool.and_eq_false_iff, Bool.or_eq_false_iff, Bool.not_eq_true', Bool.not_eq_false', beq_iff_eq, Bool.not_eq_eq_eq_not, Bool.not_true, Bool.not_false, List.length_map, Bool.and_true, Bool.and_false, Bool.false_and, Bool.true_and, Bool.or_false, Bool.false_or] at h9)
    obtain rfl : k = l.length := by omega
    refine Aw_exit (Aw_seq (Aw_region ?_))
    refine Al_p Pu_mvr ?_
    refine Al_nil ?_
    refine Aw_ret ?_
    exact Sub.num (S.find_no hk2) -- ret 1
theorem containss_a (l : List ByteArray) (x : ByteArray) : ACall Tryz.prog 69 [.sl 1 (l.map fun x => [tv x]), tv x] (bv (l.any fun y => x.toList == y.toList)) := by
  refine ACall_enter (fun _ _ => by kernel_rfl) Tryz.func69 rfl Tryz.ntmps69 Tryz.results69 (Nat.le_of_ble_eq_true rfl) (fun hok M0 w0 hnl => ?_)
  refine Aw_seq (Aw_region ?_)
  refine Al_p Pu_mvr ?_
  refine Al_nil (Aw_seq (Aw_region ?_))
  refine Al_p Pu_mvl ?_
  refine Al_p Pu_mvl ?_
  refine Al_p (Pu_call (indexs_a l x) rfl ⟨Sub.rfl, Sub.rfl, trivial⟩) ?_
  refine Al_p (Pu_cmp rfl rfl rfl rfl) ?_
  refine Al_p Pu_mvr ?_
  refine Al_nil ?_
  refine Aw_ret ?_
  exact Sub.bool S.find_any -- ret 0
theorem hright1_a (e : Event) (d : Dep) : ACall Tryz.prog 67 [.row d.row, .fp e.row] (bv (!D.lessB d.n d.s e.n e.s)) := by
  refine ACall_enter (fun _ _ => by kernel_rfl) Tryz.func67 rfl Tryz.ntmps67 Tryz.results67 (Nat.le_of_ble_eq_true rfl) (fun hok M0 w0 hnl => ?_)
  refine Aw_seq (Aw_region ?_)
  refine Al_p (Pu_boxN rfl rfl) ?_
  refine Al_p Pu_mvr ?_
  refine Al_nil (Aw_seq (Aw_region ?_))
  refine Al_p (Pu_field 1 rfl Tryz.underlying45 rfl rfl Tryz.sizeOf43 rfl) ?_
  refine Al_p (Pu_loadN rfl Tryz.isAgg43 Tryz.sizeOf43 rfl (Nat.le_of_ble_eq_true rfl)) ?_
  refine Al_p (Pu_field 3 rfl Tryz.underlying51 rfl rfl Tryz.sizeOf43 rfl) ?_
  refine Al_p (Pu_loadN rfl Tryz.isAgg43 Tryz.sizeOf43 rfl (Nat.le_of_ble_eq_true rfl)) ?_
  refine Al_p (Pu_call (less_a _ _ _ _) rfl ⟨Sub.rfl, Sub.rfl, trivial⟩) ?_
  refine Al_p (Pu_not rfl rfl) ?_
  refine Al_p Pu_mvr ?_
  refine Al_nil ?_
  refine Aw_ret ?_
  exact Sub.rfl -- ret 0
set_option maxHeartbeats 2000000 in
theorem hright_g (b1 n1 b2 n2 : Nat) (W : H.SK → Option ByteArray) (B : Int → Option (List Dep)) (e : Event) (hes : e.seen.length ≤ 1000000) : GCall Tryz.prog 47 [.bx 1001 0 0, .d (.row e.row)] (H.bookO b1 n1 W b2 n2 B) (some (H.bookO b1 n1 W b2 n2 B, .d (bv (H.rightB W B e)))) := by
  refine GCall_enter (fun _ _ => by kernel_rfl) Tryz.func47 rfl Tryz.ntmps47 (ReadsS.r1 Tryz.results47) (Nat.le_of_ble_eq_true rfl) (fun hok hokB M0 w0 => ?_)
  have hrow := hok (.row e.row) (by simp)
  have hn : A.inI e.n := (hrow.row (iv e.n) (by simp [Event.row])).int
  have hs : A.inI e.s := (hrow.row (iv e.s) (by simp [Event.row])).int
  have hcl : A.inI e.client := (hrow.row (iv e.client) (by simp [Event.row])).int
  refine Aw_seq (Aw_region ?_)
  refine Al_p (Pu_boxN rfl rfl) ?_
  refine Al_p Pu_mvr ?_
  refine Al_nil (Aw_seq (Aw_seq ?_))
  refine Aw_draw 23 (by kernel_rfl) (by kernel_rfl) ?_
  refine Dr_p (Pu_field 2 rfl Tryz.underlying51 rfl rfl Tryz.sizeOf9 rfl) ?_
  refine Dr_p (Pu_load1 rfl Tryz.isAgg9 rfl rfl) ?_
  refine Dr_p (Pu_call (check_a e.key) rfl ⟨Sub.rfl, trivial⟩) ?_
  refine Dr_p (Pu_not rfl rfl) ?_
  refine Dr_p Pu_mvl ?_
  refine Dr_st (St_gd [] rfl rfl rfl rfl trivial (fun hg13 => Pu_field 5 rfl Tryz.underlying51 rfl rfl Tryz.sizeOf46 rfl)) rfl ?_
  refine Dr_st (St_gd [13] rfl rfl rfl rfl ⟨⟨_, rfl⟩, trivial⟩ (fun hg14 => Pu_load1 rfl Tryz.isAgg46 rfl rfl)) rfl ?_
  refine Dr_st (St_gd [14] rfl rfl rfl rfl ⟨⟨_, rfl⟩, trivial⟩ (fun hg15 => Pu_call (hrow_a e.seen) rfl ⟨Sub.rfl, trivial⟩)) rfl ?_
  refine Dr_st (St_gd [15] rfl rfl rfl rfl ⟨⟨_, rfl⟩, trivial⟩ (fun hg16 => Pu_not rfl rfl)) rfl ?_
  refine Dr_p (Pu_or rfl rfl rfl rfl) ?_
  refine Dr_p Pu_mvl ?_
  refine Dr_st (St_gd [] rfl rfl rfl rfl trivial (fun hg19 => Pu_field 5 rfl Tryz.underlying51 rfl rfl Tryz.sizeOf46 rfl)) rfl ?_
  refine Dr_st (St_gd [19] rfl rfl rfl rfl ⟨⟨_, rfl⟩, trivial⟩ (fun hg20 => Pu_load1 rfl Tryz.isAgg46 rfl rfl)) rfl ?_
  refine Dr_st (St_gd [] rfl rfl rfl rfl trivial (fun hg21 => by exact Pu_move (.inl rfl) (by conv => lhs; whnf))) rfl ?_
  refine Dr_st (St_gd [21] rfl rfl rfl rfl ⟨⟨_, rfl⟩, trivial⟩ (fun hg22 => Pu_nilb rfl rfl)) rfl ?_
  refine Dr_st (St_gd [22] rfl rfl rfl rfl ⟨⟨_, rfl⟩, trivial⟩ (fun hg23 => Pu_fieldb 1 rfl Tryz.underlying87 rfl rfl Tryz.sizeOf85 rfl)) rfl ?_
  refine Dr_st (St_gd [23] rfl rfl rfl rfl ⟨⟨_, rfl⟩, trivial⟩ (fun hg24 => Pu_loadb rfl Tryz.isAgg85 rfl rfl rfl)) rfl ?_
  refine Dr_st (St_gd [] rfl rfl rfl rfl trivial (fun hg25 => Pu_field 1 rfl Tryz.underlying51 rfl rfl Tryz.sizeOf3 rfl)) rfl ?_
  refine Dr_st (St_gd [25] rfl rfl rfl rfl ⟨⟨_, rfl⟩, trivial⟩ (fun hg26 => Pu_load1 rfl Tryz.isAgg3 rfl rfl)) rfl ?_
  refine Dr_st (St_gd [24, 26] rfl rfl rfl rfl ⟨⟨_, rfl⟩, ⟨_, rfl⟩, trivial⟩ (fun hg27 => by exact Pu_to (s' := .d (pastA ((B e.client).getD []))) (Pu_lookup (c := e.client) (z := pastA []) (int_key0 Tryz.underlying3) rfl Tryz.underlying85 Tryz.zeroValue46 (fun M w => .nil _ _ _) rfl rfl rfl (Only.v _) hcl) (by cases B e.client <;> rfl))) rfl ?_
  refine Dr_st (St_gd [20, 27] rfl rfl rfl rfl ⟨⟨_, rfl⟩, ⟨_, rfl⟩, trivial⟩ (fun hg28 => (by have hsr := (H.row_good (p := e.seen) (by revert hg28; cases H.rowB e.seen <;> simp)).srt; exact Pu_call (covers_a e.seen ((B e.client).getD []) hsr hes) rfl ⟨Sub.rfl, Sub.rfl, trivial⟩))) rfl ?_
  refine Dr_st (St_gd [28] rfl rfl rfl rfl ⟨⟨_, rfl⟩, trivial⟩ (fun hg29 => Pu_not rfl rfl)) rfl ?_
  refine Dr_p (Pu_or rfl rfl rfl rfl) ?_
  refine Dr_nil (Al_nil ?_)
  refine Aw_cond rfl (fun h30 => ?_) (fun h30 => ?_)
  · skip
    have hno : H.rightB W B e = false := by
      unfold H.rightB
      revert h30
      cases K.checkB e.key <;> cases H.rowB e.seen <;> cases D.coversB e.seen ((B e.client).getD []) <;> simp
    refine Aw_seq (Aw_region ?_)
    refine Al_p Pu_mvr ?_
    refine Al_nil ?_
    refine Aw_ret ?_
    exact ⟨_, _, [], rfl, Sub.bool hno.symm, ⟨rfl, rfl, rfl, trivial⟩, rfl⟩ -- ret 0
  · skip
    have hyes : K.checkB e.key = true ∧ H.rowB e.seen = true ∧ D.coversB e.seen ((B e.client).getD []) = true := by
      revert h30
      cases K.checkB e.key <;> cases H.rowB e.seen <;> cases D.coversB e.seen ((B e.client).getD []) <;> simp
    have hsr := (H.row_good hyes.2.1).srt
    have hR : H.rightB W B e = (if e.kind = 1 then V.stampB e.n e.s && decide (W (e.n, e.s) = none) && !(e.seen.any fun d => !D.lessB d.n d.s e.n e.s) else if e.kind = 2 then !D.lessB e.n e.s (D.get e.seen e.key).1 (D.get e.seen e.key).2 && ((e.n == 0 && e.s == 0) || (H.keysA (W (e.n, e.s))).any fun k => e.key.toList == k.toList) else false) := by
      unfold H.rightB
      rw [hyes.1, hyes.2.1, hyes.2.2]; simp
    refine Aw_skip (Aw_seq ?_)
    refine Aw_draw 7 (by kernel_rfl) (by kernel_rfl) ?_
    refine Dr_p Pu_mvl ?_
    refine Dr_p (Pu_nilb rfl rfl) ?_
    refine Dr_p (Pu_fieldb 0 rfl Tryz.underlying87 rfl rfl Tryz.sizeOf84 rfl) ?_
    refine Dr_p (Pu_loadb rfl Tryz.isAgg84 rfl rfl rfl) ?_
    refine Dr_p (Pu_field 3 rfl Tryz.underlying51 rfl rfl Tryz.sizeOf43 rfl) ?_
    refine Dr_p (Pu_loadN rfl Tryz.isAgg43 Tryz.sizeOf43 rfl (Nat.le_of_ble_eq_true rfl)) ?_
    refine Dr_p (Pu_to (s' := .d (.sl 1 ((H.keysA (W (e.n, e.s))).map fun k => [tv k]))) (Pu_lookup (c := ((e.n, e.s) : H.SK)) (z := .sl 1 []) H.sk_key rfl Tryz.underlying84 Tryz.zeroValue89 (fun M w => .nil _ _ _) rfl rfl rfl (Only.row [.int .i64 _, .int .i64 _]) ⟨hn, hs⟩) (by cases W (e.n, e.s) <;> rfl)) ?_
    refine Dr_nil ?_
    refine Al_p Pu_mvr ?_
    refine Al_nil (Aw_seq (Aw_seq (Aw_region ?_)))
    refine Al_p (Pu_loadN rfl Tryz.isAgg51 Tryz.sizeOf51 rfl (Nat.le_of_ble_eq_true rfl)) ?_
    refine Al_gcallE [] [] (hkind_e e) rfl rfl rfl (by decide) (by kernel_rfl) trivial (fun _ => rfl) rfl rfl ⟨Sub.rfl, trivial⟩ ?_
    rintro ⟨v, hv⟩ g39
    refine Al_nil (Aw_block (Aw_seq (Aw_region ?_)))
    refine Al_typeAssert3 rfl rfl rfl rfl rfl rfl rfl rfl rfl (by decide) (by decide) (by decide) (by decide) (by kernel_rfl) Tryz.underlying108 Tryz.zeroValue108 rfl hv.isIf ?_
    skip
    skip
    refine Al_nil ?_
    refine Aw_cond rfl (fun h41 => ?_) (fun h41 => ?_)
    · rw [hv.w] at h41
      rw [decide_eq_true_eq] at h41
      refine Aw_seq (Aw_region ?_)
      refine Al_p (Pu_makeFunc (caps := [_]) rfl ⟨Sub.rfl, trivial⟩) ?_
      refine Al_p Pu_mvr ?_
      refine Al_nil (Aw_seq (Aw_region ?_))
      refine Al_p (Pu_field 3 rfl Tryz.underlying51 rfl rfl Tryz.sizeOf43 rfl) ?_
      refine Al_p (Pu_loadN rfl Tryz.isAgg43 Tryz.sizeOf43 rfl (Nat.le_of_ble_eq_true rfl)) ?_
      refine Al_p (Pu_call (stcheck_a e.n e.s) rfl ⟨Sub.rfl, trivial⟩) ?_
      refine Al_p Pu_mvl ?_
      refine Al_st (St_gd [] rfl rfl rfl rfl trivial (fun hg48 => by exact Pu_move (.inl rfl) (by conv => lhs; whnf))) rfl (by decide) (by kernel_rfl) (by intro j b oj dj h1 h2 h3; cases h1; cases h2; cases h3; decide) ?_
      refine Al_st (St_gd [48] rfl rfl rfl rfl ⟨⟨_, rfl⟩, trivial⟩ (fun hg49 => by exact Pu_len rfl Tryz.underlying89 rfl (by first | exact List.length_map .. | exact rfl))) rfl (by decide) (by kernel_rfl) (by intro j b oj dj h1 h2 h3; cases h1; cases h2; cases h3; decide) ?_
      refine Al_st (St_gd [49] rfl rfl rfl rfl ⟨⟨_, rfl⟩, trivial⟩ (fun hg50 => Pu_cmp rfl rfl rfl rfl)) rfl (by decide) (by kernel_rfl) (by intro j b oj dj h1 h2 h3; cases h1; cases h2; cases h3; decide) ?_
      refine Al_p (Pu_and rfl rfl rfl rfl) ?_
      refine Al_p Pu_mvl ?_
      refine Al_st (St_gd [] rfl rfl rfl rfl trivial (fun hg53 => Pu_field 5 rfl Tryz.underlying51 rfl rfl Tryz.sizeOf46 rfl)) rfl (by decide) (by kernel_rfl) (by intro j b oj dj h1 h2 h3; cases h1; cases h2; cases h3; decide) ?_
      refine Al_st (St_gd [53] rfl rfl rfl rfl ⟨⟨_, rfl⟩, trivial⟩ (fun hg54 => Pu_load1 rfl Tryz.isAgg46 rfl rfl)) rfl (by decide) (by kernel_rfl) (by intro j b oj dj h1 h2 h3; cases h1; cases h2; cases h3; decide) ?_
      refine Al_st (St_gd [] rfl rfl rfl rfl trivial (fun hg55 => by exact Pu_move (.inl rfl) (by conv => lhs; whnf))) rfl (by decide) (by kernel_rfl) (by intro j b oj dj h1 h2 h3; cases h1; cases h2; cases h3; decide) ?_
      refine Al_st (St_gd [54, 55] rfl rfl rfl rfl ⟨⟨_, rfl⟩, ⟨_, rfl⟩, trivial⟩ (fun hg56 => Pu_call (containsD_a e.seen 67 [.fp e.row] (fun d => !D.lessB d.n d.s e.n e.s) (fun d => hright1_a e d)) rfl ⟨Sub.rfl, Sub.rfl, trivial⟩)) rfl (by decide) (by kernel_rfl) (by intro j b oj dj h1 h2 h3; cases h1; cases h2; cases h3; decide) ?_
      refine Al_st (St_gd [56] rfl rfl rfl rfl ⟨⟨_, rfl⟩, trivial⟩ (fun hg57 => Pu_not rfl rfl)) rfl (by decide) (by kernel_rfl) (by intro j b oj dj h1 h2 h3; cases h1; cases h2; cases h3; decide) ?_
      refine Al_p (Pu_and rfl rfl rfl rfl) ?_
      refine Al_p Pu_mvr ?_
      refine Al_nil ?_
      refine Aw_ret ?_
      exact ⟨_, _, [], rfl, Sub.bool (by rw [hR, if_pos h41, H.keys_len]), ⟨rfl, rfl, rfl, trivial⟩, rfl⟩ -- ret 1
    · rw [hv.w] at h41
      rw [decide_eq_false_iff_not] at h41
      refine Aw_seq (Aw_region ?_)
      refine Al_typeAssert3 rfl rfl rfl rfl rfl rfl rfl rfl rfl (by decide) (by decide) (by decide) (by decide) (by kernel_rfl) Tryz.underlying109 Tryz.zeroValue109 rfl hv.isIf ?_
      skip
      skip
      refine Al_nil ?_
      refine Aw_cond rfl (fun h60 => ?_) (fun h60 => ?_)
      · skip
        rw [hv.r, decide_eq_true_eq] at h60
        refine Aw_seq (Aw_region ?_)
        refine Al_p (Pu_build (aa := []) rfl Tryz.underlying43 Tryz.zeroValue43 (places43 Tryz.underlying43) (by kernel_rfl) trivial rfl) ?_
        refine Al_alloc rfl rfl rfl (by decide) Tryz.zeroValue43 rfl (by kernel_rfl) (fun g7 => ?_)
        refine Al_storeN rfl rfl rfl (by kernel_rfl) Tryz.isAgg43 Tryz.sizeOf43 rfl rfl rfl rfl (Nat.le_of_ble_eq_true rfl) ?_
        refine Al_nil (Aw_seq ?_)
        refine Aw_draw 21 (by kernel_rfl) (by kernel_rfl) ?_
        refine Dr_p (Pu_field 3 rfl Tryz.underlying51 rfl rfl Tryz.sizeOf43 rfl) ?_
        refine Dr_p (Pu_loadN rfl Tryz.isAgg43 Tryz.sizeOf43 rfl (Nat.le_of_ble_eq_true rfl)) ?_
        refine Dr_p (Pu_field 5 rfl Tryz.underlying51 rfl rfl Tryz.sizeOf46 rfl) ?_
        refine Dr_p (Pu_load1 rfl Tryz.isAgg46 rfl rfl) ?_
        refine Dr_p (Pu_field 2 rfl Tryz.underlying51 rfl rfl Tryz.sizeOf9 rfl) ?_
        refine Dr_p (Pu_load1 rfl Tryz.isAgg9 rfl rfl) ?_
        refine Dr_p (Pu_call (pget_a e.seen e.key hsr hes) rfl ⟨Sub.rfl, Sub.rfl, trivial⟩) ?_
        refine Dr_p (Pu_call (less_a _ _ _ _) rfl ⟨Sub.rfl, Sub.rfl, trivial⟩) ?_
        refine Dr_p (Pu_not rfl rfl) ?_
        refine Dr_p Pu_mvl ?_
        refine Dr_st (St_gd [] rfl rfl rfl rfl trivial (fun hg73 => Pu_field 3 rfl Tryz.underlying51 rfl rfl Tryz.sizeOf43 rfl)) rfl ?_
        refine Dr_st (St_gd [73] rfl rfl rfl rfl ⟨⟨_, rfl⟩, trivial⟩ (fun hg74 => Pu_loadN rfl Tryz.isAgg43 Tryz.sizeOf43 rfl (Nat.le_of_ble_eq_true rfl))) rfl ?_
        refine Dr_st (St_gd [] rfl rfl rfl rfl trivial (fun hg75 => Pu_loadbN (r := [_, _]) rfl Tryz.isAgg43 Tryz.sizeOf43 rfl rfl rfl rfl)) rfl ?_
        refine Dr_st (St_gd [74, 75] rfl rfl rfl rfl ⟨⟨_, rfl⟩, ⟨_, rfl⟩, trivial⟩ (fun hg76 => Pu_eqrow [.int .i64 _, .int .i64 _] [.int .i64 _, .int .i64 _] (fun w => eqv43 _ _ _ _ _ _ w) rfl rfl rfl)) rfl ?_
        refine Dr_st (St_gd [76] rfl rfl rfl rfl ⟨⟨_, rfl⟩, trivial⟩ (fun hg77 => by exact Pu_move (.inl rfl) (by conv => lhs; whnf))) rfl ?_
        refine Dr_st (St_gd2 [] rfl rfl rfl rfl trivial (fun hp78 hg78 => by exact Pu_move (.inl rfl) (by conv => lhs; whnf))) rfl ?_
        refine Dr_st (St_gd2 [] rfl rfl rfl rfl trivial (fun hp79 hg79 => Pu_field 2 rfl Tryz.underlying51 rfl rfl Tryz.sizeOf9 rfl)) rfl ?_
        refine Dr_st (St_gd2 [79] rfl rfl rfl rfl ⟨⟨_, rfl⟩, trivial⟩ (fun hp80 hg80 => Pu_load1 rfl Tryz.isAgg9 rfl rfl)) rfl ?_
        refine Dr_st (St_gd2 [78, 80] rfl rfl rfl rfl ⟨⟨_, rfl⟩, ⟨_, rfl⟩, trivial⟩ (fun hp81 hg81 => Pu_call (containss_a (H.keysA (W (e.n, e.s))) e.key) rfl ⟨Sub.rfl, Sub.rfl, trivial⟩)) rfl ?_
        refine Dr_st (St_gd [77] rfl rfl rfl rfl ⟨⟨_, rfl⟩, trivial⟩ (fun hg82 => Pu_orG rfl rfl rfl (fun h => ⟨hg82, h⟩) rfl)) rfl ?_
        refine Dr_p (Pu_and rfl rfl rfl rfl) ?_
        refine Dr_nil ?_
        refine Al_p Pu_mvr ?_
        refine Al_nil ?_
        refine Aw_ret ?_
        exact ⟨_, _, [], rfl, Sub.bool (by rw [hR, if_neg h41, if_pos h60]), ⟨rfl, rfl, rfl, trivial⟩, rfl⟩ -- ret 2
      · skip
        rw [hv.r, decide_eq_false_iff_not] at h60
        refine Aw_skip (Aw_seq (Aw_region ?_))
        refine Al_p Pu_mvr ?_
        refine Al_nil ?_
        refine Aw_ret ?_
        exact ⟨_, _, [], rfl, Sub.bool (by rw [hR, if_neg h41, if_neg h60]), ⟨rfl, rfl, rfl, trivial⟩, rfl⟩ -- ret 3
namespace H
def wr (l : List Event) (c : SK) : Option ByteArray := (l.find? fun e => decide (e.kind = 1) && decide ((e.n, e.s) = c)).map (·.key)
def lb (l : List Event) (k : Nat) (c : Int) : Option (List Dep) := (G.last l k c).map fun i => G.behindN l i
def rightAt (l : List Event) (k : Nat) : Bool := rightB (wr (l.take k)) (lb l k) (l.getD k default)
def checkL (l : List Event) : Int := match (List.range l.length).find? (fun k => !rightAt l k) with
  | some k => (k : Int)
  | none => -1
theorem wr_snoc (l : List Event) {k : Nat} (hk : k < l.length) (c : SK) : wr (l.take (k + 1)) c = (wr (l.take k) c).or (if (l.getD k default).kind = 1 ∧ ((l.getD k default).n, (l.getD k default).s) = c then some (l.getD k default).key else none) := by
  have hg : l.getD k default = l[k] := by simp [hk]
  rw [hg]
  unfold wr
  rw [List.take_succ_eq_append_getElem hk, List.find?_append]
  cases h : List.find? (fun e => decide (e.kind = 1) && decide ((e.n, e.s) = c)) (l.take k) with
  | some e => rfl
  | none =>
    simp only [Option.none_or, List.find?_cons, List.find?_nil, Option.map_none]
    by_cases h1 : l[k].kind = 1 ∧ (l[k].n, l[k].s) = c
    · rw [if_pos h1, h1.1, h1.2]; simp
    · rw [if_neg h1]
      have : (decide (l[k].kind = 1) && decide ((l[k].n, l[k].s) = c)) = false := by
        rw [Bool.and_eq_false_iff, decide_eq_false_iff_not, decide_eq_false_iff_not]
        by_cases h2 : l[k].kind = 1
        · exact .inr fun h3 => h1 ⟨h2, h3⟩
        · exact .inl h2
      rw [this]; rfl
theorem wr_write (l : List Event) {k : Nat} (hk : k < l.length) (hw : (l.getD k default).kind = 1) (hn : wr (l.take k) ((l.getD k default).n, (l.getD k default).s) = none) : (fun c => if c = ((l.getD k default).n, (l.getD k default).s) then some (l.getD k default).key else wr (l.take k) c) = wr (l.take (k + 1)) := by
  funext c
  rw [wr_snoc l hk]
  by_cases h : c = ((l.getD k default).n, (l.getD k default).s)
  · subst h; rw [if_pos rfl, hn, if_pos ⟨hw, rfl⟩]; rfl
  · rw [if_neg h, if_neg (fun h1 => h h1.2.symm), Option.or_none]
theorem wr_skip (l : List Event) {k : Nat} (hk : k < l.length) (hw : ¬ (l.getD k default).kind = 1) : wr (l.take k) = wr (l.take (k + 1)) := by
  funext c
  rw [wr_snoc l hk, if_neg (fun h1 => hw h1.1), Option.or_none]
theorem lb_succ (l : List Event) {k : Nat} (hk : k < l.length) : (fun c => if c = (l.getD k default).client then some (G.behindN l k) else lb l k c) = lb l (k + 1) := by
  have hg : l.getD k default = l[k] := by simp [hk]
  rw [hg]
  funext c
  unfold lb
  rw [G.last_succ l hk]
  by_cases h : c = l[k].client
  · rw [if_pos h, if_pos h.symm]; rfl
  · rw [if_neg h, if_neg (Ne.symm h)]
theorem right_new {W : SK → Option ByteArray} {B : Int → Option (List Dep)} {e : Event} (h : rightB W B e = true) (hk : e.kind = 1) : W (e.n, e.s) = none := by
  unfold rightB at h
  rw [if_pos hk] at h
  simp only [Bool.and_eq_true, decide_eq_true_eq] at h
  exact h.2.1.2
theorem check_at {l : List Event} {k : Nat} (h : ∀ i, i < k → rightAt l i = true) (hk : k < l.length) (hn : rightAt l k = false) : checkL l = k := by
  have : (List.range l.length).find? (fun k => !rightAt l k) = some k := by
    rw [List.find?_eq_some_iff_getElem]
    refine ⟨by rw [hn]; rfl, k, by simpa using hk, by simp, fun j hj => ?_⟩
    rw [List.getElem_range, h j hj]; rfl
  unfold checkL
  rw [this]
theorem check_no {l : List Event} (h : ∀ i, i < l.length → rightAt l i = true) : checkL l = -1 := by
  have : (List.range l.length).find? (fun k => !rightAt l k) = none := by
    rw [List.find?_eq_none]
    intro i hi
    rw [h i (List.mem_range.1 hi)]; simp
  unfold checkL
  rw [this]
end H
set_option maxHeartbeats 4000000 in
theorem hcheck_a (l : List Event) (hs : ∀ e ∈ l, e.seen.length ≤ 900) (hln : l.length ≤ 1000000) : ACall Tryz.prog 26 [.sl 6 (l.map Event.row)] (iv (H.checkL l)) := by
  refine ACall_enterG (fun _ _ => by kernel_rfl) Tryz.func26 rfl Tryz.ntmps26 (Reads.r1 Tryz.results26) (Nat.le_of_ble_eq_true rfl) (fun hok M0 w0 hnl => ?_)
  have hlen := (hok _ (List.mem_cons_self ..)).len
  rw [List.length_map] at hlen
  have hrows := (hok _ (List.mem_cons_self ..)).rows
  refine Aw_seq (Aw_region ?_)
  refine Al_p Pu_mvr ?_
  refine Al_nil (Aw_scope (Aw_seq (Aw_region ?_)))
  refine Al_makeMap H.skv H.skok H.encK rfl rfl rfl (by decide) (fun b7 g7 => ?_)
  refine Al_makeMap (Value.int .i64) (fun a => -9223372036854775808 ≤ a ∧ a ≤ 9223372036854775807) H.encP rfl rfl rfl (by decide) (fun b8 g8 => ?_)
  refine Al_p (Pu_buildAg (aa := [(0, _), (1, _)]) rfl Tryz.underlying87 Tryz.zeroValue87 (places87 Tryz.underlying87) (by kernel_rfl) ⟨rfl, rfl, rfl, rfl, trivial⟩ rfl) ?_
  refine Al_boxAg rfl rfl rfl (by decide) (by kernel_rfl) rfl (fun g10 => ?_)
  refine Al_p Pu_mvr ?_
  refine Al_nil (Aw_seq (Aw_region ?_))
  refine Al_p Pu_mvr ?_
  refine Al_nil (Aw_seq (Aw_label ?_))
  -- join 0: live [4], turned [4]
  refine Aw_seq (Aw_seq (Aw_region ?_))
  refine Al_p Pu_mvl ?_
  refine Al_p (Pu_len rfl Tryz.underlying30 rfl (by first | exact List.length_map .. | exact rfl)) ?_
  refine Al_p Pu_mvl ?_
  refine Al_nil (Aw_block ?_)
  refine Aw_loopk (ι := Nat × Nat) [0, 3, 11, 12] [10] (fun (k, n1) => [(13, .d (iv k)), (4, .d (iv (-1)))]) (fun (k, n1) => [(7, g7, .op (mapO H.skv H.skok H.encK b7 n1 (H.wr (l.take k)))), (8, g8, .op (mapO (Value.int .i64) (fun a => -9223372036854775808 ≤ a ∧ a ≤ 9223372036854775807) H.encP b8 k (H.lb l k)))]) (fun (k, n1) => k ≤ l.length ∧ n1 ≤ k ∧ ∀ i, i < k → H.rightAt l i = true) (fun (k, n1) => l.length - k) ((0, 0)) (⟨Nat.zero_le _, ⟨Nat.le_refl _, fun i hi => by omega⟩⟩) ⟨Sub.rfl, Sub.rfl, trivial⟩ ⟨rfl, mapeq rfl (funext fun c => rfl), trivial⟩ ?_
  rintro ⟨k, n1⟩ ⟨hk0, ⟨hn1, hall⟩⟩
  refine Aw_seq (Aw_region ?_)
  refine Al_p (Pu_cmp rfl rfl rfl rfl) ?_
  refine Al_nil (Aw_seq ?_)
  refine Aw_cond rfl (fun h14 => ?_) (fun h14 => ?_)
  · (try simp only [decide_eq_true_eq, decide_eq_false_iff_not, Bool.and_eq_true, Bool.or_eq_true, Bool.and_eq_false_iff, Bool.or_eq_false_iff, Bool.not_eq_true', Bool.not_eq_false', beq_iff_eq, Bool.not_eq_eq_eq_not, Bool.not_true, Bool.not_false, List.length_map, Bool.and_true, Bool.and_false, Bool.false_and, Bool.true_and, Bool.or_false, Bool.false_or] at h14)
    have hk : k < l.length := by omega
    have hgk : l.getD k default = l[k] := by simp [hk]
    have hsl : (l.getD k default).seen.length ≤ 900 := by rw [hgk]; exact hs _ (List.getElem_mem hk)
    have hrk := hrows (l.getD k default).row (by rw [hgk]; exact List.mem_map.2 ⟨_, List.getElem_mem hk, rfl⟩)
    have hkn : A.inI (l.getD k default).n := (hrk (iv (l.getD k default).n) (by simp [Event.row])).int
    have hks : A.inI (l.getD k default).s := (hrk (iv (l.getD k default).s) (by simp [Event.row])).int
    have hkc : A.inI (l.getD k default).client := (hrk (iv (l.getD k default).client) (by simp [Event.row])).int
    refine Aw_skip ?_
    -- join 1: live [0, 3, 4, 11, 12, 13], turned [4]
    refine Aw_seq (Aw_block (Aw_seq (Aw_region ?_)))
    refine Al_p Pu_mvl ?_
    refine Al_p (Pu_index rfl Tryz.underlying30 Tryz.sizeOf51 rfl rfl (rfl) (mapgetD (d := default) hk)) ?_
    refine Al_p (Pu_loadN rfl Tryz.isAgg51 Tryz.sizeOf51 rfl (Nat.le_of_ble_eq_true rfl)) ?_
    refine Al_alloc rfl rfl rfl (by decide) Tryz.zeroValue51 rfl (by kernel_rfl) (fun g6 => ?_)
    refine Al_p Pu_mvr ?_
    refine Al_storeN rfl rfl rfl (by kernel_rfl) Tryz.isAgg51 Tryz.sizeOf51 rfl rfl rfl rfl (Nat.le_of_ble_eq_true rfl) ?_
    refine Al_nil (Aw_seq (Aw_seq (Aw_region ?_)))
    refine Al_p Pu_mvl ?_
    refine Al_p (Pu_loadbN (r := [_, _, _, _, _, _]) rfl Tryz.isAgg51 Tryz.sizeOf51 rfl rfl rfl rfl) ?_
    refine Al_gcall [(1001, 10, g10), (1002, 7, g7), (1003, 8, g8)] [] (hright_g b7 n1 b8 k (H.wr (l.take k)) (H.lb l k) (l.getD k default) (by omega)) rfl rfl rfl (by decide) (by kernel_rfl) ⟨rfl, rfl, rfl, trivial⟩ rfl ⟨Sub.rfl, Sub.rfl, trivial⟩ (fun g20 => ?_)
    refine Al_p (Pu_not rfl rfl) ?_
    refine Al_nil ?_
    refine Aw_cond rfl (fun h21 => ?_) (fun h21 => ?_)
    · skip
      have hno : H.rightAt l k = false := by
        unfold H.rightAt; revert h21; cases H.rightB (H.wr (l.take k)) (H.lb l k) (l.getD k default) <;> simp
      refine Aw_seq (Aw_region ?_)
      refine Al_p Pu_mvl ?_
      refine Al_p Pu_mvr ?_
      refine Al_nil (Aw_exit (Aw_seq (Aw_region ?_)))
      refine Al_p Pu_mvl ?_
      refine Al_p Pu_mvr ?_
      refine Al_nil ?_
      refine Aw_ret ?_
      exact Sub.num (H.check_at hall hk hno).symm -- ret 0
    · skip
      have hyes : H.rightB (H.wr (l.take k)) (H.lb l k) (l.getD k default) = true := by
        revert h21; cases H.rightB (H.wr (l.take k)) (H.lb l k) (l.getD k default) <;> simp
      have hall' : ∀ i, i < k + 1 → H.rightAt l i = true := fun i hi => by
        rcases Nat.lt_or_ge i k with h | h
        · exact hall i h
        · rw [show i = k from by omega]; exact hyes
      have hbe := hbehind_a l hs (k : Int)
      rw [G.behind_at l hk] at hbe
      refine Aw_skip ?_
      refine Aw_join (ι := Nat) [0, 3, 4, 5, 6, 11, 12, 13] [6, 8, 10] (fun n2 => []) (fun n2 => [(7, g7, .op (mapO H.skv H.skok H.encK b7 n2 (H.wr (l.take (k + 1)))))]) (fun n2 => n2 ≤ k + 1) ?_ ?_ -- join 2
      · refine Aw_seq (Aw_region ?_)
        refine Al_p (Pu_fieldb 0 rfl Tryz.underlying51 rfl rfl Tryz.sizeOf3 rfl) ?_
        refine Al_p (Pu_loadb rfl Tryz.isAgg3 rfl rfl rfl) ?_
        refine Al_p (Pu_cmp rfl rfl rfl rfl) ?_
        refine Al_nil ?_
        refine Aw_cond rfl (fun h25 => ?_) (fun h25 => ?_)
        · (try simp only [decide_eq_true_eq, decide_eq_false_iff_not, Bool.and_eq_true, Bool.or_eq_true, Bool.and_eq_false_iff, Bool.or_eq_false_iff, Bool.not_eq_true', Bool.not_eq_false', beq_iff_eq, Bool.not_eq_eq_eq_not, Bool.not_true, Bool.not_false, List.length_map, Bool.and_true, Bool.and_false, Bool.false_and, Bool.true_and, Bool.or_false, Bool.false_or] at h25)
          refine Aw_drawP 9 5 (by kernel_rfl) (by kernel_rfl) rfl ?_
          refine Dr_p Pu_mvl ?_
          refine Dr_p (Pu_nilb rfl rfl) ?_
          refine Dr_p (Pu_fieldb 0 rfl Tryz.underlying87 rfl rfl Tryz.sizeOf84 rfl) ?_
          refine Dr_p (Pu_loadb rfl Tryz.isAgg84 rfl rfl rfl) ?_
          refine Dr_p (Pu_fieldb 3 rfl Tryz.underlying51 rfl rfl Tryz.sizeOf43 rfl) ?_
          refine Dr_p (Pu_loadbN (r := [_, _]) rfl Tryz.isAgg43 Tryz.sizeOf43 rfl rfl rfl rfl) ?_
          refine Dr_p (Pu_fieldb 2 rfl Tryz.underlying51 rfl rfl Tryz.sizeOf9 rfl) ?_
          refine Dr_p (Pu_loadb rfl Tryz.isAgg9 rfl rfl rfl) ?_
          refine Dr_p (Pu_slice1 rfl Tryz.underlying89 Tryz.sizeOf9 Tryz.zeroValue9 rfl (by decide) (by decide) (by kernel_rfl) rfl rfl rfl) ?_
          refine Dr_nil ?_
          refine Ad_one 9 rfl (by kernel_rfl) ?_
          refine Al_mapEntry0 (c := (((l.getD k default).n, (l.getD k default).s) : H.SK)) H.sk_key rfl rfl rfl (by decide) (by kernel_rfl) Tryz.underlying84 Tryz.zeroValue89 (by decide) rfl rfl rfl (Only.row [.int .i64 _, .int .i64 _]) ⟨hkn, hks⟩ (H.right_new hyes h25) (fun s36 => ?_)
          refine Al_nil ?_
          refine Ad_two 10 12 rfl rfl (by kernel_rfl) ?_ ?_
          · refine Al_p (Pu_extractS rfl rfl rfl) ?_
            refine Al_nil ?_
            refine Ad_two 11 12 rfl rfl (by kernel_rfl) ?_ ?_
            · refine Al_own (j := 32) (k := 320) (T := 9) (n := 1) rfl (fun g320 => ?_)
              refine Al_append rfl rfl rfl (by decide) (by kernel_rfl) elem89 (by decide) Tryz.sizeOf9 rfl rfl rfl (by simp) (by decide) (fun g37 => ?_)
              refine Al_nil ?_
              refine Ad_one 12 rfl (by kernel_rfl) ?_
              refine Al_p (Pu_extractS rfl rfl rfl) ?_
              refine Al_nil ?_
              refine Ad_one 13 rfl (by kernel_rfl) ?_
              refine Al_frz hnl (k := 320) [37] rfl ⟨rfl, trivial⟩ ?_
              refine Al_entryStore0 (v := (l.getD k default).key) ⟨hkn, hks⟩ H.skv_inj (by simp only [maxLen]; omega) rfl rfl rfl (by kernel_rfl) rfl rfl rfl Sub.rfl ?_
              refine Al_nil ?_
              refine Ad_done (by kernel_rfl) ?_
              first
                | exact ⟨n1 + 1, by omega, Le.ov trivial ⟨Sub.rfl, Sub.rfl, Sub.rfl, Sub.rfl, Sub.rfl, Sub.rfl, Sub.rfl, Sub.rfl, trivial⟩ ⟨mapeq rfl (H.wr_write l hk h25 (H.right_new hyes h25)), trivial⟩ ⟨rfl, rfl, rfl, trivial⟩⟩
                | exact ⟨n1, by omega, Le.ov trivial ⟨Sub.rfl, Sub.rfl, Sub.rfl, Sub.rfl, Sub.rfl, Sub.rfl, Sub.rfl, Sub.rfl, trivial⟩ ⟨mapeq rfl (H.wr_skip l hk h25), trivial⟩ ⟨rfl, rfl, rfl, trivial⟩⟩ -- join 2 next.0
            · refine Al_p (Pu_extractS rfl rfl rfl) ?_
              refine Al_nil ?_
              refine Ad_one 11 rfl (by kernel_rfl) ?_
              refine Al_own (j := 32) (k := 320) (T := 9) (n := 1) rfl (fun g320 => ?_)
              refine Al_append rfl rfl rfl (by decide) (by kernel_rfl) elem89 (by decide) Tryz.sizeOf9 rfl rfl rfl (by simp) (by decide) (fun g37 => ?_)
              refine Al_nil ?_
              refine Ad_one 13 rfl (by kernel_rfl) ?_
              refine Al_frz hnl (k := 320) [37] rfl ⟨rfl, trivial⟩ ?_
              refine Al_entryStore0 (v := (l.getD k default).key) ⟨hkn, hks⟩ H.skv_inj (by simp only [maxLen]; omega) rfl rfl rfl (by kernel_rfl) rfl rfl rfl Sub.rfl ?_
              refine Al_nil ?_
              refine Ad_done (by kernel_rfl) ?_
              first
                | exact ⟨n1 + 1, by omega, Le.ov trivial ⟨Sub.rfl, Sub.rfl, Sub.rfl, Sub.rfl, Sub.rfl, Sub.rfl, Sub.rfl, Sub.rfl, trivial⟩ ⟨mapeq rfl (H.wr_write l hk h25 (H.right_new hyes h25)), trivial⟩ ⟨rfl, rfl, rfl, trivial⟩⟩
                | exact ⟨n1, by omega, Le.ov trivial ⟨Sub.rfl, Sub.rfl, Sub.rfl, Sub.rfl, Sub.rfl, Sub.rfl, Sub.rfl, Sub.rfl, trivial⟩ ⟨mapeq rfl (H.wr_skip l hk h25), trivial⟩ ⟨rfl, rfl, rfl, trivial⟩⟩ -- join 2 next.1
          · refine Al_p (Pu_extractS rfl rfl rfl) ?_
            refine Al_nil ?_
            refine Ad_one 10 rfl (by kernel_rfl) ?_
            refine Al_p (Pu_extractS rfl rfl rfl) ?_
            refine Al_nil ?_
            refine Ad_one 11 rfl (by kernel_rfl) ?_
            refine Al_own (j := 32) (k := 320) (T := 9) (n := 1) rfl (fun g320 => ?_)
            refine Al_append rfl rfl rfl (by decide) (by kernel_rfl) elem89 (by decide) Tryz.sizeOf9 rfl rfl rfl (by simp) (by decide) (fun g37 => ?_)
            refine Al_nil ?_
            refine Ad_one 13 rfl (by kernel_rfl) ?_
            refine Al_frz hnl (k := 320) [37] rfl ⟨rfl, trivial⟩ ?_
            refine Al_entryStore0 (v := (l.getD k default).key) ⟨hkn, hks⟩ H.skv_inj (by simp only [maxLen]; omega) rfl rfl rfl (by kernel_rfl) rfl rfl rfl Sub.rfl ?_
            refine Al_nil ?_
            refine Ad_done (by kernel_rfl) ?_
            first
              | exact ⟨n1 + 1, by omega, Le.ov trivial ⟨Sub.rfl, Sub.rfl, Sub.rfl, Sub.rfl, Sub.rfl, Sub.rfl, Sub.rfl, Sub.rfl, trivial⟩ ⟨mapeq rfl (H.wr_write l hk h25 (H.right_new hyes h25)), trivial⟩ ⟨rfl, rfl, rfl, trivial⟩⟩
              | exact ⟨n1, by omega, Le.ov trivial ⟨Sub.rfl, Sub.rfl, Sub.rfl, Sub.rfl, Sub.rfl, Sub.rfl, Sub.rfl, Sub.rfl, trivial⟩ ⟨mapeq rfl (H.wr_skip l hk h25), trivial⟩ ⟨rfl, rfl, rfl, trivial⟩⟩ -- join 2 next.2
        · (try simp only [decide_eq_true_eq, decide_eq_false_iff_not, Bool.and_eq_true, Bool.or_eq_true, Bool.and_eq_false_iff, Bool.or_eq_false_iff, Bool.not_eq_true', Bool.not_eq_false', beq_iff_eq, Bool.not_eq_eq_eq_not, Bool.not_true, Bool.not_false, List.length_map, Bool.and_true, Bool.and_false, Bool.false_and, Bool.true_and, Bool.or_false, Bool.false_or] at h25)
          refine Aw_skip ?_
          first
            | exact ⟨n1 + 1, by omega, Le.ov trivial ⟨Sub.rfl, Sub.rfl, Sub.rfl, Sub.rfl, Sub.rfl, Sub.rfl, Sub.rfl, Sub.rfl, trivial⟩ ⟨mapeq rfl (H.wr_write l hk h25 (H.right_new hyes h25)), trivial⟩ ⟨rfl, rfl, rfl, trivial⟩⟩
            | exact ⟨n1, by omega, Le.ov trivial ⟨Sub.rfl, Sub.rfl, Sub.rfl, Sub.rfl, Sub.rfl, Sub.rfl, Sub.rfl, Sub.rfl, trivial⟩ ⟨mapeq rfl (H.wr_skip l hk h25), trivial⟩ ⟨rfl, rfl, rfl, trivial⟩⟩ -- join 2 next.3
      · rintro n2 hn2
        refine Aw_draw 9 (by kernel_rfl) (by kernel_rfl) ?_
        refine Dr_p Pu_mvl ?_
        refine Dr_p (Pu_nilb rfl rfl) ?_
        refine Dr_p (Pu_fieldb 1 rfl Tryz.underlying87 rfl rfl Tryz.sizeOf85 rfl) ?_
        refine Dr_p (Pu_loadb rfl Tryz.isAgg85 rfl rfl rfl) ?_
        refine Dr_p (Pu_fieldb 1 rfl Tryz.underlying51 rfl rfl Tryz.sizeOf3 rfl) ?_
        refine Dr_p (Pu_loadb rfl Tryz.isAgg3 rfl rfl rfl) ?_
        refine Dr_p Pu_mvl ?_
        refine Dr_p Pu_mvl ?_
        refine Dr_p (Pu_call (hbe) rfl ⟨Sub.rfl, Sub.rfl, trivial⟩) ?_
        refine Dr_nil ?_
        refine Al_mapUpdate (c := (l.getD k default).client) (v := G.behindN l k) (int_key0 Tryz.underlying3) rfl rfl rfl (by kernel_rfl) Tryz.underlying85 (by simp only [maxLen]; omega) rfl rfl rfl (Only.v _) hkc Sub.rfl ?_
        refine Al_nil (Aw_region ?_)
        refine Al_p (Pu_add rfl rfl rfl (fun h1 h2 => by simp only [A.inI, A.maxI] at *; omega)) ?_
        refine Al_p Pu_mvl ?_
        refine Al_nil ?_
        exact ⟨(k + 1, n2), ⟨by omega, ⟨hn2, hall'⟩⟩, by simp only []; omega, Le.ov ⟨Sub.num (by omega), Sub.rfl, trivial⟩ ⟨Sub.rfl, Sub.rfl, Sub.rfl, Sub.rfl, trivial⟩ ⟨rfl, mapeq rfl (H.lb_succ l hk), trivial⟩ ⟨rfl, trivial⟩⟩ -- loop 0 next.0
  · (try simp only [decide_eq_true_eq, decide_eq_false_iff_not, Bool.and_eq_true, Bool.or_eq_true, Bool.and_eq_false_iff, Bool.or_eq_false_iff, Bool.not_eq_true', Bool.not_eq_false', beq_iff_eq, Bool.not_eq_eq_eq_not, Bool.not_true, Bool.not_false, List.length_map, Bool.and_true, Bool.and_false, Bool.false_and, Bool.true_and, Bool.or_false, Bool.false_or] at h14)
    obtain rfl : k = l.length := by omega
    refine Aw_exit (Aw_seq (Aw_region ?_))
    refine Al_p Pu_mvl ?_
    refine Al_p Pu_mvr ?_
    refine Al_nil ?_
    refine Aw_ret ?_
    exact Sub.num (H.check_no hall).symm -- ret 1
end Go.Proofs.YtojehmkkbdedaaaGreat
end

section
set_option maxRecDepth 100000
namespace Go.Proofs.YtojehmkkbdedaaaGreat
open Go Go.RowKit A R
open A.RowT
namespace T
/-- A site's ranges. -/
def pickR (s : Int) (l : List (Rng × Int)) : List Rng := (l.filter fun p => bit p.2.toNat s).map (·.1)
def rangesOf (c : SRow) (s : Int) : List Rng := if ok c then pickR s (c.ranges.zip c.owners) else []
theorem pickR_snoc (s : Int) (l : List (Rng × Int)) {k : Nat} (hk : k < l.length) : pickR s (l.take (k + 1)) = pickR s (l.take k) ++ (if bit l[k].2.toNat s then [l[k].1] else []) := by
  unfold pickR
  rw [List.take_succ_eq_append_getElem hk, List.filter_append, List.map_append]
  cases h : bit l[k].2.toNat s <;> simp [List.filter_cons, h]
theorem pickR_len (s : Int) (l : List (Rng × Int)) : (pickR s l).length ≤ l.length := by unfold pickR; rw [List.length_map]; exact List.length_filter_le _ _
theorem rangesOf_len (c : SRow) (s : Int) : (rangesOf c s).length ≤ 8 := by
  unfold rangesOf
  split
  · rename_i h
    have h1 := (S.shape_facts (ok_facts h).1).2.2.1
    have h2 := pickR_len s (c.ranges.zip c.owners)
    rw [List.length_zip] at h2
    omega
  · simp
end T
set_option maxHeartbeats 1000000 in
theorem tranges_a (c : SRow) (s : Int) : ACall Tryz.prog 22 [.row c.row, iv s] (.sl 2 ((T.rangesOf c s).map Rng.row)) := by
  refine ACall_enterG (fun _ _ => by kernel_rfl) Tryz.func22 rfl Tryz.ntmps22 (Reads.r1 Tryz.results22) (Nat.le_of_ble_eq_true rfl) (fun hok M0 w0 hnl => ?_)
  refine Aw_seq (Aw_region ?_)
  refine Al_p (Pu_boxN rfl rfl) ?_
  refine Al_p Pu_mvr ?_
  refine Al_nil (Aw_scope (Aw_seq (Aw_seq (Aw_region ?_))))
  refine Al_p (Pu_loadN rfl Tryz.isAgg27 Tryz.sizeOf27 rfl (Nat.le_of_ble_eq_true rfl)) ?_
  refine Al_p (Pu_call (tcheck_a c) rfl ⟨Sub.rfl, trivial⟩) ?_
  refine Al_p (Pu_not rfl rfl) ?_
  refine Al_nil ?_
  refine Aw_cond rfl (fun h10 => ?_) (fun h10 => ?_)
  · skip
    have hno : T.rangesOf c s = [] := by
      unfold T.rangesOf; rw [if_neg]; simpa using h10
    refine Aw_seq (Aw_region ?_)
    refine Al_p Pu_mvr ?_
    refine Al_nil ?_
    refine Aw_ret ?_
    rw [hno]; exact Sub.nil -- ret 0
  · skip
    have hok2 : T.ok c = true := by simpa using h10
    have hR : T.rangesOf c s = T.pickR s (c.ranges.zip c.owners) := by unfold T.rangesOf; rw [if_pos hok2]
    obtain ⟨hsh, hown⟩ := T.ok_facts hok2
    obtain ⟨n1, n6, n8, no, _⟩ := S.shape_facts hsh
    have hz : (c.ranges.zip c.owners).length = c.ranges.length := by rw [List.length_zip]; omega
    refine Aw_skip (Aw_seq (Aw_region ?_))
    refine Al_p Pu_mvr ?_
    refine Al_nil (Aw_seq (Aw_label (Aw_seq (Aw_seq (Aw_region ?_)))))
    refine Al_p (Pu_field 0 rfl Tryz.underlying27 rfl rfl Tryz.sizeOf25 rfl) ?_
    refine Al_p (Pu_load1 rfl Tryz.isAgg25 rfl rfl) ?_
    refine Al_p (Pu_len rfl Tryz.underlying25 rfl (by first | exact List.length_map .. | exact rfl)) ?_
    refine Al_p Pu_mvl ?_
    refine Al_nil (Aw_block ?_)
    refine Aw_own (j := 5) (k := 5) (T := 41) (n := 2) rfl (fun g0 => ?_)
    refine Aw_loopk (ι := Nat × Nat) [1, 2, 12, 13] [] (fun (k, g) => [(14, .d (iv k)), (5, .ow 5 g)]) (fun (k, g) => [(5, g, .arr 41 2 ((T.pickR s ((c.ranges.zip c.owners).take k)).map Rng.row))]) (fun (k, g) => k ≤ c.ranges.length) (fun (k, g) => c.ranges.length - k) ((0, g0)) (Nat.zero_le _) ⟨Sub.rfl, Sub.rfl, trivial⟩ ⟨rfl, trivial⟩ ?_
    rintro ⟨k, g⟩ hk0
    refine Aw_seq (Aw_region ?_)
    refine Al_p (Pu_cmp rfl rfl rfl rfl) ?_
    refine Al_nil (Aw_seq ?_)
    refine Aw_cond rfl (fun h15 => ?_) (fun h15 => ?_)
    · (try simp only [decide_eq_true_eq, decide_eq_false_iff_not, Bool.and_eq_true, Bool.or_eq_true, Bool.and_eq_false_iff, Bool.or_eq_false_iff, Bool.not_eq_true', Bool.not_eq_false', beq_iff_eq, Bool.not_eq_eq_eq_not, Bool.not_true, Bool.not_false, List.length_map, Bool.and_true, Bool.and_false, Bool.false_and, Bool.true_and, Bool.or_false, Bool.false_or] at h15)
      have hk : k < c.ranges.length := by omega
      have hko : k < c.owners.length := by omega
      have hkz : k < (c.ranges.zip c.owners).length := by omega
      have hsn := T.pickR_snoc s (c.ranges.zip c.owners) hkz
      have hpz : (c.ranges.zip c.owners)[k] = (c.ranges[k], c.owners[k]) := List.getElem_zip ..
      rw [hpz] at hsn
      have hpl := T.pickR_len s ((c.ranges.zip c.owners).take k)
      rw [List.length_take] at hpl
      have ho := hown _ (List.getElem_mem hko)
      have hpw := T.pow_le n6
      have h3 : ((2 ^ c.parents.length : Nat) : Int) = (2 : Int) ^ c.parents.length := by rw [Int.natCast_pow]; rfl
      refine Aw_skip ?_
      -- join 0: live [1, 2, 5, 12, 13, 14], turned [5]
      refine Aw_seq (Aw_block (Aw_seq (Aw_region ?_)))
      refine Al_p Pu_mvl ?_
      refine Al_p (Pu_index rfl Tryz.underlying25 Tryz.sizeOf41 rfl rfl (rfl) (mapget hk)) ?_
      refine Al_p (Pu_loadN rfl Tryz.isAgg41 Tryz.sizeOf41 rfl (Nat.le_of_ble_eq_true rfl)) ?_
      refine Al_alloc rfl rfl rfl (by decide) Tryz.zeroValue41 rfl (by kernel_rfl) (fun g7 => ?_)
      refine Al_p Pu_mvr ?_
      refine Al_storeN rfl rfl rfl (by kernel_rfl) Tryz.isAgg41 Tryz.sizeOf41 rfl rfl rfl rfl (Nat.le_of_ble_eq_true rfl) ?_
      refine Al_nil (Aw_seq (Aw_seq (Aw_region ?_)))
      refine Al_p (Pu_field 1 rfl Tryz.underlying27 rfl rfl Tryz.sizeOf22 rfl) ?_
      refine Al_p (Pu_load1 rfl Tryz.isAgg22 rfl rfl) ?_
      refine Al_p Pu_mvl ?_
      refine Al_p (Pu_index rfl Tryz.underlying22 Tryz.sizeOf3 rfl rfl (rfl) (mapget hko)) ?_
      refine Al_p (Pu_load1 rfl Tryz.isAgg3 rfl rfl) ?_
      refine Al_p Pu_mvl ?_
      refine Al_p (Pu_call (has_a (c.owners[k]).toNat s (by omega)) rfl ⟨Sub.num (by omega), Sub.rfl, trivial⟩) ?_
      refine Al_p (Pu_not rfl rfl) ?_
      refine Al_nil ?_
      refine Aw_cond rfl (fun h26 => ?_) (fun h26 => ?_)
      · skip
        have hb : T.bit (c.owners[k]).toNat s = false := by simpa using h26
        refine Aw_exit (Aw_region ?_)
        refine Al_p (Pu_add rfl rfl rfl (fun h1 h2 => by simp only [A.inI, A.maxI] at *; omega)) ?_
        refine Al_p Pu_mvl ?_
        refine Al_nil ?_
        exact ⟨(k + 1, g), by omega, by simp only []; omega, Le.ov ⟨Sub.num (by omega), Sub.rfl, trivial⟩ ⟨Sub.rfl, Sub.rfl, Sub.rfl, Sub.rfl, trivial⟩ ⟨obeq (by rw [hsn, hb]; simp), trivial⟩ trivial⟩ -- loop 0 next.0
      · skip
        have hb : T.bit (c.owners[k]).toNat s = true := by simpa using h26
        refine Aw_skip (Aw_region ?_)
        refine Al_p Pu_mvl ?_
        refine Al_p (Pu_loadbN (r := [_, _]) rfl Tryz.isAgg41 Tryz.sizeOf41 rfl rfl rfl rfl) ?_
        refine Al_p (Pu_slice1 rfl Tryz.underlying25 Tryz.sizeOf41 Tryz.zeroValue41 rfl (by decide) (by decide) (by kernel_rfl) rfl rfl rfl) ?_
        refine Al_append rfl rfl rfl (by decide) (by kernel_rfl) elem25 (by decide) Tryz.sizeOf41 rfl rfl rfl (by simp; omega) (by decide) (fun g30 => ?_)
        refine Al_p Pu_mvr ?_
        refine Al_nil (Aw_region ?_)
        refine Al_p (Pu_add rfl rfl rfl (fun h1 h2 => by simp only [A.inI, A.maxI] at *; omega)) ?_
        refine Al_p Pu_mvl ?_
        refine Al_nil ?_
        exact ⟨(k + 1, g30), by omega, by simp only []; omega, Le.ov ⟨Sub.num (by omega), Sub.rfl, trivial⟩ ⟨Sub.rfl, Sub.rfl, Sub.rfl, Sub.rfl, trivial⟩ ⟨obeq (by rw [hsn, hb]; simp [A.cellsA, Rng.row]), trivial⟩ trivial⟩ -- loop 0 next.1
    · (try simp only [decide_eq_true_eq, decide_eq_false_iff_not, Bool.and_eq_true, Bool.or_eq_true, Bool.and_eq_false_iff, Bool.or_eq_false_iff, Bool.not_eq_true', Bool.not_eq_false', beq_iff_eq, Bool.not_eq_eq_eq_not, Bool.not_true, Bool.not_false, List.length_map, Bool.and_true, Bool.and_false, Bool.false_and, Bool.true_and, Bool.or_false, Bool.false_or] at h15)
      have hkk : (c.ranges.zip c.owners).take k = c.ranges.zip c.owners := List.take_of_length_le (by omega)
      refine Aw_exit (Aw_seq (Aw_region ?_))
      refine Al_p Pu_mvl ?_
      refine Al_p Pu_mvr ?_
      refine Al_nil ?_
      refine Aw_frz hnl (k := 5) [4] rfl ⟨rfl, trivial⟩ ?_
      refine Aw_ret ?_
      exact Sub.d (by rw [hkk, hR]) -- ret 1
structure SSt where
  row : SRow
  have' : List (List Dep)
  wait : List Int
  sess : List (Int × List Dep)
  hist : List Event
  idle : Bool
def sesA (c : Int × List Dep) : List AV := [iv c.1, pastA c.2]
def SSt.cells (s : SSt) : List AV := s.row.row ++ [.sl 1 (s.have'.map fun p => [pastA p]), .sl 1 (s.wait.map fun x => [iv x]), .sl 2 (s.sess.map sesA), .sl 6 (s.hist.map Event.row), bv s.idle]
namespace H
/-- Is something so of each dep that a site has? -/
def everyB (hv : List (List Dep)) (p : Nat → Dep → Bool) : Bool := (List.range hv.length).all fun i => (hv.getD i default).all (p i)
theorem every_no {hv : List (List Dep)} {p : Nat → Dep → Bool} {i j : Nat} (hi : i < hv.length) (hj : j < (hv.getD i default).length) (h : p i ((hv.getD i default)[j]) = false) : everyB hv p = false := by
  unfold everyB
  rw [List.all_eq_false]
  refine ⟨i, List.mem_range.2 hi, ?_⟩
  rw [List.all_eq_true]
  intro h2
  rw [h2 _ (List.getElem_mem hj)] at h; cases h
theorem every_all {hv : List (List Dep)} {p : Nat → Dep → Bool} (h : ∀ i, i < hv.length → (hv.getD i default).all (p i) = true) : everyB hv p = true := List.all_eq_true.2 fun i hi => h i (List.mem_range.1 hi)
/-- A state whose sites' pasts may be. -/
structure SOk (s : SSt) : Prop where
  hv : ∀ p ∈ s.have', D.Good p ∧ p.length ≤ 900
  hl : s.have'.length ≤ 1000
  ev : ∀ e ∈ s.hist, e.seen.length ≤ 900
  hn : s.hist.length ≤ 1000
  ses : ∀ c ∈ s.sess, c.2.length ≤ 1000000
end H
set_option maxHeartbeats 2000000 in
theorem severy_a (s : SSt) (hh : ∀ p ∈ s.have', p.length ≤ 1000000) (f : FuncId) (caps : List AV) (p : Nat → Dep → Bool) (hf : ∀ (i : Nat) (d : Dep), ACall Tryz.prog f ([iv i, .row d.row] ++ caps) (bv (p i d))) : ACall Tryz.prog 15 [.row s.cells, .fn f caps] (bv (H.everyB s.have' p)) := by
  refine ACall_enterG (fun _ _ => by kernel_rfl) Tryz.func15 rfl Tryz.ntmps15 (Reads.r1 Tryz.results15) (Nat.le_of_ble_eq_true rfl) (fun hok M0 w0 hnl => ?_)
  have hlen := ((hok _ (List.mem_cons_self ..)).row (.sl 1 (s.have'.map fun p => [pastA p])) (by simp [SSt.cells])).len
  rw [List.length_map] at hlen
  refine Aw_seq (Aw_region ?_)
  refine Al_p (Pu_boxN rfl rfl) ?_
  refine Al_p Pu_mvr ?_
  refine Al_nil (Aw_scope (Aw_seq (Aw_region ?_)))
  refine Al_p Pu_mvr ?_
  refine Al_nil (Aw_seq (Aw_label ?_))
  -- join 0: live [5], turned [5]
  refine Aw_seq (Aw_seq (Aw_region ?_))
  refine Al_p (Pu_field 3 rfl Tryz.underlying32 rfl rfl Tryz.sizeOf28 rfl) ?_
  refine Al_p (Pu_load1 rfl Tryz.isAgg28 rfl rfl) ?_
  refine Al_p (Pu_len rfl Tryz.underlying28 rfl (by first | exact List.length_map .. | exact rfl)) ?_
  refine Al_p Pu_mvl ?_
  refine Al_nil (Aw_block ?_)
  refine Aw_loopk (ι := Nat) [1, 2, 11] [] (fun i => [(12, .d (iv i)), (5, .d (bv true))]) (fun i => []) (fun i => i ≤ s.have'.length ∧ ∀ a, a < i → (s.have'.getD a default).all (p a) = true) (fun i => s.have'.length - i) (0) (⟨Nat.zero_le _, fun a ha => absurd ha (Nat.not_lt_zero _)⟩) ⟨Sub.rfl, Sub.rfl, trivial⟩ trivial ?_
  rintro i ⟨hk0, hall⟩
  refine Aw_seq (Aw_region ?_)
  refine Al_p (Pu_cmp rfl rfl rfl rfl) ?_
  refine Al_nil (Aw_seq ?_)
  refine Aw_cond rfl (fun h13 => ?_) (fun h13 => ?_)
  · (try simp only [decide_eq_true_eq, decide_eq_false_iff_not, Bool.and_eq_true, Bool.or_eq_true, Bool.and_eq_false_iff, Bool.or_eq_false_iff, Bool.not_eq_true', Bool.not_eq_false', beq_iff_eq, Bool.not_eq_eq_eq_not, Bool.not_true, Bool.not_false, List.length_map, Bool.and_true, Bool.and_false, Bool.false_and, Bool.true_and, Bool.or_false, Bool.false_or] at h13)
    have hi : i < s.have'.length := by omega
    have hli : (s.have'.getD i default).length ≤ 1000000 := by
      have hg : s.have'.getD i default = s.have'[i] := by simp [hi]
      rw [hg]; exact hh _ (List.getElem_mem hi)
    refine Aw_skip (Aw_seq (Aw_block (Aw_seq (Aw_region ?_))))
    refine Al_p Pu_mvl ?_
    refine Al_p Pu_mvr ?_
    refine Al_nil (Aw_seq (Aw_region ?_))
    refine Al_p (Pu_field 3 rfl Tryz.underlying32 rfl rfl Tryz.sizeOf28 rfl) ?_
    refine Al_p (Pu_load1 rfl Tryz.isAgg28 rfl rfl) ?_
    refine Al_p Pu_mvl ?_
    refine Al_p (Pu_index rfl Tryz.underlying28 Tryz.sizeOf46 rfl rfl (rfl) (mapgetD (d := default) hi)) ?_
    refine Al_p (Pu_load1 rfl Tryz.isAgg46 rfl rfl) ?_
    refine Al_p (Pu_len rfl Tryz.underlying46 rfl (by first | exact List.length_map .. | exact rfl)) ?_
    refine Al_p Pu_mvl ?_
    refine Al_nil (Aw_block ?_)
    refine Aw_loopk (ι := Nat) [1, 2, 6, 11, 12, 19, 20] [] (fun j => [(21, .d (iv j)), (5, .d (bv true))]) (fun j => []) (fun j => j ≤ (s.have'.getD i default).length ∧ ((s.have'.getD i default).take j).all (p i) = true) (fun j => (s.have'.getD i default).length - j) (0) (⟨Nat.zero_le _, rfl⟩) ⟨Sub.rfl, Sub.rfl, trivial⟩ trivial ?_
    rintro j ⟨hk1, hto⟩
    refine Aw_seq (Aw_region ?_)
    refine Al_p (Pu_cmp rfl rfl rfl rfl) ?_
    refine Al_nil (Aw_seq ?_)
    refine Aw_cond rfl (fun h22 => ?_) (fun h22 => ?_)
    · (try simp only [decide_eq_true_eq, decide_eq_false_iff_not, Bool.and_eq_true, Bool.or_eq_true, Bool.and_eq_false_iff, Bool.or_eq_false_iff, Bool.not_eq_true', Bool.not_eq_false', beq_iff_eq, Bool.not_eq_eq_eq_not, Bool.not_true, Bool.not_false, List.length_map, Bool.and_true, Bool.and_false, Bool.false_and, Bool.true_and, Bool.or_false, Bool.false_or] at h22)
      have hj : j < (s.have'.getD i default).length := by omega
      refine Aw_skip (Aw_seq (Aw_block (Aw_seq (Aw_region ?_))))
      refine Al_p (Pu_index rfl Tryz.underlying46 Tryz.sizeOf45 rfl rfl (rfl) (mapget hj)) ?_
      refine Al_p (Pu_loadN rfl Tryz.isAgg45 Tryz.sizeOf45 rfl (Nat.le_of_ble_eq_true rfl)) ?_
      refine Al_alloc rfl rfl rfl (by decide) Tryz.zeroValue45 rfl (by kernel_rfl) (fun g8 => ?_)
      refine Al_storeN rfl rfl rfl (by kernel_rfl) Tryz.isAgg45 Tryz.sizeOf45 rfl rfl rfl rfl (Nat.le_of_ble_eq_true rfl) ?_
      refine Al_nil (Aw_seq (Aw_region ?_))
      refine Al_p Pu_mvl ?_
      refine Al_p Pu_mvl ?_
      refine Al_p (Pu_loadbN (r := [_, _, _]) rfl Tryz.isAgg45 Tryz.sizeOf45 rfl rfl rfl rfl) ?_
      refine Al_p (Pu_callv (aa := [iv i, .row ((s.have'.getD i default)[j]'hj).row]) (caps := caps) (hf i ((s.have'.getD i default)[j]'hj)) rfl rfl ⟨Sub.rfl, Sub.rfl, trivial⟩) ?_
      refine Al_p Pu_mvr ?_
      refine Al_nil (Aw_seq (Aw_region ?_))
      refine Al_p Pu_mvl ?_
      refine Al_p (Pu_not rfl rfl) ?_
      refine Al_nil ?_
      refine Aw_cond rfl (fun h30 => ?_) (fun h30 => ?_)
      · skip
        have hno : p i ((s.have'.getD i default)[j]'hj) = false := by revert h30; cases p i ((s.have'.getD i default)[j]'hj) <;> simp
        refine Aw_exit (Aw_seq (Aw_region ?_))
        refine Al_p Pu_mvl ?_
        refine Al_p Pu_mvr ?_
        refine Al_nil ?_
        refine Aw_ret ?_
        exact Sub.bool (by rw [H.every_no hi hj hno, hno]) -- ret 0
      · skip
        have hyes : p i ((s.have'.getD i default)[j]'hj) = true := by revert h30; cases p i ((s.have'.getD i default)[j]'hj) <;> simp
        refine Aw_skip (Aw_region ?_)
        refine Al_p (Pu_add rfl rfl rfl (fun h1 h2 => by simp only [A.inI, A.maxI] at *; omega)) ?_
        refine Al_p Pu_mvl ?_
        refine Al_nil ?_
        exact ⟨j + 1, ⟨by omega, by rw [List.take_succ_eq_append_getElem hj, List.all_append, hto, Bool.true_and, List.all_cons, hyes]; rfl⟩, by omega, Le.ov ⟨Sub.num (by omega), Sub.bool hyes, trivial⟩ ⟨Sub.rfl, Sub.rfl, Sub.rfl, Sub.rfl, Sub.rfl, Sub.rfl, Sub.rfl, trivial⟩ trivial trivial⟩ -- loop 1 next.0
    · (try simp only [decide_eq_true_eq, decide_eq_false_iff_not, Bool.and_eq_true, Bool.or_eq_true, Bool.and_eq_false_iff, Bool.or_eq_false_iff, Bool.not_eq_true', Bool.not_eq_false', beq_iff_eq, Bool.not_eq_eq_eq_not, Bool.not_true, Bool.not_false, List.length_map, Bool.and_true, Bool.and_false, Bool.false_and, Bool.true_and, Bool.or_false, Bool.false_or] at h22)
      have hjj : (s.have'.getD i default).take j = s.have'.getD i default := List.take_of_length_le (by omega)
      rw [hjj] at hto
      refine Aw_exit (Aw_region ?_)
      refine Al_p (Pu_add rfl rfl rfl (fun h1 h2 => by simp only [A.inI, A.maxI] at *; omega)) ?_
      refine Al_p Pu_mvl ?_
      refine Al_nil ?_
      exact ⟨i + 1, ⟨by omega, fun a ha => by
        rcases Nat.lt_or_ge a i with h | h
        · exact hall a h
        · rw [show a = i from by omega]; exact hto⟩, by omega, Le.ov ⟨Sub.num (by omega), Sub.rfl, trivial⟩ ⟨Sub.rfl, Sub.rfl, Sub.rfl, trivial⟩ trivial trivial⟩ -- loop 0 next.0
  · (try simp only [decide_eq_true_eq, decide_eq_false_iff_not, Bool.and_eq_true, Bool.or_eq_true, Bool.and_eq_false_iff, Bool.or_eq_false_iff, Bool.not_eq_true', Bool.not_eq_false', beq_iff_eq, Bool.not_eq_eq_eq_not, Bool.not_true, Bool.not_false, List.length_map, Bool.and_true, Bool.and_false, Bool.false_and, Bool.true_and, Bool.or_false, Bool.false_or] at h13)
    obtain rfl : i = s.have'.length := by omega
    refine Aw_exit (Aw_seq (Aw_region ?_))
    refine Al_p Pu_mvl ?_
    refine Al_p Pu_mvr ?_
    refine Al_nil ?_
    refine Aw_ret ?_
    exact Sub.bool (H.every_all hall).symm -- ret 1
set_option maxRecDepth 100000 in
theorem indexC_a (l : List (Int × List Dep)) (f : FuncId) (caps : List AV) (p : (Int × List Dep) → Bool) (hf : ∀ x ∈ l, ACall Tryz.prog f ([.row (sesA x)] ++ caps) (bv (p x))) : ACall Tryz.prog 37 [.sl 2 (l.map sesA), .fn f caps] (iv (S.find p l)) := by
  refine ACall_enter (fun _ _ => by kernel_rfl) Tryz.func37 rfl Tryz.ntmps37 Tryz.results37 (Nat.le_of_ble_eq_true rfl) (fun hok M0 w0 hnl => ?_)
  have hlen := (hok _ (List.mem_cons_self ..)).len
  rw [List.length_map] at hlen
  refine Aw_seq (Aw_region ?_)
  refine Al_p Pu_mvr ?_
  refine Al_nil (Aw_seq (Aw_seq (Aw_region ?_)))
  refine Al_p Pu_mvl ?_
  refine Al_p (Pu_len rfl Tryz.underlying29 rfl (by first | exact List.length_map .. | exact rfl)) ?_
  refine Al_p Pu_mvl ?_
  refine Al_nil (Aw_block ?_)
  refine Aw_loopk (ι := Nat) [0, 1, 7] [] (fun k => [(8, .d (iv k))]) (fun k => []) (fun k => k ≤ l.length ∧ ∀ j (h : j < l.length), j < k → p l[j] = false) (fun k => l.length - k) (0) (⟨Nat.zero_le _, by intros; omega⟩) ⟨Sub.rfl, trivial⟩ trivial ?_
  rintro k ⟨hk0, hk2⟩
  refine Aw_seq (Aw_region ?_)
  refine Al_p (Pu_cmp rfl rfl rfl rfl) ?_
  refine Al_nil (Aw_seq ?_)
  refine Aw_cond rfl (fun h9 => ?_) (fun h9 => ?_)
  · (try simp only [decide_eq_true_eq, decide_eq_false_iff_not, Bool.and_eq_true, Bool.or_eq_true, Bool.and_eq_false_iff, Bool.or_eq_false_iff, Bool.not_eq_true', Bool.not_eq_false', beq_iff_eq, Bool.not_eq_eq_eq_not, Bool.not_true, Bool.not_false, List.length_map, Bool.and_true, Bool.and_false, Bool.false_and, Bool.true_and, Bool.or_false, Bool.false_or] at h9)
    have hk : k < l.length := by omega
    refine Aw_skip (Aw_seq (Aw_block (Aw_seq (Aw_region ?_))))
    refine Al_p Pu_mvl ?_
    refine Al_p Pu_mvr ?_
    refine Al_nil (Aw_seq (Aw_region ?_))
    refine Al_p Pu_mvl ?_
    refine Al_p Pu_mvl ?_
    refine Al_p Pu_mvl ?_
    refine Al_p (Pu_index rfl Tryz.underlying29 Tryz.sizeOf49 rfl rfl (rfl) (mapget hk)) ?_
    refine Al_p (Pu_loadN rfl Tryz.isAgg49 Tryz.sizeOf49 rfl (Nat.le_of_ble_eq_true rfl)) ?_
    refine Al_p (Pu_callv (aa := [(fun x => .row (sesA x)) l[k]]) (caps := caps) (hf l[k] (List.getElem_mem hk)) rfl rfl ⟨Sub.rfl, trivial⟩) ?_
    refine Al_nil ?_
    refine Aw_cond rfl (fun h16 => ?_) (fun h16 => ?_)
    · skip
      refine Aw_seq (Aw_region ?_)
      refine Al_p Pu_mvl ?_
      refine Al_p Pu_mvr ?_
      refine Al_nil ?_
      refine Aw_ret ?_
      exact Sub.num (S.find_at hk h16 hk2) -- ret 0
    · skip
      have h16' : p l[k] = false := h16
      refine Aw_skip (Aw_region ?_)
      refine Al_p (Pu_add rfl rfl rfl (fun h1 h2 => by simp only [A.inI, A.maxI] at *; omega)) ?_
      refine Al_p Pu_mvl ?_
      refine Al_nil ?_
      exact ⟨k + 1, ⟨by omega, fun j hj hjk => by
        by_cases e : j = k
        · subst e; exact h16'
        · exact hk2 j hj (by omega)⟩, by omega, Le.ov ⟨Sub.num (by omega), trivial⟩ ⟨Sub.rfl, Sub.rfl, Sub.rfl, trivial⟩ trivial trivial⟩ -- loop 0 next.0
  · (try simp only [decide_eq_true_eq, decide_eq_false_iff_not, Bool.and_eq_true, Bool.or_eq_true, Bool.and_eq_false_iff, Bool.or_eq_false_iff, Bool.not_eq_true', Bool.not_eq_false', beq_iff_eq, Bool.not_eq_eq_eq_not, Bool.not_true, Bool.not_false, List.length_map, Bool.and_true, Bool.and_false, Bool.false_and, Bool.true_and, Bool.or_false, Bool.false_or] at h9)
    obtain rfl : k = l.length := by omega
    refine Aw_exit (Aw_seq (Aw_region ?_))
    refine Al_p Pu_mvr ?_
    refine Al_nil ?_
    refine Aw_ret ?_
    exact Sub.num (S.find_no hk2) -- ret 1
set_option maxRecDepth 100000 in
theorem containsC_a (l : List (Int × List Dep)) (f : FuncId) (caps : List AV) (p : (Int × List Dep) → Bool) (hf : ∀ x ∈ l, ACall Tryz.prog f ([.row (sesA x)] ++ caps) (bv (p x))) : ACall Tryz.prog 18 [.sl 2 (l.map sesA), .fn f caps] (bv (l.any p)) := by
  refine ACall_enter (fun _ _ => by kernel_rfl) Tryz.func18 rfl Tryz.ntmps18 Tryz.results18 (Nat.le_of_ble_eq_true rfl) (fun hok M0 w0 hnl => ?_)
  refine Aw_seq (Aw_region ?_)
  refine Al_p Pu_mvr ?_
  refine Al_nil (Aw_seq (Aw_region ?_))
  refine Al_p Pu_mvl ?_
  refine Al_p Pu_mvl ?_
  refine Al_p (Pu_call (indexC_a l f caps p hf) rfl ⟨Sub.rfl, Sub.rfl, trivial⟩) ?_
  refine Al_p (Pu_cmp rfl rfl rfl rfl) ?_
  refine Al_p Pu_mvr ?_
  refine Al_nil ?_
  refine Aw_ret ?_
  exact Sub.bool S.find_any -- ret 0
namespace H
def owning (s : SSt) : Bool := everyB s.have' fun i d => T.bit (T.owners s.row d.key) i
def heads (s : SSt) : Bool := everyB s.have' fun _ d => (writes s.hist d.key).any fun x => decide ((d.n, d.s) = x)
/-- What a client saw, is it not there? -/
def lacksC (s : SSt) (c : Int × List Dep) : Bool := if c.1 < 0 ∨ (s.have'.length : Int) ≤ c.1 then false else !D.coversB (s.have'.getD c.1.toNat default) (J.only c.2 (T.rangesOf s.row c.1))
def covered (s : SSt) : Bool := !s.sess.any (lacksC s)
def causal (s : SSt) : Bool := decide (checkL s.hist = -1) && decide (G.fine s.hist = -1) && (List.range s.hist.length).all fun i => D.coversB (G.behindN s.hist i) (G.seen s.hist i)
def meetE (s : SSt) (e : Event) : Bool := decide (e.kind ≠ 1) || (List.range s.have'.length).all fun i => !(T.bit (T.owners s.row e.key) i && decide (D.get (s.have'.getD i default) e.key ≠ D.maxS (writes s.hist e.key)))
def meets (s : SSt) : Bool := !s.idle || s.wait.any (fun n => decide (n ≠ 0)) || s.hist.all (meetE s)
end H
theorem sown1_a (s : SSt) (i : Nat) (d : Dep) : ACall Tryz.prog 16 [iv i, .row d.row, .fp s.cells] (bv (T.bit (T.owners s.row d.key) i)) := by
  refine ACall_enter (fun _ _ => by kernel_rfl) Tryz.func16 rfl Tryz.ntmps16 Tryz.results16 (Nat.le_of_ble_eq_true rfl) (fun hok M0 w0 hnl => ?_)
  refine Aw_seq (Aw_region ?_)
  refine Al_p (Pu_boxN rfl rfl) ?_
  refine Al_p Pu_mvr ?_
  refine Al_nil (Aw_seq (Aw_region ?_))
  refine Al_p (Pu_field 0 rfl Tryz.underlying32 rfl rfl Tryz.sizeOf27 rfl) ?_
  refine Al_p (Pu_loadN rfl Tryz.isAgg27 Tryz.sizeOf27 rfl (Nat.le_of_ble_eq_true rfl)) ?_
  refine Al_p Pu_mvl ?_
  refine Al_p (Pu_field 0 rfl Tryz.underlying45 rfl rfl Tryz.sizeOf9 rfl) ?_
  refine Al_p (Pu_load1 rfl Tryz.isAgg9 rfl rfl) ?_
  refine Al_p (Pu_call (owns_a s.row i d.key) rfl ⟨Sub.rfl, Sub.rfl, Sub.rfl, trivial⟩) ?_
  refine Al_p Pu_mvr ?_
  refine Al_nil ?_
  refine Aw_ret ?_
  exact Sub.rfl -- ret 0
theorem sowning_a (s : SSt) (hh : ∀ p ∈ s.have', p.length ≤ 1000000) : ACall Tryz.prog 7 [.row s.cells] (bv (H.owning s)) := by
  refine ACall_enter (fun _ _ => by kernel_rfl) Tryz.func7 rfl Tryz.ntmps7 Tryz.results7 (Nat.le_of_ble_eq_true rfl) (fun hok M0 w0 hnl => ?_)
  refine Aw_seq (Aw_region ?_)
  refine Al_p (Pu_boxN rfl rfl) ?_
  refine Al_p Pu_mvr ?_
  refine Al_nil (Aw_seq (Aw_region ?_))
  refine Al_p (Pu_loadN rfl Tryz.isAgg32 Tryz.sizeOf32 rfl (Nat.le_of_ble_eq_true rfl)) ?_
  refine Al_p (Pu_makeFunc (caps := [_]) rfl ⟨Sub.rfl, trivial⟩) ?_
  refine Al_p (Pu_call (severy_a s hh 16 [.fp s.cells] _ (fun i d => sown1_a s i d)) rfl ⟨Sub.rfl, Sub.rfl, trivial⟩) ?_
  refine Al_p Pu_mvr ?_
  refine Al_nil ?_
  refine Aw_ret ?_
  exact Sub.rfl -- ret 0
theorem indexst_a (l : List (Int × Int)) (x : Int × Int) : ACall Tryz.prog 46 [.sl 2 (l.map fun s => [iv s.1, iv s.2]), .row [iv x.1, iv x.2]] (iv (S.find (fun y => decide (x = y)) l)) := by
  refine ACall_enter (fun _ _ => by kernel_rfl) Tryz.func46 rfl Tryz.ntmps46 Tryz.results46 (Nat.le_of_ble_eq_true rfl) (fun hok M0 w0 hnl => ?_)
  have hlen := (hok _ (List.mem_cons_self ..)).len
  rw [List.length_map] at hlen
  refine Aw_seq (Aw_region ?_)
  refine Al_p (Pu_boxN rfl rfl) ?_
  refine Al_p Pu_mvr ?_
  refine Al_nil (Aw_seq (Aw_seq (Aw_region ?_)))
  refine Al_p Pu_mvl ?_
  refine Al_p (Pu_len rfl Tryz.underlying63 rfl (by first | exact List.length_map .. | exact rfl)) ?_
  refine Al_p Pu_mvl ?_
  refine Al_nil (Aw_block ?_)
  refine Aw_loopk (ι := Nat) [0, 3, 7] [] (fun k => [(8, .d (iv k))]) (fun k => []) (fun k => k ≤ l.length ∧ ∀ j (h : j < l.length), j < k → (fun y : Int × Int => decide (x = y)) l[j] = false) (fun k => l.length - k) (0) (⟨Nat.zero_le _, by intros; omega⟩) ⟨Sub.rfl, trivial⟩ trivial ?_
  rintro k ⟨hk0, hk2⟩
  refine Aw_seq (Aw_region ?_)
  refine Al_p (Pu_cmp rfl rfl rfl rfl) ?_
  refine Al_nil (Aw_seq ?_)
  refine Aw_cond rfl (fun h9 => ?_) (fun h9 => ?_)
  · (try simp only [decide_eq_true_eq, decide_eq_false_iff_not, Bool.and_eq_true, Bool.or_eq_true, Bool.and_eq_false_iff, Bool.or_eq_false_iff, Bool.not_eq_true', Bool.not_eq_false', beq_iff_eq, Bool.not_eq_eq_eq_not, Bool.not_true, Bool.not_false, List.length_map, Bool.and_true, Bool.and_false, Bool.false_and, Bool.true_and, Bool.or_false, Bool.false_or] at h9)
    have hk : k < l.length := by omega
    have hxe : ((x.1 == (l[k]).1) && (x.2 == (l[k]).2)) = decide (x = l[k]) := by
      rw [Bool.eq_iff_iff, Bool.and_eq_true, beq_iff_eq, beq_iff_eq, decide_eq_true_eq, Prod.ext_iff]
    refine Aw_skip (Aw_seq (Aw_block (Aw_seq (Aw_region ?_))))
    refine Al_p Pu_mvl ?_
    refine Al_p Pu_mvr ?_
    refine Al_nil (Aw_seq ?_)
    refine Aw_draw 6 (by kernel_rfl) (by kernel_rfl) ?_
    refine Dr_p (Pu_loadN rfl Tryz.isAgg43 Tryz.sizeOf43 rfl (Nat.le_of_ble_eq_true rfl)) ?_
    refine Dr_p Pu_mvl ?_
    refine Dr_p Pu_mvl ?_
    refine Dr_p (Pu_index rfl Tryz.underlying63 Tryz.sizeOf43 rfl rfl (rfl) (mapget hk)) ?_
    refine Dr_p (Pu_loadN rfl Tryz.isAgg43 Tryz.sizeOf43 rfl (Nat.le_of_ble_eq_true rfl)) ?_
    refine Dr_p (Pu_eqrow [.int .i64 _, .int .i64 _] [.int .i64 _, .int .i64 _] (fun w => eqv43 _ _ _ _ _ _ w) rfl rfl rfl) ?_
    refine Dr_nil (Al_nil ?_)
    refine Aw_cond rfl (fun h16 => ?_) (fun h16 => ?_)
    · skip
      have h16' : decide (x = l[k]) = true := by rw [← hxe]; exact h16
      refine Aw_seq (Aw_region ?_)
      refine Al_p Pu_mvl ?_
      refine Al_p Pu_mvr ?_
      refine Al_nil ?_
      refine Aw_ret ?_
      exact Sub.num (S.find_at (p := fun y => decide (x = y)) hk h16' hk2) -- ret 0
    · skip
      have h16' : decide (x = l[k]) = false := by rw [← hxe]; exact h16
      refine Aw_skip (Aw_region ?_)
      refine Al_p (Pu_add rfl rfl rfl (fun h1 h2 => by simp only [A.inI, A.maxI] at *; omega)) ?_
      refine Al_p Pu_mvl ?_
      refine Al_nil ?_
      exact ⟨k + 1, ⟨by omega, fun j hj hjk => by
        by_cases e : j = k
        · subst e; exact h16'
        · exact hk2 j hj (by omega)⟩, by omega, Le.ov ⟨Sub.num (by omega), trivial⟩ ⟨Sub.rfl, Sub.rfl, Sub.rfl, trivial⟩ trivial trivial⟩ -- loop 0 next.0
  · (try simp only [decide_eq_true_eq, decide_eq_false_iff_not, Bool.and_eq_true, Bool.or_eq_true, Bool.and_eq_false_iff, Bool.or_eq_false_iff, Bool.not_eq_true', Bool.not_eq_false', beq_iff_eq, Bool.not_eq_eq_eq_not, Bool.not_true, Bool.not_false, List.length_map, Bool.and_true, Bool.and_false, Bool.false_and, Bool.true_and, Bool.or_false, Bool.false_or] at h9)
    obtain rfl : k = l.length := by omega
    refine Aw_exit (Aw_seq (Aw_region ?_))
    refine Al_p Pu_mvr ?_
    refine Al_nil ?_
    refine Aw_ret ?_
    exact Sub.num (S.find_no hk2) -- ret 1
theorem containsst_a (l : List (Int × Int)) (x : Int × Int) : ACall Tryz.prog 24 [.sl 2 (l.map fun s => [iv s.1, iv s.2]), .row [iv x.1, iv x.2]] (bv (l.any fun y => decide (x = y))) := by
  refine ACall_enter (fun _ _ => by kernel_rfl) Tryz.func24 rfl Tryz.ntmps24 Tryz.results24 (Nat.le_of_ble_eq_true rfl) (fun hok M0 w0 hnl => ?_)
  refine Aw_seq (Aw_region ?_)
  refine Al_p (Pu_boxN rfl rfl) ?_
  refine Al_p Pu_mvr ?_
  refine Al_nil (Aw_seq (Aw_region ?_))
  refine Al_p Pu_mvl ?_
  refine Al_p (Pu_loadN rfl Tryz.isAgg43 Tryz.sizeOf43 rfl (Nat.le_of_ble_eq_true rfl)) ?_
  refine Al_p (Pu_call (indexst_a l x) rfl ⟨Sub.rfl, Sub.rfl, trivial⟩) ?_
  refine Al_p (Pu_cmp rfl rfl rfl rfl) ?_
  refine Al_p Pu_mvr ?_
  refine Al_nil ?_
  refine Aw_ret ?_
  exact Sub.bool S.find_any -- ret 0
theorem sheads1_a (s : SSt) (hn : s.hist.length ≤ 1000000) (i : Nat) (d : Dep) : ACall Tryz.prog 23 [iv i, .row d.row, .fp s.cells] (bv ((H.writes s.hist d.key).any fun x => decide ((d.n, d.s) = x))) := by
  refine ACall_enter (fun _ _ => by kernel_rfl) Tryz.func23 rfl Tryz.ntmps23 Tryz.results23 (Nat.le_of_ble_eq_true rfl) (fun hok M0 w0 hnl => ?_)
  refine Aw_seq (Aw_region ?_)
  refine Al_p (Pu_boxN rfl rfl) ?_
  refine Al_p Pu_mvr ?_
  refine Al_nil (Aw_seq ?_)
  refine Aw_draw 8 (by kernel_rfl) (by kernel_rfl) ?_
  refine Dr_p (Pu_field 6 rfl Tryz.underlying32 rfl rfl Tryz.sizeOf30 rfl) ?_
  refine Dr_p (Pu_load1 rfl Tryz.isAgg30 rfl rfl) ?_
  refine Dr_p (Pu_field 0 rfl Tryz.underlying45 rfl rfl Tryz.sizeOf9 rfl) ?_
  refine Dr_p (Pu_load1 rfl Tryz.isAgg9 rfl rfl) ?_
  refine Dr_p (Pu_call (hwrites_a s.hist d.key hn) rfl ⟨Sub.rfl, Sub.rfl, trivial⟩) ?_
  refine Dr_p (Pu_field 1 rfl Tryz.underlying45 rfl rfl Tryz.sizeOf43 rfl) ?_
  refine Dr_p (Pu_loadN rfl Tryz.isAgg43 Tryz.sizeOf43 rfl (Nat.le_of_ble_eq_true rfl)) ?_
  refine Dr_p (Pu_call (containsst_a (H.writes s.hist d.key) (d.n, d.s)) rfl ⟨Sub.rfl, Sub.rfl, trivial⟩) ?_
  refine Dr_nil ?_
  refine Al_p Pu_mvr ?_
  refine Al_nil ?_
  refine Aw_ret ?_
  exact Sub.rfl -- ret 0
theorem sheads_a (s : SSt) (hh : ∀ p ∈ s.have', p.length ≤ 1000000) (hn : s.hist.length ≤ 1000000) : ACall Tryz.prog 9 [.row s.cells] (bv (H.heads s)) := by
  refine ACall_enter (fun _ _ => by kernel_rfl) Tryz.func9 rfl Tryz.ntmps9 Tryz.results9 (Nat.le_of_ble_eq_true rfl) (fun hok M0 w0 hnl => ?_)
  refine Aw_seq (Aw_region ?_)
  refine Al_p (Pu_boxN rfl rfl) ?_
  refine Al_p Pu_mvr ?_
  refine Al_nil (Aw_seq (Aw_region ?_))
  refine Al_p (Pu_loadN rfl Tryz.isAgg32 Tryz.sizeOf32 rfl (Nat.le_of_ble_eq_true rfl)) ?_
  refine Al_p (Pu_makeFunc (caps := [_]) rfl ⟨Sub.rfl, trivial⟩) ?_
  refine Al_p (Pu_call (severy_a s hh 23 [.fp s.cells] _ (fun i d => sheads1_a s hn i d)) rfl ⟨Sub.rfl, Sub.rfl, trivial⟩) ?_
  refine Al_p Pu_mvr ?_
  refine Al_nil ?_
  refine Aw_ret ?_
  exact Sub.rfl -- ret 0
theorem scov1_a (s : SSt) (hs : H.SOk s) (c : Int × List Dep) (hc : c.2.length ≤ 1000000) : ACall Tryz.prog 19 [.row (sesA c), .fp s.cells] (bv (H.lacksC s c)) := by
  refine ACall_enter (fun _ _ => by kernel_rfl) Tryz.func19 rfl Tryz.ntmps19 Tryz.results19 (Nat.le_of_ble_eq_true rfl) (fun hok M0 w0 hnl => ?_)
  have hr8 := T.rangesOf_len s.row c.1
  refine Aw_seq (Aw_region ?_)
  refine Al_p (Pu_boxN rfl rfl) ?_
  refine Al_p Pu_mvr ?_
  refine Al_nil (Aw_seq (Aw_seq (Aw_region ?_)))
  refine Al_p (Pu_field 0 rfl Tryz.underlying49 rfl rfl Tryz.sizeOf3 rfl) ?_
  refine Al_p (Pu_load1 rfl Tryz.isAgg3 rfl rfl) ?_
  refine Al_p (Pu_cmp rfl rfl rfl rfl) ?_
  refine Al_p Pu_mvl ?_
  refine Al_st (St_gd [] rfl rfl rfl rfl trivial (fun hg8 => Pu_field 0 rfl Tryz.underlying49 rfl rfl Tryz.sizeOf3 rfl)) rfl (by decide) (by kernel_rfl) (by intro j b oj dj h1 h2 h3; cases h1; cases h2; cases h3; decide) ?_
  refine Al_st (St_gd [8] rfl rfl rfl rfl ⟨⟨_, rfl⟩, trivial⟩ (fun hg9 => Pu_load1 rfl Tryz.isAgg3 rfl rfl)) rfl (by decide) (by kernel_rfl) (by intro j b oj dj h1 h2 h3; cases h1; cases h2; cases h3; decide) ?_
  refine Al_st (St_gd [] rfl rfl rfl rfl trivial (fun hg10 => Pu_field 3 rfl Tryz.underlying32 rfl rfl Tryz.sizeOf28 rfl)) rfl (by decide) (by kernel_rfl) (by intro j b oj dj h1 h2 h3; cases h1; cases h2; cases h3; decide) ?_
  refine Al_st (St_gd [10] rfl rfl rfl rfl ⟨⟨_, rfl⟩, trivial⟩ (fun hg11 => Pu_load1 rfl Tryz.isAgg28 rfl rfl)) rfl (by decide) (by kernel_rfl) (by intro j b oj dj h1 h2 h3; cases h1; cases h2; cases h3; decide) ?_
  refine Al_st (St_gd [11] rfl rfl rfl rfl ⟨⟨_, rfl⟩, trivial⟩ (fun hg12 => by exact Pu_len rfl Tryz.underlying28 rfl (by first | exact List.length_map .. | exact rfl))) rfl (by decide) (by kernel_rfl) (by intro j b oj dj h1 h2 h3; cases h1; cases h2; cases h3; decide) ?_
  refine Al_st (St_gd [9, 12] rfl rfl rfl rfl ⟨⟨_, rfl⟩, ⟨_, rfl⟩, trivial⟩ (fun hg13 => Pu_cmp rfl rfl rfl rfl)) rfl (by decide) (by kernel_rfl) (by intro j b oj dj h1 h2 h3; cases h1; cases h2; cases h3; decide) ?_
  refine Al_p (Pu_or rfl rfl rfl rfl) ?_
  refine Al_nil ?_
  refine Aw_cond rfl (fun h14 => ?_) (fun h14 => ?_)
  · (try simp only [decide_eq_true_eq, decide_eq_false_iff_not, Bool.and_eq_true, Bool.or_eq_true, Bool.and_eq_false_iff, Bool.or_eq_false_iff, Bool.not_eq_true', Bool.not_eq_false', beq_iff_eq, Bool.not_eq_eq_eq_not, Bool.not_true, Bool.not_false, List.length_map, Bool.and_true, Bool.and_false, Bool.false_and, Bool.true_and, Bool.or_false, Bool.false_or] at h14)
    have hno : H.lacksC s c = false := by unfold H.lacksC; rw [if_pos (by omega)]
    refine Aw_seq (Aw_region ?_)
    refine Al_p Pu_mvr ?_
    refine Al_nil ?_
    refine Aw_ret ?_
    exact Sub.bool hno.symm -- ret 0
  · (try simp only [decide_eq_true_eq, decide_eq_false_iff_not, Bool.and_eq_true, Bool.or_eq_true, Bool.and_eq_false_iff, Bool.or_eq_false_iff, Bool.not_eq_true', Bool.not_eq_false', beq_iff_eq, Bool.not_eq_eq_eq_not, Bool.not_true, Bool.not_false, List.length_map, Bool.and_true, Bool.and_false, Bool.false_and, Bool.true_and, Bool.or_false, Bool.false_or] at h14)
    have hyes : H.lacksC s c = !D.coversB (s.have'.getD c.1.toNat default) (J.only c.2 (T.rangesOf s.row c.1)) := by unfold H.lacksC; rw [if_neg (by omega)]
    have hi : c.1.toNat < s.have'.length := by omega
    have hg : s.have'.getD c.1.toNat default = s.have'[c.1.toNat] := by simp [hi]
    have hgd := hs.hv _ (List.getElem_mem hi)
    rw [← hg] at hgd
    refine Aw_skip (Aw_seq ?_)
    refine Aw_draw 16 (by kernel_rfl) (by kernel_rfl) ?_
    refine Dr_p (Pu_field 3 rfl Tryz.underlying32 rfl rfl Tryz.sizeOf28 rfl) ?_
    refine Dr_p (Pu_load1 rfl Tryz.isAgg28 rfl rfl) ?_
    refine Dr_p (Pu_field 0 rfl Tryz.underlying49 rfl rfl Tryz.sizeOf3 rfl) ?_
    refine Dr_p (Pu_load1 rfl Tryz.isAgg3 rfl rfl) ?_
    refine Dr_p (Pu_index rfl Tryz.underlying28 Tryz.sizeOf46 rfl rfl ((show c.1 = (c.1.toNat : Int) by omega)) (mapgetD (d := default) hi)) ?_
    refine Dr_p (Pu_load1 rfl Tryz.isAgg46 rfl rfl) ?_
    refine Dr_p (Pu_field 1 rfl Tryz.underlying49 rfl rfl Tryz.sizeOf46 rfl) ?_
    refine Dr_p (Pu_load1 rfl Tryz.isAgg46 rfl rfl) ?_
    refine Dr_p (Pu_field 0 rfl Tryz.underlying32 rfl rfl Tryz.sizeOf27 rfl) ?_
    refine Dr_p (Pu_loadN rfl Tryz.isAgg27 Tryz.sizeOf27 rfl (Nat.le_of_ble_eq_true rfl)) ?_
    refine Dr_p (Pu_field 0 rfl Tryz.underlying49 rfl rfl Tryz.sizeOf3 rfl) ?_
    refine Dr_p (Pu_load1 rfl Tryz.isAgg3 rfl rfl) ?_
    refine Dr_p (Pu_call (tranges_a s.row c.1) rfl ⟨Sub.rfl, Sub.rfl, trivial⟩) ?_
    refine Dr_p (Pu_call (GCall.a (aa := [pastA c.2, rngA (T.rangesOf s.row c.1)]) (ponly_g c.2 (T.rangesOf s.row c.1) (by omega) hc)) rfl ⟨Sub.rfl, Sub.rfl, trivial⟩) ?_
    refine Dr_p (Pu_call (covers_a _ _ hgd.1.srt (by omega)) rfl ⟨Sub.rfl, Sub.rfl, trivial⟩) ?_
    refine Dr_p (Pu_not rfl rfl) ?_
    refine Dr_nil ?_
    refine Al_p Pu_mvr ?_
    refine Al_nil ?_
    refine Aw_ret ?_
    exact Sub.bool hyes.symm -- ret 1
theorem scovered_a (s : SSt) (hs : H.SOk s) : ACall Tryz.prog 8 [.row s.cells] (bv (H.covered s)) := by
  refine ACall_enter (fun _ _ => by kernel_rfl) Tryz.func8 rfl Tryz.ntmps8 Tryz.results8 (Nat.le_of_ble_eq_true rfl) (fun hok M0 w0 hnl => ?_)
  refine Aw_seq (Aw_region ?_)
  refine Al_p (Pu_boxN rfl rfl) ?_
  refine Al_p Pu_mvr ?_
  refine Al_nil (Aw_seq (Aw_region ?_))
  refine Al_p (Pu_field 5 rfl Tryz.underlying32 rfl rfl Tryz.sizeOf29 rfl) ?_
  refine Al_p (Pu_load1 rfl Tryz.isAgg29 rfl rfl) ?_
  refine Al_p (Pu_makeFunc (caps := [_]) rfl ⟨Sub.rfl, trivial⟩) ?_
  refine Al_p (Pu_call (containsC_a s.sess 19 [.fp s.cells] (H.lacksC s) (fun c hc => scov1_a s hs c (hs.ses c hc))) rfl ⟨Sub.rfl, Sub.rfl, trivial⟩) ?_
  refine Al_p (Pu_not rfl rfl) ?_
  refine Al_p Pu_mvr ?_
  refine Al_nil ?_
  refine Aw_ret ?_
  exact Sub.rfl -- ret 0
set_option maxHeartbeats 1000000 in
theorem scausal_a (s : SSt) (hs : H.SOk s) : ACall Tryz.prog 10 [.row s.cells] (bv (H.causal s)) := by
  refine ACall_enter (fun _ _ => by kernel_rfl) Tryz.func10 rfl Tryz.ntmps10 Tryz.results10 (Nat.le_of_ble_eq_true rfl) (fun hok M0 w0 hnl => ?_)
  have hn := hs.hn
  have hcn : ∀ i, (G.seen s.hist i).length ≤ 1000000 → True := fun _ _ => trivial
  refine Aw_seq (Aw_region ?_)
  refine Al_p (Pu_boxN rfl rfl) ?_
  refine Al_p Pu_mvr ?_
  refine Al_nil (Aw_seq (Aw_seq (Aw_region ?_)))
  refine Al_p (Pu_field 6 rfl Tryz.underlying32 rfl rfl Tryz.sizeOf30 rfl) ?_
  refine Al_p (Pu_load1 rfl Tryz.isAgg30 rfl rfl) ?_
  refine Al_p (Pu_call (hcheck_a s.hist hs.ev (by omega)) rfl ⟨Sub.rfl, trivial⟩) ?_
  refine Al_p (Pu_cmp rfl rfl rfl rfl) ?_
  refine Al_p Pu_mvl ?_
  refine Al_st (St_gd [] rfl rfl rfl rfl trivial (fun hg9 => Pu_field 6 rfl Tryz.underlying32 rfl rfl Tryz.sizeOf30 rfl)) rfl (by decide) (by kernel_rfl) (by intro j b oj dj h1 h2 h3; cases h1; cases h2; cases h3; decide) ?_
  refine Al_st (St_gd [9] rfl rfl rfl rfl ⟨⟨_, rfl⟩, trivial⟩ (fun hg10 => Pu_load1 rfl Tryz.isAgg30 rfl rfl)) rfl (by decide) (by kernel_rfl) (by intro j b oj dj h1 h2 h3; cases h1; cases h2; cases h3; decide) ?_
  refine Al_st (St_gd [10] rfl rfl rfl rfl ⟨⟨_, rfl⟩, trivial⟩ (fun hg11 => by exact Pu_call (gfine_a s.hist (by omega)) rfl ⟨Sub.rfl, trivial⟩)) rfl (by decide) (by kernel_rfl) (by intro j b oj dj h1 h2 h3; cases h1; cases h2; cases h3; decide) ?_
  refine Al_st (St_gd [11] rfl rfl rfl rfl ⟨⟨_, rfl⟩, trivial⟩ (fun hg12 => Pu_cmp rfl rfl rfl rfl)) rfl (by decide) (by kernel_rfl) (by intro j b oj dj h1 h2 h3; cases h1; cases h2; cases h3; decide) ?_
  refine Al_p (Pu_or rfl rfl rfl rfl) ?_
  refine Al_nil ?_
  refine Aw_cond rfl (fun h13 => ?_) (fun h13 => ?_)
  · (try simp only [decide_eq_true_eq, decide_eq_false_iff_not, Bool.and_eq_true, Bool.or_eq_true, Bool.and_eq_false_iff, Bool.or_eq_false_iff, Bool.not_eq_true', Bool.not_eq_false', beq_iff_eq, Bool.not_eq_eq_eq_not, Bool.not_true, Bool.not_false, List.length_map, Bool.and_true, Bool.and_false, Bool.false_and, Bool.true_and, Bool.or_false, Bool.false_or] at h13)
    have hno : H.causal s = false := by
      unfold H.causal
      rcases h13 with h | h
      · rw [decide_eq_false h]; rfl
      · rw [decide_eq_false h, Bool.and_false]; rfl
    refine Aw_seq (Aw_region ?_)
    refine Al_p Pu_mvr ?_
    refine Al_nil ?_
    refine Aw_ret ?_
    exact Sub.bool hno.symm -- ret 0
  · (try simp only [decide_eq_true_eq, decide_eq_false_iff_not, Bool.and_eq_true, Bool.or_eq_true, Bool.and_eq_false_iff, Bool.or_eq_false_iff, Bool.not_eq_true', Bool.not_eq_false', beq_iff_eq, Bool.not_eq_eq_eq_not, Bool.not_true, Bool.not_false, List.length_map, Bool.and_true, Bool.and_false, Bool.false_and, Bool.true_and, Bool.or_false, Bool.false_or] at h13)
    have hyes : H.causal s = (List.range s.hist.length).all fun i => D.coversB (G.behindN s.hist i) (G.seen s.hist i) := by
      unfold H.causal
      rw [decide_eq_true h13.1, decide_eq_true h13.2, Bool.true_and, Bool.true_and]
    refine Aw_skip (Aw_seq (Aw_seq (Aw_region ?_)))
    refine Al_p (Pu_field 6 rfl Tryz.underlying32 rfl rfl Tryz.sizeOf30 rfl) ?_
    refine Al_p (Pu_load1 rfl Tryz.isAgg30 rfl rfl) ?_
    refine Al_p (Pu_len rfl Tryz.underlying30 rfl (by first | exact List.length_map .. | exact rfl)) ?_
    refine Al_p Pu_mvl ?_
    refine Al_nil (Aw_block ?_)
    refine Aw_loopk (ι := Nat) [1, 16] [] (fun k => [(17, .d (iv k))]) (fun k => []) (fun k => k ≤ s.hist.length ∧ ∀ i, i < k → D.coversB (G.behindN s.hist i) (G.seen s.hist i) = true) (fun k => s.hist.length - k) (0) (⟨Nat.zero_le _, fun i hi => absurd hi (Nat.not_lt_zero _)⟩) ⟨Sub.rfl, trivial⟩ trivial ?_
    rintro k ⟨hk0, hall⟩
    refine Aw_seq (Aw_region ?_)
    refine Al_p (Pu_cmp rfl rfl rfl rfl) ?_
    refine Al_nil (Aw_seq ?_)
    refine Aw_cond rfl (fun h18 => ?_) (fun h18 => ?_)
    · (try simp only [decide_eq_true_eq, decide_eq_false_iff_not, Bool.and_eq_true, Bool.or_eq_true, Bool.and_eq_false_iff, Bool.or_eq_false_iff, Bool.not_eq_true', Bool.not_eq_false', beq_iff_eq, Bool.not_eq_eq_eq_not, Bool.not_true, Bool.not_false, List.length_map, Bool.and_true, Bool.and_false, Bool.false_and, Bool.true_and, Bool.or_false, Bool.false_or] at h18)
      have hk : k < s.hist.length := by omega
      have hbe := hbehind_a s.hist hs.ev (k : Int)
      rw [G.behind_at s.hist hk] at hbe
      have hbg : D.Good (G.behindN s.hist k) := D.mergeL_good _
      have hbl : (G.behindN s.hist k).length ≤ 1000000 := by
        have h1 := D.addAll_len [(s.hist.getD k default).seen, [G.depE (s.hist.getD k default)]].flatten []
        have h2 := hs.ev _ (List.getElem_mem hk)
        have hg : s.hist.getD k default = s.hist[k] := by simp [hk]
        rw [List.flatten_cons, List.length_append, hg] at h1
        have h3 : ([[G.depE s.hist[k]]].flatten).length = 1 := rfl
        unfold G.behindN D.mergeL
        rw [hg, List.flatten_cons]
        simp only [List.length_nil] at h1
        omega
      refine Aw_skip (Aw_seq (Aw_block (Aw_seq (Aw_region ?_))))
      refine Al_p Pu_mvl ?_
      refine Al_p Pu_mvr ?_
      refine Al_nil (Aw_seq ?_)
      refine Aw_draw 10 (by kernel_rfl) (by kernel_rfl) ?_
      refine Dr_p (Pu_field 6 rfl Tryz.underlying32 rfl rfl Tryz.sizeOf30 rfl) ?_
      refine Dr_p (Pu_load1 rfl Tryz.isAgg30 rfl rfl) ?_
      refine Dr_p Pu_mvl ?_
      refine Dr_p (Pu_call (hbe) rfl ⟨Sub.rfl, Sub.rfl, trivial⟩) ?_
      refine Dr_p (Pu_field 6 rfl Tryz.underlying32 rfl rfl Tryz.sizeOf30 rfl) ?_
      refine Dr_p (Pu_load1 rfl Tryz.isAgg30 rfl rfl) ?_
      refine Dr_p Pu_mvl ?_
      refine Dr_p (Pu_call (gseen_a s.hist (by omega) (k : Int)) rfl ⟨Sub.rfl, Sub.rfl, trivial⟩) ?_
      refine Dr_p (Pu_call (covers_a _ _ hbg.srt hbl) rfl ⟨Sub.rfl, Sub.rfl, trivial⟩) ?_
      refine Dr_p (Pu_not rfl rfl) ?_
      refine Dr_nil (Al_nil ?_)
      refine Aw_cond rfl (fun h29 => ?_) (fun h29 => ?_)
      · skip
        have hno : D.coversB (G.behindN s.hist k) (G.seen s.hist k) = false := by simpa using h29
        refine Aw_seq (Aw_region ?_)
        refine Al_p Pu_mvr ?_
        refine Al_nil ?_
        refine Aw_ret ?_
        exact Sub.bool (by rw [hyes]; symm; rw [List.all_eq_false]; exact ⟨k, List.mem_range.2 hk, by rw [hno]; simp⟩) -- ret 1
      · skip
        have hy : D.coversB (G.behindN s.hist k) (G.seen s.hist k) = true := by simpa using h29
        refine Aw_skip (Aw_region ?_)
        refine Al_p (Pu_add rfl rfl rfl (fun h1 h2 => by simp only [A.inI, A.maxI] at *; omega)) ?_
        refine Al_p Pu_mvl ?_
        refine Al_nil ?_
        exact ⟨k + 1, ⟨by omega, fun i hi => by
          rcases Nat.lt_or_ge i k with h | h
          · exact hall i h
          · rw [show i = k from by omega]; exact hy⟩, by omega, Le.ov ⟨Sub.num (by omega), trivial⟩ ⟨Sub.rfl, Sub.rfl, trivial⟩ trivial trivial⟩ -- loop 0 next.0
    · (try simp only [decide_eq_true_eq, decide_eq_false_iff_not, Bool.and_eq_true, Bool.or_eq_true, Bool.and_eq_false_iff, Bool.or_eq_false_iff, Bool.not_eq_true', Bool.not_eq_false', beq_iff_eq, Bool.not_eq_eq_eq_not, Bool.not_true, Bool.not_false, List.length_map, Bool.and_true, Bool.and_false, Bool.false_and, Bool.true_and, Bool.or_false, Bool.false_or] at h18)
      obtain rfl : k = s.hist.length := by omega
      refine Aw_exit (Aw_seq (Aw_region ?_))
      refine Al_p Pu_mvr ?_
      refine Al_nil ?_
      refine Aw_ret ?_
      exact Sub.bool (by rw [hyes]; exact (List.all_eq_true.2 fun i hi => hall i (List.mem_range.1 hi)).symm) -- ret 2
theorem smeet1_a (n : Int) : ACall Tryz.prog 31 [iv n] (bv (decide (n ≠ 0))) := by
  refine ACall_enter (fun _ _ => by kernel_rfl) Tryz.func31 rfl Tryz.ntmps31 Tryz.results31 (Nat.le_of_ble_eq_true rfl) (fun hok M0 w0 hnl => ?_)
  refine Aw_seq (Aw_region ?_)
  refine Al_p Pu_mvr ?_
  refine Al_nil (Aw_seq (Aw_region ?_))
  refine Al_p Pu_mvl ?_
  refine Al_p (Pu_cmp rfl rfl rfl rfl) ?_
  refine Al_p Pu_mvr ?_
  refine Al_nil ?_
  refine Aw_ret ?_
  exact Sub.bool (by simp) -- ret 0
set_option maxHeartbeats 2000000 in
theorem smeets_a (s : SSt) (hs : H.SOk s) : ACall Tryz.prog 11 [.row s.cells] (bv (H.meets s)) := by
  refine ACall_enter (fun _ _ => by kernel_rfl) Tryz.func11 rfl Tryz.ntmps11 Tryz.results11 (Nat.le_of_ble_eq_true rfl) (fun hok M0 w0 hnl => ?_)
  have hn := hs.hn
  have hl := hs.hl
  refine Aw_seq (Aw_region ?_)
  refine Al_p (Pu_boxN rfl rfl) ?_
  refine Al_p Pu_mvr ?_
  refine Al_nil (Aw_seq (Aw_seq (Aw_region ?_)))
  refine Al_p (Pu_field 7 rfl Tryz.underlying32 rfl rfl Tryz.sizeOf4 rfl) ?_
  refine Al_p (Pu_load1 rfl Tryz.isAgg4 rfl rfl) ?_
  refine Al_p (Pu_not rfl rfl) ?_
  refine Al_p Pu_mvl ?_
  refine Al_st (St_gd [] rfl rfl rfl rfl trivial (fun hg11 => Pu_field 4 rfl Tryz.underlying32 rfl rfl Tryz.sizeOf22 rfl)) rfl (by decide) (by kernel_rfl) (by intro j b oj dj h1 h2 h3; cases h1; cases h2; cases h3; decide) ?_
  refine Al_st (St_gd [11] rfl rfl rfl rfl ⟨⟨_, rfl⟩, trivial⟩ (fun hg12 => Pu_load1 rfl Tryz.isAgg22 rfl rfl)) rfl (by decide) (by kernel_rfl) (by intro j b oj dj h1 h2 h3; cases h1; cases h2; cases h3; decide) ?_
  refine Al_st (St_gd [12] rfl rfl rfl rfl ⟨⟨_, rfl⟩, trivial⟩ (fun hg13 => Pu_call (containsI_a s.wait 31 [] (fun n => decide (n ≠ 0)) (fun n => smeet1_a n)) rfl ⟨Sub.rfl, Sub.rfl, trivial⟩)) rfl (by decide) (by kernel_rfl) (by intro j b oj dj h1 h2 h3; cases h1; cases h2; cases h3; decide) ?_
  refine Al_p (Pu_or rfl rfl rfl rfl) ?_
  refine Al_nil ?_
  refine Aw_cond rfl (fun h14 => ?_) (fun h14 => ?_)
  · skip
    have hyes : H.meets s = true := by unfold H.meets; rw [h14]; rfl
    refine Aw_seq (Aw_region ?_)
    refine Al_p Pu_mvr ?_
    refine Al_nil ?_
    refine Aw_ret ?_
    exact Sub.bool hyes.symm -- ret 0
  · skip
    have hM : H.meets s = s.hist.all (H.meetE s) := by unfold H.meets; rw [h14]; rfl
    refine Aw_skip (Aw_seq (Aw_seq (Aw_region ?_)))
    refine Al_p (Pu_field 6 rfl Tryz.underlying32 rfl rfl Tryz.sizeOf30 rfl) ?_
    refine Al_p (Pu_load1 rfl Tryz.isAgg30 rfl rfl) ?_
    refine Al_p (Pu_len rfl Tryz.underlying30 rfl (by first | exact List.length_map .. | exact rfl)) ?_
    refine Al_p Pu_mvl ?_
    refine Al_nil (Aw_block ?_)
    refine Aw_loopk (ι := Nat) [1, 16, 17] [] (fun k => [(18, .d (iv k))]) (fun k => []) (fun k => k ≤ s.hist.length ∧ (s.hist.take k).all (H.meetE s) = true) (fun k => s.hist.length - k) (0) (⟨Nat.zero_le _, rfl⟩) ⟨Sub.rfl, trivial⟩ trivial ?_
    rintro k ⟨hk0, hall⟩
    refine Aw_seq (Aw_region ?_)
    refine Al_p (Pu_cmp rfl rfl rfl rfl) ?_
    refine Al_nil (Aw_seq ?_)
    refine Aw_cond rfl (fun h19 => ?_) (fun h19 => ?_)
    · (try simp only [decide_eq_true_eq, decide_eq_false_iff_not, Bool.and_eq_true, Bool.or_eq_true, Bool.and_eq_false_iff, Bool.or_eq_false_iff, Bool.not_eq_true', Bool.not_eq_false', beq_iff_eq, Bool.not_eq_eq_eq_not, Bool.not_true, Bool.not_false, List.length_map, Bool.and_true, Bool.and_false, Bool.false_and, Bool.true_and, Bool.or_false, Bool.false_or] at h19)
      have hk : k < s.hist.length := by omega
      have hsn : (s.hist.take (k + 1)).all (H.meetE s) = H.meetE s s.hist[k] := by
        rw [List.take_succ_eq_append_getElem hk, List.all_append, hall, Bool.true_and]; simp
      refine Aw_skip ?_
      -- join 0: live [1, 16, 17, 18], turned []
      refine Aw_seq (Aw_block (Aw_seq (Aw_region ?_)))
      refine Al_p (Pu_index rfl Tryz.underlying30 Tryz.sizeOf51 rfl rfl (rfl) (mapget hk)) ?_
      refine Al_p (Pu_loadN rfl Tryz.isAgg51 Tryz.sizeOf51 rfl (Nat.le_of_ble_eq_true rfl)) ?_
      refine Al_alloc rfl rfl rfl (by decide) Tryz.zeroValue51 rfl (by kernel_rfl) (fun g4 => ?_)
      refine Al_storeN rfl rfl rfl (by kernel_rfl) Tryz.isAgg51 Tryz.sizeOf51 rfl rfl rfl rfl (Nat.le_of_ble_eq_true rfl) ?_
      refine Al_nil (Aw_seq (Aw_seq (Aw_region ?_)))
      refine Al_p (Pu_fieldb 0 rfl Tryz.underlying51 rfl rfl Tryz.sizeOf3 rfl) ?_
      refine Al_p (Pu_loadb rfl Tryz.isAgg3 rfl rfl rfl) ?_
      refine Al_p (Pu_cmp rfl rfl rfl rfl) ?_
      refine Al_nil ?_
      refine Aw_cond rfl (fun h24 => ?_) (fun h24 => ?_)
      · (try simp only [decide_eq_true_eq, decide_eq_false_iff_not, Bool.and_eq_true, Bool.or_eq_true, Bool.and_eq_false_iff, Bool.or_eq_false_iff, Bool.not_eq_true', Bool.not_eq_false', beq_iff_eq, Bool.not_eq_eq_eq_not, Bool.not_true, Bool.not_false, List.length_map, Bool.and_true, Bool.and_false, Bool.false_and, Bool.true_and, Bool.or_false, Bool.false_or] at h24)
        have he : H.meetE s s.hist[k] = true := by unfold H.meetE; rw [decide_eq_true h24]; rfl
        refine Aw_exit (Aw_region ?_)
        refine Al_p (Pu_add rfl rfl rfl (fun h1 h2 => by simp only [A.inI, A.maxI] at *; omega)) ?_
        refine Al_p Pu_mvl ?_
        refine Al_nil ?_
        exact ⟨k + 1, ⟨by omega, by rw [hsn]; exact he⟩, by omega, Le.ov ⟨Sub.num (by omega), trivial⟩ ⟨Sub.rfl, Sub.rfl, Sub.rfl, trivial⟩ trivial trivial⟩ -- loop 0 next.0
      · (try simp only [decide_eq_true_eq, decide_eq_false_iff_not, Bool.and_eq_true, Bool.or_eq_true, Bool.and_eq_false_iff, Bool.or_eq_false_iff, Bool.not_eq_true', Bool.not_eq_false', beq_iff_eq, Bool.not_eq_eq_eq_not, Bool.not_true, Bool.not_false, List.length_map, Bool.and_true, Bool.and_false, Bool.false_and, Bool.true_and, Bool.or_false, Bool.false_or] at h24)
        have he : H.meetE s s.hist[k] = (List.range s.have'.length).all fun i => !(T.bit (T.owners s.row s.hist[k].key) i && decide (D.get (s.have'.getD i default) s.hist[k].key ≠ D.maxS (H.writes s.hist s.hist[k].key))) := by unfold H.meetE; rw [decide_eq_false (by simpa using h24)]; rfl
        refine Aw_skip (Aw_seq (Aw_region ?_))
        refine Al_p (Pu_field 6 rfl Tryz.underlying32 rfl rfl Tryz.sizeOf30 rfl) ?_
        refine Al_p (Pu_load1 rfl Tryz.isAgg30 rfl rfl) ?_
        refine Al_p (Pu_fieldb 2 rfl Tryz.underlying51 rfl rfl Tryz.sizeOf9 rfl) ?_
        refine Al_p (Pu_loadb rfl Tryz.isAgg9 rfl rfl rfl) ?_
        refine Al_p (Pu_call (hgreatest_a s.hist s.hist[k].key (by omega)) rfl ⟨Sub.rfl, Sub.rfl, trivial⟩) ?_
        refine Al_alloc rfl rfl rfl (by decide) Tryz.zeroValue43 rfl (by kernel_rfl) (fun g5 => ?_)
        refine Al_storeN rfl rfl rfl (by kernel_rfl) Tryz.isAgg43 Tryz.sizeOf43 rfl rfl rfl rfl (Nat.le_of_ble_eq_true rfl) ?_
        refine Al_nil (Aw_seq (Aw_region ?_))
        refine Al_p (Pu_field 3 rfl Tryz.underlying32 rfl rfl Tryz.sizeOf28 rfl) ?_
        refine Al_p (Pu_load1 rfl Tryz.isAgg28 rfl rfl) ?_
        refine Al_p (Pu_len rfl Tryz.underlying28 rfl (by first | exact List.length_map .. | exact rfl)) ?_
        refine Al_p Pu_mvl ?_
        refine Al_nil (Aw_block ?_)
        refine Aw_loopk (ι := Nat) [1, 4, 5, 16, 17, 18, 32] [4, 5] (fun i => [(33, .d (iv i))]) (fun i => []) (fun i => i ≤ s.have'.length ∧ ∀ a, a < i → (!(T.bit (T.owners s.row s.hist[k].key) (a : Nat) && decide (D.get (s.have'.getD a default) s.hist[k].key ≠ D.maxS (H.writes s.hist s.hist[k].key)))) = true) (fun i => s.have'.length - i) (0) (⟨Nat.zero_le _, fun i hi => absurd hi (Nat.not_lt_zero _)⟩) ⟨Sub.rfl, trivial⟩ trivial ?_
        rintro i ⟨hk1, hin⟩
        refine Aw_seq (Aw_region ?_)
        refine Al_p (Pu_cmp rfl rfl rfl rfl) ?_
        refine Al_nil (Aw_seq ?_)
        refine Aw_cond rfl (fun h34 => ?_) (fun h34 => ?_)
        · (try simp only [decide_eq_true_eq, decide_eq_false_iff_not, Bool.and_eq_true, Bool.or_eq_true, Bool.and_eq_false_iff, Bool.or_eq_false_iff, Bool.not_eq_true', Bool.not_eq_false', beq_iff_eq, Bool.not_eq_eq_eq_not, Bool.not_true, Bool.not_false, List.length_map, Bool.and_true, Bool.and_false, Bool.false_and, Bool.true_and, Bool.or_false, Bool.false_or] at h34)
          have hi : i < s.have'.length := by omega
          have hg : s.have'.getD i default = s.have'[i] := by simp [hi]
          have hgd := hs.hv _ (List.getElem_mem hi)
          rw [← hg] at hgd
          have hne : ∀ a b : Int × Int, (!((a.1 == b.1) && (a.2 == b.2))) = decide (a ≠ b) := fun a b => by
            by_cases h : a = b
            · subst h; simp
            · rw [decide_eq_true (p := a ≠ b) h, Bool.not_eq_true', Bool.and_eq_false_iff, beq_eq_false_iff_ne, beq_eq_false_iff_ne]
              by_cases h1 : a.1 = b.1
              · exact .inr fun h2 => h (Prod.ext h1 h2)
              · exact .inl h1
          have hgl : (s.have'.getD i default).length ≤ 1000000 := by omega
          have hpg := pget_a (s.have'.getD i default) (s.hist[k]'hk).key hgd.1.srt hgl
          refine Aw_skip (Aw_seq (Aw_block (Aw_seq (Aw_region ?_))))
          refine Al_p Pu_mvl ?_
          refine Al_p Pu_mvr ?_
          refine Al_nil (Aw_seq ?_)
          refine Aw_draw 18 (by kernel_rfl) (by kernel_rfl) ?_
          refine Dr_p (Pu_field 0 rfl Tryz.underlying32 rfl rfl Tryz.sizeOf27 rfl) ?_
          refine Dr_p (Pu_loadN rfl Tryz.isAgg27 Tryz.sizeOf27 rfl (Nat.le_of_ble_eq_true rfl)) ?_
          refine Dr_p Pu_mvl ?_
          refine Dr_p (Pu_fieldb 2 rfl Tryz.underlying51 rfl rfl Tryz.sizeOf9 rfl) ?_
          refine Dr_p (Pu_loadb rfl Tryz.isAgg9 rfl rfl rfl) ?_
          refine Dr_p (Pu_call (owns_a s.row i s.hist[k].key) rfl ⟨Sub.rfl, Sub.rfl, Sub.rfl, trivial⟩) ?_
          refine Dr_p Pu_mvl ?_
          refine Dr_st (St_gd [] rfl rfl rfl rfl trivial (fun hg43 => Pu_field 3 rfl Tryz.underlying32 rfl rfl Tryz.sizeOf28 rfl)) rfl ?_
          refine Dr_st (St_gd [43] rfl rfl rfl rfl ⟨⟨_, rfl⟩, trivial⟩ (fun hg44 => Pu_load1 rfl Tryz.isAgg28 rfl rfl)) rfl ?_
          refine Dr_st (St_gd [] rfl rfl rfl rfl trivial (fun hg45 => by exact Pu_move (.inl rfl) (by conv => lhs; whnf))) rfl ?_
          refine Dr_st (St_gd [44, 45] rfl rfl rfl rfl ⟨⟨_, rfl⟩, ⟨_, rfl⟩, trivial⟩ (fun hg46 => Pu_index rfl Tryz.underlying28 Tryz.sizeOf46 rfl rfl (rfl) (mapgetD (d := default) hi))) rfl ?_
          refine Dr_st (St_gd [46] rfl rfl rfl rfl ⟨⟨_, rfl⟩, trivial⟩ (fun hg47 => Pu_load1 rfl Tryz.isAgg46 rfl rfl)) rfl ?_
          refine Dr_st (St_gd [] rfl rfl rfl rfl trivial (fun hg48 => Pu_fieldb 2 rfl Tryz.underlying51 rfl rfl Tryz.sizeOf9 rfl)) rfl ?_
          refine Dr_st (St_gd [48] rfl rfl rfl rfl ⟨⟨_, rfl⟩, trivial⟩ (fun hg49 => Pu_loadb rfl Tryz.isAgg9 rfl rfl rfl)) rfl ?_
          refine Dr_st (St_gd [47, 49] rfl rfl rfl rfl ⟨⟨_, rfl⟩, ⟨_, rfl⟩, trivial⟩ (fun hg50 => Pu_call (hpg) rfl ⟨Sub.rfl, Sub.rfl, trivial⟩)) rfl ?_
          refine Dr_st (St_gd [] rfl rfl rfl rfl trivial (fun hg51 => Pu_loadbN (r := [_, _]) rfl Tryz.isAgg43 Tryz.sizeOf43 rfl rfl rfl rfl)) rfl ?_
          refine Dr_st (St_gd [50, 51] rfl rfl rfl rfl ⟨⟨_, rfl⟩, ⟨_, rfl⟩, trivial⟩ (fun hg52 => Pu_eqrow [.int .i64 _, .int .i64 _] [.int .i64 _, .int .i64 _] (fun w => nev43 _ _ _ _ _ _ w) rfl rfl rfl)) rfl ?_
          refine Dr_p (Pu_and rfl rfl rfl rfl) ?_
          refine Dr_nil (Al_nil ?_)
          refine Aw_cond rfl (fun h53 => ?_) (fun h53 => ?_)
          · skip
            have hno : (!(T.bit (T.owners s.row s.hist[k].key) (i : Nat) && decide (D.get (s.have'.getD i default) s.hist[k].key ≠ D.maxS (H.writes s.hist s.hist[k].key)))) = false := by
              rw [← hne, h53]; rfl
            refine Aw_seq (Aw_region ?_)
            refine Al_p Pu_mvr ?_
            refine Al_nil ?_
            refine Aw_ret ?_
            exact Sub.bool (by
              rw [hM]; symm; rw [List.all_eq_false]
              refine ⟨_, List.getElem_mem hk, ?_⟩
              rw [he, Bool.not_eq_true, List.all_eq_false]
              exact ⟨i, List.mem_range.2 hi, by rw [hno]; simp⟩) -- ret 1
          · skip
            have hy : (!(T.bit (T.owners s.row s.hist[k].key) (i : Nat) && decide (D.get (s.have'.getD i default) s.hist[k].key ≠ D.maxS (H.writes s.hist s.hist[k].key)))) = true := by
              rw [← hne, h53]; rfl
            refine Aw_skip (Aw_region ?_)
            refine Al_p (Pu_add rfl rfl rfl (fun h1 h2 => by simp only [A.inI, A.maxI] at *; omega)) ?_
            refine Al_p Pu_mvl ?_
            refine Al_nil ?_
            exact ⟨i + 1, ⟨by omega, fun a ha => by
              rcases Nat.lt_or_ge a i with h | h
              · exact hin a h
              · rw [show a = i from by omega]; exact hy⟩, by omega, Le.ov ⟨Sub.num (by omega), trivial⟩ ⟨Sub.rfl, Sub.rfl, Sub.rfl, Sub.rfl, Sub.rfl, Sub.rfl, Sub.rfl, trivial⟩ trivial ⟨rfl, rfl, trivial⟩⟩ -- loop 1 next.0
        · (try simp only [decide_eq_true_eq, decide_eq_false_iff_not, Bool.and_eq_true, Bool.or_eq_true, Bool.and_eq_false_iff, Bool.or_eq_false_iff, Bool.not_eq_true', Bool.not_eq_false', beq_iff_eq, Bool.not_eq_eq_eq_not, Bool.not_true, Bool.not_false, List.length_map, Bool.and_true, Bool.and_false, Bool.false_and, Bool.true_and, Bool.or_false, Bool.false_or] at h34)
          obtain rfl : i = s.have'.length := by omega
          refine Aw_exit (Aw_region ?_)
          refine Al_p (Pu_add rfl rfl rfl (fun h1 h2 => by simp only [A.inI, A.maxI] at *; omega)) ?_
          refine Al_p Pu_mvl ?_
          refine Al_nil ?_
          exact ⟨k + 1, ⟨by omega, by rw [hsn, he]; exact List.all_eq_true.2 fun a ha => hin a (List.mem_range.1 ha)⟩, by omega, Le.ov ⟨Sub.num (by omega), trivial⟩ ⟨Sub.rfl, Sub.rfl, Sub.rfl, trivial⟩ trivial trivial⟩ -- loop 0 next.1
    · (try simp only [decide_eq_true_eq, decide_eq_false_iff_not, Bool.and_eq_true, Bool.or_eq_true, Bool.and_eq_false_iff, Bool.or_eq_false_iff, Bool.not_eq_true', Bool.not_eq_false', beq_iff_eq, Bool.not_eq_eq_eq_not, Bool.not_true, Bool.not_false, List.length_map, Bool.and_true, Bool.and_false, Bool.false_and, Bool.true_and, Bool.or_false, Bool.false_or] at h19)
      obtain rfl : k = s.hist.length := by omega
      rw [List.take_length] at hall
      refine Aw_exit (Aw_seq (Aw_region ?_))
      refine Al_p Pu_mvr ?_
      refine Al_nil ?_
      refine Aw_ret ?_
      exact Sub.bool (by rw [hM]; exact hall.symm) -- ret 2
end Go.Proofs.YtojehmkkbdedaaaGreat
end

section
namespace Go.Proofs.YtojehmkkbdedaaaGreat.A
open Go Go.RowKit
abbrev byteA (bs : List UInt8) : List (List AV) := colA (fun c : UInt8 => Value.int .u8 c.toNat) bs
section
variable {P : Program} {N : Nat} {M0 : Nat → Prop} {w0 : Base} {ops : Array Oper} {Q : Exit → ASt → Prop} {o : Oper} {l : List Oper} {st : ASt}
theorem byteA_at {bs : List UInt8} {i : Nat} (hi : i < bs.length) : (byteA bs)[i]? = some [.v (.int .u8 bs[i].toNat)] := by simp [byteA, colA, hi]
theorem byteA_len (bs : List UInt8) : (byteA bs).length = bs.length := by simp [byteA, colA]
theorem Pu_convBS {f t e : TypeId} {x : Operand} {bs : List UInt8} (ho : o.op = .convert f t x) (hf : P.underlying f = some (.slice e)) (he : P.underlying e = some (.int .u8)) (ht : P.underlying t = some .string) (hx : st.ev x = .d (.sl 1 (byteA bs))) : Pu P st o (.d (tv (V.ba bs))) := Pu_q fun B M ρ w a h2 _ => by
  have hm := h2 x (by simp [opsOf, ho, Op.operands])
  rw [hx] at hm
  have key : ∃ v, (convert f t (a.eval x)).run P w = .ok (.string (V.ba bs)) w ∧ bs.length ≤ maxI ∧ v = a.eval x := by
    have hm' : Rep M w (.sl 1 (byteA bs)) (a.eval x) := hm
    generalize a.eval x = y at hm'
    generalize hbl : byteA bs = rows at hm'
    have hlen : rows.length = bs.length := by rw [← hbl, byteA_len]
    cases hm' with
    | nil n a c =>
      have h0 : bs = [] := List.eq_nil_of_length_eq_zero (by simpa using hlen.symm)
      subst h0
      refine ⟨_, ?_, by simp, rfl⟩
      cases a with
      | none => exact run_convert_bytes_nil w f e hf he 0 c t ht
      | some a => exact run_convert_bytes_back w f t e a c [] hf he ht (fun j hj => by simp at hj)
    | sl n rows b o' cap g hl hcap hn hc hr =>
      refine ⟨_, ?_, by omega, rfl⟩
      have h := run_convert_bytes_back (P := P) w f t e ⟨b, o', none⟩ cap bs hf he ht (fun j hj => by
        have hat : rows[j]? = some [.v (.int .u8 bs[j].toNat)] := by rw [← hbl]; exact byteA_at hj
        obtain ⟨_, h5, _⟩ := hc j _ 0 _ hat rfl
        have h6 := hr j _ 0 _ hat rfl
        have h7 := (rep_v (ρ := fun _ _ => none) (show SRep M w (fun _ _ => none) (.d (.v (.int .u8 bs[j].toNat))) (g j 0) from h6)).1
        rw [h7] at h5
        rw [add_addr]
        rw [show o' + j * 1 + 0 = o' + j from by omega] at h5
        exact h5)
      rw [hlen]; exact h
  obtain ⟨v, h3, h4, _⟩ := key
  refine ⟨.string (V.ba bs), ?_, .v _ (by show (V.ba bs).size ≤ maxI; rw [A.ba_sz]; exact h4)⟩
  simp only [execOp, ho, Sem.run_bind, h3, Result.andThen_ok, Sem.run_pure]
end
end Go.Proofs.YtojehmkkbdedaaaGreat.A
end

section
namespace Go.Proofs.YtojehmkkbdedaaaGreat
open Go.RowKit A R
open A.RowT
structure QSpec where
  e : List Int
  o : List Int
  p : List Int
abbrev intsA (l : List Int) : List (List AV) := l.map fun x => [iv x]
def QSpec.row (q : QSpec) : List AV := [.sl 1 (intsA q.e), .sl 1 (intsA q.o), .sl 1 (intsA q.p)]
namespace QSpec
def par (x : Int) (i : Nat) : Int := (x.tmod ((i : Int) + 2) + i + 2).tmod ((i : Int) + 2)
def pars1 (q : QSpec) (k : Nat) : List Int := [-1, 0] ++ (List.range k).map fun i => par (q.p.getD i 0) i
def p2 (q : QSpec) (i : Nat) : Int := if i < q.p.length then ((q.p.getD i 0).tmod (i : Int) + i).tmod (i : Int) else 0
def m1 (q : QSpec) (n : Nat) : Nat := if n = 0 then min q.p.length 3 else 0
def pars2 (q : QSpec) (n k : Nat) : List Int := pars1 q (m1 q n) ++ (List.range (k - 2)).map fun j => p2 q (j + 2)
def pars (q : QSpec) (n : Nat) : List Int := pars2 q n n
def wd (x : Int) : ByteArray := V.ba [UInt8.ofNat ((x.tmod 8 + 8).tmod 8).toNat + 97]
def above (a : ByteArray) (x : Int) : Bool := !(Op.bytesLess (wd x).toList a.toList || (wd x).toList == a.toList)
def estep (s : ByteArray × List Rng) (x : Int) : ByteArray × List Rng := if above s.1 x then (wd x, s.2 ++ [⟨s.1, wd x⟩]) else s
def ewalk (l : List Int) : ByteArray × List Rng := l.foldl estep (⟨#[]⟩, [])
def endR (s : ByteArray) : Rng := ⟨s, ⟨#[]⟩⟩
def rngs (q : QSpec) : List Rng := (ewalk (q.e.take 4)).2 ++ [endR (ewalk (q.e.take 4)).1]
def ownZ (all : Int) (l : List Int) (i : Nat) : Int := if i < l.length then ((l.getD i 0).tmod (all - 1) + all - 1).tmod (all - 1) else all - 2
def own (all : Int) (l : List Int) (i : Nat) : Int := 1 + ownZ all l i
def all (q : QSpec) (n : Nat) : Int := ((2 ^ (q.pars n).length : Nat) : Int)
def mkR (q : QSpec) (n : Nat) : SRow := ⟨q.rngs, (List.range q.rngs.length).map (own (q.all n) q.o), q.pars n⟩
theorem pars1_len (q : QSpec) (k : Nat) : (pars1 q k).length = k + 2 := by simp [pars1]
theorem pars1_succ (q : QSpec) (k : Nat) : pars1 q (k + 1) = pars1 q k ++ [par (q.p.getD k 0) k] := by simp [pars1, List.range_succ]
theorem pars2_len (q : QSpec) (n k : Nat) : (pars2 q n k).length = m1 q n + 2 + (k - 2) := by simp [pars2, pars1_len]
theorem pars2_succ (q : QSpec) (n : Nat) {k : Nat} (h : 2 ≤ k) : pars2 q n (k + 1) = pars2 q n k ++ [p2 q k] := by
  unfold pars2
  rw [show k + 1 - 2 = (k - 2) + 1 from by omega, List.range_succ, List.map_append, List.append_assoc]
  simp [show k - 2 + 2 = k from by omega]
theorem m1_le (q : QSpec) (n : Nat) : m1 q n ≤ 3 := by unfold m1; split <;> omega
theorem pars_len (q : QSpec) {n : Nat} (hn : n ≤ 5) : 2 ≤ (q.pars n).length ∧ (q.pars n).length ≤ 5 := by
  unfold pars
  rw [pars2_len]
  unfold m1
  split <;> omega
theorem tmod_b (x : Int) {n : Int} (h : 0 < n) : -n < x.tmod n ∧ x.tmod n < n := by
  have h1 := Int.tmod_lt_of_pos x h
  have h2 := Int.tmod_lt_of_pos (-x) h
  rw [Int.neg_tmod] at h2
  exact ⟨by omega, h1⟩
theorem ewalk_len (l : List Int) : (ewalk l).2.length ≤ l.length := by
  have key : ∀ (l : List Int) (s : ByteArray × List Rng), (l.foldl estep s).2.length ≤ s.2.length + l.length := by
    intro l
    induction l with
    | nil => intro s; simp
    | cons x l ih =>
      intro s
      have h1 := ih (estep s x)
      have h2 : (estep s x).2.length ≤ s.2.length + 1 := by unfold estep; split <;> simp
      simp only [List.foldl_cons, List.length_cons]
      omega
  have := key l (⟨#[]⟩, [])
  simpa [ewalk] using this
theorem ewalk_take (l : List Int) {k : Nat} (hk : k < l.length) : ewalk (l.take (k + 1)) = estep (ewalk (l.take k)) l[k] := by
  unfold ewalk
  rw [List.take_succ_eq_append_getElem hk, List.foldl_append]; rfl
theorem rngs_len (q : QSpec) : 1 ≤ q.rngs.length ∧ q.rngs.length ≤ 5 := by
  unfold rngs
  have := ewalk_len (q.e.take 4)
  rw [List.length_take] at this
  rw [List.length_append]
  simp; omega
theorem own_b {all : Int} (h : 2 ≤ all) (l : List Int) (i : Nat) : 1 ≤ own all l i ∧ own all l i < all := by
  unfold own ownZ
  split
  · have h1 := tmod_b (l.getD i 0) (n := all - 1) (by omega)
    generalize (l.getD i 0).tmod (all - 1) = y at h1
    have h2 := Int.tmod_lt_of_pos (y + all - 1) (show (0 : Int) < all - 1 by omega)
    have h3 := Int.tmod_nonneg (all - 1) (show 0 ≤ y + all - 1 by omega)
    omega
  · omega
theorem all_b (q : QSpec) {n : Nat} (hn : n ≤ 5) : 4 ≤ q.all n ∧ q.all n ≤ 32 := by
  have hl := pars_len q hn
  unfold all
  have h1 : 2 ^ (q.pars n).length ≤ 2 ^ 5 := Nat.pow_le_pow_right (by omega) hl.2
  have h2 : 2 ^ 2 ≤ 2 ^ (q.pars n).length := Nat.pow_le_pow_right (by omega) hl.1
  omega
theorem letter {z : Int} (h0 : 0 ≤ z) (h1 : z < 8) : (97 + z : Int) = ((UInt8.ofNat z.toNat + 97).toNat : Nat) := by
  rw [UInt8.toNat_add, UInt8.toNat_ofNat']
  show 97 + z = (((z.toNat % 2 ^ 8 + 97) % 2 ^ 8 : Nat) : Int)
  omega
theorem take4 (l : List Int) : l.take (min l.length 4) = l.take 4 := by
  rcases Nat.le_total l.length 4 with h | h
  · rw [Nat.min_eq_left h, List.take_of_length_le (Nat.le_refl _), List.take_of_length_le h]
  · rw [Nat.min_eq_right h]
end QSpec
set_option maxRecDepth 100000 in
set_option maxHeartbeats 4000000 in
theorem qrow_a (q : QSpec) (n : Nat) (hn : n ≤ 5) : ACall Tryz.prog 14 [.row q.row, iv n] (.row (q.mkR n).row) := by
  refine ACall_enterG (fun _ _ => by kernel_rfl) Tryz.func14 rfl Tryz.ntmps14 (Reads.cN Tryz.results14 Tryz.isAgg27 Tryz.sizeOf27) (Nat.le_of_ble_eq_true rfl) (fun hok M0 w0 hnl => ?_)
  have hal := QSpec.all_b q hn
  have hpl := QSpec.pars_len q hn
  have hm3 := QSpec.m1_le q n
  refine Aw_seq (Aw_region ?_)
  refine Al_p (Pu_boxN rfl rfl) ?_
  refine Al_alloc rfl rfl rfl (by decide) Tryz.zeroValue27 rfl (by kernel_rfl) (fun g4 => ?_)
  refine Al_nil (Aw_seq (Aw_region ?_))
  refine Al_sliceLit (aa := [(0, _), (1, _)]) (rows := [[iv (-1)], [iv 0]]) rfl rfl rfl (by decide) (by kernel_rfl) Tryz.underlying22 Tryz.sizeOf3 Tryz.zeroValue3 rfl (by decide) (by decide) (by decide) (by kernel_rfl) ⟨rfl, rfl, rfl, rfl, rfl, rfl, trivial⟩ (rfl) rfl rfl (fun g16 => ?_)
  refine Al_p (Pu_buildAg (aa := [(2, _)]) rfl Tryz.underlying27 Tryz.zeroValue27 (places27 Tryz.underlying27) (by kernel_rfl) ⟨rfl, rfl, trivial⟩ rfl) ?_
  refine Al_alloc rfl rfl rfl (by decide) Tryz.zeroValue27 rfl (by kernel_rfl) (fun g5 => ?_)
  refine Al_storeAg rfl rfl rfl (by kernel_rfl) Tryz.sizeOf27 rfl rfl rfl rfl (Nat.le_of_ble_eq_true rfl) ?_
  refine Al_nil (Aw_seq (Aw_seq ?_))
  refine Aw_owncell (k := 5) 0 (k2 := 105) (e := 41) (n := 2) rfl rfl rfl (fun ga => ?_)
  refine Aw_owncell (k := 5) 1 (k2 := 205) (e := 3) (n := 1) rfl rfl rfl (fun gb => ?_)
  refine Aw_region ?_
  refine Al_p Pu_mvr ?_
  refine Al_nil (Aw_block ?_)
  refine Aw_loopk (ι := Nat × Nat) [1, 2, 4, 5] [105, 205, 4] (fun (k, g) => [(6, .d (iv k))]) (fun (k, g) => [(16, g, .arr 3 1 (intsA (QSpec.pars1 q k))), (5, g5, .box 27 [.ow 105 ga, .ow 205 gb, .ow 16 g])]) (fun (k, g) => k ≤ (QSpec.m1 q n)) (fun (k, g) => (QSpec.m1 q n) - k) ((0, g16)) (Nat.zero_le _) ⟨Sub.rfl, trivial⟩ ⟨rfl, rfl, trivial⟩ ?_
  rintro ⟨k, g⟩ hk0
  refine Aw_seq (Aw_seq (Aw_region ?_))
  refine Al_p Pu_mvl ?_
  refine Al_p (Pu_field 2 rfl Tryz.underlying52 rfl rfl Tryz.sizeOf22 rfl) ?_
  refine Al_p (Pu_load1 rfl Tryz.isAgg22 rfl rfl) ?_
  refine Al_p (Pu_len rfl Tryz.underlying22 rfl (by first | exact List.length_map .. | exact rfl)) ?_
  refine Al_p (Pu_cmp rfl rfl rfl rfl) ?_
  refine Al_p Pu_mvl ?_
  refine Al_st (St_gd [] rfl rfl rfl rfl trivial (fun hg24 => by exact Pu_move (.inl rfl) (by conv => lhs; whnf))) rfl (by decide) (by kernel_rfl) (by intro j b oj dj h1 h2 h3; cases h1; cases h2; cases h3; decide) ?_
  refine Al_st (St_gd [24] rfl rfl rfl rfl ⟨⟨_, rfl⟩, trivial⟩ (fun hg25 => Pu_cmp rfl rfl rfl rfl)) rfl (by decide) (by kernel_rfl) (by intro j b oj dj h1 h2 h3; cases h1; cases h2; cases h3; decide) ?_
  refine Al_p (Pu_and rfl rfl rfl rfl) ?_
  refine Al_p Pu_mvl ?_
  refine Al_st (St_gd [] rfl rfl rfl rfl trivial (fun hg28 => by exact Pu_move (.inl rfl) (by conv => lhs; whnf))) rfl (by decide) (by kernel_rfl) (by intro j b oj dj h1 h2 h3; cases h1; cases h2; cases h3; decide) ?_
  refine Al_st (St_gd [28] rfl rfl rfl rfl ⟨⟨_, rfl⟩, trivial⟩ (fun hg29 => Pu_cmp rfl rfl rfl rfl)) rfl (by decide) (by kernel_rfl) (by intro j b oj dj h1 h2 h3; cases h1; cases h2; cases h3; decide) ?_
  refine Al_p (Pu_and rfl rfl rfl rfl) ?_
  refine Al_nil ?_
  refine Aw_cond rfl (fun h30 => ?_) (fun h30 => ?_)
  · (try simp only [decide_eq_true_eq, decide_eq_false_iff_not, Bool.and_eq_true, Bool.or_eq_true, Bool.and_eq_false_iff, Bool.or_eq_false_iff, Bool.not_eq_true', Bool.not_eq_false', beq_iff_eq, Bool.not_eq_eq_eq_not, Bool.not_true, Bool.not_false, List.length_map, Bool.and_true, Bool.and_false, Bool.false_and, Bool.true_and, Bool.or_false, Bool.false_or] at h30)
    have hk : k < q.p.length := by omega
    have hm2 : QSpec.m1 q n = min q.p.length 3 := by unfold QSpec.m1; rw [if_pos (by omega)]
    have hb1 := QSpec.tmod_b (q.p[k]'hk) (n := (k : Int) + 2) (by omega)
    have hpl0 := QSpec.pars1_len q k
    refine Aw_skip (Aw_seq (Aw_block ?_))
    refine Aw_draw 17 (by kernel_rfl) (by kernel_rfl) ?_
    refine Dr_p (Pu_fieldb 2 rfl Tryz.underlying27 rfl rfl Tryz.sizeOf22 rfl) ?_
    refine Dr_p (Pu_loadb rfl Tryz.isAgg22 rfl rfl rfl) ?_
    refine Dr_p (Pu_field 2 rfl Tryz.underlying52 rfl rfl Tryz.sizeOf22 rfl) ?_
    refine Dr_p (Pu_load1 rfl Tryz.isAgg22 rfl rfl) ?_
    refine Dr_p Pu_mvl ?_
    refine Dr_p (Pu_index rfl Tryz.underlying22 Tryz.sizeOf3 rfl rfl (rfl) (mapget hk)) ?_
    refine Dr_p (Pu_load1 rfl Tryz.isAgg3 rfl rfl) ?_
    refine Dr_p Pu_mvl ?_
    refine Dr_p (Pu_add rfl rfl rfl (fun h1 h2 => by simp only [A.inI, A.maxI] at *; omega)) ?_
    refine Dr_p (Pu_rem rfl rfl rfl (by omega) rfl) ?_
    refine Dr_p Pu_mvl ?_
    refine Dr_p (Pu_add rfl rfl rfl (fun h1 h2 => by simp only [A.inI, A.maxI] at *; omega)) ?_
    refine Dr_p (Pu_add rfl rfl rfl (fun h1 h2 => by simp only [A.inI, A.maxI] at *; omega)) ?_
    refine Dr_p Pu_mvl ?_
    refine Dr_p (Pu_add rfl rfl rfl (fun h1 h2 => by simp only [A.inI, A.maxI] at *; omega)) ?_
    refine Dr_p (Pu_rem rfl rfl rfl (by omega) rfl) ?_
    refine Dr_p (Pu_slice1 rfl Tryz.underlying22 Tryz.sizeOf3 Tryz.zeroValue3 rfl (by decide) (by decide) (by kernel_rfl) rfl rfl rfl) ?_
    refine Dr_nil ?_
    refine Al_append rfl rfl rfl (by decide) (by kernel_rfl) elem22 (by decide) Tryz.sizeOf3 rfl rfl rfl (by rw [List.length_map]; simp; omega) (by decide) (fun g50 => ?_)
    refine Al_p (Pu_fieldb 2 rfl Tryz.underlying27 rfl rfl Tryz.sizeOf22 rfl) ?_
    refine Al_store1 rfl rfl rfl (by kernel_rfl) Tryz.isAgg22 Tryz.sizeOf22 rfl rfl (Nat.le_of_ble_eq_true rfl) (by conv => lhs; whnf) rfl ?_
    refine Al_nil (Aw_region ?_)
    refine Al_p Pu_mvl ?_
    refine Al_p (Pu_add rfl rfl rfl (fun h1 h2 => by simp only [A.inI, A.maxI] at *; omega)) ?_
    refine Al_p Pu_mvr ?_
    refine Al_nil ?_
    exact ⟨(k + 1, g50), by omega, by simp only []; omega, Le.ov ⟨Sub.num (by omega), trivial⟩ ⟨Sub.rfl, Sub.rfl, Sub.rfl, Sub.rfl, trivial⟩ ⟨obeq (by rw [QSpec.pars1_succ]; simp [A.cellsA, QSpec.par, hk]), rfl, trivial⟩ ⟨rfl, rfl, rfl, trivial⟩⟩ -- loop 0 next.0
  · (try simp only [decide_eq_true_eq, decide_eq_false_iff_not, Bool.and_eq_true, Bool.or_eq_true, Bool.and_eq_false_iff, Bool.or_eq_false_iff, Bool.not_eq_true', Bool.not_eq_false', beq_iff_eq, Bool.not_eq_eq_eq_not, Bool.not_true, Bool.not_false, List.length_map, Bool.and_true, Bool.and_false, Bool.false_and, Bool.true_and, Bool.or_false, Bool.false_or] at h30)
    have hkm : k = QSpec.m1 q n := by
      have hk1 : k ≤ QSpec.m1 q n := hk0
      by_cases h : n = 0
      · have hm2 : QSpec.m1 q n = min q.p.length 3 := by unfold QSpec.m1; rw [if_pos h]
        omega
      · have hm2 : QSpec.m1 q n = 0 := by unfold QSpec.m1; rw [if_neg h]
        omega
    refine Aw_exit (Aw_seq (Aw_seq (Aw_region ?_)))
    refine Al_p Pu_mvr ?_
    refine Al_nil (Aw_block ?_)
    refine Aw_loopk (ι := Nat × Nat) [1, 2, 4, 5] [105, 205, 4] (fun (k1, g1) => [(7, .d (iv k1))]) (fun (k1, g1) => [(16, g1, .arr 3 1 (intsA (QSpec.pars2 q n k1))), (5, g5, .box 27 [.ow 105 ga, .ow 205 gb, .ow 16 g1])]) (fun (k1, g1) => 2 ≤ k1 ∧ (k1 ≤ n ∨ k1 = 2)) (fun (k1, g1) => n - k1) (2, g) (⟨Nat.le_refl _, .inr rfl⟩) ⟨Sub.rfl, trivial⟩ ⟨obeq (by rw [hkm]; simp [QSpec.pars2]), rfl, trivial⟩ ?_
    rintro ⟨k1, g1⟩ ⟨hk2, hk3⟩
    refine Aw_seq (Aw_seq (Aw_region ?_))
    refine Al_p Pu_mvl ?_
    refine Al_p Pu_mvl ?_
    refine Al_p (Pu_cmp rfl rfl rfl rfl) ?_
    refine Al_nil ?_
    refine Aw_cond rfl (fun h54 => ?_) (fun h54 => ?_)
    · (try simp only [decide_eq_true_eq, decide_eq_false_iff_not, Bool.and_eq_true, Bool.or_eq_true, Bool.and_eq_false_iff, Bool.or_eq_false_iff, Bool.not_eq_true', Bool.not_eq_false', beq_iff_eq, Bool.not_eq_eq_eq_not, Bool.not_true, Bool.not_false, List.length_map, Bool.and_true, Bool.and_false, Bool.false_and, Bool.true_and, Bool.or_false, Bool.false_or] at h54)
      have hpl2 := QSpec.pars2_len q n k1
      refine Aw_skip ?_
      -- join 0: live [1, 2, 4, 5, 7], turned []
      refine Aw_seq (Aw_block (Aw_seq (Aw_region ?_)))
      refine Al_p Pu_mvr ?_
      refine Al_nil ?_
      refine Aw_join (ι := Unit) [1, 2, 4, 5, 7] [105, 205, 16, 5, 4] (fun _ => [(8, .d (iv (QSpec.p2 q k1)))]) (fun _ => []) (fun _ => True) ?_ ?_ -- join 1
      · refine Aw_seq (Aw_region ?_)
        refine Al_p Pu_mvl ?_
        refine Al_p (Pu_field 2 rfl Tryz.underlying52 rfl rfl Tryz.sizeOf22 rfl) ?_
        refine Al_p (Pu_load1 rfl Tryz.isAgg22 rfl rfl) ?_
        refine Al_p (Pu_len rfl Tryz.underlying22 rfl (by first | exact List.length_map .. | exact rfl)) ?_
        refine Al_p (Pu_cmp rfl rfl rfl rfl) ?_
        refine Al_nil ?_
        refine Aw_cond rfl (fun h61 => ?_) (fun h61 => ?_)
        · (try simp only [decide_eq_true_eq, decide_eq_false_iff_not, Bool.and_eq_true, Bool.or_eq_true, Bool.and_eq_false_iff, Bool.or_eq_false_iff, Bool.not_eq_true', Bool.not_eq_false', beq_iff_eq, Bool.not_eq_eq_eq_not, Bool.not_true, Bool.not_false, List.length_map, Bool.and_true, Bool.and_false, Bool.false_and, Bool.true_and, Bool.or_false, Bool.false_or] at h61)
          have hkp : k1 < q.p.length := by omega
          have hb1 := QSpec.tmod_b (q.p[k1]'hkp) (n := (k1 : Int)) (by omega)
          refine Aw_region ?_
          refine Al_p (Pu_field 2 rfl Tryz.underlying52 rfl rfl Tryz.sizeOf22 rfl) ?_
          refine Al_p (Pu_load1 rfl Tryz.isAgg22 rfl rfl) ?_
          refine Al_p Pu_mvl ?_
          refine Al_p (Pu_index rfl Tryz.underlying22 Tryz.sizeOf3 rfl rfl (rfl) (mapget hkp)) ?_
          refine Al_p (Pu_load1 rfl Tryz.isAgg3 rfl rfl) ?_
          refine Al_p Pu_mvl ?_
          refine Al_p (Pu_rem rfl rfl rfl (by omega) rfl) ?_
          refine Al_p Pu_mvl ?_
          refine Al_p (Pu_add rfl rfl rfl (fun h1 h2 => by simp only [A.inI, A.maxI] at *; omega)) ?_
          refine Al_p Pu_mvl ?_
          refine Al_p (Pu_rem rfl rfl rfl (by omega) rfl) ?_
          refine Al_p Pu_mvr ?_
          refine Al_nil ?_
          exact ⟨(), trivial, Le.ov ⟨Sub.num (by unfold QSpec.p2; rw [if_pos hkp]; simp [hkp]), trivial⟩ ⟨Sub.rfl, Sub.rfl, Sub.rfl, Sub.rfl, Sub.rfl, trivial⟩ trivial ⟨rfl, rfl, rfl, rfl, rfl, trivial⟩⟩ -- join 1 next.0
        · (try simp only [decide_eq_true_eq, decide_eq_false_iff_not, Bool.and_eq_true, Bool.or_eq_true, Bool.and_eq_false_iff, Bool.or_eq_false_iff, Bool.not_eq_true', Bool.not_eq_false', beq_iff_eq, Bool.not_eq_eq_eq_not, Bool.not_true, Bool.not_false, List.length_map, Bool.and_true, Bool.and_false, Bool.false_and, Bool.true_and, Bool.or_false, Bool.false_or] at h61)
          refine Aw_skip ?_
          exact ⟨(), trivial, Le.ov ⟨Sub.num (by unfold QSpec.p2; rw [if_neg (by omega)]), trivial⟩ ⟨Sub.rfl, Sub.rfl, Sub.rfl, Sub.rfl, Sub.rfl, trivial⟩ trivial ⟨rfl, rfl, rfl, rfl, rfl, trivial⟩⟩ -- join 1 next.1
      · rintro _ hj1
        refine Aw_region ?_
        refine Al_p (Pu_fieldb 2 rfl Tryz.underlying27 rfl rfl Tryz.sizeOf22 rfl) ?_
        refine Al_p (Pu_loadb rfl Tryz.isAgg22 rfl rfl rfl) ?_
        refine Al_p Pu_mvl ?_
        refine Al_p (Pu_slice1 rfl Tryz.underlying22 Tryz.sizeOf3 Tryz.zeroValue3 rfl (by decide) (by decide) (by kernel_rfl) rfl rfl rfl) ?_
        refine Al_append rfl rfl rfl (by decide) (by kernel_rfl) elem22 (by decide) Tryz.sizeOf3 rfl rfl rfl (by rw [List.length_map]; simp; omega) (by decide) (fun g77 => ?_)
        refine Al_p (Pu_fieldb 2 rfl Tryz.underlying27 rfl rfl Tryz.sizeOf22 rfl) ?_
        refine Al_store1 rfl rfl rfl (by kernel_rfl) Tryz.isAgg22 Tryz.sizeOf22 rfl rfl (Nat.le_of_ble_eq_true rfl) (by conv => lhs; whnf) rfl ?_
        refine Al_nil (Aw_region ?_)
        refine Al_p Pu_mvl ?_
        refine Al_p (Pu_add rfl rfl rfl (fun h1 h2 => by simp only [A.inI, A.maxI] at *; omega)) ?_
        refine Al_p Pu_mvr ?_
        refine Al_nil ?_
        exact ⟨(k1 + 1, g77), ⟨by omega, by omega⟩, by simp only []; omega, Le.ov ⟨Sub.num (by omega), trivial⟩ ⟨Sub.rfl, Sub.rfl, Sub.rfl, Sub.rfl, trivial⟩ ⟨obeq (by rw [QSpec.pars2_succ q n hk2]; simp [A.cellsA]), rfl, trivial⟩ ⟨rfl, rfl, rfl, trivial⟩⟩ -- loop 1 next.0
    · (try simp only [decide_eq_true_eq, decide_eq_false_iff_not, Bool.and_eq_true, Bool.or_eq_true, Bool.and_eq_false_iff, Bool.or_eq_false_iff, Bool.not_eq_true', Bool.not_eq_false', beq_iff_eq, Bool.not_eq_eq_eq_not, Bool.not_true, Bool.not_false, List.length_map, Bool.and_true, Bool.and_false, Bool.false_and, Bool.true_and, Bool.or_false, Bool.false_or] at h54)
      have hps : QSpec.pars2 q n k1 = q.pars n := by
        unfold QSpec.pars QSpec.pars2
        rw [show k1 - 2 = n - 2 from by omega]
      refine Aw_exit (Aw_seq (Aw_region ?_))
      refine Al_p Pu_mvr ?_
      refine Al_nil (Aw_seq (Aw_seq (Aw_region ?_)))
      refine Al_p Pu_mvr ?_
      refine Al_nil (Aw_block ?_)
      refine Aw_loopk (ι := Nat × Nat) [2, 4, 5] [205, 16, 4] (fun (k, g) => [(10, .d (iv k)), (9, .d (tv (QSpec.ewalk (q.e.take k)).1))]) (fun (k, g) => [(105, g, .arr 41 2 ((QSpec.ewalk (q.e.take k)).2.map Rng.row)), (5, g5, .box 27 [.ow 105 g, .ow 205 gb, .ow 16 g1])]) (fun (k, g) => k ≤ (min q.e.length 4)) (fun (k, g) => (min q.e.length 4) - k) ((0, ga)) (Nat.zero_le _) ⟨Sub.rfl, Sub.rfl, trivial⟩ ⟨rfl, rfl, trivial⟩ ?_
      rintro ⟨k, g⟩ hk2
      refine Aw_seq (Aw_seq (Aw_region ?_))
      refine Al_p Pu_mvl ?_
      refine Al_p (Pu_field 0 rfl Tryz.underlying52 rfl rfl Tryz.sizeOf22 rfl) ?_
      refine Al_p (Pu_load1 rfl Tryz.isAgg22 rfl rfl) ?_
      refine Al_p (Pu_len rfl Tryz.underlying22 rfl (by first | exact List.length_map .. | exact rfl)) ?_
      refine Al_p (Pu_cmp rfl rfl rfl rfl) ?_
      refine Al_p Pu_mvl ?_
      refine Al_st (St_gd [] rfl rfl rfl rfl trivial (fun hg85 => by exact Pu_move (.inl rfl) (by conv => lhs; whnf))) rfl (by decide) (by kernel_rfl) (by intro j b oj dj h1 h2 h3; cases h1; cases h2; cases h3; decide) ?_
      refine Al_st (St_gd [85] rfl rfl rfl rfl ⟨⟨_, rfl⟩, trivial⟩ (fun hg86 => Pu_cmp rfl rfl rfl rfl)) rfl (by decide) (by kernel_rfl) (by intro j b oj dj h1 h2 h3; cases h1; cases h2; cases h3; decide) ?_
      refine Al_p (Pu_and rfl rfl rfl rfl) ?_
      refine Al_nil ?_
      refine Aw_cond rfl (fun h87 => ?_) (fun h87 => ?_)
      · (try simp only [decide_eq_true_eq, decide_eq_false_iff_not, Bool.and_eq_true, Bool.or_eq_true, Bool.and_eq_false_iff, Bool.or_eq_false_iff, Bool.not_eq_true', Bool.not_eq_false', beq_iff_eq, Bool.not_eq_eq_eq_not, Bool.not_true, Bool.not_false, List.length_map, Bool.and_true, Bool.and_false, Bool.false_and, Bool.true_and, Bool.or_false, Bool.false_or] at h87)
        have hk : k < q.e.length := by omega
        have hb1 := QSpec.tmod_b (q.e[k]'hk) (n := 8) (by omega)
        have hb2 := QSpec.tmod_b ((q.e[k]'hk).tmod 8 + 8) (n := 8) (by omega)
        have hb3 := Int.tmod_nonneg 8 (show 0 ≤ (q.e[k]'hk).tmod 8 + 8 by omega)
        have hel := QSpec.ewalk_len (q.e.take k)
        rw [List.length_take] at hel
        have het := QSpec.ewalk_take q.e hk
        have hwd : QSpec.wd (q.e[k]'hk) = V.ba [UInt8.ofNat (((q.e[k]'hk).tmod 8 + 8).tmod 8).toNat + 97] := rfl
        refine Aw_skip ?_
        -- join 2: live [2, 4, 5, 9, 10], turned [9]
        refine Aw_seq (Aw_block (Aw_seq (Aw_region ?_)))
        refine Al_p (Pu_field 0 rfl Tryz.underlying52 rfl rfl Tryz.sizeOf22 rfl) ?_
        refine Al_p (Pu_load1 rfl Tryz.isAgg22 rfl rfl) ?_
        refine Al_p Pu_mvl ?_
        refine Al_p (Pu_index rfl Tryz.underlying22 Tryz.sizeOf3 rfl rfl (rfl) (mapget hk)) ?_
        refine Al_p (Pu_load1 rfl Tryz.isAgg3 rfl rfl) ?_
        refine Al_p (Pu_rem rfl rfl rfl (by decide) rfl) ?_
        refine Al_p (Pu_add rfl rfl rfl (fun h1 h2 => by simp only [A.inI, A.maxI] at *; omega)) ?_
        refine Al_p (Pu_rem rfl rfl rfl (by decide) rfl) ?_
        refine Al_p (Pu_add rfl rfl rfl (fun h1 h2 => by simp only [A.inI, A.maxI] at *; omega)) ?_
        refine Al_p (Pu_conv rfl Tryz.underlying3 Tryz.underlying5 rfl (fun hv => ⟨IntWalk.u8_in _ ⟨by omega, by omega⟩, by show 0 ≤ _ ∧ _ ≤ (255 : Int); omega⟩)) ?_
        refine Al_p (Pu_slice1 rfl Tryz.underlying72 Tryz.sizeOf5 Tryz.zeroValue5 rfl (by decide) (by decide) (by kernel_rfl) rfl rfl rfl) ?_
        refine Al_p (Pu_convBS (bs := [UInt8.ofNat (((q.e[k]'hk).tmod 8 + 8).tmod 8).toNat + 97]) rfl Tryz.underlying72 Tryz.underlying5 Tryz.underlying9 (congrArg (fun z => SV.d (.sl 1 [[.v (.int .u8 z)]])) (QSpec.letter hb3 (by omega)))) ?_
        refine Al_p Pu_mvr ?_
        refine Al_nil (Aw_seq (Aw_region ?_))
        refine Al_p Pu_mvl ?_
        refine Al_p Pu_mvl ?_
        refine Al_p (Pu_str rfl rfl rfl rfl) ?_
        refine Al_nil ?_
        refine Aw_cond rfl (fun h104 => ?_) (fun h104 => ?_)
        · skip
          have hes : QSpec.ewalk (q.e.take (k + 1)) = (QSpec.wd (q.e[k]'hk), (QSpec.ewalk (q.e.take k)).2 ++ [⟨(QSpec.ewalk (q.e.take k)).1, QSpec.wd (q.e[k]'hk)⟩]) := by
            rw [het]; unfold QSpec.estep; rw [if_pos]; exact h104
          refine Aw_seq (Aw_region ?_)
          refine Al_p (Pu_fieldb 0 rfl Tryz.underlying27 rfl rfl Tryz.sizeOf25 rfl) ?_
          refine Al_p (Pu_loadb rfl Tryz.isAgg25 rfl rfl rfl) ?_
          refine Al_p Pu_mvl ?_
          refine Al_p Pu_mvl ?_
          refine Al_p (Pu_build (aa := [(0, _), (1, _)]) rfl Tryz.underlying41 Tryz.zeroValue41 (places41 Tryz.underlying41) (by kernel_rfl) ⟨rfl, rfl, rfl, rfl, rfl, rfl, trivial⟩ rfl) ?_
          refine Al_p (Pu_slice1 rfl Tryz.underlying25 Tryz.sizeOf41 Tryz.zeroValue41 rfl (by decide) (by decide) (by kernel_rfl) rfl rfl rfl) ?_
          refine Al_append rfl rfl rfl (by decide) (by kernel_rfl) elem25 (by decide) Tryz.sizeOf41 rfl rfl rfl (by rw [List.length_map]; simp; omega) (by decide) (fun g111 => ?_)
          refine Al_p (Pu_fieldb 0 rfl Tryz.underlying27 rfl rfl Tryz.sizeOf25 rfl) ?_
          refine Al_store1 rfl rfl rfl (by kernel_rfl) Tryz.isAgg25 Tryz.sizeOf25 rfl rfl (Nat.le_of_ble_eq_true rfl) (by conv => lhs; whnf) rfl ?_
          refine Al_nil (Aw_region ?_)
          refine Al_p Pu_mvl ?_
          refine Al_p Pu_mvr ?_
          refine Al_nil (Aw_region ?_)
          refine Al_p Pu_mvl ?_
          refine Al_p (Pu_add rfl rfl rfl (fun h1 h2 => by simp only [A.inI, A.maxI] at *; omega)) ?_
          refine Al_p Pu_mvr ?_
          refine Al_nil ?_
          exact ⟨(k + 1, g111), by omega, by simp only []; omega, Le.ov ⟨Sub.num (by omega), Sub.str (by rw [hes]; rfl), trivial⟩ ⟨Sub.rfl, Sub.rfl, Sub.rfl, trivial⟩ ⟨obeq (by rw [hes]; simp [A.cellsA, Rng.row, hwd]), rfl, trivial⟩ ⟨rfl, rfl, rfl, trivial⟩⟩ -- loop 2 next.0
        · skip
          have hes : QSpec.ewalk (q.e.take (k + 1)) = QSpec.ewalk (q.e.take k) := by
            rw [het]; unfold QSpec.estep; rw [if_neg]; unfold QSpec.above; rw [hwd, h104]; simp
          refine Aw_skip (Aw_region ?_)
          refine Al_p Pu_mvl ?_
          refine Al_p (Pu_add rfl rfl rfl (fun h1 h2 => by simp only [A.inI, A.maxI] at *; omega)) ?_
          refine Al_p Pu_mvr ?_
          refine Al_nil ?_
          exact ⟨(k + 1, g), by omega, by simp only []; omega, Le.ov ⟨Sub.num (by omega), Sub.str (by rw [hes]), trivial⟩ ⟨Sub.rfl, Sub.rfl, Sub.rfl, trivial⟩ ⟨obeq (by rw [hes]), rfl, trivial⟩ ⟨rfl, rfl, rfl, trivial⟩⟩ -- loop 2 next.1
      · (try simp only [decide_eq_true_eq, decide_eq_false_iff_not, Bool.and_eq_true, Bool.or_eq_true, Bool.and_eq_false_iff, Bool.or_eq_false_iff, Bool.not_eq_true', Bool.not_eq_false', beq_iff_eq, Bool.not_eq_eq_eq_not, Bool.not_true, Bool.not_false, List.length_map, Bool.and_true, Bool.and_false, Bool.false_and, Bool.true_and, Bool.or_false, Bool.false_or] at h87)
        have hkk : k = min q.e.length 4 := by omega
        have hel := QSpec.ewalk_len (q.e.take k)
        rw [List.length_take] at hel
        have hrs : (QSpec.ewalk (q.e.take k)).2 ++ [QSpec.endR (QSpec.ewalk (q.e.take k)).1] = q.rngs := by unfold QSpec.rngs; rw [hkk, QSpec.take4]
        refine Aw_exit (Aw_seq (Aw_region ?_))
        refine Al_p (Pu_fieldb 0 rfl Tryz.underlying27 rfl rfl Tryz.sizeOf25 rfl) ?_
        refine Al_p (Pu_loadb rfl Tryz.isAgg25 rfl rfl rfl) ?_
        refine Al_p Pu_mvl ?_
        refine Al_p (Pu_build (aa := [(0, _)]) rfl Tryz.underlying41 Tryz.zeroValue41 (places41 Tryz.underlying41) (by kernel_rfl) ⟨rfl, rfl, rfl, trivial⟩ rfl) ?_
        refine Al_p (Pu_slice1 rfl Tryz.underlying25 Tryz.sizeOf41 Tryz.zeroValue41 rfl (by decide) (by decide) (by kernel_rfl) rfl rfl rfl) ?_
        refine Al_append rfl rfl rfl (by decide) (by kernel_rfl) elem25 (by decide) Tryz.sizeOf41 rfl rfl rfl (by rw [List.length_map]; simp; omega) (by decide) (fun g119 => ?_)
        refine Al_p (Pu_fieldb 0 rfl Tryz.underlying27 rfl rfl Tryz.sizeOf25 rfl) ?_
        refine Al_store1 rfl rfl rfl (by kernel_rfl) Tryz.isAgg25 Tryz.sizeOf25 rfl rfl (Nat.le_of_ble_eq_true rfl) (by conv => lhs; whnf) rfl ?_
        refine Al_nil (Aw_seq (Aw_region ?_))
        refine Al_p Pu_mvr ?_
        refine Al_nil (Aw_seq (Aw_seq (Aw_region ?_)))
        refine Al_p Pu_mvr ?_
        refine Al_nil (Aw_block ?_)
        refine Aw_loopk (ι := Nat) [2, 4, 5] [105, 205, 16, 5, 4] (fun k2 => [(13, .d (iv k2)), (12, .d (iv ((2 ^ k2 : Nat) : Int)))]) (fun k2 => []) (fun k2 => k2 ≤ (q.pars n).length) (fun k2 => (q.pars n).length - k2) (0) (Nat.zero_le _) ⟨Sub.rfl, Sub.rfl, trivial⟩ trivial ?_
        rintro k2 hk3
        refine Aw_seq (Aw_seq (Aw_region ?_))
        refine Al_p Pu_mvl ?_
        refine Al_p (Pu_fieldb 2 rfl Tryz.underlying27 rfl rfl Tryz.sizeOf22 rfl) ?_
        refine Al_p (Pu_loadb rfl Tryz.isAgg22 rfl rfl rfl) ?_
        refine Al_p (Pu_lenOw (m := (q.pars n).length) rfl Tryz.underlying22 rfl rfl (by rw [List.length_map, hps])) ?_
        refine Al_p (Pu_cmp rfl rfl rfl rfl) ?_
        refine Al_nil ?_
        refine Aw_cond rfl (fun h125 => ?_) (fun h125 => ?_)
        · (try simp only [decide_eq_true_eq, decide_eq_false_iff_not, Bool.and_eq_true, Bool.or_eq_true, Bool.and_eq_false_iff, Bool.or_eq_false_iff, Bool.not_eq_true', Bool.not_eq_false', beq_iff_eq, Bool.not_eq_eq_eq_not, Bool.not_true, Bool.not_false, List.length_map, Bool.and_true, Bool.and_false, Bool.false_and, Bool.true_and, Bool.or_false, Bool.false_or] at h125)
          have hk5 : 2 ^ (k2 + 1) ≤ 2 ^ 5 := Nat.pow_le_pow_right (by omega) (by omega)
          have hp : 2 ^ (k2 + 1) = 2 ^ k2 * 2 := Nat.pow_succ ..
          refine Aw_skip (Aw_seq (Aw_block (Aw_region ?_)))
          refine Al_p Pu_mvl ?_
          refine Al_p (Pu_int_mul (r := ((2 ^ (k2 + 1) : Nat) : Int)) rfl rfl rfl (by rw [show ((2 ^ k2 : Nat) : Int) * 2 = ((2 ^ (k2 + 1) : Nat) : Int) from by rw [hp]; omega]; exact IntWalk.i64_in _ (by omega)) (fun _ => by show A.inI _; simp only [A.inI]; omega)) ?_
          refine Al_p Pu_mvr ?_
          refine Al_nil (Aw_region ?_)
          refine Al_p Pu_mvl ?_
          refine Al_p (Pu_add rfl rfl rfl (fun h1 h2 => by simp only [A.inI, A.maxI] at *; omega)) ?_
          refine Al_p Pu_mvr ?_
          refine Al_nil ?_
          exact ⟨k2 + 1, by omega, by omega, Le.ov ⟨Sub.num (by omega), Sub.rfl, trivial⟩ ⟨Sub.rfl, Sub.rfl, Sub.rfl, trivial⟩ trivial ⟨rfl, rfl, rfl, rfl, rfl, trivial⟩⟩ -- loop 3 next.0
        · (try simp only [decide_eq_true_eq, decide_eq_false_iff_not, Bool.and_eq_true, Bool.or_eq_true, Bool.and_eq_false_iff, Bool.or_eq_false_iff, Bool.not_eq_true', Bool.not_eq_false', beq_iff_eq, Bool.not_eq_eq_eq_not, Bool.not_true, Bool.not_false, List.length_map, Bool.and_true, Bool.and_false, Bool.false_and, Bool.true_and, Bool.or_false, Bool.false_or] at h125)
          have hk2' : k2 = (q.pars n).length := by omega
          have hall : ((2 ^ k2 : Nat) : Int) = q.all n := by rw [hk2']; rfl
          rw [hall]
          refine Aw_exit (Aw_seq (Aw_seq (Aw_region ?_)))
          refine Al_p Pu_mvr ?_
          refine Al_nil (Aw_block ?_)
          refine Aw_loopk (ι := Nat × Nat) [2, 4, 5, 12] [105, 16, 4] (fun (k3, g3) => [(14, .d (iv k3))]) (fun (k3, g3) => [(205, g3, .arr 3 1 (intsA ((List.range k3).map (QSpec.own (q.all n) q.o)))), (5, g5, .box 27 [.ow 105 g119, .ow 205 g3, .ow 16 g1])]) (fun (k3, g3) => k3 ≤ q.rngs.length) (fun (k3, g3) => q.rngs.length - k3) ((0, gb)) (Nat.zero_le _) ⟨Sub.rfl, trivial⟩ ⟨rfl, rfl, trivial⟩ ?_
          rintro ⟨k3, g3⟩ hk4
          refine Aw_seq (Aw_seq (Aw_region ?_))
          refine Al_p Pu_mvl ?_
          refine Al_p (Pu_fieldb 0 rfl Tryz.underlying27 rfl rfl Tryz.sizeOf25 rfl) ?_
          refine Al_p (Pu_loadb rfl Tryz.isAgg25 rfl rfl rfl) ?_
          refine Al_p (Pu_lenOw (m := q.rngs.length) rfl Tryz.underlying25 rfl rfl (by rw [← hrs]; simp [A.cellsA, Rng.row, QSpec.endR])) ?_
          refine Al_p (Pu_cmp rfl rfl rfl rfl) ?_
          refine Al_nil ?_
          refine Aw_cond rfl (fun h134 => ?_) (fun h134 => ?_)
          · (try simp only [decide_eq_true_eq, decide_eq_false_iff_not, Bool.and_eq_true, Bool.or_eq_true, Bool.and_eq_false_iff, Bool.or_eq_false_iff, Bool.not_eq_true', Bool.not_eq_false', beq_iff_eq, Bool.not_eq_eq_eq_not, Bool.not_true, Bool.not_false, List.length_map, Bool.and_true, Bool.and_false, Bool.false_and, Bool.true_and, Bool.or_false, Bool.false_or] at h134)
            refine Aw_skip ?_
            -- join 3: live [2, 4, 5, 12, 14], turned []
            refine Aw_seq (Aw_block (Aw_seq (Aw_region ?_)))
            refine Al_p Pu_mvl ?_
            refine Al_p (Pu_sub rfl rfl rfl (fun h1 h2 => by simp only [A.inI, A.maxI] at *; omega)) ?_
            refine Al_p Pu_mvr ?_
            refine Al_nil ?_
            refine Aw_join (ι := Unit) [2, 4, 5, 12, 14] [105, 205, 16, 5, 4] (fun _ => [(15, .d (iv (QSpec.ownZ (q.all n) q.o k3)))]) (fun _ => []) (fun _ => True) ?_ ?_ -- join 4
            · refine Aw_seq (Aw_region ?_)
              refine Al_p Pu_mvl ?_
              refine Al_p (Pu_field 1 rfl Tryz.underlying52 rfl rfl Tryz.sizeOf22 rfl) ?_
              refine Al_p (Pu_load1 rfl Tryz.isAgg22 rfl rfl) ?_
              refine Al_p (Pu_len rfl Tryz.underlying22 rfl (by first | exact List.length_map .. | exact rfl)) ?_
              refine Al_p (Pu_cmp rfl rfl rfl rfl) ?_
              refine Al_nil ?_
              refine Aw_cond rfl (fun h143 => ?_) (fun h143 => ?_)
              · (try simp only [decide_eq_true_eq, decide_eq_false_iff_not, Bool.and_eq_true, Bool.or_eq_true, Bool.and_eq_false_iff, Bool.or_eq_false_iff, Bool.not_eq_true', Bool.not_eq_false', beq_iff_eq, Bool.not_eq_eq_eq_not, Bool.not_true, Bool.not_false, List.length_map, Bool.and_true, Bool.and_false, Bool.false_and, Bool.true_and, Bool.or_false, Bool.false_or] at h143)
                have hk3' : k3 < q.o.length := by omega
                have hb1 := QSpec.tmod_b (q.o[k3]'hk3') (n := q.all n - 1) (by omega)
                have hoz : QSpec.ownZ (q.all n) q.o k3 = ((q.o[k3]'hk3').tmod (q.all n - 1) + q.all n - 1).tmod (q.all n - 1) := by unfold QSpec.ownZ; rw [if_pos hk3']; simp [hk3']
                refine Aw_region ?_
                refine Al_p (Pu_field 1 rfl Tryz.underlying52 rfl rfl Tryz.sizeOf22 rfl) ?_
                refine Al_p (Pu_load1 rfl Tryz.isAgg22 rfl rfl) ?_
                refine Al_p Pu_mvl ?_
                refine Al_p (Pu_index rfl Tryz.underlying22 Tryz.sizeOf3 rfl rfl (rfl) (mapget hk3')) ?_
                refine Al_p (Pu_load1 rfl Tryz.isAgg3 rfl rfl) ?_
                refine Al_p Pu_mvl ?_
                refine Al_p (Pu_sub rfl rfl rfl (fun h1 h2 => by simp only [A.inI, A.maxI] at *; omega)) ?_
                refine Al_p (Pu_rem rfl rfl rfl (by omega) rfl) ?_
                refine Al_p Pu_mvl ?_
                refine Al_p (Pu_add rfl rfl rfl (fun h1 h2 => by simp only [A.inI, A.maxI] at *; omega)) ?_
                refine Al_p (Pu_sub rfl rfl rfl (fun h1 h2 => by simp only [A.inI, A.maxI] at *; omega)) ?_
                refine Al_p Pu_mvl ?_
                refine Al_p (Pu_sub rfl rfl rfl (fun h1 h2 => by simp only [A.inI, A.maxI] at *; omega)) ?_
                refine Al_p (Pu_rem rfl rfl rfl (by omega) rfl) ?_
                refine Al_p Pu_mvr ?_
                refine Al_nil ?_
                exact ⟨(), trivial, Le.ov ⟨Sub.num hoz.symm, trivial⟩ ⟨Sub.rfl, Sub.rfl, Sub.rfl, Sub.rfl, Sub.rfl, trivial⟩ trivial ⟨rfl, rfl, rfl, rfl, rfl, trivial⟩⟩ -- join 4 next.0
              · (try simp only [decide_eq_true_eq, decide_eq_false_iff_not, Bool.and_eq_true, Bool.or_eq_true, Bool.and_eq_false_iff, Bool.or_eq_false_iff, Bool.not_eq_true', Bool.not_eq_false', beq_iff_eq, Bool.not_eq_eq_eq_not, Bool.not_true, Bool.not_false, List.length_map, Bool.and_true, Bool.and_false, Bool.false_and, Bool.true_and, Bool.or_false, Bool.false_or] at h143)
                have hoz : QSpec.ownZ (q.all n) q.o k3 = q.all n - 2 := by unfold QSpec.ownZ; rw [if_neg (by omega)]
                refine Aw_skip ?_
                exact ⟨(), trivial, Le.ov ⟨Sub.num hoz.symm, trivial⟩ ⟨Sub.rfl, Sub.rfl, Sub.rfl, Sub.rfl, Sub.rfl, trivial⟩ trivial ⟨rfl, rfl, rfl, rfl, rfl, trivial⟩⟩ -- join 4 next.1
            · rintro _ hj4
              have hob := QSpec.own_b (show 2 ≤ q.all n by omega) q.o k3
              have hob2 : QSpec.own (q.all n) q.o k3 = 1 + QSpec.ownZ (q.all n) q.o k3 := rfl
              have hrl := QSpec.rngs_len q
              refine Aw_region ?_
              refine Al_p (Pu_fieldb 1 rfl Tryz.underlying27 rfl rfl Tryz.sizeOf22 rfl) ?_
              refine Al_p (Pu_loadb rfl Tryz.isAgg22 rfl rfl rfl) ?_
              refine Al_p Pu_mvl ?_
              refine Al_p (Pu_add rfl rfl rfl (fun h1 h2 => by simp only [A.inI, A.maxI] at *; omega)) ?_
              refine Al_p (Pu_slice1 rfl Tryz.underlying22 Tryz.sizeOf3 Tryz.zeroValue3 rfl (by decide) (by decide) (by kernel_rfl) rfl rfl rfl) ?_
              refine Al_append rfl rfl rfl (by decide) (by kernel_rfl) elem22 (by decide) Tryz.sizeOf3 rfl rfl rfl (by simp; omega) (by decide) (fun g163 => ?_)
              refine Al_p (Pu_fieldb 1 rfl Tryz.underlying27 rfl rfl Tryz.sizeOf22 rfl) ?_
              refine Al_store1 rfl rfl rfl (by kernel_rfl) Tryz.isAgg22 Tryz.sizeOf22 rfl rfl (Nat.le_of_ble_eq_true rfl) (by conv => lhs; whnf) rfl ?_
              refine Al_nil (Aw_region ?_)
              refine Al_p Pu_mvl ?_
              refine Al_p (Pu_add rfl rfl rfl (fun h1 h2 => by simp only [A.inI, A.maxI] at *; omega)) ?_
              refine Al_p Pu_mvr ?_
              refine Al_nil ?_
              exact ⟨(k3 + 1, g163), by omega, by simp only []; omega, Le.ov ⟨Sub.num (by omega), trivial⟩ ⟨Sub.rfl, Sub.rfl, Sub.rfl, Sub.rfl, trivial⟩ ⟨obeq (by rw [List.range_succ]; simp [A.cellsA, QSpec.own]), rfl, trivial⟩ ⟨rfl, rfl, rfl, trivial⟩⟩ -- loop 4 next.0
          · (try simp only [decide_eq_true_eq, decide_eq_false_iff_not, Bool.and_eq_true, Bool.or_eq_true, Bool.and_eq_false_iff, Bool.or_eq_false_iff, Bool.not_eq_true', Bool.not_eq_false', beq_iff_eq, Bool.not_eq_eq_eq_not, Bool.not_true, Bool.not_false, List.length_map, Bool.and_true, Bool.and_false, Bool.false_and, Bool.true_and, Bool.or_false, Bool.false_or] at h134)
            have hk3 : k3 = q.rngs.length := by omega
            refine Aw_exit (Aw_seq ?_)
            refine Aw_frzc (k := 105) (kb := 5) 0 hnl [] rfl rfl rfl rfl trivial ?_
            refine Aw_frzc (k := 205) (kb := 5) 1 hnl [] rfl rfl rfl rfl trivial ?_
            refine Aw_frzc (k := 16) (kb := 5) 2 hnl [] rfl rfl rfl rfl trivial ?_
            refine Aw_region ?_
            refine Al_p (Pu_loadbN (r := [_, _, _]) rfl Tryz.isAgg27 Tryz.sizeOf27 rfl rfl rfl rfl) ?_
            refine Al_storeN rfl rfl rfl (by kernel_rfl) Tryz.isAgg27 Tryz.sizeOf27 rfl rfl rfl rfl (Nat.le_of_ble_eq_true rfl) ?_
            refine Al_nil ?_
            refine Aw_ret ?_
            refine ⟨_, _, _, _, _, [_, _, _], rfl, rfl, rfl, rfl, ?_⟩
            simp only [SRow.row, QSpec.mkR, ← hrs, hk3, hps]
            simp [A.cellsA, Rng.row, QSpec.endR, intsA] -- ret 0
end Go.Proofs.YtojehmkkbdedaaaGreat
end
