/- Abstract states: a region that draws its order, and makes one variable. -/
import Derived.Test.YtmbaeloiepjakaaAX
set_option linter.unusedSimpArgs false
set_option linter.unusedVariables false
namespace Go.Proofs.Ytmbaeloiepjakaa.A
open Go Go.RowKit
theorem find_congr {α : Type} {p q : α → Bool} : ∀ {l : List α}, (∀ x ∈ l, p x = q x) → l.find? p = l.find? q
  | [], _ => rfl
  | x :: l, h => by
    rw [List.find?_cons, List.find?_cons, h x (by simp), find_congr fun y hy => h y (by simp [hy])]
/-- Whatever of the operations is done: what they yield, in whichever order. -/
def stL (l : List Oper) (ss : Nat → SV) (L : Nat → Bool) (st : ASt) : ASt := { st with sl := fun t => match (List.range l.length).find? (fun i => L i && (l[i]?.bind (·.dst)) == some t) with | some i => ss i | none => st.sl t }
theorem stL_congr {l : List Oper} {ss ss' : Nat → SV} {L L' : Nat → Bool} {st : ASt} (hL : ∀ i, i < l.length → L i = L' i) (hs : ∀ i, i < l.length → L i = true → ss i = ss' i) : stL l ss L st = stL l ss' L' st := by
  unfold stL
  congr 1
  funext t
  have e : (List.range l.length).find? (fun i => L i && (l[i]?.bind (·.dst)) == some t) = (List.range l.length).find? (fun i => L' i && (l[i]?.bind (·.dst)) == some t) := by
    apply find_congr
    intro i hi
    rw [hL i (List.mem_range.1 hi)]
  rw [← e]
  cases h : (List.range l.length).find? (fun i => L i && (l[i]?.bind (·.dst)) == some t) with
  | none => rfl
  | some i =>
    have h1 := List.find?_some h
    have h2 := List.mem_range.1 (List.mem_of_find?_eq_some h)
    simp only [Bool.and_eq_true] at h1
    exact hs i h2 h1.1
theorem find_uniq {l : List Oper} {L : Nat → Bool} {i t : Nat} {o : Oper} (hd : Ev.distinct l = true) (hi : l[i]? = some o) (ho : o.dst = some t) (hL : L i = true) : (List.range l.length).find? (fun i => L i && (l[i]?.bind (·.dst)) == some t) = some i := by
  have hil : i < l.length := (List.getElem?_eq_some_iff.1 hi).1
  cases h : (List.range l.length).find? (fun i => L i && (l[i]?.bind (·.dst)) == some t) with
  | none =>
    have := List.find?_eq_none.1 h i (List.mem_range.2 hil)
    simp [hL, hi, ho] at this
  | some j =>
    have h1 := List.find?_some h
    simp only [Bool.and_eq_true, beq_iff_eq] at h1
    obtain ⟨oj, h2, h3⟩ := Option.bind_eq_some_iff.1 h1.2
    congr 1
    rcases Nat.lt_trichotomy i j with e | e | e
    · exact (dist_ne hd hi h2 e ho h3).elim
    · exact e.symm
    · exact (dist_ne hd h2 hi e h3 ho).elim
theorem stL_at {l : List Oper} {ss : Nat → SV} {L : Nat → Bool} {st : ASt} {i t : Nat} {o : Oper} (hd : Ev.distinct l = true) (hi : l[i]? = some o) (ho : o.dst = some t) (hL : L i = true) : (stL l ss L st).sl t = ss i := by
  unfold stL
  simp only [find_uniq hd hi ho hL]
theorem stL_out {l : List Oper} {ss : Nat → SV} {L : Nat → Bool} {st : ASt} {t : Nat} (h : ∀ (i : Nat) (o : Oper), l[i]? = some o → o.dst = some t → L i = false) : (stL l ss L st).sl t = st.sl t := by
  unfold stL
  have e : (List.range l.length).find? (fun i => L i && (l[i]?.bind (·.dst)) == some t) = none := by
    rw [List.find?_eq_none]
    intro i hi
    simp only [Bool.and_eq_true, beq_iff_eq, not_and]
    intro hL h2
    obtain ⟨o, h3, h4⟩ := Option.bind_eq_some_iff.1 h2
    rw [h i o h3 h4] at hL; cases hL
  simp only [e]
theorem stL_none {l : List Oper} {ss : Nat → SV} {st : ASt} : stL l ss (fun _ => false) st = st := by
  unfold stL
  have e : ∀ t, (List.range l.length).find? (fun i => false && (l[i]?.bind (·.dst)) == some t) = none := fun t => by
    rw [List.find?_eq_none]; intro i _; simp
  simp only [e]
/-- One more is done. -/
theorem stL_set {l : List Oper} {ss : Nat → SV} {L L' : Nat → Bool} {st : ASt} {j d : Nat} {o : Oper} (hd : Ev.distinct l = true) (hj : l[j]? = some o) (ho : o.dst = some d) (hL' : ∀ i, L' i = (L i || decide (i = j))) : (stL l ss L st).set d (ss j) = stL l ss L' st := by
  have hb : ∀ {s s' : ASt}, s.sl = s'.sl → s.ob = s'.ob → s = s' := fun {s s'} h1 h2 => by cases s; cases s'; simp_all
  refine hb (funext fun t => ?_) rfl
  show (bif Nat.beq t d then ss j else (stL l ss L st).sl t) = (stL l ss L' st).sl t
  cases ht : Nat.beq t d with
  | true =>
    have := Nat.eq_of_beq_eq_true ht
    subst this
    exact (stL_at hd hj ho (by rw [hL' j]; simp)).symm
  | false =>
    have hne : t ≠ d := fun e => by subst e; simp at ht
    show (stL l ss L st).sl t = (stL l ss L' st).sl t
    unfold stL
    have e : (List.range l.length).find? (fun i => L i && (l[i]?.bind (·.dst)) == some t) = (List.range l.length).find? (fun i => L' i && (l[i]?.bind (·.dst)) == some t) := by
      apply find_congr
      intro i _
      rw [hL' i]
      by_cases e : i = j
      · subst e
        have : ((l[i]?.bind (·.dst)) == some t) = false := by
          rw [hj]
          simp only [Option.bind_some, ho, beq_eq_false_iff_ne, ne_eq, Option.some.injEq]
          exact fun e => hne e.symm
        rw [this]; simp
      · simp [e]
    simp only [e]
theorem St_frame {P : Program} {ops : Array Oper} {st st' : ASt} {o : Oper} {s : SV} (h : St P ops st o s) (hx : ∀ x ∈ opsOf o, st'.ev x = st.ev x) (hg : ∀ j b oj dj, o.guard = some (j, b) → ops[j]? = some oj → oj.dst = some dj → st'.sl dj = st.sl dj) (hob : ∀ k g ob, st.ob k = some (g, ob) → st'.ob k = some (g, ob)) : St P ops st' o s := fun B M ρ w a h1 h2 h3 h4 hev => by
  have h5 := h B M ρ w a h1 (fun x hx' => by rw [← hx x hx']; exact h2 x hx') (fun j b oj dj k1 k2 k3 => by rw [← hg j b oj dj k1 k2 k3]; exact h3 j b oj dj k1 k2 k3) (fun k g ob hk => h4 k g ob (hob k g ob hk)) (hev.sub hob)
  split
  · rename_i hw
    rw [if_pos hw] at h5
    intro K hK
    exact h5 K fun v w' hk hv => hK v w' (hk.sup hev hob) hv
  · rename_i hw
    rw [if_neg hw] at h5
    exact h5
/-- What a walk of the operations, each behind those ahead of it, tells of each. -/
theorem dr_all {P : Program} {ops : Array Oper} {R : ASt → Prop} {l : List Oper} {st : ASt} (hd : Ev.distinct l = true) : ∀ (r : List Oper) (j : Nat) (ss0 : Nat → SV), l.drop j = r → Dr P ops R r (stL l ss0 (fun i => decide (i < j)) st) →
    ∃ ss : Nat → SV, (∀ i, i < j → ss i = ss0 i) ∧ (∀ i o, j ≤ i → l[i]? = some o → ∃ d, o.dst = some d ∧ St P ops (stL l ss (fun x => decide (x < i)) st) o (ss i)) ∧ R (stL l ss (fun _ => true) st)
  | [], j, ss0, hr, h => ⟨ss0, fun _ _ => rfl, fun i o h1 h2 => by
      have h3 := (List.getElem?_eq_some_iff.1 h2).1
      have h4 := congrArg List.length hr
      simp at h4; omega, by
      have h4 := congrArg List.length hr
      simp at h4
      have e : stL l ss0 (fun i => decide (i < j)) st = stL l ss0 (fun _ => true) st := stL_congr (fun i hi => by simp; omega) (fun _ _ _ => rfl)
      rw [← e]; exact h⟩
  | o :: r, j, ss0, hr, h => by
    obtain ⟨d, s, hdo, hst, hdr⟩ := h
    have hj : l[j]? = some o := by
      have : (l.drop j)[0]? = some o := by rw [hr]; rfl
      simpa using this
    let ss1 : Nat → SV := fun i => if i = j then s else ss0 i
    have e0 : stL l ss0 (fun i => decide (i < j)) st = stL l ss1 (fun i => decide (i < j)) st := stL_congr (fun _ _ => rfl) (fun i _ h => by
      have : i < j := by simpa using h
      simp [ss1, show i ≠ j by omega])
    have e1 : (stL l ss0 (fun i => decide (i < j)) st).set d s = stL l ss1 (fun i => decide (i < j + 1)) st := by
      rw [e0]
      have : s = ss1 j := by simp [ss1]
      rw [this]
      exact stL_set hd hj hdo fun i => by
        rw [Bool.eq_iff_iff]; simp; omega
    rw [e1] at hdr
    obtain ⟨ss, h1, h2, h3⟩ := dr_all hd r (j + 1) ss1 (by
      have : (l.drop j).drop 1 = r := by rw [hr]; rfl
      rwa [List.drop_drop] at this) hdr
    refine ⟨ss, fun i hi => by rw [h1 i (by omega)]; simp [ss1, show i ≠ j by omega], fun i o' hi ho' => ?_, h3⟩
    by_cases e : i = j
    · subst e
      rw [hj] at ho'; cases ho'
      refine ⟨d, hdo, ?_⟩
      have e2 : stL l ss0 (fun x => decide (x < i)) st = stL l ss (fun x => decide (x < i)) st := stL_congr (fun _ _ => rfl) (fun x _ hx => by
        have : x < i := by simpa using hx
        rw [h1 x (by omega)]; simp [ss1, show x ≠ i by omega])
      rw [← e2]
      have : ss i = s := by rw [h1 i (by omega)]; simp [ss1]
      rw [this]; exact hst
    · exact h2 i o' (by omega) ho'
/-- The variable is made. -/
def alcS (d g : Nat) (o : AO) (st : ASt) : ASt := (st.put d g o).set d (.bx d g 0)
def alcO (d : Nat) (o : AO) : Option Nat → ASt → ASt
  | none, st => st
  | some g, st => alcS d g o st
theorem alcS_set {d g e : Nat} {o : AO} {s : SV} {st : ASt} (h : e ≠ d) : (alcS d g o st).set e s = alcS d g o (st.set e s) := by
  have hb : ∀ {s s' : ASt}, s.sl = s'.sl → s.ob = s'.ob → s = s' := fun {s s'} h1 h2 => by cases s; cases s'; simp_all
  refine hb (funext fun t => ?_) rfl
  show (bif Nat.beq t e then s else bif Nat.beq t d then SV.bx d g 0 else st.sl t) = (bif Nat.beq t d then SV.bx d g 0 else bif Nat.beq t e then s else st.sl t)
  cases h1 : Nat.beq t e with
  | false => rfl
  | true =>
    cases h2 : Nat.beq t d with
    | false => rfl
    | true =>
      have e1 := Nat.eq_of_beq_eq_true h1
      have e2 := Nat.eq_of_beq_eq_true h2
      exact absurd (e1.symm.trans e2) h
def drawAB (N : Nat) (l : List Oper) (n dA : Nat) : Bool := Ev.distinct (l.take n) && Ev.backB l.toArray && Ev.tailB l.toArray (n + 1) && drB N l n && ((l.take n).all fun o => match o.dst with | some d => decide (d < N) && !Nat.beq d dA | none => false) && (l.take n).all fun o => ((opsOf o).all fun | .tmp t => !Nat.beq t dA | _ => true) && match o.guard with | some (j, _) => (match l[j]? with | some oj => (match oj.dst with | some dj => !Nat.beq dj dA | none => true) | none => true) | none => true
section
variable {P : Program} {N : Nat} {M0 : Nat → Prop} {w0 : Base} {Q : Exit → ASt → Prop} {st : ASt}
theorem drawA_go {l : List Oper} {n dA : Nat} {oA : Oper} {T : TypeId} {z : Value} {zs : List AV} {ss : Nat → SV} (hok : drawAB N l n dA = true) (hA : l[n]? = some oA) (ho : oA.op = .alloc T) (hgA : oA.guard = none) (hdA : oA.dst = some dA) (hNA : dA < N) (hz : ∀ w, (zeroValue T).run P w = .ok z w) (hzs : z.cells.toList.map AV.v = zs) (hv : z.cells.toList.all (fun z => decide (vok z)) = true) (hfree : st.ob dA = none)
    (hst : ∀ i o, (l.take n)[i]? = some o → ∃ d, o.dst = some d ∧ St P l.toArray (stL (l.take n) ss (fun x => decide (x < i)) st) o (ss i))
    (hfin : ∀ g, Al P N M0 w0 l.toArray Q (l.drop (n + 1)) (alcS dA g (.box T (zs.map .d)) (stL (l.take n) ss (fun _ => true) st))) :
    ∀ (fuel : Nat) (listed : Array Bool) (og : Option Nat), listed.size = l.length → Ev.Closed l.toArray listed → listed[n]? = some og.isSome → (∀ i, n < i → i < l.length → listed[i]? = some false) → listed.count false ≤ fuel →
      Ad P N M0 w0 l.toArray Q fuel listed (alcO dA (.box T (zs.map .d)) og (stL (l.take n) ss (fun i => listed.getD i false) st)) := by
  simp only [drawAB, Bool.and_eq_true] at hok
  obtain ⟨⟨⟨⟨⟨hd, hb⟩, ht⟩, hdr⟩, hds⟩, hdA2⟩ := hok
  have hnl : n < l.length := (List.getElem?_eq_some_iff.1 hA).1
  have hsz : l.toArray.size = l.length := by simp
  have hget : ∀ (j : Nat), l.toArray[j]? = l[j]? := fun j => by simp
  have htk : ∀ (j : Nat), j < n → (l.take n)[j]? = l[j]? := fun j hj => by rw [List.getElem?_take, if_pos hj]
  have hlen : (l.take n).length = n := by simp; omega
  have fin : ∀ (fuel : Nat) (listed : Array Bool) (og : Option Nat), listed.size = l.length → Ev.Closed l.toArray listed → listed[n]? = some og.isSome → (∀ i, n < i → i < l.length → listed[i]? = some false) → listed.count false ≤ fuel → (∀ i, i < n + 1 → listed[i]? = some true) →
      Ad P N M0 w0 l.toArray Q fuel listed (alcO dA (.box T (zs.map .d)) og (stL (l.take n) ss (fun i => listed.getD i false) st)) := by
    intro fuel listed og hs hcl hog hun hfu hall
    have h1 := hall n (by omega)
    rw [hog] at h1
    obtain ⟨g, rfl⟩ : ∃ g, og = some g := by
      cases og with
      | none => simp at h1
      | some g => exact ⟨g, rfl⟩
    have e : stL (l.take n) ss (fun i => listed.getD i false) st = stL (l.take n) ss (fun _ => true) st := stL_congr (fun i hi => by
      have := hall i (by omega)
      simp [Array.getD_eq_getD_getElem?, this]) (fun _ _ _ => rfl)
    rw [e]
    refine ⟨fun a w hs' => ?_⟩
    have hcnt : l.length - (n + 1) ≤ fuel := by
      have e : listed.toList = listed.toList.take (n + 1) ++ List.replicate (l.length - (n + 1)) false := by
        apply List.ext_getElem?
        intro i
        rcases Nat.lt_or_ge i (n + 1) with h | h
        · rw [List.getElem?_append_left (by simp; omega), List.getElem?_take_of_lt h]
        · rw [List.getElem?_append_right (by simp; omega)]
          rcases Nat.lt_or_ge i l.length with h2 | h2
          · have := hun i (by omega) h2
            have e1 : listed.toList[i]? = some false := by simpa using this
            rw [e1, List.getElem?_replicate, if_pos (by simp; omega)]
          · rw [List.getElem?_eq_none (by simp; omega), List.getElem?_eq_none (by simp; omega)]
      have h2 : listed.count false = listed.toList.count false := by rw [Array.count_toList]
      rw [h2, e, List.count_append] at hfu
      simp at hfu
      omega
    refine Ev.seq_any hb ht (l.length - (n + 1)) fuel (n + 1) listed a w (by simp; omega) hcnt (Nat.le_refl _) (by simpa using hs) (fun i hi => hall i hi) (fun i hi hi2 => hun i (by omega) (by simpa using hi2)) hcl ?_
    have h3 := wpOps_eq_wpList (P := P) (ops := l.toArray) (Q := QL N M0 w0 Q) (l.drop (n + 1)) (n + 1) (fun j => by simp)
    rw [List.length_drop] at h3
    rw [h3]
    exact (hfin g).out a w hs'
  intro fuel
  induction fuel with
  | zero =>
    intro listed og hs hcl hog hun hn
    refine fin 0 listed og hs hcl hog hun hn fun i hi => ?_
    cases hl : listed[i]? with
    | none => rw [Array.getElem?_eq_none_iff] at hl; omega
    | some b =>
      cases b with
      | true => rfl
      | false =>
        have : false ∈ listed := Array.mem_of_getElem? hl
        have := Array.count_pos_iff.2 this
        omega
  | succ fuel ih =>
    intro listed og hs hcl hog hun hn
    by_cases hall : ∀ (i : Nat), i < n + 1 → listed[i]? = some true
    · exact fin (fuel + 1) listed og hs hcl hog hun hn hall
    refine ⟨fun a w hsim => ⟨fun h0 => ?_, fun j hj => ?_⟩⟩
    · exfalso
      apply hall
      intro i
      induction i using Nat.strongRecOn with
      | _ i ih' =>
        intro hi
        cases hl : listed[i]? with
        | none => rw [Array.getElem?_eq_none_iff] at hl; omega
        | some b =>
          cases b with
          | true => rfl
          | false =>
            have := Ev.ready_of_least hb (by simpa using hs) (by simp; omega) hl (fun k hk => ih' k hk (by omega))
            rw [h0] at this
            cases this
    obtain ⟨hju, o, hoj, hdone⟩ := mem_ready.1 hj
    have hjo : j < l.length := by
      have := (Array.getElem?_eq_some_iff.1 hoj).1
      simpa using this
    have hlt : j < listed.size := by omega
    have hjl : listed[j]? = some false := by simp [Array.getD, hlt] at hju; simp [hlt, hju]
    have hj1 : j < n + 1 := by
      rcases Nat.lt_or_ge j (n + 1) with h | h
      · exact h
      · exact (hall fun i hi => Ev.ready_all ht hcl hj h i (by omega)).elim
    have hoj' : l[j]? = some o := by rw [← hget]; exact hoj
    have hdl : ∀ d ∈ Ev.depsOf o, listed[d]? = some true := Ev.deps_listed hdone
    have hold : ∀ (i : Nat), i ≠ j → (listed.setIfInBounds j true)[i]? = listed[i]? := fun i hij => by
      rw [Array.getElem?_setIfInBounds, if_neg (Ne.symm hij)]
    have hcl' : Ev.Closed l.toArray (listed.setIfInBounds j true) := fun i o' hi ho' d hd' => by
      have keep : ∀ (y : Nat), listed[y]? = some true → (listed.setIfInBounds j true)[y]? = some true := fun y hy => by
        by_cases e : y = j
        · subst e; simp [hlt]
        · rw [hold y e]; exact hy
      by_cases hij : i = j
      · subst hij
        rw [hoj] at ho'
        cases ho'
        exact keep d (hdl d hd')
      · rw [hold i hij] at hi
        exact keep d (hcl i o' hi ho' d hd')
    have hcnt : (listed.setIfInBounds j true).count false ≤ fuel := by
      have := Array.count_set (xs := listed) (i := j) (a := true) (b := false) hlt
      rw [Array.setIfInBounds, dif_pos hlt]
      have h3 : listed[j] = false := by simpa [hlt] using hjl
      have h4 : 0 < listed.count false := Array.count_pos_iff.2 (Array.mem_iff_getElem.2 ⟨j, hlt, h3⟩)
      rw [this]
      simp [h3]
      omega
    have hLL : ∀ i, (listed.setIfInBounds j true).getD i false = (listed.getD i false || decide (i = j)) := fun i => by
      by_cases e : i = j
      · subst e; simp [Array.getD_eq_getD_getElem?, hlt]
      · simp [Array.getD_eq_getD_getElem?, hold i e, e]
    have hun' : ∀ i, n < i → i < l.length → (listed.setIfInBounds j true)[i]? = some false := fun i h1 h2 => by
      rw [hold i (by omega)]; exact hun i h1 h2
    by_cases hjn : j = n
    · subst hjn
      rw [hA] at hoj'; cases hoj'
      have hog' : og = none := by
        rw [hjl] at hog
        cases og with
        | none => rfl
        | some g => simp at hog
      subst hog'
      refine wpOp_of_list hoj ((Al_alloc (l := []) (Q := Then (Ad P N M0 w0 l.toArray Q fuel (listed.setIfInBounds j true)) Q) ho hgA hdA hNA hz hzs hv (fun g => Al_nil ?_)).out a w hsim) (fun a' w' ⟨st', h1, h2⟩ => h1.out a' w' h2) (fun c a' w' h => h) (fun ⟨a', w', h⟩ => ⟨a', w', h⟩)
      have := ih (listed.setIfInBounds j true) (some g) (by simpa using hs) hcl' (by simp [hlt]) hun' hcnt
      have e : stL (l.take j) ss (fun i => (listed.setIfInBounds j true).getD i false) st = stL (l.take j) ss (fun i => listed.getD i false) st := stL_congr (fun i hi => by
        rw [hLL i]
        simp at hi
        simp [show i ≠ j by omega]) (fun _ _ _ => rfl)
      rw [e] at this
      exact this
    · have hjn' : j < n := by omega
      have hjt : (l.take n)[j]? = some o := by rw [htk j hjn']; exact hoj'
      obtain ⟨d, hdo, hS⟩ := hst j o hjt
      have hmem : o ∈ l.take n := List.mem_of_getElem? hjt
      have hdN := List.all_eq_true.1 hds o hmem
      rw [hdo] at hdN
      simp only [Bool.and_eq_true, decide_eq_true_eq, Bool.not_eq_true'] at hdN
      have hddA : d ≠ dA := fun e => by rw [e] at hdN; simp at hdN
      have hno := List.all_eq_true.1 hdA2 o hmem
      simp only [Bool.and_eq_true] at hno
      have hdrj := List.all_eq_true.1 hdr j (List.mem_range.2 hjn')
      rw [hoj'] at hdrj
      simp only [Bool.and_eq_true] at hdrj
      obtain ⟨⟨hops, hgd⟩, hconst⟩ := hdrj
      have hsl : ∀ t, opB (l.take n) j o t = true → t ≠ dA → (alcO dA (.box T (zs.map .d)) og (stL (l.take n) ss (fun i => listed.getD i false) st)).sl t = (stL (l.take n) ss (fun x => decide (x < j)) st).sl t := by
        intro t hop hne
        have e1 : (alcO dA (.box T (zs.map .d)) og (stL (l.take n) ss (fun i => listed.getD i false) st)).sl t = (stL (l.take n) ss (fun i => listed.getD i false) st).sl t := by
          cases og with
          | none => rfl
          | some g =>
            show (bif Nat.beq t dA then _ else _) = _
            have : Nat.beq t dA = false := by
              cases hb : Nat.beq t dA with
              | false => rfl
              | true => exact absurd (Nat.eq_of_beq_eq_true hb) hne
            rw [this]; rfl
        rw [e1]
        by_cases hin : inB (l.take n) t = true
        · simp only [opB, hin, Bool.not_true, Bool.false_or, List.any_eq_true, List.mem_range, Bool.and_eq_true, beq_iff_eq] at hop
          obtain ⟨i, hi, hid, hic⟩ := hop
          obtain ⟨oi, hoi, hoid⟩ := Option.bind_eq_some_iff.1 hid
          have hli := hdl i (by simpa using hic)
          rw [stL_at hd hoi hoid (by simp [Array.getD_eq_getD_getElem?, hli]), stL_at hd hoi hoid (by simpa using hi)]
        · have hout : ∀ (i : Nat) (o' : Oper), (l.take n)[i]? = some o' → o'.dst ≠ some t := fun i o' h1 h2 => hin (by
            simp only [inB, List.any_eq_true, beq_iff_eq]
            exact ⟨o', List.mem_of_getElem? h1, h2⟩)
          rw [stL_out fun i o' h1 h2 => absurd h2 (hout i o' h1), stL_out fun i o' h1 h2 => absurd h2 (hout i o' h1)]
      have hS2 : St P l.toArray (alcO dA (.box T (zs.map .d)) og (stL (l.take n) ss (fun i => listed.getD i false) st)) o (ss j) := by
        refine St_frame hS (fun x hx => ?_) (fun j' b oj dj h1 h2 h3 => ?_) (fun k g ob h => ?_)
        · cases x with
          | tmp t =>
            have h1 := List.all_eq_true.1 hops _ hx
            have h2 := List.all_eq_true.1 hno.1 _ hx
            exact hsl t h1 (fun e => by rw [e] at h2; simp at h2)
          | _ => rfl
        · rw [hget] at h2
          rw [h1] at hgd
          simp only [h2, h3, Bool.and_eq_true, decide_eq_true_eq] at hgd
          have h4 := hno.2
          rw [h1] at h4
          simp only [h2, h3, Bool.not_eq_true'] at h4
          exact hsl dj hgd.1 (fun e => by rw [e] at h4; simp at h4)
        · cases og with
          | none => exact h
          | some g' =>
            show (bif Nat.beq k dA then _ else st.ob k) = _
            have h' : st.ob k = some (g, ob) := h
            have : Nat.beq k dA = false := by
              cases hb : Nat.beq k dA with
              | false => rfl
              | true =>
                have := Nat.eq_of_beq_eq_true hb
                subst this
                rw [hfree] at h'; cases h'
            rw [this]; exact h'
      refine wpOp_of_list hoj ((Al_st (l := []) (Q := Then (Ad P N M0 w0 l.toArray Q fuel (listed.setIfInBounds j true)) Q) hS2 hdo hdN.1 hconst (fun j' b oj dj h1 h2 h3 => ?_) (Al_nil ?_)).out a w hsim) (fun a' w' ⟨st', h1, h2⟩ => h1.out a' w' h2) (fun c a' w' h => h) (fun ⟨a', w', h⟩ => ⟨a', w', h⟩)
      · rw [hget] at h2
        rw [h1] at hgd
        simp only [h2, h3, Bool.and_eq_true, decide_eq_true_eq] at hgd
        exact hgd.2
      · have := ih (listed.setIfInBounds j true) og (by simpa using hs) hcl' (by rw [hold n (by omega)]; exact hog) hun' hcnt
        have e : (alcO dA (.box T (zs.map .d)) og (stL (l.take n) ss (fun i => listed.getD i false) st)).set d (ss j) = alcO dA (.box T (zs.map .d)) og (stL (l.take n) ss (fun i => (listed.setIfInBounds j true).getD i false) st) := by
          have e2 : (stL (l.take n) ss (fun i => listed.getD i false) st).set d (ss j) = stL (l.take n) ss (fun i => (listed.setIfInBounds j true).getD i false) st := stL_set hd hjt hdo hLL
          cases og with
          | none => exact e2
          | some g => show (alcS _ _ _ _).set d (ss j) = alcS _ _ _ _; rw [alcS_set hddA, e2]
        show Ad P N M0 w0 l.toArray Q fuel (listed.setIfInBounds j true) _
        rw [e]
        exact this
/-- A region that draws its order: pure operations, a variable that is made, and what stands behind all of these. -/
theorem Aw_drawA {id : Nat} {l : List Oper} (n : Nat) {oA : Oper} {dA : Nat} {T : TypeId} {z : Value} {zs : List AV} (hm : P.follows .mixedOrders = true) (hok : drawAB N l n dA = true) (hA : l[n]? = some oA) (ho : oA.op = .alloc T) (hgA : oA.guard = none) (hdA : oA.dst = some dA) (hNA : dA < N) (hz : ∀ w, (zeroValue T).run P w = .ok z w) (hzs : z.cells.toList.map AV.v = zs) (hv : z.cells.toList.all (fun z => decide (vok z)) = true) (hfree : st.ob dA = none)
    (h : Dr P l.toArray (fun st' => ∀ g, Al P N M0 w0 l.toArray Q (l.drop (n + 1)) ((st'.put dA g (.box T (zs.map .d))).set dA (.bx dA g 0))) (l.take n) st) : Aw P N M0 w0 (.region id l.toArray true) Q st := by
  have hd : Ev.distinct (l.take n) = true := by
    simp only [drawAB, Bool.and_eq_true] at hok
    exact hok.1.1.1.1.1
  have hnl : n < l.length := (List.getElem?_eq_some_iff.1 hA).1
  have h0 : stL (l.take n) (fun _ => .any) (fun i => decide (i < 0)) st = st := by
    refine Eq.trans (stL_congr (fun i _ => ?_) (fun _ _ _ => rfl)) (stL_none (l := l.take n) (ss := fun _ => .any) (st := st))
    simp
  obtain ⟨ss, _, h2, h3⟩ := dr_all hd (l.take n) 0 (fun _ => .any) rfl (by rw [h0]; exact h)
  refine Aw_drawn hm ?_
  have := drawA_go hok hA ho hgA hdA hNA hz hzs hv hfree (fun i o hi => h2 i o (Nat.zero_le _) hi) (fun g => h3 g) l.length (List.replicate l.length false).toArray none (by simp) (fun i o h1 _ d _ => by
    exfalso
    rw [List.getElem?_toArray, List.getElem?_replicate] at h1
    split at h1 <;> simp at h1) (by simp [List.getElem?_replicate, hnl]) (fun i _ hi => by simp [List.getElem?_replicate, hi]) (by simp [Array.count_replicate])
  have e : stL (l.take n) ss (fun i => (List.replicate l.length false).toArray.getD i false) st = st := by
    refine Eq.trans (stL_congr (fun i _ => ?_) (fun _ _ _ => rfl)) stL_none
    rw [Array.getD_eq_getD_getElem?, List.getElem?_toArray, List.getElem?_replicate]
    split <;> rfl
  rw [e] at this
  exact this
end
end Go.Proofs.Ytmbaeloiepjakaa.A
