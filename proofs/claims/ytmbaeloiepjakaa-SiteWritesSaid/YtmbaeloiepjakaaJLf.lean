
/- Law 13: ShardCleans. -/
import Derived.Test.YtmbaeloiepjakaaJLe
import Derived.Test.YtmbaeloiepjakaaJLd
set_option linter.unusedSimpArgs false
set_option linter.unusedVariables false
namespace Go.Proofs.Ytmbaeloiepjakaa
open Go.RowKit A R
open A.RowT
namespace J
abbrev LessV (x y : Ver) : Prop := D.lessB x.n x.s y.n y.s = true
/-- A chain that rises. -/
def Chn (l : List Ver) : Prop := l.Pairwise LessV
theorem less_trans {a b c d e f : Int} (h : D.lessB a b c d = true) (h2 : D.lessB c d e f = true) : D.lessB a b e f = true := by
  unfold D.lessB at *
  split at h <;> split at h2 <;> split <;> simp_all <;> omega
theorem less_tri {a b c d : Int} (h : D.lessB a b c d = false) (h2 : ((a == c) && (b == d)) = false) : D.lessB c d a b = true := by
  unfold D.lessB at *
  rw [Bool.and_eq_false_iff] at h2
  simp only [beq_eq_false_iff_ne] at h2
  by_cases e : a = c
  · subst e
    rw [if_pos rfl] at h ⊢
    simp at h ⊢
    rcases h2 with h2 | h2
    · exact (h2 rfl).elim
    · omega
  · rw [if_neg e] at h
    rw [if_neg (Ne.symm e)]
    simp at h ⊢
    omega
theorem bxeq {g : Nat} {T : TypeId} {cs cs' : List SV} (h : cs = cs') : some (g, AO.box T cs) = some (g, AO.box T cs') := by rw [h]
theorem atc_cons (x : Ver) (r : List Ver) (n s : Int) : atc (x :: r) n s = if notB n s x then (if isSt n s x then some x else none) else atc r n s := by
  unfold atc frm
  rw [List.findIdx_cons]
  cases h : notB n s x with
  | true => simp [Option.filter_some]
  | false => simp
theorem atc_find : ∀ {l : List Ver} (n s : Int), Chn l → atc l n s = l.find? (isSt n s)
  | [], n, s, _ => rfl
  | x :: r, n, s, h => by
    have hc := List.pairwise_cons.1 h
    rw [atc_cons, List.find?_cons]
    cases hs : isSt n s x with
    | true =>
      have : notB n s x = true := by
        unfold isSt at hs
        simp only [Bool.and_eq_true, beq_iff_eq] at hs
        unfold notB
        rw [hs.1, hs.2, D.less_irrefl]; rfl
      rw [this]; rfl
    | false =>
      cases hn : notB n s x with
      | false =>
        have := atc_find n s hc.2
        simpa using this
      | true =>
        have h1 : D.lessB n s x.n x.s = true := less_tri (by unfold notB at hn; simpa using hn) hs
        have h2 : r.find? (isSt n s) = none := by
          rw [List.find?_eq_none]
          intro y hy
          have := less_ne (less_trans h1 (hc.1 y hy))
          unfold isSt
          rw [this]; decide
        rw [h2]; rfl
theorem put_chn {l m : List Ver} {v : Ver} (h : Chn l) (hp : put l v = some m) : Chn m := by
  unfold put at hp
  split at hp
  · rename_i hc
    cases hp
    have hle := frm_le l v.n v.s
    have hno : ∀ x ∈ l.take (frm l v.n v.s), LessV x v := fun x hx => by
      obtain ⟨j, hj, rfl⟩ := List.getElem_of_mem hx
      rw [List.length_take] at hj
      rw [List.getElem_take]
      have := List.not_of_lt_findIdx (p := notB v.n v.s) (xs := l) (i := j) (by unfold frm at hj; omega)
      unfold notB at this
      simpa using this
    have hup : ∀ x ∈ l.drop (frm l v.n v.s), LessV v x := fun x hx => by
      rcases Nat.lt_or_ge (frm l v.n v.s) l.length with hlt | hge
      · have h0 : notB v.n v.s l[frm l v.n v.s] = true := List.findIdx_getElem (p := notB v.n v.s) (w := hlt)
        have h1 := hc.2.2 _ (List.getElem?_eq_getElem hlt)
        have h2 : LessV v l[frm l v.n v.s] := less_tri (by unfold notB at h0; simpa using h0) h1
        obtain ⟨i, hi, rfl⟩ := List.getElem_of_mem hx
        rw [List.getElem_drop]
        rw [List.length_drop] at hi
        rcases Nat.eq_zero_or_pos i with e | e
        · subst e; exact h2
        · exact less_trans h2 (List.pairwise_iff_getElem.1 h _ _ hlt (by omega) (by omega))
      · rw [List.drop_eq_nil_of_le hge] at hx; cases hx
    refine List.pairwise_append.2 ⟨List.Pairwise.sublist (List.take_sublist ..) h, List.pairwise_cons.2 ⟨hup, List.Pairwise.sublist (List.drop_sublist ..) h⟩, fun x hx y hy => ?_⟩
    rcases List.mem_cons.1 hy with rfl | hy
    · exact hno x hx
    · exact less_trans (hno x hx) (hup y hy)
  · cases hp
/-- All chains rise. -/
def Chns (cs : SC) : Prop := ∀ p ∈ cs, Chn p.2
theorem Chns.get {cs : SC} (h : Chns cs) (k : ByteArray) : Chn (getC cs k) := by
  unfold getC
  cases hl : look cs k with
  | none => exact .nil
  | some l => exact h _ (mem_look hl)
theorem chns_put {rs : List Rng} {cs : SC} (h : Chns cs) (v : Ver) : Chns (sput rs cs v).1 := by
  cases hb : (sput rs cs v).2 with
  | false => rw [sput_no hb]; exact h
  | true =>
    obtain ⟨l, hf, hl, he⟩ := sput_some hb
    rw [he]
    intro p hp
    rcases mem_setC _ _ _ _ hp with rfl | hp
    · exact put_chn (h.get v.key) hl
    · exact h p hp
theorem chns_runV : ∀ (l : List Ver) (cs : SC), Chns cs → Chns (l.foldl (fun cs v => (sput (ranges 0) cs v).1) cs)
  | [], cs, h => h
  | v :: l, cs, h => chns_runV l _ (chns_put h v)
theorem own_runV : ∀ (l : List Ver) (m : Nat) (cs : SC), Own m (ranges 0) cs → Own (m + l.length) (ranges 0) (l.foldl (fun cs v => (sput (ranges 0) cs v).1) cs)
  | [], m, cs, h => h
  | v :: l, m, cs, h => by
    have := own_runV l (m + 1) _ (own_put h v)
    rw [List.foldl_cons, List.length_cons, show m + (l.length + 1) = m + 1 + l.length from by omega]
    exact this
theorem runK_own (l : List HOp) (k : Nat) : Own k (ranges 0) (runK l k) ∧ Chns (runK l k) := by
  refine ⟨?_, chns_runV _ [] fun p hp => by cases hp⟩
  have := own_runV ((l.take k).map ver) 0 [] (own_nil _)
  refine this.mono ?_
  simp; omega
theorem look_map (f : ByteArray → List Ver → List Ver) : ∀ (cs : SC) (k : ByteArray), look (cs.map fun p => (p.1, f p.1 p.2)) k = (look cs k).map (f k)
  | [], k => rfl
  | p :: r, k => by
    rw [List.map_cons, look_cons, look_cons, look_map f r k]
    by_cases h : p.1 = k
    · rw [if_pos h, if_pos h, h]; rfl
    · rw [if_neg h, if_neg h]
theorem getC_clean (cs : SC) (n s : Int) (pins : List Dep) (k : ByteArray) : getC (sclean cs n s pins) k = clean (getC cs k) n s (pinsOf pins k) := by
  unfold getC sclean
  rw [look_map (fun k l => clean l n s (pinsOf pins k))]
  cases look cs k <;> rfl
theorem sat_clean {cs : SC} (h : Chns cs) (n s : Int) {pins : List Dep} {d : Dep} (hd : d ∈ pins) : sat (sclean cs n s pins) d.key d.n d.s = sat cs d.key d.n d.s := by
  unfold sat
  rw [getC_clean]
  show atc ((getC cs d.key).filter (keeps (getC cs d.key) n s (pinsOf pins d.key))) d.n d.s = _
  rw [atc_find _ _ (List.Pairwise.sublist (List.filter_sublist ..) (h.get d.key)), atc_find _ _ (h.get d.key), List.find?_filter]
  congr 1
  funext v
  cases hs : isSt d.n d.s v with
  | false => simp
  | true =>
    have : keeps (getC cs d.key) n s (pinsOf pins d.key) v = true := by
      unfold keeps
      have : ((pinsOf pins d.key).any fun p => (v.n == p.1) && (v.s == p.2)) = true := by
        rw [List.any_eq_true]
        refine ⟨(d.n, d.s), ?_, hs⟩
        unfold pinsOf
        exact List.mem_map_of_mem (f := fun d : Dep => (d.n, d.s)) (List.mem_filter.2 ⟨hd, by simp⟩)
      rw [this]; rfl
    rw [this]; rfl
theorem head_snoc (a : List Ver) (x : Ver) : head (a ++ [x]) = some x := by
  rw [head_last (by simp : a ++ [x] ≠ [])]
  simp
theorem head_clean {l : List Ver} (h : l ≠ []) (n s : Int) (pins : List (Int × Int)) : head (clean l n s pins) = head l := by
  have hk := head_keeps h n s pins
  have e : l = l.dropLast ++ [l.getLast h] := (List.dropLast_concat_getLast h).symm
  have : clean l n s pins = (l.dropLast.filter (keeps l n s pins)) ++ [l.getLast h] := by
    unfold clean
    conv => lhs; arg 2; rw [e]
    rw [List.filter_append, List.filter_cons, hk]; rfl
  rw [this, head_snoc, head_last h]
theorem have_clean {m : Nat} {rs : List Rng} {cs : SC} (h : Own m rs cs) (n s : Int) (pins : List Dep) : have' (sclean cs n s pins) = have' cs := by
  have hk : keysC (sclean cs n s pins) = keysC cs := sclean_keys ..
  unfold have'
  rw [hk]
  refine List.map_congr_left fun k hk => ?_
  obtain ⟨p, hp, rfl⟩ := List.mem_map.1 hk
  have hl : getC cs p.1 = p.2 := by unfold getC; rw [look_mem h.rise hp]; rfl
  have : shead (sclean cs n s pins) p.1 = shead cs p.1 := by
    unfold shead
    rw [getC_clean, hl, head_clean (h.own p hp).2]
  rw [this]
def isA (cs : SC) (pins : List Dep) (j : Nat) : List SV := (List.range 6).map fun i => .d (bv (decide (i < j) && (sat cs (pins.getD i default).key (pins.getD i default).n (pins.getD i default).s).isSome))
theorem isA_set (cs : SC) (pins : List Dep) {j : Nat} (hj : j < 6) : (isA cs pins j).set j (.d (bv (sat cs (pins.getD j default).key (pins.getD j default).n (pins.getD j default).s).isSome)) = isA cs pins (j + 1) := by
  apply List.ext_getElem?
  intro i
  unfold isA
  rw [List.getElem?_set]
  by_cases e : j = i
  · subst e
    rw [if_pos rfl, if_pos (by simpa using hj)]
    simp [hj]
  · rw [if_neg e, List.getElem?_map, List.getElem?_map]
    rcases Nat.lt_or_ge i 6 with h | h
    · rw [List.getElem?_range h]
      have : (i < j + 1) ↔ i < j := by omega
      simp [this]
    · rw [List.getElem?_eq_none (by simpa using h)]; rfl
theorem isA_at (cs : SC) (pins : List Dep) {i j : Nat} (hi : i < 6) (hij : i < j) : (isA cs pins j)[0 + i * 1]? = some (.d (bv (sat cs (pins.getD i default).key (pins.getD i default).n (pins.getD i default).s).isSome)) := by
  unfold isA
  rw [Nat.zero_add, Nat.mul_one, List.getElem?_map, List.getElem?_range hi]
  simp [hij]
end J
end Go.Proofs.Ytmbaeloiepjakaa
