/- Law 13: ShardCleans. -/
import Derived.Test.YtkmjiaegbooplaaJLe
import Derived.Test.YtkmjiaegbooplaaJLd
set_option linter.unusedSimpArgs false
set_option linter.unusedVariables false
namespace Go.Proofs.Ytkmjiaegbooplaa
open Go.RowKit A R
open A.RowT
namespace J
abbrev LessV (x y : Ver) : Prop := D.lessB x.n x.s y.n y.s = true
/-- A chain that rises. -/
def Chn (l : List Ver) : Prop := l.Pairwise LessV
theorem less_trans {a b c d e f : Int} (h : D.lessB a b c d = true) (h2 : D.lessB c d e f = true) : D.lessB a b e f = true := by
  unfold D.lessB at *
  split at h <;> split at h2 <;> split <;> simp_all <;> omega
theorem less_tri {a b c d : Int} (h : D.lessB a b c d = false) (h2 : ((a == c) && (b == d)) = false) : D.lessB c d a b = true := by
  unfold D.lessB at *
  rw [Bool.and_eq_false_iff] at h2
  simp only [beq_eq_false_iff_ne] at h2
  by_cases e : a = c
  · subst e
    rw [if_pos rfl] at h ⊢
    simp at h ⊢
    rcases h2 with h2 | h2
    · exact (h2 rfl).elim
    · omega
  · rw [if_neg e] at h
    rw [if_neg (Ne.symm e)]
    simp at h ⊢
    omega
theorem bxeq {g : Nat} {T : TypeId} {cs cs' : List SV} (h : cs = cs') : some (g, AO.box T cs) = some (g, AO.box T cs') := by rw [h]
theorem atc_cons (x : Ver) (r : List Ver) (n s : Int) : atc (x :: r) n s = if notB n s x then (if isSt n s x then some x else none) else atc r n s := by
  unfold atc frm
  rw [List.findIdx_cons]
  cases h : notB n s x with
  | true => simp [Option.filter_some]
  | false => simp
theorem atc_find : ∀ {l : List Ver} (n s : Int), Chn l → atc l n s = l.find? (isSt n s)
  | [], n, s, _ => rfl
  | x :: r, n, s, h => by
    have hc := List.pairwise_cons.1 h
    rw [atc_cons, List.find?_cons]
    cases hs : isSt n s x with
    | true =>
      have : notB n s x = true := by
        unfold isSt at hs
        simp only [Bool.and_eq_true, beq_iff_eq] at hs
        unfold notB
        rw [hs.1, hs.2, D.less_irrefl]; rfl
      rw [this]; rfl
    | false =>
      cases hn : notB n s x with
      | false =>
        have := atc_find n s hc.2
        simpa using this
      | true =>
        have h1 : D.lessB n s x.n x.s = true := less_tri (by unfold notB at hn; simpa using hn) hs
        have h2 : r.find? (isSt n s) = none := by
          rw [List.find?_eq_none]
          intro y hy
          have := less_ne (less_trans h1 (hc.1 y hy))
          unfold isSt
          rw [this]; decide
        rw [h2]; rfl
theorem put_chn {l m : List Ver} {v : Ver} (h : Chn l) (hp : put l v = some m) : Chn m := by
  unfold put at hp
  split at hp
  · rename_i hc
    cases hp
    have hle := frm_le l v.n v.s
    have hno : ∀ x ∈ l.take (frm l v.n v.s), LessV x v := fun x hx => by
      obtain ⟨j, hj, rfl⟩ := List.getElem_of_mem hx
      rw [List.length_take] at hj
      rw [List.getElem_take]
      have := List.not_of_lt_findIdx (p := notB v.n v.s) (xs := l) (i := j) (by unfold frm at hj; omega)
      unfold notB at this
      simpa using this
    have hup : ∀ x ∈ l.drop (frm l v.n v.s), LessV v x := fun x hx => by
      rcases Nat.lt_or_ge (frm l v.n v.s) l.length with hlt | hge
      · have h0 : notB v.n v.s l[frm l v.n v.s] = true := List.findIdx_getElem (p := notB v.n v.s) (w := hlt)
        have h1 := hc.2.2 _ (List.getElem?_eq_getElem hlt)
        have h2 : LessV v l[frm l v.n v.s] := less_tri (by unfold notB at h0; simpa using h0) h1
        obtain ⟨i, hi, rfl⟩ := List.getElem_of_mem hx
        rw [List.getElem_drop]
        rw [List.length_drop] at hi
        rcases Nat.eq_zero_or_pos i with e | e
        · subst e; exact h2
        · exact less_trans h2 (List.pairwise_iff_getElem.1 h _ _ hlt (by omega) (by omega))
      · rw [List.drop_eq_nil_of_le hge] at hx; cases hx
    refine List.pairwise_append.2 ⟨List.Pairwise.sublist (List.take_sublist ..) h, List.pairwise_cons.2 ⟨hup, List.Pairwise.sublist (List.drop_sublist ..) h⟩, fun x hx y hy => ?_⟩
    rcases List.mem_cons.1 hy with rfl | hy
    · exact hno x hx
    · exact less_trans (hno x hx) (hup y hy)
  · cases hp
/-- All chains rise. -/
def Chns (cs : SC) : Prop := ∀ p ∈ cs, Chn p.2
theorem Chns.get {cs : SC} (h : Chns cs) (k : ByteArray) : Chn (getC cs k) := by
  unfold getC
  cases hl : look cs k with
  | none => exact .nil
  | some l => exact h _ (mem_look hl)
theorem chns_put {rs : List Rng} {cs : SC} (h : Chns cs) (v : Ver) : Chns (sput rs cs v).1 := by
  cases hb : (sput rs cs v).2 with
  | false => rw [sput_no hb]; exact h
  | true =>
    obtain ⟨l, hf, hl, he⟩ := sput_some hb
    rw [he]
    intro p hp
    rcases mem_setC _ _ _ _ hp with rfl | hp
    · exact put_chn (h.get v.key) hl
    · exact h p hp
theorem chns_runV : ∀ (l : List Ver) (cs : SC), Chns cs → Chns (l.foldl (fun cs v => (sput (ranges 0) cs v).1) cs)
  | [], cs, h => h
  | v :: l, cs, h => chns_runV l _ (chns_put h v)
theorem own_runV : ∀ (l : List Ver) (m : Nat) (cs : SC), Own m (ranges 0) cs → Own (m + l.length) (ranges 0) (l.foldl (fun cs v => (sput (ranges 0) cs v).1) cs)
  | [], m, cs, h => h
  | v :: l, m, cs, h => by
    have := own_runV l (m + 1) _ (own_put h v)
    rw [List.foldl_cons, List.length_cons, show m + (l.length + 1) = m + 1 + l.length from by omega]
    exact this
theorem runK_own (l : List HOp) (k : Nat) : Own k (ranges 0) (runK l k) ∧ Chns (runK l k) := by
  refine ⟨?_, chns_runV _ [] fun p hp => by cases hp⟩
  have := own_runV ((l.take k).map ver) 0 [] (own_nil _)
  refine this.mono ?_
  simp; omega
theorem look_map (f : ByteArray → List Ver → List Ver) : ∀ (cs : SC) (k : ByteArray), look (cs.map fun p => (p.1, f p.1 p.2)) k = (look cs k).map (f k)
  | [], k => rfl
  | p :: r, k => by
    rw [List.map_cons, look_cons, look_cons, look_map f r k]
    by_cases h : p.1 = k
    · rw [if_pos h, if_pos h, h]; rfl
    · rw [if_neg h, if_neg h]
theorem getC_clean (cs : SC) (n s : Int) (pins : List Dep) (k : ByteArray) : getC (sclean cs n s pins) k = clean (getC cs k) n s (pinsOf pins k) := by
  unfold getC sclean
  rw [look_map (fun k l => clean l n s (pinsOf pins k))]
  cases look cs k <;> rfl
theorem sat_clean {cs : SC} (h : Chns cs) (n s : Int) {pins : List Dep} {d : Dep} (hd : d ∈ pins) : sat (sclean cs n s pins) d.key d.n d.s = sat cs d.key d.n d.s := by
  unfold sat
  rw [getC_clean]
  show atc ((getC cs d.key).filter (keeps (getC cs d.key) n s (pinsOf pins d.key))) d.n d.s = _
  rw [atc_find _ _ (List.Pairwise.sublist (List.filter_sublist ..) (h.get d.key)), atc_find _ _ (h.get d.key), List.find?_filter]
  congr 1
  funext v
  cases hs : isSt d.n d.s v with
  | false => simp
  | true =>
    have : keeps (getC cs d.key) n s (pinsOf pins d.key) v = true := by
      unfold keeps
      have : ((pinsOf pins d.key).any fun p => (v.n == p.1) && (v.s == p.2)) = true := by
        rw [List.any_eq_true]
        refine ⟨(d.n, d.s), ?_, hs⟩
        unfold pinsOf
        exact List.mem_map_of_mem (f := fun d : Dep => (d.n, d.s)) (List.mem_filter.2 ⟨hd, by simp⟩)
      rw [this]; rfl
    rw [this]; rfl
theorem head_snoc (a : List Ver) (x : Ver) : head (a ++ [x]) = some x := by
  rw [head_last (by simp : a ++ [x] ≠ [])]
  simp
theorem head_clean {l : List Ver} (h : l ≠ []) (n s : Int) (pins : List (Int × Int)) : head (clean l n s pins) = head l := by
  have hk := head_keeps h n s pins
  have e : l = l.dropLast ++ [l.getLast h] := (List.dropLast_concat_getLast h).symm
  have : clean l n s pins = (l.dropLast.filter (keeps l n s pins)) ++ [l.getLast h] := by
    unfold clean
    conv => lhs; arg 2; rw [e]
    rw [List.filter_append, List.filter_cons, hk]; rfl
  rw [this, head_snoc, head_last h]
theorem have_clean {m : Nat} {rs : List Rng} {cs : SC} (h : Own m rs cs) (n s : Int) (pins : List Dep) : have' (sclean cs n s pins) = have' cs := by
  have hk : keysC (sclean cs n s pins) = keysC cs := sclean_keys ..
  unfold have'
  rw [hk]
  refine List.map_congr_left fun k hk => ?_
  obtain ⟨p, hp, rfl⟩ := List.mem_map.1 hk
  have hl : getC cs p.1 = p.2 := by unfold getC; rw [look_mem h.rise hp]; rfl
  have : shead (sclean cs n s pins) p.1 = shead cs p.1 := by
    unfold shead
    rw [getC_clean, hl, head_clean (h.own p hp).2]
  rw [this]
def isA (cs : SC) (pins : List Dep) (j : Nat) : List SV := (List.range 6).map fun i => .d (bv (decide (i < j) && (sat cs (pins.getD i default).key (pins.getD i default).n (pins.getD i default).s).isSome))
theorem isA_set (cs : SC) (pins : List Dep) {j : Nat} (hj : j < 6) : (isA cs pins j).set j (.d (bv (sat cs (pins.getD j default).key (pins.getD j default).n (pins.getD j default).s).isSome)) = isA cs pins (j + 1) := by
  apply List.ext_getElem?
  intro i
  unfold isA
  rw [List.getElem?_set]
  by_cases e : j = i
  · subst e
    rw [if_pos rfl, if_pos (by simpa using hj)]
    simp [hj]
  · rw [if_neg e, List.getElem?_map, List.getElem?_map]
    rcases Nat.lt_or_ge i 6 with h | h
    · rw [List.getElem?_range h]
      have : (i < j + 1) ↔ i < j := by omega
      simp [this]
    · rw [List.getElem?_eq_none (by simpa using h)]; rfl
theorem isA_at (cs : SC) (pins : List Dep) {i j : Nat} (hi : i < 6) (hij : i < j) : (isA cs pins j)[0 + i * 1]? = some (.d (bv (sat cs (pins.getD i default).key (pins.getD i default).n (pins.getD i default).s).isSome)) := by
  unfold isA
  rw [Nat.zero_add, Nat.mul_one, List.getElem?_map, List.getElem?_range hi]
  simp [hij]
end J
set_option maxRecDepth 100000 in
set_option maxHeartbeats 4000000 in
theorem shardcleans_law (l : List HOp) (z : Int) (ps : List Dep) : ACall Try.prog 6 [.sl 14 (l.map HOp.row), iv z, .sl 3 (ps.map Dep.row)] (bv true) := by
  refine ACall_enter (fun _ _ => by kernel_rfl) Try.func6 rfl Try.ntmps6 Try.results6 (Nat.le_of_ble_eq_true rfl) (fun hok M0 w0 hnl => ?_)
  have hlen := (hok _ (List.mem_cons_self ..)).len
  rw [List.length_map] at hlen
  have hr0 : (J.ranges 0).length ≤ 1000000 := Nat.le_trans (J.ranges_len 0) (by decide)
  obtain ⟨pins, hps⟩ : ∃ pins, pins = ps.take 6 := ⟨_, rfl⟩
  have hpl : pins.length ≤ 6 := by rw [hps]; simp; omega
  refine Aw_seq ?_
  refine Aw_region ?_
  refine Al_pu (Pu_move (.inr rfl) (by conv => lhs; whnf)) rfl rfl (by decide) (by kernel_rfl) ?_
  refine Al_nil ?_
  refine Aw_seq ?_
  refine Aw_region ?_
  refine Al_pu (Pu_call (hawake_a) rfl trivial) rfl rfl (by decide) (by kernel_rfl) ?_
  refine Al_pu (Pu_move (.inr rfl) (by conv => lhs; whnf)) rfl rfl (by decide) (by kernel_rfl) ?_
  refine Al_nil ?_
  refine Aw_seq ?_
  refine Aw_region ?_
  refine Al_pu (Pu_call (hranges_a 0) rfl ⟨Sub.rfl, trivial⟩) rfl rfl (by decide) (by kernel_rfl) ?_
  refine Al_gcallE [] [(1001, 22), (1002, 220)] (snew_g (J.ranges 0) hr0) rfl rfl rfl (by decide) (by kernel_rfl) trivial (fun _ => rfl) rfl rfl ⟨Sub.rfl, trivial⟩ ?_
  rintro b g22
  refine Al_pu (Pu_move (.inr rfl) (by conv => lhs; whnf)) rfl rfl (by decide) (by kernel_rfl) ?_
  refine Al_nil ?_
  refine Aw_seq ?_
  refine Aw_seq ?_
  refine Aw_region ?_
  refine Al_pu (Pu_move (.inl rfl) (by conv => lhs; whnf)) rfl rfl (by decide) (by kernel_rfl) ?_
  refine Al_pu (Pu_eqnilb Try.underlying25 rfl rfl) rfl rfl (by decide) (by kernel_rfl) ?_
  refine Al_nil ?_
  refine Aw_condF rfl (rfl) ?_
  refine Aw_skip ?_
  refine Aw_seq ?_
  refine Aw_seq ?_
  refine Aw_region ?_
  refine Al_pu (Pu_move (.inr rfl) (by conv => lhs; whnf)) rfl rfl (by decide) (by kernel_rfl) ?_
  refine Al_nil ?_
  refine Aw_block ?_
  refine Aw_loopk (ι := Nat) [0, 1, 2, 7, 8] [22] (fun k => [(9, .d (iv k))]) (fun k => [(220, g22, mapV b (J.runK l k))]) (fun k => k ≤ l.length ∧ k ≤ 40) (fun k => 40 - k) (0) (⟨Nat.zero_le _, Nat.zero_le _⟩) ⟨Sub.rfl, trivial⟩ ⟨rfl, trivial⟩ ?_
  rintro k ⟨hk1, hk2⟩
  refine Aw_seq ?_
  refine Aw_seq ?_
  refine Aw_region ?_
  refine Al_pu (Pu_move (.inl rfl) (by conv => lhs; whnf)) rfl rfl (by decide) (by kernel_rfl) ?_
  refine Al_pu (Pu_move (.inl rfl) (by conv => lhs; whnf)) rfl rfl (by decide) (by kernel_rfl) ?_
  refine Al_pu (Pu_len rfl Try.underlying22 rfl (by first | exact List.length_map .. | exact rfl)) rfl rfl (by decide) (by kernel_rfl) ?_
  refine Al_pu (Pu_cmp rfl rfl rfl rfl) rfl rfl (by decide) (by kernel_rfl) ?_
  refine Al_pu (Pu_move (.inl rfl) (by conv => lhs; whnf)) rfl rfl (by decide) (by kernel_rfl) ?_
  refine Al_st (St_gd [] rfl rfl rfl rfl trivial (fun hg30 => by exact Pu_move (.inl rfl) (by conv => lhs; whnf))) rfl (by decide) (by kernel_rfl) (by intro j b oj dj h1 h2 h3; cases h1; cases h2; cases h3; decide) ?_
  refine Al_st (St_gd [30] rfl rfl rfl rfl ⟨⟨_, rfl⟩, trivial⟩ (fun hg31 => Pu_cmp rfl rfl rfl rfl)) rfl (by decide) (by kernel_rfl) (by intro j b oj dj h1 h2 h3; cases h1; cases h2; cases h3; decide) ?_
  refine Al_pu (Pu_and rfl rfl rfl rfl) rfl rfl (by decide) (by kernel_rfl) ?_
  refine Al_nil ?_
  refine Aw_cond rfl (fun h32 => ?_) (fun h32 => ?_)
  · (try simp only [decide_eq_true_eq, decide_eq_false_iff_not, Bool.and_eq_true, Bool.or_eq_true, Bool.and_eq_false_iff, Bool.or_eq_false_iff, Bool.not_eq_true', Bool.not_eq_false', beq_iff_eq, Bool.not_eq_eq_eq_not, Bool.not_true, Bool.not_false, List.length_map, Bool.and_true, Bool.and_false, Bool.false_and, Bool.true_and, Bool.or_false, Bool.false_or] at h32)
    obtain ⟨ha, hb⟩ : k < l.length ∧ k < 40 := by omega
    obtain ⟨hrk, hsk⟩ := J.runK_ok l k
    have hsucc := J.runK_succ l ha
    refine Aw_skip ?_
    refine Aw_seq ?_
    refine Aw_block ?_
    refine Aw_region ?_
    refine Al_pu (Pu_move (.inl rfl) (by conv => lhs; whnf)) rfl rfl (by decide) (by kernel_rfl) ?_
    refine Al_pu (Pu_move (.inl rfl) (by conv => lhs; whnf)) rfl rfl (by decide) (by kernel_rfl) ?_
    refine Al_pu (Pu_move (.inl rfl) (by conv => lhs; whnf)) rfl rfl (by decide) (by kernel_rfl) ?_
    refine Al_pu (Pu_index rfl Try.underlying22 Try.sizeOf38 rfl rfl (rfl) (mapgetD (d := default) ha)) rfl rfl (by decide) (by kernel_rfl) ?_
    refine Al_pu (Pu_loadN rfl Try.isAgg38 Try.sizeOf38 rfl (Nat.le_of_ble_eq_true rfl)) rfl rfl (by decide) (by kernel_rfl) ?_
    refine Al_pu (Pu_call (hversion_a (l.getD k default)) rfl ⟨Sub.rfl, trivial⟩) rfl rfl (by decide) (by kernel_rfl) ?_
    refine Al_gcall [(1001, 22, g22), (1002, 220, g22)] [] (sput_g (J.ranges 0) (J.runK l k) b (J.ver (l.getD k default)) hr0 hrk (hsk.mono (by omega))) rfl rfl rfl (by decide) (by kernel_rfl) ⟨rfl, rfl, trivial⟩ rfl ⟨Sub.rfl, Sub.rfl, trivial⟩ (fun g41 => ?_)
    refine Al_nil ?_
    refine Aw_region ?_
    refine Al_pu (Pu_move (.inl rfl) (by conv => lhs; whnf)) rfl rfl (by decide) (by kernel_rfl) ?_
    refine Al_pu (Pu_add rfl rfl rfl (fun h1 h2 => by simp only [A.inI, A.maxI] at *; omega)) rfl rfl (by decide) (by kernel_rfl) ?_
    refine Al_pu (Pu_move (.inr rfl) (by conv => lhs; whnf)) rfl rfl (by decide) (by kernel_rfl) ?_
    refine Al_nil ?_
    exact ⟨k + 1, ⟨by omega, by omega⟩, by omega, Le.ov ⟨Sub.num (by omega), trivial⟩ ⟨Sub.rfl, Sub.rfl, Sub.rfl, Sub.rfl, Sub.rfl, trivial⟩ ⟨obeq2 hsucc.symm, trivial⟩ ⟨rfl, trivial⟩⟩ -- loop 0 next.0
  · (try simp only [decide_eq_true_eq, decide_eq_false_iff_not, Bool.and_eq_true, Bool.or_eq_true, Bool.and_eq_false_iff, Bool.or_eq_false_iff, Bool.not_eq_true', Bool.not_eq_false', beq_iff_eq, Bool.not_eq_eq_eq_not, Bool.not_true, Bool.not_false, List.length_map, Bool.and_true, Bool.and_false, Bool.false_and, Bool.true_and, Bool.or_false, Bool.false_or] at h32)
    obtain ⟨hown, hchn⟩ := J.runK_own l k
    obtain ⟨cs, hcs⟩ : ∃ cs, cs = J.runK l k := ⟨_, rfl⟩
    rw [← hcs] at hown hchn
    have hsm := hown.sm.mono (show k ≤ 1000 by omega)
    have h31 : 0 ≤ J.andI z 31 ∧ J.andI z 31 ≤ 31 := J.andI_le z 31 (by decide)
    have hrc := J.sclean_rise hown.rise (J.andI z 31) 0 pins
    have hsc := J.sclean_sm hsm (J.andI z 31) 0 pins
    refine Aw_exit ?_
    refine Aw_join (ι := Unit) [1, 7, 8] [22] (fun _ => [(2, .d (.sl 3 (pins.map Dep.row)))]) (fun _ => [(220, g22, mapV b cs)]) (fun _ => True) ?_ ?_ -- join 0
    · refine Aw_seq ?_
      refine Aw_region ?_
      refine Al_pu (Pu_move (.inl rfl) (by conv => lhs; whnf)) rfl rfl (by decide) (by kernel_rfl) ?_
      refine Al_pu (Pu_len rfl Try.underlying32 rfl (by first | exact List.length_map .. | exact rfl)) rfl rfl (by decide) (by kernel_rfl) ?_
      refine Al_pu (Pu_cmp rfl rfl rfl rfl) rfl rfl (by decide) (by kernel_rfl) ?_
      refine Al_nil ?_
      refine Aw_cond rfl (fun h44 => ?_) (fun h44 => ?_)
      · (try simp only [decide_eq_true_eq, decide_eq_false_iff_not, Bool.and_eq_true, Bool.or_eq_true, Bool.and_eq_false_iff, Bool.or_eq_false_iff, Bool.not_eq_true', Bool.not_eq_false', beq_iff_eq, Bool.not_eq_eq_eq_not, Bool.not_true, Bool.not_false, List.length_map, Bool.and_true, Bool.and_false, Bool.false_and, Bool.true_and, Bool.or_false, Bool.false_or] at h44)
        refine Aw_region ?_
        refine Al_pu (Pu_move (.inl rfl) (by conv => lhs; whnf)) rfl rfl (by decide) (by kernel_rfl) ?_
        refine Al_pu (Pu_subL (0) (6) rfl Try.underlying32 Try.sizeOf36 rfl rfl ⟨_, rfl, by omega⟩ ⟨by first | omega | (simp; omega), by first | omega | (simp; omega)⟩) rfl rfl (by decide) (by kernel_rfl) ?_
        refine Al_pu (Pu_move (.inr rfl) (by conv => lhs; whnf)) rfl rfl (by decide) (by kernel_rfl) ?_
        refine Al_nil ?_
        exact ⟨(), trivial, Le.ov ⟨Sub.d (by rw [hps, List.map_take]; rfl), trivial⟩ ⟨Sub.rfl, Sub.rfl, Sub.rfl, trivial⟩ ⟨obeq2 hcs.symm, trivial⟩ ⟨rfl, trivial⟩⟩ -- join 0 next.0
      · (try simp only [decide_eq_true_eq, decide_eq_false_iff_not, Bool.and_eq_true, Bool.or_eq_true, Bool.and_eq_false_iff, Bool.or_eq_false_iff, Bool.not_eq_true', Bool.not_eq_false', beq_iff_eq, Bool.not_eq_eq_eq_not, Bool.not_true, Bool.not_false, List.length_map, Bool.and_true, Bool.and_false, Bool.false_and, Bool.true_and, Bool.or_false, Bool.false_or] at h44)
        refine Aw_skip ?_
        exact ⟨(), trivial, Le.ov ⟨Sub.d (by rw [hps, List.take_of_length_le (by omega)]), trivial⟩ ⟨Sub.rfl, Sub.rfl, Sub.rfl, trivial⟩ ⟨obeq2 hcs.symm, trivial⟩ ⟨rfl, trivial⟩⟩ -- join 0 next.1
    · rintro _ hj0
      refine Aw_seq ?_
      refine Aw_region ?_
      refine Al_pu (Pu_move (.inl rfl) (by conv => lhs; whnf)) rfl rfl (by decide) (by kernel_rfl) ?_
      refine Al_gcall [(1001, 22, g22), (1002, 220, g22)] [] (shave_g (J.ranges 0) cs b hown.rise hsm) rfl rfl rfl (by decide) (by kernel_rfl) ⟨rfl, rfl, trivial⟩ rfl ⟨Sub.rfl, trivial⟩ (fun g48 => ?_)
      refine Al_pu (Pu_move (.inr rfl) (by conv => lhs; whnf)) rfl rfl (by decide) (by kernel_rfl) ?_
      refine Al_nil ?_
      refine Aw_seq ?_
      refine Aw_region ?_
      refine Al_pu (Pu_move (.inr rfl) (by conv => lhs; whnf)) rfl rfl (by decide) (by kernel_rfl) ?_
      refine Al_nil ?_
      refine Aw_seq ?_
      refine Aw_region ?_
      refine Al_alloc rfl rfl rfl (by decide) Try.zeroValue56 rfl (by kernel_rfl) (fun g12 => ?_)
      refine Al_nil ?_
      refine Aw_seq ?_
      refine Aw_seq ?_
      refine Aw_region ?_
      refine Al_pu (Pu_move (.inr rfl) (by conv => lhs; whnf)) rfl rfl (by decide) (by kernel_rfl) ?_
      refine Al_nil ?_
      refine Aw_block ?_
      refine Aw_own (j := 11) (k := 11) (T := 34) (n := 6) rfl (fun g0 => ?_)
      refine Aw_loopk (ι := Nat × Nat) [1, 2, 7, 8, 10, 12] [22, 220] (fun (j, g) => [(13, .d (iv j)), (11, .ow 11 g)]) (fun (j, g) => [(11, g, .arr 34 6 (((pins.take j).map fun d => (J.sat cs d.key d.n d.s).getD default).map Ver.row)), (12, g12, .box 56 (J.isA cs pins j))]) (fun (j, g) => j ≤ pins.length) (fun (j, g) => pins.length - j) ((0, g0)) (Nat.zero_le _) ⟨Sub.rfl, Sub.rfl, trivial⟩ ⟨rfl, J.bxeq rfl, trivial⟩ ?_
      rintro ⟨j, g⟩ hk1
      refine Aw_seq ?_
      refine Aw_seq ?_
      refine Aw_region ?_
      refine Al_pu (Pu_move (.inl rfl) (by conv => lhs; whnf)) rfl rfl (by decide) (by kernel_rfl) ?_
      refine Al_pu (Pu_move (.inl rfl) (by conv => lhs; whnf)) rfl rfl (by decide) (by kernel_rfl) ?_
      refine Al_pu (Pu_len rfl Try.underlying32 rfl (by first | exact List.length_map .. | exact rfl)) rfl rfl (by decide) (by kernel_rfl) ?_
      refine Al_pu (Pu_cmp rfl rfl rfl rfl) rfl rfl (by decide) (by kernel_rfl) ?_
      refine Al_nil ?_
      refine Aw_cond rfl (fun h52 => ?_) (fun h52 => ?_)
      · (try simp only [decide_eq_true_eq, decide_eq_false_iff_not, Bool.and_eq_true, Bool.or_eq_true, Bool.and_eq_false_iff, Bool.or_eq_false_iff, Bool.not_eq_true', Bool.not_eq_false', beq_iff_eq, Bool.not_eq_eq_eq_not, Bool.not_true, Bool.not_false, List.length_map, Bool.and_true, Bool.and_false, Bool.false_and, Bool.true_and, Bool.or_false, Bool.false_or] at h52)
        have hj : j < pins.length := by omega
        have hset := J.isA_set cs pins (j := j) (by omega)
        have htk : (pins.take (j + 1)).map (fun d => (J.sat cs d.key d.n d.s).getD default) = (pins.take j).map (fun d => (J.sat cs d.key d.n d.s).getD default) ++ [(J.sat cs (pins.getD j default).key (pins.getD j default).n (pins.getD j default).s).getD default] := by
          rw [List.take_succ_eq_append_getElem hj, List.map_append, show pins.getD j default = pins[j] from by simp [hj]]; rfl
        refine Aw_skip ?_
        -- join 1: live [1, 2, 7, 8, 10, 11, 12, 13], turned [11]
        refine Aw_seq ?_
        refine Aw_block ?_
        -- join 2: live [1, 2, 7, 8, 10, 11, 12, 13, 14, 15], turned [14, 15]
        refine Aw_seq ?_
        refine Aw_drawPA 11 15 6 (by kernel_rfl) (by kernel_rfl) rfl (by decide) rfl rfl rfl rfl (by decide) Try.zeroValue34 rfl (by kernel_rfl) rfl ?_
        refine Dr_pu (Pu_move (.inl rfl) (by conv => lhs; whnf)) rfl rfl ?_
        refine Dr_pu (Pu_move (.inl rfl) (by conv => lhs; whnf)) rfl rfl ?_
        refine Dr_pu (Pu_move (.inl rfl) (by conv => lhs; whnf)) rfl rfl ?_
        refine Dr_pu (Pu_index rfl Try.underlying32 Try.sizeOf36 rfl rfl (rfl) (mapgetD (d := default) hj)) rfl rfl ?_
        refine Dr_pu (Pu_field 0 rfl Try.underlying36 rfl rfl Try.sizeOf9 rfl) rfl rfl ?_
        refine Dr_pu (Pu_load1 rfl Try.isAgg9 rfl rfl) rfl rfl ?_
        refine Dr_pu (Pu_move (.inl rfl) (by conv => lhs; whnf)) rfl rfl ?_
        refine Dr_pu (Pu_move (.inl rfl) (by conv => lhs; whnf)) rfl rfl ?_
        refine Dr_pu (Pu_index rfl Try.underlying32 Try.sizeOf36 rfl rfl (rfl) (mapgetD (d := default) hj)) rfl rfl ?_
        refine Dr_pu (Pu_field 1 rfl Try.underlying36 rfl rfl Try.sizeOf31 rfl) rfl rfl ?_
        refine Dr_pu (Pu_loadN rfl Try.isAgg31 Try.sizeOf31 rfl (Nat.le_of_ble_eq_true rfl)) rfl rfl ?_
        refine Dr_nil ⟨?_, fun g14 => ?_⟩
        · refine Ad_two 11 15 rfl rfl (by kernel_rfl) ?_ ?_
          · refine Al_gcall [(1001, 22, g22), (1002, 220, g22)] [] (sat_g (J.ranges 0) cs b (pins.getD j default).key (pins.getD j default).n (pins.getD j default).s hsm) rfl rfl rfl (by decide) (by kernel_rfl) ⟨rfl, rfl, trivial⟩ rfl ⟨Sub.rfl, Sub.rfl, Sub.rfl, trivial⟩ (fun g67 => ?_)
            refine Al_nil ?_
            refine Ad_take 12 rfl (PuI_move (.inl rfl) (by conv => lhs; whnf)) rfl rfl (by decide) (by kernel_rfl) (by kernel_rfl) (by kernel_rfl) (by kernel_rfl) (fun _ _ h => h) ?_
            refine Ad_take 13 rfl (PuI_extract rfl rfl rfl) rfl rfl (by decide) (by kernel_rfl) (by kernel_rfl) (by kernel_rfl) (by kernel_rfl) (fun _ _ h => h) ?_
            refine Ad_take 14 rfl (PuI_extract rfl rfl rfl) rfl rfl (by decide) (by kernel_rfl) (by kernel_rfl) (by kernel_rfl) (by kernel_rfl) (fun _ _ h => h) ?_
            refine Ad_one 15 rfl (by kernel_rfl) ?_
            refine Al_alloc rfl rfl rfl (by decide) Try.zeroValue34 rfl (by kernel_rfl) (fun g14 => ?_)
            refine Al_nil ?_
            refine Ad_one 16 rfl (by kernel_rfl) ?_
            refine Al_storeN rfl rfl rfl (by kernel_rfl) Try.isAgg34 Try.sizeOf34 rfl rfl rfl rfl (Nat.le_of_ble_eq_true rfl) ?_
            refine Al_nil ?_
            refine Ad_take 17 rfl (PuI_move (.inr rfl) (by conv => lhs; whnf)) rfl rfl (by decide) (by kernel_rfl) (by kernel_rfl) (by kernel_rfl) (by kernel_rfl) (fun _ _ h => h) ?_
            refine Ad_done (by kernel_rfl) ?_
            refine Aw_seq ?_
            refine Aw_region ?_
            refine Al_pu (Pu_move (.inl rfl) (by conv => lhs; whnf)) rfl rfl (by decide) (by kernel_rfl) ?_
            refine Al_pu (Pu_loadbN (r := [_, _, _, _, _, _]) rfl Try.isAgg34 Try.sizeOf34 rfl rfl rfl rfl) rfl rfl (by decide) (by kernel_rfl) ?_
            refine Al_pu (Pu_slice1 rfl Try.underlying41 Try.sizeOf34 Try.zeroValue34 rfl (by decide) (by decide) (by kernel_rfl) rfl rfl rfl) rfl rfl (by decide) (by kernel_rfl) ?_
            refine Al_append rfl rfl rfl (by decide) (by kernel_rfl) elem41 (by decide) Try.sizeOf34 rfl rfl rfl (by simp; omega) (by decide) (fun g73 => ?_)
            refine Al_pu (Pu_move (.inr rfl) (by conv => lhs; whnf)) rfl rfl (by decide) (by kernel_rfl) ?_
            refine Al_nil ?_
            refine Aw_region ?_
            refine Al_pu (Pu_move (.inl rfl) (by conv => lhs; whnf)) rfl rfl (by decide) (by kernel_rfl) ?_
            refine Al_pu (Pu_move (.inl rfl) (by conv => lhs; whnf)) rfl rfl (by decide) (by kernel_rfl) ?_
            refine Al_pu (Pu_indexArrb (j := j) rfl Try.underlying56 Try.sizeOf4 rfl rfl rfl (by omega)) rfl rfl (by decide) (by kernel_rfl) ?_
            refine Al_store1 rfl rfl rfl (by kernel_rfl) Try.isAgg4 Try.sizeOf4 rfl rfl (by unfold J.isA; rw [List.length_map, List.length_range]; omega) (by conv => lhs; whnf) rfl ?_
            refine Al_nil ?_
            refine Aw_region ?_
            refine Al_pu (Pu_move (.inl rfl) (by conv => lhs; whnf)) rfl rfl (by decide) (by kernel_rfl) ?_
            refine Al_pu (Pu_add rfl rfl rfl (fun h1 h2 => by simp only [A.inI, A.maxI] at *; omega)) rfl rfl (by decide) (by kernel_rfl) ?_
            refine Al_pu (Pu_move (.inr rfl) (by conv => lhs; whnf)) rfl rfl (by decide) (by kernel_rfl) ?_
            refine Al_nil ?_
            exact ⟨(j + 1, g73), by omega, by simp only []; omega, Le.ov ⟨Sub.num (by omega), Sub.rfl, trivial⟩ ⟨Sub.rfl, Sub.rfl, Sub.rfl, Sub.rfl, Sub.rfl, Sub.rfl, trivial⟩ ⟨obeq (by rw [htk, List.map_append]; rfl), J.bxeq (by rw [Nat.zero_add, Nat.mul_one]; exact hset), trivial⟩ ⟨rfl, rfl, trivial⟩⟩ -- loop 1 next.0
          · refine Al_alloc rfl rfl rfl (by decide) Try.zeroValue34 rfl (by kernel_rfl) (fun g14 => ?_)
            refine Al_nil ?_
            refine Ad_one 11 rfl (by kernel_rfl) ?_
            refine Al_gcall [(1001, 22, g22), (1002, 220, g22)] [] (sat_g (J.ranges 0) cs b (pins.getD j default).key (pins.getD j default).n (pins.getD j default).s hsm) rfl rfl rfl (by decide) (by kernel_rfl) ⟨rfl, rfl, trivial⟩ rfl ⟨Sub.rfl, Sub.rfl, Sub.rfl, trivial⟩ (fun g67 => ?_)
            refine Al_nil ?_
            refine Ad_take 12 rfl (PuI_move (.inl rfl) (by conv => lhs; whnf)) rfl rfl (by decide) (by kernel_rfl) (by kernel_rfl) (by kernel_rfl) (by kernel_rfl) (fun _ _ h => h) ?_
            refine Ad_take 13 rfl (PuI_extract rfl rfl rfl) rfl rfl (by decide) (by kernel_rfl) (by kernel_rfl) (by kernel_rfl) (by kernel_rfl) (fun _ _ h => h) ?_
            refine Ad_take 14 rfl (PuI_extract rfl rfl rfl) rfl rfl (by decide) (by kernel_rfl) (by kernel_rfl) (by kernel_rfl) (by kernel_rfl) (fun _ _ h => h) ?_
            refine Ad_one 16 rfl (by kernel_rfl) ?_
            refine Al_storeN rfl rfl rfl (by kernel_rfl) Try.isAgg34 Try.sizeOf34 rfl rfl rfl rfl (Nat.le_of_ble_eq_true rfl) ?_
            refine Al_nil ?_
            refine Ad_take 17 rfl (PuI_move (.inr rfl) (by conv => lhs; whnf)) rfl rfl (by decide) (by kernel_rfl) (by kernel_rfl) (by kernel_rfl) (by kernel_rfl) (fun _ _ h => h) ?_
            refine Ad_done (by kernel_rfl) ?_
            refine Aw_seq ?_
            refine Aw_region ?_
            refine Al_pu (Pu_move (.inl rfl) (by conv => lhs; whnf)) rfl rfl (by decide) (by kernel_rfl) ?_
            refine Al_pu (Pu_loadbN (r := [_, _, _, _, _, _]) rfl Try.isAgg34 Try.sizeOf34 rfl rfl rfl rfl) rfl rfl (by decide) (by kernel_rfl) ?_
            refine Al_pu (Pu_slice1 rfl Try.underlying41 Try.sizeOf34 Try.zeroValue34 rfl (by decide) (by decide) (by kernel_rfl) rfl rfl rfl) rfl rfl (by decide) (by kernel_rfl) ?_
            refine Al_append rfl rfl rfl (by decide) (by kernel_rfl) elem41 (by decide) Try.sizeOf34 rfl rfl rfl (by simp; omega) (by decide) (fun g73 => ?_)
            refine Al_pu (Pu_move (.inr rfl) (by conv => lhs; whnf)) rfl rfl (by decide) (by kernel_rfl) ?_
            refine Al_nil ?_
            refine Aw_region ?_
            refine Al_pu (Pu_move (.inl rfl) (by conv => lhs; whnf)) rfl rfl (by decide) (by kernel_rfl) ?_
            refine Al_pu (Pu_move (.inl rfl) (by conv => lhs; whnf)) rfl rfl (by decide) (by kernel_rfl) ?_
            refine Al_pu (Pu_indexArrb (j := j) rfl Try.underlying56 Try.sizeOf4 rfl rfl rfl (by omega)) rfl rfl (by decide) (by kernel_rfl) ?_
            refine Al_store1 rfl rfl rfl (by kernel_rfl) Try.isAgg4 Try.sizeOf4 rfl rfl (by unfold J.isA; rw [List.length_map, List.length_range]; omega) (by conv => lhs; whnf) rfl ?_
            refine Al_nil ?_
            refine Aw_region ?_
            refine Al_pu (Pu_move (.inl rfl) (by conv => lhs; whnf)) rfl rfl (by decide) (by kernel_rfl) ?_
            refine Al_pu (Pu_add rfl rfl rfl (fun h1 h2 => by simp only [A.inI, A.maxI] at *; omega)) rfl rfl (by decide) (by kernel_rfl) ?_
            refine Al_pu (Pu_move (.inr rfl) (by conv => lhs; whnf)) rfl rfl (by decide) (by kernel_rfl) ?_
            refine Al_nil ?_
            exact ⟨(j + 1, g73), by omega, by simp only []; omega, Le.ov ⟨Sub.num (by omega), Sub.rfl, trivial⟩ ⟨Sub.rfl, Sub.rfl, Sub.rfl, Sub.rfl, Sub.rfl, Sub.rfl, trivial⟩ ⟨obeq (by rw [htk, List.map_append]; rfl), J.bxeq (by rw [Nat.zero_add, Nat.mul_one]; exact hset), trivial⟩ ⟨rfl, rfl, trivial⟩⟩ -- loop 1 next.1
        · refine Ad_one 11 rfl (by kernel_rfl) ?_
          refine Al_gcall [(1001, 22, g22), (1002, 220, g22)] [] (sat_g (J.ranges 0) cs b (pins.getD j default).key (pins.getD j default).n (pins.getD j default).s hsm) rfl rfl rfl (by decide) (by kernel_rfl) ⟨rfl, rfl, trivial⟩ rfl ⟨Sub.rfl, Sub.rfl, Sub.rfl, trivial⟩ (fun g67 => ?_)
          refine Al_nil ?_
          refine Ad_take 12 rfl (PuI_move (.inl rfl) (by conv => lhs; whnf)) rfl rfl (by decide) (by kernel_rfl) (by kernel_rfl) (by kernel_rfl) (by kernel_rfl) (fun _ _ h => h) ?_
          refine Ad_take 13 rfl (PuI_extract rfl rfl rfl) rfl rfl (by decide) (by kernel_rfl) (by kernel_rfl) (by kernel_rfl) (by kernel_rfl) (fun _ _ h => h) ?_
          refine Ad_take 14 rfl (PuI_extract rfl rfl rfl) rfl rfl (by decide) (by kernel_rfl) (by kernel_rfl) (by kernel_rfl) (by kernel_rfl) (fun _ _ h => h) ?_
          refine Ad_one 16 rfl (by kernel_rfl) ?_
          refine Al_storeN rfl rfl rfl (by kernel_rfl) Try.isAgg34 Try.sizeOf34 rfl rfl rfl rfl (Nat.le_of_ble_eq_true rfl) ?_
          refine Al_nil ?_
          refine Ad_take 17 rfl (PuI_move (.inr rfl) (by conv => lhs; whnf)) rfl rfl (by decide) (by kernel_rfl) (by kernel_rfl) (by kernel_rfl) (by kernel_rfl) (fun _ _ h => h) ?_
          refine Ad_done (by kernel_rfl) ?_
          refine Aw_seq ?_
          refine Aw_region ?_
          refine Al_pu (Pu_move (.inl rfl) (by conv => lhs; whnf)) rfl rfl (by decide) (by kernel_rfl) ?_
          refine Al_pu (Pu_loadbN (r := [_, _, _, _, _, _]) rfl Try.isAgg34 Try.sizeOf34 rfl rfl rfl rfl) rfl rfl (by decide) (by kernel_rfl) ?_
          refine Al_pu (Pu_slice1 rfl Try.underlying41 Try.sizeOf34 Try.zeroValue34 rfl (by decide) (by decide) (by kernel_rfl) rfl rfl rfl) rfl rfl (by decide) (by kernel_rfl) ?_
          refine Al_append rfl rfl rfl (by decide) (by kernel_rfl) elem41 (by decide) Try.sizeOf34 rfl rfl rfl (by simp; omega) (by decide) (fun g73 => ?_)
          refine Al_pu (Pu_move (.inr rfl) (by conv => lhs; whnf)) rfl rfl (by decide) (by kernel_rfl) ?_
          refine Al_nil ?_
          refine Aw_region ?_
          refine Al_pu (Pu_move (.inl rfl) (by conv => lhs; whnf)) rfl rfl (by decide) (by kernel_rfl) ?_
          refine Al_pu (Pu_move (.inl rfl) (by conv => lhs; whnf)) rfl rfl (by decide) (by kernel_rfl) ?_
          refine Al_pu (Pu_indexArrb (j := j) rfl Try.underlying56 Try.sizeOf4 rfl rfl rfl (by omega)) rfl rfl (by decide) (by kernel_rfl) ?_
          refine Al_store1 rfl rfl rfl (by kernel_rfl) Try.isAgg4 Try.sizeOf4 rfl rfl (by unfold J.isA; rw [List.length_map, List.length_range]; omega) (by conv => lhs; whnf) rfl ?_
          refine Al_nil ?_
          refine Aw_region ?_
          refine Al_pu (Pu_move (.inl rfl) (by conv => lhs; whnf)) rfl rfl (by decide) (by kernel_rfl) ?_
          refine Al_pu (Pu_add rfl rfl rfl (fun h1 h2 => by simp only [A.inI, A.maxI] at *; omega)) rfl rfl (by decide) (by kernel_rfl) ?_
          refine Al_pu (Pu_move (.inr rfl) (by conv => lhs; whnf)) rfl rfl (by decide) (by kernel_rfl) ?_
          refine Al_nil ?_
          exact ⟨(j + 1, g73), by omega, by simp only []; omega, Le.ov ⟨Sub.num (by omega), Sub.rfl, trivial⟩ ⟨Sub.rfl, Sub.rfl, Sub.rfl, Sub.rfl, Sub.rfl, Sub.rfl, trivial⟩ ⟨obeq (by rw [htk, List.map_append]; rfl), J.bxeq (by rw [Nat.zero_add, Nat.mul_one]; exact hset), trivial⟩ ⟨rfl, rfl, trivial⟩⟩ -- loop 1 next.2
      · (try simp only [decide_eq_true_eq, decide_eq_false_iff_not, Bool.and_eq_true, Bool.or_eq_true, Bool.and_eq_false_iff, Bool.or_eq_false_iff, Bool.not_eq_true', Bool.not_eq_false', beq_iff_eq, Bool.not_eq_eq_eq_not, Bool.not_true, Bool.not_false, List.length_map, Bool.and_true, Bool.and_false, Bool.false_and, Bool.true_and, Bool.or_false, Bool.false_or] at h52)
        have hjn : j = pins.length := by omega
        subst hjn
        refine Aw_exit ?_
        refine Aw_seq ?_
        refine Aw_frz hnl (k := 11) [11] rfl ⟨rfl, trivial⟩ ?_
        refine Aw_region ?_
        refine Al_pu (Pu_move (.inl rfl) (by conv => lhs; whnf)) rfl rfl (by decide) (by kernel_rfl) ?_
        refine Al_pu (Pu_move (.inl rfl) (by conv => lhs; whnf)) rfl rfl (by decide) (by kernel_rfl) ?_
        refine Al_pu (Pu_int_and (r := J.andI z 31) rfl rfl rfl rfl (fun _ => V.i64_ok _)) rfl rfl (by decide) (by kernel_rfl) ?_
        refine Al_pu (Pu_build (aa := [(0, _)]) rfl Try.underlying31 Try.zeroValue31 (places31 Try.underlying31) (by kernel_rfl) ⟨rfl, rfl, rfl, trivial⟩ rfl) rfl rfl (by decide) (by kernel_rfl) ?_
        refine Al_pu (Pu_move (.inl rfl) (by conv => lhs; whnf)) rfl rfl (by decide) (by kernel_rfl) ?_
        refine Al_gcall [(1001, 22, g22), (1002, 220, g22)] [] (sclean_g (J.ranges 0) cs b (J.andI z 31) 0 pins (by omega) hown.rise hsm) rfl rfl rfl (by decide) (by kernel_rfl) ⟨rfl, rfl, trivial⟩ rfl ⟨Sub.rfl, Sub.rfl, Sub.rfl, trivial⟩ (fun g82 => ?_)
        refine Al_nil ?_
        refine Aw_seq ?_
        refine Aw_seq ?_
        refine Aw_region ?_
        refine Al_pu (Pu_move (.inr rfl) (by conv => lhs; whnf)) rfl rfl (by decide) (by kernel_rfl) ?_
        refine Al_nil ?_
        refine Aw_block ?_
        refine Aw_loopk (ι := Nat) [2, 7, 8, 10, 11, 12] [22, 220, 12] (fun i => [(16, .d (iv i))]) (fun i => []) (fun i => i ≤ pins.length) (fun i => pins.length - i) (0) (Nat.zero_le _) ⟨Sub.rfl, trivial⟩ trivial ?_
        rintro i hk2
        refine Aw_seq ?_
        refine Aw_seq ?_
        refine Aw_region ?_
        refine Al_pu (Pu_move (.inl rfl) (by conv => lhs; whnf)) rfl rfl (by decide) (by kernel_rfl) ?_
        refine Al_pu (Pu_move (.inl rfl) (by conv => lhs; whnf)) rfl rfl (by decide) (by kernel_rfl) ?_
        refine Al_pu (Pu_len rfl Try.underlying32 rfl (by first | exact List.length_map .. | exact rfl)) rfl rfl (by decide) (by kernel_rfl) ?_
        refine Al_pu (Pu_cmp rfl rfl rfl rfl) rfl rfl (by decide) (by kernel_rfl) ?_
        refine Al_nil ?_
        refine Aw_cond rfl (fun h86 => ?_) (fun h86 => ?_)
        · (try simp only [decide_eq_true_eq, decide_eq_false_iff_not, Bool.and_eq_true, Bool.or_eq_true, Bool.and_eq_false_iff, Bool.or_eq_false_iff, Bool.not_eq_true', Bool.not_eq_false', beq_iff_eq, Bool.not_eq_eq_eq_not, Bool.not_true, Bool.not_false, List.length_map, Bool.and_true, Bool.and_false, Bool.false_and, Bool.true_and, Bool.or_false, Bool.false_or] at h86)
          have hi : i < pins.length := by omega
          have hib : i < ((pins.take pins.length).map fun d => (J.sat cs d.key d.n d.s).getD default).length := by simp; omega
          have hgb : ((pins.take pins.length).map fun d => (J.sat cs d.key d.n d.s).getD default).getD i default = (J.sat cs (pins.getD i default).key (pins.getD i default).n (pins.getD i default).s).getD default := by
            rw [List.take_length, List.getD_eq_getElem?_getD, List.getElem?_map, List.getElem?_eq_getElem hi, show pins.getD i default = pins[i] from by simp [hi]]; rfl
          have hsame := J.sat_clean hchn (J.andI z 31) 0 (pins := pins) (d := pins.getD i default) (by rw [show pins.getD i default = pins[i] from by simp [hi]]; exact List.getElem_mem hi)
          have hat := J.isA_at cs pins (i := i) (j := pins.length) (by omega) hi
          obtain ⟨o2, ho2⟩ : ∃ o, o = J.sat (J.sclean cs (J.andI z 31) 0 pins) (pins.getD i default).key (pins.getD i default).n (pins.getD i default).s := ⟨_, rfl⟩
          have hg2 := sat_g (J.ranges 0) (J.sclean cs (J.andI z 31) 0 pins) b (pins.getD i default).key (pins.getD i default).n (pins.getD i default).s hsc
          rw [← ho2] at hg2 hsame
          obtain ⟨w2, hw2⟩ : ∃ w, w = ((pins.take pins.length).map fun d => (J.sat cs d.key d.n d.s).getD default).getD i default := ⟨_, rfl⟩
          have hix : (((pins.take pins.length).map fun d => (J.sat cs d.key d.n d.s).getD default).map Ver.row)[i]? = some w2.row := by rw [hw2]; exact mapgetD (d := default) hib
          rw [← hw2] at hgb
          refine Aw_skip ?_
          -- join 3: live [2, 7, 8, 10, 11, 12, 16], turned []
          refine Aw_seq ?_
          refine Aw_block ?_
          -- join 4: live [2, 7, 8, 10, 11, 12, 16, 17, 18], turned [17, 18]
          refine Aw_seq ?_
          refine Aw_drawPA 11 15 6 (by kernel_rfl) (by kernel_rfl) rfl (by decide) rfl rfl rfl rfl (by decide) Try.zeroValue34 rfl (by kernel_rfl) rfl ?_
          refine Dr_pu (Pu_move (.inl rfl) (by conv => lhs; whnf)) rfl rfl ?_
          refine Dr_pu (Pu_move (.inl rfl) (by conv => lhs; whnf)) rfl rfl ?_
          refine Dr_pu (Pu_move (.inl rfl) (by conv => lhs; whnf)) rfl rfl ?_
          refine Dr_pu (Pu_index rfl Try.underlying32 Try.sizeOf36 rfl rfl (rfl) (mapgetD (d := default) hi)) rfl rfl ?_
          refine Dr_pu (Pu_field 0 rfl Try.underlying36 rfl rfl Try.sizeOf9 rfl) rfl rfl ?_
          refine Dr_pu (Pu_load1 rfl Try.isAgg9 rfl rfl) rfl rfl ?_
          refine Dr_pu (Pu_move (.inl rfl) (by conv => lhs; whnf)) rfl rfl ?_
          refine Dr_pu (Pu_move (.inl rfl) (by conv => lhs; whnf)) rfl rfl ?_
          refine Dr_pu (Pu_index rfl Try.underlying32 Try.sizeOf36 rfl rfl (rfl) (mapgetD (d := default) hi)) rfl rfl ?_
          refine Dr_pu (Pu_field 1 rfl Try.underlying36 rfl rfl Try.sizeOf31 rfl) rfl rfl ?_
          refine Dr_pu (Pu_loadN rfl Try.isAgg31 Try.sizeOf31 rfl (Nat.le_of_ble_eq_true rfl)) rfl rfl ?_
          refine Dr_nil ⟨?_, fun g17 => ?_⟩
          · refine Ad_two 11 15 rfl rfl (by kernel_rfl) ?_ ?_
            · refine Al_gcall [(1001, 22, g22), (1002, 220, g22)] [] (hg2) rfl rfl rfl (by decide) (by kernel_rfl) ⟨rfl, rfl, trivial⟩ rfl ⟨Sub.rfl, Sub.rfl, Sub.rfl, trivial⟩ (fun g101 => ?_)
              refine Al_nil ?_
              refine Ad_take 12 rfl (PuI_move (.inl rfl) (by conv => lhs; whnf)) rfl rfl (by decide) (by kernel_rfl) (by kernel_rfl) (by kernel_rfl) (by kernel_rfl) (fun _ _ h => h) ?_
              refine Ad_take 13 rfl (PuI_extract rfl rfl rfl) rfl rfl (by decide) (by kernel_rfl) (by kernel_rfl) (by kernel_rfl) (by kernel_rfl) (fun _ _ h => h) ?_
              refine Ad_take 14 rfl (PuI_extract rfl rfl rfl) rfl rfl (by decide) (by kernel_rfl) (by kernel_rfl) (by kernel_rfl) (by kernel_rfl) (fun _ _ h => h) ?_
              refine Ad_one 15 rfl (by kernel_rfl) ?_
              refine Al_alloc rfl rfl rfl (by decide) Try.zeroValue34 rfl (by kernel_rfl) (fun g17 => ?_)
              refine Al_nil ?_
              refine Ad_one 16 rfl (by kernel_rfl) ?_
              refine Al_storeN rfl rfl rfl (by kernel_rfl) Try.isAgg34 Try.sizeOf34 rfl rfl rfl rfl (Nat.le_of_ble_eq_true rfl) ?_
              refine Al_nil ?_
              refine Ad_take 17 rfl (PuI_move (.inr rfl) (by conv => lhs; whnf)) rfl rfl (by decide) (by kernel_rfl) (by kernel_rfl) (by kernel_rfl) (by kernel_rfl) (fun _ _ h => h) ?_
              refine Ad_done (by kernel_rfl) ?_
              refine Aw_seq ?_
              refine Aw_draw 6 (by kernel_rfl) (by kernel_rfl) ?_
              refine Dr_pu (Pu_loadbN (r := [_, _, _, _, _, _]) rfl Try.isAgg34 Try.sizeOf34 rfl rfl rfl rfl) rfl rfl ?_
              refine Dr_pu (Pu_move (.inl rfl) (by conv => lhs; whnf)) rfl rfl ?_
              refine Dr_pu (Pu_move (.inl rfl) (by conv => lhs; whnf)) rfl rfl ?_
              refine Dr_pu (Pu_index rfl Try.underlying41 Try.sizeOf34 rfl rfl (rfl) (hix)) rfl rfl ?_
              refine Dr_pu (Pu_loadN rfl Try.isAgg34 Try.sizeOf34 rfl (Nat.le_of_ble_eq_true rfl)) rfl rfl ?_
              refine Dr_pu (Pu_call (rvsame_a (o2.getD default) w2) rfl ⟨Sub.rfl, Sub.rfl, trivial⟩) rfl rfl ?_
              refine Dr_nil ?_
              refine Al_pu (Pu_move (.inr rfl) (by conv => lhs; whnf)) rfl rfl (by decide) (by kernel_rfl) ?_
              refine Al_nil ?_
              refine Aw_seq ?_
              refine Aw_region ?_
              refine Al_pu (Pu_move (.inl rfl) (by conv => lhs; whnf)) rfl rfl (by decide) (by kernel_rfl) ?_
              refine Al_pu (Pu_move (.inl rfl) (by conv => lhs; whnf)) rfl rfl (by decide) (by kernel_rfl) ?_
              refine Al_pu (Pu_indexArrb (j := i) rfl Try.underlying56 Try.sizeOf4 rfl rfl rfl (by omega)) rfl rfl (by decide) (by kernel_rfl) ?_
              refine Al_pu (Pu_loadb rfl Try.isAgg4 rfl rfl hat) rfl rfl (by decide) (by kernel_rfl) ?_
              refine Al_pu (Pu_bool rfl Try.underlying4 rfl rfl rfl) rfl rfl (by decide) (by kernel_rfl) ?_
              refine Al_pu (Pu_move (.inl rfl) (by conv => lhs; whnf)) rfl rfl (by decide) (by kernel_rfl) ?_
              refine Al_st (St_gd [] rfl rfl rfl rfl trivial (fun hg116 => by exact Pu_move (.inl rfl) (by conv => lhs; whnf))) rfl (by decide) (by kernel_rfl) (by intro j b oj dj h1 h2 h3; cases h1; cases h2; cases h3; decide) ?_
              refine Al_st (St_gd [116] rfl rfl rfl rfl ⟨⟨_, rfl⟩, trivial⟩ (fun hg117 => Pu_not rfl rfl)) rfl (by decide) (by kernel_rfl) (by intro j b oj dj h1 h2 h3; cases h1; cases h2; cases h3; decide) ?_
              refine Al_pu (Pu_or rfl rfl rfl rfl) rfl rfl (by decide) (by kernel_rfl) ?_
              refine Al_nil ?_
              refine Aw_cond rfl (fun h118 => ?_) (fun h118 => ?_)
              · skip
                exfalso
                rw [hsame, hgb] at h118
                simp at h118
              · skip
                refine Aw_skip ?_
                refine Aw_region ?_
                refine Al_pu (Pu_move (.inl rfl) (by conv => lhs; whnf)) rfl rfl (by decide) (by kernel_rfl) ?_
                refine Al_pu (Pu_add rfl rfl rfl (fun h1 h2 => by simp only [A.inI, A.maxI] at *; omega)) rfl rfl (by decide) (by kernel_rfl) ?_
                refine Al_pu (Pu_move (.inr rfl) (by conv => lhs; whnf)) rfl rfl (by decide) (by kernel_rfl) ?_
                refine Al_nil ?_
                exact ⟨i + 1, by omega, by omega, Le.ov ⟨Sub.num (by omega), trivial⟩ ⟨Sub.rfl, Sub.rfl, Sub.rfl, Sub.rfl, Sub.rfl, Sub.rfl, trivial⟩ trivial ⟨rfl, rfl, rfl, trivial⟩⟩ -- loop 2 next.0
            · refine Al_alloc rfl rfl rfl (by decide) Try.zeroValue34 rfl (by kernel_rfl) (fun g17 => ?_)
              refine Al_nil ?_
              refine Ad_one 11 rfl (by kernel_rfl) ?_
              refine Al_gcall [(1001, 22, g22), (1002, 220, g22)] [] (hg2) rfl rfl rfl (by decide) (by kernel_rfl) ⟨rfl, rfl, trivial⟩ rfl ⟨Sub.rfl, Sub.rfl, Sub.rfl, trivial⟩ (fun g101 => ?_)
              refine Al_nil ?_
              refine Ad_take 12 rfl (PuI_move (.inl rfl) (by conv => lhs; whnf)) rfl rfl (by decide) (by kernel_rfl) (by kernel_rfl) (by kernel_rfl) (by kernel_rfl) (fun _ _ h => h) ?_
              refine Ad_take 13 rfl (PuI_extract rfl rfl rfl) rfl rfl (by decide) (by kernel_rfl) (by kernel_rfl) (by kernel_rfl) (by kernel_rfl) (fun _ _ h => h) ?_
              refine Ad_take 14 rfl (PuI_extract rfl rfl rfl) rfl rfl (by decide) (by kernel_rfl) (by kernel_rfl) (by kernel_rfl) (by kernel_rfl) (fun _ _ h => h) ?_
              refine Ad_one 16 rfl (by kernel_rfl) ?_
              refine Al_storeN rfl rfl rfl (by kernel_rfl) Try.isAgg34 Try.sizeOf34 rfl rfl rfl rfl (Nat.le_of_ble_eq_true rfl) ?_
              refine Al_nil ?_
              refine Ad_take 17 rfl (PuI_move (.inr rfl) (by conv => lhs; whnf)) rfl rfl (by decide) (by kernel_rfl) (by kernel_rfl) (by kernel_rfl) (by kernel_rfl) (fun _ _ h => h) ?_
              refine Ad_done (by kernel_rfl) ?_
              refine Aw_seq ?_
              refine Aw_draw 6 (by kernel_rfl) (by kernel_rfl) ?_
              refine Dr_pu (Pu_loadbN (r := [_, _, _, _, _, _]) rfl Try.isAgg34 Try.sizeOf34 rfl rfl rfl rfl) rfl rfl ?_
              refine Dr_pu (Pu_move (.inl rfl) (by conv => lhs; whnf)) rfl rfl ?_
              refine Dr_pu (Pu_move (.inl rfl) (by conv => lhs; whnf)) rfl rfl ?_
              refine Dr_pu (Pu_index rfl Try.underlying41 Try.sizeOf34 rfl rfl (rfl) (hix)) rfl rfl ?_
              refine Dr_pu (Pu_loadN rfl Try.isAgg34 Try.sizeOf34 rfl (Nat.le_of_ble_eq_true rfl)) rfl rfl ?_
              refine Dr_pu (Pu_call (rvsame_a (o2.getD default) w2) rfl ⟨Sub.rfl, Sub.rfl, trivial⟩) rfl rfl ?_
              refine Dr_nil ?_
              refine Al_pu (Pu_move (.inr rfl) (by conv => lhs; whnf)) rfl rfl (by decide) (by kernel_rfl) ?_
              refine Al_nil ?_
              refine Aw_seq ?_
              refine Aw_region ?_
              refine Al_pu (Pu_move (.inl rfl) (by conv => lhs; whnf)) rfl rfl (by decide) (by kernel_rfl) ?_
              refine Al_pu (Pu_move (.inl rfl) (by conv => lhs; whnf)) rfl rfl (by decide) (by kernel_rfl) ?_
              refine Al_pu (Pu_indexArrb (j := i) rfl Try.underlying56 Try.sizeOf4 rfl rfl rfl (by omega)) rfl rfl (by decide) (by kernel_rfl) ?_
              refine Al_pu (Pu_loadb rfl Try.isAgg4 rfl rfl hat) rfl rfl (by decide) (by kernel_rfl) ?_
              refine Al_pu (Pu_bool rfl Try.underlying4 rfl rfl rfl) rfl rfl (by decide) (by kernel_rfl) ?_
              refine Al_pu (Pu_move (.inl rfl) (by conv => lhs; whnf)) rfl rfl (by decide) (by kernel_rfl) ?_
              refine Al_st (St_gd [] rfl rfl rfl rfl trivial (fun hg116 => by exact Pu_move (.inl rfl) (by conv => lhs; whnf))) rfl (by decide) (by kernel_rfl) (by intro j b oj dj h1 h2 h3; cases h1; cases h2; cases h3; decide) ?_
              refine Al_st (St_gd [116] rfl rfl rfl rfl ⟨⟨_, rfl⟩, trivial⟩ (fun hg117 => Pu_not rfl rfl)) rfl (by decide) (by kernel_rfl) (by intro j b oj dj h1 h2 h3; cases h1; cases h2; cases h3; decide) ?_
              refine Al_pu (Pu_or rfl rfl rfl rfl) rfl rfl (by decide) (by kernel_rfl) ?_
              refine Al_nil ?_
              refine Aw_cond rfl (fun h118 => ?_) (fun h118 => ?_)
              · skip
                exfalso
                rw [hsame, hgb] at h118
                simp at h118
              · skip
                refine Aw_skip ?_
                refine Aw_region ?_
                refine Al_pu (Pu_move (.inl rfl) (by conv => lhs; whnf)) rfl rfl (by decide) (by kernel_rfl) ?_
                refine Al_pu (Pu_add rfl rfl rfl (fun h1 h2 => by simp only [A.inI, A.maxI] at *; omega)) rfl rfl (by decide) (by kernel_rfl) ?_
                refine Al_pu (Pu_move (.inr rfl) (by conv => lhs; whnf)) rfl rfl (by decide) (by kernel_rfl) ?_
                refine Al_nil ?_
                exact ⟨i + 1, by omega, by omega, Le.ov ⟨Sub.num (by omega), trivial⟩ ⟨Sub.rfl, Sub.rfl, Sub.rfl, Sub.rfl, Sub.rfl, Sub.rfl, trivial⟩ trivial ⟨rfl, rfl, rfl, trivial⟩⟩ -- loop 2 next.1
          · refine Ad_one 11 rfl (by kernel_rfl) ?_
            refine Al_gcall [(1001, 22, g22), (1002, 220, g22)] [] (hg2) rfl rfl rfl (by decide) (by kernel_rfl) ⟨rfl, rfl, trivial⟩ rfl ⟨Sub.rfl, Sub.rfl, Sub.rfl, trivial⟩ (fun g101 => ?_)
            refine Al_nil ?_
            refine Ad_take 12 rfl (PuI_move (.inl rfl) (by conv => lhs; whnf)) rfl rfl (by decide) (by kernel_rfl) (by kernel_rfl) (by kernel_rfl) (by kernel_rfl) (fun _ _ h => h) ?_
            refine Ad_take 13 rfl (PuI_extract rfl rfl rfl) rfl rfl (by decide) (by kernel_rfl) (by kernel_rfl) (by kernel_rfl) (by kernel_rfl) (fun _ _ h => h) ?_
            refine Ad_take 14 rfl (PuI_extract rfl rfl rfl) rfl rfl (by decide) (by kernel_rfl) (by kernel_rfl) (by kernel_rfl) (by kernel_rfl) (fun _ _ h => h) ?_
            refine Ad_one 16 rfl (by kernel_rfl) ?_
            refine Al_storeN rfl rfl rfl (by kernel_rfl) Try.isAgg34 Try.sizeOf34 rfl rfl rfl rfl (Nat.le_of_ble_eq_true rfl) ?_
            refine Al_nil ?_
            refine Ad_take 17 rfl (PuI_move (.inr rfl) (by conv => lhs; whnf)) rfl rfl (by decide) (by kernel_rfl) (by kernel_rfl) (by kernel_rfl) (by kernel_rfl) (fun _ _ h => h) ?_
            refine Ad_done (by kernel_rfl) ?_
            refine Aw_seq ?_
            refine Aw_draw 6 (by kernel_rfl) (by kernel_rfl) ?_
            refine Dr_pu (Pu_loadbN (r := [_, _, _, _, _, _]) rfl Try.isAgg34 Try.sizeOf34 rfl rfl rfl rfl) rfl rfl ?_
            refine Dr_pu (Pu_move (.inl rfl) (by conv => lhs; whnf)) rfl rfl ?_
            refine Dr_pu (Pu_move (.inl rfl) (by conv => lhs; whnf)) rfl rfl ?_
            refine Dr_pu (Pu_index rfl Try.underlying41 Try.sizeOf34 rfl rfl (rfl) (hix)) rfl rfl ?_
            refine Dr_pu (Pu_loadN rfl Try.isAgg34 Try.sizeOf34 rfl (Nat.le_of_ble_eq_true rfl)) rfl rfl ?_
            refine Dr_pu (Pu_call (rvsame_a (o2.getD default) w2) rfl ⟨Sub.rfl, Sub.rfl, trivial⟩) rfl rfl ?_
            refine Dr_nil ?_
            refine Al_pu (Pu_move (.inr rfl) (by conv => lhs; whnf)) rfl rfl (by decide) (by kernel_rfl) ?_
            refine Al_nil ?_
            refine Aw_seq ?_
            refine Aw_region ?_
            refine Al_pu (Pu_move (.inl rfl) (by conv => lhs; whnf)) rfl rfl (by decide) (by kernel_rfl) ?_
            refine Al_pu (Pu_move (.inl rfl) (by conv => lhs; whnf)) rfl rfl (by decide) (by kernel_rfl) ?_
            refine Al_pu (Pu_indexArrb (j := i) rfl Try.underlying56 Try.sizeOf4 rfl rfl rfl (by omega)) rfl rfl (by decide) (by kernel_rfl) ?_
            refine Al_pu (Pu_loadb rfl Try.isAgg4 rfl rfl hat) rfl rfl (by decide) (by kernel_rfl) ?_
            refine Al_pu (Pu_bool rfl Try.underlying4 rfl rfl rfl) rfl rfl (by decide) (by kernel_rfl) ?_
            refine Al_pu (Pu_move (.inl rfl) (by conv => lhs; whnf)) rfl rfl (by decide) (by kernel_rfl) ?_
            refine Al_st (St_gd [] rfl rfl rfl rfl trivial (fun hg116 => by exact Pu_move (.inl rfl) (by conv => lhs; whnf))) rfl (by decide) (by kernel_rfl) (by intro j b oj dj h1 h2 h3; cases h1; cases h2; cases h3; decide) ?_
            refine Al_st (St_gd [116] rfl rfl rfl rfl ⟨⟨_, rfl⟩, trivial⟩ (fun hg117 => Pu_not rfl rfl)) rfl (by decide) (by kernel_rfl) (by intro j b oj dj h1 h2 h3; cases h1; cases h2; cases h3; decide) ?_
            refine Al_pu (Pu_or rfl rfl rfl rfl) rfl rfl (by decide) (by kernel_rfl) ?_
            refine Al_nil ?_
            refine Aw_cond rfl (fun h118 => ?_) (fun h118 => ?_)
            · skip
              exfalso
              rw [hsame, hgb] at h118
              simp at h118
            · skip
              refine Aw_skip ?_
              refine Aw_region ?_
              refine Al_pu (Pu_move (.inl rfl) (by conv => lhs; whnf)) rfl rfl (by decide) (by kernel_rfl) ?_
              refine Al_pu (Pu_add rfl rfl rfl (fun h1 h2 => by simp only [A.inI, A.maxI] at *; omega)) rfl rfl (by decide) (by kernel_rfl) ?_
              refine Al_pu (Pu_move (.inr rfl) (by conv => lhs; whnf)) rfl rfl (by decide) (by kernel_rfl) ?_
              refine Al_nil ?_
              exact ⟨i + 1, by omega, by omega, Le.ov ⟨Sub.num (by omega), trivial⟩ ⟨Sub.rfl, Sub.rfl, Sub.rfl, Sub.rfl, Sub.rfl, Sub.rfl, trivial⟩ trivial ⟨rfl, rfl, rfl, trivial⟩⟩ -- loop 2 next.2
        · (try simp only [decide_eq_true_eq, decide_eq_false_iff_not, Bool.and_eq_true, Bool.or_eq_true, Bool.and_eq_false_iff, Bool.or_eq_false_iff, Bool.not_eq_true', Bool.not_eq_false', beq_iff_eq, Bool.not_eq_eq_eq_not, Bool.not_true, Bool.not_false, List.length_map, Bool.and_true, Bool.and_false, Bool.false_and, Bool.true_and, Bool.or_false, Bool.false_or] at h86)
          refine Aw_exit ?_
          refine Aw_seq ?_
          refine Aw_region ?_
          refine Al_pu (Pu_move (.inl rfl) (by conv => lhs; whnf)) rfl rfl (by decide) (by kernel_rfl) ?_
          refine Al_pu (Pu_move (.inl rfl) (by conv => lhs; whnf)) rfl rfl (by decide) (by kernel_rfl) ?_
          refine Al_gdT rfl rfl rfl rfl (rfl) (by decide) ?_
          refine Al_pu (Pu_move (.inl rfl) (by conv => lhs; whnf)) rfl rfl (by decide) (by kernel_rfl) ?_
          refine Al_gdT rfl rfl rfl rfl (rfl) (by decide) ?_
          refine Al_gcall [(1001, 22, g22), (1002, 220, g22)] [] (shave_g (J.ranges 0) (J.sclean cs (J.andI z 31) 0 pins) b hrc hsc) rfl rfl rfl (by decide) (by kernel_rfl) ⟨rfl, rfl, trivial⟩ rfl ⟨Sub.rfl, trivial⟩ (fun g122 => ?_)
          refine Al_gdT rfl rfl rfl rfl (rfl) (by decide) ?_
          refine Al_pu (Pu_move (.inl rfl) (by conv => lhs; whnf)) rfl rfl (by decide) (by kernel_rfl) ?_
          refine Al_gdT rfl rfl rfl rfl (rfl) (by decide) ?_
          refine Al_pu (Pu_call (dsame_a (J.have' (J.sclean cs (J.andI z 31) 0 pins)) (J.have' cs)) rfl ⟨Sub.rfl, Sub.rfl, trivial⟩) rfl rfl (by decide) (by kernel_rfl) ?_
          refine Al_pu (Pu_and2 rfl rfl rfl rfl) rfl rfl (by decide) (by kernel_rfl) ?_
          refine Al_pu (Pu_move (.inr rfl) (by conv => lhs; whnf)) rfl rfl (by decide) (by kernel_rfl) ?_
          refine Al_nil ?_
          refine Aw_ret ?_
          exact Sub.bool (by rw [J.have_clean hown]; simp) -- ret 0
end Go.Proofs.Ytkmjiaegbooplaa
