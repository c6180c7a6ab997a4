/- SiteWrites: what a site writes is read at once, and has its number; no condition. -/
import Derived.Test.YtmbaeloiepjakaaTLa
import Derived.Test.YtmbaeloiepjakaaTOpen
set_option linter.unusedSimpArgs false
set_option linter.unusedVariables false
set_option linter.constructorNameAsVariable false
section
namespace Go.Proofs.Ytmbaeloiepjakaa
open Go.RowKit A R
namespace TOp
def id6 (z : Int) : Int := Int.tmod (Int.tmod z 6 + 6) 6
theorem id6_le (z : Int) : (0 ≤ id6 z ∧ id6 z < 6) ∧ -6 < Int.tmod z 6 ∧ Int.tmod z 6 < 6 := by
  have h0 : -6 < Int.tmod z 6 := Int.lt_tmod_of_pos _ (by decide)
  have h1 : Int.tmod z 6 < 6 := Int.tmod_lt_of_pos _ (by decide)
  unfold id6
  have h2 : 0 ≤ Int.tmod z 6 + 6 := by omega
  exact ⟨⟨Int.tmod_nonneg _ h2, Int.tmod_lt_of_pos _ (by decide)⟩, h0, h1⟩
end TOp
theorem PS.write_same (p : PS) (key value : ByteArray) (gone : Bool) (past : List Dep) : (p.write key value gone past).rs = p.rs ∧ (p.write key value gone past).id = p.id := by unfold PS.write; split <;> exact ⟨rfl, rfl⟩
theorem PS.arrive_same (p : PS) (v : Ver) : (p.arrive v).rs = p.rs ∧ (p.arrive v).id = p.id := by
  unfold PS.arrive
  split
  · split <;> exact ⟨rfl, rfl⟩
  · exact ⟨rfl, rfl⟩
theorem PS.step_same (p : PS) : p.step.rs = p.rs ∧ p.step.id = p.id := by unfold PS.step; split <;> exact ⟨rfl, rfl⟩
end Go.Proofs.Ytmbaeloiepjakaa
end
section
/- Law 17: SiteCleans. -/
set_option maxRecDepth 100000
namespace Go.Proofs.Ytmbaeloiepjakaa
open Go.RowKit A R
open A.RowT
namespace PS
/-- What holds of a site at each step. -/
structure Inv (p : PS) (m : Nat) : Prop where
  ok : p.Ok m
  own : J.Own m p.rs p.cs
theorem Inv.mono {p : PS} {m m' : Nat} (h : p.Inv m) (hm : m ≤ m') : p.Inv m' := ⟨h.ok.mono hm, h.own.mono hm⟩
theorem Inv.zero {k : Int} (hk : 0 ≤ k ∧ k < 6) {rs : List Rng} (hrl : rs.length ≤ 1000000) : (PS.zero k rs).Inv 0 := ⟨Ok.zero hk hrl, J.own_nil rs⟩
theorem Inv.write {p : PS} {m : Nat} (h : p.Inv m) (key value : ByteArray) (gone : Bool) (past : List Dep) : (p.write key value gone past).Inv (m + 1) := by
  refine ⟨h.ok.write _ _ _ _, ?_⟩
  unfold PS.write
  split
  · exact J.own_put h.own _
  · exact h.own.mono (Nat.le_succ m)
theorem Inv.arrive {p : PS} {m : Nat} (h : p.Inv m) (v : Ver) : (p.arrive v).Inv m := by
  refine ⟨h.ok.arrive v, ?_⟩
  unfold PS.arrive
  split
  · split <;> exact h.own
  · exact h.own
theorem Inv.step {p : PS} {m : Nat} (h : p.Inv m) : p.step.Inv (m + 1) := by
  refine ⟨h.ok.step, ?_⟩
  unfold PS.step
  split
  · exact J.own_put h.own _
  · exact h.own.mono (Nat.le_succ m)
theorem Inv.clean {p : PS} {m : Nat} (h : p.Inv m) (n s : Int) (pins : List Dep) : (p.clean n s pins).Inv m := ⟨h.ok.clean n s pins, J.own_clean h.own n s pins⟩
end PS
end Go.Proofs.Ytmbaeloiepjakaa
end
section
/- Law 17: SiteTwice. -/
set_option maxRecDepth 100000
namespace Go.Proofs.Ytmbaeloiepjakaa
open Go.RowKit A R
open A.RowT
namespace J
theorem check_stamp {v : Ver} (h : checkB v = true) : 1 ≤ v.n ∧ v.n ≤ 1099511627776 ∧ 0 ≤ v.s ∧ v.s < 6 := by
  unfold checkB V.stampB at h
  simp only [Bool.and_eq_true, decide_eq_true_eq] at h
  omega
theorem mx_zero {n s : Int} (h : 1 ≤ n) : mx (0, 0) (n, s) = (n, s) := by
  have h1 : D.lessB 0 0 n s = true := by
    unfold D.lessB
    rw [if_neg (by omega)]
    simp; omega
  have h2 : D.lessB 0 0 0 0 = false := rfl
  unfold mx D.maxS
  simp [h1, h2]
theorem put_nil {v : Ver} (h : checkB v = true) : put [] v = some [v] := by
  unfold put
  rw [if_pos ⟨h, by simp, by simp⟩]
  simp
theorem sput_nil {v : Ver} {rs : List Rng} (h : checkB v = true) (hf : ¬ findR rs v.key < 0) : sput rs [] v = ([(v.key, [v])], true) := by
  unfold sput
  rw [if_neg hf, show getC [] v.key = [] from rfl, put_nil h]; rfl
theorem isSt_self (v : Ver) : isSt v.n v.s v = true := by unfold isSt; simp
theorem sat_one (v : Ver) : sat [(v.key, [v])] v.key v.n v.s = some v := by
  have h1 : getC [(v.key, [v])] v.key = [v] := by unfold getC look; simp
  have h2 : notB v.n v.s v = true := by unfold notB; rw [D.less_irrefl]; rfl
  unfold sat
  rw [h1]
  unfold atc frm
  rw [List.findIdx_cons, h2]
  simp [isSt_self]
theorem head_one (v : Ver) : shead [(v.key, [v])] v.key = some v := by
  have h1 : getC [(v.key, [v])] v.key = [v] := by unfold getC look; simp
  unfold shead
  rw [h1]; rfl
theorem past_ok {v : Ver} (h : checkB v = true) : D.Good v.past := by
  unfold checkB at h
  simp only [Bool.and_eq_true] at h
  exact (past_good h.2.2.1).1
theorem only_allT (p : List Dep) : only p (ranges 0) = p := by
  unfold only
  rw [List.filter_eq_self]
  intro d _
  simpa using findR_all d.key
/-- Where nothing is, what hangs on something has to wait. -/
theorem ready_nil {v : Ver} (h : checkB v = true) : ready [] (ranges 0) v = v.past.isEmpty := by
  have hl : v.past.filter (lacks []) = v.past := by
    rw [List.filter_eq_self]
    intro d hd
    have h1 := (D.ok_stamp ((past_ok h).2 d hd)).1
    show D.lessB 0 0 d.n d.s = true
    unfold D.lessB
    rw [if_neg (by omega)]
    simp; omega
  unfold ready misses
  rw [only_allT, hl]
  cases v.past <;> simp
  omega
end J
namespace TOp
def one (kept : Bool) (v : Ver) : PS := if kept then ⟨0, [], v.n, v.s, J.ranges 0, [(v.key, [v])]⟩ else ⟨0, [v], v.n, v.s, J.ranges 0, []⟩
theorem zero_arr {v : Ver} {k : Int} {rs : List Rng} : (PS.zero k rs).arriveE v = if J.checkB v = false then 1 else 0 := by
  unfold PS.arriveE
  split
  · rfl
  · rename_i h
    split
    · rfl
    · rw [if_neg (show ¬ (PS.zero k rs).there v = true from by rw [show (PS.zero k rs).there v = false from rfl]; decide)]
      unfold J.pushE
      rw [if_pos (by simpa using h)]; rfl
theorem one_arr {v : Ver} (h : J.checkB v = true) : (PS.zero 0 (J.ranges 0)).arriveE v = 0 ∧ (PS.zero 0 (J.ranges 0)).arrive v = one false v := by
  have h1 : (PS.zero 0 (J.ranges 0)).arriveE v = 0 := by rw [zero_arr, if_neg (by rw [h]; decide)]
  refine ⟨h1, ?_⟩
  unfold PS.arrive
  rw [if_pos h1, if_neg (show ¬ findR (PS.zero 0 (J.ranges 0)).rs v.key < 0 from J.findR_all v.key)]
  unfold PS.clockP
  rw [show mx ((PS.zero 0 (J.ranges 0)).n, (PS.zero 0 (J.ranges 0)).s) (v.n, v.s) = (v.n, v.s) from J.mx_zero (J.check_stamp h).1]
  rfl
theorem one_next {v : Ver} (h : J.checkB v = true) : (one false v).stepV = if v.past.isEmpty then some v else none := by
  have h1 := J.ready_nil h
  show J.nextV [v] [] (J.ranges 0) = _
  unfold J.nextV J.nextI
  rw [List.findIdx_cons, h1]
  cases v.past.isEmpty <;> simp
theorem one_step {v : Ver} (h : J.checkB v = true) : (one false v).step = one v.past.isEmpty v ∧ (one false v).stepV.isSome = v.past.isEmpty := by
  have h1 := one_next h
  unfold PS.step
  rw [h1]
  cases hp : v.past.isEmpty with
  | true =>
    rw [hp] at h1
    simp only [if_true]
    refine ⟨?_, rfl⟩
    have hr : J.ready [] (J.ranges 0) v = true := by rw [J.ready_nil h, hp]
    have hn : J.nextL [v] [] (J.ranges 0) = [] := by
      unfold J.nextL J.nextI
      rw [List.findIdx_cons, hr]; rfl
    have hs : (J.sput (J.ranges 0) [] v).1 = [(v.key, [v])] := by rw [J.sput_nil h (J.findR_all v.key)]
    show (⟨0, J.nextL [v] [] (J.ranges 0), v.n, v.s, J.ranges 0, (J.sput (J.ranges 0) [] v).1⟩ : PS) = _
    rw [hn, hs]; rfl
  | false => exact ⟨rfl, rfl⟩
theorem one_again {v : Ver} (h : J.checkB v = true) (kept : Bool) : (one kept v).arriveE v = 13 ∧ (one kept v).arrive v = one kept v := by
  have h1 : (one kept v).arriveE v = 13 := by
    unfold PS.arriveE
    have hrs : (one kept v).rs = J.ranges 0 := by cases kept <;> rfl
    rw [if_neg (by rw [h]; decide), hrs, if_neg (J.findR_all v.key), if_pos]
    cases kept with
    | true => show ((J.sat [(v.key, [v])] v.key v.n v.s).isSome || _) = true; rw [J.sat_one]; rfl
    | false =>
      show ((J.sat [] v.key v.n v.s).isSome || [v].any (PS.isW v)) = true
      simp [PS.isW]
  refine ⟨h1, ?_⟩
  unfold PS.arrive
  rw [h1, if_neg (by decide)]
theorem one_read (v : Ver) (kept : Bool) : (one kept v).readV v.key = if kept then some v else none := by
  have hrs : (one kept v).rs = J.ranges 0 := by cases kept <;> rfl
  unfold PS.readV
  rw [hrs, if_neg (J.findR_all v.key)]
  cases kept with
  | true => exact J.head_one v
  | false => rfl
theorem one_ok {v : Ver} (h : J.checkB v = true) (kept : Bool) : (one kept v).Ok 1 := by
  have h0 : (PS.zero 0 (J.ranges 0)).Ok 0 := PS.Ok.zero (by decide) (Nat.le_trans (J.ranges_len 0) (by decide))
  have h1 := h0.arrive v
  rw [(one_arr h).2] at h1
  cases kept with
  | false => exact h1.mono (by decide)
  | true =>
    have h2 : J.RiseC [(v.key, [v])] := List.pairwise_singleton ..
    refine ⟨h2, ⟨Nat.le_refl _, fun p hp => ?_⟩, Nat.zero_le _, (fun w hw => nomatch hw), h1.rl, h1.id⟩
    cases List.mem_singleton.1 hp
    have := J.ver_key h
    exact ⟨Nat.le_refl _, by show v.key.size ≤ _; omega⟩
end TOp
end Go.Proofs.Ytmbaeloiepjakaa
end
section
namespace Go.Proofs.Ytmbaeloiepjakaa
open Go.RowKit A R
namespace J
theorem nl_trans {a b c d e f : Int} (h : D.lessB a b c d = false) (h2 : D.lessB c d e f = false) : D.lessB a b e f = false := by
  unfold D.lessB at *
  split at h <;> split at h2 <;> split <;> simp_all <;> omega
theorem nl_n {a b c d : Int} (h : D.lessB a b c d = false) : c ≤ a := by
  unfold D.lessB at h
  split at h <;> simp_all
theorem l_n {a b c d : Int} (h : a < c) : D.lessB a b c d = true := by
  unfold D.lessB
  rw [if_neg (by omega)]
  simpa using h
theorem nl_of {a b c d : Int} (h : c < a) : D.lessB a b c d = false := by
  unfold D.lessB
  rw [if_neg (by omega)]
  simp; omega
theorem mx_ge (x y : Int × Int) : D.lessB (mx x y).1 (mx x y).2 x.1 x.2 = false ∧ D.lessB (mx x y).1 (mx x y).2 y.1 y.2 = false := by
  unfold mx D.maxS
  simp only [List.foldl_cons, List.foldl_nil]
  have hx : D.lessB (if D.lessB 0 0 x.1 x.2 then x else ((0, 0) : Int × Int)).1 (if D.lessB 0 0 x.1 x.2 then x else ((0, 0) : Int × Int)).2 x.1 x.2 = false := by
    cases h : D.lessB 0 0 x.1 x.2 with
    | true => simp [D.less_irrefl]
    | false => simpa using h
  generalize (if D.lessB 0 0 x.1 x.2 then x else ((0, 0) : Int × Int)) = m at hx
  cases h : D.lessB m.1 m.2 y.1 y.2 with
  | true =>
    simp only [if_true]
    refine ⟨nl_trans (less_asymm h) hx, D.less_irrefl _ _⟩
  | false => simp only [Bool.false_eq_true, if_false]; exact ⟨hx, h⟩
theorem seen_ge : ∀ (past : List Dep) (x : Int × Int), D.lessB (past.foldl (fun x d => mx x (d.n, d.s)) x).1 (past.foldl (fun x d => mx x (d.n, d.s)) x).2 x.1 x.2 = false ∧ ∀ d ∈ past, D.lessB (past.foldl (fun x d => mx x (d.n, d.s)) x).1 (past.foldl (fun x d => mx x (d.n, d.s)) x).2 d.n d.s = false
  | [], x => ⟨D.less_irrefl _ _, fun d h => by cases h⟩
  | e :: r, x => by
    obtain ⟨h1, h2⟩ := seen_ge r (mx x (e.n, e.s))
    obtain ⟨m1, m2⟩ := mx_ge x (e.n, e.s)
    rw [List.foldl_cons]
    refine ⟨nl_trans h1 m1, fun d hd => ?_⟩
    rcases List.mem_cons.1 hd with rfl | hd
    · exact nl_trans h1 m2
    · exact h2 d hd
theorem head_mem {l : List Ver} {v : Ver} (h : head l = some v) : v ∈ l := by
  unfold head told at h
  split at h
  · exact List.mem_of_getElem? h
  · cases h
theorem getC_mem {cs : SC} {k : ByteArray} {v : Ver} (h : v ∈ getC cs k) : (k, getC cs k) ∈ cs := by
  unfold getC at h ⊢
  cases hl : look cs k with
  | none => rw [hl] at h; cases h
  | some l => exact mem_look hl
/-- The stamp of a head; none: 0. -/
def hst (o : Option Ver) : Int × Int := ((o.getD default).n, (o.getD default).s)
theorem put_head {l m : List Ver} {v : Ver} (h : put l v = some m) : D.lessB (hst (head m)).1 (hst (head m)).2 (hst (head l)).1 (hst (head l)).2 = false := by
  have hc := put_ok h
  have hn := (check_stamp hc).1
  unfold put at h
  split at h
  · cases h
    by_cases hd : l.drop (frm l v.n v.s) = []
    · have hfl : frm l v.n v.s = l.length := by
        have h1 := frm_le l v.n v.s
        rw [List.drop_eq_nil_iff] at hd
        omega
      rw [hd, head_snoc]
      show D.lessB v.n v.s _ _ = false
      cases hh : head l with
      | none => exact nl_of (by show (0 : Int) < v.n; omega)
      | some x =>
        have hx := head_mem hh
        obtain ⟨j, hj, rfl⟩ := List.getElem_of_mem hx
        have hnot := List.not_of_lt_findIdx (p := notB v.n v.s) (xs := l) (i := j) (by unfold frm at hfl; omega)
        unfold notB at hnot
        simp only [Bool.not_eq_true', Bool.not_eq_false', Bool.not_eq_true] at hnot
        have h5 : D.lessB l[j].n l[j].s v.n v.s = true := by simpa using hnot
        exact less_asymm h5
    · have hl : l ≠ [] := fun e => hd (by rw [e]; simp)
      have h1 : head (l.take (frm l v.n v.s) ++ v :: l.drop (frm l v.n v.s)) = head l := by
        rw [head_last (l := l.take (frm l v.n v.s) ++ v :: l.drop (frm l v.n v.s)) (by simp), head_last hl]
        congr 1
        rw [List.getLast_append_of_ne_nil _ (by simp), List.getLast_cons hd, List.getLast_drop]
      rw [h1]
      exact D.less_irrefl _ _
  · cases h
theorem put_mem {l m : List Ver} {v w : Ver} (h : put l v = some m) (hw : w ∈ m) : w = v ∨ w ∈ l := by
  unfold put at h
  split at h
  · cases h
    rcases List.mem_append.1 hw with hw | hw
    · exact .inr (List.mem_of_mem_take hw)
    · rcases List.mem_cons.1 hw with rfl | hw
      · exact .inl rfl
      · exact .inr (List.mem_of_mem_drop hw)
  · cases h
theorem sput_mem {rs : List Rng} {cs : SC} {v : Ver} {q : ByteArray × List Ver} (hq : q ∈ (sput rs cs v).1) {w : Ver} (hw : w ∈ q.2) : w = v ∨ ∃ q' ∈ cs, w ∈ q'.2 := by
  cases hb : (sput rs cs v).2 with
  | false => rw [sput_no hb] at hq; exact .inr ⟨q, hq, hw⟩
  | true =>
    obtain ⟨l, _, hl, he⟩ := sput_some hb
    rw [he] at hq
    rcases mem_setC _ _ _ _ hq with rfl | hq
    · rcases put_mem hl hw with h | h
      · exact .inl h
      · exact .inr ⟨_, getC_mem h, h⟩
    · exact .inr ⟨q, hq, hw⟩
theorem sput_head {rs : List Rng} {cs : SC} (hr : RiseC cs) (v : Ver) (c : ByteArray) : D.lessB (hst (shead (sput rs cs v).1 c)).1 (hst (shead (sput rs cs v).1 c)).2 (hst (shead cs c)).1 (hst (shead cs c)).2 = false := by
  cases hb : (sput rs cs v).2 with
  | false => rw [sput_no hb]; exact D.less_irrefl _ _
  | true =>
    obtain ⟨l, _, hl, he⟩ := sput_some hb
    rw [he]
    unfold shead
    rw [getC_set hr]
    by_cases hc : c = v.key
    · rw [if_pos hc, hc]; exact put_head hl
    · rw [if_neg hc]; exact D.less_irrefl _ _
end J
namespace PS
/-- The clock is no less than all that is kept, or waits. -/
structure Top (p : PS) : Prop where
  ch : ∀ q ∈ p.cs, ∀ v ∈ q.2, D.lessB p.n p.s v.n v.s = false
  wt : ∀ v ∈ p.wait, D.lessB p.n p.s v.n v.s = false
/-- The stamp of a key's head. -/
def top (p : PS) (c : ByteArray) : Int × Int := J.hst (J.shead p.cs c)
/-- A later site: its clock is not less, its heads are not older. -/
structure Since (p q : PS) : Prop where
  clock : D.lessB q.n q.s p.n p.s = false
  head : ∀ c, D.lessB (q.top c).1 (q.top c).2 (p.top c).1 (p.top c).2 = false
theorem Top.zero (k : Int) (rs : List Rng) : (PS.zero k rs).Top := ⟨fun q h => (by cases h), fun v h => by cases h⟩
theorem seen_clock (p : PS) (past : List Dep) : D.lessB (p.seen past).1 (p.seen past).2 p.n p.s = false := (J.seen_ge past (p.n, p.s)).1
theorem seen_past (p : PS) (past : List Dep) : ∀ d ∈ past, D.lessB (p.seen past).1 (p.seen past).2 d.n d.s = false := (J.seen_ge past (p.n, p.s)).2
theorem made_gt (p : PS) (key value : ByteArray) (gone : Bool) (past : List Dep) : D.lessB p.n p.s (p.made key value gone past).n (p.made key value gone past).s = true ∧ ∀ d ∈ past, D.lessB d.n d.s (p.made key value gone past).n (p.made key value gone past).s = true := by
  have h1 := J.nl_n (p.seen_clock past)
  refine ⟨J.l_n (by show p.n < max (p.seen past).1 0 + 1; omega), fun d hd => ?_⟩
  have h2 := J.nl_n (p.seen_past past d hd)
  exact J.l_n (by show d.n < max (p.seen past).1 0 + 1; omega)
theorem Since.refl (p : PS) : Since p p := ⟨D.less_irrefl _ _, fun _ => D.less_irrefl _ _⟩
theorem since_write (p : PS) {m : Nat} (hi : p.Inv m) (ht : p.Top) (key value : ByteArray) (gone : Bool) (past : List Dep) : (p.write key value gone past).Top ∧ Since p (p.write key value gone past) := by
  unfold PS.write
  split
  · have hg := (p.made_gt key value gone past).1
    have hge : ∀ a b, D.lessB p.n p.s a b = false → D.lessB (p.made key value gone past).n (p.made key value gone past).s a b = false := fun a b h => J.nl_trans (J.less_asymm hg) h
    refine ⟨⟨fun q hq v hv => ?_, fun v hv => hge _ _ (ht.wt v hv)⟩, ⟨J.less_asymm hg, fun c => J.sput_head hi.ok.rise _ c⟩⟩
    rcases J.sput_mem hq hv with rfl | ⟨q', h1, h2⟩
    · exact D.less_irrefl _ _
    · exact hge _ _ (ht.ch q' h1 v h2)
  · exact ⟨ht, Since.refl p⟩
theorem clockP_ge (p : PS) (v : Ver) : D.lessB (p.clockP v).n (p.clockP v).s p.n p.s = false ∧ D.lessB (p.clockP v).n (p.clockP v).s v.n v.s = false := J.mx_ge (p.n, p.s) (v.n, v.s)
theorem since_arrive (p : PS) (ht : p.Top) (v : Ver) : (p.arrive v).Top ∧ Since p (p.arrive v) := by
  obtain ⟨g1, g2⟩ := p.clockP_ge v
  unfold PS.arrive
  split
  · split
    · exact ⟨⟨fun q hq w hw => J.nl_trans g1 (ht.ch q hq w hw), fun w hw => J.nl_trans g1 (ht.wt w hw)⟩, ⟨g1, fun _ => D.less_irrefl _ _⟩⟩
    · refine ⟨⟨fun q hq w hw => J.nl_trans g1 (ht.ch q hq w hw), fun w hw => ?_⟩, ⟨g1, fun _ => D.less_irrefl _ _⟩⟩
      rcases List.mem_append.1 hw with hw | hw
      · exact J.nl_trans g1 (ht.wt w hw)
      · cases List.mem_singleton.1 hw; exact g2
  · exact ⟨ht, Since.refl p⟩
theorem since_step (p : PS) {m : Nat} (hi : p.Inv m) (ht : p.Top) : p.step.Top ∧ Since p p.step := by
  unfold PS.step
  split
  · rename_i v hv
    have hm : v ∈ p.wait := by
      unfold PS.stepV J.nextV at hv
      exact List.mem_of_getElem? hv
    refine ⟨⟨fun q hq w hw => ?_, fun w hw => ht.wt w (List.mem_of_mem_eraseIdx hw)⟩, ⟨D.less_irrefl _ _, fun c => J.sput_head hi.ok.rise _ c⟩⟩
    rcases J.sput_mem hq hw with rfl | ⟨q', h1, h2⟩
    · exact ht.wt _ hm
    · exact ht.ch q' h1 w h2
  · exact ⟨ht, Since.refl p⟩
theorem since_clean (p : PS) {m : Nat} (hi : p.Inv m) (ht : p.Top) (n s : Int) (pins : List Dep) : (p.clean n s pins).Top ∧ Since p (p.clean n s pins) := by
  refine ⟨⟨fun q hq w hw => ?_, ht.wt⟩, ⟨D.less_irrefl _ _, fun c => ?_⟩⟩
  · obtain ⟨q', h1, rfl⟩ := List.mem_map.1 hq
    exact ht.ch q' h1 w (List.mem_filter.1 hw).1
  · have h1 : J.shead (J.sclean p.cs n s pins) c = J.shead p.cs c := by
      unfold J.shead
      rw [J.getC_clean]
      by_cases h : J.getC p.cs c = []
      · rw [h]; rfl
      · exact J.head_clean h _ _ _
    show D.lessB (J.hst (J.shead (J.sclean p.cs n s pins) c)).1 _ _ _ = false
    rw [show (p.clean n s pins).top c = J.hst (J.shead (J.sclean p.cs n s pins) c) from rfl, h1]
    exact D.less_irrefl _ _
/-- No head is above the clock. -/
theorem have_le {p : PS} {m : Nat} (hi : p.Inv m) (ht : p.Top) {j : Nat} (hj : j < (J.have' p.cs).length) : D.lessB p.n p.s ((J.have' p.cs).getD j default).n ((J.have' p.cs).getD j default).s = false := by
  have hk : j < (J.keysC p.cs).length := by rw [← J.have_len]; exact hj
  obtain ⟨_, h2, h3⟩ := hi.own.at hk
  obtain ⟨v, hv⟩ := Option.isSome_iff_exists.1 h2
  rw [h3, hv]
  have hm : v ∈ J.getC p.cs ((J.keysC p.cs).getD j default) := J.head_mem hv
  exact ht.ch _ (J.getC_mem hm) v hm
end PS
end Go.Proofs.Ytmbaeloiepjakaa
end
section
set_option maxRecDepth 100000
namespace Go.Proofs.Ytmbaeloiepjakaa
open Go.RowKit A R
open A.RowT
namespace PS
/-- Each chain's versions are of its key. -/
def Keyed (p : PS) : Prop := ∀ q ∈ p.cs, ∀ v ∈ q.2, v.key = q.1
theorem keyed_write {p : PS} (h : p.Keyed) (key value : ByteArray) (gone : Bool) (past : List Dep) : (p.write key value gone past).Keyed := by
  unfold PS.write
  split
  · intro q hq v hv
    have hq' : q ∈ (J.sput p.rs p.cs (p.made key value gone past)).1 := hq
    cases hb : (J.sput p.rs p.cs (p.made key value gone past)).2 with
    | false => rw [J.sput_no hb] at hq'; exact h q hq' v hv
    | true =>
      obtain ⟨l, _, hl, he⟩ := J.sput_some hb
      rw [he] at hq'
      rcases J.mem_setC _ _ _ _ hq' with rfl | hq'
      · rcases J.put_mem hl hv with rfl | h2
        · rfl
        · exact h _ (J.getC_mem h2) v h2
      · exact h q hq' v hv
  · exact h
theorem put_top {l : List Ver} {v : Ver} (hc : J.checkB v = true) (hk : ∀ x ∈ l, x.key = v.key) (ht : ∀ x ∈ l, D.lessB x.n x.s v.n v.s = true) : J.put l v = some (l ++ [v]) := by
  have hf : J.frm l v.n v.s = l.length := by
    unfold J.frm
    rw [List.findIdx_eq_length]
    intro x hx
    unfold J.notB
    rw [ht x hx]; rfl
  unfold J.put
  rw [hf, if_pos]
  · simp
  · refine ⟨hc, fun x hx => by rw [hk x (List.mem_of_getElem? hx)], fun x hx => ?_⟩
    simp at hx
theorem write_reads {p : PS} {m : Nat} (hi : p.Inv m) (ht : p.Top) (hk : p.Keyed) (key value : ByteArray) (gone : Bool) (past : List Dep) (he : p.writeE key value gone past = 0) : (p.write key value gone past).readV key = some (p.made key value gone past) := by
  have hf : ¬ findR p.rs key < 0 := fun h => by unfold writeE at he; rw [if_pos h] at he; omega
  have hc : J.checkB (p.made key value gone past) = true := by
    unfold writeE at he
    rw [if_neg hf] at he
    split at he
    · omega
    · cases h : J.checkB (p.made key value gone past) with
      | true => rfl
      | false => rw [h] at he; simp at he
  have hg := (p.made_gt key value gone past).1
  have hl : ∀ x ∈ J.getC p.cs key, D.lessB x.n x.s (p.made key value gone past).n (p.made key value gone past).s = true := fun x hx => by
    cases h : D.lessB x.n x.s (p.made key value gone past).n (p.made key value gone past).s with
    | true => rfl
    | false =>
      have := J.nl_trans (ht.ch _ (J.getC_mem hx) x hx) h
      rw [hg] at this; cases this
  have hput := put_top (l := J.getC p.cs key) hc (fun x hx => hk _ (J.getC_mem hx) x hx) hl
  have hs : J.sput p.rs p.cs (p.made key value gone past) = (J.setC p.cs key (J.getC p.cs key ++ [p.made key value gone past]), true) := by
    unfold J.sput
    rw [if_neg (show ¬ findR p.rs (p.made key value gone past).key < 0 from hf), show J.put (J.getC p.cs (p.made key value gone past).key) (p.made key value gone past) = _ from hput]; rfl
  have h1 : p.write key value gone past = p.writeP key value gone past := by unfold write; rw [if_pos he]
  have h2 : (p.write key value gone past).rs = p.rs := by rw [h1]; rfl
  have h3 : (p.write key value gone past).cs = J.setC p.cs key (J.getC p.cs key ++ [p.made key value gone past]) := by rw [h1]; show (J.sput p.rs p.cs (p.made key value gone past)).1 = _; rw [hs]
  unfold readV
  rw [h2, if_neg hf, h3]
  unfold J.shead
  rw [J.getC_set hi.ok.rise, if_pos rfl, J.head_snoc]
/-- Which short writes succeed. -/
theorem write_short {p : PS} {m : Nat} (hi : p.Inv m) (hrs : p.rs = J.ranges 0) (n : Int) (value : ByteArray) (hn : 0 ≤ p.n ∧ p.n ≤ 1000) : p.writeE (J.word n) value false [] = if (value.size : Int) ≤ 32 then 0 else 1 := by
  have hid := hi.ok.id
  have hs : p.seen [] = (p.n, p.s) := rfl
  have hc : J.checkB (p.made (J.word n) value false []) = decide ((value.size : Int) ≤ 32) := by
    have h1 := J.word_ok n
    have h2 : V.stampB (p.made (J.word n) value false []).n (p.made (J.word n) value false []).s = true := by
      show V.stampB (max p.n 0 + 1) p.id = true
      unfold V.stampB
      simp only [Bool.and_eq_true, decide_eq_true_eq]
      omega
    unfold J.checkB
    rw [show (p.made (J.word n) value false []).key = J.word n from rfl, h1, h2]
    show (true && (true && (J.pastB [] && (decide ((value.size : Int) ≤ 32) && (!false || _))))) = _
    rw [show J.pastB [] = true from rfl]
    simp
  unfold writeE
  rw [hrs, if_neg (J.findR_all _), hs, if_neg (by show ¬ 1099511627776 ≤ p.n; omega), hc]
  by_cases h : (value.size : Int) ≤ 32 <;> simp [h]
end PS
set_option maxHeartbeats 2000000 in
theorem sitewrites_law (z : Int) (l : List TOp) : ACall Try.prog 3 [iv z, .sl 7 (l.map TOp.row)] (bv true) := by
  refine ACall_enter (fun _ _ => by kernel_rfl) Try.func3 rfl Try.ntmps3 Try.results3 (Nat.le_of_ble_eq_true rfl) (fun hok M0 w0 hnl => ?_)
  have hlen := (hok (.sl 7 (l.map TOp.row)) (by simp)).len
  rw [List.length_map] at hlen
  have hr0 : (J.ranges 0).length ≤ 1000000 := Nat.le_trans (J.ranges_len 0) (by decide)
  obtain ⟨hid, hw0, hw1⟩ := TOp.id6_le z
  have hw2 : Int.tmod (Int.tmod z 6 + 6) 6 = TOp.id6 z := rfl
  refine Aw_seq (Aw_region ?_)
  refine Al_p Pu_mvr ?_
  refine Al_nil (Aw_seq (Aw_region ?_))
  refine Al_p (Pu_call (tawake_a) rfl trivial) ?_
  refine Al_p Pu_mvr ?_
  refine Al_nil (Aw_seq (Aw_region ?_))
  refine Al_p Pu_mvl ?_
  refine Al_p (Pu_rem rfl rfl rfl (by omega) rfl) ?_
  refine Al_p (Pu_add rfl rfl rfl (fun h1 h2 => by simp only [A.inI, A.maxI] at *; omega)) ?_
  refine Al_p (Pu_rem rfl rfl rfl (by omega) rfl) ?_
  refine Al_p Pu_mvr ?_
  refine Al_nil (Aw_seq ?_)
  rw [hw2]
  refine Aw_region ?_
  refine Al_p Pu_mvl ?_
  refine Al_p (Pu_call (tranges_a 0) rfl ⟨Sub.rfl, trivial⟩) ?_
  refine Al_gcallE [] [(1001, 24), (1002, 240), (1003, 241)] (stNew_g (TOp.id6 z) hid (J.ranges 0) hr0) rfl rfl rfl (by decide) (by kernel_rfl) trivial (fun _ => rfl) rfl rfl ⟨Sub.rfl, Sub.rfl, trivial⟩ ?_
  rintro b g24
  refine Al_p Pu_mvr ?_
  refine Al_nil (Aw_seq (Aw_seq (Aw_region ?_)))
  refine Al_p Pu_mvl ?_
  refine Al_p (Pu_eqnilb Try.underlying24 rfl rfl) ?_
  refine Al_nil ?_
  refine Aw_condF rfl (rfl) ?_
  refine Aw_skip (Aw_seq (Aw_region ?_))
  refine Al_p (Pu_build (aa := []) rfl Try.underlying29 Try.zeroValue29 (places29 Try.underlying29) (by kernel_rfl) trivial rfl) ?_
  refine Al_alloc rfl rfl rfl (by decide) Try.zeroValue29 rfl (by kernel_rfl) (fun g8 => ?_)
  refine Al_storeN rfl rfl rfl (by kernel_rfl) Try.isAgg29 Try.sizeOf29 rfl rfl rfl rfl (Nat.le_of_ble_eq_true rfl) ?_
  refine Al_nil (Aw_seq (Aw_seq (Aw_region ?_)))
  refine Al_p Pu_mvr ?_
  refine Al_nil (Aw_block ?_)
  refine Aw_loopk (ι := Nat × PS) [1, 5, 6, 7, 8] [] (fun (k, p) => [(9, .d (iv k))]) (fun (k, p) => [(24, g24, .box 59 [.bx 240 g24 0, .d (iv p.id), .d (versA p.wait), .d (iv p.n), .d (iv p.s)]), (240, g24, .box 78 [.d (rngA p.rs), .ow 241 g24]), (241, g24, mapV b p.cs), (8, g8, .box 29 [.d (iv p.n), .d (iv p.s)])]) (fun (k, p) => k ≤ l.length ∧ k ≤ 20 ∧ p.Inv k ∧ p.Top ∧ p.rs = J.ranges 0 ∧ p.id = TOp.id6 z ∧ p.Keyed ∧ 0 ≤ p.n ∧ p.n ≤ k) (fun (k, p) => 20 - k) (0, PS.zero (TOp.id6 z) (J.ranges 0)) (⟨Nat.zero_le _, Nat.zero_le _, PS.Inv.zero hid hr0, PS.Top.zero _ _, rfl, rfl, (fun _ h => nomatch h), (show (0 : Int) ≤ 0 from by decide), (show (0 : Int) ≤ 0 from by decide)⟩) ⟨Sub.rfl, trivial⟩ ⟨rfl, rfl, rfl, rfl, trivial⟩ ?_
  rintro ⟨k, p⟩ ⟨hk1, hk2, hp, ht, hrs, hpid, hkey, hn0, hn1⟩
  refine Aw_seq (Aw_seq (Aw_region ?_))
  refine Al_p Pu_mvl ?_
  refine Al_p Pu_mvl ?_
  refine Al_p (Pu_len rfl Try.underlying22 rfl (by first | exact List.length_map .. | exact rfl)) ?_
  refine Al_p (Pu_cmp rfl rfl rfl rfl) ?_
  refine Al_p Pu_mvl ?_
  refine Al_st (St_gd [] rfl rfl rfl rfl trivial (fun hg33 => by exact Pu_move (.inl rfl) (by conv => lhs; whnf))) rfl (by decide) (by kernel_rfl) (by intro j b oj dj h1 h2 h3; cases h1; cases h2; cases h3; decide) ?_
  refine Al_st (St_gd [33] rfl rfl rfl rfl ⟨⟨_, rfl⟩, trivial⟩ (fun hg34 => Pu_cmp rfl rfl rfl rfl)) rfl (by decide) (by kernel_rfl) (by intro j b oj dj h1 h2 h3; cases h1; cases h2; cases h3; decide) ?_
  refine Al_p (Pu_and rfl rfl rfl rfl) ?_
  refine Al_nil ?_
  refine Aw_cond rfl (fun h35 => ?_) (fun h35 => ?_)
  · (try simp only [decide_eq_true_eq, decide_eq_false_iff_not, Bool.and_eq_true, Bool.or_eq_true, Bool.and_eq_false_iff, Bool.or_eq_false_iff, Bool.not_eq_true', Bool.not_eq_false', beq_iff_eq, Bool.not_eq_eq_eq_not, Bool.not_true, Bool.not_false, List.length_map, Bool.and_true, Bool.and_false, Bool.false_and, Bool.true_and, Bool.or_false, Bool.false_or] at h35)
    obtain ⟨ha, hb⟩ : k < l.length ∧ k < 20 := by omega
    obtain ⟨o, ho⟩ : ∃ o, o = l.getD k default := ⟨_, rfl⟩
    have hshort := PS.write_short hp hrs o.key o.val ⟨hn0, by omega⟩
    have hwr := PS.write_reads hp ht hkey (J.word o.key) o.val false []
    obtain ⟨w1, w2⟩ := p.since_write hp ht (J.word o.key) o.val false []
    obtain ⟨w3, w4⟩ := p.write_same (J.word o.key) o.val false []
    have w5 := hp.write (J.word o.key) o.val false []
    have w6 := PS.keyed_write hkey (J.word o.key) o.val false []
    refine Aw_skip ?_
    -- join 0: live [1, 5, 6, 7, 8, 9], turned []
    refine Aw_seq (Aw_block (Aw_seq (Aw_region ?_)))
    refine Al_p Pu_mvl ?_
    refine Al_p Pu_mvl ?_
    refine Al_p (Pu_index rfl Try.underlying22 Try.sizeOf32 rfl rfl (rfl) (mapgetD (d := default) ha)) ?_
    refine Al_p (Pu_loadN rfl Try.isAgg32 Try.sizeOf32 rfl (Nat.le_of_ble_eq_true rfl)) ?_
    refine Al_alloc rfl rfl rfl (by decide) Try.zeroValue32 rfl (by kernel_rfl) (fun g10 => ?_)
    refine Al_storeN rfl rfl rfl (by kernel_rfl) Try.isAgg32 Try.sizeOf32 rfl rfl rfl rfl (Nat.le_of_ble_eq_true rfl) ?_
    refine Al_nil ?_
    -- join 1: live [1, 5, 6, 7, 8, 9, 10, 11, 12], turned [11, 12]
    refine Aw_seq ?_
    rw [← ho]
    refine Aw_drawPA 6 10 6 (by kernel_rfl) (by kernel_rfl) rfl (by decide) rfl rfl rfl rfl (by decide) Try.zeroValue34 rfl (by kernel_rfl) rfl ?_
    refine Dr_p Pu_mvl ?_
    refine Dr_p (Pu_fieldb 1 rfl Try.underlying32 rfl rfl Try.sizeOf3 rfl) ?_
    refine Dr_p (Pu_loadb rfl Try.isAgg3 rfl rfl rfl) ?_
    refine Dr_p (Pu_call (tword_a o.key) rfl ⟨Sub.rfl, trivial⟩) ?_
    refine Dr_p (Pu_loadbN (r := [_, _, _, _, _, _, _]) rfl Try.isAgg32 Try.sizeOf32 rfl rfl rfl rfl) ?_
    refine Dr_p (Pu_call (tvalue_a o) rfl ⟨Sub.rfl, trivial⟩) ?_
    refine Dr_nil ⟨?_, fun g11 => ?_⟩
    · refine Ad_two 6 10 rfl rfl (by kernel_rfl) ?_ ?_
      · refine Al_gcall [(1001, 24, g24), (1002, 240, g24), (1003, 241, g24)] [] (stWrite_g p b (J.word o.key) o.val false [] (by decide) hp.ok (by omega)) rfl rfl rfl (by decide) (by kernel_rfl) ⟨rfl, rfl, rfl, trivial⟩ rfl ⟨Sub.rfl, Sub.rfl, Sub.rfl, Sub.rfl, Sub.nil, trivial⟩ (fun g49 => ?_)
        refine Al_nil ?_
        refine Ad_take 7 rfl (PuI_move (.inl rfl) (by conv => lhs; whnf)) rfl rfl (by decide) (by kernel_rfl) (by kernel_rfl) (by kernel_rfl) (by kernel_rfl) (fun _ _ h => h) ?_
        refine Ad_take 8 rfl (PuI_extract rfl rfl rfl) rfl rfl (by decide) (by kernel_rfl) (by kernel_rfl) (by kernel_rfl) (by kernel_rfl) (fun _ _ h => h) ?_
        refine Ad_take 9 rfl (PuI_extract rfl rfl rfl) rfl rfl (by decide) (by kernel_rfl) (by kernel_rfl) (by kernel_rfl) (by kernel_rfl) (fun _ _ h => h) ?_
        refine Ad_one 10 rfl (by kernel_rfl) ?_
        refine Al_alloc rfl rfl rfl (by decide) Try.zeroValue34 rfl (by kernel_rfl) (fun g11 => ?_)
        refine Al_nil ?_
        refine Ad_one 11 rfl (by kernel_rfl) ?_
        refine Al_storeN rfl rfl rfl (by kernel_rfl) Try.isAgg34 Try.sizeOf34 rfl rfl rfl rfl (Nat.le_of_ble_eq_true rfl) ?_
        refine Al_nil ?_
        refine Ad_take 12 rfl (PuI_move (.inr rfl) (by conv => lhs; whnf)) rfl rfl (by decide) (by kernel_rfl) (by kernel_rfl) (by kernel_rfl) (by kernel_rfl) (fun _ _ h => h) ?_
        refine Ad_done (by kernel_rfl) ?_
        refine Aw_seq (Aw_seq (Aw_region ?_))
        refine Al_p Pu_mvl ?_
        refine Al_p (Pu_cmp rfl rfl rfl rfl) ?_
        refine Al_nil ?_
        refine Aw_cond rfl (fun h53 => ?_) (fun h53 => ?_)
        · skip
          have he : ¬ p.writeE (J.word o.key) o.val false [] = 0 := by simpa using h53
          have e1 : p.write (J.word o.key) o.val false [] = p := by unfold PS.write; rw [if_neg he]
          rw [e1]
          refine Aw_seq (Aw_seq (Aw_region ?_))
          refine Al_p (Pu_loadbN (r := [_, _, _, _, _, _, _]) rfl Try.isAgg32 Try.sizeOf32 rfl rfl rfl rfl) ?_
          refine Al_p (Pu_call (tvalue_a o) rfl ⟨Sub.rfl, trivial⟩) ?_
          refine Al_p (Pu_lenS rfl Try.underlying9 rfl) ?_
          refine Al_p (Pu_cmp rfl rfl rfl rfl) ?_
          refine Al_nil ?_
          refine Aw_cond rfl (fun h57 => ?_) (fun h57 => ?_)
          · (try simp only [decide_eq_true_eq, decide_eq_false_iff_not, Bool.and_eq_true, Bool.or_eq_true, Bool.and_eq_false_iff, Bool.or_eq_false_iff, Bool.not_eq_true', Bool.not_eq_false', beq_iff_eq, Bool.not_eq_eq_eq_not, Bool.not_true, Bool.not_false, List.length_map, Bool.and_true, Bool.and_false, Bool.false_and, Bool.true_and, Bool.or_false, Bool.false_or] at h57)
            exfalso
            rw [hshort, if_pos h57] at he
            exact he rfl
          · (try simp only [decide_eq_true_eq, decide_eq_false_iff_not, Bool.and_eq_true, Bool.or_eq_true, Bool.and_eq_false_iff, Bool.or_eq_false_iff, Bool.not_eq_true', Bool.not_eq_false', beq_iff_eq, Bool.not_eq_eq_eq_not, Bool.not_true, Bool.not_false, List.length_map, Bool.and_true, Bool.and_false, Bool.false_and, Bool.true_and, Bool.or_false, Bool.false_or] at h57)
            refine Aw_skip (Aw_exit (Aw_region ?_))
            refine Al_p Pu_mvl ?_
            refine Al_p (Pu_add rfl rfl rfl (fun h1 h2 => by simp only [A.inI, A.maxI] at *; omega)) ?_
            refine Al_p Pu_mvr ?_
            refine Al_nil ?_
            exact ⟨(k + 1, p), ⟨by omega, by omega, hp.mono (by omega), ht, hrs, hpid, hkey, hn0, by omega⟩, by simp only []; omega, Le.ov ⟨Sub.num (by omega), trivial⟩ ⟨Sub.rfl, Sub.rfl, Sub.rfl, Sub.rfl, Sub.rfl, trivial⟩ ⟨rfl, rfl, rfl, rfl, trivial⟩ trivial⟩ -- loop 0 next.0
        · skip
          have he : p.writeE (J.word o.key) o.val false [] = 0 := by simpa using h53
          have hrd := hwr he
          have e1 : p.write (J.word o.key) o.val false [] = p.writeP (J.word o.key) o.val false [] := by unfold PS.write; rw [if_pos he]
          have e3 : p.writeV (J.word o.key) o.val false [] = p.made (J.word o.key) o.val false [] := by unfold PS.writeV; rw [if_pos he]
          have e4 : (p.made (J.word o.key) o.val false []).n = p.n + 1 := by show max p.n 0 + 1 = _; omega
          rw [e3]
          obtain ⟨q, hqe⟩ : ∃ q, q = p.write (J.word o.key) o.val false [] := ⟨_, rfl⟩
          rw [← hqe] at w1 w2 w3 w4 w5 w6 e1 hrd
          rw [← hqe]
          refine Aw_skip (Aw_seq (Aw_region ?_))
          refine Al_p Pu_mvl ?_
          refine Al_p (Pu_fieldb 1 rfl Try.underlying32 rfl rfl Try.sizeOf3 rfl) ?_
          refine Al_p (Pu_loadb rfl Try.isAgg3 rfl rfl rfl) ?_
          refine Al_p (Pu_call (tword_a o.key) rfl ⟨Sub.rfl, trivial⟩) ?_
          refine Al_p (Pu_gcall [(1001, 24, g24), (1002, 240, g24), (1003, 241, g24)] (stRead_g q b (J.word o.key) w5.ok (by omega)) (ST_in ..) rfl ⟨rfl, rfl, rfl, trivial⟩ rfl ⟨Sub.rfl, Sub.rfl, trivial⟩) ?_
          refine Al_p Pu_mvl ?_
          refine Al_p (Pu_extract rfl rfl rfl) ?_
          refine Al_p (Pu_extract rfl rfl rfl) ?_
          refine Al_p (Pu_extract rfl rfl rfl) ?_
          refine Al_alloc rfl rfl rfl (by decide) Try.zeroValue34 rfl (by kernel_rfl) (fun g13 => ?_)
          refine Al_storeN rfl rfl rfl (by kernel_rfl) Try.isAgg34 Try.sizeOf34 rfl rfl rfl rfl (Nat.le_of_ble_eq_true rfl) ?_
          refine Al_p Pu_mvr ?_
          refine Al_p Pu_mvr ?_
          refine Al_nil (Aw_seq ?_)
          rw [hrd]
          refine Aw_region ?_
          refine Al_p (Pu_loadbN (r := [_, _, _, _, _, _]) rfl Try.isAgg34 Try.sizeOf34 rfl rfl rfl rfl) ?_
          refine Al_p (Pu_loadbN (r := [_, _, _, _, _, _]) rfl Try.isAgg34 Try.sizeOf34 rfl rfl rfl rfl) ?_
          refine Al_p (Pu_call (rvsame_a (p.made (J.word o.key) o.val false []) (p.made (J.word o.key) o.val false [])) rfl ⟨Sub.rfl, Sub.rfl, trivial⟩) ?_
          refine Al_p Pu_mvr ?_
          refine Al_nil (Aw_seq (Aw_seq ?_))
          refine Aw_draw 29 (by kernel_rfl) (by kernel_rfl) ?_
          refine Dr_p Pu_mvl ?_
          refine Dr_p (Pu_not rfl rfl) ?_
          refine Dr_p Pu_mvl ?_
          refine Dr_st (St_gd [] rfl rfl rfl rfl trivial (fun hg73 => by exact Pu_move (.inl rfl) (by conv => lhs; whnf))) rfl ?_
          refine Dr_st (St_gd [73] rfl rfl rfl rfl ⟨⟨_, rfl⟩, trivial⟩ (fun hg74 => Pu_not rfl rfl)) rfl ?_
          refine Dr_p (Pu_or rfl rfl rfl rfl) ?_
          refine Dr_p Pu_mvl ?_
          refine Dr_st (St_gd [] rfl rfl rfl rfl trivial (fun hg77 => Pu_fieldb 3 rfl Try.underlying34 rfl rfl Try.sizeOf29 rfl)) rfl ?_
          refine Dr_st (St_gd [77] rfl rfl rfl rfl ⟨⟨_, rfl⟩, trivial⟩ (fun hg78 => Pu_fieldb 1 rfl Try.underlying29 rfl rfl Try.sizeOf3 rfl)) rfl ?_
          refine Dr_st (St_gd [78] rfl rfl rfl rfl ⟨⟨_, rfl⟩, trivial⟩ (fun hg79 => Pu_loadb rfl Try.isAgg3 rfl rfl rfl)) rfl ?_
          refine Dr_st (St_gd [] rfl rfl rfl rfl trivial (fun hg80 => by exact Pu_move (.inl rfl) (by conv => lhs; whnf))) rfl ?_
          refine Dr_st (St_gd [79, 80] rfl rfl rfl rfl ⟨⟨_, rfl⟩, ⟨_, rfl⟩, trivial⟩ (fun hg81 => Pu_cmp rfl rfl rfl rfl)) rfl ?_
          refine Dr_p (Pu_or rfl rfl rfl rfl) ?_
          refine Dr_p Pu_mvl ?_
          refine Dr_st (St_gd [] rfl rfl rfl rfl trivial (fun hg84 => Pu_fieldb 3 rfl Try.underlying34 rfl rfl Try.sizeOf29 rfl)) rfl ?_
          refine Dr_st (St_gd [84] rfl rfl rfl rfl ⟨⟨_, rfl⟩, trivial⟩ (fun hg85 => Pu_fieldb 0 rfl Try.underlying29 rfl rfl Try.sizeOf3 rfl)) rfl ?_
          refine Dr_st (St_gd [85] rfl rfl rfl rfl ⟨⟨_, rfl⟩, trivial⟩ (fun hg86 => Pu_loadb rfl Try.isAgg3 rfl rfl rfl)) rfl ?_
          refine Dr_st (St_gd [] rfl rfl rfl rfl trivial (fun hg87 => Pu_fieldb 0 rfl Try.underlying29 rfl rfl Try.sizeOf3 rfl)) rfl ?_
          refine Dr_st (St_gd [87] rfl rfl rfl rfl ⟨⟨_, rfl⟩, trivial⟩ (fun hg88 => Pu_loadb rfl Try.isAgg3 rfl rfl rfl)) rfl ?_
          refine Dr_st (St_gd [88] rfl rfl rfl rfl ⟨⟨_, rfl⟩, trivial⟩ (fun hg89 => by exact Pu_add rfl rfl rfl (fun h1 h2 => by simp only [A.inI, A.maxI] at *; omega))) rfl ?_
          refine Dr_st (St_gd [86, 89] rfl rfl rfl rfl ⟨⟨_, rfl⟩, ⟨_, rfl⟩, trivial⟩ (fun hg90 => Pu_cmp rfl rfl rfl rfl)) rfl ?_
          refine Dr_p (Pu_or rfl rfl rfl rfl) ?_
          refine Dr_p Pu_mvl ?_
          refine Dr_st (St_gd [] rfl rfl rfl rfl trivial (fun hg93 => by exact Pu_move (.inl rfl) (by conv => lhs; whnf))) rfl ?_
          refine Dr_st (St_gd [93] rfl rfl rfl rfl ⟨⟨_, rfl⟩, trivial⟩ (fun hg94 => Pu_gcall [(1001, 24, g24), (1002, 240, g24), (1003, 241, g24)] (stClock_g q b) (ST_in ..) rfl ⟨rfl, rfl, rfl, trivial⟩ rfl ⟨Sub.rfl, trivial⟩)) rfl ?_
          refine Dr_st (St_gd [] rfl rfl rfl rfl trivial (fun hg95 => Pu_fieldb 3 rfl Try.underlying34 rfl rfl Try.sizeOf29 rfl)) rfl ?_
          refine Dr_st (St_gd [95] rfl rfl rfl rfl ⟨⟨_, rfl⟩, trivial⟩ (fun hg96 => Pu_loadbN (r := [_, _]) rfl Try.isAgg29 Try.sizeOf29 rfl rfl rfl rfl)) rfl ?_
          refine Dr_st (St_gd [94, 96] rfl rfl rfl rfl ⟨⟨_, rfl⟩, ⟨_, rfl⟩, trivial⟩ (fun hg97 => Pu_eqrow [.int .i64 _, .int .i64 _] [.int .i64 _, .int .i64 _] (fun w => nev29 _ _ _ _ _ _ w) rfl rfl rfl)) rfl ?_
          refine Dr_p (Pu_or rfl rfl rfl rfl) ?_
          refine Dr_nil (Al_nil ?_)
          refine Aw_cond rfl (fun h98 => ?_) (fun h98 => ?_)
          · skip
            exfalso
            rw [e4, e1] at h98
            have e5 : max p.n 0 = p.n := by omega
            simp [PS.writeP, PS.made, hpid, show p.seen [] = (p.n, p.s) from rfl, e5] at h98
          · skip
            refine Aw_skip (Aw_region ?_)
            refine Al_p (Pu_fieldb 3 rfl Try.underlying34 rfl rfl Try.sizeOf29 rfl) ?_
            refine Al_p (Pu_loadbN (r := [_, _]) rfl Try.isAgg29 Try.sizeOf29 rfl rfl rfl rfl) ?_
            refine Al_storeN rfl rfl rfl (by kernel_rfl) Try.isAgg29 Try.sizeOf29 rfl rfl rfl rfl (Nat.le_of_ble_eq_true rfl) ?_
            refine Al_nil (Aw_region ?_)
            refine Al_p Pu_mvl ?_
            refine Al_p (Pu_add rfl rfl rfl (fun h1 h2 => by simp only [A.inI, A.maxI] at *; omega)) ?_
            refine Al_p Pu_mvr ?_
            refine Al_nil ?_
            exact ⟨(k + 1, q), ⟨by omega, by omega, w5, w1, w3.trans hrs, w4.trans hpid, w6, by rw [e1]; show 0 ≤ max p.n 0 + 1; omega, by rw [e1]; show max p.n 0 + 1 ≤ _; omega⟩, by simp only []; omega, Le.ov ⟨Sub.num (by omega), trivial⟩ ⟨Sub.rfl, Sub.rfl, Sub.rfl, Sub.rfl, Sub.rfl, trivial⟩ ⟨rfl, rfl, rfl, by rw [e1]; rfl, trivial⟩ trivial⟩ -- loop 0 next.1
      · refine Al_alloc rfl rfl rfl (by decide) Try.zeroValue34 rfl (by kernel_rfl) (fun g11 => ?_)
        refine Al_nil ?_
        refine Ad_one 6 rfl (by kernel_rfl) ?_
        refine Al_gcall [(1001, 24, g24), (1002, 240, g24), (1003, 241, g24)] [] (stWrite_g p b (J.word o.key) o.val false [] (by decide) hp.ok (by omega)) rfl rfl rfl (by decide) (by kernel_rfl) ⟨rfl, rfl, rfl, trivial⟩ rfl ⟨Sub.rfl, Sub.rfl, Sub.rfl, Sub.rfl, Sub.nil, trivial⟩ (fun g49 => ?_)
        refine Al_nil ?_
        refine Ad_take 7 rfl (PuI_move (.inl rfl) (by conv => lhs; whnf)) rfl rfl (by decide) (by kernel_rfl) (by kernel_rfl) (by kernel_rfl) (by kernel_rfl) (fun _ _ h => h) ?_
        refine Ad_take 8 rfl (PuI_extract rfl rfl rfl) rfl rfl (by decide) (by kernel_rfl) (by kernel_rfl) (by kernel_rfl) (by kernel_rfl) (fun _ _ h => h) ?_
        refine Ad_take 9 rfl (PuI_extract rfl rfl rfl) rfl rfl (by decide) (by kernel_rfl) (by kernel_rfl) (by kernel_rfl) (by kernel_rfl) (fun _ _ h => h) ?_
        refine Ad_one 11 rfl (by kernel_rfl) ?_
        refine Al_storeN rfl rfl rfl (by kernel_rfl) Try.isAgg34 Try.sizeOf34 rfl rfl rfl rfl (Nat.le_of_ble_eq_true rfl) ?_
        refine Al_nil ?_
        refine Ad_take 12 rfl (PuI_move (.inr rfl) (by conv => lhs; whnf)) rfl rfl (by decide) (by kernel_rfl) (by kernel_rfl) (by kernel_rfl) (by kernel_rfl) (fun _ _ h => h) ?_
        refine Ad_done (by kernel_rfl) ?_
        refine Aw_seq (Aw_seq (Aw_region ?_))
        refine Al_p Pu_mvl ?_
        refine Al_p (Pu_cmp rfl rfl rfl rfl) ?_
        refine Al_nil ?_
        refine Aw_cond rfl (fun h53 => ?_) (fun h53 => ?_)
        · skip
          have he : ¬ p.writeE (J.word o.key) o.val false [] = 0 := by simpa using h53
          have e1 : p.write (J.word o.key) o.val false [] = p := by unfold PS.write; rw [if_neg he]
          rw [e1]
          refine Aw_seq (Aw_seq (Aw_region ?_))
          refine Al_p (Pu_loadbN (r := [_, _, _, _, _, _, _]) rfl Try.isAgg32 Try.sizeOf32 rfl rfl rfl rfl) ?_
          refine Al_p (Pu_call (tvalue_a o) rfl ⟨Sub.rfl, trivial⟩) ?_
          refine Al_p (Pu_lenS rfl Try.underlying9 rfl) ?_
          refine Al_p (Pu_cmp rfl rfl rfl rfl) ?_
          refine Al_nil ?_
          refine Aw_cond rfl (fun h57 => ?_) (fun h57 => ?_)
          · (try simp only [decide_eq_true_eq, decide_eq_false_iff_not, Bool.and_eq_true, Bool.or_eq_true, Bool.and_eq_false_iff, Bool.or_eq_false_iff, Bool.not_eq_true', Bool.not_eq_false', beq_iff_eq, Bool.not_eq_eq_eq_not, Bool.not_true, Bool.not_false, List.length_map, Bool.and_true, Bool.and_false, Bool.false_and, Bool.true_and, Bool.or_false, Bool.false_or] at h57)
            exfalso
            rw [hshort, if_pos h57] at he
            exact he rfl
          · (try simp only [decide_eq_true_eq, decide_eq_false_iff_not, Bool.and_eq_true, Bool.or_eq_true, Bool.and_eq_false_iff, Bool.or_eq_false_iff, Bool.not_eq_true', Bool.not_eq_false', beq_iff_eq, Bool.not_eq_eq_eq_not, Bool.not_true, Bool.not_false, List.length_map, Bool.and_true, Bool.and_false, Bool.false_and, Bool.true_and, Bool.or_false, Bool.false_or] at h57)
            refine Aw_skip (Aw_exit (Aw_region ?_))
            refine Al_p Pu_mvl ?_
            refine Al_p (Pu_add rfl rfl rfl (fun h1 h2 => by simp only [A.inI, A.maxI] at *; omega)) ?_
            refine Al_p Pu_mvr ?_
            refine Al_nil ?_
            exact ⟨(k + 1, p), ⟨by omega, by omega, hp.mono (by omega), ht, hrs, hpid, hkey, hn0, by omega⟩, by simp only []; omega, Le.ov ⟨Sub.num (by omega), trivial⟩ ⟨Sub.rfl, Sub.rfl, Sub.rfl, Sub.rfl, Sub.rfl, trivial⟩ ⟨rfl, rfl, rfl, rfl, trivial⟩ trivial⟩ -- loop 0 next.2
        · skip
          have he : p.writeE (J.word o.key) o.val false [] = 0 := by simpa using h53
          have hrd := hwr he
          have e1 : p.write (J.word o.key) o.val false [] = p.writeP (J.word o.key) o.val false [] := by unfold PS.write; rw [if_pos he]
          have e3 : p.writeV (J.word o.key) o.val false [] = p.made (J.word o.key) o.val false [] := by unfold PS.writeV; rw [if_pos he]
          have e4 : (p.made (J.word o.key) o.val false []).n = p.n + 1 := by show max p.n 0 + 1 = _; omega
          rw [e3]
          obtain ⟨q, hqe⟩ : ∃ q, q = p.write (J.word o.key) o.val false [] := ⟨_, rfl⟩
          rw [← hqe] at w1 w2 w3 w4 w5 w6 e1 hrd
          rw [← hqe]
          refine Aw_skip (Aw_seq (Aw_region ?_))
          refine Al_p Pu_mvl ?_
          refine Al_p (Pu_fieldb 1 rfl Try.underlying32 rfl rfl Try.sizeOf3 rfl) ?_
          refine Al_p (Pu_loadb rfl Try.isAgg3 rfl rfl rfl) ?_
          refine Al_p (Pu_call (tword_a o.key) rfl ⟨Sub.rfl, trivial⟩) ?_
          refine Al_p (Pu_gcall [(1001, 24, g24), (1002, 240, g24), (1003, 241, g24)] (stRead_g q b (J.word o.key) w5.ok (by omega)) (ST_in ..) rfl ⟨rfl, rfl, rfl, trivial⟩ rfl ⟨Sub.rfl, Sub.rfl, trivial⟩) ?_
          refine Al_p Pu_mvl ?_
          refine Al_p (Pu_extract rfl rfl rfl) ?_
          refine Al_p (Pu_extract rfl rfl rfl) ?_
          refine Al_p (Pu_extract rfl rfl rfl) ?_
          refine Al_alloc rfl rfl rfl (by decide) Try.zeroValue34 rfl (by kernel_rfl) (fun g13 => ?_)
          refine Al_storeN rfl rfl rfl (by kernel_rfl) Try.isAgg34 Try.sizeOf34 rfl rfl rfl rfl (Nat.le_of_ble_eq_true rfl) ?_
          refine Al_p Pu_mvr ?_
          refine Al_p Pu_mvr ?_
          refine Al_nil (Aw_seq ?_)
          rw [hrd]
          refine Aw_region ?_
          refine Al_p (Pu_loadbN (r := [_, _, _, _, _, _]) rfl Try.isAgg34 Try.sizeOf34 rfl rfl rfl rfl) ?_
          refine Al_p (Pu_loadbN (r := [_, _, _, _, _, _]) rfl Try.isAgg34 Try.sizeOf34 rfl rfl rfl rfl) ?_
          refine Al_p (Pu_call (rvsame_a (p.made (J.word o.key) o.val false []) (p.made (J.word o.key) o.val false [])) rfl ⟨Sub.rfl, Sub.rfl, trivial⟩) ?_
          refine Al_p Pu_mvr ?_
          refine Al_nil (Aw_seq (Aw_seq ?_))
          refine Aw_draw 29 (by kernel_rfl) (by kernel_rfl) ?_
          refine Dr_p Pu_mvl ?_
          refine Dr_p (Pu_not rfl rfl) ?_
          refine Dr_p Pu_mvl ?_
          refine Dr_st (St_gd [] rfl rfl rfl rfl trivial (fun hg73 => by exact Pu_move (.inl rfl) (by conv => lhs; whnf))) rfl ?_
          refine Dr_st (St_gd [73] rfl rfl rfl rfl ⟨⟨_, rfl⟩, trivial⟩ (fun hg74 => Pu_not rfl rfl)) rfl ?_
          refine Dr_p (Pu_or rfl rfl rfl rfl) ?_
          refine Dr_p Pu_mvl ?_
          refine Dr_st (St_gd [] rfl rfl rfl rfl trivial (fun hg77 => Pu_fieldb 3 rfl Try.underlying34 rfl rfl Try.sizeOf29 rfl)) rfl ?_
          refine Dr_st (St_gd [77] rfl rfl rfl rfl ⟨⟨_, rfl⟩, trivial⟩ (fun hg78 => Pu_fieldb 1 rfl Try.underlying29 rfl rfl Try.sizeOf3 rfl)) rfl ?_
          refine Dr_st (St_gd [78] rfl rfl rfl rfl ⟨⟨_, rfl⟩, trivial⟩ (fun hg79 => Pu_loadb rfl Try.isAgg3 rfl rfl rfl)) rfl ?_
          refine Dr_st (St_gd [] rfl rfl rfl rfl trivial (fun hg80 => by exact Pu_move (.inl rfl) (by conv => lhs; whnf))) rfl ?_
          refine Dr_st (St_gd [79, 80] rfl rfl rfl rfl ⟨⟨_, rfl⟩, ⟨_, rfl⟩, trivial⟩ (fun hg81 => Pu_cmp rfl rfl rfl rfl)) rfl ?_
          refine Dr_p (Pu_or rfl rfl rfl rfl) ?_
          refine Dr_p Pu_mvl ?_
          refine Dr_st (St_gd [] rfl rfl rfl rfl trivial (fun hg84 => Pu_fieldb 3 rfl Try.underlying34 rfl rfl Try.sizeOf29 rfl)) rfl ?_
          refine Dr_st (St_gd [84] rfl rfl rfl rfl ⟨⟨_, rfl⟩, trivial⟩ (fun hg85 => Pu_fieldb 0 rfl Try.underlying29 rfl rfl Try.sizeOf3 rfl)) rfl ?_
          refine Dr_st (St_gd [85] rfl rfl rfl rfl ⟨⟨_, rfl⟩, trivial⟩ (fun hg86 => Pu_loadb rfl Try.isAgg3 rfl rfl rfl)) rfl ?_
          refine Dr_st (St_gd [] rfl rfl rfl rfl trivial (fun hg87 => Pu_fieldb 0 rfl Try.underlying29 rfl rfl Try.sizeOf3 rfl)) rfl ?_
          refine Dr_st (St_gd [87] rfl rfl rfl rfl ⟨⟨_, rfl⟩, trivial⟩ (fun hg88 => Pu_loadb rfl Try.isAgg3 rfl rfl rfl)) rfl ?_
          refine Dr_st (St_gd [88] rfl rfl rfl rfl ⟨⟨_, rfl⟩, trivial⟩ (fun hg89 => by exact Pu_add rfl rfl rfl (fun h1 h2 => by simp only [A.inI, A.maxI] at *; omega))) rfl ?_
          refine Dr_st (St_gd [86, 89] rfl rfl rfl rfl ⟨⟨_, rfl⟩, ⟨_, rfl⟩, trivial⟩ (fun hg90 => Pu_cmp rfl rfl rfl rfl)) rfl ?_
          refine Dr_p (Pu_or rfl rfl rfl rfl) ?_
          refine Dr_p Pu_mvl ?_
          refine Dr_st (St_gd [] rfl rfl rfl rfl trivial (fun hg93 => by exact Pu_move (.inl rfl) (by conv => lhs; whnf))) rfl ?_
          refine Dr_st (St_gd [93] rfl rfl rfl rfl ⟨⟨_, rfl⟩, trivial⟩ (fun hg94 => Pu_gcall [(1001, 24, g24), (1002, 240, g24), (1003, 241, g24)] (stClock_g q b) (ST_in ..) rfl ⟨rfl, rfl, rfl, trivial⟩ rfl ⟨Sub.rfl, trivial⟩)) rfl ?_
          refine Dr_st (St_gd [] rfl rfl rfl rfl trivial (fun hg95 => Pu_fieldb 3 rfl Try.underlying34 rfl rfl Try.sizeOf29 rfl)) rfl ?_
          refine Dr_st (St_gd [95] rfl rfl rfl rfl ⟨⟨_, rfl⟩, trivial⟩ (fun hg96 => Pu_loadbN (r := [_, _]) rfl Try.isAgg29 Try.sizeOf29 rfl rfl rfl rfl)) rfl ?_
          refine Dr_st (St_gd [94, 96] rfl rfl rfl rfl ⟨⟨_, rfl⟩, ⟨_, rfl⟩, trivial⟩ (fun hg97 => Pu_eqrow [.int .i64 _, .int .i64 _] [.int .i64 _, .int .i64 _] (fun w => nev29 _ _ _ _ _ _ w) rfl rfl rfl)) rfl ?_
          refine Dr_p (Pu_or rfl rfl rfl rfl) ?_
          refine Dr_nil (Al_nil ?_)
          refine Aw_cond rfl (fun h98 => ?_) (fun h98 => ?_)
          · skip
            exfalso
            rw [e4, e1] at h98
            have e5 : max p.n 0 = p.n := by omega
            simp [PS.writeP, PS.made, hpid, show p.seen [] = (p.n, p.s) from rfl, e5] at h98
          · skip
            refine Aw_skip (Aw_region ?_)
            refine Al_p (Pu_fieldb 3 rfl Try.underlying34 rfl rfl Try.sizeOf29 rfl) ?_
            refine Al_p (Pu_loadbN (r := [_, _]) rfl Try.isAgg29 Try.sizeOf29 rfl rfl rfl rfl) ?_
            refine Al_storeN rfl rfl rfl (by kernel_rfl) Try.isAgg29 Try.sizeOf29 rfl rfl rfl rfl (Nat.le_of_ble_eq_true rfl) ?_
            refine Al_nil (Aw_region ?_)
            refine Al_p Pu_mvl ?_
            refine Al_p (Pu_add rfl rfl rfl (fun h1 h2 => by simp only [A.inI, A.maxI] at *; omega)) ?_
            refine Al_p Pu_mvr ?_
            refine Al_nil ?_
            exact ⟨(k + 1, q), ⟨by omega, by omega, w5, w1, w3.trans hrs, w4.trans hpid, w6, by rw [e1]; show 0 ≤ max p.n 0 + 1; omega, by rw [e1]; show max p.n 0 + 1 ≤ _; omega⟩, by simp only []; omega, Le.ov ⟨Sub.num (by omega), trivial⟩ ⟨Sub.rfl, Sub.rfl, Sub.rfl, Sub.rfl, Sub.rfl, trivial⟩ ⟨rfl, rfl, rfl, by rw [e1]; rfl, trivial⟩ trivial⟩ -- loop 0 next.3
    · refine Ad_one 6 rfl (by kernel_rfl) ?_
      refine Al_gcall [(1001, 24, g24), (1002, 240, g24), (1003, 241, g24)] [] (stWrite_g p b (J.word o.key) o.val false [] (by decide) hp.ok (by omega)) rfl rfl rfl (by decide) (by kernel_rfl) ⟨rfl, rfl, rfl, trivial⟩ rfl ⟨Sub.rfl, Sub.rfl, Sub.rfl, Sub.rfl, Sub.nil, trivial⟩ (fun g49 => ?_)
      refine Al_nil ?_
      refine Ad_take 7 rfl (PuI_move (.inl rfl) (by conv => lhs; whnf)) rfl rfl (by decide) (by kernel_rfl) (by kernel_rfl) (by kernel_rfl) (by kernel_rfl) (fun _ _ h => h) ?_
      refine Ad_take 8 rfl (PuI_extract rfl rfl rfl) rfl rfl (by decide) (by kernel_rfl) (by kernel_rfl) (by kernel_rfl) (by kernel_rfl) (fun _ _ h => h) ?_
      refine Ad_take 9 rfl (PuI_extract rfl rfl rfl) rfl rfl (by decide) (by kernel_rfl) (by kernel_rfl) (by kernel_rfl) (by kernel_rfl) (fun _ _ h => h) ?_
      refine Ad_one 11 rfl (by kernel_rfl) ?_
      refine Al_storeN rfl rfl rfl (by kernel_rfl) Try.isAgg34 Try.sizeOf34 rfl rfl rfl rfl (Nat.le_of_ble_eq_true rfl) ?_
      refine Al_nil ?_
      refine Ad_take 12 rfl (PuI_move (.inr rfl) (by conv => lhs; whnf)) rfl rfl (by decide) (by kernel_rfl) (by kernel_rfl) (by kernel_rfl) (by kernel_rfl) (fun _ _ h => h) ?_
      refine Ad_done (by kernel_rfl) ?_
      refine Aw_seq (Aw_seq (Aw_region ?_))
      refine Al_p Pu_mvl ?_
      refine Al_p (Pu_cmp rfl rfl rfl rfl) ?_
      refine Al_nil ?_
      refine Aw_cond rfl (fun h53 => ?_) (fun h53 => ?_)
      · skip
        have he : ¬ p.writeE (J.word o.key) o.val false [] = 0 := by simpa using h53
        have e1 : p.write (J.word o.key) o.val false [] = p := by unfold PS.write; rw [if_neg he]
        rw [e1]
        refine Aw_seq (Aw_seq (Aw_region ?_))
        refine Al_p (Pu_loadbN (r := [_, _, _, _, _, _, _]) rfl Try.isAgg32 Try.sizeOf32 rfl rfl rfl rfl) ?_
        refine Al_p (Pu_call (tvalue_a o) rfl ⟨Sub.rfl, trivial⟩) ?_
        refine Al_p (Pu_lenS rfl Try.underlying9 rfl) ?_
        refine Al_p (Pu_cmp rfl rfl rfl rfl) ?_
        refine Al_nil ?_
        refine Aw_cond rfl (fun h57 => ?_) (fun h57 => ?_)
        · (try simp only [decide_eq_true_eq, decide_eq_false_iff_not, Bool.and_eq_true, Bool.or_eq_true, Bool.and_eq_false_iff, Bool.or_eq_false_iff, Bool.not_eq_true', Bool.not_eq_false', beq_iff_eq, Bool.not_eq_eq_eq_not, Bool.not_true, Bool.not_false, List.length_map, Bool.and_true, Bool.and_false, Bool.false_and, Bool.true_and, Bool.or_false, Bool.false_or] at h57)
          exfalso
          rw [hshort, if_pos h57] at he
          exact he rfl
        · (try simp only [decide_eq_true_eq, decide_eq_false_iff_not, Bool.and_eq_true, Bool.or_eq_true, Bool.and_eq_false_iff, Bool.or_eq_false_iff, Bool.not_eq_true', Bool.not_eq_false', beq_iff_eq, Bool.not_eq_eq_eq_not, Bool.not_true, Bool.not_false, List.length_map, Bool.and_true, Bool.and_false, Bool.false_and, Bool.true_and, Bool.or_false, Bool.false_or] at h57)
          refine Aw_skip (Aw_exit (Aw_region ?_))
          refine Al_p Pu_mvl ?_
          refine Al_p (Pu_add rfl rfl rfl (fun h1 h2 => by simp only [A.inI, A.maxI] at *; omega)) ?_
          refine Al_p Pu_mvr ?_
          refine Al_nil ?_
          exact ⟨(k + 1, p), ⟨by omega, by omega, hp.mono (by omega), ht, hrs, hpid, hkey, hn0, by omega⟩, by simp only []; omega, Le.ov ⟨Sub.num (by omega), trivial⟩ ⟨Sub.rfl, Sub.rfl, Sub.rfl, Sub.rfl, Sub.rfl, trivial⟩ ⟨rfl, rfl, rfl, rfl, trivial⟩ trivial⟩ -- loop 0 next.4
      · skip
        have he : p.writeE (J.word o.key) o.val false [] = 0 := by simpa using h53
        have hrd := hwr he
        have e1 : p.write (J.word o.key) o.val false [] = p.writeP (J.word o.key) o.val false [] := by unfold PS.write; rw [if_pos he]
        have e3 : p.writeV (J.word o.key) o.val false [] = p.made (J.word o.key) o.val false [] := by unfold PS.writeV; rw [if_pos he]
        have e4 : (p.made (J.word o.key) o.val false []).n = p.n + 1 := by show max p.n 0 + 1 = _; omega
        rw [e3]
        obtain ⟨q, hqe⟩ : ∃ q, q = p.write (J.word o.key) o.val false [] := ⟨_, rfl⟩
        rw [← hqe] at w1 w2 w3 w4 w5 w6 e1 hrd
        rw [← hqe]
        refine Aw_skip (Aw_seq (Aw_region ?_))
        refine Al_p Pu_mvl ?_
        refine Al_p (Pu_fieldb 1 rfl Try.underlying32 rfl rfl Try.sizeOf3 rfl) ?_
        refine Al_p (Pu_loadb rfl Try.isAgg3 rfl rfl rfl) ?_
        refine Al_p (Pu_call (tword_a o.key) rfl ⟨Sub.rfl, trivial⟩) ?_
        refine Al_p (Pu_gcall [(1001, 24, g24), (1002, 240, g24), (1003, 241, g24)] (stRead_g q b (J.word o.key) w5.ok (by omega)) (ST_in ..) rfl ⟨rfl, rfl, rfl, trivial⟩ rfl ⟨Sub.rfl, Sub.rfl, trivial⟩) ?_
        refine Al_p Pu_mvl ?_
        refine Al_p (Pu_extract rfl rfl rfl) ?_
        refine Al_p (Pu_extract rfl rfl rfl) ?_
        refine Al_p (Pu_extract rfl rfl rfl) ?_
        refine Al_alloc rfl rfl rfl (by decide) Try.zeroValue34 rfl (by kernel_rfl) (fun g13 => ?_)
        refine Al_storeN rfl rfl rfl (by kernel_rfl) Try.isAgg34 Try.sizeOf34 rfl rfl rfl rfl (Nat.le_of_ble_eq_true rfl) ?_
        refine Al_p Pu_mvr ?_
        refine Al_p Pu_mvr ?_
        refine Al_nil (Aw_seq ?_)
        rw [hrd]
        refine Aw_region ?_
        refine Al_p (Pu_loadbN (r := [_, _, _, _, _, _]) rfl Try.isAgg34 Try.sizeOf34 rfl rfl rfl rfl) ?_
        refine Al_p (Pu_loadbN (r := [_, _, _, _, _, _]) rfl Try.isAgg34 Try.sizeOf34 rfl rfl rfl rfl) ?_
        refine Al_p (Pu_call (rvsame_a (p.made (J.word o.key) o.val false []) (p.made (J.word o.key) o.val false [])) rfl ⟨Sub.rfl, Sub.rfl, trivial⟩) ?_
        refine Al_p Pu_mvr ?_
        refine Al_nil (Aw_seq (Aw_seq ?_))
        refine Aw_draw 29 (by kernel_rfl) (by kernel_rfl) ?_
        refine Dr_p Pu_mvl ?_
        refine Dr_p (Pu_not rfl rfl) ?_
        refine Dr_p Pu_mvl ?_
        refine Dr_st (St_gd [] rfl rfl rfl rfl trivial (fun hg73 => by exact Pu_move (.inl rfl) (by conv => lhs; whnf))) rfl ?_
        refine Dr_st (St_gd [73] rfl rfl rfl rfl ⟨⟨_, rfl⟩, trivial⟩ (fun hg74 => Pu_not rfl rfl)) rfl ?_
        refine Dr_p (Pu_or rfl rfl rfl rfl) ?_
        refine Dr_p Pu_mvl ?_
        refine Dr_st (St_gd [] rfl rfl rfl rfl trivial (fun hg77 => Pu_fieldb 3 rfl Try.underlying34 rfl rfl Try.sizeOf29 rfl)) rfl ?_
        refine Dr_st (St_gd [77] rfl rfl rfl rfl ⟨⟨_, rfl⟩, trivial⟩ (fun hg78 => Pu_fieldb 1 rfl Try.underlying29 rfl rfl Try.sizeOf3 rfl)) rfl ?_
        refine Dr_st (St_gd [78] rfl rfl rfl rfl ⟨⟨_, rfl⟩, trivial⟩ (fun hg79 => Pu_loadb rfl Try.isAgg3 rfl rfl rfl)) rfl ?_
        refine Dr_st (St_gd [] rfl rfl rfl rfl trivial (fun hg80 => by exact Pu_move (.inl rfl) (by conv => lhs; whnf))) rfl ?_
        refine Dr_st (St_gd [79, 80] rfl rfl rfl rfl ⟨⟨_, rfl⟩, ⟨_, rfl⟩, trivial⟩ (fun hg81 => Pu_cmp rfl rfl rfl rfl)) rfl ?_
        refine Dr_p (Pu_or rfl rfl rfl rfl) ?_
        refine Dr_p Pu_mvl ?_
        refine Dr_st (St_gd [] rfl rfl rfl rfl trivial (fun hg84 => Pu_fieldb 3 rfl Try.underlying34 rfl rfl Try.sizeOf29 rfl)) rfl ?_
        refine Dr_st (St_gd [84] rfl rfl rfl rfl ⟨⟨_, rfl⟩, trivial⟩ (fun hg85 => Pu_fieldb 0 rfl Try.underlying29 rfl rfl Try.sizeOf3 rfl)) rfl ?_
        refine Dr_st (St_gd [85] rfl rfl rfl rfl ⟨⟨_, rfl⟩, trivial⟩ (fun hg86 => Pu_loadb rfl Try.isAgg3 rfl rfl rfl)) rfl ?_
        refine Dr_st (St_gd [] rfl rfl rfl rfl trivial (fun hg87 => Pu_fieldb 0 rfl Try.underlying29 rfl rfl Try.sizeOf3 rfl)) rfl ?_
        refine Dr_st (St_gd [87] rfl rfl rfl rfl ⟨⟨_, rfl⟩, trivial⟩ (fun hg88 => Pu_loadb rfl Try.isAgg3 rfl rfl rfl)) rfl ?_
        refine Dr_st (St_gd [88] rfl rfl rfl rfl ⟨⟨_, rfl⟩, trivial⟩ (fun hg89 => by exact Pu_add rfl rfl rfl (fun h1 h2 => by simp only [A.inI, A.maxI] at *; omega))) rfl ?_
        refine Dr_st (St_gd [86, 89] rfl rfl rfl rfl ⟨⟨_, rfl⟩, ⟨_, rfl⟩, trivial⟩ (fun hg90 => Pu_cmp rfl rfl rfl rfl)) rfl ?_
        refine Dr_p (Pu_or rfl rfl rfl rfl) ?_
        refine Dr_p Pu_mvl ?_
        refine Dr_st (St_gd [] rfl rfl rfl rfl trivial (fun hg93 => by exact Pu_move (.inl rfl) (by conv => lhs; whnf))) rfl ?_
        refine Dr_st (St_gd [93] rfl rfl rfl rfl ⟨⟨_, rfl⟩, trivial⟩ (fun hg94 => Pu_gcall [(1001, 24, g24), (1002, 240, g24), (1003, 241, g24)] (stClock_g q b) (ST_in ..) rfl ⟨rfl, rfl, rfl, trivial⟩ rfl ⟨Sub.rfl, trivial⟩)) rfl ?_
        refine Dr_st (St_gd [] rfl rfl rfl rfl trivial (fun hg95 => Pu_fieldb 3 rfl Try.underlying34 rfl rfl Try.sizeOf29 rfl)) rfl ?_
        refine Dr_st (St_gd [95] rfl rfl rfl rfl ⟨⟨_, rfl⟩, trivial⟩ (fun hg96 => Pu_loadbN (r := [_, _]) rfl Try.isAgg29 Try.sizeOf29 rfl rfl rfl rfl)) rfl ?_
        refine Dr_st (St_gd [94, 96] rfl rfl rfl rfl ⟨⟨_, rfl⟩, ⟨_, rfl⟩, trivial⟩ (fun hg97 => Pu_eqrow [.int .i64 _, .int .i64 _] [.int .i64 _, .int .i64 _] (fun w => nev29 _ _ _ _ _ _ w) rfl rfl rfl)) rfl ?_
        refine Dr_p (Pu_or rfl rfl rfl rfl) ?_
        refine Dr_nil (Al_nil ?_)
        refine Aw_cond rfl (fun h98 => ?_) (fun h98 => ?_)
        · skip
          exfalso
          rw [e4, e1] at h98
          have e5 : max p.n 0 = p.n := by omega
          simp [PS.writeP, PS.made, hpid, show p.seen [] = (p.n, p.s) from rfl, e5] at h98
        · skip
          refine Aw_skip (Aw_region ?_)
          refine Al_p (Pu_fieldb 3 rfl Try.underlying34 rfl rfl Try.sizeOf29 rfl) ?_
          refine Al_p (Pu_loadbN (r := [_, _]) rfl Try.isAgg29 Try.sizeOf29 rfl rfl rfl rfl) ?_
          refine Al_storeN rfl rfl rfl (by kernel_rfl) Try.isAgg29 Try.sizeOf29 rfl rfl rfl rfl (Nat.le_of_ble_eq_true rfl) ?_
          refine Al_nil (Aw_region ?_)
          refine Al_p Pu_mvl ?_
          refine Al_p (Pu_add rfl rfl rfl (fun h1 h2 => by simp only [A.inI, A.maxI] at *; omega)) ?_
          refine Al_p Pu_mvr ?_
          refine Al_nil ?_
          exact ⟨(k + 1, q), ⟨by omega, by omega, w5, w1, w3.trans hrs, w4.trans hpid, w6, by rw [e1]; show 0 ≤ max p.n 0 + 1; omega, by rw [e1]; show max p.n 0 + 1 ≤ _; omega⟩, by simp only []; omega, Le.ov ⟨Sub.num (by omega), trivial⟩ ⟨Sub.rfl, Sub.rfl, Sub.rfl, Sub.rfl, Sub.rfl, trivial⟩ ⟨rfl, rfl, rfl, by rw [e1]; rfl, trivial⟩ trivial⟩ -- loop 0 next.5
  · (try simp only [decide_eq_true_eq, decide_eq_false_iff_not, Bool.and_eq_true, Bool.or_eq_true, Bool.and_eq_false_iff, Bool.or_eq_false_iff, Bool.not_eq_true', Bool.not_eq_false', beq_iff_eq, Bool.not_eq_eq_eq_not, Bool.not_true, Bool.not_false, List.length_map, Bool.and_true, Bool.and_false, Bool.false_and, Bool.true_and, Bool.or_false, Bool.false_or] at h35)
    refine Aw_exit (Aw_seq (Aw_region ?_))
    refine Al_p Pu_mvl ?_
    refine Al_p Pu_mvr ?_
    refine Al_nil ?_
    refine Aw_ret ?_
    exact Sub.rfl -- ret 0
end Go.Proofs.Ytmbaeloiepjakaa
end
section
namespace Go.Proofs.Ytmbaeloiepjakaa
open Go.ChangeShapes Go.WideShapes Go.ChangeAt Go.RowKit A
open Go.ChangeMaps (open_string shut_string)
theorem siteWrites_law.own : ownKnob Try.prog.godebug = none := by kernel_rfl
theorem siteWrites_law.laidOut : laidOutB Try.prog = true := by kernel_rfl
set_option maxRecDepth 100000 in
theorem siteWrites_law.lifted (os : Os) (started : os.Started) (H : Type) (enc : TypeId × Value → H) :
    ReturnsInHanded {} Try.checked os 3 .any (Rows.siteWritesSpec.pre6 enc Try.prog Try.f3 Rows.siteWritesRow.domain false) (Rows.siteWritesSpec.post enc Try.prog Try.f3 false true false false) := by
  refine returnsInHanded_of_change (C := Try.checked) siteWrites_law.own started (by kernel_rfl) Try.func3
    (ChangeSpec.witness6 (enc := enc) (C := Try.checked) false ⟨#[], #[.int .i64 0, .slice none 0 0], []⟩ 8 (by kernel_rfl) (by kernel_rfl) (by kernel_rfl) (by kernel_rfl)) ?_
  intro W base args ds gs before hval0 hW hcnd _
  have hval : ∀ (j : Nat) t v, Try.f3.params[j]? = some t → args[j]? = some v → Value.okWide Try.prog W .any base t v := hval0
  have hW' := hW
  obtain ⟨p, q, hA0, hV, rfl, hfz, hnd⟩ := hW
  have hA : DataW.TrodAll enc Try.prog W 0 (fun _ => true) true Try.f3.params.toList args.toList ds p := hA0
  rw [Try.params3] at hA hval
  obtain ⟨v0, vs0, d0, ds0, p0, q0, hargs, rfl, rfl, h0, r0⟩ := trodAll_cons hA
  obtain ⟨v1, vs1, d1, ds1, p1, q1, rfl, rfl, rfl, h1, r1⟩ := trodAll_cons r0
  obtain ⟨rfl, rfl, rfl⟩ := trodAll_nil r1
  obtain rfl : args = #[v0, v1] := by cases args; simp_all
  obtain ⟨rfl, rfl⟩ := trodVars_none hV
  have k0 := h0
  have lt0 : ∀ x ∈ p0, x.block < W.heap.size := by obtain ⟨m, hm⟩ := k0; exact DataW.trod_lt m _ _ _ hm
  have ok0 := hval 0 3 v0 rfl rfl
  have k1 := h1
  have lt1 : ∀ x ∈ p1, x.block < W.heap.size := by obtain ⟨m, hm⟩ := k1; exact DataW.trod_lt m _ _ _ hm
  have ok1 := hval 1 22 v1 rfl rfl
  clear hA0 hval0
  obtain ⟨z, hz⟩ := A.open_i64 Try.underlying3 ok0 h0
  obtain ⟨l, hl⟩ := open_tops ok1 h1 
  refine (A.law (sitewrites_law z l) (A.allcons hz (A.allcons hl A.allnil))).mono fun e W' ⟨he, bel⟩ => ?_
  subst he
  exact ⟨_, rfl, _, _, _, [], _, [], hW', trodAll_mk1 (shut_bool Try.underlying4 _), (trodAll_cons_mk (Below.trod siteWrites_law.laidOut (by kernel_rfl) (of_decide_eq_true (by kernel_rfl)) k0 bel lt0) (trodAll_cons_mk (Below.trod siteWrites_law.laidOut (by kernel_rfl) (of_decide_eq_true (by kernel_rfl)) k1 bel lt1) trodAll_mk0)), rfl, bel.frame _, fun h => by cases h⟩
theorem siteWrites_holds : Rows.SiteWritesSaid :=
  OpenClaim.holds_of_wide 3 Try.f3 rfl rfl rfl rfl rfl rfl rfl ⟨rfl, rfl, rfl, rfl, rfl⟩ rfl rfl rfl rfl rfl (by kernel_rfl) Try.func3 (by kernel_rfl)
    (of_decide_eq_true (by kernel_rfl)) (by unfold Func.isWrapper; first | (rw [if_pos (by decide +kernel)]; kernel_rfl) | (rw [if_neg (by decide +kernel)]; exact ⟨rfl, rfl⟩))
    (fun os started H enc _ => siteWrites_law.lifted os started H enc)
end Go.Proofs.Ytmbaeloiepjakaa
end
namespace Go.Proofs.Ytmbaeloiepjakaa
#print axioms siteWrites_holds
end Go.Proofs.Ytmbaeloiepjakaa
