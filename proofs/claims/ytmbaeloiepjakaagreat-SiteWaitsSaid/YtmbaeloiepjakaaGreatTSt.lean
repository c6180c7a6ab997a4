/- site: New, Own, Clock, Waiting, Have, Chain, Write, Arrive, Step, Read, Clean, Move, over a plain site. -/
import Derived.Test.YtmbaeloiepjakaaGreatQLa
import Derived.Test.YtmbaeloiepjakaaGreatJLf
set_option linter.unusedSimpArgs false
set_option linter.unusedVariables false
set_option maxRecDepth 100000
namespace Go.Proofs.YtmbaeloiepjakaaGreat
open Go.RowKit A R
open A.RowT
set_option maxRecDepth 100000 in
theorem containsV_a (l : List Ver) (f : FuncId) (caps : List AV) (p : Ver → Bool) (hf : ∀ x, ACall Tryz.prog f ([.row x.row] ++ caps) (bv (p x))) : ACall Tryz.prog 81 [.sl 6 (l.map Ver.row), .fn f caps] (bv (l.any p)) := by
  refine ACall_enter (fun _ _ => by kernel_rfl) Tryz.func81 rfl Tryz.ntmps81 Tryz.results81 (Nat.le_of_ble_eq_true rfl) (fun hok M0 w0 hnl => ?_)
  refine Aw_seq (Aw_region ?_)
  refine Al_p Pu_mvr ?_
  refine Al_nil (Aw_seq (Aw_region ?_))
  refine Al_p Pu_mvl ?_
  refine Al_p Pu_mvl ?_
  refine Al_p (Pu_call (indexV_a l f caps p hf) rfl ⟨Sub.rfl, Sub.rfl, trivial⟩) ?_
  refine Al_p (Pu_cmp rfl rfl rfl rfl) ?_
  refine Al_p Pu_mvr ?_
  refine Al_nil ?_
  refine Aw_ret ?_
  exact Sub.bool S.find_any -- ret 0
structure PS where
  id : Int
  wait : List Ver
  n : Int
  s : Int
  rs : List Rng
  cs : SC
/-- A site: its shard, its number, what waits, its clock. -/
abbrev ST (p : PS) (b : Nat) : Obs := [(1001, .box 84 [.bx 1002 0 0, .d (iv p.id), .d (versA p.wait), .d (iv p.n), .d (iv p.s)]), (1002, .box 115 [.d (rngA p.rs), .ow 1003 0]), (1003, mapV b p.cs)]
theorem SH_in (rs : List Rng) (cs : SC) (b : Nat) : ObsIn [1001, 1002] (SH rs cs b) := ⟨rfl, fun _ _ _ _ _ h => h, trivial⟩
theorem ST_in (p : PS) (b : Nat) : ObsIn [1001, 1002, 1003] (ST p b) := ⟨rfl, rfl, fun _ _ _ _ _ h => h, trivial⟩
/-- The greater one of two stamps. -/
def mx (a b : Int × Int) : Int × Int := D.maxS [a, b]
namespace J
def nextE (n : Int) : Int := if 1099511627776 ≤ n then 18 else 0
def nextR (n k : Int) : Int × Int := if 1099511627776 ≤ n then (0, 0) else (max n 0 + 1, k)
theorem have_srt {cs : SC} (h : RiseC cs) : D.Srt (have' cs) := by
  unfold have' D.Srt
  rw [List.pairwise_map]
  exact h
theorem hav_len (cs : SC) : (have' cs).length = cs.length := by unfold have' keysC; simp
theorem past_len {v : Ver} (h : checkB v = true) : v.past.length ≤ 24 := by
  unfold checkB at h
  simp only [Bool.and_eq_true] at h
  exact (past_good h.2.2.1).2
end J
namespace PS
structure Ok (p : PS) (m : Nat) : Prop where
  rise : J.RiseC p.cs
  sm : J.Sm m p.cs
  wl : p.wait.length ≤ 24
  wp : ∀ v ∈ p.wait, J.checkB v = true
  rl : p.rs.length ≤ 1000000
  id : 0 ≤ p.id ∧ p.id < 6
theorem Ok.mono {p : PS} {m m' : Nat} (h : p.Ok m) (hm : m ≤ m') : p.Ok m' := ⟨h.rise, h.sm.mono hm, h.wl, h.wp, h.rl, h.id⟩
def seen (p : PS) (past : List Dep) : Int × Int := past.foldl (fun x d => mx x (d.n, d.s)) (p.n, p.s)
def made (p : PS) (key value : ByteArray) (gone : Bool) (past : List Dep) : Ver := ⟨key, value, gone, max (p.seen past).1 0 + 1, p.id, past⟩
/-- What a write answers. -/
def writeE (p : PS) (key value : ByteArray) (gone : Bool) (past : List Dep) : Int :=
  if findR p.rs key < 0 then 14 else if 1099511627776 ≤ (p.seen past).1 then 18 else if J.checkB (p.made key value gone past) then 0 else 1
def writeP (p : PS) (key value : ByteArray) (gone : Bool) (past : List Dep) : PS :=
  { p with cs := (J.sput p.rs p.cs (p.made key value gone past)).1, n := max (p.seen past).1 0 + 1, s := p.id }
def write (p : PS) (key value : ByteArray) (gone : Bool) (past : List Dep) : PS := if p.writeE key value gone past = 0 then p.writeP key value gone past else p
def writeV (p : PS) (key value : ByteArray) (gone : Bool) (past : List Dep) : Ver := if p.writeE key value gone past = 0 then p.made key value gone past else default
def isW (v w : Ver) : Bool := (w.key.toList == v.key.toList) && ((w.n == v.n) && (w.s == v.s))
def there (p : PS) (v : Ver) : Bool := (J.sat p.cs v.key v.n v.s).isSome || p.wait.any (isW v)
def arriveE (p : PS) (v : Ver) : Int :=
  if J.checkB v = false then 1 else if findR p.rs v.key < 0 then 0 else if p.there v then 13 else J.pushE p.wait v
def clockP (p : PS) (v : Ver) : PS := { p with n := (mx (p.n, p.s) (v.n, v.s)).1, s := (mx (p.n, p.s) (v.n, v.s)).2 }
def arrive (p : PS) (v : Ver) : PS := if p.arriveE v = 0 then (if findR p.rs v.key < 0 then p else { p with wait := p.wait ++ [v] }).clockP v else p
def stepV (p : PS) : Option Ver := J.nextV p.wait (J.have' p.cs) p.rs
def step (p : PS) : PS := match p.stepV with
  | some v => { p with wait := J.nextL p.wait (J.have' p.cs) p.rs, cs := (J.sput p.rs p.cs v).1 }
  | none => p
def readE (p : PS) (key : ByteArray) : Int := if findR p.rs key < 0 then 14 else 0
def readV (p : PS) (key : ByteArray) : Option Ver := if findR p.rs key < 0 then none else J.shead p.cs key
def clean (p : PS) (n s : Int) (pins : List Dep) : PS := { p with cs := J.sclean p.cs n s pins }
def take1 (p : PS) (v : Ver) : PS := ({ p with cs := (J.sput p.rs p.cs v).1 } : PS).clockP v
def moved (p : PS) (rs : List Rng) : PS := { p with rs := rs, cs := J.smove p.cs rs, wait := J.dropW p.wait rs }
def move (p : PS) (rs : List Rng) (l : List Ver) : PS := l.foldl take1 (p.moved rs)
end PS
/-- A zero site. -/
def PS.zero (k : Int) (rs : List Rng) : PS := ⟨k, [], 0, 0, rs, []⟩
theorem snextG_a (n s k : Int) (hk : 0 ≤ k ∧ k < 6) : ACall Tryz.prog 54 [.row [iv n, iv s], iv k] (.tup [.row [iv (J.nextR n k).1, iv (J.nextR n k).2], iv (J.nextE n)]) := by
  refine ACall_enterG (fun _ _ => by kernel_rfl) Tryz.func54 rfl Tryz.ntmps54 (Reads.cN1 Tryz.results54 Tryz.isAgg31 Tryz.sizeOf31) (Nat.le_of_ble_eq_true rfl) (fun hok M0 w0 hnl => ?_)
  refine Aw_seq (Aw_region ?_)
  refine Al_p (Pu_boxN rfl rfl) ?_
  refine Al_alloc rfl rfl rfl (by decide) Tryz.zeroValue31 rfl (by kernel_rfl) (fun g4 => ?_)
  refine Al_p Pu_mvr ?_
  refine Al_nil (Aw_seq (Aw_block (Aw_seq (Aw_region ?_))))
  refine Al_p Pu_mvl ?_
  refine Al_p (Pu_cmp rfl rfl rfl rfl) ?_
  refine Al_p Pu_mvl ?_
  refine Al_st (St_gd [] rfl rfl rfl rfl trivial (fun hg10 => by exact Pu_move (.inl rfl) (by conv => lhs; whnf))) rfl (by decide) (by kernel_rfl) (by intro j b oj dj h1 h2 h3; cases h1; cases h2; cases h3; decide) ?_
  refine Al_st (St_gd [10] rfl rfl rfl rfl ⟨⟨_, rfl⟩, trivial⟩ (fun hg11 => Pu_cmp rfl rfl rfl rfl)) rfl (by decide) (by kernel_rfl) (by intro j b oj dj h1 h2 h3; cases h1; cases h2; cases h3; decide) ?_
  refine Al_p (Pu_or rfl rfl rfl rfl) ?_
  refine Al_p Pu_mvr ?_
  refine Al_nil ?_
  refine Aw_cond rfl (fun h6 => ?_) (fun h6 => ?_)
  · (try simp only [decide_eq_true_eq, decide_eq_false_iff_not, Bool.and_eq_true, Bool.or_eq_true, Bool.and_eq_false_iff, Bool.or_eq_false_iff, Bool.not_eq_true', Bool.not_eq_false', beq_iff_eq, Bool.not_eq_eq_eq_not, Bool.not_true, Bool.not_false, List.length_map, Bool.and_true, Bool.and_false, Bool.false_and, Bool.true_and, Bool.or_false, Bool.false_or] at h6)
    exfalso
    omega
  · (try simp only [decide_eq_true_eq, decide_eq_false_iff_not, Bool.and_eq_true, Bool.or_eq_true, Bool.and_eq_false_iff, Bool.or_eq_false_iff, Bool.not_eq_true', Bool.not_eq_false', beq_iff_eq, Bool.not_eq_eq_eq_not, Bool.not_true, Bool.not_false, List.length_map, Bool.and_true, Bool.and_false, Bool.false_and, Bool.true_and, Bool.or_false, Bool.false_or] at h6)
    refine Aw_seq (Aw_region ?_)
    refine Al_p (Pu_field 0 rfl Tryz.underlying31 rfl rfl Tryz.sizeOf3 rfl) ?_
    refine Al_p (Pu_load1 rfl Tryz.isAgg3 rfl rfl) ?_
    refine Al_p (Pu_cmp rfl rfl rfl rfl) ?_
    refine Al_p Pu_mvr ?_
    refine Al_nil ?_
    refine Aw_cond rfl (fun h14 => ?_) (fun h14 => ?_)
    · (try simp only [decide_eq_true_eq, decide_eq_false_iff_not, Bool.and_eq_true, Bool.or_eq_true, Bool.and_eq_false_iff, Bool.or_eq_false_iff, Bool.not_eq_true', Bool.not_eq_false', beq_iff_eq, Bool.not_eq_eq_eq_not, Bool.not_true, Bool.not_false, List.length_map, Bool.and_true, Bool.and_false, Bool.false_and, Bool.true_and, Bool.or_false, Bool.false_or] at h14)
      have e1 : J.nextE n = 18 := by unfold J.nextE; rw [if_pos h14]
      have e2 : J.nextR n k = (0, 0) := by unfold J.nextR; rw [if_pos h14]
      refine Aw_seq (Aw_region ?_)
      refine Al_p (Pu_build (aa := []) rfl Tryz.underlying31 Tryz.zeroValue31 (places31 Tryz.underlying31) (by kernel_rfl) trivial rfl) ?_
      refine Al_storeN rfl rfl rfl (by kernel_rfl) Tryz.isAgg31 Tryz.sizeOf31 rfl rfl rfl rfl (Nat.le_of_ble_eq_true rfl) ?_
      refine Al_p Pu_mvr ?_
      refine Al_nil ?_
      refine Aw_ret ?_
      exact ⟨_, _, _, _, _, [_, _], _, rfl, rfl, rfl, rfl, Sub.rfl, by rw [e1, e2]⟩ -- ret 0
    · (try simp only [decide_eq_true_eq, decide_eq_false_iff_not, Bool.and_eq_true, Bool.or_eq_true, Bool.and_eq_false_iff, Bool.or_eq_false_iff, Bool.not_eq_true', Bool.not_eq_false', beq_iff_eq, Bool.not_eq_eq_eq_not, Bool.not_true, Bool.not_false, List.length_map, Bool.and_true, Bool.and_false, Bool.false_and, Bool.true_and, Bool.or_false, Bool.false_or] at h14)
      have e1 : J.nextE n = 0 := by unfold J.nextE; rw [if_neg h14]
      have e2 : J.nextR n k = (max n 0 + 1, k) := by unfold J.nextR; rw [if_neg h14]
      refine Aw_skip (Aw_seq (Aw_region ?_))
      refine Al_p (Pu_field 0 rfl Tryz.underlying31 rfl rfl Tryz.sizeOf3 rfl) ?_
      refine Al_p (Pu_load1 rfl Tryz.isAgg3 rfl rfl) ?_
      refine Al_p (Pu_max2 (c := max n 0) rfl rfl rfl (by rw [Int.max_def]; split <;> split <;> omega)) ?_
      refine Al_p (Pu_add rfl rfl rfl (fun h1 h2 => by simp only [A.inI, A.maxI] at *; omega)) ?_
      refine Al_p Pu_mvl ?_
      refine Al_p (Pu_build (aa := [(0, _), (1, _)]) rfl Tryz.underlying31 Tryz.zeroValue31 (places31 Tryz.underlying31) (by kernel_rfl) ⟨rfl, rfl, rfl, rfl, rfl, rfl, trivial⟩ rfl) ?_
      refine Al_storeN rfl rfl rfl (by kernel_rfl) Tryz.isAgg31 Tryz.sizeOf31 rfl rfl rfl rfl (Nat.le_of_ble_eq_true rfl) ?_
      refine Al_p Pu_mvr ?_
      refine Al_nil ?_
      refine Aw_ret ?_
      exact ⟨_, _, _, _, _, [_, _], _, rfl, rfl, rfl, rfl, Sub.rfl, by rw [e1, e2]⟩ -- ret 1
theorem kput_g (rs : List Rng) (cs : SC) (b : Nat) (v : Ver) (hrl : rs.length ≤ 1000000) (hr : J.RiseC cs) (hs : J.Sm 1000 cs) : GCall Tryz.prog 51 [.ag [.bx 1001 0 0], .d (.row v.row)] (SH rs cs b) (some (SH rs (J.sput rs cs v).1 b, .d (bv (J.sput rs cs v).2))) := by
  refine GCall_enterL (fun _ _ => by kernel_rfl) Tryz.func51 rfl Tryz.ntmps51 (ReadsS.r1 Tryz.results51) (Nat.le_of_ble_eq_true rfl) (fun hok hokB M0 w0 hl => ?_)
  refine Aw_seq (Aw_region ?_)
  refine Al_boxAg rfl rfl rfl (by decide) (by kernel_rfl) rfl (fun g2 => ?_)
  refine Al_p (Pu_boxN rfl rfl) ?_
  refine Al_p Pu_mvr ?_
  refine Al_nil (Aw_seq (Aw_region ?_))
  refine Al_p (Pu_fieldb 0 rfl Tryz.underlying82 rfl rfl Tryz.sizeOf79 rfl) ?_
  refine Al_p (Pu_loadb rfl Tryz.isAgg79 rfl rfl rfl) ?_
  refine Al_p (Pu_loadN rfl Tryz.isAgg34 Tryz.sizeOf34 rfl (Nat.le_of_ble_eq_true rfl)) ?_
  refine Al_gcall [(1001, 1001, 0), (1002, 1002, 0)] [] (sput_g rs cs b v hrl hr hs) rfl rfl rfl (by decide) (by kernel_rfl) ⟨rfl, rfl, trivial⟩ rfl ⟨Sub.rfl, Sub.rfl, trivial⟩ (fun g8 => ?_)
  refine Al_p Pu_mvr ?_
  refine Al_nil ?_
  refine Aw_ret ?_
  exact ⟨_, _, [], rfl, Sub.rfl, ⟨rfl, rfl, trivial⟩, rfl⟩ -- ret 0
theorem khead_g (rs : List Rng) (cs : SC) (b : Nat) (key : ByteArray) (hs : J.Sm 1000 cs) : GCall Tryz.prog 53 [.ag [.bx 1001 0 0], .d (tv key)] (SH rs cs b) (some (SH rs cs b, .d (verA (J.shead cs key)))) := by
  refine GCall_enterL (fun _ _ => by kernel_rfl) Tryz.func53 rfl Tryz.ntmps53 (ReadsS.cN1 Tryz.results53 Tryz.isAgg34 Tryz.sizeOf34) (Nat.le_of_ble_eq_true rfl) (fun hok hokB M0 w0 hl => ?_)
  refine Aw_seq (Aw_region ?_)
  refine Al_boxAg rfl rfl rfl (by decide) (by kernel_rfl) rfl (fun g2 => ?_)
  refine Al_alloc rfl rfl rfl (by decide) Tryz.zeroValue34 rfl (by kernel_rfl) (fun g4 => ?_)
  refine Al_p Pu_mvr ?_
  refine Al_nil (Aw_seq (Aw_region ?_))
  refine Al_p (Pu_fieldb 0 rfl Tryz.underlying82 rfl rfl Tryz.sizeOf79 rfl) ?_
  refine Al_p (Pu_loadb rfl Tryz.isAgg79 rfl rfl rfl) ?_
  refine Al_p Pu_mvl ?_
  refine Al_p (Pu_gcall [(1001, 1001, 0), (1002, 1002, 0)] (shead_g rs cs b key hs) (SH_in ..) rfl ⟨rfl, rfl, trivial⟩ rfl ⟨Sub.rfl, Sub.rfl, trivial⟩) ?_
  refine Al_p (Pu_extract rfl rfl rfl) ?_
  refine Al_p (Pu_extract rfl rfl rfl) ?_
  refine Al_storeN rfl rfl rfl (by kernel_rfl) Tryz.isAgg34 Tryz.sizeOf34 rfl rfl rfl rfl (Nat.le_of_ble_eq_true rfl) ?_
  refine Al_p Pu_mvr ?_
  refine Al_nil ?_
  refine Aw_ret ?_
  exact ⟨_, _, [], rfl, ⟨_, rfl, _, _, _, _, _, [_, _, _, _, _, _], _, rfl, rfl, rfl, rfl, Sub.rfl, rfl⟩, ⟨rfl, rfl, trivial⟩, rfl⟩ -- ret 0
theorem kat_g (rs : List Rng) (cs : SC) (b : Nat) (key : ByteArray) (n s : Int) (hs : J.Sm 1000 cs) : GCall Tryz.prog 80 [.ag [.bx 1001 0 0], .d (tv key), .d (.row [iv n, iv s])] (SH rs cs b) (some (SH rs cs b, .d (verA (J.sat cs key n s)))) := by
  refine GCall_enterL (fun _ _ => by kernel_rfl) Tryz.func80 rfl Tryz.ntmps80 (ReadsS.cN1 Tryz.results80 Tryz.isAgg34 Tryz.sizeOf34) (Nat.le_of_ble_eq_true rfl) (fun hok hokB M0 w0 hl => ?_)
  refine Aw_seq (Aw_region ?_)
  refine Al_boxAg rfl rfl rfl (by decide) (by kernel_rfl) rfl (fun g3 => ?_)
  refine Al_p (Pu_boxN rfl rfl) ?_
  refine Al_alloc rfl rfl rfl (by decide) Tryz.zeroValue34 rfl (by kernel_rfl) (fun g6 => ?_)
  refine Al_p Pu_mvr ?_
  refine Al_nil (Aw_seq (Aw_region ?_))
  refine Al_p (Pu_fieldb 0 rfl Tryz.underlying82 rfl rfl Tryz.sizeOf79 rfl) ?_
  refine Al_p (Pu_loadb rfl Tryz.isAgg79 rfl rfl rfl) ?_
  refine Al_p Pu_mvl ?_
  refine Al_p (Pu_loadN rfl Tryz.isAgg31 Tryz.sizeOf31 rfl (Nat.le_of_ble_eq_true rfl)) ?_
  refine Al_p (Pu_gcall [(1001, 1001, 0), (1002, 1002, 0)] (sat_g rs cs b key n s hs) (SH_in ..) rfl ⟨rfl, rfl, trivial⟩ rfl ⟨Sub.rfl, Sub.rfl, Sub.rfl, trivial⟩) ?_
  refine Al_p (Pu_extract rfl rfl rfl) ?_
  refine Al_p (Pu_extract rfl rfl rfl) ?_
  refine Al_storeN rfl rfl rfl (by kernel_rfl) Tryz.isAgg34 Tryz.sizeOf34 rfl rfl rfl rfl (Nat.le_of_ble_eq_true rfl) ?_
  refine Al_p Pu_mvr ?_
  refine Al_nil ?_
  refine Aw_ret ?_
  exact ⟨_, _, [], rfl, ⟨_, rfl, _, _, _, _, _, [_, _, _, _, _, _], _, rfl, rfl, rfl, rfl, Sub.rfl, rfl⟩, ⟨rfl, rfl, trivial⟩, rfl⟩ -- ret 0
namespace PS
theorem Ok.hl {p : PS} {m : Nat} (h : p.Ok m) (hm : m ≤ 1000) : (J.have' p.cs).length ≤ 1000000 := by rw [J.hav_len]; have := h.sm.1; omega
theorem seen_take (p : PS) (past : List Dep) {k : Nat} (hk : k < past.length) : p.seen (past.take (k + 1)) = mx (p.seen (past.take k)) ((past.getD k default).n, (past.getD k default).s) := by
  have hg : past.getD k default = past[k] := by simp [hk]
  rw [List.take_succ_eq_append_getElem hk, hg]
  unfold seen
  rw [List.foldl_append]; rfl
theorem wait_past {p : PS} {m : Nat} (h : p.Ok m) : ∀ v ∈ p.wait, v.past.length ≤ 1000000 := fun v hv => Nat.le_trans (J.past_len (h.wp v hv)) (by decide)
end PS
theorem cloneD_a (l : List Dep) (hl : l.length ≤ 1000000) : ACall Tryz.prog 55 [.sl 3 (l.map Dep.row)] (.sl 3 (l.map Dep.row)) := GCall.a (aa := [.sl 3 (l.map Dep.row)]) (cloneD_g l hl)
section
variable (p : PS) (b : Nat)
theorem stOwn_g (hrl : p.rs.length ≤ 1000000) : GCall Tryz.prog 42 [.bx 1001 0 0] (ST p b) (some (ST p b, .d (rngA p.rs))) := by
  refine GCall_enterL (fun _ _ => by kernel_rfl) Tryz.func42 rfl Tryz.ntmps42 (ReadsS.r1 Tryz.results42) (Nat.le_of_ble_eq_true rfl) (fun hok hokB M0 w0 hl => ?_)
  refine Aw_seq (Aw_region ?_)
  refine Al_p Pu_mvr ?_
  refine Al_nil (Aw_seq (Aw_seq (Aw_region ?_)))
  refine Al_p Pu_mvl ?_
  refine Al_p (Pu_eqnilb Tryz.underlying24 rfl rfl) ?_
  refine Al_nil ?_
  refine Aw_condF rfl (rfl) ?_
  refine Aw_skip (Aw_seq (Aw_region ?_))
  refine Al_p Pu_mvl ?_
  refine Al_p (Pu_nilb rfl rfl) ?_
  refine Al_p (Pu_fieldb 0 rfl Tryz.underlying84 rfl rfl Tryz.sizeOf82 rfl) ?_
  refine Al_p (Pu_fieldb 0 rfl Tryz.underlying82 rfl rfl Tryz.sizeOf79 rfl) ?_
  refine Al_p (Pu_loadb rfl Tryz.isAgg79 rfl rfl rfl) ?_
  refine Al_p (Pu_gcall [(1001, 1002, 0), (1002, 1003, 0)] (sranges_g p.rs p.cs b hrl) (SH_in ..) rfl ⟨rfl, rfl, trivial⟩ rfl ⟨Sub.rfl, trivial⟩) ?_
  refine Al_p Pu_mvr ?_
  refine Al_nil ?_
  refine Aw_ret ?_
  exact ⟨_, _, [], rfl, Sub.rfl, ⟨rfl, rfl, rfl, trivial⟩, rfl⟩ -- ret 0
theorem stowns_g (key : ByteArray) (hrl : p.rs.length ≤ 1000000) : GCall Tryz.prog 45 [.bx 1001 0 0, .d (tv key)] (ST p b) (some (ST p b, .d (bv (decide (0 ≤ findR p.rs key))))) := by
  refine GCall_enterL (fun _ _ => by kernel_rfl) Tryz.func45 rfl Tryz.ntmps45 (ReadsS.r1 Tryz.results45) (Nat.le_of_ble_eq_true rfl) (fun hok hokB M0 w0 hl => ?_)
  refine Aw_seq (Aw_region ?_)
  refine Al_p Pu_mvr ?_
  refine Al_nil (Aw_seq (Aw_region ?_))
  refine Al_p Pu_mvl ?_
  refine Al_p (Pu_gcall [(1001, 1001, 0), (1002, 1002, 0), (1003, 1003, 0)] (stOwn_g p b hrl) (ST_in ..) rfl ⟨rfl, rfl, rfl, trivial⟩ rfl ⟨Sub.rfl, trivial⟩) ?_
  refine Al_p Pu_mvl ?_
  refine Al_p (Pu_call (find_a p.rs key hrl) rfl ⟨Sub.rfl, Sub.rfl, trivial⟩) ?_
  refine Al_p (Pu_cmp rfl rfl rfl rfl) ?_
  refine Al_p Pu_mvr ?_
  refine Al_nil ?_
  refine Aw_ret ?_
  exact ⟨_, _, [], rfl, Sub.rfl, ⟨rfl, rfl, rfl, trivial⟩, rfl⟩ -- ret 0
theorem stClock_g : GCall Tryz.prog 20 [.bx 1001 0 0] (ST p b) (some (ST p b, .d (.row [iv p.n, iv p.s]))) := by
  refine GCall_enterL (fun _ _ => by kernel_rfl) Tryz.func20 rfl Tryz.ntmps20 (ReadsS.cN Tryz.results20 Tryz.isAgg31 Tryz.sizeOf31) (Nat.le_of_ble_eq_true rfl) (fun hok hokB M0 w0 hl => ?_)
  refine Aw_seq (Aw_region ?_)
  refine Al_alloc rfl rfl rfl (by decide) Tryz.zeroValue31 rfl (by kernel_rfl) (fun g2 => ?_)
  refine Al_nil (Aw_seq (Aw_seq (Aw_region ?_)))
  refine Al_p Pu_mvl ?_
  refine Al_p (Pu_eqnilb Tryz.underlying24 rfl rfl) ?_
  refine Al_nil ?_
  refine Aw_condF rfl (rfl) ?_
  refine Aw_skip (Aw_seq (Aw_region ?_))
  refine Al_p Pu_mvl ?_
  refine Al_p (Pu_nilb rfl rfl) ?_
  refine Al_p (Pu_fieldb 3 rfl Tryz.underlying84 rfl rfl Tryz.sizeOf31 rfl) ?_
  refine Al_p (Pu_loadbN (r := [_, _]) rfl Tryz.isAgg31 Tryz.sizeOf31 rfl rfl rfl rfl) ?_
  refine Al_storeN rfl rfl rfl (by kernel_rfl) Tryz.isAgg31 Tryz.sizeOf31 rfl rfl rfl rfl (Nat.le_of_ble_eq_true rfl) ?_
  refine Al_nil ?_
  refine Aw_ret ?_
  exact ⟨_, _, [], rfl, ⟨_, rfl, _, _, _, _, _, [_, _], rfl, rfl, rfl, rfl, rfl⟩, ⟨rfl, rfl, rfl, trivial⟩, rfl⟩ -- ret 0
theorem stWaiting_g : GCall Tryz.prog 18 [.bx 1001 0 0] (ST p b) (some (ST p b, .d (iv p.wait.length))) := by
  refine GCall_enterL (fun _ _ => by kernel_rfl) Tryz.func18 rfl Tryz.ntmps18 (ReadsS.r1 Tryz.results18) (Nat.le_of_ble_eq_true rfl) (fun hok hokB M0 w0 hl => ?_)
  refine Aw_seq (Aw_region ?_)
  refine Al_p Pu_mvr ?_
  refine Al_nil (Aw_seq (Aw_seq (Aw_region ?_)))
  refine Al_p Pu_mvl ?_
  refine Al_p (Pu_eqnilb Tryz.underlying24 rfl rfl) ?_
  refine Al_nil ?_
  refine Aw_condF rfl (rfl) ?_
  refine Aw_skip (Aw_seq (Aw_region ?_))
  refine Al_p Pu_mvl ?_
  refine Al_p (Pu_nilb rfl rfl) ?_
  refine Al_p (Pu_fieldb 2 rfl Tryz.underlying84 rfl rfl Tryz.sizeOf65 rfl) ?_
  refine Al_p (Pu_loadb rfl Tryz.isAgg65 rfl rfl rfl) ?_
  refine Al_p (Pu_len rfl Tryz.underlying65 rfl (by first | exact List.length_map .. | exact rfl)) ?_
  refine Al_p Pu_mvr ?_
  refine Al_nil ?_
  refine Aw_ret ?_
  exact ⟨_, _, [], rfl, Sub.rfl, ⟨rfl, rfl, rfl, trivial⟩, rfl⟩ -- ret 0
theorem stHave_g {m : Nat} (hp : p.Ok m) (hm : m ≤ 1000) : GCall Tryz.prog 15 [.bx 1001 0 0] (ST p b) (some (ST p b, .d (.sl 3 ((J.have' p.cs).map Dep.row)))) := by
  refine GCall_enterL (fun _ _ => by kernel_rfl) Tryz.func15 rfl Tryz.ntmps15 (ReadsS.r1 Tryz.results15) (Nat.le_of_ble_eq_true rfl) (fun hok hokB M0 w0 hl => ?_)
  refine Aw_seq (Aw_region ?_)
  refine Al_p Pu_mvr ?_
  refine Al_nil (Aw_seq (Aw_seq (Aw_region ?_)))
  refine Al_p Pu_mvl ?_
  refine Al_p (Pu_eqnilb Tryz.underlying24 rfl rfl) ?_
  refine Al_nil ?_
  refine Aw_condF rfl (rfl) ?_
  refine Aw_skip (Aw_seq (Aw_region ?_))
  refine Al_p Pu_mvl ?_
  refine Al_p (Pu_nilb rfl rfl) ?_
  refine Al_p (Pu_fieldb 0 rfl Tryz.underlying84 rfl rfl Tryz.sizeOf82 rfl) ?_
  refine Al_p (Pu_fieldb 0 rfl Tryz.underlying82 rfl rfl Tryz.sizeOf79 rfl) ?_
  refine Al_p (Pu_loadb rfl Tryz.isAgg79 rfl rfl rfl) ?_
  refine Al_p (Pu_gcall [(1001, 1002, 0), (1002, 1003, 0)] (shave_g p.rs p.cs b hp.rise (hp.sm.mono hm)) (SH_in ..) rfl ⟨rfl, rfl, trivial⟩ rfl ⟨Sub.rfl, trivial⟩) ?_
  refine Al_p Pu_mvr ?_
  refine Al_nil ?_
  refine Aw_ret ?_
  exact ⟨_, _, [], rfl, Sub.rfl, ⟨rfl, rfl, rfl, trivial⟩, rfl⟩ -- ret 0
theorem stChain_g (key : ByteArray) {m : Nat} (hp : p.Ok m) (hm : m ≤ 1000) : GCall Tryz.prog 39 [.bx 1001 0 0, .d (tv key)] (ST p b) (some (ST p b, .d (versA (J.getC p.cs key)))) := by
  refine GCall_enterL (fun _ _ => by kernel_rfl) Tryz.func39 rfl Tryz.ntmps39 (ReadsS.r1 Tryz.results39) (Nat.le_of_ble_eq_true rfl) (fun hok hokB M0 w0 hl => ?_)
  refine Aw_seq (Aw_region ?_)
  refine Al_p Pu_mvr ?_
  refine Al_nil (Aw_seq (Aw_seq (Aw_region ?_)))
  refine Al_p Pu_mvl ?_
  refine Al_p (Pu_eqnilb Tryz.underlying24 rfl rfl) ?_
  refine Al_nil ?_
  refine Aw_condF rfl (rfl) ?_
  refine Aw_skip (Aw_seq (Aw_region ?_))
  refine Al_p Pu_mvl ?_
  refine Al_p (Pu_nilb rfl rfl) ?_
  refine Al_p (Pu_fieldb 0 rfl Tryz.underlying84 rfl rfl Tryz.sizeOf82 rfl) ?_
  refine Al_p (Pu_fieldb 0 rfl Tryz.underlying82 rfl rfl Tryz.sizeOf79 rfl) ?_
  refine Al_p (Pu_loadb rfl Tryz.isAgg79 rfl rfl rfl) ?_
  refine Al_p Pu_mvl ?_
  refine Al_p (Pu_gcall [(1001, 1002, 0), (1002, 1003, 0)] (schain_g p.rs p.cs b key (hp.sm.mono hm)) (SH_in ..) rfl ⟨rfl, rfl, trivial⟩ rfl ⟨Sub.rfl, Sub.rfl, trivial⟩) ?_
  refine Al_p Pu_mvr ?_
  refine Al_nil ?_
  refine Aw_ret ?_
  exact ⟨_, _, [], rfl, Sub.rfl, ⟨rfl, rfl, rfl, trivial⟩, rfl⟩ -- ret 0
theorem stRead_g (key : ByteArray) {m : Nat} (hp : p.Ok m) (hm : m ≤ 1000) : GCall Tryz.prog 19 [.bx 1001 0 0, .d (tv key)] (ST p b) (some (ST p b, .d (.tup [.row ((p.readV key).getD default).row, bv (p.readV key).isSome, iv (p.readE key)]))) := by
  refine GCall_enterL (fun _ _ => by kernel_rfl) Tryz.func19 rfl Tryz.ntmps19 (ReadsS.cN2 Tryz.results19 Tryz.isAgg34 Tryz.sizeOf34) (Nat.le_of_ble_eq_true rfl) (fun hok hokB M0 w0 hl => ?_)
  refine Aw_seq (Aw_region ?_)
  refine Al_alloc rfl rfl rfl (by decide) Tryz.zeroValue34 rfl (by kernel_rfl) (fun g4 => ?_)
  refine Al_p Pu_mvr ?_
  refine Al_p Pu_mvr ?_
  refine Al_nil (Aw_seq (Aw_block (Aw_seq (Aw_region ?_))))
  refine Al_p Pu_mvl ?_
  refine Al_p (Pu_eqnilb Tryz.underlying24 rfl rfl) ?_
  refine Al_p Pu_mvr ?_
  refine Al_nil ?_
  refine Aw_condF rfl (rfl) ?_
  refine Aw_seq (Aw_region ?_)
  refine Al_p Pu_mvl ?_
  refine Al_p Pu_mvl ?_
  refine Al_p (Pu_gcall [(1001, 1001, 0), (1002, 1002, 0), (1003, 1003, 0)] (stowns_g p b key hp.rl) (ST_in ..) rfl ⟨rfl, rfl, rfl, trivial⟩ rfl ⟨Sub.rfl, Sub.rfl, trivial⟩) ?_
  refine Al_p (Pu_not rfl rfl) ?_
  refine Al_p Pu_mvr ?_
  refine Al_nil ?_
  refine Aw_cond rfl (fun h13 => ?_) (fun h13 => ?_)
  · skip
    have h0 : findR p.rs key < 0 := by simpa using h13
    have e1 : p.readV key = none := by unfold PS.readV; rw [if_pos h0]
    have e2 : p.readE key = 14 := by unfold PS.readE; rw [if_pos h0]
    refine Aw_seq (Aw_region ?_)
    refine Al_p (Pu_build (aa := []) rfl Tryz.underlying34 Tryz.zeroValue34 (places34 Tryz.underlying34) (by kernel_rfl) trivial rfl) ?_
    refine Al_storeN rfl rfl rfl (by kernel_rfl) Tryz.isAgg34 Tryz.sizeOf34 rfl rfl rfl rfl (Nat.le_of_ble_eq_true rfl) ?_
    refine Al_p Pu_mvr ?_
    refine Al_p Pu_mvr ?_
    refine Al_nil ?_
    rw [e1, e2]
    refine Aw_boxle (k := 4) ((default : Ver).row.map .d) rfl ⟨Sub.rfl, Sub.rfl, Sub.rfl, Sub.rfl, Sub.rfl, Sub.nil, trivial⟩ ?_
    refine Aw_ret ?_
    exact ⟨_, _, [], rfl, ⟨_, rfl, _, _, _, _, _, [_, _, _, _, _, _], _, _, rfl, rfl, rfl, rfl, Sub.rfl, Sub.rfl, rfl⟩, ⟨rfl, rfl, rfl, trivial⟩, rfl⟩ -- ret 0
  · skip
    have h0 : ¬ findR p.rs key < 0 := by simpa using h13
    have e1 : p.readV key = J.shead p.cs key := by unfold PS.readV; rw [if_neg h0]
    have e2 : p.readE key = 0 := by unfold PS.readE; rw [if_neg h0]
    refine Aw_skip (Aw_seq (Aw_region ?_))
    refine Al_p Pu_mvl ?_
    refine Al_p (Pu_nilb rfl rfl) ?_
    refine Al_p (Pu_fieldb 0 rfl Tryz.underlying84 rfl rfl Tryz.sizeOf82 rfl) ?_
    refine Al_p (Pu_loadAg (r := [.bx 1002 0 0]) rfl Tryz.isAgg82 Tryz.sizeOf82 rfl rfl (by exact rfl) rfl) ?_
    refine Al_p Pu_mvl ?_
    refine Al_p (Pu_gcall [(1001, 1002, 0), (1002, 1003, 0)] (khead_g p.rs p.cs b key (hp.sm.mono hm)) (SH_in ..) rfl ⟨rfl, rfl, trivial⟩ rfl ⟨Sub.rfl, Sub.rfl, trivial⟩) ?_
    refine Al_p Pu_mvl ?_
    refine Al_p (Pu_extract rfl rfl rfl) ?_
    refine Al_p (Pu_extract rfl rfl rfl) ?_
    refine Al_alloc rfl rfl rfl (by decide) Tryz.zeroValue34 rfl (by kernel_rfl) (fun g7 => ?_)
    refine Al_storeN rfl rfl rfl (by kernel_rfl) Tryz.isAgg34 Tryz.sizeOf34 rfl rfl rfl rfl (Nat.le_of_ble_eq_true rfl) ?_
    refine Al_p Pu_mvr ?_
    refine Al_nil (Aw_seq (Aw_region ?_))
    refine Al_p (Pu_loadbN (r := [_, _, _, _, _, _]) rfl Tryz.isAgg34 Tryz.sizeOf34 rfl rfl rfl rfl) ?_
    refine Al_p Pu_mvl ?_
    refine Al_storeN rfl rfl rfl (by kernel_rfl) Tryz.isAgg34 Tryz.sizeOf34 rfl rfl rfl rfl (Nat.le_of_ble_eq_true rfl) ?_
    refine Al_p Pu_mvr ?_
    refine Al_p Pu_mvr ?_
    refine Al_nil ?_
    rw [e1, e2]
    refine Aw_ret ?_
    exact ⟨_, _, [], rfl, ⟨_, rfl, _, _, _, _, _, [_, _, _, _, _, _], _, _, rfl, rfl, rfl, rfl, Sub.rfl, Sub.rfl, rfl⟩, ⟨rfl, rfl, rfl, trivial⟩, rfl⟩ -- ret 1
theorem stthere1_a (v w : Ver) : ACall Tryz.prog 82 [.row w.row, .fp v.row] (bv (PS.isW v w)) := by
  refine ACall_enter (fun _ _ => by kernel_rfl) Tryz.func82 rfl Tryz.ntmps82 Tryz.results82 (Nat.le_of_ble_eq_true rfl) (fun hok M0 w0 hnl => ?_)
  refine Aw_seq (Aw_region ?_)
  refine Al_p (Pu_boxN rfl rfl) ?_
  refine Al_p Pu_mvr ?_
  refine Al_nil (Aw_seq (Aw_region ?_))
  refine Al_p (Pu_field 0 rfl Tryz.underlying34 rfl rfl Tryz.sizeOf9 rfl) ?_
  refine Al_p (Pu_load1 rfl Tryz.isAgg9 rfl rfl) ?_
  refine Al_p (Pu_field 0 rfl Tryz.underlying34 rfl rfl Tryz.sizeOf9 rfl) ?_
  refine Al_p (Pu_load1 rfl Tryz.isAgg9 rfl rfl) ?_
  refine Al_p (Pu_str rfl rfl rfl rfl) ?_
  refine Al_p Pu_mvl ?_
  refine Al_st (St_gd [] rfl rfl rfl rfl trivial (fun hg10 => Pu_field 3 rfl Tryz.underlying34 rfl rfl Tryz.sizeOf31 rfl)) rfl (by decide) (by kernel_rfl) (by intro j b oj dj h1 h2 h3; cases h1; cases h2; cases h3; decide) ?_
  refine Al_st (St_gd [10] rfl rfl rfl rfl ⟨⟨_, rfl⟩, trivial⟩ (fun hg11 => Pu_loadN rfl Tryz.isAgg31 Tryz.sizeOf31 rfl (Nat.le_of_ble_eq_true rfl))) rfl (by decide) (by kernel_rfl) (by intro j b oj dj h1 h2 h3; cases h1; cases h2; cases h3; decide) ?_
  refine Al_st (St_gd [] rfl rfl rfl rfl trivial (fun hg12 => Pu_field 3 rfl Tryz.underlying34 rfl rfl Tryz.sizeOf31 rfl)) rfl (by decide) (by kernel_rfl) (by intro j b oj dj h1 h2 h3; cases h1; cases h2; cases h3; decide) ?_
  refine Al_st (St_gd [12] rfl rfl rfl rfl ⟨⟨_, rfl⟩, trivial⟩ (fun hg13 => Pu_loadN rfl Tryz.isAgg31 Tryz.sizeOf31 rfl (Nat.le_of_ble_eq_true rfl))) rfl (by decide) (by kernel_rfl) (by intro j b oj dj h1 h2 h3; cases h1; cases h2; cases h3; decide) ?_
  refine Al_st (St_gd [11, 13] rfl rfl rfl rfl ⟨⟨_, rfl⟩, ⟨_, rfl⟩, trivial⟩ (fun hg14 => Pu_eqrow [.int .i64 _, .int .i64 _] [.int .i64 _, .int .i64 _] (fun w => eqv31 _ _ _ _ _ _ w) rfl rfl rfl)) rfl (by decide) (by kernel_rfl) (by intro j b oj dj h1 h2 h3; cases h1; cases h2; cases h3; decide) ?_
  refine Al_p (Pu_and rfl rfl rfl rfl) ?_
  refine Al_p Pu_mvr ?_
  refine Al_nil ?_
  refine Aw_ret ?_
  exact Sub.rfl -- ret 0
theorem stthere_g (v : Ver) {m : Nat} (hp : p.Ok m) (hm : m ≤ 1000) : GCall Tryz.prog 46 [.bx 1001 0 0, .d (.row v.row)] (ST p b) (some (ST p b, .d (bv (p.there v)))) := by
  refine GCall_enterL (fun _ _ => by kernel_rfl) Tryz.func46 rfl Tryz.ntmps46 (ReadsS.r1 Tryz.results46) (Nat.le_of_ble_eq_true rfl) (fun hok hokB M0 w0 hl => ?_)
  refine Aw_seq (Aw_region ?_)
  refine Al_p (Pu_boxN rfl rfl) ?_
  refine Al_p Pu_mvr ?_
  refine Al_nil ?_
  -- join 0: live [0, 3, 6], turned [6]
  refine Aw_seq ?_
  refine Aw_drawPA 10 12 4 (by kernel_rfl) (by kernel_rfl) rfl (by decide) rfl rfl rfl rfl (by decide) Tryz.zeroValue34 rfl (by kernel_rfl) rfl ?_
  refine Dr_p Pu_mvl ?_
  refine Dr_p (Pu_nilb rfl rfl) ?_
  refine Dr_p (Pu_fieldb 0 rfl Tryz.underlying84 rfl rfl Tryz.sizeOf82 rfl) ?_
  refine Dr_p (Pu_loadAg (r := [.bx 1002 0 0]) rfl Tryz.isAgg82 Tryz.sizeOf82 rfl rfl (by exact rfl) rfl) ?_
  refine Dr_p (Pu_field 0 rfl Tryz.underlying34 rfl rfl Tryz.sizeOf9 rfl) ?_
  refine Dr_p (Pu_load1 rfl Tryz.isAgg9 rfl rfl) ?_
  refine Dr_p (Pu_field 3 rfl Tryz.underlying34 rfl rfl Tryz.sizeOf31 rfl) ?_
  refine Dr_p (Pu_loadN rfl Tryz.isAgg31 Tryz.sizeOf31 rfl (Nat.le_of_ble_eq_true rfl)) ?_
  refine Dr_p (Pu_gcall [(1001, 1002, 0), (1002, 1003, 0)] (kat_g p.rs p.cs b v.key v.n v.s (hp.sm.mono hm)) (SH_in ..) rfl ⟨rfl, rfl, trivial⟩ rfl ⟨Sub.rfl, Sub.rfl, Sub.rfl, trivial⟩) ?_
  refine Dr_p Pu_mvl ?_
  refine Dr_nil ⟨?_, fun g5 => ?_⟩
  · refine Ad_take 10 rfl (PuI_extract rfl rfl rfl) rfl rfl (by decide) (by kernel_rfl) (by kernel_rfl) (by kernel_rfl) (by kernel_rfl) (fun _ _ h => h) ?_
    refine Ad_take 11 rfl (PuI_extract rfl rfl rfl) rfl rfl (by decide) (by kernel_rfl) (by kernel_rfl) (by kernel_rfl) (by kernel_rfl) (fun _ _ h => h) ?_
    refine Ad_one 12 rfl (by kernel_rfl) ?_
    refine Al_alloc rfl rfl rfl (by decide) Tryz.zeroValue34 rfl (by kernel_rfl) (fun g5 => ?_)
    refine Al_nil ?_
    refine Ad_one 13 rfl (by kernel_rfl) ?_
    refine Al_storeN rfl rfl rfl (by kernel_rfl) Tryz.isAgg34 Tryz.sizeOf34 rfl rfl rfl rfl (Nat.le_of_ble_eq_true rfl) ?_
    refine Al_nil ?_
    refine Ad_take 14 rfl (PuI_move (.inr rfl) (by conv => lhs; whnf)) rfl rfl (by decide) (by kernel_rfl) (by kernel_rfl) (by kernel_rfl) (by kernel_rfl) (fun _ _ h => h) ?_
    refine Ad_done (by kernel_rfl) ?_
    refine Aw_seq (Aw_region ?_)
    refine Al_p Pu_mvl ?_
    refine Al_p Pu_mvl ?_
    refine Al_st (St_gd [] rfl rfl rfl rfl trivial (fun hg21 => by exact Pu_move (.inl rfl) (by conv => lhs; whnf))) rfl (by decide) (by kernel_rfl) (by intro j b oj dj h1 h2 h3; cases h1; cases h2; cases h3; decide) ?_
    refine Al_st (St_gd [21] rfl rfl rfl rfl ⟨⟨_, rfl⟩, trivial⟩ (fun hg22 => Pu_nilb rfl rfl)) rfl (by decide) (by kernel_rfl) (by intro j b oj dj h1 h2 h3; cases h1; cases h2; cases h3; decide) ?_
    refine Al_st (St_gd [22] rfl rfl rfl rfl ⟨⟨_, rfl⟩, trivial⟩ (fun hg23 => Pu_fieldb 2 rfl Tryz.underlying84 rfl rfl Tryz.sizeOf65 rfl)) rfl (by decide) (by kernel_rfl) (by intro j b oj dj h1 h2 h3; cases h1; cases h2; cases h3; decide) ?_
    refine Al_st (St_gd [23] rfl rfl rfl rfl ⟨⟨_, rfl⟩, trivial⟩ (fun hg24 => Pu_loadb rfl Tryz.isAgg65 rfl rfl rfl)) rfl (by decide) (by kernel_rfl) (by intro j b oj dj h1 h2 h3; cases h1; cases h2; cases h3; decide) ?_
    refine Al_st (St_gd [] rfl rfl rfl rfl trivial (fun hg25 => Pu_makeFunc (caps := [_]) rfl ⟨Sub.rfl, trivial⟩)) rfl (by decide) (by kernel_rfl) (by intro j b oj dj h1 h2 h3; cases h1; cases h2; cases h3; decide) ?_
    refine Al_st (St_gd [24, 25] rfl rfl rfl rfl ⟨⟨_, rfl⟩, ⟨_, rfl⟩, trivial⟩ (fun hg26 => Pu_call (containsV_a p.wait 82 [.fp v.row] (PS.isW v) (fun w => stthere1_a v w)) rfl ⟨Sub.rfl, Sub.rfl, trivial⟩)) rfl (by decide) (by kernel_rfl) (by intro j b oj dj h1 h2 h3; cases h1; cases h2; cases h3; decide) ?_
    refine Al_p (Pu_or rfl rfl rfl rfl) ?_
    refine Al_p Pu_mvr ?_
    refine Al_nil ?_
    refine Aw_ret ?_
    exact ⟨_, _, [], rfl, Sub.rfl, ⟨rfl, rfl, rfl, trivial⟩, rfl⟩ -- ret 0
  · refine Ad_take 10 rfl (PuI_extract rfl rfl rfl) rfl rfl (by decide) (by kernel_rfl) (by kernel_rfl) (by kernel_rfl) (by kernel_rfl) (fun _ _ h => h) ?_
    refine Ad_take 11 rfl (PuI_extract rfl rfl rfl) rfl rfl (by decide) (by kernel_rfl) (by kernel_rfl) (by kernel_rfl) (by kernel_rfl) (fun _ _ h => h) ?_
    refine Ad_one 13 rfl (by kernel_rfl) ?_
    refine Al_storeN rfl rfl rfl (by kernel_rfl) Tryz.isAgg34 Tryz.sizeOf34 rfl rfl rfl rfl (Nat.le_of_ble_eq_true rfl) ?_
    refine Al_nil ?_
    refine Ad_take 14 rfl (PuI_move (.inr rfl) (by conv => lhs; whnf)) rfl rfl (by decide) (by kernel_rfl) (by kernel_rfl) (by kernel_rfl) (by kernel_rfl) (fun _ _ h => h) ?_
    refine Ad_done (by kernel_rfl) ?_
    refine Aw_seq (Aw_region ?_)
    refine Al_p Pu_mvl ?_
    refine Al_p Pu_mvl ?_
    refine Al_st (St_gd [] rfl rfl rfl rfl trivial (fun hg21 => by exact Pu_move (.inl rfl) (by conv => lhs; whnf))) rfl (by decide) (by kernel_rfl) (by intro j b oj dj h1 h2 h3; cases h1; cases h2; cases h3; decide) ?_
    refine Al_st (St_gd [21] rfl rfl rfl rfl ⟨⟨_, rfl⟩, trivial⟩ (fun hg22 => Pu_nilb rfl rfl)) rfl (by decide) (by kernel_rfl) (by intro j b oj dj h1 h2 h3; cases h1; cases h2; cases h3; decide) ?_
    refine Al_st (St_gd [22] rfl rfl rfl rfl ⟨⟨_, rfl⟩, trivial⟩ (fun hg23 => Pu_fieldb 2 rfl Tryz.underlying84 rfl rfl Tryz.sizeOf65 rfl)) rfl (by decide) (by kernel_rfl) (by intro j b oj dj h1 h2 h3; cases h1; cases h2; cases h3; decide) ?_
    refine Al_st (St_gd [23] rfl rfl rfl rfl ⟨⟨_, rfl⟩, trivial⟩ (fun hg24 => Pu_loadb rfl Tryz.isAgg65 rfl rfl rfl)) rfl (by decide) (by kernel_rfl) (by intro j b oj dj h1 h2 h3; cases h1; cases h2; cases h3; decide) ?_
    refine Al_st (St_gd [] rfl rfl rfl rfl trivial (fun hg25 => Pu_makeFunc (caps := [_]) rfl ⟨Sub.rfl, trivial⟩)) rfl (by decide) (by kernel_rfl) (by intro j b oj dj h1 h2 h3; cases h1; cases h2; cases h3; decide) ?_
    refine Al_st (St_gd [24, 25] rfl rfl rfl rfl ⟨⟨_, rfl⟩, ⟨_, rfl⟩, trivial⟩ (fun hg26 => Pu_call (containsV_a p.wait 82 [.fp v.row] (PS.isW v) (fun w => stthere1_a v w)) rfl ⟨Sub.rfl, Sub.rfl, trivial⟩)) rfl (by decide) (by kernel_rfl) (by intro j b oj dj h1 h2 h3; cases h1; cases h2; cases h3; decide) ?_
    refine Al_p (Pu_or rfl rfl rfl rfl) ?_
    refine Al_p Pu_mvr ?_
    refine Al_nil ?_
    refine Aw_ret ?_
    exact ⟨_, _, [], rfl, Sub.rfl, ⟨rfl, rfl, rfl, trivial⟩, rfl⟩ -- ret 1
set_option maxHeartbeats 1000000 in
theorem stArrive_g (v : Ver) {m : Nat} (hp : p.Ok m) (hm : m ≤ 1000) : GCall Tryz.prog 13 [.bx 1001 0 0, .d (.row v.row)] (ST p b) (some (ST (p.arrive v) b, .d (iv (p.arriveE v)))) := by
  refine GCall_enterL (fun _ _ => by kernel_rfl) Tryz.func13 rfl Tryz.ntmps13 (ReadsS.r1 Tryz.results13) (Nat.le_of_ble_eq_true rfl) (fun hok hokB M0 w0 hl => ?_)
  have hwl := hp.wl
  refine Aw_seq (Aw_region ?_)
  refine Al_p (Pu_boxN rfl rfl) ?_
  refine Al_p Pu_mvr ?_
  refine Al_nil (Aw_seq (Aw_seq (Aw_region ?_)))
  refine Al_p Pu_mvl ?_
  refine Al_p (Pu_eqnilb Tryz.underlying24 rfl rfl) ?_
  refine Al_p Pu_mvl ?_
  refine Al_st (St_gd [] rfl rfl rfl rfl trivial (fun hg10 => Pu_loadN rfl Tryz.isAgg34 Tryz.sizeOf34 rfl (Nat.le_of_ble_eq_true rfl))) rfl (by decide) (by kernel_rfl) (by intro j b oj dj h1 h2 h3; cases h1; cases h2; cases h3; decide) ?_
  refine Al_st (St_gd [10] rfl rfl rfl rfl ⟨⟨_, rfl⟩, trivial⟩ (fun hg11 => Pu_call (wcheck_a v) rfl ⟨Sub.rfl, trivial⟩)) rfl (by decide) (by kernel_rfl) (by intro j b oj dj h1 h2 h3; cases h1; cases h2; cases h3; decide) ?_
  refine Al_st (St_gd [11] rfl rfl rfl rfl ⟨⟨_, rfl⟩, trivial⟩ (fun hg12 => Pu_not rfl rfl)) rfl (by decide) (by kernel_rfl) (by intro j b oj dj h1 h2 h3; cases h1; cases h2; cases h3; decide) ?_
  refine Al_p (Pu_or rfl rfl rfl rfl) ?_
  refine Al_nil ?_
  refine Aw_cond rfl (fun h13 => ?_) (fun h13 => ?_)
  · skip
    have h0 : J.checkB v = false := by simpa using h13
    have e2 : p.arriveE v = 1 := by unfold PS.arriveE; rw [if_pos h0]
    have e1 : p.arrive v = p := by unfold PS.arrive; rw [e2, if_neg (by decide)]
    refine Aw_seq (Aw_region ?_)
    refine Al_p Pu_mvr ?_
    refine Al_nil ?_
    rw [e1, e2]
    refine Aw_ret ?_
    exact ⟨_, _, [], rfl, Sub.rfl, ⟨rfl, rfl, rfl, trivial⟩, rfl⟩ -- ret 0
  · skip
    have h0 : J.checkB v = true := by simpa using h13
    refine Aw_skip ?_
    -- join 0: live [0, 3], turned []
    refine Aw_seq (Aw_seq (Aw_region ?_))
    refine Al_p Pu_mvl ?_
    refine Al_p (Pu_field 0 rfl Tryz.underlying34 rfl rfl Tryz.sizeOf9 rfl) ?_
    refine Al_p (Pu_load1 rfl Tryz.isAgg9 rfl rfl) ?_
    refine Al_p (Pu_gcall [(1001, 1001, 0), (1002, 1002, 0), (1003, 1003, 0)] (stowns_g p b v.key hp.rl) (ST_in ..) rfl ⟨rfl, rfl, rfl, trivial⟩ rfl ⟨Sub.rfl, Sub.rfl, trivial⟩) ?_
    refine Al_nil ?_
    refine Aw_cond rfl (fun h17 => ?_) (fun h17 => ?_)
    · (try simp only [decide_eq_true_eq, decide_eq_false_iff_not, Bool.and_eq_true, Bool.or_eq_true, Bool.and_eq_false_iff, Bool.or_eq_false_iff, Bool.not_eq_true', Bool.not_eq_false', beq_iff_eq, Bool.not_eq_eq_eq_not, Bool.not_true, Bool.not_false, List.length_map, Bool.and_true, Bool.and_false, Bool.false_and, Bool.true_and, Bool.or_false, Bool.false_or] at h17)
      have hf : ¬ findR p.rs v.key < 0 := by omega
      refine Aw_seq (Aw_seq (Aw_region ?_))
      refine Al_p Pu_mvl ?_
      refine Al_p (Pu_loadN rfl Tryz.isAgg34 Tryz.sizeOf34 rfl (Nat.le_of_ble_eq_true rfl)) ?_
      refine Al_p (Pu_gcall [(1001, 1001, 0), (1002, 1002, 0), (1003, 1003, 0)] (stthere_g p b v hp hm) (ST_in ..) rfl ⟨rfl, rfl, rfl, trivial⟩ rfl ⟨Sub.rfl, Sub.rfl, trivial⟩) ?_
      refine Al_nil ?_
      refine Aw_cond rfl (fun h20 => ?_) (fun h20 => ?_)
      · skip
        have e2 : p.arriveE v = 13 := by unfold PS.arriveE; rw [if_neg (by rw [h0]; decide), if_neg hf, if_pos h20]
        have e1 : p.arrive v = p := by unfold PS.arrive; rw [e2, if_neg (by decide)]
        refine Aw_seq (Aw_region ?_)
        refine Al_p Pu_mvr ?_
        refine Al_nil ?_
        rw [e1, e2]
        refine Aw_ret ?_
        exact ⟨_, _, [], rfl, Sub.rfl, ⟨rfl, rfl, rfl, trivial⟩, rfl⟩ -- ret 1
      · skip
        have e3 : p.arriveE v = J.pushE p.wait v := by unfold PS.arriveE; rw [if_neg (by rw [h0]; decide), if_neg hf, if_neg (by rw [h20]; decide)]
        refine Aw_skip (Aw_seq ?_)
        refine Aw_draw 10 (by kernel_rfl) (by kernel_rfl) ?_
        refine Dr_p Pu_mvl ?_
        refine Dr_p (Pu_nilb rfl rfl) ?_
        refine Dr_p (Pu_fieldb 2 rfl Tryz.underlying84 rfl rfl Tryz.sizeOf65 rfl) ?_
        refine Dr_p (Pu_loadb rfl Tryz.isAgg65 rfl rfl rfl) ?_
        refine Dr_p (Pu_loadN rfl Tryz.isAgg34 Tryz.sizeOf34 rfl (Nat.le_of_ble_eq_true rfl)) ?_
        refine Dr_p (Pu_call (qpush_a p.wait v (by omega)) rfl ⟨Sub.rfl, Sub.rfl, trivial⟩) ?_
        refine Dr_p Pu_mvl ?_
        refine Dr_p (Pu_extract rfl rfl rfl) ?_
        refine Dr_p (Pu_extract rfl rfl rfl) ?_
        refine Dr_p Pu_mvr ?_
        refine Dr_nil ?_
        refine Al_p Pu_mvr ?_
        refine Al_nil (Aw_seq (Aw_seq (Aw_region ?_)))
        refine Al_p Pu_mvl ?_
        refine Al_p (Pu_cmp rfl rfl rfl rfl) ?_
        refine Al_nil ?_
        refine Aw_cond rfl (fun h31 => ?_) (fun h31 => ?_)
        · (try simp only [decide_eq_true_eq, decide_eq_false_iff_not, Bool.and_eq_true, Bool.or_eq_true, Bool.and_eq_false_iff, Bool.or_eq_false_iff, Bool.not_eq_true', Bool.not_eq_false', beq_iff_eq, Bool.not_eq_eq_eq_not, Bool.not_true, Bool.not_false, List.length_map, Bool.and_true, Bool.and_false, Bool.false_and, Bool.true_and, Bool.or_false, Bool.false_or] at h31)
          have e1 : p.arrive v = p := by unfold PS.arrive; rw [if_neg (by rw [e3]; exact h31)]
          refine Aw_seq (Aw_region ?_)
          refine Al_p Pu_mvl ?_
          refine Al_p Pu_mvr ?_
          refine Al_nil ?_
          rw [e1, e3]
          refine Aw_ret ?_
          exact ⟨_, _, [], rfl, Sub.rfl, ⟨rfl, rfl, rfl, trivial⟩, rfl⟩ -- ret 2
        · (try simp only [decide_eq_true_eq, decide_eq_false_iff_not, Bool.and_eq_true, Bool.or_eq_true, Bool.and_eq_false_iff, Bool.or_eq_false_iff, Bool.not_eq_true', Bool.not_eq_false', beq_iff_eq, Bool.not_eq_eq_eq_not, Bool.not_true, Bool.not_false, List.length_map, Bool.and_true, Bool.and_false, Bool.false_and, Bool.true_and, Bool.or_false, Bool.false_or] at h31)
          have e4 : J.pushE p.wait v = 0 := by simpa using h31
          have e1 : p.arrive v = ({ p with wait := p.wait ++ [v] } : PS).clockP v := by unfold PS.arrive; rw [if_pos (e3.trans e4), if_neg hf]
          refine Aw_skip ?_
          rw [if_pos e4]
          refine Aw_region ?_
          refine Al_p Pu_mvl ?_
          refine Al_p Pu_mvl ?_
          refine Al_p (Pu_nilb rfl rfl) ?_
          refine Al_p (Pu_fieldb 2 rfl Tryz.underlying84 rfl rfl Tryz.sizeOf65 rfl) ?_
          refine Al_store1 rfl rfl rfl (by kernel_rfl) Tryz.isAgg65 Tryz.sizeOf65 rfl rfl (Nat.le_of_ble_eq_true rfl) (by conv => lhs; whnf) rfl ?_
          refine Al_nil (Aw_seq ?_)
          refine Aw_draw 11 (by kernel_rfl) (by kernel_rfl) ?_
          refine Dr_p Pu_mvl ?_
          refine Dr_p Pu_mvl ?_
          refine Dr_p (Pu_nilb rfl rfl) ?_
          refine Dr_p (Pu_fieldb 3 rfl Tryz.underlying84 rfl rfl Tryz.sizeOf31 rfl) ?_
          refine Dr_p (Pu_loadbN (r := [_, _]) rfl Tryz.isAgg31 Tryz.sizeOf31 rfl rfl rfl rfl) ?_
          refine Dr_p (Pu_field 3 rfl Tryz.underlying34 rfl rfl Tryz.sizeOf31 rfl) ?_
          refine Dr_p (Pu_loadN rfl Tryz.isAgg31 Tryz.sizeOf31 rfl (Nat.le_of_ble_eq_true rfl)) ?_
          refine Dr_p (Pu_buildSlice (aa := [(0, _), (1, _)]) rfl Tryz.underlying101 Tryz.sizeOf31 Tryz.zeroValue31 rfl (by decide) (by decide) (by decide) (by kernel_rfl) ⟨rfl, rfl, rfl, rfl, rfl, rfl, trivial⟩ ((rfl : _ = some [[iv p.n, iv p.s], [iv v.n, iv v.s]].flatten)) rfl rfl) ?_
          refine Dr_p (Pu_call (smax_a [(p.n, p.s), (v.n, v.s)]) rfl ⟨Sub.rfl, trivial⟩) ?_
          refine Dr_p (Pu_nilb rfl rfl) ?_
          refine Dr_p (Pu_fieldb 3 rfl Tryz.underlying84 rfl rfl Tryz.sizeOf31 rfl) ?_
          refine Dr_nil ?_
          refine Al_storeN rfl rfl rfl (by kernel_rfl) Tryz.isAgg31 Tryz.sizeOf31 rfl rfl rfl rfl (Nat.le_of_ble_eq_true rfl) ?_
          refine Al_nil (Aw_seq (Aw_region ?_))
          refine Al_p Pu_mvr ?_
          refine Al_nil ?_
          rw [e1, e3, e4]
          refine Aw_ret ?_
          exact ⟨_, _, [], rfl, Sub.rfl, ⟨rfl, rfl, rfl, trivial⟩, rfl⟩ -- ret 3
    · (try simp only [decide_eq_true_eq, decide_eq_false_iff_not, Bool.and_eq_true, Bool.or_eq_true, Bool.and_eq_false_iff, Bool.or_eq_false_iff, Bool.not_eq_true', Bool.not_eq_false', beq_iff_eq, Bool.not_eq_eq_eq_not, Bool.not_true, Bool.not_false, List.length_map, Bool.and_true, Bool.and_false, Bool.false_and, Bool.true_and, Bool.or_false, Bool.false_or] at h17)
      have hf : findR p.rs v.key < 0 := by omega
      have e2 : p.arriveE v = 0 := by unfold PS.arriveE; rw [if_neg (by rw [h0]; decide), if_pos hf]
      have e1 : p.arrive v = p.clockP v := by unfold PS.arrive; rw [if_pos e2, if_pos hf]
      refine Aw_skip (Aw_seq ?_)
      refine Aw_draw 11 (by kernel_rfl) (by kernel_rfl) ?_
      refine Dr_p Pu_mvl ?_
      refine Dr_p Pu_mvl ?_
      refine Dr_p (Pu_nilb rfl rfl) ?_
      refine Dr_p (Pu_fieldb 3 rfl Tryz.underlying84 rfl rfl Tryz.sizeOf31 rfl) ?_
      refine Dr_p (Pu_loadbN (r := [_, _]) rfl Tryz.isAgg31 Tryz.sizeOf31 rfl rfl rfl rfl) ?_
      refine Dr_p (Pu_field 3 rfl Tryz.underlying34 rfl rfl Tryz.sizeOf31 rfl) ?_
      refine Dr_p (Pu_loadN rfl Tryz.isAgg31 Tryz.sizeOf31 rfl (Nat.le_of_ble_eq_true rfl)) ?_
      refine Dr_p (Pu_buildSlice (aa := [(0, _), (1, _)]) rfl Tryz.underlying101 Tryz.sizeOf31 Tryz.zeroValue31 rfl (by decide) (by decide) (by decide) (by kernel_rfl) ⟨rfl, rfl, rfl, rfl, rfl, rfl, trivial⟩ ((rfl : _ = some [[iv p.n, iv p.s], [iv v.n, iv v.s]].flatten)) rfl rfl) ?_
      refine Dr_p (Pu_call (smax_a [(p.n, p.s), (v.n, v.s)]) rfl ⟨Sub.rfl, trivial⟩) ?_
      refine Dr_p (Pu_nilb rfl rfl) ?_
      refine Dr_p (Pu_fieldb 3 rfl Tryz.underlying84 rfl rfl Tryz.sizeOf31 rfl) ?_
      refine Dr_nil ?_
      refine Al_storeN rfl rfl rfl (by kernel_rfl) Tryz.isAgg31 Tryz.sizeOf31 rfl rfl rfl rfl (Nat.le_of_ble_eq_true rfl) ?_
      refine Al_nil (Aw_seq (Aw_region ?_))
      refine Al_p Pu_mvr ?_
      refine Al_nil ?_
      rw [e1, e2]
      refine Aw_ret ?_
      exact ⟨_, _, [], rfl, Sub.rfl, ⟨rfl, rfl, rfl, trivial⟩, rfl⟩ -- ret 4
set_option maxHeartbeats 1000000 in
theorem stStep_g {m : Nat} (hp : p.Ok m) (hm : m ≤ 1000) : GCall Tryz.prog 16 [.bx 1001 0 0] (ST p b) (some (ST p.step b, .d (.tup [.row (p.stepV.getD default).row, bv p.stepV.isSome]))) := by
  refine GCall_enterL (fun _ _ => by kernel_rfl) Tryz.func16 rfl Tryz.ntmps16 (ReadsS.cN1 Tryz.results16 Tryz.isAgg34 Tryz.sizeOf34) (Nat.le_of_ble_eq_true rfl) (fun hok hokB M0 w0 hl => ?_)
  have hwl := hp.wl
  have hnx := qnext_a p.wait (J.have' p.cs) p.rs hp.rl (PS.wait_past hp) (J.have_srt hp.rise) (hp.hl hm) (by omega)
  refine Aw_seq (Aw_region ?_)
  refine Al_alloc rfl rfl rfl (by decide) Tryz.zeroValue34 rfl (by kernel_rfl) (fun g2 => ?_)
  refine Al_p Pu_mvr ?_
  refine Al_nil (Aw_seq (Aw_seq (Aw_region ?_)))
  refine Al_p Pu_mvl ?_
  refine Al_p (Pu_eqnilb Tryz.underlying24 rfl rfl) ?_
  refine Al_nil ?_
  refine Aw_condF rfl (rfl) ?_
  refine Aw_skip ?_
  -- join 0: live [0, 2, 4, 5, 6], turned [4, 5, 6]
  refine Aw_seq ?_
  refine Aw_drawPA 10 13 6 (by kernel_rfl) (by kernel_rfl) rfl (by decide) rfl rfl rfl rfl (by decide) Tryz.zeroValue34 rfl (by kernel_rfl) rfl ?_
  refine Dr_p Pu_mvl ?_
  refine Dr_p (Pu_nilb rfl rfl) ?_
  refine Dr_p (Pu_fieldb 2 rfl Tryz.underlying84 rfl rfl Tryz.sizeOf65 rfl) ?_
  refine Dr_p (Pu_loadb rfl Tryz.isAgg65 rfl rfl rfl) ?_
  refine Dr_p Pu_mvl ?_
  refine Dr_p (Pu_gcall [(1001, 1001, 0), (1002, 1002, 0), (1003, 1003, 0)] (stHave_g p b hp hm) (ST_in ..) rfl ⟨rfl, rfl, rfl, trivial⟩ rfl ⟨Sub.rfl, trivial⟩) ?_
  refine Dr_p Pu_mvl ?_
  refine Dr_p (Pu_gcall [(1001, 1001, 0), (1002, 1002, 0), (1003, 1003, 0)] (stOwn_g p b hp.rl) (ST_in ..) rfl ⟨rfl, rfl, rfl, trivial⟩ rfl ⟨Sub.rfl, trivial⟩) ?_
  refine Dr_p (Pu_call (hnx) rfl ⟨Sub.rfl, Sub.rfl, Sub.rfl, trivial⟩) ?_
  refine Dr_p Pu_mvl ?_
  refine Dr_nil ⟨?_, fun g4 => ?_⟩
  · refine Ad_take 10 rfl (PuI_extract rfl rfl rfl) rfl rfl (by decide) (by kernel_rfl) (by kernel_rfl) (by kernel_rfl) (by kernel_rfl) (fun _ _ h => h) ?_
    refine Ad_take 11 rfl (PuI_extract rfl rfl rfl) rfl rfl (by decide) (by kernel_rfl) (by kernel_rfl) (by kernel_rfl) (by kernel_rfl) (fun _ _ h => h) ?_
    refine Ad_take 12 rfl (PuI_extract rfl rfl rfl) rfl rfl (by decide) (by kernel_rfl) (by kernel_rfl) (by kernel_rfl) (by kernel_rfl) (fun _ _ h => h) ?_
    refine Ad_one 13 rfl (by kernel_rfl) ?_
    refine Al_alloc rfl rfl rfl (by decide) Tryz.zeroValue34 rfl (by kernel_rfl) (fun g4 => ?_)
    refine Al_nil ?_
    refine Ad_one 14 rfl (by kernel_rfl) ?_
    refine Al_storeN rfl rfl rfl (by kernel_rfl) Tryz.isAgg34 Tryz.sizeOf34 rfl rfl rfl rfl (Nat.le_of_ble_eq_true rfl) ?_
    refine Al_nil ?_
    refine Ad_take 15 rfl (PuI_move (.inr rfl) (by conv => lhs; whnf)) rfl rfl (by decide) (by kernel_rfl) (by kernel_rfl) (by kernel_rfl) (by kernel_rfl) (fun _ _ h => h) ?_
    refine Ad_take 16 rfl (PuI_move (.inr rfl) (by conv => lhs; whnf)) rfl rfl (by decide) (by kernel_rfl) (by kernel_rfl) (by kernel_rfl) (by kernel_rfl) (fun _ _ h => h) ?_
    refine Ad_done (by kernel_rfl) ?_
    -- join 1: live [2, 4, 6], turned []
    refine Aw_seq (Aw_seq (Aw_region ?_))
    refine Al_p Pu_mvl ?_
    refine Al_nil ?_
    refine Aw_cond rfl (fun h23 => ?_) (fun h23 => ?_)
    · skip
      obtain ⟨v, hv⟩ := Option.isSome_iff_exists.1 h23
      have hv2 : p.stepV = some v := hv
      have e1 : p.step = { p with wait := J.nextL p.wait (J.have' p.cs) p.rs, cs := (J.sput p.rs p.cs v).1 } := by unfold PS.step; rw [hv2]
      rw [hv]
      refine Aw_seq ?_
      refine Aw_draw 5 (by kernel_rfl) (by kernel_rfl) ?_
      refine Dr_p Pu_mvl ?_
      refine Dr_p (Pu_nilb rfl rfl) ?_
      refine Dr_p (Pu_fieldb 0 rfl Tryz.underlying84 rfl rfl Tryz.sizeOf82 rfl) ?_
      refine Dr_p (Pu_loadAg (r := [.bx 1002 0 0]) rfl Tryz.isAgg82 Tryz.sizeOf82 rfl rfl (by exact rfl) rfl) ?_
      refine Dr_p (Pu_loadbN (r := [_, _, _, _, _, _]) rfl Tryz.isAgg34 Tryz.sizeOf34 rfl rfl rfl rfl) ?_
      refine Dr_nil ?_
      refine Al_gcall [(1001, 1002, 0), (1002, 1003, 0)] [] (kput_g p.rs p.cs b v hp.rl hp.rise (hp.sm.mono hm)) rfl rfl rfl (by decide) (by kernel_rfl) ⟨rfl, rfl, trivial⟩ rfl ⟨Sub.rfl, Sub.rfl, trivial⟩ (fun g29 => ?_)
      refine Al_nil (Aw_region ?_)
      refine Al_p Pu_mvl ?_
      refine Al_p Pu_mvl ?_
      refine Al_p (Pu_nilb rfl rfl) ?_
      refine Al_p (Pu_fieldb 2 rfl Tryz.underlying84 rfl rfl Tryz.sizeOf65 rfl) ?_
      refine Al_store1 rfl rfl rfl (by kernel_rfl) Tryz.isAgg65 Tryz.sizeOf65 rfl rfl (Nat.le_of_ble_eq_true rfl) (by conv => lhs; whnf) rfl ?_
      refine Al_nil (Aw_seq (Aw_region ?_))
      refine Al_p (Pu_loadbN (r := [_, _, _, _, _, _]) rfl Tryz.isAgg34 Tryz.sizeOf34 rfl rfl rfl rfl) ?_
      refine Al_p Pu_mvl ?_
      refine Al_storeN rfl rfl rfl (by kernel_rfl) Tryz.isAgg34 Tryz.sizeOf34 rfl rfl rfl rfl (Nat.le_of_ble_eq_true rfl) ?_
      refine Al_p Pu_mvr ?_
      refine Al_nil ?_
      rw [e1, hv2]
      refine Aw_ret ?_
      exact ⟨_, _, [], rfl, ⟨_, rfl, _, _, _, _, _, [_, _, _, _, _, _], _, rfl, rfl, rfl, rfl, Sub.rfl, rfl⟩, ⟨rfl, rfl, rfl, trivial⟩, rfl⟩ -- ret 0
    · skip
      have hv : J.nextV p.wait (J.have' p.cs) p.rs = none := by simpa using h23
      have hv2 : p.stepV = none := hv
      have e1 : p.step = p := by unfold PS.step; rw [hv2]
      rw [hv]
      refine Aw_skip (Aw_seq (Aw_region ?_))
      refine Al_p (Pu_loadbN (r := [_, _, _, _, _, _]) rfl Tryz.isAgg34 Tryz.sizeOf34 rfl rfl rfl rfl) ?_
      refine Al_p Pu_mvl ?_
      refine Al_storeN rfl rfl rfl (by kernel_rfl) Tryz.isAgg34 Tryz.sizeOf34 rfl rfl rfl rfl (Nat.le_of_ble_eq_true rfl) ?_
      refine Al_p Pu_mvr ?_
      refine Al_nil ?_
      rw [e1, hv2]
      refine Aw_ret ?_
      exact ⟨_, _, [], rfl, ⟨_, rfl, _, _, _, _, _, [_, _, _, _, _, _], _, rfl, rfl, rfl, rfl, Sub.rfl, rfl⟩, ⟨rfl, rfl, rfl, trivial⟩, rfl⟩ -- ret 1
  · refine Ad_take 10 rfl (PuI_extract rfl rfl rfl) rfl rfl (by decide) (by kernel_rfl) (by kernel_rfl) (by kernel_rfl) (by kernel_rfl) (fun _ _ h => h) ?_
    refine Ad_take 11 rfl (PuI_extract rfl rfl rfl) rfl rfl (by decide) (by kernel_rfl) (by kernel_rfl) (by kernel_rfl) (by kernel_rfl) (fun _ _ h => h) ?_
    refine Ad_take 12 rfl (PuI_extract rfl rfl rfl) rfl rfl (by decide) (by kernel_rfl) (by kernel_rfl) (by kernel_rfl) (by kernel_rfl) (fun _ _ h => h) ?_
    refine Ad_one 14 rfl (by kernel_rfl) ?_
    refine Al_storeN rfl rfl rfl (by kernel_rfl) Tryz.isAgg34 Tryz.sizeOf34 rfl rfl rfl rfl (Nat.le_of_ble_eq_true rfl) ?_
    refine Al_nil ?_
    refine Ad_take 15 rfl (PuI_move (.inr rfl) (by conv => lhs; whnf)) rfl rfl (by decide) (by kernel_rfl) (by kernel_rfl) (by kernel_rfl) (by kernel_rfl) (fun _ _ h => h) ?_
    refine Ad_take 16 rfl (PuI_move (.inr rfl) (by conv => lhs; whnf)) rfl rfl (by decide) (by kernel_rfl) (by kernel_rfl) (by kernel_rfl) (by kernel_rfl) (fun _ _ h => h) ?_
    refine Ad_done (by kernel_rfl) ?_
    -- join 1: live [2, 4, 6], turned []
    refine Aw_seq (Aw_seq (Aw_region ?_))
    refine Al_p Pu_mvl ?_
    refine Al_nil ?_
    refine Aw_cond rfl (fun h23 => ?_) (fun h23 => ?_)
    · skip
      obtain ⟨v, hv⟩ := Option.isSome_iff_exists.1 h23
      have hv2 : p.stepV = some v := hv
      have e1 : p.step = { p with wait := J.nextL p.wait (J.have' p.cs) p.rs, cs := (J.sput p.rs p.cs v).1 } := by unfold PS.step; rw [hv2]
      rw [hv]
      refine Aw_seq ?_
      refine Aw_draw 5 (by kernel_rfl) (by kernel_rfl) ?_
      refine Dr_p Pu_mvl ?_
      refine Dr_p (Pu_nilb rfl rfl) ?_
      refine Dr_p (Pu_fieldb 0 rfl Tryz.underlying84 rfl rfl Tryz.sizeOf82 rfl) ?_
      refine Dr_p (Pu_loadAg (r := [.bx 1002 0 0]) rfl Tryz.isAgg82 Tryz.sizeOf82 rfl rfl (by exact rfl) rfl) ?_
      refine Dr_p (Pu_loadbN (r := [_, _, _, _, _, _]) rfl Tryz.isAgg34 Tryz.sizeOf34 rfl rfl rfl rfl) ?_
      refine Dr_nil ?_
      refine Al_gcall [(1001, 1002, 0), (1002, 1003, 0)] [] (kput_g p.rs p.cs b v hp.rl hp.rise (hp.sm.mono hm)) rfl rfl rfl (by decide) (by kernel_rfl) ⟨rfl, rfl, trivial⟩ rfl ⟨Sub.rfl, Sub.rfl, trivial⟩ (fun g29 => ?_)
      refine Al_nil (Aw_region ?_)
      refine Al_p Pu_mvl ?_
      refine Al_p Pu_mvl ?_
      refine Al_p (Pu_nilb rfl rfl) ?_
      refine Al_p (Pu_fieldb 2 rfl Tryz.underlying84 rfl rfl Tryz.sizeOf65 rfl) ?_
      refine Al_store1 rfl rfl rfl (by kernel_rfl) Tryz.isAgg65 Tryz.sizeOf65 rfl rfl (Nat.le_of_ble_eq_true rfl) (by conv => lhs; whnf) rfl ?_
      refine Al_nil (Aw_seq (Aw_region ?_))
      refine Al_p (Pu_loadbN (r := [_, _, _, _, _, _]) rfl Tryz.isAgg34 Tryz.sizeOf34 rfl rfl rfl rfl) ?_
      refine Al_p Pu_mvl ?_
      refine Al_storeN rfl rfl rfl (by kernel_rfl) Tryz.isAgg34 Tryz.sizeOf34 rfl rfl rfl rfl (Nat.le_of_ble_eq_true rfl) ?_
      refine Al_p Pu_mvr ?_
      refine Al_nil ?_
      rw [e1, hv2]
      refine Aw_ret ?_
      exact ⟨_, _, [], rfl, ⟨_, rfl, _, _, _, _, _, [_, _, _, _, _, _], _, rfl, rfl, rfl, rfl, Sub.rfl, rfl⟩, ⟨rfl, rfl, rfl, trivial⟩, rfl⟩ -- ret 2
    · skip
      have hv : J.nextV p.wait (J.have' p.cs) p.rs = none := by simpa using h23
      have hv2 : p.stepV = none := hv
      have e1 : p.step = p := by unfold PS.step; rw [hv2]
      rw [hv]
      refine Aw_skip (Aw_seq (Aw_region ?_))
      refine Al_p (Pu_loadbN (r := [_, _, _, _, _, _]) rfl Tryz.isAgg34 Tryz.sizeOf34 rfl rfl rfl rfl) ?_
      refine Al_p Pu_mvl ?_
      refine Al_storeN rfl rfl rfl (by kernel_rfl) Tryz.isAgg34 Tryz.sizeOf34 rfl rfl rfl rfl (Nat.le_of_ble_eq_true rfl) ?_
      refine Al_p Pu_mvr ?_
      refine Al_nil ?_
      rw [e1, hv2]
      refine Aw_ret ?_
      exact ⟨_, _, [], rfl, ⟨_, rfl, _, _, _, _, _, [_, _, _, _, _, _], _, rfl, rfl, rfl, rfl, Sub.rfl, rfl⟩, ⟨rfl, rfl, rfl, trivial⟩, rfl⟩ -- ret 3
theorem stClean_g (n s : Int) (pins : List Dep) (hpl : pins.length ≤ 100000) {m : Nat} (hp : p.Ok m) (hm : m ≤ 1000) : GCall Tryz.prog 25 [.bx 1001 0 0, .d (.row [iv n, iv s]), .d (.sl 3 (pins.map Dep.row))] (ST p b) (some (ST (p.clean n s pins) b, .d (.tup []))) := by
  refine GCall_enterL (fun _ _ => by kernel_rfl) Tryz.func25 rfl Tryz.ntmps25 (ReadsS.r0 Tryz.results25) (Nat.le_of_ble_eq_true rfl) (fun hok hokB M0 w0 hl => ?_)
  refine Aw_seq (Aw_region ?_)
  refine Al_p (Pu_boxN rfl rfl) ?_
  refine Al_nil (Aw_seq (Aw_region ?_))
  refine Al_p Pu_mvl ?_
  refine Al_p (Pu_neqnilb Tryz.underlying24 rfl rfl) ?_
  refine Al_nil ?_
  refine Aw_condT rfl (rfl) ?_
  refine Aw_draw 7 (by kernel_rfl) (by kernel_rfl) ?_
  refine Dr_p Pu_mvl ?_
  refine Dr_p (Pu_nilb rfl rfl) ?_
  refine Dr_p (Pu_fieldb 0 rfl Tryz.underlying84 rfl rfl Tryz.sizeOf82 rfl) ?_
  refine Dr_p (Pu_fieldb 0 rfl Tryz.underlying82 rfl rfl Tryz.sizeOf79 rfl) ?_
  refine Dr_p (Pu_loadb rfl Tryz.isAgg79 rfl rfl rfl) ?_
  refine Dr_p (Pu_loadN rfl Tryz.isAgg31 Tryz.sizeOf31 rfl (Nat.le_of_ble_eq_true rfl)) ?_
  refine Dr_p Pu_mvl ?_
  refine Dr_nil ?_
  refine Al_gcall [(1001, 1002, 0), (1002, 1003, 0)] [] (sclean_g p.rs p.cs b n s pins hpl hp.rise (hp.sm.mono hm)) rfl rfl rfl (by decide) (by kernel_rfl) ⟨rfl, rfl, trivial⟩ rfl ⟨Sub.rfl, Sub.rfl, Sub.rfl, trivial⟩ (fun g15 => ?_)
  refine Al_nil ?_
  exact ⟨_, _, [], rfl, rfl, ⟨rfl, rfl, rfl, trivial⟩, rfl⟩ -- ret 0
set_option maxHeartbeats 1000000 in
theorem stWrite_g (key value : ByteArray) (gone : Bool) (past : List Dep) (hpl : past.length ≤ 1000000) {m : Nat} (hp : p.Ok m) (hm : m ≤ 1000) : GCall Tryz.prog 21 [.bx 1001 0 0, .d (tv key), .d (tv value), .d (bv gone), .d (.sl 3 (past.map Dep.row))] (ST p b) (some (ST (p.write key value gone past) b, .d (.tup [.row (p.writeV key value gone past).row, iv (p.writeE key value gone past)]))) := by
  refine GCall_enterL (fun _ _ => by kernel_rfl) Tryz.func21 rfl Tryz.ntmps21 (ReadsS.cN1 Tryz.results21 Tryz.isAgg34 Tryz.sizeOf34) (Nat.le_of_ble_eq_true rfl) (fun hok hokB M0 w0 hl => ?_)
  have hid := hp.id
  refine Aw_seq (Aw_region ?_)
  refine Al_alloc rfl rfl rfl (by decide) Tryz.zeroValue34 rfl (by kernel_rfl) (fun g10 => ?_)
  refine Al_p Pu_mvr ?_
  refine Al_nil (Aw_seq (Aw_block (Aw_seq (Aw_region ?_))))
  refine Al_p Pu_mvl ?_
  refine Al_p (Pu_eqnilb Tryz.underlying24 rfl rfl) ?_
  refine Al_p Pu_mvr ?_
  refine Al_nil ?_
  refine Aw_condF rfl (rfl) ?_
  refine Aw_seq (Aw_region ?_)
  refine Al_p Pu_mvl ?_
  refine Al_p Pu_mvl ?_
  refine Al_p (Pu_gcall [(1001, 1001, 0), (1002, 1002, 0), (1003, 1003, 0)] (stowns_g p b key hp.rl) (ST_in ..) rfl ⟨rfl, rfl, rfl, trivial⟩ rfl ⟨Sub.rfl, Sub.rfl, trivial⟩) ?_
  refine Al_p (Pu_not rfl rfl) ?_
  refine Al_p Pu_mvr ?_
  refine Al_nil ?_
  refine Aw_cond rfl (fun h22 => ?_) (fun h22 => ?_)
  · skip
    have h0 : findR p.rs key < 0 := by simpa using h22
    have e2 : p.writeE key value gone past = 14 := by unfold PS.writeE; rw [if_pos h0]
    have e1 : p.write key value gone past = p := by unfold PS.write; rw [e2, if_neg (by decide)]
    have e3 : p.writeV key value gone past = default := by unfold PS.writeV; rw [e2, if_neg (by decide)]
    refine Aw_seq (Aw_region ?_)
    refine Al_p (Pu_build (aa := []) rfl Tryz.underlying34 Tryz.zeroValue34 (places34 Tryz.underlying34) (by kernel_rfl) trivial rfl) ?_
    refine Al_storeN rfl rfl rfl (by kernel_rfl) Tryz.isAgg34 Tryz.sizeOf34 rfl rfl rfl rfl (Nat.le_of_ble_eq_true rfl) ?_
    refine Al_p Pu_mvr ?_
    refine Al_nil ?_
    rw [e1, e2, e3]
    try rw [e4]
    first
      | refine Aw_boxle (k := 10) ((default : Ver).row.map .d) rfl ⟨Sub.rfl, Sub.rfl, Sub.rfl, Sub.rfl, Sub.rfl, Sub.nil, trivial⟩ ?_
      | skip
    refine Aw_ret ?_
    exact ⟨_, _, [], rfl, ⟨_, rfl, _, _, _, _, _, [_, _, _, _, _, _], _, rfl, rfl, rfl, rfl, Sub.rfl, rfl⟩, ⟨rfl, rfl, rfl, trivial⟩, rfl⟩ -- ret 0
  · skip
    have h0 : ¬ findR p.rs key < 0 := by simpa using h22
    refine Aw_skip (Aw_seq (Aw_region ?_))
    refine Al_p Pu_mvl ?_
    refine Al_p (Pu_nilb rfl rfl) ?_
    refine Al_p (Pu_fieldb 3 rfl Tryz.underlying84 rfl rfl Tryz.sizeOf31 rfl) ?_
    refine Al_p (Pu_loadbN (r := [_, _]) rfl Tryz.isAgg31 Tryz.sizeOf31 rfl rfl rfl rfl) ?_
    refine Al_alloc rfl rfl rfl (by decide) Tryz.zeroValue31 rfl (by kernel_rfl) (fun g12 => ?_)
    refine Al_storeN rfl rfl rfl (by kernel_rfl) Tryz.isAgg31 Tryz.sizeOf31 rfl rfl rfl rfl (Nat.le_of_ble_eq_true rfl) ?_
    refine Al_nil (Aw_seq (Aw_seq (Aw_region ?_)))
    refine Al_p Pu_mvl ?_
    refine Al_p (Pu_len rfl Tryz.underlying32 rfl (by first | exact List.length_map .. | exact rfl)) ?_
    refine Al_p Pu_mvl ?_
    refine Al_nil (Aw_block ?_)
    refine Aw_loopk (ι := Nat) [0, 1, 2, 3, 4, 10, 12, 32, 33] [1001, 1002, 1003, 10] (fun k => [(34, .d (iv k))]) (fun k => [(12, g12, .box 31 [.d (iv (p.seen (past.take k)).1), .d (iv (p.seen (past.take k)).2)])]) (fun k => k ≤ past.length) (fun k => past.length - k) (0) (Nat.zero_le _) ⟨Sub.rfl, trivial⟩ ⟨rfl, trivial⟩ ?_
    rintro k hk0
    refine Aw_seq (Aw_region ?_)
    refine Al_p (Pu_cmp rfl rfl rfl rfl) ?_
    refine Al_nil (Aw_seq ?_)
    refine Aw_cond rfl (fun h35 => ?_) (fun h35 => ?_)
    · (try simp only [decide_eq_true_eq, decide_eq_false_iff_not, Bool.and_eq_true, Bool.or_eq_true, Bool.and_eq_false_iff, Bool.or_eq_false_iff, Bool.not_eq_true', Bool.not_eq_false', beq_iff_eq, Bool.not_eq_eq_eq_not, Bool.not_true, Bool.not_false, List.length_map, Bool.and_true, Bool.and_false, Bool.false_and, Bool.true_and, Bool.or_false, Bool.false_or] at h35)
      have hk : k < past.length := by omega
      have hsn := p.seen_take past hk
      refine Aw_skip (Aw_seq (Aw_block (Aw_seq (Aw_region ?_))))
      refine Al_p (Pu_index rfl Tryz.underlying32 Tryz.sizeOf59 rfl rfl (rfl) (mapgetD (d := default) hk)) ?_
      refine Al_p (Pu_loadN rfl Tryz.isAgg59 Tryz.sizeOf59 rfl (Nat.le_of_ble_eq_true rfl)) ?_
      refine Al_alloc rfl rfl rfl (by decide) Tryz.zeroValue59 rfl (by kernel_rfl) (fun g14 => ?_)
      refine Al_storeN rfl rfl rfl (by kernel_rfl) Tryz.isAgg59 Tryz.sizeOf59 rfl rfl rfl rfl (Nat.le_of_ble_eq_true rfl) ?_
      refine Al_nil (Aw_region ?_)
      refine Al_p (Pu_loadbN (r := [_, _]) rfl Tryz.isAgg31 Tryz.sizeOf31 rfl rfl rfl rfl) ?_
      refine Al_p (Pu_fieldb 1 rfl Tryz.underlying59 rfl rfl Tryz.sizeOf31 rfl) ?_
      refine Al_p (Pu_loadbN (r := [_, _]) rfl Tryz.isAgg31 Tryz.sizeOf31 rfl rfl rfl rfl) ?_
      refine Al_p (Pu_buildSlice (aa := [(0, _), (1, _)]) rfl Tryz.underlying101 Tryz.sizeOf31 Tryz.zeroValue31 rfl (by decide) (by decide) (by decide) (by kernel_rfl) ⟨rfl, rfl, rfl, rfl, rfl, rfl, trivial⟩ ((rfl : _ = some [[iv (p.seen (past.take k)).1, iv (p.seen (past.take k)).2], [iv (past.getD k default).n, iv (past.getD k default).s]].flatten)) rfl rfl) ?_
      refine Al_p (Pu_call (smax_a [((p.seen (past.take k)).1, (p.seen (past.take k)).2), ((past.getD k default).n, (past.getD k default).s)]) rfl ⟨Sub.rfl, trivial⟩) ?_
      refine Al_storeN rfl rfl rfl (by kernel_rfl) Tryz.isAgg31 Tryz.sizeOf31 rfl rfl rfl rfl (Nat.le_of_ble_eq_true rfl) ?_
      refine Al_nil (Aw_region ?_)
      refine Al_p (Pu_add rfl rfl rfl (fun h1 h2 => by simp only [A.inI, A.maxI] at *; omega)) ?_
      refine Al_p Pu_mvl ?_
      refine Al_nil ?_
      exact ⟨k + 1, by omega, by omega, Le.ov ⟨Sub.num (by omega), trivial⟩ ⟨Sub.rfl, Sub.rfl, Sub.rfl, Sub.rfl, Sub.rfl, Sub.rfl, Sub.rfl, Sub.rfl, Sub.rfl, trivial⟩ ⟨by rw [hsn]; rfl, trivial⟩ ⟨rfl, rfl, rfl, rfl, trivial⟩⟩ -- loop 0 next.0
    · (try simp only [decide_eq_true_eq, decide_eq_false_iff_not, Bool.and_eq_true, Bool.or_eq_true, Bool.and_eq_false_iff, Bool.or_eq_false_iff, Bool.not_eq_true', Bool.not_eq_false', beq_iff_eq, Bool.not_eq_eq_eq_not, Bool.not_true, Bool.not_false, List.length_map, Bool.and_true, Bool.and_false, Bool.false_and, Bool.true_and, Bool.or_false, Bool.false_or] at h35)
      have hkk : k = past.length := by omega
      rw [show past.take k = past from by rw [hkk, List.take_length]]
      refine Aw_exit ?_
      -- join 0: live [0, 1, 2, 3, 4, 10, 15, 16], turned [15, 16]
      refine Aw_seq ?_
      refine Aw_drawPA 7 9 4 (by kernel_rfl) (by kernel_rfl) rfl (by decide) rfl rfl rfl rfl (by decide) Tryz.zeroValue31 rfl (by kernel_rfl) rfl ?_
      refine Dr_p (Pu_loadbN (r := [_, _]) rfl Tryz.isAgg31 Tryz.sizeOf31 rfl rfl rfl rfl) ?_
      refine Dr_p Pu_mvl ?_
      refine Dr_p (Pu_nilb rfl rfl) ?_
      refine Dr_p (Pu_fieldb 1 rfl Tryz.underlying84 rfl rfl Tryz.sizeOf3 rfl) ?_
      refine Dr_p (Pu_loadb rfl Tryz.isAgg3 rfl rfl rfl) ?_
      refine Dr_p (Pu_call (snextG_a (p.seen past).1 (p.seen past).2 p.id hid) rfl ⟨Sub.rfl, Sub.rfl, trivial⟩) ?_
      refine Dr_p Pu_mvl ?_
      refine Dr_nil ⟨?_, fun g15 => ?_⟩
      · refine Ad_take 7 rfl (PuI_extract rfl rfl rfl) rfl rfl (by decide) (by kernel_rfl) (by kernel_rfl) (by kernel_rfl) (by kernel_rfl) (fun _ _ h => h) ?_
        refine Ad_take 8 rfl (PuI_extract rfl rfl rfl) rfl rfl (by decide) (by kernel_rfl) (by kernel_rfl) (by kernel_rfl) (by kernel_rfl) (fun _ _ h => h) ?_
        refine Ad_one 9 rfl (by kernel_rfl) ?_
        refine Al_alloc rfl rfl rfl (by decide) Tryz.zeroValue31 rfl (by kernel_rfl) (fun g15 => ?_)
        refine Al_nil ?_
        refine Ad_one 10 rfl (by kernel_rfl) ?_
        refine Al_storeN rfl rfl rfl (by kernel_rfl) Tryz.isAgg31 Tryz.sizeOf31 rfl rfl rfl rfl (Nat.le_of_ble_eq_true rfl) ?_
        refine Al_nil ?_
        refine Ad_take 11 rfl (PuI_move (.inr rfl) (by conv => lhs; whnf)) rfl rfl (by decide) (by kernel_rfl) (by kernel_rfl) (by kernel_rfl) (by kernel_rfl) (fun _ _ h => h) ?_
        refine Ad_done (by kernel_rfl) ?_
        refine Aw_seq (Aw_seq (Aw_region ?_))
        refine Al_p Pu_mvl ?_
        refine Al_p (Pu_cmp rfl rfl rfl rfl) ?_
        refine Al_nil ?_
        refine Aw_cond rfl (fun h54 => ?_) (fun h54 => ?_)
        · (try simp only [decide_eq_true_eq, decide_eq_false_iff_not, Bool.and_eq_true, Bool.or_eq_true, Bool.and_eq_false_iff, Bool.or_eq_false_iff, Bool.not_eq_true', Bool.not_eq_false', beq_iff_eq, Bool.not_eq_eq_eq_not, Bool.not_true, Bool.not_false, List.length_map, Bool.and_true, Bool.and_false, Bool.false_and, Bool.true_and, Bool.or_false, Bool.false_or] at h54)
          have h1 : 1099511627776 ≤ (p.seen past).1 := by unfold J.nextE at h54; split at h54 <;> simp_all
          have e2 : p.writeE key value gone past = 18 := by unfold PS.writeE; rw [if_neg h0, if_pos h1]
          have e1 : p.write key value gone past = p := by unfold PS.write; rw [e2, if_neg (by decide)]
          have e3 : p.writeV key value gone past = default := by unfold PS.writeV; rw [e2, if_neg (by decide)]
          have e4 : J.nextE (p.seen past).1 = 18 := by unfold J.nextE; rw [if_pos h1]
          refine Aw_seq (Aw_region ?_)
          refine Al_p (Pu_build (aa := []) rfl Tryz.underlying34 Tryz.zeroValue34 (places34 Tryz.underlying34) (by kernel_rfl) trivial rfl) ?_
          refine Al_p Pu_mvl ?_
          refine Al_storeN rfl rfl rfl (by kernel_rfl) Tryz.isAgg34 Tryz.sizeOf34 rfl rfl rfl rfl (Nat.le_of_ble_eq_true rfl) ?_
          refine Al_p Pu_mvr ?_
          refine Al_nil ?_
          rw [e1, e2, e3]
          try rw [e4]
          first
            | refine Aw_boxle (k := 10) ((default : Ver).row.map .d) rfl ⟨Sub.rfl, Sub.rfl, Sub.rfl, Sub.rfl, Sub.rfl, Sub.nil, trivial⟩ ?_
            | skip
          refine Aw_ret ?_
          exact ⟨_, _, [], rfl, ⟨_, rfl, _, _, _, _, _, [_, _, _, _, _, _], _, rfl, rfl, rfl, rfl, Sub.rfl, rfl⟩, ⟨rfl, rfl, rfl, trivial⟩, rfl⟩ -- ret 1
        · (try simp only [decide_eq_true_eq, decide_eq_false_iff_not, Bool.and_eq_true, Bool.or_eq_true, Bool.and_eq_false_iff, Bool.or_eq_false_iff, Bool.not_eq_true', Bool.not_eq_false', beq_iff_eq, Bool.not_eq_eq_eq_not, Bool.not_true, Bool.not_false, List.length_map, Bool.and_true, Bool.and_false, Bool.false_and, Bool.true_and, Bool.or_false, Bool.false_or] at h54)
          have h1 : ¬ 1099511627776 ≤ (p.seen past).1 := by unfold J.nextE at h54; split at h54 <;> simp_all
          have e5 : J.nextR (p.seen past).1 p.id = (max (p.seen past).1 0 + 1, p.id) := by unfold J.nextR; rw [if_neg h1]
          rw [e5]
          refine Aw_skip (Aw_seq ?_)
          refine Aw_drawA 7 (by kernel_rfl) (by kernel_rfl) rfl rfl rfl rfl (by decide) Tryz.zeroValue34 rfl (by kernel_rfl) rfl ?_
          refine Dr_p Pu_mvl ?_
          refine Dr_p Pu_mvl ?_
          refine Dr_p Pu_mvl ?_
          refine Dr_p (Pu_loadbN (r := [_, _]) rfl Tryz.isAgg31 Tryz.sizeOf31 rfl rfl rfl rfl) ?_
          refine Dr_p Pu_mvl ?_
          refine Dr_p (Pu_call (cloneD_a past hpl) rfl ⟨Sub.rfl, trivial⟩) ?_
          refine Dr_p (Pu_build (aa := [(0, _), (1, _), (2, _), (3, _), (4, _)]) rfl Tryz.underlying34 Tryz.zeroValue34 (places34 Tryz.underlying34) (by kernel_rfl) ⟨rfl, rfl, rfl, rfl, rfl, rfl, rfl, rfl, rfl, rfl, rfl, rfl, rfl, rfl, rfl, trivial⟩ rfl) ?_
          refine Dr_nil ?_
          intro g17
          refine Al_storeN rfl rfl rfl (by kernel_rfl) Tryz.isAgg34 Tryz.sizeOf34 rfl rfl rfl rfl (Nat.le_of_ble_eq_true rfl) ?_
          refine Al_nil (Aw_seq (Aw_seq (Aw_region ?_)))
          refine Al_p (Pu_loadbN (r := [_, _, _, _, _, _]) rfl Tryz.isAgg34 Tryz.sizeOf34 rfl rfl rfl rfl) ?_
          refine Al_p (Pu_call (wcheck_a (p.made key value gone past)) rfl ⟨Sub.rfl, trivial⟩) ?_
          refine Al_p (Pu_not rfl rfl) ?_
          refine Al_nil ?_
          refine Aw_cond rfl (fun h66 => ?_) (fun h66 => ?_)
          · skip
            have h2 : J.checkB (p.made key value gone past) = false := by simpa using h66
            have e2 : p.writeE key value gone past = 1 := by unfold PS.writeE; rw [if_neg h0, if_neg h1, if_neg (by rw [h2]; decide)]
            have e1 : p.write key value gone past = p := by unfold PS.write; rw [e2, if_neg (by decide)]
            have e3 : p.writeV key value gone past = default := by unfold PS.writeV; rw [e2, if_neg (by decide)]
            refine Aw_seq (Aw_region ?_)
            refine Al_p (Pu_build (aa := []) rfl Tryz.underlying34 Tryz.zeroValue34 (places34 Tryz.underlying34) (by kernel_rfl) trivial rfl) ?_
            refine Al_storeN rfl rfl rfl (by kernel_rfl) Tryz.isAgg34 Tryz.sizeOf34 rfl rfl rfl rfl (Nat.le_of_ble_eq_true rfl) ?_
            refine Al_p Pu_mvr ?_
            refine Al_nil ?_
            rw [e1, e2, e3]
            try rw [e4]
            first
              | refine Aw_boxle (k := 10) ((default : Ver).row.map .d) rfl ⟨Sub.rfl, Sub.rfl, Sub.rfl, Sub.rfl, Sub.rfl, Sub.nil, trivial⟩ ?_
              | skip
            refine Aw_ret ?_
            exact ⟨_, _, [], rfl, ⟨_, rfl, _, _, _, _, _, [_, _, _, _, _, _], _, rfl, rfl, rfl, rfl, Sub.rfl, rfl⟩, ⟨rfl, rfl, rfl, trivial⟩, rfl⟩ -- ret 2
          · skip
            have h2 : J.checkB (p.made key value gone past) = true := by simpa using h66
            have e2 : p.writeE key value gone past = 0 := by unfold PS.writeE; rw [if_neg h0, if_neg h1, if_pos h2]
            have e1 : p.write key value gone past = p.writeP key value gone past := by unfold PS.write; rw [e2, if_pos rfl]
            have e3 : p.writeV key value gone past = p.made key value gone past := by unfold PS.writeV; rw [e2, if_pos rfl]
            refine Aw_skip (Aw_seq ?_)
            refine Aw_draw 5 (by kernel_rfl) (by kernel_rfl) ?_
            refine Dr_p Pu_mvl ?_
            refine Dr_p (Pu_nilb rfl rfl) ?_
            refine Dr_p (Pu_fieldb 0 rfl Tryz.underlying84 rfl rfl Tryz.sizeOf82 rfl) ?_
            refine Dr_p (Pu_loadAg (r := [.bx 1002 0 0]) rfl Tryz.isAgg82 Tryz.sizeOf82 rfl rfl (by exact rfl) rfl) ?_
            refine Dr_p (Pu_loadbN (r := [_, _, _, _, _, _]) rfl Tryz.isAgg34 Tryz.sizeOf34 rfl rfl rfl rfl) ?_
            refine Dr_nil ?_
            refine Al_gcall [(1001, 1002, 0), (1002, 1003, 0)] [] (kput_g p.rs p.cs b (p.made key value gone past) hp.rl hp.rise (hp.sm.mono hm)) rfl rfl rfl (by decide) (by kernel_rfl) ⟨rfl, rfl, trivial⟩ rfl ⟨Sub.rfl, Sub.rfl, trivial⟩ (fun g73 => ?_)
            refine Al_nil (Aw_seq (Aw_region ?_))
            refine Al_p Pu_mvl ?_
            refine Al_p (Pu_loadbN (r := [_, _]) rfl Tryz.isAgg31 Tryz.sizeOf31 rfl rfl rfl rfl) ?_
            refine Al_p (Pu_nilb rfl rfl) ?_
            refine Al_p (Pu_fieldb 3 rfl Tryz.underlying84 rfl rfl Tryz.sizeOf31 rfl) ?_
            refine Al_storeN rfl rfl rfl (by kernel_rfl) Tryz.isAgg31 Tryz.sizeOf31 rfl rfl rfl rfl (Nat.le_of_ble_eq_true rfl) ?_
            refine Al_nil (Aw_seq (Aw_region ?_))
            refine Al_p (Pu_loadbN (r := [_, _, _, _, _, _]) rfl Tryz.isAgg34 Tryz.sizeOf34 rfl rfl rfl rfl) ?_
            refine Al_storeN rfl rfl rfl (by kernel_rfl) Tryz.isAgg34 Tryz.sizeOf34 rfl rfl rfl rfl (Nat.le_of_ble_eq_true rfl) ?_
            refine Al_p Pu_mvr ?_
            refine Al_nil ?_
            rw [e1, e2, e3]
            try rw [e4]
            first
              | refine Aw_boxle (k := 10) ((default : Ver).row.map .d) rfl ⟨Sub.rfl, Sub.rfl, Sub.rfl, Sub.rfl, Sub.rfl, Sub.nil, trivial⟩ ?_
              | skip
            refine Aw_ret ?_
            exact ⟨_, _, [], rfl, ⟨_, rfl, _, _, _, _, _, [_, _, _, _, _, _], _, rfl, rfl, rfl, rfl, Sub.rfl, rfl⟩, ⟨rfl, rfl, rfl, trivial⟩, rfl⟩ -- ret 3
      · refine Ad_take 7 rfl (PuI_extract rfl rfl rfl) rfl rfl (by decide) (by kernel_rfl) (by kernel_rfl) (by kernel_rfl) (by kernel_rfl) (fun _ _ h => h) ?_
        refine Ad_take 8 rfl (PuI_extract rfl rfl rfl) rfl rfl (by decide) (by kernel_rfl) (by kernel_rfl) (by kernel_rfl) (by kernel_rfl) (fun _ _ h => h) ?_
        refine Ad_one 10 rfl (by kernel_rfl) ?_
        refine Al_storeN rfl rfl rfl (by kernel_rfl) Tryz.isAgg31 Tryz.sizeOf31 rfl rfl rfl rfl (Nat.le_of_ble_eq_true rfl) ?_
        refine Al_nil ?_
        refine Ad_take 11 rfl (PuI_move (.inr rfl) (by conv => lhs; whnf)) rfl rfl (by decide) (by kernel_rfl) (by kernel_rfl) (by kernel_rfl) (by kernel_rfl) (fun _ _ h => h) ?_
        refine Ad_done (by kernel_rfl) ?_
        refine Aw_seq (Aw_seq (Aw_region ?_))
        refine Al_p Pu_mvl ?_
        refine Al_p (Pu_cmp rfl rfl rfl rfl) ?_
        refine Al_nil ?_
        refine Aw_cond rfl (fun h54 => ?_) (fun h54 => ?_)
        · (try simp only [decide_eq_true_eq, decide_eq_false_iff_not, Bool.and_eq_true, Bool.or_eq_true, Bool.and_eq_false_iff, Bool.or_eq_false_iff, Bool.not_eq_true', Bool.not_eq_false', beq_iff_eq, Bool.not_eq_eq_eq_not, Bool.not_true, Bool.not_false, List.length_map, Bool.and_true, Bool.and_false, Bool.false_and, Bool.true_and, Bool.or_false, Bool.false_or] at h54)
          have h1 : 1099511627776 ≤ (p.seen past).1 := by unfold J.nextE at h54; split at h54 <;> simp_all
          have e2 : p.writeE key value gone past = 18 := by unfold PS.writeE; rw [if_neg h0, if_pos h1]
          have e1 : p.write key value gone past = p := by unfold PS.write; rw [e2, if_neg (by decide)]
          have e3 : p.writeV key value gone past = default := by unfold PS.writeV; rw [e2, if_neg (by decide)]
          have e4 : J.nextE (p.seen past).1 = 18 := by unfold J.nextE; rw [if_pos h1]
          refine Aw_seq (Aw_region ?_)
          refine Al_p (Pu_build (aa := []) rfl Tryz.underlying34 Tryz.zeroValue34 (places34 Tryz.underlying34) (by kernel_rfl) trivial rfl) ?_
          refine Al_p Pu_mvl ?_
          refine Al_storeN rfl rfl rfl (by kernel_rfl) Tryz.isAgg34 Tryz.sizeOf34 rfl rfl rfl rfl (Nat.le_of_ble_eq_true rfl) ?_
          refine Al_p Pu_mvr ?_
          refine Al_nil ?_
          rw [e1, e2, e3]
          try rw [e4]
          first
            | refine Aw_boxle (k := 10) ((default : Ver).row.map .d) rfl ⟨Sub.rfl, Sub.rfl, Sub.rfl, Sub.rfl, Sub.rfl, Sub.nil, trivial⟩ ?_
            | skip
          refine Aw_ret ?_
          exact ⟨_, _, [], rfl, ⟨_, rfl, _, _, _, _, _, [_, _, _, _, _, _], _, rfl, rfl, rfl, rfl, Sub.rfl, rfl⟩, ⟨rfl, rfl, rfl, trivial⟩, rfl⟩ -- ret 4
        · (try simp only [decide_eq_true_eq, decide_eq_false_iff_not, Bool.and_eq_true, Bool.or_eq_true, Bool.and_eq_false_iff, Bool.or_eq_false_iff, Bool.not_eq_true', Bool.not_eq_false', beq_iff_eq, Bool.not_eq_eq_eq_not, Bool.not_true, Bool.not_false, List.length_map, Bool.and_true, Bool.and_false, Bool.false_and, Bool.true_and, Bool.or_false, Bool.false_or] at h54)
          have h1 : ¬ 1099511627776 ≤ (p.seen past).1 := by unfold J.nextE at h54; split at h54 <;> simp_all
          have e5 : J.nextR (p.seen past).1 p.id = (max (p.seen past).1 0 + 1, p.id) := by unfold J.nextR; rw [if_neg h1]
          rw [e5]
          refine Aw_skip (Aw_seq ?_)
          refine Aw_drawA 7 (by kernel_rfl) (by kernel_rfl) rfl rfl rfl rfl (by decide) Tryz.zeroValue34 rfl (by kernel_rfl) rfl ?_
          refine Dr_p Pu_mvl ?_
          refine Dr_p Pu_mvl ?_
          refine Dr_p Pu_mvl ?_
          refine Dr_p (Pu_loadbN (r := [_, _]) rfl Tryz.isAgg31 Tryz.sizeOf31 rfl rfl rfl rfl) ?_
          refine Dr_p Pu_mvl ?_
          refine Dr_p (Pu_call (cloneD_a past hpl) rfl ⟨Sub.rfl, trivial⟩) ?_
          refine Dr_p (Pu_build (aa := [(0, _), (1, _), (2, _), (3, _), (4, _)]) rfl Tryz.underlying34 Tryz.zeroValue34 (places34 Tryz.underlying34) (by kernel_rfl) ⟨rfl, rfl, rfl, rfl, rfl, rfl, rfl, rfl, rfl, rfl, rfl, rfl, rfl, rfl, rfl, trivial⟩ rfl) ?_
          refine Dr_nil ?_
          intro g17
          refine Al_storeN rfl rfl rfl (by kernel_rfl) Tryz.isAgg34 Tryz.sizeOf34 rfl rfl rfl rfl (Nat.le_of_ble_eq_true rfl) ?_
          refine Al_nil (Aw_seq (Aw_seq (Aw_region ?_)))
          refine Al_p (Pu_loadbN (r := [_, _, _, _, _, _]) rfl Tryz.isAgg34 Tryz.sizeOf34 rfl rfl rfl rfl) ?_
          refine Al_p (Pu_call (wcheck_a (p.made key value gone past)) rfl ⟨Sub.rfl, trivial⟩) ?_
          refine Al_p (Pu_not rfl rfl) ?_
          refine Al_nil ?_
          refine Aw_cond rfl (fun h66 => ?_) (fun h66 => ?_)
          · skip
            have h2 : J.checkB (p.made key value gone past) = false := by simpa using h66
            have e2 : p.writeE key value gone past = 1 := by unfold PS.writeE; rw [if_neg h0, if_neg h1, if_neg (by rw [h2]; decide)]
            have e1 : p.write key value gone past = p := by unfold PS.write; rw [e2, if_neg (by decide)]
            have e3 : p.writeV key value gone past = default := by unfold PS.writeV; rw [e2, if_neg (by decide)]
            refine Aw_seq (Aw_region ?_)
            refine Al_p (Pu_build (aa := []) rfl Tryz.underlying34 Tryz.zeroValue34 (places34 Tryz.underlying34) (by kernel_rfl) trivial rfl) ?_
            refine Al_storeN rfl rfl rfl (by kernel_rfl) Tryz.isAgg34 Tryz.sizeOf34 rfl rfl rfl rfl (Nat.le_of_ble_eq_true rfl) ?_
            refine Al_p Pu_mvr ?_
            refine Al_nil ?_
            rw [e1, e2, e3]
            try rw [e4]
            first
              | refine Aw_boxle (k := 10) ((default : Ver).row.map .d) rfl ⟨Sub.rfl, Sub.rfl, Sub.rfl, Sub.rfl, Sub.rfl, Sub.nil, trivial⟩ ?_
              | skip
            refine Aw_ret ?_
            exact ⟨_, _, [], rfl, ⟨_, rfl, _, _, _, _, _, [_, _, _, _, _, _], _, rfl, rfl, rfl, rfl, Sub.rfl, rfl⟩, ⟨rfl, rfl, rfl, trivial⟩, rfl⟩ -- ret 5
          · skip
            have h2 : J.checkB (p.made key value gone past) = true := by simpa using h66
            have e2 : p.writeE key value gone past = 0 := by unfold PS.writeE; rw [if_neg h0, if_neg h1, if_pos h2]
            have e1 : p.write key value gone past = p.writeP key value gone past := by unfold PS.write; rw [e2, if_pos rfl]
            have e3 : p.writeV key value gone past = p.made key value gone past := by unfold PS.writeV; rw [e2, if_pos rfl]
            refine Aw_skip (Aw_seq ?_)
            refine Aw_draw 5 (by kernel_rfl) (by kernel_rfl) ?_
            refine Dr_p Pu_mvl ?_
            refine Dr_p (Pu_nilb rfl rfl) ?_
            refine Dr_p (Pu_fieldb 0 rfl Tryz.underlying84 rfl rfl Tryz.sizeOf82 rfl) ?_
            refine Dr_p (Pu_loadAg (r := [.bx 1002 0 0]) rfl Tryz.isAgg82 Tryz.sizeOf82 rfl rfl (by exact rfl) rfl) ?_
            refine Dr_p (Pu_loadbN (r := [_, _, _, _, _, _]) rfl Tryz.isAgg34 Tryz.sizeOf34 rfl rfl rfl rfl) ?_
            refine Dr_nil ?_
            refine Al_gcall [(1001, 1002, 0), (1002, 1003, 0)] [] (kput_g p.rs p.cs b (p.made key value gone past) hp.rl hp.rise (hp.sm.mono hm)) rfl rfl rfl (by decide) (by kernel_rfl) ⟨rfl, rfl, trivial⟩ rfl ⟨Sub.rfl, Sub.rfl, trivial⟩ (fun g73 => ?_)
            refine Al_nil (Aw_seq (Aw_region ?_))
            refine Al_p Pu_mvl ?_
            refine Al_p (Pu_loadbN (r := [_, _]) rfl Tryz.isAgg31 Tryz.sizeOf31 rfl rfl rfl rfl) ?_
            refine Al_p (Pu_nilb rfl rfl) ?_
            refine Al_p (Pu_fieldb 3 rfl Tryz.underlying84 rfl rfl Tryz.sizeOf31 rfl) ?_
            refine Al_storeN rfl rfl rfl (by kernel_rfl) Tryz.isAgg31 Tryz.sizeOf31 rfl rfl rfl rfl (Nat.le_of_ble_eq_true rfl) ?_
            refine Al_nil (Aw_seq (Aw_region ?_))
            refine Al_p (Pu_loadbN (r := [_, _, _, _, _, _]) rfl Tryz.isAgg34 Tryz.sizeOf34 rfl rfl rfl rfl) ?_
            refine Al_storeN rfl rfl rfl (by kernel_rfl) Tryz.isAgg34 Tryz.sizeOf34 rfl rfl rfl rfl (Nat.le_of_ble_eq_true rfl) ?_
            refine Al_p Pu_mvr ?_
            refine Al_nil ?_
            rw [e1, e2, e3]
            try rw [e4]
            first
              | refine Aw_boxle (k := 10) ((default : Ver).row.map .d) rfl ⟨Sub.rfl, Sub.rfl, Sub.rfl, Sub.rfl, Sub.rfl, Sub.nil, trivial⟩ ?_
              | skip
            refine Aw_ret ?_
            exact ⟨_, _, [], rfl, ⟨_, rfl, _, _, _, _, _, [_, _, _, _, _, _], _, rfl, rfl, rfl, rfl, Sub.rfl, rfl⟩, ⟨rfl, rfl, rfl, trivial⟩, rfl⟩ -- ret 6
end
namespace PS
def mvK (p : PS) (rs : List Rng) (l : List Ver) (k : Nat) : PS := (l.take k).foldl take1 (p.moved rs)
theorem mvK_succ (p : PS) (rs : List Rng) (l : List Ver) {k : Nat} (hk : k < l.length) : p.mvK rs l (k + 1) = (p.mvK rs l k).take1 (l.getD k default) := by
  have hg : l.getD k default = l[k] := by simp [hk]
  unfold mvK
  rw [List.take_succ_eq_append_getElem hk, hg, List.foldl_append]; rfl
theorem mvK_all (p : PS) (rs : List Rng) (l : List Ver) : p.mvK rs l l.length = p.move rs l := by unfold mvK; rw [List.take_length]; rfl
theorem Ok.take1 {p : PS} {m : Nat} (h : p.Ok m) (v : Ver) : (p.take1 v).Ok (m + 1) := ⟨J.sput_rise h.rise v, J.sput_sm h.sm v, h.wl, h.wp, h.rl, h.id⟩
theorem Ok.moved {p : PS} {m : Nat} (h : p.Ok m) (rs : List Rng) (hrl : rs.length ≤ 1000000) : (p.moved rs).Ok m :=
  ⟨J.smove_rise h.rise rs, J.smove_sm h.sm rs, Nat.le_trans (List.length_filter_le ..) h.wl, fun v hv => h.wp v (List.mem_filter.1 hv).1, hrl, h.id⟩
theorem Ok.mvK {p : PS} {m : Nat} (h : p.Ok m) (rs : List Rng) (hrl : rs.length ≤ 1000000) (l : List Ver) : ∀ k, (p.mvK rs l k).Ok (m + k)
  | 0 => h.moved rs hrl
  | k + 1 => by
    have ih := h.mvK rs hrl l k
    by_cases hk : k < l.length
    · rw [p.mvK_succ rs l hk]
      exact ih.take1 _
    · have e : p.mvK rs l (k + 1) = p.mvK rs l k := by
        unfold PS.mvK
        rw [List.take_of_length_le (by omega), List.take_of_length_le (by omega)]
      rw [e]
      exact ih.mono (by omega)
theorem Ok.move {p : PS} {m : Nat} (h : p.Ok m) (rs : List Rng) (hrl : rs.length ≤ 1000000) (l : List Ver) : (p.move rs l).Ok (m + l.length) := by
  rw [← p.mvK_all rs l]
  exact h.mvK rs hrl l l.length
theorem mvK_rs (p : PS) (rs : List Rng) (l : List Ver) : ∀ k, (p.mvK rs l k).rs = rs
  | 0 => rfl
  | k + 1 => by
    by_cases hk : k < l.length
    · rw [p.mvK_succ rs l hk]
      exact p.mvK_rs rs l k
    · have e : p.mvK rs l (k + 1) = p.mvK rs l k := by
        unfold PS.mvK
        rw [List.take_of_length_le (by omega), List.take_of_length_le (by omega)]
      rw [e]
      exact p.mvK_rs rs l k
theorem Ok.write {p : PS} {m : Nat} (h : p.Ok m) (key value : ByteArray) (gone : Bool) (past : List Dep) : (p.write key value gone past).Ok (m + 1) := by
  unfold PS.write
  split
  · exact ⟨J.sput_rise h.rise _, J.sput_sm h.sm _, h.wl, h.wp, h.rl, h.id⟩
  · exact h.mono (Nat.le_succ m)
theorem pushE_zero {l : List Ver} {v : Ver} (h : J.pushE l v = 0) : J.checkB v = true ∧ l.length < 24 := by
  unfold J.pushE at h
  split at h
  · rename_i h1
    split at h
    · omega
    · rename_i h2
      exact ⟨h1, by omega⟩
  · omega
theorem Ok.arrive {p : PS} {m : Nat} (h : p.Ok m) (v : Ver) : (p.arrive v).Ok m := by
  unfold PS.arrive
  split
  · rename_i he
    split
    · exact ⟨h.rise, h.sm, h.wl, h.wp, h.rl, h.id⟩
    · rename_i hf
      unfold PS.arriveE at he
      split at he
      · omega
      · try rw [if_neg hf] at he
        split at he
        · omega
        · obtain ⟨h1, h2⟩ := pushE_zero he
          refine ⟨h.rise, h.sm, ?_, fun w hw => ?_, h.rl, h.id⟩
          · show (p.wait ++ [v]).length ≤ 24
            simp; omega
          · rcases List.mem_append.1 hw with hw | hw
            · exact h.wp w hw
            · cases List.mem_singleton.1 hw; exact h1
  · exact h
theorem Ok.step {p : PS} {m : Nat} (h : p.Ok m) : p.step.Ok (m + 1) := by
  unfold PS.step
  split
  · refine ⟨J.sput_rise h.rise _, J.sput_sm h.sm _, Nat.le_trans (List.length_eraseIdx_le ..) h.wl, fun w hw => h.wp w (List.mem_of_mem_eraseIdx hw), h.rl, h.id⟩
  · exact h.mono (Nat.le_succ m)
theorem Ok.clean {p : PS} {m : Nat} (h : p.Ok m) (n s : Int) (pins : List Dep) : (p.clean n s pins).Ok m := ⟨J.sclean_rise h.rise n s pins, J.sclean_sm h.sm n s pins, h.wl, h.wp, h.rl, h.id⟩
theorem Ok.zero {k : Int} (hk : 0 ≤ k ∧ k < 6) {rs : List Rng} (hrl : rs.length ≤ 1000000) : (PS.zero k rs).Ok 0 := ⟨J.rise_nil, J.sm_nil 0, Nat.zero_le _, (fun v hv => nomatch hv), hrl, hk⟩
end PS
section
variable (p : PS) (b : Nat)
set_option maxHeartbeats 1000000 in
theorem stMove_g (rs : List Rng) (hrl : rs.length ≤ 1000000) (l : List Ver) {m : Nat} (hp : p.Ok m) (hm : m + l.length ≤ 1000) : GCall Tryz.prog 32 [.bx 1001 0 0, .d (rngA rs), .d (versA l)] (ST p b) (some (ST (p.move rs l) b, .d (.tup []))) := by
  refine GCall_enterL (fun _ _ => by kernel_rfl) Tryz.func32 rfl Tryz.ntmps32 (ReadsS.r0 Tryz.results32) (Nat.le_of_ble_eq_true rfl) (fun hok hokB M0 w0 hl => ?_)
  have hwl := hp.wl
  refine Aw_seq (Aw_seq (Aw_region ?_))
  refine Al_p Pu_mvl ?_
  refine Al_p (Pu_eqnilb Tryz.underlying24 rfl rfl) ?_
  refine Al_nil ?_
  refine Aw_condF rfl (rfl) ?_
  refine Aw_skip (Aw_seq (Aw_region ?_))
  refine Al_p Pu_mvl ?_
  refine Al_p (Pu_nilb rfl rfl) ?_
  refine Al_p (Pu_fieldb 0 rfl Tryz.underlying84 rfl rfl Tryz.sizeOf82 rfl) ?_
  refine Al_p (Pu_fieldb 0 rfl Tryz.underlying82 rfl rfl Tryz.sizeOf79 rfl) ?_
  refine Al_p (Pu_loadb rfl Tryz.isAgg79 rfl rfl rfl) ?_
  refine Al_p Pu_mvl ?_
  refine Al_gcall [(1001, 1002, 0), (1002, 1003, 0)] [] (smove_g p.rs rs p.cs b hrl hp.rise (hp.sm.mono (by omega))) rfl rfl rfl (by decide) (by kernel_rfl) ⟨rfl, rfl, trivial⟩ rfl ⟨Sub.rfl, Sub.rfl, trivial⟩ (fun g16 => ?_)
  refine Al_nil (Aw_seq (Aw_region ?_))
  refine Al_p Pu_mvl ?_
  refine Al_p Pu_mvl ?_
  refine Al_p (Pu_nilb rfl rfl) ?_
  refine Al_p (Pu_fieldb 2 rfl Tryz.underlying84 rfl rfl Tryz.sizeOf65 rfl) ?_
  refine Al_p (Pu_loadb rfl Tryz.isAgg65 rfl rfl rfl) ?_
  refine Al_p Pu_mvl ?_
  refine Al_p (Pu_call (qdrop_a p.wait rs hrl (by omega)) rfl ⟨Sub.rfl, Sub.rfl, trivial⟩) ?_
  refine Al_p (Pu_nilb rfl rfl) ?_
  refine Al_p (Pu_fieldb 2 rfl Tryz.underlying84 rfl rfl Tryz.sizeOf65 rfl) ?_
  refine Al_store1 rfl rfl rfl (by kernel_rfl) Tryz.isAgg65 Tryz.sizeOf65 rfl rfl (Nat.le_of_ble_eq_true rfl) (by conv => lhs; whnf) rfl ?_
  refine Al_nil (Aw_seq (Aw_region ?_))
  refine Al_p Pu_mvl ?_
  refine Al_p (Pu_len rfl Tryz.underlying65 rfl (by first | exact List.length_map .. | exact rfl)) ?_
  refine Al_p Pu_mvl ?_
  refine Al_nil (Aw_block ?_)
  refine Aw_loopk (ι := Nat) [0, 26, 27] [] (fun k => [(28, .d (iv k))]) (fun k => [(1001, 0, .box 84 [.bx 1002 0 0, .d (iv (p.mvK rs l k).id), .d (versA (p.mvK rs l k).wait), .d (iv (p.mvK rs l k).n), .d (iv (p.mvK rs l k).s)]), (1002, 0, .box 115 [.d (rngA (p.mvK rs l k).rs), .ow 1003 0]), (1003, 0, mapV b (p.mvK rs l k).cs)]) (fun k => k ≤ l.length) (fun k => l.length - k) (0) (Nat.zero_le _) ⟨Sub.rfl, trivial⟩ ⟨rfl, rfl, rfl, trivial⟩ ?_
  rintro k hk0
  refine Aw_seq (Aw_region ?_)
  refine Al_p (Pu_cmp rfl rfl rfl rfl) ?_
  refine Al_nil (Aw_seq ?_)
  refine Aw_cond rfl (fun h29 => ?_) (fun h29 => ?_)
  · (try simp only [decide_eq_true_eq, decide_eq_false_iff_not, Bool.and_eq_true, Bool.or_eq_true, Bool.and_eq_false_iff, Bool.or_eq_false_iff, Bool.not_eq_true', Bool.not_eq_false', beq_iff_eq, Bool.not_eq_eq_eq_not, Bool.not_true, Bool.not_false, List.length_map, Bool.and_true, Bool.and_false, Bool.false_and, Bool.true_and, Bool.or_false, Bool.false_or] at h29)
    have hk : k < l.length := by omega
    have hsc := p.mvK_succ rs l hk
    have hok2 := hp.mvK rs hrl l k
    obtain ⟨q, hq⟩ : ∃ q, q = p.mvK rs l k := ⟨_, rfl⟩
    rw [← hq] at hsc hok2
    rw [← hq]
    refine Aw_skip (Aw_seq (Aw_block (Aw_seq (Aw_region ?_))))
    refine Al_p (Pu_index rfl Tryz.underlying65 Tryz.sizeOf34 rfl rfl (rfl) (mapgetD (d := default) hk)) ?_
    refine Al_p (Pu_loadN rfl Tryz.isAgg34 Tryz.sizeOf34 rfl (Nat.le_of_ble_eq_true rfl)) ?_
    refine Al_alloc rfl rfl rfl (by decide) Tryz.zeroValue34 rfl (by kernel_rfl) (fun g7 => ?_)
    refine Al_storeN rfl rfl rfl (by kernel_rfl) Tryz.isAgg34 Tryz.sizeOf34 rfl rfl rfl rfl (Nat.le_of_ble_eq_true rfl) ?_
    refine Al_nil (Aw_seq ?_)
    refine Aw_draw 5 (by kernel_rfl) (by kernel_rfl) ?_
    refine Dr_p Pu_mvl ?_
    refine Dr_p (Pu_nilb rfl rfl) ?_
    refine Dr_p (Pu_fieldb 0 rfl Tryz.underlying84 rfl rfl Tryz.sizeOf82 rfl) ?_
    refine Dr_p (Pu_loadAg (r := [.bx 1002 0 0]) rfl Tryz.isAgg82 Tryz.sizeOf82 rfl rfl (by exact rfl) rfl) ?_
    refine Dr_p (Pu_loadbN (r := [_, _, _, _, _, _]) rfl Tryz.isAgg34 Tryz.sizeOf34 rfl rfl rfl rfl) ?_
    refine Dr_nil ?_
    refine Al_gcall [(1001, 1002, 0), (1002, 1003, 0)] [] (kput_g q.rs q.cs b (l.getD k default) hok2.rl hok2.rise (hok2.sm.mono (by omega))) rfl rfl rfl (by decide) (by kernel_rfl) ⟨rfl, rfl, trivial⟩ rfl ⟨Sub.rfl, Sub.rfl, trivial⟩ (fun g37 => ?_)
    refine Al_nil ?_
    refine Aw_draw 11 (by kernel_rfl) (by kernel_rfl) ?_
    refine Dr_p Pu_mvl ?_
    refine Dr_p Pu_mvl ?_
    refine Dr_p (Pu_nilb rfl rfl) ?_
    refine Dr_p (Pu_fieldb 3 rfl Tryz.underlying84 rfl rfl Tryz.sizeOf31 rfl) ?_
    refine Dr_p (Pu_loadbN (r := [_, _]) rfl Tryz.isAgg31 Tryz.sizeOf31 rfl rfl rfl rfl) ?_
    refine Dr_p (Pu_fieldb 3 rfl Tryz.underlying34 rfl rfl Tryz.sizeOf31 rfl) ?_
    refine Dr_p (Pu_loadbN (r := [_, _]) rfl Tryz.isAgg31 Tryz.sizeOf31 rfl rfl rfl rfl) ?_
    refine Dr_p (Pu_buildSlice (aa := [(0, _), (1, _)]) rfl Tryz.underlying101 Tryz.sizeOf31 Tryz.zeroValue31 rfl (by decide) (by decide) (by decide) (by kernel_rfl) ⟨rfl, rfl, rfl, rfl, rfl, rfl, trivial⟩ ((rfl : _ = some [[iv q.n, iv q.s], [iv (l.getD k default).n, iv (l.getD k default).s]].flatten)) rfl rfl) ?_
    refine Dr_p (Pu_call (smax_a [(q.n, q.s), ((l.getD k default).n, (l.getD k default).s)]) rfl ⟨Sub.rfl, trivial⟩) ?_
    refine Dr_p (Pu_nilb rfl rfl) ?_
    refine Dr_p (Pu_fieldb 3 rfl Tryz.underlying84 rfl rfl Tryz.sizeOf31 rfl) ?_
    refine Dr_nil ?_
    refine Al_storeN rfl rfl rfl (by kernel_rfl) Tryz.isAgg31 Tryz.sizeOf31 rfl rfl rfl rfl (Nat.le_of_ble_eq_true rfl) ?_
    refine Al_nil (Aw_region ?_)
    refine Al_p (Pu_add rfl rfl rfl (fun h1 h2 => by simp only [A.inI, A.maxI] at *; omega)) ?_
    refine Al_p Pu_mvl ?_
    refine Al_nil ?_
    exact ⟨k + 1, by omega, by omega, Le.ov ⟨Sub.num (by omega), trivial⟩ ⟨Sub.rfl, Sub.rfl, Sub.rfl, trivial⟩ ⟨by rw [hsc]; rfl, by rw [hsc]; rfl, by rw [hsc]; rfl, trivial⟩ trivial⟩ -- loop 0 next.0
  · (try simp only [decide_eq_true_eq, decide_eq_false_iff_not, Bool.and_eq_true, Bool.or_eq_true, Bool.and_eq_false_iff, Bool.or_eq_false_iff, Bool.not_eq_true', Bool.not_eq_false', beq_iff_eq, Bool.not_eq_eq_eq_not, Bool.not_true, Bool.not_false, List.length_map, Bool.and_true, Bool.and_false, Bool.false_and, Bool.true_and, Bool.or_false, Bool.false_or] at h29)
    have hkk : k = l.length := by omega
    rw [show p.mvK rs l k = p.move rs l from by rw [hkk, p.mvK_all]]
    refine Aw_exit ?_
    exact ⟨_, _, [], rfl, rfl, ⟨rfl, rfl, rfl, trivial⟩, rfl⟩ -- ret 0
end
theorem stNew_g (k : Int) (hk : 0 ≤ k ∧ k < 6) (rs : List Rng) (hrl : rs.length ≤ 1000000) : GCallE Tryz.prog 11 [.d (iv k), .d (rngA rs)] [] (fun b : Nat => some (ST (PS.zero k rs) b, .bx 1001 0 0)) := by
  refine GCallE_enterL (fun _ _ => by kernel_rfl) Tryz.func11 rfl Tryz.ntmps11 (ReadsS.r1 Tryz.results11) (Nat.le_of_ble_eq_true rfl) (fun hok hokB M0 w0 hl => ?_)
  refine Aw_seq (Aw_region ?_)
  refine Al_p Pu_mvr ?_
  refine Al_nil (Aw_seq (Aw_seq (Aw_region ?_)))
  refine Al_p Pu_mvl ?_
  refine Al_p (Pu_cmp rfl rfl rfl rfl) ?_
  refine Al_p Pu_mvl ?_
  refine Al_st (St_gd [] rfl rfl rfl rfl trivial (fun hg8 => by exact Pu_move (.inl rfl) (by conv => lhs; whnf))) rfl (by decide) (by kernel_rfl) (by intro j b oj dj h1 h2 h3; cases h1; cases h2; cases h3; decide) ?_
  refine Al_st (St_gd [8] rfl rfl rfl rfl ⟨⟨_, rfl⟩, trivial⟩ (fun hg9 => Pu_cmp rfl rfl rfl rfl)) rfl (by decide) (by kernel_rfl) (by intro j b oj dj h1 h2 h3; cases h1; cases h2; cases h3; decide) ?_
  refine Al_p (Pu_or rfl rfl rfl rfl) ?_
  refine Al_nil ?_
  refine Aw_cond rfl (fun h10 => ?_) (fun h10 => ?_)
  · skip
    exfalso
    simp only [Bool.or_eq_true, decide_eq_true_eq] at h10
    omega
  · skip
    refine Aw_skip (Aw_seq (Aw_region ?_))
    refine Al_p Pu_mvl ?_
    refine Al_gcallE [] [(1001, 12), (1002, 120)] (snew_g rs hrl) rfl rfl rfl (by decide) (by kernel_rfl) trivial (fun _ => rfl) rfl rfl ⟨Sub.rfl, trivial⟩ ?_
    rintro b g12
    refine Al_p (Pu_buildAg (aa := [(0, _)]) rfl Tryz.underlying82 Tryz.zeroValue82 (places82 Tryz.underlying82) (by kernel_rfl) ⟨rfl, rfl, trivial⟩ rfl) ?_
    refine Al_p Pu_mvl ?_
    refine Al_p (Pu_buildAg (aa := [(0, _), (1, _)]) rfl Tryz.underlying84 Tryz.zeroValue84 (places84 Tryz.underlying84) (by kernel_rfl) ⟨rfl, rfl, rfl, rfl, trivial⟩ rfl) ?_
    refine Al_boxAg rfl rfl rfl (by decide) (by kernel_rfl) rfl (fun g16 => ?_)
    refine Al_p Pu_mvr ?_
    refine Al_nil ?_
    refine Aw_boxle (k := 16) [.bx 12 g12 0, .d (iv k), .d (versA []), .d (iv 0), .d (iv 0)] rfl ⟨Sub.rfl, Sub.rfl, Sub.nil, Sub.rfl, Sub.rfl, trivial⟩ ?_
    refine Aw_ret ?_
    exact ⟨b, _, _, [(1001, 16, g16), (1002, 12, g12), (1003, 120, g12)], rfl, Sub.rfl, ⟨rfl, rfl, rfl, trivial⟩, rfl⟩ -- ret 0
theorem stNew_no (k : Int) (hk : ¬ (0 ≤ k ∧ k < 6)) (rs : List Rng) : ACall Tryz.prog 11 [iv k, rngA rs] (.v (.pointer none)) := by
  refine ACall_enter (fun _ _ => by kernel_rfl) Tryz.func11 rfl Tryz.ntmps11 Tryz.results11 (Nat.le_of_ble_eq_true rfl) (fun hok M0 w0 hnl => ?_)
  refine Aw_seq (Aw_region ?_)
  refine Al_p Pu_mvr ?_
  refine Al_nil (Aw_seq (Aw_seq (Aw_region ?_)))
  refine Al_p Pu_mvl ?_
  refine Al_p (Pu_cmp rfl rfl rfl rfl) ?_
  refine Al_p Pu_mvl ?_
  refine Al_st (St_gd [] rfl rfl rfl rfl trivial (fun hg8 => by exact Pu_move (.inl rfl) (by conv => lhs; whnf))) rfl (by decide) (by kernel_rfl) (by intro j b oj dj h1 h2 h3; cases h1; cases h2; cases h3; decide) ?_
  refine Al_st (St_gd [8] rfl rfl rfl rfl ⟨⟨_, rfl⟩, trivial⟩ (fun hg9 => Pu_cmp rfl rfl rfl rfl)) rfl (by decide) (by kernel_rfl) (by intro j b oj dj h1 h2 h3; cases h1; cases h2; cases h3; decide) ?_
  refine Al_p (Pu_or rfl rfl rfl rfl) ?_
  refine Al_nil ?_
  refine Aw_cond rfl (fun h10 => ?_) (fun h10 => ?_)
  · skip
    refine Aw_seq (Aw_region ?_)
    refine Al_p Pu_mvr ?_
    refine Al_nil ?_
    refine Aw_ret ?_
    exact Sub.rfl -- ret 0
  · skip
    exfalso
    apply hk
    simp only [Bool.or_eq_false_iff, decide_eq_false_iff_not] at h10
    omega
end Go.Proofs.YtmbaeloiepjakaaGreat
