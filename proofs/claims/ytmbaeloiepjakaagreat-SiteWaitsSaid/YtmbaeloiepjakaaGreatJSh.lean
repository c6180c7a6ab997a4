/- shard: New, Ranges, Chain, Put, Head, At, Keys, Have, Clean, Move, over a plain shard. -/
import Derived.Test.YtmbaeloiepjakaaGreatJCh
import Derived.Test.YtmbaeloiepjakaaGreatJKeys
import Derived.Test.YtmbaeloiepjakaaGreatADp
import Derived.Test.YtmbaeloiepjakaaGreatAF
import Derived.Test.YtmbaeloiepjakaaGreatETa
set_option linter.unusedSimpArgs false
set_option linter.unusedVariables false
set_option maxRecDepth 100000
namespace Go.Proofs.YtmbaeloiepjakaaGreat
open Go.RowKit A R
open A.RowT
abbrev SC := List (ByteArray × List Ver)
namespace J
def look (cs : SC) (k : ByteArray) : Option (List Ver) := (cs.find? fun p => decide (p.1 = k)).map (·.2)
def getC (cs : SC) (k : ByteArray) : List Ver := (look cs k).getD []
def RiseC (cs : SC) : Prop := Rise (cs.map (·.1))
def setC : SC → ByteArray → List Ver → SC
  | [], k, l => [(k, l)]
  | p :: r, k, l => if p.1 = k then (k, l) :: r else if Op.bytesLess k.toList p.1.toList then (k, l) :: p :: r else p :: setC r k l
theorem look_cons (p : ByteArray × List Ver) (r : SC) (k : ByteArray) : look (p :: r) k = if p.1 = k then some p.2 else look r k := by
  unfold look
  rw [List.find?_cons]
  split <;> simp_all
theorem look_none : ∀ {cs : SC} {k : ByteArray}, (∀ p ∈ cs, p.1 ≠ k) → look cs k = none
  | [], _, _ => rfl
  | p :: r, k, h => by
    rw [look_cons, if_neg (h p (List.mem_cons_self ..))]
    exact look_none fun q hq => h q (List.mem_cons_of_mem _ hq)
theorem look_set : ∀ (cs : SC) (k : ByteArray) (l : List Ver) (c : ByteArray), RiseC cs → look (setC cs k l) c = if c = k then some l else look cs c
  | [], k, l, c, _ => by
    rw [setC, look_cons]
    by_cases h : c = k
    · rw [if_pos h.symm, if_pos h]
    · rw [if_neg (fun e => h e.symm), if_neg h]
  | p :: r, k, l, c, hr => by
    have hc := List.pairwise_cons.1 hr
    rw [setC]
    by_cases h1 : p.1 = k
    · rw [if_pos h1, look_cons, look_cons]
      by_cases h : c = k
      · rw [if_pos h.symm, if_pos h]
      · rw [if_neg (fun e => h e.symm), if_neg h, if_neg (fun e => h (e.symm.trans h1))]
    · rw [if_neg h1]
      split
      · rw [look_cons, look_cons]
        by_cases h : c = k
        · rw [if_pos h.symm, if_pos h]
        · rw [if_neg (fun e => h e.symm), if_neg h]
      · rw [look_cons, look_cons, look_set r k l c hc.2]
        by_cases h : c = k
        · rw [if_pos h, if_neg (fun e => h1 (e.trans h)), if_pos h]
        · rw [if_neg h]; simp [h]
theorem mem_setC : ∀ (cs : SC) (k : ByteArray) (l : List Ver) (p : ByteArray × List Ver), p ∈ setC cs k l → p = (k, l) ∨ p ∈ cs
  | [], k, l, p, h => by simp [setC] at h; exact .inl h
  | q :: r, k, l, p, h => by
    rw [setC] at h
    split at h
    · rcases List.mem_cons.1 h with h | h
      · exact .inl h
      · exact .inr (List.mem_cons_of_mem _ h)
    · split at h
      · rcases List.mem_cons.1 h with h | h
        · exact .inl h
        · exact .inr h
      · rcases List.mem_cons.1 h with rfl | h
        · exact .inr (List.mem_cons_self ..)
        · rcases mem_setC r k l p h with h | h
          · exact .inl h
          · exact .inr (List.mem_cons_of_mem _ h)
theorem rise_set : ∀ (cs : SC) (k : ByteArray) (l : List Ver), RiseC cs → RiseC (setC cs k l)
  | [], k, l, _ => List.pairwise_singleton ..
  | p :: r, k, l, hr => by
    have hc := List.pairwise_cons.1 hr
    rw [setC]
    split
    · rename_i h1
      subst h1
      exact hr
    · rename_i h1
      split
      · rename_i h2
        refine List.pairwise_cons.2 ⟨fun y hy => ?_, hr⟩
        rcases List.mem_cons.1 hy with rfl | hy
        · exact h2
        · exact K.bl_trans _ _ _ h2 (hc.1 y hy)
      · rename_i h2
        refine List.pairwise_cons.2 ⟨fun y hy => ?_, rise_set r k l hc.2⟩
        obtain ⟨q, hq, rfl⟩ := List.mem_map.1 hy
        rcases mem_setC r k l q hq with rfl | hq
        · show Op.bytesLess p.1.toList k.toList = true
          cases h : Op.bytesLess p.1.toList k.toList with
          | true => rfl
          | false => exact (h1 (D.byte_inj (K.bl_tri _ _ h (by simpa using h2)))).elim
        · exact hc.1 _ (List.mem_map_of_mem hq)
theorem rise_nodup {ks : List ByteArray} (h : Rise ks) : ks.Nodup := h.imp fun {a b} hab e => by subst e; rw [K.bl_irrefl] at hab; cases hab
theorem look_mem {cs : SC} (h : RiseC cs) {p : ByteArray × List Ver} (hp : p ∈ cs) : look cs p.1 = some p.2 := by
  induction cs with
  | nil => cases hp
  | cons q r ih =>
    have hc := List.pairwise_cons.1 h
    rw [look_cons]
    rcases List.mem_cons.1 hp with rfl | hp
    · rw [if_pos rfl]
    · rw [if_neg, ih hc.2 hp]
      intro e
      have h9 : Op.bytesLess q.1.toList p.1.toList = true := hc.1 p.1 (List.mem_map_of_mem hp)
      rw [e, K.bl_irrefl] at h9; cases h9
theorem mem_look {cs : SC} {k : ByteArray} {l : List Ver} (h : look cs k = some l) : (k, l) ∈ cs := by
  unfold look at h
  obtain ⟨p, hp, rfl⟩ := Option.map_eq_some_iff.1 h
  have h1 := List.mem_of_find?_eq_some hp
  have h2 := List.find?_some hp
  simp only [decide_eq_true_eq] at h2
  subst h2; exact h1
theorem look_keys {cs : SC} (h : RiseC cs) (k : ByteArray) : (look cs k).isSome = true ↔ k ∈ cs.map (·.1) := by
  constructor
  · intro hs
    obtain ⟨l, hl⟩ := Option.isSome_iff_exists.1 hs
    exact List.mem_map_of_mem (mem_look hl)
  · intro hm
    obtain ⟨p, hp, rfl⟩ := List.mem_map.1 hm
    rw [look_mem h hp]; rfl
theorem look_getA (cs : SC) (k : ByteArray) : lookA (fun l : List Ver => versA l) (versA []) (look cs k) = versA (getC cs k) := by
  unfold getC
  cases look cs k <;> rfl
/-- Not too many. -/
def Sm (m : Nat) (cs : SC) : Prop := cs.length ≤ m ∧ ∀ p ∈ cs, p.2.length ≤ m ∧ p.1.size ≤ 9223372036854775807
theorem Sm.get {m : Nat} {cs : SC} (h : Sm m cs) (k : ByteArray) : (getC cs k).length ≤ m := by
  unfold getC
  cases hl : look cs k with
  | none => exact Nat.zero_le _
  | some l => exact (h.2 _ (mem_look hl)).1
def sput (rs : List Rng) (cs : SC) (v : Ver) : SC × Bool := if findR rs v.key < 0 then (cs, false) else match put (getC cs v.key) v with
  | some l => (setC cs v.key l, true)
  | none => (cs, false)
def keysC (cs : SC) : List ByteArray := cs.map (·.1)
def shead (cs : SC) (k : ByteArray) : Option Ver := head (getC cs k)
def sat (cs : SC) (k : ByteArray) (n s : Int) : Option Ver := atc (getC cs k) n s
def have' (cs : SC) : List Dep := (keysC cs).map fun k => ⟨k, ((shead cs k).getD default).n, ((shead cs k).getD default).s⟩
def pinsOf (pins : List Dep) (k : ByteArray) : List (Int × Int) := (pins.filter fun d => d.key.toList == k.toList).map fun d => (d.n, d.s)
def sclean (cs : SC) (n s : Int) (pins : List Dep) : SC := cs.map fun p => (p.1, clean p.2 n s (pinsOf pins p.1))
def smove (cs : SC) (rs : List Rng) : SC := cs.filter fun p => decide (0 ≤ findR rs p.1)
end J
abbrev mapV (b : Nat) (cs : SC) : AO := .op (mapO keyS okS (fun l : List Ver => versA l) b cs.length (J.look cs))
theorem obeq2 {g b : Nat} {cs cs' : SC} (h : cs = cs') : some (g, mapV b cs) = some (g, mapV b cs') := by rw [h]
abbrev rngA (rs : List Rng) : AV := .sl 2 (rs.map Rng.row)
/-- A shard: its ranges; a map of chains. -/
abbrev SH (rs : List Rng) (cs : SC) (b : Nat) : Obs := [(1001, .box 115 [.d (rngA rs), .ow 1002 0]), (1002, mapV b cs)]
set_option maxRecDepth 100000 in
theorem cloneR_g (l : List Rng) (hl : l.length ≤ 1000000) : GCall Tryz.prog 75 [.d (.sl 2 (l.map Rng.row))] [] (some ([(1001, .arr 49 2 (l.map Rng.row))], .ow 1001 0)) := by
  refine GCall_enter (fun _ _ => by kernel_rfl) Tryz.func75 rfl Tryz.ntmps75 (ReadsS.r1 Tryz.results75) (Nat.le_of_ble_eq_true rfl) (fun hok hokB M0 w0 => ?_)
  refine Aw_seq (Aw_region ?_)
  refine Al_p Pu_mvr ?_
  refine Al_nil (Aw_seq (Aw_seq (Aw_region ?_)))
  refine Al_p Pu_mvl ?_
  refine Al_eqnil rfl rfl rfl (by decide) (by kernel_rfl) Tryz.underlying26 rfl (fun nl hnl => ?_)
  refine Al_nil ?_
  refine Aw_cond rfl (fun h4 => ?_) (fun h4 => ?_)
  · (try simp only [decide_eq_true_eq, decide_eq_false_iff_not, Bool.and_eq_true, Bool.or_eq_true, Bool.and_eq_false_iff, Bool.or_eq_false_iff, Bool.not_eq_true', Bool.not_eq_false', beq_iff_eq, Bool.not_eq_eq_eq_not, Bool.not_true, Bool.not_false, List.length_map, Bool.and_true, Bool.and_false, Bool.false_and, Bool.true_and, Bool.or_false, Bool.false_or] at h4)
    refine Aw_seq (Aw_region ?_)
    refine Al_p Pu_mvr ?_
    refine Al_nil ?_
    obtain rfl : l = [] := by simpa using hnl h4
    refine Aw_own (j := 2) (k := 2) (T := 49) (n := 2) rfl (fun g => ?_)
    refine Aw_ret ?_
    exact ⟨_, _, [(1001, 2, g)], rfl, Sub.rfl, ⟨rfl, trivial⟩, rfl⟩ -- ret 0
  · (try simp only [decide_eq_true_eq, decide_eq_false_iff_not, Bool.and_eq_true, Bool.or_eq_true, Bool.and_eq_false_iff, Bool.or_eq_false_iff, Bool.not_eq_true', Bool.not_eq_false', beq_iff_eq, Bool.not_eq_eq_eq_not, Bool.not_true, Bool.not_false, List.length_map, Bool.and_true, Bool.and_false, Bool.false_and, Bool.true_and, Bool.or_false, Bool.false_or] at h4)
    refine Aw_skip (Aw_seq (Aw_region ?_))
    refine Al_slice0 rfl rfl rfl (by decide) Tryz.underlying26 Tryz.sizeOf49 (fun g5 => ?_)
    refine Al_p Pu_mvl ?_
    refine Al_append rfl rfl rfl (by decide) (by kernel_rfl) elem26 (by decide) Tryz.sizeOf49 rfl rfl rfl (by simp; omega) (by decide) (fun g7 => ?_)
    refine Al_p Pu_mvr ?_
    refine Al_nil ?_
    refine Aw_ret ?_
    exact ⟨_, _, [(1001, 5, g7)], rfl, Sub.rfl, ⟨rfl, trivial⟩, rfl⟩ -- ret 1
set_option maxRecDepth 100000 in
theorem snew_g (rs : List Rng) (hrl : rs.length ≤ 1000000) : GCallE Tryz.prog 43 [.d (rngA rs)] [] (fun b : Nat => some (SH rs [] b, .bx 1001 0 0)) := by
  refine GCallE_enterL (fun _ _ => by kernel_rfl) Tryz.func43 rfl Tryz.ntmps43 (ReadsS.r1 Tryz.results43) (Nat.le_of_ble_eq_true rfl) (fun hok hokB M0 w0 hl => ?_)
  refine Aw_seq (Aw_region ?_)
  refine Al_p Pu_mvr ?_
  refine Al_nil (Aw_seq (Aw_region ?_))
  refine Al_p Pu_mvl ?_
  refine Al_gcall [] [(1001, 4)] (cloneR_g rs hrl) rfl rfl rfl (by decide) (by kernel_rfl) trivial rfl ⟨Sub.rfl, trivial⟩ (fun g4 => ?_)
  refine Al_frzL hl (k := 4) [4] rfl trivial ⟨rfl, trivial⟩ ?_
  refine Al_makeMap keyS okS (fun l : List Ver => versA l) rfl rfl rfl (by decide) (fun b5 g5 => ?_)
  refine Al_p (Pu_buildAg (aa := [(0, _), (1, _)]) rfl Tryz.underlying115 Tryz.zeroValue115 (places115 Tryz.underlying115) (by decide) ⟨rfl, rfl, rfl, rfl, trivial⟩ rfl) ?_
  refine Al_boxAg rfl rfl rfl (by decide) (by kernel_rfl) rfl (fun g7 => ?_)
  refine Al_p Pu_mvr ?_
  refine Al_nil ?_
  refine Aw_ret ?_
  exact ⟨b5, _, _, [(1001, 7, g7), (1002, 5, g5)], rfl, Sub.rfl, ⟨rfl, rfl, trivial⟩, rfl⟩ -- ret 0
set_option maxRecDepth 100000 in
theorem sranges_g (rs : List Rng) (cs : SC) (b : Nat) (hrl : rs.length ≤ 1000000) : GCall Tryz.prog 74 [.bx 1001 0 0] (SH rs cs b) (some (SH rs cs b, .d (rngA rs))) := by
  refine GCall_enterL (fun _ _ => by kernel_rfl) Tryz.func74 rfl Tryz.ntmps74 (ReadsS.r1 Tryz.results74) (Nat.le_of_ble_eq_true rfl) (fun hok hokB M0 w0 hl => ?_)
  refine Aw_seq (Aw_region ?_)
  refine Al_p Pu_mvr ?_
  refine Al_nil (Aw_seq (Aw_seq (Aw_region ?_)))
  refine Al_p Pu_mvl ?_
  refine Al_p (Pu_eqnilb Tryz.underlying79 rfl rfl) ?_
  refine Al_nil ?_
  refine Aw_condF rfl (rfl) ?_
  refine Aw_skip (Aw_seq (Aw_region ?_))
  refine Al_p Pu_mvl ?_
  refine Al_p (Pu_nilb rfl rfl) ?_
  refine Al_p (Pu_fieldb 0 rfl Tryz.underlying115 rfl rfl Tryz.sizeOf26 rfl) ?_
  refine Al_p (Pu_loadb rfl Tryz.isAgg26 rfl rfl rfl) ?_
  refine Al_gcall [] [(1001, 9)] (cloneR_g rs hrl) rfl rfl rfl (by decide) (by kernel_rfl) trivial rfl ⟨Sub.rfl, trivial⟩ (fun g9 => ?_)
  refine Al_p Pu_mvr ?_
  refine Al_nil ?_
  refine Aw_frzL hl (k := 9) [2] rfl ⟨rfl, ⟨_, rfl, fun _ _ h => h⟩, rfl, ⟨_, rfl, fun _ _ h => h⟩, trivial⟩ ⟨rfl, trivial⟩ ?_
  refine Aw_ret ?_
  exact ⟨_, _, [], rfl, Sub.rfl, ⟨rfl, rfl, trivial⟩, rfl⟩ -- ret 0
set_option maxRecDepth 100000 in
theorem schain_g (rs : List Rng) (cs : SC) (b : Nat) (key : ByteArray) (hs : J.Sm 1000 cs) : GCall Tryz.prog 72 [.bx 1001 0 0, .d (tv key)] (SH rs cs b) (some (SH rs cs b, .d (versA (J.getC cs key)))) := by
  refine GCall_enterL (fun _ _ => by kernel_rfl) Tryz.func72 rfl Tryz.ntmps72 (ReadsS.r1 Tryz.results72) (Nat.le_of_ble_eq_true rfl) (fun hok hokB M0 w0 hl => ?_)
  have hk : key.size ≤ A.maxI := (hok (tv key) (by simp)).text
  refine Aw_seq (Aw_region ?_)
  refine Al_p Pu_mvr ?_
  refine Al_nil (Aw_seq (Aw_seq (Aw_region ?_)))
  refine Al_p Pu_mvl ?_
  refine Al_p (Pu_eqnilb Tryz.underlying79 rfl rfl) ?_
  refine Al_nil ?_
  refine Aw_condF rfl (rfl) ?_
  refine Aw_skip (Aw_seq (Aw_region ?_))
  refine Al_p Pu_mvl ?_
  refine Al_p (Pu_nilb rfl rfl) ?_
  refine Al_p (Pu_fieldb 1 rfl Tryz.underlying115 rfl rfl Tryz.sizeOf113 rfl) ?_
  refine Al_p (Pu_loadb rfl Tryz.isAgg113 rfl rfl rfl) ?_
  refine Al_p Pu_mvl ?_
  refine Al_p (Pu_lookup (c := key) (z := versA []) keyS_T rfl Tryz.underlying113 Tryz.zeroValue65 (fun M w => .nil _ _ _) rfl rfl rfl (Only.v _) hk) ?_
  refine Al_gcall [] [(1001, 13)] (cloneV_g (J.getC cs key) (Nat.le_trans (hs.get key) (by decide))) rfl rfl rfl (by decide) (by kernel_rfl) trivial rfl ⟨Sub.d (J.look_getA cs key), trivial⟩ (fun g13 => ?_)
  refine Al_p Pu_mvr ?_
  refine Al_nil ?_
  refine Aw_frzL hl (k := 13) [4] rfl ⟨rfl, ⟨_, rfl, fun _ _ h => h⟩, rfl, ⟨_, rfl, fun _ _ h => h⟩, trivial⟩ ⟨rfl, trivial⟩ ?_
  refine Aw_ret ?_
  exact ⟨_, _, [], rfl, Sub.rfl, ⟨rfl, rfl, trivial⟩, rfl⟩ -- ret 0
set_option maxRecDepth 100000 in
theorem shead_g (rs : List Rng) (cs : SC) (b : Nat) (key : ByteArray) (hs : J.Sm 1000 cs) : GCall Tryz.prog 85 [.bx 1001 0 0, .d (tv key)] (SH rs cs b) (some (SH rs cs b, .d (verA (J.shead cs key)))) := by
  refine GCall_enterL (fun _ _ => by kernel_rfl) Tryz.func85 rfl Tryz.ntmps85 (ReadsS.cN1 Tryz.results85 Tryz.isAgg34 Tryz.sizeOf34) (Nat.le_of_ble_eq_true rfl) (fun hok hokB M0 w0 hl => ?_)
  refine Aw_seq (Aw_region ?_)
  refine Al_alloc rfl rfl rfl (by decide) Tryz.zeroValue34 rfl (by kernel_rfl) (fun g4 => ?_)
  refine Al_p Pu_mvr ?_
  refine Al_nil (Aw_seq (Aw_region ?_))
  refine Al_p Pu_mvl ?_
  refine Al_p Pu_mvl ?_
  refine Al_gcall [(1001, 1001, 0), (1002, 1002, 0)] [] (schain_g rs cs b key hs) rfl rfl rfl (by decide) (by kernel_rfl) ⟨rfl, rfl, trivial⟩ rfl ⟨Sub.rfl, Sub.rfl, trivial⟩ (fun g8 => ?_)
  refine Al_p (Pu_call (chead_a (J.getC cs key)) rfl ⟨Sub.rfl, trivial⟩) ?_
  refine Al_p (Pu_extract rfl rfl rfl) ?_
  refine Al_p (Pu_extract rfl rfl rfl) ?_
  refine Al_storeN rfl rfl rfl (by kernel_rfl) Tryz.isAgg34 Tryz.sizeOf34 rfl rfl rfl rfl (Nat.le_of_ble_eq_true rfl) ?_
  refine Al_p Pu_mvr ?_
  refine Al_nil ?_
  refine Aw_ret ?_
  exact ⟨_, _, [], rfl, ⟨_, rfl, _, _, _, _, _, [_, _, _, _, _, _], _, rfl, rfl, rfl, rfl, Sub.rfl, rfl⟩, ⟨rfl, rfl, trivial⟩, rfl⟩ -- ret 0
set_option maxRecDepth 100000 in
theorem sat_g (rs : List Rng) (cs : SC) (b : Nat) (key : ByteArray) (n s : Int) (hs : J.Sm 1000 cs) : GCall Tryz.prog 105 [.bx 1001 0 0, .d (tv key), .d (.row [iv n, iv s])] (SH rs cs b) (some (SH rs cs b, .d (verA (J.sat cs key n s)))) := by
  refine GCall_enterL (fun _ _ => by kernel_rfl) Tryz.func105 rfl Tryz.ntmps105 (ReadsS.cN1 Tryz.results105 Tryz.isAgg34 Tryz.sizeOf34) (Nat.le_of_ble_eq_true rfl) (fun hok hokB M0 w0 hl => ?_)
  refine Aw_seq (Aw_region ?_)
  refine Al_p (Pu_boxN rfl rfl) ?_
  refine Al_alloc rfl rfl rfl (by decide) Tryz.zeroValue34 rfl (by kernel_rfl) (fun g6 => ?_)
  refine Al_p Pu_mvr ?_
  refine Al_nil ?_
  -- join 0: live [6, 7], turned [7]
  refine Aw_seq ?_
  refine Aw_drawn (by kernel_rfl) ?_
  refine Ad_take 0 rfl (PuI_move (.inl rfl) (by conv => lhs; whnf)) rfl rfl (by decide) (by kernel_rfl) (by kernel_rfl) (by kernel_rfl) (by kernel_rfl) (fun _ _ h => h) ?_
  refine Ad_take 1 rfl (PuI_move (.inl rfl) (by conv => lhs; whnf)) rfl rfl (by decide) (by kernel_rfl) (by kernel_rfl) (by kernel_rfl) (by kernel_rfl) (fun _ _ h => h) ?_
  refine Ad_two 2 3 rfl rfl (by kernel_rfl) ?_ ?_
  · refine Al_gcall [(1001, 1001, 0), (1002, 1002, 0)] [] (schain_g rs cs b key hs) rfl rfl rfl (by decide) (by kernel_rfl) ⟨rfl, rfl, trivial⟩ rfl ⟨Sub.rfl, Sub.rfl, trivial⟩ (fun g10 => ?_)
    refine Al_nil ?_
    refine Ad_drawP 3 7 2 (by kernel_rfl) (by decide) rfl (by rfl) (by rfl) ?_
    refine Dr_p (Pu_loadN rfl Tryz.isAgg31 Tryz.sizeOf31 rfl (Nat.le_of_ble_eq_true rfl)) ?_
    refine Dr_p (Pu_call (cat_a (J.getC cs key) n s) rfl ⟨Sub.rfl, Sub.rfl, trivial⟩) ?_
    refine Dr_p (Pu_extract rfl rfl rfl) ?_
    refine Dr_p (Pu_extract rfl rfl rfl) ?_
    refine Dr_nil ?_
    refine Ad_one 7 rfl (by kernel_rfl) ?_
    refine Al_storeN rfl rfl rfl (by kernel_rfl) Tryz.isAgg34 Tryz.sizeOf34 rfl rfl rfl rfl (Nat.le_of_ble_eq_true rfl) ?_
    refine Al_nil ?_
    refine Ad_take 8 rfl (PuI_move (.inr rfl) (by conv => lhs; whnf)) rfl rfl (by decide) (by kernel_rfl) (by kernel_rfl) (by kernel_rfl) (by kernel_rfl) (fun _ _ h => h) ?_
    refine Ad_done (by kernel_rfl) ?_
    refine Aw_ret ?_
    exact ⟨_, _, [], rfl, ⟨_, rfl, _, _, _, _, _, [_, _, _, _, _, _], _, rfl, rfl, rfl, rfl, Sub.rfl, rfl⟩, ⟨rfl, rfl, trivial⟩, rfl⟩ -- ret 0
  · refine Al_p (Pu_loadN rfl Tryz.isAgg31 Tryz.sizeOf31 rfl (Nat.le_of_ble_eq_true rfl)) ?_
    refine Al_nil ?_
    refine Ad_one 2 rfl (by kernel_rfl) ?_
    refine Al_gcall [(1001, 1001, 0), (1002, 1002, 0)] [] (schain_g rs cs b key hs) rfl rfl rfl (by decide) (by kernel_rfl) ⟨rfl, rfl, trivial⟩ rfl ⟨Sub.rfl, Sub.rfl, trivial⟩ (fun g10 => ?_)
    refine Al_nil ?_
    refine Ad_drawP 4 7 2 (by kernel_rfl) (by decide) rfl (by rfl) (by rfl) ?_
    refine Dr_p (Pu_call (cat_a (J.getC cs key) n s) rfl ⟨Sub.rfl, Sub.rfl, trivial⟩) ?_
    refine Dr_p (Pu_extract rfl rfl rfl) ?_
    refine Dr_p (Pu_extract rfl rfl rfl) ?_
    refine Dr_nil ?_
    refine Ad_one 7 rfl (by kernel_rfl) ?_
    refine Al_storeN rfl rfl rfl (by kernel_rfl) Tryz.isAgg34 Tryz.sizeOf34 rfl rfl rfl rfl (Nat.le_of_ble_eq_true rfl) ?_
    refine Al_nil ?_
    refine Ad_take 8 rfl (PuI_move (.inr rfl) (by conv => lhs; whnf)) rfl rfl (by decide) (by kernel_rfl) (by kernel_rfl) (by kernel_rfl) (by kernel_rfl) (fun _ _ h => h) ?_
    refine Ad_done (by kernel_rfl) ?_
    refine Aw_ret ?_
    exact ⟨_, _, [], rfl, ⟨_, rfl, _, _, _, _, _, [_, _, _, _, _, _], _, rfl, rfl, rfl, rfl, Sub.rfl, rfl⟩, ⟨rfl, rfl, trivial⟩, rfl⟩ -- ret 1
set_option maxRecDepth 100000 in
theorem skeys_g (rs : List Rng) (cs : SC) (b : Nat) (hr : J.RiseC cs) (hs : J.Sm 1000 cs) : GCall Tryz.prog 84 [.bx 1001 0 0] (SH rs cs b) (some (SH rs cs b, .d (.sl 1 ((J.keysC cs).map fun s => [tv s])))) := by
  refine GCall_enterL (fun _ _ => by kernel_rfl) Tryz.func84 rfl Tryz.ntmps84 (ReadsS.r1 Tryz.results84) (Nat.le_of_ble_eq_true rfl) (fun hok hokB M0 w0 hl => ?_)
  refine Aw_seq (Aw_region ?_)
  refine Al_p Pu_mvr ?_
  refine Al_nil (Aw_seq (Aw_seq (Aw_region ?_)))
  refine Al_p Pu_mvl ?_
  refine Al_p (Pu_eqnilb Tryz.underlying79 rfl rfl) ?_
  refine Al_nil ?_
  refine Aw_condF rfl (rfl) ?_
  refine Aw_skip (Aw_seq (Aw_region ?_))
  refine Al_p Pu_mvl ?_
  refine Al_p (Pu_nilb rfl rfl) ?_
  refine Al_p (Pu_fieldb 1 rfl Tryz.underlying115 rfl rfl Tryz.sizeOf113 rfl) ?_
  refine Al_p (Pu_loadb rfl Tryz.isAgg113 rfl rfl rfl) ?_
  refine Al_gcall [(1001, 1002, 0)] [(1002, 9)] (keysV_g keyS okS (fun l : List Ver => versA l) b cs.length (J.look cs)) rfl rfl rfl (by decide) (by kernel_rfl) ⟨rfl, trivial⟩ rfl ⟨Sub.rfl, trivial⟩ (fun g9 => ?_)
  refine Al_gcall [(1001, 1002, 0), (1002, 9, g9)] [(1003, 10)] (sortedV_g (fun l : List Ver => versA l) b cs.length (J.look cs) (J.keysC cs) hr (J.look_keys hr) (Nat.le_trans hs.1 (by decide))) rfl rfl rfl (by decide) (by kernel_rfl) ⟨rfl, rfl, trivial⟩ rfl ⟨Sub.rfl, trivial⟩ (fun g10 => ?_)
  refine Al_p Pu_mvr ?_
  refine Al_nil ?_
  refine Aw_frzL hl (k := 10) [2] rfl ⟨rfl, ⟨_, rfl, fun _ _ h => h⟩, rfl, ⟨_, rfl, fun _ _ h => h⟩, trivial⟩ ⟨rfl, trivial⟩ ?_
  refine Aw_ret ?_
  exact ⟨_, _, [], rfl, Sub.rfl, ⟨rfl, rfl, trivial⟩, rfl⟩ -- ret 0
namespace J
theorem put_len {l m : List Ver} {v : Ver} (h : put l v = some m) : m.length = l.length + 1 := by
  unfold put at h
  split at h
  · cases h
    have := frm_le l v.n v.s
    simp; omega
  · cases h
theorem put_ok {l m : List Ver} {v : Ver} (h : put l v = some m) : checkB v = true := by
  unfold put at h
  split at h
  · rename_i hc; exact hc.1
  · cases h
theorem set_len : ∀ (cs : SC) (k : ByteArray) (l : List Ver), (setC cs k l).length ≤ cs.length + 1
  | [], k, l => Nat.le_refl _
  | p :: r, k, l => by
    rw [setC]
    split
    · simp
    · split
      · simp
      · have := set_len r k l
        simp; omega
theorem sput_sm {m : Nat} {rs : List Rng} {cs : SC} (h : Sm m cs) (v : Ver) : Sm (m + 1) (sput rs cs v).1 := by
  have h' : Sm (m + 1) cs := ⟨Nat.le_succ_of_le h.1, fun p hp => ⟨Nat.le_succ_of_le (h.2 p hp).1, (h.2 p hp).2⟩⟩
  unfold sput
  split
  · exact h'
  · split
    · rename_i l hl
      refine ⟨Nat.le_trans (set_len _ _ _) (Nat.succ_le_succ h.1), fun p hp => ?_⟩
      rcases mem_setC _ _ _ _ hp with rfl | hp
      · show l.length ≤ m + 1 ∧ _
        rw [put_len hl]
        have := h.get v.key
        have h3 := ver_key (put_ok hl)
        exact ⟨by omega, by show v.key.size ≤ _; omega⟩
      · exact h'.2 p hp
    · exact h'
theorem sput_rise {rs : List Rng} {cs : SC} (h : RiseC cs) (v : Ver) : RiseC (sput rs cs v).1 := by
  unfold sput
  split
  · exact h
  · split
    · exact rise_set _ _ _ h
    · exact h
theorem pinsOf_succ {pins : List Dep} {j : Nat} (hj : j < pins.length) (k : ByteArray) : pinsOf (pins.take (j + 1)) k = pinsOf (pins.take j) k ++ (if (pins.getD j default).key.toList == k.toList then [((pins.getD j default).n, (pins.getD j default).s)] else []) := by
  have hg : pins.getD j default = pins[j] := by simp [hj]
  unfold pinsOf
  rw [List.take_succ_eq_append_getElem hj, List.filter_append, List.map_append, List.filter_cons, List.filter_nil, hg]
  split <;> simp
theorem take_have (cs : SC) {j : Nat} (hj : j < cs.length) : (have' cs).take (j + 1) = (have' cs).take j ++ [⟨(keysC cs).getD j default, ((shead cs ((keysC cs).getD j default)).getD default).n, ((shead cs ((keysC cs).getD j default)).getD default).s⟩] := by
  have h1 : j < (have' cs).length := by unfold have' keysC; simpa using hj
  have h2 : (keysC cs).getD j default = cs[j].1 := by unfold keysC; simp [hj]
  rw [List.take_succ_eq_append_getElem h1, h2]
  unfold have' keysC
  simp
end J
instance : Inhabited ByteArray := ⟨⟨#[]⟩⟩
set_option maxRecDepth 100000 in
set_option maxHeartbeats 1000000 in
theorem sput_g (rs : List Rng) (cs : SC) (b : Nat) (v : Ver) (hrl : rs.length ≤ 1000000) (hr : J.RiseC cs) (hs : J.Sm 1000 cs) : GCall Tryz.prog 87 [.bx 1001 0 0, .d (.row v.row)] (SH rs cs b) (some (SH rs (J.sput rs cs v).1 b, .d (bv (J.sput rs cs v).2))) := by
  refine GCall_enterL (fun _ _ => by kernel_rfl) Tryz.func87 rfl Tryz.ntmps87 (ReadsS.r1 Tryz.results87) (Nat.le_of_ble_eq_true rfl) (fun hok hokB M0 w0 hl => ?_)
  have hk : v.key.size ≤ A.maxI := ((hok (.row v.row) (by simp)).row (tv v.key) (by simp [Ver.row])).text
  have hfi := find_a rs v.key hrl
  have hpu := cput_a (J.getC cs v.key) v (hs.get v.key)
  refine Aw_seq (Aw_region ?_)
  refine Al_p (Pu_boxN rfl rfl) ?_
  refine Al_p Pu_mvr ?_
  refine Al_nil (Aw_seq (Aw_seq ?_))
  refine Aw_draw 12 (by kernel_rfl) (by kernel_rfl) ?_
  refine Dr_p Pu_mvl ?_
  refine Dr_p (Pu_eqnilb Tryz.underlying79 rfl rfl) ?_
  refine Dr_p Pu_mvl ?_
  refine Dr_st (St_gd [] rfl rfl rfl rfl trivial (fun hg10 => by exact Pu_move (.inl rfl) (by conv => lhs; whnf))) rfl ?_
  refine Dr_st (St_gd [10] rfl rfl rfl rfl ⟨⟨_, rfl⟩, trivial⟩ (fun hg11 => Pu_nilb rfl rfl)) rfl ?_
  refine Dr_st (St_gd [11] rfl rfl rfl rfl ⟨⟨_, rfl⟩, trivial⟩ (fun hg12 => Pu_fieldb 0 rfl Tryz.underlying115 rfl rfl Tryz.sizeOf26 rfl)) rfl ?_
  refine Dr_st (St_gd [12] rfl rfl rfl rfl ⟨⟨_, rfl⟩, trivial⟩ (fun hg13 => Pu_loadb rfl Tryz.isAgg26 rfl rfl rfl)) rfl ?_
  refine Dr_st (St_gd [] rfl rfl rfl rfl trivial (fun hg14 => Pu_field 0 rfl Tryz.underlying34 rfl rfl Tryz.sizeOf9 rfl)) rfl ?_
  refine Dr_st (St_gd [14] rfl rfl rfl rfl ⟨⟨_, rfl⟩, trivial⟩ (fun hg15 => Pu_load1 rfl Tryz.isAgg9 rfl rfl)) rfl ?_
  refine Dr_st (St_gd [13, 15] rfl rfl rfl rfl ⟨⟨_, rfl⟩, ⟨_, rfl⟩, trivial⟩ (fun hg16 => Pu_call (hfi) rfl ⟨Sub.rfl, Sub.rfl, trivial⟩)) rfl ?_
  refine Dr_st (St_gd [16] rfl rfl rfl rfl ⟨⟨_, rfl⟩, trivial⟩ (fun hg17 => Pu_cmp rfl rfl rfl rfl)) rfl ?_
  refine Dr_p (Pu_or rfl rfl rfl rfl) ?_
  refine Dr_nil (Al_nil ?_)
  refine Aw_cond rfl (fun h18 => ?_) (fun h18 => ?_)
  · skip
    have hno : J.sput rs cs v = (cs, false) := by
      unfold J.sput
      rw [if_pos (by simpa using h18)]
    refine Aw_seq (Aw_region ?_)
    refine Al_p Pu_mvr ?_
    refine Al_nil ?_
    refine Aw_ret ?_
    exact ⟨_, _, [], rfl, Sub.bool (by rw [hno]), ⟨rfl, obeq2 (by rw [hno]), trivial⟩, rfl⟩ -- ret 0
  · skip
    have hfn : ¬ findR rs v.key < 0 := by simpa using h18
    refine Aw_skip (Aw_seq ?_)
    refine Aw_draw 14 (by kernel_rfl) (by kernel_rfl) ?_
    refine Dr_p Pu_mvl ?_
    refine Dr_p (Pu_nilb rfl rfl) ?_
    refine Dr_p (Pu_fieldb 1 rfl Tryz.underlying115 rfl rfl Tryz.sizeOf113 rfl) ?_
    refine Dr_p (Pu_loadb rfl Tryz.isAgg113 rfl rfl rfl) ?_
    refine Dr_p (Pu_field 0 rfl Tryz.underlying34 rfl rfl Tryz.sizeOf9 rfl) ?_
    refine Dr_p (Pu_load1 rfl Tryz.isAgg9 rfl rfl) ?_
    refine Dr_p (Pu_lookup (c := v.key) (z := versA []) keyS_T rfl Tryz.underlying113 Tryz.zeroValue65 (fun M w => .nil _ _ _) rfl rfl rfl (Only.v _) hk) ?_
    refine Dr_p (Pu_loadN rfl Tryz.isAgg34 Tryz.sizeOf34 rfl (Nat.le_of_ble_eq_true rfl)) ?_
    refine Dr_p (Pu_call (hpu) rfl ⟨Sub.d (J.look_getA cs v.key), Sub.rfl, trivial⟩) ?_
    refine Dr_p Pu_mvl ?_
    refine Dr_p (Pu_extract rfl rfl rfl) ?_
    refine Dr_p (Pu_extract rfl rfl rfl) ?_
    refine Dr_p Pu_mvr ?_
    refine Dr_p Pu_mvr ?_
    refine Dr_nil (Al_nil ?_)
    -- join 0: live [6], turned []
    refine Aw_seq (Aw_seq (Aw_region ?_))
    refine Al_p Pu_mvl ?_
    refine Al_nil ?_
    refine Aw_cond rfl (fun h31 => ?_) (fun h31 => ?_)
    · skip
      obtain ⟨l, hl2⟩ := Option.isSome_iff_exists.1 h31
      have hyes : J.sput rs cs v = (J.setC cs v.key l, true) := by
        unfold J.sput
        rw [if_neg hfn, hl2]
      have hlk : (fun c => if c = v.key then some l else J.look cs c) = J.look (J.setC cs v.key l) := funext fun c => (J.look_set cs v.key l c hr).symm
      refine Aw_draw 7 (by kernel_rfl) (by kernel_rfl) ?_
      refine Dr_p Pu_mvl ?_
      refine Dr_p (Pu_nilb rfl rfl) ?_
      refine Dr_p (Pu_fieldb 1 rfl Tryz.underlying115 rfl rfl Tryz.sizeOf113 rfl) ?_
      refine Dr_p (Pu_loadb rfl Tryz.isAgg113 rfl rfl rfl) ?_
      refine Dr_p (Pu_field 0 rfl Tryz.underlying34 rfl rfl Tryz.sizeOf9 rfl) ?_
      refine Dr_p (Pu_load1 rfl Tryz.isAgg9 rfl rfl) ?_
      refine Dr_p Pu_mvl ?_
      refine Dr_nil ?_
      refine Al_mapUpdate (c := v.key) (v := l) keyS_T rfl rfl rfl (by kernel_rfl) Tryz.underlying113 (by have := hs.1; simp only [maxLen]; omega) rfl rfl rfl (Only.v _) hk (Sub.d (by rw [hl2]; rfl)) ?_
      refine Al_mapT (k := 1002) ((J.setC cs v.key l).map (·.1)) rfl hlk (fun c hc => (J.look_keys (J.rise_set cs v.key l hr) c).1 hc) (List.length_map ..) ?_
      refine Al_nil (Aw_seq (Aw_region ?_))
      refine Al_p Pu_mvl ?_
      refine Al_p Pu_mvr ?_
      refine Al_nil ?_
      refine Aw_ret ?_
      exact ⟨_, _, [], rfl, Sub.bool (by rw [h31, hyes]), ⟨rfl, obeq2 (by rw [hyes]), trivial⟩, rfl⟩ -- ret 1
    · skip
      have hyes : J.sput rs cs v = (cs, false) := by
        unfold J.sput
        rw [if_neg hfn]
        cases hp : J.put (J.getC cs v.key) v with
        | none => rfl
        | some l => rw [hp] at h31; cases h31
      refine Aw_skip (Aw_seq (Aw_region ?_))
      refine Al_p Pu_mvl ?_
      refine Al_p Pu_mvr ?_
      refine Al_nil ?_
      refine Aw_ret ?_
      exact ⟨_, _, [], rfl, Sub.bool (by rw [h31, hyes]), ⟨rfl, obeq2 (by rw [hyes]), trivial⟩, rfl⟩ -- ret 2
set_option maxRecDepth 100000 in
set_option maxHeartbeats 1000000 in
theorem shave_g (rs : List Rng) (cs : SC) (b : Nat) (hr : J.RiseC cs) (hs : J.Sm 1000 cs) : GCall Tryz.prog 49 [.bx 1001 0 0] (SH rs cs b) (some (SH rs cs b, .d (.sl 3 ((J.have' cs).map Dep.row)))) := by
  refine GCall_enterL (fun _ _ => by kernel_rfl) Tryz.func49 rfl Tryz.ntmps49 (ReadsS.r1 Tryz.results49) (Nat.le_of_ble_eq_true rfl) (fun hok hokB M0 w0 hl => ?_)
  have hcl := hs.1
  refine Aw_seq (Aw_region ?_)
  refine Al_p Pu_mvr ?_
  refine Al_nil (Aw_seq (Aw_region ?_))
  refine Al_p Pu_mvr ?_
  refine Al_nil (Aw_seq (Aw_seq (Aw_region ?_)))
  refine Al_p Pu_mvl ?_
  refine Al_gcall [(1001, 1001, 0), (1002, 1002, 0)] [] (skeys_g rs cs b hr hs) rfl rfl rfl (by decide) (by kernel_rfl) ⟨rfl, rfl, trivial⟩ rfl ⟨Sub.rfl, trivial⟩ (fun g9 => ?_)
  refine Al_p (Pu_len rfl Tryz.underlying121 rfl (by first | exact List.length_map .. | exact rfl)) ?_
  refine Al_p Pu_mvl ?_
  refine Al_nil (Aw_block ?_)
  refine Aw_own (j := 3) (k := 3) (T := 59) (n := 3) rfl (fun g0 => ?_)
  refine Aw_loopk (ι := Nat × Nat) [0, 9, 10] [1001, 1002] (fun (k, g) => [(11, .d (iv k)), (3, .ow 3 g)]) (fun (k, g) => [(3, g, .arr 59 3 (((J.have' cs).take k).map Dep.row))]) (fun (k, g) => k ≤ cs.length) (fun (k, g) => cs.length - k) ((0, g0)) (Nat.zero_le _) ⟨Sub.rfl, Sub.rfl, trivial⟩ ⟨rfl, trivial⟩ ?_
  rintro ⟨k, g⟩ hk0
  refine Aw_seq (Aw_region ?_)
  refine Al_p (Pu_cmp rfl rfl rfl rfl) ?_
  refine Al_nil (Aw_seq ?_)
  refine Aw_cond rfl (fun h12 => ?_) (fun h12 => ?_)
  · (try simp only [decide_eq_true_eq, decide_eq_false_iff_not, Bool.and_eq_true, Bool.or_eq_true, Bool.and_eq_false_iff, Bool.or_eq_false_iff, Bool.not_eq_true', Bool.not_eq_false', beq_iff_eq, Bool.not_eq_eq_eq_not, Bool.not_true, Bool.not_false, List.length_map, Bool.and_true, Bool.and_false, Bool.false_and, Bool.true_and, Bool.or_false, Bool.false_or] at h12)
    have hk : k < cs.length := by first | omega | (unfold J.keysC at h12; simp at h12; omega)
    have hkk : k < (J.keysC cs).length := by unfold J.keysC; simpa using hk
    refine Aw_skip (Aw_seq (Aw_block (Aw_seq (Aw_region ?_))))
    refine Al_p (Pu_index rfl Tryz.underlying121 Tryz.sizeOf9 rfl rfl (rfl) (mapgetD (d := default) hkk)) ?_
    refine Al_p (Pu_load1 rfl Tryz.isAgg9 rfl rfl) ?_
    refine Al_p Pu_mvr ?_
    refine Al_nil (Aw_seq (Aw_region ?_))
    refine Al_p Pu_mvl ?_
    refine Al_p Pu_mvl ?_
    refine Al_gcall [(1001, 1001, 0), (1002, 1002, 0)] [] (shead_g rs cs b ((J.keysC cs).getD k default) hs) rfl rfl rfl (by decide) (by kernel_rfl) ⟨rfl, rfl, trivial⟩ rfl ⟨Sub.rfl, Sub.rfl, trivial⟩ (fun g18 => ?_)
    refine Al_p Pu_mvl ?_
    refine Al_p (Pu_extract rfl rfl rfl) ?_
    refine Al_p (Pu_extract rfl rfl rfl) ?_
    refine Al_alloc rfl rfl rfl (by decide) Tryz.zeroValue34 rfl (by kernel_rfl) (fun g6 => ?_)
    refine Al_storeN rfl rfl rfl (by kernel_rfl) Tryz.isAgg34 Tryz.sizeOf34 rfl rfl rfl rfl (Nat.le_of_ble_eq_true rfl) ?_
    refine Al_p Pu_mvr ?_
    refine Al_nil (Aw_region ?_)
    refine Al_p Pu_mvl ?_
    refine Al_p Pu_mvl ?_
    refine Al_p (Pu_fieldb 3 rfl Tryz.underlying34 rfl rfl Tryz.sizeOf31 rfl) ?_
    refine Al_p (Pu_loadbN (r := [_, _]) rfl Tryz.isAgg31 Tryz.sizeOf31 rfl rfl rfl rfl) ?_
    refine Al_p (Pu_build (aa := [(0, _), (1, _)]) rfl Tryz.underlying59 Tryz.zeroValue59 (places59 Tryz.underlying59) (by kernel_rfl) ⟨rfl, rfl, rfl, rfl, rfl, rfl, trivial⟩ rfl) ?_
    refine Al_p (Pu_slice1 rfl Tryz.underlying32 Tryz.sizeOf59 Tryz.zeroValue59 rfl (by decide) (by decide) (by kernel_rfl) rfl rfl rfl) ?_
    refine Al_append rfl rfl rfl (by decide) (by kernel_rfl) elem32 (by decide) Tryz.sizeOf59 rfl rfl rfl (by simp; omega) (by decide) (fun g27 => ?_)
    refine Al_p Pu_mvr ?_
    refine Al_nil (Aw_region ?_)
    refine Al_p (Pu_add rfl rfl rfl (fun h1 h2 => by simp only [A.inI, A.maxI] at *; omega)) ?_
    refine Al_p Pu_mvl ?_
    refine Al_nil ?_
    exact ⟨(k + 1, g27), by omega, by simp only []; omega, Le.ov ⟨Sub.num (by omega), Sub.rfl, trivial⟩ ⟨Sub.rfl, Sub.rfl, Sub.rfl, trivial⟩ ⟨obeq (by rw [J.take_have cs hk, List.map_append]; rfl), trivial⟩ ⟨rfl, rfl, trivial⟩⟩ -- loop 0 next.0
  · (try simp only [decide_eq_true_eq, decide_eq_false_iff_not, Bool.and_eq_true, Bool.or_eq_true, Bool.and_eq_false_iff, Bool.or_eq_false_iff, Bool.not_eq_true', Bool.not_eq_false', beq_iff_eq, Bool.not_eq_eq_eq_not, Bool.not_true, Bool.not_false, List.length_map, Bool.and_true, Bool.and_false, Bool.false_and, Bool.true_and, Bool.or_false, Bool.false_or] at h12)
    have hkn : k = cs.length := by first | omega | (unfold J.keysC at h12; simp at h12; omega)
    have htk : (J.have' cs).take k = J.have' cs := List.take_of_length_le (by subst hkn; unfold J.have' J.keysC; simp)
    refine Aw_exit (Aw_seq (Aw_region ?_))
    refine Al_p Pu_mvl ?_
    refine Al_p Pu_mvr ?_
    refine Al_nil ?_
    refine Aw_frzL hl (k := 3) [2] rfl ⟨rfl, ⟨_, rfl, fun _ _ h => h⟩, rfl, ⟨_, rfl, fun _ _ h => h⟩, trivial⟩ ⟨rfl, trivial⟩ ?_
    refine Aw_ret ?_
    exact ⟨_, _, [], rfl, Sub.d (by rw [htk]), ⟨rfl, rfl, trivial⟩, rfl⟩ -- ret 0
namespace J
theorem look_mid : ∀ (a : SC) (k : ByteArray) (l l' : List Ver) (b : SC) (c : ByteArray), (∀ p ∈ a, p.1 ≠ k) → look (a ++ (k, l') :: b) c = if c = k then some l' else look (a ++ (k, l) :: b) c
  | [], k, l, l', b, c, _ => by
    rw [List.nil_append, List.nil_append, look_cons, look_cons]
    by_cases h : c = k
    · rw [if_pos h.symm, if_pos h]
    · rw [if_neg (fun e => h e.symm), if_neg h, if_neg (fun e => h e.symm)]
  | p :: r, k, l, l', b, c, h => by
    have ih := look_mid r k l l' b c fun q hq => h q (List.mem_cons_of_mem _ hq)
    rw [List.cons_append, List.cons_append, look_cons, look_cons, ih]
    have hp := h p (List.mem_cons_self ..)
    by_cases h1 : p.1 = c
    · rw [if_pos h1, if_pos h1, if_neg (fun e => hp (h1.trans e))]
    · rw [if_neg h1, if_neg h1]
theorem look_del : ∀ (a : SC) (k : ByteArray) (l : List Ver) (b : SC) (c : ByteArray), (∀ p ∈ a, p.1 ≠ k) → (∀ p ∈ b, p.1 ≠ k) → look (a ++ b) c = if c = k then none else look (a ++ (k, l) :: b) c
  | [], k, l, b, c, _, hb => by
    rw [List.nil_append, List.nil_append, look_cons]
    by_cases h : c = k
    · rw [if_pos h, h, look_none hb]
    · rw [if_neg h, if_neg (fun e => h e.symm)]
  | p :: r, k, l, b, c, h, hb => by
    have ih := look_del r k l b c (fun q hq => h q (List.mem_cons_of_mem _ hq)) hb
    rw [List.cons_append, List.cons_append, look_cons, look_cons, ih]
    have hp := h p (List.mem_cons_self ..)
    by_cases h1 : p.1 = c
    · rw [if_pos h1, if_pos h1, if_neg (fun e => hp (h1.trans e))]
    · rw [if_neg h1, if_neg h1]
theorem rise_at {cs : SC} (h : RiseC cs) {k : Nat} (hk : k < cs.length) : (∀ p ∈ cs.take k, p.1 ≠ cs[k].1) ∧ ∀ p ∈ cs.drop (k + 1), p.1 ≠ cs[k].1 := by
  have hn := List.pairwise_iff_getElem.1 (rise_nodup h)
  refine ⟨fun p hp e => ?_, fun p hp e => ?_⟩
  · obtain ⟨i, hi, rfl⟩ := List.getElem_of_mem hp
    rw [List.length_take] at hi
    rw [List.getElem_take] at e
    exact hn i k (by simp; omega) (by simpa using hk) (by omega) (by simpa using e)
  · obtain ⟨i, hi, rfl⟩ := List.getElem_of_mem hp
    rw [List.length_drop] at hi
    rw [List.getElem_drop] at e
    exact hn k (k + 1 + i) (by simpa using hk) (by simp; omega) (by omega) (by simpa using e.symm)
/-- The first so many chains are cleaned. -/
def cleanTo (cs : SC) (n s : Int) (pins : List Dep) (k : Nat) : SC := (cs.take k).map (fun p => (p.1, clean p.2 n s (pinsOf pins p.1))) ++ cs.drop k
theorem cleanTo_keys (cs : SC) (n s : Int) (pins : List Dep) (k : Nat) : (cleanTo cs n s pins k).map (·.1) = cs.map (·.1) := by
  unfold cleanTo
  rw [List.map_append, List.map_map]
  conv => rhs; rw [← List.take_append_drop k cs, List.map_append]
  congr 1
theorem cleanTo_all (cs : SC) (n s : Int) (pins : List Dep) : cleanTo cs n s pins cs.length = sclean cs n s pins := by
  unfold cleanTo sclean; simp
theorem cleanTo_get {cs : SC} (h : RiseC cs) (n s : Int) (pins : List Dep) {k : Nat} (hk : k < cs.length) : getC (cleanTo cs n s pins k) cs[k].1 = cs[k].2 := by
  have hm : cs[k] ∈ cleanTo cs n s pins k := by
    unfold cleanTo
    rw [List.drop_eq_getElem_cons hk]
    exact List.mem_append_right _ (List.mem_cons_self ..)
  have hr : RiseC (cleanTo cs n s pins k) := by unfold RiseC; rw [cleanTo_keys]; exact h
  unfold getC
  rw [look_mem hr hm]; rfl
theorem cleanTo_succ {cs : SC} (h : RiseC cs) (n s : Int) (pins : List Dep) {k : Nat} (hk : k < cs.length) (c : ByteArray) : look (cleanTo cs n s pins (k + 1)) c = if c = cs[k].1 then some (clean cs[k].2 n s (pinsOf pins cs[k].1)) else look (cleanTo cs n s pins k) c := by
  have h1 : cleanTo cs n s pins (k + 1) = (cs.take k).map (fun p => (p.1, clean p.2 n s (pinsOf pins p.1))) ++ (cs[k].1, clean cs[k].2 n s (pinsOf pins cs[k].1)) :: cs.drop (k + 1) := by
    unfold cleanTo
    rw [List.take_succ_eq_append_getElem hk, List.map_append]; simp
  have h2 : cleanTo cs n s pins k = (cs.take k).map (fun p => (p.1, clean p.2 n s (pinsOf pins p.1))) ++ (cs[k].1, cs[k].2) :: cs.drop (k + 1) := by
    unfold cleanTo
    rw [List.drop_eq_getElem_cons hk]
  rw [h1, h2]
  refine look_mid _ _ _ _ _ c fun p hp => ?_
  obtain ⟨q, hq, rfl⟩ := List.mem_map.1 hp
  exact (rise_at h hk).1 q hq
/-- Of the first so many chains those that some ranges have. -/
def moveTo (cs : SC) (rs : List Rng) (k : Nat) : SC := (cs.take k).filter (fun p => decide (0 ≤ findR rs p.1)) ++ cs.drop k
theorem moveTo_all (cs : SC) (rs : List Rng) : moveTo cs rs cs.length = smove cs rs := by
  unfold moveTo smove; simp
theorem moveTo_sub (cs : SC) (rs : List Rng) (k : Nat) : (moveTo cs rs k).Sublist cs := by
  unfold moveTo
  conv => rhs; rw [← List.take_append_drop k cs]
  exact List.Sublist.append (List.filter_sublist ..) (List.Sublist.refl _)
theorem rise_sub {a cs : SC} (h : RiseC cs) (hs : a.Sublist cs) : RiseC a := List.Pairwise.sublist (hs.map _) h
theorem moveTo_keep {cs : SC} (rs : List Rng) {k : Nat} (hk : k < cs.length) (h : ¬ findR rs cs[k].1 < 0) : moveTo cs rs (k + 1) = moveTo cs rs k := by
  unfold moveTo
  rw [List.take_succ_eq_append_getElem hk, List.filter_append, List.filter_cons, if_pos (by simp; omega), List.drop_eq_getElem_cons hk]
  simp
theorem moveTo_drop {cs : SC} (hr : RiseC cs) (rs : List Rng) {k : Nat} (hk : k < cs.length) (h : findR rs cs[k].1 < 0) (c : ByteArray) : look (moveTo cs rs (k + 1)) c = if c = cs[k].1 then none else look (moveTo cs rs k) c := by
  have h1 : moveTo cs rs (k + 1) = (cs.take k).filter (fun p => decide (0 ≤ findR rs p.1)) ++ cs.drop (k + 1) := by
    unfold moveTo
    rw [List.take_succ_eq_append_getElem hk, List.filter_append, List.filter_cons, if_neg (by simp; omega)]
    simp
  have h2 : moveTo cs rs k = (cs.take k).filter (fun p => decide (0 ≤ findR rs p.1)) ++ (cs[k].1, cs[k].2) :: cs.drop (k + 1) := by
    unfold moveTo
    rw [List.drop_eq_getElem_cons hk]
  rw [h1, h2]
  refine look_del _ _ _ _ c (fun p hp => ?_) (rise_at hr hk).2
  exact (rise_at hr hk).1 p (List.mem_filter.1 hp).1
theorem keys_at (cs : SC) {k : Nat} (hk : k < cs.length) : (keysC cs).getD k default = cs[k].1 := by unfold keysC; simp [hk]
end J
set_option maxRecDepth 100000 in
theorem pinned_g (d : Dep) (key : ByteArray) (l : List (Int × Int)) (hll : l.length ≤ 1000000) : GCall Tryz.prog 90 [.d (.row d.row), .bx 1001 0 0, .bx 1002 0 0] [(1001, .box 9 [.d (tv key)]), (1002, .box 101 [.ow 1003 0]), (1003, .arr 31 2 (l.map stA))] (some ([(1001, .box 9 [.d (tv key)]), (1002, .box 101 [.ow 1004 0]), (1004, .arr 31 2 ((l ++ (if d.key.toList == key.toList then [(d.n, d.s)] else [])).map stA))], .d (.tup []))) := by
  refine GCall_enterL (fun _ _ => by kernel_rfl) Tryz.func90 rfl Tryz.ntmps90 (ReadsS.r0 Tryz.results90) (Nat.le_of_ble_eq_true rfl) (fun hok hokB M0 w0 hl => ?_)
  refine Aw_seq (Aw_region ?_)
  refine Al_p (Pu_boxN rfl rfl) ?_
  refine Al_nil (Aw_seq (Aw_region ?_))
  refine Al_p (Pu_field 0 rfl Tryz.underlying59 rfl rfl Tryz.sizeOf9 rfl) ?_
  refine Al_p (Pu_load1 rfl Tryz.isAgg9 rfl rfl) ?_
  refine Al_p (Pu_loadb rfl Tryz.isAgg9 rfl rfl rfl) ?_
  refine Al_p (Pu_str rfl rfl rfl rfl) ?_
  refine Al_nil ?_
  refine Aw_cond rfl (fun h7 => ?_) (fun h7 => ?_)
  · skip
    refine Aw_region ?_
    refine Al_p (Pu_loadb rfl Tryz.isAgg101 rfl rfl rfl) ?_
    refine Al_p (Pu_field 1 rfl Tryz.underlying59 rfl rfl Tryz.sizeOf31 rfl) ?_
    refine Al_p (Pu_loadN rfl Tryz.isAgg31 Tryz.sizeOf31 rfl (Nat.le_of_ble_eq_true rfl)) ?_
    refine Al_p (Pu_slice1 rfl Tryz.underlying101 Tryz.sizeOf31 Tryz.zeroValue31 rfl (by decide) (by decide) (by kernel_rfl) rfl rfl rfl) ?_
    refine Al_append rfl rfl rfl (by decide) (by kernel_rfl) elem101 (by decide) Tryz.sizeOf31 rfl rfl rfl (by simp; omega) (by decide) (fun g12 => ?_)
    refine Al_store1 rfl rfl rfl (by kernel_rfl) Tryz.isAgg101 Tryz.sizeOf101 rfl rfl (Nat.le_of_ble_eq_true rfl) (by conv => lhs; whnf) rfl ?_
    refine Al_nil ?_
    exact ⟨_, _, [(1004, 1003, g12)], rfl, rfl, ⟨rfl, rfl, obeq (by rw [if_pos h7, List.map_append]; rfl), trivial⟩, rfl⟩ -- ret 0
  · skip
    refine Aw_skip ?_
    exact ⟨_, _, [(1004, 1003, 0)], rfl, rfl, ⟨rfl, rfl, obeq (by rw [if_neg (by rw [h7]; decide), List.append_nil]), trivial⟩, rfl⟩ -- ret 1
set_option maxRecDepth 100000 in
set_option maxHeartbeats 2000000 in
theorem sclean_g (rs : List Rng) (cs : SC) (b : Nat) (n s : Int) (pins : List Dep) (hpl : pins.length ≤ 100000) (hr : J.RiseC cs) (hs : J.Sm 1000 cs) : GCall Tryz.prog 57 [.bx 1001 0 0, .d (.row [iv n, iv s]), .d (.sl 3 (pins.map Dep.row))] (SH rs cs b) (some (SH rs (J.sclean cs n s pins) b, .d (.tup []))) := by
  refine GCall_enterL (fun _ _ => by kernel_rfl) Tryz.func57 rfl Tryz.ntmps57 (ReadsS.r0 Tryz.results57) (Nat.le_of_ble_eq_true rfl) (fun hok hokB M0 w0 hl => ?_)
  have hcl := hs.1
  refine Aw_seq (Aw_region ?_)
  refine Al_p (Pu_boxN rfl rfl) ?_
  refine Al_nil (Aw_seq (Aw_region ?_))
  refine Al_p Pu_mvl ?_
  refine Al_gcall [(1001, 1001, 0), (1002, 1002, 0)] [] (skeys_g rs cs b hr hs) rfl rfl rfl (by decide) (by kernel_rfl) ⟨rfl, rfl, trivial⟩ rfl ⟨Sub.rfl, trivial⟩ (fun g13 => ?_)
  refine Al_p (Pu_len rfl Tryz.underlying121 rfl (by first | exact List.length_map .. | exact rfl)) ?_
  refine Al_p Pu_mvl ?_
  refine Al_nil (Aw_block ?_)
  refine Aw_loopk (ι := Nat) [0, 2, 4, 13, 14] [1001] (fun k => [(15, .d (iv k))]) (fun k => [(1002, 0, mapV b (J.cleanTo cs n s pins k))]) (fun k => k ≤ cs.length) (fun k => cs.length - k) (0) (Nat.zero_le _) ⟨Sub.rfl, trivial⟩ ⟨rfl, trivial⟩ ?_
  rintro k hk0
  refine Aw_seq (Aw_region ?_)
  refine Al_p (Pu_cmp rfl rfl rfl rfl) ?_
  refine Al_nil (Aw_seq ?_)
  refine Aw_cond rfl (fun h16 => ?_) (fun h16 => ?_)
  · (try simp only [decide_eq_true_eq, decide_eq_false_iff_not, Bool.and_eq_true, Bool.or_eq_true, Bool.and_eq_false_iff, Bool.or_eq_false_iff, Bool.not_eq_true', Bool.not_eq_false', beq_iff_eq, Bool.not_eq_eq_eq_not, Bool.not_true, Bool.not_false, List.length_map, Bool.and_true, Bool.and_false, Bool.false_and, Bool.true_and, Bool.or_false, Bool.false_or] at h16)
    have hk : k < cs.length := by first | omega | (unfold J.keysC at h16; simp at h16; omega)
    have hkk : k < (J.keysC cs).length := by unfold J.keysC; simpa using hk
    have hkey := J.keys_at cs hk
    have hksz : okS cs[k].1 := (hs.2 _ (List.getElem_mem hk)).2
    have hlen2 : cs[k].2.length ≤ 1000 := (hs.2 _ (List.getElem_mem hk)).1
    have hget := J.cleanTo_get hr n s pins hk
    have hrk : J.RiseC (J.cleanTo cs n s pins (k + 1)) := by unfold J.RiseC; rw [J.cleanTo_keys]; exact hr
    refine Aw_skip (Aw_seq (Aw_block (Aw_seq (Aw_region ?_))))
    refine Al_p (Pu_index rfl Tryz.underlying121 Tryz.sizeOf9 rfl rfl (rfl) (mapgetD (d := default) hkk)) ?_
    refine Al_p (Pu_load1 rfl Tryz.isAgg9 rfl rfl) ?_
    refine Al_alloc rfl rfl rfl (by decide) Tryz.zeroValue9 rfl (by kernel_rfl) (fun g7 => ?_)
    refine Al_store1 rfl rfl rfl (by kernel_rfl) Tryz.isAgg9 Tryz.sizeOf9 rfl rfl (Nat.le_of_ble_eq_true rfl) (by conv => lhs; whnf) rfl ?_
    refine Al_nil (Aw_seq (Aw_region ?_))
    refine Al_alloc rfl rfl rfl (by decide) Tryz.zeroValue101 rfl (by kernel_rfl) (fun g8 => ?_)
    refine Al_nil (Aw_seq (Aw_region ?_))
    refine Al_p (Pu_makeFuncS [] [.bx 7 g7 0, .bx 8 g8 0] rfl trivial ⟨Sub.rfl, Sub.rfl, trivial⟩) ?_
    refine Al_p Pu_mvr ?_
    refine Al_nil (Aw_seq (Aw_seq (Aw_region ?_)))
    refine Al_p Pu_mvl ?_
    refine Al_p (Pu_len rfl Tryz.underlying32 rfl (by first | exact List.length_map .. | exact rfl)) ?_
    refine Al_p Pu_mvl ?_
    refine Al_nil (Aw_block ?_)
    refine Aw_owncell 0 (k := 8) (k2 := 80) (e := 31) (n := 2) rfl rfl rfl (fun g80 => ?_)
    refine Aw_loopk (ι := Nat × Nat) [0, 2, 4, 7, 8, 9, 13, 14, 15, 20, 21] [1001, 1002, 7] (fun (j, g) => [(22, .d (iv j))]) (fun (j, g) => [(8, g8, .box 101 [.ow 80 g]), (80, g, .arr 31 2 ((J.pinsOf (pins.take j) ((J.keysC cs).getD k default)).map stA))]) (fun (j, g) => j ≤ pins.length) (fun (j, g) => pins.length - j) ((0, g80)) (Nat.zero_le _) ⟨Sub.rfl, trivial⟩ ⟨rfl, rfl, trivial⟩ ?_
    rintro ⟨j, g⟩ hk1
    refine Aw_seq (Aw_region ?_)
    refine Al_p (Pu_cmp rfl rfl rfl rfl) ?_
    refine Al_nil (Aw_seq ?_)
    refine Aw_cond rfl (fun h23 => ?_) (fun h23 => ?_)
    · (try simp only [decide_eq_true_eq, decide_eq_false_iff_not, Bool.and_eq_true, Bool.or_eq_true, Bool.and_eq_false_iff, Bool.or_eq_false_iff, Bool.not_eq_true', Bool.not_eq_false', beq_iff_eq, Bool.not_eq_eq_eq_not, Bool.not_true, Bool.not_false, List.length_map, Bool.and_true, Bool.and_false, Bool.false_and, Bool.true_and, Bool.or_false, Bool.false_or] at h23)
      have hj : j < pins.length := by omega
      have hps := J.pinsOf_succ hj ((J.keysC cs).getD k default)
      have hpl2 : (J.pinsOf (pins.take j) ((J.keysC cs).getD k default)).length ≤ 1000000 := by
        unfold J.pinsOf
        have := List.length_filter_le (fun d : Dep => d.key.toList == ((J.keysC cs).getD k default).toList) (pins.take j)
        simp at *; omega
      refine Aw_skip (Aw_seq (Aw_block (Aw_seq (Aw_region ?_))))
      refine Al_p (Pu_index rfl Tryz.underlying32 Tryz.sizeOf59 rfl rfl (rfl) (mapgetD (d := default) hj)) ?_
      refine Al_p (Pu_loadN rfl Tryz.isAgg59 Tryz.sizeOf59 rfl (Nat.le_of_ble_eq_true rfl)) ?_
      refine Al_alloc rfl rfl rfl (by decide) Tryz.zeroValue59 rfl (by kernel_rfl) (fun g11 => ?_)
      refine Al_storeN rfl rfl rfl (by kernel_rfl) Tryz.isAgg59 Tryz.sizeOf59 rfl rfl rfl rfl (Nat.le_of_ble_eq_true rfl) ?_
      refine Al_nil (Aw_region ?_)
      refine Al_p Pu_mvl ?_
      refine Al_p (Pu_loadbN (r := [_, _, _]) rfl Tryz.isAgg59 Tryz.sizeOf59 rfl rfl rfl rfl) ?_
      refine Al_gcallv [(1001, 7, g7), (1002, 8, g8), (1003, 80, g)] [(1004, 80)] (pinned_g (pins.getD j default) ((J.keysC cs).getD k default) (J.pinsOf (pins.take j) ((J.keysC cs).getD k default)) hpl2) rfl rfl rfl (by decide) (by kernel_rfl) rfl ⟨rfl, rfl, rfl, trivial⟩ rfl [.d (.row (pins.getD j default).row)] rfl ⟨Sub.rfl, trivial⟩ (fun g28 => ?_)
      refine Al_nil (Aw_region ?_)
      refine Al_p (Pu_add rfl rfl rfl (fun h1 h2 => by simp only [A.inI, A.maxI] at *; omega)) ?_
      refine Al_p Pu_mvl ?_
      refine Al_nil ?_
      exact ⟨(j + 1, g28), by omega, by simp only []; omega, Le.ov ⟨Sub.num (by omega), trivial⟩ ⟨Sub.rfl, Sub.rfl, Sub.rfl, Sub.rfl, Sub.rfl, Sub.rfl, Sub.rfl, Sub.rfl, Sub.rfl, Sub.rfl, Sub.rfl, trivial⟩ ⟨rfl, obeq (by rw [hps]), trivial⟩ ⟨rfl, rfl, rfl, trivial⟩⟩ -- loop 1 next.0
    · (try simp only [decide_eq_true_eq, decide_eq_false_iff_not, Bool.and_eq_true, Bool.or_eq_true, Bool.and_eq_false_iff, Bool.or_eq_false_iff, Bool.not_eq_true', Bool.not_eq_false', beq_iff_eq, Bool.not_eq_eq_eq_not, Bool.not_true, Bool.not_false, List.length_map, Bool.and_true, Bool.and_false, Bool.false_and, Bool.true_and, Bool.or_false, Bool.false_or] at h23)
      have hjn : j = pins.length := by omega
      have hcc := cclean_a cs[k].2 n s (J.pinsOf pins cs[k].1) (by omega)
      refine Aw_exit ?_
      refine Aw_frzcL 0 (k := 80) (kb := 8) hl [] rfl ⟨rfl, ⟨_, rfl, fun _ _ h => h⟩, rfl, ⟨_, rfl, fun _ _ h => h⟩, trivial⟩ rfl rfl rfl trivial ?_
      refine Aw_draw 14 (by kernel_rfl) (by kernel_rfl) ?_
      refine Dr_p Pu_mvl ?_
      refine Dr_p (Pu_nilb rfl rfl) ?_
      refine Dr_p (Pu_fieldb 1 rfl Tryz.underlying115 rfl rfl Tryz.sizeOf113 rfl) ?_
      refine Dr_p (Pu_loadb rfl Tryz.isAgg113 rfl rfl rfl) ?_
      refine Dr_p (Pu_loadb rfl Tryz.isAgg9 rfl rfl rfl) ?_
      refine Dr_p Pu_mvl ?_
      refine Dr_p (Pu_nilb rfl rfl) ?_
      refine Dr_p (Pu_fieldb 1 rfl Tryz.underlying115 rfl rfl Tryz.sizeOf113 rfl) ?_
      refine Dr_p (Pu_loadb rfl Tryz.isAgg113 rfl rfl rfl) ?_
      refine Dr_p (Pu_loadb rfl Tryz.isAgg9 rfl rfl rfl) ?_
      refine Dr_p (Pu_lookup (c := cs[k].1) (z := versA []) keyS_T rfl Tryz.underlying113 Tryz.zeroValue65 (fun M w => .nil _ _ _) rfl rfl (by rw [← hkey]; rfl) (Only.v _) hksz) ?_
      refine Dr_p (Pu_loadN rfl Tryz.isAgg31 Tryz.sizeOf31 rfl (Nat.le_of_ble_eq_true rfl)) ?_
      refine Dr_p (Pu_loadb rfl Tryz.isAgg101 rfl rfl rfl) ?_
      refine Dr_p (Pu_call (hcc) rfl ⟨Sub.d (by rw [J.look_getA, hget]), Sub.rfl, Sub.d (by rw [hjn, List.take_length, hkey]), trivial⟩) ?_
      refine Dr_nil ?_
      refine Al_mapUpdate (c := cs[k].1) (v := J.clean cs[k].2 n s (J.pinsOf pins cs[k].1)) keyS_T rfl rfl rfl (by kernel_rfl) Tryz.underlying113 (by rw [show (J.cleanTo cs n s pins k).length = cs.length from by have := congrArg List.length (J.cleanTo_keys cs n s pins k); simpa using this]; simp only [maxLen]; omega) rfl rfl (by rw [← hkey]; rfl) (Only.v _) hksz Sub.rfl ?_
      refine Al_mapT (k := 1002) ((J.cleanTo cs n s pins (k + 1)).map (·.1)) rfl (funext fun c => (J.cleanTo_succ hr n s pins hk c).symm) (fun c hc => (J.look_keys hrk c).1 hc) (List.length_map ..) ?_
      refine Al_nil (Aw_region ?_)
      refine Al_p (Pu_add rfl rfl rfl (fun h1 h2 => by simp only [A.inI, A.maxI] at *; omega)) ?_
      refine Al_p Pu_mvl ?_
      refine Al_nil ?_
      exact ⟨k + 1, by omega, by omega, Le.ov ⟨Sub.num (by omega), trivial⟩ ⟨Sub.rfl, Sub.rfl, Sub.rfl, Sub.rfl, Sub.rfl, trivial⟩ ⟨rfl, trivial⟩ ⟨rfl, trivial⟩⟩ -- loop 0 next.0
  · (try simp only [decide_eq_true_eq, decide_eq_false_iff_not, Bool.and_eq_true, Bool.or_eq_true, Bool.and_eq_false_iff, Bool.or_eq_false_iff, Bool.not_eq_true', Bool.not_eq_false', beq_iff_eq, Bool.not_eq_eq_eq_not, Bool.not_true, Bool.not_false, List.length_map, Bool.and_true, Bool.and_false, Bool.false_and, Bool.true_and, Bool.or_false, Bool.false_or] at h16)
    have hkn : k = cs.length := by first | omega | (unfold J.keysC at h16; simp at h16; omega)
    refine Aw_exit ?_
    exact ⟨_, _, [], rfl, rfl, ⟨rfl, obeq2 (by rw [hkn, J.cleanTo_all]), trivial⟩, rfl⟩ -- ret 0
set_option maxRecDepth 100000 in
set_option maxHeartbeats 2000000 in
theorem smove_g (rs rs' : List Rng) (cs : SC) (b : Nat) (hrl : rs'.length ≤ 1000000) (hr : J.RiseC cs) (hs : J.Sm 1000 cs) : GCall Tryz.prog 65 [.bx 1001 0 0, .d (rngA rs')] (SH rs cs b) (some (SH rs' (J.smove cs rs') b, .d (.tup []))) := by
  refine GCall_enterL (fun _ _ => by kernel_rfl) Tryz.func65 rfl Tryz.ntmps65 (ReadsS.r0 Tryz.results65) (Nat.le_of_ble_eq_true rfl) (fun hok hokB M0 w0 hl => ?_)
  have hcl := hs.1
  refine Aw_seq (Aw_seq (Aw_region ?_))
  refine Al_p Pu_mvl ?_
  refine Al_p (Pu_eqnilb Tryz.underlying79 rfl rfl) ?_
  refine Al_nil ?_
  refine Aw_condF rfl (rfl) ?_
  refine Aw_skip (Aw_seq (Aw_region ?_))
  refine Al_p Pu_mvl ?_
  refine Al_p Pu_mvl ?_
  refine Al_gcall [] [(1001, 10)] (cloneR_g rs' hrl) rfl rfl rfl (by decide) (by kernel_rfl) trivial rfl ⟨Sub.rfl, trivial⟩ (fun g10 => ?_)
  refine Al_frzL hl (k := 10) [10] rfl ⟨rfl, ⟨_, rfl, fun _ _ h => h⟩, rfl, ⟨_, rfl, fun _ _ h => h⟩, trivial⟩ ⟨rfl, trivial⟩ ?_
  refine Al_p (Pu_nilb rfl rfl) ?_
  refine Al_p (Pu_fieldb 0 rfl Tryz.underlying115 rfl rfl Tryz.sizeOf26 rfl) ?_
  refine Al_store1 rfl rfl rfl (by kernel_rfl) Tryz.isAgg26 Tryz.sizeOf26 rfl rfl (Nat.le_of_ble_eq_true rfl) (by conv => lhs; whnf) rfl ?_
  refine Al_nil (Aw_seq (Aw_seq (Aw_region ?_)))
  refine Al_p Pu_mvl ?_
  refine Al_gcall [(1001, 1001, 0), (1002, 1002, 0)] [] (skeys_g rs' cs b hr hs) rfl rfl rfl (by decide) (by kernel_rfl) ⟨rfl, rfl, trivial⟩ rfl ⟨Sub.rfl, trivial⟩ (fun g14 => ?_)
  refine Al_p (Pu_len rfl Tryz.underlying121 rfl (by first | exact List.length_map .. | exact rfl)) ?_
  refine Al_p Pu_mvl ?_
  refine Al_nil (Aw_block ?_)
  refine Aw_loopk (ι := Nat) [0, 1, 14, 15] [1001] (fun k => [(16, .d (iv k))]) (fun k => [(1002, 0, mapV b (J.moveTo cs rs' k))]) (fun k => k ≤ cs.length) (fun k => cs.length - k) (0) (Nat.zero_le _) ⟨Sub.rfl, trivial⟩ ⟨rfl, trivial⟩ ?_
  rintro k hk0
  refine Aw_seq (Aw_region ?_)
  refine Al_p (Pu_cmp rfl rfl rfl rfl) ?_
  refine Al_nil (Aw_seq ?_)
  refine Aw_cond rfl (fun h17 => ?_) (fun h17 => ?_)
  · (try simp only [decide_eq_true_eq, decide_eq_false_iff_not, Bool.and_eq_true, Bool.or_eq_true, Bool.and_eq_false_iff, Bool.or_eq_false_iff, Bool.not_eq_true', Bool.not_eq_false', beq_iff_eq, Bool.not_eq_eq_eq_not, Bool.not_true, Bool.not_false, List.length_map, Bool.and_true, Bool.and_false, Bool.false_and, Bool.true_and, Bool.or_false, Bool.false_or] at h17)
    have hk : k < cs.length := by first | omega | (unfold J.keysC at h17; simp at h17; omega)
    have hkk : k < (J.keysC cs).length := by unfold J.keysC; simpa using hk
    have hkey := J.keys_at cs hk
    have hksz : okS cs[k].1 := (hs.2 _ (List.getElem_mem hk)).2
    have hrk : J.RiseC (J.moveTo cs rs' (k + 1)) := J.rise_sub hr (J.moveTo_sub ..)
    have hfi := find_a rs' ((J.keysC cs).getD k default) hrl
    refine Aw_skip ?_
    -- join 0: live [0, 1, 14, 15, 16], turned []
    refine Aw_seq (Aw_block (Aw_seq (Aw_region ?_)))
    refine Al_p (Pu_index rfl Tryz.underlying121 Tryz.sizeOf9 rfl rfl (rfl) (mapgetD (d := default) hkk)) ?_
    refine Al_p (Pu_load1 rfl Tryz.isAgg9 rfl rfl) ?_
    refine Al_p Pu_mvr ?_
    refine Al_nil (Aw_seq (Aw_region ?_))
    refine Al_p Pu_mvl ?_
    refine Al_p Pu_mvl ?_
    refine Al_p (Pu_call (hfi) rfl ⟨Sub.rfl, Sub.rfl, trivial⟩) ?_
    refine Al_p (Pu_cmp rfl rfl rfl rfl) ?_
    refine Al_nil ?_
    refine Aw_cond rfl (fun h23 => ?_) (fun h23 => ?_)
    · (try simp only [decide_eq_true_eq, decide_eq_false_iff_not, Bool.and_eq_true, Bool.or_eq_true, Bool.and_eq_false_iff, Bool.or_eq_false_iff, Bool.not_eq_true', Bool.not_eq_false', beq_iff_eq, Bool.not_eq_eq_eq_not, Bool.not_true, Bool.not_false, List.length_map, Bool.and_true, Bool.and_false, Bool.false_and, Bool.true_and, Bool.or_false, Bool.false_or] at h23)
      rw [hkey] at h23
      refine Aw_region ?_
      refine Al_p Pu_mvl ?_
      refine Al_p (Pu_nilb rfl rfl) ?_
      refine Al_p (Pu_fieldb 1 rfl Tryz.underlying115 rfl rfl Tryz.sizeOf113 rfl) ?_
      refine Al_p (Pu_loadb rfl Tryz.isAgg113 rfl rfl rfl) ?_
      refine Al_p Pu_mvl ?_
      refine Al_mapDelete0 (c := cs[k].1) keyS_T rfl rfl rfl (by kernel_rfl) Tryz.underlying113 rfl rfl (by rw [← hkey]; rfl) (Only.v _) hksz ?_
      refine Al_mapT (k := 1002) ((J.moveTo cs rs' (k + 1)).map (·.1)) rfl (funext fun c => (J.moveTo_drop hr rs' hk h23 c).symm) (fun c hc => (J.look_keys hrk c).1 hc) (List.length_map ..) ?_
      refine Al_nil (Aw_region ?_)
      refine Al_p (Pu_add rfl rfl rfl (fun h1 h2 => by simp only [A.inI, A.maxI] at *; omega)) ?_
      refine Al_p Pu_mvl ?_
      refine Al_nil ?_
      exact ⟨k + 1, by omega, by omega, Le.ov ⟨Sub.num (by omega), trivial⟩ ⟨Sub.rfl, Sub.rfl, Sub.rfl, Sub.rfl, trivial⟩ ⟨rfl, trivial⟩ ⟨rfl, trivial⟩⟩ -- loop 0 next.0
    · (try simp only [decide_eq_true_eq, decide_eq_false_iff_not, Bool.and_eq_true, Bool.or_eq_true, Bool.and_eq_false_iff, Bool.or_eq_false_iff, Bool.not_eq_true', Bool.not_eq_false', beq_iff_eq, Bool.not_eq_eq_eq_not, Bool.not_true, Bool.not_false, List.length_map, Bool.and_true, Bool.and_false, Bool.false_and, Bool.true_and, Bool.or_false, Bool.false_or] at h23)
      rw [hkey] at h23
      refine Aw_skip (Aw_region ?_)
      refine Al_p (Pu_add rfl rfl rfl (fun h1 h2 => by simp only [A.inI, A.maxI] at *; omega)) ?_
      refine Al_p Pu_mvl ?_
      refine Al_nil ?_
      exact ⟨k + 1, by omega, by omega, Le.ov ⟨Sub.num (by omega), trivial⟩ ⟨Sub.rfl, Sub.rfl, Sub.rfl, Sub.rfl, trivial⟩ ⟨obeq2 (by rw [J.moveTo_keep rs' hk (by omega)]), trivial⟩ ⟨rfl, trivial⟩⟩ -- loop 0 next.1
  · (try simp only [decide_eq_true_eq, decide_eq_false_iff_not, Bool.and_eq_true, Bool.or_eq_true, Bool.and_eq_false_iff, Bool.or_eq_false_iff, Bool.not_eq_true', Bool.not_eq_false', beq_iff_eq, Bool.not_eq_eq_eq_not, Bool.not_true, Bool.not_false, List.length_map, Bool.and_true, Bool.and_false, Bool.false_and, Bool.true_and, Bool.or_false, Bool.false_or] at h17)
    have hkn : k = cs.length := by first | omega | (unfold J.keysC at h17; simp at h17; omega)
    refine Aw_exit (Aw_seq (Aw_region ?_))
    refine Al_p Pu_mvl ?_
    refine Al_p (Pu_nilb rfl rfl) ?_
    refine Al_p (Pu_fieldb 1 rfl Tryz.underlying115 rfl rfl Tryz.sizeOf113 rfl) ?_
    refine Al_p (Pu_loadb rfl Tryz.isAgg113 rfl rfl rfl) ?_
    refine Al_p (Pu_eqnilm Tryz.underlying113 rfl rfl rfl) ?_
    refine Al_nil ?_
    refine Aw_condF rfl (rfl) ?_
    refine Aw_skip ?_
    exact ⟨_, _, [], rfl, rfl, ⟨rfl, obeq2 (by rw [hkn, J.moveTo_all]), trivial⟩, rfl⟩ -- ret 0
end Go.Proofs.YtmbaeloiepjakaaGreat
