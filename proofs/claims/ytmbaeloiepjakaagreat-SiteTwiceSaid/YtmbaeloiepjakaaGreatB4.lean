/- What the proofs need in common, laid together (4 of 4): no condition. -/
import Derived.Test.YtmbaeloiepjakaaGreatB3
import Derived.Laws.IdiomStrings
import Derived.Laws.BytesArg
set_option linter.unusedSimpArgs false
set_option linter.unusedVariables false
set_option linter.constructorNameAsVariable false

section
set_option maxRecDepth 100000
namespace Go.Proofs.YtmbaeloiepjakaaGreat
open Go.RowKit A R
open A.RowT
abbrev SC := List (ByteArray × List Ver)
namespace J
def look (cs : SC) (k : ByteArray) : Option (List Ver) := (cs.find? fun p => decide (p.1 = k)).map (·.2)
def getC (cs : SC) (k : ByteArray) : List Ver := (look cs k).getD []
def RiseC (cs : SC) : Prop := Rise (cs.map (·.1))
def setC : SC → ByteArray → List Ver → SC
  | [], k, l => [(k, l)]
  | p :: r, k, l => if p.1 = k then (k, l) :: r else if Op.bytesLess k.toList p.1.toList then (k, l) :: p :: r else p :: setC r k l
theorem look_cons (p : ByteArray × List Ver) (r : SC) (k : ByteArray) : look (p :: r) k = if p.1 = k then some p.2 else look r k := by
  unfold look
  rw [List.find?_cons]
  split <;> simp_all
theorem look_set : ∀ (cs : SC) (k : ByteArray) (l : List Ver) (c : ByteArray), RiseC cs → look (setC cs k l) c = if c = k then some l else look cs c
  | [], k, l, c, _ => by
    rw [setC, look_cons]
    by_cases h : c = k
    · rw [if_pos h.symm, if_pos h]
    · rw [if_neg (fun e => h e.symm), if_neg h]
  | p :: r, k, l, c, hr => by
    have hc := List.pairwise_cons.1 hr
    rw [setC]
    by_cases h1 : p.1 = k
    · rw [if_pos h1, look_cons, look_cons]
      by_cases h : c = k
      · rw [if_pos h.symm, if_pos h]
      · rw [if_neg (fun e => h e.symm), if_neg h, if_neg (fun e => h (e.symm.trans h1))]
    · rw [if_neg h1]
      split
      · rw [look_cons, look_cons]
        by_cases h : c = k
        · rw [if_pos h.symm, if_pos h]
        · rw [if_neg (fun e => h e.symm), if_neg h]
      · rw [look_cons, look_cons, look_set r k l c hc.2]
        by_cases h : c = k
        · rw [if_pos h, if_neg (fun e => h1 (e.trans h)), if_pos h]
        · rw [if_neg h]; simp [h]
theorem mem_setC : ∀ (cs : SC) (k : ByteArray) (l : List Ver) (p : ByteArray × List Ver), p ∈ setC cs k l → p = (k, l) ∨ p ∈ cs
  | [], k, l, p, h => by simp [setC] at h; exact .inl h
  | q :: r, k, l, p, h => by
    rw [setC] at h
    split at h
    · rcases List.mem_cons.1 h with h | h
      · exact .inl h
      · exact .inr (List.mem_cons_of_mem _ h)
    · split at h
      · rcases List.mem_cons.1 h with h | h
        · exact .inl h
        · exact .inr h
      · rcases List.mem_cons.1 h with rfl | h
        · exact .inr (List.mem_cons_self ..)
        · rcases mem_setC r k l p h with h | h
          · exact .inl h
          · exact .inr (List.mem_cons_of_mem _ h)
theorem rise_set : ∀ (cs : SC) (k : ByteArray) (l : List Ver), RiseC cs → RiseC (setC cs k l)
  | [], k, l, _ => List.pairwise_singleton ..
  | p :: r, k, l, hr => by
    have hc := List.pairwise_cons.1 hr
    rw [setC]
    split
    · rename_i h1
      subst h1
      exact hr
    · rename_i h1
      split
      · rename_i h2
        refine List.pairwise_cons.2 ⟨fun y hy => ?_, hr⟩
        rcases List.mem_cons.1 hy with rfl | hy
        · exact h2
        · exact K.bl_trans _ _ _ h2 (hc.1 y hy)
      · rename_i h2
        refine List.pairwise_cons.2 ⟨fun y hy => ?_, rise_set r k l hc.2⟩
        obtain ⟨q, hq, rfl⟩ := List.mem_map.1 hy
        rcases mem_setC r k l q hq with rfl | hq
        · show Op.bytesLess p.1.toList k.toList = true
          cases h : Op.bytesLess p.1.toList k.toList with
          | true => rfl
          | false => exact (h1 (D.byte_inj (K.bl_tri _ _ h (by simpa using h2)))).elim
        · exact hc.1 _ (List.mem_map_of_mem hq)
theorem rise_nodup {ks : List ByteArray} (h : Rise ks) : ks.Nodup := h.imp fun {a b} hab e => by subst e; rw [K.bl_irrefl] at hab; cases hab
theorem look_mem {cs : SC} (h : RiseC cs) {p : ByteArray × List Ver} (hp : p ∈ cs) : look cs p.1 = some p.2 := by
  induction cs with
  | nil => cases hp
  | cons q r ih =>
    have hc := List.pairwise_cons.1 h
    rw [look_cons]
    rcases List.mem_cons.1 hp with rfl | hp
    · rw [if_pos rfl]
    · rw [if_neg, ih hc.2 hp]
      intro e
      have h9 : Op.bytesLess q.1.toList p.1.toList = true := hc.1 p.1 (List.mem_map_of_mem hp)
      rw [e, K.bl_irrefl] at h9; cases h9
theorem mem_look {cs : SC} {k : ByteArray} {l : List Ver} (h : look cs k = some l) : (k, l) ∈ cs := by
  unfold look at h
  obtain ⟨p, hp, rfl⟩ := Option.map_eq_some_iff.1 h
  have h1 := List.mem_of_find?_eq_some hp
  have h2 := List.find?_some hp
  simp only [decide_eq_true_eq] at h2
  subst h2; exact h1
theorem look_keys {cs : SC} (h : RiseC cs) (k : ByteArray) : (look cs k).isSome = true ↔ k ∈ cs.map (·.1) := by
  constructor
  · intro hs
    obtain ⟨l, hl⟩ := Option.isSome_iff_exists.1 hs
    exact List.mem_map_of_mem (mem_look hl)
  · intro hm
    obtain ⟨p, hp, rfl⟩ := List.mem_map.1 hm
    rw [look_mem h hp]; rfl
theorem look_getA (cs : SC) (k : ByteArray) : lookA (fun l : List Ver => versA l) (versA []) (look cs k) = versA (getC cs k) := by
  unfold getC
  cases look cs k <;> rfl
/-- Not too many. -/
def Sm (m : Nat) (cs : SC) : Prop := cs.length ≤ m ∧ ∀ p ∈ cs, p.2.length ≤ m ∧ p.1.size ≤ 9223372036854775807
theorem Sm.get {m : Nat} {cs : SC} (h : Sm m cs) (k : ByteArray) : (getC cs k).length ≤ m := by
  unfold getC
  cases hl : look cs k with
  | none => exact Nat.zero_le _
  | some l => exact (h.2 _ (mem_look hl)).1
def sput (rs : List Rng) (cs : SC) (v : Ver) : SC × Bool := if findR rs v.key < 0 then (cs, false) else match put (getC cs v.key) v with
  | some l => (setC cs v.key l, true)
  | none => (cs, false)
def keysC (cs : SC) : List ByteArray := cs.map (·.1)
def shead (cs : SC) (k : ByteArray) : Option Ver := head (getC cs k)
def sat (cs : SC) (k : ByteArray) (n s : Int) : Option Ver := atc (getC cs k) n s
def have' (cs : SC) : List Dep := (keysC cs).map fun k => ⟨k, ((shead cs k).getD default).n, ((shead cs k).getD default).s⟩
def pinsOf (pins : List Dep) (k : ByteArray) : List (Int × Int) := (pins.filter fun d => d.key.toList == k.toList).map fun d => (d.n, d.s)
def sclean (cs : SC) (n s : Int) (pins : List Dep) : SC := cs.map fun p => (p.1, clean p.2 n s (pinsOf pins p.1))
def smove (cs : SC) (rs : List Rng) : SC := cs.filter fun p => decide (0 ≤ findR rs p.1)
end J
abbrev mapV (b : Nat) (cs : SC) : AO := .op (mapO keyS okS (fun l : List Ver => versA l) b cs.length (J.look cs))
theorem obeq2 {g b : Nat} {cs cs' : SC} (h : cs = cs') : some (g, mapV b cs) = some (g, mapV b cs') := by rw [h]
abbrev rngA (rs : List Rng) : AV := .sl 2 (rs.map Rng.row)
/-- A shard: its ranges; a map of chains. -/
abbrev SH (rs : List Rng) (cs : SC) (b : Nat) : Obs := [(1001, .box 115 [.d (rngA rs), .ow 1002 0]), (1002, mapV b cs)]
set_option maxRecDepth 100000 in
theorem cloneR_g (l : List Rng) (hl : l.length ≤ 1000000) : GCall Tryz.prog 75 [.d (.sl 2 (l.map Rng.row))] [] (some ([(1001, .arr 49 2 (l.map Rng.row))], .ow 1001 0)) := by
  refine GCall_enter (fun _ _ => by kernel_rfl) Tryz.func75 rfl Tryz.ntmps75 (ReadsS.r1 Tryz.results75) (Nat.le_of_ble_eq_true rfl) (fun hok hokB M0 w0 => ?_)
  refine Aw_seq (Aw_region ?_)
  refine Al_p Pu_mvr ?_
  refine Al_nil (Aw_seq (Aw_seq (Aw_region ?_)))
  refine Al_p Pu_mvl ?_
  refine Al_eqnil rfl rfl rfl (by decide) (by kernel_rfl) Tryz.underlying26 rfl (fun nl hnl => ?_)
  refine Al_nil ?_
  refine Aw_cond rfl (fun h4 => ?_) (fun h4 => ?_)
  · (try simp only [decide_eq_true_eq, decide_eq_false_iff_not, Bool.and_eq_true, Bool.or_eq_true, Bool.and_eq_false_iff, Bool.or_eq_false_iff, Bool.not_eq_true', Bool.not_eq_false', beq_iff_eq, Bool.not_eq_eq_eq_not, Bool.not_true, Bool.not_false, List.length_map, Bool.and_true, Bool.and_false, Bool.false_and, Bool.true_and, Bool.or_false, Bool.false_or] at h4)
    refine Aw_seq (Aw_region ?_)
    refine Al_p Pu_mvr ?_
    refine Al_nil ?_
    obtain rfl : l = [] := by simpa using hnl h4
    refine Aw_own (j := 2) (k := 2) (T := 49) (n := 2) rfl (fun g => ?_)
    refine Aw_ret ?_
    exact ⟨_, _, [(1001, 2, g)], rfl, Sub.rfl, ⟨rfl, trivial⟩, rfl⟩ -- ret 0
  · (try simp only [decide_eq_true_eq, decide_eq_false_iff_not, Bool.and_eq_true, Bool.or_eq_true, Bool.and_eq_false_iff, Bool.or_eq_false_iff, Bool.not_eq_true', Bool.not_eq_false', beq_iff_eq, Bool.not_eq_eq_eq_not, Bool.not_true, Bool.not_false, List.length_map, Bool.and_true, Bool.and_false, Bool.false_and, Bool.true_and, Bool.or_false, Bool.false_or] at h4)
    refine Aw_skip (Aw_seq (Aw_region ?_))
    refine Al_slice0 rfl rfl rfl (by decide) Tryz.underlying26 Tryz.sizeOf49 (fun g5 => ?_)
    refine Al_p Pu_mvl ?_
    refine Al_append rfl rfl rfl (by decide) (by kernel_rfl) elem26 (by decide) Tryz.sizeOf49 rfl rfl rfl (by simp; omega) (by decide) (fun g7 => ?_)
    refine Al_p Pu_mvr ?_
    refine Al_nil ?_
    refine Aw_ret ?_
    exact ⟨_, _, [(1001, 5, g7)], rfl, Sub.rfl, ⟨rfl, trivial⟩, rfl⟩ -- ret 1
set_option maxRecDepth 100000 in
theorem snew_g (rs : List Rng) (hrl : rs.length ≤ 1000000) : GCallE Tryz.prog 43 [.d (rngA rs)] [] (fun b : Nat => some (SH rs [] b, .bx 1001 0 0)) := by
  refine GCallE_enterL (fun _ _ => by kernel_rfl) Tryz.func43 rfl Tryz.ntmps43 (ReadsS.r1 Tryz.results43) (Nat.le_of_ble_eq_true rfl) (fun hok hokB M0 w0 hl => ?_)
  refine Aw_seq (Aw_region ?_)
  refine Al_p Pu_mvr ?_
  refine Al_nil (Aw_seq (Aw_region ?_))
  refine Al_p Pu_mvl ?_
  refine Al_gcall [] [(1001, 4)] (cloneR_g rs hrl) rfl rfl rfl (by decide) (by kernel_rfl) trivial rfl ⟨Sub.rfl, trivial⟩ (fun g4 => ?_)
  refine Al_frzL hl (k := 4) [4] rfl trivial ⟨rfl, trivial⟩ ?_
  refine Al_makeMap keyS okS (fun l : List Ver => versA l) rfl rfl rfl (by decide) (fun b5 g5 => ?_)
  refine Al_p (Pu_buildAg (aa := [(0, _), (1, _)]) rfl Tryz.underlying115 Tryz.zeroValue115 (places115 Tryz.underlying115) (by decide) ⟨rfl, rfl, rfl, rfl, trivial⟩ rfl) ?_
  refine Al_boxAg rfl rfl rfl (by decide) (by kernel_rfl) rfl (fun g7 => ?_)
  refine Al_p Pu_mvr ?_
  refine Al_nil ?_
  refine Aw_ret ?_
  exact ⟨b5, _, _, [(1001, 7, g7), (1002, 5, g5)], rfl, Sub.rfl, ⟨rfl, rfl, trivial⟩, rfl⟩ -- ret 0
set_option maxRecDepth 100000 in
theorem sranges_g (rs : List Rng) (cs : SC) (b : Nat) (hrl : rs.length ≤ 1000000) : GCall Tryz.prog 74 [.bx 1001 0 0] (SH rs cs b) (some (SH rs cs b, .d (rngA rs))) := by
  refine GCall_enterL (fun _ _ => by kernel_rfl) Tryz.func74 rfl Tryz.ntmps74 (ReadsS.r1 Tryz.results74) (Nat.le_of_ble_eq_true rfl) (fun hok hokB M0 w0 hl => ?_)
  refine Aw_seq (Aw_region ?_)
  refine Al_p Pu_mvr ?_
  refine Al_nil (Aw_seq (Aw_seq (Aw_region ?_)))
  refine Al_p Pu_mvl ?_
  refine Al_p (Pu_eqnilb Tryz.underlying79 rfl rfl) ?_
  refine Al_nil ?_
  refine Aw_condF rfl (rfl) ?_
  refine Aw_skip (Aw_seq (Aw_region ?_))
  refine Al_p Pu_mvl ?_
  refine Al_p (Pu_nilb rfl rfl) ?_
  refine Al_p (Pu_fieldb 0 rfl Tryz.underlying115 rfl rfl Tryz.sizeOf26 rfl) ?_
  refine Al_p (Pu_loadb rfl Tryz.isAgg26 rfl rfl rfl) ?_
  refine Al_gcall [] [(1001, 9)] (cloneR_g rs hrl) rfl rfl rfl (by decide) (by kernel_rfl) trivial rfl ⟨Sub.rfl, trivial⟩ (fun g9 => ?_)
  refine Al_p Pu_mvr ?_
  refine Al_nil ?_
  refine Aw_frzL hl (k := 9) [2] rfl ⟨rfl, ⟨_, rfl, fun _ _ h => h⟩, rfl, ⟨_, rfl, fun _ _ h => h⟩, trivial⟩ ⟨rfl, trivial⟩ ?_
  refine Aw_ret ?_
  exact ⟨_, _, [], rfl, Sub.rfl, ⟨rfl, rfl, trivial⟩, rfl⟩ -- ret 0
set_option maxRecDepth 100000 in
theorem schain_g (rs : List Rng) (cs : SC) (b : Nat) (key : ByteArray) (hs : J.Sm 1000 cs) : GCall Tryz.prog 72 [.bx 1001 0 0, .d (tv key)] (SH rs cs b) (some (SH rs cs b, .d (versA (J.getC cs key)))) := by
  refine GCall_enterL (fun _ _ => by kernel_rfl) Tryz.func72 rfl Tryz.ntmps72 (ReadsS.r1 Tryz.results72) (Nat.le_of_ble_eq_true rfl) (fun hok hokB M0 w0 hl => ?_)
  have hk : key.size ≤ A.maxI := (hok (tv key) (by simp)).text
  refine Aw_seq (Aw_region ?_)
  refine Al_p Pu_mvr ?_
  refine Al_nil (Aw_seq (Aw_seq (Aw_region ?_)))
  refine Al_p Pu_mvl ?_
  refine Al_p (Pu_eqnilb Tryz.underlying79 rfl rfl) ?_
  refine Al_nil ?_
  refine Aw_condF rfl (rfl) ?_
  refine Aw_skip (Aw_seq (Aw_region ?_))
  refine Al_p Pu_mvl ?_
  refine Al_p (Pu_nilb rfl rfl) ?_
  refine Al_p (Pu_fieldb 1 rfl Tryz.underlying115 rfl rfl Tryz.sizeOf113 rfl) ?_
  refine Al_p (Pu_loadb rfl Tryz.isAgg113 rfl rfl rfl) ?_
  refine Al_p Pu_mvl ?_
  refine Al_p (Pu_lookup (c := key) (z := versA []) keyS_T rfl Tryz.underlying113 Tryz.zeroValue65 (fun M w => .nil _ _ _) rfl rfl rfl (Only.v _) hk) ?_
  refine Al_gcall [] [(1001, 13)] (cloneV_g (J.getC cs key) (Nat.le_trans (hs.get key) (by decide))) rfl rfl rfl (by decide) (by kernel_rfl) trivial rfl ⟨Sub.d (J.look_getA cs key), trivial⟩ (fun g13 => ?_)
  refine Al_p Pu_mvr ?_
  refine Al_nil ?_
  refine Aw_frzL hl (k := 13) [4] rfl ⟨rfl, ⟨_, rfl, fun _ _ h => h⟩, rfl, ⟨_, rfl, fun _ _ h => h⟩, trivial⟩ ⟨rfl, trivial⟩ ?_
  refine Aw_ret ?_
  exact ⟨_, _, [], rfl, Sub.rfl, ⟨rfl, rfl, trivial⟩, rfl⟩ -- ret 0
set_option maxRecDepth 100000 in
theorem shead_g (rs : List Rng) (cs : SC) (b : Nat) (key : ByteArray) (hs : J.Sm 1000 cs) : GCall Tryz.prog 85 [.bx 1001 0 0, .d (tv key)] (SH rs cs b) (some (SH rs cs b, .d (verA (J.shead cs key)))) := by
  refine GCall_enterL (fun _ _ => by kernel_rfl) Tryz.func85 rfl Tryz.ntmps85 (ReadsS.cN1 Tryz.results85 Tryz.isAgg34 Tryz.sizeOf34) (Nat.le_of_ble_eq_true rfl) (fun hok hokB M0 w0 hl => ?_)
  refine Aw_seq (Aw_region ?_)
  refine Al_alloc rfl rfl rfl (by decide) Tryz.zeroValue34 rfl (by kernel_rfl) (fun g4 => ?_)
  refine Al_p Pu_mvr ?_
  refine Al_nil (Aw_seq (Aw_region ?_))
  refine Al_p Pu_mvl ?_
  refine Al_p Pu_mvl ?_
  refine Al_gcall [(1001, 1001, 0), (1002, 1002, 0)] [] (schain_g rs cs b key hs) rfl rfl rfl (by decide) (by kernel_rfl) ⟨rfl, rfl, trivial⟩ rfl ⟨Sub.rfl, Sub.rfl, trivial⟩ (fun g8 => ?_)
  refine Al_p (Pu_call (chead_a (J.getC cs key)) rfl ⟨Sub.rfl, trivial⟩) ?_
  refine Al_p (Pu_extract rfl rfl rfl) ?_
  refine Al_p (Pu_extract rfl rfl rfl) ?_
  refine Al_storeN rfl rfl rfl (by kernel_rfl) Tryz.isAgg34 Tryz.sizeOf34 rfl rfl rfl rfl (Nat.le_of_ble_eq_true rfl) ?_
  refine Al_p Pu_mvr ?_
  refine Al_nil ?_
  refine Aw_ret ?_
  exact ⟨_, _, [], rfl, ⟨_, rfl, _, _, _, _, _, [_, _, _, _, _, _], _, rfl, rfl, rfl, rfl, Sub.rfl, rfl⟩, ⟨rfl, rfl, trivial⟩, rfl⟩ -- ret 0
set_option maxRecDepth 100000 in
theorem sat_g (rs : List Rng) (cs : SC) (b : Nat) (key : ByteArray) (n s : Int) (hs : J.Sm 1000 cs) : GCall Tryz.prog 105 [.bx 1001 0 0, .d (tv key), .d (.row [iv n, iv s])] (SH rs cs b) (some (SH rs cs b, .d (verA (J.sat cs key n s)))) := by
  refine GCall_enterL (fun _ _ => by kernel_rfl) Tryz.func105 rfl Tryz.ntmps105 (ReadsS.cN1 Tryz.results105 Tryz.isAgg34 Tryz.sizeOf34) (Nat.le_of_ble_eq_true rfl) (fun hok hokB M0 w0 hl => ?_)
  refine Aw_seq (Aw_region ?_)
  refine Al_p (Pu_boxN rfl rfl) ?_
  refine Al_alloc rfl rfl rfl (by decide) Tryz.zeroValue34 rfl (by kernel_rfl) (fun g6 => ?_)
  refine Al_p Pu_mvr ?_
  refine Al_nil ?_
  -- join 0: live [6, 7], turned [7]
  refine Aw_seq ?_
  refine Aw_drawn (by kernel_rfl) ?_
  refine Ad_take 0 rfl (PuI_move (.inl rfl) (by conv => lhs; whnf)) rfl rfl (by decide) (by kernel_rfl) (by kernel_rfl) (by kernel_rfl) (by kernel_rfl) (fun _ _ h => h) ?_
  refine Ad_take 1 rfl (PuI_move (.inl rfl) (by conv => lhs; whnf)) rfl rfl (by decide) (by kernel_rfl) (by kernel_rfl) (by kernel_rfl) (by kernel_rfl) (fun _ _ h => h) ?_
  refine Ad_two 2 3 rfl rfl (by kernel_rfl) ?_ ?_
  · refine Al_gcall [(1001, 1001, 0), (1002, 1002, 0)] [] (schain_g rs cs b key hs) rfl rfl rfl (by decide) (by kernel_rfl) ⟨rfl, rfl, trivial⟩ rfl ⟨Sub.rfl, Sub.rfl, trivial⟩ (fun g10 => ?_)
    refine Al_nil ?_
    refine Ad_drawP 3 7 2 (by kernel_rfl) (by decide) rfl (by rfl) (by rfl) ?_
    refine Dr_p (Pu_loadN rfl Tryz.isAgg31 Tryz.sizeOf31 rfl (Nat.le_of_ble_eq_true rfl)) ?_
    refine Dr_p (Pu_call (cat_a (J.getC cs key) n s) rfl ⟨Sub.rfl, Sub.rfl, trivial⟩) ?_
    refine Dr_p (Pu_extract rfl rfl rfl) ?_
    refine Dr_p (Pu_extract rfl rfl rfl) ?_
    refine Dr_nil ?_
    refine Ad_one 7 rfl (by kernel_rfl) ?_
    refine Al_storeN rfl rfl rfl (by kernel_rfl) Tryz.isAgg34 Tryz.sizeOf34 rfl rfl rfl rfl (Nat.le_of_ble_eq_true rfl) ?_
    refine Al_nil ?_
    refine Ad_take 8 rfl (PuI_move (.inr rfl) (by conv => lhs; whnf)) rfl rfl (by decide) (by kernel_rfl) (by kernel_rfl) (by kernel_rfl) (by kernel_rfl) (fun _ _ h => h) ?_
    refine Ad_done (by kernel_rfl) ?_
    refine Aw_ret ?_
    exact ⟨_, _, [], rfl, ⟨_, rfl, _, _, _, _, _, [_, _, _, _, _, _], _, rfl, rfl, rfl, rfl, Sub.rfl, rfl⟩, ⟨rfl, rfl, trivial⟩, rfl⟩ -- ret 0
  · refine Al_p (Pu_loadN rfl Tryz.isAgg31 Tryz.sizeOf31 rfl (Nat.le_of_ble_eq_true rfl)) ?_
    refine Al_nil ?_
    refine Ad_one 2 rfl (by kernel_rfl) ?_
    refine Al_gcall [(1001, 1001, 0), (1002, 1002, 0)] [] (schain_g rs cs b key hs) rfl rfl rfl (by decide) (by kernel_rfl) ⟨rfl, rfl, trivial⟩ rfl ⟨Sub.rfl, Sub.rfl, trivial⟩ (fun g10 => ?_)
    refine Al_nil ?_
    refine Ad_drawP 4 7 2 (by kernel_rfl) (by decide) rfl (by rfl) (by rfl) ?_
    refine Dr_p (Pu_call (cat_a (J.getC cs key) n s) rfl ⟨Sub.rfl, Sub.rfl, trivial⟩) ?_
    refine Dr_p (Pu_extract rfl rfl rfl) ?_
    refine Dr_p (Pu_extract rfl rfl rfl) ?_
    refine Dr_nil ?_
    refine Ad_one 7 rfl (by kernel_rfl) ?_
    refine Al_storeN rfl rfl rfl (by kernel_rfl) Tryz.isAgg34 Tryz.sizeOf34 rfl rfl rfl rfl (Nat.le_of_ble_eq_true rfl) ?_
    refine Al_nil ?_
    refine Ad_take 8 rfl (PuI_move (.inr rfl) (by conv => lhs; whnf)) rfl rfl (by decide) (by kernel_rfl) (by kernel_rfl) (by kernel_rfl) (by kernel_rfl) (fun _ _ h => h) ?_
    refine Ad_done (by kernel_rfl) ?_
    refine Aw_ret ?_
    exact ⟨_, _, [], rfl, ⟨_, rfl, _, _, _, _, _, [_, _, _, _, _, _], _, rfl, rfl, rfl, rfl, Sub.rfl, rfl⟩, ⟨rfl, rfl, trivial⟩, rfl⟩ -- ret 1
set_option maxRecDepth 100000 in
theorem skeys_g (rs : List Rng) (cs : SC) (b : Nat) (hr : J.RiseC cs) (hs : J.Sm 1000 cs) : GCall Tryz.prog 84 [.bx 1001 0 0] (SH rs cs b) (some (SH rs cs b, .d (.sl 1 ((J.keysC cs).map fun s => [tv s])))) := by
  refine GCall_enterL (fun _ _ => by kernel_rfl) Tryz.func84 rfl Tryz.ntmps84 (ReadsS.r1 Tryz.results84) (Nat.le_of_ble_eq_true rfl) (fun hok hokB M0 w0 hl => ?_)
  refine Aw_seq (Aw_region ?_)
  refine Al_p Pu_mvr ?_
  refine Al_nil (Aw_seq (Aw_seq (Aw_region ?_)))
  refine Al_p Pu_mvl ?_
  refine Al_p (Pu_eqnilb Tryz.underlying79 rfl rfl) ?_
  refine Al_nil ?_
  refine Aw_condF rfl (rfl) ?_
  refine Aw_skip (Aw_seq (Aw_region ?_))
  refine Al_p Pu_mvl ?_
  refine Al_p (Pu_nilb rfl rfl) ?_
  refine Al_p (Pu_fieldb 1 rfl Tryz.underlying115 rfl rfl Tryz.sizeOf113 rfl) ?_
  refine Al_p (Pu_loadb rfl Tryz.isAgg113 rfl rfl rfl) ?_
  refine Al_gcall [(1001, 1002, 0)] [(1002, 9)] (keysV_g keyS okS (fun l : List Ver => versA l) b cs.length (J.look cs)) rfl rfl rfl (by decide) (by kernel_rfl) ⟨rfl, trivial⟩ rfl ⟨Sub.rfl, trivial⟩ (fun g9 => ?_)
  refine Al_gcall [(1001, 1002, 0), (1002, 9, g9)] [(1003, 10)] (sortedV_g (fun l : List Ver => versA l) b cs.length (J.look cs) (J.keysC cs) hr (J.look_keys hr) (Nat.le_trans hs.1 (by decide))) rfl rfl rfl (by decide) (by kernel_rfl) ⟨rfl, rfl, trivial⟩ rfl ⟨Sub.rfl, trivial⟩ (fun g10 => ?_)
  refine Al_p Pu_mvr ?_
  refine Al_nil ?_
  refine Aw_frzL hl (k := 10) [2] rfl ⟨rfl, ⟨_, rfl, fun _ _ h => h⟩, rfl, ⟨_, rfl, fun _ _ h => h⟩, trivial⟩ ⟨rfl, trivial⟩ ?_
  refine Aw_ret ?_
  exact ⟨_, _, [], rfl, Sub.rfl, ⟨rfl, rfl, trivial⟩, rfl⟩ -- ret 0
namespace J
theorem put_len {l m : List Ver} {v : Ver} (h : put l v = some m) : m.length = l.length + 1 := by
  unfold put at h
  split at h
  · cases h
    have := frm_le l v.n v.s
    simp; omega
  · cases h
theorem put_ok {l m : List Ver} {v : Ver} (h : put l v = some m) : checkB v = true := by
  unfold put at h
  split at h
  · rename_i hc; exact hc.1
  · cases h
theorem set_len : ∀ (cs : SC) (k : ByteArray) (l : List Ver), (setC cs k l).length ≤ cs.length + 1
  | [], k, l => Nat.le_refl _
  | p :: r, k, l => by
    rw [setC]
    split
    · simp
    · split
      · simp
      · have := set_len r k l
        simp; omega
theorem sput_sm {m : Nat} {rs : List Rng} {cs : SC} (h : Sm m cs) (v : Ver) : Sm (m + 1) (sput rs cs v).1 := by
  have h' : Sm (m + 1) cs := ⟨Nat.le_succ_of_le h.1, fun p hp => ⟨Nat.le_succ_of_le (h.2 p hp).1, (h.2 p hp).2⟩⟩
  unfold sput
  split
  · exact h'
  · split
    · rename_i l hl
      refine ⟨Nat.le_trans (set_len _ _ _) (Nat.succ_le_succ h.1), fun p hp => ?_⟩
      rcases mem_setC _ _ _ _ hp with rfl | hp
      · show l.length ≤ m + 1 ∧ _
        rw [put_len hl]
        have := h.get v.key
        have h3 := ver_key (put_ok hl)
        exact ⟨by omega, by show v.key.size ≤ _; omega⟩
      · exact h'.2 p hp
    · exact h'
theorem sput_rise {rs : List Rng} {cs : SC} (h : RiseC cs) (v : Ver) : RiseC (sput rs cs v).1 := by
  unfold sput
  split
  · exact h
  · split
    · exact rise_set _ _ _ h
    · exact h
theorem pinsOf_succ {pins : List Dep} {j : Nat} (hj : j < pins.length) (k : ByteArray) : pinsOf (pins.take (j + 1)) k = pinsOf (pins.take j) k ++ (if (pins.getD j default).key.toList == k.toList then [((pins.getD j default).n, (pins.getD j default).s)] else []) := by
  have hg : pins.getD j default = pins[j] := by simp [hj]
  unfold pinsOf
  rw [List.take_succ_eq_append_getElem hj, List.filter_append, List.map_append, List.filter_cons, List.filter_nil, hg]
  split <;> simp
theorem take_have (cs : SC) {j : Nat} (hj : j < cs.length) : (have' cs).take (j + 1) = (have' cs).take j ++ [⟨(keysC cs).getD j default, ((shead cs ((keysC cs).getD j default)).getD default).n, ((shead cs ((keysC cs).getD j default)).getD default).s⟩] := by
  have h1 : j < (have' cs).length := by unfold have' keysC; simpa using hj
  have h2 : (keysC cs).getD j default = cs[j].1 := by unfold keysC; simp [hj]
  rw [List.take_succ_eq_append_getElem h1, h2]
  unfold have' keysC
  simp
end J
instance : Inhabited ByteArray := ⟨⟨#[]⟩⟩
set_option maxRecDepth 100000 in
set_option maxHeartbeats 1000000 in
theorem sput_g (rs : List Rng) (cs : SC) (b : Nat) (v : Ver) (hrl : rs.length ≤ 1000000) (hr : J.RiseC cs) (hs : J.Sm 1000 cs) : GCall Tryz.prog 87 [.bx 1001 0 0, .d (.row v.row)] (SH rs cs b) (some (SH rs (J.sput rs cs v).1 b, .d (bv (J.sput rs cs v).2))) := by
  refine GCall_enterL (fun _ _ => by kernel_rfl) Tryz.func87 rfl Tryz.ntmps87 (ReadsS.r1 Tryz.results87) (Nat.le_of_ble_eq_true rfl) (fun hok hokB M0 w0 hl => ?_)
  have hk : v.key.size ≤ A.maxI := ((hok (.row v.row) (by simp)).row (tv v.key) (by simp [Ver.row])).text
  have hfi := find_a rs v.key hrl
  have hpu := cput_a (J.getC cs v.key) v (hs.get v.key)
  refine Aw_seq (Aw_region ?_)
  refine Al_p (Pu_boxN rfl rfl) ?_
  refine Al_p Pu_mvr ?_
  refine Al_nil (Aw_seq (Aw_seq ?_))
  refine Aw_draw 12 (by kernel_rfl) (by kernel_rfl) ?_
  refine Dr_p Pu_mvl ?_
  refine Dr_p (Pu_eqnilb Tryz.underlying79 rfl rfl) ?_
  refine Dr_p Pu_mvl ?_
  refine Dr_st (St_gd [] rfl rfl rfl rfl trivial (fun hg10 => by exact Pu_move (.inl rfl) (by conv => lhs; whnf))) rfl ?_
  refine Dr_st (St_gd [10] rfl rfl rfl rfl ⟨⟨_, rfl⟩, trivial⟩ (fun hg11 => Pu_nilb rfl rfl)) rfl ?_
  refine Dr_st (St_gd [11] rfl rfl rfl rfl ⟨⟨_, rfl⟩, trivial⟩ (fun hg12 => Pu_fieldb 0 rfl Tryz.underlying115 rfl rfl Tryz.sizeOf26 rfl)) rfl ?_
  refine Dr_st (St_gd [12] rfl rfl rfl rfl ⟨⟨_, rfl⟩, trivial⟩ (fun hg13 => Pu_loadb rfl Tryz.isAgg26 rfl rfl rfl)) rfl ?_
  refine Dr_st (St_gd [] rfl rfl rfl rfl trivial (fun hg14 => Pu_field 0 rfl Tryz.underlying34 rfl rfl Tryz.sizeOf9 rfl)) rfl ?_
  refine Dr_st (St_gd [14] rfl rfl rfl rfl ⟨⟨_, rfl⟩, trivial⟩ (fun hg15 => Pu_load1 rfl Tryz.isAgg9 rfl rfl)) rfl ?_
  refine Dr_st (St_gd [13, 15] rfl rfl rfl rfl ⟨⟨_, rfl⟩, ⟨_, rfl⟩, trivial⟩ (fun hg16 => Pu_call (hfi) rfl ⟨Sub.rfl, Sub.rfl, trivial⟩)) rfl ?_
  refine Dr_st (St_gd [16] rfl rfl rfl rfl ⟨⟨_, rfl⟩, trivial⟩ (fun hg17 => Pu_cmp rfl rfl rfl rfl)) rfl ?_
  refine Dr_p (Pu_or rfl rfl rfl rfl) ?_
  refine Dr_nil (Al_nil ?_)
  refine Aw_cond rfl (fun h18 => ?_) (fun h18 => ?_)
  · skip
    have hno : J.sput rs cs v = (cs, false) := by
      unfold J.sput
      rw [if_pos (by simpa using h18)]
    refine Aw_seq (Aw_region ?_)
    refine Al_p Pu_mvr ?_
    refine Al_nil ?_
    refine Aw_ret ?_
    exact ⟨_, _, [], rfl, Sub.bool (by rw [hno]), ⟨rfl, obeq2 (by rw [hno]), trivial⟩, rfl⟩ -- ret 0
  · skip
    have hfn : ¬ findR rs v.key < 0 := by simpa using h18
    refine Aw_skip (Aw_seq ?_)
    refine Aw_draw 14 (by kernel_rfl) (by kernel_rfl) ?_
    refine Dr_p Pu_mvl ?_
    refine Dr_p (Pu_nilb rfl rfl) ?_
    refine Dr_p (Pu_fieldb 1 rfl Tryz.underlying115 rfl rfl Tryz.sizeOf113 rfl) ?_
    refine Dr_p (Pu_loadb rfl Tryz.isAgg113 rfl rfl rfl) ?_
    refine Dr_p (Pu_field 0 rfl Tryz.underlying34 rfl rfl Tryz.sizeOf9 rfl) ?_
    refine Dr_p (Pu_load1 rfl Tryz.isAgg9 rfl rfl) ?_
    refine Dr_p (Pu_lookup (c := v.key) (z := versA []) keyS_T rfl Tryz.underlying113 Tryz.zeroValue65 (fun M w => .nil _ _ _) rfl rfl rfl (Only.v _) hk) ?_
    refine Dr_p (Pu_loadN rfl Tryz.isAgg34 Tryz.sizeOf34 rfl (Nat.le_of_ble_eq_true rfl)) ?_
    refine Dr_p (Pu_call (hpu) rfl ⟨Sub.d (J.look_getA cs v.key), Sub.rfl, trivial⟩) ?_
    refine Dr_p Pu_mvl ?_
    refine Dr_p (Pu_extract rfl rfl rfl) ?_
    refine Dr_p (Pu_extract rfl rfl rfl) ?_
    refine Dr_p Pu_mvr ?_
    refine Dr_p Pu_mvr ?_
    refine Dr_nil (Al_nil ?_)
    -- join 0: live [6], turned []
    refine Aw_seq (Aw_seq (Aw_region ?_))
    refine Al_p Pu_mvl ?_
    refine Al_nil ?_
    refine Aw_cond rfl (fun h31 => ?_) (fun h31 => ?_)
    · skip
      obtain ⟨l, hl2⟩ := Option.isSome_iff_exists.1 h31
      have hyes : J.sput rs cs v = (J.setC cs v.key l, true) := by
        unfold J.sput
        rw [if_neg hfn, hl2]
      have hlk : (fun c => if c = v.key then some l else J.look cs c) = J.look (J.setC cs v.key l) := funext fun c => (J.look_set cs v.key l c hr).symm
      refine Aw_draw 7 (by kernel_rfl) (by kernel_rfl) ?_
      refine Dr_p Pu_mvl ?_
      refine Dr_p (Pu_nilb rfl rfl) ?_
      refine Dr_p (Pu_fieldb 1 rfl Tryz.underlying115 rfl rfl Tryz.sizeOf113 rfl) ?_
      refine Dr_p (Pu_loadb rfl Tryz.isAgg113 rfl rfl rfl) ?_
      refine Dr_p (Pu_field 0 rfl Tryz.underlying34 rfl rfl Tryz.sizeOf9 rfl) ?_
      refine Dr_p (Pu_load1 rfl Tryz.isAgg9 rfl rfl) ?_
      refine Dr_p Pu_mvl ?_
      refine Dr_nil ?_
      refine Al_mapUpdate (c := v.key) (v := l) keyS_T rfl rfl rfl (by kernel_rfl) Tryz.underlying113 (by have := hs.1; simp only [maxLen]; omega) rfl rfl rfl (Only.v _) hk (Sub.d (by rw [hl2]; rfl)) ?_
      refine Al_mapT (k := 1002) ((J.setC cs v.key l).map (·.1)) rfl hlk (fun c hc => (J.look_keys (J.rise_set cs v.key l hr) c).1 hc) (List.length_map ..) ?_
      refine Al_nil (Aw_seq (Aw_region ?_))
      refine Al_p Pu_mvl ?_
      refine Al_p Pu_mvr ?_
      refine Al_nil ?_
      refine Aw_ret ?_
      exact ⟨_, _, [], rfl, Sub.bool (by rw [h31, hyes]), ⟨rfl, obeq2 (by rw [hyes]), trivial⟩, rfl⟩ -- ret 1
    · skip
      have hyes : J.sput rs cs v = (cs, false) := by
        unfold J.sput
        rw [if_neg hfn]
        cases hp : J.put (J.getC cs v.key) v with
        | none => rfl
        | some l => rw [hp] at h31; cases h31
      refine Aw_skip (Aw_seq (Aw_region ?_))
      refine Al_p Pu_mvl ?_
      refine Al_p Pu_mvr ?_
      refine Al_nil ?_
      refine Aw_ret ?_
      exact ⟨_, _, [], rfl, Sub.bool (by rw [h31, hyes]), ⟨rfl, obeq2 (by rw [hyes]), trivial⟩, rfl⟩ -- ret 2
set_option maxRecDepth 100000 in
set_option maxHeartbeats 1000000 in
theorem shave_g (rs : List Rng) (cs : SC) (b : Nat) (hr : J.RiseC cs) (hs : J.Sm 1000 cs) : GCall Tryz.prog 49 [.bx 1001 0 0] (SH rs cs b) (some (SH rs cs b, .d (.sl 3 ((J.have' cs).map Dep.row)))) := by
  refine GCall_enterL (fun _ _ => by kernel_rfl) Tryz.func49 rfl Tryz.ntmps49 (ReadsS.r1 Tryz.results49) (Nat.le_of_ble_eq_true rfl) (fun hok hokB M0 w0 hl => ?_)
  have hcl := hs.1
  refine Aw_seq (Aw_region ?_)
  refine Al_p Pu_mvr ?_
  refine Al_nil (Aw_seq (Aw_region ?_))
  refine Al_p Pu_mvr ?_
  refine Al_nil (Aw_seq (Aw_seq (Aw_region ?_)))
  refine Al_p Pu_mvl ?_
  refine Al_gcall [(1001, 1001, 0), (1002, 1002, 0)] [] (skeys_g rs cs b hr hs) rfl rfl rfl (by decide) (by kernel_rfl) ⟨rfl, rfl, trivial⟩ rfl ⟨Sub.rfl, trivial⟩ (fun g9 => ?_)
  refine Al_p (Pu_len rfl Tryz.underlying121 rfl (by first | exact List.length_map .. | exact rfl)) ?_
  refine Al_p Pu_mvl ?_
  refine Al_nil (Aw_block ?_)
  refine Aw_own (j := 3) (k := 3) (T := 59) (n := 3) rfl (fun g0 => ?_)
  refine Aw_loopk (ι := Nat × Nat) [0, 9, 10] [1001, 1002] (fun (k, g) => [(11, .d (iv k)), (3, .ow 3 g)]) (fun (k, g) => [(3, g, .arr 59 3 (((J.have' cs).take k).map Dep.row))]) (fun (k, g) => k ≤ cs.length) (fun (k, g) => cs.length - k) ((0, g0)) (Nat.zero_le _) ⟨Sub.rfl, Sub.rfl, trivial⟩ ⟨rfl, trivial⟩ ?_
  rintro ⟨k, g⟩ hk0
  refine Aw_seq (Aw_region ?_)
  refine Al_p (Pu_cmp rfl rfl rfl rfl) ?_
  refine Al_nil (Aw_seq ?_)
  refine Aw_cond rfl (fun h12 => ?_) (fun h12 => ?_)
  · (try simp only [decide_eq_true_eq, decide_eq_false_iff_not, Bool.and_eq_true, Bool.or_eq_true, Bool.and_eq_false_iff, Bool.or_eq_false_iff, Bool.not_eq_true', Bool.not_eq_false', beq_iff_eq, Bool.not_eq_eq_eq_not, Bool.not_true, Bool.not_false, List.length_map, Bool.and_true, Bool.and_false, Bool.false_and, Bool.true_and, Bool.or_false, Bool.false_or] at h12)
    have hk : k < cs.length := by first | omega | (unfold J.keysC at h12; simp at h12; omega)
    have hkk : k < (J.keysC cs).length := by unfold J.keysC; simpa using hk
    refine Aw_skip (Aw_seq (Aw_block (Aw_seq (Aw_region ?_))))
    refine Al_p (Pu_index rfl Tryz.underlying121 Tryz.sizeOf9 rfl rfl (rfl) (mapgetD (d := default) hkk)) ?_
    refine Al_p (Pu_load1 rfl Tryz.isAgg9 rfl rfl) ?_
    refine Al_p Pu_mvr ?_
    refine Al_nil (Aw_seq (Aw_region ?_))
    refine Al_p Pu_mvl ?_
    refine Al_p Pu_mvl ?_
    refine Al_gcall [(1001, 1001, 0), (1002, 1002, 0)] [] (shead_g rs cs b ((J.keysC cs).getD k default) hs) rfl rfl rfl (by decide) (by kernel_rfl) ⟨rfl, rfl, trivial⟩ rfl ⟨Sub.rfl, Sub.rfl, trivial⟩ (fun g18 => ?_)
    refine Al_p Pu_mvl ?_
    refine Al_p (Pu_extract rfl rfl rfl) ?_
    refine Al_p (Pu_extract rfl rfl rfl) ?_
    refine Al_alloc rfl rfl rfl (by decide) Tryz.zeroValue34 rfl (by kernel_rfl) (fun g6 => ?_)
    refine Al_storeN rfl rfl rfl (by kernel_rfl) Tryz.isAgg34 Tryz.sizeOf34 rfl rfl rfl rfl (Nat.le_of_ble_eq_true rfl) ?_
    refine Al_p Pu_mvr ?_
    refine Al_nil (Aw_region ?_)
    refine Al_p Pu_mvl ?_
    refine Al_p Pu_mvl ?_
    refine Al_p (Pu_fieldb 3 rfl Tryz.underlying34 rfl rfl Tryz.sizeOf31 rfl) ?_
    refine Al_p (Pu_loadbN (r := [_, _]) rfl Tryz.isAgg31 Tryz.sizeOf31 rfl rfl rfl rfl) ?_
    refine Al_p (Pu_build (aa := [(0, _), (1, _)]) rfl Tryz.underlying59 Tryz.zeroValue59 (places59 Tryz.underlying59) (by kernel_rfl) ⟨rfl, rfl, rfl, rfl, rfl, rfl, trivial⟩ rfl) ?_
    refine Al_p (Pu_slice1 rfl Tryz.underlying32 Tryz.sizeOf59 Tryz.zeroValue59 rfl (by decide) (by decide) (by kernel_rfl) rfl rfl rfl) ?_
    refine Al_append rfl rfl rfl (by decide) (by kernel_rfl) elem32 (by decide) Tryz.sizeOf59 rfl rfl rfl (by simp; omega) (by decide) (fun g27 => ?_)
    refine Al_p Pu_mvr ?_
    refine Al_nil (Aw_region ?_)
    refine Al_p (Pu_add rfl rfl rfl (fun h1 h2 => by simp only [A.inI, A.maxI] at *; omega)) ?_
    refine Al_p Pu_mvl ?_
    refine Al_nil ?_
    exact ⟨(k + 1, g27), by omega, by simp only []; omega, Le.ov ⟨Sub.num (by omega), Sub.rfl, trivial⟩ ⟨Sub.rfl, Sub.rfl, Sub.rfl, trivial⟩ ⟨obeq (by rw [J.take_have cs hk, List.map_append]; rfl), trivial⟩ ⟨rfl, rfl, trivial⟩⟩ -- loop 0 next.0
  · (try simp only [decide_eq_true_eq, decide_eq_false_iff_not, Bool.and_eq_true, Bool.or_eq_true, Bool.and_eq_false_iff, Bool.or_eq_false_iff, Bool.not_eq_true', Bool.not_eq_false', beq_iff_eq, Bool.not_eq_eq_eq_not, Bool.not_true, Bool.not_false, List.length_map, Bool.and_true, Bool.and_false, Bool.false_and, Bool.true_and, Bool.or_false, Bool.false_or] at h12)
    have hkn : k = cs.length := by first | omega | (unfold J.keysC at h12; simp at h12; omega)
    have htk : (J.have' cs).take k = J.have' cs := List.take_of_length_le (by subst hkn; unfold J.have' J.keysC; simp)
    refine Aw_exit (Aw_seq (Aw_region ?_))
    refine Al_p Pu_mvl ?_
    refine Al_p Pu_mvr ?_
    refine Al_nil ?_
    refine Aw_frzL hl (k := 3) [2] rfl ⟨rfl, ⟨_, rfl, fun _ _ h => h⟩, rfl, ⟨_, rfl, fun _ _ h => h⟩, trivial⟩ ⟨rfl, trivial⟩ ?_
    refine Aw_ret ?_
    exact ⟨_, _, [], rfl, Sub.d (by rw [htk]), ⟨rfl, rfl, trivial⟩, rfl⟩ -- ret 0
namespace J
theorem look_mid : ∀ (a : SC) (k : ByteArray) (l l' : List Ver) (b : SC) (c : ByteArray), (∀ p ∈ a, p.1 ≠ k) → look (a ++ (k, l') :: b) c = if c = k then some l' else look (a ++ (k, l) :: b) c
  | [], k, l, l', b, c, _ => by
    rw [List.nil_append, List.nil_append, look_cons, look_cons]
    by_cases h : c = k
    · rw [if_pos h.symm, if_pos h]
    · rw [if_neg (fun e => h e.symm), if_neg h, if_neg (fun e => h e.symm)]
  | p :: r, k, l, l', b, c, h => by
    have ih := look_mid r k l l' b c fun q hq => h q (List.mem_cons_of_mem _ hq)
    rw [List.cons_append, List.cons_append, look_cons, look_cons, ih]
    have hp := h p (List.mem_cons_self ..)
    by_cases h1 : p.1 = c
    · rw [if_pos h1, if_pos h1, if_neg (fun e => hp (h1.trans e))]
    · rw [if_neg h1, if_neg h1]
theorem rise_at {cs : SC} (h : RiseC cs) {k : Nat} (hk : k < cs.length) : (∀ p ∈ cs.take k, p.1 ≠ cs[k].1) ∧ ∀ p ∈ cs.drop (k + 1), p.1 ≠ cs[k].1 := by
  have hn := List.pairwise_iff_getElem.1 (rise_nodup h)
  refine ⟨fun p hp e => ?_, fun p hp e => ?_⟩
  · obtain ⟨i, hi, rfl⟩ := List.getElem_of_mem hp
    rw [List.length_take] at hi
    rw [List.getElem_take] at e
    exact hn i k (by simp; omega) (by simpa using hk) (by omega) (by simpa using e)
  · obtain ⟨i, hi, rfl⟩ := List.getElem_of_mem hp
    rw [List.length_drop] at hi
    rw [List.getElem_drop] at e
    exact hn k (k + 1 + i) (by simpa using hk) (by simp; omega) (by omega) (by simpa using e.symm)
/-- The first so many chains are cleaned. -/
def cleanTo (cs : SC) (n s : Int) (pins : List Dep) (k : Nat) : SC := (cs.take k).map (fun p => (p.1, clean p.2 n s (pinsOf pins p.1))) ++ cs.drop k
theorem cleanTo_keys (cs : SC) (n s : Int) (pins : List Dep) (k : Nat) : (cleanTo cs n s pins k).map (·.1) = cs.map (·.1) := by
  unfold cleanTo
  rw [List.map_append, List.map_map]
  conv => rhs; rw [← List.take_append_drop k cs, List.map_append]
  congr 1
theorem cleanTo_all (cs : SC) (n s : Int) (pins : List Dep) : cleanTo cs n s pins cs.length = sclean cs n s pins := by
  unfold cleanTo sclean; simp
theorem cleanTo_get {cs : SC} (h : RiseC cs) (n s : Int) (pins : List Dep) {k : Nat} (hk : k < cs.length) : getC (cleanTo cs n s pins k) cs[k].1 = cs[k].2 := by
  have hm : cs[k] ∈ cleanTo cs n s pins k := by
    unfold cleanTo
    rw [List.drop_eq_getElem_cons hk]
    exact List.mem_append_right _ (List.mem_cons_self ..)
  have hr : RiseC (cleanTo cs n s pins k) := by unfold RiseC; rw [cleanTo_keys]; exact h
  unfold getC
  rw [look_mem hr hm]; rfl
theorem cleanTo_succ {cs : SC} (h : RiseC cs) (n s : Int) (pins : List Dep) {k : Nat} (hk : k < cs.length) (c : ByteArray) : look (cleanTo cs n s pins (k + 1)) c = if c = cs[k].1 then some (clean cs[k].2 n s (pinsOf pins cs[k].1)) else look (cleanTo cs n s pins k) c := by
  have h1 : cleanTo cs n s pins (k + 1) = (cs.take k).map (fun p => (p.1, clean p.2 n s (pinsOf pins p.1))) ++ (cs[k].1, clean cs[k].2 n s (pinsOf pins cs[k].1)) :: cs.drop (k + 1) := by
    unfold cleanTo
    rw [List.take_succ_eq_append_getElem hk, List.map_append]; simp
  have h2 : cleanTo cs n s pins k = (cs.take k).map (fun p => (p.1, clean p.2 n s (pinsOf pins p.1))) ++ (cs[k].1, cs[k].2) :: cs.drop (k + 1) := by
    unfold cleanTo
    rw [List.drop_eq_getElem_cons hk]
  rw [h1, h2]
  refine look_mid _ _ _ _ _ c fun p hp => ?_
  obtain ⟨q, hq, rfl⟩ := List.mem_map.1 hp
  exact (rise_at h hk).1 q hq
theorem rise_sub {a cs : SC} (h : RiseC cs) (hs : a.Sublist cs) : RiseC a := List.Pairwise.sublist (hs.map _) h
theorem keys_at (cs : SC) {k : Nat} (hk : k < cs.length) : (keysC cs).getD k default = cs[k].1 := by unfold keysC; simp [hk]
end J
set_option maxRecDepth 100000 in
theorem pinned_g (d : Dep) (key : ByteArray) (l : List (Int × Int)) (hll : l.length ≤ 1000000) : GCall Tryz.prog 90 [.d (.row d.row), .bx 1001 0 0, .bx 1002 0 0] [(1001, .box 9 [.d (tv key)]), (1002, .box 101 [.ow 1003 0]), (1003, .arr 31 2 (l.map stA))] (some ([(1001, .box 9 [.d (tv key)]), (1002, .box 101 [.ow 1004 0]), (1004, .arr 31 2 ((l ++ (if d.key.toList == key.toList then [(d.n, d.s)] else [])).map stA))], .d (.tup []))) := by
  refine GCall_enterL (fun _ _ => by kernel_rfl) Tryz.func90 rfl Tryz.ntmps90 (ReadsS.r0 Tryz.results90) (Nat.le_of_ble_eq_true rfl) (fun hok hokB M0 w0 hl => ?_)
  refine Aw_seq (Aw_region ?_)
  refine Al_p (Pu_boxN rfl rfl) ?_
  refine Al_nil (Aw_seq (Aw_region ?_))
  refine Al_p (Pu_field 0 rfl Tryz.underlying59 rfl rfl Tryz.sizeOf9 rfl) ?_
  refine Al_p (Pu_load1 rfl Tryz.isAgg9 rfl rfl) ?_
  refine Al_p (Pu_loadb rfl Tryz.isAgg9 rfl rfl rfl) ?_
  refine Al_p (Pu_str rfl rfl rfl rfl) ?_
  refine Al_nil ?_
  refine Aw_cond rfl (fun h7 => ?_) (fun h7 => ?_)
  · skip
    refine Aw_region ?_
    refine Al_p (Pu_loadb rfl Tryz.isAgg101 rfl rfl rfl) ?_
    refine Al_p (Pu_field 1 rfl Tryz.underlying59 rfl rfl Tryz.sizeOf31 rfl) ?_
    refine Al_p (Pu_loadN rfl Tryz.isAgg31 Tryz.sizeOf31 rfl (Nat.le_of_ble_eq_true rfl)) ?_
    refine Al_p (Pu_slice1 rfl Tryz.underlying101 Tryz.sizeOf31 Tryz.zeroValue31 rfl (by decide) (by decide) (by kernel_rfl) rfl rfl rfl) ?_
    refine Al_append rfl rfl rfl (by decide) (by kernel_rfl) elem101 (by decide) Tryz.sizeOf31 rfl rfl rfl (by simp; omega) (by decide) (fun g12 => ?_)
    refine Al_store1 rfl rfl rfl (by kernel_rfl) Tryz.isAgg101 Tryz.sizeOf101 rfl rfl (Nat.le_of_ble_eq_true rfl) (by conv => lhs; whnf) rfl ?_
    refine Al_nil ?_
    exact ⟨_, _, [(1004, 1003, g12)], rfl, rfl, ⟨rfl, rfl, obeq (by rw [if_pos h7, List.map_append]; rfl), trivial⟩, rfl⟩ -- ret 0
  · skip
    refine Aw_skip ?_
    exact ⟨_, _, [(1004, 1003, 0)], rfl, rfl, ⟨rfl, rfl, obeq (by rw [if_neg (by rw [h7]; decide), List.append_nil]), trivial⟩, rfl⟩ -- ret 1
set_option maxRecDepth 100000 in
set_option maxHeartbeats 2000000 in
theorem sclean_g (rs : List Rng) (cs : SC) (b : Nat) (n s : Int) (pins : List Dep) (hpl : pins.length ≤ 100000) (hr : J.RiseC cs) (hs : J.Sm 1000 cs) : GCall Tryz.prog 57 [.bx 1001 0 0, .d (.row [iv n, iv s]), .d (.sl 3 (pins.map Dep.row))] (SH rs cs b) (some (SH rs (J.sclean cs n s pins) b, .d (.tup []))) := by
  refine GCall_enterL (fun _ _ => by kernel_rfl) Tryz.func57 rfl Tryz.ntmps57 (ReadsS.r0 Tryz.results57) (Nat.le_of_ble_eq_true rfl) (fun hok hokB M0 w0 hl => ?_)
  have hcl := hs.1
  refine Aw_seq (Aw_region ?_)
  refine Al_p (Pu_boxN rfl rfl) ?_
  refine Al_nil (Aw_seq (Aw_region ?_))
  refine Al_p Pu_mvl ?_
  refine Al_gcall [(1001, 1001, 0), (1002, 1002, 0)] [] (skeys_g rs cs b hr hs) rfl rfl rfl (by decide) (by kernel_rfl) ⟨rfl, rfl, trivial⟩ rfl ⟨Sub.rfl, trivial⟩ (fun g13 => ?_)
  refine Al_p (Pu_len rfl Tryz.underlying121 rfl (by first | exact List.length_map .. | exact rfl)) ?_
  refine Al_p Pu_mvl ?_
  refine Al_nil (Aw_block ?_)
  refine Aw_loopk (ι := Nat) [0, 2, 4, 13, 14] [1001] (fun k => [(15, .d (iv k))]) (fun k => [(1002, 0, mapV b (J.cleanTo cs n s pins k))]) (fun k => k ≤ cs.length) (fun k => cs.length - k) (0) (Nat.zero_le _) ⟨Sub.rfl, trivial⟩ ⟨rfl, trivial⟩ ?_
  rintro k hk0
  refine Aw_seq (Aw_region ?_)
  refine Al_p (Pu_cmp rfl rfl rfl rfl) ?_
  refine Al_nil (Aw_seq ?_)
  refine Aw_cond rfl (fun h16 => ?_) (fun h16 => ?_)
  · (try simp only [decide_eq_true_eq, decide_eq_false_iff_not, Bool.and_eq_true, Bool.or_eq_true, Bool.and_eq_false_iff, Bool.or_eq_false_iff, Bool.not_eq_true', Bool.not_eq_false', beq_iff_eq, Bool.not_eq_eq_eq_not, Bool.not_true, Bool.not_false, List.length_map, Bool.and_true, Bool.and_false, Bool.false_and, Bool.true_and, Bool.or_false, Bool.false_or] at h16)
    have hk : k < cs.length := by first | omega | (unfold J.keysC at h16; simp at h16; omega)
    have hkk : k < (J.keysC cs).length := by unfold J.keysC; simpa using hk
    have hkey := J.keys_at cs hk
    have hksz : okS cs[k].1 := (hs.2 _ (List.getElem_mem hk)).2
    have hlen2 : cs[k].2.length ≤ 1000 := (hs.2 _ (List.getElem_mem hk)).1
    have hget := J.cleanTo_get hr n s pins hk
    have hrk : J.RiseC (J.cleanTo cs n s pins (k + 1)) := by unfold J.RiseC; rw [J.cleanTo_keys]; exact hr
    refine Aw_skip (Aw_seq (Aw_block (Aw_seq (Aw_region ?_))))
    refine Al_p (Pu_index rfl Tryz.underlying121 Tryz.sizeOf9 rfl rfl (rfl) (mapgetD (d := default) hkk)) ?_
    refine Al_p (Pu_load1 rfl Tryz.isAgg9 rfl rfl) ?_
    refine Al_alloc rfl rfl rfl (by decide) Tryz.zeroValue9 rfl (by kernel_rfl) (fun g7 => ?_)
    refine Al_store1 rfl rfl rfl (by kernel_rfl) Tryz.isAgg9 Tryz.sizeOf9 rfl rfl (Nat.le_of_ble_eq_true rfl) (by conv => lhs; whnf) rfl ?_
    refine Al_nil (Aw_seq (Aw_region ?_))
    refine Al_alloc rfl rfl rfl (by decide) Tryz.zeroValue101 rfl (by kernel_rfl) (fun g8 => ?_)
    refine Al_nil (Aw_seq (Aw_region ?_))
    refine Al_p (Pu_makeFuncS [] [.bx 7 g7 0, .bx 8 g8 0] rfl trivial ⟨Sub.rfl, Sub.rfl, trivial⟩) ?_
    refine Al_p Pu_mvr ?_
    refine Al_nil (Aw_seq (Aw_seq (Aw_region ?_)))
    refine Al_p Pu_mvl ?_
    refine Al_p (Pu_len rfl Tryz.underlying32 rfl (by first | exact List.length_map .. | exact rfl)) ?_
    refine Al_p Pu_mvl ?_
    refine Al_nil (Aw_block ?_)
    refine Aw_owncell 0 (k := 8) (k2 := 80) (e := 31) (n := 2) rfl rfl rfl (fun g80 => ?_)
    refine Aw_loopk (ι := Nat × Nat) [0, 2, 4, 7, 8, 9, 13, 14, 15, 20, 21] [1001, 1002, 7] (fun (j, g) => [(22, .d (iv j))]) (fun (j, g) => [(8, g8, .box 101 [.ow 80 g]), (80, g, .arr 31 2 ((J.pinsOf (pins.take j) ((J.keysC cs).getD k default)).map stA))]) (fun (j, g) => j ≤ pins.length) (fun (j, g) => pins.length - j) ((0, g80)) (Nat.zero_le _) ⟨Sub.rfl, trivial⟩ ⟨rfl, rfl, trivial⟩ ?_
    rintro ⟨j, g⟩ hk1
    refine Aw_seq (Aw_region ?_)
    refine Al_p (Pu_cmp rfl rfl rfl rfl) ?_
    refine Al_nil (Aw_seq ?_)
    refine Aw_cond rfl (fun h23 => ?_) (fun h23 => ?_)
    · (try simp only [decide_eq_true_eq, decide_eq_false_iff_not, Bool.and_eq_true, Bool.or_eq_true, Bool.and_eq_false_iff, Bool.or_eq_false_iff, Bool.not_eq_true', Bool.not_eq_false', beq_iff_eq, Bool.not_eq_eq_eq_not, Bool.not_true, Bool.not_false, List.length_map, Bool.and_true, Bool.and_false, Bool.false_and, Bool.true_and, Bool.or_false, Bool.false_or] at h23)
      have hj : j < pins.length := by omega
      have hps := J.pinsOf_succ hj ((J.keysC cs).getD k default)
      have hpl2 : (J.pinsOf (pins.take j) ((J.keysC cs).getD k default)).length ≤ 1000000 := by
        unfold J.pinsOf
        have := List.length_filter_le (fun d : Dep => d.key.toList == ((J.keysC cs).getD k default).toList) (pins.take j)
        simp at *; omega
      refine Aw_skip (Aw_seq (Aw_block (Aw_seq (Aw_region ?_))))
      refine Al_p (Pu_index rfl Tryz.underlying32 Tryz.sizeOf59 rfl rfl (rfl) (mapgetD (d := default) hj)) ?_
      refine Al_p (Pu_loadN rfl Tryz.isAgg59 Tryz.sizeOf59 rfl (Nat.le_of_ble_eq_true rfl)) ?_
      refine Al_alloc rfl rfl rfl (by decide) Tryz.zeroValue59 rfl (by kernel_rfl) (fun g11 => ?_)
      refine Al_storeN rfl rfl rfl (by kernel_rfl) Tryz.isAgg59 Tryz.sizeOf59 rfl rfl rfl rfl (Nat.le_of_ble_eq_true rfl) ?_
      refine Al_nil (Aw_region ?_)
      refine Al_p Pu_mvl ?_
      refine Al_p (Pu_loadbN (r := [_, _, _]) rfl Tryz.isAgg59 Tryz.sizeOf59 rfl rfl rfl rfl) ?_
      refine Al_gcallv [(1001, 7, g7), (1002, 8, g8), (1003, 80, g)] [(1004, 80)] (pinned_g (pins.getD j default) ((J.keysC cs).getD k default) (J.pinsOf (pins.take j) ((J.keysC cs).getD k default)) hpl2) rfl rfl rfl (by decide) (by kernel_rfl) rfl ⟨rfl, rfl, rfl, trivial⟩ rfl [.d (.row (pins.getD j default).row)] rfl ⟨Sub.rfl, trivial⟩ (fun g28 => ?_)
      refine Al_nil (Aw_region ?_)
      refine Al_p (Pu_add rfl rfl rfl (fun h1 h2 => by simp only [A.inI, A.maxI] at *; omega)) ?_
      refine Al_p Pu_mvl ?_
      refine Al_nil ?_
      exact ⟨(j + 1, g28), by omega, by simp only []; omega, Le.ov ⟨Sub.num (by omega), trivial⟩ ⟨Sub.rfl, Sub.rfl, Sub.rfl, Sub.rfl, Sub.rfl, Sub.rfl, Sub.rfl, Sub.rfl, Sub.rfl, Sub.rfl, Sub.rfl, trivial⟩ ⟨rfl, obeq (by rw [hps]), trivial⟩ ⟨rfl, rfl, rfl, trivial⟩⟩ -- loop 1 next.0
    · (try simp only [decide_eq_true_eq, decide_eq_false_iff_not, Bool.and_eq_true, Bool.or_eq_true, Bool.and_eq_false_iff, Bool.or_eq_false_iff, Bool.not_eq_true', Bool.not_eq_false', beq_iff_eq, Bool.not_eq_eq_eq_not, Bool.not_true, Bool.not_false, List.length_map, Bool.and_true, Bool.and_false, Bool.false_and, Bool.true_and, Bool.or_false, Bool.false_or] at h23)
      have hjn : j = pins.length := by omega
      have hcc := cclean_a cs[k].2 n s (J.pinsOf pins cs[k].1) (by omega)
      refine Aw_exit ?_
      refine Aw_frzcL 0 (k := 80) (kb := 8) hl [] rfl ⟨rfl, ⟨_, rfl, fun _ _ h => h⟩, rfl, ⟨_, rfl, fun _ _ h => h⟩, trivial⟩ rfl rfl rfl trivial ?_
      refine Aw_draw 14 (by kernel_rfl) (by kernel_rfl) ?_
      refine Dr_p Pu_mvl ?_
      refine Dr_p (Pu_nilb rfl rfl) ?_
      refine Dr_p (Pu_fieldb 1 rfl Tryz.underlying115 rfl rfl Tryz.sizeOf113 rfl) ?_
      refine Dr_p (Pu_loadb rfl Tryz.isAgg113 rfl rfl rfl) ?_
      refine Dr_p (Pu_loadb rfl Tryz.isAgg9 rfl rfl rfl) ?_
      refine Dr_p Pu_mvl ?_
      refine Dr_p (Pu_nilb rfl rfl) ?_
      refine Dr_p (Pu_fieldb 1 rfl Tryz.underlying115 rfl rfl Tryz.sizeOf113 rfl) ?_
      refine Dr_p (Pu_loadb rfl Tryz.isAgg113 rfl rfl rfl) ?_
      refine Dr_p (Pu_loadb rfl Tryz.isAgg9 rfl rfl rfl) ?_
      refine Dr_p (Pu_lookup (c := cs[k].1) (z := versA []) keyS_T rfl Tryz.underlying113 Tryz.zeroValue65 (fun M w => .nil _ _ _) rfl rfl (by rw [← hkey]; rfl) (Only.v _) hksz) ?_
      refine Dr_p (Pu_loadN rfl Tryz.isAgg31 Tryz.sizeOf31 rfl (Nat.le_of_ble_eq_true rfl)) ?_
      refine Dr_p (Pu_loadb rfl Tryz.isAgg101 rfl rfl rfl) ?_
      refine Dr_p (Pu_call (hcc) rfl ⟨Sub.d (by rw [J.look_getA, hget]), Sub.rfl, Sub.d (by rw [hjn, List.take_length, hkey]), trivial⟩) ?_
      refine Dr_nil ?_
      refine Al_mapUpdate (c := cs[k].1) (v := J.clean cs[k].2 n s (J.pinsOf pins cs[k].1)) keyS_T rfl rfl rfl (by kernel_rfl) Tryz.underlying113 (by rw [show (J.cleanTo cs n s pins k).length = cs.length from by have := congrArg List.length (J.cleanTo_keys cs n s pins k); simpa using this]; simp only [maxLen]; omega) rfl rfl (by rw [← hkey]; rfl) (Only.v _) hksz Sub.rfl ?_
      refine Al_mapT (k := 1002) ((J.cleanTo cs n s pins (k + 1)).map (·.1)) rfl (funext fun c => (J.cleanTo_succ hr n s pins hk c).symm) (fun c hc => (J.look_keys hrk c).1 hc) (List.length_map ..) ?_
      refine Al_nil (Aw_region ?_)
      refine Al_p (Pu_add rfl rfl rfl (fun h1 h2 => by simp only [A.inI, A.maxI] at *; omega)) ?_
      refine Al_p Pu_mvl ?_
      refine Al_nil ?_
      exact ⟨k + 1, by omega, by omega, Le.ov ⟨Sub.num (by omega), trivial⟩ ⟨Sub.rfl, Sub.rfl, Sub.rfl, Sub.rfl, Sub.rfl, trivial⟩ ⟨rfl, trivial⟩ ⟨rfl, trivial⟩⟩ -- loop 0 next.0
  · (try simp only [decide_eq_true_eq, decide_eq_false_iff_not, Bool.and_eq_true, Bool.or_eq_true, Bool.and_eq_false_iff, Bool.or_eq_false_iff, Bool.not_eq_true', Bool.not_eq_false', beq_iff_eq, Bool.not_eq_eq_eq_not, Bool.not_true, Bool.not_false, List.length_map, Bool.and_true, Bool.and_false, Bool.false_and, Bool.true_and, Bool.or_false, Bool.false_or] at h16)
    have hkn : k = cs.length := by first | omega | (unfold J.keysC at h16; simp at h16; omega)
    refine Aw_exit ?_
    exact ⟨_, _, [], rfl, rfl, ⟨rfl, obeq2 (by rw [hkn, J.cleanTo_all]), trivial⟩, rfl⟩ -- ret 0
end Go.Proofs.YtmbaeloiepjakaaGreat
end

section
namespace Go.Proofs.YtmbaeloiepjakaaGreat.A
open Go Go.RowKit
section
variable {P : Program} {N : Nat} {M0 : Nat → Prop} {w0 : Base} {ops : Array Oper} {Q : Exit → ASt → Prop} {o : Oper} {l : List Oper} {st : ASt}
theorem rep_take {M : Nat → Prop} {w : World} {n h : Nat} {rows : List (List AV)} {ad : Option Addr} {c : Nat} (hm : Rep M w (.sl n rows) (.slice ad rows.length c)) (hle : h ≤ rows.length) : Rep M w (.sl n (rows.take h)) (.slice ad h h) := by
  rcases Nat.eq_zero_or_pos h with h0 | h0
  · subst h0
    rw [List.take_zero]
    exact .nil _ _ _
  · have hlen : (rows.take h).length = h := by simp; omega
    generalize hyy : Value.slice ad rows.length c = y at hm
    cases hm with
    | nil n a' c' => simp at hle; omega
    | sl n rows b o' cap f hl hcap hn hcc hr =>
      simp only [Value.slice.injEq] at hyy
      obtain ⟨rfl, _, rfl⟩ := hyy
      have := Rep.sl (M := M) (w := w) n (rows.take h) b o' h f (by rw [hlen]; omega) (by rw [hlen]; exact Nat.le_refl _) (fun i r hi => hn i r (by rw [List.getElem?_take] at hi; split at hi; exact hi; cases hi)) (fun i r j a hi ha => hcc i r j a (by rw [List.getElem?_take] at hi; split at hi; exact hi; cases hi) ha) (fun i r j a hi ha => hr i r j a (by rw [List.getElem?_take] at hi; split at hi; exact hi; cases hi) ha)
      rw [hlen] at this
      exact this
theorem Pu_sub3 {t e : TypeId} {x hi mx : Operand} {n : Nat} {rows : List (List AV)} (h : Nat) (ho : o.op = .slice t x none (some hi) (some mx)) (ht : P.underlying t = some (.slice e)) (hz : ∀ w, (sizeOf e).run P w = .ok n w) (hx : st.ev x = .d (.sl n rows)) (hhi : ∃ z : Int, st.ev hi = .d (.v (.int .i64 z)) ∧ z = h) (hmx : ∃ z : Int, st.ev mx = .d (.v (.int .i64 z)) ∧ z = h) (hle : h ≤ rows.length) : Pu P st o (.slc n (rows.take h)) := Pu_q fun B M ρ w a h2 _ => by
  have hm := h2 x (by simp [opsOf, ho, Op.operands])
  rw [hx] at hm
  have hcap : ∃ ad c, a.eval x = .slice ad rows.length c ∧ rows.length ≤ c := by
    generalize a.eval x = y at hm
    cases hm with
    | nil n a c => exact ⟨_, _, rfl, by simp⟩
    | sl n rows b o' cap f hl hcap => exact ⟨_, _, rfl, hcap⟩
  obtain ⟨ad, c, hy, hc⟩ := hcap
  obtain ⟨z1, k1, k2⟩ := hhi
  obtain ⟨z2, k3, k4⟩ := hmx
  have b1 := fun c => bnd_run (P := P) (w := w) (c := c) (y := h) (h2 hi (by simp [opsOf, ho, Op.operands])) k1 k2 (Nat.le_refl h)
  have b2 := fun c' => bnd_run (P := P) (w := w) (c := c') (y := c) (h2 mx (by simp [opsOf, ho, Op.operands])) k3 k4 (by omega : h ≤ c)
  refine ⟨.slice ad h h, ?_, ?_⟩
  · cases ad <;> simp [execOp, ho, hy, Instr.sliceAt, Sem.run_bind, run_underlying ht, Result.andThen_ok, Instr.slice, Instr.sliceBounds, b1, b2, hz, Sem.run_pure, Addr.add]
  · rw [hy] at hm
    exact ⟨rep_take hm hle, ad, h, rfl⟩
/-- The values that a row of data stands for, and where they lie. -/
theorem rep_cells {M : Nat → Prop} {w : World} {n : Nat} {rows : List (List AV)} {y : Value} (hn : 1 ≤ n) (h2 : Rep M w (.sl n rows) y) : ∃ (us : List (List Value)) (ad : Option Addr) (c : Nat), y = .slice ad rows.length c ∧ rows.length ≤ c ∧ (∀ r ∈ us, r.length = n) ∧ Rows M w n us rows ∧ (rows ≠ [] → ∃ b, ad = some b ∧ ∀ q u, us.flatten[q]? = some u → w.cell? (b.add q) = some u) ∧ ∀ u ∈ us.flatten, u.oneCell' = true := by
  cases h2 with
  | nil n na nc => exact ⟨[], _, _, rfl, by simp, (fun r hr => by cases hr), ⟨rfl, (fun i r v h => by simp at h)⟩, fun h => (h rfl).elim, fun u hu => by simp at hu⟩
  | sl n news b o' cap f hl hcap hn' hcc hr =>
    let us : List (List Value) := (List.range rows.length).map fun i => (List.range n).map fun j => f i j
    have hul : ∀ r ∈ us, r.length = n := fun r hr => by
      simp only [us, List.mem_map] at hr
      obtain ⟨i, _, rfl⟩ := hr
      simp
    have hus : ∀ i, i < rows.length → us[i]? = some ((List.range n).map fun j => f i j) := fun i hi => by
      simp [us, hi]
    have hcell : ∀ i, i < rows.length → ∀ j, j < n → ∃ r a, rows[i]? = some r ∧ r[j]? = some a := fun i hi j hj => by
      have h5 : (rows[i]'hi).length = n := hn' i _ (by simp [hi])
      exact ⟨rows[i], (rows[i]'hi)[j]'(by omega), by simp [hi], by simp [h5, hj]⟩
    have hrr : Rows M w n us rows := by
      refine ⟨by simp [us], fun i r v h3 h4 => ?_⟩
      have hi : i < rows.length := (List.getElem?_eq_some_iff.1 h3).1
      rw [hus i hi] at h4
      simp only [Option.some.injEq] at h4
      subst h4
      refine ⟨hn' i r h3, by simp, fun j a x h5 h6 => ?_⟩
      have hj : j < n := by rw [← hn' i r h3]; exact (List.getElem?_eq_some_iff.1 h5).1
      rw [List.getElem?_map, List.getElem?_range hj] at h6
      simp only [Option.map_some, Option.some.injEq] at h6
      subst h6
      exact ⟨hr i r j a h3 h5, (hcc i r j a h3 h5).2.2⟩
    have hfl : ∀ q u, us.flatten[q]? = some u → ∃ i j r c, i < rows.length ∧ j < n ∧ q = i * n + j ∧ rows[i]? = some r ∧ r[j]? = some c ∧ u = f i j := fun q u hq => by
      rw [flatten_get (by omega) us q hul] at hq
      obtain ⟨r, h5, h6⟩ := Option.bind_eq_some_iff.1 hq
      have hi : q / n < rows.length := by
        have := (List.getElem?_eq_some_iff.1 h5).1
        simpa [us] using this
      have hj : q % n < n := Nat.mod_lt _ (by omega)
      rw [hus _ hi] at h5
      simp only [Option.some.injEq] at h5
      subst h5
      rw [List.getElem?_map, List.getElem?_range hj] at h6
      simp only [Option.map_some, Option.some.injEq] at h6
      obtain ⟨r, c, h7, h8⟩ := hcell _ hi _ hj
      exact ⟨q / n, q % n, r, c, hi, hj, by rw [Nat.mul_comm]; exact (Nat.div_add_mod q n).symm, h7, h8, h6.symm⟩
    refine ⟨us, _, _, rfl, hcap, hul, hrr, fun _ => ⟨_, rfl, fun q u hq => ?_⟩, fun u hu => ?_⟩
    · obtain ⟨i, j, r, c, hi, hj, rfl, h7, h8, rfl⟩ := hfl q u hq
      rw [add_addr, ← Nat.add_assoc]
      exact (hcc i r j c h7 h8).2.1
    · obtain ⟨q, hq, rfl⟩ := List.getElem_of_mem hu
      obtain ⟨i, j, r, c, hi, hj, _, h7, h8, h9⟩ := hfl q _ (by simp [hq] : us.flatten[q]? = some us.flatten[q])
      rw [h9]
      exact (hcc i r j c h7 h8).2.2
/-- A row that was made anew, told as data. -/
theorem rep_own {M : Nat → Prop} {w' : World} {B n : Nat} {T : TypeId} {v : Value} {rows : List (List AV)} {us : List (List Value)} (hn : 1 ≤ n) (hM : ∀ b, M b → b < B) (ho : w'.ownsRow B T n v rows.length us.flatten) (hul : ∀ r ∈ us, r.length = n) (hr : Rows M w' n us rows) (h1 : ∀ u ∈ us.flatten, u.oneCell' = true) (hlen : rows.length ≤ maxI) : Rep M w' (.sl n rows) v := by
  rcases ho.2 with ⟨rfl, hz⟩ | ⟨gb, cap, cur, rfl, hbase, hgb, hnc, hcm, hcs, htk⟩
  · rw [List.eq_nil_of_length_eq_zero hz]
    exact .nil _ _ _
  · have hget : ∀ i j r c, rows[i]? = some r → r[j]? = some c → ∃ u, us.flatten[i * n + j]? = some u ∧ Rep M w' c u := fun i j r c h3 h4 => by
      have hi : i < us.length := by rw [hr.1]; exact (List.getElem?_eq_some_iff.1 h3).1
      obtain ⟨k1, k2, k3⟩ := hr.2 i r us[i] h3 (by simp [hi])
      have hj : j < n := by rw [← k1]; exact (List.getElem?_eq_some_iff.1 h4).1
      have hj2 : j < us[i].length := by omega
      refine ⟨us[i][j], ?_, (k3 j c us[i][j] h4 (by simp [hj2])).1⟩
      rw [flatten_get (by omega) us _ hul]
      have e1 : (i * n + j) / n = i := by rw [Nat.mul_comm, Nat.mul_add_div (by omega), Nat.div_eq_of_lt hj]; omega
      have e2 : (i * n + j) % n = j := by rw [Nat.mul_comm, Nat.mul_add_mod, Nat.mod_eq_of_lt hj]
      rw [e1, e2]
      simp [hi, hj2]
    refine .sl n rows gb 0 cap (fun i j => us.flatten.getD (i * n + j) undef) hlen hnc (fun i r hi => ?_) (fun i r j c h3 h4 => ?_) (fun i r j c h3 h4 => ?_)
    · have hi' : i < us.length := by rw [hr.1]; exact (List.getElem?_eq_some_iff.1 hi).1
      exact (hr.2 i r us[i] hi (by simp [hi'])).1
    · obtain ⟨u, h5, h6⟩ := hget i j r c h3 h4
      refine ⟨fun hm => by have := hM _ hm; omega, ?_, ?_⟩
      · rw [Lib.cell_of_heap hgb]
        have h7 : us.flatten[i * n + j]? = some (us.flatten.getD (i * n + j) undef) := by rw [List.getD_eq_getElem?_getD, h5]; rfl
        have hlt : i * n + j < us.flatten.length := (List.getElem?_eq_some_iff.1 h5).1
        show cur[0 + i * n + j]? = _
        rw [← h7, ← htk, Nat.zero_add, List.getElem?_take, if_pos (by rw [← htk] at hlt; simp at hlt; omega), Array.getElem?_toList]
      · rw [List.getD_eq_getElem?_getD, h5]
        exact h1 u (List.mem_of_getElem? h5)
    · obtain ⟨u, h5, h6⟩ := hget i j r c h3 h4
      rw [List.getD_eq_getElem?_getD, h5]
      exact h6
theorem rows_app {M : Nat → Prop} {w : World} {n : Nat} {us vs : List (List Value)} {rows news : List (List AV)} (h : Rows M w n us rows) (k : Rows M w n vs news) : Rows M w n (us ++ vs) (rows ++ news) := ⟨by rw [List.length_append, List.length_append, h.1, k.1], fun i r u h1 h2 => by
  rcases Nat.lt_or_ge i rows.length with hi | hi
  · rw [List.getElem?_append_left hi] at h1
    rw [List.getElem?_append_left (by rw [h.1]; exact hi)] at h2
    exact h.2 i r u h1 h2
  · rw [List.getElem?_append_right hi] at h1
    rw [List.getElem?_append_right (by rw [h.1]; exact hi), h.1] at h2
    exact k.2 _ r u h1 h2⟩
/-- What is appended to data whose capacity is its length comes to a new place; nothing appended leaves it as it is. -/
theorem Pu_appendC {s x : Operand} {t T : TypeId} {n bytes : Nat} {rows news : List (List AV)} (ho : o.op = .call ⟨.builtin .append, #[s, x], #[t, t]⟩) (hT : R.ElemT P t T n bytes) (hn : 1 ≤ n) (hsz : ∀ w, (sizeOf T).run P w = .ok n w) (hs : st.ev s = .slc n rows) (hx : st.ev x = .d (.sl n news)) (hlen : rows.length + news.length ≤ 4294967296) (hby : bytes ≤ 32768) : Pu P st o (.d (.sl n (rows ++ news))) := Pu_of fun B M ρ w a hM h2 _ => by
  have h1 := h2 s (mem_call ho s (by simp))
  have h4 := h2 x (mem_call ho x (by simp))
  rw [hs] at h1
  rw [hx] at h4
  obtain ⟨hr, ad, len, he⟩ := h1
  obtain ⟨us, ad1, c1, e1, _, hul, hrows, hcell, hone⟩ := rep_cells hn hr
  obtain ⟨vs, ad2, c2, e2, _, hvl, hvrows, hvcell, hvone⟩ := rep_cells hn h4
  have e3 := he.symm.trans e1
  simp only [Value.slice.injEq] at e3
  obtain ⟨rfl, rfl, rfl⟩ := e3
  have hfull : ∀ v' w', (Builtin.append_ #[t, t] o.type #[a.eval s, a.eval x]).run P w = .ok v' w' → (execOp a.eval o).run P w = .ok (.value v') w' := fun v' w' e => by
    simp only [execOp, ho, resolve, invoke, builtin, Sem.run_bind, Sem.run_pure, Result.andThen_ok, List.map_toArray, List.map_cons, List.map_nil, e]
  by_cases hnil : news = []
  · subst hnil
    refine ⟨_, w, hfull _ w ?_, Ev.Ext.refl _, by rw [List.append_nil]; exact hr⟩
    rw [he, e2]
    cases ad <;> cases ad2 <;> simp [Builtin.append_, run_underlying hT.ht, hsz, Builtin.lenOf, Builtin.firstCells, storeCells, loadCells, loadCellsFrom, Result.andThen]
  · obtain ⟨b2, rfl, hb2⟩ := hvcell hnil
    have hnl : 0 < news.length := List.length_pos_iff.2 hnil
    obtain ⟨ix, z, hi, hz, hsize, hbyt, hzs⟩ := hT.hi
    obtain ⟨v', w', h3, h5, h6⟩ : ∃ v' w', (Builtin.append_ #[t, t] o.type #[a.eval s, a.eval x]).run P w = .ok v' w' ∧ w'.ownsRow w.heap.size T n v' (rows.length + news.length) (us.flatten ++ vs.flatten) ∧ Ev.Ext w w' := by
      rw [he, e2]
      have hfl : ∀ (l : List (List Value)), (∀ r ∈ l, r.length = n) → l.flatten.length = l.length * n := fun l hl => flatten_len hl
      have hb1 : (rows.length + news.length) * bytes ≤ 140737488355328 := Nat.le_trans (Nat.mul_le_mul hlen hby) (by decide)
      cases ad with
      | none =>
        have hr0 : rows = [] := Classical.byContradiction fun h => by obtain ⟨b, h5, _⟩ := hcell h; cases h5
        subst hr0
        have hu0 : us = [] := List.eq_nil_of_length_eq_zero hrows.1
        subst hu0
        obtain ⟨v', w', k1, k2, k3, _⟩ := R.run_append (P := P) w w.heap.size t o.type T n bytes hT hn (.slice none 0 0) 0 [] ⟨by simp, .inl ⟨rfl, rfl⟩⟩ b2 news.length c2 vs.flatten (by rw [hfl vs hvl, hvrows.1]) hb2 hvone (by unfold maxLen; simp at hlen; omega) (by simpa using hb1) (Nat.le_refl _)
        exact ⟨v', w', k1, by simpa using k2, ⟨k3.os, k3.tape, k3.output, k3.size, fun k hk => k3.block k hk (by simp [Value.ownBlock])⟩⟩
      | some b1 =>
        have hold : ∀ j u, us.flatten[j]? = some u → w.cell? (b1.add j) = some u := fun j u hj => by
          by_cases hr0 : rows = []
          · have hu0 : us = [] := List.eq_nil_of_length_eq_zero (by rw [hrows.1, hr0]; rfl)
            rw [hu0] at hj; simp at hj
          · obtain ⟨b, h7, h8⟩ := hcell hr0
            cases h7
            exact h8 j u hj
        obtain ⟨v', w', k1, k2, k3⟩ := run_append_arg_grows (P := P) (w := w) t o.type T ix z n bytes hT.ht hi hz hsize hbyt hzs (by omega) b1 rows.length rows.length us.flatten (by rw [hfl us hul, hrows.1]) hold b2 news.length c2 vs.flatten (by rw [hfl vs hvl, hvrows.1]) hb2 (by omega) (by unfold maxLen; omega) hb1
        exact ⟨v', w', k1, k2, ⟨k3.os, k3.tape, k3.output, k3.size, fun k hk => k3.block k hk (by simp)⟩⟩
    have hul2 : ∀ r ∈ us ++ vs, r.length = n := fun r hr => by
      rcases List.mem_append.1 hr with h | h
      · exact hul r h
      · exact hvl r h
    refine ⟨v', w', hfull v' w' h3, h6, rep_own (B := w.heap.size) hn hM (by rw [List.flatten_append, List.length_append]; exact h5) hul2 ((rows_app hrows hvrows).mono (Known.ext h6)) (fun u hu => ?_) (by rw [List.length_append]; unfold maxI; omega)⟩
    rw [List.flatten_append] at hu
    rcases List.mem_append.1 hu with h | h
    · exact hone u h
    · exact hvone u h
end
end Go.Proofs.YtmbaeloiepjakaaGreat.A
end

section
namespace Go.Proofs.YtmbaeloiepjakaaGreat.A
open Go Go.RowKit
def cvIn (ks : List Nat) : CV → Bool
  | .d _ => true
  | .bx k g _ => ks.contains k && Nat.beq g 0
  | .ow k g => ks.contains k && Nat.beq g 0
/-- It names some objects alone. -/
def svIn (ks : List Nat) : SV → Bool
  | .any => true
  | .d _ => true
  | .bx k g _ => ks.contains k && Nat.beq g 0
  | .ow k g => ks.contains k && Nat.beq g 0
  | .ifb _ s => svIn ks s
  | .fnb _ a b => a.all (cvIn ks) && b.all (cvIn ks)
  | .tp l => l.all (cvIn ks)
  | .ag l => l.all (cvIn ks)
  | .psl l => l.all (cvIn ks)
  | .pc c => cvIn ks c
  | .ows k g _ _ _ => ks.contains k && Nat.beq g 0
  | .slc _ _ => true
section
variable {M : Nat → Prop} {w : World} {ρ ρ' : Rho} {ks : List Nat}
theorem name_eq (h : ∀ k ∈ ks, ρ' k 0 = ρ k 0) {k g : Nat} (hb : (ks.contains k && Nat.beq g 0) = true) : ρ' k g = ρ k g := by
  simp only [Bool.and_eq_true] at hb
  have h1 : g = 0 := Nat.eq_of_beq_eq_true hb.2
  subst h1
  exact h k (by simpa using hb.1)
theorem cvIn_rep (h : ∀ k ∈ ks, ρ' k 0 = ρ k 0) {c : CV} {x : Value} (hb : cvIn ks c = true) (hr : CRep M w ρ' c x) : CRep M w ρ c x := by
  cases c with
  | d a => exact hr
  | bx k g off =>
    obtain ⟨y, b, h1, h2⟩ := hr
    exact ⟨y, b, by rw [← name_eq h hb]; exact h1, h2⟩
  | ow k g => exact ⟨by rw [← name_eq h hb]; exact hr.1, hr.2⟩
theorem cvsIn_rep (h : ∀ k ∈ ks, ρ' k 0 = ρ k 0) {l : List CV} {vs : List Value} (hb : l.all (cvIn ks) = true) (hr : CReps M w ρ' l vs) : CReps M w ρ l vs :=
  ⟨hr.1, fun j c x h1 h2 => cvIn_rep h (List.all_eq_true.1 hb c (List.mem_of_getElem? h1)) (hr.2 j c x h1 h2)⟩
theorem svIn_rep (h : ∀ k ∈ ks, ρ' k 0 = ρ k 0) : ∀ {s : SV} {x : Value}, svIn ks s = true → SRep M w ρ' s x → SRep M w ρ s x
  | .any, _, _, _ => trivial
  | .d _, _, _, hr => hr
  | .bx k g off, x, hb, ⟨y, b, h1, h2⟩ => ⟨y, b, by rw [← name_eq h hb]; exact h1, h2⟩
  | .ow k g, x, hb, hr => ⟨by rw [← name_eq h hb]; exact hr.1, hr.2⟩
  | .ifb p s, x, hb, hr => ⟨fun hp => svIn_rep h (s := s) hb (hr.1 hp), hr.2⟩
  | .fnb f a b, x, hb, ⟨us, vs, h1, h2, h3⟩ => by
    simp only [svIn, Bool.and_eq_true] at hb
    exact ⟨us, vs, h1, cvsIn_rep h hb.1 h2, cvsIn_rep h hb.2 h3⟩
  | .tp l, x, hb, ⟨vs, h1, h2⟩ => ⟨vs, h1, cvsIn_rep h hb h2⟩
  | .ag l, x, hb, ⟨vs, h1, h0, h2⟩ => ⟨vs, h1, h0, cvsIn_rep h hb h2⟩
  | .psl l, x, hb, ⟨b, o, cap, h1, h2, h3, h4⟩ => ⟨b, o, cap, h1, h2, h3, fun j c hj => by
      obtain ⟨k1, v, k2, k3, k4⟩ := h4 j c hj
      exact ⟨k1, v, k2, k3, cvIn_rep h (List.all_eq_true.1 hb c (List.mem_of_getElem? hj)) k4⟩⟩
  | .pc c, x, hb, ⟨b, o, v, h1, h2, h3, h4, h5⟩ => ⟨b, o, v, h1, h2, h3, h4, cvIn_rep h hb h5⟩
  | .ows k g n lo hi, x, hb, ⟨ad, len, c, a, h1, h2⟩ => ⟨ad, len, c, a, by rw [← name_eq h hb]; exact h1, h2⟩
  | .slc n rows, x, _, hr => hr
end
/-- An object that names some objects alone. -/
def aoIn (ks : List Nat) : AO → Prop
  | .box _ cs => cs.all (svIn ks) = true
  | .arr _ _ _ => True
  | .op I => ∀ (M : Nat → Prop) (w : World) (ρ ρ' : Rho) (h : Value), I.I M w ρ' h → I.I M w ρ h
def ObsIn (ks : List Nat) : Obs → Prop
  | [] => True
  | p :: r => aoIn ks p.2 ∧ ObsIn ks r
theorem ObsIn.get {ks : List Nat} : ∀ {obs : Obs}, ObsIn ks obs → ∀ p ∈ obs, aoIn ks p.2
  | [], _, p, h => by cases h
  | q :: r, h, p, hp => by
    rcases List.mem_cons.1 hp with rfl | hp
    · exact h.1
    · exact h.2.get p hp
theorem aoIn_rep {B : Base} {M : Nat → Prop} {w : World} {ρ ρ' : Rho} {ks : List Nat} (h : ∀ k ∈ ks, ρ' k 0 = ρ k 0) {o : AO} {x : Value} (hb : aoIn ks o) (hr : ORep B M w ρ' x o) : ORep B M w ρ x o := by
  cases o with
  | box T cs =>
    obtain ⟨b, vs, h1, h2, h3, h4, h5⟩ := hr
    exact ⟨b, vs, h1, h2, h3, h4, fun j s y hj hy => ⟨svIn_rep h (List.all_eq_true.1 hb s (List.mem_of_getElem? hj)) (h5 j s y hj hy).1, (h5 j s y hj hy).2⟩⟩
  | arr T n rows => exact hr
  | op I => exact ⟨hr.1, hb _ _ _ _ _ hr.2⟩
def gkB (obs : Obs) (pm : Pm) (res : SV) : Bool := (obs.all fun p => (lookR pm p.1).isSome) && nodupB (pm.map (·.2.1)) && nodupB (obs.map (·.1)) && svIn (obs.map (·.1)) res && (pm.all fun q => obs.any fun p => Nat.beq p.1 q.1) && nodupB (pm.map (·.1))
section
variable {P : Program} {st : ASt} {o : Oper}
/-- What a contract asks, of how objects stand. -/
theorem env_lent {B : Base} {M : Nat → Prop} {ρ : Rho} {w : World} (hev : Env M ρ st.ob) (h3 : ∀ k g ob, st.ob k = some (g, ob) → ∃ h, ρ k g = some h ∧ ORep B M w ρ h ob) {obs : Obs} {pm : Pm} (hl : Lent st ρ obs pm) (hd1 : nodupB (pm.map (·.2.1)) = true) :
    Objs ⟨w, fun _ => True, [], fun _ _ => none⟩ M w (pull (nmOf pm) ρ) obs ∧ (∀ b, fps (pull (nmOf pm) ρ) obs b → M b) ∧ Apart (pull (nmOf pm) ρ) obs ∧
    (∀ b, fps (pull (nmOf pm) ρ) obs b → ∃ k g ob h, st.ob k = some (g, ob) ∧ ρ k g = some h ∧ fpO ob h b ∧ ∃ p ∈ obs, ∃ g', (p.1, k, g') ∈ pm) := by
  refine ⟨fun p hp => ?_, fun b hb => ?_, fun p hp q hq h h' b h1 h2 h3 h4 => ?_, fun b hb => ?_⟩
  · obtain ⟨k, g, e, _, hob⟩ := hl.key hp
    obtain ⟨h, h1, h2⟩ := h3 k g _ hob
    refine ⟨h, by show ρ (nmOf pm p.1 0).1 (nmOf pm p.1 0).2 = _; rw [e]; exact h1, (ORep.ren.1 h2).base fun b _ => .inr trivial⟩
  · obtain ⟨p, hp, h, h1, h2⟩ := hb
    obtain ⟨k, g, e, _, hob⟩ := hl.key hp
    have h1' : ρ (nmOf pm p.1 0).1 (nmOf pm p.1 0).2 = some h := h1
    rw [e] at h1'
    exact hev.inM k g _ h b hob h1' (fpO.ren.2 h2)
  · obtain ⟨k, g, e, hm, hob⟩ := hl.key hp
    obtain ⟨k', g', e', hm', hob'⟩ := hl.key hq
    have h1' : ρ (nmOf pm p.1 0).1 (nmOf pm p.1 0).2 = some h := h1
    have h2' : ρ (nmOf pm q.1 0).1 (nmOf pm q.1 0).2 = some h' := h2
    rw [e] at h1'
    rw [e'] at h2'
    have hk := hev.apart k g _ k' g' _ h h' b hob hob' h1' h2' (fpO.ren.2 h3) (fpO.ren.2 h4)
    have := nodupB.inj hd1 _ hm _ hm' hk
    simp only [Prod.mk.injEq] at this
    exact this.1
  · obtain ⟨p, hp, h, h1, h2⟩ := hb
    obtain ⟨k, g, e, hm, hob⟩ := hl.key hp
    have h1' : ρ (nmOf pm p.1 0).1 (nmOf pm p.1 0).2 = some h := h1
    rw [e] at h1'
    exact ⟨k, g, _, h, hob, h1', fpO.ren.2 h2, p, hp, g, hm⟩
theorem fps_eq {ρ ρ' : Rho} {obs : Obs} (h : ∀ p ∈ obs, ρ' p.1 0 = ρ p.1 0) (b : Nat) : fps ρ' obs b ↔ fps ρ obs b :=
  ⟨fun ⟨p, hp, x, h1, h2⟩ => ⟨p, hp, x, by rw [← h p hp]; exact h1, h2⟩, fun ⟨p, hp, x, h1, h2⟩ => ⟨p, hp, x, by rw [h p hp]; exact h1, h2⟩⟩
/-- What a call leaves that leaves its objects as they were told. -/
theorem kn_out {B : Base} {M : Nat → Prop} {ρ : Rho} {w w' : World} (hev : Env M ρ st.ob) (h3 : ∀ k g ob, st.ob k = some (g, ob) → ∃ h, ρ k g = some h ∧ ORep B M w ρ h ob) {obs : Obs} {pm : Pm} {res : SV} {v : Value} (hpre : PreO st (nmOf pm) obs) (hB : gkB obs pm res = true) (hin : ObsIn (obs.map (·.1)) obs) (hx : ExtL ⟨w, fps (pull (nmOf pm) ρ) obs, [], fun _ _ => none⟩ w') (ho : GOut M w (pull (nmOf pm) ρ) obs w' obs res v) : Kn B M ρ st.ob w w' ∧ SRep M w' ρ (res.ren (nmOf pm)) v := by
  simp only [gkB, Bool.and_eq_true] at hB
  obtain ⟨⟨⟨⟨⟨hb1, hb2⟩, hb3⟩, hb4⟩, hb5⟩, hb6⟩ := hB
  have hlent : Lent st ρ obs pm := ⟨hpre, fun p hp => List.all_eq_true.1 hb1 p hp⟩
  obtain ⟨l1, l2, l3, l4⟩ := env_lent hev h3 hlent hb2
  obtain ⟨ρ', _, hsame, hobj, _, hres⟩ := ho
  have hks : ∀ k ∈ obs.map (·.1), ρ' k 0 = pull (nmOf pm) ρ k 0 := fun k hk => by
    obtain ⟨p, hp, rfl⟩ := List.mem_map.1 hk
    exact hsame p hp
  have hM : ∀ b, (M b ∨ fps ρ' obs b) → M b := fun b hb => hb.elim id fun h => l2 b ((fps_eq hsame b).1 h)
  have hkn : ∀ b, b < w.heap.size → ¬ fps (pull (nmOf pm) ρ) obs b → w'.heap[b]? = w.heap[b]? := fun b hb hn => hx.block b hb hn
  refine ⟨⟨hx.os, hx.tape, hx.output, hx.size, fun b hb hn => hkn b hb fun hf => ?_, fun k g ob h hk hh hO => ?_⟩, ?_⟩
  · obtain ⟨k, g, ob, h, k1, k2, k3, _⟩ := l4 b hf
    exact hn k g ob h k1 k2 k3
  · by_cases hin2 : ∃ p ∈ obs, (nmOf pm p.1 0).1 = k
    · obtain ⟨p, hp, hpk⟩ := hin2
      obtain ⟨k', g', e, hm, hob⟩ := hlent.key hp
      rw [e] at hpk
      simp only at hpk
      subst hpk
      rw [hk] at hob
      cases hob
      obtain ⟨h', h4, h5⟩ := hobj p hp
      have h6 : ρ' p.1 0 = ρ (nmOf pm p.1 0).1 (nmOf pm p.1 0).2 := hsame p hp
      rw [e, hh, h4] at h6
      cases h6
      have h7 := aoIn_rep (ρ := pull (nmOf pm) ρ) hks (hin.get p hp) h5
      refine (ORep.ren.2 (h7.mono (Known.sub fun c hc => .inl hc) fun _ _ => rfl)).base fun b hb => ?_
      exact (hO.blk_lt hb).1
    · refine hO.mono (fun b hb hm => ⟨hm, hkn b hb fun hf => hm (l2 b hf)⟩) fun b hb => hkn b (hO.blk_lt hb).2 fun hf => ?_
      obtain ⟨k2, g2, ob2, h2, j1, j2, j3, p, hp, g', hm⟩ := l4 b hf
      have hkk := hev.apart _ _ _ _ _ _ _ _ b j1 hk j2 hh j3 hb
      subst hkk
      obtain ⟨k', g'', e, hm', _⟩ := hlent.key hp
      refine hin2 ⟨p, hp, ?_⟩
      rw [e]
      have := nodupB.inj hb6 _ hm _ hm' rfl
      simp only [Prod.mk.injEq] at this
      exact this.2.1.symm
  · exact SRep.ren.2 ((svIn_rep (ρ := pull (nmOf pm) ρ) hks hb4 hres).mono (Known.sub fun b hb => .inl hb))
/-- A call that is lent objects and leaves them as they were told. -/
theorem Pu_gcall {f : FuncId} {ins : List SV} {obs : Obs} {res : SV} (pm : Pm) {xs : List Operand} {ts : Array TypeId} (hG : GCall P f ins obs (some (obs, res))) (hin : ObsIn (obs.map (·.1)) obs) (ho : o.op = .call ⟨.value (.func f), xs.toArray, ts⟩) (hpre : PreO st (nmOf pm) obs) (hB : gkB obs pm res = true) (ha : ArgsS st xs (ins.map (SV.ren (nmOf pm)))) : Pu P st o (res.ren (nmOf pm)) := fun B M ρ w a hM h2 h3 hev K hK => by
  have hB' := hB
  simp only [gkB, Bool.and_eq_true] at hB'
  obtain ⟨⟨⟨⟨⟨hb1, hb2⟩, _⟩, _⟩, _⟩, _⟩ := hB'
  have hlent : Lent st ρ obs pm := ⟨hpre, fun p hp => List.all_eq_true.1 hb1 p hp⟩
  obtain ⟨l1, l2, l3, _⟩ := env_lent hev h3 hlent hb2
  have hargs := ha.rep (a := a) fun x hx => h2 x (mem_call ho x (by simpa using hx))
  have hcall := hG.2 M w (pull (nmOf pm) ρ) (xs.map a.eval) hM (nmOf_bnd hev.bnd) hargs.ren l1 l2 l3
  have hrun : (execOp a.eval o).run P w = .ok (.enter f (xs.map a.eval).toArray) w := by
    simp only [execOp, ho, resolve, Act.eval, Deferred.ofValue, invoke, Sem.run_bind, Sem.run_pure, Result.andThen_ok]
    rw [hG.1]
    congr 2
    apply Array.ext'
    simp
  rw [hrun]
  refine hcall.mono fun e w' ⟨hx, v, he, hout⟩ => ⟨v, he, ?_⟩
  obtain ⟨k1, k2⟩ := kn_out hev h3 hpre hB hin hx hout
  exact hK v w' k1 k2
end
end Go.Proofs.YtmbaeloiepjakaaGreat.A
namespace Go.Proofs.YtmbaeloiepjakaaGreat.A
open Go Go.RowKit
section
variable {P : Program}
/-- Results: a variable of many cells, and two slots. -/
def ResN2 (r n r' r'' : Nat) (st : ASt) (res : AV) : Prop := ∃ k g off T cs rw a b, st.sl r = .bx k g off ∧ st.ob k = some (g, .box T cs) ∧ (cs.drop off).take n = rw.map .d ∧ rw.length = n ∧ Sub (st.sl r') (.d a) ∧ Sub (st.sl r'') (.d b) ∧ res = .tup [.row rw, a, b]
theorem out_cN2 {N : Nat} {M0 : Nat → Prop} {w0 : Base} {st : ASt} {ρ : Rho} {ac : Act} {w : World} {res : AV} {fn : Func} {r t n r' r'' : Nat} (h : fn.results = #[.cell r t, .tmp r', .tmp r'']) (ht : ∀ w, (isAgg t).run P w = .ok true w) (hz : ∀ w, (sizeOf t).run P w = .ok n w) (hs : SimR N M0 w0 st ρ ac w) (hr : ResN2 r n r' r'' st res) : ∃ v, (results fn ac.tmps).run P w = .ok v w ∧ Rep (Mt M0 ρ st.ob) w res v := by
  obtain ⟨k, g, off, T, cs, rw', a, b, h1, h2, h3, h4, h5, h5', h6⟩ := hr
  have hm := hs.slot r
  rw [h1] at hm
  obtain ⟨y, b', k1, k2, k3⟩ := hm
  obtain ⟨y', k4, hO⟩ := hs.obj k g _ h2
  rw [k1] at k4; cases k4
  obtain ⟨v, k5, k6⟩ := loadvarN ht hz hO k2 h3 h4
  refine ⟨.tuple #[v, ac.tmps.getD r' undef, ac.tmps.getD r'' undef], ?_, ?_⟩
  · have ha : (asAddr (ac.tmps.getD r undef)).run P w = .ok ⟨b', off, none⟩ w := by rw [k3]; rfl
    rw [Array.getD_eq_getD_getElem?] at ha
    simp [results, h, Sem.run_bind, ha, k5, Array.getD_eq_getD_getElem?]
  · rw [h6]
    exact .tup _ [_, _, _] rfl fun j c x h7 h8 => by
      match j with
      | 0 => simp at h7 h8; subst h7 h8; exact k6
      | 1 => simp at h7 h8; subst h7 h8; rw [← Array.getD_eq_getD_getElem?]; exact h5 _ _ _ _ (hs.slot r')
      | 2 => simp at h7 h8; subst h7 h8; rw [← Array.getD_eq_getD_getElem?]; exact h5' _ _ _ _ (hs.slot r'')
      | j + 3 => simp at h7
theorem Reads.cN2 {fn : Func} {r t n r' r'' : Nat} (h : fn.results = #[.cell r t, .tmp r', .tmp r'']) (ht : ∀ w, (isAgg t).run P w = .ok true w) (hz : ∀ w, (sizeOf t).run P w = .ok n w) : Reads P fn (ResN2 r n r' r'') := ⟨fun {N M0 w0 st ρ a w res} hs hr => by
  obtain ⟨v, h1, h2⟩ := out_cN2 h ht hz hs hr
  exact ⟨v, h1, h2.mono (Known.sub fun c hc => .inl hc)⟩⟩
def ResN2S (r n r' r'' : Nat) (st : ASt) (res : SV) : Prop := ∃ a, res = .d a ∧ ResN2 r n r' r'' st a
theorem ReadsS.cN2 {fn : Func} {r t n r' r'' : Nat} (h : fn.results = #[.cell r t, .tmp r', .tmp r'']) (ht : ∀ w, (isAgg t).run P w = .ok true w) (hz : ∀ w, (sizeOf t).run P w = .ok n w) : ReadsS P fn (ResN2S r n r' r'') := ⟨fun {N M0 w0 st ρ a w res} hs ⟨res', hres, hr⟩ => by
  subst hres
  exact out_cN2 h ht hz hs hr⟩
/-- Results of a call that is lent objects: a variable of many cells. -/
def ResNS (r n : Nat) (st : ASt) (res : SV) : Prop := ∃ a, res = .d a ∧ ResN r n st a
theorem ReadsS.cN {fn : Func} {r t n : Nat} (h : fn.results = #[.cell r t]) (ht : ∀ w, (isAgg t).run P w = .ok true w) (hz : ∀ w, (sizeOf t).run P w = .ok n w) : ReadsS P fn (ResNS r n) := ⟨fun {N M0 w0 st ρ a w res} hs ⟨res', hres, k, g, off, T, cs, rw', h1, h2, h3, h4, h6⟩ => by
  subst hres
  have hm := hs.slot r
  rw [h1] at hm
  obtain ⟨y, b', k1, k2, k3⟩ := hm
  obtain ⟨y', k4, hO⟩ := hs.obj k g _ h2
  rw [k1] at k4; cases k4
  obtain ⟨v, k5, k6⟩ := loadvarN ht hz hO k2 h3 h4
  refine ⟨v, ?_, ?_⟩
  · have ha : (asAddr (a.tmps.getD r undef)).run P w = .ok ⟨b', off, none⟩ w := by rw [k3]; rfl
    rw [Array.getD_eq_getD_getElem?] at ha
    simp [results, h, Sem.run_bind, ha, k5]
  · rw [h6]; exact k6⟩
end
end Go.Proofs.YtmbaeloiepjakaaGreat.A
namespace Go.Proofs.YtmbaeloiepjakaaGreat.A
open Go Go.RowKit
/-- A call that yields a row of its own, told as data. -/
theorem GCall.a {P : Program} {f : FuncId} {aa : List AV} {T : TypeId} {n k : Nat} {rows : List (List AV)} (h : GCall P f (aa.map .d) [] (some ([(k, .arr T n rows)], .ow k 0))) : ACall P f aa (.sl n rows) := by
  refine ⟨h.1, fun M w vs hM ha => ?_⟩
  have h1 := h.2 M w (fun _ _ => none) vs hM ⟨0, fun k g hh => (hh rfl).elim⟩ ⟨by rw [List.length_map]; exact ha.1, fun j s x h1 h2 => by
    rw [List.getElem?_map] at h1
    obtain ⟨a, h3, rfl⟩ := Option.map_eq_some_iff.1 h1
    exact ha.2 j a x h3 h2⟩ (fun p hp => by cases hp) (fun b ⟨p, hp, _⟩ => by cases hp) (fun p hp => by cases hp)
  refine h1.mono fun e w' ⟨hx, v, he, ρ', _, _, hobj, _, hres⟩ => ?_
  have hne : ∀ b, ¬ fps (fun _ _ => none) ([] : Obs) b := fun b ⟨p, hp, _⟩ => by cases hp
  refine ⟨v, he, ⟨hx.os, hx.tape, hx.output, hx.size, fun b hb => hx.block b hb (hne b)⟩, ?_⟩
  obtain ⟨y, h4, h5⟩ := hobj _ (List.mem_cons_self ..)
  have h6 : ρ' k 0 = some v := hres.1
  rw [h6] at h4; cases h4
  have hlt : ∀ b, blk v = some b → w.heap.size ≤ b := fun b hb => h5.arr_lt hne hb
  exact h5.frz (Known.sub fun b hb => .inl hb) fun b hb hm => by
    have := hlt b hb
    have := hM b hm
    omega
end Go.Proofs.YtmbaeloiepjakaaGreat.A
end

section
set_option maxRecDepth 100000
namespace Go.Proofs.YtmbaeloiepjakaaGreat
open Go.RowKit A R
open A.RowT
set_option maxRecDepth 100000 in
theorem indexD_a (l : List Dep) (f : FuncId) (caps : List AV) (p : Dep → Bool) (hf : ∀ x, ACall Tryz.prog f ([.row x.row] ++ caps) (bv (p x))) : ACall Tryz.prog 138 [.sl 3 (l.map Dep.row), .fn f caps] (iv (S.find p l)) := by
  refine ACall_enter (fun _ _ => by kernel_rfl) Tryz.func138 rfl Tryz.ntmps138 Tryz.results138 (Nat.le_of_ble_eq_true rfl) (fun hok M0 w0 hnl => ?_)
  have hlen := (hok _ (List.mem_cons_self ..)).len
  rw [List.length_map] at hlen
  refine Aw_seq (Aw_region ?_)
  refine Al_p Pu_mvr ?_
  refine Al_nil (Aw_seq (Aw_seq (Aw_region ?_)))
  refine Al_p Pu_mvl ?_
  refine Al_p (Pu_len rfl Tryz.underlying32 rfl (by first | exact List.length_map .. | exact rfl)) ?_
  refine Al_p Pu_mvl ?_
  refine Al_nil (Aw_block ?_)
  refine Aw_loopk (ι := Nat) [0, 1, 7] [] (fun k => [(8, .d (iv k))]) (fun k => []) (fun k => k ≤ l.length ∧ ∀ j (h : j < l.length), j < k → p l[j] = false) (fun k => l.length - k) (0) (⟨Nat.zero_le _, by intros; omega⟩) ⟨Sub.rfl, trivial⟩ trivial ?_
  rintro k ⟨hk0, hk2⟩
  refine Aw_seq (Aw_region ?_)
  refine Al_p (Pu_cmp rfl rfl rfl rfl) ?_
  refine Al_nil (Aw_seq ?_)
  refine Aw_cond rfl (fun h9 => ?_) (fun h9 => ?_)
  · (try simp only [decide_eq_true_eq, decide_eq_false_iff_not, Bool.and_eq_true, Bool.or_eq_true, Bool.and_eq_false_iff, Bool.or_eq_false_iff, Bool.not_eq_true', Bool.not_eq_false', beq_iff_eq, Bool.not_eq_eq_eq_not, Bool.not_true, Bool.not_false, List.length_map, Bool.and_true, Bool.and_false, Bool.false_and, Bool.true_and, Bool.or_false, Bool.false_or] at h9)
    have hk : k < l.length := by omega
    refine Aw_skip (Aw_seq (Aw_block (Aw_seq (Aw_region ?_))))
    refine Al_p Pu_mvl ?_
    refine Al_p Pu_mvr ?_
    refine Al_nil (Aw_seq (Aw_region ?_))
    refine Al_p Pu_mvl ?_
    refine Al_p Pu_mvl ?_
    refine Al_p Pu_mvl ?_
    refine Al_p (Pu_index rfl Tryz.underlying32 Tryz.sizeOf59 rfl rfl (rfl) (mapget hk)) ?_
    refine Al_p (Pu_loadN rfl Tryz.isAgg59 Tryz.sizeOf59 rfl (Nat.le_of_ble_eq_true rfl)) ?_
    refine Al_p (Pu_callv (aa := [(fun x => .row x.row) l[k]]) (caps := caps) (hf l[k]) rfl rfl ⟨Sub.rfl, trivial⟩) ?_
    refine Al_nil ?_
    refine Aw_cond rfl (fun h16 => ?_) (fun h16 => ?_)
    · skip
      refine Aw_seq (Aw_region ?_)
      refine Al_p Pu_mvl ?_
      refine Al_p Pu_mvr ?_
      refine Al_nil ?_
      refine Aw_ret ?_
      exact Sub.num (S.find_at hk h16 hk2) -- ret 0
    · skip
      have h16' : p l[k] = false := h16
      refine Aw_skip (Aw_region ?_)
      refine Al_p (Pu_add rfl rfl rfl (fun h1 h2 => by simp only [A.inI, A.maxI] at *; omega)) ?_
      refine Al_p Pu_mvl ?_
      refine Al_nil ?_
      exact ⟨k + 1, ⟨by omega, fun j hj hjk => by
        by_cases e : j = k
        · subst e; exact h16'
        · exact hk2 j hj (by omega)⟩, by omega, Le.ov ⟨Sub.num (by omega), trivial⟩ ⟨Sub.rfl, Sub.rfl, Sub.rfl, trivial⟩ trivial trivial⟩ -- loop 0 next.0
  · (try simp only [decide_eq_true_eq, decide_eq_false_iff_not, Bool.and_eq_true, Bool.or_eq_true, Bool.and_eq_false_iff, Bool.or_eq_false_iff, Bool.not_eq_true', Bool.not_eq_false', beq_iff_eq, Bool.not_eq_eq_eq_not, Bool.not_true, Bool.not_false, List.length_map, Bool.and_true, Bool.and_false, Bool.false_and, Bool.true_and, Bool.or_false, Bool.false_or] at h9)
    obtain rfl : k = l.length := by omega
    refine Aw_exit (Aw_seq (Aw_region ?_))
    refine Al_p Pu_mvr ?_
    refine Al_nil ?_
    refine Aw_ret ?_
    exact Sub.num (S.find_no hk2) -- ret 1
set_option maxRecDepth 100000 in
set_option maxHeartbeats 1000000 in
theorem delfuncD_g (l : List Dep) (f : FuncId) (caps : List AV) (p : Dep → Bool) (hf : ∀ x, ACall Tryz.prog f ([.row x.row] ++ caps) (bv (p x))) (hl : l.length ≤ 1000000) : GCall Tryz.prog 123 [.ow 1001 0, .d (.fn f caps)] [(1001, .arr 59 3 (l.map Dep.row))] (some ([(1002, .arr 59 3 ((l.filter fun x => !p x).map Dep.row))], .ow 1002 0)) := by
  refine GCall_enter (fun _ _ => by kernel_rfl) Tryz.func123 rfl Tryz.ntmps123 (ReadsS.r1 Tryz.results123) (Nat.le_of_ble_eq_true rfl) (fun hok hokB M0 w0 => ?_)
  have hu : ∀ (c : List Dep), ∀ r ∈ c.map Dep.row, r.length = 3 := fun c r hr => by obtain ⟨x, _, rfl⟩ := List.mem_map.1 hr; rfl
  refine Aw_seq (Aw_region ?_)
  refine Al_p Pu_mvr ?_
  refine Al_nil (Aw_seq (Aw_region ?_))
  refine Al_p Pu_mvl ?_
  refine Al_p Pu_mvl ?_
  refine Al_p (Pu_callR (indexD_a l f caps p hf) rfl rfl ⟨.inr ⟨1001, 0, _, _, _, rfl, rfl, rfl⟩, .inl Sub.rfl, trivial⟩) ?_
  refine Al_p Pu_mvr ?_
  refine Al_nil (Aw_seq (Aw_seq (Aw_region ?_)))
  refine Al_p Pu_mvl ?_
  refine Al_p (Pu_cmp rfl rfl rfl rfl) ?_
  refine Al_nil ?_
  refine Aw_cond rfl (fun h12 => ?_) (fun h12 => ?_)
  · (try simp only [decide_eq_true_eq, decide_eq_false_iff_not, Bool.and_eq_true, Bool.or_eq_true, Bool.and_eq_false_iff, Bool.or_eq_false_iff, Bool.not_eq_true', Bool.not_eq_false', beq_iff_eq, Bool.not_eq_eq_eq_not, Bool.not_true, Bool.not_false, List.length_map, Bool.and_true, Bool.and_false, Bool.false_and, Bool.true_and, Bool.or_false, Bool.false_or] at h12)
    have hno := S.find_neg h12
    refine Aw_seq (Aw_region ?_)
    refine Al_p Pu_mvl ?_
    refine Al_p Pu_mvr ?_
    refine Al_nil ?_
    refine Aw_ret ?_
    exact ⟨_, _, [(1002, 1001, 0)], rfl, Sub.rfl, ⟨obeq (by rw [hno]), trivial⟩, rfl⟩ -- ret 0
  · (try simp only [decide_eq_true_eq, decide_eq_false_iff_not, Bool.and_eq_true, Bool.or_eq_true, Bool.and_eq_false_iff, Bool.or_eq_false_iff, Bool.not_eq_true', Bool.not_eq_false', beq_iff_eq, Bool.not_eq_eq_eq_not, Bool.not_true, Bool.not_false, List.length_map, Bool.and_true, Bool.and_false, Bool.false_and, Bool.true_and, Bool.or_false, Bool.false_or] at h12)
    obtain ⟨i0, hi0, hfi, hpi, hbef⟩ := S.find_pos (p := p) (l := l) h12
    refine Aw_skip (Aw_seq (Aw_seq (Aw_region ?_)))
    refine Al_p Pu_mvl ?_
    refine Al_p (Pu_add rfl rfl rfl (fun h1 h2 => by simp only [A.inI, A.maxI] at *; omega)) ?_
    refine Al_p Pu_mvr ?_
    refine Al_nil (Aw_block ?_)
    refine Aw_loopk (ι := Nat × Nat × (List Dep)) [0, 1] [] (fun (i, j, c) => [(5, .d (iv i)), (6, .d (iv j))]) (fun (i, j, c) => [(1001, 0, .arr 59 3 (c.map Dep.row))]) (fun (i, j, c) => c.length = l.length ∧ i ≤ j ∧ j ≤ l.length ∧ c.take i = (l.take j).filter (fun x => !p x) ∧ c.drop j = l.drop j ∧ i < j) (fun (i, j, c) => l.length - j) (i0, i0 + 1, l) (⟨rfl, by omega, by omega, S.filter_first hi0 hpi hbef, rfl, by omega⟩) ⟨Sub.num hfi, Sub.num (by rw [hfi]; omega), trivial⟩ ⟨rfl, trivial⟩ ?_
    rintro ⟨i, j, c⟩ ⟨hcl, hij, hjl, hct, hcd, hij2⟩
    refine Aw_seq (Aw_seq (Aw_region ?_))
    refine Al_p Pu_mvl ?_
    refine Al_p Pu_mvl ?_
    refine Al_p (Pu_lenOw (m := l.length) rfl Tryz.underlying32 rfl rfl (by rw [List.length_map, hcl])) ?_
    refine Al_p (Pu_cmp rfl rfl rfl rfl) ?_
    refine Al_nil ?_
    refine Aw_cond rfl (fun h19 => ?_) (fun h19 => ?_)
    · (try simp only [decide_eq_true_eq, decide_eq_false_iff_not, Bool.and_eq_true, Bool.or_eq_true, Bool.and_eq_false_iff, Bool.or_eq_false_iff, Bool.not_eq_true', Bool.not_eq_false', beq_iff_eq, Bool.not_eq_eq_eq_not, Bool.not_true, Bool.not_false, List.length_map, Bool.and_true, Bool.and_false, Bool.false_and, Bool.true_and, Bool.or_false, Bool.false_or] at h19)
      have hj : j < l.length := by omega
      have hjc : j < (c.map Dep.row).length := by rw [List.length_map]; omega
      have hcj : c.getD j default = l[j] := S.drop_at hcd hj (by omega)
      have hrow := S.row_at (hu c) hjc
      rw [S.map_getD (by omega : j < c.length), hcj] at hrow
      have hset := S.flat_set (hu c) (x := Dep.row l[j]) (i := i) (by rw [List.length_map]; omega) rfl
      refine Aw_skip ?_
      -- join 0: live [0, 1, 5, 6], turned [5]
      refine Aw_seq (Aw_block (Aw_seq (Aw_region ?_)))
      refine Al_p Pu_mvl ?_
      refine Al_p Pu_mvl ?_
      refine Al_p (Pu_indexOw (j := j) rfl Tryz.underlying32 Tryz.sizeOf59 rfl rfl rfl rfl hjc) ?_
      refine Al_p (Pu_loadArrN rfl Tryz.isAgg59 Tryz.sizeOf59 rfl rfl hrow rfl) ?_
      refine Al_alloc rfl rfl rfl (by decide) Tryz.zeroValue59 rfl (by kernel_rfl) (fun g7 => ?_)
      refine Al_storeN rfl rfl rfl (by kernel_rfl) Tryz.isAgg59 Tryz.sizeOf59 rfl rfl rfl rfl (Nat.le_of_ble_eq_true rfl) ?_
      refine Al_nil (Aw_seq (Aw_region ?_))
      refine Al_p Pu_mvl ?_
      refine Al_p (Pu_loadbN (r := [_, _, _]) rfl Tryz.isAgg59 Tryz.sizeOf59 rfl rfl rfl rfl) ?_
      refine Al_p (Pu_callv (aa := [(fun x => .row x.row) l[j]]) (caps := caps) (hf l[j]) rfl rfl ⟨Sub.rfl, trivial⟩) ?_
      refine Al_p (Pu_not rfl rfl) ?_
      refine Al_nil ?_
      refine Aw_cond rfl (fun h29 => ?_) (fun h29 => ?_)
      · skip
        have hpj : p l[j] = false := by simpa using h29
        refine Aw_seq (Aw_region ?_)
        refine Al_p Pu_mvl ?_
        refine Al_p Pu_mvl ?_
        refine Al_p (Pu_loadbN (r := [_, _, _]) rfl Tryz.isAgg59 Tryz.sizeOf59 rfl rfl rfl rfl) ?_
        refine Al_p (Pu_indexOw (j := i) rfl Tryz.underlying32 Tryz.sizeOf59 rfl rfl rfl rfl (by rw [List.length_map]; omega)) ?_
        refine Al_storeArr ((c.map Dep.row).set i (Dep.row l[j])) rfl rfl rfl (by kernel_rfl) Tryz.sizeOf59 rfl rfl rfl rfl rfl (by rw [List.length_map]; omega) (by simp) (fun q hq => by rcases List.mem_or_eq_of_mem_set hq with h | rfl; exact hu c q h; rfl) hset ?_
        refine Al_nil (Aw_region ?_)
        refine Al_p Pu_mvl ?_
        refine Al_p (Pu_add rfl rfl rfl (fun h1 h2 => by simp only [A.inI, A.maxI] at *; omega)) ?_
        refine Al_p Pu_mvr ?_
        refine Al_nil (Aw_region ?_)
        refine Al_p Pu_mvl ?_
        refine Al_p (Pu_add rfl rfl rfl (fun h1 h2 => by simp only [A.inI, A.maxI] at *; omega)) ?_
        refine Al_p Pu_mvr ?_
        refine Al_nil ?_
        exact ⟨(i + 1, j + 1, c.set i l[j]), ⟨by rw [List.length_set, hcl], by omega, by omega, S.del_keep hj hct hpj (by omega), by rw [List.drop_set_of_lt (by omega), ← List.drop_drop, hcd, List.drop_drop], by omega⟩, by simp only []; omega, Le.ov ⟨Sub.num (by omega), Sub.num (by omega), trivial⟩ ⟨Sub.rfl, Sub.rfl, trivial⟩ ⟨obeq (by rw [List.map_set]), trivial⟩ trivial⟩ -- loop 0 next.0
      · skip
        have hpj : p l[j] = true := by simpa using h29
        refine Aw_skip (Aw_region ?_)
        refine Al_p Pu_mvl ?_
        refine Al_p (Pu_add rfl rfl rfl (fun h1 h2 => by simp only [A.inI, A.maxI] at *; omega)) ?_
        refine Al_p Pu_mvr ?_
        refine Al_nil ?_
        exact ⟨(i, j + 1, c), ⟨hcl, by omega, by omega, S.del_drop hj hct hpj, by rw [← List.drop_drop, hcd, List.drop_drop], by omega⟩, by simp only []; omega, Le.ov ⟨Sub.rfl, Sub.num (by omega), trivial⟩ ⟨Sub.rfl, Sub.rfl, trivial⟩ ⟨rfl, trivial⟩ trivial⟩ -- loop 0 next.1
    · (try simp only [decide_eq_true_eq, decide_eq_false_iff_not, Bool.and_eq_true, Bool.or_eq_true, Bool.and_eq_false_iff, Bool.or_eq_false_iff, Bool.not_eq_true', Bool.not_eq_false', beq_iff_eq, Bool.not_eq_eq_eq_not, Bool.not_true, Bool.not_false, List.length_map, Bool.and_true, Bool.and_false, Bool.false_and, Bool.true_and, Bool.or_false, Bool.false_or] at h19)
      obtain rfl : j = l.length := by omega
      rw [List.take_length] at hct
      have hfl : ∀ zz, ((c.map Dep.row).take i ++ List.replicate ((c.map Dep.row).length - i) zz).take i = (l.filter fun x => !p x).map Dep.row := fun zz => by
        rw [← hct, List.map_take, List.take_append_of_le_length (by simp; omega), List.take_take, Nat.min_self]
      refine Aw_exit (Aw_seq (Aw_region ?_))
      refine Al_p Pu_mvl ?_
      refine Al_p Pu_mvl ?_
      refine Al_p (Pu_sliceOw i (c.map Dep.row).length rfl Tryz.underlying32 Tryz.sizeOf59 rfl rfl ⟨_, rfl, rfl⟩ rfl ⟨by rw [List.length_map]; omega, .inl (Nat.le_refl _)⟩) ?_
      refine Al_clear0 rfl rfl rfl (by kernel_rfl) Tryz.underlying32 Tryz.zeroValue59 rfl (by decide) rfl (by decide) rfl rfl rfl ?_
      refine Al_nil (Aw_seq (Aw_region ?_))
      refine Al_p Pu_mvl ?_
      refine Al_p Pu_mvl ?_
      refine Al_cut i rfl rfl rfl (by decide) (by kernel_rfl) Tryz.underlying32 Tryz.sizeOf59 rfl rfl rfl ⟨_, rfl, rfl⟩ (by simp; omega) (fun g41 => ?_)
      refine Al_p Pu_mvr ?_
      refine Al_nil ?_
      refine Aw_ret ?_
      exact ⟨_, _, [(1002, 1001, g41)], rfl, Sub.rfl, ⟨obeq (hfl _), trivial⟩, rfl⟩ -- ret 1
namespace J
def only (p : List Dep) (own : List Rng) : List Dep := p.filter fun d => !decide (findR own d.key < 0)
def lacks (hv : List Dep) (d : Dep) : Bool := D.lessB (D.get hv d.key).1 (D.get hv d.key).2 d.n d.s
/-- What a version hangs on and is not there. -/
def misses (v : Ver) (hv : List Dep) (own : List Rng) : List Dep := (only v.past own).filter (lacks hv)
def ready (hv : List Dep) (own : List Rng) (v : Ver) : Bool := decide (((misses v hv own).length : Int) = 0)
/-- The place of the first one that need not wait. -/
def nextI (l : List Ver) (hv : List Dep) (own : List Rng) : Nat := l.findIdx (ready hv own)
def dropW (l : List Ver) (own : List Rng) : List Ver := l.filter fun v => !decide (findR own v.key < 0)
end J
theorem ponly1_a (own : List Rng) (d : Dep) (hl : own.length ≤ 1000000) : ACall Tryz.prog 139 [.row d.row, .fp [rngA own]] (bv (decide (findR own d.key < 0))) := by
  refine ACall_enter (fun _ _ => by kernel_rfl) Tryz.func139 rfl Tryz.ntmps139 Tryz.results139 (Nat.le_of_ble_eq_true rfl) (fun hok M0 w0 hnl => ?_)
  refine Aw_seq (Aw_region ?_)
  refine Al_p (Pu_boxN rfl rfl) ?_
  refine Al_p Pu_mvr ?_
  refine Al_nil (Aw_seq (Aw_region ?_))
  refine Al_p (Pu_load1 rfl Tryz.isAgg26 rfl rfl) ?_
  refine Al_p (Pu_field 0 rfl Tryz.underlying59 rfl rfl Tryz.sizeOf9 rfl) ?_
  refine Al_p (Pu_load1 rfl Tryz.isAgg9 rfl rfl) ?_
  refine Al_p (Pu_call (find_a own d.key hl) rfl ⟨Sub.rfl, Sub.rfl, trivial⟩) ?_
  refine Al_p (Pu_cmp rfl rfl rfl rfl) ?_
  refine Al_p Pu_mvr ?_
  refine Al_nil ?_
  refine Aw_ret ?_
  exact Sub.rfl -- ret 0
theorem ponly_g (p : List Dep) (own : List Rng) (hl : own.length ≤ 1000000) (hp : p.length ≤ 1000000) : GCall Tryz.prog 124 [.d (.sl 3 (p.map Dep.row)), .d (rngA own)] [] (some ([(1001, .arr 59 3 ((J.only p own).map Dep.row))], .ow 1001 0)) := by
  refine GCall_enter (fun _ _ => by kernel_rfl) Tryz.func124 rfl Tryz.ntmps124 (ReadsS.r1 Tryz.results124) (Nat.le_of_ble_eq_true rfl) (fun hok hokB M0 w0 => ?_)
  have hdel := delfuncD_g p 139 [.fp [rngA own]] (fun d => decide (findR own d.key < 0)) (fun d => ponly1_a own d hl) hp
  refine Aw_seq (Aw_region ?_)
  refine Al_p (Pu_box1 rfl rfl (by nofun) (by nofun)) ?_
  refine Al_p Pu_mvr ?_
  refine Al_nil (Aw_seq (Aw_region ?_))
  refine Al_p Pu_mvl ?_
  refine Al_gcall [] [(1001, 6)] (cloneD_g p hp) rfl rfl rfl (by decide) (by kernel_rfl) trivial rfl ⟨Sub.rfl, trivial⟩ (fun g6 => ?_)
  refine Al_p (Pu_makeFunc (caps := [_]) rfl ⟨Sub.rfl, trivial⟩) ?_
  refine Al_gcall [(1001, 6, g6)] [(1002, 8)] (hdel) rfl rfl rfl (by decide) (by kernel_rfl) ⟨rfl, trivial⟩ rfl ⟨Sub.rfl, Sub.rfl, trivial⟩ (fun g8 => ?_)
  refine Al_p Pu_mvr ?_
  refine Al_nil ?_
  refine Aw_ret ?_
  exact ⟨_, _, [(1001, 8, g8)], rfl, Sub.rfl, ⟨rfl, trivial⟩, rfl⟩ -- ret 0
theorem qmisses1_a (hv : List Dep) (d : Dep) (hs : D.Srt hv) (hl : hv.length ≤ 1000000) : ACall Tryz.prog 125 [.row d.row, .fp [.sl 3 (hv.map Dep.row)]] (bv (!J.lacks hv d)) := by
  refine ACall_enter (fun _ _ => by kernel_rfl) Tryz.func125 rfl Tryz.ntmps125 Tryz.results125 (Nat.le_of_ble_eq_true rfl) (fun hok M0 w0 hnl => ?_)
  refine Aw_seq (Aw_region ?_)
  refine Al_p (Pu_boxN rfl rfl) ?_
  refine Al_p Pu_mvr ?_
  refine Al_nil (Aw_seq ?_)
  refine Aw_draw 8 (by kernel_rfl) (by kernel_rfl) ?_
  refine Dr_p (Pu_load1 rfl Tryz.isAgg32 rfl rfl) ?_
  refine Dr_p (Pu_field 0 rfl Tryz.underlying59 rfl rfl Tryz.sizeOf9 rfl) ?_
  refine Dr_p (Pu_load1 rfl Tryz.isAgg9 rfl rfl) ?_
  refine Dr_p (Pu_call (pget_a hv d.key hs hl) rfl ⟨Sub.rfl, Sub.rfl, trivial⟩) ?_
  refine Dr_p (Pu_field 1 rfl Tryz.underlying59 rfl rfl Tryz.sizeOf31 rfl) ?_
  refine Dr_p (Pu_loadN rfl Tryz.isAgg31 Tryz.sizeOf31 rfl (Nat.le_of_ble_eq_true rfl)) ?_
  refine Dr_p (Pu_call (less_a _ _ _ _) rfl ⟨Sub.rfl, Sub.rfl, trivial⟩) ?_
  refine Dr_p (Pu_not rfl rfl) ?_
  refine Dr_nil ?_
  refine Al_p Pu_mvr ?_
  refine Al_nil ?_
  refine Aw_ret ?_
  exact Sub.rfl -- ret 0
theorem qmisses_g (v : Ver) (hv : List Dep) (own : List Rng) (hl : own.length ≤ 1000000) (hp : v.past.length ≤ 1000000) (hs : D.Srt hv) (hh : hv.length ≤ 1000000) : GCall Tryz.prog 110 [.d (.row v.row), .d (.sl 3 (hv.map Dep.row)), .d (rngA own)] [] (some ([(1001, .arr 59 3 ((J.misses v hv own).map Dep.row))], .ow 1001 0)) := by
  refine GCall_enter (fun _ _ => by kernel_rfl) Tryz.func110 rfl Tryz.ntmps110 (ReadsS.r1 Tryz.results110) (Nat.le_of_ble_eq_true rfl) (fun hok hokB M0 w0 => ?_)
  have hol : (J.only v.past own).length ≤ 1000000 := Nat.le_trans (List.length_filter_le ..) hp
  have hdel := delfuncD_g (J.only v.past own) 125 [.fp [.sl 3 (hv.map Dep.row)]] (fun d => !J.lacks hv d) (fun d => qmisses1_a hv d hs hh) hol
  refine Aw_seq (Aw_region ?_)
  refine Al_p (Pu_boxN rfl rfl) ?_
  refine Al_p (Pu_box1 rfl rfl (by nofun) (by nofun)) ?_
  refine Al_p Pu_mvr ?_
  refine Al_nil (Aw_seq (Aw_region ?_))
  refine Al_p (Pu_field 5 rfl Tryz.underlying34 rfl rfl Tryz.sizeOf32 rfl) ?_
  refine Al_p (Pu_load1 rfl Tryz.isAgg32 rfl rfl) ?_
  refine Al_p Pu_mvl ?_
  refine Al_gcall [] [(1001, 10)] (ponly_g v.past own hl hp) rfl rfl rfl (by decide) (by kernel_rfl) trivial rfl ⟨Sub.rfl, Sub.rfl, trivial⟩ (fun g10 => ?_)
  refine Al_p (Pu_makeFunc (caps := [_]) rfl ⟨Sub.rfl, trivial⟩) ?_
  refine Al_gcall [(1001, 10, g10)] [(1002, 12)] (hdel) rfl rfl rfl (by decide) (by kernel_rfl) ⟨rfl, trivial⟩ rfl ⟨Sub.rfl, Sub.rfl, trivial⟩ (fun g12 => ?_)
  refine Al_p Pu_mvr ?_
  refine Al_nil ?_
  refine Aw_ret ?_
  exact ⟨_, _, [(1001, 12, g12)], rfl, Sub.rfl, ⟨obeq (by unfold J.misses; simp only [Bool.not_not]), trivial⟩, rfl⟩ -- ret 0
theorem qcheck_a (v : Ver) (hv : List Dep) (own : List Rng) (hl : own.length ≤ 1000000) (hp : v.past.length ≤ 1000000) (hs : D.Srt hv) (hh : hv.length ≤ 1000000) : ACall Tryz.prog 86 [.row v.row, .sl 3 (hv.map Dep.row), rngA own] (bv (J.ready hv own v)) := by
  refine ACall_enter (fun _ _ => by kernel_rfl) Tryz.func86 rfl Tryz.ntmps86 Tryz.results86 (Nat.le_of_ble_eq_true rfl) (fun hok M0 w0 hnl => ?_)
  refine Aw_seq (Aw_region ?_)
  refine Al_p (Pu_boxN rfl rfl) ?_
  refine Al_p Pu_mvr ?_
  refine Al_nil (Aw_seq (Aw_region ?_))
  refine Al_p (Pu_loadN rfl Tryz.isAgg34 Tryz.sizeOf34 rfl (Nat.le_of_ble_eq_true rfl)) ?_
  refine Al_p Pu_mvl ?_
  refine Al_p Pu_mvl ?_
  refine Al_gcall [] [(1001, 10)] (qmisses_g v hv own hl hp hs hh) rfl rfl rfl (by decide) (by kernel_rfl) trivial rfl ⟨Sub.rfl, Sub.rfl, Sub.rfl, trivial⟩ (fun g10 => ?_)
  refine Al_p (Pu_lenOw rfl Tryz.underlying32 rfl rfl (List.length_map ..)) ?_
  refine Al_p (Pu_cmp rfl rfl rfl rfl) ?_
  refine Al_p Pu_mvr ?_
  refine Al_nil ?_
  refine Aw_ret ?_
  exact Sub.rfl -- ret 0
/-- What Push answers: the row, or that it may not. -/
def J.pushE (l : List Ver) (v : Ver) : Int := if J.checkB v then (if (24 : Int) ≤ l.length then 15 else 0) else 1
theorem qpush_a (l : List Ver) (v : Ver) (hp : l.length ≤ 1000000) : ACall Tryz.prog 47 [versA l, .row v.row] (.tup [versA (if J.pushE l v = 0 then l ++ [v] else []), iv (J.pushE l v)]) := by
  refine ACall_enter2 (fun _ _ => by kernel_rfl) Tryz.func47 rfl Tryz.ntmps47 Tryz.results47 (Nat.le_of_ble_eq_true rfl) (fun hok M0 w0 hnl => ?_)
  refine Aw_seq (Aw_region ?_)
  refine Al_p (Pu_boxN rfl rfl) ?_
  refine Al_p Pu_mvr ?_
  refine Al_p Pu_mvr ?_
  refine Al_nil (Aw_seq (Aw_block (Aw_seq (Aw_region ?_))))
  refine Al_p (Pu_loadN rfl Tryz.isAgg34 Tryz.sizeOf34 rfl (Nat.le_of_ble_eq_true rfl)) ?_
  refine Al_p (Pu_call (wcheck_a v) rfl ⟨Sub.rfl, trivial⟩) ?_
  refine Al_p (Pu_not rfl rfl) ?_
  refine Al_p Pu_mvr ?_
  refine Al_nil ?_
  refine Aw_cond rfl (fun h6 => ?_) (fun h6 => ?_)
  · (try simp only [decide_eq_true_eq, decide_eq_false_iff_not, Bool.and_eq_true, Bool.or_eq_true, Bool.and_eq_false_iff, Bool.or_eq_false_iff, Bool.not_eq_true', Bool.not_eq_false', beq_iff_eq, Bool.not_eq_eq_eq_not, Bool.not_true, Bool.not_false, List.length_map, Bool.and_true, Bool.and_false, Bool.false_and, Bool.true_and, Bool.or_false, Bool.false_or] at h6)
    have he : J.pushE l v = 1 := by
      unfold J.pushE
      rw [if_neg (by rw [Bool.not_eq_true]; simpa using h6)]
    refine Aw_seq (Aw_region ?_)
    refine Al_p Pu_mvr ?_
    refine Al_p Pu_mvr ?_
    refine Al_nil ?_
    refine Aw_ret ?_
    rw [he]; exact ⟨Sub.nil, Sub.rfl⟩ -- ret 0
  · (try simp only [decide_eq_true_eq, decide_eq_false_iff_not, Bool.and_eq_true, Bool.or_eq_true, Bool.and_eq_false_iff, Bool.or_eq_false_iff, Bool.not_eq_true', Bool.not_eq_false', beq_iff_eq, Bool.not_eq_eq_eq_not, Bool.not_true, Bool.not_false, List.length_map, Bool.and_true, Bool.and_false, Bool.false_and, Bool.true_and, Bool.or_false, Bool.false_or] at h6)
    refine Aw_seq (Aw_region ?_)
    refine Al_p Pu_mvl ?_
    refine Al_p (Pu_len rfl Tryz.underlying65 rfl (by first | exact List.length_map .. | exact rfl)) ?_
    refine Al_p (Pu_cmp rfl rfl rfl rfl) ?_
    refine Al_p Pu_mvr ?_
    refine Al_nil ?_
    refine Aw_cond rfl (fun h10 => ?_) (fun h10 => ?_)
    · (try simp only [decide_eq_true_eq, decide_eq_false_iff_not, Bool.and_eq_true, Bool.or_eq_true, Bool.and_eq_false_iff, Bool.or_eq_false_iff, Bool.not_eq_true', Bool.not_eq_false', beq_iff_eq, Bool.not_eq_eq_eq_not, Bool.not_true, Bool.not_false, List.length_map, Bool.and_true, Bool.and_false, Bool.false_and, Bool.true_and, Bool.or_false, Bool.false_or] at h10)
      have he : J.pushE l v = 15 := by
        unfold J.pushE
        rw [if_pos (by simpa using h6), if_pos (by simpa using h10)]
      refine Aw_seq (Aw_region ?_)
      refine Al_p Pu_mvr ?_
      refine Al_p Pu_mvr ?_
      refine Al_nil ?_
      refine Aw_ret ?_
      rw [he]; exact ⟨Sub.nil, Sub.rfl⟩ -- ret 1
    · (try simp only [decide_eq_true_eq, decide_eq_false_iff_not, Bool.and_eq_true, Bool.or_eq_true, Bool.and_eq_false_iff, Bool.or_eq_false_iff, Bool.not_eq_true', Bool.not_eq_false', beq_iff_eq, Bool.not_eq_eq_eq_not, Bool.not_true, Bool.not_false, List.length_map, Bool.and_true, Bool.and_false, Bool.false_and, Bool.true_and, Bool.or_false, Bool.false_or] at h10)
      have he : J.pushE l v = 0 := by
        unfold J.pushE
        rw [if_pos (by simpa using h6), if_neg (by simpa using h10)]
      refine Aw_skip (Aw_seq ?_)
      refine Aw_draw 8 (by kernel_rfl) (by kernel_rfl) ?_
      refine Dr_p Pu_mvl ?_
      refine Dr_p Pu_mvl ?_
      refine Dr_p (Pu_len rfl Tryz.underlying65 rfl (by first | exact List.length_map .. | exact rfl)) ?_
      refine Dr_p Pu_mvl ?_
      refine Dr_p (Pu_len rfl Tryz.underlying65 rfl (by first | exact List.length_map .. | exact rfl)) ?_
      refine Dr_p (Pu_sub3 l.length rfl Tryz.underlying65 Tryz.sizeOf34 rfl ⟨_, rfl, rfl⟩ ⟨_, rfl, rfl⟩ (by rw [List.length_map]; exact Nat.le_refl _)) ?_
      refine Dr_p (Pu_loadN rfl Tryz.isAgg34 Tryz.sizeOf34 rfl (Nat.le_of_ble_eq_true rfl)) ?_
      refine Dr_p (Pu_slice1 rfl Tryz.underlying65 Tryz.sizeOf34 Tryz.zeroValue34 rfl (by decide) (by decide) (by kernel_rfl) rfl rfl rfl) ?_
      refine Dr_nil ?_
      refine Al_p (Pu_appendC rfl elem65 (by decide) Tryz.sizeOf34 rfl rfl (by simp; omega) (by decide)) ?_
      refine Al_p Pu_mvr ?_
      refine Al_p Pu_mvr ?_
      refine Al_nil ?_
      refine Aw_ret ?_
      exact ⟨Sub.d (by rw [he, if_pos rfl]; show AV.sl 6 _ = AV.sl 6 ((l ++ [v]).map Ver.row); rw [List.map_append, List.take_of_length_le (by rw [List.length_map]; exact Nat.le_refl _)]; rfl), Sub.num he.symm⟩ -- ret 2
namespace J
theorem next_at {l : List Ver} {hv : List Dep} {own : List Rng} {k : Nat} (hk : k < l.length) (hr : ready hv own (l.getD k default) = true) (hno : ∀ j, j < k → ready hv own (l.getD j default) = false) : nextI l hv own = k ∧ l[nextI l hv own]? = some (l.getD k default) ∧ l.eraseIdx (nextI l hv own) = l.take k ++ l.drop (k + 1) := by
  have h1 : nextI l hv own = k := by
    unfold nextI
    rw [List.findIdx_eq hk]
    refine ⟨by rw [List.getD_eq_getElem?_getD, List.getElem?_eq_getElem hk] at hr; exact hr, fun j hj => ?_⟩
    have := hno j hj
    rw [List.getD_eq_getElem?_getD, List.getElem?_eq_getElem (by omega)] at this
    exact this
  refine ⟨h1, by rw [h1, List.getD_eq_getElem?_getD, List.getElem?_eq_getElem hk]; rfl, by rw [h1, List.eraseIdx_eq_take_drop_succ]⟩
theorem next_no {l : List Ver} {hv : List Dep} {own : List Rng} (hno : ∀ j, j < l.length → ready hv own (l.getD j default) = false) : l[nextI l hv own]? = none ∧ l.eraseIdx (nextI l hv own) = l := by
  have h1 : nextI l hv own = l.length := by
    unfold nextI
    rw [List.findIdx_eq_length]
    intro x hx
    obtain ⟨j, hj, rfl⟩ := List.getElem_of_mem hx
    have := hno j hj
    rw [List.getD_eq_getElem?_getD, List.getElem?_eq_getElem hj] at this
    exact this
  exact ⟨by rw [h1]; simp, by rw [h1, List.eraseIdx_of_length_le (Nat.le_refl _)]⟩
/-- The one that need not wait, whether there is one, and the others. -/
def nextV (l : List Ver) (hv : List Dep) (own : List Rng) : Option Ver := l[nextI l hv own]?
def nextL (l : List Ver) (hv : List Dep) (own : List Rng) : List Ver := l.eraseIdx (nextI l hv own)
end J
abbrev nextA (l : List Ver) (hv : List Dep) (own : List Rng) : AV := .tup [.row ((J.nextV l hv own).getD default).row, versA (J.nextL l hv own), bv (J.nextV l hv own).isSome]
set_option maxRecDepth 100000 in
theorem qnext_a (l : List Ver) (hv : List Dep) (own : List Rng) (hl : own.length ≤ 1000000) (hp : ∀ v ∈ l, v.past.length ≤ 1000000) (hs : D.Srt hv) (hh : hv.length ≤ 1000000) (hll : l.length ≤ 1000000) : ACall Tryz.prog 50 [versA l, .sl 3 (hv.map Dep.row), rngA own] (nextA l hv own) := by
  refine ACall_enterG (fun _ _ => by kernel_rfl) Tryz.func50 rfl Tryz.ntmps50 (Reads.cN2 Tryz.results50 Tryz.isAgg34 Tryz.sizeOf34) (Nat.le_of_ble_eq_true rfl) (fun hok M0 w0 hnl => ?_)
  refine Aw_seq (Aw_region ?_)
  refine Al_alloc rfl rfl rfl (by decide) Tryz.zeroValue34 rfl (by kernel_rfl) (fun g6 => ?_)
  refine Al_p Pu_mvr ?_
  refine Al_p Pu_mvr ?_
  refine Al_nil (Aw_scope (Aw_seq (Aw_label (Aw_seq (Aw_seq (Aw_region ?_))))))
  refine Al_p Pu_mvl ?_
  refine Al_p (Pu_len rfl Tryz.underlying65 rfl (by first | exact List.length_map .. | exact rfl)) ?_
  refine Al_p Pu_mvl ?_
  refine Al_nil (Aw_block ?_)
  refine Aw_loopk (ι := Nat) [0, 1, 2, 6, 11, 12] [6] (fun k => [(13, .d (iv k))]) (fun k => []) (fun k => k ≤ l.length ∧ ∀ j, j < k → J.ready hv own (l.getD j default) = false) (fun k => l.length - k) (0) (⟨Nat.zero_le _, fun j hj => absurd hj (Nat.not_lt_zero _)⟩) ⟨Sub.rfl, trivial⟩ trivial ?_
  rintro k ⟨hk0, hno⟩
  refine Aw_seq (Aw_region ?_)
  refine Al_p (Pu_cmp rfl rfl rfl rfl) ?_
  refine Al_nil (Aw_seq ?_)
  refine Aw_cond rfl (fun h14 => ?_) (fun h14 => ?_)
  · (try simp only [decide_eq_true_eq, decide_eq_false_iff_not, Bool.and_eq_true, Bool.or_eq_true, Bool.and_eq_false_iff, Bool.or_eq_false_iff, Bool.not_eq_true', Bool.not_eq_false', beq_iff_eq, Bool.not_eq_eq_eq_not, Bool.not_true, Bool.not_false, List.length_map, Bool.and_true, Bool.and_false, Bool.false_and, Bool.true_and, Bool.or_false, Bool.false_or] at h14)
    have hk : k < l.length := by omega
    have hmem : l.getD k default ∈ l := by rw [List.getD_eq_getElem?_getD, List.getElem?_eq_getElem hk]; exact List.getElem_mem hk
    refine Aw_skip (Aw_seq (Aw_block (Aw_seq (Aw_region ?_))))
    refine Al_p Pu_mvl ?_
    refine Al_p (Pu_index rfl Tryz.underlying65 Tryz.sizeOf34 rfl rfl (rfl) (mapgetD (d := default) hk)) ?_
    refine Al_p (Pu_loadN rfl Tryz.isAgg34 Tryz.sizeOf34 rfl (Nat.le_of_ble_eq_true rfl)) ?_
    refine Al_alloc rfl rfl rfl (by decide) Tryz.zeroValue34 rfl (by kernel_rfl) (fun g10 => ?_)
    refine Al_p Pu_mvr ?_
    refine Al_storeN rfl rfl rfl (by kernel_rfl) Tryz.isAgg34 Tryz.sizeOf34 rfl rfl rfl rfl (Nat.le_of_ble_eq_true rfl) ?_
    refine Al_nil (Aw_seq (Aw_seq (Aw_region ?_)))
    refine Al_p (Pu_loadbN (r := [_, _, _, _, _, _]) rfl Tryz.isAgg34 Tryz.sizeOf34 rfl rfl rfl rfl) ?_
    refine Al_p Pu_mvl ?_
    refine Al_p Pu_mvl ?_
    refine Al_p (Pu_call (qcheck_a (l.getD k default) hv own hl (hp _ hmem) hs hh) rfl ⟨Sub.rfl, Sub.rfl, Sub.rfl, trivial⟩) ?_
    refine Al_p (Pu_not rfl rfl) ?_
    refine Al_nil ?_
    refine Aw_cond rfl (fun h22 => ?_) (fun h22 => ?_)
    · (try simp only [decide_eq_true_eq, decide_eq_false_iff_not, Bool.and_eq_true, Bool.or_eq_true, Bool.and_eq_false_iff, Bool.or_eq_false_iff, Bool.not_eq_true', Bool.not_eq_false', beq_iff_eq, Bool.not_eq_eq_eq_not, Bool.not_true, Bool.not_false, List.length_map, Bool.and_true, Bool.and_false, Bool.false_and, Bool.true_and, Bool.or_false, Bool.false_or] at h22)
      refine Aw_exit (Aw_region ?_)
      refine Al_p (Pu_add rfl rfl rfl (fun h1 h2 => by simp only [A.inI, A.maxI] at *; omega)) ?_
      refine Al_p Pu_mvl ?_
      refine Al_nil ?_
      exact ⟨k + 1, ⟨by omega, fun j hj => by
        rcases Nat.lt_succ_iff_lt_or_eq.1 hj with h | rfl
        · exact hno j h
        · exact h22⟩, by omega, Le.ov ⟨Sub.num (by omega), trivial⟩ ⟨Sub.rfl, Sub.rfl, Sub.rfl, Sub.rfl, Sub.rfl, Sub.rfl, trivial⟩ trivial ⟨rfl, trivial⟩⟩ -- loop 0 next.0
    · (try simp only [decide_eq_true_eq, decide_eq_false_iff_not, Bool.and_eq_true, Bool.or_eq_true, Bool.and_eq_false_iff, Bool.or_eq_false_iff, Bool.not_eq_true', Bool.not_eq_false', beq_iff_eq, Bool.not_eq_eq_eq_not, Bool.not_true, Bool.not_false, List.length_map, Bool.and_true, Bool.and_false, Bool.false_and, Bool.true_and, Bool.or_false, Bool.false_or] at h22)
      obtain ⟨e1, e2, e3⟩ := J.next_at hk h22 hno
      refine Aw_skip (Aw_seq ?_)
      refine Aw_draw 10 (by kernel_rfl) (by kernel_rfl) ?_
      refine Dr_p (Pu_loadbN (r := [_, _, _, _, _, _]) rfl Tryz.isAgg34 Tryz.sizeOf34 rfl rfl rfl rfl) ?_
      refine Dr_p Pu_mvl ?_
      refine Dr_p Pu_mvl ?_
      refine Dr_p Pu_mvl ?_
      refine Dr_p (Pu_sub3 k rfl Tryz.underlying65 Tryz.sizeOf34 rfl ⟨_, rfl, rfl⟩ ⟨_, rfl, rfl⟩ (by rw [List.length_map]; omega)) ?_
      refine Dr_p Pu_mvl ?_
      refine Dr_p Pu_mvl ?_
      refine Dr_p (Pu_add rfl rfl rfl (fun h1 h2 => by simp only [A.inI, A.maxI] at *; omega)) ?_
      refine Dr_p (Pu_subL (k + 1) (l.length) rfl Tryz.underlying65 Tryz.sizeOf34 rfl ⟨_, rfl, rfl⟩ ((List.length_map ..).symm) ⟨by first | omega | (rw [List.length_map]; omega), by first | omega | (rw [List.length_map]; omega)⟩) ?_
      refine Dr_p (Pu_appendC rfl elem65 (by decide) Tryz.sizeOf34 rfl rfl (by simp; omega) (by decide)) ?_
      refine Dr_nil ?_
      refine Al_storeN rfl rfl rfl (by kernel_rfl) Tryz.isAgg34 Tryz.sizeOf34 rfl rfl rfl rfl (Nat.le_of_ble_eq_true rfl) ?_
      refine Al_p Pu_mvr ?_
      refine Al_p Pu_mvr ?_
      refine Al_nil ?_
      refine Aw_ret ?_
      exact ⟨_, _, _, _, _, [_, _, _, _, _, _], versA (l.take k ++ l.drop (k + 1)), _, rfl, rfl, rfl, rfl, Sub.d (by
        have h1 : (l.map Ver.row).take l.length = l.map Ver.row := List.take_of_length_le (by simp)
        show AV.sl 6 _ = AV.sl 6 _
        rw [List.map_append, List.map_take, List.map_drop, h1]), Sub.rfl, by unfold nextA J.nextV J.nextL; rw [e2, e3]; rfl⟩ -- ret 0
  · (try simp only [decide_eq_true_eq, decide_eq_false_iff_not, Bool.and_eq_true, Bool.or_eq_true, Bool.and_eq_false_iff, Bool.or_eq_false_iff, Bool.not_eq_true', Bool.not_eq_false', beq_iff_eq, Bool.not_eq_eq_eq_not, Bool.not_true, Bool.not_false, List.length_map, Bool.and_true, Bool.and_false, Bool.false_and, Bool.true_and, Bool.or_false, Bool.false_or] at h14)
    obtain ⟨e2, e3⟩ := J.next_no (l := l) (hv := hv) (own := own) fun j hj => hno j (by omega)
    refine Aw_exit (Aw_seq (Aw_region ?_))
    refine Al_p (Pu_build (aa := []) rfl Tryz.underlying34 Tryz.zeroValue34 (places34 Tryz.underlying34) (by kernel_rfl) trivial rfl) ?_
    refine Al_p Pu_mvl ?_
    refine Al_storeN rfl rfl rfl (by kernel_rfl) Tryz.isAgg34 Tryz.sizeOf34 rfl rfl rfl rfl (Nat.le_of_ble_eq_true rfl) ?_
    refine Al_p Pu_mvr ?_
    refine Al_p Pu_mvr ?_
    refine Al_nil ?_
    refine Aw_boxle (k := 6) ((default : Ver).row.map .d) rfl ⟨Sub.rfl, Sub.rfl, Sub.rfl, Sub.rfl, Sub.rfl, Sub.nil, trivial⟩ ?_
    refine Aw_ret ?_
    exact ⟨_, _, _, _, _, [_, _, _, _, _, _], versA l, _, rfl, rfl, rfl, rfl, Sub.rfl, Sub.rfl, by unfold nextA J.nextV J.nextL; rw [e2, e3]; rfl⟩ -- ret 1
end Go.Proofs.YtmbaeloiepjakaaGreat
end

section
namespace Go.Proofs.YtmbaeloiepjakaaGreat.A
open Go Go.RowKit
abbrev byteA (bs : List UInt8) : List (List AV) := colA (fun c : UInt8 => Value.int .u8 c.toNat) bs
section
variable {P : Program} {N : Nat} {M0 : Nat → Prop} {w0 : Base} {ops : Array Oper} {Q : Exit → ASt → Prop} {o : Oper} {l : List Oper} {st : ASt}
theorem byteA_at {bs : List UInt8} {i : Nat} (hi : i < bs.length) : (byteA bs)[i]? = some [.v (.int .u8 bs[i].toNat)] := by simp [byteA, colA, hi]
theorem byteA_len (bs : List UInt8) : (byteA bs).length = bs.length := by simp [byteA, colA]
theorem Pu_convBS {f t e : TypeId} {x : Operand} {bs : List UInt8} (ho : o.op = .convert f t x) (hf : P.underlying f = some (.slice e)) (he : P.underlying e = some (.int .u8)) (ht : P.underlying t = some .string) (hx : st.ev x = .d (.sl 1 (byteA bs))) : Pu P st o (.d (tv (V.ba bs))) := Pu_q fun B M ρ w a h2 _ => by
  have hm := h2 x (by simp [opsOf, ho, Op.operands])
  rw [hx] at hm
  have key : ∃ v, (convert f t (a.eval x)).run P w = .ok (.string (V.ba bs)) w ∧ bs.length ≤ maxI ∧ v = a.eval x := by
    have hm' : Rep M w (.sl 1 (byteA bs)) (a.eval x) := hm
    generalize a.eval x = y at hm'
    generalize hbl : byteA bs = rows at hm'
    have hlen : rows.length = bs.length := by rw [← hbl, byteA_len]
    cases hm' with
    | nil n a c =>
      have h0 : bs = [] := List.eq_nil_of_length_eq_zero (by simpa using hlen.symm)
      subst h0
      refine ⟨_, ?_, by simp, rfl⟩
      cases a with
      | none => exact run_convert_bytes_nil w f e hf he 0 c t ht
      | some a => exact run_convert_bytes_back w f t e a c [] hf he ht (fun j hj => by simp at hj)
    | sl n rows b o' cap g hl hcap hn hc hr =>
      refine ⟨_, ?_, by omega, rfl⟩
      have h := run_convert_bytes_back (P := P) w f t e ⟨b, o', none⟩ cap bs hf he ht (fun j hj => by
        have hat : rows[j]? = some [.v (.int .u8 bs[j].toNat)] := by rw [← hbl]; exact byteA_at hj
        obtain ⟨_, h5, _⟩ := hc j _ 0 _ hat rfl
        have h6 := hr j _ 0 _ hat rfl
        have h7 := (rep_v (ρ := fun _ _ => none) (show SRep M w (fun _ _ => none) (.d (.v (.int .u8 bs[j].toNat))) (g j 0) from h6)).1
        rw [h7] at h5
        rw [add_addr]
        rw [show o' + j * 1 + 0 = o' + j from by omega] at h5
        exact h5)
      rw [hlen]; exact h
  obtain ⟨v, h3, h4, _⟩ := key
  refine ⟨.string (V.ba bs), ?_, .v _ (by show (V.ba bs).size ≤ maxI; rw [A.ba_sz]; exact h4)⟩
  simp only [execOp, ho, Sem.run_bind, h3, Result.andThen_ok, Sem.run_pure]
end
end Go.Proofs.YtmbaeloiepjakaaGreat.A
end

section
set_option maxRecDepth 100000
namespace Go.Proofs.YtmbaeloiepjakaaGreat
open Go.RowKit A R
open A.RowT
namespace J
def andI (x m : Int) : Int := IntKind.i64.wrap (BitVec.ofInt 64 x &&& BitVec.ofInt 64 m).toNat
theorem andI_le (x : Int) (m : Nat) (hm : m < 1000) : 0 ≤ andI x m ∧ andI x m ≤ m := by
  unfold andI
  have h1 : (BitVec.ofInt 64 x &&& BitVec.ofInt 64 (m : Int)).toNat ≤ m := by
    rw [BitVec.toNat_and]
    refine Nat.le_trans Nat.and_le_right ?_
    rw [BitVec.toNat_ofInt]
    omega
  generalize (BitVec.ofInt 64 x &&& BitVec.ofInt 64 (m : Int)).toNat = z at h1
  rw [IntKind.wrap_i64]
  omega
theorem wrapI64 {x : Int} (h : A.inI x) : IntKind.i64.wrap x = x := A.wrapI h
/-- One byte of a text. -/
def byte1 (z : Int) : ByteArray := V.ba [UInt8.ofNat z.toNat]
def word (n : Int) : ByteArray := byte1 (97 + 3 * andI n 7)
def ranges (n : Int) : List Rng := if andI n 3 = 0 then [⟨⟨#[]⟩, ⟨#[]⟩⟩] else if andI n 3 = 1 then [⟨⟨#[]⟩, ⟨#[106]⟩⟩] else if andI n 3 = 2 then [⟨⟨#[100]⟩, ⟨#[109]⟩⟩, ⟨⟨#[115]⟩, ⟨#[]⟩⟩] else []
theorem ranges_len (n : Int) : (ranges n).length ≤ 2 := by unfold ranges; split <;> (try split) <;> (try split) <;> simp
theorem u8_wrap {z : Int} (h : 0 ≤ z ∧ z ≤ 255) : IntKind.u8.wrap z = ((UInt8.ofNat z.toNat).toNat : Int) := by
  have h1 : IntKind.u8.wrap z = z := by
    unfold IntKind.wrap
    simp [IntKind.bits, IntKind.signed]
    omega
  rw [h1]
  have : (UInt8.ofNat z.toNat).toNat = z.toNat := by
    rw [UInt8.toNat_ofNat']
    omega
  rw [this]; omega
end J
structure HOp where
  kind : Int
  key : Int
  n : Int
  site : Int
  raw : Bool
  v : Ver
  pin : Dep
def HOp.row (o : HOp) : List AV := [iv o.kind, iv o.key, iv o.n, iv o.site, bv o.raw, tv o.v.key, tv o.v.value, bv o.v.gone, iv o.v.n, iv o.v.s, .sl 3 (o.v.past.map Dep.row), tv o.pin.key, iv o.pin.n, iv o.pin.s]
instance : Inhabited HOp := ⟨⟨0, 0, 0, 0, false, default, default⟩⟩
namespace J
/-- The version that a step means. -/
def ver (o : HOp) : Ver := if o.raw then { o.v with past := [], value := S.short o.v.value } else ⟨word o.key, byte1 (97 + andI o.n 15), false, 1 + andI o.n 15, andI o.site 3, []⟩
end J
end Go.Proofs.YtmbaeloiepjakaaGreat
end

section
set_option maxRecDepth 100000
namespace Go.Proofs.YtmbaeloiepjakaaGreat
open Go.RowKit A R
open A.RowT
namespace J
theorem Sm.mono {m m' : Nat} {cs : SC} (h : Sm m cs) (hm : m ≤ m') : Sm m' cs := ⟨Nat.le_trans h.1 hm, fun p hp => ⟨Nat.le_trans (h.2 p hp).1 hm, (h.2 p hp).2⟩⟩
theorem sm_nil (m : Nat) : Sm m [] := ⟨Nat.zero_le _, fun p hp => by cases hp⟩
theorem rise_nil : RiseC [] := .nil
def exR : List Rng := [⟨⟨#[]⟩, ⟨#[109]⟩⟩]
def exA : Ver := ⟨⟨#[97]⟩, ⟨#[]⟩, false, 1, 0, []⟩
def exZ : Ver := ⟨⟨#[122]⟩, ⟨#[]⟩, false, 1, 0, []⟩
theorem ex1 : (sput exR [] exA).2 = true := by decide +kernel
theorem ex2 : (sput exR (sput exR [] exA).1 exZ).2 = false := by decide +kernel
end J
namespace J
theorem findR_all (key : ByteArray) : ¬ findR (ranges 0) key < 0 := by
  have h : ranges 0 = [⟨⟨#[]⟩, ⟨#[]⟩⟩] := by unfold ranges; rw [if_pos (by decide +kernel)]
  have h2 : ∀ x : List UInt8, Op.bytesLess x [] = false := fun x => by cases x <;> rfl
  rw [h]
  unfold findR idxF
  simp [K.hasB, h2]
theorem getC_set {cs : SC} (h : RiseC cs) (k : ByteArray) (l : List Ver) (c : ByteArray) : getC (setC cs k l) c = if c = k then l else getC cs c := by
  unfold getC
  rw [look_set cs k l c h]
  split <;> rfl
theorem sput_some {rs : List Rng} {cs : SC} {v : Ver} (h : (sput rs cs v).2 = true) : ∃ l, ¬ findR rs v.key < 0 ∧ put (getC cs v.key) v = some l ∧ sput rs cs v = (setC cs v.key l, true) := by
  by_cases hf : findR rs v.key < 0
  · unfold sput at h; rw [if_pos hf] at h; cases h
  · cases hl : put (getC cs v.key) v with
    | none => unfold sput at h; rw [if_neg hf, hl] at h; cases h
    | some l => exact ⟨l, hf, rfl, by unfold sput; rw [if_neg hf, hl]⟩
theorem sput_no {rs : List Rng} {cs : SC} {v : Ver} (h : (sput rs cs v).2 = false) : (sput rs cs v).1 = cs := by
  unfold sput at h ⊢
  split
  · rfl
  · rename_i hf
    rw [if_neg hf] at h
    split
    · rename_i l hl
      rw [hl] at h; cases h
    · rfl
end J
end Go.Proofs.YtmbaeloiepjakaaGreat
end

section
namespace Go.Proofs.YtmbaeloiepjakaaGreat
open Go.RowKit A R
open A.RowT
namespace J
theorem smove_sub (cs : SC) (rs : List Rng) : (smove cs rs).Sublist cs := List.filter_sublist ..
theorem smove_sm {m : Nat} {cs : SC} (h : Sm m cs) (rs : List Rng) : Sm m (smove cs rs) := ⟨Nat.le_trans (smove_sub cs rs).length_le h.1, fun p hp => h.2 p ((smove_sub cs rs).subset hp)⟩
theorem smove_rise {cs : SC} (h : RiseC cs) (rs : List Rng) : RiseC (smove cs rs) := rise_sub h (smove_sub cs rs)
end J
end Go.Proofs.YtmbaeloiepjakaaGreat
end

section
namespace Go.Proofs.YtmbaeloiepjakaaGreat
open Go.RowKit A R
open A.RowT
namespace J
/-- What is kept is owned, and something. -/
structure Own (m : Nat) (rs : List Rng) (cs : SC) : Prop where
  rise : RiseC cs
  sm : Sm m cs
  own : ∀ p ∈ cs, ¬ findR rs p.1 < 0 ∧ p.2 ≠ []
theorem own_nil (rs : List Rng) : Own 0 rs [] := ⟨rise_nil, sm_nil 0, fun p hp => by cases hp⟩
theorem Own.mono {m m' : Nat} {rs : List Rng} {cs : SC} (h : Own m rs cs) (hm : m ≤ m') : Own m' rs cs := ⟨h.rise, h.sm.mono hm, h.own⟩
theorem own_put {m : Nat} {rs : List Rng} {cs : SC} (h : Own m rs cs) (v : Ver) : Own (m + 1) rs (sput rs cs v).1 := by
  refine ⟨sput_rise h.rise v, sput_sm h.sm v, fun p hp => ?_⟩
  cases hb : (sput rs cs v).2 with
  | false => rw [sput_no hb] at hp; exact h.own p hp
  | true =>
    obtain ⟨l, hf, hl, he⟩ := sput_some hb
    rw [he] at hp
    rcases mem_setC _ _ _ _ hp with rfl | hp
    · refine ⟨hf, fun e => ?_⟩
      have := put_len hl
      have e : l = [] := e
      rw [e] at this; simp at this
    · exact h.own p hp
theorem head_last {l : List Ver} (h : l ≠ []) : head l = some (l.getLast h) := by
  have hp : 0 < l.length := List.length_pos_iff.2 h
  unfold head
  have h1 : ((l.length : Int) - 1) = ((l.length - 1 : Nat) : Int) := by omega
  rw [h1, told_at (by omega), List.getLast_eq_getElem]
theorem head_keeps {l : List Ver} (h : l ≠ []) (n s : Int) (pins : List (Int × Int)) : keeps l n s pins (l.getLast h) = true := by
  unfold keeps isO
  rw [head_last h]
  simp
theorem clean_ne {l : List Ver} (h : l ≠ []) (n s : Int) (pins : List (Int × Int)) : clean l n s pins ≠ [] := by
  intro e
  have : l.getLast h ∈ clean l n s pins := List.mem_filter.2 ⟨List.getLast_mem h, head_keeps h n s pins⟩
  rw [e] at this; cases this
theorem sclean_keys (cs : SC) (n s : Int) (pins : List Dep) : (sclean cs n s pins).map (·.1) = cs.map (·.1) := by
  unfold sclean; rw [List.map_map]; rfl
theorem sclean_rise {cs : SC} (h : RiseC cs) (n s : Int) (pins : List Dep) : RiseC (sclean cs n s pins) := by unfold RiseC; rw [sclean_keys]; exact h
theorem sclean_sm {m : Nat} {cs : SC} (h : Sm m cs) (n s : Int) (pins : List Dep) : Sm m (sclean cs n s pins) := by
  refine ⟨by unfold sclean; rw [List.length_map]; exact h.1, fun p hp => ?_⟩
  obtain ⟨q, hq, rfl⟩ := List.mem_map.1 hp
  exact ⟨Nat.le_trans (List.length_filter_le ..) (h.2 q hq).1, (h.2 q hq).2⟩
theorem own_clean {m : Nat} {rs : List Rng} {cs : SC} (h : Own m rs cs) (n s : Int) (pins : List Dep) : Own m rs (sclean cs n s pins) := by
  refine ⟨sclean_rise h.rise n s pins, sclean_sm h.sm n s pins, fun p hp => ?_⟩
  obtain ⟨q, hq, rfl⟩ := List.mem_map.1 hp
  exact ⟨(h.own q hq).1, clean_ne (h.own q hq).2 _ _ _⟩
theorem Own.at {m : Nat} {rs : List Rng} {cs : SC} (h : Own m rs cs) {k : Nat} (hk : k < (keysC cs).length) : ¬ findR rs ((keysC cs).getD k default) < 0 ∧ (shead cs ((keysC cs).getD k default)).isSome = true ∧ (have' cs).getD k default = ⟨(keysC cs).getD k default, ((shead cs ((keysC cs).getD k default)).getD default).n, ((shead cs ((keysC cs).getD k default)).getD default).s⟩ := by
  have hk' : k < cs.length := by unfold keysC at hk; simpa using hk
  have hg := keys_at cs hk'
  have ho := h.own _ (List.getElem_mem hk')
  have hl : getC cs cs[k].1 = cs[k].2 := by unfold getC; rw [look_mem h.rise (List.getElem_mem hk')]; rfl
  refine ⟨by rw [hg]; exact ho.1, ?_, ?_⟩
  · unfold shead
    rw [hg, hl, head_last ho.2]; rfl
  · unfold have'
    rw [List.getD_eq_getElem?_getD, List.getElem?_map, List.getElem?_eq_getElem hk, show (keysC cs).getD k default = (keysC cs)[k] from by simp [hk]]
    rfl
theorem have_len (cs : SC) : (have' cs).length = (keysC cs).length := by unfold have'; simp
end J
end Go.Proofs.YtmbaeloiepjakaaGreat
end

section
namespace Go.Proofs.YtmbaeloiepjakaaGreat
open Go.RowKit A R
open A.RowT
namespace J
theorem less_asymm {a b c d : Int} (h : D.lessB a b c d = true) : D.lessB c d a b = false := by
  unfold D.lessB at h ⊢
  split at h <;> split <;> simp_all <;> omega
/-- A shard that has just some versions, in their order. -/
structure Cont (cs : SC) (L : List Ver) : Prop where
  rise : RiseC cs
  at' : ∀ c, look cs c = if L.filter (fun v => decide (v.key = c)) = [] then none else some (L.filter fun v => decide (v.key = c))
theorem Cont.get {cs : SC} {L : List Ver} (h : Cont cs L) (c : ByteArray) : getC cs c = L.filter fun v => decide (v.key = c) := by
  unfold getC
  rw [h.at' c]
  split
  · rename_i e; rw [e]; rfl
  · rfl
end J
end Go.Proofs.YtmbaeloiepjakaaGreat
end

section
namespace Go.Proofs.YtmbaeloiepjakaaGreat
open Go.RowKit A R
open A.RowT
namespace J
abbrev LessV (x y : Ver) : Prop := D.lessB x.n x.s y.n y.s = true
/-- A chain that rises. -/
def Chn (l : List Ver) : Prop := l.Pairwise LessV
/-- All chains rise. -/
def Chns (cs : SC) : Prop := ∀ p ∈ cs, Chn p.2
theorem Chns.get {cs : SC} (h : Chns cs) (k : ByteArray) : Chn (getC cs k) := by
  unfold getC
  cases hl : look cs k with
  | none => exact .nil
  | some l => exact h _ (mem_look hl)
theorem look_map (f : ByteArray → List Ver → List Ver) : ∀ (cs : SC) (k : ByteArray), look (cs.map fun p => (p.1, f p.1 p.2)) k = (look cs k).map (f k)
  | [], k => rfl
  | p :: r, k => by
    rw [List.map_cons, look_cons, look_cons, look_map f r k]
    by_cases h : p.1 = k
    · rw [if_pos h, if_pos h, h]; rfl
    · rw [if_neg h, if_neg h]
theorem getC_clean (cs : SC) (n s : Int) (pins : List Dep) (k : ByteArray) : getC (sclean cs n s pins) k = clean (getC cs k) n s (pinsOf pins k) := by
  unfold getC sclean
  rw [look_map (fun k l => clean l n s (pinsOf pins k))]
  cases look cs k <;> rfl
theorem head_snoc (a : List Ver) (x : Ver) : head (a ++ [x]) = some x := by
  rw [head_last (by simp : a ++ [x] ≠ [])]
  simp
theorem head_clean {l : List Ver} (h : l ≠ []) (n s : Int) (pins : List (Int × Int)) : head (clean l n s pins) = head l := by
  have hk := head_keeps h n s pins
  have e : l = l.dropLast ++ [l.getLast h] := (List.dropLast_concat_getLast h).symm
  have : clean l n s pins = (l.dropLast.filter (keeps l n s pins)) ++ [l.getLast h] := by
    unfold clean
    conv => lhs; arg 2; rw [e]
    rw [List.filter_append, List.filter_cons, hk]; rfl
  rw [this, head_snoc, head_last h]
theorem have_clean {m : Nat} {rs : List Rng} {cs : SC} (h : Own m rs cs) (n s : Int) (pins : List Dep) : have' (sclean cs n s pins) = have' cs := by
  have hk : keysC (sclean cs n s pins) = keysC cs := sclean_keys ..
  unfold have'
  rw [hk]
  refine List.map_congr_left fun k hk => ?_
  obtain ⟨p, hp, rfl⟩ := List.mem_map.1 hk
  have hl : getC cs p.1 = p.2 := by unfold getC; rw [look_mem h.rise hp]; rfl
  have : shead (sclean cs n s pins) p.1 = shead cs p.1 := by
    unfold shead
    rw [getC_clean, hl, head_clean (h.own p hp).2]
  rw [this]
end J
end Go.Proofs.YtmbaeloiepjakaaGreat
end

section
set_option maxRecDepth 100000
namespace Go.Proofs.YtmbaeloiepjakaaGreat
open Go.RowKit A R
open A.RowT
set_option maxRecDepth 100000 in
theorem containsV_a (l : List Ver) (f : FuncId) (caps : List AV) (p : Ver → Bool) (hf : ∀ x, ACall Tryz.prog f ([.row x.row] ++ caps) (bv (p x))) : ACall Tryz.prog 81 [.sl 6 (l.map Ver.row), .fn f caps] (bv (l.any p)) := by
  refine ACall_enter (fun _ _ => by kernel_rfl) Tryz.func81 rfl Tryz.ntmps81 Tryz.results81 (Nat.le_of_ble_eq_true rfl) (fun hok M0 w0 hnl => ?_)
  refine Aw_seq (Aw_region ?_)
  refine Al_p Pu_mvr ?_
  refine Al_nil (Aw_seq (Aw_region ?_))
  refine Al_p Pu_mvl ?_
  refine Al_p Pu_mvl ?_
  refine Al_p (Pu_call (indexV_a l f caps p hf) rfl ⟨Sub.rfl, Sub.rfl, trivial⟩) ?_
  refine Al_p (Pu_cmp rfl rfl rfl rfl) ?_
  refine Al_p Pu_mvr ?_
  refine Al_nil ?_
  refine Aw_ret ?_
  exact Sub.bool S.find_any -- ret 0
structure PS where
  id : Int
  wait : List Ver
  n : Int
  s : Int
  rs : List Rng
  cs : SC
/-- A site: its shard, its number, what waits, its clock. -/
abbrev ST (p : PS) (b : Nat) : Obs := [(1001, .box 84 [.bx 1002 0 0, .d (iv p.id), .d (versA p.wait), .d (iv p.n), .d (iv p.s)]), (1002, .box 115 [.d (rngA p.rs), .ow 1003 0]), (1003, mapV b p.cs)]
theorem SH_in (rs : List Rng) (cs : SC) (b : Nat) : ObsIn [1001, 1002] (SH rs cs b) := ⟨rfl, fun _ _ _ _ _ h => h, trivial⟩
theorem ST_in (p : PS) (b : Nat) : ObsIn [1001, 1002, 1003] (ST p b) := ⟨rfl, rfl, fun _ _ _ _ _ h => h, trivial⟩
/-- The greater one of two stamps. -/
def mx (a b : Int × Int) : Int × Int := D.maxS [a, b]
namespace J
def nextE (n : Int) : Int := if 1099511627776 ≤ n then 18 else 0
def nextR (n k : Int) : Int × Int := if 1099511627776 ≤ n then (0, 0) else (max n 0 + 1, k)
theorem have_srt {cs : SC} (h : RiseC cs) : D.Srt (have' cs) := by
  unfold have' D.Srt
  rw [List.pairwise_map]
  exact h
theorem hav_len (cs : SC) : (have' cs).length = cs.length := by unfold have' keysC; simp
theorem past_len {v : Ver} (h : checkB v = true) : v.past.length ≤ 24 := by
  unfold checkB at h
  simp only [Bool.and_eq_true] at h
  exact (past_good h.2.2.1).2
end J
namespace PS
structure Ok (p : PS) (m : Nat) : Prop where
  rise : J.RiseC p.cs
  sm : J.Sm m p.cs
  wl : p.wait.length ≤ 24
  wp : ∀ v ∈ p.wait, J.checkB v = true
  rl : p.rs.length ≤ 1000000
  id : 0 ≤ p.id ∧ p.id < 6
theorem Ok.mono {p : PS} {m m' : Nat} (h : p.Ok m) (hm : m ≤ m') : p.Ok m' := ⟨h.rise, h.sm.mono hm, h.wl, h.wp, h.rl, h.id⟩
def seen (p : PS) (past : List Dep) : Int × Int := past.foldl (fun x d => mx x (d.n, d.s)) (p.n, p.s)
def made (p : PS) (key value : ByteArray) (gone : Bool) (past : List Dep) : Ver := ⟨key, value, gone, max (p.seen past).1 0 + 1, p.id, past⟩
/-- What a write answers. -/
def writeE (p : PS) (key value : ByteArray) (gone : Bool) (past : List Dep) : Int :=
  if findR p.rs key < 0 then 14 else if 1099511627776 ≤ (p.seen past).1 then 18 else if J.checkB (p.made key value gone past) then 0 else 1
def writeP (p : PS) (key value : ByteArray) (gone : Bool) (past : List Dep) : PS :=
  { p with cs := (J.sput p.rs p.cs (p.made key value gone past)).1, n := max (p.seen past).1 0 + 1, s := p.id }
def write (p : PS) (key value : ByteArray) (gone : Bool) (past : List Dep) : PS := if p.writeE key value gone past = 0 then p.writeP key value gone past else p
def writeV (p : PS) (key value : ByteArray) (gone : Bool) (past : List Dep) : Ver := if p.writeE key value gone past = 0 then p.made key value gone past else default
def isW (v w : Ver) : Bool := (w.key.toList == v.key.toList) && ((w.n == v.n) && (w.s == v.s))
def there (p : PS) (v : Ver) : Bool := (J.sat p.cs v.key v.n v.s).isSome || p.wait.any (isW v)
def arriveE (p : PS) (v : Ver) : Int :=
  if J.checkB v = false then 1 else if findR p.rs v.key < 0 then 0 else if p.there v then 13 else J.pushE p.wait v
def clockP (p : PS) (v : Ver) : PS := { p with n := (mx (p.n, p.s) (v.n, v.s)).1, s := (mx (p.n, p.s) (v.n, v.s)).2 }
def arrive (p : PS) (v : Ver) : PS := if p.arriveE v = 0 then (if findR p.rs v.key < 0 then p else { p with wait := p.wait ++ [v] }).clockP v else p
def stepV (p : PS) : Option Ver := J.nextV p.wait (J.have' p.cs) p.rs
def step (p : PS) : PS := match p.stepV with
  | some v => { p with wait := J.nextL p.wait (J.have' p.cs) p.rs, cs := (J.sput p.rs p.cs v).1 }
  | none => p
def readE (p : PS) (key : ByteArray) : Int := if findR p.rs key < 0 then 14 else 0
def readV (p : PS) (key : ByteArray) : Option Ver := if findR p.rs key < 0 then none else J.shead p.cs key
def clean (p : PS) (n s : Int) (pins : List Dep) : PS := { p with cs := J.sclean p.cs n s pins }
def take1 (p : PS) (v : Ver) : PS := ({ p with cs := (J.sput p.rs p.cs v).1 } : PS).clockP v
def moved (p : PS) (rs : List Rng) : PS := { p with rs := rs, cs := J.smove p.cs rs, wait := J.dropW p.wait rs }
def move (p : PS) (rs : List Rng) (l : List Ver) : PS := l.foldl take1 (p.moved rs)
end PS
/-- A zero site. -/
def PS.zero (k : Int) (rs : List Rng) : PS := ⟨k, [], 0, 0, rs, []⟩
theorem snextG_a (n s k : Int) (hk : 0 ≤ k ∧ k < 6) : ACall Tryz.prog 54 [.row [iv n, iv s], iv k] (.tup [.row [iv (J.nextR n k).1, iv (J.nextR n k).2], iv (J.nextE n)]) := by
  refine ACall_enterG (fun _ _ => by kernel_rfl) Tryz.func54 rfl Tryz.ntmps54 (Reads.cN1 Tryz.results54 Tryz.isAgg31 Tryz.sizeOf31) (Nat.le_of_ble_eq_true rfl) (fun hok M0 w0 hnl => ?_)
  refine Aw_seq (Aw_region ?_)
  refine Al_p (Pu_boxN rfl rfl) ?_
  refine Al_alloc rfl rfl rfl (by decide) Tryz.zeroValue31 rfl (by kernel_rfl) (fun g4 => ?_)
  refine Al_p Pu_mvr ?_
  refine Al_nil (Aw_seq (Aw_block (Aw_seq (Aw_region ?_))))
  refine Al_p Pu_mvl ?_
  refine Al_p (Pu_cmp rfl rfl rfl rfl) ?_
  refine Al_p Pu_mvl ?_
  refine Al_st (St_gd [] rfl rfl rfl rfl trivial (fun hg10 => by exact Pu_move (.inl rfl) (by conv => lhs; whnf))) rfl (by decide) (by kernel_rfl) (by intro j b oj dj h1 h2 h3; cases h1; cases h2; cases h3; decide) ?_
  refine Al_st (St_gd [10] rfl rfl rfl rfl ⟨⟨_, rfl⟩, trivial⟩ (fun hg11 => Pu_cmp rfl rfl rfl rfl)) rfl (by decide) (by kernel_rfl) (by intro j b oj dj h1 h2 h3; cases h1; cases h2; cases h3; decide) ?_
  refine Al_p (Pu_or rfl rfl rfl rfl) ?_
  refine Al_p Pu_mvr ?_
  refine Al_nil ?_
  refine Aw_cond rfl (fun h6 => ?_) (fun h6 => ?_)
  · (try simp only [decide_eq_true_eq, decide_eq_false_iff_not, Bool.and_eq_true, Bool.or_eq_true, Bool.and_eq_false_iff, Bool.or_eq_false_iff, Bool.not_eq_true', Bool.not_eq_false', beq_iff_eq, Bool.not_eq_eq_eq_not, Bool.not_true, Bool.not_false, List.length_map, Bool.and_true, Bool.and_false, Bool.false_and, Bool.true_and, Bool.or_false, Bool.false_or] at h6)
    exfalso
    omega
  · (try simp only [decide_eq_true_eq, decide_eq_false_iff_not, Bool.and_eq_true, Bool.or_eq_true, Bool.and_eq_false_iff, Bool.or_eq_false_iff, Bool.not_eq_true', Bool.not_eq_false', beq_iff_eq, Bool.not_eq_eq_eq_not, Bool.not_true, Bool.not_false, List.length_map, Bool.and_true, Bool.and_false, Bool.false_and, Bool.true_and, Bool.or_false, Bool.false_or] at h6)
    refine Aw_seq (Aw_region ?_)
    refine Al_p (Pu_field 0 rfl Tryz.underlying31 rfl rfl Tryz.sizeOf3 rfl) ?_
    refine Al_p (Pu_load1 rfl Tryz.isAgg3 rfl rfl) ?_
    refine Al_p (Pu_cmp rfl rfl rfl rfl) ?_
    refine Al_p Pu_mvr ?_
    refine Al_nil ?_
    refine Aw_cond rfl (fun h14 => ?_) (fun h14 => ?_)
    · (try simp only [decide_eq_true_eq, decide_eq_false_iff_not, Bool.and_eq_true, Bool.or_eq_true, Bool.and_eq_false_iff, Bool.or_eq_false_iff, Bool.not_eq_true', Bool.not_eq_false', beq_iff_eq, Bool.not_eq_eq_eq_not, Bool.not_true, Bool.not_false, List.length_map, Bool.and_true, Bool.and_false, Bool.false_and, Bool.true_and, Bool.or_false, Bool.false_or] at h14)
      have e1 : J.nextE n = 18 := by unfold J.nextE; rw [if_pos h14]
      have e2 : J.nextR n k = (0, 0) := by unfold J.nextR; rw [if_pos h14]
      refine Aw_seq (Aw_region ?_)
      refine Al_p (Pu_build (aa := []) rfl Tryz.underlying31 Tryz.zeroValue31 (places31 Tryz.underlying31) (by kernel_rfl) trivial rfl) ?_
      refine Al_storeN rfl rfl rfl (by kernel_rfl) Tryz.isAgg31 Tryz.sizeOf31 rfl rfl rfl rfl (Nat.le_of_ble_eq_true rfl) ?_
      refine Al_p Pu_mvr ?_
      refine Al_nil ?_
      refine Aw_ret ?_
      exact ⟨_, _, _, _, _, [_, _], _, rfl, rfl, rfl, rfl, Sub.rfl, by rw [e1, e2]⟩ -- ret 0
    · (try simp only [decide_eq_true_eq, decide_eq_false_iff_not, Bool.and_eq_true, Bool.or_eq_true, Bool.and_eq_false_iff, Bool.or_eq_false_iff, Bool.not_eq_true', Bool.not_eq_false', beq_iff_eq, Bool.not_eq_eq_eq_not, Bool.not_true, Bool.not_false, List.length_map, Bool.and_true, Bool.and_false, Bool.false_and, Bool.true_and, Bool.or_false, Bool.false_or] at h14)
      have e1 : J.nextE n = 0 := by unfold J.nextE; rw [if_neg h14]
      have e2 : J.nextR n k = (max n 0 + 1, k) := by unfold J.nextR; rw [if_neg h14]
      refine Aw_skip (Aw_seq (Aw_region ?_))
      refine Al_p (Pu_field 0 rfl Tryz.underlying31 rfl rfl Tryz.sizeOf3 rfl) ?_
      refine Al_p (Pu_load1 rfl Tryz.isAgg3 rfl rfl) ?_
      refine Al_p (Pu_max2 (c := max n 0) rfl rfl rfl (by rw [Int.max_def]; split <;> split <;> omega)) ?_
      refine Al_p (Pu_add rfl rfl rfl (fun h1 h2 => by simp only [A.inI, A.maxI] at *; omega)) ?_
      refine Al_p Pu_mvl ?_
      refine Al_p (Pu_build (aa := [(0, _), (1, _)]) rfl Tryz.underlying31 Tryz.zeroValue31 (places31 Tryz.underlying31) (by kernel_rfl) ⟨rfl, rfl, rfl, rfl, rfl, rfl, trivial⟩ rfl) ?_
      refine Al_storeN rfl rfl rfl (by kernel_rfl) Tryz.isAgg31 Tryz.sizeOf31 rfl rfl rfl rfl (Nat.le_of_ble_eq_true rfl) ?_
      refine Al_p Pu_mvr ?_
      refine Al_nil ?_
      refine Aw_ret ?_
      exact ⟨_, _, _, _, _, [_, _], _, rfl, rfl, rfl, rfl, Sub.rfl, by rw [e1, e2]⟩ -- ret 1
theorem kput_g (rs : List Rng) (cs : SC) (b : Nat) (v : Ver) (hrl : rs.length ≤ 1000000) (hr : J.RiseC cs) (hs : J.Sm 1000 cs) : GCall Tryz.prog 51 [.ag [.bx 1001 0 0], .d (.row v.row)] (SH rs cs b) (some (SH rs (J.sput rs cs v).1 b, .d (bv (J.sput rs cs v).2))) := by
  refine GCall_enterL (fun _ _ => by kernel_rfl) Tryz.func51 rfl Tryz.ntmps51 (ReadsS.r1 Tryz.results51) (Nat.le_of_ble_eq_true rfl) (fun hok hokB M0 w0 hl => ?_)
  refine Aw_seq (Aw_region ?_)
  refine Al_boxAg rfl rfl rfl (by decide) (by kernel_rfl) rfl (fun g2 => ?_)
  refine Al_p (Pu_boxN rfl rfl) ?_
  refine Al_p Pu_mvr ?_
  refine Al_nil (Aw_seq (Aw_region ?_))
  refine Al_p (Pu_fieldb 0 rfl Tryz.underlying82 rfl rfl Tryz.sizeOf79 rfl) ?_
  refine Al_p (Pu_loadb rfl Tryz.isAgg79 rfl rfl rfl) ?_
  refine Al_p (Pu_loadN rfl Tryz.isAgg34 Tryz.sizeOf34 rfl (Nat.le_of_ble_eq_true rfl)) ?_
  refine Al_gcall [(1001, 1001, 0), (1002, 1002, 0)] [] (sput_g rs cs b v hrl hr hs) rfl rfl rfl (by decide) (by kernel_rfl) ⟨rfl, rfl, trivial⟩ rfl ⟨Sub.rfl, Sub.rfl, trivial⟩ (fun g8 => ?_)
  refine Al_p Pu_mvr ?_
  refine Al_nil ?_
  refine Aw_ret ?_
  exact ⟨_, _, [], rfl, Sub.rfl, ⟨rfl, rfl, trivial⟩, rfl⟩ -- ret 0
theorem khead_g (rs : List Rng) (cs : SC) (b : Nat) (key : ByteArray) (hs : J.Sm 1000 cs) : GCall Tryz.prog 53 [.ag [.bx 1001 0 0], .d (tv key)] (SH rs cs b) (some (SH rs cs b, .d (verA (J.shead cs key)))) := by
  refine GCall_enterL (fun _ _ => by kernel_rfl) Tryz.func53 rfl Tryz.ntmps53 (ReadsS.cN1 Tryz.results53 Tryz.isAgg34 Tryz.sizeOf34) (Nat.le_of_ble_eq_true rfl) (fun hok hokB M0 w0 hl => ?_)
  refine Aw_seq (Aw_region ?_)
  refine Al_boxAg rfl rfl rfl (by decide) (by kernel_rfl) rfl (fun g2 => ?_)
  refine Al_alloc rfl rfl rfl (by decide) Tryz.zeroValue34 rfl (by kernel_rfl) (fun g4 => ?_)
  refine Al_p Pu_mvr ?_
  refine Al_nil (Aw_seq (Aw_region ?_))
  refine Al_p (Pu_fieldb 0 rfl Tryz.underlying82 rfl rfl Tryz.sizeOf79 rfl) ?_
  refine Al_p (Pu_loadb rfl Tryz.isAgg79 rfl rfl rfl) ?_
  refine Al_p Pu_mvl ?_
  refine Al_p (Pu_gcall [(1001, 1001, 0), (1002, 1002, 0)] (shead_g rs cs b key hs) (SH_in ..) rfl ⟨rfl, rfl, trivial⟩ rfl ⟨Sub.rfl, Sub.rfl, trivial⟩) ?_
  refine Al_p (Pu_extract rfl rfl rfl) ?_
  refine Al_p (Pu_extract rfl rfl rfl) ?_
  refine Al_storeN rfl rfl rfl (by kernel_rfl) Tryz.isAgg34 Tryz.sizeOf34 rfl rfl rfl rfl (Nat.le_of_ble_eq_true rfl) ?_
  refine Al_p Pu_mvr ?_
  refine Al_nil ?_
  refine Aw_ret ?_
  exact ⟨_, _, [], rfl, ⟨_, rfl, _, _, _, _, _, [_, _, _, _, _, _], _, rfl, rfl, rfl, rfl, Sub.rfl, rfl⟩, ⟨rfl, rfl, trivial⟩, rfl⟩ -- ret 0
theorem kat_g (rs : List Rng) (cs : SC) (b : Nat) (key : ByteArray) (n s : Int) (hs : J.Sm 1000 cs) : GCall Tryz.prog 80 [.ag [.bx 1001 0 0], .d (tv key), .d (.row [iv n, iv s])] (SH rs cs b) (some (SH rs cs b, .d (verA (J.sat cs key n s)))) := by
  refine GCall_enterL (fun _ _ => by kernel_rfl) Tryz.func80 rfl Tryz.ntmps80 (ReadsS.cN1 Tryz.results80 Tryz.isAgg34 Tryz.sizeOf34) (Nat.le_of_ble_eq_true rfl) (fun hok hokB M0 w0 hl => ?_)
  refine Aw_seq (Aw_region ?_)
  refine Al_boxAg rfl rfl rfl (by decide) (by kernel_rfl) rfl (fun g3 => ?_)
  refine Al_p (Pu_boxN rfl rfl) ?_
  refine Al_alloc rfl rfl rfl (by decide) Tryz.zeroValue34 rfl (by kernel_rfl) (fun g6 => ?_)
  refine Al_p Pu_mvr ?_
  refine Al_nil (Aw_seq (Aw_region ?_))
  refine Al_p (Pu_fieldb 0 rfl Tryz.underlying82 rfl rfl Tryz.sizeOf79 rfl) ?_
  refine Al_p (Pu_loadb rfl Tryz.isAgg79 rfl rfl rfl) ?_
  refine Al_p Pu_mvl ?_
  refine Al_p (Pu_loadN rfl Tryz.isAgg31 Tryz.sizeOf31 rfl (Nat.le_of_ble_eq_true rfl)) ?_
  refine Al_p (Pu_gcall [(1001, 1001, 0), (1002, 1002, 0)] (sat_g rs cs b key n s hs) (SH_in ..) rfl ⟨rfl, rfl, trivial⟩ rfl ⟨Sub.rfl, Sub.rfl, Sub.rfl, trivial⟩) ?_
  refine Al_p (Pu_extract rfl rfl rfl) ?_
  refine Al_p (Pu_extract rfl rfl rfl) ?_
  refine Al_storeN rfl rfl rfl (by kernel_rfl) Tryz.isAgg34 Tryz.sizeOf34 rfl rfl rfl rfl (Nat.le_of_ble_eq_true rfl) ?_
  refine Al_p Pu_mvr ?_
  refine Al_nil ?_
  refine Aw_ret ?_
  exact ⟨_, _, [], rfl, ⟨_, rfl, _, _, _, _, _, [_, _, _, _, _, _], _, rfl, rfl, rfl, rfl, Sub.rfl, rfl⟩, ⟨rfl, rfl, trivial⟩, rfl⟩ -- ret 0
namespace PS
theorem Ok.hl {p : PS} {m : Nat} (h : p.Ok m) (hm : m ≤ 1000) : (J.have' p.cs).length ≤ 1000000 := by rw [J.hav_len]; have := h.sm.1; omega
theorem seen_take (p : PS) (past : List Dep) {k : Nat} (hk : k < past.length) : p.seen (past.take (k + 1)) = mx (p.seen (past.take k)) ((past.getD k default).n, (past.getD k default).s) := by
  have hg : past.getD k default = past[k] := by simp [hk]
  rw [List.take_succ_eq_append_getElem hk, hg]
  unfold seen
  rw [List.foldl_append]; rfl
theorem wait_past {p : PS} {m : Nat} (h : p.Ok m) : ∀ v ∈ p.wait, v.past.length ≤ 1000000 := fun v hv => Nat.le_trans (J.past_len (h.wp v hv)) (by decide)
end PS
theorem cloneD_a (l : List Dep) (hl : l.length ≤ 1000000) : ACall Tryz.prog 55 [.sl 3 (l.map Dep.row)] (.sl 3 (l.map Dep.row)) := GCall.a (aa := [.sl 3 (l.map Dep.row)]) (cloneD_g l hl)
section
variable (p : PS) (b : Nat)
theorem stOwn_g (hrl : p.rs.length ≤ 1000000) : GCall Tryz.prog 42 [.bx 1001 0 0] (ST p b) (some (ST p b, .d (rngA p.rs))) := by
  refine GCall_enterL (fun _ _ => by kernel_rfl) Tryz.func42 rfl Tryz.ntmps42 (ReadsS.r1 Tryz.results42) (Nat.le_of_ble_eq_true rfl) (fun hok hokB M0 w0 hl => ?_)
  refine Aw_seq (Aw_region ?_)
  refine Al_p Pu_mvr ?_
  refine Al_nil (Aw_seq (Aw_seq (Aw_region ?_)))
  refine Al_p Pu_mvl ?_
  refine Al_p (Pu_eqnilb Tryz.underlying24 rfl rfl) ?_
  refine Al_nil ?_
  refine Aw_condF rfl (rfl) ?_
  refine Aw_skip (Aw_seq (Aw_region ?_))
  refine Al_p Pu_mvl ?_
  refine Al_p (Pu_nilb rfl rfl) ?_
  refine Al_p (Pu_fieldb 0 rfl Tryz.underlying84 rfl rfl Tryz.sizeOf82 rfl) ?_
  refine Al_p (Pu_fieldb 0 rfl Tryz.underlying82 rfl rfl Tryz.sizeOf79 rfl) ?_
  refine Al_p (Pu_loadb rfl Tryz.isAgg79 rfl rfl rfl) ?_
  refine Al_p (Pu_gcall [(1001, 1002, 0), (1002, 1003, 0)] (sranges_g p.rs p.cs b hrl) (SH_in ..) rfl ⟨rfl, rfl, trivial⟩ rfl ⟨Sub.rfl, trivial⟩) ?_
  refine Al_p Pu_mvr ?_
  refine Al_nil ?_
  refine Aw_ret ?_
  exact ⟨_, _, [], rfl, Sub.rfl, ⟨rfl, rfl, rfl, trivial⟩, rfl⟩ -- ret 0
theorem stowns_g (key : ByteArray) (hrl : p.rs.length ≤ 1000000) : GCall Tryz.prog 45 [.bx 1001 0 0, .d (tv key)] (ST p b) (some (ST p b, .d (bv (decide (0 ≤ findR p.rs key))))) := by
  refine GCall_enterL (fun _ _ => by kernel_rfl) Tryz.func45 rfl Tryz.ntmps45 (ReadsS.r1 Tryz.results45) (Nat.le_of_ble_eq_true rfl) (fun hok hokB M0 w0 hl => ?_)
  refine Aw_seq (Aw_region ?_)
  refine Al_p Pu_mvr ?_
  refine Al_nil (Aw_seq (Aw_region ?_))
  refine Al_p Pu_mvl ?_
  refine Al_p (Pu_gcall [(1001, 1001, 0), (1002, 1002, 0), (1003, 1003, 0)] (stOwn_g p b hrl) (ST_in ..) rfl ⟨rfl, rfl, rfl, trivial⟩ rfl ⟨Sub.rfl, trivial⟩) ?_
  refine Al_p Pu_mvl ?_
  refine Al_p (Pu_call (find_a p.rs key hrl) rfl ⟨Sub.rfl, Sub.rfl, trivial⟩) ?_
  refine Al_p (Pu_cmp rfl rfl rfl rfl) ?_
  refine Al_p Pu_mvr ?_
  refine Al_nil ?_
  refine Aw_ret ?_
  exact ⟨_, _, [], rfl, Sub.rfl, ⟨rfl, rfl, rfl, trivial⟩, rfl⟩ -- ret 0
theorem stClock_g : GCall Tryz.prog 20 [.bx 1001 0 0] (ST p b) (some (ST p b, .d (.row [iv p.n, iv p.s]))) := by
  refine GCall_enterL (fun _ _ => by kernel_rfl) Tryz.func20 rfl Tryz.ntmps20 (ReadsS.cN Tryz.results20 Tryz.isAgg31 Tryz.sizeOf31) (Nat.le_of_ble_eq_true rfl) (fun hok hokB M0 w0 hl => ?_)
  refine Aw_seq (Aw_region ?_)
  refine Al_alloc rfl rfl rfl (by decide) Tryz.zeroValue31 rfl (by kernel_rfl) (fun g2 => ?_)
  refine Al_nil (Aw_seq (Aw_seq (Aw_region ?_)))
  refine Al_p Pu_mvl ?_
  refine Al_p (Pu_eqnilb Tryz.underlying24 rfl rfl) ?_
  refine Al_nil ?_
  refine Aw_condF rfl (rfl) ?_
  refine Aw_skip (Aw_seq (Aw_region ?_))
  refine Al_p Pu_mvl ?_
  refine Al_p (Pu_nilb rfl rfl) ?_
  refine Al_p (Pu_fieldb 3 rfl Tryz.underlying84 rfl rfl Tryz.sizeOf31 rfl) ?_
  refine Al_p (Pu_loadbN (r := [_, _]) rfl Tryz.isAgg31 Tryz.sizeOf31 rfl rfl rfl rfl) ?_
  refine Al_storeN rfl rfl rfl (by kernel_rfl) Tryz.isAgg31 Tryz.sizeOf31 rfl rfl rfl rfl (Nat.le_of_ble_eq_true rfl) ?_
  refine Al_nil ?_
  refine Aw_ret ?_
  exact ⟨_, _, [], rfl, ⟨_, rfl, _, _, _, _, _, [_, _], rfl, rfl, rfl, rfl, rfl⟩, ⟨rfl, rfl, rfl, trivial⟩, rfl⟩ -- ret 0
theorem stWaiting_g : GCall Tryz.prog 18 [.bx 1001 0 0] (ST p b) (some (ST p b, .d (iv p.wait.length))) := by
  refine GCall_enterL (fun _ _ => by kernel_rfl) Tryz.func18 rfl Tryz.ntmps18 (ReadsS.r1 Tryz.results18) (Nat.le_of_ble_eq_true rfl) (fun hok hokB M0 w0 hl => ?_)
  refine Aw_seq (Aw_region ?_)
  refine Al_p Pu_mvr ?_
  refine Al_nil (Aw_seq (Aw_seq (Aw_region ?_)))
  refine Al_p Pu_mvl ?_
  refine Al_p (Pu_eqnilb Tryz.underlying24 rfl rfl) ?_
  refine Al_nil ?_
  refine Aw_condF rfl (rfl) ?_
  refine Aw_skip (Aw_seq (Aw_region ?_))
  refine Al_p Pu_mvl ?_
  refine Al_p (Pu_nilb rfl rfl) ?_
  refine Al_p (Pu_fieldb 2 rfl Tryz.underlying84 rfl rfl Tryz.sizeOf65 rfl) ?_
  refine Al_p (Pu_loadb rfl Tryz.isAgg65 rfl rfl rfl) ?_
  refine Al_p (Pu_len rfl Tryz.underlying65 rfl (by first | exact List.length_map .. | exact rfl)) ?_
  refine Al_p Pu_mvr ?_
  refine Al_nil ?_
  refine Aw_ret ?_
  exact ⟨_, _, [], rfl, Sub.rfl, ⟨rfl, rfl, rfl, trivial⟩, rfl⟩ -- ret 0
theorem stHave_g {m : Nat} (hp : p.Ok m) (hm : m ≤ 1000) : GCall Tryz.prog 15 [.bx 1001 0 0] (ST p b) (some (ST p b, .d (.sl 3 ((J.have' p.cs).map Dep.row)))) := by
  refine GCall_enterL (fun _ _ => by kernel_rfl) Tryz.func15 rfl Tryz.ntmps15 (ReadsS.r1 Tryz.results15) (Nat.le_of_ble_eq_true rfl) (fun hok hokB M0 w0 hl => ?_)
  refine Aw_seq (Aw_region ?_)
  refine Al_p Pu_mvr ?_
  refine Al_nil (Aw_seq (Aw_seq (Aw_region ?_)))
  refine Al_p Pu_mvl ?_
  refine Al_p (Pu_eqnilb Tryz.underlying24 rfl rfl) ?_
  refine Al_nil ?_
  refine Aw_condF rfl (rfl) ?_
  refine Aw_skip (Aw_seq (Aw_region ?_))
  refine Al_p Pu_mvl ?_
  refine Al_p (Pu_nilb rfl rfl) ?_
  refine Al_p (Pu_fieldb 0 rfl Tryz.underlying84 rfl rfl Tryz.sizeOf82 rfl) ?_
  refine Al_p (Pu_fieldb 0 rfl Tryz.underlying82 rfl rfl Tryz.sizeOf79 rfl) ?_
  refine Al_p (Pu_loadb rfl Tryz.isAgg79 rfl rfl rfl) ?_
  refine Al_p (Pu_gcall [(1001, 1002, 0), (1002, 1003, 0)] (shave_g p.rs p.cs b hp.rise (hp.sm.mono hm)) (SH_in ..) rfl ⟨rfl, rfl, trivial⟩ rfl ⟨Sub.rfl, trivial⟩) ?_
  refine Al_p Pu_mvr ?_
  refine Al_nil ?_
  refine Aw_ret ?_
  exact ⟨_, _, [], rfl, Sub.rfl, ⟨rfl, rfl, rfl, trivial⟩, rfl⟩ -- ret 0
theorem stRead_g (key : ByteArray) {m : Nat} (hp : p.Ok m) (hm : m ≤ 1000) : GCall Tryz.prog 19 [.bx 1001 0 0, .d (tv key)] (ST p b) (some (ST p b, .d (.tup [.row ((p.readV key).getD default).row, bv (p.readV key).isSome, iv (p.readE key)]))) := by
  refine GCall_enterL (fun _ _ => by kernel_rfl) Tryz.func19 rfl Tryz.ntmps19 (ReadsS.cN2 Tryz.results19 Tryz.isAgg34 Tryz.sizeOf34) (Nat.le_of_ble_eq_true rfl) (fun hok hokB M0 w0 hl => ?_)
  refine Aw_seq (Aw_region ?_)
  refine Al_alloc rfl rfl rfl (by decide) Tryz.zeroValue34 rfl (by kernel_rfl) (fun g4 => ?_)
  refine Al_p Pu_mvr ?_
  refine Al_p Pu_mvr ?_
  refine Al_nil (Aw_seq (Aw_block (Aw_seq (Aw_region ?_))))
  refine Al_p Pu_mvl ?_
  refine Al_p (Pu_eqnilb Tryz.underlying24 rfl rfl) ?_
  refine Al_p Pu_mvr ?_
  refine Al_nil ?_
  refine Aw_condF rfl (rfl) ?_
  refine Aw_seq (Aw_region ?_)
  refine Al_p Pu_mvl ?_
  refine Al_p Pu_mvl ?_
  refine Al_p (Pu_gcall [(1001, 1001, 0), (1002, 1002, 0), (1003, 1003, 0)] (stowns_g p b key hp.rl) (ST_in ..) rfl ⟨rfl, rfl, rfl, trivial⟩ rfl ⟨Sub.rfl, Sub.rfl, trivial⟩) ?_
  refine Al_p (Pu_not rfl rfl) ?_
  refine Al_p Pu_mvr ?_
  refine Al_nil ?_
  refine Aw_cond rfl (fun h13 => ?_) (fun h13 => ?_)
  · skip
    have h0 : findR p.rs key < 0 := by simpa using h13
    have e1 : p.readV key = none := by unfold PS.readV; rw [if_pos h0]
    have e2 : p.readE key = 14 := by unfold PS.readE; rw [if_pos h0]
    refine Aw_seq (Aw_region ?_)
    refine Al_p (Pu_build (aa := []) rfl Tryz.underlying34 Tryz.zeroValue34 (places34 Tryz.underlying34) (by kernel_rfl) trivial rfl) ?_
    refine Al_storeN rfl rfl rfl (by kernel_rfl) Tryz.isAgg34 Tryz.sizeOf34 rfl rfl rfl rfl (Nat.le_of_ble_eq_true rfl) ?_
    refine Al_p Pu_mvr ?_
    refine Al_p Pu_mvr ?_
    refine Al_nil ?_
    rw [e1, e2]
    refine Aw_boxle (k := 4) ((default : Ver).row.map .d) rfl ⟨Sub.rfl, Sub.rfl, Sub.rfl, Sub.rfl, Sub.rfl, Sub.nil, trivial⟩ ?_
    refine Aw_ret ?_
    exact ⟨_, _, [], rfl, ⟨_, rfl, _, _, _, _, _, [_, _, _, _, _, _], _, _, rfl, rfl, rfl, rfl, Sub.rfl, Sub.rfl, rfl⟩, ⟨rfl, rfl, rfl, trivial⟩, rfl⟩ -- ret 0
  · skip
    have h0 : ¬ findR p.rs key < 0 := by simpa using h13
    have e1 : p.readV key = J.shead p.cs key := by unfold PS.readV; rw [if_neg h0]
    have e2 : p.readE key = 0 := by unfold PS.readE; rw [if_neg h0]
    refine Aw_skip (Aw_seq (Aw_region ?_))
    refine Al_p Pu_mvl ?_
    refine Al_p (Pu_nilb rfl rfl) ?_
    refine Al_p (Pu_fieldb 0 rfl Tryz.underlying84 rfl rfl Tryz.sizeOf82 rfl) ?_
    refine Al_p (Pu_loadAg (r := [.bx 1002 0 0]) rfl Tryz.isAgg82 Tryz.sizeOf82 rfl rfl (by exact rfl) rfl) ?_
    refine Al_p Pu_mvl ?_
    refine Al_p (Pu_gcall [(1001, 1002, 0), (1002, 1003, 0)] (khead_g p.rs p.cs b key (hp.sm.mono hm)) (SH_in ..) rfl ⟨rfl, rfl, trivial⟩ rfl ⟨Sub.rfl, Sub.rfl, trivial⟩) ?_
    refine Al_p Pu_mvl ?_
    refine Al_p (Pu_extract rfl rfl rfl) ?_
    refine Al_p (Pu_extract rfl rfl rfl) ?_
    refine Al_alloc rfl rfl rfl (by decide) Tryz.zeroValue34 rfl (by kernel_rfl) (fun g7 => ?_)
    refine Al_storeN rfl rfl rfl (by kernel_rfl) Tryz.isAgg34 Tryz.sizeOf34 rfl rfl rfl rfl (Nat.le_of_ble_eq_true rfl) ?_
    refine Al_p Pu_mvr ?_
    refine Al_nil (Aw_seq (Aw_region ?_))
    refine Al_p (Pu_loadbN (r := [_, _, _, _, _, _]) rfl Tryz.isAgg34 Tryz.sizeOf34 rfl rfl rfl rfl) ?_
    refine Al_p Pu_mvl ?_
    refine Al_storeN rfl rfl rfl (by kernel_rfl) Tryz.isAgg34 Tryz.sizeOf34 rfl rfl rfl rfl (Nat.le_of_ble_eq_true rfl) ?_
    refine Al_p Pu_mvr ?_
    refine Al_p Pu_mvr ?_
    refine Al_nil ?_
    rw [e1, e2]
    refine Aw_ret ?_
    exact ⟨_, _, [], rfl, ⟨_, rfl, _, _, _, _, _, [_, _, _, _, _, _], _, _, rfl, rfl, rfl, rfl, Sub.rfl, Sub.rfl, rfl⟩, ⟨rfl, rfl, rfl, trivial⟩, rfl⟩ -- ret 1
theorem stthere1_a (v w : Ver) : ACall Tryz.prog 82 [.row w.row, .fp v.row] (bv (PS.isW v w)) := by
  refine ACall_enter (fun _ _ => by kernel_rfl) Tryz.func82 rfl Tryz.ntmps82 Tryz.results82 (Nat.le_of_ble_eq_true rfl) (fun hok M0 w0 hnl => ?_)
  refine Aw_seq (Aw_region ?_)
  refine Al_p (Pu_boxN rfl rfl) ?_
  refine Al_p Pu_mvr ?_
  refine Al_nil (Aw_seq (Aw_region ?_))
  refine Al_p (Pu_field 0 rfl Tryz.underlying34 rfl rfl Tryz.sizeOf9 rfl) ?_
  refine Al_p (Pu_load1 rfl Tryz.isAgg9 rfl rfl) ?_
  refine Al_p (Pu_field 0 rfl Tryz.underlying34 rfl rfl Tryz.sizeOf9 rfl) ?_
  refine Al_p (Pu_load1 rfl Tryz.isAgg9 rfl rfl) ?_
  refine Al_p (Pu_str rfl rfl rfl rfl) ?_
  refine Al_p Pu_mvl ?_
  refine Al_st (St_gd [] rfl rfl rfl rfl trivial (fun hg10 => Pu_field 3 rfl Tryz.underlying34 rfl rfl Tryz.sizeOf31 rfl)) rfl (by decide) (by kernel_rfl) (by intro j b oj dj h1 h2 h3; cases h1; cases h2; cases h3; decide) ?_
  refine Al_st (St_gd [10] rfl rfl rfl rfl ⟨⟨_, rfl⟩, trivial⟩ (fun hg11 => Pu_loadN rfl Tryz.isAgg31 Tryz.sizeOf31 rfl (Nat.le_of_ble_eq_true rfl))) rfl (by decide) (by kernel_rfl) (by intro j b oj dj h1 h2 h3; cases h1; cases h2; cases h3; decide) ?_
  refine Al_st (St_gd [] rfl rfl rfl rfl trivial (fun hg12 => Pu_field 3 rfl Tryz.underlying34 rfl rfl Tryz.sizeOf31 rfl)) rfl (by decide) (by kernel_rfl) (by intro j b oj dj h1 h2 h3; cases h1; cases h2; cases h3; decide) ?_
  refine Al_st (St_gd [12] rfl rfl rfl rfl ⟨⟨_, rfl⟩, trivial⟩ (fun hg13 => Pu_loadN rfl Tryz.isAgg31 Tryz.sizeOf31 rfl (Nat.le_of_ble_eq_true rfl))) rfl (by decide) (by kernel_rfl) (by intro j b oj dj h1 h2 h3; cases h1; cases h2; cases h3; decide) ?_
  refine Al_st (St_gd [11, 13] rfl rfl rfl rfl ⟨⟨_, rfl⟩, ⟨_, rfl⟩, trivial⟩ (fun hg14 => Pu_eqrow [.int .i64 _, .int .i64 _] [.int .i64 _, .int .i64 _] (fun w => eqv31 _ _ _ _ _ _ w) rfl rfl rfl)) rfl (by decide) (by kernel_rfl) (by intro j b oj dj h1 h2 h3; cases h1; cases h2; cases h3; decide) ?_
  refine Al_p (Pu_and rfl rfl rfl rfl) ?_
  refine Al_p Pu_mvr ?_
  refine Al_nil ?_
  refine Aw_ret ?_
  exact Sub.rfl -- ret 0
theorem stthere_g (v : Ver) {m : Nat} (hp : p.Ok m) (hm : m ≤ 1000) : GCall Tryz.prog 46 [.bx 1001 0 0, .d (.row v.row)] (ST p b) (some (ST p b, .d (bv (p.there v)))) := by
  refine GCall_enterL (fun _ _ => by kernel_rfl) Tryz.func46 rfl Tryz.ntmps46 (ReadsS.r1 Tryz.results46) (Nat.le_of_ble_eq_true rfl) (fun hok hokB M0 w0 hl => ?_)
  refine Aw_seq (Aw_region ?_)
  refine Al_p (Pu_boxN rfl rfl) ?_
  refine Al_p Pu_mvr ?_
  refine Al_nil ?_
  -- join 0: live [0, 3, 6], turned [6]
  refine Aw_seq ?_
  refine Aw_drawPA 10 12 4 (by kernel_rfl) (by kernel_rfl) rfl (by decide) rfl rfl rfl rfl (by decide) Tryz.zeroValue34 rfl (by kernel_rfl) rfl ?_
  refine Dr_p Pu_mvl ?_
  refine Dr_p (Pu_nilb rfl rfl) ?_
  refine Dr_p (Pu_fieldb 0 rfl Tryz.underlying84 rfl rfl Tryz.sizeOf82 rfl) ?_
  refine Dr_p (Pu_loadAg (r := [.bx 1002 0 0]) rfl Tryz.isAgg82 Tryz.sizeOf82 rfl rfl (by exact rfl) rfl) ?_
  refine Dr_p (Pu_field 0 rfl Tryz.underlying34 rfl rfl Tryz.sizeOf9 rfl) ?_
  refine Dr_p (Pu_load1 rfl Tryz.isAgg9 rfl rfl) ?_
  refine Dr_p (Pu_field 3 rfl Tryz.underlying34 rfl rfl Tryz.sizeOf31 rfl) ?_
  refine Dr_p (Pu_loadN rfl Tryz.isAgg31 Tryz.sizeOf31 rfl (Nat.le_of_ble_eq_true rfl)) ?_
  refine Dr_p (Pu_gcall [(1001, 1002, 0), (1002, 1003, 0)] (kat_g p.rs p.cs b v.key v.n v.s (hp.sm.mono hm)) (SH_in ..) rfl ⟨rfl, rfl, trivial⟩ rfl ⟨Sub.rfl, Sub.rfl, Sub.rfl, trivial⟩) ?_
  refine Dr_p Pu_mvl ?_
  refine Dr_nil ⟨?_, fun g5 => ?_⟩
  · refine Ad_take 10 rfl (PuI_extract rfl rfl rfl) rfl rfl (by decide) (by kernel_rfl) (by kernel_rfl) (by kernel_rfl) (by kernel_rfl) (fun _ _ h => h) ?_
    refine Ad_take 11 rfl (PuI_extract rfl rfl rfl) rfl rfl (by decide) (by kernel_rfl) (by kernel_rfl) (by kernel_rfl) (by kernel_rfl) (fun _ _ h => h) ?_
    refine Ad_one 12 rfl (by kernel_rfl) ?_
    refine Al_alloc rfl rfl rfl (by decide) Tryz.zeroValue34 rfl (by kernel_rfl) (fun g5 => ?_)
    refine Al_nil ?_
    refine Ad_one 13 rfl (by kernel_rfl) ?_
    refine Al_storeN rfl rfl rfl (by kernel_rfl) Tryz.isAgg34 Tryz.sizeOf34 rfl rfl rfl rfl (Nat.le_of_ble_eq_true rfl) ?_
    refine Al_nil ?_
    refine Ad_take 14 rfl (PuI_move (.inr rfl) (by conv => lhs; whnf)) rfl rfl (by decide) (by kernel_rfl) (by kernel_rfl) (by kernel_rfl) (by kernel_rfl) (fun _ _ h => h) ?_
    refine Ad_done (by kernel_rfl) ?_
    refine Aw_seq (Aw_region ?_)
    refine Al_p Pu_mvl ?_
    refine Al_p Pu_mvl ?_
    refine Al_st (St_gd [] rfl rfl rfl rfl trivial (fun hg21 => by exact Pu_move (.inl rfl) (by conv => lhs; whnf))) rfl (by decide) (by kernel_rfl) (by intro j b oj dj h1 h2 h3; cases h1; cases h2; cases h3; decide) ?_
    refine Al_st (St_gd [21] rfl rfl rfl rfl ⟨⟨_, rfl⟩, trivial⟩ (fun hg22 => Pu_nilb rfl rfl)) rfl (by decide) (by kernel_rfl) (by intro j b oj dj h1 h2 h3; cases h1; cases h2; cases h3; decide) ?_
    refine Al_st (St_gd [22] rfl rfl rfl rfl ⟨⟨_, rfl⟩, trivial⟩ (fun hg23 => Pu_fieldb 2 rfl Tryz.underlying84 rfl rfl Tryz.sizeOf65 rfl)) rfl (by decide) (by kernel_rfl) (by intro j b oj dj h1 h2 h3; cases h1; cases h2; cases h3; decide) ?_
    refine Al_st (St_gd [23] rfl rfl rfl rfl ⟨⟨_, rfl⟩, trivial⟩ (fun hg24 => Pu_loadb rfl Tryz.isAgg65 rfl rfl rfl)) rfl (by decide) (by kernel_rfl) (by intro j b oj dj h1 h2 h3; cases h1; cases h2; cases h3; decide) ?_
    refine Al_st (St_gd [] rfl rfl rfl rfl trivial (fun hg25 => Pu_makeFunc (caps := [_]) rfl ⟨Sub.rfl, trivial⟩)) rfl (by decide) (by kernel_rfl) (by intro j b oj dj h1 h2 h3; cases h1; cases h2; cases h3; decide) ?_
    refine Al_st (St_gd [24, 25] rfl rfl rfl rfl ⟨⟨_, rfl⟩, ⟨_, rfl⟩, trivial⟩ (fun hg26 => Pu_call (containsV_a p.wait 82 [.fp v.row] (PS.isW v) (fun w => stthere1_a v w)) rfl ⟨Sub.rfl, Sub.rfl, trivial⟩)) rfl (by decide) (by kernel_rfl) (by intro j b oj dj h1 h2 h3; cases h1; cases h2; cases h3; decide) ?_
    refine Al_p (Pu_or rfl rfl rfl rfl) ?_
    refine Al_p Pu_mvr ?_
    refine Al_nil ?_
    refine Aw_ret ?_
    exact ⟨_, _, [], rfl, Sub.rfl, ⟨rfl, rfl, rfl, trivial⟩, rfl⟩ -- ret 0
  · refine Ad_take 10 rfl (PuI_extract rfl rfl rfl) rfl rfl (by decide) (by kernel_rfl) (by kernel_rfl) (by kernel_rfl) (by kernel_rfl) (fun _ _ h => h) ?_
    refine Ad_take 11 rfl (PuI_extract rfl rfl rfl) rfl rfl (by decide) (by kernel_rfl) (by kernel_rfl) (by kernel_rfl) (by kernel_rfl) (fun _ _ h => h) ?_
    refine Ad_one 13 rfl (by kernel_rfl) ?_
    refine Al_storeN rfl rfl rfl (by kernel_rfl) Tryz.isAgg34 Tryz.sizeOf34 rfl rfl rfl rfl (Nat.le_of_ble_eq_true rfl) ?_
    refine Al_nil ?_
    refine Ad_take 14 rfl (PuI_move (.inr rfl) (by conv => lhs; whnf)) rfl rfl (by decide) (by kernel_rfl) (by kernel_rfl) (by kernel_rfl) (by kernel_rfl) (fun _ _ h => h) ?_
    refine Ad_done (by kernel_rfl) ?_
    refine Aw_seq (Aw_region ?_)
    refine Al_p Pu_mvl ?_
    refine Al_p Pu_mvl ?_
    refine Al_st (St_gd [] rfl rfl rfl rfl trivial (fun hg21 => by exact Pu_move (.inl rfl) (by conv => lhs; whnf))) rfl (by decide) (by kernel_rfl) (by intro j b oj dj h1 h2 h3; cases h1; cases h2; cases h3; decide) ?_
    refine Al_st (St_gd [21] rfl rfl rfl rfl ⟨⟨_, rfl⟩, trivial⟩ (fun hg22 => Pu_nilb rfl rfl)) rfl (by decide) (by kernel_rfl) (by intro j b oj dj h1 h2 h3; cases h1; cases h2; cases h3; decide) ?_
    refine Al_st (St_gd [22] rfl rfl rfl rfl ⟨⟨_, rfl⟩, trivial⟩ (fun hg23 => Pu_fieldb 2 rfl Tryz.underlying84 rfl rfl Tryz.sizeOf65 rfl)) rfl (by decide) (by kernel_rfl) (by intro j b oj dj h1 h2 h3; cases h1; cases h2; cases h3; decide) ?_
    refine Al_st (St_gd [23] rfl rfl rfl rfl ⟨⟨_, rfl⟩, trivial⟩ (fun hg24 => Pu_loadb rfl Tryz.isAgg65 rfl rfl rfl)) rfl (by decide) (by kernel_rfl) (by intro j b oj dj h1 h2 h3; cases h1; cases h2; cases h3; decide) ?_
    refine Al_st (St_gd [] rfl rfl rfl rfl trivial (fun hg25 => Pu_makeFunc (caps := [_]) rfl ⟨Sub.rfl, trivial⟩)) rfl (by decide) (by kernel_rfl) (by intro j b oj dj h1 h2 h3; cases h1; cases h2; cases h3; decide) ?_
    refine Al_st (St_gd [24, 25] rfl rfl rfl rfl ⟨⟨_, rfl⟩, ⟨_, rfl⟩, trivial⟩ (fun hg26 => Pu_call (containsV_a p.wait 82 [.fp v.row] (PS.isW v) (fun w => stthere1_a v w)) rfl ⟨Sub.rfl, Sub.rfl, trivial⟩)) rfl (by decide) (by kernel_rfl) (by intro j b oj dj h1 h2 h3; cases h1; cases h2; cases h3; decide) ?_
    refine Al_p (Pu_or rfl rfl rfl rfl) ?_
    refine Al_p Pu_mvr ?_
    refine Al_nil ?_
    refine Aw_ret ?_
    exact ⟨_, _, [], rfl, Sub.rfl, ⟨rfl, rfl, rfl, trivial⟩, rfl⟩ -- ret 1
set_option maxHeartbeats 1000000 in
theorem stArrive_g (v : Ver) {m : Nat} (hp : p.Ok m) (hm : m ≤ 1000) : GCall Tryz.prog 13 [.bx 1001 0 0, .d (.row v.row)] (ST p b) (some (ST (p.arrive v) b, .d (iv (p.arriveE v)))) := by
  refine GCall_enterL (fun _ _ => by kernel_rfl) Tryz.func13 rfl Tryz.ntmps13 (ReadsS.r1 Tryz.results13) (Nat.le_of_ble_eq_true rfl) (fun hok hokB M0 w0 hl => ?_)
  have hwl := hp.wl
  refine Aw_seq (Aw_region ?_)
  refine Al_p (Pu_boxN rfl rfl) ?_
  refine Al_p Pu_mvr ?_
  refine Al_nil (Aw_seq (Aw_seq (Aw_region ?_)))
  refine Al_p Pu_mvl ?_
  refine Al_p (Pu_eqnilb Tryz.underlying24 rfl rfl) ?_
  refine Al_p Pu_mvl ?_
  refine Al_st (St_gd [] rfl rfl rfl rfl trivial (fun hg10 => Pu_loadN rfl Tryz.isAgg34 Tryz.sizeOf34 rfl (Nat.le_of_ble_eq_true rfl))) rfl (by decide) (by kernel_rfl) (by intro j b oj dj h1 h2 h3; cases h1; cases h2; cases h3; decide) ?_
  refine Al_st (St_gd [10] rfl rfl rfl rfl ⟨⟨_, rfl⟩, trivial⟩ (fun hg11 => Pu_call (wcheck_a v) rfl ⟨Sub.rfl, trivial⟩)) rfl (by decide) (by kernel_rfl) (by intro j b oj dj h1 h2 h3; cases h1; cases h2; cases h3; decide) ?_
  refine Al_st (St_gd [11] rfl rfl rfl rfl ⟨⟨_, rfl⟩, trivial⟩ (fun hg12 => Pu_not rfl rfl)) rfl (by decide) (by kernel_rfl) (by intro j b oj dj h1 h2 h3; cases h1; cases h2; cases h3; decide) ?_
  refine Al_p (Pu_or rfl rfl rfl rfl) ?_
  refine Al_nil ?_
  refine Aw_cond rfl (fun h13 => ?_) (fun h13 => ?_)
  · skip
    have h0 : J.checkB v = false := by simpa using h13
    have e2 : p.arriveE v = 1 := by unfold PS.arriveE; rw [if_pos h0]
    have e1 : p.arrive v = p := by unfold PS.arrive; rw [e2, if_neg (by decide)]
    refine Aw_seq (Aw_region ?_)
    refine Al_p Pu_mvr ?_
    refine Al_nil ?_
    rw [e1, e2]
    refine Aw_ret ?_
    exact ⟨_, _, [], rfl, Sub.rfl, ⟨rfl, rfl, rfl, trivial⟩, rfl⟩ -- ret 0
  · skip
    have h0 : J.checkB v = true := by simpa using h13
    refine Aw_skip ?_
    -- join 0: live [0, 3], turned []
    refine Aw_seq (Aw_seq (Aw_region ?_))
    refine Al_p Pu_mvl ?_
    refine Al_p (Pu_field 0 rfl Tryz.underlying34 rfl rfl Tryz.sizeOf9 rfl) ?_
    refine Al_p (Pu_load1 rfl Tryz.isAgg9 rfl rfl) ?_
    refine Al_p (Pu_gcall [(1001, 1001, 0), (1002, 1002, 0), (1003, 1003, 0)] (stowns_g p b v.key hp.rl) (ST_in ..) rfl ⟨rfl, rfl, rfl, trivial⟩ rfl ⟨Sub.rfl, Sub.rfl, trivial⟩) ?_
    refine Al_nil ?_
    refine Aw_cond rfl (fun h17 => ?_) (fun h17 => ?_)
    · (try simp only [decide_eq_true_eq, decide_eq_false_iff_not, Bool.and_eq_true, Bool.or_eq_true, Bool.and_eq_false_iff, Bool.or_eq_false_iff, Bool.not_eq_true', Bool.not_eq_false', beq_iff_eq, Bool.not_eq_eq_eq_not, Bool.not_true, Bool.not_false, List.length_map, Bool.and_true, Bool.and_false, Bool.false_and, Bool.true_and, Bool.or_false, Bool.false_or] at h17)
      have hf : ¬ findR p.rs v.key < 0 := by omega
      refine Aw_seq (Aw_seq (Aw_region ?_))
      refine Al_p Pu_mvl ?_
      refine Al_p (Pu_loadN rfl Tryz.isAgg34 Tryz.sizeOf34 rfl (Nat.le_of_ble_eq_true rfl)) ?_
      refine Al_p (Pu_gcall [(1001, 1001, 0), (1002, 1002, 0), (1003, 1003, 0)] (stthere_g p b v hp hm) (ST_in ..) rfl ⟨rfl, rfl, rfl, trivial⟩ rfl ⟨Sub.rfl, Sub.rfl, trivial⟩) ?_
      refine Al_nil ?_
      refine Aw_cond rfl (fun h20 => ?_) (fun h20 => ?_)
      · skip
        have e2 : p.arriveE v = 13 := by unfold PS.arriveE; rw [if_neg (by rw [h0]; decide), if_neg hf, if_pos h20]
        have e1 : p.arrive v = p := by unfold PS.arrive; rw [e2, if_neg (by decide)]
        refine Aw_seq (Aw_region ?_)
        refine Al_p Pu_mvr ?_
        refine Al_nil ?_
        rw [e1, e2]
        refine Aw_ret ?_
        exact ⟨_, _, [], rfl, Sub.rfl, ⟨rfl, rfl, rfl, trivial⟩, rfl⟩ -- ret 1
      · skip
        have e3 : p.arriveE v = J.pushE p.wait v := by unfold PS.arriveE; rw [if_neg (by rw [h0]; decide), if_neg hf, if_neg (by rw [h20]; decide)]
        refine Aw_skip (Aw_seq ?_)
        refine Aw_draw 10 (by kernel_rfl) (by kernel_rfl) ?_
        refine Dr_p Pu_mvl ?_
        refine Dr_p (Pu_nilb rfl rfl) ?_
        refine Dr_p (Pu_fieldb 2 rfl Tryz.underlying84 rfl rfl Tryz.sizeOf65 rfl) ?_
        refine Dr_p (Pu_loadb rfl Tryz.isAgg65 rfl rfl rfl) ?_
        refine Dr_p (Pu_loadN rfl Tryz.isAgg34 Tryz.sizeOf34 rfl (Nat.le_of_ble_eq_true rfl)) ?_
        refine Dr_p (Pu_call (qpush_a p.wait v (by omega)) rfl ⟨Sub.rfl, Sub.rfl, trivial⟩) ?_
        refine Dr_p Pu_mvl ?_
        refine Dr_p (Pu_extract rfl rfl rfl) ?_
        refine Dr_p (Pu_extract rfl rfl rfl) ?_
        refine Dr_p Pu_mvr ?_
        refine Dr_nil ?_
        refine Al_p Pu_mvr ?_
        refine Al_nil (Aw_seq (Aw_seq (Aw_region ?_)))
        refine Al_p Pu_mvl ?_
        refine Al_p (Pu_cmp rfl rfl rfl rfl) ?_
        refine Al_nil ?_
        refine Aw_cond rfl (fun h31 => ?_) (fun h31 => ?_)
        · (try simp only [decide_eq_true_eq, decide_eq_false_iff_not, Bool.and_eq_true, Bool.or_eq_true, Bool.and_eq_false_iff, Bool.or_eq_false_iff, Bool.not_eq_true', Bool.not_eq_false', beq_iff_eq, Bool.not_eq_eq_eq_not, Bool.not_true, Bool.not_false, List.length_map, Bool.and_true, Bool.and_false, Bool.false_and, Bool.true_and, Bool.or_false, Bool.false_or] at h31)
          have e1 : p.arrive v = p := by unfold PS.arrive; rw [if_neg (by rw [e3]; exact h31)]
          refine Aw_seq (Aw_region ?_)
          refine Al_p Pu_mvl ?_
          refine Al_p Pu_mvr ?_
          refine Al_nil ?_
          rw [e1, e3]
          refine Aw_ret ?_
          exact ⟨_, _, [], rfl, Sub.rfl, ⟨rfl, rfl, rfl, trivial⟩, rfl⟩ -- ret 2
        · (try simp only [decide_eq_true_eq, decide_eq_false_iff_not, Bool.and_eq_true, Bool.or_eq_true, Bool.and_eq_false_iff, Bool.or_eq_false_iff, Bool.not_eq_true', Bool.not_eq_false', beq_iff_eq, Bool.not_eq_eq_eq_not, Bool.not_true, Bool.not_false, List.length_map, Bool.and_true, Bool.and_false, Bool.false_and, Bool.true_and, Bool.or_false, Bool.false_or] at h31)
          have e4 : J.pushE p.wait v = 0 := by simpa using h31
          have e1 : p.arrive v = ({ p with wait := p.wait ++ [v] } : PS).clockP v := by unfold PS.arrive; rw [if_pos (e3.trans e4), if_neg hf]
          refine Aw_skip ?_
          rw [if_pos e4]
          refine Aw_region ?_
          refine Al_p Pu_mvl ?_
          refine Al_p Pu_mvl ?_
          refine Al_p (Pu_nilb rfl rfl) ?_
          refine Al_p (Pu_fieldb 2 rfl Tryz.underlying84 rfl rfl Tryz.sizeOf65 rfl) ?_
          refine Al_store1 rfl rfl rfl (by kernel_rfl) Tryz.isAgg65 Tryz.sizeOf65 rfl rfl (Nat.le_of_ble_eq_true rfl) (by conv => lhs; whnf) rfl ?_
          refine Al_nil (Aw_seq ?_)
          refine Aw_draw 11 (by kernel_rfl) (by kernel_rfl) ?_
          refine Dr_p Pu_mvl ?_
          refine Dr_p Pu_mvl ?_
          refine Dr_p (Pu_nilb rfl rfl) ?_
          refine Dr_p (Pu_fieldb 3 rfl Tryz.underlying84 rfl rfl Tryz.sizeOf31 rfl) ?_
          refine Dr_p (Pu_loadbN (r := [_, _]) rfl Tryz.isAgg31 Tryz.sizeOf31 rfl rfl rfl rfl) ?_
          refine Dr_p (Pu_field 3 rfl Tryz.underlying34 rfl rfl Tryz.sizeOf31 rfl) ?_
          refine Dr_p (Pu_loadN rfl Tryz.isAgg31 Tryz.sizeOf31 rfl (Nat.le_of_ble_eq_true rfl)) ?_
          refine Dr_p (Pu_buildSlice (aa := [(0, _), (1, _)]) rfl Tryz.underlying101 Tryz.sizeOf31 Tryz.zeroValue31 rfl (by decide) (by decide) (by decide) (by kernel_rfl) ⟨rfl, rfl, rfl, rfl, rfl, rfl, trivial⟩ ((rfl : _ = some [[iv p.n, iv p.s], [iv v.n, iv v.s]].flatten)) rfl rfl) ?_
          refine Dr_p (Pu_call (smax_a [(p.n, p.s), (v.n, v.s)]) rfl ⟨Sub.rfl, trivial⟩) ?_
          refine Dr_p (Pu_nilb rfl rfl) ?_
          refine Dr_p (Pu_fieldb 3 rfl Tryz.underlying84 rfl rfl Tryz.sizeOf31 rfl) ?_
          refine Dr_nil ?_
          refine Al_storeN rfl rfl rfl (by kernel_rfl) Tryz.isAgg31 Tryz.sizeOf31 rfl rfl rfl rfl (Nat.le_of_ble_eq_true rfl) ?_
          refine Al_nil (Aw_seq (Aw_region ?_))
          refine Al_p Pu_mvr ?_
          refine Al_nil ?_
          rw [e1, e3, e4]
          refine Aw_ret ?_
          exact ⟨_, _, [], rfl, Sub.rfl, ⟨rfl, rfl, rfl, trivial⟩, rfl⟩ -- ret 3
    · (try simp only [decide_eq_true_eq, decide_eq_false_iff_not, Bool.and_eq_true, Bool.or_eq_true, Bool.and_eq_false_iff, Bool.or_eq_false_iff, Bool.not_eq_true', Bool.not_eq_false', beq_iff_eq, Bool.not_eq_eq_eq_not, Bool.not_true, Bool.not_false, List.length_map, Bool.and_true, Bool.and_false, Bool.false_and, Bool.true_and, Bool.or_false, Bool.false_or] at h17)
      have hf : findR p.rs v.key < 0 := by omega
      have e2 : p.arriveE v = 0 := by unfold PS.arriveE; rw [if_neg (by rw [h0]; decide), if_pos hf]
      have e1 : p.arrive v = p.clockP v := by unfold PS.arrive; rw [if_pos e2, if_pos hf]
      refine Aw_skip (Aw_seq ?_)
      refine Aw_draw 11 (by kernel_rfl) (by kernel_rfl) ?_
      refine Dr_p Pu_mvl ?_
      refine Dr_p Pu_mvl ?_
      refine Dr_p (Pu_nilb rfl rfl) ?_
      refine Dr_p (Pu_fieldb 3 rfl Tryz.underlying84 rfl rfl Tryz.sizeOf31 rfl) ?_
      refine Dr_p (Pu_loadbN (r := [_, _]) rfl Tryz.isAgg31 Tryz.sizeOf31 rfl rfl rfl rfl) ?_
      refine Dr_p (Pu_field 3 rfl Tryz.underlying34 rfl rfl Tryz.sizeOf31 rfl) ?_
      refine Dr_p (Pu_loadN rfl Tryz.isAgg31 Tryz.sizeOf31 rfl (Nat.le_of_ble_eq_true rfl)) ?_
      refine Dr_p (Pu_buildSlice (aa := [(0, _), (1, _)]) rfl Tryz.underlying101 Tryz.sizeOf31 Tryz.zeroValue31 rfl (by decide) (by decide) (by decide) (by kernel_rfl) ⟨rfl, rfl, rfl, rfl, rfl, rfl, trivial⟩ ((rfl : _ = some [[iv p.n, iv p.s], [iv v.n, iv v.s]].flatten)) rfl rfl) ?_
      refine Dr_p (Pu_call (smax_a [(p.n, p.s), (v.n, v.s)]) rfl ⟨Sub.rfl, trivial⟩) ?_
      refine Dr_p (Pu_nilb rfl rfl) ?_
      refine Dr_p (Pu_fieldb 3 rfl Tryz.underlying84 rfl rfl Tryz.sizeOf31 rfl) ?_
      refine Dr_nil ?_
      refine Al_storeN rfl rfl rfl (by kernel_rfl) Tryz.isAgg31 Tryz.sizeOf31 rfl rfl rfl rfl (Nat.le_of_ble_eq_true rfl) ?_
      refine Al_nil (Aw_seq (Aw_region ?_))
      refine Al_p Pu_mvr ?_
      refine Al_nil ?_
      rw [e1, e2]
      refine Aw_ret ?_
      exact ⟨_, _, [], rfl, Sub.rfl, ⟨rfl, rfl, rfl, trivial⟩, rfl⟩ -- ret 4
set_option maxHeartbeats 1000000 in
theorem stStep_g {m : Nat} (hp : p.Ok m) (hm : m ≤ 1000) : GCall Tryz.prog 16 [.bx 1001 0 0] (ST p b) (some (ST p.step b, .d (.tup [.row (p.stepV.getD default).row, bv p.stepV.isSome]))) := by
  refine GCall_enterL (fun _ _ => by kernel_rfl) Tryz.func16 rfl Tryz.ntmps16 (ReadsS.cN1 Tryz.results16 Tryz.isAgg34 Tryz.sizeOf34) (Nat.le_of_ble_eq_true rfl) (fun hok hokB M0 w0 hl => ?_)
  have hwl := hp.wl
  have hnx := qnext_a p.wait (J.have' p.cs) p.rs hp.rl (PS.wait_past hp) (J.have_srt hp.rise) (hp.hl hm) (by omega)
  refine Aw_seq (Aw_region ?_)
  refine Al_alloc rfl rfl rfl (by decide) Tryz.zeroValue34 rfl (by kernel_rfl) (fun g2 => ?_)
  refine Al_p Pu_mvr ?_
  refine Al_nil (Aw_seq (Aw_seq (Aw_region ?_)))
  refine Al_p Pu_mvl ?_
  refine Al_p (Pu_eqnilb Tryz.underlying24 rfl rfl) ?_
  refine Al_nil ?_
  refine Aw_condF rfl (rfl) ?_
  refine Aw_skip ?_
  -- join 0: live [0, 2, 4, 5, 6], turned [4, 5, 6]
  refine Aw_seq ?_
  refine Aw_drawPA 10 13 6 (by kernel_rfl) (by kernel_rfl) rfl (by decide) rfl rfl rfl rfl (by decide) Tryz.zeroValue34 rfl (by kernel_rfl) rfl ?_
  refine Dr_p Pu_mvl ?_
  refine Dr_p (Pu_nilb rfl rfl) ?_
  refine Dr_p (Pu_fieldb 2 rfl Tryz.underlying84 rfl rfl Tryz.sizeOf65 rfl) ?_
  refine Dr_p (Pu_loadb rfl Tryz.isAgg65 rfl rfl rfl) ?_
  refine Dr_p Pu_mvl ?_
  refine Dr_p (Pu_gcall [(1001, 1001, 0), (1002, 1002, 0), (1003, 1003, 0)] (stHave_g p b hp hm) (ST_in ..) rfl ⟨rfl, rfl, rfl, trivial⟩ rfl ⟨Sub.rfl, trivial⟩) ?_
  refine Dr_p Pu_mvl ?_
  refine Dr_p (Pu_gcall [(1001, 1001, 0), (1002, 1002, 0), (1003, 1003, 0)] (stOwn_g p b hp.rl) (ST_in ..) rfl ⟨rfl, rfl, rfl, trivial⟩ rfl ⟨Sub.rfl, trivial⟩) ?_
  refine Dr_p (Pu_call (hnx) rfl ⟨Sub.rfl, Sub.rfl, Sub.rfl, trivial⟩) ?_
  refine Dr_p Pu_mvl ?_
  refine Dr_nil ⟨?_, fun g4 => ?_⟩
  · refine Ad_take 10 rfl (PuI_extract rfl rfl rfl) rfl rfl (by decide) (by kernel_rfl) (by kernel_rfl) (by kernel_rfl) (by kernel_rfl) (fun _ _ h => h) ?_
    refine Ad_take 11 rfl (PuI_extract rfl rfl rfl) rfl rfl (by decide) (by kernel_rfl) (by kernel_rfl) (by kernel_rfl) (by kernel_rfl) (fun _ _ h => h) ?_
    refine Ad_take 12 rfl (PuI_extract rfl rfl rfl) rfl rfl (by decide) (by kernel_rfl) (by kernel_rfl) (by kernel_rfl) (by kernel_rfl) (fun _ _ h => h) ?_
    refine Ad_one 13 rfl (by kernel_rfl) ?_
    refine Al_alloc rfl rfl rfl (by decide) Tryz.zeroValue34 rfl (by kernel_rfl) (fun g4 => ?_)
    refine Al_nil ?_
    refine Ad_one 14 rfl (by kernel_rfl) ?_
    refine Al_storeN rfl rfl rfl (by kernel_rfl) Tryz.isAgg34 Tryz.sizeOf34 rfl rfl rfl rfl (Nat.le_of_ble_eq_true rfl) ?_
    refine Al_nil ?_
    refine Ad_take 15 rfl (PuI_move (.inr rfl) (by conv => lhs; whnf)) rfl rfl (by decide) (by kernel_rfl) (by kernel_rfl) (by kernel_rfl) (by kernel_rfl) (fun _ _ h => h) ?_
    refine Ad_take 16 rfl (PuI_move (.inr rfl) (by conv => lhs; whnf)) rfl rfl (by decide) (by kernel_rfl) (by kernel_rfl) (by kernel_rfl) (by kernel_rfl) (fun _ _ h => h) ?_
    refine Ad_done (by kernel_rfl) ?_
    -- join 1: live [2, 4, 6], turned []
    refine Aw_seq (Aw_seq (Aw_region ?_))
    refine Al_p Pu_mvl ?_
    refine Al_nil ?_
    refine Aw_cond rfl (fun h23 => ?_) (fun h23 => ?_)
    · skip
      obtain ⟨v, hv⟩ := Option.isSome_iff_exists.1 h23
      have hv2 : p.stepV = some v := hv
      have e1 : p.step = { p with wait := J.nextL p.wait (J.have' p.cs) p.rs, cs := (J.sput p.rs p.cs v).1 } := by unfold PS.step; rw [hv2]
      rw [hv]
      refine Aw_seq ?_
      refine Aw_draw 5 (by kernel_rfl) (by kernel_rfl) ?_
      refine Dr_p Pu_mvl ?_
      refine Dr_p (Pu_nilb rfl rfl) ?_
      refine Dr_p (Pu_fieldb 0 rfl Tryz.underlying84 rfl rfl Tryz.sizeOf82 rfl) ?_
      refine Dr_p (Pu_loadAg (r := [.bx 1002 0 0]) rfl Tryz.isAgg82 Tryz.sizeOf82 rfl rfl (by exact rfl) rfl) ?_
      refine Dr_p (Pu_loadbN (r := [_, _, _, _, _, _]) rfl Tryz.isAgg34 Tryz.sizeOf34 rfl rfl rfl rfl) ?_
      refine Dr_nil ?_
      refine Al_gcall [(1001, 1002, 0), (1002, 1003, 0)] [] (kput_g p.rs p.cs b v hp.rl hp.rise (hp.sm.mono hm)) rfl rfl rfl (by decide) (by kernel_rfl) ⟨rfl, rfl, trivial⟩ rfl ⟨Sub.rfl, Sub.rfl, trivial⟩ (fun g29 => ?_)
      refine Al_nil (Aw_region ?_)
      refine Al_p Pu_mvl ?_
      refine Al_p Pu_mvl ?_
      refine Al_p (Pu_nilb rfl rfl) ?_
      refine Al_p (Pu_fieldb 2 rfl Tryz.underlying84 rfl rfl Tryz.sizeOf65 rfl) ?_
      refine Al_store1 rfl rfl rfl (by kernel_rfl) Tryz.isAgg65 Tryz.sizeOf65 rfl rfl (Nat.le_of_ble_eq_true rfl) (by conv => lhs; whnf) rfl ?_
      refine Al_nil (Aw_seq (Aw_region ?_))
      refine Al_p (Pu_loadbN (r := [_, _, _, _, _, _]) rfl Tryz.isAgg34 Tryz.sizeOf34 rfl rfl rfl rfl) ?_
      refine Al_p Pu_mvl ?_
      refine Al_storeN rfl rfl rfl (by kernel_rfl) Tryz.isAgg34 Tryz.sizeOf34 rfl rfl rfl rfl (Nat.le_of_ble_eq_true rfl) ?_
      refine Al_p Pu_mvr ?_
      refine Al_nil ?_
      rw [e1, hv2]
      refine Aw_ret ?_
      exact ⟨_, _, [], rfl, ⟨_, rfl, _, _, _, _, _, [_, _, _, _, _, _], _, rfl, rfl, rfl, rfl, Sub.rfl, rfl⟩, ⟨rfl, rfl, rfl, trivial⟩, rfl⟩ -- ret 0
    · skip
      have hv : J.nextV p.wait (J.have' p.cs) p.rs = none := by simpa using h23
      have hv2 : p.stepV = none := hv
      have e1 : p.step = p := by unfold PS.step; rw [hv2]
      rw [hv]
      refine Aw_skip (Aw_seq (Aw_region ?_))
      refine Al_p (Pu_loadbN (r := [_, _, _, _, _, _]) rfl Tryz.isAgg34 Tryz.sizeOf34 rfl rfl rfl rfl) ?_
      refine Al_p Pu_mvl ?_
      refine Al_storeN rfl rfl rfl (by kernel_rfl) Tryz.isAgg34 Tryz.sizeOf34 rfl rfl rfl rfl (Nat.le_of_ble_eq_true rfl) ?_
      refine Al_p Pu_mvr ?_
      refine Al_nil ?_
      rw [e1, hv2]
      refine Aw_ret ?_
      exact ⟨_, _, [], rfl, ⟨_, rfl, _, _, _, _, _, [_, _, _, _, _, _], _, rfl, rfl, rfl, rfl, Sub.rfl, rfl⟩, ⟨rfl, rfl, rfl, trivial⟩, rfl⟩ -- ret 1
  · refine Ad_take 10 rfl (PuI_extract rfl rfl rfl) rfl rfl (by decide) (by kernel_rfl) (by kernel_rfl) (by kernel_rfl) (by kernel_rfl) (fun _ _ h => h) ?_
    refine Ad_take 11 rfl (PuI_extract rfl rfl rfl) rfl rfl (by decide) (by kernel_rfl) (by kernel_rfl) (by kernel_rfl) (by kernel_rfl) (fun _ _ h => h) ?_
    refine Ad_take 12 rfl (PuI_extract rfl rfl rfl) rfl rfl (by decide) (by kernel_rfl) (by kernel_rfl) (by kernel_rfl) (by kernel_rfl) (fun _ _ h => h) ?_
    refine Ad_one 14 rfl (by kernel_rfl) ?_
    refine Al_storeN rfl rfl rfl (by kernel_rfl) Tryz.isAgg34 Tryz.sizeOf34 rfl rfl rfl rfl (Nat.le_of_ble_eq_true rfl) ?_
    refine Al_nil ?_
    refine Ad_take 15 rfl (PuI_move (.inr rfl) (by conv => lhs; whnf)) rfl rfl (by decide) (by kernel_rfl) (by kernel_rfl) (by kernel_rfl) (by kernel_rfl) (fun _ _ h => h) ?_
    refine Ad_take 16 rfl (PuI_move (.inr rfl) (by conv => lhs; whnf)) rfl rfl (by decide) (by kernel_rfl) (by kernel_rfl) (by kernel_rfl) (by kernel_rfl) (fun _ _ h => h) ?_
    refine Ad_done (by kernel_rfl) ?_
    -- join 1: live [2, 4, 6], turned []
    refine Aw_seq (Aw_seq (Aw_region ?_))
    refine Al_p Pu_mvl ?_
    refine Al_nil ?_
    refine Aw_cond rfl (fun h23 => ?_) (fun h23 => ?_)
    · skip
      obtain ⟨v, hv⟩ := Option.isSome_iff_exists.1 h23
      have hv2 : p.stepV = some v := hv
      have e1 : p.step = { p with wait := J.nextL p.wait (J.have' p.cs) p.rs, cs := (J.sput p.rs p.cs v).1 } := by unfold PS.step; rw [hv2]
      rw [hv]
      refine Aw_seq ?_
      refine Aw_draw 5 (by kernel_rfl) (by kernel_rfl) ?_
      refine Dr_p Pu_mvl ?_
      refine Dr_p (Pu_nilb rfl rfl) ?_
      refine Dr_p (Pu_fieldb 0 rfl Tryz.underlying84 rfl rfl Tryz.sizeOf82 rfl) ?_
      refine Dr_p (Pu_loadAg (r := [.bx 1002 0 0]) rfl Tryz.isAgg82 Tryz.sizeOf82 rfl rfl (by exact rfl) rfl) ?_
      refine Dr_p (Pu_loadbN (r := [_, _, _, _, _, _]) rfl Tryz.isAgg34 Tryz.sizeOf34 rfl rfl rfl rfl) ?_
      refine Dr_nil ?_
      refine Al_gcall [(1001, 1002, 0), (1002, 1003, 0)] [] (kput_g p.rs p.cs b v hp.rl hp.rise (hp.sm.mono hm)) rfl rfl rfl (by decide) (by kernel_rfl) ⟨rfl, rfl, trivial⟩ rfl ⟨Sub.rfl, Sub.rfl, trivial⟩ (fun g29 => ?_)
      refine Al_nil (Aw_region ?_)
      refine Al_p Pu_mvl ?_
      refine Al_p Pu_mvl ?_
      refine Al_p (Pu_nilb rfl rfl) ?_
      refine Al_p (Pu_fieldb 2 rfl Tryz.underlying84 rfl rfl Tryz.sizeOf65 rfl) ?_
      refine Al_store1 rfl rfl rfl (by kernel_rfl) Tryz.isAgg65 Tryz.sizeOf65 rfl rfl (Nat.le_of_ble_eq_true rfl) (by conv => lhs; whnf) rfl ?_
      refine Al_nil (Aw_seq (Aw_region ?_))
      refine Al_p (Pu_loadbN (r := [_, _, _, _, _, _]) rfl Tryz.isAgg34 Tryz.sizeOf34 rfl rfl rfl rfl) ?_
      refine Al_p Pu_mvl ?_
      refine Al_storeN rfl rfl rfl (by kernel_rfl) Tryz.isAgg34 Tryz.sizeOf34 rfl rfl rfl rfl (Nat.le_of_ble_eq_true rfl) ?_
      refine Al_p Pu_mvr ?_
      refine Al_nil ?_
      rw [e1, hv2]
      refine Aw_ret ?_
      exact ⟨_, _, [], rfl, ⟨_, rfl, _, _, _, _, _, [_, _, _, _, _, _], _, rfl, rfl, rfl, rfl, Sub.rfl, rfl⟩, ⟨rfl, rfl, rfl, trivial⟩, rfl⟩ -- ret 2
    · skip
      have hv : J.nextV p.wait (J.have' p.cs) p.rs = none := by simpa using h23
      have hv2 : p.stepV = none := hv
      have e1 : p.step = p := by unfold PS.step; rw [hv2]
      rw [hv]
      refine Aw_skip (Aw_seq (Aw_region ?_))
      refine Al_p (Pu_loadbN (r := [_, _, _, _, _, _]) rfl Tryz.isAgg34 Tryz.sizeOf34 rfl rfl rfl rfl) ?_
      refine Al_p Pu_mvl ?_
      refine Al_storeN rfl rfl rfl (by kernel_rfl) Tryz.isAgg34 Tryz.sizeOf34 rfl rfl rfl rfl (Nat.le_of_ble_eq_true rfl) ?_
      refine Al_p Pu_mvr ?_
      refine Al_nil ?_
      rw [e1, hv2]
      refine Aw_ret ?_
      exact ⟨_, _, [], rfl, ⟨_, rfl, _, _, _, _, _, [_, _, _, _, _, _], _, rfl, rfl, rfl, rfl, Sub.rfl, rfl⟩, ⟨rfl, rfl, rfl, trivial⟩, rfl⟩ -- ret 3
theorem stClean_g (n s : Int) (pins : List Dep) (hpl : pins.length ≤ 100000) {m : Nat} (hp : p.Ok m) (hm : m ≤ 1000) : GCall Tryz.prog 25 [.bx 1001 0 0, .d (.row [iv n, iv s]), .d (.sl 3 (pins.map Dep.row))] (ST p b) (some (ST (p.clean n s pins) b, .d (.tup []))) := by
  refine GCall_enterL (fun _ _ => by kernel_rfl) Tryz.func25 rfl Tryz.ntmps25 (ReadsS.r0 Tryz.results25) (Nat.le_of_ble_eq_true rfl) (fun hok hokB M0 w0 hl => ?_)
  refine Aw_seq (Aw_region ?_)
  refine Al_p (Pu_boxN rfl rfl) ?_
  refine Al_nil (Aw_seq (Aw_region ?_))
  refine Al_p Pu_mvl ?_
  refine Al_p (Pu_neqnilb Tryz.underlying24 rfl rfl) ?_
  refine Al_nil ?_
  refine Aw_condT rfl (rfl) ?_
  refine Aw_draw 7 (by kernel_rfl) (by kernel_rfl) ?_
  refine Dr_p Pu_mvl ?_
  refine Dr_p (Pu_nilb rfl rfl) ?_
  refine Dr_p (Pu_fieldb 0 rfl Tryz.underlying84 rfl rfl Tryz.sizeOf82 rfl) ?_
  refine Dr_p (Pu_fieldb 0 rfl Tryz.underlying82 rfl rfl Tryz.sizeOf79 rfl) ?_
  refine Dr_p (Pu_loadb rfl Tryz.isAgg79 rfl rfl rfl) ?_
  refine Dr_p (Pu_loadN rfl Tryz.isAgg31 Tryz.sizeOf31 rfl (Nat.le_of_ble_eq_true rfl)) ?_
  refine Dr_p Pu_mvl ?_
  refine Dr_nil ?_
  refine Al_gcall [(1001, 1002, 0), (1002, 1003, 0)] [] (sclean_g p.rs p.cs b n s pins hpl hp.rise (hp.sm.mono hm)) rfl rfl rfl (by decide) (by kernel_rfl) ⟨rfl, rfl, trivial⟩ rfl ⟨Sub.rfl, Sub.rfl, Sub.rfl, trivial⟩ (fun g15 => ?_)
  refine Al_nil ?_
  exact ⟨_, _, [], rfl, rfl, ⟨rfl, rfl, rfl, trivial⟩, rfl⟩ -- ret 0
set_option maxHeartbeats 1000000 in
theorem stWrite_g (key value : ByteArray) (gone : Bool) (past : List Dep) (hpl : past.length ≤ 1000000) {m : Nat} (hp : p.Ok m) (hm : m ≤ 1000) : GCall Tryz.prog 21 [.bx 1001 0 0, .d (tv key), .d (tv value), .d (bv gone), .d (.sl 3 (past.map Dep.row))] (ST p b) (some (ST (p.write key value gone past) b, .d (.tup [.row (p.writeV key value gone past).row, iv (p.writeE key value gone past)]))) := by
  refine GCall_enterL (fun _ _ => by kernel_rfl) Tryz.func21 rfl Tryz.ntmps21 (ReadsS.cN1 Tryz.results21 Tryz.isAgg34 Tryz.sizeOf34) (Nat.le_of_ble_eq_true rfl) (fun hok hokB M0 w0 hl => ?_)
  have hid := hp.id
  refine Aw_seq (Aw_region ?_)
  refine Al_alloc rfl rfl rfl (by decide) Tryz.zeroValue34 rfl (by kernel_rfl) (fun g10 => ?_)
  refine Al_p Pu_mvr ?_
  refine Al_nil (Aw_seq (Aw_block (Aw_seq (Aw_region ?_))))
  refine Al_p Pu_mvl ?_
  refine Al_p (Pu_eqnilb Tryz.underlying24 rfl rfl) ?_
  refine Al_p Pu_mvr ?_
  refine Al_nil ?_
  refine Aw_condF rfl (rfl) ?_
  refine Aw_seq (Aw_region ?_)
  refine Al_p Pu_mvl ?_
  refine Al_p Pu_mvl ?_
  refine Al_p (Pu_gcall [(1001, 1001, 0), (1002, 1002, 0), (1003, 1003, 0)] (stowns_g p b key hp.rl) (ST_in ..) rfl ⟨rfl, rfl, rfl, trivial⟩ rfl ⟨Sub.rfl, Sub.rfl, trivial⟩) ?_
  refine Al_p (Pu_not rfl rfl) ?_
  refine Al_p Pu_mvr ?_
  refine Al_nil ?_
  refine Aw_cond rfl (fun h22 => ?_) (fun h22 => ?_)
  · skip
    have h0 : findR p.rs key < 0 := by simpa using h22
    have e2 : p.writeE key value gone past = 14 := by unfold PS.writeE; rw [if_pos h0]
    have e1 : p.write key value gone past = p := by unfold PS.write; rw [e2, if_neg (by decide)]
    have e3 : p.writeV key value gone past = default := by unfold PS.writeV; rw [e2, if_neg (by decide)]
    refine Aw_seq (Aw_region ?_)
    refine Al_p (Pu_build (aa := []) rfl Tryz.underlying34 Tryz.zeroValue34 (places34 Tryz.underlying34) (by kernel_rfl) trivial rfl) ?_
    refine Al_storeN rfl rfl rfl (by kernel_rfl) Tryz.isAgg34 Tryz.sizeOf34 rfl rfl rfl rfl (Nat.le_of_ble_eq_true rfl) ?_
    refine Al_p Pu_mvr ?_
    refine Al_nil ?_
    rw [e1, e2, e3]
    try rw [e4]
    first
      | refine Aw_boxle (k := 10) ((default : Ver).row.map .d) rfl ⟨Sub.rfl, Sub.rfl, Sub.rfl, Sub.rfl, Sub.rfl, Sub.nil, trivial⟩ ?_
      | skip
    refine Aw_ret ?_
    exact ⟨_, _, [], rfl, ⟨_, rfl, _, _, _, _, _, [_, _, _, _, _, _], _, rfl, rfl, rfl, rfl, Sub.rfl, rfl⟩, ⟨rfl, rfl, rfl, trivial⟩, rfl⟩ -- ret 0
  · skip
    have h0 : ¬ findR p.rs key < 0 := by simpa using h22
    refine Aw_skip (Aw_seq (Aw_region ?_))
    refine Al_p Pu_mvl ?_
    refine Al_p (Pu_nilb rfl rfl) ?_
    refine Al_p (Pu_fieldb 3 rfl Tryz.underlying84 rfl rfl Tryz.sizeOf31 rfl) ?_
    refine Al_p (Pu_loadbN (r := [_, _]) rfl Tryz.isAgg31 Tryz.sizeOf31 rfl rfl rfl rfl) ?_
    refine Al_alloc rfl rfl rfl (by decide) Tryz.zeroValue31 rfl (by kernel_rfl) (fun g12 => ?_)
    refine Al_storeN rfl rfl rfl (by kernel_rfl) Tryz.isAgg31 Tryz.sizeOf31 rfl rfl rfl rfl (Nat.le_of_ble_eq_true rfl) ?_
    refine Al_nil (Aw_seq (Aw_seq (Aw_region ?_)))
    refine Al_p Pu_mvl ?_
    refine Al_p (Pu_len rfl Tryz.underlying32 rfl (by first | exact List.length_map .. | exact rfl)) ?_
    refine Al_p Pu_mvl ?_
    refine Al_nil (Aw_block ?_)
    refine Aw_loopk (ι := Nat) [0, 1, 2, 3, 4, 10, 12, 32, 33] [1001, 1002, 1003, 10] (fun k => [(34, .d (iv k))]) (fun k => [(12, g12, .box 31 [.d (iv (p.seen (past.take k)).1), .d (iv (p.seen (past.take k)).2)])]) (fun k => k ≤ past.length) (fun k => past.length - k) (0) (Nat.zero_le _) ⟨Sub.rfl, trivial⟩ ⟨rfl, trivial⟩ ?_
    rintro k hk0
    refine Aw_seq (Aw_region ?_)
    refine Al_p (Pu_cmp rfl rfl rfl rfl) ?_
    refine Al_nil (Aw_seq ?_)
    refine Aw_cond rfl (fun h35 => ?_) (fun h35 => ?_)
    · (try simp only [decide_eq_true_eq, decide_eq_false_iff_not, Bool.and_eq_true, Bool.or_eq_true, Bool.and_eq_false_iff, Bool.or_eq_false_iff, Bool.not_eq_true', Bool.not_eq_false', beq_iff_eq, Bool.not_eq_eq_eq_not, Bool.not_true, Bool.not_false, List.length_map, Bool.and_true, Bool.and_false, Bool.false_and, Bool.true_and, Bool.or_false, Bool.false_or] at h35)
      have hk : k < past.length := by omega
      have hsn := p.seen_take past hk
      refine Aw_skip (Aw_seq (Aw_block (Aw_seq (Aw_region ?_))))
      refine Al_p (Pu_index rfl Tryz.underlying32 Tryz.sizeOf59 rfl rfl (rfl) (mapgetD (d := default) hk)) ?_
      refine Al_p (Pu_loadN rfl Tryz.isAgg59 Tryz.sizeOf59 rfl (Nat.le_of_ble_eq_true rfl)) ?_
      refine Al_alloc rfl rfl rfl (by decide) Tryz.zeroValue59 rfl (by kernel_rfl) (fun g14 => ?_)
      refine Al_storeN rfl rfl rfl (by kernel_rfl) Tryz.isAgg59 Tryz.sizeOf59 rfl rfl rfl rfl (Nat.le_of_ble_eq_true rfl) ?_
      refine Al_nil (Aw_region ?_)
      refine Al_p (Pu_loadbN (r := [_, _]) rfl Tryz.isAgg31 Tryz.sizeOf31 rfl rfl rfl rfl) ?_
      refine Al_p (Pu_fieldb 1 rfl Tryz.underlying59 rfl rfl Tryz.sizeOf31 rfl) ?_
      refine Al_p (Pu_loadbN (r := [_, _]) rfl Tryz.isAgg31 Tryz.sizeOf31 rfl rfl rfl rfl) ?_
      refine Al_p (Pu_buildSlice (aa := [(0, _), (1, _)]) rfl Tryz.underlying101 Tryz.sizeOf31 Tryz.zeroValue31 rfl (by decide) (by decide) (by decide) (by kernel_rfl) ⟨rfl, rfl, rfl, rfl, rfl, rfl, trivial⟩ ((rfl : _ = some [[iv (p.seen (past.take k)).1, iv (p.seen (past.take k)).2], [iv (past.getD k default).n, iv (past.getD k default).s]].flatten)) rfl rfl) ?_
      refine Al_p (Pu_call (smax_a [((p.seen (past.take k)).1, (p.seen (past.take k)).2), ((past.getD k default).n, (past.getD k default).s)]) rfl ⟨Sub.rfl, trivial⟩) ?_
      refine Al_storeN rfl rfl rfl (by kernel_rfl) Tryz.isAgg31 Tryz.sizeOf31 rfl rfl rfl rfl (Nat.le_of_ble_eq_true rfl) ?_
      refine Al_nil (Aw_region ?_)
      refine Al_p (Pu_add rfl rfl rfl (fun h1 h2 => by simp only [A.inI, A.maxI] at *; omega)) ?_
      refine Al_p Pu_mvl ?_
      refine Al_nil ?_
      exact ⟨k + 1, by omega, by omega, Le.ov ⟨Sub.num (by omega), trivial⟩ ⟨Sub.rfl, Sub.rfl, Sub.rfl, Sub.rfl, Sub.rfl, Sub.rfl, Sub.rfl, Sub.rfl, Sub.rfl, trivial⟩ ⟨by rw [hsn]; rfl, trivial⟩ ⟨rfl, rfl, rfl, rfl, trivial⟩⟩ -- loop 0 next.0
    · (try simp only [decide_eq_true_eq, decide_eq_false_iff_not, Bool.and_eq_true, Bool.or_eq_true, Bool.and_eq_false_iff, Bool.or_eq_false_iff, Bool.not_eq_true', Bool.not_eq_false', beq_iff_eq, Bool.not_eq_eq_eq_not, Bool.not_true, Bool.not_false, List.length_map, Bool.and_true, Bool.and_false, Bool.false_and, Bool.true_and, Bool.or_false, Bool.false_or] at h35)
      have hkk : k = past.length := by omega
      rw [show past.take k = past from by rw [hkk, List.take_length]]
      refine Aw_exit ?_
      -- join 0: live [0, 1, 2, 3, 4, 10, 15, 16], turned [15, 16]
      refine Aw_seq ?_
      refine Aw_drawPA 7 9 4 (by kernel_rfl) (by kernel_rfl) rfl (by decide) rfl rfl rfl rfl (by decide) Tryz.zeroValue31 rfl (by kernel_rfl) rfl ?_
      refine Dr_p (Pu_loadbN (r := [_, _]) rfl Tryz.isAgg31 Tryz.sizeOf31 rfl rfl rfl rfl) ?_
      refine Dr_p Pu_mvl ?_
      refine Dr_p (Pu_nilb rfl rfl) ?_
      refine Dr_p (Pu_fieldb 1 rfl Tryz.underlying84 rfl rfl Tryz.sizeOf3 rfl) ?_
      refine Dr_p (Pu_loadb rfl Tryz.isAgg3 rfl rfl rfl) ?_
      refine Dr_p (Pu_call (snextG_a (p.seen past).1 (p.seen past).2 p.id hid) rfl ⟨Sub.rfl, Sub.rfl, trivial⟩) ?_
      refine Dr_p Pu_mvl ?_
      refine Dr_nil ⟨?_, fun g15 => ?_⟩
      · refine Ad_take 7 rfl (PuI_extract rfl rfl rfl) rfl rfl (by decide) (by kernel_rfl) (by kernel_rfl) (by kernel_rfl) (by kernel_rfl) (fun _ _ h => h) ?_
        refine Ad_take 8 rfl (PuI_extract rfl rfl rfl) rfl rfl (by decide) (by kernel_rfl) (by kernel_rfl) (by kernel_rfl) (by kernel_rfl) (fun _ _ h => h) ?_
        refine Ad_one 9 rfl (by kernel_rfl) ?_
        refine Al_alloc rfl rfl rfl (by decide) Tryz.zeroValue31 rfl (by kernel_rfl) (fun g15 => ?_)
        refine Al_nil ?_
        refine Ad_one 10 rfl (by kernel_rfl) ?_
        refine Al_storeN rfl rfl rfl (by kernel_rfl) Tryz.isAgg31 Tryz.sizeOf31 rfl rfl rfl rfl (Nat.le_of_ble_eq_true rfl) ?_
        refine Al_nil ?_
        refine Ad_take 11 rfl (PuI_move (.inr rfl) (by conv => lhs; whnf)) rfl rfl (by decide) (by kernel_rfl) (by kernel_rfl) (by kernel_rfl) (by kernel_rfl) (fun _ _ h => h) ?_
        refine Ad_done (by kernel_rfl) ?_
        refine Aw_seq (Aw_seq (Aw_region ?_))
        refine Al_p Pu_mvl ?_
        refine Al_p (Pu_cmp rfl rfl rfl rfl) ?_
        refine Al_nil ?_
        refine Aw_cond rfl (fun h54 => ?_) (fun h54 => ?_)
        · (try simp only [decide_eq_true_eq, decide_eq_false_iff_not, Bool.and_eq_true, Bool.or_eq_true, Bool.and_eq_false_iff, Bool.or_eq_false_iff, Bool.not_eq_true', Bool.not_eq_false', beq_iff_eq, Bool.not_eq_eq_eq_not, Bool.not_true, Bool.not_false, List.length_map, Bool.and_true, Bool.and_false, Bool.false_and, Bool.true_and, Bool.or_false, Bool.false_or] at h54)
          have h1 : 1099511627776 ≤ (p.seen past).1 := by unfold J.nextE at h54; split at h54 <;> simp_all
          have e2 : p.writeE key value gone past = 18 := by unfold PS.writeE; rw [if_neg h0, if_pos h1]
          have e1 : p.write key value gone past = p := by unfold PS.write; rw [e2, if_neg (by decide)]
          have e3 : p.writeV key value gone past = default := by unfold PS.writeV; rw [e2, if_neg (by decide)]
          have e4 : J.nextE (p.seen past).1 = 18 := by unfold J.nextE; rw [if_pos h1]
          refine Aw_seq (Aw_region ?_)
          refine Al_p (Pu_build (aa := []) rfl Tryz.underlying34 Tryz.zeroValue34 (places34 Tryz.underlying34) (by kernel_rfl) trivial rfl) ?_
          refine Al_p Pu_mvl ?_
          refine Al_storeN rfl rfl rfl (by kernel_rfl) Tryz.isAgg34 Tryz.sizeOf34 rfl rfl rfl rfl (Nat.le_of_ble_eq_true rfl) ?_
          refine Al_p Pu_mvr ?_
          refine Al_nil ?_
          rw [e1, e2, e3]
          try rw [e4]
          first
            | refine Aw_boxle (k := 10) ((default : Ver).row.map .d) rfl ⟨Sub.rfl, Sub.rfl, Sub.rfl, Sub.rfl, Sub.rfl, Sub.nil, trivial⟩ ?_
            | skip
          refine Aw_ret ?_
          exact ⟨_, _, [], rfl, ⟨_, rfl, _, _, _, _, _, [_, _, _, _, _, _], _, rfl, rfl, rfl, rfl, Sub.rfl, rfl⟩, ⟨rfl, rfl, rfl, trivial⟩, rfl⟩ -- ret 1
        · (try simp only [decide_eq_true_eq, decide_eq_false_iff_not, Bool.and_eq_true, Bool.or_eq_true, Bool.and_eq_false_iff, Bool.or_eq_false_iff, Bool.not_eq_true', Bool.not_eq_false', beq_iff_eq, Bool.not_eq_eq_eq_not, Bool.not_true, Bool.not_false, List.length_map, Bool.and_true, Bool.and_false, Bool.false_and, Bool.true_and, Bool.or_false, Bool.false_or] at h54)
          have h1 : ¬ 1099511627776 ≤ (p.seen past).1 := by unfold J.nextE at h54; split at h54 <;> simp_all
          have e5 : J.nextR (p.seen past).1 p.id = (max (p.seen past).1 0 + 1, p.id) := by unfold J.nextR; rw [if_neg h1]
          rw [e5]
          refine Aw_skip (Aw_seq ?_)
          refine Aw_drawA 7 (by kernel_rfl) (by kernel_rfl) rfl rfl rfl rfl (by decide) Tryz.zeroValue34 rfl (by kernel_rfl) rfl ?_
          refine Dr_p Pu_mvl ?_
          refine Dr_p Pu_mvl ?_
          refine Dr_p Pu_mvl ?_
          refine Dr_p (Pu_loadbN (r := [_, _]) rfl Tryz.isAgg31 Tryz.sizeOf31 rfl rfl rfl rfl) ?_
          refine Dr_p Pu_mvl ?_
          refine Dr_p (Pu_call (cloneD_a past hpl) rfl ⟨Sub.rfl, trivial⟩) ?_
          refine Dr_p (Pu_build (aa := [(0, _), (1, _), (2, _), (3, _), (4, _)]) rfl Tryz.underlying34 Tryz.zeroValue34 (places34 Tryz.underlying34) (by kernel_rfl) ⟨rfl, rfl, rfl, rfl, rfl, rfl, rfl, rfl, rfl, rfl, rfl, rfl, rfl, rfl, rfl, trivial⟩ rfl) ?_
          refine Dr_nil ?_
          intro g17
          refine Al_storeN rfl rfl rfl (by kernel_rfl) Tryz.isAgg34 Tryz.sizeOf34 rfl rfl rfl rfl (Nat.le_of_ble_eq_true rfl) ?_
          refine Al_nil (Aw_seq (Aw_seq (Aw_region ?_)))
          refine Al_p (Pu_loadbN (r := [_, _, _, _, _, _]) rfl Tryz.isAgg34 Tryz.sizeOf34 rfl rfl rfl rfl) ?_
          refine Al_p (Pu_call (wcheck_a (p.made key value gone past)) rfl ⟨Sub.rfl, trivial⟩) ?_
          refine Al_p (Pu_not rfl rfl) ?_
          refine Al_nil ?_
          refine Aw_cond rfl (fun h66 => ?_) (fun h66 => ?_)
          · skip
            have h2 : J.checkB (p.made key value gone past) = false := by simpa using h66
            have e2 : p.writeE key value gone past = 1 := by unfold PS.writeE; rw [if_neg h0, if_neg h1, if_neg (by rw [h2]; decide)]
            have e1 : p.write key value gone past = p := by unfold PS.write; rw [e2, if_neg (by decide)]
            have e3 : p.writeV key value gone past = default := by unfold PS.writeV; rw [e2, if_neg (by decide)]
            refine Aw_seq (Aw_region ?_)
            refine Al_p (Pu_build (aa := []) rfl Tryz.underlying34 Tryz.zeroValue34 (places34 Tryz.underlying34) (by kernel_rfl) trivial rfl) ?_
            refine Al_storeN rfl rfl rfl (by kernel_rfl) Tryz.isAgg34 Tryz.sizeOf34 rfl rfl rfl rfl (Nat.le_of_ble_eq_true rfl) ?_
            refine Al_p Pu_mvr ?_
            refine Al_nil ?_
            rw [e1, e2, e3]
            try rw [e4]
            first
              | refine Aw_boxle (k := 10) ((default : Ver).row.map .d) rfl ⟨Sub.rfl, Sub.rfl, Sub.rfl, Sub.rfl, Sub.rfl, Sub.nil, trivial⟩ ?_
              | skip
            refine Aw_ret ?_
            exact ⟨_, _, [], rfl, ⟨_, rfl, _, _, _, _, _, [_, _, _, _, _, _], _, rfl, rfl, rfl, rfl, Sub.rfl, rfl⟩, ⟨rfl, rfl, rfl, trivial⟩, rfl⟩ -- ret 2
          · skip
            have h2 : J.checkB (p.made key value gone past) = true := by simpa using h66
            have e2 : p.writeE key value gone past = 0 := by unfold PS.writeE; rw [if_neg h0, if_neg h1, if_pos h2]
            have e1 : p.write key value gone past = p.writeP key value gone past := by unfold PS.write; rw [e2, if_pos rfl]
            have e3 : p.writeV key value gone past = p.made key value gone past := by unfold PS.writeV; rw [e2, if_pos rfl]
            refine Aw_skip (Aw_seq ?_)
            refine Aw_draw 5 (by kernel_rfl) (by kernel_rfl) ?_
            refine Dr_p Pu_mvl ?_
            refine Dr_p (Pu_nilb rfl rfl) ?_
            refine Dr_p (Pu_fieldb 0 rfl Tryz.underlying84 rfl rfl Tryz.sizeOf82 rfl) ?_
            refine Dr_p (Pu_loadAg (r := [.bx 1002 0 0]) rfl Tryz.isAgg82 Tryz.sizeOf82 rfl rfl (by exact rfl) rfl) ?_
            refine Dr_p (Pu_loadbN (r := [_, _, _, _, _, _]) rfl Tryz.isAgg34 Tryz.sizeOf34 rfl rfl rfl rfl) ?_
            refine Dr_nil ?_
            refine Al_gcall [(1001, 1002, 0), (1002, 1003, 0)] [] (kput_g p.rs p.cs b (p.made key value gone past) hp.rl hp.rise (hp.sm.mono hm)) rfl rfl rfl (by decide) (by kernel_rfl) ⟨rfl, rfl, trivial⟩ rfl ⟨Sub.rfl, Sub.rfl, trivial⟩ (fun g73 => ?_)
            refine Al_nil (Aw_seq (Aw_region ?_))
            refine Al_p Pu_mvl ?_
            refine Al_p (Pu_loadbN (r := [_, _]) rfl Tryz.isAgg31 Tryz.sizeOf31 rfl rfl rfl rfl) ?_
            refine Al_p (Pu_nilb rfl rfl) ?_
            refine Al_p (Pu_fieldb 3 rfl Tryz.underlying84 rfl rfl Tryz.sizeOf31 rfl) ?_
            refine Al_storeN rfl rfl rfl (by kernel_rfl) Tryz.isAgg31 Tryz.sizeOf31 rfl rfl rfl rfl (Nat.le_of_ble_eq_true rfl) ?_
            refine Al_nil (Aw_seq (Aw_region ?_))
            refine Al_p (Pu_loadbN (r := [_, _, _, _, _, _]) rfl Tryz.isAgg34 Tryz.sizeOf34 rfl rfl rfl rfl) ?_
            refine Al_storeN rfl rfl rfl (by kernel_rfl) Tryz.isAgg34 Tryz.sizeOf34 rfl rfl rfl rfl (Nat.le_of_ble_eq_true rfl) ?_
            refine Al_p Pu_mvr ?_
            refine Al_nil ?_
            rw [e1, e2, e3]
            try rw [e4]
            first
              | refine Aw_boxle (k := 10) ((default : Ver).row.map .d) rfl ⟨Sub.rfl, Sub.rfl, Sub.rfl, Sub.rfl, Sub.rfl, Sub.nil, trivial⟩ ?_
              | skip
            refine Aw_ret ?_
            exact ⟨_, _, [], rfl, ⟨_, rfl, _, _, _, _, _, [_, _, _, _, _, _], _, rfl, rfl, rfl, rfl, Sub.rfl, rfl⟩, ⟨rfl, rfl, rfl, trivial⟩, rfl⟩ -- ret 3
      · refine Ad_take 7 rfl (PuI_extract rfl rfl rfl) rfl rfl (by decide) (by kernel_rfl) (by kernel_rfl) (by kernel_rfl) (by kernel_rfl) (fun _ _ h => h) ?_
        refine Ad_take 8 rfl (PuI_extract rfl rfl rfl) rfl rfl (by decide) (by kernel_rfl) (by kernel_rfl) (by kernel_rfl) (by kernel_rfl) (fun _ _ h => h) ?_
        refine Ad_one 10 rfl (by kernel_rfl) ?_
        refine Al_storeN rfl rfl rfl (by kernel_rfl) Tryz.isAgg31 Tryz.sizeOf31 rfl rfl rfl rfl (Nat.le_of_ble_eq_true rfl) ?_
        refine Al_nil ?_
        refine Ad_take 11 rfl (PuI_move (.inr rfl) (by conv => lhs; whnf)) rfl rfl (by decide) (by kernel_rfl) (by kernel_rfl) (by kernel_rfl) (by kernel_rfl) (fun _ _ h => h) ?_
        refine Ad_done (by kernel_rfl) ?_
        refine Aw_seq (Aw_seq (Aw_region ?_))
        refine Al_p Pu_mvl ?_
        refine Al_p (Pu_cmp rfl rfl rfl rfl) ?_
        refine Al_nil ?_
        refine Aw_cond rfl (fun h54 => ?_) (fun h54 => ?_)
        · (try simp only [decide_eq_true_eq, decide_eq_false_iff_not, Bool.and_eq_true, Bool.or_eq_true, Bool.and_eq_false_iff, Bool.or_eq_false_iff, Bool.not_eq_true', Bool.not_eq_false', beq_iff_eq, Bool.not_eq_eq_eq_not, Bool.not_true, Bool.not_false, List.length_map, Bool.and_true, Bool.and_false, Bool.false_and, Bool.true_and, Bool.or_false, Bool.false_or] at h54)
          have h1 : 1099511627776 ≤ (p.seen past).1 := by unfold J.nextE at h54; split at h54 <;> simp_all
          have e2 : p.writeE key value gone past = 18 := by unfold PS.writeE; rw [if_neg h0, if_pos h1]
          have e1 : p.write key value gone past = p := by unfold PS.write; rw [e2, if_neg (by decide)]
          have e3 : p.writeV key value gone past = default := by unfold PS.writeV; rw [e2, if_neg (by decide)]
          have e4 : J.nextE (p.seen past).1 = 18 := by unfold J.nextE; rw [if_pos h1]
          refine Aw_seq (Aw_region ?_)
          refine Al_p (Pu_build (aa := []) rfl Tryz.underlying34 Tryz.zeroValue34 (places34 Tryz.underlying34) (by kernel_rfl) trivial rfl) ?_
          refine Al_p Pu_mvl ?_
          refine Al_storeN rfl rfl rfl (by kernel_rfl) Tryz.isAgg34 Tryz.sizeOf34 rfl rfl rfl rfl (Nat.le_of_ble_eq_true rfl) ?_
          refine Al_p Pu_mvr ?_
          refine Al_nil ?_
          rw [e1, e2, e3]
          try rw [e4]
          first
            | refine Aw_boxle (k := 10) ((default : Ver).row.map .d) rfl ⟨Sub.rfl, Sub.rfl, Sub.rfl, Sub.rfl, Sub.rfl, Sub.nil, trivial⟩ ?_
            | skip
          refine Aw_ret ?_
          exact ⟨_, _, [], rfl, ⟨_, rfl, _, _, _, _, _, [_, _, _, _, _, _], _, rfl, rfl, rfl, rfl, Sub.rfl, rfl⟩, ⟨rfl, rfl, rfl, trivial⟩, rfl⟩ -- ret 4
        · (try simp only [decide_eq_true_eq, decide_eq_false_iff_not, Bool.and_eq_true, Bool.or_eq_true, Bool.and_eq_false_iff, Bool.or_eq_false_iff, Bool.not_eq_true', Bool.not_eq_false', beq_iff_eq, Bool.not_eq_eq_eq_not, Bool.not_true, Bool.not_false, List.length_map, Bool.and_true, Bool.and_false, Bool.false_and, Bool.true_and, Bool.or_false, Bool.false_or] at h54)
          have h1 : ¬ 1099511627776 ≤ (p.seen past).1 := by unfold J.nextE at h54; split at h54 <;> simp_all
          have e5 : J.nextR (p.seen past).1 p.id = (max (p.seen past).1 0 + 1, p.id) := by unfold J.nextR; rw [if_neg h1]
          rw [e5]
          refine Aw_skip (Aw_seq ?_)
          refine Aw_drawA 7 (by kernel_rfl) (by kernel_rfl) rfl rfl rfl rfl (by decide) Tryz.zeroValue34 rfl (by kernel_rfl) rfl ?_
          refine Dr_p Pu_mvl ?_
          refine Dr_p Pu_mvl ?_
          refine Dr_p Pu_mvl ?_
          refine Dr_p (Pu_loadbN (r := [_, _]) rfl Tryz.isAgg31 Tryz.sizeOf31 rfl rfl rfl rfl) ?_
          refine Dr_p Pu_mvl ?_
          refine Dr_p (Pu_call (cloneD_a past hpl) rfl ⟨Sub.rfl, trivial⟩) ?_
          refine Dr_p (Pu_build (aa := [(0, _), (1, _), (2, _), (3, _), (4, _)]) rfl Tryz.underlying34 Tryz.zeroValue34 (places34 Tryz.underlying34) (by kernel_rfl) ⟨rfl, rfl, rfl, rfl, rfl, rfl, rfl, rfl, rfl, rfl, rfl, rfl, rfl, rfl, rfl, trivial⟩ rfl) ?_
          refine Dr_nil ?_
          intro g17
          refine Al_storeN rfl rfl rfl (by kernel_rfl) Tryz.isAgg34 Tryz.sizeOf34 rfl rfl rfl rfl (Nat.le_of_ble_eq_true rfl) ?_
          refine Al_nil (Aw_seq (Aw_seq (Aw_region ?_)))
          refine Al_p (Pu_loadbN (r := [_, _, _, _, _, _]) rfl Tryz.isAgg34 Tryz.sizeOf34 rfl rfl rfl rfl) ?_
          refine Al_p (Pu_call (wcheck_a (p.made key value gone past)) rfl ⟨Sub.rfl, trivial⟩) ?_
          refine Al_p (Pu_not rfl rfl) ?_
          refine Al_nil ?_
          refine Aw_cond rfl (fun h66 => ?_) (fun h66 => ?_)
          · skip
            have h2 : J.checkB (p.made key value gone past) = false := by simpa using h66
            have e2 : p.writeE key value gone past = 1 := by unfold PS.writeE; rw [if_neg h0, if_neg h1, if_neg (by rw [h2]; decide)]
            have e1 : p.write key value gone past = p := by unfold PS.write; rw [e2, if_neg (by decide)]
            have e3 : p.writeV key value gone past = default := by unfold PS.writeV; rw [e2, if_neg (by decide)]
            refine Aw_seq (Aw_region ?_)
            refine Al_p (Pu_build (aa := []) rfl Tryz.underlying34 Tryz.zeroValue34 (places34 Tryz.underlying34) (by kernel_rfl) trivial rfl) ?_
            refine Al_storeN rfl rfl rfl (by kernel_rfl) Tryz.isAgg34 Tryz.sizeOf34 rfl rfl rfl rfl (Nat.le_of_ble_eq_true rfl) ?_
            refine Al_p Pu_mvr ?_
            refine Al_nil ?_
            rw [e1, e2, e3]
            try rw [e4]
            first
              | refine Aw_boxle (k := 10) ((default : Ver).row.map .d) rfl ⟨Sub.rfl, Sub.rfl, Sub.rfl, Sub.rfl, Sub.rfl, Sub.nil, trivial⟩ ?_
              | skip
            refine Aw_ret ?_
            exact ⟨_, _, [], rfl, ⟨_, rfl, _, _, _, _, _, [_, _, _, _, _, _], _, rfl, rfl, rfl, rfl, Sub.rfl, rfl⟩, ⟨rfl, rfl, rfl, trivial⟩, rfl⟩ -- ret 5
          · skip
            have h2 : J.checkB (p.made key value gone past) = true := by simpa using h66
            have e2 : p.writeE key value gone past = 0 := by unfold PS.writeE; rw [if_neg h0, if_neg h1, if_pos h2]
            have e1 : p.write key value gone past = p.writeP key value gone past := by unfold PS.write; rw [e2, if_pos rfl]
            have e3 : p.writeV key value gone past = p.made key value gone past := by unfold PS.writeV; rw [e2, if_pos rfl]
            refine Aw_skip (Aw_seq ?_)
            refine Aw_draw 5 (by kernel_rfl) (by kernel_rfl) ?_
            refine Dr_p Pu_mvl ?_
            refine Dr_p (Pu_nilb rfl rfl) ?_
            refine Dr_p (Pu_fieldb 0 rfl Tryz.underlying84 rfl rfl Tryz.sizeOf82 rfl) ?_
            refine Dr_p (Pu_loadAg (r := [.bx 1002 0 0]) rfl Tryz.isAgg82 Tryz.sizeOf82 rfl rfl (by exact rfl) rfl) ?_
            refine Dr_p (Pu_loadbN (r := [_, _, _, _, _, _]) rfl Tryz.isAgg34 Tryz.sizeOf34 rfl rfl rfl rfl) ?_
            refine Dr_nil ?_
            refine Al_gcall [(1001, 1002, 0), (1002, 1003, 0)] [] (kput_g p.rs p.cs b (p.made key value gone past) hp.rl hp.rise (hp.sm.mono hm)) rfl rfl rfl (by decide) (by kernel_rfl) ⟨rfl, rfl, trivial⟩ rfl ⟨Sub.rfl, Sub.rfl, trivial⟩ (fun g73 => ?_)
            refine Al_nil (Aw_seq (Aw_region ?_))
            refine Al_p Pu_mvl ?_
            refine Al_p (Pu_loadbN (r := [_, _]) rfl Tryz.isAgg31 Tryz.sizeOf31 rfl rfl rfl rfl) ?_
            refine Al_p (Pu_nilb rfl rfl) ?_
            refine Al_p (Pu_fieldb 3 rfl Tryz.underlying84 rfl rfl Tryz.sizeOf31 rfl) ?_
            refine Al_storeN rfl rfl rfl (by kernel_rfl) Tryz.isAgg31 Tryz.sizeOf31 rfl rfl rfl rfl (Nat.le_of_ble_eq_true rfl) ?_
            refine Al_nil (Aw_seq (Aw_region ?_))
            refine Al_p (Pu_loadbN (r := [_, _, _, _, _, _]) rfl Tryz.isAgg34 Tryz.sizeOf34 rfl rfl rfl rfl) ?_
            refine Al_storeN rfl rfl rfl (by kernel_rfl) Tryz.isAgg34 Tryz.sizeOf34 rfl rfl rfl rfl (Nat.le_of_ble_eq_true rfl) ?_
            refine Al_p Pu_mvr ?_
            refine Al_nil ?_
            rw [e1, e2, e3]
            try rw [e4]
            first
              | refine Aw_boxle (k := 10) ((default : Ver).row.map .d) rfl ⟨Sub.rfl, Sub.rfl, Sub.rfl, Sub.rfl, Sub.rfl, Sub.nil, trivial⟩ ?_
              | skip
            refine Aw_ret ?_
            exact ⟨_, _, [], rfl, ⟨_, rfl, _, _, _, _, _, [_, _, _, _, _, _], _, rfl, rfl, rfl, rfl, Sub.rfl, rfl⟩, ⟨rfl, rfl, rfl, trivial⟩, rfl⟩ -- ret 6
end
namespace PS
def mvK (p : PS) (rs : List Rng) (l : List Ver) (k : Nat) : PS := (l.take k).foldl take1 (p.moved rs)
theorem mvK_succ (p : PS) (rs : List Rng) (l : List Ver) {k : Nat} (hk : k < l.length) : p.mvK rs l (k + 1) = (p.mvK rs l k).take1 (l.getD k default) := by
  have hg : l.getD k default = l[k] := by simp [hk]
  unfold mvK
  rw [List.take_succ_eq_append_getElem hk, hg, List.foldl_append]; rfl
theorem mvK_all (p : PS) (rs : List Rng) (l : List Ver) : p.mvK rs l l.length = p.move rs l := by unfold mvK; rw [List.take_length]; rfl
theorem Ok.take1 {p : PS} {m : Nat} (h : p.Ok m) (v : Ver) : (p.take1 v).Ok (m + 1) := ⟨J.sput_rise h.rise v, J.sput_sm h.sm v, h.wl, h.wp, h.rl, h.id⟩
theorem Ok.moved {p : PS} {m : Nat} (h : p.Ok m) (rs : List Rng) (hrl : rs.length ≤ 1000000) : (p.moved rs).Ok m :=
  ⟨J.smove_rise h.rise rs, J.smove_sm h.sm rs, Nat.le_trans (List.length_filter_le ..) h.wl, fun v hv => h.wp v (List.mem_filter.1 hv).1, hrl, h.id⟩
theorem Ok.mvK {p : PS} {m : Nat} (h : p.Ok m) (rs : List Rng) (hrl : rs.length ≤ 1000000) (l : List Ver) : ∀ k, (p.mvK rs l k).Ok (m + k)
  | 0 => h.moved rs hrl
  | k + 1 => by
    have ih := h.mvK rs hrl l k
    by_cases hk : k < l.length
    · rw [p.mvK_succ rs l hk]
      exact ih.take1 _
    · have e : p.mvK rs l (k + 1) = p.mvK rs l k := by
        unfold PS.mvK
        rw [List.take_of_length_le (by omega), List.take_of_length_le (by omega)]
      rw [e]
      exact ih.mono (by omega)
theorem Ok.move {p : PS} {m : Nat} (h : p.Ok m) (rs : List Rng) (hrl : rs.length ≤ 1000000) (l : List Ver) : (p.move rs l).Ok (m + l.length) := by
  rw [← p.mvK_all rs l]
  exact h.mvK rs hrl l l.length
theorem Ok.write {p : PS} {m : Nat} (h : p.Ok m) (key value : ByteArray) (gone : Bool) (past : List Dep) : (p.write key value gone past).Ok (m + 1) := by
  unfold PS.write
  split
  · exact ⟨J.sput_rise h.rise _, J.sput_sm h.sm _, h.wl, h.wp, h.rl, h.id⟩
  · exact h.mono (Nat.le_succ m)
theorem pushE_zero {l : List Ver} {v : Ver} (h : J.pushE l v = 0) : J.checkB v = true ∧ l.length < 24 := by
  unfold J.pushE at h
  split at h
  · rename_i h1
    split at h
    · omega
    · rename_i h2
      exact ⟨h1, by omega⟩
  · omega
theorem Ok.arrive {p : PS} {m : Nat} (h : p.Ok m) (v : Ver) : (p.arrive v).Ok m := by
  unfold PS.arrive
  split
  · rename_i he
    split
    · exact ⟨h.rise, h.sm, h.wl, h.wp, h.rl, h.id⟩
    · rename_i hf
      unfold PS.arriveE at he
      split at he
      · omega
      · try rw [if_neg hf] at he
        split at he
        · omega
        · obtain ⟨h1, h2⟩ := pushE_zero he
          refine ⟨h.rise, h.sm, ?_, fun w hw => ?_, h.rl, h.id⟩
          · show (p.wait ++ [v]).length ≤ 24
            simp; omega
          · rcases List.mem_append.1 hw with hw | hw
            · exact h.wp w hw
            · cases List.mem_singleton.1 hw; exact h1
  · exact h
theorem Ok.step {p : PS} {m : Nat} (h : p.Ok m) : p.step.Ok (m + 1) := by
  unfold PS.step
  split
  · refine ⟨J.sput_rise h.rise _, J.sput_sm h.sm _, Nat.le_trans (List.length_eraseIdx_le ..) h.wl, fun w hw => h.wp w (List.mem_of_mem_eraseIdx hw), h.rl, h.id⟩
  · exact h.mono (Nat.le_succ m)
theorem Ok.clean {p : PS} {m : Nat} (h : p.Ok m) (n s : Int) (pins : List Dep) : (p.clean n s pins).Ok m := ⟨J.sclean_rise h.rise n s pins, J.sclean_sm h.sm n s pins, h.wl, h.wp, h.rl, h.id⟩
theorem Ok.zero {k : Int} (hk : 0 ≤ k ∧ k < 6) {rs : List Rng} (hrl : rs.length ≤ 1000000) : (PS.zero k rs).Ok 0 := ⟨J.rise_nil, J.sm_nil 0, Nat.zero_le _, (fun v hv => nomatch hv), hrl, hk⟩
end PS
section
variable (p : PS) (b : Nat)
end
theorem stNew_g (k : Int) (hk : 0 ≤ k ∧ k < 6) (rs : List Rng) (hrl : rs.length ≤ 1000000) : GCallE Tryz.prog 11 [.d (iv k), .d (rngA rs)] [] (fun b : Nat => some (ST (PS.zero k rs) b, .bx 1001 0 0)) := by
  refine GCallE_enterL (fun _ _ => by kernel_rfl) Tryz.func11 rfl Tryz.ntmps11 (ReadsS.r1 Tryz.results11) (Nat.le_of_ble_eq_true rfl) (fun hok hokB M0 w0 hl => ?_)
  refine Aw_seq (Aw_region ?_)
  refine Al_p Pu_mvr ?_
  refine Al_nil (Aw_seq (Aw_seq (Aw_region ?_)))
  refine Al_p Pu_mvl ?_
  refine Al_p (Pu_cmp rfl rfl rfl rfl) ?_
  refine Al_p Pu_mvl ?_
  refine Al_st (St_gd [] rfl rfl rfl rfl trivial (fun hg8 => by exact Pu_move (.inl rfl) (by conv => lhs; whnf))) rfl (by decide) (by kernel_rfl) (by intro j b oj dj h1 h2 h3; cases h1; cases h2; cases h3; decide) ?_
  refine Al_st (St_gd [8] rfl rfl rfl rfl ⟨⟨_, rfl⟩, trivial⟩ (fun hg9 => Pu_cmp rfl rfl rfl rfl)) rfl (by decide) (by kernel_rfl) (by intro j b oj dj h1 h2 h3; cases h1; cases h2; cases h3; decide) ?_
  refine Al_p (Pu_or rfl rfl rfl rfl) ?_
  refine Al_nil ?_
  refine Aw_cond rfl (fun h10 => ?_) (fun h10 => ?_)
  · skip
    exfalso
    simp only [Bool.or_eq_true, decide_eq_true_eq] at h10
    omega
  · skip
    refine Aw_skip (Aw_seq (Aw_region ?_))
    refine Al_p Pu_mvl ?_
    refine Al_gcallE [] [(1001, 12), (1002, 120)] (snew_g rs hrl) rfl rfl rfl (by decide) (by kernel_rfl) trivial (fun _ => rfl) rfl rfl ⟨Sub.rfl, trivial⟩ ?_
    rintro b g12
    refine Al_p (Pu_buildAg (aa := [(0, _)]) rfl Tryz.underlying82 Tryz.zeroValue82 (places82 Tryz.underlying82) (by kernel_rfl) ⟨rfl, rfl, trivial⟩ rfl) ?_
    refine Al_p Pu_mvl ?_
    refine Al_p (Pu_buildAg (aa := [(0, _), (1, _)]) rfl Tryz.underlying84 Tryz.zeroValue84 (places84 Tryz.underlying84) (by kernel_rfl) ⟨rfl, rfl, rfl, rfl, trivial⟩ rfl) ?_
    refine Al_boxAg rfl rfl rfl (by decide) (by kernel_rfl) rfl (fun g16 => ?_)
    refine Al_p Pu_mvr ?_
    refine Al_nil ?_
    refine Aw_boxle (k := 16) [.bx 12 g12 0, .d (iv k), .d (versA []), .d (iv 0), .d (iv 0)] rfl ⟨Sub.rfl, Sub.rfl, Sub.nil, Sub.rfl, Sub.rfl, trivial⟩ ?_
    refine Aw_ret ?_
    exact ⟨b, _, _, [(1001, 16, g16), (1002, 12, g12), (1003, 120, g12)], rfl, Sub.rfl, ⟨rfl, rfl, rfl, trivial⟩, rfl⟩ -- ret 0
theorem stNew_no (k : Int) (hk : ¬ (0 ≤ k ∧ k < 6)) (rs : List Rng) : ACall Tryz.prog 11 [iv k, rngA rs] (.v (.pointer none)) := by
  refine ACall_enter (fun _ _ => by kernel_rfl) Tryz.func11 rfl Tryz.ntmps11 Tryz.results11 (Nat.le_of_ble_eq_true rfl) (fun hok M0 w0 hnl => ?_)
  refine Aw_seq (Aw_region ?_)
  refine Al_p Pu_mvr ?_
  refine Al_nil (Aw_seq (Aw_seq (Aw_region ?_)))
  refine Al_p Pu_mvl ?_
  refine Al_p (Pu_cmp rfl rfl rfl rfl) ?_
  refine Al_p Pu_mvl ?_
  refine Al_st (St_gd [] rfl rfl rfl rfl trivial (fun hg8 => by exact Pu_move (.inl rfl) (by conv => lhs; whnf))) rfl (by decide) (by kernel_rfl) (by intro j b oj dj h1 h2 h3; cases h1; cases h2; cases h3; decide) ?_
  refine Al_st (St_gd [8] rfl rfl rfl rfl ⟨⟨_, rfl⟩, trivial⟩ (fun hg9 => Pu_cmp rfl rfl rfl rfl)) rfl (by decide) (by kernel_rfl) (by intro j b oj dj h1 h2 h3; cases h1; cases h2; cases h3; decide) ?_
  refine Al_p (Pu_or rfl rfl rfl rfl) ?_
  refine Al_nil ?_
  refine Aw_cond rfl (fun h10 => ?_) (fun h10 => ?_)
  · skip
    refine Aw_seq (Aw_region ?_)
    refine Al_p Pu_mvr ?_
    refine Al_nil ?_
    refine Aw_ret ?_
    exact Sub.rfl -- ret 0
  · skip
    exfalso
    apply hk
    simp only [Bool.or_eq_false_iff, decide_eq_false_iff_not] at h10
    omega
end Go.Proofs.YtmbaeloiepjakaaGreat
end

section
set_option maxRecDepth 100000
namespace Go.Proofs.YtmbaeloiepjakaaGreat
open Go.RowKit A R
namespace J
def cut12 (d : Dep) : Dep := ⟨d.key.extract 0 12, d.n, d.s⟩
def adds (l : List Dep) : List Dep := l.foldl (fun p d => D.add p (cut12 d)) []
theorem adds_snoc (l : List Dep) (d : Dep) : adds (l ++ [d]) = D.add (adds l) (cut12 d) := by simp [adds]
theorem adds_good (l : List Dep) : D.Good (adds l) ∧ (adds l).length ≤ l.length := by
  have : ∀ (l : List Dep) (p : List Dep), D.Good p → D.Good (l.foldl (fun p d => D.add p (cut12 d)) p) ∧ (l.foldl (fun p d => D.add p (cut12 d)) p).length ≤ p.length + l.length := by
    intro l
    induction l with
    | nil => intro p h; exact ⟨h, Nat.le_refl _⟩
    | cons d r ih =>
      intro p h
      rw [List.foldl_cons]
      have h1 := ih (D.add p (cut12 d)) (D.add_good h (cut12 d))
      have h2 := D.add_len p (cut12 d)
      refine ⟨h1.1, ?_⟩
      simp only [List.length_cons]; omega
  have := this l [] D.good_nil
  simpa [adds] using this
end J
end Go.Proofs.YtmbaeloiepjakaaGreat
end

section
set_option maxRecDepth 100000
namespace Go.Proofs.YtmbaeloiepjakaaGreat
open Go.RowKit A R
open A.RowT
set_option maxRecDepth 100000 in
theorem tword_a (n : Int) : ACall Tryz.prog 22 [iv n] (tv (J.word n)) := by
  refine ACall_enter (fun _ _ => by kernel_rfl) Tryz.func22 rfl Tryz.ntmps22 Tryz.results22 (Nat.le_of_ble_eq_true rfl) (fun hok M0 w0 hnl => ?_)
  have h7 : 0 ≤ J.andI n 7 ∧ J.andI n 7 ≤ 7 := J.andI_le n 7 (by decide)
  refine Aw_seq (Aw_region ?_)
  refine Al_p Pu_mvr ?_
  refine Al_nil (Aw_seq (Aw_region ?_))
  refine Al_p Pu_mvl ?_
  refine Al_p (Pu_int_and (r := J.andI n 7) rfl rfl rfl rfl (fun _ => V.i64_ok _)) ?_
  refine Al_p (Pu_int_mul (r := 3 * J.andI n 7) rfl rfl rfl (J.wrapI64 (by simp only [A.inI]; omega)) (fun _ => by show A.inI _; simp only [A.inI]; omega)) ?_
  refine Al_p (Pu_add rfl rfl rfl (fun h1 h2 => by simp only [A.inI, A.maxI] at *; omega)) ?_
  refine Al_p (Pu_convW (k' := .u8) (r := ((UInt8.ofNat (97 + 3 * J.andI n 7).toNat).toNat : Int)) rfl Tryz.underlying3 Tryz.underlying5 rfl (J.u8_wrap (by omega)) ⟨by omega, by have := (UInt8.ofNat (97 + 3 * J.andI n 7).toNat).toNat_lt; omega⟩) ?_
  refine Al_p (Pu_slice1 rfl Tryz.underlying97 Tryz.sizeOf5 Tryz.zeroValue5 rfl (by decide) (by decide) (by kernel_rfl) rfl rfl rfl) ?_
  refine Al_p (Pu_convBS (bs := [UInt8.ofNat (97 + 3 * J.andI n 7).toNat]) rfl Tryz.underlying97 Tryz.underlying5 Tryz.underlying9 rfl) ?_
  refine Al_p Pu_mvr ?_
  refine Al_nil ?_
  refine Aw_ret ?_
  exact Sub.rfl -- ret 0
set_option maxRecDepth 100000 in
theorem tranges_a (n : Int) : ACall Tryz.prog 12 [iv n] (rngA (J.ranges n)) := by
  refine ACall_enter (fun _ _ => by kernel_rfl) Tryz.func12 rfl Tryz.ntmps12 Tryz.results12 (Nat.le_of_ble_eq_true rfl) (fun hok M0 w0 hnl => ?_)
  have h3 : 0 ≤ J.andI n 3 ∧ J.andI n 3 ≤ 3 := J.andI_le n 3 (by decide)
  refine Aw_seq (Aw_region ?_)
  refine Al_p Pu_mvr ?_
  refine Al_nil (Aw_seq (Aw_seq (Aw_region ?_)))
  refine Al_p Pu_mvl ?_
  refine Al_p (Pu_int_and (r := J.andI n 3) rfl rfl rfl rfl (fun _ => V.i64_ok _)) ?_
  refine Al_nil (Aw_block (Aw_seq (Aw_region ?_)))
  refine Al_p (Pu_cmp rfl rfl rfl rfl) ?_
  refine Al_p Pu_mvr ?_
  refine Al_nil ?_
  refine Aw_cond rfl (fun h5 => ?_) (fun h5 => ?_)
  · (try simp only [decide_eq_true_eq, decide_eq_false_iff_not, Bool.and_eq_true, Bool.or_eq_true, Bool.and_eq_false_iff, Bool.or_eq_false_iff, Bool.not_eq_true', Bool.not_eq_false', beq_iff_eq, Bool.not_eq_eq_eq_not, Bool.not_true, Bool.not_false, List.length_map, Bool.and_true, Bool.and_false, Bool.false_and, Bool.true_and, Bool.or_false, Bool.false_or] at h5)
    refine Aw_seq (Aw_region ?_)
    refine Al_p (Pu_build (aa := []) rfl Tryz.underlying49 Tryz.zeroValue49 (places49 Tryz.underlying49) (by kernel_rfl) trivial rfl) ?_
    refine Al_p (Pu_slice1 rfl Tryz.underlying26 Tryz.sizeOf49 Tryz.zeroValue49 rfl (by decide) (by decide) (by kernel_rfl) rfl rfl rfl) ?_
    refine Al_p Pu_mvr ?_
    refine Al_nil ?_
    refine Aw_ret ?_
    exact Sub.d (by unfold J.ranges; rw [if_pos h5]; rfl) -- ret 0
  · (try simp only [decide_eq_true_eq, decide_eq_false_iff_not, Bool.and_eq_true, Bool.or_eq_true, Bool.and_eq_false_iff, Bool.or_eq_false_iff, Bool.not_eq_true', Bool.not_eq_false', beq_iff_eq, Bool.not_eq_eq_eq_not, Bool.not_true, Bool.not_false, List.length_map, Bool.and_true, Bool.and_false, Bool.false_and, Bool.true_and, Bool.or_false, Bool.false_or] at h5)
    refine Aw_seq (Aw_region ?_)
    refine Al_p (Pu_cmp rfl rfl rfl rfl) ?_
    refine Al_p Pu_mvr ?_
    refine Al_nil ?_
    refine Aw_cond rfl (fun h9 => ?_) (fun h9 => ?_)
    · (try simp only [decide_eq_true_eq, decide_eq_false_iff_not, Bool.and_eq_true, Bool.or_eq_true, Bool.and_eq_false_iff, Bool.or_eq_false_iff, Bool.not_eq_true', Bool.not_eq_false', beq_iff_eq, Bool.not_eq_eq_eq_not, Bool.not_true, Bool.not_false, List.length_map, Bool.and_true, Bool.and_false, Bool.false_and, Bool.true_and, Bool.or_false, Bool.false_or] at h9)
      refine Aw_seq (Aw_region ?_)
      refine Al_p (Pu_build (aa := [(1, _)]) rfl Tryz.underlying49 Tryz.zeroValue49 (places49 Tryz.underlying49) (by kernel_rfl) ⟨rfl, rfl, rfl, trivial⟩ rfl) ?_
      refine Al_p (Pu_slice1 rfl Tryz.underlying26 Tryz.sizeOf49 Tryz.zeroValue49 rfl (by decide) (by decide) (by kernel_rfl) rfl rfl rfl) ?_
      refine Al_p Pu_mvr ?_
      refine Al_nil ?_
      refine Aw_ret ?_
      exact Sub.d (by unfold J.ranges; rw [if_neg h5, if_pos h9]; rfl) -- ret 1
    · (try simp only [decide_eq_true_eq, decide_eq_false_iff_not, Bool.and_eq_true, Bool.or_eq_true, Bool.and_eq_false_iff, Bool.or_eq_false_iff, Bool.not_eq_true', Bool.not_eq_false', beq_iff_eq, Bool.not_eq_eq_eq_not, Bool.not_true, Bool.not_false, List.length_map, Bool.and_true, Bool.and_false, Bool.false_and, Bool.true_and, Bool.or_false, Bool.false_or] at h9)
      refine Aw_seq (Aw_region ?_)
      refine Al_p (Pu_cmp rfl rfl rfl rfl) ?_
      refine Al_p Pu_mvr ?_
      refine Al_nil ?_
      refine Aw_cond rfl (fun h13 => ?_) (fun h13 => ?_)
      · (try simp only [decide_eq_true_eq, decide_eq_false_iff_not, Bool.and_eq_true, Bool.or_eq_true, Bool.and_eq_false_iff, Bool.or_eq_false_iff, Bool.not_eq_true', Bool.not_eq_false', beq_iff_eq, Bool.not_eq_eq_eq_not, Bool.not_true, Bool.not_false, List.length_map, Bool.and_true, Bool.and_false, Bool.false_and, Bool.true_and, Bool.or_false, Bool.false_or] at h13)
        refine Aw_seq (Aw_region ?_)
        refine Al_p (Pu_build (aa := [(0, _), (1, _)]) rfl Tryz.underlying49 Tryz.zeroValue49 (places49 Tryz.underlying49) (by kernel_rfl) ⟨rfl, rfl, rfl, rfl, rfl, rfl, trivial⟩ rfl) ?_
        refine Al_p (Pu_build (aa := [(0, _)]) rfl Tryz.underlying49 Tryz.zeroValue49 (places49 Tryz.underlying49) (by kernel_rfl) ⟨rfl, rfl, rfl, trivial⟩ rfl) ?_
        refine Al_p (Pu_buildSlice (aa := [(0, _), (1, _)]) rfl Tryz.underlying26 Tryz.sizeOf49 Tryz.zeroValue49 rfl (by decide) (by decide) (by decide) (by kernel_rfl) ⟨rfl, rfl, rfl, rfl, rfl, rfl, trivial⟩ ((rfl : _ = some [[tv ⟨#[100]⟩, tv ⟨#[109]⟩], [tv ⟨#[115]⟩, tv ⟨#[]⟩]].flatten)) rfl rfl) ?_
        refine Al_p Pu_mvr ?_
        refine Al_nil ?_
        refine Aw_ret ?_
        exact Sub.d (by unfold J.ranges; rw [if_neg h5, if_neg h9, if_pos h13]; rfl) -- ret 2
      · (try simp only [decide_eq_true_eq, decide_eq_false_iff_not, Bool.and_eq_true, Bool.or_eq_true, Bool.and_eq_false_iff, Bool.or_eq_false_iff, Bool.not_eq_true', Bool.not_eq_false', beq_iff_eq, Bool.not_eq_eq_eq_not, Bool.not_true, Bool.not_false, List.length_map, Bool.and_true, Bool.and_false, Bool.false_and, Bool.true_and, Bool.or_false, Bool.false_or] at h13)
        refine Aw_skip (Aw_seq (Aw_region ?_))
        refine Al_p Pu_mvr ?_
        refine Al_nil ?_
        refine Aw_ret ?_
        exact (show A.Sub _ (.d (rngA (J.ranges n))) from by rw [show J.ranges n = [] from by unfold J.ranges; rw [if_neg h5, if_neg h9, if_neg h13]]; exact Sub.nil) -- ret 3
structure TOp where
  kind : Int
  key : Int
  n : Int
  site : Int
  gone : Bool
  value : ByteArray
  past : List Dep
def TOp.row (o : TOp) : List AV := [iv o.kind, iv o.key, iv o.n, iv o.site, bv o.gone, tv o.value, .sl 3 (o.past.map Dep.row)]
instance : Inhabited TOp := ⟨⟨0, 0, 0, 0, false, ⟨#[]⟩, []⟩⟩
namespace TOp
def pastP (o : TOp) : List Dep := J.adds (o.past.take 5)
def val (o : TOp) : ByteArray := S.short o.value
def ver (o : TOp) : Ver := ⟨J.word o.key, o.val, false, o.n, o.site, o.pastP⟩
theorem past_len (o : TOp) : o.pastP.length ≤ 5 := Nat.le_trans (J.adds_good _).2 (by simp; omega)
theorem past_good (o : TOp) : D.Good o.pastP := (J.adds_good _).1
end TOp
theorem tvalue_a (o : TOp) : ACall Tryz.prog 23 [.row o.row] (tv o.val) := by
  refine ACall_enter (fun _ _ => by kernel_rfl) Tryz.func23 rfl Tryz.ntmps23 Tryz.results23 (Nat.le_of_ble_eq_true rfl) (fun hok M0 w0 hnl => ?_)
  refine Aw_seq (Aw_region ?_)
  refine Al_p (Pu_boxN rfl rfl) ?_
  refine Al_p Pu_mvr ?_
  refine Al_nil (Aw_seq (Aw_seq (Aw_region ?_)))
  refine Al_p (Pu_field 5 rfl Tryz.underlying36 rfl rfl Tryz.sizeOf9 rfl) ?_
  refine Al_p (Pu_load1 rfl Tryz.isAgg9 rfl rfl) ?_
  refine Al_p (Pu_lenS rfl Tryz.underlying9 rfl) ?_
  refine Al_p (Pu_cmp rfl rfl rfl rfl) ?_
  refine Al_nil ?_
  refine Aw_cond rfl (fun h6 => ?_) (fun h6 => ?_)
  · (try simp only [decide_eq_true_eq, decide_eq_false_iff_not, Bool.and_eq_true, Bool.or_eq_true, Bool.and_eq_false_iff, Bool.or_eq_false_iff, Bool.not_eq_true', Bool.not_eq_false', beq_iff_eq, Bool.not_eq_eq_eq_not, Bool.not_true, Bool.not_false, List.length_map, Bool.and_true, Bool.and_false, Bool.false_and, Bool.true_and, Bool.or_false, Bool.false_or] at h6)
    refine Aw_seq (Aw_region ?_)
    refine Al_p (Pu_field 5 rfl Tryz.underlying36 rfl rfl Tryz.sizeOf9 rfl) ?_
    refine Al_p (Pu_load1 rfl Tryz.isAgg9 rfl rfl) ?_
    refine Al_p (Pu_subS (0) (40) rfl Tryz.underlying9 rfl rfl ⟨_, rfl, by omega⟩ ⟨by first | omega | (simp; omega), by first | omega | (simp; omega)⟩) ?_
    refine Al_p Pu_mvr ?_
    refine Al_nil ?_
    refine Aw_ret ?_
    exact Sub.rfl -- ret 0
  · (try simp only [decide_eq_true_eq, decide_eq_false_iff_not, Bool.and_eq_true, Bool.or_eq_true, Bool.and_eq_false_iff, Bool.or_eq_false_iff, Bool.not_eq_true', Bool.not_eq_false', beq_iff_eq, Bool.not_eq_eq_eq_not, Bool.not_true, Bool.not_false, List.length_map, Bool.and_true, Bool.and_false, Bool.false_and, Bool.true_and, Bool.or_false, Bool.false_or] at h6)
    refine Aw_skip (Aw_seq (Aw_region ?_))
    refine Al_p (Pu_field 5 rfl Tryz.underlying36 rfl rfl Tryz.sizeOf9 rfl) ?_
    refine Al_p (Pu_load1 rfl Tryz.isAgg9 rfl rfl) ?_
    refine Al_p Pu_mvr ?_
    refine Al_nil ?_
    refine Aw_ret ?_
    exact Sub.str (ext_self _ _ (by omega)).symm -- ret 1
theorem tpast_a (o : TOp) : ACall Tryz.prog 24 [.row o.row] (.sl 3 (o.pastP.map Dep.row)) := by
  refine ACall_enter (fun _ _ => by kernel_rfl) Tryz.func24 rfl Tryz.ntmps24 Tryz.results24 (Nat.le_of_ble_eq_true rfl) (fun hok M0 w0 hnl => ?_)
  have hpl := ((hok _ (List.mem_cons_self ..)).row (.sl 3 (o.past.map Dep.row)) (by simp [TOp.row])).len
  rw [List.length_map] at hpl
  refine Aw_seq (Aw_region ?_)
  refine Al_p (Pu_boxN rfl rfl) ?_
  refine Al_p Pu_mvr ?_
  refine Al_nil (Aw_seq (Aw_region ?_))
  refine Al_p Pu_mvr ?_
  refine Al_nil (Aw_seq (Aw_seq (Aw_region ?_)))
  refine Al_p Pu_mvr ?_
  refine Al_nil (Aw_block ?_)
  refine Aw_loopk (ι := Nat) [1] [] (fun k => [(4, .d (iv k)), (3, .d (.sl 3 ((J.adds (o.past.take k)).map Dep.row)))]) (fun k => []) (fun k => k ≤ o.past.length ∧ k ≤ 5) (fun k => 5 - k) (0) (⟨Nat.zero_le _, Nat.zero_le _⟩) ⟨Sub.rfl, Sub.nil, trivial⟩ trivial ?_
  rintro k ⟨hk1, hk2⟩
  refine Aw_seq (Aw_seq (Aw_region ?_))
  refine Al_p Pu_mvl ?_
  refine Al_p (Pu_field 6 rfl Tryz.underlying36 rfl rfl Tryz.sizeOf32 rfl) ?_
  refine Al_p (Pu_load1 rfl Tryz.isAgg32 rfl rfl) ?_
  refine Al_p (Pu_len rfl Tryz.underlying32 rfl (by first | exact List.length_map .. | exact rfl)) ?_
  refine Al_p (Pu_cmp rfl rfl rfl rfl) ?_
  refine Al_p Pu_mvl ?_
  refine Al_st (St_gd [] rfl rfl rfl rfl trivial (fun hg12 => by exact Pu_move (.inl rfl) (by conv => lhs; whnf))) rfl (by decide) (by kernel_rfl) (by intro j b oj dj h1 h2 h3; cases h1; cases h2; cases h3; decide) ?_
  refine Al_st (St_gd [12] rfl rfl rfl rfl ⟨⟨_, rfl⟩, trivial⟩ (fun hg13 => Pu_cmp rfl rfl rfl rfl)) rfl (by decide) (by kernel_rfl) (by intro j b oj dj h1 h2 h3; cases h1; cases h2; cases h3; decide) ?_
  refine Al_p (Pu_and rfl rfl rfl rfl) ?_
  refine Al_nil ?_
  refine Aw_cond rfl (fun h14 => ?_) (fun h14 => ?_)
  · (try simp only [decide_eq_true_eq, decide_eq_false_iff_not, Bool.and_eq_true, Bool.or_eq_true, Bool.and_eq_false_iff, Bool.or_eq_false_iff, Bool.not_eq_true', Bool.not_eq_false', beq_iff_eq, Bool.not_eq_eq_eq_not, Bool.not_true, Bool.not_false, List.length_map, Bool.and_true, Bool.and_false, Bool.false_and, Bool.true_and, Bool.or_false, Bool.false_or] at h14)
    obtain ⟨ha, hb⟩ : k < o.past.length ∧ k < 5 := by omega
    have hln := (J.adds_good (o.past.take k)).2
    have hl2 : (o.past.take k).length ≤ 5 := by simp; omega
    have hsn : J.adds (o.past.take (k + 1)) = D.add (J.adds (o.past.take k)) (J.cut12 (o.past.getD k default)) := by
      rw [List.take_succ_eq_append_getElem ha, J.adds_snoc, show o.past.getD k default = o.past[k] from by simp [ha]]
    refine Aw_skip ?_
    -- join 0: live [1, 3, 4], turned [3]
    refine Aw_seq (Aw_block (Aw_seq (Aw_region ?_)))
    refine Al_p (Pu_field 6 rfl Tryz.underlying36 rfl rfl Tryz.sizeOf32 rfl) ?_
    refine Al_p (Pu_load1 rfl Tryz.isAgg32 rfl rfl) ?_
    refine Al_p Pu_mvl ?_
    refine Al_p (Pu_index rfl Tryz.underlying32 Tryz.sizeOf59 rfl rfl (rfl) (mapgetD (d := default) ha)) ?_
    refine Al_p (Pu_loadN rfl Tryz.isAgg59 Tryz.sizeOf59 rfl (Nat.le_of_ble_eq_true rfl)) ?_
    refine Al_alloc rfl rfl rfl (by decide) Tryz.zeroValue59 rfl (by kernel_rfl) (fun g5 => ?_)
    refine Al_storeN rfl rfl rfl (by kernel_rfl) Tryz.isAgg59 Tryz.sizeOf59 rfl rfl rfl rfl (Nat.le_of_ble_eq_true rfl) ?_
    refine Al_nil ?_
    -- join 1: live [1, 3, 4, 5], turned []
    refine Aw_seq (Aw_seq (Aw_region ?_))
    refine Al_p (Pu_fieldb 0 rfl Tryz.underlying59 rfl rfl Tryz.sizeOf9 rfl) ?_
    refine Al_p (Pu_loadb rfl Tryz.isAgg9 rfl rfl rfl) ?_
    refine Al_p (Pu_lenS rfl Tryz.underlying9 rfl) ?_
    refine Al_p (Pu_cmp rfl rfl rfl rfl) ?_
    refine Al_nil ?_
    refine Aw_cond rfl (fun h25 => ?_) (fun h25 => ?_)
    · (try simp only [decide_eq_true_eq, decide_eq_false_iff_not, Bool.and_eq_true, Bool.or_eq_true, Bool.and_eq_false_iff, Bool.or_eq_false_iff, Bool.not_eq_true', Bool.not_eq_false', beq_iff_eq, Bool.not_eq_eq_eq_not, Bool.not_true, Bool.not_false, List.length_map, Bool.and_true, Bool.and_false, Bool.false_and, Bool.true_and, Bool.or_false, Bool.false_or] at h25)
      refine Aw_region ?_
      refine Al_p (Pu_fieldb 0 rfl Tryz.underlying59 rfl rfl Tryz.sizeOf9 rfl) ?_
      refine Al_p (Pu_loadb rfl Tryz.isAgg9 rfl rfl rfl) ?_
      refine Al_p (Pu_subS (0) (12) rfl Tryz.underlying9 rfl rfl ⟨_, rfl, by omega⟩ ⟨by first | omega | (simp; omega), by first | omega | (simp; omega)⟩) ?_
      refine Al_p (Pu_fieldb 0 rfl Tryz.underlying59 rfl rfl Tryz.sizeOf9 rfl) ?_
      refine Al_store1 rfl rfl rfl (by kernel_rfl) Tryz.isAgg9 Tryz.sizeOf9 rfl rfl (Nat.le_of_ble_eq_true rfl) (by conv => lhs; whnf) rfl ?_
      refine Al_nil (Aw_region ?_)
      refine Al_p Pu_mvl ?_
      refine Al_p (Pu_loadbN (r := [_, _, _]) rfl Tryz.isAgg59 Tryz.sizeOf59 rfl rfl rfl rfl) ?_
      refine Al_p (Pu_call (dadd_a (J.adds (o.past.take k)) (J.cut12 (o.past.getD k default)) (by omega)) rfl ⟨Sub.rfl, (by first | exact Sub.rfl | exact Sub.d (by rw [hcut2]; rfl)), trivial⟩) ?_
      refine Al_p Pu_mvr ?_
      refine Al_nil (Aw_region ?_)
      refine Al_p Pu_mvl ?_
      refine Al_p (Pu_add rfl rfl rfl (fun h1 h2 => by simp only [A.inI, A.maxI] at *; omega)) ?_
      refine Al_p Pu_mvr ?_
      refine Al_nil ?_
      exact ⟨k + 1, ⟨by omega, by omega⟩, by omega, Le.ov ⟨Sub.num (by omega), Sub.d (by rw [hsn]), trivial⟩ ⟨Sub.rfl, trivial⟩ trivial trivial⟩ -- loop 0 next.0
    · (try simp only [decide_eq_true_eq, decide_eq_false_iff_not, Bool.and_eq_true, Bool.or_eq_true, Bool.and_eq_false_iff, Bool.or_eq_false_iff, Bool.not_eq_true', Bool.not_eq_false', beq_iff_eq, Bool.not_eq_eq_eq_not, Bool.not_true, Bool.not_false, List.length_map, Bool.and_true, Bool.and_false, Bool.false_and, Bool.true_and, Bool.or_false, Bool.false_or] at h25)
      have hcut : (o.past.getD k default).key.extract 0 12 = (o.past.getD k default).key := ext_self _ _ (by omega)
      have hcut2 : J.cut12 (o.past.getD k default) = o.past.getD k default := by unfold J.cut12; rw [hcut]
      refine Aw_skip (Aw_region ?_)
      refine Al_p Pu_mvl ?_
      refine Al_p (Pu_loadbN (r := [_, _, _]) rfl Tryz.isAgg59 Tryz.sizeOf59 rfl rfl rfl rfl) ?_
      refine Al_p (Pu_call (dadd_a (J.adds (o.past.take k)) (J.cut12 (o.past.getD k default)) (by omega)) rfl ⟨Sub.rfl, (by first | exact Sub.rfl | exact Sub.d (by rw [hcut2]; rfl)), trivial⟩) ?_
      refine Al_p Pu_mvr ?_
      refine Al_nil (Aw_region ?_)
      refine Al_p Pu_mvl ?_
      refine Al_p (Pu_add rfl rfl rfl (fun h1 h2 => by simp only [A.inI, A.maxI] at *; omega)) ?_
      refine Al_p Pu_mvr ?_
      refine Al_nil ?_
      exact ⟨k + 1, ⟨by omega, by omega⟩, by omega, Le.ov ⟨Sub.num (by omega), Sub.d (by rw [hsn]), trivial⟩ ⟨Sub.rfl, trivial⟩ trivial trivial⟩ -- loop 0 next.1
  · (try simp only [decide_eq_true_eq, decide_eq_false_iff_not, Bool.and_eq_true, Bool.or_eq_true, Bool.and_eq_false_iff, Bool.or_eq_false_iff, Bool.not_eq_true', Bool.not_eq_false', beq_iff_eq, Bool.not_eq_eq_eq_not, Bool.not_true, Bool.not_false, List.length_map, Bool.and_true, Bool.and_false, Bool.false_and, Bool.true_and, Bool.or_false, Bool.false_or] at h14)
    have hfin : J.adds (o.past.take k) = o.pastP := by
      unfold TOp.pastP
      rcases Nat.lt_or_ge k 5 with h | h
      · rw [List.take_of_length_le (by omega), List.take_of_length_le (by omega)]
      · rw [show k = 5 by omega]
    refine Aw_exit (Aw_seq (Aw_region ?_))
    refine Al_p Pu_mvl ?_
    refine Al_p Pu_mvr ?_
    refine Al_nil ?_
    refine Aw_ret ?_
    exact Sub.d (by rw [hfin]) -- ret 0
theorem tversion_a (o : TOp) : ACall Tryz.prog 14 [.row o.row] (.row o.ver.row) := by
  refine ACall_enterG (fun _ _ => by kernel_rfl) Tryz.func14 rfl Tryz.ntmps14 (Reads.cN Tryz.results14 Tryz.isAgg34 Tryz.sizeOf34) (Nat.le_of_ble_eq_true rfl) (fun hok M0 w0 hnl => ?_)
  refine Aw_seq (Aw_region ?_)
  refine Al_p (Pu_boxN rfl rfl) ?_
  refine Al_alloc rfl rfl rfl (by decide) Tryz.zeroValue34 rfl (by kernel_rfl) (fun g2 => ?_)
  refine Al_nil (Aw_seq ?_)
  refine Aw_draw 13 (by kernel_rfl) (by kernel_rfl) ?_
  refine Dr_p (Pu_field 1 rfl Tryz.underlying36 rfl rfl Tryz.sizeOf3 rfl) ?_
  refine Dr_p (Pu_load1 rfl Tryz.isAgg3 rfl rfl) ?_
  refine Dr_p (Pu_call (tword_a o.key) rfl ⟨Sub.rfl, trivial⟩) ?_
  refine Dr_p (Pu_loadN rfl Tryz.isAgg36 Tryz.sizeOf36 rfl (Nat.le_of_ble_eq_true rfl)) ?_
  refine Dr_p (Pu_call (tvalue_a o) rfl ⟨Sub.rfl, trivial⟩) ?_
  refine Dr_p (Pu_field 2 rfl Tryz.underlying36 rfl rfl Tryz.sizeOf3 rfl) ?_
  refine Dr_p (Pu_load1 rfl Tryz.isAgg3 rfl rfl) ?_
  refine Dr_p (Pu_field 3 rfl Tryz.underlying36 rfl rfl Tryz.sizeOf3 rfl) ?_
  refine Dr_p (Pu_load1 rfl Tryz.isAgg3 rfl rfl) ?_
  refine Dr_p (Pu_build (aa := [(0, _), (1, _)]) rfl Tryz.underlying31 Tryz.zeroValue31 (places31 Tryz.underlying31) (by kernel_rfl) ⟨rfl, rfl, rfl, rfl, rfl, rfl, trivial⟩ rfl) ?_
  refine Dr_p (Pu_loadN rfl Tryz.isAgg36 Tryz.sizeOf36 rfl (Nat.le_of_ble_eq_true rfl)) ?_
  refine Dr_p (Pu_call (tpast_a o) rfl ⟨Sub.rfl, trivial⟩) ?_
  refine Dr_p (Pu_build (aa := [(0, _), (1, _), (3, _), (4, _)]) rfl Tryz.underlying34 Tryz.zeroValue34 (places34 Tryz.underlying34) (by kernel_rfl) ⟨rfl, rfl, rfl, rfl, rfl, rfl, rfl, rfl, rfl, rfl, rfl, rfl, trivial⟩ rfl) ?_
  refine Dr_nil ?_
  refine Al_storeN rfl rfl rfl (by kernel_rfl) Tryz.isAgg34 Tryz.sizeOf34 rfl rfl rfl rfl (Nat.le_of_ble_eq_true rfl) ?_
  refine Al_nil ?_
  refine Aw_ret ?_
  exact ⟨_, _, _, _, _, [_, _, _, _, _, _], rfl, rfl, rfl, rfl, rfl⟩ -- ret 0
namespace TOp
def exV : Ver := ⟨⟨#[98]⟩, ⟨#[]⟩, false, 2, 1, [⟨⟨#[97]⟩, 9, 0⟩]⟩
def ex0 : PS := PS.zero 0 [⟨⟨#[]⟩, ⟨#[]⟩⟩]
def ex1 : PS := ex0.write ⟨#[97]⟩ ⟨#[120]⟩ false []
def ex2 : PS := ex1.arrive exV
theorem e1 : ex0.writeE ⟨#[97]⟩ ⟨#[120]⟩ false [] = 0 ∧ (ex0.writeV ⟨#[97]⟩ ⟨#[120]⟩ false []).n = 1 ∧ (ex0.writeV ⟨#[97]⟩ ⟨#[120]⟩ false []).s = 0 := by decide +kernel
theorem e2 : ex1.arriveE exV = 0 := by decide +kernel
theorem e3 : ex2.stepV.isSome = false ∧ ex2.step.wait.length = 1 := by decide +kernel
end TOp
set_option maxHeartbeats 1000000 in
theorem tawake_a : ACall Tryz.prog 10 [] (bv true) := by
  refine ACall_enter (fun _ _ => by kernel_rfl) Tryz.func10 rfl Tryz.ntmps10 Tryz.results10 (Nat.le_of_ble_eq_true rfl) (fun hok M0 w0 hnl => ?_)
  have h0 : TOp.ex0.Ok 0 := PS.Ok.zero (by decide) (by decide)
  have h1 : TOp.ex1.Ok 1 := h0.write _ _ _ _
  have h2 : TOp.ex2.Ok 1 := h1.arrive _
  obtain ⟨f1, f2, f3⟩ := TOp.e1
  have f4 := TOp.e2
  obtain ⟨f5, f6⟩ := TOp.e3
  refine Aw_seq (Aw_region ?_)
  refine Al_p Pu_mvr ?_
  refine Al_nil (Aw_seq (Aw_region ?_))
  refine Al_p (Pu_build (aa := []) rfl Tryz.underlying49 Tryz.zeroValue49 (places49 Tryz.underlying49) (by kernel_rfl) trivial rfl) ?_
  refine Al_p (Pu_slice1 rfl Tryz.underlying26 Tryz.sizeOf49 Tryz.zeroValue49 rfl (by decide) (by decide) (by kernel_rfl) rfl rfl rfl) ?_
  refine Al_gcallE [] [(1001, 10), (1002, 100), (1003, 101)] (stNew_g 0 (by decide) [⟨⟨#[]⟩, ⟨#[]⟩⟩] (by decide)) rfl rfl rfl (by decide) (by kernel_rfl) trivial (fun _ => rfl) rfl rfl ⟨Sub.rfl, Sub.rfl, trivial⟩ ?_
  rintro b g10
  refine Al_p Pu_mvr ?_
  refine Al_nil (Aw_seq (Aw_seq (Aw_region ?_)))
  refine Al_p Pu_mvl ?_
  refine Al_p (Pu_eqnilb Tryz.underlying24 rfl rfl) ?_
  refine Al_nil ?_
  refine Aw_condF rfl (rfl) ?_
  refine Aw_skip (Aw_seq (Aw_region ?_))
  refine Al_p Pu_mvl ?_
  refine Al_gcall [(1001, 10, g10), (1002, 100, g10), (1003, 101, g10)] [] (stWrite_g TOp.ex0 b ⟨#[97]⟩ ⟨#[120]⟩ false [] (by decide) h0 (by decide)) rfl rfl rfl (by decide) (by kernel_rfl) ⟨rfl, rfl, rfl, trivial⟩ rfl ⟨Sub.rfl, Sub.rfl, Sub.rfl, Sub.rfl, Sub.nil, trivial⟩ (fun g15 => ?_)
  refine Al_p Pu_mvl ?_
  refine Al_p (Pu_extract rfl rfl rfl) ?_
  refine Al_p (Pu_extract rfl rfl rfl) ?_
  refine Al_alloc rfl rfl rfl (by decide) Tryz.zeroValue34 rfl (by kernel_rfl) (fun g2 => ?_)
  refine Al_storeN rfl rfl rfl (by kernel_rfl) Tryz.isAgg34 Tryz.sizeOf34 rfl rfl rfl rfl (Nat.le_of_ble_eq_true rfl) ?_
  refine Al_p Pu_mvr ?_
  refine Al_nil (Aw_seq (Aw_region ?_))
  refine Al_p Pu_mvl ?_
  refine Al_p (Pu_build (aa := [(0, _), (1, _)]) rfl Tryz.underlying31 Tryz.zeroValue31 (places31 Tryz.underlying31) (by kernel_rfl) ⟨rfl, rfl, rfl, rfl, rfl, rfl, trivial⟩ rfl) ?_
  refine Al_p (Pu_build (aa := [(0, _)]) rfl Tryz.underlying31 Tryz.zeroValue31 (places31 Tryz.underlying31) (by kernel_rfl) ⟨rfl, rfl, rfl, trivial⟩ rfl) ?_
  refine Al_p (Pu_build (aa := [(0, _), (1, _)]) rfl Tryz.underlying59 Tryz.zeroValue59 (places59 Tryz.underlying59) (by kernel_rfl) ⟨rfl, rfl, rfl, rfl, rfl, rfl, trivial⟩ rfl) ?_
  refine Al_p (Pu_slice1 rfl Tryz.underlying32 Tryz.sizeOf59 Tryz.zeroValue59 rfl (by decide) (by decide) (by kernel_rfl) rfl rfl rfl) ?_
  refine Al_p (Pu_build (aa := [(0, _), (3, _), (4, _)]) rfl Tryz.underlying34 Tryz.zeroValue34 (places34 Tryz.underlying34) (by kernel_rfl) ⟨rfl, rfl, rfl, rfl, rfl, rfl, rfl, rfl, rfl, trivial⟩ rfl) ?_
  refine Al_gcall [(1001, 10, g10), (1002, 100, g10), (1003, 101, g10)] [] (stArrive_g TOp.ex1 b TOp.exV h1 (by decide)) rfl rfl rfl (by decide) (by kernel_rfl) ⟨rfl, rfl, rfl, trivial⟩ rfl ⟨Sub.rfl, Sub.rfl, trivial⟩ (fun g24 => ?_)
  refine Al_p Pu_mvr ?_
  refine Al_nil (Aw_seq (Aw_region ?_))
  refine Al_p Pu_mvl ?_
  refine Al_gcall [(1001, 10, g10), (1002, 100, g10), (1003, 101, g10)] [] (stStep_g TOp.ex2 b h2 (by decide)) rfl rfl rfl (by decide) (by kernel_rfl) ⟨rfl, rfl, rfl, trivial⟩ rfl ⟨Sub.rfl, trivial⟩ (fun g27 => ?_)
  refine Al_p Pu_mvl ?_
  refine Al_p (Pu_extract rfl rfl rfl) ?_
  refine Al_p (Pu_extract rfl rfl rfl) ?_
  refine Al_alloc rfl rfl rfl (by decide) Tryz.zeroValue34 rfl (by kernel_rfl) (fun g5 => ?_)
  refine Al_storeN rfl rfl rfl (by kernel_rfl) Tryz.isAgg34 Tryz.sizeOf34 rfl rfl rfl rfl (Nat.le_of_ble_eq_true rfl) ?_
  refine Al_p Pu_mvr ?_
  refine Al_nil (Aw_seq (Aw_region ?_))
  refine Al_p (Pu_build (aa := [(0, _)]) rfl Tryz.underlying31 Tryz.zeroValue31 (places31 Tryz.underlying31) (by kernel_rfl) ⟨rfl, rfl, rfl, trivial⟩ rfl) ?_
  refine Al_alloc rfl rfl rfl (by decide) Tryz.zeroValue31 rfl (by kernel_rfl) (fun g7 => ?_)
  refine Al_storeN rfl rfl rfl (by kernel_rfl) Tryz.isAgg31 Tryz.sizeOf31 rfl rfl rfl rfl (Nat.le_of_ble_eq_true rfl) ?_
  refine Al_nil (Aw_seq (Aw_region ?_))
  refine Al_p Pu_mvl ?_
  refine Al_p (Pu_cmp rfl rfl rfl rfl) ?_
  refine Al_p Pu_mvl ?_
  refine Al_st (St_gd [] rfl rfl rfl rfl trivial (fun hg34 => Pu_fieldb 3 rfl Tryz.underlying34 rfl rfl Tryz.sizeOf31 rfl)) rfl (by decide) (by kernel_rfl) (by intro j b oj dj h1 h2 h3; cases h1; cases h2; cases h3; decide) ?_
  refine Al_st (St_gd [34] rfl rfl rfl rfl ⟨⟨_, rfl⟩, trivial⟩ (fun hg35 => Pu_loadbN (r := [_, _]) rfl Tryz.isAgg31 Tryz.sizeOf31 rfl rfl rfl rfl)) rfl (by decide) (by kernel_rfl) (by intro j b oj dj h1 h2 h3; cases h1; cases h2; cases h3; decide) ?_
  refine Al_st (St_gd [] rfl rfl rfl rfl trivial (fun hg36 => Pu_loadbN (r := [_, _]) rfl Tryz.isAgg31 Tryz.sizeOf31 rfl rfl rfl rfl)) rfl (by decide) (by kernel_rfl) (by intro j b oj dj h1 h2 h3; cases h1; cases h2; cases h3; decide) ?_
  refine Al_st (St_gd [35, 36] rfl rfl rfl rfl ⟨⟨_, rfl⟩, ⟨_, rfl⟩, trivial⟩ (fun hg37 => Pu_eqrow [.int .i64 _, .int .i64 _] [.int .i64 _, .int .i64 _] (fun w => eqv31 _ _ _ _ _ _ w) rfl rfl rfl)) rfl (by decide) (by kernel_rfl) (by intro j b oj dj h1 h2 h3; cases h1; cases h2; cases h3; decide) ?_
  refine Al_p (Pu_and rfl rfl rfl rfl) ?_
  refine Al_p Pu_mvl ?_
  refine Al_st (St_gd [] rfl rfl rfl rfl trivial (fun hg40 => by exact Pu_move (.inl rfl) (by conv => lhs; whnf))) rfl (by decide) (by kernel_rfl) (by intro j b oj dj h1 h2 h3; cases h1; cases h2; cases h3; decide) ?_
  refine Al_st (St_gd [40] rfl rfl rfl rfl ⟨⟨_, rfl⟩, trivial⟩ (fun hg41 => Pu_cmp rfl rfl rfl rfl)) rfl (by decide) (by kernel_rfl) (by intro j b oj dj h1 h2 h3; cases h1; cases h2; cases h3; decide) ?_
  refine Al_p (Pu_and rfl rfl rfl rfl) ?_
  refine Al_p Pu_mvl ?_
  refine Al_st (St_gd [] rfl rfl rfl rfl trivial (fun hg44 => by exact Pu_move (.inl rfl) (by conv => lhs; whnf))) rfl (by decide) (by kernel_rfl) (by intro j b oj dj h1 h2 h3; cases h1; cases h2; cases h3; decide) ?_
  refine Al_st (St_gd [44] rfl rfl rfl rfl ⟨⟨_, rfl⟩, trivial⟩ (fun hg45 => Pu_not rfl rfl)) rfl (by decide) (by kernel_rfl) (by intro j b oj dj h1 h2 h3; cases h1; cases h2; cases h3; decide) ?_
  refine Al_p (Pu_and rfl rfl rfl rfl) ?_
  refine Al_p Pu_mvl ?_
  refine Al_st (St_gd [] rfl rfl rfl rfl trivial (fun hg48 => by exact Pu_move (.inl rfl) (by conv => lhs; whnf))) rfl (by decide) (by kernel_rfl) (by intro j b oj dj h1 h2 h3; cases h1; cases h2; cases h3; decide) ?_
  refine Al_st (St_gd [48] rfl rfl rfl rfl ⟨⟨_, rfl⟩, trivial⟩ (fun hg49 => Pu_gcall [(1001, 10, g10), (1002, 100, g10), (1003, 101, g10)] (stWaiting_g TOp.ex2.step b) (ST_in ..) rfl ⟨rfl, rfl, rfl, trivial⟩ rfl ⟨Sub.rfl, trivial⟩)) rfl (by decide) (by kernel_rfl) (by intro j b oj dj h1 h2 h3; cases h1; cases h2; cases h3; decide) ?_
  refine Al_st (St_gd [49] rfl rfl rfl rfl ⟨⟨_, rfl⟩, trivial⟩ (fun hg50 => Pu_cmp rfl rfl rfl rfl)) rfl (by decide) (by kernel_rfl) (by intro j b oj dj h1 h2 h3; cases h1; cases h2; cases h3; decide) ?_
  refine Al_p (Pu_and rfl rfl rfl rfl) ?_
  refine Al_p Pu_mvr ?_
  refine Al_nil ?_
  refine Aw_ret ?_
  exact Sub.bool (by rw [f1, f2, f3, f4, f5, f6]; rfl) -- ret 0
end Go.Proofs.YtmbaeloiepjakaaGreat
end

section
namespace Go.Proofs.YtmbaeloiepjakaaGreat
open Go.ChangeShapes Go.WideShapes Go.ChangeAt Go.RowKit A
set_option maxRecDepth 100000 in
theorem dep_fits {r : List AV} (h : Fits (.stru (.pair .str (.pair (.stru (.pair .i64 (.pair .i64 .unit))) .unit))) r) : ∃ d : Dep, r = d.row := by
  obtain ⟨_, _, rfl, ⟨k, rfl⟩, _, _, rfl, ⟨_, _, rfl, ⟨n, rfl⟩, _, _, rfl, ⟨s, rfl⟩, rfl⟩, rfl⟩ := h
  exact ⟨⟨k, n, s⟩, rfl⟩
set_option maxRecDepth 100000 in
theorem top_fits {r : List AV} (h : Fits (.stru (.pair .i64 (.pair .i64 (.pair .i64 (.pair .i64 (.pair .boo (.pair .str (.pair (.sl 3 (.stru (.pair .str (.pair (.stru (.pair .i64 (.pair .i64 .unit))) .unit)))) .unit)))))))) r) : ∃ o : TOp, r = o.row := by
  obtain ⟨_, _, rfl, ⟨kind, rfl⟩, _, _, rfl, ⟨key, rfl⟩, _, _, rfl, ⟨n, rfl⟩, _, _, rfl, ⟨site, rfl⟩, _, _, rfl, ⟨gone, rfl⟩, _, _, rfl, ⟨value, rfl⟩, _, _, rfl, ⟨rows, rfl, hp⟩, rfl⟩ := h
  obtain ⟨past, rfl⟩ := A.rows_map fun r h => dep_fits (hp r h)
  exact ⟨⟨kind, key, n, site, gone, value, past⟩, rfl⟩
section
variable {H : Type} {enc : TypeId × Value → H} {W : World} {base : Nat} {spare : Nat → Bool} {held : Bool} {v : Value} {d : DataW H} {p : List MemPlace}
set_option maxRecDepth 100000 in
theorem open_tops (hv : Value.okWide Tryz.prog W .any base 22 v) (h : DataW.Trod enc Tryz.prog W 0 spare held 22 v d p) : ∃ l : List TOp, Rep NoM W (.sl 7 (l.map TOp.row)) v := by
  obtain ⟨rows, h1, h2⟩ := A.open_slice Tryz.underlying22 (n := 7) (s := (.stru (.pair .i64 (.pair .i64 (.pair .i64 (.pair .i64 (.pair .boo (.pair .str (.pair (.sl 3 (.stru (.pair .str (.pair (.stru (.pair .i64 (.pair .i64 .unit))) .unit)))) .unit))))))))) ⟨_, Tryz.underlying22, by kernel_rfl, by decide, ⟨_, Tryz.underlying36, ⟨_, _, 1, rfl, rfl, by kernel_rfl, Tryz.underlying3, ⟨_, _, 1, rfl, rfl, by kernel_rfl, Tryz.underlying3, ⟨_, _, 1, rfl, rfl, by kernel_rfl, Tryz.underlying3, ⟨_, _, 1, rfl, rfl, by kernel_rfl, Tryz.underlying3, ⟨_, _, 1, rfl, rfl, by kernel_rfl, Tryz.underlying4, ⟨_, _, 1, rfl, rfl, by kernel_rfl, Tryz.underlying9, ⟨_, _, 1, rfl, rfl, by kernel_rfl, ⟨_, Tryz.underlying32, by kernel_rfl, by decide, ⟨_, Tryz.underlying59, ⟨_, _, 1, rfl, rfl, by kernel_rfl, Tryz.underlying9, ⟨_, _, 2, rfl, rfl, by kernel_rfl, ⟨_, Tryz.underlying31, ⟨_, _, 1, rfl, rfl, by kernel_rfl, Tryz.underlying3, ⟨_, _, 1, rfl, rfl, by kernel_rfl, Tryz.underlying3, ⟨rfl, by kernel_rfl⟩⟩⟩⟩, ⟨rfl, by kernel_rfl⟩⟩⟩⟩⟩, ⟨rfl, by kernel_rfl⟩⟩⟩⟩⟩⟩⟩⟩⟩⟩ hv h
  obtain ⟨l, rfl⟩ := A.rows_map fun r h => top_fits (h1 r h)
  exact ⟨l, h2⟩
set_option maxRecDepth 100000 in
theorem open_top (hv : Value.okWide Tryz.prog W .any base 36 v) (h : DataW.Trod enc Tryz.prog W 0 spare held 36 v d p) : ∃ o : TOp, Rep NoM W (.row o.row) v := by
  obtain ⟨r, h1, h2⟩ := A.open_struct Tryz.underlying36 (s := (.stru (.pair .i64 (.pair .i64 (.pair .i64 (.pair .i64 (.pair .boo (.pair .str (.pair (.sl 3 (.stru (.pair .str (.pair (.stru (.pair .i64 (.pair .i64 .unit))) .unit)))) .unit))))))))) ⟨_, Tryz.underlying36, ⟨_, _, 1, rfl, rfl, by kernel_rfl, Tryz.underlying3, ⟨_, _, 1, rfl, rfl, by kernel_rfl, Tryz.underlying3, ⟨_, _, 1, rfl, rfl, by kernel_rfl, Tryz.underlying3, ⟨_, _, 1, rfl, rfl, by kernel_rfl, Tryz.underlying3, ⟨_, _, 1, rfl, rfl, by kernel_rfl, Tryz.underlying4, ⟨_, _, 1, rfl, rfl, by kernel_rfl, Tryz.underlying9, ⟨_, _, 1, rfl, rfl, by kernel_rfl, ⟨_, Tryz.underlying32, by kernel_rfl, by decide, ⟨_, Tryz.underlying59, ⟨_, _, 1, rfl, rfl, by kernel_rfl, Tryz.underlying9, ⟨_, _, 2, rfl, rfl, by kernel_rfl, ⟨_, Tryz.underlying31, ⟨_, _, 1, rfl, rfl, by kernel_rfl, Tryz.underlying3, ⟨_, _, 1, rfl, rfl, by kernel_rfl, Tryz.underlying3, ⟨rfl, by kernel_rfl⟩⟩⟩⟩, ⟨rfl, by kernel_rfl⟩⟩⟩⟩⟩, ⟨rfl, by kernel_rfl⟩⟩⟩⟩⟩⟩⟩⟩⟩ hv h
  obtain ⟨q, rfl⟩ := top_fits h1
  exact ⟨q, h2⟩
end
end Go.Proofs.YtmbaeloiepjakaaGreat
end

section
set_option maxRecDepth 100000
namespace Go.Proofs.YtmbaeloiepjakaaGreat
open Go.RowKit A R
open A.RowT
namespace J
theorem check_stamp {v : Ver} (h : checkB v = true) : 1 ≤ v.n ∧ v.n ≤ 1099511627776 ∧ 0 ≤ v.s ∧ v.s < 6 := by
  unfold checkB V.stampB at h
  simp only [Bool.and_eq_true, decide_eq_true_eq] at h
  omega
theorem mx_zero {n s : Int} (h : 1 ≤ n) : mx (0, 0) (n, s) = (n, s) := by
  have h1 : D.lessB 0 0 n s = true := by
    unfold D.lessB
    rw [if_neg (by omega)]
    simp; omega
  have h2 : D.lessB 0 0 0 0 = false := rfl
  unfold mx D.maxS
  simp [h1, h2]
theorem put_nil {v : Ver} (h : checkB v = true) : put [] v = some [v] := by
  unfold put
  rw [if_pos ⟨h, by simp, by simp⟩]
  simp
theorem sput_nil {v : Ver} {rs : List Rng} (h : checkB v = true) (hf : ¬ findR rs v.key < 0) : sput rs [] v = ([(v.key, [v])], true) := by
  unfold sput
  rw [if_neg hf, show getC [] v.key = [] from rfl, put_nil h]; rfl
theorem isSt_self (v : Ver) : isSt v.n v.s v = true := by unfold isSt; simp
theorem sat_one (v : Ver) : sat [(v.key, [v])] v.key v.n v.s = some v := by
  have h1 : getC [(v.key, [v])] v.key = [v] := by unfold getC look; simp
  have h2 : notB v.n v.s v = true := by unfold notB; rw [D.less_irrefl]; rfl
  unfold sat
  rw [h1]
  unfold atc frm
  rw [List.findIdx_cons, h2]
  simp [isSt_self]
theorem head_one (v : Ver) : shead [(v.key, [v])] v.key = some v := by
  have h1 : getC [(v.key, [v])] v.key = [v] := by unfold getC look; simp
  unfold shead
  rw [h1]; rfl
theorem past_ok {v : Ver} (h : checkB v = true) : D.Good v.past := by
  unfold checkB at h
  simp only [Bool.and_eq_true] at h
  exact (past_good h.2.2.1).1
theorem only_allT (p : List Dep) : only p (ranges 0) = p := by
  unfold only
  rw [List.filter_eq_self]
  intro d _
  simpa using findR_all d.key
/-- Where nothing is, what hangs on something has to wait. -/
theorem ready_nil {v : Ver} (h : checkB v = true) : ready [] (ranges 0) v = v.past.isEmpty := by
  have hl : v.past.filter (lacks []) = v.past := by
    rw [List.filter_eq_self]
    intro d hd
    have h1 := (D.ok_stamp ((past_ok h).2 d hd)).1
    show D.lessB 0 0 d.n d.s = true
    unfold D.lessB
    rw [if_neg (by omega)]
    simp; omega
  unfold ready misses
  rw [only_allT, hl]
  cases v.past <;> simp
  omega
end J
namespace TOp
def one (kept : Bool) (v : Ver) : PS := if kept then ⟨0, [], v.n, v.s, J.ranges 0, [(v.key, [v])]⟩ else ⟨0, [v], v.n, v.s, J.ranges 0, []⟩
theorem zero_arr {v : Ver} {k : Int} {rs : List Rng} : (PS.zero k rs).arriveE v = if J.checkB v = false then 1 else 0 := by
  unfold PS.arriveE
  split
  · rfl
  · rename_i h
    split
    · rfl
    · rw [if_neg (show ¬ (PS.zero k rs).there v = true from by rw [show (PS.zero k rs).there v = false from rfl]; decide)]
      unfold J.pushE
      rw [if_pos (by simpa using h)]; rfl
theorem one_arr {v : Ver} (h : J.checkB v = true) : (PS.zero 0 (J.ranges 0)).arriveE v = 0 ∧ (PS.zero 0 (J.ranges 0)).arrive v = one false v := by
  have h1 : (PS.zero 0 (J.ranges 0)).arriveE v = 0 := by rw [zero_arr, if_neg (by rw [h]; decide)]
  refine ⟨h1, ?_⟩
  unfold PS.arrive
  rw [if_pos h1, if_neg (show ¬ findR (PS.zero 0 (J.ranges 0)).rs v.key < 0 from J.findR_all v.key)]
  unfold PS.clockP
  rw [show mx ((PS.zero 0 (J.ranges 0)).n, (PS.zero 0 (J.ranges 0)).s) (v.n, v.s) = (v.n, v.s) from J.mx_zero (J.check_stamp h).1]
  rfl
theorem one_next {v : Ver} (h : J.checkB v = true) : (one false v).stepV = if v.past.isEmpty then some v else none := by
  have h1 := J.ready_nil h
  show J.nextV [v] [] (J.ranges 0) = _
  unfold J.nextV J.nextI
  rw [List.findIdx_cons, h1]
  cases v.past.isEmpty <;> simp
theorem one_step {v : Ver} (h : J.checkB v = true) : (one false v).step = one v.past.isEmpty v ∧ (one false v).stepV.isSome = v.past.isEmpty := by
  have h1 := one_next h
  unfold PS.step
  rw [h1]
  cases hp : v.past.isEmpty with
  | true =>
    rw [hp] at h1
    simp only [if_true]
    refine ⟨?_, rfl⟩
    have hr : J.ready [] (J.ranges 0) v = true := by rw [J.ready_nil h, hp]
    have hn : J.nextL [v] [] (J.ranges 0) = [] := by
      unfold J.nextL J.nextI
      rw [List.findIdx_cons, hr]; rfl
    have hs : (J.sput (J.ranges 0) [] v).1 = [(v.key, [v])] := by rw [J.sput_nil h (J.findR_all v.key)]
    show (⟨0, J.nextL [v] [] (J.ranges 0), v.n, v.s, J.ranges 0, (J.sput (J.ranges 0) [] v).1⟩ : PS) = _
    rw [hn, hs]; rfl
  | false => exact ⟨rfl, rfl⟩
theorem one_again {v : Ver} (h : J.checkB v = true) (kept : Bool) : (one kept v).arriveE v = 13 ∧ (one kept v).arrive v = one kept v := by
  have h1 : (one kept v).arriveE v = 13 := by
    unfold PS.arriveE
    have hrs : (one kept v).rs = J.ranges 0 := by cases kept <;> rfl
    rw [if_neg (by rw [h]; decide), hrs, if_neg (J.findR_all v.key), if_pos]
    cases kept with
    | true => show ((J.sat [(v.key, [v])] v.key v.n v.s).isSome || _) = true; rw [J.sat_one]; rfl
    | false =>
      show ((J.sat [] v.key v.n v.s).isSome || [v].any (PS.isW v)) = true
      simp [PS.isW]
  refine ⟨h1, ?_⟩
  unfold PS.arrive
  rw [h1, if_neg (by decide)]
theorem one_read (v : Ver) (kept : Bool) : (one kept v).readV v.key = if kept then some v else none := by
  have hrs : (one kept v).rs = J.ranges 0 := by cases kept <;> rfl
  unfold PS.readV
  rw [hrs, if_neg (J.findR_all v.key)]
  cases kept with
  | true => exact J.head_one v
  | false => rfl
theorem one_ok {v : Ver} (h : J.checkB v = true) (kept : Bool) : (one kept v).Ok 1 := by
  have h0 : (PS.zero 0 (J.ranges 0)).Ok 0 := PS.Ok.zero (by decide) (Nat.le_trans (J.ranges_len 0) (by decide))
  have h1 := h0.arrive v
  rw [(one_arr h).2] at h1
  cases kept with
  | false => exact h1.mono (by decide)
  | true =>
    have h2 : J.RiseC [(v.key, [v])] := List.pairwise_singleton ..
    refine ⟨h2, ⟨Nat.le_refl _, fun p hp => ?_⟩, Nat.zero_le _, (fun w hw => nomatch hw), h1.rl, h1.id⟩
    cases List.mem_singleton.1 hp
    have := J.ver_key h
    exact ⟨Nat.le_refl _, by show v.key.size ≤ _; omega⟩
end TOp
set_option maxHeartbeats 1000000 in
theorem sitetwice_law (o : TOp) (step : Bool) : ACall Tryz.prog 4 [.row o.row, bv step] (bv true) := by
  refine ACall_enter (fun _ _ => by kernel_rfl) Tryz.func4 rfl Tryz.ntmps4 Tryz.results4 (Nat.le_of_ble_eq_true rfl) (fun hok M0 w0 hnl => ?_)
  have hr0 : (J.ranges 0).length ≤ 1000000 := Nat.le_trans (J.ranges_len 0) (by decide)
  have hz : (PS.zero 0 (J.ranges 0)).Ok 0 := PS.Ok.zero (by decide) hr0
  refine Aw_seq (Aw_region ?_)
  refine Al_p (Pu_boxN rfl rfl) ?_
  refine Al_p Pu_mvr ?_
  refine Al_nil (Aw_seq (Aw_region ?_))
  refine Al_p (Pu_call (tawake_a) rfl trivial) ?_
  refine Al_p Pu_mvr ?_
  refine Al_nil (Aw_seq (Aw_region ?_))
  refine Al_p (Pu_call (tranges_a 0) rfl ⟨Sub.rfl, trivial⟩) ?_
  refine Al_gcallE [] [(1001, 16), (1002, 160), (1003, 161)] (stNew_g 0 (by decide) (J.ranges 0) hr0) rfl rfl rfl (by decide) (by kernel_rfl) trivial (fun _ => rfl) rfl rfl ⟨Sub.rfl, Sub.rfl, trivial⟩ ?_
  rintro b g16
  refine Al_p Pu_mvr ?_
  refine Al_nil (Aw_seq (Aw_seq (Aw_region ?_)))
  refine Al_p Pu_mvl ?_
  refine Al_p (Pu_eqnilb Tryz.underlying24 rfl rfl) ?_
  refine Al_nil ?_
  refine Aw_condF rfl (rfl) ?_
  refine Aw_skip (Aw_seq (Aw_region ?_))
  refine Al_p (Pu_loadN rfl Tryz.isAgg36 Tryz.sizeOf36 rfl (Nat.le_of_ble_eq_true rfl)) ?_
  refine Al_p (Pu_call (tversion_a o) rfl ⟨Sub.rfl, trivial⟩) ?_
  refine Al_alloc rfl rfl rfl (by decide) Tryz.zeroValue34 rfl (by kernel_rfl) (fun g7 => ?_)
  refine Al_storeN rfl rfl rfl (by kernel_rfl) Tryz.isAgg34 Tryz.sizeOf34 rfl rfl rfl rfl (Nat.le_of_ble_eq_true rfl) ?_
  refine Al_nil (Aw_seq (Aw_region ?_))
  refine Al_p Pu_mvl ?_
  refine Al_p (Pu_loadbN (r := [_, _, _, _, _, _]) rfl Tryz.isAgg34 Tryz.sizeOf34 rfl rfl rfl rfl) ?_
  refine Al_gcall [(1001, 16, g16), (1002, 160, g16), (1003, 161, g16)] [] (stArrive_g (PS.zero 0 (J.ranges 0)) b o.ver hz (by decide)) rfl rfl rfl (by decide) (by kernel_rfl) ⟨rfl, rfl, rfl, trivial⟩ rfl ⟨Sub.rfl, Sub.rfl, trivial⟩ (fun g23 => ?_)
  refine Al_p Pu_mvr ?_
  refine Al_nil (Aw_seq (Aw_seq (Aw_region ?_)))
  refine Al_p Pu_mvl ?_
  refine Al_p (Pu_cmp rfl rfl rfl rfl) ?_
  refine Al_nil ?_
  refine Aw_cond rfl (fun h25 => ?_) (fun h25 => ?_)
  · skip
    have hc : J.checkB o.ver = false := by
      rw [TOp.zero_arr] at h25
      split at h25
      · assumption
      · simp at h25
    have he : (PS.zero 0 (J.ranges 0)).arriveE o.ver = 1 := by rw [TOp.zero_arr, if_pos hc]
    have hq : (PS.zero 0 (J.ranges 0)).arrive o.ver = PS.zero 0 (J.ranges 0) := by unfold PS.arrive; rw [he, if_neg (by decide)]
    rw [he, hq]
    refine Aw_seq (Aw_region ?_)
    refine Al_p Pu_mvl ?_
    refine Al_p Pu_mvl ?_
    refine Al_st (St_gd [] rfl rfl rfl rfl trivial (fun hg28 => by exact Pu_move (.inl rfl) (by conv => lhs; whnf))) rfl (by decide) (by kernel_rfl) (by intro j b oj dj h1 h2 h3; cases h1; cases h2; cases h3; decide) ?_
    refine Al_st (St_gd [28] rfl rfl rfl rfl ⟨⟨_, rfl⟩, trivial⟩ (fun hg29 => Pu_cmp rfl rfl rfl rfl)) rfl (by decide) (by kernel_rfl) (by intro j b oj dj h1 h2 h3; cases h1; cases h2; cases h3; decide) ?_
    refine Al_p (Pu_and rfl rfl rfl rfl) ?_
    refine Al_p Pu_mvl ?_
    refine Al_st (St_gd [] rfl rfl rfl rfl trivial (fun hg32 => by exact Pu_move (.inl rfl) (by conv => lhs; whnf))) rfl (by decide) (by kernel_rfl) (by intro j b oj dj h1 h2 h3; cases h1; cases h2; cases h3; decide) ?_
    refine Al_st (St_gd [32] rfl rfl rfl rfl ⟨⟨_, rfl⟩, trivial⟩ (fun hg33 => Pu_gcall [(1001, 16, g16), (1002, 160, g16), (1003, 161, g16)] (stWaiting_g (PS.zero 0 (J.ranges 0)) b) (ST_in ..) rfl ⟨rfl, rfl, rfl, trivial⟩ rfl ⟨Sub.rfl, trivial⟩)) rfl (by decide) (by kernel_rfl) (by intro j b oj dj h1 h2 h3; cases h1; cases h2; cases h3; decide) ?_
    refine Al_st (St_gd [33] rfl rfl rfl rfl ⟨⟨_, rfl⟩, trivial⟩ (fun hg34 => Pu_cmp rfl rfl rfl rfl)) rfl (by decide) (by kernel_rfl) (by intro j b oj dj h1 h2 h3; cases h1; cases h2; cases h3; decide) ?_
    refine Al_p (Pu_and rfl rfl rfl rfl) ?_
    refine Al_p Pu_mvr ?_
    refine Al_nil ?_
    refine Aw_ret ?_
    exact Sub.bool (by rfl) -- ret 0
  · skip
    have hc : J.checkB o.ver = true := by
      rw [TOp.zero_arr] at h25
      split at h25
      · simp at h25
      · simpa using ‹¬ J.checkB o.ver = false›
    obtain ⟨he, hq⟩ := TOp.one_arr hc
    rw [he, hq]
    obtain ⟨hs1, hs2⟩ := TOp.one_step hc
    refine Aw_skip (Aw_seq (Aw_region ?_))
    refine Al_p Pu_mvr ?_
    refine Al_nil ?_
    refine Aw_join (ι := Bool) [5, 6, 7] [7] (fun kept => [(9, .d (bv kept))]) (fun kept => [(16, g16, .box 84 [.bx 160 g16 0, .d (iv (TOp.one kept o.ver).id), .d (versA (TOp.one kept o.ver).wait), .d (iv (TOp.one kept o.ver).n), .d (iv (TOp.one kept o.ver).s)]), (160, g16, .box 115 [.d (rngA (TOp.one kept o.ver).rs), .ow 161 g16]), (161, g16, mapV b (TOp.one kept o.ver).cs)]) (fun kept => True) ?_ ?_ -- join 0
    · refine Aw_seq (Aw_region ?_)
      refine Al_p Pu_mvl ?_
      refine Al_nil ?_
      refine Aw_cond rfl (fun h36 => ?_) (fun h36 => ?_)
      · (try simp only [decide_eq_true_eq, decide_eq_false_iff_not, Bool.and_eq_true, Bool.or_eq_true, Bool.and_eq_false_iff, Bool.or_eq_false_iff, Bool.not_eq_true', Bool.not_eq_false', beq_iff_eq, Bool.not_eq_eq_eq_not, Bool.not_true, Bool.not_false, List.length_map, Bool.and_true, Bool.and_false, Bool.false_and, Bool.true_and, Bool.or_false, Bool.false_or] at h36)
        refine Aw_region ?_
        refine Al_p Pu_mvl ?_
        refine Al_gcall [(1001, 16, g16), (1002, 160, g16), (1003, 161, g16)] [] (stStep_g (TOp.one false o.ver) b (TOp.one_ok hc false) (by decide)) rfl rfl rfl (by decide) (by kernel_rfl) ⟨rfl, rfl, rfl, trivial⟩ rfl ⟨Sub.rfl, trivial⟩ (fun g39 => ?_)
        refine Al_p Pu_mvl ?_
        refine Al_p (Pu_extract rfl rfl rfl) ?_
        refine Al_p (Pu_extract rfl rfl rfl) ?_
        refine Al_p Pu_mvr ?_
        refine Al_nil ?_
        exact ⟨o.ver.past.isEmpty, trivial, Le.ov ⟨Sub.bool hs2, trivial⟩ ⟨Sub.rfl, Sub.rfl, Sub.rfl, trivial⟩ ⟨by rw [hs1]; rfl, by rw [hs1]; rfl, by rw [hs1]; rfl, trivial⟩ ⟨rfl, trivial⟩⟩ -- join 0 next.0
      · (try simp only [decide_eq_true_eq, decide_eq_false_iff_not, Bool.and_eq_true, Bool.or_eq_true, Bool.and_eq_false_iff, Bool.or_eq_false_iff, Bool.not_eq_true', Bool.not_eq_false', beq_iff_eq, Bool.not_eq_eq_eq_not, Bool.not_true, Bool.not_false, List.length_map, Bool.and_true, Bool.and_false, Bool.false_and, Bool.true_and, Bool.or_false, Bool.false_or] at h36)
        refine Aw_skip ?_
        exact ⟨false, trivial, Le.ov ⟨Sub.rfl, trivial⟩ ⟨Sub.rfl, Sub.rfl, Sub.rfl, trivial⟩ ⟨rfl, rfl, rfl, trivial⟩ ⟨rfl, trivial⟩⟩ -- join 0 next.1
    · rintro kept hj0
      obtain ⟨ha1, ha2⟩ := TOp.one_again hc kept
      have hrd := TOp.one_read o.ver kept
      refine Aw_seq (Aw_region ?_)
      refine Al_p Pu_mvl ?_
      refine Al_p (Pu_loadbN (r := [_, _, _, _, _, _]) rfl Tryz.isAgg34 Tryz.sizeOf34 rfl rfl rfl rfl) ?_
      refine Al_gcall [(1001, 16, g16), (1002, 160, g16), (1003, 161, g16)] [] (stArrive_g (TOp.one kept o.ver) b o.ver (TOp.one_ok hc kept) (by decide)) rfl rfl rfl (by decide) (by kernel_rfl) ⟨rfl, rfl, rfl, trivial⟩ rfl ⟨Sub.rfl, Sub.rfl, trivial⟩ (fun g44 => ?_)
      refine Al_p Pu_mvr ?_
      refine Al_nil (Aw_seq ?_)
      rw [ha1, ha2]
      refine Aw_region ?_
      refine Al_p Pu_mvl ?_
      refine Al_p (Pu_fieldb 0 rfl Tryz.underlying34 rfl rfl Tryz.sizeOf9 rfl) ?_
      refine Al_p (Pu_loadb rfl Tryz.isAgg9 rfl rfl rfl) ?_
      refine Al_p (Pu_gcall [(1001, 16, g16), (1002, 160, g16), (1003, 161, g16)] (stRead_g (TOp.one kept o.ver) b o.ver.key (TOp.one_ok hc kept) (by decide)) (ST_in ..) rfl ⟨rfl, rfl, rfl, trivial⟩ rfl ⟨Sub.rfl, Sub.rfl, trivial⟩) ?_
      refine Al_p Pu_mvl ?_
      refine Al_p (Pu_extract rfl rfl rfl) ?_
      refine Al_p (Pu_extract rfl rfl rfl) ?_
      refine Al_p (Pu_extract rfl rfl rfl) ?_
      refine Al_alloc rfl rfl rfl (by decide) Tryz.zeroValue34 rfl (by kernel_rfl) (fun g11 => ?_)
      refine Al_storeN rfl rfl rfl (by kernel_rfl) Tryz.isAgg34 Tryz.sizeOf34 rfl rfl rfl rfl (Nat.le_of_ble_eq_true rfl) ?_
      refine Al_p Pu_mvr ?_
      refine Al_p Pu_mvr ?_
      refine Al_nil (Aw_seq ?_)
      refine Aw_draw 35 (by kernel_rfl) (by kernel_rfl) ?_
      refine Dr_p Pu_mvl ?_
      refine Dr_p Pu_mvl ?_
      refine Dr_st (St_gd [] rfl rfl rfl rfl trivial (fun hg55 => by exact Pu_move (.inl rfl) (by conv => lhs; whnf))) rfl ?_
      refine Dr_st (St_gd [55] rfl rfl rfl rfl ⟨⟨_, rfl⟩, trivial⟩ (fun hg56 => Pu_cmp rfl rfl rfl rfl)) rfl ?_
      refine Dr_p (Pu_and rfl rfl rfl rfl) ?_
      refine Dr_p Pu_mvl ?_
      refine Dr_st (St_gd [] rfl rfl rfl rfl trivial (fun hg59 => by exact Pu_move (.inl rfl) (by conv => lhs; whnf))) rfl ?_
      refine Dr_st (St_gd [59] rfl rfl rfl rfl ⟨⟨_, rfl⟩, trivial⟩ (fun hg60 => Pu_gcall [(1001, 16, g16), (1002, 160, g16), (1003, 161, g16)] (stWaiting_g (TOp.one kept o.ver) b) (ST_in ..) rfl ⟨rfl, rfl, rfl, trivial⟩ rfl ⟨Sub.rfl, trivial⟩)) rfl ?_
      refine Dr_st (St_gd [60] rfl rfl rfl rfl ⟨⟨_, rfl⟩, trivial⟩ (fun hg61 => Pu_cmp rfl rfl rfl rfl)) rfl ?_
      refine Dr_st (St_gd [] rfl rfl rfl rfl trivial (fun hg62 => by exact Pu_move (.inl rfl) (by conv => lhs; whnf))) rfl ?_
      refine Dr_st (St_gd [61, 62] rfl rfl rfl rfl ⟨⟨_, rfl⟩, ⟨_, rfl⟩, trivial⟩ (fun hg63 => Pu_bool rfl Tryz.underlying4 rfl rfl rfl)) rfl ?_
      refine Dr_p (Pu_and rfl rfl rfl rfl) ?_
      refine Dr_p Pu_mvl ?_
      refine Dr_st (St_gd [] rfl rfl rfl rfl trivial (fun hg66 => by exact Pu_move (.inl rfl) (by conv => lhs; whnf))) rfl ?_
      refine Dr_st (St_gd [] rfl rfl rfl rfl trivial (fun hg67 => by exact Pu_move (.inl rfl) (by conv => lhs; whnf))) rfl ?_
      refine Dr_st (St_gd [66, 67] rfl rfl rfl rfl ⟨⟨_, rfl⟩, ⟨_, rfl⟩, trivial⟩ (fun hg68 => Pu_bool rfl Tryz.underlying4 rfl rfl rfl)) rfl ?_
      refine Dr_p (Pu_and rfl rfl rfl rfl) ?_
      refine Dr_p Pu_mvl ?_
      refine Dr_st (St_gd [] rfl rfl rfl rfl trivial (fun hg71 => by exact Pu_move (.inl rfl) (by conv => lhs; whnf))) rfl ?_
      refine Dr_st (St_gd [71] rfl rfl rfl rfl ⟨⟨_, rfl⟩, trivial⟩ (fun hg72 => Pu_not rfl rfl)) rfl ?_
      refine Dr_st (St_gd [72] rfl rfl rfl rfl ⟨⟨_, rfl⟩, trivial⟩ (fun hg73 => by exact Pu_move (.inl rfl) (by conv => lhs; whnf))) rfl ?_
      refine Dr_st (St_gd2 [] rfl rfl rfl rfl trivial (fun hp74 hg74 => Pu_fieldb 3 rfl Tryz.underlying34 rfl rfl Tryz.sizeOf31 rfl)) rfl ?_
      refine Dr_st (St_gd2 [74] rfl rfl rfl rfl ⟨⟨_, rfl⟩, trivial⟩ (fun hp75 hg75 => Pu_loadbN (r := [_, _]) rfl Tryz.isAgg31 Tryz.sizeOf31 rfl rfl rfl rfl)) rfl ?_
      refine Dr_st (St_gd2 [] rfl rfl rfl rfl trivial (fun hp76 hg76 => Pu_fieldb 3 rfl Tryz.underlying34 rfl rfl Tryz.sizeOf31 rfl)) rfl ?_
      refine Dr_st (St_gd2 [76] rfl rfl rfl rfl ⟨⟨_, rfl⟩, trivial⟩ (fun hp77 hg77 => Pu_loadbN (r := [_, _]) rfl Tryz.isAgg31 Tryz.sizeOf31 rfl rfl rfl rfl)) rfl ?_
      refine Dr_st (St_gd2 [75, 77] rfl rfl rfl rfl ⟨⟨_, rfl⟩, ⟨_, rfl⟩, trivial⟩ (fun hp78 hg78 => Pu_eqrow [.int .i64 _, .int .i64 _] [.int .i64 _, .int .i64 _] (fun w => eqv31 _ _ _ _ _ _ w) rfl rfl rfl)) rfl ?_
      refine Dr_st (St_gd [73] rfl rfl rfl rfl ⟨⟨_, rfl⟩, trivial⟩ (fun hg79 => Pu_orG rfl rfl rfl (fun h => ⟨hg79, h⟩) rfl)) rfl ?_
      refine Dr_p (Pu_and rfl rfl rfl rfl) ?_
      refine Dr_p Pu_mvl ?_
      refine Dr_st (St_gd [] rfl rfl rfl rfl trivial (fun hg82 => by exact Pu_move (.inl rfl) (by conv => lhs; whnf))) rfl ?_
      refine Dr_st (St_gd [82] rfl rfl rfl rfl ⟨⟨_, rfl⟩, trivial⟩ (fun hg83 => Pu_gcall [(1001, 16, g16), (1002, 160, g16), (1003, 161, g16)] (stClock_g (TOp.one kept o.ver) b) (ST_in ..) rfl ⟨rfl, rfl, rfl, trivial⟩ rfl ⟨Sub.rfl, trivial⟩)) rfl ?_
      refine Dr_st (St_gd [] rfl rfl rfl rfl trivial (fun hg84 => Pu_fieldb 3 rfl Tryz.underlying34 rfl rfl Tryz.sizeOf31 rfl)) rfl ?_
      refine Dr_st (St_gd [84] rfl rfl rfl rfl ⟨⟨_, rfl⟩, trivial⟩ (fun hg85 => Pu_loadbN (r := [_, _]) rfl Tryz.isAgg31 Tryz.sizeOf31 rfl rfl rfl rfl)) rfl ?_
      refine Dr_st (St_gd [83, 85] rfl rfl rfl rfl ⟨⟨_, rfl⟩, ⟨_, rfl⟩, trivial⟩ (fun hg86 => Pu_eqrow [.int .i64 _, .int .i64 _] [.int .i64 _, .int .i64 _] (fun w => eqv31 _ _ _ _ _ _ w) rfl rfl rfl)) rfl ?_
      refine Dr_p (Pu_and rfl rfl rfl rfl) ?_
      refine Dr_nil ?_
      refine Al_p Pu_mvr ?_
      refine Al_nil ?_
      refine Aw_ret ?_
      exact Sub.bool (by rw [hrd]; cases kept <;> simp [TOp.one]) -- ret 1
end Go.Proofs.YtmbaeloiepjakaaGreat
end

section
set_option maxRecDepth 100000
namespace Go.Proofs.YtmbaeloiepjakaaGreat
open Go.RowKit A R
open A.RowT
namespace PS
/-- What holds of a site at each step. -/
structure Inv (p : PS) (m : Nat) : Prop where
  ok : p.Ok m
  own : J.Own m p.rs p.cs
theorem Inv.mono {p : PS} {m m' : Nat} (h : p.Inv m) (hm : m ≤ m') : p.Inv m' := ⟨h.ok.mono hm, h.own.mono hm⟩
theorem Inv.zero {k : Int} (hk : 0 ≤ k ∧ k < 6) {rs : List Rng} (hrl : rs.length ≤ 1000000) : (PS.zero k rs).Inv 0 := ⟨Ok.zero hk hrl, J.own_nil rs⟩
theorem Inv.write {p : PS} {m : Nat} (h : p.Inv m) (key value : ByteArray) (gone : Bool) (past : List Dep) : (p.write key value gone past).Inv (m + 1) := by
  refine ⟨h.ok.write _ _ _ _, ?_⟩
  unfold PS.write
  split
  · exact J.own_put h.own _
  · exact h.own.mono (Nat.le_succ m)
theorem Inv.arrive {p : PS} {m : Nat} (h : p.Inv m) (v : Ver) : (p.arrive v).Inv m := by
  refine ⟨h.ok.arrive v, ?_⟩
  unfold PS.arrive
  split
  · split <;> exact h.own
  · exact h.own
theorem Inv.step {p : PS} {m : Nat} (h : p.Inv m) : p.step.Inv (m + 1) := by
  refine ⟨h.ok.step, ?_⟩
  unfold PS.step
  split
  · exact J.own_put h.own _
  · exact h.own.mono (Nat.le_succ m)
theorem Inv.clean {p : PS} {m : Nat} (h : p.Inv m) (n s : Int) (pins : List Dep) : (p.clean n s pins).Inv m := ⟨h.ok.clean n s pins, J.own_clean h.own n s pins⟩
end PS
set_option maxHeartbeats 1000000 in
theorem sitecleans_law (l : List TOp) (z : Int) : ACall Tryz.prog 6 [.sl 7 (l.map TOp.row), iv z] (bv true) := by
  refine ACall_enter (fun _ _ => by kernel_rfl) Tryz.func6 rfl Tryz.ntmps6 Tryz.results6 (Nat.le_of_ble_eq_true rfl) (fun hok M0 w0 hnl => ?_)
  have hlen := (hok _ (List.mem_cons_self ..)).len
  rw [List.length_map] at hlen
  have hr0 : (J.ranges 0).length ≤ 1000000 := Nat.le_trans (J.ranges_len 0) (by decide)
  refine Aw_seq (Aw_region ?_)
  refine Al_p Pu_mvr ?_
  refine Al_nil (Aw_seq (Aw_region ?_))
  refine Al_p (Pu_call (tawake_a) rfl trivial) ?_
  refine Al_p Pu_mvr ?_
  refine Al_nil (Aw_seq (Aw_region ?_))
  refine Al_p (Pu_call (tranges_a 0) rfl ⟨Sub.rfl, trivial⟩) ?_
  refine Al_gcallE [] [(1001, 15), (1002, 150), (1003, 151)] (stNew_g 1 (by decide) (J.ranges 0) hr0) rfl rfl rfl (by decide) (by kernel_rfl) trivial (fun _ => rfl) rfl rfl ⟨Sub.rfl, Sub.rfl, trivial⟩ ?_
  rintro b g15
  refine Al_p Pu_mvr ?_
  refine Al_nil (Aw_seq (Aw_seq (Aw_region ?_)))
  refine Al_p Pu_mvl ?_
  refine Al_p (Pu_eqnilb Tryz.underlying24 rfl rfl) ?_
  refine Al_nil ?_
  refine Aw_condF rfl (rfl) ?_
  refine Aw_skip (Aw_seq (Aw_seq (Aw_region ?_)))
  refine Al_p Pu_mvr ?_
  refine Al_nil (Aw_block ?_)
  refine Aw_loopk (ι := Nat × PS) [0, 1, 5, 6] [] (fun (k, p) => [(7, .d (iv k))]) (fun (k, p) => [(15, g15, .box 84 [.bx 150 g15 0, .d (iv p.id), .d (versA p.wait), .d (iv p.n), .d (iv p.s)]), (150, g15, .box 115 [.d (rngA p.rs), .ow 151 g15]), (151, g15, mapV b p.cs)]) (fun (k, p) => k ≤ l.length ∧ k ≤ 30 ∧ p.Inv k) (fun (k, p) => 30 - k) (0, PS.zero 1 (J.ranges 0)) (⟨Nat.zero_le _, Nat.zero_le _, PS.Inv.zero (by decide) hr0⟩) ⟨Sub.rfl, trivial⟩ ⟨rfl, rfl, rfl, trivial⟩ ?_
  rintro ⟨k, p⟩ ⟨hk1, hk2, hp⟩
  refine Aw_seq (Aw_seq (Aw_region ?_))
  refine Al_p Pu_mvl ?_
  refine Al_p Pu_mvl ?_
  refine Al_p (Pu_len rfl Tryz.underlying22 rfl (by first | exact List.length_map .. | exact rfl)) ?_
  refine Al_p (Pu_cmp rfl rfl rfl rfl) ?_
  refine Al_p Pu_mvl ?_
  refine Al_st (St_gd [] rfl rfl rfl rfl trivial (fun hg23 => by exact Pu_move (.inl rfl) (by conv => lhs; whnf))) rfl (by decide) (by kernel_rfl) (by intro j b oj dj h1 h2 h3; cases h1; cases h2; cases h3; decide) ?_
  refine Al_st (St_gd [23] rfl rfl rfl rfl ⟨⟨_, rfl⟩, trivial⟩ (fun hg24 => Pu_cmp rfl rfl rfl rfl)) rfl (by decide) (by kernel_rfl) (by intro j b oj dj h1 h2 h3; cases h1; cases h2; cases h3; decide) ?_
  refine Al_p (Pu_and rfl rfl rfl rfl) ?_
  refine Al_nil ?_
  refine Aw_cond rfl (fun h25 => ?_) (fun h25 => ?_)
  · (try simp only [decide_eq_true_eq, decide_eq_false_iff_not, Bool.and_eq_true, Bool.or_eq_true, Bool.and_eq_false_iff, Bool.or_eq_false_iff, Bool.not_eq_true', Bool.not_eq_false', beq_iff_eq, Bool.not_eq_eq_eq_not, Bool.not_true, Bool.not_false, List.length_map, Bool.and_true, Bool.and_false, Bool.false_and, Bool.true_and, Bool.or_false, Bool.false_or] at h25)
    obtain ⟨ha, hb⟩ : k < l.length ∧ k < 30 := by omega
    obtain ⟨o, ho⟩ : ∃ o, o = l.getD k default := ⟨_, rfl⟩
    refine Aw_skip ?_
    -- join 0: live [0, 1, 5, 6, 7], turned []
    refine Aw_seq (Aw_block (Aw_seq (Aw_region ?_)))
    refine Al_p Pu_mvl ?_
    refine Al_p Pu_mvl ?_
    refine Al_p (Pu_index rfl Tryz.underlying22 Tryz.sizeOf36 rfl rfl (rfl) (mapgetD (d := default) ha)) ?_
    refine Al_p (Pu_loadN rfl Tryz.isAgg36 Tryz.sizeOf36 rfl (Nat.le_of_ble_eq_true rfl)) ?_
    refine Al_alloc rfl rfl rfl (by decide) Tryz.zeroValue36 rfl (by kernel_rfl) (fun g8 => ?_)
    refine Al_storeN rfl rfl rfl (by kernel_rfl) Tryz.isAgg36 Tryz.sizeOf36 rfl rfl rfl rfl (Nat.le_of_ble_eq_true rfl) ?_
    refine Al_nil (Aw_seq ?_)
    rw [← ho]
    refine Aw_region ?_
    refine Al_p (Pu_fieldb 0 rfl Tryz.underlying36 rfl rfl Tryz.sizeOf3 rfl) ?_
    refine Al_p (Pu_loadb rfl Tryz.isAgg3 rfl rfl rfl) ?_
    refine Al_p (Pu_int_and (r := J.andI o.kind 7) rfl rfl rfl rfl (fun _ => V.i64_ok _)) ?_
    refine Al_nil (Aw_block ?_)
    refine Aw_join (ι := Bool) [0, 1, 5, 6, 7, 8, 34] [15, 150, 151, 8] (fun x => [(46, .d (bv x))]) (fun x => []) (fun x => True) ?_ ?_ -- join 1
    · refine Aw_seq (Aw_region ?_)
      refine Al_p (Pu_cmp rfl rfl rfl rfl) ?_
      refine Al_p Pu_mvr ?_
      refine Al_nil ?_
      refine Aw_cond rfl (fun h46 => ?_) (fun h46 => ?_)
      · (try simp only [decide_eq_true_eq, decide_eq_false_iff_not, Bool.and_eq_true, Bool.or_eq_true, Bool.and_eq_false_iff, Bool.or_eq_false_iff, Bool.not_eq_true', Bool.not_eq_false', beq_iff_eq, Bool.not_eq_eq_eq_not, Bool.not_true, Bool.not_false, List.length_map, Bool.and_true, Bool.and_false, Bool.false_and, Bool.true_and, Bool.or_false, Bool.false_or] at h46)
        refine Aw_skip ?_
        exact ⟨_, trivial, Le.ov ⟨Sub.rfl, trivial⟩ ⟨Sub.rfl, Sub.rfl, Sub.rfl, Sub.rfl, Sub.rfl, Sub.rfl, Sub.rfl, trivial⟩ trivial ⟨rfl, rfl, rfl, rfl, trivial⟩⟩ -- join 1 next.0
      · (try simp only [decide_eq_true_eq, decide_eq_false_iff_not, Bool.and_eq_true, Bool.or_eq_true, Bool.and_eq_false_iff, Bool.or_eq_false_iff, Bool.not_eq_true', Bool.not_eq_false', beq_iff_eq, Bool.not_eq_eq_eq_not, Bool.not_true, Bool.not_false, List.length_map, Bool.and_true, Bool.and_false, Bool.false_and, Bool.true_and, Bool.or_false, Bool.false_or] at h46)
        refine Aw_region ?_
        refine Al_p (Pu_cmp rfl rfl rfl rfl) ?_
        refine Al_p Pu_mvr ?_
        refine Al_nil ?_
        exact ⟨_, trivial, Le.ov ⟨Sub.rfl, trivial⟩ ⟨Sub.rfl, Sub.rfl, Sub.rfl, Sub.rfl, Sub.rfl, Sub.rfl, Sub.rfl, trivial⟩ trivial ⟨rfl, rfl, rfl, rfl, trivial⟩⟩ -- join 1 next.1
    · rintro x hj1
      refine Aw_cond rfl (fun h46 => ?_) (fun h46 => ?_)
      · (try simp only [decide_eq_true_eq, decide_eq_false_iff_not, Bool.and_eq_true, Bool.or_eq_true, Bool.and_eq_false_iff, Bool.or_eq_false_iff, Bool.not_eq_true', Bool.not_eq_false', beq_iff_eq, Bool.not_eq_eq_eq_not, Bool.not_true, Bool.not_false, List.length_map, Bool.and_true, Bool.and_false, Bool.false_and, Bool.true_and, Bool.or_false, Bool.false_or] at h46)
        refine Aw_region ?_
        refine Al_p Pu_mvl ?_
        refine Al_p (Pu_loadbN (r := [_, _, _, _, _, _, _]) rfl Tryz.isAgg36 Tryz.sizeOf36 rfl rfl rfl rfl) ?_
        refine Al_p (Pu_call (tversion_a o) rfl ⟨Sub.rfl, trivial⟩) ?_
        refine Al_gcall [(1001, 15, g15), (1002, 150, g15), (1003, 151, g15)] [] (stArrive_g p b o.ver hp.ok (by omega)) rfl rfl rfl (by decide) (by kernel_rfl) ⟨rfl, rfl, rfl, trivial⟩ rfl ⟨Sub.rfl, Sub.rfl, trivial⟩ (fun g52 => ?_)
        refine Al_nil (Aw_region ?_)
        refine Al_p Pu_mvl ?_
        refine Al_p (Pu_add rfl rfl rfl (fun h1 h2 => by simp only [A.inI, A.maxI] at *; omega)) ?_
        refine Al_p Pu_mvr ?_
        refine Al_nil ?_
        exact ⟨(k + 1, p.arrive o.ver), ⟨by omega, by omega, (hp.arrive _).mono (by omega)⟩, by simp only []; omega, Le.ov ⟨Sub.num (by omega), trivial⟩ ⟨Sub.rfl, Sub.rfl, Sub.rfl, Sub.rfl, trivial⟩ ⟨rfl, rfl, rfl, trivial⟩ trivial⟩ -- loop 0 next.0
      · (try simp only [decide_eq_true_eq, decide_eq_false_iff_not, Bool.and_eq_true, Bool.or_eq_true, Bool.and_eq_false_iff, Bool.or_eq_false_iff, Bool.not_eq_true', Bool.not_eq_false', beq_iff_eq, Bool.not_eq_eq_eq_not, Bool.not_true, Bool.not_false, List.length_map, Bool.and_true, Bool.and_false, Bool.false_and, Bool.true_and, Bool.or_false, Bool.false_or] at h46)
        refine Aw_join (ι := Bool) [0, 1, 5, 6, 7, 8] [15, 150, 151, 8] (fun y => [(53, .d (bv y))]) (fun y => []) (fun y => True) ?_ ?_ -- join 2
        · refine Aw_seq (Aw_region ?_)
          refine Al_p (Pu_cmp rfl rfl rfl rfl) ?_
          refine Al_p Pu_mvr ?_
          refine Al_nil ?_
          refine Aw_cond rfl (fun h53 => ?_) (fun h53 => ?_)
          · (try simp only [decide_eq_true_eq, decide_eq_false_iff_not, Bool.and_eq_true, Bool.or_eq_true, Bool.and_eq_false_iff, Bool.or_eq_false_iff, Bool.not_eq_true', Bool.not_eq_false', beq_iff_eq, Bool.not_eq_eq_eq_not, Bool.not_true, Bool.not_false, List.length_map, Bool.and_true, Bool.and_false, Bool.false_and, Bool.true_and, Bool.or_false, Bool.false_or] at h53)
            refine Aw_skip ?_
            exact ⟨_, trivial, Le.ov ⟨Sub.rfl, trivial⟩ ⟨Sub.rfl, Sub.rfl, Sub.rfl, Sub.rfl, Sub.rfl, Sub.rfl, trivial⟩ trivial ⟨rfl, rfl, rfl, rfl, trivial⟩⟩ -- join 2 next.0
          · (try simp only [decide_eq_true_eq, decide_eq_false_iff_not, Bool.and_eq_true, Bool.or_eq_true, Bool.and_eq_false_iff, Bool.or_eq_false_iff, Bool.not_eq_true', Bool.not_eq_false', beq_iff_eq, Bool.not_eq_eq_eq_not, Bool.not_true, Bool.not_false, List.length_map, Bool.and_true, Bool.and_false, Bool.false_and, Bool.true_and, Bool.or_false, Bool.false_or] at h53)
            refine Aw_region ?_
            refine Al_p (Pu_cmp rfl rfl rfl rfl) ?_
            refine Al_p Pu_mvr ?_
            refine Al_nil ?_
            exact ⟨_, trivial, Le.ov ⟨Sub.rfl, trivial⟩ ⟨Sub.rfl, Sub.rfl, Sub.rfl, Sub.rfl, Sub.rfl, Sub.rfl, trivial⟩ trivial ⟨rfl, rfl, rfl, rfl, trivial⟩⟩ -- join 2 next.1
        · rintro y hj2
          refine Aw_cond rfl (fun h53 => ?_) (fun h53 => ?_)
          · (try simp only [decide_eq_true_eq, decide_eq_false_iff_not, Bool.and_eq_true, Bool.or_eq_true, Bool.and_eq_false_iff, Bool.or_eq_false_iff, Bool.not_eq_true', Bool.not_eq_false', beq_iff_eq, Bool.not_eq_eq_eq_not, Bool.not_true, Bool.not_false, List.length_map, Bool.and_true, Bool.and_false, Bool.false_and, Bool.true_and, Bool.or_false, Bool.false_or] at h53)
            refine Aw_region ?_
            refine Al_p Pu_mvl ?_
            refine Al_gcall [(1001, 15, g15), (1002, 150, g15), (1003, 151, g15)] [] (stStep_g p b hp.ok (by omega)) rfl rfl rfl (by decide) (by kernel_rfl) ⟨rfl, rfl, rfl, trivial⟩ rfl ⟨Sub.rfl, trivial⟩ (fun g57 => ?_)
            refine Al_nil (Aw_region ?_)
            refine Al_p Pu_mvl ?_
            refine Al_p (Pu_add rfl rfl rfl (fun h1 h2 => by simp only [A.inI, A.maxI] at *; omega)) ?_
            refine Al_p Pu_mvr ?_
            refine Al_nil ?_
            exact ⟨(k + 1, p.step), ⟨by omega, by omega, hp.step⟩, by simp only []; omega, Le.ov ⟨Sub.num (by omega), trivial⟩ ⟨Sub.rfl, Sub.rfl, Sub.rfl, Sub.rfl, trivial⟩ ⟨rfl, rfl, rfl, trivial⟩ trivial⟩ -- loop 0 next.1
          · (try simp only [decide_eq_true_eq, decide_eq_false_iff_not, Bool.and_eq_true, Bool.or_eq_true, Bool.and_eq_false_iff, Bool.or_eq_false_iff, Bool.not_eq_true', Bool.not_eq_false', beq_iff_eq, Bool.not_eq_eq_eq_not, Bool.not_true, Bool.not_false, List.length_map, Bool.and_true, Bool.and_false, Bool.false_and, Bool.true_and, Bool.or_false, Bool.false_or] at h53)
            refine Aw_draw 10 (by kernel_rfl) (by kernel_rfl) ?_
            refine Dr_p Pu_mvl ?_
            refine Dr_p (Pu_fieldb 1 rfl Tryz.underlying36 rfl rfl Tryz.sizeOf3 rfl) ?_
            refine Dr_p (Pu_loadb rfl Tryz.isAgg3 rfl rfl rfl) ?_
            refine Dr_p (Pu_call (tword_a o.key) rfl ⟨Sub.rfl, trivial⟩) ?_
            refine Dr_p (Pu_loadbN (r := [_, _, _, _, _, _, _]) rfl Tryz.isAgg36 Tryz.sizeOf36 rfl rfl rfl rfl) ?_
            refine Dr_p (Pu_call (tvalue_a o) rfl ⟨Sub.rfl, trivial⟩) ?_
            refine Dr_p (Pu_fieldb 4 rfl Tryz.underlying36 rfl rfl Tryz.sizeOf4 rfl) ?_
            refine Dr_p (Pu_loadb rfl Tryz.isAgg4 rfl rfl rfl) ?_
            refine Dr_p (Pu_loadbN (r := [_, _, _, _, _, _, _]) rfl Tryz.isAgg36 Tryz.sizeOf36 rfl rfl rfl rfl) ?_
            refine Dr_p (Pu_call (tpast_a o) rfl ⟨Sub.rfl, trivial⟩) ?_
            refine Dr_nil ?_
            refine Al_gcall [(1001, 15, g15), (1002, 150, g15), (1003, 151, g15)] [] (stWrite_g p b (J.word o.key) o.val o.gone o.pastP (by have := o.past_len; omega) hp.ok (by omega)) rfl rfl rfl (by decide) (by kernel_rfl) ⟨rfl, rfl, rfl, trivial⟩ rfl ⟨Sub.rfl, Sub.rfl, Sub.rfl, Sub.rfl, Sub.rfl, trivial⟩ (fun g45 => ?_)
            refine Al_nil (Aw_region ?_)
            refine Al_p Pu_mvl ?_
            refine Al_p (Pu_add rfl rfl rfl (fun h1 h2 => by simp only [A.inI, A.maxI] at *; omega)) ?_
            refine Al_p Pu_mvr ?_
            refine Al_nil ?_
            exact ⟨(k + 1, p.write (J.word o.key) o.val o.gone o.pastP), ⟨by omega, by omega, hp.write _ _ _ _⟩, by simp only []; omega, Le.ov ⟨Sub.num (by omega), trivial⟩ ⟨Sub.rfl, Sub.rfl, Sub.rfl, Sub.rfl, trivial⟩ ⟨rfl, rfl, rfl, trivial⟩ trivial⟩ -- loop 0 next.2
  · (try simp only [decide_eq_true_eq, decide_eq_false_iff_not, Bool.and_eq_true, Bool.or_eq_true, Bool.and_eq_false_iff, Bool.or_eq_false_iff, Bool.not_eq_true', Bool.not_eq_false', beq_iff_eq, Bool.not_eq_eq_eq_not, Bool.not_true, Bool.not_false, List.length_map, Bool.and_true, Bool.and_false, Bool.false_and, Bool.true_and, Bool.or_false, Bool.false_or] at h25)
    refine Aw_exit (Aw_seq (Aw_region ?_))
    refine Al_p Pu_mvl ?_
    refine Al_p (Pu_gcall [(1001, 15, g15), (1002, 150, g15), (1003, 151, g15)] (stHave_g p b hp.ok (by omega)) (ST_in ..) rfl ⟨rfl, rfl, rfl, trivial⟩ rfl ⟨Sub.rfl, trivial⟩) ?_
    refine Al_p Pu_mvr ?_
    refine Al_nil (Aw_seq (Aw_region ?_))
    refine Al_p Pu_mvl ?_
    refine Al_p (Pu_gcall [(1001, 15, g15), (1002, 150, g15), (1003, 151, g15)] (stClock_g p b) (ST_in ..) rfl ⟨rfl, rfl, rfl, trivial⟩ rfl ⟨Sub.rfl, trivial⟩) ?_
    refine Al_alloc rfl rfl rfl (by decide) Tryz.zeroValue31 rfl (by kernel_rfl) (fun g10 => ?_)
    refine Al_storeN rfl rfl rfl (by kernel_rfl) Tryz.isAgg31 Tryz.sizeOf31 rfl rfl rfl rfl (Nat.le_of_ble_eq_true rfl) ?_
    refine Al_nil (Aw_seq (Aw_region ?_))
    refine Al_p Pu_mvl ?_
    refine Al_p (Pu_gcall [(1001, 15, g15), (1002, 150, g15), (1003, 151, g15)] (stWaiting_g p b) (ST_in ..) rfl ⟨rfl, rfl, rfl, trivial⟩ rfl ⟨Sub.rfl, trivial⟩) ?_
    refine Al_p Pu_mvr ?_
    refine Al_nil (Aw_seq (Aw_region ?_))
    refine Al_p Pu_mvl ?_
    refine Al_p Pu_mvl ?_
    refine Al_p (Pu_build (aa := [(0, _)]) rfl Tryz.underlying31 Tryz.zeroValue31 (places31 Tryz.underlying31) (by kernel_rfl) ⟨rfl, rfl, rfl, trivial⟩ rfl) ?_
    refine Al_gcall [(1001, 15, g15), (1002, 150, g15), (1003, 151, g15)] [] (stClean_g p b z 0 [] (by decide) hp.ok (by omega)) rfl rfl rfl (by decide) (by kernel_rfl) ⟨rfl, rfl, rfl, trivial⟩ rfl ⟨Sub.rfl, Sub.rfl, Sub.nil, trivial⟩ (fun g67 => ?_)
    refine Al_nil (Aw_seq ?_)
    have hcl := J.have_clean hp.own z 0 []
    have hp2 := (hp.clean z 0 []).ok
    refine Aw_region ?_
    refine Al_p Pu_mvl ?_
    refine Al_p Pu_mvl ?_
    refine Al_p (Pu_gcall [(1001, 15, g15), (1002, 150, g15), (1003, 151, g15)] (stHave_g (p.clean z 0 []) b hp2 (by omega)) (ST_in ..) rfl ⟨rfl, rfl, rfl, trivial⟩ rfl ⟨Sub.rfl, trivial⟩) ?_
    refine Al_p (Pu_call (dsame_a (J.have' p.cs) (J.have' (p.clean z 0 []).cs)) rfl ⟨Sub.rfl, Sub.rfl, trivial⟩) ?_
    refine Al_p Pu_mvr ?_
    refine Al_nil (Aw_seq ?_)
    refine Aw_draw 16 (by kernel_rfl) (by kernel_rfl) ?_
    refine Dr_p Pu_mvl ?_
    refine Dr_p Pu_mvl ?_
    refine Dr_st (St_gd [] rfl rfl rfl rfl trivial (fun hg74 => by exact Pu_move (.inl rfl) (by conv => lhs; whnf))) rfl ?_
    refine Dr_p (Pu_and rfl rfl rfl rfl) ?_
    refine Dr_p Pu_mvl ?_
    refine Dr_st (St_gd [] rfl rfl rfl rfl trivial (fun hg77 => by exact Pu_move (.inl rfl) (by conv => lhs; whnf))) rfl ?_
    refine Dr_st (St_gd [77] rfl rfl rfl rfl ⟨⟨_, rfl⟩, trivial⟩ (fun hg78 => Pu_gcall [(1001, 15, g15), (1002, 150, g15), (1003, 151, g15)] (stClock_g (p.clean z 0 []) b) (ST_in ..) rfl ⟨rfl, rfl, rfl, trivial⟩ rfl ⟨Sub.rfl, trivial⟩)) rfl ?_
    refine Dr_st (St_gd [] rfl rfl rfl rfl trivial (fun hg79 => Pu_loadbN (r := [_, _]) rfl Tryz.isAgg31 Tryz.sizeOf31 rfl rfl rfl rfl)) rfl ?_
    refine Dr_st (St_gd [78, 79] rfl rfl rfl rfl ⟨⟨_, rfl⟩, ⟨_, rfl⟩, trivial⟩ (fun hg80 => Pu_eqrow [.int .i64 _, .int .i64 _] [.int .i64 _, .int .i64 _] (fun w => eqv31 _ _ _ _ _ _ w) rfl rfl rfl)) rfl ?_
    refine Dr_p (Pu_and rfl rfl rfl rfl) ?_
    refine Dr_p Pu_mvl ?_
    refine Dr_st (St_gd [] rfl rfl rfl rfl trivial (fun hg83 => by exact Pu_move (.inl rfl) (by conv => lhs; whnf))) rfl ?_
    refine Dr_st (St_gd [83] rfl rfl rfl rfl ⟨⟨_, rfl⟩, trivial⟩ (fun hg84 => Pu_gcall [(1001, 15, g15), (1002, 150, g15), (1003, 151, g15)] (stWaiting_g (p.clean z 0 []) b) (ST_in ..) rfl ⟨rfl, rfl, rfl, trivial⟩ rfl ⟨Sub.rfl, trivial⟩)) rfl ?_
    refine Dr_st (St_gd [] rfl rfl rfl rfl trivial (fun hg85 => by exact Pu_move (.inl rfl) (by conv => lhs; whnf))) rfl ?_
    refine Dr_st (St_gd [84, 85] rfl rfl rfl rfl ⟨⟨_, rfl⟩, ⟨_, rfl⟩, trivial⟩ (fun hg86 => Pu_cmp rfl rfl rfl rfl)) rfl ?_
    refine Dr_p (Pu_and rfl rfl rfl rfl) ?_
    refine Dr_nil ?_
    refine Al_p Pu_mvr ?_
    refine Al_nil ?_
    refine Aw_ret ?_
    exact Sub.bool (by rw [show J.have' (p.clean z 0 []).cs = J.have' p.cs from hcl]; simp [PS.clean]) -- ret 0
end Go.Proofs.YtmbaeloiepjakaaGreat
end
