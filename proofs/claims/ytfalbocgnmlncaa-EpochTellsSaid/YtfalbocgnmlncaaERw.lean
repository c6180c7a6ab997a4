/- Rows by numbers: what the laws' spec makes. -/
import Derived.Test.YtfalbocgnmlncaaEPm
import Derived.Test.YtfalbocgnmlncaaAL
import Derived.Test.YtfalbocgnmlncaaAUb
import Derived.Test.YtfalbocgnmlncaaKPlain6
set_option linter.unusedSimpArgs false
set_option linter.unusedVariables false
namespace Go.Proofs.Ytfalbocgnmlncaa
open Go.RowKit A R
open A.RowT
structure ESpec where
  e0 : List Int
  e1 : List Int
  o0 : List Int
  o1 : List Int
  p : List Int
  odd : Bool
abbrev intsA (l : List Int) : List (List AV) := l.map fun x => [iv x]
def ESpec.row (q : ESpec) : List AV := [.sl 1 (intsA q.e0), .sl 1 (intsA q.e1), .sl 1 (intsA q.o0), .sl 1 (intsA q.o1), .sl 1 (intsA q.p), bv q.odd]
namespace ESpec
def ends (q : ESpec) (w : Nat) : List Int := if w = 0 then q.e0 else q.e1
def owns (q : ESpec) (w : Nat) : List Int := if w = 0 then q.o0 else q.o1
theorem row_at (q : ESpec) {w : Nat} (h : w < 2) : ((q.row.drop 0).drop (w * 1))[0]? = some (.sl 1 (intsA (q.ends w))) ∧ ((q.row.drop 2).drop (w * 1))[0]? = some (.sl 1 (intsA (q.owns w))) := by
  match w, h with
  | 0, _ => exact ⟨rfl, rfl⟩
  | 1, _ => exact ⟨rfl, rfl⟩
def par (x : Int) (i : Nat) : Int := (x.tmod ((i : Int) + 1) + i + 1).tmod ((i : Int) + 1)
def pars0 (q : ESpec) (k : Nat) : List Int := -1 :: (List.range k).map fun i => par (q.p.getD i 0) i
def pars (q : ESpec) (w : Nat) : List Int := pars0 q (min q.p.length 4) ++ if q.odd && decide (w = 1) then [0] else []
def wd (x : Int) : ByteArray := V.ba [UInt8.ofNat ((x.tmod 26 + 26).tmod 26).toNat + 97]
def above (a : ByteArray) (x : Int) : Bool := !(Op.bytesLess (wd x).toList a.toList || (wd x).toList == a.toList)
def estep (s : ByteArray × List Rng) (x : Int) : ByteArray × List Rng := if above s.1 x then (wd x, s.2 ++ [⟨s.1, wd x⟩]) else s
def ewalk (l : List Int) : ByteArray × List Rng := l.foldl estep (⟨#[]⟩, [])
def rngs (q : ESpec) (w : Nat) : List Rng := (ewalk ((q.ends w).take 6)).2 ++ [endR (ewalk ((q.ends w).take 6)).1]
def ownZ (all : Int) (l : List Int) (i : Nat) : Int := if i < l.length then ((l.getD i 0).tmod (all - 1) + all - 1).tmod (all - 1) else 0
def own (all : Int) (l : List Int) (i : Nat) : Int := 1 + ownZ all l i
def all (q : ESpec) (w : Nat) : Int := ((2 ^ (q.pars w).length : Nat) : Int)
def mkR (q : ESpec) (w : Nat) : SRow := ⟨q.rngs w, (List.range (q.rngs w).length).map (own (q.all w) (q.owns w)), q.pars w⟩
theorem pars0_len (q : ESpec) (k : Nat) : (pars0 q k).length = k + 1 := by simp [pars0]
theorem pars0_succ (q : ESpec) (k : Nat) : pars0 q (k + 1) = pars0 q k ++ [par (q.p.getD k 0) k] := by simp [pars0, List.range_succ]
theorem pars_len (q : ESpec) (w : Nat) : 1 ≤ (q.pars w).length ∧ (q.pars w).length ≤ 6 := by
  unfold pars
  rw [List.length_append, pars0_len]
  split <;> simp <;> omega
theorem tmod_b (x : Int) {n : Int} (h : 0 < n) : -n < x.tmod n ∧ x.tmod n < n := by
  have h1 := Int.tmod_lt_of_pos x h
  have h2 := Int.tmod_lt_of_pos (-x) h
  rw [Int.neg_tmod] at h2
  exact ⟨by omega, h1⟩
theorem par_b (x : Int) (i : Nat) : 0 ≤ par x i ∧ par x i ≤ i := by
  unfold par
  have h := tmod_b x (n := (i : Int) + 1) (by omega)
  generalize x.tmod ((i : Int) + 1) = y at h
  have h1 := Int.tmod_lt_of_pos (y + i + 1) (show (0 : Int) < (i : Int) + 1 by omega)
  have h2 := Int.tmod_nonneg ((i : Int) + 1) (show 0 ≤ y + i + 1 by omega)
  omega
theorem ahead (q : ESpec) (w : Nat) : T.Ahead (q.pars w) := by
  have hl := pars_len q w
  refine ⟨hl.1, hl.2, rfl, fun i h1 h2 => ?_⟩
  obtain ⟨i, rfl⟩ : ∃ j, i = j + 1 := ⟨i - 1, by omega⟩
  unfold pars pars0 at h2 ⊢
  rw [List.getD_eq_getElem?_getD]
  simp only [List.cons_append, List.getElem?_cons_succ]
  by_cases hi : i < min q.p.length 4
  · rw [List.getElem?_append_left (by simpa using hi)]
    simp only [List.getElem?_map, List.getElem?_range hi, Option.map_some, Option.getD_some]
    have := par_b (q.p.getD i 0) i
    omega
  · rw [List.getElem?_append_right (by simp; omega)]
    split
    · simp only [List.length_map, List.length_range]
      cases h : [(0 : Int)][i - min q.p.length 4]? with
      | none => simp
      | some z =>
        have := List.mem_of_getElem? h
        obtain rfl : z = 0 := by simpa using this
        simp
    · simp
theorem wd_may (x : Int) : K.mayB (wd x) = true := by
  have h := tmod_b (x.tmod 26 + 26) (n := 26) (by omega)
  have h0 := Int.tmod_nonneg 26 (show 0 ≤ x.tmod 26 + 26 by have := tmod_b x (n := 26) (by omega); omega)
  have key : ∀ n : Nat, n < 26 → K.mayB (V.ba [UInt8.ofNat n + 97]) = true := by decide +kernel
  exact key _ (by omega)
theorem chn (l : List Int) : Chn (ewalk l).2 (ewalk l).1 := by
  have key : ∀ (l : List Int) (s : ByteArray × List Rng), Chn s.2 s.1 → Chn (l.foldl estep s).2 (l.foldl estep s).1 := by
    intro l
    induction l with
    | nil => intro s h; exact h
    | cons x l ih =>
      intro s h
      refine ih _ ?_
      unfold estep
      split
      · rename_i hab
        refine .snoc h (wd_may x) ?_
        unfold above at hab
        simp only [Bool.not_eq_true', Bool.or_eq_false_iff] at hab
        cases h3 : Op.bytesLess s.1.toList (wd x).toList with
        | true => rfl
        | false => have := K.bl_tri _ _ hab.1 h3; rw [this] at hab; simp at hab
      · exact h
  exact key l _ .nil
theorem ewalk_len (l : List Int) : (ewalk l).2.length ≤ l.length := by
  have key : ∀ (l : List Int) (s : ByteArray × List Rng), (l.foldl estep s).2.length ≤ s.2.length + l.length := by
    intro l
    induction l with
    | nil => intro s; simp
    | cons x l ih =>
      intro s
      have h1 := ih (estep s x)
      have h2 : (estep s x).2.length ≤ s.2.length + 1 := by unfold estep; split <;> simp
      simp only [List.foldl_cons, List.length_cons]
      omega
  have := key l (⟨#[]⟩, [])
  simpa [ewalk] using this
theorem ewalk_take (l : List Int) {k : Nat} (hk : k < l.length) : ewalk (l.take (k + 1)) = estep (ewalk (l.take k)) l[k] := by
  unfold ewalk
  rw [List.take_succ_eq_append_getElem hk, List.foldl_append]; rfl
theorem rngs_len (q : ESpec) (w : Nat) : 1 ≤ (q.rngs w).length ∧ (q.rngs w).length ≤ 7 := by
  unfold rngs
  have := ewalk_len ((q.ends w).take 6)
  rw [List.length_take] at this
  rw [List.length_append]
  simp; omega
theorem whole_rngs (q : ESpec) (w : Nat) : whole (q.rngs w) = true := (chn _).whole
theorem own_b {all : Int} (h : 2 ≤ all) (l : List Int) (i : Nat) : 1 ≤ own all l i ∧ own all l i < all := by
  unfold own ownZ
  split
  · have h1 := tmod_b (l.getD i 0) (n := all - 1) (by omega)
    generalize (l.getD i 0).tmod (all - 1) = y at h1
    have h2 := Int.tmod_lt_of_pos (y + all - 1) (show (0 : Int) < all - 1 by omega)
    have h3 := Int.tmod_nonneg (all - 1) (show 0 ≤ y + all - 1 by omega)
    omega
  · omega
theorem all_b (q : ESpec) (w : Nat) : 2 ≤ q.all w ∧ q.all w ≤ 64 := by
  have hl := pars_len q w
  unfold all
  have h1 := T.pow_le hl.2
  have h2 : 2 ^ 1 ≤ 2 ^ (q.pars w).length := Nat.pow_le_pow_right (by omega) hl.1
  omega
theorem ok_of {c : SRow} (h1 : 1 ≤ c.parents.length) (h2 : c.parents.length ≤ 6) (h3 : c.ranges.length ≤ 8) (h4 : c.owners.length = c.ranges.length) (h5 : whole c.ranges = true) (h6 : ∀ x ∈ c.owners, 1 ≤ x ∧ x < (2 : Int) ^ c.parents.length) : T.ok c = true := by
  have hs : S.shape c = true := by
    unfold S.shape
    rw [decide_eq_false (show ¬ c.parents.length < 1 by omega), decide_eq_false (show ¬ 6 < c.parents.length by omega), decide_eq_false (show ¬ 8 < c.ranges.length by omega), decide_eq_true h4, h5]
    rfl
  unfold T.ok
  rw [hs, Bool.true_and, Bool.not_eq_true', List.any_eq_false]
  intro x hx
  have h7 := h6 x hx
  unfold S.badO
  rw [decide_eq_false (show ¬ x < 1 by omega), decide_eq_false (show ¬ (2 : Int) ^ c.parents.length ≤ x by omega)]
  simp
theorem ok (q : ESpec) (w : Nat) : T.ok (q.mkR w) = true := by
  have h1 := pars_len q w
  have h2 := rngs_len q w
  have h3 := all_b q w
  refine ok_of h1.1 h1.2 (show (q.rngs w).length ≤ 8 by omega) (by simp [mkR]) (whole_rngs q w) ?_
  intro x hx
  obtain ⟨i, _, rfl⟩ := List.mem_map.1 hx
  have h4 := own_b h3.1 (q.owns w) i
  have h5 : ((2 ^ (q.pars w).length : Nat) : Int) = (2 : Int) ^ (q.pars w).length := T.pow_cast _
  refine ⟨h4.1, ?_⟩
  show _ < (2 : Int) ^ (q.pars w).length
  rw [← h5]
  exact h4.2
end ESpec
theorem ESpec.letter {z : Int} (h0 : 0 ≤ z) (h1 : z < 26) : (97 + z : Int) = ((UInt8.ofNat z.toNat + 97).toNat : Nat) := by
  rw [UInt8.toNat_add, UInt8.toNat_ofNat']
  show 97 + z = (((z.toNat % 2 ^ 8 + 97) % 2 ^ 8 : Nat) : Int)
  omega
theorem ESpec.take6 (l : List Int) : l.take (min l.length 6) = l.take 6 := by
  rcases Nat.le_total l.length 6 with h | h
  · rw [Nat.min_eq_left h, List.take_of_length_le (Nat.le_refl _), List.take_of_length_le h]
  · rw [Nat.min_eq_right h]
set_option maxRecDepth 100000 in
set_option maxHeartbeats 4000000 in
theorem row_a (q : ESpec) (w : Nat) (hw : w < 2) : ACall Try.prog 9 [.row q.row, iv w] (.row (q.mkR w).row) := by
  refine ACall_enterG (fun _ _ => by kernel_rfl) Try.func9 rfl Try.ntmps9 (Reads.cN Try.results9 Try.isAgg29 Try.sizeOf29) (Nat.le_of_ble_eq_true rfl) (fun hok M0 w0 hnl => ?_)
  have hal := ESpec.all_b q w
  have hpl := ESpec.pars_len q w
  refine Aw_seq ?_
  refine Aw_region ?_
  refine Al_pu (Pu_boxN rfl rfl) rfl rfl (by decide) (by kernel_rfl) ?_
  refine Al_alloc rfl rfl rfl (by decide) Try.zeroValue29 rfl (by kernel_rfl) (fun g4 => ?_)
  refine Al_nil ?_
  refine Aw_seq ?_
  refine Aw_region ?_
  refine Al_sliceLit (aa := [(0, _)]) (rows := [[iv (-1)]]) rfl rfl rfl (by decide) (by kernel_rfl) Try.underlying22 Try.sizeOf3 Try.zeroValue3 rfl (by decide) (by decide) (by decide) (by kernel_rfl) ⟨rfl, rfl, rfl, trivial⟩ (rfl) rfl rfl (fun g14 => ?_)
  refine Al_pu (Pu_buildAg (aa := [(2, _)]) rfl Try.underlying29 Try.zeroValue29 (places29 Try.underlying29) (by kernel_rfl) ⟨rfl, rfl, trivial⟩ rfl) rfl rfl (by decide) (by kernel_rfl) ?_
  refine Al_alloc rfl rfl rfl (by decide) Try.zeroValue29 rfl (by kernel_rfl) (fun g5 => ?_)
  refine Al_storeAg rfl rfl rfl (by kernel_rfl) Try.sizeOf29 rfl rfl rfl rfl (Nat.le_of_ble_eq_true rfl) ?_
  refine Al_nil ?_
  refine Aw_seq ?_
  refine Aw_seq ?_
  refine Aw_owncell (k := 5) 0 (k2 := 105) (e := 35) (n := 2) rfl rfl rfl (fun ga => ?_)
  refine Aw_owncell (k := 5) 1 (k2 := 205) (e := 3) (n := 1) rfl rfl rfl (fun gb => ?_)
  refine Aw_region ?_
  refine Al_pu (Pu_move (.inr rfl) (by conv => lhs; whnf)) rfl rfl (by decide) (by kernel_rfl) ?_
  refine Al_nil ?_
  refine Aw_block ?_
  refine Aw_loopk (ι := Nat × Nat) [1, 2, 4, 5] [105, 205, 4] (fun (k, g) => [(6, .d (iv k))]) (fun (k, g) => [(14, g, .arr 3 1 (intsA (ESpec.pars0 q k))), (5, g5, .box 29 [.ow 105 ga, .ow 205 gb, .ow 14 g])]) (fun (k, g) => k ≤ (min q.p.length 4)) (fun (k, g) => (min q.p.length 4) - k) ((0, g14)) (Nat.zero_le _) ⟨Sub.rfl, trivial⟩ ⟨rfl, rfl, trivial⟩ ?_
  rintro ⟨k, g⟩ hk0
  refine Aw_seq ?_
  refine Aw_seq ?_
  refine Aw_region ?_
  refine Al_pu (Pu_move (.inl rfl) (by conv => lhs; whnf)) rfl rfl (by decide) (by kernel_rfl) ?_
  refine Al_pu (Pu_field 4 rfl Try.underlying25 rfl rfl Try.sizeOf22 rfl) rfl rfl (by decide) (by kernel_rfl) ?_
  refine Al_pu (Pu_load1 rfl Try.isAgg22 rfl rfl) rfl rfl (by decide) (by kernel_rfl) ?_
  refine Al_pu (Pu_len rfl Try.underlying22 rfl (by first | exact List.length_map .. | exact rfl)) rfl rfl (by decide) (by kernel_rfl) ?_
  refine Al_pu (Pu_cmp rfl rfl rfl rfl) rfl rfl (by decide) (by kernel_rfl) ?_
  refine Al_pu (Pu_move (.inl rfl) (by conv => lhs; whnf)) rfl rfl (by decide) (by kernel_rfl) ?_
  refine Al_st (St_gd [] rfl rfl rfl rfl trivial (fun hg22 => by exact Pu_move (.inl rfl) (by conv => lhs; whnf))) rfl (by decide) (by kernel_rfl) (by intro j b oj dj h1 h2 h3; cases h1; cases h2; cases h3; decide) ?_
  refine Al_st (St_gd [22] rfl rfl rfl rfl ⟨⟨_, rfl⟩, trivial⟩ (fun hg23 => Pu_cmp rfl rfl rfl rfl)) rfl (by decide) (by kernel_rfl) (by intro j b oj dj h1 h2 h3; cases h1; cases h2; cases h3; decide) ?_
  refine Al_pu (Pu_and rfl rfl rfl rfl) rfl rfl (by decide) (by kernel_rfl) ?_
  refine Al_nil ?_
  refine Aw_cond rfl (fun h24 => ?_) (fun h24 => ?_)
  · (try simp only [decide_eq_true_eq, decide_eq_false_iff_not, Bool.and_eq_true, Bool.or_eq_true, Bool.and_eq_false_iff, Bool.or_eq_false_iff, Bool.not_eq_true', Bool.not_eq_false', beq_iff_eq, Bool.not_eq_eq_eq_not, Bool.not_true, Bool.not_false, List.length_map, Bool.and_true, Bool.and_false, Bool.false_and, Bool.true_and, Bool.or_false, Bool.false_or] at h24)
    have hk : k < q.p.length := by omega
    have hb1 := ESpec.tmod_b (q.p[k]'hk) (n := (k : Int) + 1) (by omega)
    have hpl0 := ESpec.pars0_len q k
    refine Aw_skip ?_
    refine Aw_seq ?_
    refine Aw_block ?_
    refine Aw_draw 17 (by kernel_rfl) (by kernel_rfl) ?_
    refine Dr_pu (Pu_fieldb 2 rfl Try.underlying29 rfl rfl Try.sizeOf22 rfl) rfl rfl ?_
    refine Dr_pu (Pu_loadb rfl Try.isAgg22 rfl rfl rfl) rfl rfl ?_
    refine Dr_pu (Pu_field 4 rfl Try.underlying25 rfl rfl Try.sizeOf22 rfl) rfl rfl ?_
    refine Dr_pu (Pu_load1 rfl Try.isAgg22 rfl rfl) rfl rfl ?_
    refine Dr_pu (Pu_move (.inl rfl) (by conv => lhs; whnf)) rfl rfl ?_
    refine Dr_pu (Pu_index rfl Try.underlying22 Try.sizeOf3 rfl rfl (rfl) (mapget hk)) rfl rfl ?_
    refine Dr_pu (Pu_load1 rfl Try.isAgg3 rfl rfl) rfl rfl ?_
    refine Dr_pu (Pu_move (.inl rfl) (by conv => lhs; whnf)) rfl rfl ?_
    refine Dr_pu (Pu_add rfl rfl rfl (fun h1 h2 => by simp only [A.inI, A.maxI] at *; omega)) rfl rfl ?_
    refine Dr_pu (Pu_rem rfl rfl rfl (by omega) rfl) rfl rfl ?_
    refine Dr_pu (Pu_move (.inl rfl) (by conv => lhs; whnf)) rfl rfl ?_
    refine Dr_pu (Pu_add rfl rfl rfl (fun h1 h2 => by simp only [A.inI, A.maxI] at *; omega)) rfl rfl ?_
    refine Dr_pu (Pu_add rfl rfl rfl (fun h1 h2 => by simp only [A.inI, A.maxI] at *; omega)) rfl rfl ?_
    refine Dr_pu (Pu_move (.inl rfl) (by conv => lhs; whnf)) rfl rfl ?_
    refine Dr_pu (Pu_add rfl rfl rfl (fun h1 h2 => by simp only [A.inI, A.maxI] at *; omega)) rfl rfl ?_
    refine Dr_pu (Pu_rem rfl rfl rfl (by omega) rfl) rfl rfl ?_
    refine Dr_pu (Pu_slice1 rfl Try.underlying22 Try.sizeOf3 Try.zeroValue3 rfl (by decide) (by decide) (by kernel_rfl) rfl rfl rfl) rfl rfl ?_
    refine Dr_nil ?_
    refine Al_append rfl rfl rfl (by decide) (by kernel_rfl) elem22 (by decide) Try.sizeOf3 rfl rfl rfl (by rw [List.length_map]; simp; omega) (by decide) (fun g44 => ?_)
    refine Al_pu (Pu_fieldb 2 rfl Try.underlying29 rfl rfl Try.sizeOf22 rfl) rfl rfl (by decide) (by kernel_rfl) ?_
    refine Al_store1 rfl rfl rfl (by kernel_rfl) Try.isAgg22 Try.sizeOf22 rfl rfl (Nat.le_of_ble_eq_true rfl) (by conv => lhs; whnf) rfl ?_
    refine Al_nil ?_
    refine Aw_region ?_
    refine Al_pu (Pu_move (.inl rfl) (by conv => lhs; whnf)) rfl rfl (by decide) (by kernel_rfl) ?_
    refine Al_pu (Pu_add rfl rfl rfl (fun h1 h2 => by simp only [A.inI, A.maxI] at *; omega)) rfl rfl (by decide) (by kernel_rfl) ?_
    refine Al_pu (Pu_move (.inr rfl) (by conv => lhs; whnf)) rfl rfl (by decide) (by kernel_rfl) ?_
    refine Al_nil ?_
    exact ⟨(k + 1, g44), by omega, by simp only []; omega, Le.ov ⟨Sub.num (by omega), trivial⟩ ⟨Sub.rfl, Sub.rfl, Sub.rfl, Sub.rfl, trivial⟩ ⟨obeq (by rw [ESpec.pars0_succ]; simp [A.cellsA, ESpec.par, hk]), rfl, trivial⟩ ⟨rfl, rfl, rfl, trivial⟩⟩ -- loop 0 next.0
  · (try simp only [decide_eq_true_eq, decide_eq_false_iff_not, Bool.and_eq_true, Bool.or_eq_true, Bool.and_eq_false_iff, Bool.or_eq_false_iff, Bool.not_eq_true', Bool.not_eq_false', beq_iff_eq, Bool.not_eq_eq_eq_not, Bool.not_true, Bool.not_false, List.length_map, Bool.and_true, Bool.and_false, Bool.false_and, Bool.true_and, Bool.or_false, Bool.false_or] at h24)
    obtain rfl : k = min q.p.length 4 := by omega
    refine Aw_exit ?_
    refine Aw_join (ι := Nat) [1, 2, 4, 5] [105, 205, 4] (fun g2 => []) (fun g2 => [(14, g2, .arr 3 1 (intsA (q.pars w))), (5, g5, .box 29 [.ow 105 ga, .ow 205 gb, .ow 14 g2])]) (fun g2 => True) ?_ ?_ -- join 0
    · refine Aw_seq ?_
      refine Aw_region ?_
      refine Al_pu (Pu_field 5 rfl Try.underlying25 rfl rfl Try.sizeOf4 rfl) rfl rfl (by decide) (by kernel_rfl) ?_
      refine Al_pu (Pu_load1 rfl Try.isAgg4 rfl rfl) rfl rfl (by decide) (by kernel_rfl) ?_
      refine Al_pu (Pu_move (.inl rfl) (by conv => lhs; whnf)) rfl rfl (by decide) (by kernel_rfl) ?_
      refine Al_st (St_gd [] rfl rfl rfl rfl trivial (fun hg49 => by exact Pu_move (.inl rfl) (by conv => lhs; whnf))) rfl (by decide) (by kernel_rfl) (by intro j b oj dj h1 h2 h3; cases h1; cases h2; cases h3; decide) ?_
      refine Al_st (St_gd [49] rfl rfl rfl rfl ⟨⟨_, rfl⟩, trivial⟩ (fun hg50 => Pu_cmp rfl rfl rfl rfl)) rfl (by decide) (by kernel_rfl) (by intro j b oj dj h1 h2 h3; cases h1; cases h2; cases h3; decide) ?_
      refine Al_pu (Pu_and rfl rfl rfl rfl) rfl rfl (by decide) (by kernel_rfl) ?_
      refine Al_nil ?_
      refine Aw_cond rfl (fun h51 => ?_) (fun h51 => ?_)
      · skip
        have hp : q.pars w = ESpec.pars0 q (min q.p.length 4) ++ [0] := by
          unfold ESpec.pars
          rw [if_pos]
          rw [← h51]; congr 1; exact decide_eq_decide.2 (by omega)
        refine Aw_region ?_
        refine Al_pu (Pu_fieldb 2 rfl Try.underlying29 rfl rfl Try.sizeOf22 rfl) rfl rfl (by decide) (by kernel_rfl) ?_
        refine Al_pu (Pu_loadb rfl Try.isAgg22 rfl rfl rfl) rfl rfl (by decide) (by kernel_rfl) ?_
        refine Al_pu (Pu_slice1 rfl Try.underlying22 Try.sizeOf3 Try.zeroValue3 rfl (by decide) (by decide) (by kernel_rfl) rfl rfl rfl) rfl rfl (by decide) (by kernel_rfl) ?_
        refine Al_append rfl rfl rfl (by decide) (by kernel_rfl) elem22 (by decide) Try.sizeOf3 rfl rfl rfl (by simp [ESpec.pars0]; omega) (by decide) (fun g55 => ?_)
        refine Al_pu (Pu_fieldb 2 rfl Try.underlying29 rfl rfl Try.sizeOf22 rfl) rfl rfl (by decide) (by kernel_rfl) ?_
        refine Al_store1 rfl rfl rfl (by kernel_rfl) Try.isAgg22 Try.sizeOf22 rfl rfl (Nat.le_of_ble_eq_true rfl) (by conv => lhs; whnf) rfl ?_
        refine Al_nil ?_
        exact ⟨g55, trivial, Le.ov trivial ⟨Sub.rfl, Sub.rfl, Sub.rfl, Sub.rfl, trivial⟩ ⟨obeq (by rw [hp]; simp [A.cellsA]), rfl, trivial⟩ ⟨rfl, rfl, rfl, trivial⟩⟩ -- join 0 next.0
      · skip
        have hp : q.pars w = ESpec.pars0 q (min q.p.length 4) := by
          unfold ESpec.pars
          rw [if_neg, List.append_nil]
          intro h
          rw [← Bool.not_eq_true] at h51
          apply h51
          rw [← h]; congr 1; exact decide_eq_decide.2 (by omega)
        refine Aw_skip ?_
        exact ⟨g, trivial, Le.ov trivial ⟨Sub.rfl, Sub.rfl, Sub.rfl, Sub.rfl, trivial⟩ ⟨obeq (by rw [hp]), rfl, trivial⟩ ⟨rfl, rfl, rfl, trivial⟩⟩ -- join 0 next.1
    · rintro g2 hj0
      refine Aw_seq ?_
      refine Aw_region ?_
      refine Al_pu (Pu_move (.inr rfl) (by conv => lhs; whnf)) rfl rfl (by decide) (by kernel_rfl) ?_
      refine Al_nil ?_
      refine Aw_seq ?_
      refine Aw_seq ?_
      refine Aw_region ?_
      refine Al_pu (Pu_move (.inr rfl) (by conv => lhs; whnf)) rfl rfl (by decide) (by kernel_rfl) ?_
      refine Al_nil ?_
      refine Aw_block ?_
      refine Aw_loopk (ι := Nat × Nat) [1, 2, 4, 5] [205, 14, 4] (fun (k, g) => [(8, .d (iv k)), (7, .d (tv (ESpec.ewalk ((q.ends w).take k)).1))]) (fun (k, g) => [(105, g, .arr 35 2 ((ESpec.ewalk ((q.ends w).take k)).2.map Rng.row)), (5, g5, .box 29 [.ow 105 g, .ow 205 gb, .ow 14 g2])]) (fun (k, g) => k ≤ (min (q.ends w).length 6)) (fun (k, g) => (min (q.ends w).length 6) - k) ((0, ga)) (Nat.zero_le _) ⟨Sub.rfl, Sub.rfl, trivial⟩ ⟨rfl, rfl, trivial⟩ ?_
      rintro ⟨k, g⟩ hk1
      refine Aw_seq ?_
      refine Aw_seq ?_
      refine Aw_region ?_
      refine Al_pu (Pu_move (.inl rfl) (by conv => lhs; whnf)) rfl rfl (by decide) (by kernel_rfl) ?_
      refine Al_pu (Pu_move (.inl rfl) (by conv => lhs; whnf)) rfl rfl (by decide) (by kernel_rfl) ?_
      refine Al_pu (Pu_field 0 rfl Try.underlying25 rfl rfl Try.sizeOf23 rfl) rfl rfl (by decide) (by kernel_rfl) ?_
      refine Al_pu (Pu_indexArr rfl Try.underlying23 Try.sizeOf22 rfl rfl (rfl) (hw)) rfl rfl (by decide) (by kernel_rfl) ?_
      refine Al_pu (Pu_load1 rfl Try.isAgg22 rfl (ESpec.row_at q hw).1) rfl rfl (by decide) (by kernel_rfl) ?_
      refine Al_pu (Pu_len rfl Try.underlying22 rfl (by first | exact List.length_map .. | exact rfl)) rfl rfl (by decide) (by kernel_rfl) ?_
      refine Al_pu (Pu_cmp rfl rfl rfl rfl) rfl rfl (by decide) (by kernel_rfl) ?_
      refine Al_pu (Pu_move (.inl rfl) (by conv => lhs; whnf)) rfl rfl (by decide) (by kernel_rfl) ?_
      refine Al_st (St_gd [] rfl rfl rfl rfl trivial (fun hg65 => by exact Pu_move (.inl rfl) (by conv => lhs; whnf))) rfl (by decide) (by kernel_rfl) (by intro j b oj dj h1 h2 h3; cases h1; cases h2; cases h3; decide) ?_
      refine Al_st (St_gd [65] rfl rfl rfl rfl ⟨⟨_, rfl⟩, trivial⟩ (fun hg66 => Pu_cmp rfl rfl rfl rfl)) rfl (by decide) (by kernel_rfl) (by intro j b oj dj h1 h2 h3; cases h1; cases h2; cases h3; decide) ?_
      refine Al_pu (Pu_and rfl rfl rfl rfl) rfl rfl (by decide) (by kernel_rfl) ?_
      refine Al_nil ?_
      refine Aw_cond rfl (fun h67 => ?_) (fun h67 => ?_)
      · (try simp only [decide_eq_true_eq, decide_eq_false_iff_not, Bool.and_eq_true, Bool.or_eq_true, Bool.and_eq_false_iff, Bool.or_eq_false_iff, Bool.not_eq_true', Bool.not_eq_false', beq_iff_eq, Bool.not_eq_eq_eq_not, Bool.not_true, Bool.not_false, List.length_map, Bool.and_true, Bool.and_false, Bool.false_and, Bool.true_and, Bool.or_false, Bool.false_or] at h67)
        have hk : k < (q.ends w).length := by omega
        have hb1 := ESpec.tmod_b ((q.ends w)[k]'hk) (n := 26) (by omega)
        have hb2 := ESpec.tmod_b (((q.ends w)[k]'hk).tmod 26 + 26) (n := 26) (by omega)
        have hb3 := Int.tmod_nonneg 26 (show 0 ≤ ((q.ends w)[k]'hk).tmod 26 + 26 by omega)
        have hel := ESpec.ewalk_len ((q.ends w).take k)
        rw [List.length_take] at hel
        have het := ESpec.ewalk_take (q.ends w) hk
        have hwd : ESpec.wd ((q.ends w)[k]'hk) = V.ba [UInt8.ofNat ((((q.ends w)[k]'hk).tmod 26 + 26).tmod 26).toNat + 97] := rfl
        refine Aw_skip ?_
        -- join 1: live [1, 2, 4, 5, 7, 8], turned [7]
        refine Aw_seq ?_
        refine Aw_block ?_
        refine Aw_seq ?_
        refine Aw_region ?_
        refine Al_pu (Pu_move (.inl rfl) (by conv => lhs; whnf)) rfl rfl (by decide) (by kernel_rfl) ?_
        refine Al_pu (Pu_field 0 rfl Try.underlying25 rfl rfl Try.sizeOf23 rfl) rfl rfl (by decide) (by kernel_rfl) ?_
        refine Al_pu (Pu_indexArr rfl Try.underlying23 Try.sizeOf22 rfl rfl (rfl) (hw)) rfl rfl (by decide) (by kernel_rfl) ?_
        refine Al_pu (Pu_load1 rfl Try.isAgg22 rfl (ESpec.row_at q hw).1) rfl rfl (by decide) (by kernel_rfl) ?_
        refine Al_pu (Pu_move (.inl rfl) (by conv => lhs; whnf)) rfl rfl (by decide) (by kernel_rfl) ?_
        refine Al_pu (Pu_index rfl Try.underlying22 Try.sizeOf3 rfl rfl (rfl) (mapget hk)) rfl rfl (by decide) (by kernel_rfl) ?_
        refine Al_pu (Pu_load1 rfl Try.isAgg3 rfl rfl) rfl rfl (by decide) (by kernel_rfl) ?_
        refine Al_pu (Pu_rem rfl rfl rfl (by decide) rfl) rfl rfl (by decide) (by kernel_rfl) ?_
        refine Al_pu (Pu_add rfl rfl rfl (fun h1 h2 => by simp only [A.inI, A.maxI] at *; omega)) rfl rfl (by decide) (by kernel_rfl) ?_
        refine Al_pu (Pu_rem rfl rfl rfl (by decide) rfl) rfl rfl (by decide) (by kernel_rfl) ?_
        refine Al_pu (Pu_add rfl rfl rfl (fun h1 h2 => by simp only [A.inI, A.maxI] at *; omega)) rfl rfl (by decide) (by kernel_rfl) ?_
        refine Al_pu (Pu_conv rfl Try.underlying3 Try.underlying5 rfl (fun hv => ⟨IntWalk.u8_in _ ⟨by omega, by omega⟩, by show 0 ≤ _ ∧ _ ≤ (255 : Int); omega⟩)) rfl rfl (by decide) (by kernel_rfl) ?_
        refine Al_pu (Pu_slice1 rfl Try.underlying51 Try.sizeOf5 Try.zeroValue5 rfl (by decide) (by decide) (by kernel_rfl) rfl rfl rfl) rfl rfl (by decide) (by kernel_rfl) ?_
        refine Al_pu (Pu_convBS (bs := [UInt8.ofNat ((((q.ends w)[k]'hk).tmod 26 + 26).tmod 26).toNat + 97]) rfl Try.underlying51 Try.underlying5 Try.underlying9 (congrArg (fun z => SV.d (.sl 1 [[.v (.int .u8 z)]])) (ESpec.letter hb3 (by omega)))) rfl rfl (by decide) (by kernel_rfl) ?_
        refine Al_pu (Pu_move (.inr rfl) (by conv => lhs; whnf)) rfl rfl (by decide) (by kernel_rfl) ?_
        refine Al_nil ?_
        refine Aw_seq ?_
        refine Aw_region ?_
        refine Al_pu (Pu_move (.inl rfl) (by conv => lhs; whnf)) rfl rfl (by decide) (by kernel_rfl) ?_
        refine Al_pu (Pu_move (.inl rfl) (by conv => lhs; whnf)) rfl rfl (by decide) (by kernel_rfl) ?_
        refine Al_pu (Pu_str rfl rfl rfl rfl) rfl rfl (by decide) (by kernel_rfl) ?_
        refine Al_nil ?_
        refine Aw_cond rfl (fun h86 => ?_) (fun h86 => ?_)
        · skip
          have hes : ESpec.ewalk ((q.ends w).take (k + 1)) = (ESpec.wd ((q.ends w)[k]'hk), (ESpec.ewalk ((q.ends w).take k)).2 ++ [⟨(ESpec.ewalk ((q.ends w).take k)).1, ESpec.wd ((q.ends w)[k]'hk)⟩]) := by
            rw [het]; unfold ESpec.estep; rw [if_pos]; exact h86
          refine Aw_seq ?_
          refine Aw_region ?_
          refine Al_pu (Pu_fieldb 0 rfl Try.underlying29 rfl rfl Try.sizeOf27 rfl) rfl rfl (by decide) (by kernel_rfl) ?_
          refine Al_pu (Pu_loadb rfl Try.isAgg27 rfl rfl rfl) rfl rfl (by decide) (by kernel_rfl) ?_
          refine Al_pu (Pu_move (.inl rfl) (by conv => lhs; whnf)) rfl rfl (by decide) (by kernel_rfl) ?_
          refine Al_pu (Pu_move (.inl rfl) (by conv => lhs; whnf)) rfl rfl (by decide) (by kernel_rfl) ?_
          refine Al_pu (Pu_build (aa := [(0, _), (1, _)]) rfl Try.underlying35 Try.zeroValue35 (places35 Try.underlying35) (by kernel_rfl) ⟨rfl, rfl, rfl, rfl, rfl, rfl, trivial⟩ rfl) rfl rfl (by decide) (by kernel_rfl) ?_
          refine Al_pu (Pu_slice1 rfl Try.underlying27 Try.sizeOf35 Try.zeroValue35 rfl (by decide) (by decide) (by kernel_rfl) rfl rfl rfl) rfl rfl (by decide) (by kernel_rfl) ?_
          refine Al_append rfl rfl rfl (by decide) (by kernel_rfl) elem27 (by decide) Try.sizeOf35 rfl rfl rfl (by rw [List.length_map]; simp; omega) (by decide) (fun g93 => ?_)
          refine Al_pu (Pu_fieldb 0 rfl Try.underlying29 rfl rfl Try.sizeOf27 rfl) rfl rfl (by decide) (by kernel_rfl) ?_
          refine Al_store1 rfl rfl rfl (by kernel_rfl) Try.isAgg27 Try.sizeOf27 rfl rfl (Nat.le_of_ble_eq_true rfl) (by conv => lhs; whnf) rfl ?_
          refine Al_nil ?_
          refine Aw_region ?_
          refine Al_pu (Pu_move (.inl rfl) (by conv => lhs; whnf)) rfl rfl (by decide) (by kernel_rfl) ?_
          refine Al_pu (Pu_move (.inr rfl) (by conv => lhs; whnf)) rfl rfl (by decide) (by kernel_rfl) ?_
          refine Al_nil ?_
          refine Aw_region ?_
          refine Al_pu (Pu_move (.inl rfl) (by conv => lhs; whnf)) rfl rfl (by decide) (by kernel_rfl) ?_
          refine Al_pu (Pu_add rfl rfl rfl (fun h1 h2 => by simp only [A.inI, A.maxI] at *; omega)) rfl rfl (by decide) (by kernel_rfl) ?_
          refine Al_pu (Pu_move (.inr rfl) (by conv => lhs; whnf)) rfl rfl (by decide) (by kernel_rfl) ?_
          refine Al_nil ?_
          exact ⟨(k + 1, g93), by omega, by simp only []; omega, Le.ov ⟨Sub.num (by omega), Sub.str (by rw [hes]; rfl), trivial⟩ ⟨Sub.rfl, Sub.rfl, Sub.rfl, Sub.rfl, trivial⟩ ⟨obeq (by rw [hes]; simp [A.cellsA, Rng.row, hwd]), rfl, trivial⟩ ⟨rfl, rfl, rfl, trivial⟩⟩ -- loop 1 next.0
        · skip
          have hes : ESpec.ewalk ((q.ends w).take (k + 1)) = ESpec.ewalk ((q.ends w).take k) := by
            rw [het]; unfold ESpec.estep; rw [if_neg]; unfold ESpec.above; rw [hwd, h86]; simp
          refine Aw_skip ?_
          refine Aw_region ?_
          refine Al_pu (Pu_move (.inl rfl) (by conv => lhs; whnf)) rfl rfl (by decide) (by kernel_rfl) ?_
          refine Al_pu (Pu_add rfl rfl rfl (fun h1 h2 => by simp only [A.inI, A.maxI] at *; omega)) rfl rfl (by decide) (by kernel_rfl) ?_
          refine Al_pu (Pu_move (.inr rfl) (by conv => lhs; whnf)) rfl rfl (by decide) (by kernel_rfl) ?_
          refine Al_nil ?_
          exact ⟨(k + 1, g), by omega, by simp only []; omega, Le.ov ⟨Sub.num (by omega), Sub.str (by rw [hes]), trivial⟩ ⟨Sub.rfl, Sub.rfl, Sub.rfl, Sub.rfl, trivial⟩ ⟨obeq (by rw [hes]), rfl, trivial⟩ ⟨rfl, rfl, rfl, trivial⟩⟩ -- loop 1 next.1
      · (try simp only [decide_eq_true_eq, decide_eq_false_iff_not, Bool.and_eq_true, Bool.or_eq_true, Bool.and_eq_false_iff, Bool.or_eq_false_iff, Bool.not_eq_true', Bool.not_eq_false', beq_iff_eq, Bool.not_eq_eq_eq_not, Bool.not_true, Bool.not_false, List.length_map, Bool.and_true, Bool.and_false, Bool.false_and, Bool.true_and, Bool.or_false, Bool.false_or] at h67)
        have hkk : k = min (q.ends w).length 6 := by omega
        have hel := ESpec.ewalk_len ((q.ends w).take k)
        rw [List.length_take] at hel
        have hrs : (ESpec.ewalk ((q.ends w).take k)).2 ++ [endR (ESpec.ewalk ((q.ends w).take k)).1] = q.rngs w := by unfold ESpec.rngs; rw [hkk, ESpec.take6]
        refine Aw_exit ?_
        refine Aw_seq ?_
        refine Aw_region ?_
        refine Al_pu (Pu_fieldb 0 rfl Try.underlying29 rfl rfl Try.sizeOf27 rfl) rfl rfl (by decide) (by kernel_rfl) ?_
        refine Al_pu (Pu_loadb rfl Try.isAgg27 rfl rfl rfl) rfl rfl (by decide) (by kernel_rfl) ?_
        refine Al_pu (Pu_move (.inl rfl) (by conv => lhs; whnf)) rfl rfl (by decide) (by kernel_rfl) ?_
        refine Al_pu (Pu_build (aa := [(0, _)]) rfl Try.underlying35 Try.zeroValue35 (places35 Try.underlying35) (by kernel_rfl) ⟨rfl, rfl, rfl, trivial⟩ rfl) rfl rfl (by decide) (by kernel_rfl) ?_
        refine Al_pu (Pu_slice1 rfl Try.underlying27 Try.sizeOf35 Try.zeroValue35 rfl (by decide) (by decide) (by kernel_rfl) rfl rfl rfl) rfl rfl (by decide) (by kernel_rfl) ?_
        refine Al_append rfl rfl rfl (by decide) (by kernel_rfl) elem27 (by decide) Try.sizeOf35 rfl rfl rfl (by rw [List.length_map]; simp; omega) (by decide) (fun g101 => ?_)
        refine Al_pu (Pu_fieldb 0 rfl Try.underlying29 rfl rfl Try.sizeOf27 rfl) rfl rfl (by decide) (by kernel_rfl) ?_
        refine Al_store1 rfl rfl rfl (by kernel_rfl) Try.isAgg27 Try.sizeOf27 rfl rfl (Nat.le_of_ble_eq_true rfl) (by conv => lhs; whnf) rfl ?_
        refine Al_nil ?_
        refine Aw_seq ?_
        refine Aw_region ?_
        refine Al_pu (Pu_move (.inr rfl) (by conv => lhs; whnf)) rfl rfl (by decide) (by kernel_rfl) ?_
        refine Al_nil ?_
        refine Aw_seq ?_
        refine Aw_seq ?_
        refine Aw_region ?_
        refine Al_pu (Pu_move (.inr rfl) (by conv => lhs; whnf)) rfl rfl (by decide) (by kernel_rfl) ?_
        refine Al_nil ?_
        refine Aw_block ?_
        refine Aw_loopk (ι := Nat) [1, 2, 4, 5] [105, 205, 14, 5, 4] (fun k2 => [(11, .d (iv k2)), (10, .d (iv ((2 ^ k2 : Nat) : Int)))]) (fun k2 => []) (fun k2 => k2 ≤ (q.pars w).length) (fun k2 => (q.pars w).length - k2) (0) (Nat.zero_le _) ⟨Sub.rfl, Sub.rfl, trivial⟩ trivial ?_
        rintro k2 hk2
        refine Aw_seq ?_
        refine Aw_seq ?_
        refine Aw_region ?_
        refine Al_pu (Pu_move (.inl rfl) (by conv => lhs; whnf)) rfl rfl (by decide) (by kernel_rfl) ?_
        refine Al_pu (Pu_fieldb 2 rfl Try.underlying29 rfl rfl Try.sizeOf22 rfl) rfl rfl (by decide) (by kernel_rfl) ?_
        refine Al_pu (Pu_loadb rfl Try.isAgg22 rfl rfl rfl) rfl rfl (by decide) (by kernel_rfl) ?_
        refine Al_pu (Pu_lenOw (m := (q.pars w).length) rfl Try.underlying22 rfl rfl (List.length_map ..)) rfl rfl (by decide) (by kernel_rfl) ?_
        refine Al_pu (Pu_cmp rfl rfl rfl rfl) rfl rfl (by decide) (by kernel_rfl) ?_
        refine Al_nil ?_
        refine Aw_cond rfl (fun h107 => ?_) (fun h107 => ?_)
        · (try simp only [decide_eq_true_eq, decide_eq_false_iff_not, Bool.and_eq_true, Bool.or_eq_true, Bool.and_eq_false_iff, Bool.or_eq_false_iff, Bool.not_eq_true', Bool.not_eq_false', beq_iff_eq, Bool.not_eq_eq_eq_not, Bool.not_true, Bool.not_false, List.length_map, Bool.and_true, Bool.and_false, Bool.false_and, Bool.true_and, Bool.or_false, Bool.false_or] at h107)
          have hk6 := T.pow_le (n := k2 + 1) (by omega)
          have hk5 := T.pow_le (n := k2) (by omega)
          have hp : 2 ^ (k2 + 1) = 2 ^ k2 * 2 := Nat.pow_succ ..
          refine Aw_skip ?_
          refine Aw_seq ?_
          refine Aw_block ?_
          refine Aw_region ?_
          refine Al_pu (Pu_move (.inl rfl) (by conv => lhs; whnf)) rfl rfl (by decide) (by kernel_rfl) ?_
          refine Al_pu (Pu_int_mul (r := ((2 ^ (k2 + 1) : Nat) : Int)) rfl rfl rfl (by rw [show ((2 ^ k2 : Nat) : Int) * 2 = ((2 ^ (k2 + 1) : Nat) : Int) from by rw [hp]; omega]; exact IntWalk.i64_in _ (by omega)) (fun _ => by show A.inI _; simp only [A.inI]; omega)) rfl rfl (by decide) (by kernel_rfl) ?_
          refine Al_pu (Pu_move (.inr rfl) (by conv => lhs; whnf)) rfl rfl (by decide) (by kernel_rfl) ?_
          refine Al_nil ?_
          refine Aw_region ?_
          refine Al_pu (Pu_move (.inl rfl) (by conv => lhs; whnf)) rfl rfl (by decide) (by kernel_rfl) ?_
          refine Al_pu (Pu_add rfl rfl rfl (fun h1 h2 => by simp only [A.inI, A.maxI] at *; omega)) rfl rfl (by decide) (by kernel_rfl) ?_
          refine Al_pu (Pu_move (.inr rfl) (by conv => lhs; whnf)) rfl rfl (by decide) (by kernel_rfl) ?_
          refine Al_nil ?_
          exact ⟨k2 + 1, by omega, by omega, Le.ov ⟨Sub.num (by omega), Sub.rfl, trivial⟩ ⟨Sub.rfl, Sub.rfl, Sub.rfl, Sub.rfl, trivial⟩ trivial ⟨rfl, rfl, rfl, rfl, rfl, trivial⟩⟩ -- loop 2 next.0
        · (try simp only [decide_eq_true_eq, decide_eq_false_iff_not, Bool.and_eq_true, Bool.or_eq_true, Bool.and_eq_false_iff, Bool.or_eq_false_iff, Bool.not_eq_true', Bool.not_eq_false', beq_iff_eq, Bool.not_eq_eq_eq_not, Bool.not_true, Bool.not_false, List.length_map, Bool.and_true, Bool.and_false, Bool.false_and, Bool.true_and, Bool.or_false, Bool.false_or] at h107)
          have hk2 : k2 = (q.pars w).length := by omega
          have hall : ((2 ^ k2 : Nat) : Int) = q.all w := by rw [hk2]; rfl
          rw [hall]
          refine Aw_exit ?_
          refine Aw_seq ?_
          refine Aw_seq ?_
          refine Aw_region ?_
          refine Al_pu (Pu_move (.inr rfl) (by conv => lhs; whnf)) rfl rfl (by decide) (by kernel_rfl) ?_
          refine Al_nil ?_
          refine Aw_block ?_
          refine Aw_loopk (ι := Nat × Nat) [1, 2, 4, 5, 10] [105, 14, 4] (fun (k3, g3) => [(12, .d (iv k3))]) (fun (k3, g3) => [(205, g3, .arr 3 1 (intsA ((List.range k3).map (ESpec.own (q.all w) (q.owns w))))), (5, g5, .box 29 [.ow 105 g101, .ow 205 g3, .ow 14 g2])]) (fun (k3, g3) => k3 ≤ (q.rngs w).length) (fun (k3, g3) => (q.rngs w).length - k3) ((0, gb)) (Nat.zero_le _) ⟨Sub.rfl, trivial⟩ ⟨rfl, rfl, trivial⟩ ?_
          rintro ⟨k3, g3⟩ hk3
          refine Aw_seq ?_
          refine Aw_seq ?_
          refine Aw_region ?_
          refine Al_pu (Pu_move (.inl rfl) (by conv => lhs; whnf)) rfl rfl (by decide) (by kernel_rfl) ?_
          refine Al_pu (Pu_fieldb 0 rfl Try.underlying29 rfl rfl Try.sizeOf27 rfl) rfl rfl (by decide) (by kernel_rfl) ?_
          refine Al_pu (Pu_loadb rfl Try.isAgg27 rfl rfl rfl) rfl rfl (by decide) (by kernel_rfl) ?_
          refine Al_pu (Pu_lenOw (m := (q.rngs w).length) rfl Try.underlying27 rfl rfl (by rw [← hrs]; simp [A.cellsA, Rng.row, endR])) rfl rfl (by decide) (by kernel_rfl) ?_
          refine Al_pu (Pu_cmp rfl rfl rfl rfl) rfl rfl (by decide) (by kernel_rfl) ?_
          refine Al_nil ?_
          refine Aw_cond rfl (fun h116 => ?_) (fun h116 => ?_)
          · (try simp only [decide_eq_true_eq, decide_eq_false_iff_not, Bool.and_eq_true, Bool.or_eq_true, Bool.and_eq_false_iff, Bool.or_eq_false_iff, Bool.not_eq_true', Bool.not_eq_false', beq_iff_eq, Bool.not_eq_eq_eq_not, Bool.not_true, Bool.not_false, List.length_map, Bool.and_true, Bool.and_false, Bool.false_and, Bool.true_and, Bool.or_false, Bool.false_or] at h116)
            refine Aw_skip ?_
            -- join 2: live [1, 2, 4, 5, 10, 12], turned []
            refine Aw_seq ?_
            refine Aw_block ?_
            refine Aw_seq ?_
            refine Aw_region ?_
            refine Al_pu (Pu_move (.inr rfl) (by conv => lhs; whnf)) rfl rfl (by decide) (by kernel_rfl) ?_
            refine Al_nil ?_
            refine Aw_join (ι := Unit) [1, 2, 4, 5, 10, 12] [105, 205, 14, 5, 4] (fun _ => [(13, .d (iv (ESpec.ownZ (q.all w) (q.owns w) k3)))]) (fun _ => []) (fun _ => True) ?_ ?_ -- join 3
            · refine Aw_seq ?_
              refine Aw_region ?_
              refine Al_pu (Pu_move (.inl rfl) (by conv => lhs; whnf)) rfl rfl (by decide) (by kernel_rfl) ?_
              refine Al_pu (Pu_move (.inl rfl) (by conv => lhs; whnf)) rfl rfl (by decide) (by kernel_rfl) ?_
              refine Al_pu (Pu_field 2 rfl Try.underlying25 rfl rfl Try.sizeOf23 rfl) rfl rfl (by decide) (by kernel_rfl) ?_
              refine Al_pu (Pu_indexArr rfl Try.underlying23 Try.sizeOf22 rfl rfl (rfl) (hw)) rfl rfl (by decide) (by kernel_rfl) ?_
              refine Al_pu (Pu_load1 rfl Try.isAgg22 rfl (ESpec.row_at q hw).2) rfl rfl (by decide) (by kernel_rfl) ?_
              refine Al_pu (Pu_len rfl Try.underlying22 rfl (by first | exact List.length_map .. | exact rfl)) rfl rfl (by decide) (by kernel_rfl) ?_
              refine Al_pu (Pu_cmp rfl rfl rfl rfl) rfl rfl (by decide) (by kernel_rfl) ?_
              refine Al_nil ?_
              refine Aw_cond rfl (fun h125 => ?_) (fun h125 => ?_)
              · (try simp only [decide_eq_true_eq, decide_eq_false_iff_not, Bool.and_eq_true, Bool.or_eq_true, Bool.and_eq_false_iff, Bool.or_eq_false_iff, Bool.not_eq_true', Bool.not_eq_false', beq_iff_eq, Bool.not_eq_eq_eq_not, Bool.not_true, Bool.not_false, List.length_map, Bool.and_true, Bool.and_false, Bool.false_and, Bool.true_and, Bool.or_false, Bool.false_or] at h125)
                have hk3 : k3 < (q.owns w).length := by omega
                have hb1 := ESpec.tmod_b ((q.owns w)[k3]'hk3) (n := q.all w - 1) (by omega)
                have hoz : ESpec.ownZ (q.all w) (q.owns w) k3 = (((q.owns w)[k3]'hk3).tmod (q.all w - 1) + q.all w - 1).tmod (q.all w - 1) := by unfold ESpec.ownZ; rw [if_pos hk3]; simp [hk3]
                refine Aw_region ?_
                refine Al_pu (Pu_move (.inl rfl) (by conv => lhs; whnf)) rfl rfl (by decide) (by kernel_rfl) ?_
                refine Al_pu (Pu_field 2 rfl Try.underlying25 rfl rfl Try.sizeOf23 rfl) rfl rfl (by decide) (by kernel_rfl) ?_
                refine Al_pu (Pu_indexArr rfl Try.underlying23 Try.sizeOf22 rfl rfl (rfl) (hw)) rfl rfl (by decide) (by kernel_rfl) ?_
                refine Al_pu (Pu_load1 rfl Try.isAgg22 rfl (ESpec.row_at q hw).2) rfl rfl (by decide) (by kernel_rfl) ?_
                refine Al_pu (Pu_move (.inl rfl) (by conv => lhs; whnf)) rfl rfl (by decide) (by kernel_rfl) ?_
                refine Al_pu (Pu_index rfl Try.underlying22 Try.sizeOf3 rfl rfl (rfl) (mapget hk3)) rfl rfl (by decide) (by kernel_rfl) ?_
                refine Al_pu (Pu_load1 rfl Try.isAgg3 rfl rfl) rfl rfl (by decide) (by kernel_rfl) ?_
                refine Al_pu (Pu_move (.inl rfl) (by conv => lhs; whnf)) rfl rfl (by decide) (by kernel_rfl) ?_
                refine Al_pu (Pu_sub rfl rfl rfl (fun h1 h2 => by simp only [A.inI, A.maxI] at *; omega)) rfl rfl (by decide) (by kernel_rfl) ?_
                refine Al_pu (Pu_rem rfl rfl rfl (by omega) rfl) rfl rfl (by decide) (by kernel_rfl) ?_
                refine Al_pu (Pu_move (.inl rfl) (by conv => lhs; whnf)) rfl rfl (by decide) (by kernel_rfl) ?_
                refine Al_pu (Pu_add rfl rfl rfl (fun h1 h2 => by simp only [A.inI, A.maxI] at *; omega)) rfl rfl (by decide) (by kernel_rfl) ?_
                refine Al_pu (Pu_sub rfl rfl rfl (fun h1 h2 => by simp only [A.inI, A.maxI] at *; omega)) rfl rfl (by decide) (by kernel_rfl) ?_
                refine Al_pu (Pu_move (.inl rfl) (by conv => lhs; whnf)) rfl rfl (by decide) (by kernel_rfl) ?_
                refine Al_pu (Pu_sub rfl rfl rfl (fun h1 h2 => by simp only [A.inI, A.maxI] at *; omega)) rfl rfl (by decide) (by kernel_rfl) ?_
                refine Al_pu (Pu_rem rfl rfl rfl (by omega) rfl) rfl rfl (by decide) (by kernel_rfl) ?_
                refine Al_pu (Pu_move (.inr rfl) (by conv => lhs; whnf)) rfl rfl (by decide) (by kernel_rfl) ?_
                refine Al_nil ?_
                exact ⟨(), trivial, Le.ov ⟨Sub.num hoz.symm, trivial⟩ ⟨Sub.rfl, Sub.rfl, Sub.rfl, Sub.rfl, Sub.rfl, Sub.rfl, trivial⟩ trivial ⟨rfl, rfl, rfl, rfl, rfl, trivial⟩⟩ -- join 3 next.0
              · (try simp only [decide_eq_true_eq, decide_eq_false_iff_not, Bool.and_eq_true, Bool.or_eq_true, Bool.and_eq_false_iff, Bool.or_eq_false_iff, Bool.not_eq_true', Bool.not_eq_false', beq_iff_eq, Bool.not_eq_eq_eq_not, Bool.not_true, Bool.not_false, List.length_map, Bool.and_true, Bool.and_false, Bool.false_and, Bool.true_and, Bool.or_false, Bool.false_or] at h125)
                have hoz : ESpec.ownZ (q.all w) (q.owns w) k3 = 0 := by unfold ESpec.ownZ; rw [if_neg (by omega)]
                refine Aw_skip ?_
                exact ⟨(), trivial, Le.ov ⟨Sub.num hoz.symm, trivial⟩ ⟨Sub.rfl, Sub.rfl, Sub.rfl, Sub.rfl, Sub.rfl, Sub.rfl, trivial⟩ trivial ⟨rfl, rfl, rfl, rfl, rfl, trivial⟩⟩ -- join 3 next.1
            · rintro _ hj3
              have hob := ESpec.own_b hal.1 (q.owns w) k3
              have hob2 : ESpec.own (q.all w) (q.owns w) k3 = 1 + ESpec.ownZ (q.all w) (q.owns w) k3 := rfl
              have hrl := ESpec.rngs_len q w
              refine Aw_region ?_
              refine Al_pu (Pu_fieldb 1 rfl Try.underlying29 rfl rfl Try.sizeOf22 rfl) rfl rfl (by decide) (by kernel_rfl) ?_
              refine Al_pu (Pu_loadb rfl Try.isAgg22 rfl rfl rfl) rfl rfl (by decide) (by kernel_rfl) ?_
              refine Al_pu (Pu_move (.inl rfl) (by conv => lhs; whnf)) rfl rfl (by decide) (by kernel_rfl) ?_
              refine Al_pu (Pu_add rfl rfl rfl (fun h1 h2 => by simp only [A.inI, A.maxI] at *; omega)) rfl rfl (by decide) (by kernel_rfl) ?_
              refine Al_pu (Pu_slice1 rfl Try.underlying22 Try.sizeOf3 Try.zeroValue3 rfl (by decide) (by decide) (by kernel_rfl) rfl rfl rfl) rfl rfl (by decide) (by kernel_rfl) ?_
              refine Al_append rfl rfl rfl (by decide) (by kernel_rfl) elem22 (by decide) Try.sizeOf3 rfl rfl rfl (by simp; omega) (by decide) (fun g147 => ?_)
              refine Al_pu (Pu_fieldb 1 rfl Try.underlying29 rfl rfl Try.sizeOf22 rfl) rfl rfl (by decide) (by kernel_rfl) ?_
              refine Al_store1 rfl rfl rfl (by kernel_rfl) Try.isAgg22 Try.sizeOf22 rfl rfl (Nat.le_of_ble_eq_true rfl) (by conv => lhs; whnf) rfl ?_
              refine Al_nil ?_
              refine Aw_region ?_
              refine Al_pu (Pu_move (.inl rfl) (by conv => lhs; whnf)) rfl rfl (by decide) (by kernel_rfl) ?_
              refine Al_pu (Pu_add rfl rfl rfl (fun h1 h2 => by simp only [A.inI, A.maxI] at *; omega)) rfl rfl (by decide) (by kernel_rfl) ?_
              refine Al_pu (Pu_move (.inr rfl) (by conv => lhs; whnf)) rfl rfl (by decide) (by kernel_rfl) ?_
              refine Al_nil ?_
              exact ⟨(k3 + 1, g147), by omega, by simp only []; omega, Le.ov ⟨Sub.num (by omega), trivial⟩ ⟨Sub.rfl, Sub.rfl, Sub.rfl, Sub.rfl, Sub.rfl, trivial⟩ ⟨obeq (by rw [List.range_succ]; simp [A.cellsA, ESpec.own]), rfl, trivial⟩ ⟨rfl, rfl, rfl, trivial⟩⟩ -- loop 3 next.0
          · (try simp only [decide_eq_true_eq, decide_eq_false_iff_not, Bool.and_eq_true, Bool.or_eq_true, Bool.and_eq_false_iff, Bool.or_eq_false_iff, Bool.not_eq_true', Bool.not_eq_false', beq_iff_eq, Bool.not_eq_eq_eq_not, Bool.not_true, Bool.not_false, List.length_map, Bool.and_true, Bool.and_false, Bool.false_and, Bool.true_and, Bool.or_false, Bool.false_or] at h116)
            have hk3 : k3 = (q.rngs w).length := by omega
            refine Aw_exit ?_
            refine Aw_seq ?_
            refine Aw_frzc (k := 105) (kb := 5) 0 hnl [] rfl rfl rfl rfl trivial ?_
            refine Aw_frzc (k := 205) (kb := 5) 1 hnl [] rfl rfl rfl rfl trivial ?_
            refine Aw_frzc (k := 14) (kb := 5) 2 hnl [] rfl rfl rfl rfl trivial ?_
            refine Aw_region ?_
            refine Al_pu (Pu_loadbN (r := [_, _, _]) rfl Try.isAgg29 Try.sizeOf29 rfl rfl rfl rfl) rfl rfl (by decide) (by kernel_rfl) ?_
            refine Al_storeN rfl rfl rfl (by kernel_rfl) Try.isAgg29 Try.sizeOf29 rfl rfl rfl rfl (Nat.le_of_ble_eq_true rfl) ?_
            refine Al_nil ?_
            refine Aw_ret ?_
            refine ⟨_, _, _, _, _, [_, _, _], rfl, rfl, rfl, rfl, ?_⟩
            simp only [SRow.row, ESpec.mkR, ← hrs, hk3]
            simp [A.cellsA, Rng.row, endR, intsA] -- ret 0
end Go.Proofs.Ytfalbocgnmlncaa
