/- GraphSeen: of a history that is right all that is ahead was seen. -/
import Derived.Test.YtgoncpjgpkoacaaGHp
import Derived.Test.YtgoncpjgpkoacaaGLe
set_option linter.unusedSimpArgs false
set_option linter.unusedVariables false
namespace Go.Proofs.Ytgoncpjgpkoacaa
open Go.RowKit A R
open A.RowT
/-- Two slots that hold the same: each is brought to what it holds by itself (the kernel does not compare the states). -/
theorem A.Sub.two {s t v : SV} (h1 : s = v) (h2 : t = v) : A.Sub s t := Sub.eq (h1.trans h2.symm)
namespace G
theorem rdAt_base (e : List Event) (c : Int) (key : ByteArray) (p : List Dep) : ∀ k, (rdAt e c key p k).kind = 2 ∧ (rdAt e c key p k).client = c ∧ (rdAt e c key p k).key = key
  | 0 => ⟨rfl, rfl, rfl⟩
  | k + 1 => by
    rw [rdAt]
    split
    · exact ⟨rfl, rfl, rfl⟩
    · exact rdAt_base e c key p k
theorem sn_len {h : HS} {i : Nat} (hI : HI h i) {c : Nat} (hc : c < 4) : (h.2.getD c []).length ≤ 4 := by
  rw [hI.sn c hc]
  refine D.keys_len (behind_good _) fun d hd => ?_
  obtain ⟨w, _, h1, _, rfl⟩ := behind_ent hI.ev _ d hd
  exact (hI.ev w h1).key
theorem hist_seen {h : HS} {i : Nat} (hI : HI h i) : ∀ x ∈ h.1, x.seen.length ≤ 900 := fun x hx => by
  obtain ⟨j, hj, rfl⟩ := List.getElem_of_mem hx
  have := seen_keys hI.ev hj
  have hg : h.1.getD j default = h.1[j] := by simp [hj]
  rw [hg] at this; omega
theorem row_len (x : Event) : (Event.row x).length = 6 := rfl
/-- A cell of a row of events. -/
theorem evAt {e : List Event} {m : Nat} (hm : m < e.length) (j : Nat) {a : AV} (ha : (Event.row (e.getD m default))[j]? = some a) : (e.map Event.row).flatten[m * 6 + j]? = some a := by
  refine flat_get (n := 6) _ m j _ a (fun r hr => ?_) (mapgetD hm) ha
  obtain ⟨x, _, rfl⟩ := List.mem_map.1 hr
  rfl
theorem evAt2 {e : List Event} {m : Nat} (hm : m < e.length) : ((e.map Event.row).flatten.drop (m * 6 + 3)).take 2 = [iv (e.getD m default).n, iv (e.getD m default).s] := by
  apply List.ext_getElem?
  intro x
  rcases Nat.lt_or_ge x 2 with hx | hx
  · rw [List.getElem?_take, if_pos hx, List.getElem?_drop]
    obtain rfl | rfl : x = 0 ∨ x = 1 := by omega
    · exact evAt hm 3 rfl
    · exact evAt hm 4 rfl
  · rw [List.getElem?_take, if_neg (by omega), List.getElem?_eq_none (by simpa using hx)]
theorem snAt {sn : List (List Dep)} {c : Nat} (h : c < sn.length) : (sn.map fun p => SV.d (pastA p))[0 + c * 1]? = some (.d (pastA (sn.getD c []))) := by
  rw [Nat.zero_add, Nat.mul_one, List.getElem?_map, List.getD_eq_getElem?_getD, List.getElem?_eq_getElem h]; rfl
end G
set_option maxRecDepth 100000 in
set_option maxHeartbeats 1000000 in
theorem rbehind_g (l : List Event) (hs : ∀ e ∈ l, e.seen.length ≤ 900) (i : Nat) (hi : i < l.length) : GCall Try.prog 15 [.ow 1001 0, .d (iv i)] [(1001, .arr 33 6 (l.map Event.row))] (some ([(1001, .arr 33 6 (l.map Event.row))], .d (pastA (G.behindN l i)))) := by
  refine GCall_enter (fun _ _ => by kernel_rfl) Try.func15 rfl Try.ntmps15 (ReadsS.r1 Try.results15) (Nat.le_of_ble_eq_true rfl) (fun hok hokB M0 w0 => ?_)
  have hsl : (l.getD i default).seen.length ≤ 900 := by
    have : l.getD i default = l[i] := by simp [hi]
    rw [this]; exact hs _ (List.getElem_mem hi)
  have hme := rmerge_a [(l.getD i default).seen, [G.depE (l.getD i default)]] (by
    have : [(l.getD i default).seen, [G.depE (l.getD i default)]].flatten.length = (l.getD i default).seen.length + 1 := by rw [List.flatten_cons, List.length_append]; rfl
    omega)
  have hmr : i < (l.map Event.row).length := by rw [List.length_map]; exact hi
  refine Aw_seq ?_
  refine Aw_region ?_
  refine Al_pu (Pu_move (.inr rfl) (by conv => lhs; whnf)) rfl rfl (by decide) (by kernel_rfl) ?_
  refine Al_nil ?_
  refine Aw_seq ?_
  refine Aw_seq ?_
  refine Aw_region ?_
  refine Al_pu (Pu_move (.inl rfl) (by conv => lhs; whnf)) rfl rfl (by decide) (by kernel_rfl) ?_
  refine Al_pu (Pu_cmp rfl rfl rfl rfl) rfl rfl (by decide) (by kernel_rfl) ?_
  refine Al_pu (Pu_move (.inl rfl) (by conv => lhs; whnf)) rfl rfl (by decide) (by kernel_rfl) ?_
  refine Al_st (St_gd [] rfl rfl rfl rfl trivial (fun hg8 => by exact Pu_move (.inl rfl) (by conv => lhs; whnf))) rfl (by decide) (by kernel_rfl) (by intro j b oj dj h1 h2 h3; cases h1; cases h2; cases h3; decide) ?_
  refine Al_st (St_gd [] rfl rfl rfl rfl trivial (fun hg9 => by exact Pu_move (.inl rfl) (by conv => lhs; whnf))) rfl (by decide) (by kernel_rfl) (by intro j b oj dj h1 h2 h3; cases h1; cases h2; cases h3; decide) ?_
  refine Al_st (St_gd [9] rfl rfl rfl rfl ⟨⟨_, rfl⟩, trivial⟩ (fun hg10 => Pu_lenOw (m := l.length) rfl Try.underlying24 rfl rfl (List.length_map ..))) rfl (by decide) (by kernel_rfl) (by intro j b oj dj h1 h2 h3; cases h1; cases h2; cases h3; decide) ?_
  refine Al_st (St_gd [8, 10] rfl rfl rfl rfl ⟨⟨_, rfl⟩, ⟨_, rfl⟩, trivial⟩ (fun hg11 => Pu_cmp rfl rfl rfl rfl)) rfl (by decide) (by kernel_rfl) (by intro j b oj dj h1 h2 h3; cases h1; cases h2; cases h3; decide) ?_
  refine Al_pu (Pu_or rfl rfl rfl rfl) rfl rfl (by decide) (by kernel_rfl) ?_
  refine Al_nil ?_
  refine Aw_cond rfl (fun h12 => ?_) (fun h12 => ?_)
  · (try simp only [decide_eq_true_eq, decide_eq_false_iff_not, Bool.and_eq_true, Bool.or_eq_true, Bool.and_eq_false_iff, Bool.or_eq_false_iff, Bool.not_eq_true', Bool.not_eq_false', beq_iff_eq, Bool.not_eq_eq_eq_not, Bool.not_true, Bool.not_false, List.length_map, Bool.and_true, Bool.and_false, Bool.false_and, Bool.true_and, Bool.or_false, Bool.false_or] at h12)
    exfalso; omega
  · (try simp only [decide_eq_true_eq, decide_eq_false_iff_not, Bool.and_eq_true, Bool.or_eq_true, Bool.and_eq_false_iff, Bool.or_eq_false_iff, Bool.not_eq_true', Bool.not_eq_false', beq_iff_eq, Bool.not_eq_eq_eq_not, Bool.not_true, Bool.not_false, List.length_map, Bool.and_true, Bool.and_false, Bool.false_and, Bool.true_and, Bool.or_false, Bool.false_or] at h12)
    refine Aw_skip ?_
    refine Aw_seq ?_
    refine Aw_draw 19 (by kernel_rfl) (by kernel_rfl) ?_
    refine Dr_pu (Pu_move (.inl rfl) (by conv => lhs; whnf)) rfl rfl ?_
    refine Dr_pu (Pu_move (.inl rfl) (by conv => lhs; whnf)) rfl rfl ?_
    refine Dr_pu (Pu_indexOw (j := i) rfl Try.underlying24 Try.sizeOf33 rfl rfl rfl rfl hmr) rfl rfl ?_
    refine Dr_pu (Pu_fieldb 5 rfl Try.underlying33 rfl rfl Try.sizeOf31 rfl) rfl rfl ?_
    refine Dr_pu (Pu_loadArr rfl Try.isAgg31 rfl rfl (G.evAt hi 5 rfl)) rfl rfl ?_
    refine Dr_pu (Pu_move (.inl rfl) (by conv => lhs; whnf)) rfl rfl ?_
    refine Dr_pu (Pu_move (.inl rfl) (by conv => lhs; whnf)) rfl rfl ?_
    refine Dr_pu (Pu_indexOw (j := i) rfl Try.underlying24 Try.sizeOf33 rfl rfl rfl rfl hmr) rfl rfl ?_
    refine Dr_pu (Pu_fieldb 2 rfl Try.underlying33 rfl rfl Try.sizeOf9 rfl) rfl rfl ?_
    refine Dr_pu (Pu_loadArr rfl Try.isAgg9 rfl rfl (G.evAt hi 2 rfl)) rfl rfl ?_
    refine Dr_pu (Pu_move (.inl rfl) (by conv => lhs; whnf)) rfl rfl ?_
    refine Dr_pu (Pu_move (.inl rfl) (by conv => lhs; whnf)) rfl rfl ?_
    refine Dr_pu (Pu_indexOw (j := i) rfl Try.underlying24 Try.sizeOf33 rfl rfl rfl rfl hmr) rfl rfl ?_
    refine Dr_pu (Pu_fieldb 3 rfl Try.underlying33 rfl rfl Try.sizeOf30 rfl) rfl rfl ?_
    refine Dr_pu (Pu_loadArrN rfl Try.isAgg30 Try.sizeOf30 rfl rfl (G.evAt2 hi) rfl) rfl rfl ?_
    refine Dr_pu (Pu_build (aa := [(0, _), (1, _)]) rfl Try.underlying60 Try.zeroValue60 (places60 Try.underlying60) (by kernel_rfl) ⟨rfl, rfl, rfl, rfl, rfl, rfl, trivial⟩ rfl) rfl rfl ?_
    refine Dr_pu (Pu_slice1 rfl Try.underlying31 Try.sizeOf60 Try.zeroValue60 rfl (by decide) (by decide) (by kernel_rfl) rfl rfl rfl) rfl rfl ?_
    refine Dr_pu (Pu_buildSlice (aa := [(0, _), (1, _)]) rfl Try.underlying41 Try.sizeOf31 Try.zeroValue31 rfl (by decide) (by decide) (by decide) (by kernel_rfl) ⟨rfl, rfl, rfl, rfl, rfl, rfl, trivial⟩ ((rfl : _ = some [[pastA (l.getD i default).seen], [pastA [G.depE (l.getD i default)]]].flatten)) rfl rfl) rfl rfl ?_
    refine Dr_pu (Pu_call (hme) rfl ⟨Sub.rfl, trivial⟩) rfl rfl ?_
    refine Dr_nil ?_
    refine Al_pu (Pu_move (.inr rfl) (by conv => lhs; whnf)) rfl rfl (by decide) (by kernel_rfl) ?_
    refine Al_nil ?_
    refine Aw_ret ?_
    exact ⟨_, _, [], rfl, Sub.rfl, ⟨rfl, trivial⟩, rfl⟩ -- ret 0
theorem behind_new (l : List Act) (k : Nat) (hk : k < 16) (x : Event) (hx : G.evt (G.hist l k).1 ((G.hist l k).2.getD (G.andI (l.getD k default).client 3).toNat []) k (l.getD k default) = x) : GCall Try.prog 15 [.ow 1001 0, .d (iv (k : Nat))] [(1001, .arr 33 6 ((G.hist l k).1.map Event.row ++ [x.row]))] (some ([(1001, .arr 33 6 ((G.hist l k).1.map Event.row ++ [x.row]))], .d (pastA (G.behindN ((G.hist l k).1 ++ [x]) k)))) ∧ (G.hist l (k + 1)).1 = (G.hist l k).1 ++ [x] ∧ (G.hist l (k + 1)).2 = (G.hist l k).2.set (G.andI (l.getD k default).client 3).toNat (G.behindN ((G.hist l k).1 ++ [x]) k) := by
  have hI := G.hist_I l k (by omega)
  have hI' := G.hist_I l (k + 1) (by omega)
  have h1 : (G.hist l (k + 1)).1 = (G.hist l k).1 ++ [x] := by rw [← hx]; rfl
  have h2 : (G.hist l (k + 1)).2 = (G.hist l k).2.set (G.andI (l.getD k default).client 3).toNat (G.behindN ((G.hist l k).1 ++ [x]) (G.hist l k).1.length) := by rw [← hx]; rfl
  rw [hI.len] at h2
  refine ⟨?_, h1, h2⟩
  have h3 := rbehind_g _ (G.hist_seen hI') k (by rw [hI'.len]; omega)
  rw [h1, List.map_append] at h3
  exact h3
set_option maxRecDepth 100000 in
set_option maxHeartbeats 8000000 in
theorem gseen_law (l : List Act) : ACall Try.prog 4 [.sl 5 (l.map Act.row)] (bv true) := by
  refine ACall_enter (fun _ _ => by kernel_rfl) Try.func4 rfl Try.ntmps4 Try.results4 (Nat.le_of_ble_eq_true rfl) (fun hok M0 w0 hnl => ?_)
  have hlen := (hok _ (List.mem_cons_self ..)).len
  rw [List.length_map] at hlen
  refine Aw_seq ?_
  refine Aw_region ?_
  refine Al_pu (Pu_move (.inr rfl) (by conv => lhs; whnf)) rfl rfl (by decide) (by kernel_rfl) ?_
  refine Al_nil ?_
  refine Aw_seq ?_
  refine Aw_region ?_
  refine Al_pu (Pu_call (gawake_a) rfl trivial) rfl rfl (by decide) (by kernel_rfl) ?_
  refine Al_pu (Pu_move (.inr rfl) (by conv => lhs; whnf)) rfl rfl (by decide) (by kernel_rfl) ?_
  refine Al_nil ?_
  refine Aw_seq ?_
  refine Aw_region ?_
  refine Al_pu (Pu_buildArr (aa := [(0, _), (1, _), (2, _), (3, _)]) rfl Try.underlying36 Try.zeroValue36 Try.sizeOf9 (by kernel_rfl) ⟨rfl, rfl, rfl, rfl, rfl, rfl, rfl, rfl, rfl, rfl, rfl, rfl, trivial⟩ rfl) rfl rfl (by decide) (by kernel_rfl) ?_
  refine Al_alloc rfl rfl rfl (by decide) Try.zeroValue36 rfl (by kernel_rfl) (fun g4 => ?_)
  refine Al_storeN rfl rfl rfl (by kernel_rfl) Try.isAgg36 Try.sizeOf36 rfl rfl rfl rfl (Nat.le_of_ble_eq_true rfl) ?_
  refine Al_nil ?_
  refine Aw_seq ?_
  refine Aw_region ?_
  refine Al_pu (Pu_move (.inr rfl) (by conv => lhs; whnf)) rfl rfl (by decide) (by kernel_rfl) ?_
  refine Al_nil ?_
  refine Aw_seq ?_
  refine Aw_region ?_
  refine Al_alloc rfl rfl rfl (by decide) Try.zeroValue37 rfl (by kernel_rfl) (fun g6 => ?_)
  refine Al_nil ?_
  refine Aw_seq ?_
  refine Aw_seq ?_
  refine Aw_region ?_
  refine Al_pu (Pu_move (.inr rfl) (by conv => lhs; whnf)) rfl rfl (by decide) (by kernel_rfl) ?_
  refine Al_nil ?_
  refine Aw_block ?_
  refine Aw_own (j := 5) (k := 5) (T := 33) (n := 6) rfl (fun g0 => ?_)
  refine Aw_boxle (k := 6) (([[], [], [], []] : List (List Dep)).map fun p => SV.d (pastA p)) rfl ⟨Sub.nil, Sub.nil, Sub.nil, Sub.nil, trivial⟩ ?_
  refine Aw_loopk (ι := Nat × Nat) [0, 3, 4, 6] [4] (fun (k, g) => [(7, .d (iv k)), (5, .ow 5 g)]) (fun (k, g) => [(5, g, .arr 33 6 ((G.hist l k).1.map Event.row)), (6, g6, .box 37 ((G.hist l k).2.map fun p => SV.d (pastA p)))]) (fun (k, g) => k ≤ l.length ∧ k ≤ 16) (fun (k, g) => 16 - k) (0, g0) (⟨by omega, by omega⟩) ⟨Sub.num rfl, Sub.rfl, trivial⟩ ⟨rfl, rfl, trivial⟩ ?_
  rintro ⟨k, g⟩ ⟨hk1, hk2⟩
  refine Aw_seq ?_
  refine Aw_seq ?_
  refine Aw_region ?_
  refine Al_pu (Pu_move (.inl rfl) (by conv => lhs; whnf)) rfl rfl (by decide) (by kernel_rfl) ?_
  refine Al_pu (Pu_move (.inl rfl) (by conv => lhs; whnf)) rfl rfl (by decide) (by kernel_rfl) ?_
  refine Al_pu (Pu_len rfl Try.underlying22 rfl (by first | exact List.length_map .. | exact rfl)) rfl rfl (by decide) (by kernel_rfl) ?_
  refine Al_pu (Pu_cmp rfl rfl rfl rfl) rfl rfl (by decide) (by kernel_rfl) ?_
  refine Al_pu (Pu_move (.inl rfl) (by conv => lhs; whnf)) rfl rfl (by decide) (by kernel_rfl) ?_
  refine Al_st (St_gd [] rfl rfl rfl rfl trivial (fun hg20 => by exact Pu_move (.inl rfl) (by conv => lhs; whnf))) rfl (by decide) (by kernel_rfl) (by intro j b oj dj h1 h2 h3; cases h1; cases h2; cases h3; decide) ?_
  refine Al_st (St_gd [20] rfl rfl rfl rfl ⟨⟨_, rfl⟩, trivial⟩ (fun hg21 => Pu_cmp rfl rfl rfl rfl)) rfl (by decide) (by kernel_rfl) (by intro j b oj dj h1 h2 h3; cases h1; cases h2; cases h3; decide) ?_
  refine Al_pu (Pu_and rfl rfl rfl rfl) rfl rfl (by decide) (by kernel_rfl) ?_
  refine Al_nil ?_
  refine Aw_cond rfl (fun h22 => ?_) (fun h22 => ?_)
  · (try simp only [decide_eq_true_eq, decide_eq_false_iff_not, Bool.and_eq_true, Bool.or_eq_true, Bool.and_eq_false_iff, Bool.or_eq_false_iff, Bool.not_eq_true', Bool.not_eq_false', beq_iff_eq, Bool.not_eq_eq_eq_not, Bool.not_true, Bool.not_false, List.length_map, Bool.and_true, Bool.and_false, Bool.false_and, Bool.true_and, Bool.or_false, Bool.false_or] at h22)
    obtain ⟨h22a, h22b⟩ : k < l.length ∧ k < 16 := by omega
    have hI := G.hist_I l k hk2
    have hI' := G.hist_I l (k + 1) (by omega)
    have hst : G.hist l (k + 1) = G.hstep (G.hist l k) k (l.getD k default) := rfl
    have hcc : 0 ≤ G.andI (l.getD k default).client 3 ∧ G.andI (l.getD k default).client 3 ≤ 3 := G.andI_le _ 3 (by decide)
    have hcn : G.andI (l.getD k default).client 3 = ((G.andI (l.getD k default).client 3).toNat : Int) := by omega
    have hc4 : (G.andI (l.getD k default).client 3).toNat < 4 := by omega
    have hk3 : 0 ≤ G.andI (l.getD k default).key 3 ∧ G.andI (l.getD k default).key 3 ≤ 3 := G.andI_le _ 3 (by decide)
    have hkn : (G.andI (l.getD k default).key 3) = ((G.andI (l.getD k default).key 3).toNat : Int) := by omega
    have hk4 : (G.andI (l.getD k default).key 3).toNat < 4 := by omega
    have hkat : (G.keys4.map fun k => SV.d (tv k))[0 + (G.andI (l.getD k default).key 3).toNat * 1]? = some (.d (tv (G.keyOf (l.getD k default)))) := by rw [Nat.zero_add, Nat.mul_one]; exact G.keys_at hk4
    have hsl := G.sn_len hI hc4
    have hes := G.hist_seen hI
    have hel := hI.len
    have hfour := hI.four
    have hsk := fun j (hj : j < (G.hist l k).1.length) => G.seen_keys hI.ev hj
    have hsat := G.snAt (sn := (G.hist l k).2) (c := (G.andI (l.getD k default).client 3).toNat) (by omega)
    refine Aw_skip ?_
    -- join 0: live [0, 3, 4, 5, 6, 7], turned [5]
    refine Aw_seq ?_
    refine Aw_block ?_
    refine Aw_seq ?_
    refine Aw_region ?_
    refine Al_pu (Pu_move (.inl rfl) (by conv => lhs; whnf)) rfl rfl (by decide) (by kernel_rfl) ?_
    refine Al_pu (Pu_move (.inl rfl) (by conv => lhs; whnf)) rfl rfl (by decide) (by kernel_rfl) ?_
    refine Al_pu (Pu_index rfl Try.underlying22 Try.sizeOf39 rfl rfl (rfl) (mapgetD (d := default) h22a)) rfl rfl (by decide) (by kernel_rfl) ?_
    refine Al_pu (Pu_field 1 rfl Try.underlying39 rfl rfl Try.sizeOf3 rfl) rfl rfl (by decide) (by kernel_rfl) ?_
    refine Al_pu (Pu_load1 rfl Try.isAgg3 rfl rfl) rfl rfl (by decide) (by kernel_rfl) ?_
    refine Al_pu (Pu_int_and (r := G.andI (l.getD k default).client 3) rfl rfl rfl rfl (fun _ => V.i64_ok _)) rfl rfl (by decide) (by kernel_rfl) ?_
    refine Al_pu (Pu_move (.inr rfl) (by conv => lhs; whnf)) rfl rfl (by decide) (by kernel_rfl) ?_
    refine Al_nil ?_
    refine Aw_seq ?_
    refine Aw_drawA 13 (by kernel_rfl) (by kernel_rfl) rfl rfl rfl rfl (by decide) Try.zeroValue33 rfl (by kernel_rfl) rfl ?_
    refine Dr_pu (Pu_move (.inl rfl) (by conv => lhs; whnf)) rfl rfl ?_
    refine Dr_pu (Pu_move (.inl rfl) (by conv => lhs; whnf)) rfl rfl ?_
    refine Dr_pu (Pu_move (.inl rfl) (by conv => lhs; whnf)) rfl rfl ?_
    refine Dr_pu (Pu_index rfl Try.underlying22 Try.sizeOf39 rfl rfl (rfl) (mapgetD (d := default) h22a)) rfl rfl ?_
    refine Dr_pu (Pu_field 2 rfl Try.underlying39 rfl rfl Try.sizeOf3 rfl) rfl rfl ?_
    refine Dr_pu (Pu_load1 rfl Try.isAgg3 rfl rfl) rfl rfl ?_
    refine Dr_pu (Pu_int_and (r := G.andI (l.getD k default).key 3) rfl rfl rfl rfl (fun _ => V.i64_ok _)) rfl rfl ?_
    refine Dr_pu (Pu_indexArrb (j := (G.andI (l.getD k default).key 3).toNat) rfl Try.underlying36 Try.sizeOf9 rfl rfl hkn hk4) rfl rfl ?_
    refine Dr_pu (Pu_loadb rfl Try.isAgg9 rfl rfl hkat) rfl rfl ?_
    refine Dr_pu (Pu_move (.inl rfl) (by conv => lhs; whnf)) rfl rfl ?_
    refine Dr_pu (Pu_indexArrb (j := (G.andI (l.getD k default).client 3).toNat) rfl Try.underlying37 Try.sizeOf31 rfl rfl hcn hc4) rfl rfl ?_
    refine Dr_pu (Pu_loadb rfl Try.isAgg31 rfl rfl hsat) rfl rfl ?_
    refine Dr_pu (Pu_build (aa := [(0, _), (1, _), (2, _), (4, _)]) rfl Try.underlying33 Try.zeroValue33 (places33 Try.underlying33) (by kernel_rfl) ⟨rfl, rfl, rfl, rfl, rfl, rfl, rfl, rfl, rfl, rfl, rfl, rfl, trivial⟩ rfl) rfl rfl ?_
    refine Dr_nil ?_
    intro g9
    refine Al_storeN rfl rfl rfl (by kernel_rfl) Try.isAgg33 Try.sizeOf33 rfl rfl rfl rfl (Nat.le_of_ble_eq_true rfl) ?_
    refine Al_nil ?_
    -- join 1: live [0, 3, 4, 5, 6, 7, 8, 9], turned []
    refine Aw_seq ?_
    refine Aw_seq ?_
    refine Aw_region ?_
    refine Al_pu (Pu_move (.inl rfl) (by conv => lhs; whnf)) rfl rfl (by decide) (by kernel_rfl) ?_
    refine Al_pu (Pu_move (.inl rfl) (by conv => lhs; whnf)) rfl rfl (by decide) (by kernel_rfl) ?_
    refine Al_pu (Pu_index rfl Try.underlying22 Try.sizeOf39 rfl rfl (rfl) (mapgetD (d := default) h22a)) rfl rfl (by decide) (by kernel_rfl) ?_
    refine Al_pu (Pu_field 0 rfl Try.underlying39 rfl rfl Try.sizeOf4 rfl) rfl rfl (by decide) (by kernel_rfl) ?_
    refine Al_pu (Pu_load1 rfl Try.isAgg4 rfl rfl) rfl rfl (by decide) (by kernel_rfl) ?_
    refine Al_nil ?_
    refine Aw_cond rfl (fun h48 => ?_) (fun h48 => ?_)
    · skip
      obtain ⟨hbn, hh1, hh2⟩ := behind_new l k h22b ⟨1, G.andI (l.getD k default).client 3, G.keyOf (l.getD k default), 1 + k, G.andI (l.getD k default).client 3, (G.hist l k).2.getD (G.andI (l.getD k default).client 3).toNat []⟩ (by unfold G.evt; rw [if_pos h48])
      refine Aw_seq ?_
      refine Aw_region ?_
      refine Al_pu (Pu_fieldb 0 rfl Try.underlying33 rfl rfl Try.sizeOf3 rfl) rfl rfl (by decide) (by kernel_rfl) ?_
      refine Al_store1 rfl rfl rfl (by kernel_rfl) Try.isAgg3 Try.sizeOf3 rfl rfl (Nat.le_of_ble_eq_true rfl) (by conv => lhs; whnf) rfl ?_
      refine Al_nil ?_
      refine Aw_region ?_
      refine Al_pu (Pu_move (.inl rfl) (by conv => lhs; whnf)) rfl rfl (by decide) (by kernel_rfl) ?_
      refine Al_pu (Pu_add rfl rfl rfl (fun h1 h2 => by simp only [A.inI, A.maxI] at *; omega)) rfl rfl (by decide) (by kernel_rfl) ?_
      refine Al_pu (Pu_move (.inl rfl) (by conv => lhs; whnf)) rfl rfl (by decide) (by kernel_rfl) ?_
      refine Al_pu (Pu_build (aa := [(0, _), (1, _)]) rfl Try.underlying30 Try.zeroValue30 (places30 Try.underlying30) (by kernel_rfl) ⟨rfl, rfl, rfl, rfl, rfl, rfl, trivial⟩ rfl) rfl rfl (by decide) (by kernel_rfl) ?_
      refine Al_pu (Pu_fieldb 3 rfl Try.underlying33 rfl rfl Try.sizeOf30 rfl) rfl rfl (by decide) (by kernel_rfl) ?_
      refine Al_storeN rfl rfl rfl (by kernel_rfl) Try.isAgg30 Try.sizeOf30 rfl rfl rfl rfl (Nat.le_of_ble_eq_true rfl) ?_
      refine Al_nil ?_
      refine Aw_seq ?_
      refine Aw_region ?_
      refine Al_pu (Pu_move (.inl rfl) (by conv => lhs; whnf)) rfl rfl (by decide) (by kernel_rfl) ?_
      refine Al_pu (Pu_loadbN (r := [_, _, _, _, _, _]) rfl Try.isAgg33 Try.sizeOf33 rfl rfl rfl rfl) rfl rfl (by decide) (by kernel_rfl) ?_
      refine Al_pu (Pu_slice1 rfl Try.underlying24 Try.sizeOf33 Try.zeroValue33 rfl (by decide) (by decide) (by kernel_rfl) rfl rfl rfl) rfl rfl (by decide) (by kernel_rfl) ?_
      refine Al_append rfl rfl rfl (by decide) (by kernel_rfl) elem24 (by decide) Try.sizeOf33 rfl rfl rfl (by simp; omega) (by decide) (fun g97 => ?_)
      refine Al_pu (Pu_move (.inr rfl) (by conv => lhs; whnf)) rfl rfl (by decide) (by kernel_rfl) ?_
      refine Al_nil ?_
      refine Aw_region ?_
      refine Al_pu (Pu_move (.inl rfl) (by conv => lhs; whnf)) rfl rfl (by decide) (by kernel_rfl) ?_
      refine Al_pu (Pu_move (.inl rfl) (by conv => lhs; whnf)) rfl rfl (by decide) (by kernel_rfl) ?_
      refine Al_pu (Pu_move (.inl rfl) (by conv => lhs; whnf)) rfl rfl (by decide) (by kernel_rfl) ?_
      refine Al_pu (Pu_lenOw (m := k + 1) rfl Try.underlying24 rfl rfl (by simp; omega)) rfl rfl (by decide) (by kernel_rfl) ?_
      refine Al_pu (Pu_sub rfl rfl rfl (fun h1 h2 => by simp only [A.inI, A.maxI] at *; omega)) rfl rfl (by decide) (by kernel_rfl) ?_
      refine Al_gcall [(1001, 5, g97)] [] (hbn) rfl rfl rfl (by decide) (by kernel_rfl) ⟨rfl, trivial⟩ rfl ⟨Sub.rfl, Sub.num (by omega), trivial⟩ (fun g103 => ?_)
      refine Al_pu (Pu_indexArrb (j := (G.andI (l.getD k default).client 3).toNat) rfl Try.underlying37 Try.sizeOf31 rfl rfl hcn hc4) rfl rfl (by decide) (by kernel_rfl) ?_
      refine Al_store1 rfl rfl rfl (by kernel_rfl) Try.isAgg31 Try.sizeOf31 rfl rfl (by rw [List.length_map, hfour]; omega) (by conv => lhs; whnf) rfl ?_
      refine Al_nil ?_
      refine Aw_region ?_
      refine Al_pu (Pu_move (.inl rfl) (by conv => lhs; whnf)) rfl rfl (by decide) (by kernel_rfl) ?_
      refine Al_pu (Pu_add rfl rfl rfl (fun h1 h2 => by simp only [A.inI, A.maxI] at *; omega)) rfl rfl (by decide) (by kernel_rfl) ?_
      refine Al_pu (Pu_move (.inr rfl) (by conv => lhs; whnf)) rfl rfl (by decide) (by kernel_rfl) ?_
      refine Al_nil ?_
      exact ⟨(k + 1, g97), ⟨by omega, by omega⟩, by simp only []; omega, Le.ov ⟨Sub.num (by omega), Sub.rfl, trivial⟩ ⟨Sub.rfl, Sub.rfl, Sub.rfl, Sub.rfl, trivial⟩ ⟨obeq (by rw [hh1, List.map_append]; rfl), A.bxeq (by rw [hh2, List.map_set, Nat.zero_add, Nat.mul_one]), trivial⟩ ⟨rfl, trivial⟩⟩ -- loop 0 next.0
    · skip
      refine Aw_seq ?_
      refine Aw_region ?_
      refine Al_pu (Pu_move (.inr rfl) (by conv => lhs; whnf)) rfl rfl (by decide) (by kernel_rfl) ?_
      refine Al_nil ?_
      refine Aw_block ?_
      obtain ⟨R, hR⟩ : ∃ R, R = G.rdAt (G.hist l k).1 (G.andI (l.getD k default).client 3) (G.keyOf (l.getD k default)) ((G.hist l k).2.getD (G.andI (l.getD k default).client 3).toNat []) := ⟨_, rfl⟩
      have hR0 : (R 0).n = 0 ∧ (R 0).s = 0 ∧ (R 0).seen = ((G.hist l k).2.getD (G.andI (l.getD k default).client 3).toNat []) := by rw [hR]; exact ⟨rfl, rfl, rfl⟩
      have hRt : ∀ m, G.wk (G.hist l k).1 (G.keyOf (l.getD k default)) m = true → (R (m + 1)).n = ((G.hist l k).1.getD m default).n ∧ (R (m + 1)).s = ((G.hist l k).1.getD m default).s ∧ (R (m + 1)).seen = D.mergeL [((G.hist l k).2.getD (G.andI (l.getD k default).client 3).toNat []), ((G.hist l k).1.getD m default).seen] := fun m hm => by
        rw [hR, G.rdAt, if_pos hm]; exact ⟨rfl, rfl, rfl⟩
      have hRf : ∀ m, G.wk (G.hist l k).1 (G.keyOf (l.getD k default)) m = false → R (m + 1) = R m := fun m hm => by
        rw [hR, G.rdAt, if_neg (by rw [hm]; decide)]
      have hRe : G.rdAt (G.hist l k).1 (G.andI (l.getD k default).client 3) (G.keyOf (l.getD k default)) ((G.hist l k).2.getD (G.andI (l.getD k default).client 3).toNat []) k = ⟨2, (G.andI (l.getD k default).client 3), (G.keyOf (l.getD k default)), (R k).n, (R k).s, (R k).seen⟩ := by
        obtain ⟨hb1, hb2, hb3⟩ := G.rdAt_base (G.hist l k).1 (G.andI (l.getD k default).client 3) (G.keyOf (l.getD k default)) ((G.hist l k).2.getD (G.andI (l.getD k default).client 3).toNat []) k
        rw [hR]
        generalize G.rdAt (G.hist l k).1 (G.andI (l.getD k default).client 3) (G.keyOf (l.getD k default)) ((G.hist l k).2.getD (G.andI (l.getD k default).client 3).toNat []) k = x at hb1 hb2 hb3 ⊢
        obtain ⟨kd, cl, ky, xn, xs, se⟩ := x
        simp only at hb1 hb2 hb3
        subst hb1; subst hb2; subst hb3; rfl
      refine Aw_loopk (ι := Nat) [0, 3, 4, 6, 7, 8, 9] [4, 5, 6] (fun m => [(10, .d (iv m)), (5, .ow 5 g)]) (fun m => [(9, g9, .box 33 [.d (iv 2), .d (iv (G.andI (l.getD k default).client 3)), .d (tv (G.keyOf (l.getD k default))), .d (iv (R m).n), .d (iv (R m).s), .d (pastA (R m).seen)])]) (fun m => m ≤ k) (fun m => k - m) (0) (Nat.zero_le _) ⟨Sub.rfl, Sub.rfl, trivial⟩ ⟨A.bxeq (by rw [hR0.1, hR0.2.1, hR0.2.2]; rfl), trivial⟩ ?_
      rintro m hk1
      refine Aw_seq ?_
      refine Aw_seq ?_
      refine Aw_region ?_
      refine Al_pu (Pu_move (.inl rfl) (by conv => lhs; whnf)) rfl rfl (by decide) (by kernel_rfl) ?_
      refine Al_pu (Pu_move (.inl rfl) (by conv => lhs; whnf)) rfl rfl (by decide) (by kernel_rfl) ?_
      refine Al_pu (Pu_lenOw (m := k) rfl Try.underlying24 rfl rfl (by rw [List.length_map, hel])) rfl rfl (by decide) (by kernel_rfl) ?_
      refine Al_pu (Pu_cmp rfl rfl rfl rfl) rfl rfl (by decide) (by kernel_rfl) ?_
      refine Al_nil ?_
      refine Aw_cond rfl (fun h58 => ?_) (fun h58 => ?_)
      · (try simp only [decide_eq_true_eq, decide_eq_false_iff_not, Bool.and_eq_true, Bool.or_eq_true, Bool.and_eq_false_iff, Bool.or_eq_false_iff, Bool.not_eq_true', Bool.not_eq_false', beq_iff_eq, Bool.not_eq_eq_eq_not, Bool.not_true, Bool.not_false, List.length_map, Bool.and_true, Bool.and_false, Bool.false_and, Bool.true_and, Bool.or_false, Bool.false_or] at h58)
        have hm : m < (G.hist l k).1.length := by omega
        have hmr : m < ((G.hist l k).1.map Event.row).length := by rw [List.length_map]; exact hm
        refine Aw_skip ?_
        -- join 2: live [0, 3, 4, 5, 6, 7, 8, 9, 10], turned []
        refine Aw_seq ?_
        refine Aw_block ?_
        refine Aw_seq ?_
        refine Aw_draw 16 (by kernel_rfl) (by kernel_rfl) ?_
        refine Dr_pu (Pu_move (.inl rfl) (by conv => lhs; whnf)) rfl rfl ?_
        refine Dr_pu (Pu_move (.inl rfl) (by conv => lhs; whnf)) rfl rfl ?_
        refine Dr_pu (Pu_indexOw (j := m) rfl Try.underlying24 Try.sizeOf33 rfl rfl rfl rfl hmr) rfl rfl ?_
        refine Dr_pu (Pu_fieldb 0 rfl Try.underlying33 rfl rfl Try.sizeOf3 rfl) rfl rfl ?_
        refine Dr_pu (Pu_loadArr rfl Try.isAgg3 rfl rfl (G.evAt hm 0 rfl)) rfl rfl ?_
        refine Dr_pu (Pu_cmp rfl rfl rfl rfl) rfl rfl ?_
        refine Dr_pu (Pu_move (.inl rfl) (by conv => lhs; whnf)) rfl rfl ?_
        refine Dr_st (St_gd [] rfl rfl rfl rfl trivial (fun hg68 => by exact Pu_move (.inl rfl) (by conv => lhs; whnf))) rfl ?_
        refine Dr_st (St_gd [] rfl rfl rfl rfl trivial (fun hg69 => by exact Pu_move (.inl rfl) (by conv => lhs; whnf))) rfl ?_
        refine Dr_st (St_gd [68, 69] rfl rfl rfl rfl ⟨⟨_, rfl⟩, ⟨_, rfl⟩, trivial⟩ (fun hg70 => Pu_indexOw (j := m) rfl Try.underlying24 Try.sizeOf33 rfl rfl rfl rfl hmr)) rfl ?_
        refine Dr_st (St_gd [70] rfl rfl rfl rfl ⟨⟨_, rfl⟩, trivial⟩ (fun hg71 => Pu_fieldb 2 rfl Try.underlying33 rfl rfl Try.sizeOf9 rfl)) rfl ?_
        refine Dr_st (St_gd [71] rfl rfl rfl rfl ⟨⟨_, rfl⟩, trivial⟩ (fun hg72 => Pu_loadArr rfl Try.isAgg9 rfl rfl (G.evAt hm 2 rfl))) rfl ?_
        refine Dr_st (St_gd [] rfl rfl rfl rfl trivial (fun hg73 => Pu_fieldb 2 rfl Try.underlying33 rfl rfl Try.sizeOf9 rfl)) rfl ?_
        refine Dr_st (St_gd [73] rfl rfl rfl rfl ⟨⟨_, rfl⟩, trivial⟩ (fun hg74 => Pu_loadb rfl Try.isAgg9 rfl rfl rfl)) rfl ?_
        refine Dr_st (St_gd [72, 74] rfl rfl rfl rfl ⟨⟨_, rfl⟩, ⟨_, rfl⟩, trivial⟩ (fun hg75 => Pu_str rfl rfl rfl rfl)) rfl ?_
        refine Dr_pu (Pu_and rfl rfl rfl rfl) rfl rfl ?_
        refine Dr_nil ?_
        refine Al_nil ?_
        refine Aw_cond rfl (fun h76 => ?_) (fun h76 => ?_)
        · skip
          have hwk : G.wk (G.hist l k).1 (G.keyOf (l.getD k default)) m = true := h76
          have hsm := hsk m hm
          have hme := rmerge_a [(G.hist l k).2.getD (G.andI (l.getD k default).client 3).toNat [], ((G.hist l k).1.getD m default).seen] (by
            have : [(G.hist l k).2.getD (G.andI (l.getD k default).client 3).toNat [], ((G.hist l k).1.getD m default).seen].flatten.length = ((G.hist l k).2.getD (G.andI (l.getD k default).client 3).toNat []).length + ((G.hist l k).1.getD m default).seen.length := by simp
            omega)
          refine Aw_seq ?_
          refine Aw_region ?_
          refine Al_pu (Pu_move (.inl rfl) (by conv => lhs; whnf)) rfl rfl (by decide) (by kernel_rfl) ?_
          refine Al_pu (Pu_move (.inl rfl) (by conv => lhs; whnf)) rfl rfl (by decide) (by kernel_rfl) ?_
          refine Al_pu (Pu_indexOw (j := m) rfl Try.underlying24 Try.sizeOf33 rfl rfl rfl rfl hmr) rfl rfl (by decide) (by kernel_rfl) ?_
          refine Al_pu (Pu_fieldb 3 rfl Try.underlying33 rfl rfl Try.sizeOf30 rfl) rfl rfl (by decide) (by kernel_rfl) ?_
          refine Al_pu (Pu_loadArrN rfl Try.isAgg30 Try.sizeOf30 rfl rfl (G.evAt2 hm) rfl) rfl rfl (by decide) (by kernel_rfl) ?_
          refine Al_pu (Pu_fieldb 3 rfl Try.underlying33 rfl rfl Try.sizeOf30 rfl) rfl rfl (by decide) (by kernel_rfl) ?_
          refine Al_storeN rfl rfl rfl (by kernel_rfl) Try.isAgg30 Try.sizeOf30 rfl rfl rfl rfl (Nat.le_of_ble_eq_true rfl) ?_
          refine Al_nil ?_
          refine Aw_draw 11 (by kernel_rfl) (by kernel_rfl) ?_
          refine Dr_pu (Pu_move (.inl rfl) (by conv => lhs; whnf)) rfl rfl ?_
          refine Dr_pu (Pu_indexArrb (j := (G.andI (l.getD k default).client 3).toNat) rfl Try.underlying37 Try.sizeOf31 rfl rfl hcn hc4) rfl rfl ?_
          refine Dr_pu (Pu_loadb rfl Try.isAgg31 rfl rfl hsat) rfl rfl ?_
          refine Dr_pu (Pu_move (.inl rfl) (by conv => lhs; whnf)) rfl rfl ?_
          refine Dr_pu (Pu_move (.inl rfl) (by conv => lhs; whnf)) rfl rfl ?_
          refine Dr_pu (Pu_indexOw (j := m) rfl Try.underlying24 Try.sizeOf33 rfl rfl rfl rfl hmr) rfl rfl ?_
          refine Dr_pu (Pu_fieldb 5 rfl Try.underlying33 rfl rfl Try.sizeOf31 rfl) rfl rfl ?_
          refine Dr_pu (Pu_loadArr rfl Try.isAgg31 rfl rfl (G.evAt hm 5 rfl)) rfl rfl ?_
          refine Dr_pu (Pu_buildSlice (aa := [(0, _), (1, _)]) rfl Try.underlying41 Try.sizeOf31 Try.zeroValue31 rfl (by decide) (by decide) (by decide) (by kernel_rfl) ⟨rfl, rfl, rfl, rfl, rfl, rfl, trivial⟩ ((rfl : _ = some [[pastA ((G.hist l k).2.getD (G.andI (l.getD k default).client 3).toNat [])], [pastA ((G.hist l k).1.getD m default).seen]].flatten)) rfl rfl) rfl rfl ?_
          refine Dr_pu (Pu_call (hme) rfl ⟨Sub.rfl, trivial⟩) rfl rfl ?_
          refine Dr_pu (Pu_fieldb 5 rfl Try.underlying33 rfl rfl Try.sizeOf31 rfl) rfl rfl ?_
          refine Dr_nil ?_
          refine Al_store1 rfl rfl rfl (by kernel_rfl) Try.isAgg31 Try.sizeOf31 rfl rfl (Nat.le_of_ble_eq_true rfl) (by conv => lhs; whnf) rfl ?_
          refine Al_nil ?_
          refine Aw_region ?_
          refine Al_pu (Pu_move (.inl rfl) (by conv => lhs; whnf)) rfl rfl (by decide) (by kernel_rfl) ?_
          refine Al_pu (Pu_add rfl rfl rfl (fun h1 h2 => by simp only [A.inI, A.maxI] at *; omega)) rfl rfl (by decide) (by kernel_rfl) ?_
          refine Al_pu (Pu_move (.inr rfl) (by conv => lhs; whnf)) rfl rfl (by decide) (by kernel_rfl) ?_
          refine Al_nil ?_
          exact ⟨m + 1, by omega, by omega, Le.ov ⟨Sub.num (by omega), Sub.rfl, trivial⟩ ⟨Sub.two (by conv => lhs; whnf) (by rfl), Sub.two (by conv => lhs; whnf) (by rfl), Sub.two (by conv => lhs; whnf) (by rfl), Sub.two (by conv => lhs; whnf) (by rfl), Sub.two (by conv => lhs; whnf) (by rfl), Sub.two (by conv => lhs; whnf) (by rfl), Sub.two (by conv => lhs; whnf) (by rfl), trivial⟩ ⟨A.bxeq (by rw [(hRt m hwk).1, (hRt m hwk).2.1, (hRt m hwk).2.2]; rfl), trivial⟩ ⟨rfl, rfl, rfl, trivial⟩⟩ -- loop 1 next.0
        · skip
          have hwk : G.wk (G.hist l k).1 (G.keyOf (l.getD k default)) m = false := h76
          refine Aw_skip ?_
          refine Aw_region ?_
          refine Al_pu (Pu_move (.inl rfl) (by conv => lhs; whnf)) rfl rfl (by decide) (by kernel_rfl) ?_
          refine Al_pu (Pu_add rfl rfl rfl (fun h1 h2 => by simp only [A.inI, A.maxI] at *; omega)) rfl rfl (by decide) (by kernel_rfl) ?_
          refine Al_pu (Pu_move (.inr rfl) (by conv => lhs; whnf)) rfl rfl (by decide) (by kernel_rfl) ?_
          refine Al_nil ?_
          exact ⟨m + 1, by omega, by omega, Le.ov ⟨Sub.num (by omega), Sub.rfl, trivial⟩ ⟨Sub.two (by conv => lhs; whnf) (by rfl), Sub.two (by conv => lhs; whnf) (by rfl), Sub.two (by conv => lhs; whnf) (by rfl), Sub.two (by conv => lhs; whnf) (by rfl), Sub.two (by conv => lhs; whnf) (by rfl), Sub.two (by conv => lhs; whnf) (by rfl), Sub.two (by conv => lhs; whnf) (by rfl), trivial⟩ ⟨A.bxeq (by rw [hRf m hwk]), trivial⟩ ⟨rfl, rfl, rfl, trivial⟩⟩ -- loop 1 next.1
      · (try simp only [decide_eq_true_eq, decide_eq_false_iff_not, Bool.and_eq_true, Bool.or_eq_true, Bool.and_eq_false_iff, Bool.or_eq_false_iff, Bool.not_eq_true', Bool.not_eq_false', beq_iff_eq, Bool.not_eq_eq_eq_not, Bool.not_true, Bool.not_false, List.length_map, Bool.and_true, Bool.and_false, Bool.false_and, Bool.true_and, Bool.or_false, Bool.false_or] at h58)
        obtain rfl : k = m := by omega
        obtain ⟨hbn, hh1, hh2⟩ := behind_new l k h22b ⟨2, (G.andI (l.getD k default).client 3), (G.keyOf (l.getD k default)), (R k).n, (R k).s, (R k).seen⟩ (by unfold G.evt; rw [if_neg (by rw [h48]; decide), hel]; exact hRe)
        refine Aw_exit ?_
        refine Aw_seq ?_
        refine Aw_region ?_
        refine Al_pu (Pu_move (.inl rfl) (by conv => lhs; whnf)) rfl rfl (by decide) (by kernel_rfl) ?_
        refine Al_pu (Pu_loadbN (r := [_, _, _, _, _, _]) rfl Try.isAgg33 Try.sizeOf33 rfl rfl rfl rfl) rfl rfl (by decide) (by kernel_rfl) ?_
        refine Al_pu (Pu_slice1 rfl Try.underlying24 Try.sizeOf33 Try.zeroValue33 rfl (by decide) (by decide) (by kernel_rfl) rfl rfl rfl) rfl rfl (by decide) (by kernel_rfl) ?_
        refine Al_append rfl rfl rfl (by decide) (by kernel_rfl) elem24 (by decide) Try.sizeOf33 rfl rfl rfl (by simp; omega) (by decide) (fun g97 => ?_)
        refine Al_pu (Pu_move (.inr rfl) (by conv => lhs; whnf)) rfl rfl (by decide) (by kernel_rfl) ?_
        refine Al_nil ?_
        refine Aw_region ?_
        refine Al_pu (Pu_move (.inl rfl) (by conv => lhs; whnf)) rfl rfl (by decide) (by kernel_rfl) ?_
        refine Al_pu (Pu_move (.inl rfl) (by conv => lhs; whnf)) rfl rfl (by decide) (by kernel_rfl) ?_
        refine Al_pu (Pu_move (.inl rfl) (by conv => lhs; whnf)) rfl rfl (by decide) (by kernel_rfl) ?_
        refine Al_pu (Pu_lenOw (m := k + 1) rfl Try.underlying24 rfl rfl (by simp; omega)) rfl rfl (by decide) (by kernel_rfl) ?_
        refine Al_pu (Pu_sub rfl rfl rfl (fun h1 h2 => by simp only [A.inI, A.maxI] at *; omega)) rfl rfl (by decide) (by kernel_rfl) ?_
        refine Al_gcall [(1001, 5, g97)] [] (hbn) rfl rfl rfl (by decide) (by kernel_rfl) ⟨rfl, trivial⟩ rfl ⟨Sub.rfl, Sub.num (by omega), trivial⟩ (fun g103 => ?_)
        refine Al_pu (Pu_indexArrb (j := (G.andI (l.getD k default).client 3).toNat) rfl Try.underlying37 Try.sizeOf31 rfl rfl hcn hc4) rfl rfl (by decide) (by kernel_rfl) ?_
        refine Al_store1 rfl rfl rfl (by kernel_rfl) Try.isAgg31 Try.sizeOf31 rfl rfl (by rw [List.length_map, hfour]; omega) (by conv => lhs; whnf) rfl ?_
        refine Al_nil ?_
        refine Aw_region ?_
        refine Al_pu (Pu_move (.inl rfl) (by conv => lhs; whnf)) rfl rfl (by decide) (by kernel_rfl) ?_
        refine Al_pu (Pu_add rfl rfl rfl (fun h1 h2 => by simp only [A.inI, A.maxI] at *; omega)) rfl rfl (by decide) (by kernel_rfl) ?_
        refine Al_pu (Pu_move (.inr rfl) (by conv => lhs; whnf)) rfl rfl (by decide) (by kernel_rfl) ?_
        refine Al_nil ?_
        exact ⟨(k + 1, g97), ⟨by omega, by omega⟩, by simp only []; omega, Le.ov ⟨Sub.num (by omega), Sub.rfl, trivial⟩ ⟨Sub.rfl, Sub.rfl, Sub.rfl, Sub.rfl, trivial⟩ ⟨obeq (by rw [hh1, List.map_append]; rfl), A.bxeq (by rw [hh2, List.map_set, Nat.zero_add, Nat.mul_one]), trivial⟩ ⟨rfl, trivial⟩⟩ -- loop 0 next.1
  · (try simp only [decide_eq_true_eq, decide_eq_false_iff_not, Bool.and_eq_true, Bool.or_eq_true, Bool.and_eq_false_iff, Bool.or_eq_false_iff, Bool.not_eq_true', Bool.not_eq_false', beq_iff_eq, Bool.not_eq_eq_eq_not, Bool.not_true, Bool.not_false, List.length_map, Bool.and_true, Bool.and_false, Bool.false_and, Bool.true_and, Bool.or_false, Bool.false_or] at h22)
    have hI := G.hist_I l k hk2
    have hes := G.hist_seen hI
    have hel := hI.len
    have hno := hI.ev
    have hsm := hI.small
    refine Aw_exit ?_
    refine Aw_seq ?_
    refine Aw_seq ?_
    refine Aw_frz hnl (k := 5) [5] rfl ⟨rfl, trivial⟩ ?_
    refine Aw_region ?_
    refine Al_pu (Pu_move (.inr rfl) (by conv => lhs; whnf)) rfl rfl (by decide) (by kernel_rfl) ?_
    refine Al_nil ?_
    refine Aw_block ?_
    refine Aw_loopk (ι := Nat) [3, 5] [] (fun i => [(11, .d (iv i))]) (fun i => []) (fun i => i ≤ (G.hist l k).1.length) (fun i => (G.hist l k).1.length - i) (0) (Nat.zero_le _) ⟨Sub.rfl, trivial⟩ trivial ?_
    rintro i hk2
    refine Aw_seq ?_
    refine Aw_seq ?_
    refine Aw_region ?_
    refine Al_pu (Pu_move (.inl rfl) (by conv => lhs; whnf)) rfl rfl (by decide) (by kernel_rfl) ?_
    refine Al_pu (Pu_move (.inl rfl) (by conv => lhs; whnf)) rfl rfl (by decide) (by kernel_rfl) ?_
    refine Al_pu (Pu_len rfl Try.underlying24 rfl (by first | exact List.length_map .. | exact rfl)) rfl rfl (by decide) (by kernel_rfl) ?_
    refine Al_pu (Pu_cmp rfl rfl rfl rfl) rfl rfl (by decide) (by kernel_rfl) ?_
    refine Al_nil ?_
    refine Aw_cond rfl (fun h108 => ?_) (fun h108 => ?_)
    · (try simp only [decide_eq_true_eq, decide_eq_false_iff_not, Bool.and_eq_true, Bool.or_eq_true, Bool.and_eq_false_iff, Bool.or_eq_false_iff, Bool.not_eq_true', Bool.not_eq_false', beq_iff_eq, Bool.not_eq_eq_eq_not, Bool.not_true, Bool.not_false, List.length_map, Bool.and_true, Bool.and_false, Bool.false_and, Bool.true_and, Bool.or_false, Bool.false_or] at h108)
      have hi : i < (G.hist l k).1.length := by omega
      have hbi := rbehind_a (G.hist l k).1 hes (i : Int)
      have hse := gseen_a (G.hist l k).1 (by omega) (i : Int)
      have hco := rcovers_a (G.behind (G.hist l k).1 i) (G.seen (G.hist l k).1 i)
      rw [G.covers_seen (by omega) hno hi] at hco
      refine Aw_skip ?_
      refine Aw_seq ?_
      refine Aw_block ?_
      refine Aw_seq ?_
      refine Aw_region ?_
      refine Al_pu (Pu_move (.inl rfl) (by conv => lhs; whnf)) rfl rfl (by decide) (by kernel_rfl) ?_
      refine Al_pu (Pu_move (.inl rfl) (by conv => lhs; whnf)) rfl rfl (by decide) (by kernel_rfl) ?_
      refine Al_pu (Pu_call (hbi) rfl ⟨Sub.rfl, Sub.rfl, trivial⟩) rfl rfl (by decide) (by kernel_rfl) ?_
      refine Al_pu (Pu_move (.inl rfl) (by conv => lhs; whnf)) rfl rfl (by decide) (by kernel_rfl) ?_
      refine Al_pu (Pu_move (.inl rfl) (by conv => lhs; whnf)) rfl rfl (by decide) (by kernel_rfl) ?_
      refine Al_pu (Pu_call (hse) rfl ⟨Sub.rfl, Sub.rfl, trivial⟩) rfl rfl (by decide) (by kernel_rfl) ?_
      refine Al_pu (Pu_call (hco) rfl ⟨Sub.rfl, Sub.rfl, trivial⟩) rfl rfl (by decide) (by kernel_rfl) ?_
      refine Al_pu (Pu_move (.inr rfl) (by conv => lhs; whnf)) rfl rfl (by decide) (by kernel_rfl) ?_
      refine Al_nil ?_
      refine Aw_seq ?_
      refine Aw_region ?_
      refine Al_pu (Pu_move (.inl rfl) (by conv => lhs; whnf)) rfl rfl (by decide) (by kernel_rfl) ?_
      refine Al_pu (Pu_not rfl rfl) rfl rfl (by decide) (by kernel_rfl) ?_
      refine Al_nil ?_
      refine Aw_cond rfl (fun h119 => ?_) (fun h119 => ?_)
      · (try simp only [decide_eq_true_eq, decide_eq_false_iff_not, Bool.and_eq_true, Bool.or_eq_true, Bool.and_eq_false_iff, Bool.or_eq_false_iff, Bool.not_eq_true', Bool.not_eq_false', beq_iff_eq, Bool.not_eq_eq_eq_not, Bool.not_true, Bool.not_false, List.length_map, Bool.and_true, Bool.and_false, Bool.false_and, Bool.true_and, Bool.or_false, Bool.false_or] at h119)
        exfalso; revert h119; decide
      · (try simp only [decide_eq_true_eq, decide_eq_false_iff_not, Bool.and_eq_true, Bool.or_eq_true, Bool.and_eq_false_iff, Bool.or_eq_false_iff, Bool.not_eq_true', Bool.not_eq_false', beq_iff_eq, Bool.not_eq_eq_eq_not, Bool.not_true, Bool.not_false, List.length_map, Bool.and_true, Bool.and_false, Bool.false_and, Bool.true_and, Bool.or_false, Bool.false_or] at h119)
        refine Aw_skip ?_
        refine Aw_region ?_
        refine Al_pu (Pu_move (.inl rfl) (by conv => lhs; whnf)) rfl rfl (by decide) (by kernel_rfl) ?_
        refine Al_pu (Pu_add rfl rfl rfl (fun h1 h2 => by simp only [A.inI, A.maxI] at *; omega)) rfl rfl (by decide) (by kernel_rfl) ?_
        refine Al_pu (Pu_move (.inr rfl) (by conv => lhs; whnf)) rfl rfl (by decide) (by kernel_rfl) ?_
        refine Al_nil ?_
        exact ⟨i + 1, by omega, by omega, Le.ov ⟨Sub.num (by omega), trivial⟩ ⟨Sub.rfl, Sub.rfl, trivial⟩ trivial trivial⟩ -- loop 2 next.0
    · (try simp only [decide_eq_true_eq, decide_eq_false_iff_not, Bool.and_eq_true, Bool.or_eq_true, Bool.and_eq_false_iff, Bool.or_eq_false_iff, Bool.not_eq_true', Bool.not_eq_false', beq_iff_eq, Bool.not_eq_eq_eq_not, Bool.not_true, Bool.not_false, List.length_map, Bool.and_true, Bool.and_false, Bool.false_and, Bool.true_and, Bool.or_false, Bool.false_or] at h108)
      have hfi := gfine_a (G.hist l k).1 (by omega)
      rw [G.fine_of hno] at hfi
      have hch := rcheck20_a (G.hist l k).1 hes (fun i hi => G.right_of (by omega) hno hi)
      refine Aw_exit ?_
      refine Aw_seq ?_
      refine Aw_region ?_
      refine Al_pu (Pu_move (.inl rfl) (by conv => lhs; whnf)) rfl rfl (by decide) (by kernel_rfl) ?_
      refine Al_pu (Pu_move (.inl rfl) (by conv => lhs; whnf)) rfl rfl (by decide) (by kernel_rfl) ?_
      refine Al_st (St_gd [] rfl rfl rfl rfl trivial (fun hg122 => by exact Pu_move (.inl rfl) (by conv => lhs; whnf))) rfl (by decide) (by kernel_rfl) (by intro j b oj dj h1 h2 h3; cases h1; cases h2; cases h3; decide) ?_
      refine Al_st (St_gd [122] rfl rfl rfl rfl ⟨⟨_, rfl⟩, trivial⟩ (fun hg123 => Pu_call (hfi) rfl ⟨Sub.rfl, trivial⟩)) rfl (by decide) (by kernel_rfl) (by intro j b oj dj h1 h2 h3; cases h1; cases h2; cases h3; decide) ?_
      refine Al_st (St_gd [123] rfl rfl rfl rfl ⟨⟨_, rfl⟩, trivial⟩ (fun hg124 => Pu_cmp rfl rfl rfl rfl)) rfl (by decide) (by kernel_rfl) (by intro j b oj dj h1 h2 h3; cases h1; cases h2; cases h3; decide) ?_
      refine Al_pu (Pu_and rfl rfl rfl rfl) rfl rfl (by decide) (by kernel_rfl) ?_
      refine Al_pu (Pu_move (.inl rfl) (by conv => lhs; whnf)) rfl rfl (by decide) (by kernel_rfl) ?_
      refine Al_st (St_gd [] rfl rfl rfl rfl trivial (fun hg127 => by exact Pu_move (.inl rfl) (by conv => lhs; whnf))) rfl (by decide) (by kernel_rfl) (by intro j b oj dj h1 h2 h3; cases h1; cases h2; cases h3; decide) ?_
      refine Al_st (St_gd [127] rfl rfl rfl rfl ⟨⟨_, rfl⟩, trivial⟩ (fun hg128 => Pu_call (hch) rfl ⟨Sub.rfl, trivial⟩)) rfl (by decide) (by kernel_rfl) (by intro j b oj dj h1 h2 h3; cases h1; cases h2; cases h3; decide) ?_
      refine Al_st (St_gd [128] rfl rfl rfl rfl ⟨⟨_, rfl⟩, trivial⟩ (fun hg129 => Pu_cmp rfl rfl rfl rfl)) rfl (by decide) (by kernel_rfl) (by intro j b oj dj h1 h2 h3; cases h1; cases h2; cases h3; decide) ?_
      refine Al_pu (Pu_and rfl rfl rfl rfl) rfl rfl (by decide) (by kernel_rfl) ?_
      refine Al_pu (Pu_move (.inr rfl) (by conv => lhs; whnf)) rfl rfl (by decide) (by kernel_rfl) ?_
      refine Al_nil ?_
      refine Aw_ret ?_
      exact Sub.rfl -- ret 0
end Go.Proofs.Ytgoncpjgpkoacaa
