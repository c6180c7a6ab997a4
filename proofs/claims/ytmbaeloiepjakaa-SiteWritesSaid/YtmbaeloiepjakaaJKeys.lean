/- The keys of a map of the call's own, in their order: maps.Keys, slices.Sorted. -/
import Derived.Test.YtmbaeloiepjakaaAM
import Derived.Test.YtmbaeloiepjakaaAF
import Derived.Test.YtmbaeloiepjakaaGPast
import Derived.Test.YtmbaeloiepjakaaShelfSort
import Derived.Shelf.SlIter.Sorted
set_option linter.unusedSimpArgs false
set_option linter.unusedVariables false
namespace Go.Proofs
open Go.RowKit Go.Maps Go.Sort Go.Shelf
def Try.sorted_ren : Go.Shelf.Ren := ⟨fun | 6 => 65 | 8 => 73 | 11 => 80 | 9 => 74 | n => n, fun | 0 => 0 | 24 => 98 | 26 => 9 | 28 => 110 | 33 => 60 | n => n, fun | n => n⟩
theorem Try.sorted_lays : SlLaysZ.n6 Try.prog Try.sorted_ren := {
  mixed := by kernel_rfl
  f6 := ⟨Try.f65.name, by kernel_rfl, Try.func65.trans (congrArg some (by kernel_rfl))⟩
  f8 := ⟨Try.f73.name, by kernel_rfl, Try.func73.trans (congrArg some (by kernel_rfl))⟩
  f11 := ⟨Try.f80.name, by kernel_rfl, Try.func80.trans (congrArg some (by kernel_rfl))⟩
  t0 := Try.underlying0
  a0 := Try.isAgg0
  z0 := Try.sizeOf0
  v0 := Try.zeroValue0
  t24 := Try.underlying98
  a24 := Try.isAgg98
  z24 := Try.sizeOf98
  v24 := Try.zeroValue98
  t26 := Try.underlying9
  a26 := Try.isAgg9
  z26 := Try.sizeOf9
  v26 := Try.zeroValue9
  t28 := Try.underlying110
  a28 := Try.isAgg110
  z28 := Try.sizeOf110
  v28 := Try.zeroValue110
  i26 := by kernel_rfl }
theorem Try.sorts_in (m : Nat) : AnyZ.SortsIn Try.prog Try.sorted_ren Fence.wide m :=
  ⟨fun blk off cap ss W hH hblk hsz => callsIn_wide.2 (Try.slices_Sort_string blk off cap ss W hH hblk hsz),
   fun p cap W => callsIn_wide.2 (Try.slices_Sort_string_none p cap W)⟩
end Go.Proofs
namespace Go.Proofs.Ytmbaeloiepjakaa
open Go Go.RowKit Go.Maps Go.Sort Go.Shelf A R
abbrev keyS (s : ByteArray) : Value := .string s
abbrev okS (s : ByteArray) : Prop := s.size ≤ A.maxI
theorem keyS_T : KeyT Try.prog 9 ByteArray keyS okS := KeyT.of (Maps.string_keyed Try.underlying9) (fun a ha => ⟨_, Go.WideMaps.keyOf_string_mk Try.underlying9 ha⟩) fun a b h => by cases h; rfl
/-- Texts that rise. -/
def Rise (ks : List ByteArray) : Prop := ks.Pairwise fun a b => Op.bytesLess a.toList b.toList = true
theorem enc_flat : ∀ (ks : List ByteArray), (ks.map (·.data.toList)).map encStr = (ks.map fun s => [Value.string s]).flatten
  | [] => rfl
  | a :: r => by simp only [List.map_cons, List.flatten_cons]; rw [enc_flat r]; rfl
def Try.keysV_ren : Go.Shelf.Ren := ⟨fun | 7 => 66 | 10 => 75 | n => n, fun | 0 => 0 | 3 => 57 | 4 => 4 | 23 => 76 | 26 => 9 | 27 => 109 | 28 => 110 | 33 => 60 | n => n, fun | n => n⟩
theorem Try.keysV : SlLaysZ.n7 Try.prog Try.keysV_ren := {
  mixed := by kernel_rfl
  f7 := ⟨Try.f66.name, by kernel_rfl, Try.func66.trans (congrArg some (by kernel_rfl))⟩
  f10 := ⟨Try.f75.name, by kernel_rfl, Try.func75.trans (congrArg some (by kernel_rfl))⟩
  t0 := Try.underlying0
  a0 := Try.isAgg0
  z0 := Try.sizeOf0
  v0 := Try.zeroValue0
  t4 := Try.underlying4
  a4 := Try.isAgg4
  z4 := Try.sizeOf4
  v4 := Try.zeroValue4
  t23 := Try.underlying76
  a23 := Try.isAgg76
  z23 := Try.sizeOf76
  v23 := Try.zeroValue76
  t26 := Try.underlying9
  a26 := Try.isAgg9
  z26 := Try.sizeOf9
  v26 := Try.zeroValue9
  t27 := Try.underlying109
  a27 := Try.isAgg109
  z27 := Try.sizeOf109
  v27 := Try.zeroValue109
  t28 := Try.underlying110
  a28 := Try.isAgg110
  z28 := Try.sizeOf110
  v28 := Try.zeroValue110
  t33 := Try.underlying60
  a33 := Try.isAgg60
  z33 := Try.sizeOf60
  v33 := Try.zeroValue60 }
set_option maxRecDepth 100000 in
theorem keysV_g {κ α : Type} (kv : κ → Value) (ok : κ → Prop) (enc : α → AV) (b n : Nat) (m : κ → Option α) : GCall Try.prog 66 [.ow 1001 0] [(1001, .op (mapO kv ok enc b n m))] (some ([(1001, .op (mapO kv ok enc b n m)), (1002, .box 76 [.ow 1001 0])], .fnb 75 [] [.bx 1002 0 0])) := by
  refine GCall_enter (fun _ _ => by kernel_rfl) Try.func66 rfl Try.ntmps66 (ReadsS.r1 Try.results66) (Nat.le_of_ble_eq_true rfl) (fun hok hokB M0 w0 => ?_)
  refine Aw_seq (Aw_region ?_)
  refine Al_box1 rfl rfl rfl (by decide) (by kernel_rfl) (by conv => lhs; whnf) rfl (fun g1 => ?_)
  refine Al_p Pu_mvr ?_
  refine Al_nil (Aw_seq (Aw_region ?_))
  refine Al_p (Pu_makeFuncS [] [.bx 1 g1 0] rfl trivial ⟨Sub.rfl, trivial⟩) ?_
  refine Al_p Pu_mvr ?_
  refine Al_nil ?_
  refine Aw_ret ?_
  exact ⟨_, _, [(1002, 1, g1)], rfl, Sub.rfl, ⟨rfl, rfl, trivial⟩, rfl⟩ -- ret 0
set_option maxHeartbeats 1000000 in
theorem sortedV_g {α : Type} (enc : α → AV) (b n : Nat) (m : ByteArray → Option α) (ks : List ByteArray) (hr : Rise ks) (hk : ∀ k, (m k).isSome = true ↔ k ∈ ks) (hn : n ≤ 1000000) : GCall Try.prog 65 [.fnb 75 [] [.bx 1002 0 0]] [(1001, .op (mapO keyS okS enc b n m)), (1002, .box 76 [.ow 1001 0])] (some ([(1001, .op (mapO keyS okS enc b n m)), (1003, .arr 9 1 (ks.map fun s => [tv s]))], .ow 1003 0)) := ⟨fun _ _ => by kernel_rfl, fun M w ρ vs hM hbnd ha hobs hfps hap => by
  obtain ⟨h1, e1, _, hh1, hmp⟩ := hobs (1001, .op (mapO keyS okS enc b n m)) (by simp)
  obtain ⟨h2, e2, b2, cs2, rfl, _, hb2, hsz2, hcs2⟩ := hobs (1002, .box 76 [.ow 1001 0]) (by simp)
  have hmb : M b := hfps b ⟨_, List.mem_cons_self .., h1, e1, rfl⟩
  have hcell : w.cell? ⟨b2, 0, none⟩ = some (.map (some b)) := by
    have h0 : 0 < cs2.size := by rw [hsz2]; exact Nat.one_pos
    have h3 : cs2[0]? = some cs2[0] := Array.getElem?_eq_getElem h0
    obtain ⟨⟨h4, _⟩, _⟩ := hcs2 0 (.ow 1001 0) cs2[0] rfl h3
    rw [e1] at h4
    rw [Lib.cell_of_heap hb2]
    show cs2[0]? = _
    rw [h3, ← Option.some.inj h4, hh1]
  match vs, ha with
  | [x], ha =>
  obtain ⟨us, vs', rfl, ⟨hu, _⟩, hv1, hv2⟩ := ha.2 0 _ x rfl rfl
  obtain rfl : us = [] := List.eq_nil_of_length_eq_zero hu
  match vs', hv1, hv2 with
  | [y], _, hv2 =>
  obtain ⟨z, bz, ez, hz1, rfl⟩ := hv2 0 _ y rfl rfl
  rw [e2] at ez
  obtain rfl := Option.some.inj ez
  have hbz : b2 = bz := by simpa [blk] using hz1
  subst hbz
  obtain ⟨es, clock, hbm, hst, hsz, hent, hall⟩ := hmp
  have hrd : ∀ x ∈ es.toList, ∃ c, okS c ∧ x.key = keyS c ∧ (m c).isSome = true ∧ WideElems.rd (H := Unit) Try.prog 9 (fun _ => some (.lit (.bool true), [])) x = some (.string c.data.toList, .lit (.bool true)) := fun x hx => by
    obtain ⟨c, v, h3, h4, h5, _⟩ := hent x hx
    refine ⟨c, h3, h4, by rw [h5]; rfl, ?_⟩
    have := WideElems.rd_mk (H := Unit) (P := Try.prog) (k := 9) (R := fun _ => some (.lit (.bool true), [])) (key := x.key) (val := x.val) (born := x.born) (kl := .string c.data.toList) (yv := (.lit (.bool true), [])) (by rw [h4]; exact WideMaps.keyOf_string_mk Try.underlying9 h3) rfl
    exact this
  have hown : w.ownsMap (H := Unit) Try.prog 9 (fun _ => some (.lit (.bool true), [])) b n (.map ((es.toList.map (WideElems.rg Try.prog 9 (fun _ => some (.lit (.bool true), [])))).foldr DataW.insert [])) :=
    ⟨es, clock, hbm, ⟨by have : maxLen = 9223372036854775807 := rfl; omega, hst, fun x hx => by obtain ⟨c, _, _, _, h6⟩ := hrd x hx; exact ⟨_, h6⟩⟩, hsz, rfl⟩
  have hsl := hown.size_le
  have hlt2 : b2 < w.heap.size := (Array.getElem?_eq_some_iff.1 hb2).1
  have hseq := AnyZ.keys_gives (ρ := Try.keysV_ren) { Try.keysV with } Fence.wide 2 trivial rfl (by omega) b2 b n _ w hlt2 hcell hown
  have hS := AnyZ.sorted_in Try.sorted_lays Fence.wide 5 trivial trivial trivial trivial rfl (by omega) (Try.sorts_in _) (enters_of Try.func74 (by kernel_rfl) rfl) 75 #[.pointer (some ⟨b2, 0, none⟩)] trivial (enters_of Try.func75 (by kernel_rfl) rfl) _ _ (Nat.le_trans hsl (by have : maxLen = 9223372036854775807 := rfl; omega)) (by omega) _ hseq
  refine (callsIn_wide.1 hS).mono fun e w' ⟨v, ss, he, hperm, hrow, hnil, hbel⟩ => ?_
  have hext : Ev.Ext w w' := hbel
  have hkp : ∀ c ∈ ks, okS c := fun c hc => by
    obtain ⟨x, hx⟩ := Option.isSome_iff_exists.1 ((hk c).2 hc)
    obtain ⟨e, he, hek⟩ := hall c x hx
    obtain ⟨c', _, h3, h4, _⟩ := hent e he
    rw [h4] at hek
    cases hek; exact h3
  have hinj : ∀ a c : ByteArray, a.data.toList = c.data.toList → a = c := fun a c h => ByteArray.ext (Array.toList_inj.1 h)
  have hlt : (ks.map (·.data.toList)).Pairwise (· < ·) := by
    rw [List.pairwise_map]
    refine hr.imp fun {a c} h => ?_
    rw [ByteArray.toList_eq, ByteArray.toList_eq, bytesLess_eq] at h
    simpa using h
  have hnd : (ks.map (·.data.toList)).Nodup := hlt.imp fun {a c} h e => by rw [e] at h; exact List.lt_irrefl _ h
  have hpk : (ks.map (·.data.toList)).Perm (strKeys (.map ((es.toList.map (WideElems.rg (H := Unit) Try.prog 9 (fun _ => some (.lit (.bool true), [])))).foldr DataW.insert []))) := by
    obtain ⟨es', hD, hpw, _⟩ := hown.entries (Maps.string_keyed Try.underlying9)
    cases hD
    have hmem : ∀ p : Lit × DataW Unit, p ∈ (es.toList.map (WideElems.rg (H := Unit) Try.prog 9 (fun _ => some (.lit (.bool true), [])))).foldr DataW.insert [] ↔ ∃ x ∈ es.toList, ∃ c, x.key = keyS c ∧ (m c).isSome = true ∧ p = (.string c.data.toList, .lit (.bool true)) := fun p => by
      rw [mem_sorted, List.mem_map]
      constructor
      · rintro ⟨x, hx, rfl⟩
        obtain ⟨c, _, h4, h5, h6⟩ := hrd x hx
        exact ⟨x, hx, c, h4, h5, WideElems.rg_of h6⟩
      · rintro ⟨x, hx, c, h4, _, rfl⟩
        obtain ⟨c', _, h4', _, h6⟩ := hrd x hx
        rw [h4] at h4'
        cases h4'
        exact ⟨x, hx, WideElems.rg_of h6⟩
    refine perm_strKeys hpw (fun p hp => ?_) hnd fun x => ?_
    · obtain ⟨_, _, c, _, _, rfl⟩ := (hmem p).1 hp
      exact ⟨_, rfl⟩
    · rw [Maps.has_eq, List.any_eq_true, List.mem_map]
      constructor
      · rintro ⟨c, hc, rfl⟩
        obtain ⟨y, hy⟩ := Option.isSome_iff_exists.1 ((hk c).2 hc)
        obtain ⟨e0, he0, hek⟩ := hall c y hy
        exact ⟨_, (hmem _).2 ⟨e0, he0, c, hek, (hk c).2 hc, rfl⟩, by simp [Lit.sameKey]⟩
      · rintro ⟨p, hp, hs⟩
        obtain ⟨_, _, c, _, hsm, rfl⟩ := (hmem p).1 hp
        refine ⟨c, (hk c).1 hsm, ?_⟩
        simpa [Lit.sameKey] using hs
  have hsort : ss.mergeSort (fun x y => decide (x ≤ y)) = ks.map (·.data.toList) := by
    have h3 := mergeSort_of_perm (hperm.trans hpk.symm)
    refine h3.trans (List.mergeSort_of_pairwise ?_)
    refine hlt.imp fun {a c} h => ?_
    simpa using List.le_of_lt h
  have hss : ss.length = ks.length := by rw [← List.length_mergeSort ss (le := fun x y => decide (x ≤ y)), hsort, List.length_map]
  have hvals : (ss.mergeSort (fun x y => decide (x ≤ y))).map encStr = (ks.map fun s => [Value.string s]).flatten := by
    rw [hsort, enc_flat]
  rw [hvals, hss] at hrow
  let ρ' : Rho := fun k g => if k = 1003 ∧ g = 0 then some v else ρ k g
  have r1 : ρ' 1001 0 = ρ 1001 0 := if_neg (by decide)
  have r2 : ρ' 1002 0 = ρ 1002 0 := if_neg (by decide)
  have r3 : ρ' 1003 0 = some v := if_pos ⟨rfl, rfl⟩
  have hblk : ∀ c, blk v = some c → w.heap.size ≤ c := fun c hc => by
    rcases hrow.2 with ⟨rfl, _⟩ | ⟨gb, cap, cur, rfl, hbase, _⟩
    · cases hc
    · simp [blk] at hc; omega
  have hf' : ∀ c, fps ρ' [(1001, .op (mapO keyS okS enc b n m)), (1003, .arr 9 1 (ks.map fun s => [tv s]))] c → c = b ∨ blk v = some c := fun c ⟨p, hp, z, hz, hc⟩ => by
    rcases List.mem_cons.1 hp with rfl | hp
    · exact .inl hc
    · rcases List.mem_cons.1 hp with rfl | hp
      · rw [show ρ' 1003 0 = some v from r3] at hz
        cases hz; exact .inr hc
      · cases hp
  have hkn : Known M (fun c => M c ∨ fps ρ' [(1001, .op (mapO keyS okS enc b n m)), (1003, .arr 9 1 (ks.map fun s => [tv s]))] c) w w' := fun c hc hn => ⟨fun h => by
    rcases h with h | h
    · exact hn h
    · rcases hf' c h with rfl | h
      · exact hn hmb
      · have := hblk c h; omega, hext.block c hc⟩
  have hbl : b < w.heap.size := hM b hmb
  have hks : ks.length ≤ n := by
    have := hpk.length_eq
    rw [List.length_map] at this
    have h5 : (strKeys (.map ((es.toList.map (WideElems.rg (H := Unit) Try.prog 9 (fun _ => some (.lit (.bool true), [])))).foldr DataW.insert []))).length = Maps.size (.map ((es.toList.map (WideElems.rg (H := Unit) Try.prog 9 (fun _ => some (.lit (.bool true), [])))).foldr DataW.insert [])) := by
      rw [Maps.size_eq]; exact List.length_map ..
    omega
  refine ⟨⟨hext.os, hext.tape, hext.output, hext.size, fun c hc _ => hext.block c hc⟩, v, he, ρ', ?_, fun p hp => ?_, fun p hp => ?_, fun p hp q hq x x' c hx hx' hc hc' => ?_, ?_⟩
  · obtain ⟨G, hG⟩ := hbnd
    refine ⟨G + 1, fun k g h => ?_⟩
    by_cases e : k = 1003 ∧ g = 0
    · omega
    · have : ρ' k g = ρ k g := if_neg e
      rw [this] at h
      have := hG k g h; omega
  · rcases List.mem_cons.1 hp with rfl | hp
    · exact r1
    · rcases List.mem_cons.1 hp with rfl | hp
      · exact r2
      · cases hp
  · rcases List.mem_cons.1 hp with rfl | hp
    · refine ⟨h1, r1.trans e1, fun c hc => .inr ⟨_, List.mem_cons_self .., h1, e1, hc⟩, hh1, ?_⟩
      refine R.Mp.mono (V := fun w v x => Rep M w (enc x) v) ⟨es, clock, hbm, hst, hsz, hent, hall⟩ (hext.block b hbl) fun v x hv => hv.mono hkn
    · rcases List.mem_cons.1 hp with rfl | hp
      · refine ⟨v, r3, ks.map fun s => [Value.string s], ?_, ⟨by simp, fun i r u hi hu => ?_⟩, ?_, ?_, fun c hc => .inl (hblk c hc)⟩
        · have h6 := hrow
          rw [List.length_map]
          refine ⟨h6.1, ?_⟩
          rcases h6.2 with h7 | ⟨gb, cap, cur, h7, hbase, h8⟩
          · exact .inl h7
          · exact .inr ⟨gb, cap, cur, h7, Nat.zero_le _, h8⟩
        · rw [List.getElem?_map] at hi hu
          obtain ⟨a, h8, rfl⟩ := Option.map_eq_some_iff.1 hi
          rw [h8] at hu
          simp only [Option.map_some, Option.some.injEq] at hu
          subst hu
          refine ⟨rfl, rfl, fun j c x hj hx => ?_⟩
          match j with
          | 0 =>
            simp at hj hx
            subst hj hx
            exact ⟨.v _ (hkp a (List.mem_of_getElem? h8)), rfl⟩
          | j + 1 => simp at hj
        · rw [List.length_map]
          rcases hrow.2 with ⟨rfl, h7⟩ | ⟨gb, cap, cur, rfl, _⟩
          · exact ⟨none, 0, by simp at h7; simp [h7]⟩
          · exact ⟨_, cap, rfl⟩
        · rw [List.length_map]
          simp only [A.maxI]; omega
      · cases hp
  · rcases List.mem_cons.1 hp with rfl | hp <;> rcases List.mem_cons.1 hq with rfl | hq
    · rfl
    · rcases List.mem_cons.1 hq with rfl | hq
      · have hcb : c = b := hc
        rw [show ρ' 1003 0 = some v from r3] at hx'
        cases hx'
        have := hblk c hc'
        omega
      · cases hq
    · rcases List.mem_cons.1 hp with rfl | hp
      · have hcb : c = b := hc'
        rw [show ρ' 1003 0 = some v from r3] at hx
        cases hx
        have := hblk c hc
        omega
      · cases hp
    · rcases List.mem_cons.1 hp with rfl | hp
      · rcases List.mem_cons.1 hq with rfl | hq
        · rfl
        · cases hq
      · cases hp
  · refine ⟨r3, ?_⟩
    rcases hrow.2 with ⟨rfl, _⟩ | ⟨gb, cap, cur, rfl, _⟩ <;> rfl⟩
end Go.Proofs.Ytmbaeloiepjakaa
