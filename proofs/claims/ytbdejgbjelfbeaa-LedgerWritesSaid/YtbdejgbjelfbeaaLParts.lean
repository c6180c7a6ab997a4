/- Parts: the ledger's walk. -/
import Derived.Test.YtbdejgbjelfbeaaLPart1
import Derived.Test.YtbdejgbjelfbeaaLCheck5
import Derived.Test.YtbdejgbjelfbeaaLCheck2
set_option linter.unusedSimpArgs false
set_option linter.unusedVariables false
namespace Go.Proofs.Ytbdejgbjelfbeaa
open Go.RowKit R
theorem event_cells {K : Blocks} {w : World} {a : Option Addr} {len cap : Nat} {l : List Event} (h : Sl K w (.slice a len cap) l) :
    len = l.length ∧ ∀ (i : Nat) (x : Event), l[i]? = some x → ∃ b o v, a = some ⟨b, o, none⟩ ∧ K b ∧ (x.key.size ≤ 9223372036854775807 ∧ inI x.kind ∧ inI x.client ∧ inI x.n ∧ inI x.s) ∧ Sl K w v x.seen ∧ w.cell? ⟨b, o + i * 6, none⟩ = some (.int .i64 x.kind) ∧ w.cell? ⟨b, o + i * 6 + 1, none⟩ = some (.int .i64 x.client) ∧ w.cell? ⟨b, o + i * 6 + 2, none⟩ = some (.string x.key) ∧ w.cell? ⟨b, o + i * 6 + 3, none⟩ = some (.int .i64 x.n) ∧ w.cell? ⟨b, o + i * 6 + 4, none⟩ = some (.int .i64 x.s) ∧ w.cell? ⟨b, o + i * 6 + 5, none⟩ = some v := by
  obtain ⟨hl, h⟩ := h.get
  refine ⟨hl, fun i x hx => ?_⟩
  obtain ⟨b, o, cs, ha, hb, ⟨v, rfl, h1, h2⟩, hat⟩ := h i x hx
  exact ⟨b, o, v, ha, hb, h1, h2, hat 0 _ rfl, hat 1 _ rfl, hat 2 _ rfl, hat 3 _ rfl, hat 4 _ rfl, hat 5 _ rfl⟩
theorem int_key : KeyT Try.prog 3 Int (Value.int .i64) inI where
  keyed := Go.Maps.int_keyed Try.underlying3
  lit := fun a ha => ⟨_, Go.Maps.keyOf_int_mk Try.underlying3 (by unfold inI at ha; simp only [Lit.wf, Bool.and_eq_true, decide_eq_true_eq]; exact ha)⟩
  inj := fun a b h => by simpa using h
/-- What was known ahead of a call. -/
abbrev KB (K : Blocks) (B : Nat) : Blocks := fun b => K b ∧ b < B
theorem R.Sl.bound {α : Type} [GoT α] {K : Blocks} {w : World} {v : Value} {xs : List α} (h : Sl K w v xs) : Sl (KB K w.heap.size) w v xs := h.mono fun b hb hlt => ⟨⟨hb, hlt⟩, rfl⟩
theorem R.Sl.known {α : Type} [GoT α] {K : Blocks} {B : Nat} {w w' : World} {v : Value} {xs : List α} (h : Sl (KB K B) w v xs) (he : ∀ b, b < B → w'.heap[b]? = w.heap[b]?) : Sl (KB K B) w' v xs := h.mono fun b hb _ => ⟨hb, he b hb.2⟩
abbrev DMap (K : Blocks) (B : Nat) (w : World) (b n : Nat) (m : Int → Option (List Dep)) : Prop := Mp (Value.int .i64) inI (fun w v (x : List Dep) => Sl (KB K B) w v x) w b n m
namespace L
def partsF (m : Int → List Dep) : List Event → List ByteArray
  | [] => []
  | e :: r => V.ba (part e (m e.client)) :: partsF (fun c => if c = e.client then e.seen else m c) r
def parts (l : List Event) : List ByteArray := if l.all check then partsF (fun _ => []) l else []
theorem check_parts {e : Event} (h : check e = true) : (∃ k c : Nat, e.kind = k ∧ e.client = c ∧ k ≤ 1000 ∧ c ≤ 1000) ∧ e.seen.length ≤ 64 := by
  unfold check at h
  rw [Bool.and_eq_true] at h
  obtain ⟨h1, h2, h3, h4, h5⟩ := head_parts h.1
  refine ⟨?_, h5⟩
  have hk : e.kind = 1 ∨ e.kind = 2 := by
    simp only [kindB, Bool.or_eq_true, Bool.and_eq_true, beq_iff_eq] at h1
    rcases h1 with ⟨h, _⟩ | ⟨h, _⟩
    · exact .inl h
    · exact .inr h
  exact ⟨e.kind.toNat, e.client.toNat, by omega, by omega, by omega, by omega⟩
end L
theorem strE : ElemT Try.prog 30 9 1 16 := ⟨Try.underlying30, by
  have h : (Try.prog.info? 9).map (fun i => (i.zero, i.size, i.bytes)) = some (some (.string ⟨#[]⟩), 1, 16) := by kernel_rfl
  obtain ⟨i, hi, h1, h2, h3⟩ := info_parts h
  exact ⟨i, _, hi, h1, h2, h3, rfl⟩⟩
theorem part_size (e : Event) (ahead : List Dep) (hc : L.check e = true) (hkey : e.key.size ≤ 1000) (hsk : ∀ d ∈ e.seen, d.key.size ≤ 1000) (hal : ahead.length ≤ 64) (hak : ∀ d ∈ ahead, d.key.size ≤ 1000) :
    (V.ba (L.part e ahead)).size ≤ 200000 := by
  obtain ⟨⟨k, c, h1, h2, h3, h4⟩, h5⟩ := L.check_parts hc
  have l1 := V.num_len64 (n := e.kind.toNat) (by omega)
  have l2 := V.num_len64 (n := e.client.toNat) (by omega)
  have l3 := V.num_len64 (n := e.key.size) (by omega)
  have l4 : (V.text e.key).length ≤ 1010 := by simp [V.text]; omega
  have l5 := stamp_len e.n e.s
  have l1z := V.num_len64 (n := 1) (by omega)
  have l0z := V.num_len64 (n := 0) (by omega)
  have hso : (L.stampOpt e.n e.s).length ≤ 30 := by unfold L.stampOpt; split <;> (try simp) <;> omega
  have hml : (L.more e ahead).length ≤ 64 := Nat.le_trans (strike_le _ _) h5
  have hll : (L.less e ahead).length ≤ 64 := Nat.le_trans (strike_le _ _) hal
  have l6 := V.num_len64 (n := (L.more e ahead).length) (by omega)
  have l7 := V.num_len64 (n := (L.less e ahead).length) (by omega)
  have f1 := (dep_flat (L.more e ahead) (fun d hd => hsk d (List.mem_filter.1 hd).1)).1
  have f2 := (dep_flat (L.less e ahead) (fun d hd => hak d (List.mem_filter.1 hd).1)).2
  rw [ba_size]
  simp only [L.part, L.headBytes, List.length_append]
  omega
theorem part_ev (e : Event) (v va : Value) (ahead : List Dep) (Kb : Blocks) (w : World) (hc : L.check e = true) (hkey : e.key.size ≤ 1000) (hs : Sl Kb w v e.seen) (ha : Sl Kb w va ahead) (hal : ahead.length ≤ 64) (hsk : ∀ d ∈ e.seen, d.key.size ≤ 1000) (hak : ∀ d ∈ ahead, d.key.size ≤ 1000) :
    Calls Try.prog 25 #[e.val v, va] w fun r w' => r = .returned (.string (V.ba (L.part e ahead))) ∧ Ev.Ext w w' := by
  obtain ⟨⟨k, c, h1, h2, h3, h4⟩, h5⟩ := L.check_parts hc
  obtain ⟨kind, client, key, n, s, seen⟩ := e
  subst h1 h2
  exact part_any k c key n s seen v va ahead Kb w h3 h4 hkey hs ha h5 hal hsk hak
theorem grow_own {α : Type} [GoT α] {e : TypeId} {K : Blocks} {B : Nat} {w : World} {v : Value} {xs : List α} (h : Grow e K B w v xs) : ∀ g, v.ownBlock = some g → B ≤ g ∧ ∃ cur, w.heap[g]? = some (.cells cur e (0, 0)) := by
  obtain ⟨rows, hown, _⟩ := h.ex
  intro g hg
  rcases hown.2 with ⟨rfl, _⟩ | ⟨g', cap, cur, rfl, hbg, hgg, _⟩
  · simp [Value.ownBlock] at hg
  · simp [Value.ownBlock] at hg; subst hg; exact ⟨hbg, cur, hgg⟩
/-- A row of texts, while other blocks are written. -/
theorem growS_kept {e : TypeId} {K : Blocks} {B : Nat} {w w' : World} {v : Value} {xs : List ByteArray} (h : Grow e K B w v xs) (hk : ∀ g, v.ownBlock = some g → w'.heap[g]? = w.heap[g]?) : Grow e K B w' v xs := by
  obtain ⟨rows, hown, hall⟩ := h.ex
  refine ⟨⟨rows, ⟨hown.1, ?_⟩, hall.imp fun r x hr => hr⟩⟩
  rcases hown.2 with hn | ⟨g, cap, cur, hv, hbg, hg, rest⟩
  · exact .inl hn
  · exact .inr ⟨g, cap, cur, hv, hbg, (hk g (by rw [hv]; rfl)).trans hg, rest⟩
/-- Where Parts' loop stands. -/
structure PAt (K : Blocks) (w : World) (l : List Event) (k : Nat) (out : List ByteArray) (m : Int → Option (List Dep)) (o : Value) (wr : World) : Prop where
  ext : Ev.Ext w wr
  row : Grow 9 K w.heap.size wr o out
  map : DMap K w.heap.size wr w.heap.size k m
  good : ∀ i (h : i < l.length), i < k → L.check l[i] = true
  eq : out ++ L.partsF (fun c => (m c).getD []) (l.drop k) = L.partsF (fun _ => []) l
  len : out.length = k
  from_ : ∀ c x, m c = some x → ∃ e ∈ l, L.check e = true ∧ x = e.seen
theorem block_kept {w4 w5 : World} {o : Obj} {row : Option Nat} {e : TypeId} {B x : Nat} {ob : Obj} (hg : (w4.alloc o).grownBy w5 row) (hgo : ∀ g, row = some g → B ≤ g ∧ ∃ cur, w4.heap[g]? = some (.cells cur e (0, 0))) (hx : w4.heap[x]? = some ob) (hne : ∀ cur, ob ≠ .cells cur e (0, 0)) : w5.heap[x]? = some ob := by
  have hlt : x < w4.heap.size := (Array.getElem?_eq_some_iff.1 hx).1
  rw [hg.block x (by simp; omega) (fun e1 => ?_), (extA w4 o).block x hlt]
  · exact hx
  · obtain ⟨_, cur, hc⟩ := hgo x e1.symm
    rw [hx] at hc
    exact hne cur (Option.some.inj hc)
theorem known_kept {w4 w5 : World} {o : Obj} {row : Option Nat} {B x : Nat} (hg : (w4.alloc o).grownBy w5 row) (hgo : ∀ g, row = some g → B ≤ g) (hx : x < B) (hB : B ≤ w4.heap.size) : w5.heap[x]? = w4.heap[x]? := by
  rw [hg.block x (by simp; omega) (fun e1 => by have := hgo x e1.symm; omega), (extA w4 o).block x (by omega)]
theorem parts_step {Kb : Blocks} {w wr w4 w5 : World} {l : List Event} {k : Nat} {out : List ByteArray} {m : Int → Option (List Dep)} {o v1 vs : Value} {ob : Obj} {T : Obj} (hP : PAt Kb w l k out m o wr) (h1 : k < l.length) (hl : l.length ≤ 1000) (hc : L.check l[k] = true) (h4 : Ev.Ext wr w4)
    (hg5 : Grow 9 Kb w.heap.size w5 v1 (out ++ [V.ba (L.part l[k] ((m l[k].client).getD []))])) (hgb : (w4.alloc ob).grownBy w5 o.ownBlock) (hsl : Sl (KB Kb w.heap.size) w vs l[k].seen) (hcl : inI l[k].client)
    (hbx : w4.heap[wr.heap.size]? = some T) (hT : ∀ cur, T ≠ .cells cur 9 (0, 0)) :
    w5.heap[wr.heap.size]? = some T ∧ ∃ w6, (Instr.mapUpdate 48 (.map (some w.heap.size)) (.int .i64 l[k].client) vs).run Try.prog w5 = .ok () w6 ∧
      PAt Kb w l (k + 1) (out ++ [V.ba (L.part l[k] ((m l[k].client).getD []))]) (fun c => if c = l[k].client then some l[k].seen else m c) v1 w6 := by
  have hG4 := hP.row.ext h4
  have hgo := grow_own hG4
  have hE4 : Ev.Ext w w4 := hP.ext.trans h4
  have hsz : w.heap.size ≤ w4.heap.size := hE4.size
  have hE5 : Ev.Ext w w5 := grown_below (hE4.trans (extA _ _)) hgb (Nat.le_trans hE4.size (extA _ _).size) hG4.base
  have kn : ∀ b, b < w.heap.size → w5.heap[b]? = w4.heap[b]? := fun b hb => known_kept hgb (fun g hg => (hgo g hg).1) hb hsz
  have hM4 : DMap Kb w.heap.size w4 w.heap.size k m := hP.map.mono (h4.block _ hP.map.lt) (fun v x h => h.ext h4)
  have hmb : w5.heap[w.heap.size]? = w4.heap[w.heap.size]? := by
    obtain ⟨es, ck, hes, _⟩ := hM4
    rw [hes]
    exact block_kept hgb hgo hes (fun cur h => by cases h)
  have hM5 : DMap Kb w.heap.size w5 w.heap.size k m := hM4.mono hmb (fun v x h => h.known kn)
  refine ⟨block_kept hgb hgo hbx hT, ?_⟩
  obtain ⟨w6, hrun, hM6, hg6, hz6⟩ := hM5.store int_key Try.underlying48 (by unfold maxLen; omega) l[k].client hcl vs l[k].seen
    (fun w' hg _ v x h => h.known fun b hb => hg.block b (Nat.lt_of_lt_of_le hb hE5.size) (fun e => by simp at e; omega))
    (hsl.known fun b hb => hE5.block b hb)
  refine ⟨w6, hrun, ⟨?_, ?_, hM6, fun i hi hik => ?_, ?_, by simp [hP.len], fun c x hcx => ?_⟩⟩
  · exact grown_below (v := .slice (some ⟨w.heap.size, 0, none⟩) 0 0) hE5 hg6 hE5.size (fun j hj => by simp [Value.ownBlock] at hj; omega)
  · refine growS_kept hg5 fun g hg => ?_
    obtain ⟨_, cur, hcur⟩ := grow_own hg5 g hg
    refine hg6.block g (Array.getElem?_eq_some_iff.1 hcur).1 fun e => ?_
    simp at e
    subst e
    obtain ⟨es, ck, hes, _⟩ := hM5
    rw [hes] at hcur; cases hcur
  · by_cases e : i = k
    · subst e; exact hc
    · exact hP.good i hi (by omega)
  · rw [← hP.eq, List.drop_eq_getElem_cons h1, L.partsF]
    simp only [List.append_assoc, List.cons_append, List.nil_append]
    have hfun : (fun c => ((fun c => if c = l[k].client then some l[k].seen else m c) c).getD []) = (fun c => if c = l[k].client then l[k].seen else (m c).getD []) := by
      funext c
      by_cases e : c = l[k].client
      · simp only [if_pos e]; rfl
      · simp only [if_neg e]
    rw [hfun]
  · split at hcx
    · cases hcx; exact ⟨l[k], List.getElem_mem h1, hc, rfl⟩
    · exact hP.from_ c x hcx
theorem all_check {l : List Event} (h : ∀ i (h : i < l.length), i < l.length → L.check l[i] = true) : l.all L.check = true := by
  rw [List.all_eq_true]
  intro x hx
  obtain ⟨i, hi, rfl⟩ := List.getElem_of_mem hx
  exact h i hi hi
set_option maxHeartbeats 8000000 in
set_option maxRecDepth 100000 in
theorem lparts_any (l : List Event) (v : Value) (Kb : Blocks) (w : World) (h : Sl Kb w v l) (hl : l.length ≤ 1000) (hk : ∀ e ∈ l, e.key.size ≤ 1000 ∧ ∀ d ∈ e.seen, d.key.size ≤ 1000) :
    Calls Try.prog 10 #[v] w fun r w' => ∃ v', r = .returned v' ∧ Grow 9 Kb w.heap.size w' v' (L.parts l) ∧ Ev.Ext w w' := by
  have hK := h.bound
  obtain ⟨a, cap, rfl⟩ := h.form
  have hmm := @run_makeMap Try.prog
  go_enter Try.func10, Try.ntmps10
  go_wp2_with fail
  go_loopw [3, 10] (fun o i wr => ∃ (k : Nat) (out : List ByteArray) (m : Int → Option (List Dep)), i = .int .i64 k ∧ k ≤ l.length ∧ PAt Kb w l k out m o wr) (fun _ i _ => l.length - (intOf i).toNat)
  case atStart => exact ⟨0, [], fun _ => none, rfl, by omega, ⟨extA _ _, Grow.nil _ _ _ _, Mp.made _ _ _ _, fun i _ h => by omega, rfl, rfl, fun c x h => by cases h⟩⟩
  case round =>
    obtain ⟨k, out, m, rfl, hk', hp⟩ := hrel
    have hext := hp.ext
    by_cases h1 : k < l.length
    · have hx : l[k]? = some l[k] := by simp [h1]
      obtain ⟨b, o, vs, rfl, hKb, ⟨hs0, hs1, hs2, hs3, hs4⟩, hsl, c0, c1, c2, c3, c4, c5⟩ := (event_cells hK).2 k l[k] hx
      obtain ⟨a2, cap2, rfl⟩ := hsl.form
      have hke := hk l[k] (List.getElem_mem h1)
      have c0 := cell_later hext c0
      have c1 := cell_later hext c1
      have c2 := cell_later hext c2
      have c3 := cell_later hext c3
      have c4 := cell_later hext c4
      have c5 := cell_later hext c5
      have hA := extA wr (.cells #[.int .i64 l[k].kind, .int .i64 l[k].client, .string l[k].key, .int .i64 l[k].n, .int .i64 l[k].s, .slice a2 l[k].seen.length cap2] 29)
      have hP := Lib.hid hp
      clear hx hp
      go_wp2_with fail
      refine (lcheck_any l[k] _ _ _ (by omega) (hsl.ext (hext.trans hA))).mono ?_; rintro e w3 ⟨rfl, hb3⟩
      have hE3 := (hext.trans hA).trans hb3
      cases hc : L.check l[k]
      · have hps : L.parts l = [] := by
          unfold L.parts
          rw [if_neg]
          rw [List.all_eq_true]
          intro hh
          rw [hh l[k] (List.getElem_mem h1)] at hc; cases hc
        have HPS := Lib.hid hps
        clear hps
        go_wp2
        go_ret
        exact ⟨_, rfl, HPS.out ▸ Grow.nil _ _ _ _, hE3⟩
      · have hp := hP.out
        have hG := hp.row.ext (hA.trans hb3)
        have hM : DMap Kb w.heap.size w3 w.heap.size k m := hp.map.mono ((hA.trans hb3).block _ hp.map.lt) (fun v x h => h.ext (hA.trans hb3))
        have hlt : w.heap.size < wr.heap.size := hp.map.lt
        have hln := hp.len
        obtain ⟨va, hrun, hv1, hv2⟩ := hM.look int_key Try.underlying48 (z := .slice none 0 0) (fun w => by kernel_rfl) l[k].client hs2 false
        simp only [Bool.false_eq_true, if_false] at hrun
        have hva : Sl (KB Kb w.heap.size) w3 va ((m l[k].client).getD []) ∧ ((m l[k].client).getD []).length ≤ 64 ∧ ∀ d ∈ (m l[k].client).getD [], d.key.size ≤ 1000 := by
          cases hm : m l[k].client with
          | none => rw [hv2 hm]; exact ⟨Sl.nil _ _, by simp, by simp⟩
          | some x =>
            obtain ⟨e, he, hce, rfl⟩ := hp.from_ _ _ hm
            exact ⟨hv1 _ hm, (L.check_parts hce).2, (hk e he).2⟩
        obtain ⟨hva1, hva2, hva3⟩ := hva
        have hb6 := six_later hb3 rfl
        obtain ⟨d0, d1, d2, d3, d4, d5⟩ := hb6
        have hbx : w3.heap[wr.heap.size]? = _ := (hb3.block _ (by simp)).trans (heap_alloc_new _ _)
        have HC := Lib.hid hc
        have hE13 := hA.trans hb3
        clear hv1 hv2 c0 c1 c2 c3 c4 c5 hb3 hA hc hp
        go_wp2_with fail
        refine (part_ev l[k] _ va _ _ _ HC.out hke.1 (hsl.ext hE3) hva1 hva2 hke.2 hva3).mono ?_; rintro e w4 ⟨rfl, hb4⟩
        have hbx4 : w4.heap[wr.heap.size]? = _ := (hb4.block _ (Array.getElem?_eq_some_iff.1 hbx).1).trans hbx
        have hG4 := hG.ext hb4
        have hE4 := hE3.trans hb4
        have hE34 := hE13.trans hb4
        have hM4 : DMap Kb w.heap.size w4 w.heap.size k m := hM.mono (hb4.block _ hM.lt) (fun v x h => h.ext hb4)
        have hps : (V.ba (L.part l[k] ((m l[k].client).getD []))).size ≤ 9223372036854775807 := Nat.le_trans (part_size _ _ HC.out hke.1 hke.2 hva2 hva3) (by omega)
        have hxb : wr.heap.size < w4.heap.size := (Array.getElem?_eq_some_iff.1 hbx4).1
        clear hrun hG hM hb4 hbx d0 d1 d2 d3 d4 d5 hE3 hext
        go_wp2_with (first | (at_builtin; refine R.wpList_append rfl _ _ 30 rfl strE _ _ rfl (hG4.ext (extA _ _)) ⟨_, 0, none⟩ 1 [V.ba (L.part l[k] ((m l[k].client).getD []))] rfl [[.string (V.ba (L.part l[k] ((m l[k].client).getD [])))]] (.cons ⟨rfl, hps⟩ .nil) (row_cells (heap_alloc_new _ _)) (by simp [maxLen]; omega) (by simp; omega) (Nat.le_trans hE4.size (extA _ _).size) ?_; intro v1 w5 hg5 hgb5; obtain ⟨hbx5, w6, hrun6, hP6⟩ := parts_step (o := u3) hP.out h1 hl HC.out hE34 hg5 hgb5 hsl hs2 hbx4 (fun cur h => by simp at h); have h6 := six_of hbx5; obtain ⟨d0, d1, d2, d3, d4, d5⟩ := h6; have HP6 := Lib.hid hP6; clear hP6 hg5 hgb5) | (at_mapUpdate; refine wpList_mapUpdate rfl _ _ _ 48 rfl _ _ _ rfl rfl rfl hrun6 ?_))
        go_roundw
        case rel => exact ⟨k + 1, _, _, by go_num, by omega, HP6.out⟩
        case measure => simp [intOf]; omega
    · obtain rfl : k = l.length := by omega
      have hps : L.parts l = out := by
        have h2 := hp.eq
        rw [List.drop_length] at h2
        unfold L.parts
        rw [if_pos (all_check (fun i hi _ => hp.good i hi hi)), ← h2]; simp [L.partsF]
      have HPS := Lib.hid hps
      have hG := hp.row
      have hln := hp.len
      clear hps hp
      go_wp2
      go_ret
      exact ⟨_, rfl, HPS.out ▸ hG, hext⟩
end Go.Proofs.Ytbdejgbjelfbeaa
