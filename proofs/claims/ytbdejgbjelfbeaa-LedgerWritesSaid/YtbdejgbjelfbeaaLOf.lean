/- Deps by keys: the ledger's maps. -/
import Derived.Test.YtbdejgbjelfbeaaDDep
import Derived.StringKeys
set_option linter.unusedSimpArgs false
set_option linter.unusedVariables false
namespace Go.Proofs.Ytbdejgbjelfbeaa
open Go.RowKit R
instance : DecidableEq ByteArray := fun a b => if h : a.data = b.data then isTrue (by cases a; cases b; simp_all) else isFalse (fun e => h (by rw [e]))
theorem str_key : KeyT Try.prog 9 ByteArray Value.string (fun s => s.size ≤ 9223372036854775807) where
  keyed := Go.Maps.string_keyed Try.underlying9
  lit := fun a ha => by
    exact ⟨_, Go.WideMaps.keyOf_string_mk Try.underlying9 ha⟩
  inj := fun a b h => by simpa using h
def stv (w : World) (v : Value) (x : Int × Int) : Prop := v = .agg #[.int .i64 x.1, .int .i64 x.2]
abbrev SMap (w : World) (b n : Nat) (m : ByteArray → Option (Int × Int)) : Prop := Mp Value.string (fun s => s.size ≤ 9223372036854775807) stv w b n m
namespace L
def ofM (l : List Dep) : ByteArray → Option (Int × Int) := l.foldl (fun m d => fun c => if c = d.key then some (d.n, d.s) else m c) (fun _ => none)
theorem ofM_snoc (l : List Dep) (k : Nat) (hk : k < l.length) : ofM (l.take (k + 1)) = fun c => if c = l[k].key then some (l[k].n, l[k].s) else ofM (l.take k) c := by
  unfold ofM
  rw [List.take_succ_eq_append_getElem hk, List.foldl_append]; rfl
end L
theorem stv_kept {w w' : World} (v : Value) (x : Int × Int) (h : stv w v x) : stv w' v x := h
set_option maxHeartbeats 2000000 in
set_option maxRecDepth 100000 in
theorem of_any (v : Value) (l : List Dep) (Kb : Blocks) (w : World) (h : Sl Kb w v l) (hl : l.length ≤ 1000) :
    Calls Try.prog 52 #[v] w fun e w' => ∃ b, e = .returned (.map (some b)) ∧ w.heap.size ≤ b ∧ SMap w' b l.length (L.ofM l) ∧ Ev.Ext w w' := by
  obtain ⟨a, cap, rfl⟩ := h.form
  have hlen := h.len_le
  have hmm := @run_makeMap Try.prog
  go_enter Try.func52, Try.ntmps52
  go_wp2_with fail
  go_loopw [9] (fun i wr => ∃ (k : Nat), i = .int .i64 k ∧ k ≤ l.length ∧ Ev.Ext w wr ∧ SMap wr w.heap.size k (L.ofM (l.take k))) (fun i _ => l.length - (intOf i).toNat)
  case atStart => exact ⟨0, rfl, by omega, extA _ _, Mp.made _ _ _ _⟩
  case round =>
    obtain ⟨k, rfl, hk, hext, hm⟩ := hrel
    by_cases h1 : k < l.length
    · obtain ⟨bb, o, rfl, hKb, ⟨hs0, hs1, hs2⟩, c0, c1, c2⟩ := (dep_cells h).2 k l[k] (by simp [h1])
      have c0 := cell_later hext c0
      have c1 := cell_later hext c1
      have c2 := cell_later hext c2
      have hm1 : SMap (wr.alloc (.cells #[.string l[k].key, .int .i64 l[k].n, .int .i64 l[k].s] 56)) w.heap.size k (L.ofM (l.take k)) := hm.mono ((extA _ _).block _ hm.lt) (fun _ _ h => h)
      obtain ⟨w2, hrun, hm2, hg2, hz2⟩ := hm1.store str_key Try.underlying85 (by unfold maxLen; omega) l[k].key hs0 (.agg #[.int .i64 l[k].n, .int .i64 l[k].s]) (l[k].n, l[k].s) (fun _ _ _ _ _ h => h) rfl
      have he2 : Ev.Ext w w2 := grown_below (v := .slice (some ⟨w.heap.size, 0, none⟩) 0 0) (hext.trans (extA _ _)) hg2 (hext.trans (extA _ _)).size (fun j hj => by simp [Value.ownBlock] at hj; omega)
      rw [← L.ofM_snoc l k h1] at hm2
      have HM := Lib.hid hm2
      clear hm2 hm1 hm
      go_wp2_with (at_mapUpdate; refine wpList_mapUpdate rfl _ _ _ 85 rfl _ _ _ rfl rfl rfl hrun ?_)
      go_roundw
      case rel => exact ⟨k + 1, by go_num, by omega, he2, HM.out⟩
      case measure => simp [intOf]; omega
    · obtain rfl : k = l.length := by omega
      rw [List.take_length] at hm
      go_wp2
      go_ret
      exact ⟨_, rfl, Nat.le_refl _, hm, hext⟩
end Go.Proofs.Ytbdejgbjelfbeaa
