/- strings.Builder, written: which blocks turn, and no other. -/
import Derived.Test.YtocgnmklgklfnaaAG
set_option linter.unusedSimpArgs false
set_option linter.unusedVariables false
namespace Go.Proofs.Ytocgnmklgklfnaa
open Go.RowKit A
/-- A string's bytes behind a row of the call's own: the row lies where it lay, or in a new block. -/
theorem A.append_str {P : Program} (w : World) (B : Nat) (t u ty e : TypeId) (i : TypeInfo) (ht : P.underlying t = some (.slice e)) (hu : P.underlying u = some .string) (hi : P.info? e = some i) (hz : i.zero = some (.int .u8 0)) (hsize : i.size = 1) (hby : i.bytes = 1)
    (v : Value) (n : Nat) (xs : List Value) (hown : w.ownsRow B e 1 v n xs) (s : ByteArray) (h63 : n + s.size ≤ maxLen) (hbytes : n + s.size ≤ 140737488355328) (hbase : B ≤ w.heap.size) :
    ∃ v' w', (Builtin.append_ #[t, u] ty #[v, .string s]).run P w = .ok v' w' ∧ w'.ownsRow B e 1 v' (n + s.size) (xs ++ Lib.strCells s) ∧ w.grownBy w' v.ownBlock ∧ (v'.ownBlock = v.ownBlock ∨ ∃ c, v'.ownBlock = some c ∧ w.heap.size ≤ c) := by
  obtain ⟨v', w', h1', h2', h3', _⟩ := Lib.run_append_own_string (P := P) w B t u ty e i ht hu hi hz hsize hby v n xs hown s h63 hbytes hbase
  refine ⟨v', w', h1', h2', h3', ?_⟩
  rcases hown.2 with ⟨rfl, rfl⟩ | ⟨g, cap, cur, rfl, hbg, hg, hnc, hcm, hcs, htake⟩
  · have hx : xs = [] := List.eq_nil_of_length_eq_zero (by simpa using hown.1)
    obtain ⟨v2, w2, k1, k2, _, _⟩ := Lib.run_append_own_string (P := P) w w.heap.size t u ty e i ht hu hi hz hsize hby (.slice none 0 0) 0 xs (by rw [hx]; exact World.ownsRow_nil w _ e 1) s h63 hbytes (Nat.le_refl _)
    rw [k1] at h1'
    simp only [Result.ok.injEq] at h1'
    obtain ⟨rfl, rfl⟩ := h1'
    rcases k2.2 with ⟨rfl, _⟩ | ⟨g, cap, cur, rfl, hbg, _⟩
    · exact .inl rfl
    · exact .inr ⟨g, rfl, hbg⟩
  · by_cases hroom : n + s.size ≤ cap
    · have hr := Lib.run_append_room_string (P := P) w t u ty e i ht hu hi hsize g n cap cur hg s hroom (by rw [hcs]; omega)
      rw [hr] at h1'
      simp only [Result.ok.injEq] at h1'
      obtain ⟨rfl, _⟩ := h1'
      exact .inl rfl
    · have hr := Lib.run_append_grow_string (P := P) w t u ty e i _ ht hu hi hz ⟨g, 0, none⟩ n cap xs (by rw [hsize]; exact hown.1) (hown.cells (g := g) rfl) s (by omega) (by simp only [maxLen] at h63; omega) (growslice_fits (by omega) (by rw [hby]; omega))
      rw [hr] at h1'
      simp only [Result.ok.injEq] at h1'
      obtain ⟨rfl, _⟩ := h1'
      exact .inr ⟨_, rfl, Nat.le_refl _⟩
/-- A builder: its address' cell, its buffer, its bytes. -/
structure A.Bld (B b : Nat) (v : Value) (bs : List Value) (w : World) : Prop where
  blk : ∃ p, (p = .pointer none ∨ p = .pointer (some ⟨b, 0, none⟩)) ∧ w.heap[b]? = some (.cells #[p, v] 57 (0, 0))
  own : w.ownsRow B 5 1 v bs.length bs
  ne : v.ownBlock ≠ some b
theorem A.wpList_append_str {P : Program} {w : World} {ops : Array Oper} {rest : List Oper} {o : Oper} {a : Act} {Q : Exit → Act → World → Prop} (hgd : o.guard = none) (sl x : Operand) (t u : TypeId)
    (ho : o.op = .call { callee := .builtin .append, args := #[sl, x], argTypes := #[t, u] })
    (B : Nat) (e : TypeId) (i : TypeInfo) (ht : P.underlying t = some (.slice e)) (hu : P.underlying u = some .string) (hi : P.info? e = some i) (hz : i.zero = some (.int .u8 0)) (hsize : i.size = 1) (hby : i.bytes = 1)
    (v : Value) (n : Nat) (xs : List Value) (hs : a.eval sl = v) (hown : w.ownsRow B e 1 v n xs) (s : ByteArray) (hx : a.eval x = .string s)
    (h63 : n + s.size ≤ maxLen) (hbytes : n + s.size ≤ 140737488355328) (hbase : B ≤ w.heap.size)
    (h : ∀ v' w', w'.ownsRow B e 1 v' (n + s.size) (xs ++ Lib.strCells s) → w.grownBy w' v.ownBlock → (v'.ownBlock = v.ownBlock ∨ ∃ c, v'.ownBlock = some c ∧ w.heap.size ≤ c) → wpList P ops Q rest (a.put o.dst v') w') : wpList P ops Q (o :: rest) a w := by
  refine wpList_plain hgd fun K hK => ?_
  obtain ⟨v', w', hr, h2, h3, h4⟩ := A.append_str (P := P) w B t u o.type e i ht hu hi hz hsize hby v n xs hown s h63 hbytes hbase
  unfold Oper.wp execOp
  simp only [ho, resolve, invoke, builtin, Sem.run_bind, Sem.run_pure, Result.andThen_ok, List.map_toArray, List.map_cons, List.map_nil, hs, hx, hr]
  exact hK _ _ (h v' w' h2 h3 h4)
set_option maxHeartbeats 2000000 in
set_option maxRecDepth 100000 in
theorem bcheck_any (B b : Nat) (v : Value) (bs : List Value) (w : World) (h : A.Bld B b v bs w) :
    Calls Try.prog 42 #[.pointer (some ⟨b, 0, none⟩)] w fun e w' => e = .returned (.tuple #[]) ∧ w'.heap[b]? = some (.cells #[.pointer (some ⟨b, 0, none⟩), v] 57 (0, 0)) ∧ w'.heap.size = w.heap.size ∧ w'.os = w.os ∧ w'.tape = w.tape ∧ w'.output = w.output ∧ ∀ c, c ≠ b → w'.heap[c]? = w.heap[c]? := by
  obtain ⟨p, hp, hb⟩ := h.blk
  have c0 : w.cell? ⟨b, 0, none⟩ = some p := by rw [Lib.cell_of_heap hb]; rfl
  rcases hp with rfl | rfl
  · refine (Any.Builder_copyCheck_fresh Try.lays240 Try.Builder_X72_240 b w c0 (by simp [World.shape?, hb]; rfl) (Lib.frozen_of_heap hb 0)).mono ?_
    rintro e w' ⟨rfl, rfl⟩
    refine ⟨rfl, ?_, by simp [World.setCell], rfl, rfl, rfl, fun c hc => Below.heap_setCell _ _ _ _ hc⟩
    simp [World.setCell, Array.getElem?_modify, hb]
  · refine (Any.Builder_copyCheck_used Try.lays240 Try.Builder_X72_240 b w c0).mono ?_
    rintro e w' ⟨rfl, rfl⟩
    exact ⟨rfl, hb, rfl, rfl, rfl, rfl, fun _ _ => rfl⟩
set_option maxHeartbeats 2000000 in
set_option maxRecDepth 100000 in
theorem bwrite_any (B b : Nat) (v : Value) (bs : List Value) (s : ByteArray) (w : World) (h : A.Bld B b v bs w) (hlen : bs.length + s.size ≤ 140737488355328) (hBw : B ≤ w.heap.size) :
    Calls Try.prog 26 #[.pointer (some ⟨b, 0, none⟩), .string s] w fun e w' => e = .returned (.tuple #[.int .i64 s.size, .nilIface]) ∧ ∃ v', A.Bld B b v' (bs ++ Lib.strCells s) w' ∧ w'.heap[b]? = some (.cells #[.pointer (some ⟨b, 0, none⟩), v'] 57 (0, 0)) ∧ (v'.ownBlock = v.ownBlock ∨ ∃ c, v'.ownBlock = some c ∧ w.heap.size ≤ c) ∧ w.heap.size ≤ w'.heap.size ∧ w'.os = w.os ∧ w'.tape = w.tape ∧ w'.output = w.output ∧ ∀ c, c < w.heap.size → c ≠ b → v.ownBlock ≠ some c → w'.heap[c]? = w.heap[c]? := by
  obtain ⟨i0, hi, hz0, hz1, hz2⟩ := info_parts Try.Builder_Extra_166.infoByte
  have hlt : b < w.heap.size := by
    obtain ⟨p, _, hb⟩ := h.blk
    exact (Array.getElem?_eq_some_iff.1 hb).1
  go_enter Try.func26, Try.ntmps26
  go_wp2_with (go_at_call 42; refine (bcheck_any B b v bs _ h).mono ?_)
  rintro e w1 ⟨rfl, hbk, hsz, ho1, ho2, ho3, hold⟩
  have hown : w1.ownsRow B 5 1 v bs.length bs := owns_kept h.own fun c hc => hold c fun e => by
    subst e
    obtain ⟨_, h2⟩ := h.own
    rcases h2 with ⟨rfl, _⟩ | ⟨g, cap, cur, rfl, _⟩
    · simp [blk] at hc
    · simp only [blk, Option.some.injEq] at hc; subst hc; exact h.ne rfl
  have c0 : w1.cell? ⟨b, 0, none⟩ = some (.pointer (some ⟨b, 0, none⟩)) := by rw [Lib.cell_of_heap hbk]; rfl
  have c1 : w1.cell? ⟨b, 1, none⟩ = some v := by rw [Lib.cell_of_heap hbk]; rfl
  go_wp2_with (at_builtin; go_loud (refine A.wpList_append_str rfl _ _ 36 9 rfl B 5 i0 Try.underlying36 Try.underlying9 hi hz0 hz1 hz2 _ _ _ rfl hown s rfl ?c3 ?c4 ?c5 ?_))
  case c3 => unfold maxLen; omega
  case c4 => omega
  case c5 => omega
  intro v' w2 hown' hgrow hnew
  have hb2 : w2.heap[b]? = some (.cells #[.pointer (some ⟨b, 0, none⟩), v] 57 (0, 0)) := by
    rw [hgrow.block b (by omega) (fun e => h.ne e.symm)]
    exact hbk
  have d0 : w2.cell? ⟨b, 0, none⟩ = some (.pointer (some ⟨b, 0, none⟩)) := by rw [Lib.cell_of_heap hb2]; rfl
  have d1 : w2.cell? ⟨b, 1, none⟩ = some v := by rw [Lib.cell_of_heap hb2]; rfl
  have f1 : w2.frozen? ⟨b, 1, none⟩ = false := Lib.frozen_of_heap hb2 1
  have hne' : v'.ownBlock ≠ some b := fun e => by
    rcases hnew with hn | ⟨c, hc, hc2⟩
    · exact h.ne (hn ▸ e)
    · rw [hc] at e; cases e; omega
  obtain ⟨ao, n', cap, rfl⟩ : ∃ ao n' cap, v' = .slice ao n' cap := by
    rcases hown'.2 with ⟨hv, _⟩ | ⟨g, cap, cur, hv, _⟩
    · exact ⟨_, _, _, hv⟩
    · exact ⟨_, _, _, hv⟩
  go_wp2
  go_ret2
  have hk : ∀ c, c ≠ b → (w2.setCell ⟨b, 1, none⟩ (.slice ao n' cap)).heap[c]? = w2.heap[c]? := fun c hc => Below.heap_setCell _ _ _ _ hc
  have hself : (w2.setCell ⟨b, 1, none⟩ (.slice ao n' cap)).heap[b]? = some (.cells #[.pointer (some ⟨b, 0, none⟩), .slice ao n' cap] 57 (0, 0)) := by simp [World.setCell, Array.getElem?_modify, hb2]
  refine ⟨rfl, _, ⟨⟨_, .inr rfl, hself⟩, ?_, hne'⟩, hself, ?_, ?_, hgrow.os.trans ho1, hgrow.tape.trans ho2, hgrow.output.trans ho3, fun c hc hcb hcv => ?_⟩
  · rw [show (bs ++ Lib.strCells s).length = bs.length + s.size from by simp [Lib.strCells_length]]
    exact owns_kept hown' fun c hc => hk c fun e => by
      subst e
      cases ao with
      | none => simp [blk] at hc
      | some a => simp only [blk, Option.some.injEq] at hc; exact hne' (by simp [Value.ownBlock, hc])
  · rcases hnew with hn | ⟨c, hc, hc2⟩
    · exact .inl hn
    · exact .inr ⟨c, hc, by omega⟩
  · have := hgrow.size
    simp [World.setCell]; omega
  · rw [hk c hcb, hgrow.block c (by omega) (fun e => hcv e.symm), hold c hcb]
set_option maxHeartbeats 2000000 in
set_option maxRecDepth 100000 in
theorem bstring_any (B b : Nat) (v : Value) (l : List UInt8) (w : World) (h : A.Bld B b v (Lib.byteCells l) w) (h0 : l ≠ []) :
    Calls Try.prog 29 #[.pointer (some ⟨b, 0, none⟩)] w fun e w' => e = .returned (.string (V.ba l)) ∧ w.heap.size ≤ w'.heap.size ∧ w'.os = w.os ∧ w'.tape = w.tape ∧ w'.output = w.output ∧ ∀ c, c < w.heap.size → v.ownBlock ≠ some c → w'.heap[c]? = w.heap[c]? := by
  have L := Try.lays169
  have X := Try.Builder_Extra_169
  obtain ⟨p, _, hbk⟩ := h.blk
  have hown := h.own
  have hl0 : l.length ≠ 0 := by simpa using h0
  rw [Lib.byteCells_length] at hown
  obtain ⟨g, cap, cur, rfl, hbg, hg, hnc, hcm, hcs, htake⟩ : ∃ g cap cur, v = .slice (some ⟨g, 0, none⟩) l.length cap ∧ B ≤ g ∧ w.heap[g]? = some (.cells cur 5 (0, 0)) ∧ l.length ≤ cap ∧ cap ≤ maxLen ∧ cur.size = cap * 1 ∧ cur.toList.take (l.length * 1) = Lib.byteCells l := by
    rcases hown.2 with ⟨_, hz⟩ | ⟨g, cap, cur, hv, r⟩
    · exact absurd hz hl0
    · exact ⟨g, cap, cur, hv, r⟩
  have c1 : w.drew.cell? ⟨b, 1, none⟩ = some (.slice (some ⟨g, 0, none⟩) l.length cap) := by
    have : w.drew.heap[b]? = some (.cells #[p, .slice (some ⟨g, 0, none⟩) l.length cap] 57 (0, 0)) := hbk
    rw [Lib.cell_of_heap this]; rfl
  have hSD : (Builtin.unsafeSliceData_ #[36] 81 #[.slice (some ⟨g, 0, none⟩) l.length cap]).run Try.prog w.drew = .ok (.pointer (some ⟨g, 0, none⟩)) w.drew :=
    Lib.run_unsafeSliceData_row _ _ _ _ _ _ (by omega)
  have hUS : (Builtin.unsafeString_ #[81, 3] 9 #[.pointer (some ⟨g, 0, none⟩), .int .i64 l.length]).run Try.prog w.drew = .ok (.string ⟨l.toArray⟩) (w.drew.freeze ⟨g, 0, none⟩ l.length) := by
    refine Lib.run_unsafeString_row w.drew 81 3 9 5 L.t127 X.cellsByte g cur.size (by have hg' : w.drew.heap[g]? = some (.cells cur 5 (0, 0)) := hg; simp [World.shape?, hg']) l h0 (by omega) (by unfold maxLen at hcm; omega) ?_
    intro j x hx
    have := hown.cells (g := g) rfl j (.int .u8 x.toNat) (by simp [Lib.byteCells, hx])
    exact this
  have mixed := L.mixed
  go_enter Try.func29, Try.ntmps29
  go_wp2
  go_region_o
  all_goals
    go_wp2
    go_ret
    have hb := Lib.below_freeze (Below.drew (Below.refl g w)) (p := ⟨g, 0, none⟩) (Nat.le_refl g) l.length
    refine ⟨rfl, hb.size, hb.os, hb.tape, hb.output, fun c hc hcv => ?_⟩
    have hgc : g ≠ c := fun e => hcv (by rw [e]; rfl)
    unfold World.freeze
    rw [if_neg hl0]
    simp only [Array.getElem?_modify, if_neg hgc]
    rfl
end Go.Proofs.Ytocgnmklgklfnaa
