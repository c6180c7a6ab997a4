
/- Maps as plain data: what a map's block holds, by keys. -/
/- A slice of the call's own from which elements are struck in place: rows of whatever elements. -/
/- Deps and events as data. -/
import Derived.Test.YtmbaeloiepjakaaRep
import Derived.Maps.OwnSet
import Derived.Maps.RangeWalk
import Derived.Lib.SliceRun
import Derived.Test.YtmbaeloiepjakaaProg
import Derived.WalkKit
import Derived.WalkSpells
import Derived.WalkLawsBesides
import Derived.BigQuiet
import Derived.Deep.QuietTactic
import Derived.Lib.Hide
set_option linter.unusedSimpArgs false
set_option linter.unusedVariables false
namespace Go.Proofs.Ytmbaeloiepjakaa.R
open Go Go.RowKit Go.Maps Go.MapKept Go.ChangeMaps
/-- Keys of a type as plain data. -/
structure KeyT (P : Program) (k : TypeId) (κ : Type) (kv : κ → Value) (ok : κ → Prop) : Prop where
  check : ∀ (w : World) (em : Bool) (a : κ), ok a → (Instr.checkKey em 10000 k (kv a)).run P w = .ok () w
  find : ∀ (w : World) (a : κ), ok a → ∀ es : List MapEntry, (∀ e ∈ es, ∃ c, ok c ∧ e.key = kv c) →
    ((Instr.findKey k (kv a) es).run P w = .ok none w ∧ ∀ e ∈ es, e.key ≠ kv a) ∨ ∃ j e, (Instr.findKey k (kv a) es).run P w = .ok (some (j, e.val)) w ∧ es[j]? = some e ∧ e.key = kv a
  stays : ∀ (w : World) (a : κ), ok a → (Instr.keyThatStays (kv a) (kv a)).run P w = .ok (kv a) w
  inj : ∀ a b, kv a = kv b → a = b
theorem KeyT.of {P : Program} {k : TypeId} {κ : Type} {kv : κ → Value} {ok : κ → Prop} (K : Keyed P k) (lit : ∀ a, ok a → ∃ l, keyOf P k (kv a) = some l) (inj : ∀ a b, kv a = kv b → a = b) : KeyT P k κ kv ok where
  check w em a ha := by obtain ⟨l, hl⟩ := lit a ha; exact K.check w em hl
  find w a ha es he := by
    obtain ⟨l, hl⟩ := lit a ha
    exact K.find w hl es fun e h => by obtain ⟨c, hc, hk⟩ := he e h; rw [hk]; exact lit c hc
  stays w a ha := by obtain ⟨l, hl⟩ := lit a ha; exact K.stays w hl
  inj := inj
/-- Block b holds the map m, of at most n entries. -/
def Mp {κ α : Type} (kv : κ → Value) (ok : κ → Prop) (V : World → Value → α → Prop) (w : World) (b n : Nat) (m : κ → Option α) : Prop :=
  ∃ es clock, w.heap[b]? = some (.map es clock) ∧ Stamped es clock ∧ es.size ≤ n ∧ (∀ e ∈ es.toList, ∃ a x, ok a ∧ e.key = kv a ∧ m a = some x ∧ V w e.val x) ∧ (∀ a x, m a = some x → ∃ e ∈ es.toList, e.key = kv a)
section
variable {P : Program} {k t e : TypeId} {κ α : Type} {kv : κ → Value} {ok : κ → Prop} {V V' : World → Value → α → Prop} {w w' : World} {b n : Nat} {m : κ → Option α}
theorem Mp.made (kv : κ → Value) (ok : κ → Prop) (V : World → Value → α → Prop) (w : World) : Mp kv ok V (w.alloc (.map #[] 0)) w.heap.size 0 (fun _ => none) :=
  ⟨#[], 0, (MapKept.heap_alloc w _).1, stamped_empty 0, by simp, by simp, by simp⟩
theorem Mp.mono (h : Mp kv ok V w b n m) (hb : w'.heap[b]? = w.heap[b]?) (hV : ∀ v x, V w v x → V' w' v x) : Mp kv ok V' w' b n m := by
  obtain ⟨es, clock, h1, h2, h3, h4, h5⟩ := h
  refine ⟨es, clock, hb.trans h1, h2, h3, fun e he => ?_, h5⟩
  obtain ⟨a, x, ha, hk, hm, hv⟩ := h4 e he
  exact ⟨a, x, ha, hk, hm, hV _ _ hv⟩
theorem Mp.more (h : Mp kv ok V w b n m) {n' : Nat} (hn : n ≤ n') : Mp kv ok V w b n' m := by
  obtain ⟨es, clock, h1, h2, h3, h4, h5⟩ := h
  exact ⟨es, clock, h1, h2, Nat.le_trans h3 hn, h4, h5⟩
theorem Mp.lt (h : Mp kv ok V w b n m) : b < w.heap.size := by
  obtain ⟨es, clock, h1, _⟩ := h
  exact (Array.getElem?_eq_some_iff.1 h1).1
theorem Mp.keys (h : Mp kv ok V w b n m) (T : KeyT P k κ kv ok) : ∀ a x, m a = some x → ok a := by
  obtain ⟨es, clock, h1, h2, h3, h4, h5⟩ := h
  intro a x hm
  obtain ⟨e, he, hk⟩ := h5 a x hm
  obtain ⟨a', x', ha', hk', _, _⟩ := h4 e he
  exact T.inj _ _ (hk.symm.trans hk') ▸ ha'
/-- What is looked up. -/
theorem Mp.look (h : Mp kv ok V w b n m) (T : KeyT P k κ kv ok) (ht : P.underlying t = some (.map k e)) {z : Value} (hz : ∀ w, (zeroValue e).run P w = .ok z w) (a : κ) (ha : ok a) (c : Bool) :
    ∃ v, (Instr.lookup t (.map (some b)) (kv a) c).run P w = .ok (if c then .tuple #[v, .bool (m a).isSome] else v) w ∧ (∀ x, m a = some x → V w v x) ∧ (m a = none → v = z) := by
  obtain ⟨es, clock, h1, h2, h3, h4, h5⟩ := h
  have hes : ∀ e ∈ es.toList, ∃ c, ok c ∧ e.key = kv c := fun e he => by
    obtain ⟨a', x', ha', hk', _, _⟩ := h4 e he
    exact ⟨a', ha', hk'⟩
  rcases T.find w a ha es.toList hes with ⟨g1, g2⟩ | ⟨j, e0, g1, g2, g3⟩
  · have hn : m a = none := by
      cases hm : m a with
      | none => rfl
      | some x => obtain ⟨e, he, hk⟩ := h5 a x hm; exact (g2 e he hk).elim
    refine ⟨z, ?_, fun x hx => (by rw [hn] at hx; cases hx), fun _ => rfl⟩
    cases c <;> simp [Instr.lookup, run_underlying ht, MapKept.run_getObj_map h1, T.check w _ a ha, g1, hz, Result.andThen, hn]
  · have he0 : e0 ∈ es.toList := List.mem_of_getElem? g2
    obtain ⟨a', x', ha', hk', hm', hv'⟩ := h4 e0 he0
    obtain rfl := T.inj _ _ (g3.symm.trans hk')
    refine ⟨e0.val, ?_, fun x hx => (by rw [hm'] at hx; cases hx; exact hv'), fun hx => (by rw [hm'] at hx; cases hx)⟩
    cases c <;> simp [Instr.lookup, run_underlying ht, MapKept.run_getObj_map h1, T.check w _ a ha, g1, Result.andThen, hm']
theorem grown_set (w : World) (b : Nat) (o : Obj) : w.grownBy (setBlock w b o) (some b) :=
  ⟨rfl, rfl, rfl, by simp [setBlock], fun i _ hi => by simp [setBlock, Array.getElem?_setIfInBounds]; intro e; exact (hi (by rw [e])).elim⟩
theorem set_at {w : World} {b : Nat} (h : b < w.heap.size) (o : Obj) : (setBlock w b o).heap[b]? = some o := by simp [setBlock, h]
/-- A store. -/
theorem Mp.store [DecidableEq κ] (h : Mp kv ok V w b n m) (T : KeyT P k κ kv ok) (ht : P.underlying t = some (.map k e)) (hn : n < maxLen) (a : κ) (ha : ok a) (v : Value) (x : α)
    (hst : ∀ w', w.grownBy w' (some b) → w'.heap.size = w.heap.size → ∀ v x, V w v x → V w' v x) (hv : V w v x) :
    ∃ w', (Instr.mapUpdate t (.map (some b)) (kv a) v).run P w = .ok () w' ∧ Mp kv ok V w' b (n + 1) (fun c => if c = a then some x else m c) ∧ w.grownBy w' (some b) ∧ w'.heap.size = w.heap.size := by
  have hlt := h.lt
  obtain ⟨es, clock, h1, h2, h3, h4, h5⟩ := h
  have hes : ∀ e ∈ es.toList, ∃ c, ok c ∧ e.key = kv c := fun e he => by
    obtain ⟨a', x', ha', hk', _, _⟩ := h4 e he
    exact ⟨a', ha', hk'⟩
  have hsz : ∀ o, (setBlock w b o).heap.size = w.heap.size := fun o => by simp [setBlock]
  rcases T.find w a ha es.toList hes with ⟨g1, g2⟩ | ⟨j, e0, g1, g2, g3⟩
  · refine ⟨setBlock w b (.map (es.push ⟨kv a, v, clock⟩) (clock + 1)), ?_, ⟨_, _, set_at hlt _, stamped_push h2 g2, by simp; omega, fun e he => ?_, fun c y hc => ?_⟩, grown_set _ _ _, hsz _⟩
    · simp [Instr.mapUpdate, run_underlying ht, MapKept.run_getObj_map h1, T.check w false a ha, g1, MapKept.run_setObj_map _ h1, Result.andThen, setBlock]
    · simp only [Array.toList_push, List.mem_append, List.mem_singleton] at he
      rcases he with he | rfl
      · obtain ⟨a', x', ha', hk', hm', hv'⟩ := h4 e he
        refine ⟨a', x', ha', hk', ?_, hst _ (grown_set _ _ _) (hsz _) _ _ hv'⟩
        dsimp only; rw [if_neg (fun e1 => g2 e he (by rw [hk', e1]))]; exact hm'
      · exact ⟨a, x, ha, rfl, by simp, hst _ (grown_set _ _ _) (hsz _) _ _ hv⟩
    · by_cases e1 : c = a
      · subst e1; exact ⟨_, by simp; exact .inr rfl, rfl⟩
      · dsimp only at hc; rw [if_neg e1] at hc
        obtain ⟨e, he, hk⟩ := h5 c y hc
        exact ⟨e, by simp at he ⊢; exact .inl he, hk⟩
  · have hj : es[j]? = some e0 := by simpa using g2
    have hjl : j < es.toList.length := (List.getElem?_eq_some_iff.1 g2).1
    have hlist : (es.modify j (fun e' => { e' with key := kv a, val := v })).toList = es.toList.set j { e0 with key := kv a, val := v } := by rw [Array.toList_modify, modify_eq_set _ _ _ _ g2]
    have hap := ((stamped_iff es clock).1 h2).2.2
    have other : ∀ (i : Nat) (y : MapEntry), es.toList[i]? = some y → i ≠ j → y.key ≠ kv a := fun i y hi hne hk => by
      have hil : i < es.toList.length := (List.getElem?_eq_some_iff.1 hi).1
      have e1 := (List.getElem?_eq_some_iff.1 hi).2
      have e2 := (List.getElem?_eq_some_iff.1 g2).2
      rcases Nat.lt_or_gt_of_ne hne with hlt | hlt
      · exact List.pairwise_iff_getElem.1 hap i j hil hjl hlt (by rw [e1, e2, hk, g3])
      · exact List.pairwise_iff_getElem.1 hap j i hjl hil hlt (by rw [e1, e2, hk, g3])
    refine ⟨setBlock w b (.map (es.modify j (fun e' => { e' with key := kv a, val := v })) clock), ?_, ⟨_, _, set_at hlt _, stamped_modify h2 _ _ (fun _ _ => rfl) (fun e' _ he' => by rw [hj] at he'; cases he'; exact g3.symm), by simp; omega, fun e he => ?_, fun c y hc => ?_⟩, grown_set _ _ _, hsz _⟩
    · simp [Instr.mapUpdate, run_underlying ht, MapKept.run_getObj_map h1, T.check w false a ha, g1, hj, g3, T.stays w a ha, MapKept.run_setObj_map _ h1, Result.andThen, setBlock]
    · rw [hlist] at he
      obtain ⟨i, hi, ex⟩ := List.getElem_of_mem he
      rw [List.getElem_set] at ex
      split at ex
      · subst ex
        exact ⟨a, x, ha, rfl, by simp, hst _ (grown_set _ _ _) (hsz _) _ _ hv⟩
      · rename_i hne
        have hi' : i < es.toList.length := by simpa using hi
        have hie : es.toList[i]? = some e := by rw [List.getElem?_eq_getElem hi', ex]
        obtain ⟨a', x', ha', hk', hm', hv'⟩ := h4 e (List.mem_of_getElem? hie)
        refine ⟨a', x', ha', hk', ?_, hst _ (grown_set _ _ _) (hsz _) _ _ hv'⟩
        dsimp only; rw [if_neg (fun e1 => other i e hie (fun h => hne h.symm) (by rw [hk', e1]))]; exact hm'
    · rw [hlist]
      by_cases e1 : c = a
      · subst e1; exact ⟨{ e0 with key := kv c, val := v }, List.mem_iff_getElem.2 ⟨j, by simpa using hjl, by simp⟩, rfl⟩
      · dsimp only at hc; rw [if_neg e1] at hc
        obtain ⟨e, he, hk⟩ := h5 c y hc
        obtain ⟨i, hi, ex⟩ := List.getElem_of_mem he
        have hne : j ≠ i := fun hh => by
          subst hh
          have : es.toList[j] = e0 := (List.getElem?_eq_some_iff.1 g2).2
          rw [ex] at this
          subst this
          exact e1 (T.inj _ _ (hk.symm.trans g3))
        exact ⟨e, List.mem_iff_getElem.2 ⟨i, by simpa using hi, by rw [List.getElem_set_ne hne]; exact ex⟩, hk⟩
/-- A key is struck. -/
theorem Mp.drop [DecidableEq κ] (h : Mp kv ok V w b n m) (T : KeyT P k κ kv ok) (ht : P.underlying t = some (.map k e)) (a : κ) (ha : ok a) (ty : TypeId)
    (hst : ∀ w', w.grownBy w' (some b) → w'.heap.size = w.heap.size → ∀ v x, V w v x → V w' v x) :
    ∃ w', (Builtin.delete_ #[t, k] ty #[.map (some b), kv a]).run P w = .ok (.tuple #[]) w' ∧ Mp kv ok V w' b n (fun c => if c = a then none else m c) ∧ w.grownBy w' (some b) ∧ w'.heap.size = w.heap.size := by
  have hlt := h.lt
  obtain ⟨es, clock, h1, h2, h3, h4, h5⟩ := h
  have hes : ∀ e ∈ es.toList, ∃ c, ok c ∧ e.key = kv c := fun e he => by
    obtain ⟨a', x', ha', hk', _, _⟩ := h4 e he
    exact ⟨a', ha', hk'⟩
  have hsz : ∀ o, (setBlock w b o).heap.size = w.heap.size := fun o => by simp [setBlock]
  rcases T.find w a ha es.toList hes with ⟨g1, g2⟩ | ⟨j, e0, g1, g2, g3⟩
  · refine ⟨setBlock w b (.map es clock), ?_, ⟨_, _, set_at hlt _, h2, h3, fun e he => ?_, fun c y hc => ?_⟩, grown_set _ _ _, hsz _⟩
    · simp [Builtin.delete_, run_underlying ht, MapKept.run_getObj_map h1, T.check w _ a ha, g1, MapKept.run_setObj_map _ h1, Result.andThen, setBlock]
    · obtain ⟨a', x', ha', hk', hm', hv'⟩ := h4 e he
      refine ⟨a', x', ha', hk', ?_, hst _ (grown_set _ _ _) (hsz _) _ _ hv'⟩
      dsimp only; rw [if_neg (fun e1 => g2 e he (by rw [hk', e1]))]; exact hm'
    · dsimp only at hc
      split at hc
      · cases hc
      · exact h5 c y hc
  · have hjl : j < es.toList.length := (List.getElem?_eq_some_iff.1 g2).1
    have hjs : j < es.size := by simpa using hjl
    have hsub : (es.eraseIdxIfInBounds j).toList = es.toList.eraseIdx j := by
      unfold Array.eraseIdxIfInBounds
      rw [dif_pos hjs]
      simp
    have hap := ((stamped_iff es clock).1 h2).2.2
    have other : ∀ (i : Nat) (y : MapEntry), es.toList[i]? = some y → i ≠ j → y.key ≠ kv a := fun i y hi hne hk => by
      have hil : i < es.toList.length := (List.getElem?_eq_some_iff.1 hi).1
      have e1 := (List.getElem?_eq_some_iff.1 hi).2
      have e2 := (List.getElem?_eq_some_iff.1 g2).2
      rcases Nat.lt_or_gt_of_ne hne with hlt | hlt
      · exact List.pairwise_iff_getElem.1 hap i j hil hjl hlt (by rw [e1, e2, hk, g3])
      · exact List.pairwise_iff_getElem.1 hap j i hjl hil hlt (by rw [e1, e2, hk, g3])
    refine ⟨setBlock w b (.map (es.eraseIdxIfInBounds j) clock), ?_, ⟨_, _, set_at hlt _, stamped_erase h2 j, Nat.le_trans (MapFrom.size_erase es j) h3, fun e he => ?_, fun c y hc => ?_⟩, grown_set _ _ _, hsz _⟩
    · simp [Builtin.delete_, run_underlying ht, MapKept.run_getObj_map h1, T.check w _ a ha, g1, MapKept.run_setObj_map _ h1, Result.andThen, setBlock]
    · rw [hsub] at he
      obtain ⟨i, hne, hi⟩ := List.mem_eraseIdx_iff_getElem?.1 he
      obtain ⟨a', x', ha', hk', hm', hv'⟩ := h4 e (List.mem_of_getElem? hi)
      refine ⟨a', x', ha', hk', ?_, hst _ (grown_set _ _ _) (hsz _) _ _ hv'⟩
      dsimp only; rw [if_neg (fun e1 => other i e hi hne (by rw [hk', e1]))]; exact hm'
    · dsimp only at hc
      split at hc
      · cases hc
      · rename_i e1
        obtain ⟨e, he, hk⟩ := h5 c y hc
        obtain ⟨i, hi, ex⟩ := List.getElem_of_mem he
        refine ⟨e, ?_, hk⟩
        rw [hsub]
        refine List.mem_eraseIdx_iff_getElem?.2 ⟨i, fun hh => ?_, by rw [List.getElem?_eq_getElem hi, ex]⟩
        subst hh
        have : es.toList[i] = e0 := (List.getElem?_eq_some_iff.1 g2).2
        rw [ex] at this
        subst this
        exact e1 (T.inj _ _ (hk.symm.trans g3))
end
section
variable {P : Program} {w : World} {ops : Array Oper} {rest : List Oper} {o : Oper} {a : Act} {Q : Exit → Act → World → Prop}
/-- A store into a map, at the operation, by its run. -/
theorem wpList_mapUpdate (hg : o.guard = none) (m x v : Operand) (t : TypeId) (hop : o.op = Op.mapUpdate t m x v) (mv kv vv : Value) (hm : a.eval m = mv) (hx : a.eval x = kv) (hv : a.eval v = vv) {w' : World}
    (hrun : (Instr.mapUpdate t mv kv vv).run P w = .ok () w') (hK : wpList P ops Q rest (a.put o.dst undef) w') : wpList P ops Q (o :: rest) a w := by
  refine wpList_plain hg fun K' hK' => ?_
  unfold Oper.wp
  simp [execOp, hop, hm, hx, hv, hrun, Result.andThen]
  exact hK' _ _ hK
/-- A look into a map, at the operation, by its run. -/
theorem wpList_lookup (hg : o.guard = none) (m x : Operand) (t : TypeId) (c : Bool) (hop : o.op = Op.lookup t m x c) (mv kv v : Value) (hm : a.eval m = mv) (hx : a.eval x = kv)
    (hrun : (Instr.lookup t mv kv c).run P w = .ok v w) (hK : wpList P ops Q rest (a.put o.dst v) w) : wpList P ops Q (o :: rest) a w := by
  refine wpList_plain hg fun K' hK' => ?_
  unfold Oper.wp
  simp [execOp, hop, hm, hx, hrun, Result.andThen]
  exact hK' _ _ hK
/-- A key is struck, at the operation, by its run. -/
theorem wpList_delete (hg : o.guard = none) (m x : Operand) (t k : TypeId) (hop : o.op = Op.call { callee := Callee.builtin Builtin.delete, args := #[m, x], argTypes := #[t, k] }) (mv kv : Value) (hm : a.eval m = mv) (hx : a.eval x = kv) {w' : World}
    (hrun : (Builtin.delete_ #[t, k] o.type #[mv, kv]).run P w = .ok (.tuple #[]) w') (hK : wpList P ops Q rest (a.put o.dst (.tuple #[])) w') : wpList P ops Q (o :: rest) a w := by
  refine wpList_plain hg fun K' hK' => ?_
  unfold Oper.wp
  simp [execOp, hop, resolve, invoke, builtin, hm, hx, hrun, Result.andThen]
  exact hK' _ _ hK
end
theorem str_key0 {P : Program} {t : TypeId} (ht : P.underlying t = some .string) : KeyT P t ByteArray Value.string (fun s => s.size ≤ 9223372036854775807) :=
  .of (Go.Maps.string_keyed ht) (fun a ha => ⟨_, Go.WideMaps.keyOf_string_mk ht ha⟩) (fun a b h => by simpa using h)
theorem int_key0 {P : Program} {t : TypeId} (ht : P.underlying t = some (.int .i64)) : KeyT P t Int (Value.int .i64) (fun a => -9223372036854775808 ≤ a ∧ a ≤ 9223372036854775807) :=
  .of (Go.Maps.int_keyed ht) (fun a ha => ⟨_, Go.Maps.keyOf_int_mk ht (by simp only [Lit.wf, Bool.and_eq_true, decide_eq_true_eq]; exact ha)⟩) (fun a b h => by simpa using h)
end Go.Proofs.Ytmbaeloiepjakaa.R

set_option linter.unusedSimpArgs false
set_option linter.unusedVariables false
namespace Go.Proofs.Ytmbaeloiepjakaa.R
open Go Go.RowKit
/-- All blocks but that of v, as they were. -/
def But (w w' : World) (v : Value) : Prop := w.grownBy w' v.ownBlock
theorem But.refl (w : World) (v : Value) : But w w v := ⟨rfl, rfl, rfl, Nat.le_refl _, fun _ _ _ => rfl⟩
theorem But.trans {a b c : World} {v v' : Value} (h : But a b v) (h' : But b c v') (hv : v'.ownBlock = v.ownBlock) : But a c v :=
  ⟨h'.os.trans h.os, h'.tape.trans h.tape, h'.output.trans h.output, Nat.le_trans h.size h'.size, fun k hk hne => (h'.block k (Nat.lt_of_lt_of_le hk h.size) (by rw [hv]; exact hne)).trans (h.block k hk hne)⟩
theorem But.of_ext {w w' : World} (v : Value) (h : Ev.Ext w w') : But w w' v := ⟨h.os, h.tape, h.output, h.size, fun k hk _ => h.block k hk⟩
/-- the first place of which p is true -/
def idxB {α : Type} (p : α → Bool) (l : List α) : Int := match l.findIdx? p with | some i => i | none => -1
def NoTo {α : Type} (p : α → Bool) (l : List α) (k : Nat) : Prop := ∀ (i : Nat) (x : α), i < k → l[i]? = some x → p x = false
theorem NoTo.zero {α : Type} (p : α → Bool) (l : List α) : NoTo p l 0 := fun i x h => by omega
theorem NoTo.next {α : Type} {p : α → Bool} {l : List α} {k : Nat} (h : NoTo p l k) {x : α} (hx : l[k]? = some x) (hp : p x = false) : NoTo p l (k + 1) := fun i y hi hy => by
  by_cases e : i = k
  · subst e; rw [hx] at hy; cases hy; exact hp
  · exact h i y (by omega) hy
theorem NoTo.found {α : Type} {p : α → Bool} {l : List α} {k : Nat} (h : NoTo p l k) {x : α} (hx : l[k]? = some x) (hp : p x = true) : idxB p l = k := by
  have hlt : k < l.length := (List.getElem?_eq_some_iff.1 hx).1
  have : l.findIdx? p = some k := by
    rw [List.findIdx?_eq_some_iff_getElem]
    refine ⟨hlt, ?_, fun j hj => ?_⟩
    · have := (List.getElem?_eq_some_iff.1 hx).2; rw [this]; exact hp
    · rw [h j _ hj (List.getElem?_eq_getElem (by omega))]; simp
  unfold idxB; rw [this]
theorem NoTo.all {α : Type} {p : α → Bool} {l : List α} (h : NoTo p l l.length) : idxB p l = -1 := by
  have : l.findIdx? p = none := by
    rw [List.findIdx?_eq_none_iff]
    intro x hx
    obtain ⟨i, hi, rfl⟩ := List.getElem_of_mem hx
    exact h i _ hi (List.getElem?_eq_getElem hi)
  unfold idxB; rw [this]
theorem idxB_spec {α : Type} (p : α → Bool) (l : List α) : (idxB p l = -1 ∧ NoTo p l l.length) ∨ ∃ k : Nat, idxB p l = k ∧ ∃ h : k < l.length, p l[k] = true ∧ NoTo p l k := by
  unfold idxB
  cases hf : l.findIdx? p with
  | none =>
    refine .inl ⟨rfl, fun i x _ hx => ?_⟩
    rw [List.findIdx?_eq_none_iff] at hf
    simpa using hf x (List.mem_of_getElem? hx)
  | some k =>
    rw [List.findIdx?_eq_some_iff_getElem] at hf
    obtain ⟨hk, hp, hn⟩ := hf
    refine .inr ⟨k, rfl, hk, hp, fun i x hi hx => ?_⟩
    have := hn i hi
    rw [(List.getElem?_eq_some_iff.1 hx).2] at this
    simpa using this
/-- what is left of a row in which those of which p is true go -/
def strike {α : Type} (p : α → Bool) (l : List α) : List α := l.filter fun s => !p s
theorem strike_snoc {α : Type} (p : α → Bool) (l : List α) {j : Nat} (hj : j < l.length) : strike p (l.take (j + 1)) = strike p (l.take j) ++ (if p l[j] then [] else [l[j]]) := by
  unfold strike
  rw [List.take_succ_eq_append_getElem hj, List.filter_append]
  cases hpx : p l[j] <;> simp [hpx]
theorem strike_none {α : Type} {p : α → Bool} {l : List α} {k : Nat} (h : NoTo p l k) (hk : k ≤ l.length) : strike p (l.take k) = l.take k := by
  unfold strike
  rw [List.filter_eq_self]
  intro x hx
  obtain ⟨i, hi, rfl⟩ := List.getElem_of_mem hx
  rw [List.length_take] at hi
  have := h i _ (by omega) (List.getElem?_eq_getElem (by omega : i < l.length))
  simpa using this
theorem strike_all {α : Type} {p : α → Bool} {l : List α} (h : NoTo p l l.length) : strike p l = l := by have := strike_none h (Nat.le_refl _); rwa [List.take_length] at this
theorem strike_le {α : Type} (p : α → Bool) (l : List α) : (strike p l).length ≤ l.length := List.length_filter_le _ _
theorem flat_take {n : Nat} : ∀ (cur : List (List Value)) (i : Nat), (∀ r ∈ cur, r.length = n) → cur.flatten.take (i * n) = (cur.take i).flatten
  | [], i, _ => by simp
  | r :: c, 0, _ => by simp
  | r :: c, i + 1, h => by
    have hr := h r (by simp)
    have ih := flat_take c i fun x hx => h x (by simp [hx])
    rw [List.flatten_cons, List.take_succ_cons, List.flatten_cons, ← ih, show (i + 1) * n = r.length + i * n from by rw [hr, Nat.add_mul]; omega, List.take_length_add_append]
theorem flat_drop {n : Nat} : ∀ (cur : List (List Value)) (i : Nat), (∀ r ∈ cur, r.length = n) → cur.flatten.drop (i * n) = (cur.drop i).flatten
  | [], i, _ => by simp
  | r :: c, 0, _ => by simp
  | r :: c, i + 1, h => by
    have hr := h r (by simp)
    have ih := flat_drop c i fun x hx => h x (by simp [hx])
    rw [List.flatten_cons, List.drop_succ_cons, ← ih, show (i + 1) * n = r.length + i * n from by rw [hr, Nat.add_mul]; omega, List.drop_append, List.drop_of_length_le (by omega : r.length ≤ r.length + i * n), Nat.add_sub_cancel_left, List.nil_append]
theorem flat_set {n : Nat} (cur : List (List Value)) (i : Nat) (r : List Value) (h : ∀ r ∈ cur, r.length = n) (hi : i < cur.length) (hr : r.length = n) :
    cur.flatten.take (i * n) ++ r ++ cur.flatten.drop (i * n + n) = (cur.set i r).flatten := by
  rw [flat_take cur i h, show i * n + n = (i + 1) * n from by rw [Nat.add_mul]; omega, flat_drop cur (i + 1) h, List.set_eq_take_append_cons_drop, if_pos hi]
  simp
theorem setCells_heap (g : Nat) (e : TypeId) : ∀ (vs : List Value) (a : Nat) (w : World) (L : List Value), w.heap[g]? = some (.cells L.toArray e) → a + vs.length ≤ L.length →
    (w.setCells g a vs).heap[g]? = some (.cells (L.take a ++ vs ++ L.drop (a + vs.length)).toArray e)
  | [], a, w, L, h, _ => by simpa [World.setCells] using h
  | v :: r, a, w, L, h, hl => by
    simp only [List.length_cons] at hl
    have h1 : (w.setCell ⟨g, a, none⟩ v).heap[g]? = some (.cells (L.set a v).toArray e) := by simp [World.setCell, Array.getElem?_modify, h]
    rw [World.setCells, setCells_heap g e r (a + 1) _ _ h1 (by simpa using by omega)]
    have e1 : (L.set a v).take (a + 1) = L.take a ++ [v] := by
      rw [List.take_succ_eq_append_getElem (by simp; omega)]
      simp
      rw [List.take_set_of_le (Nat.le_refl _)]
    have e2 : (L.set a v).drop (a + 1 + r.length) = L.drop (a + 1 + r.length) := List.drop_set_of_lt (by omega)
    rw [e1, e2]
    simp [Nat.add_assoc, Nat.add_comm 1]
theorem setCells_but (g : Nat) (v : Value) (hv : v.ownBlock = some g) : ∀ (vs : List Value) (a : Nat) (w : World), But w (w.setCells g a vs) v
  | [], a, w => But.refl w v
  | x :: r, a, w => by
    have h1 : But w (w.setCell ⟨g, a, none⟩ x) v := ⟨rfl, rfl, rfl, by simp [World.setCell], fun k _ hne => Below.heap_setCell _ _ _ _ (fun e => hne (by rw [hv, e]))⟩
    exact h1.trans (setCells_but g v hv r (a + 1) _) rfl
section
variable {α : Type} {n : Nat} {e : TypeId}
/-- The row in the midst of DeleteFunc: in front the i that are kept, behind what was there from j on. L: each element's cells, and what they read as. -/
structure DelAt (e : TypeId) (n : Nat) (w : World) (g : Nat) (L : List (List Value × α)) (tail : List Value) (p : α → Bool) (i j : Nat) : Prop where
  ex : ∃ cur : List (List Value), w.heap[g]? = some (.cells (cur.flatten ++ tail).toArray e) ∧ (∀ r ∈ cur, r.length = n) ∧ cur.length = L.length ∧ cur.take i = (strike (p ∘ Prod.snd) (L.take j)).map Prod.fst ∧ cur.drop j = (L.drop j).map Prod.fst
  len : (strike (p ∘ Prod.snd) (L.take j)).length = i
  le : i ≤ j ∧ j ≤ L.length
variable {w w' : World} {g : Nat} {L : List (List Value × α)} {tail : List Value} {p : α → Bool} {i j k : Nat}
theorem DelAt.mono (h : DelAt e n w g L tail p i j) (hb : w'.heap[g]? = w.heap[g]?) : DelAt e n w' g L tail p i j := by
  obtain ⟨⟨cur, h1, h2⟩, h5, h6⟩ := h
  exact ⟨⟨cur, hb.trans h1, h2⟩, h5, h6⟩
theorem DelAt.ext (h : DelAt e n w g L tail p i j) (he : Ev.Ext w w') : DelAt e n w' g L tail p i j := by
  obtain ⟨⟨cur, h1, h2⟩, h5, h6⟩ := h
  exact ⟨⟨cur, (he.block g (Array.getElem?_eq_some_iff.1 h1).1).trans h1, h2⟩, h5, h6⟩
theorem DelAt.cell (h : DelAt e n w g L tail p i j) (hj : j < L.length) (t : Nat) (c : Value) (hc : L[j].1[t]? = some c) : w.cell? ⟨g, j * n + t, none⟩ = some c := by
  obtain ⟨⟨cur, h1, h2, h3, h4, h5⟩, _, _⟩ := h
  have hcj : cur[j]? = some L[j].1 := by
    have := congrArg (·[0]?) h5
    simp [hj] at this
    exact this
  have hf := flat_get h2 j t _ c hcj hc
  have hlt : j * n + t < cur.flatten.length := (List.getElem?_eq_some_iff.1 hf).1
  simp only [World.cell?, h1]
  simp [List.getElem?_append_left hlt, hf]
theorem DelAt.there (h : DelAt e n w g L tail p i j) (hk : k < L.length * n) : (∃ u, w.cell? ⟨g, k, none⟩ = some u) ∧ w.frozen? ⟨g, k, none⟩ = false := by
  obtain ⟨⟨cur, h1, h2, h3, h4, h5⟩, _, _⟩ := h
  have hlen := flat_length h2
  have hlt : k < cur.flatten.length := by rw [hlen, h3]; exact hk
  exact ⟨⟨cur.flatten[k], by simp only [World.cell?, h1]; simp [List.getElem?_append_left hlt, hlt]⟩, by simp [World.frozen?, h1]⟩
theorem DelAt.drop (h : DelAt e n w g L tail p i j) (hj : j < L.length) (hp : p L[j].2 = true) : DelAt e n w g L tail p i (j + 1) := by
  obtain ⟨⟨cur, h1, h2, h3, h4, h5⟩, h6, h7⟩ := h
  have es := strike_snoc (p ∘ Prod.snd) L hj
  rw [show (p ∘ Prod.snd) L[j] = true from hp] at es
  simp at es
  refine ⟨⟨cur, h1, h2, h3, by rw [es]; exact h4, ?_⟩, by rw [es]; exact h6, by omega⟩
  have := congrArg (List.drop 1) h5
  simpa [List.drop_drop] using this
theorem DelAt.keep (h : DelAt e n w g L tail p i j) (hj : j < L.length) (hp : p L[j].2 = false) (hr : L[j].1.length = n) : DelAt e n (w.setCells g (i * n) L[j].1) g L tail p (i + 1) (j + 1) := by
  obtain ⟨⟨cur, h1, h2, h3, h4, h5⟩, h6, h7⟩ := h
  have es := strike_snoc (p ∘ Prod.snd) L hj
  rw [show (p ∘ Prod.snd) L[j] = false from hp] at es
  simp at es
  have hi : i < cur.length := by omega
  have hlen := flat_length h2
  have hin : i * n + n ≤ cur.flatten.length := by rw [hlen, show i * n + n = (i + 1) * n from by rw [Nat.add_mul]; omega]; exact Nat.mul_le_mul_right _ (by omega)
  refine ⟨⟨cur.set i L[j].1, ?_, ?_, by simpa using h3, ?_, ?_⟩, by rw [es]; simp; omega, by omega⟩
  · rw [setCells_heap g e _ _ w _ h1 (by rw [List.length_append, hr]; omega), hr, List.take_append_of_le_length (by omega), List.drop_append_of_le_length (by omega), ← List.append_assoc, flat_set cur i _ h2 hi hr]
  · intro r hr'
    rcases List.mem_or_eq_of_mem_set hr' with hr' | rfl
    · exact h2 r hr'
    · exact hr
  · rw [es, List.map_append, ← h4, List.take_succ_eq_append_getElem (by simpa using hi)]
    simp
    rw [List.take_set_of_le (Nat.le_refl _)]
  · rw [List.drop_set_of_lt (by omega)]
    have := congrArg (List.drop 1) h5
    simpa [List.drop_drop] using this
/-- The row behind: what is kept, zeros, the tail. -/
theorem DelAt.last (h : DelAt e n w g L tail p i L.length) (Z : List Value) (hZ : Z.length = (L.length - i) * n) :
    (w.setCells g (i * n) Z).heap[g]? = some (.cells (((strike (p ∘ Prod.snd) L).map Prod.fst).flatten ++ (Z ++ tail)).toArray e) := by
  obtain ⟨⟨cur, h1, h2, h3, h4, h5⟩, h6, h7⟩ := h
  rw [List.take_length] at h4 h6
  have hlen := flat_length h2
  have hm : (L.length - i) * n = L.length * n - i * n := by rw [Nat.sub_mul]
  have hle : i * n ≤ L.length * n := Nat.mul_le_mul_right _ h7.1
  rw [setCells_heap g e _ _ w _ h1 (by rw [List.length_append, hZ, hlen, h3]; omega), List.take_append_of_le_length (by rw [hlen, h3]; exact hle), flat_take cur i h2, h4]
  rw [hZ, show i * n + (L.length - i) * n = cur.flatten.length from by rw [hlen, h3]; omega, List.drop_left]
  simp
theorem strike_map {β : Type} (q : β → Bool) (f : α → β) : ∀ l : List α, strike q (l.map f) = (strike (q ∘ f) l).map f
  | [] => rfl
  | x :: l => by
    have ih := strike_map q f l
    unfold strike at ih ⊢
    rw [List.map_cons, List.filter_cons, List.filter_cons]
    simp only [Function.comp]
    split <;> simp_all
end
/-- rows and what they read as, side by side -/
theorem all2_zip {α β : Type} {S : α → β → Prop} {l : List α} {m : List β} (h : All2 S l m) : ∃ L : List (α × β), L.map Prod.fst = l ∧ L.map Prod.snd = m ∧ ∀ x ∈ L, S x.1 x.2 := by
  induction h with
  | nil => exact ⟨[], rfl, rfl, by simp⟩
  | @cons a b l m r _ ih =>
    obtain ⟨L, h1, h2, h3⟩ := ih
    exact ⟨(a, b) :: L, by simp [h1], by simp [h2], fun x hx => by rcases List.mem_cons.1 hx with rfl | hx; exact r; exact h3 x hx⟩
theorem all2_unzip {α β : Type} {S : α → β → Prop} : ∀ (L : List (α × β)), (∀ x ∈ L, S x.1 x.2) → All2 S (L.map Prod.fst) (L.map Prod.snd)
  | [], _ => .nil
  | x :: L, h => .cons (h x (by simp)) (all2_unzip L fun y hy => h y (by simp [hy]))
theorem Sl.nil_none {α : Type} [GoT α] {K : Blocks} {w : World} {n cap : Nat} {xs : List α} (h : Sl K w (.slice none n cap) xs) : xs = [] := by
  obtain ⟨a, c, hv, _, hc⟩ := h
  cases xs with
  | nil => rfl
  | cons x r => obtain ⟨b, o, rfl, _⟩ := hc (by simp); simp at hv
/-- What was known lies nowhere in what is new. -/
theorem Sl.own {α : Type} [GoT α] {K : Blocks} {w w' : World} {v v' : Value} {xs : List α} (h : Sl K w v xs) (he : Ev.Ext w w') : Sl (elemK K w.heap.size v') w' v xs := h.mono fun b hb hlt => ⟨.inl ⟨hb, hlt⟩, he.block b hlt⟩
/-- The cells of a slice's elements, all in a row. -/
theorem rows_of {α : Type} [GoT α] {K : Blocks} {w : World} {b : Nat} : ∀ (xs : List α) (o : Nat), (∀ (i : Nat) (x : α), xs[i]? = some x → ∃ cs, GoT.rep K w cs x ∧ At w b (o + i * GoT.n α) cs) →
    ∃ rows, All2 (GoT.rep K w) rows xs ∧ ∀ j u, rows.flatten[j]? = some u → w.cell? ⟨b, o + j, none⟩ = some u
  | [], o, _ => ⟨[], .nil, by simp⟩
  | x :: xs, o, h => by
    obtain ⟨cs, h1, h2⟩ := h 0 x rfl
    have hl := GoT.len h1
    obtain ⟨rows, h3, h4⟩ := rows_of xs (o + GoT.n α) fun i y hy => by
      obtain ⟨ds, g1, g2⟩ := h (i + 1) y (by simpa using hy)
      refine ⟨ds, g1, ?_⟩
      rw [show o + GoT.n α + i * GoT.n α = o + (i + 1) * GoT.n α from by rw [Nat.add_mul]; omega]
      exact g2
    refine ⟨cs :: rows, .cons h1 h3, fun j u hj => ?_⟩
    rw [List.flatten_cons] at hj
    by_cases hjl : j < cs.length
    · rw [List.getElem?_append_left hjl] at hj
      have := h2 j u hj
      simpa using this
    · rw [List.getElem?_append_right (by omega)] at hj
      have := h4 _ u hj
      rwa [show o + GoT.n α + (j - cs.length) = o + j from by omega] at this
theorem Sl.rows {α : Type} [GoT α] {K : Blocks} {w : World} {ad : Addr} {cap : Nat} {xs : List α} (h : Sl K w (.slice (some ad) xs.length cap) xs) :
    ∃ rows, All2 (GoT.rep K w) rows xs ∧ ∀ j u, rows.flatten[j]? = some u → w.cell? (ad.add j) = some u := by
  cases xs with
  | nil => exact ⟨[], .nil, by simp⟩
  | cons x r =>
    obtain ⟨a, c, hv, _, hc⟩ := h
    obtain ⟨b, o, rfl, _, hel⟩ := hc (by simp)
    simp only [Value.slice.injEq, Option.some.injEq] at hv
    obtain ⟨rfl, _, _⟩ := hv
    obtain ⟨rows, h1, h2⟩ := rows_of (x :: r) o hel
    refine ⟨rows, h1, fun j u hj => ?_⟩
    have e : (⟨b, o, none⟩ : Addr).add j = ⟨b, o + j, none⟩ := by unfold Addr.add; split <;> simp_all
    rw [e]
    exact h2 j u hj
/-- 'append' onto a slice of the call's own, of all that another slice holds. -/
theorem wpList_append_sl {α : Type} [GoT α] {P : Program} {w : World} {ops : Array Oper} {rest : List Oper} {o : Oper} {a : Act} {Q : Exit → Act → World → Prop} (hgd : o.guard = none) (s x : Operand) (t : TypeId)
    (ho : o.op = .call { callee := .builtin .append, args := #[s, x], argTypes := #[t, t] }) {e : TypeId} {K : Blocks} {B bytes : Nat} (T : ElemT P t e (GoT.n α) bytes)
    (v : Value) (xs : List α) (hs : a.eval s = v) (G : Grow e K B w v xs) (ad : Addr) (c : Nat) (ys : List α) (hx : a.eval x = .slice (some ad) ys.length c) (hsl : Sl (elemK K B v) w (.slice (some ad) ys.length c) ys)
    (h63 : xs.length + ys.length ≤ maxLen) (hbytes : (xs.length + ys.length) * bytes ≤ 140737488355328) (hbase : B ≤ w.heap.size)
    (h : ∀ v' w', Grow e K B w' v' (xs ++ ys) → w.grownBy w' v.ownBlock → wpList P ops Q rest (a.put o.dst v') w') : wpList P ops Q (o :: rest) a w := by
  obtain ⟨rows, h1, h2⟩ := hsl.rows
  exact wpList_append hgd s x t ho T v xs hs G ad c ys hx rows h1 h2 h63 hbytes hbase h
theorem Grow.empty {α : Type} [GoT α] (e : TypeId) (K : Blocks) {B : Nat} {w : World} {g : Nat} (hg : w.heap[g]? = some (.cells #[] e)) (hB : B ≤ g) : Grow e K B w (.slice (some ⟨g, 0, none⟩) 0 0) ([] : List α) :=
  ⟨⟨[], ⟨by simp, .inr ⟨g, 0, #[], rfl, hB, hg, Nat.le_refl _, by simp, by simp, by simp⟩⟩, .nil⟩⟩
theorem run_clear_rows {P : Program} (w : World) (t e ty : TypeId) (z : Value) (ht : P.underlying t = some (.slice e)) (hv : ∀ w, (zeroValue e).run P w = .ok z w) (h1 : ∀ c ∈ z.cells.toList, c.oneCell' = true) (b o n c : Nat) (hn : 0 < n)
    (hc : ∀ j, j < n * z.cells.size → (w.cell? ⟨b, o + j, none⟩).isSome = true) (hf : ∀ j, j < n * z.cells.size → w.frozen? ⟨b, o + j, none⟩ = false) :
    (Builtin.clear_ #[t] ty #[.slice (some ⟨b, o, none⟩) n c]).run P w = .ok (.tuple #[]) (w.setCells b o (Builtin.zeroCells z.cells n).toList) := by
  have hlen : (Builtin.zeroCells z.cells n).toList.length = n * z.cells.size := by simp [Builtin.zeroCells]
  have hone : ∀ v ∈ (Builtin.zeroCells z.cells n).toList, v.oneCell' = true := fun v hv' => by
    simp only [Builtin.zeroCells, Array.toList_map, Array.toList_range, List.mem_map, List.mem_range] at hv'
    obtain ⟨i, hi, rfl⟩ := hv'
    have hp : 0 < z.cells.size := Nat.pos_of_ne_zero fun h0 => by rw [h0] at hi; omega
    have hlt : i % z.cells.size < z.cells.size := Nat.mod_lt _ hp
    rw [getElem!_pos z.cells (i % z.cells.size) hlt]
    exact h1 _ (by simp)
  have hst := run_storeCells_cells (P := P) b o (Builtin.zeroCells z.cells n).toList 0 w (by simpa [hlen] using hc) (by simpa [hlen] using hf) hone
  simp only [Nat.add_zero] at hst
  obtain ⟨m, rfl⟩ : ∃ m, n = m + 1 := ⟨n - 1, by omega⟩
  simp only [Builtin.clear_, run_underlying ht]
  simp [run_underlying ht, hv, hst]
end Go.Proofs.Ytmbaeloiepjakaa.R

set_option linter.unusedSimpArgs false
set_option linter.unusedVariables false
namespace Go.Proofs.Ytmbaeloiepjakaa
open Go.RowKit R
theorem extA (w : World) (o : Obj) : Ev.Ext w (w.alloc o) := (Below.refl _ _).alloc (Nat.le_refl _) _
theorem extA2 (w : World) (o o' : Obj) : Ev.Ext w ((w.alloc o).alloc o') := (extA _ _).trans (extA _ _)
structure Dep where
  key : ByteArray
  n : Int
  s : Int
def inI (x : Int) : Prop := -9223372036854775808 ≤ x ∧ x ≤ 9223372036854775807
def Dep.val (d : Dep) : Value := .agg #[.string d.key, .int .i64 d.n, .int .i64 d.s]
instance : GoT Dep where
  n := 3
  pos := by decide
  rep _ _ cs d := cs = [.string d.key, .int .i64 d.n, .int .i64 d.s] ∧ d.key.size ≤ 9223372036854775807 ∧ inI d.n ∧ inI d.s
  len h := by rw [h.1]; rfl
  one h c hc := by rw [h.1] at hc; simp at hc; rcases hc with rfl | rfl | rfl <;> rfl
  mono _ h := h
theorem dep_n : GoT.n Dep = 3 := rfl
structure Event where
  kind : Int
  client : Int
  key : ByteArray
  n : Int
  s : Int
  seen : List Dep
def Event.val (e : Event) (v : Value) : Value := .agg #[.int .i64 e.kind, .int .i64 e.client, .string e.key, .int .i64 e.n, .int .i64 e.s, v]
instance : GoT Event where
  n := 6
  pos := by decide
  rep K w cs e := ∃ v, cs = [.int .i64 e.kind, .int .i64 e.client, .string e.key, .int .i64 e.n, .int .i64 e.s, v] ∧ (e.key.size ≤ 9223372036854775807 ∧ inI e.kind ∧ inI e.client ∧ inI e.n ∧ inI e.s) ∧ Sl K w v e.seen
  len h := by obtain ⟨v, h, _⟩ := h; rw [h]; rfl
  one h c hc := by
    obtain ⟨v, h, _, a, cap, hv, _⟩ := h
    rw [h] at hc; simp at hc
    rcases hc with rfl | rfl | rfl | rfl | rfl | rfl
    all_goals first | rfl | (rw [hv]; rfl)
  mono hk h := by
    obtain ⟨v, h1, h2, h3⟩ := h
    exact ⟨v, h1, h2, h3.mono hk⟩
theorem event_n : GoT.n Event = 6 := rfl
/-- The cells of a dep in a slice. -/
theorem dep_cells {K : Blocks} {w : World} {a : Option Addr} {len cap : Nat} {l : List Dep} (h : Sl K w (.slice a len cap) l) :
    len = l.length ∧ ∀ (i : Nat) (x : Dep), l[i]? = some x → ∃ b o, a = some ⟨b, o, none⟩ ∧ K b ∧ (x.key.size ≤ 9223372036854775807 ∧ inI x.n ∧ inI x.s) ∧ w.cell? ⟨b, o + i * 3, none⟩ = some (.string x.key) ∧ w.cell? ⟨b, o + i * 3 + 1, none⟩ = some (.int .i64 x.n) ∧ w.cell? ⟨b, o + i * 3 + 2, none⟩ = some (.int .i64 x.s) := by
  obtain ⟨hl, h⟩ := h.get
  refine ⟨hl, fun i x hx => ?_⟩
  obtain ⟨b, o, cs, ha, hb, ⟨rfl, h1⟩, hat⟩ := h i x hx
  exact ⟨b, o, ha, hb, h1, hat 0 _ rfl, hat 1 _ rfl, hat 2 _ rfl⟩
theorem dep_elem : ElemT Try.prog 30 49 3 32 := ⟨Try.underlying30, by
  have h : (Try.prog.info? 49).map (fun i => (i.zero, i.size, i.bytes)) = some (some (.agg #[.string ⟨#[]⟩, .int .i64 0, .int .i64 0]), 3, 32) := by kernel_rfl
  obtain ⟨i, hi, h1, h2, h3⟩ := info_parts h
  exact ⟨i, _, hi, h1, h2, h3, rfl⟩⟩
end Go.Proofs.Ytmbaeloiepjakaa
