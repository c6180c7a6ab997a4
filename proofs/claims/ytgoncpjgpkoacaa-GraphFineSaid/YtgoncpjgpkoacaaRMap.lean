/- Maps as plain data: what a map's block holds, by keys. -/
import Derived.Test.YtgoncpjgpkoacaaRep
import Derived.Maps.OwnSet
import Derived.Maps.RangeWalk
set_option linter.unusedSimpArgs false
set_option linter.unusedVariables false
namespace Go.Proofs.Ytgoncpjgpkoacaa.R
open Go Go.RowKit Go.Maps Go.MapKept Go.ChangeMaps
/-- Keys of a type as plain data. -/
structure KeyT (P : Program) (k : TypeId) (κ : Type) (kv : κ → Value) (ok : κ → Prop) : Prop where
  check : ∀ (w : World) (em : Bool) (a : κ), ok a → (Instr.checkKey em 10000 k (kv a)).run P w = .ok () w
  find : ∀ (w : World) (a : κ), ok a → ∀ es : List MapEntry, (∀ e ∈ es, ∃ c, ok c ∧ e.key = kv c) →
    ((Instr.findKey k (kv a) es).run P w = .ok none w ∧ ∀ e ∈ es, e.key ≠ kv a) ∨ ∃ j e, (Instr.findKey k (kv a) es).run P w = .ok (some (j, e.val)) w ∧ es[j]? = some e ∧ e.key = kv a
  stays : ∀ (w : World) (a : κ), ok a → (Instr.keyThatStays (kv a) (kv a)).run P w = .ok (kv a) w
  inj : ∀ a b, kv a = kv b → a = b
theorem KeyT.of {P : Program} {k : TypeId} {κ : Type} {kv : κ → Value} {ok : κ → Prop} (K : Keyed P k) (lit : ∀ a, ok a → ∃ l, keyOf P k (kv a) = some l) (inj : ∀ a b, kv a = kv b → a = b) : KeyT P k κ kv ok where
  check w em a ha := by obtain ⟨l, hl⟩ := lit a ha; exact K.check w em hl
  find w a ha es he := by
    obtain ⟨l, hl⟩ := lit a ha
    exact K.find w hl es fun e h => by obtain ⟨c, hc, hk⟩ := he e h; rw [hk]; exact lit c hc
  stays w a ha := by obtain ⟨l, hl⟩ := lit a ha; exact K.stays w hl
  inj := inj
/-- Block b holds the map m, of at most n entries. -/
def Mp {κ α : Type} (kv : κ → Value) (ok : κ → Prop) (V : World → Value → α → Prop) (w : World) (b n : Nat) (m : κ → Option α) : Prop :=
  ∃ es clock, w.heap[b]? = some (.map es clock) ∧ Stamped es clock ∧ es.size ≤ n ∧ (∀ e ∈ es.toList, ∃ a x, ok a ∧ e.key = kv a ∧ m a = some x ∧ V w e.val x) ∧ (∀ a x, m a = some x → ∃ e ∈ es.toList, e.key = kv a)
section
variable {P : Program} {k t e : TypeId} {κ α : Type} {kv : κ → Value} {ok : κ → Prop} {V V' : World → Value → α → Prop} {w w' : World} {b n : Nat} {m : κ → Option α}
theorem Mp.made (kv : κ → Value) (ok : κ → Prop) (V : World → Value → α → Prop) (w : World) : Mp kv ok V (w.alloc (.map #[] 0)) w.heap.size 0 (fun _ => none) :=
  ⟨#[], 0, (MapKept.heap_alloc w _).1, stamped_empty 0, by simp, by simp, by simp⟩
theorem Mp.mono (h : Mp kv ok V w b n m) (hb : w'.heap[b]? = w.heap[b]?) (hV : ∀ v x, V w v x → V' w' v x) : Mp kv ok V' w' b n m := by
  obtain ⟨es, clock, h1, h2, h3, h4, h5⟩ := h
  refine ⟨es, clock, hb.trans h1, h2, h3, fun e he => ?_, h5⟩
  obtain ⟨a, x, ha, hk, hm, hv⟩ := h4 e he
  exact ⟨a, x, ha, hk, hm, hV _ _ hv⟩
theorem Mp.more (h : Mp kv ok V w b n m) {n' : Nat} (hn : n ≤ n') : Mp kv ok V w b n' m := by
  obtain ⟨es, clock, h1, h2, h3, h4, h5⟩ := h
  exact ⟨es, clock, h1, h2, Nat.le_trans h3 hn, h4, h5⟩
theorem Mp.lt (h : Mp kv ok V w b n m) : b < w.heap.size := by
  obtain ⟨es, clock, h1, _⟩ := h
  exact (Array.getElem?_eq_some_iff.1 h1).1
theorem Mp.keys (h : Mp kv ok V w b n m) (T : KeyT P k κ kv ok) : ∀ a x, m a = some x → ok a := by
  obtain ⟨es, clock, h1, h2, h3, h4, h5⟩ := h
  intro a x hm
  obtain ⟨e, he, hk⟩ := h5 a x hm
  obtain ⟨a', x', ha', hk', _, _⟩ := h4 e he
  exact T.inj _ _ (hk.symm.trans hk') ▸ ha'
/-- What is looked up. -/
theorem Mp.look (h : Mp kv ok V w b n m) (T : KeyT P k κ kv ok) (ht : P.underlying t = some (.map k e)) {z : Value} (hz : ∀ w, (zeroValue e).run P w = .ok z w) (a : κ) (ha : ok a) (c : Bool) :
    ∃ v, (Instr.lookup t (.map (some b)) (kv a) c).run P w = .ok (if c then .tuple #[v, .bool (m a).isSome] else v) w ∧ (∀ x, m a = some x → V w v x) ∧ (m a = none → v = z) := by
  obtain ⟨es, clock, h1, h2, h3, h4, h5⟩ := h
  have hes : ∀ e ∈ es.toList, ∃ c, ok c ∧ e.key = kv c := fun e he => by
    obtain ⟨a', x', ha', hk', _, _⟩ := h4 e he
    exact ⟨a', ha', hk'⟩
  rcases T.find w a ha es.toList hes with ⟨g1, g2⟩ | ⟨j, e0, g1, g2, g3⟩
  · have hn : m a = none := by
      cases hm : m a with
      | none => rfl
      | some x => obtain ⟨e, he, hk⟩ := h5 a x hm; exact (g2 e he hk).elim
    refine ⟨z, ?_, fun x hx => (by rw [hn] at hx; cases hx), fun _ => rfl⟩
    cases c <;> simp [Instr.lookup, run_underlying ht, MapKept.run_getObj_map h1, T.check w _ a ha, g1, hz, Result.andThen, hn]
  · have he0 : e0 ∈ es.toList := List.mem_of_getElem? g2
    obtain ⟨a', x', ha', hk', hm', hv'⟩ := h4 e0 he0
    obtain rfl := T.inj _ _ (g3.symm.trans hk')
    refine ⟨e0.val, ?_, fun x hx => (by rw [hm'] at hx; cases hx; exact hv'), fun hx => (by rw [hm'] at hx; cases hx)⟩
    cases c <;> simp [Instr.lookup, run_underlying ht, MapKept.run_getObj_map h1, T.check w _ a ha, g1, Result.andThen, hm']
theorem grown_set (w : World) (b : Nat) (o : Obj) : w.grownBy (setBlock w b o) (some b) :=
  ⟨rfl, rfl, rfl, by simp [setBlock], fun i _ hi => by simp [setBlock, Array.getElem?_setIfInBounds]; intro e; exact (hi (by rw [e])).elim⟩
theorem set_at {w : World} {b : Nat} (h : b < w.heap.size) (o : Obj) : (setBlock w b o).heap[b]? = some o := by simp [setBlock, h]
/-- A store. -/
theorem Mp.store [DecidableEq κ] (h : Mp kv ok V w b n m) (T : KeyT P k κ kv ok) (ht : P.underlying t = some (.map k e)) (hn : n < maxLen) (a : κ) (ha : ok a) (v : Value) (x : α)
    (hst : ∀ w', w.grownBy w' (some b) → w'.heap.size = w.heap.size → ∀ v x, V w v x → V w' v x) (hv : V w v x) :
    ∃ w', (Instr.mapUpdate t (.map (some b)) (kv a) v).run P w = .ok () w' ∧ Mp kv ok V w' b (n + 1) (fun c => if c = a then some x else m c) ∧ w.grownBy w' (some b) ∧ w'.heap.size = w.heap.size := by
  have hlt := h.lt
  obtain ⟨es, clock, h1, h2, h3, h4, h5⟩ := h
  have hes : ∀ e ∈ es.toList, ∃ c, ok c ∧ e.key = kv c := fun e he => by
    obtain ⟨a', x', ha', hk', _, _⟩ := h4 e he
    exact ⟨a', ha', hk'⟩
  have hsz : ∀ o, (setBlock w b o).heap.size = w.heap.size := fun o => by simp [setBlock]
  rcases T.find w a ha es.toList hes with ⟨g1, g2⟩ | ⟨j, e0, g1, g2, g3⟩
  · refine ⟨setBlock w b (.map (es.push ⟨kv a, v, clock⟩) (clock + 1)), ?_, ⟨_, _, set_at hlt _, stamped_push h2 g2, by simp; omega, fun e he => ?_, fun c y hc => ?_⟩, grown_set _ _ _, hsz _⟩
    · simp [Instr.mapUpdate, run_underlying ht, MapKept.run_getObj_map h1, T.check w false a ha, g1, MapKept.run_setObj_map _ h1, Result.andThen, setBlock]
    · simp only [Array.toList_push, List.mem_append, List.mem_singleton] at he
      rcases he with he | rfl
      · obtain ⟨a', x', ha', hk', hm', hv'⟩ := h4 e he
        refine ⟨a', x', ha', hk', ?_, hst _ (grown_set _ _ _) (hsz _) _ _ hv'⟩
        dsimp only; rw [if_neg (fun e1 => g2 e he (by rw [hk', e1]))]; exact hm'
      · exact ⟨a, x, ha, rfl, by simp, hst _ (grown_set _ _ _) (hsz _) _ _ hv⟩
    · by_cases e1 : c = a
      · subst e1; exact ⟨_, by simp; exact .inr rfl, rfl⟩
      · dsimp only at hc; rw [if_neg e1] at hc
        obtain ⟨e, he, hk⟩ := h5 c y hc
        exact ⟨e, by simp at he ⊢; exact .inl he, hk⟩
  · have hj : es[j]? = some e0 := by simpa using g2
    have hjl : j < es.toList.length := (List.getElem?_eq_some_iff.1 g2).1
    have hlist : (es.modify j (fun e' => { e' with key := kv a, val := v })).toList = es.toList.set j { e0 with key := kv a, val := v } := by rw [Array.toList_modify, modify_eq_set _ _ _ _ g2]
    have hap := ((stamped_iff es clock).1 h2).2.2
    have other : ∀ (i : Nat) (y : MapEntry), es.toList[i]? = some y → i ≠ j → y.key ≠ kv a := fun i y hi hne hk => by
      have hil : i < es.toList.length := (List.getElem?_eq_some_iff.1 hi).1
      have e1 := (List.getElem?_eq_some_iff.1 hi).2
      have e2 := (List.getElem?_eq_some_iff.1 g2).2
      rcases Nat.lt_or_gt_of_ne hne with hlt | hlt
      · exact List.pairwise_iff_getElem.1 hap i j hil hjl hlt (by rw [e1, e2, hk, g3])
      · exact List.pairwise_iff_getElem.1 hap j i hjl hil hlt (by rw [e1, e2, hk, g3])
    refine ⟨setBlock w b (.map (es.modify j (fun e' => { e' with key := kv a, val := v })) clock), ?_, ⟨_, _, set_at hlt _, stamped_modify h2 _ _ (fun _ _ => rfl) (fun e' _ he' => by rw [hj] at he'; cases he'; exact g3.symm), by simp; omega, fun e he => ?_, fun c y hc => ?_⟩, grown_set _ _ _, hsz _⟩
    · simp [Instr.mapUpdate, run_underlying ht, MapKept.run_getObj_map h1, T.check w false a ha, g1, hj, g3, T.stays w a ha, MapKept.run_setObj_map _ h1, Result.andThen, setBlock]
    · rw [hlist] at he
      obtain ⟨i, hi, ex⟩ := List.getElem_of_mem he
      rw [List.getElem_set] at ex
      split at ex
      · subst ex
        exact ⟨a, x, ha, rfl, by simp, hst _ (grown_set _ _ _) (hsz _) _ _ hv⟩
      · rename_i hne
        have hi' : i < es.toList.length := by simpa using hi
        have hie : es.toList[i]? = some e := by rw [List.getElem?_eq_getElem hi', ex]
        obtain ⟨a', x', ha', hk', hm', hv'⟩ := h4 e (List.mem_of_getElem? hie)
        refine ⟨a', x', ha', hk', ?_, hst _ (grown_set _ _ _) (hsz _) _ _ hv'⟩
        dsimp only; rw [if_neg (fun e1 => other i e hie (fun h => hne h.symm) (by rw [hk', e1]))]; exact hm'
    · rw [hlist]
      by_cases e1 : c = a
      · subst e1; exact ⟨{ e0 with key := kv c, val := v }, List.mem_iff_getElem.2 ⟨j, by simpa using hjl, by simp⟩, rfl⟩
      · dsimp only at hc; rw [if_neg e1] at hc
        obtain ⟨e, he, hk⟩ := h5 c y hc
        obtain ⟨i, hi, ex⟩ := List.getElem_of_mem he
        have hne : j ≠ i := fun hh => by
          subst hh
          have : es.toList[j] = e0 := (List.getElem?_eq_some_iff.1 g2).2
          rw [ex] at this
          subst this
          exact e1 (T.inj _ _ (hk.symm.trans g3))
        exact ⟨e, List.mem_iff_getElem.2 ⟨i, by simpa using hi, by rw [List.getElem_set_ne hne]; exact ex⟩, hk⟩
/-- A key is struck. -/
theorem Mp.drop [DecidableEq κ] (h : Mp kv ok V w b n m) (T : KeyT P k κ kv ok) (ht : P.underlying t = some (.map k e)) (a : κ) (ha : ok a) (ty : TypeId)
    (hst : ∀ w', w.grownBy w' (some b) → w'.heap.size = w.heap.size → ∀ v x, V w v x → V w' v x) :
    ∃ w', (Builtin.delete_ #[t, k] ty #[.map (some b), kv a]).run P w = .ok (.tuple #[]) w' ∧ Mp kv ok V w' b n (fun c => if c = a then none else m c) ∧ w.grownBy w' (some b) ∧ w'.heap.size = w.heap.size := by
  have hlt := h.lt
  obtain ⟨es, clock, h1, h2, h3, h4, h5⟩ := h
  have hes : ∀ e ∈ es.toList, ∃ c, ok c ∧ e.key = kv c := fun e he => by
    obtain ⟨a', x', ha', hk', _, _⟩ := h4 e he
    exact ⟨a', ha', hk'⟩
  have hsz : ∀ o, (setBlock w b o).heap.size = w.heap.size := fun o => by simp [setBlock]
  rcases T.find w a ha es.toList hes with ⟨g1, g2⟩ | ⟨j, e0, g1, g2, g3⟩
  · refine ⟨setBlock w b (.map es clock), ?_, ⟨_, _, set_at hlt _, h2, h3, fun e he => ?_, fun c y hc => ?_⟩, grown_set _ _ _, hsz _⟩
    · simp [Builtin.delete_, run_underlying ht, MapKept.run_getObj_map h1, T.check w _ a ha, g1, MapKept.run_setObj_map _ h1, Result.andThen, setBlock]
    · obtain ⟨a', x', ha', hk', hm', hv'⟩ := h4 e he
      refine ⟨a', x', ha', hk', ?_, hst _ (grown_set _ _ _) (hsz _) _ _ hv'⟩
      dsimp only; rw [if_neg (fun e1 => g2 e he (by rw [hk', e1]))]; exact hm'
    · dsimp only at hc
      split at hc
      · cases hc
      · exact h5 c y hc
  · have hjl : j < es.toList.length := (List.getElem?_eq_some_iff.1 g2).1
    have hjs : j < es.size := by simpa using hjl
    have hsub : (es.eraseIdxIfInBounds j).toList = es.toList.eraseIdx j := by
      unfold Array.eraseIdxIfInBounds
      rw [dif_pos hjs]
      simp
    have hap := ((stamped_iff es clock).1 h2).2.2
    have other : ∀ (i : Nat) (y : MapEntry), es.toList[i]? = some y → i ≠ j → y.key ≠ kv a := fun i y hi hne hk => by
      have hil : i < es.toList.length := (List.getElem?_eq_some_iff.1 hi).1
      have e1 := (List.getElem?_eq_some_iff.1 hi).2
      have e2 := (List.getElem?_eq_some_iff.1 g2).2
      rcases Nat.lt_or_gt_of_ne hne with hlt | hlt
      · exact List.pairwise_iff_getElem.1 hap i j hil hjl hlt (by rw [e1, e2, hk, g3])
      · exact List.pairwise_iff_getElem.1 hap j i hjl hil hlt (by rw [e1, e2, hk, g3])
    refine ⟨setBlock w b (.map (es.eraseIdxIfInBounds j) clock), ?_, ⟨_, _, set_at hlt _, stamped_erase h2 j, Nat.le_trans (MapFrom.size_erase es j) h3, fun e he => ?_, fun c y hc => ?_⟩, grown_set _ _ _, hsz _⟩
    · simp [Builtin.delete_, run_underlying ht, MapKept.run_getObj_map h1, T.check w _ a ha, g1, MapKept.run_setObj_map _ h1, Result.andThen, setBlock]
    · rw [hsub] at he
      obtain ⟨i, hne, hi⟩ := List.mem_eraseIdx_iff_getElem?.1 he
      obtain ⟨a', x', ha', hk', hm', hv'⟩ := h4 e (List.mem_of_getElem? hi)
      refine ⟨a', x', ha', hk', ?_, hst _ (grown_set _ _ _) (hsz _) _ _ hv'⟩
      dsimp only; rw [if_neg (fun e1 => other i e hi hne (by rw [hk', e1]))]; exact hm'
    · dsimp only at hc
      split at hc
      · cases hc
      · rename_i e1
        obtain ⟨e, he, hk⟩ := h5 c y hc
        obtain ⟨i, hi, ex⟩ := List.getElem_of_mem he
        refine ⟨e, ?_, hk⟩
        rw [hsub]
        refine List.mem_eraseIdx_iff_getElem?.2 ⟨i, fun hh => ?_, by rw [List.getElem?_eq_getElem hi, ex]⟩
        subst hh
        have : es.toList[i] = e0 := (List.getElem?_eq_some_iff.1 g2).2
        rw [ex] at this
        subst this
        exact e1 (T.inj _ _ (hk.symm.trans g3))
end
section
variable {P : Program} {w : World} {ops : Array Oper} {rest : List Oper} {o : Oper} {a : Act} {Q : Exit → Act → World → Prop}
/-- A store into a map, at the operation, by its run. -/
theorem wpList_mapUpdate (hg : o.guard = none) (m x v : Operand) (t : TypeId) (hop : o.op = Op.mapUpdate t m x v) (mv kv vv : Value) (hm : a.eval m = mv) (hx : a.eval x = kv) (hv : a.eval v = vv) {w' : World}
    (hrun : (Instr.mapUpdate t mv kv vv).run P w = .ok () w') (hK : wpList P ops Q rest (a.put o.dst undef) w') : wpList P ops Q (o :: rest) a w := by
  refine wpList_plain hg fun K' hK' => ?_
  unfold Oper.wp
  simp [execOp, hop, hm, hx, hv, hrun, Result.andThen]
  exact hK' _ _ hK
/-- A look into a map, at the operation, by its run. -/
theorem wpList_lookup (hg : o.guard = none) (m x : Operand) (t : TypeId) (c : Bool) (hop : o.op = Op.lookup t m x c) (mv kv v : Value) (hm : a.eval m = mv) (hx : a.eval x = kv)
    (hrun : (Instr.lookup t mv kv c).run P w = .ok v w) (hK : wpList P ops Q rest (a.put o.dst v) w) : wpList P ops Q (o :: rest) a w := by
  refine wpList_plain hg fun K' hK' => ?_
  unfold Oper.wp
  simp [execOp, hop, hm, hx, hrun, Result.andThen]
  exact hK' _ _ hK
/-- A key is struck, at the operation, by its run. -/
theorem wpList_delete (hg : o.guard = none) (m x : Operand) (t k : TypeId) (hop : o.op = Op.call { callee := Callee.builtin Builtin.delete, args := #[m, x], argTypes := #[t, k] }) (mv kv : Value) (hm : a.eval m = mv) (hx : a.eval x = kv) {w' : World}
    (hrun : (Builtin.delete_ #[t, k] o.type #[mv, kv]).run P w = .ok (.tuple #[]) w') (hK : wpList P ops Q rest (a.put o.dst (.tuple #[])) w') : wpList P ops Q (o :: rest) a w := by
  refine wpList_plain hg fun K' hK' => ?_
  unfold Oper.wp
  simp [execOp, hop, resolve, invoke, builtin, hm, hx, hrun, Result.andThen]
  exact hK' _ _ hK
end
theorem str_key0 {P : Program} {t : TypeId} (ht : P.underlying t = some .string) : KeyT P t ByteArray Value.string (fun s => s.size ≤ 9223372036854775807) :=
  .of (Go.Maps.string_keyed ht) (fun a ha => ⟨_, Go.WideMaps.keyOf_string_mk ht ha⟩) (fun a b h => by simpa using h)
theorem int_key0 {P : Program} {t : TypeId} (ht : P.underlying t = some (.int .i64)) : KeyT P t Int (Value.int .i64) (fun a => -9223372036854775808 ≤ a ∧ a ≤ 9223372036854775807) :=
  .of (Go.Maps.int_keyed ht) (fun a ha => ⟨_, Go.Maps.keyOf_int_mk ht (by simp only [Lit.wf, Bool.and_eq_true, decide_eq_true_eq]; exact ha)⟩) (fun a b h => by simpa using h)
end Go.Proofs.Ytgoncpjgpkoacaa.R
