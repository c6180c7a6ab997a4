/- What lies in memory, read as plain data: slices of structs, slices of slices; a slice that a call makes and appends to. -/
import Derived.WalkKit
import Derived.WalkSpells
import Derived.WalkLawsBesides
import Derived.Test.YtgoncpjgpkoacaaEv
set_option linter.unusedSimpArgs false
set_option linter.unusedVariables false
namespace Go.Proofs.Ytgoncpjgpkoacaa.R
open Go Go.RowKit
/-- Blocks that are known, and stay as they are. -/
abbrev Blocks := Nat → Prop
/-- A type of Go's as plain data: how many cells it has, and when cells read as a datum. -/
class GoT (α : Type) where
  n : Nat
  pos : 1 ≤ n
  rep : Blocks → World → List Value → α → Prop
  len : ∀ {K : Blocks} {w : World} {cs : List Value} {x : α}, rep K w cs x → cs.length = n
  one : ∀ {K : Blocks} {w : World} {cs : List Value} {x : α}, rep K w cs x → ∀ c ∈ cs, c.oneCell' = true
  mono : ∀ {K K' : Blocks} {w w' : World} {cs : List Value} {x : α}, (∀ b, K b → b < w.heap.size → K' b ∧ w'.heap[b]? = w.heap[b]?) → rep K w cs x → rep K' w' cs x
instance : GoT ByteArray where
  n := 1
  pos := Nat.le_refl _
  rep _ _ cs s := cs = [.string s] ∧ s.size ≤ 9223372036854775807
  len h := by rw [h.1]; rfl
  one h c hc := by rw [h.1] at hc; simp at hc; subst hc; rfl
  mono _ h := h
instance : GoT Int where
  n := 1
  pos := Nat.le_refl _
  rep _ _ cs x := cs = [.int .i64 x] ∧ -9223372036854775808 ≤ x ∧ x ≤ 9223372036854775807
  len h := by rw [h.1]; rfl
  one h c hc := by rw [h.1] at hc; simp at hc; subst hc; rfl
  mono _ h := h
instance : GoT Bool where
  n := 1
  pos := Nat.le_refl _
  rep _ _ cs x := cs = [.bool x]
  len h := by rw [h]; rfl
  one h c hc := by rw [h] at hc; simp at hc; subst hc; rfl
  mono _ h := h
/-- The cells of an element of a row that begins at (b, o). -/
def At (w : World) (b o : Nat) (cs : List Value) : Prop := ∀ j c, cs[j]? = some c → w.cell? ⟨b, o + j, none⟩ = some c
/-- A slice that reads as xs. -/
def Sl {α : Type} [GoT α] (K : Blocks) (w : World) (v : Value) (xs : List α) : Prop :=
  ∃ (a : Option Addr) (cap : Nat), v = .slice a xs.length cap ∧ xs.length ≤ 9223372036854775807 ∧
    (xs ≠ [] → ∃ b o, a = some ⟨b, o, none⟩ ∧ K b ∧ ∀ (i : Nat) (x : α), xs[i]? = some x → ∃ cs, GoT.rep K w cs x ∧ At w b (o + i * GoT.n α) cs)
theorem cell_kept {w w' : World} {a : Addr} {v : Value} (h : w.cell? a = some v) (he : w'.heap[a.block]? = w.heap[a.block]?) : w'.cell? a = some v := by rw [World.cell?_of_block he]; exact h
theorem Sl.mono {α : Type} [GoT α] {K K' : Blocks} {w w' : World} {v : Value} {xs : List α} (hk : ∀ b, K b → b < w.heap.size → K' b ∧ w'.heap[b]? = w.heap[b]?) (h : Sl K w v xs) : Sl K' w' v xs := by
  obtain ⟨a, cap, hv, hl, hc⟩ := h
  refine ⟨a, cap, hv, hl, fun hne => ?_⟩
  obtain ⟨b, o, ha, hb, hel⟩ := hc hne
  have hbw : b < w.heap.size := by
    cases xs with
    | nil => exact (hne rfl).elim
    | cons x r =>
      obtain ⟨cs, hr, hat⟩ := hel 0 x rfl
      have hlen := GoT.len hr
      have hp := GoT.pos (α := α)
      cases cs with
      | nil => simp at hlen; omega
      | cons c t => exact World.block_lt_of_cell? w _ (hat 0 c rfl)
  refine ⟨b, o, ha, (hk b hb hbw).1, fun i x hx => ?_⟩
  obtain ⟨cs, hr, hat⟩ := hel i x hx
  exact ⟨cs, GoT.mono hk hr, fun j c hj => cell_kept (hat j c hj) (hk b hb hbw).2⟩
instance {α : Type} [GoT α] : GoT (List α) where
  n := 1
  pos := Nat.le_refl _
  rep K w cs xs := ∃ v, cs = [v] ∧ Sl K w v xs
  len h := by obtain ⟨v, h, _⟩ := h; rw [h]; rfl
  one h c hc := by
    obtain ⟨v, h, a, cap, hv, _⟩ := h
    rw [h] at hc; simp at hc; subst hc; rw [hv]; rfl
  mono hk h := by
    obtain ⟨v, h, hs⟩ := h
    exact ⟨v, h, hs.mono hk⟩
theorem Sl.nil {α : Type} [GoT α] (K : Blocks) (w : World) : Sl K w (.slice none 0 0) ([] : List α) := ⟨none, 0, rfl, by simp, fun h => (h rfl).elim⟩
theorem Sl.len_le {α : Type} [GoT α] {K : Blocks} {w : World} {v : Value} {xs : List α} (h : Sl K w v xs) : xs.length ≤ 9223372036854775807 := by
  obtain ⟨a, cap, hv, hl, hc⟩ := h; exact hl
/-- An element of a slice: where it lies, and its cells. -/
theorem Sl.get {α : Type} [GoT α] {K : Blocks} {w : World} {a : Option Addr} {len cap : Nat} {xs : List α} (h : Sl K w (.slice a len cap) xs) :
    len = xs.length ∧ ∀ (i : Nat) (x : α), xs[i]? = some x → ∃ b o cs, a = some ⟨b, o, none⟩ ∧ K b ∧ GoT.rep K w cs x ∧ At w b (o + i * GoT.n α) cs := by
  obtain ⟨a', cap', hv, hl, hc⟩ := h
  simp only [Value.slice.injEq] at hv
  obtain ⟨rfl, rfl, rfl⟩ := hv
  refine ⟨rfl, fun i x hx => ?_⟩
  obtain ⟨b, o, ha, hb, hel⟩ := hc (by intro e; subst e; simp at hx)
  obtain ⟨cs, h1, h2⟩ := hel i x hx
  exact ⟨b, o, cs, ha, hb, h1, h2⟩
theorem Sl.form {α : Type} [GoT α] {K : Blocks} {w : World} {v : Value} {xs : List α} (h : Sl K w v xs) : ∃ a cap, v = .slice a xs.length cap := by
  obtain ⟨a, cap, hv, _⟩ := h; exact ⟨a, cap, hv⟩
/-- From a world to one in which memory has only grown. -/
theorem ext_known {K : Blocks} {w w' : World} (he : Ev.Ext w w') : ∀ b, K b → b < w.heap.size → K b ∧ w'.heap[b]? = w.heap[b]? := fun b hb h => ⟨hb, he.block b h⟩
theorem Sl.ext {α : Type} [GoT α] {K : Blocks} {w w' : World} {v : Value} {xs : List α} (h : Sl K w v xs) (he : Ev.Ext w w') : Sl K w' v xs := h.mono (ext_known he)
/-! ### what a call makes -/
inductive All2 {α β : Type} (R : α → β → Prop) : List α → List β → Prop
  | nil : All2 R [] []
  | cons {a : α} {b : β} {l : List α} {m : List β} : R a b → All2 R l m → All2 R (a :: l) (b :: m)
theorem All2.length {α β : Type} {R : α → β → Prop} {l : List α} {m : List β} (h : All2 R l m) : l.length = m.length := by
  induction h with
  | nil => rfl
  | cons _ _ ih => simp [ih]
theorem All2.append {α β : Type} {R : α → β → Prop} {l l' : List α} {m m' : List β} (h : All2 R l m) (h' : All2 R l' m') : All2 R (l ++ l') (m ++ m') := by
  induction h with
  | nil => exact h'
  | cons r _ ih => exact .cons r ih
theorem All2.imp {α β : Type} {R S : α → β → Prop} (hs : ∀ a b, R a b → S a b) {l : List α} {m : List β} (h : All2 R l m) : All2 S l m := by
  induction h with
  | nil => exact .nil
  | cons r _ ih => exact .cons (hs _ _ r) ih
theorem All2.get {α β : Type} {R : α → β → Prop} {l : List α} {m : List β} (h : All2 R l m) : ∀ (i : Nat) (b : β), m[i]? = some b → ∃ a, l[i]? = some a ∧ R a b := by
  induction h with
  | nil => intro i b hb; simp at hb
  | cons r _ ih =>
    intro i b hb
    cases i with
    | zero => simp at hb; subst hb; exact ⟨_, rfl, r⟩
    | succ i => exact ih i b (by simpa using hb)
theorem flat_length {l : List (List Value)} {n : Nat} (h : ∀ r ∈ l, r.length = n) : l.flatten.length = l.length * n := by
  induction l with
  | nil => simp
  | cons a r ih =>
    have h1 := h a (by simp)
    have h2 := ih (fun x hx => h x (by simp [hx]))
    simp only [List.flatten_cons, List.length_append, List.length_cons, h1, h2, Nat.add_mul]
    omega
theorem flat_get {l : List (List Value)} {n : Nat} (h : ∀ r ∈ l, r.length = n) : ∀ (i j : Nat) (r : List Value) (c : Value), l[i]? = some r → r[j]? = some c → l.flatten[i * n + j]? = some c := by
  induction l with
  | nil => intro i j r c hr; simp at hr
  | cons a t ih =>
    intro i j r c hr hc
    have ha := h a (by simp)
    cases i with
    | zero =>
      simp at hr
      subst hr
      have : j < a.length := (List.getElem?_eq_some_iff.1 hc).1
      simp only [List.flatten_cons, Nat.zero_mul, Nat.zero_add]
      rw [List.getElem?_append_left this]
      exact hc
    | succ i =>
      have := ih (fun x hx => h x (by simp [hx])) i j r c (by simpa using hr) hc
      simp only [List.flatten_cons]
      rw [List.getElem?_append_right (by rw [ha, Nat.add_mul]; omega), ha, show (i + 1) * n + j - n = i * n + j from by rw [Nat.add_mul]; omega]
      exact this
/-- Where elements of a slice of the call's own may lie: in what was known, or in what is new, but in the slice's own row. -/
def elemK (K : Blocks) (B : Nat) (v : Value) : Blocks := fun b => (K b ∧ b < B) ∨ (B ≤ b ∧ v.ownBlock ≠ some b)
/-- A slice of the call's own, that holds xs (B: the first block of the call's own). -/
structure Grow {α : Type} [GoT α] (e : TypeId) (K : Blocks) (B : Nat) (w : World) (v : Value) (xs : List α) : Prop where
  ex : ∃ rows : List (List Value), w.ownsRow B e (GoT.n α) v xs.length rows.flatten ∧ All2 (GoT.rep (elemK K B v) w) rows xs
theorem Grow.nil {α : Type} [GoT α] (e : TypeId) (K : Blocks) (B : Nat) (w : World) : Grow e K B w (.slice none 0 0) ([] : List α) :=
  ⟨⟨[], World.ownsRow_nil w B e _, .nil⟩⟩
theorem rows_len {α : Type} [GoT α] {K : Blocks} {w : World} {rows : List (List Value)} {xs : List α} (h : All2 (GoT.rep K w) rows xs) : ∀ r ∈ rows, r.length = GoT.n α := by
  induction h with
  | nil => intro r hr; cases hr
  | cons r0 _ ih =>
    intro r hr
    rcases List.mem_cons.1 hr with rfl | hr
    · exact GoT.len r0
    · exact ih r hr
theorem rows_one {α : Type} [GoT α] {K : Blocks} {w : World} {rows : List (List Value)} {xs : List α} (h : All2 (GoT.rep K w) rows xs) : ∀ c ∈ rows.flatten, c.oneCell' = true := by
  induction h with
  | nil => intro c hc; simp at hc
  | cons r0 _ ih =>
    intro c hc
    simp only [List.flatten_cons, List.mem_append] at hc
    rcases hc with hc | hc
    · exact GoT.one r0 c hc
    · exact ih c hc
/-- Read by others, once it is made. -/
theorem Grow.sl {α : Type} [GoT α] {e : TypeId} {K : Blocks} {B : Nat} {w : World} {v : Value} {xs : List α} (h : Grow e K B w v xs) (hl : xs.length ≤ 9223372036854775807) : Sl (fun b => (K b ∧ b < B) ∨ B ≤ b) w v xs := by
  obtain ⟨rows, hown, hall⟩ := h.ex
  have hk : ∀ b, elemK K B v b → b < w.heap.size → ((K b ∧ b < B) ∨ B ≤ b) ∧ w.heap[b]? = w.heap[b]? := fun b hb _ => ⟨hb.imp id (·.1), rfl⟩
  rcases hown.2 with ⟨rfl, h0⟩ | ⟨g, cap, cur, rfl, hbg, hg, hnc, hcm, hcs, htake⟩
  · obtain rfl := List.eq_nil_of_length_eq_zero h0
    exact Sl.nil _ _
  · refine ⟨_, cap, rfl, hl, fun hne => ⟨g, 0, rfl, .inr hbg, fun i x hx => ?_⟩⟩
    obtain ⟨r, hr, hrep⟩ := hall.get i x hx
    refine ⟨r, GoT.mono hk hrep, fun j c hj => ?_⟩
    have hc := flat_get (rows_len hall) i j r c hr hj
    rw [← htake] at hc
    have hc' : cur[i * GoT.n α + j]? = some c := by
      rw [List.getElem?_take] at hc
      split at hc
      · simpa using hc
      · cases hc
    simp [World.cell?, hg, hc']
theorem Grow.mono {α : Type} [GoT α] {e : TypeId} {K : Blocks} {B : Nat} {w w' : World} {v : Value} {xs : List α} (h : Grow e K B w v xs) (he : ∀ b, b < w.heap.size → w'.heap[b]? = w.heap[b]?) : Grow e K B w' v xs := by
  obtain ⟨rows, hown, hall⟩ := h.ex
  refine ⟨⟨rows, ⟨hown.1, ?_⟩, hall.imp fun r x hr => GoT.mono (fun b hb hlt => ⟨hb, he b hlt⟩) hr⟩⟩
  rcases hown.2 with hn | ⟨g, cap, cur, hv, hbg, hg, rest⟩
  · exact .inl hn
  · exact .inr ⟨g, cap, cur, hv, hbg, by rw [he g (Array.getElem?_eq_some_iff.1 hg).1]; exact hg, rest⟩
theorem Grow.ext {α : Type} [GoT α] {e : TypeId} {K : Blocks} {B : Nat} {w w' : World} {v : Value} {xs : List α} (h : Grow e K B w v xs) (he : Ev.Ext w w') : Grow e K B w' v xs := h.mono he.block
theorem Grow.slice {α : Type} [GoT α] {e : TypeId} {K : Blocks} {B : Nat} {w : World} {v : Value} {xs : List α} (h : Grow e K B w v xs) : ∃ a cap, v = .slice a xs.length cap := by
  obtain ⟨rows, hown, _⟩ := h.ex
  rcases hown.2 with ⟨rfl, h0⟩ | ⟨g, cap, cur, rfl, _⟩
  · exact ⟨none, 0, by rw [h0]⟩
  · exact ⟨_, cap, rfl⟩
/-- A type's row of the table, for append. -/
structure ElemT (P : Program) (t e : TypeId) (n bytes : Nat) : Prop where
  ht : P.underlying t = some (.slice e)
  hi : ∃ i z, P.info? e = some i ∧ i.zero = some z ∧ i.size = n ∧ i.bytes = bytes ∧ z.cells.size = n
/-- The builtin append onto a row of the call's own: the row's head stays where it was, or is new. -/
theorem run_append {P : Program} (w : World) (B : Nat) (t ty e : TypeId) (n bytes : Nat) (T : ElemT P t e n bytes) (hn : 1 ≤ n) (v : Value) (k : Nat) (xs : List Value) (hown : w.ownsRow B e n v k xs)
    (a : Addr) (m c : Nat) (news : List Value) (hl : news.length = m * n) (hnews : ∀ j u, news[j]? = some u → w.cell? (a.add j) = some u) (h1 : ∀ u ∈ news, u.oneCell' = true)
    (h63 : k + m ≤ maxLen) (hbytes : (k + m) * bytes ≤ 140737488355328) (hbase : B ≤ w.heap.size) :
    ∃ v' w', (Builtin.append_ #[t, t] ty #[v, .slice (some a) m c]).run P w = .ok v' w' ∧ w'.ownsRow B e n v' (k + m) (xs ++ news) ∧ w.grownBy w' v.ownBlock ∧ (v'.ownBlock = v.ownBlock ∨ v'.ownBlock = some w.heap.size) := by
  obtain ⟨i, z, hi, hz, hsize, hby, hzs⟩ := T.hi
  obtain ⟨v', w', h1', h2', h3', _⟩ := run_append_own (P := P) w B t ty e i z n bytes T.ht hi hz hsize hby hzs hn v k xs hown a m c news hl hnews h1 h63 hbytes hbase
  refine ⟨v', w', h1', h2', h3', ?_⟩
  subst hsize
  rcases hown.2 with ⟨rfl, rfl⟩ | ⟨g, cap, cur, rfl, hbg, hg, hnc, hcm, hcs, htake⟩
  · obtain rfl : xs = [] := List.eq_nil_of_length_eq_zero (by simpa using hown.1)
    by_cases hm : m = 0
    · subst hm
      obtain rfl : news = [] := List.eq_nil_of_length_eq_zero (by simpa using hl)
      rcases h2'.2 with ⟨rfl, _⟩ | ⟨g, cap, cur, rfl, hbg, hg, _⟩
      · exact .inl rfl
      · exfalso
        simp [Builtin.append_, run_underlying T.ht, sizeOf, typeInfo, hi, Builtin.lenOf, Builtin.firstCells, loadCells, loadCellsFrom] at h1'
    · have hr := run_append_nil (P := P) w t ty e i z T.ht hi hz a m c news hl hnews (by omega) (by simp only [maxLen] at h63; omega) (by rw [hby]; simp at hbytes; omega)
      rw [hr] at h1'
      simp only [Result.ok.injEq] at h1'
      obtain ⟨rfl, _⟩ := h1'
      exact .inr rfl
  · by_cases hroom : k + m ≤ cap
    · have hfit : k * i.size + news.length ≤ cur.size := by rw [hl, hcs, ← Nat.add_mul]; exact Nat.mul_le_mul_right _ hroom
      have hr := run_append_room (P := P) w t ty e i T.ht hi g k cap cur hg a m c news hl hnews h1 hroom hfit
      rw [hr] at h1'
      simp only [Result.ok.injEq] at h1'
      obtain ⟨rfl, _⟩ := h1'
      exact .inl rfl
    · have hr := run_append_grow (P := P) w t ty e i z T.ht hi hz ⟨g, 0, none⟩ k cap xs hown.1 (hown.cells (g := g) rfl) a m c news hl hnews (by omega) (by simp only [maxLen] at h63; omega) (growslice_fits (by omega) (by rw [hby]; exact hbytes))
      rw [hr] at h1'
      simp only [Result.ok.injEq] at h1'
      obtain ⟨rfl, _⟩ := h1'
      exact .inr rfl
/-- 'append' onto a slice of the call's own, of elements that lie in a row made for it. -/
theorem wpList_append {α : Type} [GoT α] {P : Program} {w : World} {ops : Array Oper} {rest : List Oper} {o : Oper} {a : Act} {Q : Exit → Act → World → Prop} (hgd : o.guard = none) (s x : Operand) (t : TypeId)
    (ho : o.op = .call { callee := .builtin .append, args := #[s, x], argTypes := #[t, t] }) {e : TypeId} {K : Blocks} {B bytes : Nat} (T : ElemT P t e (GoT.n α) bytes)
    (v : Value) (xs : List α) (hs : a.eval s = v) (G : Grow e K B w v xs) (ad : Addr) (c : Nat) (ys : List α) (hx : a.eval x = .slice (some ad) ys.length c) (rows : List (List Value)) (hall : All2 (GoT.rep (elemK K B v) w) rows ys)
    (hnews : ∀ j u, rows.flatten[j]? = some u → w.cell? (ad.add j) = some u) (h63 : xs.length + ys.length ≤ maxLen) (hbytes : (xs.length + ys.length) * bytes ≤ 140737488355328) (hbase : B ≤ w.heap.size)
    (h : ∀ v' w', Grow e K B w' v' (xs ++ ys) → w.grownBy w' v.ownBlock → wpList P ops Q rest (a.put o.dst v') w') : wpList P ops Q (o :: rest) a w := by
  obtain ⟨rows0, hown, hall0⟩ := G.ex
  obtain ⟨v', w', hr, hown', hg, hnew⟩ := run_append (P := P) w B t o.type e (GoT.n α) bytes T GoT.pos v xs.length rows0.flatten hown ad ys.length c rows.flatten (by rw [flat_length (rows_len hall), hall.length]) hnews (rows_one hall) h63 hbytes hbase
  have hk : ∀ b, elemK K B v b → b < w.heap.size → elemK K B v' b ∧ w'.heap[b]? = w.heap[b]? := fun b hb hlt => by
    refine ⟨?_, hg.block b hlt ?_⟩
    · rcases hb with hb | ⟨h1, h2⟩
      · exact .inl hb
      · refine .inr ⟨h1, fun h3 => ?_⟩
        rcases hnew with h4 | h4
        · exact h2 (h4 ▸ h3)
        · rw [h4] at h3; cases h3; omega
    · intro e
      rcases hb with ⟨_, hb⟩ | ⟨_, hb⟩
      · have := (hown.lt b e.symm).1; omega
      · exact hb e.symm
  refine wpList_plain hgd fun K' hK' => ?_
  unfold Oper.wp execOp
  simp only [ho, resolve, invoke, builtin, Sem.run_bind, Sem.run_pure, Result.andThen_ok, List.map_toArray, List.map_cons, List.map_nil, hs, hx, hr]
  exact hK' _ _ (h v' w' ⟨⟨rows0 ++ rows, by rw [List.flatten_append, List.length_append]; exact hown', (hall0.imp fun r x hr => GoT.mono hk hr).append (hall.imp fun r x hr => GoT.mono hk hr)⟩⟩ hg)
/-- A row that was just made. -/
def NewRow (B : Nat) (cells : Array Value) (T : TypeId) (n : Nat) (v : Value) (w : World) : Prop := ∃ b, v = .slice (some ⟨b, 0, none⟩) n n ∧ B ≤ b ∧ w.heap[b]? = some (.cells cells T)
theorem NewRow.stable {B : Nat} {cells : Array Value} {T : TypeId} {n : Nat} : Ev.Stable Ev.Ext (NewRow B cells T n) := fun v w w' h ⟨b, e, hb, hc⟩ => ⟨b, e, hb, by rw [h.block b (Array.getElem?_eq_some_iff.1 hc).1]; exact hc⟩
theorem row_cells {w : World} {b : Nat} {cells : List Value} {T : TypeId} (h : w.heap[b]? = some (.cells cells.toArray T)) : ∀ (j : Nat) (u : Value), cells[j]? = some u → w.cell? ((⟨b, 0, none⟩ : Addr).add j) = some u := fun j u hu => by
  have e : (⟨b, 0, none⟩ : Addr).add j = ⟨b, j, none⟩ := by unfold Addr.add; split <;> simp_all
  rw [e]
  simp [World.cell?, h, hu]
/-- Memory has only grown, or a row of the call's own was written. -/
theorem grown_below {B : Nat} {w0 w w' : World} {v : Value} (h : Below B w0 w) (hg : w.grownBy w' v.ownBlock) (hB : B ≤ w.heap.size) (hv : ∀ b, v.ownBlock = some b → B ≤ b) : Below B w0 w' := h.grown hg hB hv
theorem Grow.base {α : Type} [GoT α] {e : TypeId} {K : Blocks} {B : Nat} {w : World} {v : Value} {xs : List α} (h : Grow e K B w v xs) : ∀ b, v.ownBlock = some b → B ≤ b := by
  obtain ⟨rows, hown, _⟩ := h.ex
  exact fun b hb => (hown.lt b hb).1
end Go.Proofs.Ytgoncpjgpkoacaa.R
