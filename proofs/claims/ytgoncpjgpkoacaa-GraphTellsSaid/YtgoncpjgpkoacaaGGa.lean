/- graph: which events are ahead of one: plain. -/
/- graph: the search, what is ahead, depth, edges: the walks. -/
/- graph: Ahead, Before, Edges, Depth, Seen, Fine: the walks. -/
/- graph: Depth, Seen, Fine: the walks. -/
import Derived.Test.YtgoncpjgpkoacaaGGr
import Derived.Test.YtgoncpjgpkoacaaAE
import Derived.Test.YtgoncpjgpkoacaaAR
set_option linter.unusedSimpArgs false
set_option linter.unusedVariables false
namespace Go.Proofs.Ytgoncpjgpkoacaa
open Go.RowKit A R
namespace G
/-- Is one event directly ahead of another one? -/
def dirB (l : List Event) (j i : Nat) : Bool := decide (last l j (l.getD j default).client = some i) || (decide ((l.getD j default).kind = 2) && !(decide ((l.getD j default).n = 0) && decide ((l.getD j default).s = 0)) && decide (first l l.length (keyE (l.getD j default)) = some i))
def dirN (l : List Event) (j : Nat) : List Nat := (List.range j).filter (dirB l j)
theorem dirN_lt {l : List Event} {j i : Nat} (h : i ∈ dirN l j) : i < j := List.mem_range.1 (List.mem_filter.1 h).1
theorem dirN_mem {l : List Event} {j i : Nat} : i ∈ dirN l j ↔ i < j ∧ dirB l j i = true := by unfold dirN; rw [List.mem_filter, List.mem_range]
/-- Two rows that rise, of the same numbers. -/
theorem rise_eq : ∀ {a b : List Int}, a.Pairwise (· < ·) → b.Pairwise (· < ·) → (∀ x, x ∈ a ↔ x ∈ b) → a = b
  | [], [], _, _, _ => rfl
  | [], y :: b, _, _, h => by have := (h y).2 (by simp); cases this
  | x :: a, [], _, _, h => by have := (h x).1 (by simp); cases this
  | x :: a, y :: b, ha, hb, h => by
    have ha' := List.pairwise_cons.1 ha
    have hb' := List.pairwise_cons.1 hb
    have e : x = y := by
      have h1 := (h x).1 (by simp)
      have h2 := (h y).2 (by simp)
      rcases List.mem_cons.1 h1 with h1 | h1
      · exact h1
      · rcases List.mem_cons.1 h2 with h2 | h2
        · exact h2.symm
        · have := hb'.1 x h1; have := ha'.1 y h2; omega
    subst e
    congr 1
    refine rise_eq ha'.2 hb'.2 fun z => ⟨fun hz => ?_, fun hz => ?_⟩
    · rcases List.mem_cons.1 ((h z).1 (by simp [hz])) with h1 | h1
      · have := ha'.1 z hz; omega
      · exact h1
    · rcases List.mem_cons.1 ((h z).2 (by simp [hz])) with h1 | h1
      · have := hb'.1 z hz; omega
      · exact h1
theorem sort_rise {l : List Int} (h : l.Nodup) : (sortI l).Pairwise (· < ·) := by
  have h1 : (sortI l).Pairwise (· ≤ ·) := by
    have := List.pairwise_mergeSort (le := fun x y : Int => decide (x ≤ y)) (fun a b c h1 h2 => by simp at *; omega) (fun a b => by simp; omega) l
    exact this.imp (fun h => by simpa using h)
  have h2 : (sortI l).Nodup := (List.mergeSort_perm l _).nodup_iff.2 h
  exact (List.Pairwise.and h1 h2).imp fun ⟨h3, h4⟩ => by omega
theorem sort_mem {l : List Int} {x : Int} : x ∈ sortI l ↔ x ∈ l := by simp [sortI]
theorem reads_iff {l : List Event} {j : Nat} : reads l j = true ↔ (l.getD j default).kind = 2 ∧ ¬ ((l.getD j default).n = 0 ∧ (l.getD j default).s = 0) ∧ ∃ w, first l l.length (keyE (l.getD j default)) = some w ∧ w < j ∧ (w : Int) ∉ prev l j := by
  unfold reads
  cases hf : first l l.length (keyE (l.getD j default)) with
  | none => simp
  | some w =>
    simp only [Bool.and_eq_true, decide_eq_true_eq, Bool.not_eq_true', Bool.and_eq_false_iff, decide_eq_false_iff_not, List.any_eq_false, Option.some.injEq, exists_eq_left', and_assoc]
    constructor
    · rintro ⟨h1, h2, h3, h4⟩
      exact ⟨h1, fun ⟨h5, h6⟩ => by rcases h2 with h2 | h2 <;> contradiction, h3, fun h5 => h4 _ h5 (by simp)⟩
    · rintro ⟨h1, h2, h3, h4⟩
      refine ⟨h1, ?_, h3, fun x hx e => ?_⟩
      · by_cases h5 : (l.getD j default).n = 0
        · exact .inr fun h6 => h2 ⟨h5, h6⟩
        · exact .inl h5
      · first
        | (subst e; exact h4 hx)
        | (have e := of_decide_eq_true e; subst e; exact h4 hx)
theorem prev_mem {l : List Event} {j : Nat} {x : Int} : x ∈ prev l j ↔ ∃ i : Nat, last l j (l.getD j default).client = some i ∧ x = i := by
  unfold prev
  cases last l j (l.getD j default).client with
  | none => simp
  | some i => simp
theorem prev_nodup (l : List Event) (j : Nat) : (prev l j).Nodup := by
  unfold prev
  cases last l j (l.getD j default).client <;> simp
theorem dirs_eq (l : List Event) (j : Nat) : dirs l j = (dirN l j).map fun (i : Nat) => (i : Int) := by
  refine rise_eq ?_ ?_ fun x => ?_
  · unfold dirs
    refine sort_rise ?_
    rw [List.nodup_append]
    refine ⟨prev_nodup l j, by split <;> simp, fun a ha b hb => ?_⟩
    split at hb
    · rename_i hr
      obtain ⟨_, _, w, hw, _, hn⟩ := reads_iff.1 hr
      have : wr l j = w := by unfold wr; rw [hw]
      simp only [List.mem_singleton] at hb
      rw [hb, this]
      intro e
      exact hn (e ▸ ha)
    · cases hb
  · rw [List.pairwise_map]
    unfold dirN
    refine (List.Pairwise.filter _ (List.pairwise_lt_range (n := j))).imp fun h => by omega
  · unfold dirs
    rw [sort_mem, List.mem_append, List.mem_map, prev_mem]
    constructor
    · rintro (⟨i, h1, rfl⟩ | h)
      · exact ⟨i, dirN_mem.2 ⟨(last_lt h1).1, by unfold dirB; rw [h1]; simp⟩, rfl⟩
      · split at h
        · rename_i hr
          obtain ⟨h1, h2, w, hw, h3, hn⟩ := reads_iff.1 hr
          have e : wr l j = w := by unfold wr; rw [hw]
          simp only [List.mem_singleton] at h
          refine ⟨w, dirN_mem.2 ⟨h3, ?_⟩, by rw [h, e]⟩
          unfold dirB
          rw [hw]
          by_cases h5 : (l.getD j default).n = 0 <;> by_cases h6 : (l.getD j default).s = 0
          · exact absurd ⟨h5, h6⟩ h2
          all_goals (generalize l.getD j default = e at h1 h5 h6 ⊢; simp [h1, h5, h6])
        · cases h
    · rintro ⟨i, h, rfl⟩
      obtain ⟨h1, h2⟩ := dirN_mem.1 h
      by_cases hp : (i : Int) ∈ prev l j
      · exact .inl (prev_mem.1 hp)
      · refine .inr ?_
        unfold dirB at h2
        simp only [Bool.or_eq_true, Bool.and_eq_true, decide_eq_true_eq, Bool.not_eq_true', Bool.and_eq_false_iff, decide_eq_false_iff_not] at h2
        rcases h2 with h2 | ⟨⟨h3, h4⟩, h5⟩
        · exact absurd (prev_mem.2 ⟨i, h2, rfl⟩) hp
        · have hr : reads l j = true := reads_iff.2 ⟨h3, fun ⟨h6, h7⟩ => by rcases h4 with h4 | h4 <;> contradiction, i, h5, h1, hp⟩
          rw [if_pos hr]
          unfold wr
          rw [h5]
          simp
/-! ### all that are ahead -/
def ahF (l : List Event) : Nat → Nat → Nat → Bool
  | 0, _, _ => false
  | f + 1, i, k => (dirN l i).any fun d => d == k || ahF l f d k
def ah (l : List Event) (i k : Nat) : Bool := ahF l (i + 1) i k
theorem ahF_all (l : List Event) : ∀ (i f : Nat), i < f → ∀ k, ahF l f i k = ahF l (i + 1) i k := by
  intro i
  induction i using Nat.strongRecOn with
  | ind i ih =>
    intro f hf k
    obtain ⟨f, rfl⟩ : ∃ g, f = g + 1 := ⟨f - 1, by omega⟩
    show (dirN l i).any _ = (dirN l i).any _
    have : ∀ d ∈ dirN l i, (d == k || ahF l f d k) = (d == k || ahF l i d k) := fun d hd => by
      have hlt := dirN_lt hd
      rw [ih d hlt f (by omega) k, ih d hlt i hlt k]
    rw [Bool.eq_iff_iff, List.any_eq_true, List.any_eq_true]
    constructor
    · rintro ⟨d, h1, h2⟩; exact ⟨d, h1, by rw [← this d h1]; exact h2⟩
    · rintro ⟨d, h1, h2⟩; exact ⟨d, h1, by rw [this d h1]; exact h2⟩
theorem ah_iff {l : List Event} {i k : Nat} : ah l i k = true ↔ ∃ d ∈ dirN l i, d = k ∨ ah l d k = true := by
  unfold ah
  rw [ahF, List.any_eq_true]
  constructor
  · rintro ⟨d, h1, h2⟩
    refine ⟨d, h1, ?_⟩
    rw [ahF_all l d i (dirN_lt h1)] at h2
    simpa using h2
  · rintro ⟨d, h1, h2⟩
    refine ⟨d, h1, ?_⟩
    rw [ahF_all l d i (dirN_lt h1)]
    simpa using h2
theorem ah_lt {l : List Event} : ∀ {i k : Nat}, ah l i k = true → k < i := by
  intro i
  induction i using Nat.strongRecOn with
  | ind i ih =>
    intro k h
    obtain ⟨d, h1, h2⟩ := ah_iff.1 h
    have := dirN_lt h1
    rcases h2 with rfl | h2
    · exact this
    · have := ih d this h2; omega
theorem ah_trans {l : List Event} : ∀ {i j k : Nat}, ah l i j = true → ah l j k = true → ah l i k = true := by
  intro i
  induction i using Nat.strongRecOn with
  | ind i ih =>
    intro j k h h'
    obtain ⟨d, h1, h2⟩ := ah_iff.1 h
    refine ah_iff.2 ⟨d, h1, .inr ?_⟩
    rcases h2 with rfl | h2
    · exact h'
    · exact ih d (dirN_lt h1) h2 h'
theorem ah_dir {l : List Event} {j i : Nat} (h : i ∈ dirN l j) : ah l j i = true := ah_iff.2 ⟨i, h, .inl rfl⟩
/-- From the other side. -/
theorem ah_back {l : List Event} {i k : Nat} : ah l i k = true ↔ ∃ j, k ∈ dirN l j ∧ (j = i ∨ ah l i j = true) := by
  constructor
  · induction i using Nat.strongRecOn with
    | ind i ih =>
      intro h
      obtain ⟨d, h1, h2⟩ := ah_iff.1 h
      rcases h2 with rfl | h2
      · exact ⟨i, h1, .inl rfl⟩
      · obtain ⟨j, h3, h4⟩ := ih d (dirN_lt h1) h2
        refine ⟨j, h3, .inr ?_⟩
        rcases h4 with rfl | h4
        · exact ah_dir h1
        · exact ah_trans (ah_dir h1) h4
  · rintro ⟨j, h1, h2⟩
    rcases h2 with rfl | h2
    · exact ah_dir h1
    · exact ah_trans h2 (ah_dir h1)
/-! ### the search -/
abbrev VS := (Nat → Bool) × Nat
def add (s : VS) (k : Nat) : VS := (fun x => x == k || s.1 x, s.2 + 1)
def visit (l : List Event) : Nat → VS → Nat → VS
  | 0, s, _ => s
  | f + 1, s, j => (dirN l j).foldl (fun s k => if s.1 k then s else visit l f (add s k) k) s
def stepV (l : List Event) (f : Nat) (s : VS) (k : Nat) : VS := if s.1 k then s else visit l f (add s k) k
def visAt (l : List Event) (f : Nat) (s : VS) (j k : Nat) : VS := ((dirN l j).take k).foldl (stepV l f) s
theorem visAt_succ (l : List Event) (f : Nat) (s : VS) (j : Nat) {k : Nat} (hk : k < (dirN l j).length) : visAt l f s j (k + 1) = stepV l f (visAt l f s j k) (dirN l j)[k] := by
  unfold visAt
  rw [List.take_succ_eq_append_getElem hk, List.foldl_append]; rfl
theorem visAt_all (l : List Event) (f : Nat) (s : VS) (j : Nat) : visAt l f s j (dirN l j).length = visit l (f + 1) s j := by
  unfold visAt
  rw [List.take_length]; rfl
/-- What a search leaves. -/
structure Seen (l : List Event) (s s' : VS) (ks : List Nat) : Prop where
  sub : ∀ x, s.1 x = true → s'.1 x = true
  all : ∀ k ∈ ks, s'.1 k = true
  new : ∀ x, s'.1 x = true → s.1 x = true ∨ ∃ k ∈ ks, x = k ∨ ah l k x = true
  closed : ∀ x, s'.1 x = true → s.1 x = true ∨ ∀ d ∈ dirN l x, s'.1 d = true
theorem visit_seen (l : List Event) : ∀ (f : Nat) (j : Nat), j < f → ∀ s, Seen l s (visit l f s j) (dirN l j)
  | 0, _, h, _ => by omega
  | f + 1, j, hj, s => by
    have go : ∀ (ks : List Nat), (∀ k ∈ ks, k < f) → ∀ s, Seen l s (ks.foldl (stepV l f) s) ks := by
      intro ks
      induction ks with
      | nil => intro _ s; exact ⟨fun _ h => h, (fun k hk => by cases hk), fun x h => .inl h, fun x h => .inl h⟩
      | cons k ks ih =>
        intro hks s
        have h1 : Seen l s (stepV l f s k) [k] := by
          unfold stepV
          split
          · rename_i h
            exact ⟨fun _ h => h, fun k' hk' => by simp at hk'; subst hk'; exact h, fun x h => .inl h, fun x h => .inl h⟩
          · have h2 := visit_seen l f k (hks k (by simp)) (add s k)
            have hk : (visit l f (add s k) k).1 k = true := h2.sub k (by simp [add])
            refine ⟨fun x hx => h2.sub x (by simp [add, hx]), fun k' hk' => by simp at hk'; subst hk'; exact hk, fun x hx => ?_, fun x hx => ?_⟩
            · rcases h2.new x hx with h3 | ⟨d, h3, h4⟩
              · simp only [add, Bool.or_eq_true, beq_iff_eq] at h3
                rcases h3 with h3 | h3
                · exact .inr ⟨k, by simp, .inl h3⟩
                · exact .inl h3
              · exact .inr ⟨k, by simp, .inr (ah_iff.2 ⟨d, h3, h4.imp Eq.symm id⟩)⟩
            · rcases h2.closed x hx with h3 | h3
              · simp only [add, Bool.or_eq_true, beq_iff_eq] at h3
                rcases h3 with h3 | h3
                · subst h3; exact .inr h2.all
                · exact .inl h3
              · exact .inr h3
        have h2 := ih (fun k' hk' => hks k' (by simp [hk'])) (stepV l f s k)
        refine ⟨fun x hx => h2.sub x (h1.sub x hx), fun k' hk' => ?_, fun x hx => ?_, fun x hx => ?_⟩
        · rcases List.mem_cons.1 hk' with rfl | hk'
          · exact h2.sub _ (h1.all _ (by simp))
          · exact h2.all k' hk'
        · rcases h2.new x hx with h3 | ⟨k', h3, h4⟩
          · rcases h1.new x h3 with h5 | ⟨k', h5, h6⟩
            · exact .inl h5
            · exact .inr ⟨k', by simp at h5; simp [h5], h6⟩
          · exact .inr ⟨k', by simp [h3], h4⟩
        · rcases h2.closed x hx with h3 | h3
          · rcases h1.closed x h3 with h5 | h5
            · exact .inl h5
            · exact .inr fun d hd => h2.sub d (h5 d hd)
          · exact .inr h3
    exact go (dirN l j) (fun k hk => by have := dirN_lt hk; omega) s
def noneV : VS := (fun _ => false, 0)
theorem visit_ah (l : List Event) (i k : Nat) : (visit l (i + 1) noneV i).1 k = ah l i k := by
  have h := visit_seen l (i + 1) i (by omega) noneV
  rw [Bool.eq_iff_iff]
  constructor
  · intro hk
    rcases h.new k hk with h1 | ⟨d, h1, h2⟩
    · cases h1
    · exact ah_iff.2 ⟨d, h1, h2.imp Eq.symm id⟩
  · intro hk
    have go : ∀ (d : Nat), (visit l (i + 1) noneV i).1 d = true → ah l d k = true → (visit l (i + 1) noneV i).1 k = true := by
      intro d
      induction d using Nat.strongRecOn with
      | ind d ih =>
        intro hd ha
        obtain ⟨e, h1, h2⟩ := ah_iff.1 ha
        rcases h.closed d hd with h3 | h3
        · cases h3
        · rcases h2 with rfl | h2
          · exact h3 _ h1
          · exact ih e (dirN_lt h1) (h3 e h1) h2
    obtain ⟨d, h1, h2⟩ := ah_iff.1 hk
    rcases h2 with rfl | h2
    · exact h.all _ h1
    · exact go d (h.all d h1) h2
/-- How many it marks. -/
def room (n : Nat) (s : VS) : Nat := s.2 + (List.range n).countP fun k => !s.1 k
theorem room_add {n : Nat} {s : VS} {k : Nat} (hk : k < n) (h : s.1 k = false) : room n (add s k) = room n s := by
  unfold room add
  have e : ∀ m, k < m → (List.range m).countP (fun x => !s.1 x) = (List.range m).countP (fun x => !(x == k || s.1 x)) + 1 := by
    intro m hm
    induction m with
    | zero => omega
    | succ m ih =>
      rw [List.range_succ, List.countP_append, List.countP_append]
      rcases Nat.lt_or_ge k m with h1 | h1
      · rw [ih h1]
        have : (m == k) = false := by simp; omega
        simp only [List.countP_singleton, this, Bool.false_or]
        omega
      · obtain rfl : k = m := by omega
        have : (List.range k).countP (fun x => !(x == k || s.1 x)) = (List.range k).countP (fun x => !s.1 x) := by
          apply List.countP_congr
          intro x hx
          have := List.mem_range.1 hx
          have : (x == k) = false := by simp; omega
          simp [this]
        rw [this]
        simp [List.countP_singleton, h]
  have := e n hk
  simp only at *
  omega
theorem room_visit (l : List Event) (n : Nat) : ∀ (f : Nat) (j : Nat) (s : VS), j ≤ n → room n (visit l f s j) = room n s
  | 0, _, _, _ => rfl
  | f + 1, j, s, hj => by
    have go : ∀ (ks : List Nat), (∀ k ∈ ks, k < n) → ∀ s, room n (ks.foldl (stepV l f) s) = room n s := by
      intro ks
      induction ks with
      | nil => intro _ s; rfl
      | cons k ks ih =>
        intro hks s
        rw [List.foldl_cons, ih (fun k' hk' => hks k' (by simp [hk']))]
        unfold stepV
        split
        · rfl
        · rename_i h
          have hk := hks k (by simp)
          rw [room_visit l n f k (add s k) (by omega), room_add hk (by simpa using h)]
    exact go (dirN l j) (fun k hk => by have := dirN_lt hk; omega) s
theorem room_at (l : List Event) (n f : Nat) (s : VS) (j k : Nat) (hj : j ≤ n) : room n (visAt l f s j k) = room n s := by
  have go : ∀ (ks : List Nat), (∀ k ∈ ks, k < n) → ∀ s, room n (ks.foldl (stepV l f) s) = room n s := by
    intro ks
    induction ks with
    | nil => intro _ s; rfl
    | cons k ks ih =>
      intro hks s
      rw [List.foldl_cons, ih (fun k' hk' => hks k' (by simp [hk']))]
      unfold stepV
      split
      · rfl
      · rename_i h
        have hk := hks k (by simp)
        rw [room_visit l n f k (add s k) (by omega), room_add hk (by simpa using h)]
  exact go _ (fun k hk => by have := dirN_lt (List.mem_of_mem_take hk); omega) s
theorem room_le {n : Nat} {s : VS} {B : Nat} (h : room n s ≤ B) : s.2 ≤ B := by unfold room at h; omega
/-- The search's map. -/
def mOf (m : Nat → Bool) (z : Int) : Option Bool := if 0 ≤ z ∧ m z.toNat = true then some true else none
theorem mOf_none : mOf (fun _ => false) = fun _ => none := by funext z; simp [mOf]
theorem mOf_get (m : Nat → Bool) (k : Nat) : (mOf m (k : Int)).getD false = m k := by
  unfold mOf
  cases h : m k <;> simp [h]
theorem mOf_add (s : VS) (k : Nat) : (fun c' : Int => if c' = (k : Int) then some true else mOf s.1 c') = mOf (add s k).1 := by
  funext c
  unfold mOf add
  by_cases h : c = (k : Int)
  · subst h; simp
  · rw [if_neg h]
    by_cases h0 : 0 ≤ c
    · have : (c.toNat == k) = false := by simp; omega
      simp only [this, Bool.false_or]
    · simp [h0]
def aheadN (l : List Event) (i : Nat) : List Nat := (List.range l.length).filter (ah l i)
end G
end Go.Proofs.Ytgoncpjgpkoacaa

set_option linter.unusedSimpArgs false
set_option linter.unusedVariables false
namespace Go.Proofs.Ytgoncpjgpkoacaa
open Go.RowKit A R
open A.RowT
abbrev natsA (l : List Nat) : List (List AV) := l.map fun (i : Nat) => [iv i]
namespace G
def dRows (l : List Event) : List (List AV) := (List.range l.length).map fun j => [.sl 1 (natsA (dirN l j))]
end G
theorem dirs_a (l : List Event) (hl : l.length ≤ 1000) : ACall Try.prog 28 [.sl 6 (l.map Event.row)] (.sl 1 (G.dRows l)) := by
  have h := direct_a l hl
  have e : ((List.range l.length).map fun j => [AV.sl 1 ((G.dirs l j).map fun x => [iv x])]) = G.dRows l := by
    unfold G.dRows
    apply List.map_congr_left
    intro j _
    rw [G.dirs_eq, List.map_map]; rfl
  rw [e] at h
  exact h
namespace G
def caps (l : List Event) : SV := .fnb 45 [] [.d (.fp [.sl 1 (dRows l)]), .bx 1002 0 0, .bx 1003 0 0]
def obsS (l : List Event) (b : Nat) (s : VS) : Obs := [(1002, .box 54 [.ow 1012 0]), (1012, .op (mapO (Value.int .i64) okI (fun x : Bool => bv x) b s.2 (mOf s.1))), (1003, .box 67 [caps l])]
abbrev insS (l : List Event) (j : Nat) : List SV := [.d (iv j), .d (.fp [.sl 1 (dRows l)]), .bx 1002 0 0, .bx 1003 0 0]
theorem dRows_at (l : List Event) {j : Nat} (hj : j < l.length) : (dRows l)[j]? = some [.sl 1 (natsA (dirN l j))] := by
  unfold dRows
  rw [List.getElem?_map, List.getElem?_range hj]; rfl
end G
set_option maxRecDepth 100000 in
set_option maxHeartbeats 1000000 in
theorem visit_step (l : List Event) (hl : l.length ≤ 1000) (b : Nat) (f j : Nat) (s : G.VS) (hgo : ∀ (k : Nat) (s' : G.VS), k < f → k < j → G.room l.length s' ≤ 2000 → GCall Try.prog 45 (G.insS l k) (G.obsS l b s') (some (G.obsS l b (G.visit l f s' k), .d (.tup []))))
    (hj : j < l.length) (hf : j < f + 1) (hs : G.room l.length s ≤ 2000) : GCall Try.prog 45 (G.insS l j) (G.obsS l b s) (some (G.obsS l b (G.visit l (f + 1) s j), .d (.tup []))) := by
  refine GCall_enter (fun _ _ => by kernel_rfl) Try.func45 rfl Try.ntmps45 (ReadsS.r0 Try.results45) (Nat.le_of_ble_eq_true rfl) (fun hok hokB M0 w0 => ?_)
  have hdl : (G.dirN l j).length ≤ 1000 := by
    unfold G.dirN
    have := List.length_filter_le (G.dirB l j) (List.range j)
    rw [List.length_range] at this
    omega
  refine Aw_scope ?_
  refine Aw_seq ?_
  refine Aw_label ?_
  refine Aw_seq ?_
  refine Aw_region ?_
  refine Al_pu (Pu_load1 rfl Try.isAgg56 rfl rfl) rfl rfl (by decide) (by kernel_rfl) ?_
  refine Al_pu (Pu_move (.inl rfl) (by conv => lhs; whnf)) rfl rfl (by decide) (by kernel_rfl) ?_
  refine Al_pu (Pu_index rfl Try.underlying56 Try.sizeOf27 rfl rfl (rfl) (G.dRows_at l hj)) rfl rfl (by decide) (by kernel_rfl) ?_
  refine Al_pu (Pu_load1 rfl Try.isAgg27 rfl rfl) rfl rfl (by decide) (by kernel_rfl) ?_
  refine Al_pu (Pu_len rfl Try.underlying27 rfl (by first | exact List.length_map .. | exact rfl)) rfl rfl (by decide) (by kernel_rfl) ?_
  refine Al_pu (Pu_move (.inl rfl) (by conv => lhs; whnf)) rfl rfl (by decide) (by kernel_rfl) ?_
  refine Al_nil ?_
  refine Aw_block ?_
  refine Aw_loopk (ι := Nat) [2, 3, 10, 11] [1002, 1003] (fun k => [(12, .d (iv k))]) (fun k => [(1012, 0, .op (mapO (Value.int .i64) okI (fun x : Bool => bv x) b (G.visAt l f s j k).2 (G.mOf (G.visAt l f s j k).1)))]) (fun k => k ≤ (G.dirN l j).length) (fun k => (G.dirN l j).length - k) (0) (Nat.zero_le _) ⟨Sub.rfl, trivial⟩ ⟨rfl, trivial⟩ ?_
  rintro k hk0
  refine Aw_seq ?_
  refine Aw_region ?_
  refine Al_pu (Pu_cmp rfl rfl rfl rfl) rfl rfl (by decide) (by kernel_rfl) ?_
  refine Al_nil ?_
  refine Aw_seq ?_
  refine Aw_cond rfl (fun h13 => ?_) (fun h13 => ?_)
  · (try simp only [decide_eq_true_eq, decide_eq_false_iff_not, Bool.and_eq_true, Bool.or_eq_true, Bool.and_eq_false_iff, Bool.or_eq_false_iff, Bool.not_eq_true', Bool.not_eq_false', beq_iff_eq, Bool.not_eq_eq_eq_not, Bool.not_true, Bool.not_false, List.length_map, Bool.and_true, Bool.and_false, Bool.false_and, Bool.true_and, Bool.or_false, Bool.false_or] at h13)
    have hk : k < (G.dirN l j).length := by omega
    have hdk := G.dirN_lt (List.getElem_mem hk)
    have hro := G.room_at l l.length f s j k (by omega)
    have hrl := G.room_le (B := 2000) (by rw [hro]; exact hs)
    have hvs := G.visAt_succ l f s j hk
    have hokk : okI (((G.dirN l j)[k]'hk : Nat) : Int) := ⟨by omega, by omega⟩
    refine Aw_skip ?_
    -- join 0: live [2, 3, 10, 11, 12], turned []
    refine Aw_seq ?_
    refine Aw_block ?_
    refine Aw_seq ?_
    refine Aw_region ?_
    refine Al_pu (Pu_index rfl Try.underlying27 Try.sizeOf3 rfl rfl (rfl) (mapget hk)) rfl rfl (by decide) (by kernel_rfl) ?_
    refine Al_pu (Pu_load1 rfl Try.isAgg3 rfl rfl) rfl rfl (by decide) (by kernel_rfl) ?_
    refine Al_pu (Pu_move (.inr rfl) (by conv => lhs; whnf)) rfl rfl (by decide) (by kernel_rfl) ?_
    refine Al_nil ?_
    refine Aw_seq ?_
    refine Aw_seq ?_
    refine Aw_region ?_
    refine Al_pu (Pu_loadb rfl Try.isAgg54 rfl rfl rfl) rfl rfl (by decide) (by kernel_rfl) ?_
    refine Al_pu (Pu_move (.inl rfl) (by conv => lhs; whnf)) rfl rfl (by decide) (by kernel_rfl) ?_
    refine Al_pu (Pu_lookupB (c := (((G.dirN l j)[k]'hk : Nat) : Int)) (int_key0 Try.underlying3) rfl Try.underlying54 Try.zeroValue4 rfl rfl rfl (Only.v _) hokk (G.mOf_get _ _)) rfl rfl (by decide) (by kernel_rfl) ?_
    refine Al_nil ?_
    refine Aw_cond rfl (fun h18 => ?_) (fun h18 => ?_)
    · (try simp only [decide_eq_true_eq, decide_eq_false_iff_not, Bool.and_eq_true, Bool.or_eq_true, Bool.and_eq_false_iff, Bool.or_eq_false_iff, Bool.not_eq_true', Bool.not_eq_false', beq_iff_eq, Bool.not_eq_eq_eq_not, Bool.not_true, Bool.not_false, List.length_map, Bool.and_true, Bool.and_false, Bool.false_and, Bool.true_and, Bool.or_false, Bool.false_or] at h18)
      have hst : G.stepV l f (G.visAt l f s j k) ((G.dirN l j)[k]'hk) = G.visAt l f s j k := by unfold G.stepV; rw [if_pos h18]
      refine Aw_exit ?_
      refine Aw_region ?_
      refine Al_pu (Pu_add rfl rfl rfl (fun h1 h2 => by simp only [A.inI, A.maxI] at *; omega)) rfl rfl (by decide) (by kernel_rfl) ?_
      refine Al_pu (Pu_move (.inl rfl) (by conv => lhs; whnf)) rfl rfl (by decide) (by kernel_rfl) ?_
      refine Al_nil ?_
      exact ⟨k + 1, by omega, by omega, Le.ov ⟨Sub.num (by omega), trivial⟩ ⟨Sub.rfl, Sub.rfl, Sub.rfl, Sub.rfl, trivial⟩ ⟨mapeq (by rw [hvs, hst]) (by rw [hvs, hst]), trivial⟩ ⟨rfl, rfl, trivial⟩⟩ -- loop 0 next.0
    · (try simp only [decide_eq_true_eq, decide_eq_false_iff_not, Bool.and_eq_true, Bool.or_eq_true, Bool.and_eq_false_iff, Bool.or_eq_false_iff, Bool.not_eq_true', Bool.not_eq_false', beq_iff_eq, Bool.not_eq_eq_eq_not, Bool.not_true, Bool.not_false, List.length_map, Bool.and_true, Bool.and_false, Bool.false_and, Bool.true_and, Bool.or_false, Bool.false_or] at h18)
      have hst : G.stepV l f (G.visAt l f s j k) ((G.dirN l j)[k]'hk) = G.visit l f (G.add (G.visAt l f s j k) ((G.dirN l j)[k]'hk)) ((G.dirN l j)[k]'hk) := by unfold G.stepV; rw [if_neg (by rw [h18]; decide)]
      have hra := G.room_add (n := l.length) (s := G.visAt l f s j k) (k := (G.dirN l j)[k]'hk) (by omega) h18
      have hcall := hgo ((G.dirN l j)[k]'hk) (G.add (G.visAt l f s j k) ((G.dirN l j)[k]'hk)) (by omega) hdk (by rw [hra, hro]; exact hs)
      refine Aw_skip ?_
      refine Aw_seq ?_
      refine Aw_region ?_
      refine Al_pu (Pu_loadb rfl Try.isAgg54 rfl rfl rfl) rfl rfl (by decide) (by kernel_rfl) ?_
      refine Al_pu (Pu_move (.inl rfl) (by conv => lhs; whnf)) rfl rfl (by decide) (by kernel_rfl) ?_
      refine Al_mapUpdate (c := (((G.dirN l j)[k]'hk : Nat) : Int)) (v := true) (int_key0 Try.underlying3) rfl rfl rfl (by kernel_rfl) Try.underlying54 (by simp only [maxLen]; omega) rfl rfl rfl (Only.v _) hokk Sub.rfl ?_
      refine Al_nil ?_
      refine Aw_region ?_
      refine Al_pu (Pu_loadb rfl Try.isAgg67 rfl rfl rfl) rfl rfl (by decide) (by kernel_rfl) ?_
      refine Al_pu (Pu_move (.inl rfl) (by conv => lhs; whnf)) rfl rfl (by decide) (by kernel_rfl) ?_
      refine Al_gcallv [(1002, 1002, 0), (1012, 1012, 0), (1003, 1003, 0)] [] hcall rfl rfl rfl (by decide) (by kernel_rfl) rfl ⟨rfl, mapeq rfl (G.mOf_add _ _), rfl, trivial⟩ rfl [.d (iv ((G.dirN l j)[k]'hk : Nat))] rfl ⟨Sub.rfl, trivial⟩ (fun g23 => ?_)
      refine Al_nil ?_
      refine Aw_region ?_
      refine Al_pu (Pu_add rfl rfl rfl (fun h1 h2 => by simp only [A.inI, A.maxI] at *; omega)) rfl rfl (by decide) (by kernel_rfl) ?_
      refine Al_pu (Pu_move (.inl rfl) (by conv => lhs; whnf)) rfl rfl (by decide) (by kernel_rfl) ?_
      refine Al_nil ?_
      exact ⟨k + 1, by omega, by omega, Le.ov ⟨Sub.num (by omega), trivial⟩ ⟨Sub.rfl, Sub.rfl, Sub.rfl, Sub.rfl, trivial⟩ ⟨mapeq (by rw [hvs, hst]) (by rw [hvs, hst]), trivial⟩ ⟨rfl, rfl, trivial⟩⟩ -- loop 0 next.1
  · (try simp only [decide_eq_true_eq, decide_eq_false_iff_not, Bool.and_eq_true, Bool.or_eq_true, Bool.and_eq_false_iff, Bool.or_eq_false_iff, Bool.not_eq_true', Bool.not_eq_false', beq_iff_eq, Bool.not_eq_eq_eq_not, Bool.not_true, Bool.not_false, List.length_map, Bool.and_true, Bool.and_false, Bool.false_and, Bool.true_and, Bool.or_false, Bool.false_or] at h13)
    have hkk : k = (G.dirN l j).length := by omega
    refine Aw_exit ?_
    exact ⟨_, _, [], rfl, rfl, ⟨rfl, mapeq (by rw [hkk, G.visAt_all]) (by rw [hkk, G.visAt_all]), rfl, trivial⟩, rfl⟩ -- ret 0
theorem visit_g (l : List Event) (hl : l.length ≤ 1000) (b : Nat) : ∀ (f j : Nat) (s : G.VS), j < f → j < l.length → G.room l.length s ≤ 2000 → GCall Try.prog 45 (G.insS l j) (G.obsS l b s) (some (G.obsS l b (G.visit l f s j), .d (.tup [])))
  | 0, _, _, h, _, _ => by omega
  | f + 1, j, s, h, hj, hs => visit_step l hl b f j s (fun k s' h1 h2 h3 => visit_g l hl b f k s' h1 (by omega) h3) hj h hs
theorem G.room_none (n : Nat) : G.room n G.noneV = n := by
  unfold G.room G.noneV
  simp
set_option maxRecDepth 100000 in
theorem ahead_g (l : List Event) (hl : l.length ≤ 1000) (i : Nat) (hi : i < l.length) : GCallE Try.prog 27 [.d (.sl 1 (G.dRows l)), .d (iv i)] [] (ι := Nat × Nat) (fun bn => some ([(1001, .op (mapO (Value.int .i64) okI (fun x : Bool => bv x) bn.1 bn.2 (G.mOf (G.ah l i))))], .ow 1001 0)) := by
  refine GCallE_enter (fun _ _ => by kernel_rfl) Try.func27 rfl Try.ntmps27 (ReadsS.r1 Try.results27) (Nat.le_of_ble_eq_true rfl) (fun hok hokB M0 w0 => ?_)
  have hva : (G.visit l (i + 1) G.noneV i).1 = G.ah l i := funext fun k => G.visit_ah l i k
  refine Aw_seq ?_
  refine Aw_region ?_
  refine Al_pu (Pu_box1 rfl rfl (by nofun) (by nofun)) rfl rfl (by decide) (by kernel_rfl) ?_
  refine Al_pu (Pu_move (.inr rfl) (by conv => lhs; whnf)) rfl rfl (by decide) (by kernel_rfl) ?_
  refine Al_nil ?_
  refine Aw_seq ?_
  refine Aw_region ?_
  refine Al_makeMap (Value.int .i64) okI (fun x : Bool => bv x) rfl rfl rfl (by decide) (fun b7 g7 => ?_)
  refine Al_alloc rfl rfl rfl (by decide) Try.zeroValue54 rfl (by kernel_rfl) (fun g5 => ?_)
  refine Al_store1 rfl rfl rfl (by kernel_rfl) Try.isAgg54 Try.sizeOf54 rfl rfl (Nat.le_of_ble_eq_true rfl) (by conv => lhs; whnf) rfl ?_
  refine Al_nil ?_
  refine Aw_seq ?_
  refine Aw_region ?_
  refine Al_alloc rfl rfl rfl (by decide) Try.zeroValue67 rfl (by kernel_rfl) (fun g6 => ?_)
  refine Al_nil ?_
  refine Aw_seq ?_
  refine Aw_region ?_
  refine Al_pu (Pu_makeFuncS (ys := []) (xs := [_, _, _]) [] [.d (.fp [.sl 1 (G.dRows l)]), .bx 5 g5 0, .bx 6 g6 0] rfl trivial ⟨Sub.rfl, Sub.rfl, Sub.rfl, trivial⟩) rfl rfl (by decide) (by kernel_rfl) ?_
  refine Al_store1 rfl rfl rfl (by kernel_rfl) Try.isAgg67 Try.sizeOf67 rfl rfl (Nat.le_of_ble_eq_true rfl) (by conv => lhs; whnf) rfl ?_
  refine Al_nil ?_
  refine Aw_seq ?_
  have hin := visit_g l hl b7 (i + 1) i G.noneV (by omega) hi (by rw [G.room_none]; omega)
  refine Aw_region ?_
  refine Al_pu (Pu_loadb rfl Try.isAgg67 rfl rfl rfl) rfl rfl (by decide) (by kernel_rfl) ?_
  refine Al_pu (Pu_move (.inl rfl) (by conv => lhs; whnf)) rfl rfl (by decide) (by kernel_rfl) ?_
  refine Al_gcallv [(1002, 5, g5), (1012, 7, g7), (1003, 6, g6)] [] hin rfl rfl rfl (by decide) (by kernel_rfl) rfl ⟨rfl, mapeq rfl G.mOf_none.symm, rfl, trivial⟩ rfl [.d (iv i)] rfl ⟨Sub.rfl, trivial⟩ (fun g11 => ?_)
  refine Al_nil ?_
  refine Aw_seq ?_
  refine Aw_region ?_
  refine Al_pu (Pu_loadb rfl Try.isAgg54 rfl rfl rfl) rfl rfl (by decide) (by kernel_rfl) ?_
  refine Al_pu (Pu_move (.inr rfl) (by conv => lhs; whnf)) rfl rfl (by decide) (by kernel_rfl) ?_
  refine Al_nil ?_
  refine Aw_ret ?_
  exact ⟨(b7, _), _, _, [(1001, 7, g7)], rfl, Sub.rfl, ⟨mapeq rfl (by rw [hva]), trivial⟩, rfl⟩ -- ret 0
end Go.Proofs.Ytgoncpjgpkoacaa

set_option linter.unusedSimpArgs false
set_option linter.unusedVariables false
namespace Go.Proofs.Ytgoncpjgpkoacaa
open Go.RowKit A R
open A.RowT
namespace G
def aheadI (l : List Event) (i : Int) : List Nat := if 0 ≤ i ∧ i < l.length then aheadN l i.toNat else []
theorem aheadI_at (l : List Event) {i : Nat} (hi : i < l.length) : aheadI l i = aheadN l i := by
  unfold aheadI
  rw [if_pos ⟨by omega, by omega⟩, Int.toNat_natCast]
theorem aheadI_no (l : List Event) {i : Int} (hi : ¬ (0 ≤ i ∧ i < l.length)) : aheadI l i = [] := if_neg hi
theorem aheadI_lt {l : List Event} {i : Int} {k : Nat} (h : k ∈ aheadI l i) : k < l.length := by
  unfold aheadI at h
  split at h
  · exact List.mem_range.1 (List.mem_filter.1 h).1
  · cases h
theorem aheadI_len (l : List Event) (i : Int) : (aheadI l i).length ≤ l.length := by
  unfold aheadI
  split
  · unfold aheadN
    have := List.length_filter_le (ah l i.toNat) (List.range l.length)
    rwa [List.length_range] at this
  · simp
def aheadTo (l : List Event) (i k : Nat) : List Nat := (List.range k).filter (ah l i)
theorem aheadTo_succ (l : List Event) (i k : Nat) : aheadTo l i (k + 1) = aheadTo l i k ++ if ah l i k then [k] else [] := by
  unfold aheadTo
  rw [List.range_succ, List.filter_append]
  congr 1
  cases h : ah l i k <;> simp [h]
theorem aheadTo_len (l : List Event) (i k : Nat) : (aheadTo l i k).length ≤ k := by
  unfold aheadTo
  have := List.length_filter_le (ah l i) (List.range k)
  rwa [List.length_range] at this
def beforeB (l : List Event) (i j : Int) : Bool := ((aheadI l j).map fun (k : Nat) => (k : Int)).any fun y => decide (i = y)
end G
theorem natsA_int (l : List Nat) : natsA l = (l.map fun (i : Nat) => (i : Int)).map fun x => [iv x] := by
  unfold natsA
  rw [List.map_map]; rfl
theorem natsA_app (l m : List Nat) : natsA (l ++ m) = natsA l ++ natsA m := List.map_append
set_option maxRecDepth 100000 in
set_option maxHeartbeats 1000000 in
theorem gahead_a (l : List Event) (hl : l.length ≤ 1000) (i : Int) : ACall Try.prog 12 [.sl 6 (l.map Event.row), iv i] (.sl 1 (natsA (G.aheadI l i))) := by
  refine ACall_enter (fun _ _ => by kernel_rfl) Try.func12 rfl Try.ntmps12 Try.results12 (Nat.le_of_ble_eq_true rfl) (fun hok M0 w0 hnl => ?_)
  have hda := dirs_a l hl
  refine Aw_seq ?_
  refine Aw_region ?_
  refine Al_pu (Pu_move (.inr rfl) (by conv => lhs; whnf)) rfl rfl (by decide) (by kernel_rfl) ?_
  refine Al_nil ?_
  refine Aw_seq ?_
  refine Aw_seq ?_
  refine Aw_region ?_
  refine Al_pu (Pu_move (.inl rfl) (by conv => lhs; whnf)) rfl rfl (by decide) (by kernel_rfl) ?_
  refine Al_pu (Pu_cmp rfl rfl rfl rfl) rfl rfl (by decide) (by kernel_rfl) ?_
  refine Al_pu (Pu_move (.inl rfl) (by conv => lhs; whnf)) rfl rfl (by decide) (by kernel_rfl) ?_
  refine Al_st (St_gd [] rfl rfl rfl rfl trivial (fun hg11 => by exact Pu_move (.inl rfl) (by conv => lhs; whnf))) rfl (by decide) (by kernel_rfl) (by intro j b oj dj h1 h2 h3; cases h1; cases h2; cases h3; decide) ?_
  refine Al_st (St_gd [] rfl rfl rfl rfl trivial (fun hg12 => by exact Pu_move (.inl rfl) (by conv => lhs; whnf))) rfl (by decide) (by kernel_rfl) (by intro j b oj dj h1 h2 h3; cases h1; cases h2; cases h3; decide) ?_
  refine Al_st (St_gd [12] rfl rfl rfl rfl ⟨⟨_, rfl⟩, trivial⟩ (fun hg13 => by exact Pu_len rfl Try.underlying24 rfl (by first | exact List.length_map .. | exact rfl))) rfl (by decide) (by kernel_rfl) (by intro j b oj dj h1 h2 h3; cases h1; cases h2; cases h3; decide) ?_
  refine Al_st (St_gd [11, 13] rfl rfl rfl rfl ⟨⟨_, rfl⟩, ⟨_, rfl⟩, trivial⟩ (fun hg14 => Pu_cmp rfl rfl rfl rfl)) rfl (by decide) (by kernel_rfl) (by intro j b oj dj h1 h2 h3; cases h1; cases h2; cases h3; decide) ?_
  refine Al_pu (Pu_or rfl rfl rfl rfl) rfl rfl (by decide) (by kernel_rfl) ?_
  refine Al_nil ?_
  refine Aw_cond rfl (fun h15 => ?_) (fun h15 => ?_)
  · (try simp only [decide_eq_true_eq, decide_eq_false_iff_not, Bool.and_eq_true, Bool.or_eq_true, Bool.and_eq_false_iff, Bool.or_eq_false_iff, Bool.not_eq_true', Bool.not_eq_false', beq_iff_eq, Bool.not_eq_eq_eq_not, Bool.not_true, Bool.not_false, List.length_map, Bool.and_true, Bool.and_false, Bool.false_and, Bool.true_and, Bool.or_false, Bool.false_or] at h15)
    have hno : ¬ (0 ≤ i ∧ i < l.length) := by omega
    rw [G.aheadI_no l hno]
    refine Aw_seq ?_
    refine Aw_region ?_
    refine Al_pu (Pu_move (.inr rfl) (by conv => lhs; whnf)) rfl rfl (by decide) (by kernel_rfl) ?_
    refine Al_nil ?_
    refine Aw_ret ?_
    exact Sub.nil -- ret 0
  · (try simp only [decide_eq_true_eq, decide_eq_false_iff_not, Bool.and_eq_true, Bool.or_eq_true, Bool.and_eq_false_iff, Bool.or_eq_false_iff, Bool.not_eq_true', Bool.not_eq_false', beq_iff_eq, Bool.not_eq_eq_eq_not, Bool.not_true, Bool.not_false, List.length_map, Bool.and_true, Bool.and_false, Bool.false_and, Bool.true_and, Bool.or_false, Bool.false_or] at h15)
    have hyes : 0 ≤ i ∧ i < l.length := by omega
    obtain ⟨i, rfl⟩ : ∃ n : Nat, i = n := ⟨i.toNat, by omega⟩
    have hi : i < l.length := by omega
    rw [G.aheadI_at l hi]
    have hag := ahead_g l hl i hi
    refine Aw_skip ?_
    refine Aw_seq ?_
    refine Aw_region ?_
    refine Al_pu (Pu_move (.inl rfl) (by conv => lhs; whnf)) rfl rfl (by decide) (by kernel_rfl) ?_
    refine Al_pu (Pu_call (hda) rfl ⟨Sub.rfl, trivial⟩) rfl rfl (by decide) (by kernel_rfl) ?_
    refine Al_pu (Pu_move (.inl rfl) (by conv => lhs; whnf)) rfl rfl (by decide) (by kernel_rfl) ?_
    refine Al_gcallE [] [(1001, 19)] (hag) rfl rfl rfl (by decide) (by kernel_rfl) trivial (fun _ => rfl) rfl rfl ⟨Sub.rfl, Sub.rfl, trivial⟩ ?_
    rintro bn19 g19
    refine Al_pu (Pu_move (.inr rfl) (by conv => lhs; whnf)) rfl rfl (by decide) (by kernel_rfl) ?_
    refine Al_nil ?_
    refine Aw_seq ?_
    refine Aw_region ?_
    refine Al_pu (Pu_move (.inr rfl) (by conv => lhs; whnf)) rfl rfl (by decide) (by kernel_rfl) ?_
    refine Al_nil ?_
    refine Aw_seq ?_
    refine Aw_seq ?_
    refine Aw_region ?_
    refine Al_pu (Pu_move (.inl rfl) (by conv => lhs; whnf)) rfl rfl (by decide) (by kernel_rfl) ?_
    refine Al_pu (Pu_len rfl Try.underlying24 rfl (by first | exact List.length_map .. | exact rfl)) rfl rfl (by decide) (by kernel_rfl) ?_
    refine Al_pu (Pu_move (.inl rfl) (by conv => lhs; whnf)) rfl rfl (by decide) (by kernel_rfl) ?_
    refine Al_nil ?_
    refine Aw_block ?_
    refine Aw_own (j := 6) (k := 6) (T := 3) (n := 1) rfl (fun g0 => ?_)
    refine Aw_loopk (ι := Nat × Nat) [5, 21] [19] (fun (k, g) => [(22, .d (iv k)), (6, .ow 6 g)]) (fun (k, g) => [(6, g, .arr 3 1 (natsA (G.aheadTo l i k)))]) (fun (k, g) => k ≤ l.length) (fun (k, g) => l.length - k) ((0, g0)) (Nat.zero_le _) ⟨Sub.rfl, Sub.rfl, trivial⟩ ⟨rfl, trivial⟩ ?_
    rintro ⟨k, g⟩ hk0
    refine Aw_seq ?_
    refine Aw_region ?_
    refine Al_pu (Pu_cmp rfl rfl rfl rfl) rfl rfl (by decide) (by kernel_rfl) ?_
    refine Al_nil ?_
    refine Aw_seq ?_
    refine Aw_cond rfl (fun h23 => ?_) (fun h23 => ?_)
    · (try simp only [decide_eq_true_eq, decide_eq_false_iff_not, Bool.and_eq_true, Bool.or_eq_true, Bool.and_eq_false_iff, Bool.or_eq_false_iff, Bool.not_eq_true', Bool.not_eq_false', beq_iff_eq, Bool.not_eq_eq_eq_not, Bool.not_true, Bool.not_false, List.length_map, Bool.and_true, Bool.and_false, Bool.false_and, Bool.true_and, Bool.or_false, Bool.false_or] at h23)
      have hk : k < l.length := by omega
      have hal := G.aheadTo_len l i k
      refine Aw_skip ?_
      -- join 0: live [5, 6, 21, 22], turned [6]
      refine Aw_seq ?_
      refine Aw_block ?_
      refine Aw_seq ?_
      refine Aw_region ?_
      refine Al_pu (Pu_move (.inl rfl) (by conv => lhs; whnf)) rfl rfl (by decide) (by kernel_rfl) ?_
      refine Al_pu (Pu_move (.inr rfl) (by conv => lhs; whnf)) rfl rfl (by decide) (by kernel_rfl) ?_
      refine Al_nil ?_
      refine Aw_seq ?_
      refine Aw_region ?_
      refine Al_pu (Pu_move (.inl rfl) (by conv => lhs; whnf)) rfl rfl (by decide) (by kernel_rfl) ?_
      refine Al_pu (Pu_move (.inl rfl) (by conv => lhs; whnf)) rfl rfl (by decide) (by kernel_rfl) ?_
      refine Al_pu (Pu_lookupB (c := (k : Int)) (r := G.ah l i k) (int_key0 Try.underlying3) rfl Try.underlying54 Try.zeroValue4 rfl rfl rfl (Only.v _) ⟨by omega, by omega⟩ (G.mOf_get _ _)) rfl rfl (by decide) (by kernel_rfl) ?_
      refine Al_nil ?_
      refine Aw_cond rfl (fun h27 => ?_) (fun h27 => ?_)
      · (try simp only [decide_eq_true_eq, decide_eq_false_iff_not, Bool.and_eq_true, Bool.or_eq_true, Bool.and_eq_false_iff, Bool.or_eq_false_iff, Bool.not_eq_true', Bool.not_eq_false', beq_iff_eq, Bool.not_eq_eq_eq_not, Bool.not_true, Bool.not_false, List.length_map, Bool.and_true, Bool.and_false, Bool.false_and, Bool.true_and, Bool.or_false, Bool.false_or] at h27)
        refine Aw_region ?_
        refine Al_pu (Pu_move (.inl rfl) (by conv => lhs; whnf)) rfl rfl (by decide) (by kernel_rfl) ?_
        refine Al_pu (Pu_move (.inl rfl) (by conv => lhs; whnf)) rfl rfl (by decide) (by kernel_rfl) ?_
        refine Al_pu (Pu_slice1 rfl Try.underlying27 Try.sizeOf3 Try.zeroValue3 rfl (by decide) (by decide) (by kernel_rfl) rfl rfl rfl) rfl rfl (by decide) (by kernel_rfl) ?_
        refine Al_append rfl rfl rfl (by decide) (by kernel_rfl) elem27 (by decide) Try.sizeOf3 rfl rfl rfl (by rw [List.length_map, List.length_singleton]; omega) (by decide) (fun g31 => ?_)
        refine Al_pu (Pu_move (.inr rfl) (by conv => lhs; whnf)) rfl rfl (by decide) (by kernel_rfl) ?_
        refine Al_nil ?_
        refine Aw_region ?_
        refine Al_pu (Pu_add rfl rfl rfl (fun h1 h2 => by simp only [A.inI, A.maxI] at *; omega)) rfl rfl (by decide) (by kernel_rfl) ?_
        refine Al_pu (Pu_move (.inl rfl) (by conv => lhs; whnf)) rfl rfl (by decide) (by kernel_rfl) ?_
        refine Al_nil ?_
        exact ⟨(k + 1, g31), by omega, by simp only []; omega, Le.ov ⟨Sub.num (by omega), Sub.rfl, trivial⟩ ⟨Sub.rfl, Sub.rfl, trivial⟩ ⟨obeq (by rw [G.aheadTo_succ, h27, if_pos rfl, natsA_app]; rfl), trivial⟩ ⟨rfl, trivial⟩⟩ -- loop 0 next.0
      · (try simp only [decide_eq_true_eq, decide_eq_false_iff_not, Bool.and_eq_true, Bool.or_eq_true, Bool.and_eq_false_iff, Bool.or_eq_false_iff, Bool.not_eq_true', Bool.not_eq_false', beq_iff_eq, Bool.not_eq_eq_eq_not, Bool.not_true, Bool.not_false, List.length_map, Bool.and_true, Bool.and_false, Bool.false_and, Bool.true_and, Bool.or_false, Bool.false_or] at h27)
        refine Aw_skip ?_
        refine Aw_region ?_
        refine Al_pu (Pu_add rfl rfl rfl (fun h1 h2 => by simp only [A.inI, A.maxI] at *; omega)) rfl rfl (by decide) (by kernel_rfl) ?_
        refine Al_pu (Pu_move (.inl rfl) (by conv => lhs; whnf)) rfl rfl (by decide) (by kernel_rfl) ?_
        refine Al_nil ?_
        exact ⟨(k + 1, g), by omega, by simp only []; omega, Le.ov ⟨Sub.num (by omega), Sub.rfl, trivial⟩ ⟨Sub.rfl, Sub.rfl, trivial⟩ ⟨obeq (by rw [G.aheadTo_succ, h27, if_neg (by decide), List.append_nil]), trivial⟩ ⟨rfl, trivial⟩⟩ -- loop 0 next.1
    · (try simp only [decide_eq_true_eq, decide_eq_false_iff_not, Bool.and_eq_true, Bool.or_eq_true, Bool.and_eq_false_iff, Bool.or_eq_false_iff, Bool.not_eq_true', Bool.not_eq_false', beq_iff_eq, Bool.not_eq_eq_eq_not, Bool.not_true, Bool.not_false, List.length_map, Bool.and_true, Bool.and_false, Bool.false_and, Bool.true_and, Bool.or_false, Bool.false_or] at h23)
      obtain rfl : k = l.length := by omega
      refine Aw_exit ?_
      refine Aw_seq ?_
      refine Aw_region ?_
      refine Al_pu (Pu_move (.inl rfl) (by conv => lhs; whnf)) rfl rfl (by decide) (by kernel_rfl) ?_
      refine Al_pu (Pu_move (.inr rfl) (by conv => lhs; whnf)) rfl rfl (by decide) (by kernel_rfl) ?_
      refine Al_nil ?_
      refine Aw_frz hnl (k := 6) [4] rfl ⟨rfl, trivial⟩ ?_
      refine Aw_ret ?_
      exact Sub.rfl -- ret 1
set_option maxRecDepth 100000 in
theorem gbefore_a (l : List Event) (hl : l.length ≤ 1000) (i j : Int) : ACall Try.prog 20 [.sl 6 (l.map Event.row), iv i, iv j] (bv (G.beforeB l i j)) := by
  have hA := gahead_a l hl j
  rw [natsA_int] at hA
  have hC := containsv_a ((G.aheadI l j).map fun (k : Nat) => (k : Int)) i
  refine ACall_enter (fun _ _ => by kernel_rfl) Try.func20 rfl Try.ntmps20 Try.results20 (Nat.le_of_ble_eq_true rfl) (fun hok M0 w0 hnl => ?_)
  refine Aw_seq ?_
  refine Aw_region ?_
  refine Al_pu (Pu_move (.inr rfl) (by conv => lhs; whnf)) rfl rfl (by decide) (by kernel_rfl) ?_
  refine Al_nil ?_
  refine Aw_seq ?_
  refine Aw_region ?_
  refine Al_pu (Pu_move (.inl rfl) (by conv => lhs; whnf)) rfl rfl (by decide) (by kernel_rfl) ?_
  refine Al_pu (Pu_move (.inl rfl) (by conv => lhs; whnf)) rfl rfl (by decide) (by kernel_rfl) ?_
  refine Al_pu (Pu_call (hA) rfl ⟨Sub.rfl, Sub.rfl, trivial⟩) rfl rfl (by decide) (by kernel_rfl) ?_
  refine Al_pu (Pu_move (.inl rfl) (by conv => lhs; whnf)) rfl rfl (by decide) (by kernel_rfl) ?_
  refine Al_pu (Pu_call (hC) rfl ⟨Sub.rfl, Sub.rfl, trivial⟩) rfl rfl (by decide) (by kernel_rfl) ?_
  refine Al_pu (Pu_move (.inr rfl) (by conv => lhs; whnf)) rfl rfl (by decide) (by kernel_rfl) ?_
  refine Al_nil ?_
  refine Aw_ret ?_
  exact Sub.rfl -- ret 0
namespace G
def edgeA (p : Nat × Nat) : List AV := [iv p.1, iv p.2]
def edgesAt (l : List Event) (j : Nat) : List (Nat × Nat) := (dirN l j).map fun i => (i, j)
def edgesTo (l : List Event) (k : Nat) : List (Nat × Nat) := (List.range k).flatMap (edgesAt l)
theorem edgesTo_succ (l : List Event) (k : Nat) : edgesTo l (k + 1) = edgesTo l k ++ edgesAt l k := by
  unfold edgesTo
  rw [List.range_succ, List.flatMap_append, List.flatMap_singleton]
def edges (l : List Event) : List (Nat × Nat) := edgesTo l l.length
theorem dirN_len (l : List Event) (j : Nat) : (dirN l j).length ≤ 2 := by
  have := dirs_len l j
  rw [dirs_eq, List.length_map] at this
  exact this
theorem edgesTo_len (l : List Event) : ∀ (k : Nat), (edgesTo l k).length ≤ 2 * k
  | 0 => by simp [edgesTo]
  | k + 1 => by
    rw [edgesTo_succ, List.length_append]
    have := edgesTo_len l k
    have h2 := dirN_len l k
    unfold edgesAt
    rw [List.length_map]
    omega
end G
set_option maxRecDepth 100000 in
set_option maxHeartbeats 1000000 in
theorem gedges_a (l : List Event) (hl : l.length ≤ 1000) : ACall Try.prog 19 [.sl 6 (l.map Event.row)] (.sl 2 ((G.edges l).map G.edgeA)) := by
  refine ACall_enter (fun _ _ => by kernel_rfl) Try.func19 rfl Try.ntmps19 Try.results19 (Nat.le_of_ble_eq_true rfl) (fun hok M0 w0 hnl => ?_)
  have hda := dirs_a l hl
  have hdl : (G.dRows l).length = l.length := by simp [G.dRows]
  have hrl : (List.range l.length).length = l.length := List.length_range
  refine Aw_seq ?_
  refine Aw_region ?_
  refine Al_pu (Pu_move (.inr rfl) (by conv => lhs; whnf)) rfl rfl (by decide) (by kernel_rfl) ?_
  refine Al_nil ?_
  refine Aw_seq ?_
  refine Aw_region ?_
  refine Al_pu (Pu_move (.inr rfl) (by conv => lhs; whnf)) rfl rfl (by decide) (by kernel_rfl) ?_
  refine Al_nil ?_
  refine Aw_seq ?_
  refine Aw_seq ?_
  refine Aw_region ?_
  refine Al_pu (Pu_move (.inl rfl) (by conv => lhs; whnf)) rfl rfl (by decide) (by kernel_rfl) ?_
  refine Al_pu (Pu_call (hda) rfl ⟨Sub.rfl, trivial⟩) rfl rfl (by decide) (by kernel_rfl) ?_
  refine Al_pu (Pu_len rfl Try.underlying56 rfl (by first | exact List.length_map .. | exact rfl)) rfl rfl (by decide) (by kernel_rfl) ?_
  refine Al_pu (Pu_move (.inl rfl) (by conv => lhs; whnf)) rfl rfl (by decide) (by kernel_rfl) ?_
  refine Al_nil ?_
  refine Aw_block ?_
  refine Aw_own (j := 3) (k := 3) (T := 47) (n := 2) rfl (fun g0 => ?_)
  refine Aw_loopk (ι := Nat × Nat) [9, 10] [] (fun (j, g) => [(11, .d (iv j)), (3, .ow 3 g)]) (fun (j, g) => [(3, g, .arr 47 2 ((G.edgesTo l j).map G.edgeA))]) (fun (j, g) => j ≤ (G.dRows l).length) (fun (j, g) => (G.dRows l).length - j) ((0, g0)) (Nat.zero_le _) ⟨Sub.rfl, Sub.rfl, trivial⟩ ⟨rfl, trivial⟩ ?_
  rintro ⟨j, g⟩ hk0
  refine Aw_seq ?_
  refine Aw_region ?_
  refine Al_pu (Pu_cmp rfl rfl rfl rfl) rfl rfl (by decide) (by kernel_rfl) ?_
  refine Al_nil ?_
  refine Aw_seq ?_
  refine Aw_cond rfl (fun h12 => ?_) (fun h12 => ?_)
  · (try simp only [decide_eq_true_eq, decide_eq_false_iff_not, Bool.and_eq_true, Bool.or_eq_true, Bool.and_eq_false_iff, Bool.or_eq_false_iff, Bool.not_eq_true', Bool.not_eq_false', beq_iff_eq, Bool.not_eq_eq_eq_not, Bool.not_true, Bool.not_false, List.length_map, Bool.and_true, Bool.and_false, Bool.false_and, Bool.true_and, Bool.or_false, Bool.false_or] at h12)
    have hj : j < l.length := by omega
    have hen := G.edgesTo_len l j
    have hdn := G.dirN_len l j
    have hat := G.dRows_at l hj
    refine Aw_skip ?_
    refine Aw_seq ?_
    refine Aw_block ?_
    refine Aw_seq ?_
    refine Aw_region ?_
    refine Al_pu (Pu_move (.inl rfl) (by conv => lhs; whnf)) rfl rfl (by decide) (by kernel_rfl) ?_
    refine Al_pu (Pu_index rfl Try.underlying56 Try.sizeOf27 rfl rfl (rfl) (hat)) rfl rfl (by decide) (by kernel_rfl) ?_
    refine Al_pu (Pu_load1 rfl Try.isAgg27 rfl rfl) rfl rfl (by decide) (by kernel_rfl) ?_
    refine Al_pu (Pu_move (.inr rfl) (by conv => lhs; whnf)) rfl rfl (by decide) (by kernel_rfl) ?_
    refine Al_pu (Pu_move (.inr rfl) (by conv => lhs; whnf)) rfl rfl (by decide) (by kernel_rfl) ?_
    refine Al_nil ?_
    refine Aw_seq ?_
    refine Aw_region ?_
    refine Al_pu (Pu_move (.inl rfl) (by conv => lhs; whnf)) rfl rfl (by decide) (by kernel_rfl) ?_
    refine Al_pu (Pu_len rfl Try.underlying27 rfl (by first | exact List.length_map .. | exact rfl)) rfl rfl (by decide) (by kernel_rfl) ?_
    refine Al_pu (Pu_move (.inl rfl) (by conv => lhs; whnf)) rfl rfl (by decide) (by kernel_rfl) ?_
    refine Al_nil ?_
    refine Aw_block ?_
    refine Aw_loopk (ι := Nat × Nat) [4, 9, 10, 11, 16, 17] [] (fun (k, g) => [(18, .d (iv k)), (3, .ow 3 g)]) (fun (k, g) => [(3, g, .arr 47 2 ((G.edgesTo l j ++ ((G.dirN l j).take k).map fun i => (i, j)).map G.edgeA))]) (fun (k, g) => k ≤ (G.dirN l j).length) (fun (k, g) => (G.dirN l j).length - k) ((0, g)) (Nat.zero_le _) ⟨Sub.rfl, Sub.rfl, trivial⟩ ⟨obeq (by simp), trivial⟩ ?_
    rintro ⟨k, g⟩ hk1
    refine Aw_seq ?_
    refine Aw_region ?_
    refine Al_pu (Pu_cmp rfl rfl rfl rfl) rfl rfl (by decide) (by kernel_rfl) ?_
    refine Al_nil ?_
    refine Aw_seq ?_
    refine Aw_cond rfl (fun h19 => ?_) (fun h19 => ?_)
    · (try simp only [decide_eq_true_eq, decide_eq_false_iff_not, Bool.and_eq_true, Bool.or_eq_true, Bool.and_eq_false_iff, Bool.or_eq_false_iff, Bool.not_eq_true', Bool.not_eq_false', beq_iff_eq, Bool.not_eq_eq_eq_not, Bool.not_true, Bool.not_false, List.length_map, Bool.and_true, Bool.and_false, Bool.false_and, Bool.true_and, Bool.or_false, Bool.false_or] at h19)
      have hk : k < (G.dirN l j).length := by omega
      refine Aw_skip ?_
      refine Aw_seq ?_
      refine Aw_block ?_
      refine Aw_seq ?_
      refine Aw_region ?_
      refine Al_pu (Pu_index rfl Try.underlying27 Try.sizeOf3 rfl rfl (rfl) (mapget hk)) rfl rfl (by decide) (by kernel_rfl) ?_
      refine Al_pu (Pu_load1 rfl Try.isAgg3 rfl rfl) rfl rfl (by decide) (by kernel_rfl) ?_
      refine Al_pu (Pu_move (.inr rfl) (by conv => lhs; whnf)) rfl rfl (by decide) (by kernel_rfl) ?_
      refine Al_nil ?_
      refine Aw_region ?_
      refine Al_pu (Pu_move (.inl rfl) (by conv => lhs; whnf)) rfl rfl (by decide) (by kernel_rfl) ?_
      refine Al_pu (Pu_move (.inl rfl) (by conv => lhs; whnf)) rfl rfl (by decide) (by kernel_rfl) ?_
      refine Al_pu (Pu_move (.inl rfl) (by conv => lhs; whnf)) rfl rfl (by decide) (by kernel_rfl) ?_
      refine Al_pu (Pu_buildArr (aa := [(0, _), (1, _)]) rfl Try.underlying47 Try.zeroValue47 Try.sizeOf3 (by kernel_rfl) ⟨rfl, rfl, rfl, rfl, rfl, rfl, trivial⟩ rfl) rfl rfl (by decide) (by kernel_rfl) ?_
      refine Al_pu (Pu_slice1 rfl Try.underlying44 Try.sizeOf47 Try.zeroValue47 rfl (by decide) (by decide) (by kernel_rfl) rfl rfl rfl) rfl rfl (by decide) (by kernel_rfl) ?_
      refine Al_append rfl rfl rfl (by decide) (by kernel_rfl) elem44 (by decide) Try.sizeOf47 rfl rfl rfl (by simp; omega) (by decide) (fun g27 => ?_)
      refine Al_pu (Pu_move (.inr rfl) (by conv => lhs; whnf)) rfl rfl (by decide) (by kernel_rfl) ?_
      refine Al_nil ?_
      refine Aw_region ?_
      refine Al_pu (Pu_add rfl rfl rfl (fun h1 h2 => by simp only [A.inI, A.maxI] at *; omega)) rfl rfl (by decide) (by kernel_rfl) ?_
      refine Al_pu (Pu_move (.inl rfl) (by conv => lhs; whnf)) rfl rfl (by decide) (by kernel_rfl) ?_
      refine Al_nil ?_
      exact ⟨(k + 1, g27), by omega, by simp only []; omega, Le.ov ⟨Sub.num (by omega), Sub.rfl, trivial⟩ ⟨Sub.rfl, Sub.rfl, Sub.rfl, Sub.rfl, Sub.rfl, Sub.rfl, trivial⟩ ⟨obeq (by rw [List.take_succ_eq_append_getElem hk]; simp only [List.map_append, List.append_assoc]; rfl), trivial⟩ trivial⟩ -- loop 1 next.0
    · (try simp only [decide_eq_true_eq, decide_eq_false_iff_not, Bool.and_eq_true, Bool.or_eq_true, Bool.and_eq_false_iff, Bool.or_eq_false_iff, Bool.not_eq_true', Bool.not_eq_false', beq_iff_eq, Bool.not_eq_eq_eq_not, Bool.not_true, Bool.not_false, List.length_map, Bool.and_true, Bool.and_false, Bool.false_and, Bool.true_and, Bool.or_false, Bool.false_or] at h19)
      obtain rfl : k = (G.dirN l j).length := by omega
      refine Aw_exit ?_
      refine Aw_region ?_
      refine Al_pu (Pu_add rfl rfl rfl (fun h1 h2 => by simp only [A.inI, A.maxI] at *; omega)) rfl rfl (by decide) (by kernel_rfl) ?_
      refine Al_pu (Pu_move (.inl rfl) (by conv => lhs; whnf)) rfl rfl (by decide) (by kernel_rfl) ?_
      refine Al_nil ?_
      exact ⟨(j + 1, g), by omega, by simp only []; omega, Le.ov ⟨Sub.num (by omega), Sub.rfl, trivial⟩ ⟨Sub.rfl, Sub.rfl, trivial⟩ ⟨obeq (by rw [G.edgesTo_succ, List.take_length]; rfl), trivial⟩ trivial⟩ -- loop 0 next.0
  · (try simp only [decide_eq_true_eq, decide_eq_false_iff_not, Bool.and_eq_true, Bool.or_eq_true, Bool.and_eq_false_iff, Bool.or_eq_false_iff, Bool.not_eq_true', Bool.not_eq_false', beq_iff_eq, Bool.not_eq_eq_eq_not, Bool.not_true, Bool.not_false, List.length_map, Bool.and_true, Bool.and_false, Bool.false_and, Bool.true_and, Bool.or_false, Bool.false_or] at h12)
    have hjj : j = l.length := by omega
    refine Aw_exit ?_
    refine Aw_seq ?_
    refine Aw_region ?_
    refine Al_pu (Pu_move (.inl rfl) (by conv => lhs; whnf)) rfl rfl (by decide) (by kernel_rfl) ?_
    refine Al_pu (Pu_move (.inr rfl) (by conv => lhs; whnf)) rfl rfl (by decide) (by kernel_rfl) ?_
    refine Al_nil ?_
    refine Aw_frz hnl (k := 3) [2] rfl ⟨rfl, trivial⟩ ?_
    refine Aw_ret ?_
    exact Sub.d (by rw [hjj]; rfl) -- ret 0
end Go.Proofs.Ytgoncpjgpkoacaa

set_option linter.unusedSimpArgs false
set_option linter.unusedVariables false
namespace Go.Proofs.Ytgoncpjgpkoacaa
open Go.RowKit A R
open A.RowT
theorem natsA_un (s : List Nat) : ∀ q ∈ natsA s, q.length = 1 := fun q hq => by
  obtain ⟨b, _, rfl⟩ := List.mem_map.1 hq; rfl
theorem natsA_fl (s : List Nat) : (natsA s).flatten = s.map fun (i : Nat) => iv i := by
  unfold natsA
  induction s with
  | nil => rfl
  | cons b r ih => simp only [List.map_cons, List.flatten_cons, ih]; rfl
theorem natsA_set {s : List Nat} {a : Nat} (h : a < s.length) (v : Nat) : (natsA (s.set a v)).flatten = (natsA s).flatten.take (a * 1) ++ A.cellsA (iv v) ++ (natsA s).flatten.drop (a * 1 + 1) := by
  rw [natsA_fl, natsA_fl, List.map_set, Nat.mul_one, List.set_eq_take_append_cons_drop, if_pos (by simpa using h)]
  simp [A.cellsA]
theorem natsA_at {s : List Nat} {a : Nat} (h : a < s.length) : (natsA s).flatten[a * 1]? = some (iv (s.getD a 0 : Nat)) := by
  rw [natsA_fl, Nat.mul_one, List.getElem?_map, List.getElem?_eq_getElem h, List.getD_eq_getElem?_getD, List.getElem?_eq_getElem h]; rfl
theorem natsA_len (s : List Nat) : (natsA s).length = s.length := List.length_map ..
theorem natsA_rep (n : Nat) : List.replicate n [AV.v (.int .i64 0)] = natsA (List.replicate n 0) := by
  unfold natsA; rw [List.map_replicate]; rfl
namespace G
def depS (ds : List Nat) (m i : Nat) : Nat := max m (ds.getD i 0 + 1)
def depAt (l : List Event) (ds : List Nat) (j k : Nat) : Nat := ((dirN l j).take k).foldl (depS ds) 1
def depTo (l : List Event) : Nat → List Nat
  | 0 => []
  | j + 1 => depTo l j ++ [depAt l (depTo l j) j (dirN l j).length]
theorem depTo_len (l : List Event) : ∀ (j : Nat), (depTo l j).length = j
  | 0 => rfl
  | j + 1 => by rw [depTo, List.length_append, depTo_len l j]; rfl
theorem depAt_succ (l : List Event) (ds : List Nat) (j : Nat) {k : Nat} (hk : k < (dirN l j).length) : depAt l ds j (k + 1) = depS ds (depAt l ds j k) (dirN l j)[k] := by
  unfold depAt
  rw [List.take_succ_eq_append_getElem hk, List.foldl_append]; rfl
theorem depAt_le (l : List Event) (ds : List Nat) (j : Nat) (B : Nat) (hB : 1 ≤ B) (h : ∀ i, i < j → ds.getD i 0 + 1 ≤ B) : ∀ (k : Nat), k ≤ (dirN l j).length → depAt l ds j k ≤ B
  | 0, _ => by simpa [depAt] using hB
  | k + 1, hk => by
    rw [depAt_succ l ds j (by omega)]
    have h1 := depAt_le l ds j B hB h k (by omega)
    have h2 := h _ (dirN_lt (List.getElem_mem (show k < (dirN l j).length by omega)))
    exact Nat.max_le.2 ⟨h1, h2⟩
theorem depTo_le (l : List Event) : ∀ (j i : Nat), i < j → (depTo l j).getD i 0 ≤ i + 1
  | 0, _, h => by omega
  | j + 1, i, h => by
    rw [depTo, List.getD_eq_getElem?_getD]
    rcases Nat.lt_or_ge i j with h1 | h1
    · rw [List.getElem?_append_left (by rw [depTo_len]; exact h1), ← List.getD_eq_getElem?_getD]
      exact depTo_le l j i h1
    · obtain rfl : i = j := by omega
      rw [List.getElem?_append_right (by rw [depTo_len]; exact Nat.le_refl _), depTo_len, Nat.sub_self]
      exact depAt_le l _ i (i + 1) (by omega) (fun x hx => by have := depTo_le l i x hx; omega) _ (Nat.le_refl _)
/-- The row of depths, as far as it is made. -/
def depRow (l : List Event) (j k : Nat) : List Nat := depTo l j ++ depAt l (depTo l j) j k :: List.replicate (l.length - (j + 1)) 0
def depHead (l : List Event) (j : Nat) : List Nat := depTo l j ++ List.replicate (l.length - j) 0
theorem depRow_len (l : List Event) {j : Nat} (hj : j < l.length) (k : Nat) : (depRow l j k).length = l.length := by
  simp [depRow, depTo_len]; omega
theorem depHead_len (l : List Event) {j : Nat} (hj : j ≤ l.length) : (depHead l j).length = l.length := by
  simp [depHead, depTo_len]; omega
theorem depRow_set (l : List Event) {j k : Nat} (v : Nat) : (depRow l j k).set j v = depTo l j ++ v :: List.replicate (l.length - (j + 1)) 0 := by
  unfold depRow
  rw [List.set_append_right _ _ (by rw [depTo_len]; exact Nat.le_refl _), depTo_len, Nat.sub_self]; rfl
theorem depHead_set (l : List Event) {j : Nat} (hj : j < l.length) : (depHead l j).set j 1 = depRow l j 0 := by
  unfold depHead depRow
  rw [List.set_append_right _ _ (by rw [depTo_len]; exact Nat.le_refl _), depTo_len, Nat.sub_self, show l.length - j = (l.length - (j + 1)) + 1 from by omega, List.replicate_succ]; rfl
theorem depRow_all (l : List Event) (j : Nat) : depRow l j (dirN l j).length = depHead l (j + 1) := by
  unfold depHead depRow
  rw [depTo, List.append_assoc]; rfl
theorem depRow_at (l : List Event) (j k : Nat) : (depRow l j k).getD j 0 = depAt l (depTo l j) j k := by
  unfold depRow
  rw [List.getD_eq_getElem?_getD, List.getElem?_append_right (by rw [depTo_len]; exact Nat.le_refl _), depTo_len, Nat.sub_self]; rfl
theorem depRow_lt (l : List Event) {j i : Nat} (k : Nat) (hi : i < j) : (depRow l j k).getD i 0 = (depTo l j).getD i 0 := by
  unfold depRow
  rw [List.getD_eq_getElem?_getD, List.getElem?_append_left (by rw [depTo_len]; exact hi), ← List.getD_eq_getElem?_getD]
def depths (l : List Event) : List Nat := depTo l l.length
theorem depHead_all (l : List Event) : depHead l l.length = depths l := by
  unfold depHead depths
  rw [Nat.sub_self]; simp
end G
set_option maxRecDepth 100000 in
set_option maxHeartbeats 1000000 in
theorem gdepth_a (l : List Event) (hl : l.length ≤ 1000) : ACall Try.prog 21 [.sl 6 (l.map Event.row)] (.sl 1 (natsA (G.depths l))) := by
  refine ACall_enter (fun _ _ => by kernel_rfl) Try.func21 rfl Try.ntmps21 Try.results21 (Nat.le_of_ble_eq_true rfl) (fun hok M0 w0 hnl => ?_)
  have hda := dirs_a l hl
  have hdl : (G.dRows l).length = l.length := by simp [G.dRows]
  have hrl : (List.range l.length).length = l.length := List.length_range
  refine Aw_seq ?_
  refine Aw_region ?_
  refine Al_pu (Pu_move (.inr rfl) (by conv => lhs; whnf)) rfl rfl (by decide) (by kernel_rfl) ?_
  refine Al_nil ?_
  refine Aw_seq ?_
  refine Aw_region ?_
  refine Al_pu (Pu_move (.inl rfl) (by conv => lhs; whnf)) rfl rfl (by decide) (by kernel_rfl) ?_
  refine Al_pu (Pu_len rfl Try.underlying24 rfl (by first | exact List.length_map .. | exact rfl)) rfl rfl (by decide) (by kernel_rfl) ?_
  refine Al_make1 (n := l.length) (bytes := 8) (z := .int .i64 0) rfl rfl rfl (by decide) (by kernel_rfl) Try.underlying27 (by kernel_rfl) rfl (by decide) rfl rfl (by omega) (by decide) (fun g10 => ?_)
  refine Al_pu (Pu_move (.inr rfl) (by conv => lhs; whnf)) rfl rfl (by decide) (by kernel_rfl) ?_
  refine Al_nil ?_
  refine Aw_seq ?_
  refine Aw_seq ?_
  refine Aw_region ?_
  refine Al_pu (Pu_move (.inl rfl) (by conv => lhs; whnf)) rfl rfl (by decide) (by kernel_rfl) ?_
  refine Al_pu (Pu_call (hda) rfl ⟨Sub.rfl, trivial⟩) rfl rfl (by decide) (by kernel_rfl) ?_
  refine Al_pu (Pu_len rfl Try.underlying56 rfl (by first | exact List.length_map .. | exact rfl)) rfl rfl (by decide) (by kernel_rfl) ?_
  refine Al_pu (Pu_move (.inl rfl) (by conv => lhs; whnf)) rfl rfl (by decide) (by kernel_rfl) ?_
  refine Al_nil ?_
  refine Aw_block ?_
  refine Aw_loopk (ι := Nat) [3, 12, 13] [] (fun j => [(14, .d (iv j))]) (fun j => [(10, g10, .arr 3 1 (natsA (G.depHead l j)))]) (fun j => j ≤ (G.dRows l).length) (fun j => (G.dRows l).length - j) (0) (Nat.zero_le _) ⟨Sub.rfl, trivial⟩ ⟨obeq (by rw [natsA_rep]; rfl), trivial⟩ ?_
  rintro j hk0
  refine Aw_seq ?_
  refine Aw_region ?_
  refine Al_pu (Pu_cmp rfl rfl rfl rfl) rfl rfl (by decide) (by kernel_rfl) ?_
  refine Al_nil ?_
  refine Aw_seq ?_
  refine Aw_cond rfl (fun h15 => ?_) (fun h15 => ?_)
  · (try simp only [decide_eq_true_eq, decide_eq_false_iff_not, Bool.and_eq_true, Bool.or_eq_true, Bool.and_eq_false_iff, Bool.or_eq_false_iff, Bool.not_eq_true', Bool.not_eq_false', beq_iff_eq, Bool.not_eq_eq_eq_not, Bool.not_true, Bool.not_false, List.length_map, Bool.and_true, Bool.and_false, Bool.false_and, Bool.true_and, Bool.or_false, Bool.false_or] at h15)
    have hj : j < l.length := by omega
    have hdn := G.dirN_len l j
    have hat := G.dRows_at l hj
    have hhl : (natsA (G.depHead l j)).length = l.length := by rw [natsA_len, G.depHead_len l (Nat.le_of_lt hj)]
    refine Aw_skip ?_
    refine Aw_seq ?_
    refine Aw_block ?_
    refine Aw_seq ?_
    refine Aw_region ?_
    refine Al_pu (Pu_move (.inl rfl) (by conv => lhs; whnf)) rfl rfl (by decide) (by kernel_rfl) ?_
    refine Al_pu (Pu_index rfl Try.underlying56 Try.sizeOf27 rfl rfl (rfl) (hat)) rfl rfl (by decide) (by kernel_rfl) ?_
    refine Al_pu (Pu_load1 rfl Try.isAgg27 rfl rfl) rfl rfl (by decide) (by kernel_rfl) ?_
    refine Al_pu (Pu_move (.inr rfl) (by conv => lhs; whnf)) rfl rfl (by decide) (by kernel_rfl) ?_
    refine Al_pu (Pu_move (.inr rfl) (by conv => lhs; whnf)) rfl rfl (by decide) (by kernel_rfl) ?_
    refine Al_nil ?_
    refine Aw_seq ?_
    refine Aw_region ?_
    refine Al_pu (Pu_move (.inl rfl) (by conv => lhs; whnf)) rfl rfl (by decide) (by kernel_rfl) ?_
    refine Al_pu (Pu_move (.inl rfl) (by conv => lhs; whnf)) rfl rfl (by decide) (by kernel_rfl) ?_
    refine Al_pu (Pu_indexOw (j := j) rfl Try.underlying27 Try.sizeOf3 rfl rfl rfl rfl (by rw [hhl]; exact hj)) rfl rfl (by decide) (by kernel_rfl) ?_
    refine Al_storeArr (natsA (G.depRow l j 0)) rfl rfl rfl (by kernel_rfl) Try.sizeOf3 rfl rfl rfl rfl rfl (by rw [hhl]; omega) (by rw [hhl, natsA_len, G.depRow_len l hj]) (natsA_un _) (by rw [← G.depHead_set l hj]; exact natsA_set (by rw [G.depHead_len l (Nat.le_of_lt hj)]; exact hj) 1) ?_
    refine Al_nil ?_
    refine Aw_seq ?_
    refine Aw_region ?_
    refine Al_pu (Pu_move (.inl rfl) (by conv => lhs; whnf)) rfl rfl (by decide) (by kernel_rfl) ?_
    refine Al_pu (Pu_len rfl Try.underlying27 rfl (by first | exact List.length_map .. | exact rfl)) rfl rfl (by decide) (by kernel_rfl) ?_
    refine Al_pu (Pu_move (.inl rfl) (by conv => lhs; whnf)) rfl rfl (by decide) (by kernel_rfl) ?_
    refine Al_nil ?_
    refine Aw_block ?_
    refine Aw_loopk (ι := Nat) [3, 4, 12, 13, 14, 22, 23] [] (fun k => [(24, .d (iv k))]) (fun k => [(10, g10, .arr 3 1 (natsA (G.depRow l j k)))]) (fun k => k ≤ (G.dirN l j).length) (fun k => (G.dirN l j).length - k) (0) (Nat.zero_le _) ⟨Sub.rfl, trivial⟩ ⟨rfl, trivial⟩ ?_
    rintro k hk1
    refine Aw_seq ?_
    refine Aw_region ?_
    refine Al_pu (Pu_cmp rfl rfl rfl rfl) rfl rfl (by decide) (by kernel_rfl) ?_
    refine Al_nil ?_
    refine Aw_seq ?_
    refine Aw_cond rfl (fun h25 => ?_) (fun h25 => ?_)
    · (try simp only [decide_eq_true_eq, decide_eq_false_iff_not, Bool.and_eq_true, Bool.or_eq_true, Bool.and_eq_false_iff, Bool.or_eq_false_iff, Bool.not_eq_true', Bool.not_eq_false', beq_iff_eq, Bool.not_eq_eq_eq_not, Bool.not_true, Bool.not_false, List.length_map, Bool.and_true, Bool.and_false, Bool.false_and, Bool.true_and, Bool.or_false, Bool.false_or] at h25)
      have hk : k < (G.dirN l j).length := by omega
      have hdk := G.dirN_lt (List.getElem_mem hk)
      have hrl2 : (natsA (G.depRow l j k)).length = l.length := by rw [natsA_len, G.depRow_len l hj]
      have hrl3 : (G.depRow l j k).length = l.length := G.depRow_len l hj k
      have hle1 := G.depAt_le l (G.depTo l j) j (j + 1) (by omega) (fun x hx => by have := G.depTo_le l j x hx; omega) k (by omega)
      have hle2 := G.depTo_le l j _ hdk
      have hra := G.depRow_at l j k
      have hrb := G.depRow_lt l k hdk
      refine Aw_skip ?_
      refine Aw_seq ?_
      refine Aw_block ?_
      refine Aw_seq ?_
      refine Aw_region ?_
      refine Al_pu (Pu_index rfl Try.underlying27 Try.sizeOf3 rfl rfl (rfl) (mapget hk)) rfl rfl (by decide) (by kernel_rfl) ?_
      refine Al_pu (Pu_load1 rfl Try.isAgg3 rfl rfl) rfl rfl (by decide) (by kernel_rfl) ?_
      refine Al_pu (Pu_move (.inr rfl) (by conv => lhs; whnf)) rfl rfl (by decide) (by kernel_rfl) ?_
      refine Al_nil ?_
      refine Aw_draw 13 (by kernel_rfl) (by kernel_rfl) ?_
      refine Dr_pu (Pu_move (.inl rfl) (by conv => lhs; whnf)) rfl rfl ?_
      refine Dr_pu (Pu_move (.inl rfl) (by conv => lhs; whnf)) rfl rfl ?_
      refine Dr_pu (Pu_move (.inl rfl) (by conv => lhs; whnf)) rfl rfl ?_
      refine Dr_pu (Pu_move (.inl rfl) (by conv => lhs; whnf)) rfl rfl ?_
      refine Dr_pu (Pu_indexOw (j := j) rfl Try.underlying27 Try.sizeOf3 rfl rfl rfl rfl (by rw [hrl2]; exact hj)) rfl rfl ?_
      refine Dr_pu (Pu_loadArr rfl Try.isAgg3 rfl rfl (natsA_at (by rw [hrl3]; exact hj))) rfl rfl ?_
      refine Dr_pu (Pu_move (.inl rfl) (by conv => lhs; whnf)) rfl rfl ?_
      refine Dr_pu (Pu_move (.inl rfl) (by conv => lhs; whnf)) rfl rfl ?_
      refine Dr_pu (Pu_indexOw (j := (G.dirN l j)[k]'hk) rfl Try.underlying27 Try.sizeOf3 rfl rfl rfl rfl (by rw [hrl2]; omega)) rfl rfl ?_
      refine Dr_pu (Pu_loadArr rfl Try.isAgg3 rfl rfl (natsA_at (by rw [hrl3]; omega))) rfl rfl ?_
      refine Dr_pu (Pu_add rfl rfl rfl (fun h1 h2 => by simp only [A.inI]; omega)) rfl rfl ?_
      refine Dr_pu (Pu_max2 (c := (G.depAt l (G.depTo l j) j (k + 1) : Nat)) rfl rfl rfl (by rw [hra, hrb, G.depAt_succ l _ j hk, G.depS]; split <;> omega)) rfl rfl ?_
      refine Dr_pu (Pu_indexOw (j := j) rfl Try.underlying27 Try.sizeOf3 rfl rfl rfl rfl (by rw [hrl2]; exact hj)) rfl rfl ?_
      refine Dr_nil ?_
      refine Al_storeArr (natsA (G.depRow l j (k + 1))) rfl rfl rfl (by kernel_rfl) Try.sizeOf3 rfl rfl rfl rfl rfl (by rw [hrl2]; omega) (by rw [hrl2, natsA_len, G.depRow_len l hj]) (natsA_un _) (by rw [show G.depRow l j (k + 1) = (G.depRow l j k).set j (G.depAt l (G.depTo l j) j (k + 1)) from by rw [G.depRow_set]; rfl]; exact natsA_set (by rw [hrl3]; exact hj) _) ?_
      refine Al_nil ?_
      refine Aw_region ?_
      refine Al_pu (Pu_add rfl rfl rfl (fun h1 h2 => by simp only [A.inI, A.maxI] at *; omega)) rfl rfl (by decide) (by kernel_rfl) ?_
      refine Al_pu (Pu_move (.inl rfl) (by conv => lhs; whnf)) rfl rfl (by decide) (by kernel_rfl) ?_
      refine Al_nil ?_
      exact ⟨k + 1, by omega, by omega, Le.ov ⟨Sub.num (by omega), trivial⟩ ⟨Sub.rfl, Sub.rfl, Sub.rfl, Sub.rfl, Sub.rfl, Sub.rfl, Sub.rfl, trivial⟩ ⟨rfl, trivial⟩ trivial⟩ -- loop 1 next.0
    · (try simp only [decide_eq_true_eq, decide_eq_false_iff_not, Bool.and_eq_true, Bool.or_eq_true, Bool.and_eq_false_iff, Bool.or_eq_false_iff, Bool.not_eq_true', Bool.not_eq_false', beq_iff_eq, Bool.not_eq_eq_eq_not, Bool.not_true, Bool.not_false, List.length_map, Bool.and_true, Bool.and_false, Bool.false_and, Bool.true_and, Bool.or_false, Bool.false_or] at h25)
      have hkk : k = (G.dirN l j).length := by omega
      refine Aw_exit ?_
      refine Aw_region ?_
      refine Al_pu (Pu_add rfl rfl rfl (fun h1 h2 => by simp only [A.inI, A.maxI] at *; omega)) rfl rfl (by decide) (by kernel_rfl) ?_
      refine Al_pu (Pu_move (.inl rfl) (by conv => lhs; whnf)) rfl rfl (by decide) (by kernel_rfl) ?_
      refine Al_nil ?_
      exact ⟨j + 1, by omega, by omega, Le.ov ⟨Sub.num (by omega), trivial⟩ ⟨Sub.rfl, Sub.rfl, Sub.rfl, trivial⟩ ⟨obeq (by rw [hkk, G.depRow_all]), trivial⟩ trivial⟩ -- loop 0 next.0
  · (try simp only [decide_eq_true_eq, decide_eq_false_iff_not, Bool.and_eq_true, Bool.or_eq_true, Bool.and_eq_false_iff, Bool.or_eq_false_iff, Bool.not_eq_true', Bool.not_eq_false', beq_iff_eq, Bool.not_eq_eq_eq_not, Bool.not_true, Bool.not_false, List.length_map, Bool.and_true, Bool.and_false, Bool.false_and, Bool.true_and, Bool.or_false, Bool.false_or] at h15)
    have hjj : j = l.length := by omega
    refine Aw_exit ?_
    refine Aw_seq ?_
    refine Aw_region ?_
    refine Al_pu (Pu_move (.inl rfl) (by conv => lhs; whnf)) rfl rfl (by decide) (by kernel_rfl) ?_
    refine Al_pu (Pu_move (.inr rfl) (by conv => lhs; whnf)) rfl rfl (by decide) (by kernel_rfl) ?_
    refine Al_nil ?_
    refine Aw_frz hnl (k := 10) [2] rfl ⟨rfl, trivial⟩ ?_
    refine Aw_ret ?_
    exact Sub.d (by rw [hjj, G.depHead_all]) -- ret 0
/-! ### what was seen -/
namespace G
def depE (e : Event) : Dep := ⟨e.key, e.n, e.s⟩
def seenS (l : List Event) (p : List Dep) (j : Nat) : List Dep := if (l.getD j default).kind = 1 then D.add p (depE (l.getD j default)) else p
def seenTo (l : List Event) (js : List Nat) (k : Nat) : List Dep := (js.take k).foldl (seenS l) []
theorem seenTo_succ (l : List Event) (js : List Nat) {k : Nat} (hk : k < js.length) : seenTo l js (k + 1) = seenS l (seenTo l js k) js[k] := by
  unfold seenTo
  rw [List.take_succ_eq_append_getElem hk, List.foldl_append]; rfl
theorem seenTo_good (l : List Event) (js : List Nat) : ∀ (k : Nat), k ≤ js.length → D.Good (seenTo l js k) ∧ (seenTo l js k).length ≤ k
  | 0, _ => ⟨D.good_nil, Nat.le_refl _⟩
  | k + 1, hk => by
    obtain ⟨h1, h2⟩ := seenTo_good l js k (by omega)
    rw [seenTo_succ l js (by omega)]
    unfold seenS
    split
    · have := D.add_len (seenTo l js k) (depE (l.getD js[k] default))
      exact ⟨D.add_good h1 _, by omega⟩
    · exact ⟨h1, by omega⟩
def seen (l : List Event) (i : Int) : List Dep := seenTo l (aheadI l i) (aheadI l i).length
theorem seen_good (l : List Event) (i : Int) : D.Good (seen l i) := (seenTo_good l _ _ (Nat.le_refl _)).1
theorem seen_len (l : List Event) (i : Int) : (seen l i).length ≤ l.length := Nat.le_trans (seenTo_good l _ _ (Nat.le_refl _)).2 (aheadI_len l i)
def wrB (e w : Event) : Bool := decide (w.kind = 1) && w.key.toList == e.key.toList && (w.n == e.n && w.s == e.s)
def writtenB (l : List Event) (i : Nat) : Bool := ((l.getD i default).n == 0 && (l.getD i default).s == 0) || (l.take i).any (wrB (l.getD i default))
def badB (l : List Event) (i : Nat) : Bool := decide ((l.getD i default).kind = 2) && (!writtenB l i || D.lessB (l.getD i default).n (l.getD i default).s (D.get (seen l i) (l.getD i default).key).1 (D.get (seen l i) (l.getD i default).key).2)
def fine (l : List Event) : Int := S.find (badB l) (List.range l.length)
end G
set_option maxRecDepth 100000 in
set_option maxHeartbeats 1000000 in
theorem gseen_a (l : List Event) (hl : l.length ≤ 1000) (i : Int) : ACall Try.prog 17 [.sl 6 (l.map Event.row), iv i] (.sl 3 ((G.seen l i).map Dep.row)) := by
  refine ACall_enter (fun _ _ => by kernel_rfl) Try.func17 rfl Try.ntmps17 Try.results17 (Nat.le_of_ble_eq_true rfl) (fun hok M0 w0 hnl => ?_)
  have hA := gahead_a l hl i
  have hal := G.aheadI_len l i
  refine Aw_seq ?_
  refine Aw_region ?_
  refine Al_pu (Pu_move (.inr rfl) (by conv => lhs; whnf)) rfl rfl (by decide) (by kernel_rfl) ?_
  refine Al_nil ?_
  refine Aw_seq ?_
  refine Aw_region ?_
  refine Al_pu (Pu_move (.inr rfl) (by conv => lhs; whnf)) rfl rfl (by decide) (by kernel_rfl) ?_
  refine Al_nil ?_
  refine Aw_seq ?_
  refine Aw_seq ?_
  refine Aw_region ?_
  refine Al_pu (Pu_move (.inl rfl) (by conv => lhs; whnf)) rfl rfl (by decide) (by kernel_rfl) ?_
  refine Al_pu (Pu_move (.inl rfl) (by conv => lhs; whnf)) rfl rfl (by decide) (by kernel_rfl) ?_
  refine Al_pu (Pu_call (hA) rfl ⟨Sub.rfl, Sub.rfl, trivial⟩) rfl rfl (by decide) (by kernel_rfl) ?_
  refine Al_pu (Pu_len rfl Try.underlying27 rfl (by first | exact List.length_map .. | exact rfl)) rfl rfl (by decide) (by kernel_rfl) ?_
  refine Al_pu (Pu_move (.inl rfl) (by conv => lhs; whnf)) rfl rfl (by decide) (by kernel_rfl) ?_
  refine Al_nil ?_
  refine Aw_block ?_
  refine Aw_loopk (ι := Nat) [0, 10, 11] [] (fun k => [(12, .d (iv k)), (5, .d (.sl 3 ((G.seenTo l (G.aheadI l i) k).map Dep.row)))]) (fun k => []) (fun k => k ≤ (G.aheadI l i).length) (fun k => (G.aheadI l i).length - k) (0) (Nat.zero_le _) ⟨Sub.rfl, Sub.nil, trivial⟩ trivial ?_
  rintro k hk0
  refine Aw_seq ?_
  refine Aw_region ?_
  refine Al_pu (Pu_cmp rfl rfl rfl rfl) rfl rfl (by decide) (by kernel_rfl) ?_
  refine Al_nil ?_
  refine Aw_seq ?_
  refine Aw_cond rfl (fun h13 => ?_) (fun h13 => ?_)
  · (try simp only [decide_eq_true_eq, decide_eq_false_iff_not, Bool.and_eq_true, Bool.or_eq_true, Bool.and_eq_false_iff, Bool.or_eq_false_iff, Bool.not_eq_true', Bool.not_eq_false', beq_iff_eq, Bool.not_eq_eq_eq_not, Bool.not_true, Bool.not_false, List.length_map, Bool.and_true, Bool.and_false, Bool.false_and, Bool.true_and, Bool.or_false, Bool.false_or] at h13)
    have hk : k < (G.aheadI l i).length := by omega
    have hjl := G.aheadI_lt (List.getElem_mem hk)
    obtain ⟨hg1, hg2⟩ := G.seenTo_good l (G.aheadI l i) k (by omega)
    have hpa := padd_a (G.seenTo l (G.aheadI l i) k) (G.depE (l.getD ((G.aheadI l i)[k]'hk) default)) hg1 (by omega)
    have hss := G.seenTo_succ l (G.aheadI l i) hk
    refine Aw_skip ?_
    -- join 0: live [0, 5, 10, 11, 12], turned [5]
    refine Aw_seq ?_
    refine Aw_block ?_
    refine Aw_seq ?_
    refine Aw_region ?_
    refine Al_pu (Pu_index rfl Try.underlying27 Try.sizeOf3 rfl rfl (rfl) (mapget hk)) rfl rfl (by decide) (by kernel_rfl) ?_
    refine Al_pu (Pu_load1 rfl Try.isAgg3 rfl rfl) rfl rfl (by decide) (by kernel_rfl) ?_
    refine Al_pu (Pu_move (.inr rfl) (by conv => lhs; whnf)) rfl rfl (by decide) (by kernel_rfl) ?_
    refine Al_nil ?_
    refine Aw_seq ?_
    refine Aw_region ?_
    refine Al_pu (Pu_move (.inl rfl) (by conv => lhs; whnf)) rfl rfl (by decide) (by kernel_rfl) ?_
    refine Al_pu (Pu_move (.inl rfl) (by conv => lhs; whnf)) rfl rfl (by decide) (by kernel_rfl) ?_
    refine Al_pu (Pu_index rfl Try.underlying24 Try.sizeOf33 rfl rfl (rfl) (mapgetD (d := default) hjl)) rfl rfl (by decide) (by kernel_rfl) ?_
    refine Al_pu (Pu_field 0 rfl Try.underlying33 rfl rfl Try.sizeOf3 rfl) rfl rfl (by decide) (by kernel_rfl) ?_
    refine Al_pu (Pu_load1 rfl Try.isAgg3 rfl rfl) rfl rfl (by decide) (by kernel_rfl) ?_
    refine Al_pu (Pu_cmp rfl rfl rfl rfl) rfl rfl (by decide) (by kernel_rfl) ?_
    refine Al_nil ?_
    refine Aw_cond rfl (fun h21 => ?_) (fun h21 => ?_)
    · skip
      have hst := of_decide_eq_true h21
      refine Aw_draw 13 (by kernel_rfl) (by kernel_rfl) ?_
      refine Dr_pu (Pu_move (.inl rfl) (by conv => lhs; whnf)) rfl rfl ?_
      refine Dr_pu (Pu_move (.inl rfl) (by conv => lhs; whnf)) rfl rfl ?_
      refine Dr_pu (Pu_move (.inl rfl) (by conv => lhs; whnf)) rfl rfl ?_
      refine Dr_pu (Pu_index rfl Try.underlying24 Try.sizeOf33 rfl rfl (rfl) (mapgetD (d := default) hjl)) rfl rfl ?_
      refine Dr_pu (Pu_field 2 rfl Try.underlying33 rfl rfl Try.sizeOf9 rfl) rfl rfl ?_
      refine Dr_pu (Pu_load1 rfl Try.isAgg9 rfl rfl) rfl rfl ?_
      refine Dr_pu (Pu_move (.inl rfl) (by conv => lhs; whnf)) rfl rfl ?_
      refine Dr_pu (Pu_move (.inl rfl) (by conv => lhs; whnf)) rfl rfl ?_
      refine Dr_pu (Pu_index rfl Try.underlying24 Try.sizeOf33 rfl rfl (rfl) (mapgetD (d := default) hjl)) rfl rfl ?_
      refine Dr_pu (Pu_field 3 rfl Try.underlying33 rfl rfl Try.sizeOf30 rfl) rfl rfl ?_
      refine Dr_pu (Pu_loadN rfl Try.isAgg30 Try.sizeOf30 rfl (Nat.le_of_ble_eq_true rfl)) rfl rfl ?_
      refine Dr_pu (Pu_build (aa := [(0, _), (1, _)]) rfl Try.underlying60 Try.zeroValue60 (places60 Try.underlying60) (by kernel_rfl) ⟨rfl, rfl, rfl, rfl, rfl, rfl, trivial⟩ rfl) rfl rfl ?_
      refine Dr_pu (Pu_call (hpa) rfl ⟨Sub.rfl, Sub.rfl, trivial⟩) rfl rfl ?_
      refine Dr_nil ?_
      refine Al_pu (Pu_move (.inr rfl) (by conv => lhs; whnf)) rfl rfl (by decide) (by kernel_rfl) ?_
      refine Al_nil ?_
      refine Aw_region ?_
      refine Al_pu (Pu_add rfl rfl rfl (fun h1 h2 => by simp only [A.inI, A.maxI] at *; omega)) rfl rfl (by decide) (by kernel_rfl) ?_
      refine Al_pu (Pu_move (.inl rfl) (by conv => lhs; whnf)) rfl rfl (by decide) (by kernel_rfl) ?_
      refine Al_nil ?_
      exact ⟨k + 1, by omega, by omega, Le.ov ⟨Sub.num (by omega), Sub.d (by rw [hss]; unfold G.seenS; rw [if_pos hst]), trivial⟩ ⟨Sub.rfl, Sub.rfl, Sub.rfl, trivial⟩ trivial trivial⟩ -- loop 0 next.0
    · skip
      have hst := of_decide_eq_false h21
      refine Aw_skip ?_
      refine Aw_region ?_
      refine Al_pu (Pu_add rfl rfl rfl (fun h1 h2 => by simp only [A.inI, A.maxI] at *; omega)) rfl rfl (by decide) (by kernel_rfl) ?_
      refine Al_pu (Pu_move (.inl rfl) (by conv => lhs; whnf)) rfl rfl (by decide) (by kernel_rfl) ?_
      refine Al_nil ?_
      exact ⟨k + 1, by omega, by omega, Le.ov ⟨Sub.num (by omega), Sub.d (by rw [hss]; unfold G.seenS; rw [if_neg hst]), trivial⟩ ⟨Sub.rfl, Sub.rfl, Sub.rfl, trivial⟩ trivial trivial⟩ -- loop 0 next.1
  · (try simp only [decide_eq_true_eq, decide_eq_false_iff_not, Bool.and_eq_true, Bool.or_eq_true, Bool.and_eq_false_iff, Bool.or_eq_false_iff, Bool.not_eq_true', Bool.not_eq_false', beq_iff_eq, Bool.not_eq_eq_eq_not, Bool.not_true, Bool.not_false, List.length_map, Bool.and_true, Bool.and_false, Bool.false_and, Bool.true_and, Bool.or_false, Bool.false_or] at h13)
    have hkk : k = (G.aheadI l i).length := by omega
    refine Aw_exit ?_
    refine Aw_seq ?_
    refine Aw_region ?_
    refine Al_pu (Pu_move (.inl rfl) (by conv => lhs; whnf)) rfl rfl (by decide) (by kernel_rfl) ?_
    refine Al_pu (Pu_move (.inr rfl) (by conv => lhs; whnf)) rfl rfl (by decide) (by kernel_rfl) ?_
    refine Al_nil ?_
    refine Aw_ret ?_
    exact Sub.d (by rw [hkk]; rfl) -- ret 0
set_option maxRecDepth 100000 in
theorem written1_a (e w : Event) : ACall Try.prog 43 [.row (Event.row w), .fp (Event.row e)] (bv (G.wrB e w)) := by
  refine ACall_enter (fun _ _ => by kernel_rfl) Try.func43 rfl Try.ntmps43 Try.results43 (Nat.le_of_ble_eq_true rfl) (fun hok M0 w0 hnl => ?_)
  refine Aw_seq ?_
  refine Aw_region ?_
  refine Al_pu (Pu_boxN rfl rfl) rfl rfl (by decide) (by kernel_rfl) ?_
  refine Al_pu (Pu_move (.inr rfl) (by conv => lhs; whnf)) rfl rfl (by decide) (by kernel_rfl) ?_
  refine Al_nil ?_
  refine Aw_seq ?_
  refine Aw_region ?_
  refine Al_pu (Pu_field 0 rfl Try.underlying33 rfl rfl Try.sizeOf3 rfl) rfl rfl (by decide) (by kernel_rfl) ?_
  refine Al_pu (Pu_load1 rfl Try.isAgg3 rfl rfl) rfl rfl (by decide) (by kernel_rfl) ?_
  refine Al_pu (Pu_cmp rfl rfl rfl rfl) rfl rfl (by decide) (by kernel_rfl) ?_
  refine Al_pu (Pu_move (.inl rfl) (by conv => lhs; whnf)) rfl rfl (by decide) (by kernel_rfl) ?_
  refine Al_st (St_gd [] rfl rfl rfl rfl trivial (fun hg8 => Pu_field 2 rfl Try.underlying33 rfl rfl Try.sizeOf9 rfl)) rfl (by decide) (by kernel_rfl) (by intro j b oj dj h1 h2 h3; cases h1; cases h2; cases h3; decide) ?_
  refine Al_st (St_gd [8] rfl rfl rfl rfl ⟨⟨_, rfl⟩, trivial⟩ (fun hg9 => Pu_load1 rfl Try.isAgg9 rfl rfl)) rfl (by decide) (by kernel_rfl) (by intro j b oj dj h1 h2 h3; cases h1; cases h2; cases h3; decide) ?_
  refine Al_st (St_gd [] rfl rfl rfl rfl trivial (fun hg10 => Pu_field 2 rfl Try.underlying33 rfl rfl Try.sizeOf9 rfl)) rfl (by decide) (by kernel_rfl) (by intro j b oj dj h1 h2 h3; cases h1; cases h2; cases h3; decide) ?_
  refine Al_st (St_gd [10] rfl rfl rfl rfl ⟨⟨_, rfl⟩, trivial⟩ (fun hg11 => Pu_load1 rfl Try.isAgg9 rfl rfl)) rfl (by decide) (by kernel_rfl) (by intro j b oj dj h1 h2 h3; cases h1; cases h2; cases h3; decide) ?_
  refine Al_st (St_gd [9, 11] rfl rfl rfl rfl ⟨⟨_, rfl⟩, ⟨_, rfl⟩, trivial⟩ (fun hg12 => Pu_str rfl rfl rfl rfl)) rfl (by decide) (by kernel_rfl) (by intro j b oj dj h1 h2 h3; cases h1; cases h2; cases h3; decide) ?_
  refine Al_pu (Pu_and rfl rfl rfl rfl) rfl rfl (by decide) (by kernel_rfl) ?_
  refine Al_pu (Pu_move (.inl rfl) (by conv => lhs; whnf)) rfl rfl (by decide) (by kernel_rfl) ?_
  refine Al_st (St_gd [] rfl rfl rfl rfl trivial (fun hg15 => Pu_field 3 rfl Try.underlying33 rfl rfl Try.sizeOf30 rfl)) rfl (by decide) (by kernel_rfl) (by intro j b oj dj h1 h2 h3; cases h1; cases h2; cases h3; decide) ?_
  refine Al_st (St_gd [15] rfl rfl rfl rfl ⟨⟨_, rfl⟩, trivial⟩ (fun hg16 => Pu_loadN rfl Try.isAgg30 Try.sizeOf30 rfl (Nat.le_of_ble_eq_true rfl))) rfl (by decide) (by kernel_rfl) (by intro j b oj dj h1 h2 h3; cases h1; cases h2; cases h3; decide) ?_
  refine Al_st (St_gd [] rfl rfl rfl rfl trivial (fun hg17 => Pu_field 3 rfl Try.underlying33 rfl rfl Try.sizeOf30 rfl)) rfl (by decide) (by kernel_rfl) (by intro j b oj dj h1 h2 h3; cases h1; cases h2; cases h3; decide) ?_
  refine Al_st (St_gd [17] rfl rfl rfl rfl ⟨⟨_, rfl⟩, trivial⟩ (fun hg18 => Pu_loadN rfl Try.isAgg30 Try.sizeOf30 rfl (Nat.le_of_ble_eq_true rfl))) rfl (by decide) (by kernel_rfl) (by intro j b oj dj h1 h2 h3; cases h1; cases h2; cases h3; decide) ?_
  refine Al_st (St_gd [16, 18] rfl rfl rfl rfl ⟨⟨_, rfl⟩, ⟨_, rfl⟩, trivial⟩ (fun hg19 => Pu_eqrow [.int .i64 _, .int .i64 _] [.int .i64 _, .int .i64 _] (fun w => eqv30 _ _ _ _ _ _ w) rfl rfl rfl)) rfl (by decide) (by kernel_rfl) (by intro j b oj dj h1 h2 h3; cases h1; cases h2; cases h3; decide) ?_
  refine Al_pu (Pu_and rfl rfl rfl rfl) rfl rfl (by decide) (by kernel_rfl) ?_
  refine Al_pu (Pu_move (.inr rfl) (by conv => lhs; whnf)) rfl rfl (by decide) (by kernel_rfl) ?_
  refine Al_nil ?_
  refine Aw_ret ?_
  exact Sub.rfl -- ret 0
set_option maxRecDepth 100000 in
theorem indexE_a (l : List Event) (f : FuncId) (caps : List AV) (p : Event → Bool) (hf : ∀ x, ACall Try.prog f ([.row (Event.row x)] ++ caps) (bv (p x))) : ACall Try.prog 57 [.sl 6 (l.map Event.row), .fn f caps] (iv (S.find p l)) := by
  refine ACall_enter (fun _ _ => by kernel_rfl) Try.func57 rfl Try.ntmps57 Try.results57 (Nat.le_of_ble_eq_true rfl) (fun hok M0 w0 hnl => ?_)
  have hlen := (hok _ (List.mem_cons_self ..)).len
  rw [List.length_map] at hlen
  refine Aw_seq ?_
  refine Aw_region ?_
  refine Al_pu (Pu_move (.inr rfl) (by conv => lhs; whnf)) rfl rfl (by decide) (by kernel_rfl) ?_
  refine Al_nil ?_
  refine Aw_seq ?_
  refine Aw_seq ?_
  refine Aw_region ?_
  refine Al_pu (Pu_move (.inl rfl) (by conv => lhs; whnf)) rfl rfl (by decide) (by kernel_rfl) ?_
  refine Al_pu (Pu_len rfl Try.underlying24 rfl (by first | exact List.length_map .. | exact rfl)) rfl rfl (by decide) (by kernel_rfl) ?_
  refine Al_pu (Pu_move (.inl rfl) (by conv => lhs; whnf)) rfl rfl (by decide) (by kernel_rfl) ?_
  refine Al_nil ?_
  refine Aw_block ?_
  refine Aw_loopk (ι := Nat) [0, 1, 7] [] (fun k => [(8, .d (iv k))]) (fun k => []) (fun k => k ≤ l.length ∧ ∀ j (h : j < l.length), j < k → p l[j] = false) (fun k => l.length - k) (0) (⟨Nat.zero_le _, by intros; omega⟩) ⟨Sub.rfl, trivial⟩ trivial ?_
  rintro k ⟨hk0, hk2⟩
  refine Aw_seq ?_
  refine Aw_region ?_
  refine Al_pu (Pu_cmp rfl rfl rfl rfl) rfl rfl (by decide) (by kernel_rfl) ?_
  refine Al_nil ?_
  refine Aw_seq ?_
  refine Aw_cond rfl (fun h9 => ?_) (fun h9 => ?_)
  · (try simp only [decide_eq_true_eq, decide_eq_false_iff_not, Bool.and_eq_true, Bool.or_eq_true, Bool.and_eq_false_iff, Bool.or_eq_false_iff, Bool.not_eq_true', Bool.not_eq_false', beq_iff_eq, Bool.not_eq_eq_eq_not, Bool.not_true, Bool.not_false, List.length_map, Bool.and_true, Bool.and_false, Bool.false_and, Bool.true_and, Bool.or_false, Bool.false_or] at h9)
    have hk : k < l.length := by omega
    refine Aw_skip ?_
    refine Aw_seq ?_
    refine Aw_block ?_
    refine Aw_seq ?_
    refine Aw_region ?_
    refine Al_pu (Pu_move (.inl rfl) (by conv => lhs; whnf)) rfl rfl (by decide) (by kernel_rfl) ?_
    refine Al_pu (Pu_move (.inr rfl) (by conv => lhs; whnf)) rfl rfl (by decide) (by kernel_rfl) ?_
    refine Al_nil ?_
    refine Aw_seq ?_
    refine Aw_region ?_
    refine Al_pu (Pu_move (.inl rfl) (by conv => lhs; whnf)) rfl rfl (by decide) (by kernel_rfl) ?_
    refine Al_pu (Pu_move (.inl rfl) (by conv => lhs; whnf)) rfl rfl (by decide) (by kernel_rfl) ?_
    refine Al_pu (Pu_move (.inl rfl) (by conv => lhs; whnf)) rfl rfl (by decide) (by kernel_rfl) ?_
    refine Al_pu (Pu_index rfl Try.underlying24 Try.sizeOf33 rfl rfl (rfl) (mapget hk)) rfl rfl (by decide) (by kernel_rfl) ?_
    refine Al_pu (Pu_loadN rfl Try.isAgg33 Try.sizeOf33 rfl (Nat.le_of_ble_eq_true rfl)) rfl rfl (by decide) (by kernel_rfl) ?_
    refine Al_pu (Pu_callv (aa := [(fun x => .row (Event.row x)) l[k]]) (caps := caps) (hf l[k]) rfl rfl ⟨Sub.rfl, trivial⟩) rfl rfl (by decide) (by kernel_rfl) ?_
    refine Al_nil ?_
    refine Aw_cond rfl (fun h16 => ?_) (fun h16 => ?_)
    · skip
      refine Aw_seq ?_
      refine Aw_region ?_
      refine Al_pu (Pu_move (.inl rfl) (by conv => lhs; whnf)) rfl rfl (by decide) (by kernel_rfl) ?_
      refine Al_pu (Pu_move (.inr rfl) (by conv => lhs; whnf)) rfl rfl (by decide) (by kernel_rfl) ?_
      refine Al_nil ?_
      refine Aw_ret ?_
      exact Sub.num (S.find_at hk h16 hk2) -- ret 0
    · skip
      have h16' : p l[k] = false := h16
      refine Aw_skip ?_
      refine Aw_region ?_
      refine Al_pu (Pu_add rfl rfl rfl (fun h1 h2 => by simp only [A.inI, A.maxI] at *; omega)) rfl rfl (by decide) (by kernel_rfl) ?_
      refine Al_pu (Pu_move (.inl rfl) (by conv => lhs; whnf)) rfl rfl (by decide) (by kernel_rfl) ?_
      refine Al_nil ?_
      exact ⟨k + 1, ⟨by omega, fun j hj hjk => by
        by_cases e : j = k
        · subst e; exact h16'
        · exact hk2 j hj (by omega)⟩, by omega, Le.ov ⟨Sub.num (by omega), trivial⟩ ⟨Sub.rfl, Sub.rfl, Sub.rfl, trivial⟩ trivial trivial⟩ -- loop 0 next.0
  · (try simp only [decide_eq_true_eq, decide_eq_false_iff_not, Bool.and_eq_true, Bool.or_eq_true, Bool.and_eq_false_iff, Bool.or_eq_false_iff, Bool.not_eq_true', Bool.not_eq_false', beq_iff_eq, Bool.not_eq_eq_eq_not, Bool.not_true, Bool.not_false, List.length_map, Bool.and_true, Bool.and_false, Bool.false_and, Bool.true_and, Bool.or_false, Bool.false_or] at h9)
    obtain rfl : k = l.length := by omega
    refine Aw_exit ?_
    refine Aw_seq ?_
    refine Aw_region ?_
    refine Al_pu (Pu_move (.inr rfl) (by conv => lhs; whnf)) rfl rfl (by decide) (by kernel_rfl) ?_
    refine Al_nil ?_
    refine Aw_ret ?_
    exact Sub.num (S.find_no hk2) -- ret 1
set_option maxRecDepth 100000 in
theorem containsE_a (l : List Event) (f : FuncId) (caps : List AV) (p : Event → Bool) (hf : ∀ x, ACall Try.prog f ([.row (Event.row x)] ++ caps) (bv (p x))) : ACall Try.prog 42 [.sl 6 (l.map Event.row), .fn f caps] (bv (l.any p)) := by
  refine ACall_enter (fun _ _ => by kernel_rfl) Try.func42 rfl Try.ntmps42 Try.results42 (Nat.le_of_ble_eq_true rfl) (fun hok M0 w0 hnl => ?_)
  refine Aw_seq ?_
  refine Aw_region ?_
  refine Al_pu (Pu_move (.inr rfl) (by conv => lhs; whnf)) rfl rfl (by decide) (by kernel_rfl) ?_
  refine Al_nil ?_
  refine Aw_seq ?_
  refine Aw_region ?_
  refine Al_pu (Pu_move (.inl rfl) (by conv => lhs; whnf)) rfl rfl (by decide) (by kernel_rfl) ?_
  refine Al_pu (Pu_move (.inl rfl) (by conv => lhs; whnf)) rfl rfl (by decide) (by kernel_rfl) ?_
  refine Al_pu (Pu_call (indexE_a l f caps p hf) rfl ⟨Sub.rfl, Sub.rfl, trivial⟩) rfl rfl (by decide) (by kernel_rfl) ?_
  refine Al_pu (Pu_cmp rfl rfl rfl rfl) rfl rfl (by decide) (by kernel_rfl) ?_
  refine Al_pu (Pu_move (.inr rfl) (by conv => lhs; whnf)) rfl rfl (by decide) (by kernel_rfl) ?_
  refine Al_nil ?_
  refine Aw_ret ?_
  exact Sub.bool S.find_any -- ret 0
set_option maxRecDepth 100000 in
theorem written_a (l : List Event) (i : Nat) (hi : i < l.length) : ACall Try.prog 24 [.sl 6 (l.map Event.row), iv i] (bv (G.writtenB l i)) := by
  refine ACall_enter (fun _ _ => by kernel_rfl) Try.func24 rfl Try.ntmps24 Try.results24 (Nat.le_of_ble_eq_true rfl) (fun hok M0 w0 hnl => ?_)
  refine Aw_seq ?_
  refine Aw_region ?_
  refine Al_pu (Pu_move (.inr rfl) (by conv => lhs; whnf)) rfl rfl (by decide) (by kernel_rfl) ?_
  refine Al_nil ?_
  refine Aw_seq ?_
  refine Aw_region ?_
  refine Al_pu (Pu_build (aa := []) rfl Try.underlying30 Try.zeroValue30 (places30 Try.underlying30) (by kernel_rfl) trivial rfl) rfl rfl (by decide) (by kernel_rfl) ?_
  refine Al_alloc rfl rfl rfl (by decide) Try.zeroValue30 rfl (by kernel_rfl) (fun g5 => ?_)
  refine Al_storeN rfl rfl rfl (by kernel_rfl) Try.isAgg30 Try.sizeOf30 rfl rfl rfl rfl (Nat.le_of_ble_eq_true rfl) ?_
  refine Al_nil ?_
  refine Aw_seq ?_
  refine Aw_region ?_
  refine Al_pu (Pu_move (.inl rfl) (by conv => lhs; whnf)) rfl rfl (by decide) (by kernel_rfl) ?_
  refine Al_pu (Pu_move (.inl rfl) (by conv => lhs; whnf)) rfl rfl (by decide) (by kernel_rfl) ?_
  refine Al_pu (Pu_index rfl Try.underlying24 Try.sizeOf33 rfl rfl (rfl) (mapgetD (d := default) hi)) rfl rfl (by decide) (by kernel_rfl) ?_
  refine Al_pu (Pu_loadN rfl Try.isAgg33 Try.sizeOf33 rfl (Nat.le_of_ble_eq_true rfl)) rfl rfl (by decide) (by kernel_rfl) ?_
  refine Al_alloc rfl rfl rfl (by decide) Try.zeroValue33 rfl (by kernel_rfl) (fun g6 => ?_)
  refine Al_storeN rfl rfl rfl (by kernel_rfl) Try.isAgg33 Try.sizeOf33 rfl rfl rfl rfl (Nat.le_of_ble_eq_true rfl) ?_
  refine Al_nil ?_
  refine Aw_seq ?_
  refine Aw_frzb hnl (k := 6) (cs := Event.row (l.getD i default)) [6] rfl ⟨rfl, trivial⟩ ?_
  refine Aw_region ?_
  refine Al_pu (Pu_field 3 rfl Try.underlying33 rfl rfl Try.sizeOf30 rfl) rfl rfl (by decide) (by kernel_rfl) ?_
  refine Al_pu (Pu_loadN rfl Try.isAgg30 Try.sizeOf30 rfl (Nat.le_of_ble_eq_true rfl)) rfl rfl (by decide) (by kernel_rfl) ?_
  refine Al_pu (Pu_loadbN (r := [_, _]) rfl Try.isAgg30 Try.sizeOf30 rfl rfl rfl rfl) rfl rfl (by decide) (by kernel_rfl) ?_
  refine Al_pu (Pu_eqrow [.int .i64 _, .int .i64 _] [.int .i64 _, .int .i64 _] (fun w => eqv30 _ _ _ _ _ _ w) rfl rfl rfl) rfl rfl (by decide) (by kernel_rfl) ?_
  refine Al_pu (Pu_move (.inl rfl) (by conv => lhs; whnf)) rfl rfl (by decide) (by kernel_rfl) ?_
  refine Al_st (St_gd [] rfl rfl rfl rfl trivial (fun hg17 => by exact Pu_move (.inl rfl) (by conv => lhs; whnf))) rfl (by decide) (by kernel_rfl) (by intro j b oj dj h1 h2 h3; cases h1; cases h2; cases h3; decide) ?_
  refine Al_st (St_gd [] rfl rfl rfl rfl trivial (fun hg18 => by exact Pu_move (.inl rfl) (by conv => lhs; whnf))) rfl (by decide) (by kernel_rfl) (by intro j b oj dj h1 h2 h3; cases h1; cases h2; cases h3; decide) ?_
  refine Al_st (St_gd [17, 18] rfl rfl rfl rfl ⟨⟨_, rfl⟩, ⟨_, rfl⟩, trivial⟩ (fun hg19 => by exact Pu_subL (0) (i) rfl Try.underlying24 Try.sizeOf33 rfl rfl ⟨_, rfl, by omega⟩ ⟨by first | omega | (simp; omega), by first | omega | (simp; omega)⟩)) rfl (by decide) (by kernel_rfl) (by intro j b oj dj h1 h2 h3; cases h1; cases h2; cases h3; decide) ?_
  refine Al_st (St_gd [] rfl rfl rfl rfl trivial (fun hg20 => Pu_makeFunc (caps := [.fp (Event.row (l.getD i default))]) rfl ⟨Sub.rfl, trivial⟩)) rfl (by decide) (by kernel_rfl) (by intro j b oj dj h1 h2 h3; cases h1; cases h2; cases h3; decide) ?_
  refine Al_st (St_gd [19, 20] rfl rfl rfl rfl ⟨⟨_, rfl⟩, ⟨_, rfl⟩, trivial⟩ (fun hg21 => by exact Pu_call (containsE_a (l.take i) _ _ _ (written1_a (l.getD i default))) rfl ⟨Sub.d (by simp [List.map_take]), Sub.rfl, trivial⟩)) rfl (by decide) (by kernel_rfl) (by intro j b oj dj h1 h2 h3; cases h1; cases h2; cases h3; decide) ?_
  refine Al_pu (Pu_or rfl rfl rfl rfl) rfl rfl (by decide) (by kernel_rfl) ?_
  refine Al_pu (Pu_move (.inr rfl) (by conv => lhs; whnf)) rfl rfl (by decide) (by kernel_rfl) ?_
  refine Al_nil ?_
  refine Aw_ret ?_
  exact Sub.rfl -- ret 0
theorem G.seen_srt (l : List Event) (i : Int) : D.Srt (G.seen l i) := (G.seen_good l i).srt
set_option maxRecDepth 100000 in
set_option maxHeartbeats 1000000 in
theorem gfine_a (l : List Event) (hl : l.length ≤ 1000) : ACall Try.prog 11 [.sl 6 (l.map Event.row)] (iv (G.fine l)) := by
  refine ACall_enter (fun _ _ => by kernel_rfl) Try.func11 rfl Try.ntmps11 Try.results11 (Nat.le_of_ble_eq_true rfl) (fun hok M0 w0 hnl => ?_)
  have hseen := fun (i : Nat) => gseen_a l hl (i : Int)
  refine Aw_seq ?_
  refine Aw_region ?_
  refine Al_pu (Pu_move (.inr rfl) (by conv => lhs; whnf)) rfl rfl (by decide) (by kernel_rfl) ?_
  refine Al_nil ?_
  refine Aw_seq ?_
  refine Aw_seq ?_
  refine Aw_region ?_
  refine Al_pu (Pu_move (.inl rfl) (by conv => lhs; whnf)) rfl rfl (by decide) (by kernel_rfl) ?_
  refine Al_pu (Pu_len rfl Try.underlying24 rfl (by first | exact List.length_map .. | exact rfl)) rfl rfl (by decide) (by kernel_rfl) ?_
  refine Al_pu (Pu_move (.inl rfl) (by conv => lhs; whnf)) rfl rfl (by decide) (by kernel_rfl) ?_
  refine Al_nil ?_
  refine Aw_block ?_
  refine Aw_loopk (ι := Nat) [0, 5, 6] [] (fun k => [(7, .d (iv k))]) (fun k => []) (fun k => k ≤ l.length ∧ ∀ j, j < k → G.badB l j = false) (fun k => l.length - k) (0) (⟨Nat.zero_le _, by intros; omega⟩) ⟨Sub.rfl, trivial⟩ trivial ?_
  rintro k ⟨hk0, hk2⟩
  refine Aw_seq ?_
  refine Aw_region ?_
  refine Al_pu (Pu_cmp rfl rfl rfl rfl) rfl rfl (by decide) (by kernel_rfl) ?_
  refine Al_nil ?_
  refine Aw_seq ?_
  refine Aw_cond rfl (fun h8 => ?_) (fun h8 => ?_)
  · (try simp only [decide_eq_true_eq, decide_eq_false_iff_not, Bool.and_eq_true, Bool.or_eq_true, Bool.and_eq_false_iff, Bool.or_eq_false_iff, Bool.not_eq_true', Bool.not_eq_false', beq_iff_eq, Bool.not_eq_eq_eq_not, Bool.not_true, Bool.not_false, List.length_map, Bool.and_true, Bool.and_false, Bool.false_and, Bool.true_and, Bool.or_false, Bool.false_or] at h8)
    have hk : k < l.length := by omega
    have hwr := written_a l k hk
    have hse := hseen k
    have hge := pget_a (G.seen l k) (l.getD k default).key (G.seen_srt l k) (by have := G.seen_len l k; omega)
    refine Aw_skip ?_
    refine Aw_seq ?_
    refine Aw_block ?_
    refine Aw_seq ?_
    refine Aw_region ?_
    refine Al_pu (Pu_move (.inl rfl) (by conv => lhs; whnf)) rfl rfl (by decide) (by kernel_rfl) ?_
    refine Al_pu (Pu_index rfl Try.underlying24 Try.sizeOf33 rfl rfl (rfl) (mapgetD (d := default) hk)) rfl rfl (by decide) (by kernel_rfl) ?_
    refine Al_pu (Pu_loadN rfl Try.isAgg33 Try.sizeOf33 rfl (Nat.le_of_ble_eq_true rfl)) rfl rfl (by decide) (by kernel_rfl) ?_
    refine Al_alloc rfl rfl rfl (by decide) Try.zeroValue33 rfl (by kernel_rfl) (fun g4 => ?_)
    refine Al_pu (Pu_move (.inr rfl) (by conv => lhs; whnf)) rfl rfl (by decide) (by kernel_rfl) ?_
    refine Al_storeN rfl rfl rfl (by kernel_rfl) Try.isAgg33 Try.sizeOf33 rfl rfl rfl rfl (Nat.le_of_ble_eq_true rfl) ?_
    refine Al_nil ?_
    refine Aw_seq ?_
    refine Aw_draw 20 (by kernel_rfl) (by kernel_rfl) ?_
    refine Dr_pu (Pu_fieldb 0 rfl Try.underlying33 rfl rfl Try.sizeOf3 rfl) rfl rfl ?_
    refine Dr_pu (Pu_loadb rfl Try.isAgg3 rfl rfl rfl) rfl rfl ?_
    refine Dr_pu (Pu_cmp rfl rfl rfl rfl) rfl rfl ?_
    refine Dr_pu (Pu_move (.inl rfl) (by conv => lhs; whnf)) rfl rfl ?_
    refine Dr_st (St_gd [] rfl rfl rfl rfl trivial (fun hg16 => by exact Pu_move (.inl rfl) (by conv => lhs; whnf))) rfl ?_
    refine Dr_st (St_gd [] rfl rfl rfl rfl trivial (fun hg17 => by exact Pu_move (.inl rfl) (by conv => lhs; whnf))) rfl ?_
    refine Dr_st (St_gd [16, 17] rfl rfl rfl rfl ⟨⟨_, rfl⟩, ⟨_, rfl⟩, trivial⟩ (fun hg18 => Pu_call (hwr) rfl ⟨Sub.rfl, Sub.rfl, trivial⟩)) rfl ?_
    refine Dr_st (St_gd [18] rfl rfl rfl rfl ⟨⟨_, rfl⟩, trivial⟩ (fun hg19 => Pu_not rfl rfl)) rfl ?_
    refine Dr_st (St_gd [19] rfl rfl rfl rfl ⟨⟨_, rfl⟩, trivial⟩ (fun hg20 => by exact Pu_move (.inl rfl) (by conv => lhs; whnf))) rfl ?_
    refine Dr_st (St_gd2 [] rfl rfl rfl rfl trivial (fun hp21 hg21 => Pu_fieldb 3 rfl Try.underlying33 rfl rfl Try.sizeOf30 rfl)) rfl ?_
    refine Dr_st (St_gd2 [21] rfl rfl rfl rfl ⟨⟨_, rfl⟩, trivial⟩ (fun hp22 hg22 => Pu_loadbN (r := [_, _]) rfl Try.isAgg30 Try.sizeOf30 rfl rfl rfl rfl)) rfl ?_
    refine Dr_st (St_gd2 [] rfl rfl rfl rfl trivial (fun hp23 hg23 => by exact Pu_move (.inl rfl) (by conv => lhs; whnf))) rfl ?_
    refine Dr_st (St_gd2 [] rfl rfl rfl rfl trivial (fun hp24 hg24 => by exact Pu_move (.inl rfl) (by conv => lhs; whnf))) rfl ?_
    refine Dr_st (St_gd2 [23, 24] rfl rfl rfl rfl ⟨⟨_, rfl⟩, ⟨_, rfl⟩, trivial⟩ (fun hp25 hg25 => Pu_call (hse) rfl ⟨Sub.rfl, Sub.rfl, trivial⟩)) rfl ?_
    refine Dr_st (St_gd2 [] rfl rfl rfl rfl trivial (fun hp26 hg26 => Pu_fieldb 2 rfl Try.underlying33 rfl rfl Try.sizeOf9 rfl)) rfl ?_
    refine Dr_st (St_gd2 [26] rfl rfl rfl rfl ⟨⟨_, rfl⟩, trivial⟩ (fun hp27 hg27 => Pu_loadb rfl Try.isAgg9 rfl rfl rfl)) rfl ?_
    refine Dr_st (St_gd2 [25, 27] rfl rfl rfl rfl ⟨⟨_, rfl⟩, ⟨_, rfl⟩, trivial⟩ (fun hp28 hg28 => Pu_call (hge) rfl ⟨Sub.rfl, Sub.rfl, trivial⟩)) rfl ?_
    refine Dr_st (St_gd2 [22, 28] rfl rfl rfl rfl ⟨⟨_, rfl⟩, ⟨_, rfl⟩, trivial⟩ (fun hp29 hg29 => Pu_call (less_a _ _ _ _) rfl ⟨Sub.rfl, Sub.rfl, trivial⟩)) rfl ?_
    refine Dr_st (St_gd [20] rfl rfl rfl rfl ⟨⟨_, rfl⟩, trivial⟩ (fun hg30 => Pu_orG rfl rfl rfl (fun h => ⟨hg30, h⟩) rfl)) rfl ?_
    refine Dr_pu (Pu_and rfl rfl rfl rfl) rfl rfl ?_
    refine Dr_nil ?_
    refine Al_nil ?_
    refine Aw_cond rfl (fun h31 => ?_) (fun h31 => ?_)
    · skip
      have hb : G.badB l k = true := h31
      have hff : G.fine l = k := by
        have := S.find_at (p := G.badB l) (l := List.range l.length) (k := k) (by simpa using hk) (by simpa using hb) (fun j hj hjk => by simpa using hk2 j hjk)
        simpa [G.fine] using this.symm
      refine Aw_seq ?_
      refine Aw_region ?_
      refine Al_pu (Pu_move (.inl rfl) (by conv => lhs; whnf)) rfl rfl (by decide) (by kernel_rfl) ?_
      refine Al_pu (Pu_move (.inr rfl) (by conv => lhs; whnf)) rfl rfl (by decide) (by kernel_rfl) ?_
      refine Al_nil ?_
      refine Aw_ret ?_
      exact Sub.num hff.symm -- ret 0
    · skip
      have hb : G.badB l k = false := h31
      refine Aw_skip ?_
      refine Aw_region ?_
      refine Al_pu (Pu_add rfl rfl rfl (fun h1 h2 => by simp only [A.inI, A.maxI] at *; omega)) rfl rfl (by decide) (by kernel_rfl) ?_
      refine Al_pu (Pu_move (.inl rfl) (by conv => lhs; whnf)) rfl rfl (by decide) (by kernel_rfl) ?_
      refine Al_nil ?_
      exact ⟨k + 1, ⟨by omega, fun j hj => by
        by_cases e : j = k
        · subst e; exact hb
        · exact hk2 j (by omega)⟩, by omega, Le.ov ⟨Sub.num (by omega), trivial⟩ ⟨Sub.rfl, Sub.rfl, Sub.rfl, trivial⟩ trivial trivial⟩ -- loop 0 next.0
  · (try simp only [decide_eq_true_eq, decide_eq_false_iff_not, Bool.and_eq_true, Bool.or_eq_true, Bool.and_eq_false_iff, Bool.or_eq_false_iff, Bool.not_eq_true', Bool.not_eq_false', beq_iff_eq, Bool.not_eq_eq_eq_not, Bool.not_true, Bool.not_false, List.length_map, Bool.and_true, Bool.and_false, Bool.false_and, Bool.true_and, Bool.or_false, Bool.false_or] at h8)
    have hkk : k = l.length := by omega
    have hff : G.fine l = -1 := (S.find_no (p := G.badB l) (l := List.range l.length) (fun j hj hjk => by
      rw [List.length_range] at hj
      simpa using hk2 j (by omega))).symm
    refine Aw_exit ?_
    refine Aw_seq ?_
    refine Aw_region ?_
    refine Al_pu (Pu_move (.inr rfl) (by conv => lhs; whnf)) rfl rfl (by decide) (by kernel_rfl) ?_
    refine Al_nil ?_
    refine Aw_ret ?_
    exact Sub.num hff.symm -- ret 1
end Go.Proofs.Ytgoncpjgpkoacaa
