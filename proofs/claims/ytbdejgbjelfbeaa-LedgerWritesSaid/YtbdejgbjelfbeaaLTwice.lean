/- LedgerParts, the plain law: an event behind a like one says that nothing is more, and nothing less. -/
import Derived.Test.YtbdejgbjelfbeaaLBytes
set_option linter.unusedSimpArgs false
set_option linter.unusedVariables false
namespace Go.Proofs.Ytbdejgbjelfbeaa
open Go.RowKit R
namespace L
def stepM (m : ByteArray → Option (Int × Int)) (d : Dep) : ByteArray → Option (Int × Int) := fun c => if c = d.key then some (d.n, d.s) else m c
theorem foldM_out : ∀ (l : List Dep) (m : ByteArray → Option (Int × Int)) (c : ByteArray), (∀ d ∈ l, d.key ≠ c) → l.foldl stepM m c = m c
  | [], m, c, _ => rfl
  | d :: r, m, c, h => by
    rw [List.foldl_cons, foldM_out r _ c (fun x hx => h x (by simp [hx]))]
    unfold stepM
    rw [if_neg (fun e => h d (by simp) e.symm)]
theorem seen_above : ∀ (l : List Dep) (q : ByteArray), seenF (some q) l = true → ∀ d ∈ l, Op.bytesLess q.toList d.key.toList = true
  | [], q, _, d, hd => by cases hd
  | x :: r, q, h, d, hd => by
    simp only [seenF, Bool.and_eq_true] at h
    obtain ⟨_, h1, h2⟩ := h
    rcases List.mem_cons.1 hd with rfl | hd
    · exact h1
    · exact K.bl_trans _ _ _ h1 (seen_above r x.key h2 d hd)
theorem foldM_in : ∀ (l : List Dep) (p : Option ByteArray) (m : ByteArray → Option (Int × Int)), seenF p l = true → ∀ d ∈ l, l.foldl stepM m d.key = some (d.n, d.s)
  | [], p, m, _, d, hd => by cases hd
  | x :: r, p, m, h, d, hd => by
    simp only [seenF, Bool.and_eq_true] at h
    obtain ⟨_, _, h2⟩ := h
    rw [List.foldl_cons]
    rcases List.mem_cons.1 hd with rfl | hd
    · rw [foldM_out r _ _ (fun y hy e => by
        have := seen_above r d.key h2 y hy
        rw [e, K.bl_irrefl] at this; cases this)]
      unfold stepM; rw [if_pos rfl]
    · exact foldM_in r _ _ h2 d hd
theorem seen_dep : ∀ (l : List Dep) (p : Option ByteArray), seenF p l = true → ∀ d ∈ l, V.stampB d.n d.s = true
  | [], p, _, d, hd => by cases hd
  | x :: r, p, h, d, hd => by
    simp only [seenF, Bool.and_eq_true] at h
    obtain ⟨h0, _, h2⟩ := h
    rcases List.mem_cons.1 hd with rfl | hd
    · unfold depB at h0; simp only [Bool.and_eq_true] at h0; exact h0.2
    · exact seen_dep r _ h2 d hd
theorem strike_nil {α : Type} {p : α → Bool} {l : List α} (h : ∀ x ∈ l, p x = true) : strike p l = [] := by
  unfold strike; rw [List.filter_eq_nil_iff]; intro a ha; simp [h a ha]
theorem seen_of {e : Event} (h : check e = true) : seenF none e.seen = true := by unfold check at h; rw [Bool.and_eq_true] at h; exact h.2
theorem more_self {e : Event} (h : check e = true) : more e e.seen = [] := strike_nil fun d hd => by
  have := foldM_in e.seen none (fun _ => none) (seen_of h) d hd
  unfold hadB ofM
  have e2 : List.foldl (fun m (d : Dep) => fun c => if c = d.key then some (d.n, d.s) else m c) (fun _ => none) e.seen d.key = some (d.n, d.s) := this
  rw [e2]; simp
theorem less_self {e : Event} (h : check e = true) : less e e.seen = [] := strike_nil fun d hd => by
  have := foldM_in e.seen none (fun _ => none) (seen_of h) d hd
  have hs := V.stampB_iff.1 (seen_dep e.seen none (seen_of h) d hd)
  unfold hasB ofM
  have e2 : List.foldl (fun m (d : Dep) => fun c => if c = d.key then some (d.n, d.s) else m c) (fun _ => none) e.seen d.key = some (d.n, d.s) := this
  rw [e2]; simp; omega
theorem num0 : V.num 0 = [0] := V.num_small (by omega)
theorem part_self {e : Event} (h : check e = true) : part e e.seen = headBytes e ++ [0, 0] := by
  unfold part
  rw [more_self h, less_self h]
  simp [num0]
theorem part_ge (e : Event) (ahead : List Dep) : (headBytes e).length + 2 ≤ (part e ahead).length := by
  have h1 := V.num_pos (more e ahead).length
  have h2 := V.num_pos (less e ahead).length
  simp only [part, List.length_append]; omega
/-- The map behind some events. -/
def lastM (m : Int → List Dep) : List Event → Int → List Dep
  | [] => m
  | e :: r => lastM (fun c => if c = e.client then e.seen else m c) r
theorem partsF_app : ∀ (l r : List Event) (m : Int → List Dep), partsF m (l ++ r) = partsF m l ++ partsF (lastM m l) r
  | [], r, m => rfl
  | e :: l, r, m => by simp only [List.cons_append, partsF, lastM, partsF_app l r]
theorem lastM_app : ∀ (l r : List Event) (m : Int → List Dep), lastM m (l ++ r) = lastM (lastM m l) r
  | [], r, m => rfl
  | e :: l, r, m => by simp only [List.cons_append, lastM, lastM_app l r]
theorem take_snoc {α : Type} {l : List α} {k : Nat} (h : k < l.length) : l.take (k + 1) = l.take k ++ [l[k]] := by rw [List.take_succ_eq_append_getElem h]
def twice (g : List Event) (k : Nat) (h : k < g.length) : List Event := g.take (k + 1) ++ [g[k]]
theorem twice_parts {g : List Event} {k : Nat} (h : k < g.length) (hg : ∀ e ∈ g, check e = true) :
    ∃ (a : List ByteArray) (x : List Dep), a.length = k ∧ parts (twice g k h) = a ++ [V.ba (part g[k] x)] ++ [V.ba (headBytes g[k] ++ [0, 0])] := by
  have hall : (twice g k h).all check = true := by
    rw [List.all_eq_true]
    intro e he
    unfold twice at he
    rcases List.mem_append.1 he with he | he
    · exact hg e (List.mem_of_mem_take he)
    · simp at he; subst he; exact hg _ (List.getElem_mem h)
  have hk := hg _ (List.getElem_mem h)
  refine ⟨partsF (fun _ => []) (g.take k), lastM (fun _ => []) (g.take k) g[k].client, ?_, ?_⟩
  · rw [partsF_len, List.length_take]; omega
  · unfold parts
    rw [if_pos hall]
    unfold twice
    rw [take_snoc h, partsF_app, partsF_app, lastM_app]
    simp only [partsF, lastM, if_pos, part_self hk]
theorem twice_bytes {g : List Event} {k : Nat} (h : k < g.length) (hk : k < 100) (hg : ∀ e ∈ g, check e = true) : bytes (twice g k h) = UInt8.ofNat (k + 2) :: cat (parts (twice g k h)) := by
  have hall : (twice g k h).all check = true := by
    rw [List.all_eq_true]
    intro e he
    unfold twice at he
    rcases List.mem_append.1 he with he | he
    · exact hg e (List.mem_of_mem_take he)
    · simp at he; subst he; exact hg _ (List.getElem_mem h)
  have hl : (twice g k h).length = k + 2 := by unfold twice; simp; omega
  unfold bytes
  rw [if_pos hall, hl, V.num_small (by omega)]; rfl
end L
end Go.Proofs.Ytbdejgbjelfbeaa
