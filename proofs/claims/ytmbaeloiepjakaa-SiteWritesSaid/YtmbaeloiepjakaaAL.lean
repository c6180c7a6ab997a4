/- Abstract states: data told as less, cell by cell. -/
/- Abstract states: values of many cells of which some hold objects of the call's own; literals as rows of the call's own; elements of arrays. -/
import Derived.Test.YtmbaeloiepjakaaAB
import Derived.Test.YtmbaeloiepjakaaAX
set_option linter.unusedSimpArgs false
set_option linter.unusedVariables false
namespace Go.Proofs.Ytmbaeloiepjakaa.A
open Go Go.RowKit
/-- Whatever reads as the one reads as the other. -/
def ASub (a a' : AV) : Prop := ∀ (M : Nat → Prop) (w : World) (x : Value), Rep M w a x → Rep M w a' x
theorem ASub.rfl {a : AV} : ASub a a := fun _ _ _ h => h
theorem ASub.eq {a b : AV} (h : a = b) : ASub a b := h ▸ ASub.rfl
theorem ASub.nil {n : Nat} : ASub (.v (.slice none 0 0)) (.sl n []) := fun _ _ _ h => by cases h; exact .nil n _ _
theorem ASub.sub {a a' : AV} (h : ASub a a') : Sub (.d a) (.d a') := fun M w _ x hx => h M w x hx
def LSub : List AV → List AV → Prop
  | [], [] => True
  | a :: l, b :: m => ASub a b ∧ LSub l m
  | _, _ => False
theorem LSub.refl : ∀ (l : List AV), LSub l l
  | [] => trivial
  | _ :: l => ⟨ASub.rfl, LSub.refl l⟩
theorem LSub.get : ∀ {l m : List AV}, LSub l m → l.length = m.length ∧ ∀ (j : Nat) (b : AV), m[j]? = some b → ∃ a, l[j]? = some a ∧ ASub a b
  | [], [], _ => ⟨rfl, fun j b h => by simp at h⟩
  | a :: l, b :: m, h => by
    obtain ⟨h1, h2⟩ := h.2.get
    refine ⟨by simp [h1], fun j c hc => ?_⟩
    cases j with
    | zero => simp at hc; subst hc; exact ⟨a, rfl, h.1⟩
    | succ j => exact h2 j c (by simpa using hc)
  | [], _ :: _, h => h.elim
  | _ :: _, [], h => h.elim
def RSub : List (List AV) → List (List AV) → Prop
  | [], [] => True
  | a :: l, b :: m => LSub a b ∧ RSub l m
  | _, _ => False
theorem RSub.get : ∀ {l m : List (List AV)}, RSub l m → l.length = m.length ∧ ∀ (j : Nat) (b : List AV), m[j]? = some b → ∃ a, l[j]? = some a ∧ LSub a b
  | [], [], _ => ⟨rfl, fun j b h => by simp at h⟩
  | a :: l, b :: m, h => by
    obtain ⟨h1, h2⟩ := h.2.get
    refine ⟨by simp [h1], fun j c hc => ?_⟩
    cases j with
    | zero => simp at hc; subst hc; exact ⟨a, rfl, h.1⟩
    | succ j => exact h2 j c (by simpa using hc)
  | [], _ :: _, h => h.elim
  | _ :: _, [], h => h.elim
theorem ASub.sl {n : Nat} {rows rows' : List (List AV)} (h : RSub rows rows') : ASub (.sl n rows) (.sl n rows') := fun M w x hx => by
  obtain ⟨h1, h2⟩ := h.get
  cases hx with
  | nil n a c =>
    cases rows' with
    | nil => exact .nil n a c
    | cons r l => simp at h1
  | sl n rows b o cap f hl hcap hn hc hr =>
    rw [h1]
    refine .sl n rows' b o cap f (by omega) (by omega) (fun i r hi => ?_) (fun i r j a hi hj => ?_) (fun i r j a hi hj => ?_)
    · obtain ⟨q, h3, h4⟩ := h2 i r hi
      rw [← h4.get.1]; exact hn i q h3
    · obtain ⟨q, h3, h4⟩ := h2 i r hi
      obtain ⟨c, h5, _⟩ := h4.get.2 j a hj
      exact hc i q j c h3 h5
    · obtain ⟨q, h3, h4⟩ := h2 i r hi
      obtain ⟨c, h5, h6⟩ := h4.get.2 j a hj
      exact h6 _ _ _ (hr i q j c h3 h5)
theorem ASub.row {cs cs' : List AV} (h : LSub cs cs') : ASub (.row cs) (.row cs') := fun M w x hx => by
  obtain ⟨h1, h2⟩ := h.get
  cases hx with
  | row cs vs hl hone hr =>
    refine .row cs' vs (by omega) hone (fun j a x hj hx => ?_)
    obtain ⟨c, h3, h4⟩ := h2 j a hj
    exact h4 _ _ _ (hr j c x h3 hx)
end Go.Proofs.Ytmbaeloiepjakaa.A

set_option linter.unusedSimpArgs false
set_option linter.unusedVariables false
namespace Go.Proofs.Ytmbaeloiepjakaa.A
open Go Go.RowKit
def CCells (M : Nat → Prop) (w : World) (ρ : Rho) (cs : List CV) (vs : List Value) : Prop := vs.length = cs.length ∧ ∀ (j : Nat) (c : CV) (x : Value), cs[j]? = some c → vs[j]? = some x → CRep M w ρ c x ∧ x.oneCell' = true
theorem CCells.append {M : Nat → Prop} {w : World} {ρ : Rho} {aa bs : List CV} {vs us : List Value} (h : CCells M w ρ aa vs) (k : CCells M w ρ bs us) : CCells M w ρ (aa ++ bs) (vs ++ us) := ⟨by simp [h.1, k.1], fun j a x h1 h2 => by
  by_cases hj : j < aa.length
  · rw [List.getElem?_append_left hj] at h1
    rw [List.getElem?_append_left (by rw [h.1]; exact hj)] at h2
    exact h.2 j a x h1 h2
  · rw [List.getElem?_append_right (by omega)] at h1
    rw [List.getElem?_append_right (by rw [h.1]; omega), h.1] at h2
    exact k.2 _ a x h1 h2⟩
theorem CCells.take {M : Nat → Prop} {w : World} {ρ : Rho} {aa : List CV} {vs : List Value} (h : CCells M w ρ aa vs) (n : Nat) : CCells M w ρ (aa.take n) (vs.take n) := ⟨by simp [h.1], fun j a x h1 h2 => by
  rw [List.getElem?_take] at h1 h2
  split at h1
  · rename_i hj; rw [if_pos hj] at h2; exact h.2 j a x h1 h2
  · cases h1⟩
theorem CCells.drop {M : Nat → Prop} {w : World} {ρ : Rho} {aa : List CV} {vs : List Value} (h : CCells M w ρ aa vs) (n : Nat) : CCells M w ρ (aa.drop n) (vs.drop n) := ⟨by simp [h.1], fun j a x h1 h2 => by
  rw [List.getElem?_drop] at h1 h2
  exact h.2 _ a x h1 h2⟩
theorem Cells.cc {M : Nat → Prop} {w : World} {ρ : Rho} {cs : List AV} {vs : List Value} (h : Cells M w cs vs) : CCells M w ρ (cs.map .d) vs := ⟨by simp [h.1], fun j c x h1 h2 => by
  rw [List.getElem?_map] at h1
  obtain ⟨a, h3, rfl⟩ := Option.map_eq_some_iff.1 h1
  exact h.2 j a x h3 h2⟩
theorem CCells.reps {M : Nat → Prop} {w : World} {ρ : Rho} {cs : List CV} {vs : List Value} (h : CCells M w ρ cs vs) : (∀ v ∈ vs, v.oneCell' = true) ∧ CReps M w ρ cs vs := ⟨fun v hv => by
  obtain ⟨j, hj, rfl⟩ := List.getElem_of_mem hv
  have hj2 : j < cs.length := by rw [← h.1]; exact hj
  exact (h.2 j cs[j] _ (by simp [hj2]) (by simp [hj])).2, h.1, fun j c x h1 h2 => (h.2 j c x h1 h2).1⟩
theorem CReps.cc {M : Nat → Prop} {w : World} {ρ : Rho} {cs : List CV} {vs : List Value} (h : CReps M w ρ cs vs) (h1 : ∀ v ∈ vs, v.oneCell' = true) : CCells M w ρ cs vs := ⟨h.1, fun j c x h2 h3 => ⟨h.2 j c x h2 h3, h1 x (List.mem_of_getElem? h3)⟩⟩
/-- The cells of what a slot holds. -/
def cellsS : SV → Option (List CV)
  | .d (.tup _) => none
  | .d a => some ((cellsA a).map .d)
  | .bx k g o => some [.bx k g o]
  | .ow k g => some [.ow k g]
  | .ag l => some l
  | _ => none
theorem SRep.cc {M : Nat → Prop} {w : World} {ρ : Rho} {s : SV} {x : Value} {cs : List CV} (h : SRep M w ρ s x) (hc : cellsS s = some cs) : CCells M w ρ cs x.cells.toList := by
  have one : ∀ (c : CV) (x : Value), CRep M w ρ c x → x.oneCell' = true → CCells M w ρ [c] x.cells.toList := fun c x h1 h2 => by
    rw [one_cells h2]
    exact ⟨rfl, fun j a y h3 h4 => by
      match j, h3, h4 with
      | 0, h3, h4 => simp at h3 h4; subst h3 h4; exact ⟨h1, h2⟩
      | j + 1, h3, _ => simp at h3⟩
  cases s with
  | d a =>
    have hd : cellB a = true ∧ (cellsA a).map CV.d = cs := by
      cases a <;> simp [cellsS] at hc <;> first | exact ⟨rfl, hc⟩ | cases hc
    rw [← hd.2]
    exact (Rep.cells h hd.1).cc
  | bx k g o =>
    obtain rfl := Option.some.inj hc
    obtain ⟨_, b, _, _, h3⟩ := id h
    exact one (.bx k g o) x h (by rw [h3]; rfl)
  | ow k g =>
    obtain rfl := Option.some.inj hc
    exact one (.ow k g) x h h.2
  | ag l =>
    obtain rfl := Option.some.inj hc
    obtain ⟨vs, rfl, h1, h2⟩ := h
    exact h2.cc h1
  | _ => cases hc
def fillC (place : Nat → Option (Nat × Nat)) (cells : List CV) : List (Nat × List CV) → Option (List CV)
  | [] => some cells
  | (i, a) :: rest => match place i with
    | none => none
    | some (off, size) => if a.length ≠ size || off + a.length > cells.length then none else fillC place (cells.take off ++ a ++ cells.drop (off + a.length)) rest
section
variable {P : Program} {N : Nat} {M0 : Nat → Prop} {w0 : Base} {ops : Array Oper} {Q : Exit → ASt → Prop} {o : Oper} {l : List Oper} {st : ASt}
def PartsC (st : ASt) : List (Nat × Operand) → List (Nat × List CV) → Prop
  | [], [] => True
  | (i, x) :: xs, (j, a) :: aa => i = j ∧ cellsS (st.ev x) = some a ∧ PartsC st xs aa
  | _, _ => False
theorem run_fillC {M : Nat → Prop} {w : World} {ρ : Rho} {a : Act} (place : Nat → Option (Nat × Nat)) : ∀ (ps : List (Nat × Operand)) (aa : List (Nat × List CV)) (cs r : List CV) (vs : Array Value), PartsC st ps aa → (∀ p ∈ ps, SRep M w ρ (st.ev p.2) (a.eval p.2)) → CCells M w ρ cs vs.toList → fillC place cs aa = some r →
    ∃ us : Array Value, Instr.fill place vs (ps.map fun (i, x) => (i, a.eval x)) = some us ∧ CCells M w ρ r us.toList
  | [], [], cs, r, vs, _, _, hc, hr => by simp only [fillC, Option.some.injEq] at hr; subst hr; exact ⟨vs, rfl, hc⟩
  | (i, x) :: ps, (j, b) :: aa, cs, r, vs, hp, hs, hc, hr => by
    obtain ⟨rfl, hx, hp⟩ := hp
    have h1 := hs (i, x) (by simp)
    have h2 := SRep.cc h1 hx
    simp only [fillC] at hr
    simp only [List.map_cons, Instr.fill]
    cases hpl : place i with
    | none => rw [hpl] at hr; cases hr
    | some p =>
      obtain ⟨off, size⟩ := p
      rw [hpl] at hr
      simp only at hr ⊢
      split at hr
      · cases hr
      · rename_i hn
        simp only [Bool.or_eq_true, decide_eq_true_eq, not_or, Nat.not_lt] at hn
        obtain ⟨h3, h4⟩ := hn
        have hl1 : (a.eval x).cells.size = b.length := by rw [← h2.1]; simp
        have hl2 : vs.size = cs.length := by rw [← hc.1]; simp
        have h3' : b.length = size := by simpa using h3
        rw [if_neg (by simp only [Bool.or_eq_true, decide_eq_true_eq, not_or, Nat.not_lt]; exact ⟨by simp; omega, by omega⟩)]
        refine run_fillC place ps aa _ r _ hp (fun p hp' => hs p (by simp [hp'])) ?_ hr
        have h5 := fold_splice off (a.eval x).cells.toList 0 vs (by simp; omega)
        have e : (Array.foldl (fun cs (p : Value × Nat) => cs.setIfInBounds (off + p.2) p.1) vs (a.eval x).cells.zipIdx).toList = vs.toList.take off ++ (a.eval x).cells.toList ++ vs.toList.drop (off + b.length) := by
          rw [← Array.foldl_toList, Array.toList_zipIdx, h5]
          simp [hl1]
        have e' : (Array.foldl (fun cs (x : Value × Nat) => match x with | (c, j) => cs.setIfInBounds (off + j) c) vs (a.eval x).cells.zipIdx).toList = _ := e
        rw [e']
        exact ((hc.take off).append h2).append (hc.drop _)
  | [], _ :: _, _, _, _, h, _, _, _ => h.elim
  | _ :: _, [], _, _, _, h, _, _, _ => h.elim
/-- A struct of which some cells hold objects of the call's own. -/
theorem Pu_buildAg {t : TypeId} {ps : Array (Nat × Operand)} {aa : List (Nat × List CV)} {fs : Array Field} {places : Array (Nat × Nat)} {zs : List Value} {r : List CV} (ho : o.op = .build t ps) (ht : P.underlying t = some (.struct fs)) (hz : ∀ w, (zeroValue t).run P w = .ok (.agg zs.toArray) w)
    (hp : ∀ w, (fs.mapM (fun f => do pure (f.offset, ← sizeOf f.type)) : Sem (Array (Nat × Nat))).run P w = .ok places w) (hv : zs.all (fun z => decide (vok z)) = true) (ha : PartsC st ps.toList aa) (hr : fillC (places[·]?) (zs.map fun z => .d (.v z)) aa = some r) : Pu P st o (.ag r) := Pu_q fun B M ρ w a h2 _ => by
  have hz0 : CCells M w ρ (zs.map fun z => .d (.v z)) zs := by
    have := (cells_v (M := M) (w := w) hv).cc (ρ := ρ)
    rwa [List.map_map] at this
  obtain ⟨us, h3, h4⟩ := run_fillC (M := M) (w := w) (ρ := ρ) (a := a) (places[·]?) ps.toList aa _ r zs.toArray ha (fun p hp => h2 p.2 (by
    simp only [opsOf, ho, Op.operands]
    exact List.mem_map.2 ⟨p, hp, rfl⟩)) hz0 hr
  refine ⟨.agg us, ?_, us.toList, by simp, h4.reps⟩
  have e : (ps.map fun (p : Nat × Operand) => (p.1, a.eval p.2)).toList = ps.toList.map fun (i, x) => (i, a.eval x) := by simp
  simp only [execOp, ho, Instr.build, Sem.run_bind, hz, Result.andThen_ok, run_underlying ht, hp, Value.cells]
  rw [e]
  simp only [h3, Sem.run_pure, Sem.run_bind, Result.andThen_ok]
theorem cv_one {M : Nat → Prop} {w : World} {ρ : Rho} {r : List CV} {vs : List Value} {j : Nat} {s : SV} {x : Value} (h : CReps M w ρ r vs) (h1 : ∀ v ∈ vs, v.oneCell' = true) (hs : (r.map CV.sv)[j]? = some s) (hx : vs[j]? = some x) : SRep M w ρ s x ∧ x.oneCell' = true := by
  rw [List.getElem?_map] at hs
  obtain ⟨c, h2, rfl⟩ := Option.map_eq_some_iff.1 hs
  exact ⟨CV.rep.2 (h.2 j c x h2 hx), h1 x (List.mem_of_getElem? hx)⟩
/-- A variable, made with such a value. -/
theorem Al_boxAg {d : Nat} {T : TypeId} {x : Operand} {r : List CV} (ho : o.op = .box T x) (hg : o.guard = none) (hd : o.dst = some d) (hN : d < N) (hc : conB o = true) (hx : st.ev x = .ag r)
    (h : ∀ g, Al P N M0 w0 ops Q l ((st.put d g (.box T (r.map CV.sv))).set d (.bx d g 0))) : Al P N M0 w0 ops Q (o :: l) st := by
  refine ⟨?_⟩
  rintro a w ⟨ρ, hsim⟩
  have hm := hsim.ev hc x (by simp [opsOf, ho, Op.operands])
  rw [hx] at hm
  obtain ⟨vs, hy, h1, hr⟩ := hm
  have hE : Ev.Ext w (w.alloc (.cells vs.toArray T)) := (Below.refl _ _).alloc (Nat.le_refl _) _
  obtain ⟨g', ρ', k1, k2⟩ := hsim.upd (w' := w.alloc (.cells vs.toArray T)) d ⟨rfl, rfl, rfl⟩ hE.size (fun b hb _ => hE.block b hb) (x' := .pointer (some ⟨w.heap.size, 0, none⟩)) (o' := .box T (r.map CV.sv)) (fun b hb => by simp [blk] at hb; exact .inl (by omega))
    (fun M' ρ' hK hle => ⟨w.heap.size, vs.toArray, rfl, .inl hsim.ext.size, heap_alloc_new _ _, by simp [hr.1], fun j s x h2 h3 => by
      have h3' : vs[j]? = some x := by simpa using h3
      exact cv_one ((hr.mono hK).rho hle) h1 h2 h3'⟩)
  refine wpList_plain hg fun K hK => wp_upon ?_
  have e : (execOp a.eval o).run P w = .ok (.value (.pointer (some ⟨w.heap.size, 0, none⟩))) (w.alloc (.cells vs.toArray T)) := by
    simp [execOp, ho, hy, Instr.box, newVar, newRow, newObj, Value.cells, Sem.run, Sem.run_bind]
  rw [e]
  refine hK _ _ ((h g').out _ _ ⟨ρ', ?_⟩)
  rw [hd]
  exact k1.set hN ⟨_, _, k2, rfl, rfl⟩
/-- Some cells of a variable of the call's own are written with such a value. -/
theorem Al_storeAg {t T : TypeId} {x y : Operand} {k g off n : Nat} {cs : List SV} {r : List CV} (ho : o.op = .store t x y) (hg : o.guard = none) (hd : o.dst = none) (hc : conB o = true) (hz : ∀ w, (sizeOf t).run P w = .ok n w) (hx : st.ev x = .bx k g off) (hob : st.ob k = some (g, .box T cs)) (hy : st.ev y = .ag r) (hn : r.length = n) (hoff : off + n ≤ cs.length)
    (h : Al P N M0 w0 ops Q l (st.put k g (.box T (cs.take off ++ r.map CV.sv ++ cs.drop (off + n))))) : Al P N M0 w0 ops Q (o :: l) st := by
  refine ⟨?_⟩
  rintro a w ⟨ρ, hsim⟩
  have hmem : x ∈ opsOf o ∧ y ∈ opsOf o := by simp [opsOf, ho, Op.operands]
  have hmx := hsim.ev hc x hmem.1
  have hmy := hsim.ev hc y hmem.2
  rw [hx] at hmx
  rw [hy] at hmy
  obtain ⟨u, b, h4, h5, h6⟩ := hmx
  obtain ⟨u', h7, b', vs, rfl, h8, h9, h10, h11⟩ := hsim.obj k g _ hob
  rw [h4] at h7; cases h7
  simp only [blk, Option.some.injEq] at h5
  subst h5
  obtain ⟨us, hyy, hu1, hur⟩ := hmy
  have hul := hur.1
  obtain ⟨w', vs', k1, k2, k3, k4, k5, k6, k7, k8, k9⟩ := run_storeRow (P := P) b' off T us 0 w vs h9 (by omega) hu1
  have hs2 := hsim.mod (w' := w') hob h4 ⟨k7, k8, k9⟩ (by omega) (fun c hc' hne => k5 c (fun e => hne (by simp [blk, e]))) (o' := .box T (cs.take off ++ r.map CV.sv ++ cs.drop (off + n))) (fun M' hK _ => ⟨b', vs', rfl, h8, k2, by simp; omega, fun j s' z h12 h13 => by
    rw [k4 j, Nat.add_zero] at h13
    by_cases e1 : j < off
    · rw [List.append_assoc, List.getElem?_append_left (by simp; omega), List.getElem?_take, if_pos e1] at h12
      rw [if_neg (by omega)] at h13
      exact ⟨(h11 j s' z h12 h13).1.mono hK, (h11 j s' z h12 h13).2⟩
    · by_cases e2 : j < off + n
      · rw [List.getElem?_append_left (by simp; omega), List.getElem?_append_right (by simp; omega)] at h12
        rw [if_pos (by omega)] at h13
        simp only [List.length_take, Nat.min_eq_left (show off ≤ cs.length by omega)] at h12
        exact cv_one (hur.mono hK) hu1 h12 h13
      · rw [List.getElem?_append_right (by simp; omega)] at h12
        simp only [List.length_append, List.length_take, List.length_map, Nat.min_eq_left (show off ≤ cs.length by omega), List.getElem?_drop] at h12
        rw [show off + n + (j - (off + r.length)) = j from by omega] at h12
        rw [if_neg (by omega)] at h13
        exact ⟨(h11 j s' z h12 h13).1.mono hK, (h11 j s' z h12 h13).2⟩⟩)
  refine wpList_plain hg fun K hK => wp_upon ?_
  have e : (execOp a.eval o).run P w = .ok .skip w' := by
    simp only [execOp, ho, h6, hyy, Instr.storeAt, Instr.sureAddr, storeVar, Sem.run_bind, Sem.run_pure, Result.andThen_ok, hz, Value.cells]
    rw [if_neg (by simp; omega)]
    simp only [Sem.run_bind, Sem.run_pure, Result.andThen_ok, k1]
  rw [e]
  refine hK _ _ (h.out _ _ ⟨ρ, ?_⟩)
  rw [hd]
  exact hs2
theorem Pu_loadAg {t T : TypeId} {x : Operand} {k g off n : Nat} {cs : List SV} {r : List CV} (ho : o.op = .load t x) (ht : ∀ w, (isAgg t).run P w = .ok true w) (hz : ∀ w, (sizeOf t).run P w = .ok n w) (hx : st.ev x = .bx k g off) (hob : st.ob k = some (g, .box T cs)) (hr : (cs.drop off).take n = r.map CV.sv) (hn : r.length = n) : Pu P st o (.ag r) := Pu_q fun B M ρ w a h2 h3 => by
  have h1 := h2 x (by simp [opsOf, ho, Op.operands])
  rw [hx] at h1
  obtain ⟨u, b, h4, h5, h6⟩ := h1
  obtain ⟨u', h7, b', vs, rfl, h8, h9, h10, h11⟩ := h3 k g _ hob
  rw [h4] at h7; cases h7
  simp only [blk, Option.some.injEq] at h5
  subst h5
  have hlen : n ≤ cs.length - off := by
    have := congrArg List.length hr
    simp only [List.length_take, List.length_drop, List.length_map] at this
    omega
  have hat : ∀ j, j < n → w.cell? ⟨b', off + j, none⟩ = some (vs.toList.getD (off + j) undef) := fun j hj => by
    have : off + j < vs.size := by omega
    simp [World.cell?, h9, List.getD_eq_getElem?_getD, this]
  have hrun := run_cells (P := P) (w := w) (b := b') n off 0 (fun j => vs.toList.getD (off + j) undef) #[] (fun j hj => by rw [Nat.zero_add]; exact hat j hj)
  refine ⟨_, ?_, (List.range n).map (fun j => vs.toList.getD (off + j) undef), rfl, ?_, by simp [hn], fun j c y h12 h13 => ?_⟩
  · simp only [execOp, ho, h6, Instr.loadAt, Instr.sureAddr, loadVar, Sem.run_bind, Sem.run_pure, Result.andThen_ok, ht, hz, if_true, loadCells, hrun]
    simp
  · intro v hv
    obtain ⟨j, hj, rfl⟩ := List.mem_map.1 hv
    have hj := List.mem_range.1 hj
    have h12 : ∃ s, cs[off + j]? = some s := ⟨cs[off + j]'(by omega), by simp⟩
    obtain ⟨s, h12⟩ := h12
    have h13 : vs[off + j]? = some (vs.toList.getD (off + j) undef) := by
      have : off + j < vs.size := by omega
      simp [List.getD_eq_getElem?_getD, this]
    exact (h11 _ s _ h12 h13).2
  · have hj : j < n := by have := (List.getElem?_eq_some_iff.1 h12).1; omega
    rw [List.getElem?_map, List.getElem?_range hj] at h13
    simp only [Option.map_some, Option.some.injEq] at h13
    subst h13
    have h14 : cs[off + j]? = some c.sv := by
      have := congrArg (fun l => l[j]?) hr
      simp only [List.getElem?_take, if_pos hj, List.getElem?_drop, List.getElem?_map, h12, Option.map_some] at this
      exact this
    have h15 : vs[off + j]? = some (vs.toList.getD (off + j) undef) := by
      have : off + j < vs.size := by omega
      simp [List.getD_eq_getElem?_getD, this]
    exact CV.rep.1 (h11 _ _ _ h14 h15).1
/-- An element of an array that is not written; of one of the call's own. -/
theorem Pu_indexArr {t e : TypeId} {x i : Operand} {n k m : Nat} {z : Int} {cs : List AV} (ho : o.op = .indexAddr t x i) (ht : P.underlying t = some (.array m e)) (hz : ∀ w, (sizeOf e).run P w = .ok n w) (hx : st.ev x = .d (.fp cs)) (hi : st.ev i = .d (.v (.int .i64 z))) (hk : z = k) (hlt : k < m) : Pu P st o (.d (.fp (cs.drop (k * n)))) := Pu_q fun B M ρ w a h2 _ => by
  have mm : x ∈ opsOf o ∧ i ∈ opsOf o := by simp [opsOf, ho, Op.operands]
  obtain ⟨e2, _⟩ := ev_v h2 mm.2 hi
  have hm := h2 x mm.1
  rw [hx] at hm
  generalize hy : a.eval x = y at hm
  cases hm with
  | fp cs b o' f hc hr =>
    subst hk
    refine ⟨.pointer (some ⟨b, o' + k * n, none⟩), ?_, .fp _ b (o' + k * n) (fun j => f (k * n + j)) (fun j a ha => ?_) (fun j a ha => ?_)⟩
    · simp only [execOp, ho, hy, e2, Instr.indexAt, Sem.run_bind, asIntOf, Sem.run_pure, Result.andThen_ok, run_underlying ht, Instr.sureAddr]
      rw [if_pos ⟨by omega, by omega⟩]
      simp only [Sem.run_bind, hz, Result.andThen_ok, Int.toNat_natCast, add_addr, Sem.run_pure]
    · rw [List.getElem?_drop] at ha
      have := hc _ a ha
      rw [show o' + k * n + j = o' + (k * n + j) from by omega]
      exact this
    · rw [List.getElem?_drop] at ha
      exact hr _ a ha
theorem Pu_indexArrb {t e : TypeId} {x i : Operand} {n j m k g off : Nat} {z : Int} (ho : o.op = .indexAddr t x i) (ht : P.underlying t = some (.array m e)) (hz : ∀ w, (sizeOf e).run P w = .ok n w) (hx : st.ev x = .bx k g off) (hi : st.ev i = .d (.v (.int .i64 z))) (hk : z = j) (hlt : j < m) : Pu P st o (.bx k g (off + j * n)) := Pu_q fun B M ρ w a h2 _ => by
  have mm : x ∈ opsOf o ∧ i ∈ opsOf o := by simp [opsOf, ho, Op.operands]
  obtain ⟨e2, _⟩ := ev_v h2 mm.2 hi
  have hm := h2 x mm.1
  rw [hx] at hm
  obtain ⟨u, b, h4, h5, h6⟩ := hm
  subst hk
  refine ⟨.pointer (some ⟨b, off + j * n, none⟩), ?_, u, b, h4, h5, rfl⟩
  simp only [execOp, ho, h6, e2, Instr.indexAt, Sem.run_bind, asIntOf, Sem.run_pure, Result.andThen_ok, run_underlying ht, Instr.sureAddr]
  rw [if_pos ⟨by omega, by omega⟩]
  simp only [Sem.run_bind, hz, Result.andThen_ok, Int.toNat_natCast, add_addr, Sem.run_pure]
/-- A literal, as a row of the call's own. -/
theorem Al_sliceLit {d : Nat} {t e : TypeId} {len n : Nat} {ps : Array (Nat × Operand)} {aa : List (Nat × AV)} {zs : Value} {rows : List (List AV)} (ho : o.op = .buildSlice t len ps) (hg : o.guard = none) (hd : o.dst = some d) (hN : d < N) (hc : conB o = true) (ht : P.underlying t = some (.slice e)) (hs : ∀ w, (sizeOf e).run P w = .ok n w) (hz : ∀ w, (zeroValue e).run P w = .ok zs w) (hzs : zs.cells.size = n) (hn0 : 0 < n) (hl0 : 0 < len) (hmax : len * n ≤ 16777216)
    (hv : zs.cells.toList.all (fun z => decide (vok z)) = true) (ha : PartsOk st ps.toList aa) (hr : fillA (fun i => some (i * n, n)) (zerosA zs.cells.toList (len * n)) aa = some rows.flatten) (hlen : rows.length = len) (hn : (rows.all fun r => r.length == n) = true)
    (h : ∀ g, Al P N M0 w0 ops Q l ((st.put d g (.arr e n rows)).set d (.ow d g))) : Al P N M0 w0 ops Q (o :: l) st := by
  refine ⟨?_⟩
  rintro a w ⟨ρ, hsim⟩
  have h2 := hsim.ev hc
  have hzl : zs.cells.toList.length = n := by simpa using hzs
  have hz0 : Cells (Mt M0 ρ st.ob) w (zerosA zs.cells.toList (len * n)) ((Array.range (len * n)).map (zs.cells[· % zs.cells.size]!)).toList := by
    refine ⟨by simp [zerosA], fun j b x h3 h4 => ?_⟩
    unfold zerosA at h3
    have hj : j < len * n := by
      have := (List.getElem?_eq_some_iff.1 h3).1
      simpa using this
    rw [List.getElem?_map, List.getElem?_range hj] at h3
    simp only [Option.map_some, Option.some.injEq] at h3
    simp only [Array.toList_map, Array.toList_range, List.getElem?_map, List.getElem?_range hj, Option.map_some, Option.some.injEq] at h4
    have hlt : j % n < zs.cells.size := by rw [hzs]; exact Nat.mod_lt _ hn0
    have e1 : zs.cells[j % zs.cells.size]! = zs.cells[j % n] := by rw [hzs]; simp [hlt]
    have e2 : zs.cells.toList.getD (j % zs.cells.toList.length) undef = zs.cells[j % n] := by rw [hzl]; simp [List.getD_eq_getElem?_getD, hlt]
    rw [e1] at h4
    rw [e2] at h3
    subst h3 h4
    have := List.all_eq_true.1 hv zs.cells[j % n] (by simp)
    have hvk : vok zs.cells[j % n] := by simpa using this
    exact ⟨.v _ hvk, hvk.one⟩
  obtain ⟨us, h3, h4⟩ := run_fill (M := Mt M0 ρ st.ob) (w := w) (ρ := ρ) (a := a) (fun i => some (i * n, n)) ps.toList aa _ _ _ ha (fun p hp => h2 p.2 (by
    simp only [opsOf, ho, Op.operands]
    exact List.mem_map.2 ⟨p, hp, rfl⟩)) hz0 hr
  have hE : Ev.Ext w (w.alloc (.cells us e)) := (Below.refl _ _).alloc (Nat.le_refl _) _
  have hn' : ∀ r ∈ rows, r.length = n := fun r hr' => by have := List.all_eq_true.1 hn r hr'; simpa using this
  have hlm : len ≤ len * n := Nat.le_mul_of_pos_right _ hn0
  have hus : us.toList.length = rows.length * n := by rw [h4.1, flat_len hn']
  have e1 : (ps.map fun (p : Nat × Operand) => (p.1, a.eval p.2)).toList = ps.toList.map fun (i, x) => (i, a.eval x) := by simp
  have hrun : (execOp a.eval o).run P w = .ok (.value (.slice (some ⟨w.heap.size, 0, none⟩) len len)) (w.alloc (.cells us e)) := by
    simp only [execOp, ho, Instr.buildSlice, Sem.run_bind, run_underlying ht, Result.andThen_ok, hs]
    rw [if_neg (by show ¬ _ > 16777216; omega)]
    simp only [Sem.run_bind, Sem.run_pure, Result.andThen_ok]
    rw [if_neg (by intro h; have : 0 < len * n := Nat.mul_pos hl0 hn0; omega)]
    simp only [Sem.run_bind, Sem.run_pure, Result.andThen_ok, hz]
    rw [e1]
    simp only [h3, Sem.run_pure, Sem.run_bind, Result.andThen_ok, newRow, newObj, Sem.run]
    rfl
  obtain ⟨g', ρ', k1, k2⟩ := hsim.upd (w' := w.alloc (.cells us e)) d ⟨rfl, rfl, rfl⟩ hE.size (fun b hb _ => hE.block b hb) (x' := .slice (some ⟨w.heap.size, 0, none⟩) len len) (o' := .arr e n rows) (fun b hb => by simp [blk] at hb; exact .inl (by omega))
    (fun M' ρ' hK _ => by
      obtain ⟨vals, hv1, hv2⟩ := rows_of_flat (M := M') (w := w.alloc (.cells us e)) hn' hus (fun q c x h5 h6 => ⟨(h4.2 q c x h5 h6).1.mono hK, (h4.2 q c x h5 h6).2⟩)
      refine ⟨vals, ⟨by rw [hv1, hus], .inr ⟨w.heap.size, len, us, by rw [hlen], Nat.zero_le _, heap_alloc_new _ _, by omega, by unfold maxLen; omega, by rw [← hlen, ← hus]; simp, ?_⟩⟩, hv2, ⟨_, len, by rw [hlen]⟩, by unfold maxI; omega, fun b hb => ?_⟩
      · rw [hv1, ← hus, List.take_length]
      · simp only [blk, Option.some.injEq] at hb
        subst hb
        exact .inl hsim.ext.size)
  refine wpList_plain hg fun K hK => wp_upon ?_
  rw [hrun]
  refine hK _ _ ((h g').out _ _ ⟨ρ', ?_⟩)
  rw [hd]
  exact k1.set hN ⟨k2, rfl⟩
end
end Go.Proofs.Ytmbaeloiepjakaa.A
