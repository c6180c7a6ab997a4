/- epoch.Fits, the reference's; epoch.between: the walks. -/
/- epoch.Parts: the walk. -/
/- epoch.Plan, epoch.Gains, the reference's: the walks. -/
/- archipelagoref18: the walks. -/
import Derived.Test.YtfalbocgnmlncaaERf
import Derived.Test.YtfalbocgnmlncaaKOrd
set_option linter.unusedSimpArgs false
set_option linter.unusedVariables false
namespace Go.Proofs.Ytfalbocgnmlncaa
open Go.RowKit A R
open A.RowT
namespace T
def fits (c d : SRow) : Bool := ok c && ok d && decide (c.parents.length = d.parents.length)
end T
set_option maxRecDepth 100000 in
theorem route_a (c : SRow) (hp : T.Ahead c.parents) : ACall Try.prog 30 [.row c.row] (bv (T.ok c)) := by
  refine ACall_enter (fun _ _ => by kernel_rfl) Try.func30 rfl Try.ntmps30 Try.results30 (Nat.le_of_ble_eq_true rfl) (fun hok M0 w0 hnl => ?_)
  refine Aw_seq ?_
  refine Aw_region ?_
  refine Al_pu (Pu_boxN rfl rfl) rfl rfl (by decide) (by kernel_rfl) ?_
  refine Al_pu (Pu_move (.inr rfl) (by conv => lhs; whnf)) rfl rfl (by decide) (by kernel_rfl) ?_
  refine Al_nil ?_
  refine Aw_seq ?_
  refine Aw_region ?_
  refine Al_pu (Pu_loadN rfl Try.isAgg29 Try.sizeOf29 rfl (Nat.le_of_ble_eq_true rfl)) rfl rfl (by decide) (by kernel_rfl) ?_
  refine Al_pu (Pu_call (tcheck_a c) rfl ⟨Sub.rfl, trivial⟩) rfl rfl (by decide) (by kernel_rfl) ?_
  refine Al_pu (Pu_move (.inl rfl) (by conv => lhs; whnf)) rfl rfl (by decide) (by kernel_rfl) ?_
  refine Al_st (St_gd [] rfl rfl rfl rfl trivial (fun hg6 => Pu_field 2 rfl Try.underlying29 rfl rfl Try.sizeOf22 rfl)) rfl (by decide) (by kernel_rfl) (by intro j b oj dj h1 h2 h3; cases h1; cases h2; cases h3; decide) ?_
  refine Al_st (St_gd [6] rfl rfl rfl rfl ⟨⟨_, rfl⟩, trivial⟩ (fun hg7 => Pu_load1 rfl Try.isAgg22 rfl rfl)) rfl (by decide) (by kernel_rfl) (by intro j b oj dj h1 h2 h3; cases h1; cases h2; cases h3; decide) ?_
  refine Al_st (St_gd [7] rfl rfl rfl rfl ⟨⟨_, rfl⟩, trivial⟩ (fun hg8 => Pu_call (trcheck_a c.parents hp) rfl ⟨Sub.rfl, trivial⟩)) rfl (by decide) (by kernel_rfl) (by intro j b oj dj h1 h2 h3; cases h1; cases h2; cases h3; decide) ?_
  refine Al_pu (Pu_and rfl rfl rfl rfl) rfl rfl (by decide) (by kernel_rfl) ?_
  refine Al_pu (Pu_move (.inr rfl) (by conv => lhs; whnf)) rfl rfl (by decide) (by kernel_rfl) ?_
  refine Al_nil ?_
  refine Aw_ret ?_
  exact Sub.bool (by simp) -- ret 0
set_option maxRecDepth 100000 in
theorem rroute_a (c : SRow) (hp : T.Ahead c.parents) : ACall Try.prog 38 [.row c.row] (bv (T.ok c)) := by
  refine ACall_enter (fun _ _ => by kernel_rfl) Try.func38 rfl Try.ntmps38 Try.results38 (Nat.le_of_ble_eq_true rfl) (fun hok M0 w0 hnl => ?_)
  refine Aw_seq ?_
  refine Aw_region ?_
  refine Al_pu (Pu_boxN rfl rfl) rfl rfl (by decide) (by kernel_rfl) ?_
  refine Al_pu (Pu_move (.inr rfl) (by conv => lhs; whnf)) rfl rfl (by decide) (by kernel_rfl) ?_
  refine Al_nil ?_
  refine Aw_seq ?_
  refine Aw_region ?_
  refine Al_pu (Pu_loadN rfl Try.isAgg29 Try.sizeOf29 rfl (Nat.le_of_ble_eq_true rfl)) rfl rfl (by decide) (by kernel_rfl) ?_
  refine Al_pu (Pu_call (rtcheck_a c) rfl ⟨Sub.rfl, trivial⟩) rfl rfl (by decide) (by kernel_rfl) ?_
  refine Al_pu (Pu_move (.inr rfl) (by conv => lhs; whnf)) rfl rfl (by decide) (by kernel_rfl) ?_
  refine Al_nil ?_
  refine Aw_seq ?_
  refine Aw_region ?_
  refine Al_pu (Pu_field 2 rfl Try.underlying29 rfl rfl Try.sizeOf22 rfl) rfl rfl (by decide) (by kernel_rfl) ?_
  refine Al_pu (Pu_load1 rfl Try.isAgg22 rfl rfl) rfl rfl (by decide) (by kernel_rfl) ?_
  refine Al_pu (Pu_call (rtrcheck_a c.parents hp) rfl ⟨Sub.rfl, trivial⟩) rfl rfl (by decide) (by kernel_rfl) ?_
  refine Al_pu (Pu_move (.inr rfl) (by conv => lhs; whnf)) rfl rfl (by decide) (by kernel_rfl) ?_
  refine Al_nil ?_
  refine Aw_seq ?_
  refine Aw_region ?_
  refine Al_pu (Pu_move (.inl rfl) (by conv => lhs; whnf)) rfl rfl (by decide) (by kernel_rfl) ?_
  refine Al_pu (Pu_move (.inl rfl) (by conv => lhs; whnf)) rfl rfl (by decide) (by kernel_rfl) ?_
  refine Al_st (St_gd [] rfl rfl rfl rfl trivial (fun hg12 => by exact Pu_move (.inl rfl) (by conv => lhs; whnf))) rfl (by decide) (by kernel_rfl) (by intro j b oj dj h1 h2 h3; cases h1; cases h2; cases h3; decide) ?_
  refine Al_pu (Pu_and rfl rfl rfl rfl) rfl rfl (by decide) (by kernel_rfl) ?_
  refine Al_pu (Pu_move (.inr rfl) (by conv => lhs; whnf)) rfl rfl (by decide) (by kernel_rfl) ?_
  refine Al_nil ?_
  refine Aw_ret ?_
  exact Sub.bool (by simp) -- ret 0
set_option maxRecDepth 100000 in
theorem fits_a (c d : SRow) (hc : T.Ahead c.parents) (hd : T.Ahead d.parents) : ACall Try.prog 13 [.row c.row, .row d.row] (bv (T.fits c d)) := by
  refine ACall_enter (fun _ _ => by kernel_rfl) Try.func13 rfl Try.ntmps13 Try.results13 (Nat.le_of_ble_eq_true rfl) (fun hok M0 w0 hnl => ?_)
  refine Aw_seq ?_
  refine Aw_region ?_
  refine Al_pu (Pu_boxN rfl rfl) rfl rfl (by decide) (by kernel_rfl) ?_
  refine Al_pu (Pu_boxN rfl rfl) rfl rfl (by decide) (by kernel_rfl) ?_
  refine Al_pu (Pu_move (.inr rfl) (by conv => lhs; whnf)) rfl rfl (by decide) (by kernel_rfl) ?_
  refine Al_nil ?_
  refine Aw_seq ?_
  refine Aw_draw 13 (by kernel_rfl) (by kernel_rfl) ?_
  refine Dr_pu (Pu_loadN rfl Try.isAgg29 Try.sizeOf29 rfl (Nat.le_of_ble_eq_true rfl)) rfl rfl ?_
  refine Dr_pu (Pu_call (route_a c hc) rfl ⟨Sub.rfl, trivial⟩) rfl rfl ?_
  refine Dr_pu (Pu_move (.inl rfl) (by conv => lhs; whnf)) rfl rfl ?_
  refine Dr_st (St_gd [] rfl rfl rfl rfl trivial (fun hg8 => Pu_loadN rfl Try.isAgg29 Try.sizeOf29 rfl (Nat.le_of_ble_eq_true rfl))) rfl ?_
  refine Dr_st (St_gd [8] rfl rfl rfl rfl ⟨⟨_, rfl⟩, trivial⟩ (fun hg9 => Pu_call (route_a d hd) rfl ⟨Sub.rfl, trivial⟩)) rfl ?_
  refine Dr_pu (Pu_and rfl rfl rfl rfl) rfl rfl ?_
  refine Dr_pu (Pu_move (.inl rfl) (by conv => lhs; whnf)) rfl rfl ?_
  refine Dr_st (St_gd [] rfl rfl rfl rfl trivial (fun hg12 => Pu_loadN rfl Try.isAgg29 Try.sizeOf29 rfl (Nat.le_of_ble_eq_true rfl))) rfl ?_
  refine Dr_st (St_gd [12] rfl rfl rfl rfl ⟨⟨_, rfl⟩, trivial⟩ (fun hg13 => Pu_call (sites_a c) rfl ⟨Sub.rfl, trivial⟩)) rfl ?_
  refine Dr_st (St_gd [] rfl rfl rfl rfl trivial (fun hg14 => Pu_loadN rfl Try.isAgg29 Try.sizeOf29 rfl (Nat.le_of_ble_eq_true rfl))) rfl ?_
  refine Dr_st (St_gd [14] rfl rfl rfl rfl ⟨⟨_, rfl⟩, trivial⟩ (fun hg15 => Pu_call (sites_a d) rfl ⟨Sub.rfl, trivial⟩)) rfl ?_
  refine Dr_st (St_gd [13, 15] rfl rfl rfl rfl ⟨⟨_, rfl⟩, ⟨_, rfl⟩, trivial⟩ (fun hg16 => Pu_cmp rfl rfl rfl rfl)) rfl ?_
  refine Dr_pu (Pu_and rfl rfl rfl rfl) rfl rfl ?_
  refine Dr_nil ?_
  refine Al_pu (Pu_move (.inr rfl) (by conv => lhs; whnf)) rfl rfl (by decide) (by kernel_rfl) ?_
  refine Al_nil ?_
  refine Aw_ret ?_
  exact Sub.bool (by unfold T.fits; congr 1; exact decide_eq_decide.2 (by omega)) -- ret 0
set_option maxRecDepth 100000 in
theorem rfits_a (c d : SRow) (hc : T.Ahead c.parents) (hd : T.Ahead d.parents) : ACall Try.prog 24 [.row c.row, .row d.row] (bv (T.fits c d)) := by
  refine ACall_enter (fun _ _ => by kernel_rfl) Try.func24 rfl Try.ntmps24 Try.results24 (Nat.le_of_ble_eq_true rfl) (fun hok M0 w0 hnl => ?_)
  refine Aw_seq ?_
  refine Aw_region ?_
  refine Al_pu (Pu_boxN rfl rfl) rfl rfl (by decide) (by kernel_rfl) ?_
  refine Al_pu (Pu_boxN rfl rfl) rfl rfl (by decide) (by kernel_rfl) ?_
  refine Al_pu (Pu_move (.inr rfl) (by conv => lhs; whnf)) rfl rfl (by decide) (by kernel_rfl) ?_
  refine Al_nil ?_
  refine Aw_seq ?_
  refine Aw_region ?_
  refine Al_pu (Pu_loadN rfl Try.isAgg29 Try.sizeOf29 rfl (Nat.le_of_ble_eq_true rfl)) rfl rfl (by decide) (by kernel_rfl) ?_
  refine Al_pu (Pu_call (rroute_a c hc) rfl ⟨Sub.rfl, trivial⟩) rfl rfl (by decide) (by kernel_rfl) ?_
  refine Al_pu (Pu_move (.inr rfl) (by conv => lhs; whnf)) rfl rfl (by decide) (by kernel_rfl) ?_
  refine Al_nil ?_
  refine Aw_seq ?_
  refine Aw_region ?_
  refine Al_pu (Pu_loadN rfl Try.isAgg29 Try.sizeOf29 rfl (Nat.le_of_ble_eq_true rfl)) rfl rfl (by decide) (by kernel_rfl) ?_
  refine Al_pu (Pu_call (rroute_a d hd) rfl ⟨Sub.rfl, trivial⟩) rfl rfl (by decide) (by kernel_rfl) ?_
  refine Al_pu (Pu_move (.inr rfl) (by conv => lhs; whnf)) rfl rfl (by decide) (by kernel_rfl) ?_
  refine Al_nil ?_
  refine Aw_seq ?_
  refine Aw_region ?_
  refine Al_pu (Pu_move (.inl rfl) (by conv => lhs; whnf)) rfl rfl (by decide) (by kernel_rfl) ?_
  refine Al_pu (Pu_move (.inl rfl) (by conv => lhs; whnf)) rfl rfl (by decide) (by kernel_rfl) ?_
  refine Al_st (St_gd [] rfl rfl rfl rfl trivial (fun hg13 => by exact Pu_move (.inl rfl) (by conv => lhs; whnf))) rfl (by decide) (by kernel_rfl) (by intro j b oj dj h1 h2 h3; cases h1; cases h2; cases h3; decide) ?_
  refine Al_pu (Pu_and rfl rfl rfl rfl) rfl rfl (by decide) (by kernel_rfl) ?_
  refine Al_pu (Pu_move (.inl rfl) (by conv => lhs; whnf)) rfl rfl (by decide) (by kernel_rfl) ?_
  refine Al_st (St_gd [] rfl rfl rfl rfl trivial (fun hg16 => Pu_field 2 rfl Try.underlying29 rfl rfl Try.sizeOf22 rfl)) rfl (by decide) (by kernel_rfl) (by intro j b oj dj h1 h2 h3; cases h1; cases h2; cases h3; decide) ?_
  refine Al_st (St_gd [16] rfl rfl rfl rfl ⟨⟨_, rfl⟩, trivial⟩ (fun hg17 => Pu_load1 rfl Try.isAgg22 rfl rfl)) rfl (by decide) (by kernel_rfl) (by intro j b oj dj h1 h2 h3; cases h1; cases h2; cases h3; decide) ?_
  refine Al_st (St_gd [17] rfl rfl rfl rfl ⟨⟨_, rfl⟩, trivial⟩ (fun hg18 => by exact Pu_len rfl Try.underlying22 rfl (by first | exact List.length_map .. | exact rfl))) rfl (by decide) (by kernel_rfl) (by intro j b oj dj h1 h2 h3; cases h1; cases h2; cases h3; decide) ?_
  refine Al_st (St_gd [] rfl rfl rfl rfl trivial (fun hg19 => Pu_field 2 rfl Try.underlying29 rfl rfl Try.sizeOf22 rfl)) rfl (by decide) (by kernel_rfl) (by intro j b oj dj h1 h2 h3; cases h1; cases h2; cases h3; decide) ?_
  refine Al_st (St_gd [19] rfl rfl rfl rfl ⟨⟨_, rfl⟩, trivial⟩ (fun hg20 => Pu_load1 rfl Try.isAgg22 rfl rfl)) rfl (by decide) (by kernel_rfl) (by intro j b oj dj h1 h2 h3; cases h1; cases h2; cases h3; decide) ?_
  refine Al_st (St_gd [20] rfl rfl rfl rfl ⟨⟨_, rfl⟩, trivial⟩ (fun hg21 => by exact Pu_len rfl Try.underlying22 rfl (by first | exact List.length_map .. | exact rfl))) rfl (by decide) (by kernel_rfl) (by intro j b oj dj h1 h2 h3; cases h1; cases h2; cases h3; decide) ?_
  refine Al_st (St_gd [18, 21] rfl rfl rfl rfl ⟨⟨_, rfl⟩, ⟨_, rfl⟩, trivial⟩ (fun hg22 => Pu_cmp rfl rfl rfl rfl)) rfl (by decide) (by kernel_rfl) (by intro j b oj dj h1 h2 h3; cases h1; cases h2; cases h3; decide) ?_
  refine Al_pu (Pu_and rfl rfl rfl rfl) rfl rfl (by decide) (by kernel_rfl) ?_
  refine Al_pu (Pu_move (.inr rfl) (by conv => lhs; whnf)) rfl rfl (by decide) (by kernel_rfl) ?_
  refine Al_nil ?_
  refine Aw_ret ?_
  exact Sub.bool (by unfold T.fits; congr 1; exact decide_eq_decide.2 (by omega)) -- ret 0
set_option maxRecDepth 100000 in
theorem between_a (ss : List ByteArray) : ACall Try.prog 31 [.sl 1 (ss.map fun s => [tv s])] (.fn 44 [.fp [.sl 1 (ss.map fun s => [tv s])]]) := by
  refine ACall_enter (fun _ _ => by kernel_rfl) Try.func31 rfl Try.ntmps31 Try.results31 (Nat.le_of_ble_eq_true rfl) (fun hok M0 w0 hnl => ?_)
  refine Aw_seq ?_
  refine Aw_region ?_
  refine Al_pu (Pu_box1 rfl rfl (by nofun) (by nofun)) rfl rfl (by decide) (by kernel_rfl) ?_
  refine Al_pu (Pu_move (.inr rfl) (by conv => lhs; whnf)) rfl rfl (by decide) (by kernel_rfl) ?_
  refine Al_nil ?_
  refine Aw_seq ?_
  refine Aw_region ?_
  refine Al_pu (Pu_makeFunc (caps := [_]) rfl ⟨Sub.rfl, trivial⟩) rfl rfl (by decide) (by kernel_rfl) ?_
  refine Al_pu (Pu_move (.inr rfl) (by conv => lhs; whnf)) rfl rfl (by decide) (by kernel_rfl) ?_
  refine Al_nil ?_
  refine Aw_ret ?_
  exact Sub.rfl -- ret 0
end Go.Proofs.Ytfalbocgnmlncaa

set_option linter.unusedSimpArgs false
set_option linter.unusedVariables false
namespace Go.Proofs.Ytfalbocgnmlncaa
open Go.RowKit Go.Shelf
attribute [local go_sem] Oper.semAt_some
theorem appendedX {W w1 : World} {n₀ B : Nat} {t e : TypeId} {size : Nat} {v v' : Value} {k m : Nat} {xs ys : List Value} {tmp : Obj}
    (hv : Boxed W B t v) (hte : t ≠ e) (hrow : W.ownsRow n₀ e size v k xs) (hn₀ : n₀ ≤ W.heap.size)
    (hown' : w1.ownsRow n₀ e size v' m ys) (hgrow : (W.alloc tmp).grownBy w1 v.ownBlock) :
    Boxed w1 B t v ∧ Boxed (w1.setCell ⟨B, 0, none⟩ v') B t v' ∧ (w1.setCell ⟨B, 0, none⟩ v').ownsRow n₀ e size v' m ys ∧ KeepsOthers W (w1.setCell ⟨B, 0, none⟩ v') ∧ KeepX B n₀ W (w1.setCell ⟨B, 0, none⟩ v') := by
  have hv1 : Boxed w1 B t v := (hv.alloc tmp).kept hgrow (hv.not_row hte hrow)
  refine ⟨hv1, hv1.set v', hown'.kept (grownBy_setCell' w1 B v') (.inr (hv1.not_row hte hown').symm), ?_, ?_⟩
  · refine ((KeepsOthers.alloc W tmp).trans (KeepsOthers.of_grownBy hgrow fun j o ej hj => ?_)).trans (KeepsOthers.setCell _ _ _)
    rcases (hrow.alloc tmp).2 with ⟨rfl, _⟩ | ⟨g, cap, cur, rfl, _, hgb, _⟩
    · simp [Value.ownBlock] at ej
    · obtain rfl : g = j := by simpa [Value.ownBlock] using ej
      rw [hgb] at hj; cases hj; rfl
  · have h1 : Below n₀ W w1 := ((Below.refl n₀ W).alloc hn₀ tmp).grown hgrow (by simp; omega) fun j ej => by
      rcases hrow.2 with ⟨rfl, _⟩ | ⟨g, cap, cur, rfl, hb, _, _⟩
      · simp [Value.ownBlock] at ej
      · obtain rfl : g = j := by simpa [Value.ownBlock] using ej
        exact hb
    refine (KeepX.of_below h1).trans ?_
    have hg := grownBy_setCell' w1 B v'
    exact ⟨hg.os, hg.tape, hg.output, hg.size, fun b hb hx => by
      by_cases hlt : b < w1.heap.size
      · exact hg.block b hlt (fun e => hx (by simpa using e))
      · have e1 : w1.heap[b]? = none := Array.getElem?_eq_none (by omega)
        have e2 : (w1.setCell ⟨B, 0, none⟩ v').heap[b]? = none := Array.getElem?_eq_none (by
          have : (w1.setCell ⟨B, 0, none⟩ v').heap.size = w1.heap.size := by simp [World.setCell]
          omega)
        rw [e1, e2]⟩
theorem ownFrom_keepX {β : Type} {x n B : Nat} (hn : n ≤ B) (wx : World) (hsz : n ≤ wx.heap.size) : OwnFrom B (fun (_ : β) W => KeepX x n wx W) := fun s W W' row hs hg hr => hs.trans ⟨hg.os, hg.tape, hg.output, hg.size, fun b hb _ => hg.block b (by have := hs.size; omega) (fun e => by have := (hr b e.symm).1; omega)⟩
namespace A
section
variable {P : Program} {N : Nat} {M0 : Nat → Prop} {w0 : Base} {Q : Exit → ASt → Prop} {st : ASt}
/-- Code behind which anything may be asked of memory. -/
structure Awr (P : Program) (N : Nat) (M0 : Nat → Prop) (w0 : Base) (c : Code) (R : Exit → Act → World → Prop) (st : ASt) : Prop where
  out : ∀ a w, Sim N M0 w0 st a w → c.wp P R a w
theorem Awr_seq {x y : Code} {R : Exit → Act → World → Prop} (hQ : ∀ e st a w, Q e st → Sim N M0 w0 st a w → R e a w) (h : Aw P N M0 w0 x (Then (Awr P N M0 w0 y R) Q) st) : Awr P N M0 w0 (.seq x y) R st := by
  refine ⟨fun a w hs => ?_⟩
  refine wp_seq (wp_mono (h.out a w hs) fun e a' w' ⟨s, h1, h2⟩ => ?_)
  cases e with
  | normal => exact h1.out a' w' h2
  | _ => exact hQ _ s _ _ h1 h2
theorem Awr_seq2 {x y z : Code} {R : Exit → Act → World → Prop} (hQ : ∀ e st a w, Q e st → Sim N M0 w0 st a w → R e a w) (hQ2 : ∀ st, ¬ Q .normal st) (h : Aw P N M0 w0 x (Then (Awr P N M0 w0 y (Exit.then (fun a w => z.wp P R a w) R)) Q) st) : Awr P N M0 w0 (.seq (.seq x y) z) R st := by
  refine ⟨fun a w hs => ?_⟩
  refine wp_seq (wp_seq (wp_mono (h.out a w hs) fun e a' w' ⟨s, h1, h2⟩ => ?_))
  cases e with
  | normal => exact h1.out a' w' h2
  | _ => exact hQ _ s _ _ h1 h2
theorem SimR.inMt {ρ : Rho} {a : Act} {w : World} (_ : SimR N M0 w0 st ρ a w) {k g b : Nat} {o : AO} {h : Value} (hob : st.ob k = some (g, o)) (hρ : ρ k g = some h) (hb : fpO o h b) : Mt M0 ρ st.ob b := .inr ⟨k, g, o, h, hob, hρ, hb⟩
end
end A
def T.encL (l : List Rng) : List Value := l.flatMap fun r => [.string r.f, .string r.t]
theorem T.encL_snoc (l : List Rng) (r : Rng) : T.encL (l ++ [r]) = T.encL l ++ [.string r.f, .string r.t] := by simp [T.encL]
theorem T.encL_len (l : List Rng) : (T.encL l).length = l.length * 2 := by
  induction l with
  | nil => rfl
  | cons x r ih => simp only [T.encL, List.flatMap_cons, List.length_append, List.length_cons, List.length_nil] at *; omega
theorem cells_two_new (w : World) (x y : Value) (t : TypeId) : ∀ j u, [x, y][j]? = some u → (w.alloc (.cells #[x, y] t)).cell? ((⟨w.heap.size, 0, none⟩ : Addr).add j) = some u := by
  intro j u hj
  match j, hj with
  | 0, hj => simp at hj; subst hj; simp [Addr.add]
  | 1, hj => simp at hj; subst hj; simp [Addr.add]
  | j + 2, hj => simp at hj
theorem infoRng : (Try.prog.info? 35).map (fun i => (i.zero, i.size, i.bytes)) = some (some (.agg #[.string ⟨#[]⟩, .string ⟨#[]⟩]), 2, 32) := by kernel_rfl
set_option maxRecDepth 100000 in
set_option maxHeartbeats 4000000 in
theorem parts_loop (fn : Func) (w : World) (t : List Value) (n₀ b5 Bs os cap : Nat) (a0 : Option Addr) (ss : List ByteArray) (R : Ending → World → Prop) (hlen : t.length = 25) (h5 : t[5]? = some (.pointer (some ⟨b5, 0, none⟩))) (h18 : t[18]? = some (.func (.func 44) #[] #[.pointer (some ⟨Bs, os, none⟩)]))
    (hn : n₀ = w.heap.size) (hss : ss.length ≤ 1000000) (hbox : Boxed w b5 27 (.slice none 0 0)) (hBs : w.cell? ⟨Bs, os, none⟩ = some (.slice a0 ss.length cap)) (hBx : Bs ≠ b5) (hI : ∀ j, j < ss.length → ∃ b off, a0 = some ⟨b, off, none⟩ ∧ b < n₀ ∧ b ≠ b5 ∧ w.cell? ⟨b, off + j, none⟩ = some (.string (ss[j]?.getD ⟨#[]⟩)))
    (hfn : fn.results = #[.tmp 4]) (hR : ∀ v W, W.ownsRow n₀ 35 2 v (T.parts ss).length (T.encL (T.parts ss)) → KeepX b5 n₀ w W → R (.returned v) W) :
    ∀ x1 x2 x3 x4 B c, Try.f14.body = some (.seq x1 (.seq x2 (.seq x3 (.seq (.seq x4 B) c)))) → B.wp Try.prog (Exit.then (fun a w => c.wp Try.prog (bodyPostM Fence.wide 20 Try.prog fn R) a w) (bodyPostM Fence.wide 20 Try.prog fn R)) { tmps := t.toArray, defers := [] } w := by
  intro x1 x2 x3 x4 B c hc
  have hc2 := Code.seq.inj (Code.seq.inj (Code.seq.inj (Code.seq.inj (Option.some.inj hc)).2).2).2
  obtain rfl := (Code.seq.inj hc2.1).2
  obtain rfl := hc2.2
  clear hc hc2
  match t, hlen with
  | [t0, t1, t2, t3, t4, t5, t6, t7, t8, t9, t10, t11, t12, t13, t14, t15, t16, t17, t18, t19, t20, t21, t22, t23, t24], _ =>
  simp only [List.getElem?_cons_succ, List.getElem?_cons_zero, Option.some.injEq] at h5 h18
  subst h5 h18
  obtain ⟨i0, hi, hz0, hz1, hz2⟩ := info_parts infoRng
  have hBlt : Bs < w.heap.size := by
    rcases Nat.lt_or_ge Bs w.heap.size with h | h
    · exact h
    · simp [World.cell?, Array.getElem?_eq_none h] at hBs
  refine (wpIn_wide (n := 20)).1 ?_
  gi_wp2
  refine wpIn_rangeFunc_ownH rfl (by omega) (gf := 44) (lb := #[.pointer (some ⟨Bs, os, none⟩)]) rfl trivial (enters_of Try.func44 (by kernel_rfl) rfl)
    (between_stops Fence.wide _ trivial rfl (by omega) Bs os b5 n₀ cap a0 ss hss w hBlt (by omega) hBs hI) KeepX.trans (keepX_b (by omega)) (Below.refl _ _) (fun _ => rfl)
    (fun pre W => (∃ v, Boxed W b5 27 v ∧ W.ownsRow n₀ 35 2 v pre.length (T.encL pre) ∧ True) ∧ KeepX b5 n₀ w W)
    (fun _ _ _ => False)
    (OwnFrom.and (Own.from (holdsRow_own n₀ b5 27 35 2 (fun pre => pre.length) T.encL (fun _ _ => True)) _) (ownFrom_keepX (by omega) w (by omega)))
    (fun _ _ _ _ _ hs _ _ => hs)
    ⟨⟨_, hbox, World.ownsRow_nil _ _ _ _, trivial⟩, KeepX.refl _ _ _⟩
    (fun x a' W => ∃ Bx, n₀ ≤ Bx ∧ W.heap[Bx]? = some (.cells #[.string x.f, .string x.t] 35) ∧ a' = { tmps := #[t0, t1, t2, t3, t4, .pointer (some ⟨b5, 0, none⟩), .pointer (some ⟨Bx, 0, none⟩), t7, t8, t9, t10, t11, t12, t13, t14, t15, t16, t17, .func (.func 44) #[] #[.pointer (some ⟨Bs, os, none⟩)], T.encR x, t20, t21, t22, t23, t24], defers := [] })
    (fun x a' _ X Y row hs hg hr => by
      obtain ⟨Bx, h1, h2, h3⟩ := hs
      refine ⟨Bx, h1, ?_, h3⟩
      exact (hg.block Bx (Array.getElem?_eq_some_iff.1 h2).1 (fun e => by
        obtain ⟨_, o, ho, hco⟩ := hr Bx e.symm
        rw [h2] at ho; cases ho; cases hco)).trans h2)
    ?assign ?body ?done ?stop
  case assign =>
    rintro l pre x W K ⟨⟨v, hv, hrow, _⟩, hkx⟩ hK
    dsimp only [T.encR]
    gi_wp2
    have hsz := hkx.size
    have hb : Below n₀ W (W.alloc (.cells #[.string x.f, .string x.t] 35)) := (Below.refl _ W).alloc (by omega) _
    exact hK _ _ ((KeepsOthers.alloc _ _).from _) (.of_below hb) ⟨⟨v, hv.alloc _, hrow.alloc _, trivial⟩, hkx.trans (.of_below hb)⟩ ⟨W.heap.size, by omega, World.alloc_heap_new W _, rfl⟩
  case body =>
    rintro l pre x a' W hl ⟨r, hr⟩ ⟨⟨v, hv, hrow, _⟩, hkx⟩ ⟨Bx, hBx1, bX, rfl⟩ hlt
    have hc := hv.cell
    have hsz := hkx.size
    have hx0 : W.cell? ⟨Bx, 0, none⟩ = some (.string x.f) := by simp [World.cell?, bX]
    have hx1 : W.cell? ⟨Bx, 1, none⟩ = some (.string x.t) := by simp [World.cell?, bX]
    gi_wp2_with (gi_at_builtin; refine wpListIn_append_own _ rfl _ _ 27 rfl n₀ 35 i0 _ 2 32 Try.underlying27 hi hz0 hz1 hz2 rfl (by decide) _ _ _ rfl (hrow.alloc _) ⟨W.heap.size, 0, none⟩ 1 1 [.string x.f, .string x.t] rfl rfl (cells_two_new _ _ _ _) (by simp [Value.oneCell']) (by simp [maxLen]; omega) (by omega) (by simp; omega) ?_; intro v' w1 hown' hgrow _; obtain ⟨g', cap', rfl⟩ := ownsRow_succ hown'; obtain ⟨hv1, hv2, hr2, hk2, hb2⟩ := appendedX hv (by decide) hrow (by omega) hown' hgrow; have hc1 := hv1.cell; have hf1 := hv1.frozen)
    exact ⟨hk2.from _, hb2, ⟨_, hv2, by rw [T.encL_snoc, List.length_append]; exact hr2, trivial⟩, hkx.trans hb2⟩
  case done =>
    rintro D ys W hD rfl ⟨⟨v, hv, hrow, _⟩, hkx⟩ hK
    have hc := hv.cell
    refine (wpIn_wide (n := 20)).1 ?_
    gi_wp2
    refine ⟨by simp, .inl ⟨_, _, rfl, run_takeDeferred hK, ?_⟩⟩
    exact ⟨_, results_tmp hfn _ _ _, hR _ _ (ownsRow_putObj hrow _ hK rfl) (hkx.trans (keepX_b (w := w) (by omega) W D _ _ (by omega) hK rfl rfl))⟩
  case stop =>
    rintro D c pre W _ _ h _
    exact h.elim
open A R A.RowT
theorem T.encL_at : ∀ (l : List Rng) (i : Nat), i < l.length → (T.encL l)[i * 2]? = some (.string (l.getD i ⟨⟨#[]⟩, ⟨#[]⟩⟩).f) ∧ (T.encL l)[i * 2 + 1]? = some (.string (l.getD i ⟨⟨#[]⟩, ⟨#[]⟩⟩).t)
  | [], i, h => by simp at h
  | x :: r, 0, _ => by simp [T.encL]
  | x :: r, i + 1, h => by
    have := T.encL_at r i (by simpa using h)
    have e : T.encL (x :: r) = .string x.f :: .string x.t :: T.encL r := by simp [T.encL]
    rw [e, show (i + 1) * 2 = i * 2 + 1 + 1 from by omega, List.getElem?_cons_succ, List.getElem?_cons_succ, show i * 2 + 1 + 1 + 1 = i * 2 + 1 + 1 + 1 from rfl, List.getElem?_cons_succ, List.getElem?_cons_succ]
    simpa using this
/-- A row of ranges that nobody writes. -/
theorem rep_ranges {M : Nat → Prop} {w : World} {n₀ : Nat} {v : Value} {l : List Rng} (h : w.ownsRow n₀ 35 2 v l.length (T.encL l)) (hl : l.length ≤ A.maxI) (hv : ∀ r ∈ l, vok (.string r.f) ∧ vok (.string r.t)) (hM : ∀ b, n₀ ≤ b → ¬ M b) : Rep M w (.sl 2 (l.map Rng.row)) v := by
  rcases h.2 with ⟨rfl, h0⟩ | ⟨g, cap, cur, rfl, hb, hg, hlc, hcm, hcs, ht⟩
  · have : l = [] := List.eq_nil_of_length_eq_zero h0
    subst this
    exact .nil _ _ _
  · have hcell : ∀ i, i < l.length * 2 → w.cell? ⟨g, 0 + i, none⟩ = (T.encL l)[i]? := fun i hi => by
      simp only [World.cell?, hg, Nat.zero_add]
      rw [← Array.getElem?_toList, ← ht, List.getElem?_take, if_pos hi]; simp
    have := Rep.sl (M := M) (w := w) 2 (l.map Rng.row) g 0 cap (fun i j => .string (if j = 0 then (l.getD i ⟨⟨#[]⟩, ⟨#[]⟩⟩).f else (l.getD i ⟨⟨#[]⟩, ⟨#[]⟩⟩).t)) (by rw [List.length_map]; exact hl) (by rw [List.length_map]; omega) (fun i r hr => by
      rw [List.getElem?_map] at hr
      obtain ⟨x, _, rfl⟩ := Option.map_eq_some_iff.1 hr
      rfl) (fun i r j a hr ha => by
      rw [List.getElem?_map] at hr
      obtain ⟨x, hx, rfl⟩ := Option.map_eq_some_iff.1 hr
      have hi := (List.getElem?_eq_some_iff.1 hx).1
      obtain ⟨e0, e1⟩ := T.encL_at l i hi
      match j, ha with
      | 0, ha => exact ⟨hM g hb, by rw [show 0 + i * 2 + 0 = 0 + (i * 2) from by omega, hcell _ (by omega), e0]; rfl, rfl⟩
      | 1, ha => exact ⟨hM g hb, by rw [show 0 + i * 2 + 1 = 0 + (i * 2 + 1) from by omega, hcell _ (by omega), e1]; rfl, rfl⟩
      | j + 2, ha => simp [Rng.row] at ha) (fun i r j a hr ha => by
      rw [List.getElem?_map] at hr
      obtain ⟨x, hx, rfl⟩ := Option.map_eq_some_iff.1 hr
      have hi := (List.getElem?_eq_some_iff.1 hx)
      obtain ⟨hi, hxe⟩ := hi
      have hg2 : l.getD i ⟨⟨#[]⟩, ⟨#[]⟩⟩ = x := by simp [List.getD_eq_getElem?_getD, hi, hxe]
      have hm := hv x (by rw [← hxe]; exact List.getElem_mem hi)
      match j, ha with
      | 0, ha =>
        simp only [Rng.row, List.getElem?_cons_zero, Option.some.injEq] at ha
        subst ha
        rw [hg2]; exact .v _ hm.1
      | 1, ha =>
        simp only [Rng.row, List.getElem?_cons_succ, List.getElem?_cons_zero, Option.some.injEq] at ha
        subst ha
        rw [hg2]; exact .v _ hm.2
      | j + 2, ha => simp [Rng.row] at ha)
    rw [List.length_map] at this
    exact this
theorem rep_texts {M : Nat → Prop} {w : World} {v : Value} {ss : List ByteArray} (h : Rep M w (.sl 1 (ss.map fun s => [tv s])) v) : ss.length ≤ A.maxI ∧ ∃ a0 cap, v = .slice a0 ss.length cap ∧ (∀ j, j < ss.length → ∃ b off, a0 = some ⟨b, off, none⟩ ∧ ¬ M b ∧ w.cell? ⟨b, off + j, none⟩ = some (.string (ss[j]?.getD ⟨#[]⟩))) ∧ ∀ s ∈ ss, vok (.string s) := by
  generalize hr : ss.map (fun s => [tv s]) = rows at h
  cases h with
  | nil _ a c =>
    have : ss = [] := by simpa using hr
    subst this
    exact ⟨Nat.zero_le _, a, c, rfl, fun j hj => by simp at hj, fun s hs => by simp at hs⟩
  | sl _ _ b o cap f hl hcap hn hcell hrep =>
    subst hr
    rw [List.length_map] at hl hcap ⊢
    have hat : ∀ j (hj : j < ss.length), (ss.map (fun s => [tv s]))[j]? = some [tv ss[j]] := fun j hj => by simp [hj]
    have hv : ∀ j (hj : j < ss.length), f j 0 = .string ss[j] ∧ vok (.string ss[j]) := fun j hj => by
      have := hrep j _ 0 _ (hat j hj) rfl
      generalize f j 0 = y at this
      cases this with
      | v _ h => exact ⟨rfl, h⟩
    refine ⟨hl, _, cap, rfl, fun j hj => ?_, fun s hs => ?_⟩
    · obtain ⟨h1, h2, _⟩ := hcell j _ 0 _ (hat j hj) rfl
      refine ⟨b, o, rfl, h1, ?_⟩
      rw [show o + j = o + j * 1 + 0 from by omega, h2, (hv j hj).1]
      simp [hj]
    · obtain ⟨j, hj, rfl⟩ := List.getElem_of_mem hs
      exact (hv j hj).2
theorem whole_pos {l : List Rng} (h : whole l = true) : 0 < l.length := by
  cases l with
  | nil => simp [whole] at h
  | cons x r => simp
/-- A call that may be left at once. -/
def PtQ (p : Prop) (r : Nat) (res : AV) : Exit → ASt → Prop
  | .ret, st => p ∧ Sub (st.sl r) (.d res)
  | _, _ => False
theorem T.parts_len (ss : List ByteArray) : (T.parts ss).length = ss.length + 1 := T.upto_len _ _
theorem T.parts_vok (ss : List ByteArray) (h : ∀ s ∈ ss, vok (.string s)) : ∀ r ∈ T.parts ss, vok (.string r.f) ∧ vok (.string r.t) := by
  have h0 : vok (.string (⟨#[]⟩ : ByteArray)) := Nat.zero_le _
  have hg : ∀ j : Nat, vok (.string (ss[j]?.getD ⟨#[]⟩)) := fun j => by
    cases e : ss[j]? with
    | none => exact h0
    | some x => exact h x (List.mem_of_getElem? e)
  intro r hr
  obtain ⟨j, _, rfl⟩ := List.mem_map.1 hr
  refine ⟨?_, hg j⟩
  cases j with
  | zero => exact h0
  | succ j => exact hg j
set_option maxRecDepth 100000 in
set_option maxHeartbeats 1000000 in
theorem parts_a (c d : SRow) (hc : T.Ahead c.parents) (hd : T.Ahead d.parents) : ACall Try.prog 14 [.row c.row, .row d.row] (.sl 2 ((if T.fits c d then T.parts (boundsF (c.ranges ++ d.ranges)) else []).map Rng.row)) := ⟨fun _ _ => by kernel_rfl, fun M w vs hM ha => by
  refine (callsIn_wide (n := 20)).1 (callsIn_of_wp_marks (F := Fence.wide) Try.func14 rfl trivial (wpIn_wide.2 ?_))
  rw [Try.ntmps14]
  have hnl : ∀ b, ¬ (⟨w, fun _ => False, [], fun _ _ => none⟩ : Base).l b := fun _ h => h
  refine (?_ : Awr Try.prog 25 M ⟨w, fun _ => False, [], fun _ _ => none⟩ _ _ (mk (argS 0 [.row c.row, .row d.row]) [])).out _ _ ⟨_, sim_enter hM ha (Nat.le_of_ble_eq_true rfl)⟩
  generalize hres : (if T.fits c d then T.parts (boundsF (c.ranges ++ d.ranges)) else []) = pts
  have hQ : ∀ e st a w', PtQ True 4 (.sl 2 (pts.map Rng.row)) e st → Sim 25 M ⟨w, fun _ => False, [], fun _ _ => none⟩ st a w' → bodyPostM Fence.wide 20 Try.prog Try.f14 (fun e w' => ∃ v, e = .returned v ∧ Ev.Ext w w' ∧ Rep M w' (.sl 2 (pts.map Rng.row)) v) e a w' := by
    rintro e st a w' h ⟨ρ, hs⟩
    cases e with
    | ret =>
      show LeavesInM _ _ _ _ _ _ a.defers _ _
      rw [show a.defers = [] from hs.defers]
      exact ⟨_, results_tmp Try.results14 _ _ _, _, rfl, hs.ext.ext, hs.res h.2⟩
    | _ => exact h.elim
  refine Awr_seq hQ ?_
  refine Aw_region ?_
  refine Al_pu (Pu_boxN rfl rfl) rfl rfl (by decide) (by kernel_rfl) ?_
  refine Al_pu (Pu_boxN rfl rfl) rfl rfl (by decide) (by kernel_rfl) ?_
  refine Al_pu (Pu_move (.inr rfl) (by conv => lhs; whnf)) rfl rfl (by decide) (by kernel_rfl) ?_
  refine Al_nil ?_
  refine Awr_seq hQ ?_
  refine Aw_seq ?_
  refine Aw_region ?_
  refine Al_pu (Pu_loadN rfl Try.isAgg29 Try.sizeOf29 rfl (Nat.le_of_ble_eq_true rfl)) rfl rfl (by decide) (by kernel_rfl) ?_
  refine Al_pu (Pu_loadN rfl Try.isAgg29 Try.sizeOf29 rfl (Nat.le_of_ble_eq_true rfl)) rfl rfl (by decide) (by kernel_rfl) ?_
  refine Al_pu (Pu_call (fits_a c d hc hd) rfl ⟨Sub.rfl, Sub.rfl, trivial⟩) rfl rfl (by decide) (by kernel_rfl) ?_
  refine Al_pu (Pu_not rfl rfl) rfl rfl (by decide) (by kernel_rfl) ?_
  refine Al_nil ?_
  refine Aw_cond rfl (fun h10 => ?_) (fun h10 => ?_)
  · refine Aw_seq ?_
    refine Aw_region ?_
    refine Al_pu (Pu_move (.inr rfl) (by conv => lhs; whnf)) rfl rfl (by decide) (by kernel_rfl) ?_
    refine Al_nil ?_
    refine Aw_ret ?_
    have hf : T.fits c d = false := by simpa using h10
    rw [hf] at hres
    subst hres
    exact ⟨trivial, Sub.nil⟩
  refine Aw_skip ?_
  have hf : T.fits c d = true := by simpa using h10
  rw [hf, if_pos rfl] at hres
  subst hres
  have hf2 := hf
  unfold T.fits at hf2
  simp only [Bool.and_eq_true] at hf2
  have l1 := (S.shape_facts (T.ok_facts hf2.1.1).1).2.2.1
  have l2 := (S.shape_facts (T.ok_facts hf2.1.2).1).2.2.1
  have l3 : (c.ranges ++ d.ranges).length ≤ 100 := by rw [List.length_append]; omega
  have l4 := boundsF_len (c.ranges ++ d.ranges)
  generalize hss : boundsF (c.ranges ++ d.ranges) = ss at *
  refine Awr_seq hQ ?_
  refine Aw_region ?_
  refine Al_alloc rfl rfl rfl (by decide) Try.zeroValue27 rfl (by kernel_rfl) (fun g5 => ?_)
  refine Al_nil ?_
  have hfl : [c.ranges, d.ranges].flatten = c.ranges ++ d.ranges := by simp
  have hpos : 0 < c.ranges.length := whole_pos (S.shape_facts (T.ok_facts hf2.1.1).1).2.2.2.2
  refine Awr_seq2 hQ (fun _ h => h) ?_
  refine Aw_region ?_
  refine Al_pu (Pu_field 0 rfl Try.underlying29 rfl rfl Try.sizeOf27 rfl) rfl rfl (by decide) (by kernel_rfl) ?_
  refine Al_pu (Pu_load1 rfl Try.isAgg27 rfl rfl) rfl rfl (by decide) (by kernel_rfl) ?_
  refine Al_pu (Pu_field 0 rfl Try.underlying29 rfl rfl Try.sizeOf27 rfl) rfl rfl (by decide) (by kernel_rfl) ?_
  refine Al_pu (Pu_load1 rfl Try.isAgg27 rfl rfl) rfl rfl (by decide) (by kernel_rfl) ?_
  refine Al_pu (Pu_buildSlice (aa := [(0, _), (1, _)]) rfl Try.underlying69 Try.sizeOf27 Try.zeroValue27 rfl (by decide) (by decide) (by decide) (by kernel_rfl) ⟨rfl, rfl, rfl, rfl, rfl, rfl, trivial⟩ (rfl : _ = some [[AV.sl 2 (c.ranges.map Rng.row)], [AV.sl 2 (d.ranges.map Rng.row)]].flatten) rfl rfl) rfl rfl (by decide) (by kernel_rfl) ?_
  refine Al_pu (Pu_call (concat_a [c.ranges, d.ranges] (by rw [hfl, List.length_append]; omega) (by rw [hfl]; omega) (by simp)) rfl ⟨Sub.rfl, trivial⟩) rfl rfl (by decide) (by kernel_rfl) ?_
  refine Al_pu (Pu_call (bounds_a (c.ranges ++ d.ranges) l3) rfl ⟨Sub.d (by rw [hfl]), trivial⟩) rfl rfl (by decide) (by kernel_rfl) ?_
  rw [hss]
  refine Al_pu (Pu_call (between_a ss) rfl ⟨Sub.rfl, trivial⟩) rfl rfl (by decide) (by kernel_rfl) ?_
  refine Al_nil ?_
  refine ⟨fun a wx ⟨ρ, hs⟩ => ?_⟩
  obtain ⟨tmps, dfs⟩ := a
  obtain rfl : dfs = [] := hs.defers
  obtain ⟨tl⟩ := tmps
  have hlen : tl.length = 25 := hs.size
  have h5 := hs.slot 5
  have h18 := hs.slot 18
  obtain ⟨ho, hρ, hob⟩ := hs.obj 5 g5 _ rfl
  obtain ⟨h5', b5, e1, e2, e3⟩ := h5
  obtain rfl : ho = h5' := by have := hρ.symm.trans e1; simpa using this
  obtain ⟨b5', vs5, rfl, hlo, hblk, hvs, hcells⟩ := hob
  obtain rfl : b5' = b5 := by simpa [blk] using e2
  have hlo : w.heap.size ≤ b5' := by rcases hlo with h | h; exact h; exact h.elim
  obtain ⟨l5⟩ := vs5
  match l5, hvs with
  | [x5], _ =>
  obtain ⟨hx5, _⟩ := hcells 0 _ x5 rfl rfl
  obtain ⟨rfl, _⟩ := rep_v hx5
  have hmt := hs.inMt (k := 5) (g := g5) (o := .box 27 [.d (.v (.slice none 0 0))]) rfl hρ rfl
  have h18 : Rep _ wx (.fn 44 [.fp [.sl 1 (ss.map fun s => [tv s])]]) _ := h18
  generalize hv18 : (⟨tl⟩ : Array Value).getD 18 undef = v18 at h18
  cases h18 with
  | fn _ _ vs hl hrf =>
  match vs, hl with
  | [x18], _ =>
  have hx18 := hrf 0 _ x18 rfl rfl
  cases hx18 with
  | fp _ Bs os f hcf hrp =>
  obtain ⟨hnB, hcB, _⟩ := hcf 0 _ rfl
  have hr0 := hrp 0 _ rfl
  obtain ⟨hmx, a0, cap, ef, hI, hvk⟩ := rep_texts hr0
  have hlt : ∀ b o x, wx.cell? ⟨b, o, none⟩ = some x → b < wx.heap.size := fun b o x h => by
    rcases Nat.lt_or_ge b wx.heap.size with h2 | h2
    · exact h2
    · simp [World.cell?, Array.getElem?_eq_none h2] at h
  refine parts_loop _ wx tl wx.heap.size b5' Bs os cap a0 ss _ hlen ?_ ?_ rfl (by omega) hblk (by rw [← ef]; exact hcB) (fun e => hnB (e ▸ hmt)) (fun j hj => ?_) Try.results14 (fun v W hown hk => ?_) _ _ _ _ _ _ rfl
  · rw [← e3]; simp [Array.getD, hlen]
  · rw [← hv18]; simp [Array.getD, hlen]
  · obtain ⟨b, off, h1, h2, h3⟩ := hI j hj
    exact ⟨b, off, h1, hlt _ _ _ h3, fun e => h2 (e ▸ hmt), h3⟩
  · have hE := hs.ext.ext
    refine ⟨v, rfl, ⟨hk.os.trans hE.os, hk.tape.trans hE.tape, hk.output.trans hE.output, Nat.le_trans hE.size hk.size, fun b hb => (hk.block b (Nat.lt_of_lt_of_le hb hE.size) (by omega)).trans (hE.block b hb)⟩, rep_ranges hown ?_ (T.parts_vok ss hvk) (fun b hb hm => ?_)⟩
    · rw [T.parts_len]; simp only [A.maxI]; omega
    · have := hM b hm
      have := hE.size
      omega⟩
end Go.Proofs.Ytfalbocgnmlncaa

set_option linter.unusedSimpArgs false
set_option linter.unusedVariables false
namespace Go.Proofs.Ytfalbocgnmlncaa
open Go.RowKit A R
open A.RowT
structure Mv where
  to' : Int
  fr : Int
  r : Rng
def Mv.row (m : Mv) : List AV := [iv m.to', iv m.fr, tv m.r.f, tv m.r.t]
namespace T
def gets (c d : SRow) (r : Rng) (s : Nat) : Bool := bit (owners d r.f) s && !bit (owners c r.f) s
def movesOf (c d : SRow) (n : Nat) (r : Rng) : List Mv := ((List.range n).filter (gets c d r)).map fun (s : Nat) => ⟨s, firstF (owners c r.f), r⟩
def planL (c d : SRow) (n : Nat) (l : List Rng) : List Mv := l.flatMap (movesOf c d n)
def partsF (c d : SRow) : List Rng := if fits c d then parts (boundsF (c.ranges ++ d.ranges)) else []
def planF (c d : SRow) : List Mv := planL c d d.parents.length (partsF c d)
def gainsL (l : List Mv) (s : Int) : List Rng := (l.filter fun m => decide (m.to' = s)).map (·.r)
theorem movesOf_succ (c d : SRow) (s : Nat) (r : Rng) : movesOf c d (s + 1) r = movesOf c d s r ++ if gets c d r s then [⟨s, firstF (owners c r.f), r⟩] else [] := by
  unfold movesOf
  rw [List.range_succ, List.filter_append, List.map_append]
  congr 1
  by_cases h : gets c d r s = true <;> simp [h]
theorem movesOf_len (c d : SRow) (n : Nat) (r : Rng) : (movesOf c d n r).length ≤ n := by
  unfold movesOf
  rw [List.length_map]
  exact Nat.le_trans (List.length_filter_le _ _) (by simp)
theorem planL_len (c d : SRow) (n : Nat) : ∀ l, (planL c d n l).length ≤ n * l.length
  | [] => by simp [planL]
  | r :: l => by
    have h1 := movesOf_len c d n r
    have h2 := planL_len c d n l
    unfold planL at *
    rw [List.flatMap_cons, List.length_append, List.length_cons, Nat.mul_add]
    omega
theorem planL_take (c d : SRow) (n : Nat) (l : List Rng) {k : Nat} (hk : k < l.length) : planL c d n (l.take (k + 1)) = planL c d n (l.take k) ++ movesOf c d n l[k] := by
  unfold planL
  rw [List.take_succ_eq_append_getElem hk, List.flatMap_append]
  simp
theorem planL_take_len (c d : SRow) (n : Nat) (l : List Rng) (k : Nat) : (planL c d n (l.take k)).length ≤ n * l.length := by
  refine Nat.le_trans (planL_len c d n _) (Nat.mul_le_mul_left _ ?_)
  rw [List.length_take]; omega
theorem partsF_len (c d : SRow) : (partsF c d).length ≤ 33 := by
  unfold partsF
  split
  · rename_i hf
    unfold fits at hf
    simp only [Bool.and_eq_true] at hf
    have l1 := (S.shape_facts (ok_facts hf.1.1).1).2.2.1
    have l2 := (S.shape_facts (ok_facts hf.1.2).1).2.2.1
    have l4 := boundsF_len (c.ranges ++ d.ranges)
    rw [parts_len]
    rw [List.length_append] at l4
    omega
  · simp
theorem gainsL_take (l : List Mv) (s : Int) {k : Nat} (hk : k < l.length) : gainsL (l.take (k + 1)) s = gainsL (l.take k) s ++ if l[k].to' = s then [l[k].r] else [] := by
  unfold gainsL
  rw [List.take_succ_eq_append_getElem hk, List.filter_append, List.map_append]
  congr 1
  by_cases h : l[k].to' = s <;> simp [h]
theorem gainsL_len (l : List Mv) (s : Int) : (gainsL l s).length ≤ l.length := by
  unfold gainsL
  rw [List.length_map]
  exact List.length_filter_le _ _
end T
theorem partsF_a (c d : SRow) (hc : T.Ahead c.parents) (hd : T.Ahead d.parents) : ACall Try.prog 14 [.row c.row, .row d.row] (.sl 2 ((T.partsF c d).map Rng.row)) := parts_a c d hc hd
set_option maxRecDepth 100000 in
theorem comes_a (c d : SRow) (r : Rng) (s : Nat) : ACall Try.prog 25 [iv s, .fp d.row, .fp r.row, .fp c.row] (bv (T.gets c d r s)) := by
  refine ACall_enter (fun _ _ => by kernel_rfl) Try.func25 rfl Try.ntmps25 Try.results25 (Nat.le_of_ble_eq_true rfl) (fun hok M0 w0 hnl => ?_)
  refine Aw_seq ?_
  refine Aw_region ?_
  refine Al_pu (Pu_move (.inr rfl) (by conv => lhs; whnf)) rfl rfl (by decide) (by kernel_rfl) ?_
  refine Al_nil ?_
  refine Aw_seq ?_
  refine Aw_region ?_
  refine Al_pu (Pu_loadN rfl Try.isAgg29 Try.sizeOf29 rfl (Nat.le_of_ble_eq_true rfl)) rfl rfl (by decide) (by kernel_rfl) ?_
  refine Al_pu (Pu_move (.inl rfl) (by conv => lhs; whnf)) rfl rfl (by decide) (by kernel_rfl) ?_
  refine Al_pu (Pu_field 0 rfl Try.underlying35 rfl rfl Try.sizeOf9 rfl) rfl rfl (by decide) (by kernel_rfl) ?_
  refine Al_pu (Pu_load1 rfl Try.isAgg9 rfl rfl) rfl rfl (by decide) (by kernel_rfl) ?_
  refine Al_pu (Pu_call (owns_a d s r.f) rfl ⟨Sub.rfl, Sub.rfl, Sub.rfl, trivial⟩) rfl rfl (by decide) (by kernel_rfl) ?_
  refine Al_pu (Pu_move (.inl rfl) (by conv => lhs; whnf)) rfl rfl (by decide) (by kernel_rfl) ?_
  refine Al_st (St_gd [] rfl rfl rfl rfl trivial (fun hg12 => Pu_loadN rfl Try.isAgg29 Try.sizeOf29 rfl (Nat.le_of_ble_eq_true rfl))) rfl (by decide) (by kernel_rfl) (by intro j b oj dj h1 h2 h3; cases h1; cases h2; cases h3; decide) ?_
  refine Al_st (St_gd [] rfl rfl rfl rfl trivial (fun hg13 => by exact Pu_move (.inl rfl) (by conv => lhs; whnf))) rfl (by decide) (by kernel_rfl) (by intro j b oj dj h1 h2 h3; cases h1; cases h2; cases h3; decide) ?_
  refine Al_st (St_gd [] rfl rfl rfl rfl trivial (fun hg14 => Pu_field 0 rfl Try.underlying35 rfl rfl Try.sizeOf9 rfl)) rfl (by decide) (by kernel_rfl) (by intro j b oj dj h1 h2 h3; cases h1; cases h2; cases h3; decide) ?_
  refine Al_st (St_gd [14] rfl rfl rfl rfl ⟨⟨_, rfl⟩, trivial⟩ (fun hg15 => Pu_load1 rfl Try.isAgg9 rfl rfl)) rfl (by decide) (by kernel_rfl) (by intro j b oj dj h1 h2 h3; cases h1; cases h2; cases h3; decide) ?_
  refine Al_st (St_gd [12, 13, 15] rfl rfl rfl rfl ⟨⟨_, rfl⟩, ⟨_, rfl⟩, ⟨_, rfl⟩, trivial⟩ (fun hg16 => Pu_call (owns_a c s r.f) rfl ⟨Sub.rfl, Sub.rfl, Sub.rfl, trivial⟩)) rfl (by decide) (by kernel_rfl) (by intro j b oj dj h1 h2 h3; cases h1; cases h2; cases h3; decide) ?_
  refine Al_st (St_gd [16] rfl rfl rfl rfl ⟨⟨_, rfl⟩, trivial⟩ (fun hg17 => Pu_not rfl rfl)) rfl (by decide) (by kernel_rfl) (by intro j b oj dj h1 h2 h3; cases h1; cases h2; cases h3; decide) ?_
  refine Al_pu (Pu_and rfl rfl rfl rfl) rfl rfl (by decide) (by kernel_rfl) ?_
  refine Al_pu (Pu_move (.inr rfl) (by conv => lhs; whnf)) rfl rfl (by decide) (by kernel_rfl) ?_
  refine Al_nil ?_
  refine Aw_ret ?_
  exact Sub.rfl -- ret 0
set_option maxRecDepth 100000 in
set_option maxHeartbeats 1000000 in
theorem plan_a (c d : SRow) (hc : T.Ahead c.parents) (hd : T.Ahead d.parents) : ACall Try.prog 10 [.row c.row, .row d.row] (.sl 4 ((T.planF c d).map Mv.row)) := by
  refine ACall_enter (fun _ _ => by kernel_rfl) Try.func10 rfl Try.ntmps10 Try.results10 (Nat.le_of_ble_eq_true rfl) (fun hok M0 w0 hnl => ?_)
  have hp6 := hd.le
  have hpl := T.partsF_len c d
  have hmul : d.parents.length * (T.partsF c d).length ≤ 6 * 33 := Nat.mul_le_mul hp6 hpl
  refine Aw_seq ?_
  refine Aw_region ?_
  refine Al_pu (Pu_boxN rfl rfl) rfl rfl (by decide) (by kernel_rfl) ?_
  refine Al_pu (Pu_boxN rfl rfl) rfl rfl (by decide) (by kernel_rfl) ?_
  refine Al_pu (Pu_move (.inr rfl) (by conv => lhs; whnf)) rfl rfl (by decide) (by kernel_rfl) ?_
  refine Al_nil ?_
  refine Aw_seq ?_
  refine Aw_region ?_
  refine Al_pu (Pu_move (.inr rfl) (by conv => lhs; whnf)) rfl rfl (by decide) (by kernel_rfl) ?_
  refine Al_nil ?_
  refine Aw_seq ?_
  refine Aw_seq ?_
  refine Aw_region ?_
  refine Al_pu (Pu_loadN rfl Try.isAgg29 Try.sizeOf29 rfl (Nat.le_of_ble_eq_true rfl)) rfl rfl (by decide) (by kernel_rfl) ?_
  refine Al_pu (Pu_loadN rfl Try.isAgg29 Try.sizeOf29 rfl (Nat.le_of_ble_eq_true rfl)) rfl rfl (by decide) (by kernel_rfl) ?_
  refine Al_pu (Pu_call (partsF_a c d hc hd) rfl ⟨Sub.rfl, Sub.rfl, trivial⟩) rfl rfl (by decide) (by kernel_rfl) ?_
  refine Al_pu (Pu_len rfl Try.underlying27 rfl (by first | exact List.length_map .. | exact rfl)) rfl rfl (by decide) (by kernel_rfl) ?_
  refine Al_pu (Pu_move (.inl rfl) (by conv => lhs; whnf)) rfl rfl (by decide) (by kernel_rfl) ?_
  refine Al_nil ?_
  refine Aw_block ?_
  refine Aw_own (j := 5) (k := 5) (T := 37) (n := 4) rfl (fun g0 => ?_)
  refine Aw_loopk (ι := Nat × Nat) [2, 3, 12, 13] [] (fun (k, g) => [(14, .d (iv k)), (5, .ow 5 g)]) (fun (k, g) => [(5, g, .arr 37 4 ((T.planL c d d.parents.length ((T.partsF c d).take k)).map Mv.row))]) (fun (k, g) => k ≤ (T.partsF c d).length) (fun (k, g) => (T.partsF c d).length - k) ((0, g0)) (Nat.zero_le _) ⟨Sub.rfl, Sub.rfl, trivial⟩ ⟨rfl, trivial⟩ ?_
  rintro ⟨k, g⟩ hk0
  refine Aw_seq ?_
  refine Aw_region ?_
  refine Al_pu (Pu_cmp rfl rfl rfl rfl) rfl rfl (by decide) (by kernel_rfl) ?_
  refine Al_nil ?_
  refine Aw_seq ?_
  refine Aw_cond rfl (fun h15 => ?_) (fun h15 => ?_)
  · (try simp only [decide_eq_true_eq, decide_eq_false_iff_not, Bool.and_eq_true, Bool.or_eq_true, Bool.and_eq_false_iff, Bool.or_eq_false_iff, Bool.not_eq_true', Bool.not_eq_false', beq_iff_eq, Bool.not_eq_eq_eq_not, Bool.not_true, Bool.not_false, List.length_map, Bool.and_true, Bool.and_false, Bool.false_and, Bool.true_and, Bool.or_false, Bool.false_or] at h15)
    have hk : k < (T.partsF c d).length := by omega
    have hn := T.planL_take_len c d d.parents.length (T.partsF c d) k
    refine Aw_skip ?_
    refine Aw_seq ?_
    refine Aw_block ?_
    refine Aw_seq ?_
    refine Aw_region ?_
    refine Al_pu (Pu_index rfl Try.underlying27 Try.sizeOf35 rfl rfl (rfl) (mapget hk)) rfl rfl (by decide) (by kernel_rfl) ?_
    refine Al_pu (Pu_loadN rfl Try.isAgg35 Try.sizeOf35 rfl (Nat.le_of_ble_eq_true rfl)) rfl rfl (by decide) (by kernel_rfl) ?_
    refine Al_alloc rfl rfl rfl (by decide) Try.zeroValue35 rfl (by kernel_rfl) (fun g7 => ?_)
    refine Al_storeN rfl rfl rfl (by kernel_rfl) Try.isAgg35 Try.sizeOf35 rfl rfl rfl rfl (Nat.le_of_ble_eq_true rfl) ?_
    refine Al_nil ?_
    refine Aw_seq ?_
    refine Aw_frzb hnl (k := 7) (cs := Rng.row ((T.partsF c d)[k]'hk)) [7] rfl ⟨rfl, trivial⟩ ?_
    refine Aw_region ?_
    refine Al_pu (Pu_makeFunc (caps := [_, _, _]) rfl ⟨Sub.rfl, Sub.rfl, Sub.rfl, trivial⟩) rfl rfl (by decide) (by kernel_rfl) ?_
    refine Al_pu (Pu_move (.inr rfl) (by conv => lhs; whnf)) rfl rfl (by decide) (by kernel_rfl) ?_
    refine Al_nil ?_
    refine Aw_seq ?_
    refine Aw_region ?_
    refine Al_pu (Pu_loadN rfl Try.isAgg29 Try.sizeOf29 rfl (Nat.le_of_ble_eq_true rfl)) rfl rfl (by decide) (by kernel_rfl) ?_
    refine Al_pu (Pu_call (sites_a d) rfl ⟨Sub.rfl, trivial⟩) rfl rfl (by decide) (by kernel_rfl) ?_
    refine Al_pu (Pu_move (.inl rfl) (by conv => lhs; whnf)) rfl rfl (by decide) (by kernel_rfl) ?_
    refine Al_nil ?_
    refine Aw_block ?_
    refine Aw_loopk (ι := Nat × Nat) [2, 3, 7, 8, 12, 13, 14, 20] [] (fun (s, g) => [(21, .d (iv s)), (5, .ow 5 g)]) (fun (s, g) => [(5, g, .arr 37 4 ((T.planL c d d.parents.length ((T.partsF c d).take k) ++ T.movesOf c d s ((T.partsF c d)[k]'hk)).map Mv.row))]) (fun (s, g) => s ≤ d.parents.length) (fun (s, g) => d.parents.length - s) ((0, g)) (Nat.zero_le _) ⟨Sub.rfl, Sub.rfl, trivial⟩ ⟨obeq (by simp [T.movesOf]), trivial⟩ ?_
    rintro ⟨s, g⟩ hk1
    refine Aw_seq ?_
    refine Aw_region ?_
    refine Al_pu (Pu_cmp rfl rfl rfl rfl) rfl rfl (by decide) (by kernel_rfl) ?_
    refine Al_nil ?_
    refine Aw_seq ?_
    refine Aw_cond rfl (fun h22 => ?_) (fun h22 => ?_)
    · (try simp only [decide_eq_true_eq, decide_eq_false_iff_not, Bool.and_eq_true, Bool.or_eq_true, Bool.and_eq_false_iff, Bool.or_eq_false_iff, Bool.not_eq_true', Bool.not_eq_false', beq_iff_eq, Bool.not_eq_eq_eq_not, Bool.not_true, Bool.not_false, List.length_map, Bool.and_true, Bool.and_false, Bool.false_and, Bool.true_and, Bool.or_false, Bool.false_or] at h22)
      have hs : s < d.parents.length := by omega
      have hm := T.movesOf_len c d s ((T.partsF c d)[k]'hk)
      refine Aw_skip ?_
      -- join 0: live [2, 3, 5, 7, 8, 12, 13, 14, 20, 21], turned [5]
      refine Aw_seq ?_
      refine Aw_block ?_
      refine Aw_seq ?_
      refine Aw_region ?_
      refine Al_pu (Pu_move (.inl rfl) (by conv => lhs; whnf)) rfl rfl (by decide) (by kernel_rfl) ?_
      refine Al_pu (Pu_move (.inr rfl) (by conv => lhs; whnf)) rfl rfl (by decide) (by kernel_rfl) ?_
      refine Al_nil ?_
      refine Aw_seq ?_
      refine Aw_region ?_
      refine Al_pu (Pu_move (.inl rfl) (by conv => lhs; whnf)) rfl rfl (by decide) (by kernel_rfl) ?_
      refine Al_pu (Pu_move (.inl rfl) (by conv => lhs; whnf)) rfl rfl (by decide) (by kernel_rfl) ?_
      refine Al_pu (Pu_callv (aa := [iv (s : Nat)]) (comes_a c d ((T.partsF c d)[k]'hk) s) rfl rfl ⟨Sub.rfl, trivial⟩) rfl rfl (by decide) (by kernel_rfl) ?_
      refine Al_nil ?_
      refine Aw_cond rfl (fun h26 => ?_) (fun h26 => ?_)
      · skip
        refine Aw_draw 9 (by kernel_rfl) (by kernel_rfl) ?_
        refine Dr_pu (Pu_move (.inl rfl) (by conv => lhs; whnf)) rfl rfl ?_
        refine Dr_pu (Pu_move (.inl rfl) (by conv => lhs; whnf)) rfl rfl ?_
        refine Dr_pu (Pu_loadN rfl Try.isAgg29 Try.sizeOf29 rfl (Nat.le_of_ble_eq_true rfl)) rfl rfl ?_
        refine Dr_pu (Pu_field 0 rfl Try.underlying35 rfl rfl Try.sizeOf9 rfl) rfl rfl ?_
        refine Dr_pu (Pu_load1 rfl Try.isAgg9 rfl rfl) rfl rfl ?_
        refine Dr_pu (Pu_call (first_a c ((T.partsF c d)[k]'hk).f) rfl ⟨Sub.rfl, Sub.rfl, trivial⟩) rfl rfl ?_
        refine Dr_pu (Pu_loadN rfl Try.isAgg35 Try.sizeOf35 rfl (Nat.le_of_ble_eq_true rfl)) rfl rfl ?_
        refine Dr_pu (Pu_build (aa := [(0, _), (1, _), (2, _)]) rfl Try.underlying37 Try.zeroValue37 (places37 Try.underlying37) (by kernel_rfl) ⟨rfl, rfl, rfl, rfl, rfl, rfl, rfl, rfl, rfl, trivial⟩ rfl) rfl rfl ?_
        refine Dr_pu (Pu_slice1 rfl Try.underlying31 Try.sizeOf37 Try.zeroValue37 rfl (by decide) (by decide) (by kernel_rfl) rfl rfl rfl) rfl rfl ?_
        refine Dr_nil ?_
        refine Al_append rfl rfl rfl (by decide) (by kernel_rfl) elem31 (by decide) Try.sizeOf37 rfl rfl rfl (by rw [List.length_map, List.length_append]; simp; omega) (by decide) (fun g36 => ?_)
        refine Al_pu (Pu_move (.inr rfl) (by conv => lhs; whnf)) rfl rfl (by decide) (by kernel_rfl) ?_
        refine Al_nil ?_
        refine Aw_region ?_
        refine Al_pu (Pu_add rfl rfl rfl (fun h1 h2 => by simp only [A.inI, A.maxI] at *; omega)) rfl rfl (by decide) (by kernel_rfl) ?_
        refine Al_pu (Pu_move (.inl rfl) (by conv => lhs; whnf)) rfl rfl (by decide) (by kernel_rfl) ?_
        refine Al_nil ?_
        exact ⟨(s + 1, g36), by omega, by simp only []; omega, Le.ov ⟨Sub.num (by omega), Sub.rfl, trivial⟩ ⟨Sub.rfl, Sub.rfl, Sub.rfl, Sub.rfl, Sub.rfl, Sub.rfl, Sub.rfl, Sub.rfl, trivial⟩ ⟨obeq (by rw [T.movesOf_succ, h26]; simp [A.cellsA, Mv.row, Rng.row]), trivial⟩ trivial⟩ -- loop 1 next.0
      · skip
        refine Aw_skip ?_
        refine Aw_region ?_
        refine Al_pu (Pu_add rfl rfl rfl (fun h1 h2 => by simp only [A.inI, A.maxI] at *; omega)) rfl rfl (by decide) (by kernel_rfl) ?_
        refine Al_pu (Pu_move (.inl rfl) (by conv => lhs; whnf)) rfl rfl (by decide) (by kernel_rfl) ?_
        refine Al_nil ?_
        exact ⟨(s + 1, g), by omega, by simp only []; omega, Le.ov ⟨Sub.num (by omega), Sub.rfl, trivial⟩ ⟨Sub.rfl, Sub.rfl, Sub.rfl, Sub.rfl, Sub.rfl, Sub.rfl, Sub.rfl, Sub.rfl, trivial⟩ ⟨obeq (by rw [T.movesOf_succ, h26]; simp), trivial⟩ trivial⟩ -- loop 1 next.1
    · (try simp only [decide_eq_true_eq, decide_eq_false_iff_not, Bool.and_eq_true, Bool.or_eq_true, Bool.and_eq_false_iff, Bool.or_eq_false_iff, Bool.not_eq_true', Bool.not_eq_false', beq_iff_eq, Bool.not_eq_eq_eq_not, Bool.not_true, Bool.not_false, List.length_map, Bool.and_true, Bool.and_false, Bool.false_and, Bool.true_and, Bool.or_false, Bool.false_or] at h22)
      obtain rfl : s = d.parents.length := by omega
      refine Aw_exit ?_
      refine Aw_region ?_
      refine Al_pu (Pu_add rfl rfl rfl (fun h1 h2 => by simp only [A.inI, A.maxI] at *; omega)) rfl rfl (by decide) (by kernel_rfl) ?_
      refine Al_pu (Pu_move (.inl rfl) (by conv => lhs; whnf)) rfl rfl (by decide) (by kernel_rfl) ?_
      refine Al_nil ?_
      exact ⟨(k + 1, g), by omega, by simp only []; omega, Le.ov ⟨Sub.num (by omega), Sub.rfl, trivial⟩ ⟨Sub.rfl, Sub.rfl, Sub.rfl, Sub.rfl, trivial⟩ ⟨obeq (by rw [T.planL_take _ _ _ _ hk]), trivial⟩ trivial⟩ -- loop 0 next.0
  · (try simp only [decide_eq_true_eq, decide_eq_false_iff_not, Bool.and_eq_true, Bool.or_eq_true, Bool.and_eq_false_iff, Bool.or_eq_false_iff, Bool.not_eq_true', Bool.not_eq_false', beq_iff_eq, Bool.not_eq_eq_eq_not, Bool.not_true, Bool.not_false, List.length_map, Bool.and_true, Bool.and_false, Bool.false_and, Bool.true_and, Bool.or_false, Bool.false_or] at h15)
    have hkk : k = (T.partsF c d).length := by omega
    refine Aw_exit ?_
    refine Aw_seq ?_
    refine Aw_region ?_
    refine Al_pu (Pu_move (.inl rfl) (by conv => lhs; whnf)) rfl rfl (by decide) (by kernel_rfl) ?_
    refine Al_pu (Pu_move (.inr rfl) (by conv => lhs; whnf)) rfl rfl (by decide) (by kernel_rfl) ?_
    refine Al_nil ?_
    refine Aw_frz hnl (k := 5) [4] rfl ⟨rfl, trivial⟩ ?_
    refine Aw_ret ?_
    exact Sub.d (by rw [hkk, List.take_length]; rfl) -- ret 0
set_option maxRecDepth 100000 in
theorem gains_a (c d : SRow) (hc : T.Ahead c.parents) (hd : T.Ahead d.parents) (s : Int) : ACall Try.prog 22 [.row c.row, .row d.row, iv s] (.sl 2 ((T.gainsL (T.planF c d) s).map Rng.row)) := by
  refine ACall_enter (fun _ _ => by kernel_rfl) Try.func22 rfl Try.ntmps22 Try.results22 (Nat.le_of_ble_eq_true rfl) (fun hok M0 w0 hnl => ?_)
  have hp6 := hd.le
  have hpl := T.partsF_len c d
  have hmul : d.parents.length * (T.partsF c d).length ≤ 6 * 33 := Nat.mul_le_mul hp6 hpl
  have hnn : (T.planF c d).length ≤ 198 := Nat.le_trans (T.planL_len c d _ _) hmul
  refine Aw_seq ?_
  refine Aw_region ?_
  refine Al_pu (Pu_boxN rfl rfl) rfl rfl (by decide) (by kernel_rfl) ?_
  refine Al_pu (Pu_boxN rfl rfl) rfl rfl (by decide) (by kernel_rfl) ?_
  refine Al_pu (Pu_move (.inr rfl) (by conv => lhs; whnf)) rfl rfl (by decide) (by kernel_rfl) ?_
  refine Al_nil ?_
  refine Aw_seq ?_
  refine Aw_region ?_
  refine Al_pu (Pu_move (.inr rfl) (by conv => lhs; whnf)) rfl rfl (by decide) (by kernel_rfl) ?_
  refine Al_nil ?_
  refine Aw_seq ?_
  refine Aw_seq ?_
  refine Aw_region ?_
  refine Al_pu (Pu_loadN rfl Try.isAgg29 Try.sizeOf29 rfl (Nat.le_of_ble_eq_true rfl)) rfl rfl (by decide) (by kernel_rfl) ?_
  refine Al_pu (Pu_loadN rfl Try.isAgg29 Try.sizeOf29 rfl (Nat.le_of_ble_eq_true rfl)) rfl rfl (by decide) (by kernel_rfl) ?_
  refine Al_pu (Pu_call (plan_a c d hc hd) rfl ⟨Sub.rfl, Sub.rfl, trivial⟩) rfl rfl (by decide) (by kernel_rfl) ?_
  refine Al_pu (Pu_len rfl Try.underlying31 rfl (by first | exact List.length_map .. | exact rfl)) rfl rfl (by decide) (by kernel_rfl) ?_
  refine Al_pu (Pu_move (.inl rfl) (by conv => lhs; whnf)) rfl rfl (by decide) (by kernel_rfl) ?_
  refine Al_nil ?_
  refine Aw_block ?_
  refine Aw_own (j := 7) (k := 7) (T := 35) (n := 2) rfl (fun g0 => ?_)
  refine Aw_loopk (ι := Nat × Nat) [2, 12, 13] [] (fun (k, g) => [(14, .d (iv k)), (7, .ow 7 g)]) (fun (k, g) => [(7, g, .arr 35 2 ((T.gainsL ((T.planF c d).take k) s).map Rng.row))]) (fun (k, g) => k ≤ (T.planF c d).length) (fun (k, g) => (T.planF c d).length - k) ((0, g0)) (Nat.zero_le _) ⟨Sub.rfl, Sub.rfl, trivial⟩ ⟨rfl, trivial⟩ ?_
  rintro ⟨k, g⟩ hk0
  refine Aw_seq ?_
  refine Aw_region ?_
  refine Al_pu (Pu_cmp rfl rfl rfl rfl) rfl rfl (by decide) (by kernel_rfl) ?_
  refine Al_nil ?_
  refine Aw_seq ?_
  refine Aw_cond rfl (fun h15 => ?_) (fun h15 => ?_)
  · (try simp only [decide_eq_true_eq, decide_eq_false_iff_not, Bool.and_eq_true, Bool.or_eq_true, Bool.and_eq_false_iff, Bool.or_eq_false_iff, Bool.not_eq_true', Bool.not_eq_false', beq_iff_eq, Bool.not_eq_eq_eq_not, Bool.not_true, Bool.not_false, List.length_map, Bool.and_true, Bool.and_false, Bool.false_and, Bool.true_and, Bool.or_false, Bool.false_or] at h15)
    have hk : k < (T.planF c d).length := by omega
    have hgl := T.gainsL_len ((T.planF c d).take k) s
    rw [List.length_take] at hgl
    refine Aw_skip ?_
    -- join 0: live [2, 7, 12, 13, 14], turned [7]
    refine Aw_seq ?_
    refine Aw_block ?_
    refine Aw_seq ?_
    refine Aw_region ?_
    refine Al_pu (Pu_index rfl Try.underlying31 Try.sizeOf37 rfl rfl (rfl) (mapget hk)) rfl rfl (by decide) (by kernel_rfl) ?_
    refine Al_pu (Pu_loadN rfl Try.isAgg37 Try.sizeOf37 rfl (Nat.le_of_ble_eq_true rfl)) rfl rfl (by decide) (by kernel_rfl) ?_
    refine Al_alloc rfl rfl rfl (by decide) Try.zeroValue37 rfl (by kernel_rfl) (fun g9 => ?_)
    refine Al_storeN rfl rfl rfl (by kernel_rfl) Try.isAgg37 Try.sizeOf37 rfl rfl rfl rfl (Nat.le_of_ble_eq_true rfl) ?_
    refine Al_nil ?_
    refine Aw_seq ?_
    refine Aw_region ?_
    refine Al_pu (Pu_fieldb 0 rfl Try.underlying37 rfl rfl Try.sizeOf3 rfl) rfl rfl (by decide) (by kernel_rfl) ?_
    refine Al_pu (Pu_loadb rfl Try.isAgg3 rfl rfl rfl) rfl rfl (by decide) (by kernel_rfl) ?_
    refine Al_pu (Pu_move (.inl rfl) (by conv => lhs; whnf)) rfl rfl (by decide) (by kernel_rfl) ?_
    refine Al_pu (Pu_cmp rfl rfl rfl rfl) rfl rfl (by decide) (by kernel_rfl) ?_
    refine Al_nil ?_
    refine Aw_cond rfl (fun h21 => ?_) (fun h21 => ?_)
    · (try simp only [decide_eq_true_eq, decide_eq_false_iff_not, Bool.and_eq_true, Bool.or_eq_true, Bool.and_eq_false_iff, Bool.or_eq_false_iff, Bool.not_eq_true', Bool.not_eq_false', beq_iff_eq, Bool.not_eq_eq_eq_not, Bool.not_true, Bool.not_false, List.length_map, Bool.and_true, Bool.and_false, Bool.false_and, Bool.true_and, Bool.or_false, Bool.false_or] at h21)
      refine Aw_region ?_
      refine Al_pu (Pu_move (.inl rfl) (by conv => lhs; whnf)) rfl rfl (by decide) (by kernel_rfl) ?_
      refine Al_pu (Pu_fieldb 2 rfl Try.underlying37 rfl rfl Try.sizeOf35 rfl) rfl rfl (by decide) (by kernel_rfl) ?_
      refine Al_pu (Pu_loadbN (r := [_, _]) rfl Try.isAgg35 Try.sizeOf35 rfl rfl rfl rfl) rfl rfl (by decide) (by kernel_rfl) ?_
      refine Al_pu (Pu_slice1 rfl Try.underlying27 Try.sizeOf35 Try.zeroValue35 rfl (by decide) (by decide) (by kernel_rfl) rfl rfl rfl) rfl rfl (by decide) (by kernel_rfl) ?_
      refine Al_append rfl rfl rfl (by decide) (by kernel_rfl) elem27 (by decide) Try.sizeOf35 rfl rfl rfl (by rw [List.length_map]; simp; omega) (by decide) (fun g26 => ?_)
      refine Al_pu (Pu_move (.inr rfl) (by conv => lhs; whnf)) rfl rfl (by decide) (by kernel_rfl) ?_
      refine Al_nil ?_
      refine Aw_region ?_
      refine Al_pu (Pu_add rfl rfl rfl (fun h1 h2 => by simp only [A.inI, A.maxI] at *; omega)) rfl rfl (by decide) (by kernel_rfl) ?_
      refine Al_pu (Pu_move (.inl rfl) (by conv => lhs; whnf)) rfl rfl (by decide) (by kernel_rfl) ?_
      refine Al_nil ?_
      exact ⟨(k + 1, g26), by omega, by simp only []; omega, Le.ov ⟨Sub.num (by omega), Sub.rfl, trivial⟩ ⟨Sub.rfl, Sub.rfl, Sub.rfl, trivial⟩ ⟨obeq (by rw [T.gainsL_take _ _ hk, if_pos h21]; simp [A.cellsA, Rng.row]), trivial⟩ trivial⟩ -- loop 0 next.0
    · (try simp only [decide_eq_true_eq, decide_eq_false_iff_not, Bool.and_eq_true, Bool.or_eq_true, Bool.and_eq_false_iff, Bool.or_eq_false_iff, Bool.not_eq_true', Bool.not_eq_false', beq_iff_eq, Bool.not_eq_eq_eq_not, Bool.not_true, Bool.not_false, List.length_map, Bool.and_true, Bool.and_false, Bool.false_and, Bool.true_and, Bool.or_false, Bool.false_or] at h21)
      refine Aw_skip ?_
      refine Aw_region ?_
      refine Al_pu (Pu_add rfl rfl rfl (fun h1 h2 => by simp only [A.inI, A.maxI] at *; omega)) rfl rfl (by decide) (by kernel_rfl) ?_
      refine Al_pu (Pu_move (.inl rfl) (by conv => lhs; whnf)) rfl rfl (by decide) (by kernel_rfl) ?_
      refine Al_nil ?_
      exact ⟨(k + 1, g), by omega, by simp only []; omega, Le.ov ⟨Sub.num (by omega), Sub.rfl, trivial⟩ ⟨Sub.rfl, Sub.rfl, Sub.rfl, trivial⟩ ⟨obeq (by rw [T.gainsL_take _ _ hk, if_neg h21]; simp), trivial⟩ trivial⟩ -- loop 0 next.1
  · (try simp only [decide_eq_true_eq, decide_eq_false_iff_not, Bool.and_eq_true, Bool.or_eq_true, Bool.and_eq_false_iff, Bool.or_eq_false_iff, Bool.not_eq_true', Bool.not_eq_false', beq_iff_eq, Bool.not_eq_eq_eq_not, Bool.not_true, Bool.not_false, List.length_map, Bool.and_true, Bool.and_false, Bool.false_and, Bool.true_and, Bool.or_false, Bool.false_or] at h15)
    have hkk : k = (T.planF c d).length := by omega
    refine Aw_exit ?_
    refine Aw_seq ?_
    refine Aw_region ?_
    refine Al_pu (Pu_move (.inl rfl) (by conv => lhs; whnf)) rfl rfl (by decide) (by kernel_rfl) ?_
    refine Al_pu (Pu_move (.inr rfl) (by conv => lhs; whnf)) rfl rfl (by decide) (by kernel_rfl) ?_
    refine Al_nil ?_
    refine Aw_frz hnl (k := 7) [6] rfl ⟨rfl, trivial⟩ ?_
    refine Aw_ret ?_
    exact Sub.d (by rw [hkk, List.take_length]) -- ret 0
end Go.Proofs.Ytfalbocgnmlncaa

set_option linter.unusedSimpArgs false
set_option linter.unusedVariables false
namespace Go.Proofs.Ytfalbocgnmlncaa
open Go.RowKit A R
open A.RowT
theorem data_inj {a b : ByteArray} (h : a.data.toList = b.data.toList) : a = b := ByteArray.ext (Array.toList_inj.1 h)
theorem bounds_eq (l : List Rng) : boundsF l = rboundsF l := by
  have h1 : (dat (boundsF l)) = dat (rboundsF l) := rising_unique _ _ (bounds_spec l).1 (rbounds_spec l).1 fun x => by rw [(bounds_spec l).2, (rbounds_spec l).2]
  have : ∀ (a b : List ByteArray), dat a = dat b → a = b := by
    intro a
    induction a with
    | nil => intro b h; cases b with
      | nil => rfl
      | cons y r => simp [dat] at h
    | cons x l ih => intro b h; cases b with
      | nil => simp [dat] at h
      | cons y r =>
        have h2 := List.cons.inj (show x.data.toList :: dat l = y.data.toList :: dat r from h)
        rw [data_inj h2.1, ih r h2.2]
  exact this _ _ h1
set_option maxRecDepth 100000 in
set_option maxHeartbeats 1000000 in
theorem rparts_a (c d : SRow) (hc : T.Ahead c.parents) (hd : T.Ahead d.parents) : ACall Try.prog 19 [.row c.row, .row d.row] (.sl 2 ((T.partsF c d).map Rng.row)) := by
  refine ACall_enter (fun _ _ => by kernel_rfl) Try.func19 rfl Try.ntmps19 Try.results19 (Nat.le_of_ble_eq_true rfl) (fun hok M0 w0 hnl => ?_)
  refine Aw_seq ?_
  refine Aw_region ?_
  refine Al_pu (Pu_boxN rfl rfl) rfl rfl (by decide) (by kernel_rfl) ?_
  refine Al_pu (Pu_boxN rfl rfl) rfl rfl (by decide) (by kernel_rfl) ?_
  refine Al_pu (Pu_move (.inr rfl) (by conv => lhs; whnf)) rfl rfl (by decide) (by kernel_rfl) ?_
  refine Al_nil ?_
  refine Aw_seq ?_
  refine Aw_region ?_
  refine Al_pu (Pu_loadN rfl Try.isAgg29 Try.sizeOf29 rfl (Nat.le_of_ble_eq_true rfl)) rfl rfl (by decide) (by kernel_rfl) ?_
  refine Al_pu (Pu_loadN rfl Try.isAgg29 Try.sizeOf29 rfl (Nat.le_of_ble_eq_true rfl)) rfl rfl (by decide) (by kernel_rfl) ?_
  refine Al_pu (Pu_call (rfits_a c d hc hd) rfl ⟨Sub.rfl, Sub.rfl, trivial⟩) rfl rfl (by decide) (by kernel_rfl) ?_
  refine Al_pu (Pu_move (.inr rfl) (by conv => lhs; whnf)) rfl rfl (by decide) (by kernel_rfl) ?_
  refine Al_nil ?_
  refine Aw_seq ?_
  refine Aw_seq ?_
  refine Aw_region ?_
  refine Al_pu (Pu_move (.inl rfl) (by conv => lhs; whnf)) rfl rfl (by decide) (by kernel_rfl) ?_
  refine Al_pu (Pu_not rfl rfl) rfl rfl (by decide) (by kernel_rfl) ?_
  refine Al_nil ?_
  refine Aw_cond rfl (fun h15 => ?_) (fun h15 => ?_)
  · skip
    have hf : T.fits c d = false := by simpa using h15
    refine Aw_seq ?_
    refine Aw_region ?_
    refine Al_pu (Pu_move (.inr rfl) (by conv => lhs; whnf)) rfl rfl (by decide) (by kernel_rfl) ?_
    refine Al_nil ?_
    refine Aw_ret ?_
    have e : T.partsF c d = [] := by unfold T.partsF; rw [hf]; rfl
    rw [e]; exact Sub.nil -- ret 0
  · skip
    have hf : T.fits c d = true := by simpa using h15
    have hf2 := hf
    unfold T.fits at hf2
    simp only [Bool.and_eq_true] at hf2
    have l1 := (S.shape_facts (T.ok_facts hf2.1.1).1).2.2.1
    have l2 := (S.shape_facts (T.ok_facts hf2.1.2).1).2.2.1
    have l3 : (c.ranges ++ d.ranges).length ≤ 100 := by rw [List.length_append]; omega
    have l4 := boundsF_len (c.ranges ++ d.ranges)
    have hps : T.partsF c d = T.parts (boundsF (c.ranges ++ d.ranges)) := by unfold T.partsF; rw [if_pos hf]
    rw [bounds_eq] at l4 hps
    refine Aw_skip ?_
    refine Aw_seq ?_
    refine Aw_region ?_
    refine Al_pu (Pu_move (.inr rfl) (by conv => lhs; whnf)) rfl rfl (by decide) (by kernel_rfl) ?_
    refine Al_nil ?_
    refine Aw_seq ?_
    refine Aw_own (j := 6) (k := 6) (T := 35) (n := 2) rfl (fun g0 => ?_)
    refine Aw_region ?_
    refine Al_pu (Pu_move (.inl rfl) (by conv => lhs; whnf)) rfl rfl (by decide) (by kernel_rfl) ?_
    refine Al_pu (Pu_field 0 rfl Try.underlying29 rfl rfl Try.sizeOf27 rfl) rfl rfl (by decide) (by kernel_rfl) ?_
    refine Al_pu (Pu_load1 rfl Try.isAgg27 rfl rfl) rfl rfl (by decide) (by kernel_rfl) ?_
    refine Al_append rfl rfl rfl (by decide) (by kernel_rfl) elem27 (by decide) Try.sizeOf35 rfl rfl rfl (by simp; omega) (by decide) (fun g19 => ?_)
    refine Al_pu (Pu_move (.inr rfl) (by conv => lhs; whnf)) rfl rfl (by decide) (by kernel_rfl) ?_
    refine Al_nil ?_
    refine Aw_seq ?_
    refine Aw_region ?_
    refine Al_pu (Pu_move (.inl rfl) (by conv => lhs; whnf)) rfl rfl (by decide) (by kernel_rfl) ?_
    refine Al_pu (Pu_field 0 rfl Try.underlying29 rfl rfl Try.sizeOf27 rfl) rfl rfl (by decide) (by kernel_rfl) ?_
    refine Al_pu (Pu_load1 rfl Try.isAgg27 rfl rfl) rfl rfl (by decide) (by kernel_rfl) ?_
    refine Al_append rfl rfl rfl (by decide) (by kernel_rfl) elem27 (by decide) Try.sizeOf35 rfl rfl rfl (by simp; omega) (by decide) (fun g23 => ?_)
    refine Al_pu (Pu_move (.inr rfl) (by conv => lhs; whnf)) rfl rfl (by decide) (by kernel_rfl) ?_
    refine Al_nil ?_
    refine Aw_seq ?_
    refine Aw_frz hnl (k := 6) [6] rfl ⟨rfl, trivial⟩ ?_
    refine Aw_region ?_
    refine Al_pu (Pu_move (.inl rfl) (by conv => lhs; whnf)) rfl rfl (by decide) (by kernel_rfl) ?_
    refine Al_pu (Pu_call (rbounds_a (c.ranges ++ d.ranges) l3) rfl ⟨Sub.d (by simp), trivial⟩) rfl rfl (by decide) (by kernel_rfl) ?_
    refine Al_pu (Pu_move (.inr rfl) (by conv => lhs; whnf)) rfl rfl (by decide) (by kernel_rfl) ?_
    refine Al_nil ?_
    refine Aw_seq ?_
    generalize hss : rboundsF (c.ranges ++ d.ranges) = ss at *
    refine Aw_region ?_
    refine Al_pu (Pu_move (.inr rfl) (by conv => lhs; whnf)) rfl rfl (by decide) (by kernel_rfl) ?_
    refine Al_nil ?_
    refine Aw_seq ?_
    refine Aw_region ?_
    refine Al_pu (Pu_move (.inr rfl) (by conv => lhs; whnf)) rfl rfl (by decide) (by kernel_rfl) ?_
    refine Al_nil ?_
    refine Aw_seq ?_
    refine Aw_seq ?_
    refine Aw_region ?_
    refine Al_pu (Pu_move (.inr rfl) (by conv => lhs; whnf)) rfl rfl (by decide) (by kernel_rfl) ?_
    refine Al_nil ?_
    refine Aw_block ?_
    refine Aw_own (j := 8) (k := 8) (T := 35) (n := 2) rfl (fun g1 => ?_)
    refine Aw_loopk (ι := Nat × Nat) [7] [] (fun (k, g) => [(10, .d (iv k)), (8, .ow 8 g), (9, .d (tv (T.atF ss k)))]) (fun (k, g) => [(8, g, .arr 35 2 ((T.upto ss k).map Rng.row))]) (fun (k, g) => k ≤ ss.length) (fun (k, g) => ss.length - k) ((0, g1)) (Nat.zero_le _) ⟨Sub.rfl, Sub.rfl, Sub.rfl, trivial⟩ ⟨obeq (by simp [T.upto]), trivial⟩ ?_
    rintro ⟨k, g⟩ hk0
    refine Aw_seq ?_
    refine Aw_seq ?_
    refine Aw_region ?_
    refine Al_pu (Pu_move (.inl rfl) (by conv => lhs; whnf)) rfl rfl (by decide) (by kernel_rfl) ?_
    refine Al_pu (Pu_move (.inl rfl) (by conv => lhs; whnf)) rfl rfl (by decide) (by kernel_rfl) ?_
    refine Al_pu (Pu_len rfl Try.underlying59 rfl (by first | exact List.length_map .. | exact rfl)) rfl rfl (by decide) (by kernel_rfl) ?_
    refine Al_pu (Pu_cmp rfl rfl rfl rfl) rfl rfl (by decide) (by kernel_rfl) ?_
    refine Al_nil ?_
    refine Aw_cond rfl (fun h29 => ?_) (fun h29 => ?_)
    · (try simp only [decide_eq_true_eq, decide_eq_false_iff_not, Bool.and_eq_true, Bool.or_eq_true, Bool.and_eq_false_iff, Bool.or_eq_false_iff, Bool.not_eq_true', Bool.not_eq_false', beq_iff_eq, Bool.not_eq_eq_eq_not, Bool.not_true, Bool.not_false, List.length_map, Bool.and_true, Bool.and_false, Bool.false_and, Bool.true_and, Bool.or_false, Bool.false_or] at h29)
      have hk : k < ss.length := by omega
      have hu := T.upto_len ss k
      refine Aw_skip ?_
      refine Aw_seq ?_
      refine Aw_block ?_
      refine Aw_seq ?_
      refine Aw_region ?_
      refine Al_pu (Pu_move (.inl rfl) (by conv => lhs; whnf)) rfl rfl (by decide) (by kernel_rfl) ?_
      refine Al_pu (Pu_move (.inl rfl) (by conv => lhs; whnf)) rfl rfl (by decide) (by kernel_rfl) ?_
      refine Al_pu (Pu_move (.inl rfl) (by conv => lhs; whnf)) rfl rfl (by decide) (by kernel_rfl) ?_
      refine Al_pu (Pu_move (.inl rfl) (by conv => lhs; whnf)) rfl rfl (by decide) (by kernel_rfl) ?_
      refine Al_pu (Pu_index rfl Try.underlying59 Try.sizeOf9 rfl rfl (rfl) (mapget hk)) rfl rfl (by decide) (by kernel_rfl) ?_
      refine Al_pu (Pu_load1 rfl Try.isAgg9 rfl rfl) rfl rfl (by decide) (by kernel_rfl) ?_
      refine Al_pu (Pu_build (aa := [(0, _), (1, _)]) rfl Try.underlying35 Try.zeroValue35 (places35 Try.underlying35) (by kernel_rfl) ⟨rfl, rfl, rfl, rfl, rfl, rfl, trivial⟩ rfl) rfl rfl (by decide) (by kernel_rfl) ?_
      refine Al_pu (Pu_slice1 rfl Try.underlying27 Try.sizeOf35 Try.zeroValue35 rfl (by decide) (by decide) (by kernel_rfl) rfl rfl rfl) rfl rfl (by decide) (by kernel_rfl) ?_
      refine Al_append rfl rfl rfl (by decide) (by kernel_rfl) elem27 (by decide) Try.sizeOf35 rfl rfl rfl (by rw [List.length_map]; simp; omega) (by decide) (fun g40 => ?_)
      refine Al_pu (Pu_move (.inr rfl) (by conv => lhs; whnf)) rfl rfl (by decide) (by kernel_rfl) ?_
      refine Al_nil ?_
      refine Aw_region ?_
      refine Al_pu (Pu_move (.inl rfl) (by conv => lhs; whnf)) rfl rfl (by decide) (by kernel_rfl) ?_
      refine Al_pu (Pu_move (.inl rfl) (by conv => lhs; whnf)) rfl rfl (by decide) (by kernel_rfl) ?_
      refine Al_pu (Pu_index rfl Try.underlying59 Try.sizeOf9 rfl rfl (rfl) (mapget hk)) rfl rfl (by decide) (by kernel_rfl) ?_
      refine Al_pu (Pu_load1 rfl Try.isAgg9 rfl rfl) rfl rfl (by decide) (by kernel_rfl) ?_
      refine Al_pu (Pu_move (.inr rfl) (by conv => lhs; whnf)) rfl rfl (by decide) (by kernel_rfl) ?_
      refine Al_nil ?_
      refine Aw_region ?_
      refine Al_pu (Pu_move (.inl rfl) (by conv => lhs; whnf)) rfl rfl (by decide) (by kernel_rfl) ?_
      refine Al_pu (Pu_add rfl rfl rfl (fun h1 h2 => by simp only [A.inI, A.maxI] at *; omega)) rfl rfl (by decide) (by kernel_rfl) ?_
      refine Al_pu (Pu_move (.inr rfl) (by conv => lhs; whnf)) rfl rfl (by decide) (by kernel_rfl) ?_
      refine Al_nil ?_
      exact ⟨(k + 1, g40), by omega, by simp only []; omega, Le.ov ⟨Sub.num (by omega), Sub.rfl, Sub.str (by simp [T.atF, hk]), trivial⟩ ⟨Sub.rfl, trivial⟩ ⟨obeq (by rw [T.upto_succ]; simp [A.cellsA, Rng.row, hk]), trivial⟩ trivial⟩ -- loop 0 next.0
    · (try simp only [decide_eq_true_eq, decide_eq_false_iff_not, Bool.and_eq_true, Bool.or_eq_true, Bool.and_eq_false_iff, Bool.or_eq_false_iff, Bool.not_eq_true', Bool.not_eq_false', beq_iff_eq, Bool.not_eq_eq_eq_not, Bool.not_true, Bool.not_false, List.length_map, Bool.and_true, Bool.and_false, Bool.false_and, Bool.true_and, Bool.or_false, Bool.false_or] at h29)
      obtain rfl : k = ss.length := by omega
      have hu := T.upto_len ss ss.length
      refine Aw_exit ?_
      refine Aw_seq ?_
      refine Aw_region ?_
      refine Al_pu (Pu_move (.inl rfl) (by conv => lhs; whnf)) rfl rfl (by decide) (by kernel_rfl) ?_
      refine Al_pu (Pu_move (.inl rfl) (by conv => lhs; whnf)) rfl rfl (by decide) (by kernel_rfl) ?_
      refine Al_pu (Pu_build (aa := [(0, _)]) rfl Try.underlying35 Try.zeroValue35 (places35 Try.underlying35) (by kernel_rfl) ⟨rfl, rfl, rfl, trivial⟩ rfl) rfl rfl (by decide) (by kernel_rfl) ?_
      refine Al_pu (Pu_slice1 rfl Try.underlying27 Try.sizeOf35 Try.zeroValue35 rfl (by decide) (by decide) (by kernel_rfl) rfl rfl rfl) rfl rfl (by decide) (by kernel_rfl) ?_
      refine Al_append rfl rfl rfl (by decide) (by kernel_rfl) elem27 (by decide) Try.sizeOf35 rfl rfl rfl (by rw [List.length_map]; simp; omega) (by decide) (fun g49 => ?_)
      refine Al_pu (Pu_move (.inr rfl) (by conv => lhs; whnf)) rfl rfl (by decide) (by kernel_rfl) ?_
      refine Al_nil ?_
      refine Aw_frz hnl (k := 8) [4] rfl ⟨rfl, trivial⟩ ?_
      refine Aw_ret ?_
      exact Sub.d (by rw [hps, T.parts_eq]; simp [A.cellsA, Rng.row]) -- ret 1
theorem T.bit_out {c : SRow} (h : T.ok c = true) (key : ByteArray) {s : Nat} (hs : c.parents.length ≤ s) : T.bit (T.owners c key) (s : Nat) = false := by
  have hlt : T.owners c key < 2 ^ c.parents.length := by
    by_cases hf : findR c.ranges key < 0
    · unfold T.owners; rw [if_pos h, if_pos hf]; exact Nat.pow_pos (by omega)
    · obtain ⟨k, h1, h2, h3, h4, h5⟩ := T.shape_owner h hf
      have := ((T.ok_facts h).2 _ (List.getElem_mem h2)).2
      rw [← h5] at this
      have h3 : ((2 ^ c.parents.length : Nat) : Int) = (2 : Int) ^ c.parents.length := by rw [Int.natCast_pow]; rfl
      omega
  have h2 : T.owners c key < 2 ^ s := Nat.lt_of_lt_of_le hlt (Nat.pow_le_pow_right (by omega) hs)
  unfold T.bit
  rw [Int.toNat_natCast, Nat.div_eq_of_lt h2]
  simp
theorem T.moves_six {c d : SRow} (h : T.ok d = true) (r : Rng) : T.movesOf c d 6 r = T.movesOf c d d.parents.length r := by
  have hn := (S.shape_facts (T.ok_facts h).1).2.1
  have : ∀ m, d.parents.length + m ≤ 6 → T.movesOf c d (d.parents.length + m) r = T.movesOf c d d.parents.length r := by
    intro m
    induction m with
    | zero => intro _; rfl
    | succ m ih =>
      intro hm
      rw [show d.parents.length + (m + 1) = (d.parents.length + m) + 1 from by omega, T.movesOf_succ, ih (by omega)]
      have : T.gets c d r (d.parents.length + m) = false := by unfold T.gets; rw [T.bit_out h _ (by omega)]; rfl
      rw [this]; simp
  have := this (6 - d.parents.length) (by omega)
  rwa [show d.parents.length + (6 - d.parents.length) = 6 from by omega] at this
theorem T.plan_six (c d : SRow) : T.planL c d 6 (T.partsF c d) = T.planF c d := by
  unfold T.planF
  by_cases hf : T.fits c d = true
  · unfold T.planL
    have hf2 := hf
    unfold T.fits at hf2
    simp only [Bool.and_eq_true] at hf2
    congr 1
    funext r
    exact T.moves_six hf2.1.2 r
  · unfold T.partsF
    rw [if_neg hf]; rfl
set_option maxRecDepth 100000 in
set_option maxHeartbeats 1000000 in
theorem rplan_a (c d : SRow) (hc : T.Ahead c.parents) (hd : T.Ahead d.parents) : ACall Try.prog 21 [.row c.row, .row d.row] (.sl 4 ((T.planF c d).map Mv.row)) := by
  refine ACall_enter (fun _ _ => by kernel_rfl) Try.func21 rfl Try.ntmps21 Try.results21 (Nat.le_of_ble_eq_true rfl) (fun hok M0 w0 hnl => ?_)
  have hpl := T.partsF_len c d
  refine Aw_seq ?_
  refine Aw_region ?_
  refine Al_pu (Pu_boxN rfl rfl) rfl rfl (by decide) (by kernel_rfl) ?_
  refine Al_pu (Pu_boxN rfl rfl) rfl rfl (by decide) (by kernel_rfl) ?_
  refine Al_pu (Pu_move (.inr rfl) (by conv => lhs; whnf)) rfl rfl (by decide) (by kernel_rfl) ?_
  refine Al_nil ?_
  refine Aw_seq ?_
  refine Aw_region ?_
  refine Al_pu (Pu_move (.inr rfl) (by conv => lhs; whnf)) rfl rfl (by decide) (by kernel_rfl) ?_
  refine Al_nil ?_
  refine Aw_seq ?_
  refine Aw_region ?_
  refine Al_pu (Pu_loadN rfl Try.isAgg29 Try.sizeOf29 rfl (Nat.le_of_ble_eq_true rfl)) rfl rfl (by decide) (by kernel_rfl) ?_
  refine Al_pu (Pu_loadN rfl Try.isAgg29 Try.sizeOf29 rfl (Nat.le_of_ble_eq_true rfl)) rfl rfl (by decide) (by kernel_rfl) ?_
  refine Al_pu (Pu_call (rparts_a c d hc hd) rfl ⟨Sub.rfl, Sub.rfl, trivial⟩) rfl rfl (by decide) (by kernel_rfl) ?_
  refine Al_pu (Pu_move (.inr rfl) (by conv => lhs; whnf)) rfl rfl (by decide) (by kernel_rfl) ?_
  refine Al_nil ?_
  refine Aw_seq ?_
  refine Aw_seq ?_
  refine Aw_region ?_
  refine Al_pu (Pu_move (.inr rfl) (by conv => lhs; whnf)) rfl rfl (by decide) (by kernel_rfl) ?_
  refine Al_nil ?_
  refine Aw_block ?_
  refine Aw_own (j := 5) (k := 5) (T := 37) (n := 4) rfl (fun g0 => ?_)
  refine Aw_loopk (ι := Nat × Nat) [2, 3, 6] [] (fun (k, g) => [(7, .d (iv k)), (5, .ow 5 g)]) (fun (k, g) => [(5, g, .arr 37 4 ((T.planL c d 6 ((T.partsF c d).take k)).map Mv.row))]) (fun (k, g) => k ≤ (T.partsF c d).length) (fun (k, g) => (T.partsF c d).length - k) ((0, g0)) (Nat.zero_le _) ⟨Sub.rfl, Sub.rfl, trivial⟩ ⟨rfl, trivial⟩ ?_
  rintro ⟨k, g⟩ hk0
  refine Aw_seq ?_
  refine Aw_seq ?_
  refine Aw_region ?_
  refine Al_pu (Pu_move (.inl rfl) (by conv => lhs; whnf)) rfl rfl (by decide) (by kernel_rfl) ?_
  refine Al_pu (Pu_move (.inl rfl) (by conv => lhs; whnf)) rfl rfl (by decide) (by kernel_rfl) ?_
  refine Al_pu (Pu_len rfl Try.underlying27 rfl (by first | exact List.length_map .. | exact rfl)) rfl rfl (by decide) (by kernel_rfl) ?_
  refine Al_pu (Pu_cmp rfl rfl rfl rfl) rfl rfl (by decide) (by kernel_rfl) ?_
  refine Al_nil ?_
  refine Aw_cond rfl (fun h17 => ?_) (fun h17 => ?_)
  · (try simp only [decide_eq_true_eq, decide_eq_false_iff_not, Bool.and_eq_true, Bool.or_eq_true, Bool.and_eq_false_iff, Bool.or_eq_false_iff, Bool.not_eq_true', Bool.not_eq_false', beq_iff_eq, Bool.not_eq_eq_eq_not, Bool.not_true, Bool.not_false, List.length_map, Bool.and_true, Bool.and_false, Bool.false_and, Bool.true_and, Bool.or_false, Bool.false_or] at h17)
    have hk : k < (T.partsF c d).length := by omega
    have hn := T.planL_take_len c d 6 (T.partsF c d) k
    refine Aw_skip ?_
    refine Aw_seq ?_
    refine Aw_block ?_
    refine Aw_seq ?_
    refine Aw_region ?_
    refine Al_pu (Pu_move (.inr rfl) (by conv => lhs; whnf)) rfl rfl (by decide) (by kernel_rfl) ?_
    refine Al_nil ?_
    refine Aw_block ?_
    refine Aw_loopk (ι := Nat × Nat) [2, 3, 6, 7] [] (fun (s, g) => [(8, .d (iv s)), (5, .ow 5 g)]) (fun (s, g) => [(5, g, .arr 37 4 ((T.planL c d 6 ((T.partsF c d).take k) ++ T.movesOf c d s ((T.partsF c d)[k]'hk)).map Mv.row))]) (fun (s, g) => s ≤ 6) (fun (s, g) => 6 - s) ((0, g)) (Nat.zero_le _) ⟨Sub.rfl, Sub.rfl, trivial⟩ ⟨obeq (by simp [T.movesOf]), trivial⟩ ?_
    rintro ⟨s, g⟩ hk1
    refine Aw_seq ?_
    refine Aw_seq ?_
    refine Aw_region ?_
    refine Al_pu (Pu_move (.inl rfl) (by conv => lhs; whnf)) rfl rfl (by decide) (by kernel_rfl) ?_
    refine Al_pu (Pu_cmp rfl rfl rfl rfl) rfl rfl (by decide) (by kernel_rfl) ?_
    refine Al_nil ?_
    refine Aw_cond rfl (fun h21 => ?_) (fun h21 => ?_)
    · (try simp only [decide_eq_true_eq, decide_eq_false_iff_not, Bool.and_eq_true, Bool.or_eq_true, Bool.and_eq_false_iff, Bool.or_eq_false_iff, Bool.not_eq_true', Bool.not_eq_false', beq_iff_eq, Bool.not_eq_eq_eq_not, Bool.not_true, Bool.not_false, List.length_map, Bool.and_true, Bool.and_false, Bool.false_and, Bool.true_and, Bool.or_false, Bool.false_or] at h21)
      have hs : s < 6 := by omega
      have hm := T.movesOf_len c d s ((T.partsF c d)[k]'hk)
      refine Aw_skip ?_
      -- join 0: live [2, 3, 5, 6, 7, 8], turned [5]
      refine Aw_seq ?_
      refine Aw_block ?_
      refine Aw_seq ?_
      refine Aw_draw 8 (by kernel_rfl) (by kernel_rfl) ?_
      refine Dr_pu (Pu_loadN rfl Try.isAgg29 Try.sizeOf29 rfl (Nat.le_of_ble_eq_true rfl)) rfl rfl ?_
      refine Dr_pu (Pu_move (.inl rfl) (by conv => lhs; whnf)) rfl rfl ?_
      refine Dr_pu (Pu_move (.inl rfl) (by conv => lhs; whnf)) rfl rfl ?_
      refine Dr_pu (Pu_move (.inl rfl) (by conv => lhs; whnf)) rfl rfl ?_
      refine Dr_pu (Pu_index rfl Try.underlying27 Try.sizeOf35 rfl rfl (rfl) (mapget hk)) rfl rfl ?_
      refine Dr_pu (Pu_field 0 rfl Try.underlying35 rfl rfl Try.sizeOf9 rfl) rfl rfl ?_
      refine Dr_pu (Pu_load1 rfl Try.isAgg9 rfl rfl) rfl rfl ?_
      refine Dr_pu (Pu_call (rowns_a c s ((T.partsF c d)[k]'hk).f) rfl ⟨Sub.rfl, Sub.rfl, Sub.rfl, trivial⟩) rfl rfl ?_
      refine Dr_nil ?_
      refine Al_pu (Pu_move (.inr rfl) (by conv => lhs; whnf)) rfl rfl (by decide) (by kernel_rfl) ?_
      refine Al_nil ?_
      refine Aw_seq ?_
      refine Aw_draw 8 (by kernel_rfl) (by kernel_rfl) ?_
      refine Dr_pu (Pu_loadN rfl Try.isAgg29 Try.sizeOf29 rfl (Nat.le_of_ble_eq_true rfl)) rfl rfl ?_
      refine Dr_pu (Pu_move (.inl rfl) (by conv => lhs; whnf)) rfl rfl ?_
      refine Dr_pu (Pu_move (.inl rfl) (by conv => lhs; whnf)) rfl rfl ?_
      refine Dr_pu (Pu_move (.inl rfl) (by conv => lhs; whnf)) rfl rfl ?_
      refine Dr_pu (Pu_index rfl Try.underlying27 Try.sizeOf35 rfl rfl (rfl) (mapget hk)) rfl rfl ?_
      refine Dr_pu (Pu_field 0 rfl Try.underlying35 rfl rfl Try.sizeOf9 rfl) rfl rfl ?_
      refine Dr_pu (Pu_load1 rfl Try.isAgg9 rfl rfl) rfl rfl ?_
      refine Dr_pu (Pu_call (rowns_a d s ((T.partsF c d)[k]'hk).f) rfl ⟨Sub.rfl, Sub.rfl, Sub.rfl, trivial⟩) rfl rfl ?_
      refine Dr_nil ?_
      refine Al_pu (Pu_move (.inr rfl) (by conv => lhs; whnf)) rfl rfl (by decide) (by kernel_rfl) ?_
      refine Al_nil ?_
      refine Aw_seq ?_
      refine Aw_region ?_
      refine Al_pu (Pu_move (.inl rfl) (by conv => lhs; whnf)) rfl rfl (by decide) (by kernel_rfl) ?_
      refine Al_pu (Pu_move (.inl rfl) (by conv => lhs; whnf)) rfl rfl (by decide) (by kernel_rfl) ?_
      refine Al_st (St_gd [] rfl rfl rfl rfl trivial (fun hg42 => by exact Pu_move (.inl rfl) (by conv => lhs; whnf))) rfl (by decide) (by kernel_rfl) (by intro j b oj dj h1 h2 h3; cases h1; cases h2; cases h3; decide) ?_
      refine Al_st (St_gd [42] rfl rfl rfl rfl ⟨⟨_, rfl⟩, trivial⟩ (fun hg43 => Pu_not rfl rfl)) rfl (by decide) (by kernel_rfl) (by intro j b oj dj h1 h2 h3; cases h1; cases h2; cases h3; decide) ?_
      refine Al_pu (Pu_and rfl rfl rfl rfl) rfl rfl (by decide) (by kernel_rfl) ?_
      refine Al_nil ?_
      refine Aw_cond rfl (fun h44 => ?_) (fun h44 => ?_)
      · skip
        have hg : T.gets c d ((T.partsF c d)[k]'hk) s = true := h44
        refine Aw_draw 15 (by kernel_rfl) (by kernel_rfl) ?_
        refine Dr_pu (Pu_move (.inl rfl) (by conv => lhs; whnf)) rfl rfl ?_
        refine Dr_pu (Pu_move (.inl rfl) (by conv => lhs; whnf)) rfl rfl ?_
        refine Dr_pu (Pu_loadN rfl Try.isAgg29 Try.sizeOf29 rfl (Nat.le_of_ble_eq_true rfl)) rfl rfl ?_
        refine Dr_pu (Pu_move (.inl rfl) (by conv => lhs; whnf)) rfl rfl ?_
        refine Dr_pu (Pu_move (.inl rfl) (by conv => lhs; whnf)) rfl rfl ?_
        refine Dr_pu (Pu_index rfl Try.underlying27 Try.sizeOf35 rfl rfl (rfl) (mapget hk)) rfl rfl ?_
        refine Dr_pu (Pu_field 0 rfl Try.underlying35 rfl rfl Try.sizeOf9 rfl) rfl rfl ?_
        refine Dr_pu (Pu_load1 rfl Try.isAgg9 rfl rfl) rfl rfl ?_
        refine Dr_pu (Pu_call (rfirst_a c ((T.partsF c d)[k]'hk).f) rfl ⟨Sub.rfl, Sub.rfl, trivial⟩) rfl rfl ?_
        refine Dr_pu (Pu_move (.inl rfl) (by conv => lhs; whnf)) rfl rfl ?_
        refine Dr_pu (Pu_move (.inl rfl) (by conv => lhs; whnf)) rfl rfl ?_
        refine Dr_pu (Pu_index rfl Try.underlying27 Try.sizeOf35 rfl rfl (rfl) (mapget hk)) rfl rfl ?_
        refine Dr_pu (Pu_loadN rfl Try.isAgg35 Try.sizeOf35 rfl (Nat.le_of_ble_eq_true rfl)) rfl rfl ?_
        refine Dr_pu (Pu_build (aa := [(0, _), (1, _), (2, _)]) rfl Try.underlying37 Try.zeroValue37 (places37 Try.underlying37) (by kernel_rfl) ⟨rfl, rfl, rfl, rfl, rfl, rfl, rfl, rfl, rfl, trivial⟩ rfl) rfl rfl ?_
        refine Dr_pu (Pu_slice1 rfl Try.underlying31 Try.sizeOf37 Try.zeroValue37 rfl (by decide) (by decide) (by kernel_rfl) rfl rfl rfl) rfl rfl ?_
        refine Dr_nil ?_
        refine Al_append rfl rfl rfl (by decide) (by kernel_rfl) elem31 (by decide) Try.sizeOf37 rfl rfl rfl (by rw [List.length_map, List.length_append]; simp; omega) (by decide) (fun g60 => ?_)
        refine Al_pu (Pu_move (.inr rfl) (by conv => lhs; whnf)) rfl rfl (by decide) (by kernel_rfl) ?_
        refine Al_nil ?_
        refine Aw_region ?_
        refine Al_pu (Pu_move (.inl rfl) (by conv => lhs; whnf)) rfl rfl (by decide) (by kernel_rfl) ?_
        refine Al_pu (Pu_add rfl rfl rfl (fun h1 h2 => by simp only [A.inI, A.maxI] at *; omega)) rfl rfl (by decide) (by kernel_rfl) ?_
        refine Al_pu (Pu_move (.inr rfl) (by conv => lhs; whnf)) rfl rfl (by decide) (by kernel_rfl) ?_
        refine Al_nil ?_
        exact ⟨(s + 1, g60), by omega, by simp only []; omega, Le.ov ⟨Sub.num (by omega), Sub.rfl, trivial⟩ ⟨Sub.rfl, Sub.rfl, Sub.rfl, Sub.rfl, trivial⟩ ⟨obeq (by rw [T.movesOf_succ, hg]; simp [A.cellsA, Mv.row, Rng.row]), trivial⟩ trivial⟩ -- loop 1 next.0
      · skip
        have hg : T.gets c d ((T.partsF c d)[k]'hk) s = false := h44
        refine Aw_skip ?_
        refine Aw_region ?_
        refine Al_pu (Pu_move (.inl rfl) (by conv => lhs; whnf)) rfl rfl (by decide) (by kernel_rfl) ?_
        refine Al_pu (Pu_add rfl rfl rfl (fun h1 h2 => by simp only [A.inI, A.maxI] at *; omega)) rfl rfl (by decide) (by kernel_rfl) ?_
        refine Al_pu (Pu_move (.inr rfl) (by conv => lhs; whnf)) rfl rfl (by decide) (by kernel_rfl) ?_
        refine Al_nil ?_
        exact ⟨(s + 1, g), by omega, by simp only []; omega, Le.ov ⟨Sub.num (by omega), Sub.rfl, trivial⟩ ⟨Sub.rfl, Sub.rfl, Sub.rfl, Sub.rfl, trivial⟩ ⟨obeq (by rw [T.movesOf_succ, hg]; simp), trivial⟩ trivial⟩ -- loop 1 next.1
    · (try simp only [decide_eq_true_eq, decide_eq_false_iff_not, Bool.and_eq_true, Bool.or_eq_true, Bool.and_eq_false_iff, Bool.or_eq_false_iff, Bool.not_eq_true', Bool.not_eq_false', beq_iff_eq, Bool.not_eq_eq_eq_not, Bool.not_true, Bool.not_false, List.length_map, Bool.and_true, Bool.and_false, Bool.false_and, Bool.true_and, Bool.or_false, Bool.false_or] at h21)
      obtain rfl : s = 6 := by omega
      refine Aw_exit ?_
      refine Aw_region ?_
      refine Al_pu (Pu_move (.inl rfl) (by conv => lhs; whnf)) rfl rfl (by decide) (by kernel_rfl) ?_
      refine Al_pu (Pu_add rfl rfl rfl (fun h1 h2 => by simp only [A.inI, A.maxI] at *; omega)) rfl rfl (by decide) (by kernel_rfl) ?_
      refine Al_pu (Pu_move (.inr rfl) (by conv => lhs; whnf)) rfl rfl (by decide) (by kernel_rfl) ?_
      refine Al_nil ?_
      exact ⟨(k + 1, g), by omega, by simp only []; omega, Le.ov ⟨Sub.num (by omega), Sub.rfl, trivial⟩ ⟨Sub.rfl, Sub.rfl, Sub.rfl, trivial⟩ ⟨obeq (by rw [T.planL_take _ _ _ _ hk]), trivial⟩ trivial⟩ -- loop 0 next.0
  · (try simp only [decide_eq_true_eq, decide_eq_false_iff_not, Bool.and_eq_true, Bool.or_eq_true, Bool.and_eq_false_iff, Bool.or_eq_false_iff, Bool.not_eq_true', Bool.not_eq_false', beq_iff_eq, Bool.not_eq_eq_eq_not, Bool.not_true, Bool.not_false, List.length_map, Bool.and_true, Bool.and_false, Bool.false_and, Bool.true_and, Bool.or_false, Bool.false_or] at h17)
    have hkk : k = (T.partsF c d).length := by omega
    refine Aw_exit ?_
    refine Aw_seq ?_
    refine Aw_region ?_
    refine Al_pu (Pu_move (.inl rfl) (by conv => lhs; whnf)) rfl rfl (by decide) (by kernel_rfl) ?_
    refine Al_pu (Pu_move (.inr rfl) (by conv => lhs; whnf)) rfl rfl (by decide) (by kernel_rfl) ?_
    refine Al_nil ?_
    refine Aw_frz hnl (k := 5) [4] rfl ⟨rfl, trivial⟩ ?_
    refine Aw_ret ?_
    exact Sub.d (by rw [hkk, List.take_length, T.plan_six]) -- ret 0
set_option maxRecDepth 100000 in
theorem rgains_a (c d : SRow) (hc : T.Ahead c.parents) (hd : T.Ahead d.parents) (s : Int) : ACall Try.prog 23 [.row c.row, .row d.row, iv s] (.sl 2 ((T.gainsL (T.planF c d) s).map Rng.row)) := by
  refine ACall_enter (fun _ _ => by kernel_rfl) Try.func23 rfl Try.ntmps23 Try.results23 (Nat.le_of_ble_eq_true rfl) (fun hok M0 w0 hnl => ?_)
  have hp6 := hd.le
  have hpl := T.partsF_len c d
  have hmul : d.parents.length * (T.partsF c d).length ≤ 6 * 33 := Nat.mul_le_mul hp6 hpl
  have hnn : (T.planF c d).length ≤ 198 := Nat.le_trans (T.planL_len c d _ _) hmul
  refine Aw_seq ?_
  refine Aw_region ?_
  refine Al_pu (Pu_boxN rfl rfl) rfl rfl (by decide) (by kernel_rfl) ?_
  refine Al_pu (Pu_boxN rfl rfl) rfl rfl (by decide) (by kernel_rfl) ?_
  refine Al_pu (Pu_move (.inr rfl) (by conv => lhs; whnf)) rfl rfl (by decide) (by kernel_rfl) ?_
  refine Al_nil ?_
  refine Aw_seq ?_
  refine Aw_region ?_
  refine Al_pu (Pu_move (.inr rfl) (by conv => lhs; whnf)) rfl rfl (by decide) (by kernel_rfl) ?_
  refine Al_nil ?_
  refine Aw_seq ?_
  refine Aw_region ?_
  refine Al_pu (Pu_loadN rfl Try.isAgg29 Try.sizeOf29 rfl (Nat.le_of_ble_eq_true rfl)) rfl rfl (by decide) (by kernel_rfl) ?_
  refine Al_pu (Pu_loadN rfl Try.isAgg29 Try.sizeOf29 rfl (Nat.le_of_ble_eq_true rfl)) rfl rfl (by decide) (by kernel_rfl) ?_
  refine Al_pu (Pu_call (rplan_a c d hc hd) rfl ⟨Sub.rfl, Sub.rfl, trivial⟩) rfl rfl (by decide) (by kernel_rfl) ?_
  refine Al_pu (Pu_move (.inr rfl) (by conv => lhs; whnf)) rfl rfl (by decide) (by kernel_rfl) ?_
  refine Al_nil ?_
  refine Aw_seq ?_
  refine Aw_seq ?_
  refine Aw_region ?_
  refine Al_pu (Pu_move (.inr rfl) (by conv => lhs; whnf)) rfl rfl (by decide) (by kernel_rfl) ?_
  refine Al_nil ?_
  refine Aw_block ?_
  refine Aw_own (j := 7) (k := 7) (T := 35) (n := 2) rfl (fun g0 => ?_)
  refine Aw_loopk (ι := Nat × Nat) [2, 8] [] (fun (k, g) => [(9, .d (iv k)), (7, .ow 7 g)]) (fun (k, g) => [(7, g, .arr 35 2 ((T.gainsL ((T.planF c d).take k) s).map Rng.row))]) (fun (k, g) => k ≤ (T.planF c d).length) (fun (k, g) => (T.planF c d).length - k) ((0, g0)) (Nat.zero_le _) ⟨Sub.rfl, Sub.rfl, trivial⟩ ⟨rfl, trivial⟩ ?_
  rintro ⟨k, g⟩ hk0
  refine Aw_seq ?_
  refine Aw_seq ?_
  refine Aw_region ?_
  refine Al_pu (Pu_move (.inl rfl) (by conv => lhs; whnf)) rfl rfl (by decide) (by kernel_rfl) ?_
  refine Al_pu (Pu_move (.inl rfl) (by conv => lhs; whnf)) rfl rfl (by decide) (by kernel_rfl) ?_
  refine Al_pu (Pu_len rfl Try.underlying31 rfl (by first | exact List.length_map .. | exact rfl)) rfl rfl (by decide) (by kernel_rfl) ?_
  refine Al_pu (Pu_cmp rfl rfl rfl rfl) rfl rfl (by decide) (by kernel_rfl) ?_
  refine Al_nil ?_
  refine Aw_cond rfl (fun h16 => ?_) (fun h16 => ?_)
  · (try simp only [decide_eq_true_eq, decide_eq_false_iff_not, Bool.and_eq_true, Bool.or_eq_true, Bool.and_eq_false_iff, Bool.or_eq_false_iff, Bool.not_eq_true', Bool.not_eq_false', beq_iff_eq, Bool.not_eq_eq_eq_not, Bool.not_true, Bool.not_false, List.length_map, Bool.and_true, Bool.and_false, Bool.false_and, Bool.true_and, Bool.or_false, Bool.false_or] at h16)
    have hk : k < (T.planF c d).length := by omega
    have hgl := T.gainsL_len ((T.planF c d).take k) s
    rw [List.length_take] at hgl
    refine Aw_skip ?_
    -- join 0: live [2, 7, 8, 9], turned [7]
    refine Aw_seq ?_
    refine Aw_block ?_
    refine Aw_seq ?_
    refine Aw_region ?_
    refine Al_pu (Pu_move (.inl rfl) (by conv => lhs; whnf)) rfl rfl (by decide) (by kernel_rfl) ?_
    refine Al_pu (Pu_move (.inl rfl) (by conv => lhs; whnf)) rfl rfl (by decide) (by kernel_rfl) ?_
    refine Al_pu (Pu_index rfl Try.underlying31 Try.sizeOf37 rfl rfl (rfl) (mapget hk)) rfl rfl (by decide) (by kernel_rfl) ?_
    refine Al_pu (Pu_field 0 rfl Try.underlying37 rfl rfl Try.sizeOf3 rfl) rfl rfl (by decide) (by kernel_rfl) ?_
    refine Al_pu (Pu_load1 rfl Try.isAgg3 rfl rfl) rfl rfl (by decide) (by kernel_rfl) ?_
    refine Al_pu (Pu_move (.inl rfl) (by conv => lhs; whnf)) rfl rfl (by decide) (by kernel_rfl) ?_
    refine Al_pu (Pu_cmp rfl rfl rfl rfl) rfl rfl (by decide) (by kernel_rfl) ?_
    refine Al_nil ?_
    refine Aw_cond rfl (fun h25 => ?_) (fun h25 => ?_)
    · (try simp only [decide_eq_true_eq, decide_eq_false_iff_not, Bool.and_eq_true, Bool.or_eq_true, Bool.and_eq_false_iff, Bool.or_eq_false_iff, Bool.not_eq_true', Bool.not_eq_false', beq_iff_eq, Bool.not_eq_eq_eq_not, Bool.not_true, Bool.not_false, List.length_map, Bool.and_true, Bool.and_false, Bool.false_and, Bool.true_and, Bool.or_false, Bool.false_or] at h25)
      refine Aw_region ?_
      refine Al_pu (Pu_move (.inl rfl) (by conv => lhs; whnf)) rfl rfl (by decide) (by kernel_rfl) ?_
      refine Al_pu (Pu_move (.inl rfl) (by conv => lhs; whnf)) rfl rfl (by decide) (by kernel_rfl) ?_
      refine Al_pu (Pu_move (.inl rfl) (by conv => lhs; whnf)) rfl rfl (by decide) (by kernel_rfl) ?_
      refine Al_pu (Pu_index rfl Try.underlying31 Try.sizeOf37 rfl rfl (rfl) (mapget hk)) rfl rfl (by decide) (by kernel_rfl) ?_
      refine Al_pu (Pu_field 2 rfl Try.underlying37 rfl rfl Try.sizeOf35 rfl) rfl rfl (by decide) (by kernel_rfl) ?_
      refine Al_pu (Pu_loadN rfl Try.isAgg35 Try.sizeOf35 rfl (Nat.le_of_ble_eq_true rfl)) rfl rfl (by decide) (by kernel_rfl) ?_
      refine Al_pu (Pu_slice1 rfl Try.underlying27 Try.sizeOf35 Try.zeroValue35 rfl (by decide) (by decide) (by kernel_rfl) rfl rfl rfl) rfl rfl (by decide) (by kernel_rfl) ?_
      refine Al_append rfl rfl rfl (by decide) (by kernel_rfl) elem27 (by decide) Try.sizeOf35 rfl rfl rfl (by rw [List.length_map]; simp; omega) (by decide) (fun g33 => ?_)
      refine Al_pu (Pu_move (.inr rfl) (by conv => lhs; whnf)) rfl rfl (by decide) (by kernel_rfl) ?_
      refine Al_nil ?_
      refine Aw_region ?_
      refine Al_pu (Pu_move (.inl rfl) (by conv => lhs; whnf)) rfl rfl (by decide) (by kernel_rfl) ?_
      refine Al_pu (Pu_add rfl rfl rfl (fun h1 h2 => by simp only [A.inI, A.maxI] at *; omega)) rfl rfl (by decide) (by kernel_rfl) ?_
      refine Al_pu (Pu_move (.inr rfl) (by conv => lhs; whnf)) rfl rfl (by decide) (by kernel_rfl) ?_
      refine Al_nil ?_
      exact ⟨(k + 1, g33), by omega, by simp only []; omega, Le.ov ⟨Sub.num (by omega), Sub.rfl, trivial⟩ ⟨Sub.rfl, Sub.rfl, trivial⟩ ⟨obeq (by rw [T.gainsL_take _ _ hk, if_pos h25]; simp [A.cellsA, Rng.row, Mv.row]), trivial⟩ trivial⟩ -- loop 0 next.0
    · (try simp only [decide_eq_true_eq, decide_eq_false_iff_not, Bool.and_eq_true, Bool.or_eq_true, Bool.and_eq_false_iff, Bool.or_eq_false_iff, Bool.not_eq_true', Bool.not_eq_false', beq_iff_eq, Bool.not_eq_eq_eq_not, Bool.not_true, Bool.not_false, List.length_map, Bool.and_true, Bool.and_false, Bool.false_and, Bool.true_and, Bool.or_false, Bool.false_or] at h25)
      refine Aw_skip ?_
      refine Aw_region ?_
      refine Al_pu (Pu_move (.inl rfl) (by conv => lhs; whnf)) rfl rfl (by decide) (by kernel_rfl) ?_
      refine Al_pu (Pu_add rfl rfl rfl (fun h1 h2 => by simp only [A.inI, A.maxI] at *; omega)) rfl rfl (by decide) (by kernel_rfl) ?_
      refine Al_pu (Pu_move (.inr rfl) (by conv => lhs; whnf)) rfl rfl (by decide) (by kernel_rfl) ?_
      refine Al_nil ?_
      exact ⟨(k + 1, g), by omega, by simp only []; omega, Le.ov ⟨Sub.num (by omega), Sub.rfl, trivial⟩ ⟨Sub.rfl, Sub.rfl, trivial⟩ ⟨obeq (by rw [T.gainsL_take _ _ hk, if_neg h25]; simp), trivial⟩ trivial⟩ -- loop 0 next.1
  · (try simp only [decide_eq_true_eq, decide_eq_false_iff_not, Bool.and_eq_true, Bool.or_eq_true, Bool.and_eq_false_iff, Bool.or_eq_false_iff, Bool.not_eq_true', Bool.not_eq_false', beq_iff_eq, Bool.not_eq_eq_eq_not, Bool.not_true, Bool.not_false, List.length_map, Bool.and_true, Bool.and_false, Bool.false_and, Bool.true_and, Bool.or_false, Bool.false_or] at h16)
    have hkk : k = (T.planF c d).length := by omega
    refine Aw_exit ?_
    refine Aw_seq ?_
    refine Aw_region ?_
    refine Al_pu (Pu_move (.inl rfl) (by conv => lhs; whnf)) rfl rfl (by decide) (by kernel_rfl) ?_
    refine Al_pu (Pu_move (.inr rfl) (by conv => lhs; whnf)) rfl rfl (by decide) (by kernel_rfl) ?_
    refine Al_nil ?_
    refine Aw_frz hnl (k := 7) [6] rfl ⟨rfl, trivial⟩ ?_
    refine Aw_ret ?_
    exact Sub.d (by rw [hkk, List.take_length]) -- ret 0
set_option maxRecDepth 100000 in
theorem samemoves_a (l : List Mv) (hl : l.length ≤ 1000000) : ACall Try.prog 20 [.sl 4 (l.map Mv.row), .sl 4 (l.map Mv.row)] (bv true) := by
  refine ACall_enter (fun _ _ => by kernel_rfl) Try.func20 rfl Try.ntmps20 Try.results20 (Nat.le_of_ble_eq_true rfl) (fun hok M0 w0 hnl => ?_)
  refine Aw_seq ?_
  refine Aw_region ?_
  refine Al_pu (Pu_move (.inr rfl) (by conv => lhs; whnf)) rfl rfl (by decide) (by kernel_rfl) ?_
  refine Al_nil ?_
  refine Aw_seq ?_
  refine Aw_seq ?_
  refine Aw_region ?_
  refine Al_pu (Pu_move (.inl rfl) (by conv => lhs; whnf)) rfl rfl (by decide) (by kernel_rfl) ?_
  refine Al_pu (Pu_len rfl Try.underlying31 rfl (by first | exact List.length_map .. | exact rfl)) rfl rfl (by decide) (by kernel_rfl) ?_
  refine Al_pu (Pu_move (.inl rfl) (by conv => lhs; whnf)) rfl rfl (by decide) (by kernel_rfl) ?_
  refine Al_pu (Pu_len rfl Try.underlying31 rfl (by first | exact List.length_map .. | exact rfl)) rfl rfl (by decide) (by kernel_rfl) ?_
  refine Al_pu (Pu_cmp rfl rfl rfl rfl) rfl rfl (by decide) (by kernel_rfl) ?_
  refine Al_nil ?_
  refine Aw_cond rfl (fun h10 => ?_) (fun h10 => ?_)
  · (try simp only [decide_eq_true_eq, decide_eq_false_iff_not, Bool.and_eq_true, Bool.or_eq_true, Bool.and_eq_false_iff, Bool.or_eq_false_iff, Bool.not_eq_true', Bool.not_eq_false', beq_iff_eq, Bool.not_eq_eq_eq_not, Bool.not_true, Bool.not_false, List.length_map, Bool.and_true, Bool.and_false, Bool.false_and, Bool.true_and, Bool.or_false, Bool.false_or] at h10)
    exfalso; simp at h10
  · (try simp only [decide_eq_true_eq, decide_eq_false_iff_not, Bool.and_eq_true, Bool.or_eq_true, Bool.and_eq_false_iff, Bool.or_eq_false_iff, Bool.not_eq_true', Bool.not_eq_false', beq_iff_eq, Bool.not_eq_eq_eq_not, Bool.not_true, Bool.not_false, List.length_map, Bool.and_true, Bool.and_false, Bool.false_and, Bool.true_and, Bool.or_false, Bool.false_or] at h10)
    refine Aw_skip ?_
    refine Aw_seq ?_
    refine Aw_seq ?_
    refine Aw_region ?_
    refine Al_pu (Pu_move (.inr rfl) (by conv => lhs; whnf)) rfl rfl (by decide) (by kernel_rfl) ?_
    refine Al_nil ?_
    refine Aw_block ?_
    refine Aw_loopk (ι := Nat) [0, 1] [] (fun k => [(5, .d (iv k))]) (fun k => []) (fun k => k ≤ l.length) (fun k => l.length - k) (0) (Nat.zero_le _) ⟨Sub.rfl, trivial⟩ trivial ?_
    rintro k hk0
    refine Aw_seq ?_
    refine Aw_seq ?_
    refine Aw_region ?_
    refine Al_pu (Pu_move (.inl rfl) (by conv => lhs; whnf)) rfl rfl (by decide) (by kernel_rfl) ?_
    refine Al_pu (Pu_move (.inl rfl) (by conv => lhs; whnf)) rfl rfl (by decide) (by kernel_rfl) ?_
    refine Al_pu (Pu_len rfl Try.underlying31 rfl (by first | exact List.length_map .. | exact rfl)) rfl rfl (by decide) (by kernel_rfl) ?_
    refine Al_pu (Pu_cmp rfl rfl rfl rfl) rfl rfl (by decide) (by kernel_rfl) ?_
    refine Al_nil ?_
    refine Aw_cond rfl (fun h14 => ?_) (fun h14 => ?_)
    · (try simp only [decide_eq_true_eq, decide_eq_false_iff_not, Bool.and_eq_true, Bool.or_eq_true, Bool.and_eq_false_iff, Bool.or_eq_false_iff, Bool.not_eq_true', Bool.not_eq_false', beq_iff_eq, Bool.not_eq_eq_eq_not, Bool.not_true, Bool.not_false, List.length_map, Bool.and_true, Bool.and_false, Bool.false_and, Bool.true_and, Bool.or_false, Bool.false_or] at h14)
      have hk : k < l.length := by omega
      refine Aw_skip ?_
      refine Aw_seq ?_
      refine Aw_block ?_
      refine Aw_seq ?_
      refine Aw_draw 9 (by kernel_rfl) (by kernel_rfl) ?_
      refine Dr_pu (Pu_move (.inl rfl) (by conv => lhs; whnf)) rfl rfl ?_
      refine Dr_pu (Pu_move (.inl rfl) (by conv => lhs; whnf)) rfl rfl ?_
      refine Dr_pu (Pu_index rfl Try.underlying31 Try.sizeOf37 rfl rfl (rfl) (mapget hk)) rfl rfl ?_
      refine Dr_pu (Pu_loadN rfl Try.isAgg37 Try.sizeOf37 rfl (Nat.le_of_ble_eq_true rfl)) rfl rfl ?_
      refine Dr_pu (Pu_move (.inl rfl) (by conv => lhs; whnf)) rfl rfl ?_
      refine Dr_pu (Pu_move (.inl rfl) (by conv => lhs; whnf)) rfl rfl ?_
      refine Dr_pu (Pu_index rfl Try.underlying31 Try.sizeOf37 rfl rfl (rfl) (mapget hk)) rfl rfl ?_
      refine Dr_pu (Pu_loadN rfl Try.isAgg37 Try.sizeOf37 rfl (Nat.le_of_ble_eq_true rfl)) rfl rfl ?_
      refine Dr_pu (Pu_eqrow [.int .i64 _, .int .i64 _, .string _, .string _] [.int .i64 _, .int .i64 _, .string _, .string _] (fun w => nev37 _ _ _ _ _ _ _ _ _ _ w) rfl rfl rfl) rfl rfl ?_
      refine Dr_nil ?_
      refine Al_nil ?_
      refine Aw_cond rfl (fun h25 => ?_) (fun h25 => ?_)
      · (try simp only [decide_eq_true_eq, decide_eq_false_iff_not, Bool.and_eq_true, Bool.or_eq_true, Bool.and_eq_false_iff, Bool.or_eq_false_iff, Bool.not_eq_true', Bool.not_eq_false', beq_iff_eq, Bool.not_eq_eq_eq_not, Bool.not_true, Bool.not_false, List.length_map, Bool.and_true, Bool.and_false, Bool.false_and, Bool.true_and, Bool.or_false, Bool.false_or] at h25)
        exfalso; simp at h25
      · (try simp only [decide_eq_true_eq, decide_eq_false_iff_not, Bool.and_eq_true, Bool.or_eq_true, Bool.and_eq_false_iff, Bool.or_eq_false_iff, Bool.not_eq_true', Bool.not_eq_false', beq_iff_eq, Bool.not_eq_eq_eq_not, Bool.not_true, Bool.not_false, List.length_map, Bool.and_true, Bool.and_false, Bool.false_and, Bool.true_and, Bool.or_false, Bool.false_or] at h25)
        refine Aw_skip ?_
        refine Aw_region ?_
        refine Al_pu (Pu_move (.inl rfl) (by conv => lhs; whnf)) rfl rfl (by decide) (by kernel_rfl) ?_
        refine Al_pu (Pu_add rfl rfl rfl (fun h1 h2 => by simp only [A.inI, A.maxI] at *; omega)) rfl rfl (by decide) (by kernel_rfl) ?_
        refine Al_pu (Pu_move (.inr rfl) (by conv => lhs; whnf)) rfl rfl (by decide) (by kernel_rfl) ?_
        refine Al_nil ?_
        exact ⟨k + 1, by omega, by omega, Le.ov ⟨Sub.num (by omega), trivial⟩ ⟨Sub.rfl, Sub.rfl, trivial⟩ trivial trivial⟩ -- loop 0 next.0
    · (try simp only [decide_eq_true_eq, decide_eq_false_iff_not, Bool.and_eq_true, Bool.or_eq_true, Bool.and_eq_false_iff, Bool.or_eq_false_iff, Bool.not_eq_true', Bool.not_eq_false', beq_iff_eq, Bool.not_eq_eq_eq_not, Bool.not_true, Bool.not_false, List.length_map, Bool.and_true, Bool.and_false, Bool.false_and, Bool.true_and, Bool.or_false, Bool.false_or] at h14)
      refine Aw_exit ?_
      refine Aw_seq ?_
      refine Aw_region ?_
      refine Al_pu (Pu_move (.inr rfl) (by conv => lhs; whnf)) rfl rfl (by decide) (by kernel_rfl) ?_
      refine Al_nil ?_
      refine Aw_ret ?_
      exact Sub.rfl -- ret 0
end Go.Proofs.Ytfalbocgnmlncaa
