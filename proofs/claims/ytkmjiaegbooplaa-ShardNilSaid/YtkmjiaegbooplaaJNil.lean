/- ShardNil: no shard at all, and the zero one. -/
import Derived.Test.YtkmjiaegbooplaaJLb
import Derived.Test.YtkmjiaegbooplaaADp
import Derived.Shelf.SlIter.Nil
set_option linter.unusedSimpArgs false
set_option linter.unusedVariables false
namespace Go.Proofs.Ytkmjiaegbooplaa
open Go Go.RowKit Go.Maps Go.Sort Go.Shelf A R
set_option maxRecDepth 100000
section
variable {P : Program} {st : ASt} {o : Oper}
theorem A.Pu_lookupN {κ : Type} {kv : κ → Value} {ok : κ → Prop} {t kt e : TypeId} {x y : Operand} {ky z : AV} {zv : Value} {c : κ} (T : R.KeyT P kt κ kv ok) (ho : o.op = .lookup t x y false) (ht : P.underlying t = some (.map kt e)) (hz : ∀ w, (zeroValue e).run P w = .ok zv w) (hzr : ∀ M w, Rep M w z zv) (hx : st.ev x = .d (.v (.map none))) (hy : st.ev y = .d ky) (hky : Only ky (kv c)) (hok : ok c) : Pu P st o (.d z) := fun B M ρ w a hM h2 h3 K hK => by
  have h1 := h2 x (by simp [opsOf, ho, Op.operands])
  have h4 := h2 y (by simp [opsOf, ho, Op.operands])
  rw [hx] at h1
  rw [hy] at h4
  obtain ⟨h6, _⟩ := rep_v h1
  have hyv := hky _ _ _ h4
  have hf : (Instr.findKey kt (kv c) []).run P w = .ok none w := by
    rcases T.find w c hok [] (fun e he => by cases he) with ⟨g1, _⟩ | ⟨j, e0, _, g2, _⟩
    · exact g1
    · cases g2
  have e : (execOp a.eval o).run P w = .ok (.value zv) w := by
    simp [execOp, ho, h6, hyv, Instr.lookup, run_underlying ht, T.check w _ c hok, hf, hz, Result.andThen]
  rw [e]
  exact hK _ _ (Ev.Ext.refl _) (hzr M w)
end
abbrev nilP : AV := .v (.pointer none)
abbrev nilS : AV := .v (.slice none 0 0)
/-- The zero shard. -/
abbrev ZH : Obs := [(1001, .box 66 [.d nilS, .d (.v (.map none))])]
theorem nranges_a : ACall Try.prog 27 [nilP] (rngA []) := by
  refine ACall_enter (fun _ _ => by kernel_rfl) Try.func27 rfl Try.ntmps27 Try.results27 (Nat.le_of_ble_eq_true rfl) (fun hok M0 w0 hnl => ?_)
  refine Aw_seq ?_
  refine Aw_region ?_
  refine Al_pu (Pu_move (.inr rfl) (by conv => lhs; whnf)) rfl rfl (by decide) (by kernel_rfl) ?_
  refine Al_nil ?_
  refine Aw_seq ?_
  refine Aw_seq ?_
  refine Aw_region ?_
  refine Al_pu (Pu_move (.inl rfl) (by conv => lhs; whnf)) rfl rfl (by decide) (by kernel_rfl) ?_
  refine Al_pu (Pu_eqnilN Try.underlying25 rfl rfl) rfl rfl (by decide) (by kernel_rfl) ?_
  refine Al_nil ?_
  refine Aw_condT rfl (rfl) ?_
  refine Aw_seq ?_
  refine Aw_region ?_
  refine Al_pu (Pu_move (.inr rfl) (by conv => lhs; whnf)) rfl rfl (by decide) (by kernel_rfl) ?_
  refine Al_nil ?_
  refine Aw_ret ?_
  exact Sub.nil -- ret 0
theorem nchain_a (key : ByteArray) : ACall Try.prog 15 [nilP, tv key] (versA []) := by
  refine ACall_enter (fun _ _ => by kernel_rfl) Try.func15 rfl Try.ntmps15 Try.results15 (Nat.le_of_ble_eq_true rfl) (fun hok M0 w0 hnl => ?_)
  refine Aw_seq ?_
  refine Aw_region ?_
  refine Al_pu (Pu_move (.inr rfl) (by conv => lhs; whnf)) rfl rfl (by decide) (by kernel_rfl) ?_
  refine Al_nil ?_
  refine Aw_seq ?_
  refine Aw_seq ?_
  refine Aw_region ?_
  refine Al_pu (Pu_move (.inl rfl) (by conv => lhs; whnf)) rfl rfl (by decide) (by kernel_rfl) ?_
  refine Al_pu (Pu_eqnilN Try.underlying25 rfl rfl) rfl rfl (by decide) (by kernel_rfl) ?_
  refine Al_nil ?_
  refine Aw_condT rfl (rfl) ?_
  refine Aw_seq ?_
  refine Aw_region ?_
  refine Al_pu (Pu_move (.inr rfl) (by conv => lhs; whnf)) rfl rfl (by decide) (by kernel_rfl) ?_
  refine Al_nil ?_
  refine Aw_ret ?_
  exact Sub.nil -- ret 0
theorem nput_a (v : Ver) : ACall Try.prog 12 [nilP, .row v.row] (bv false) := by
  refine ACall_enter (fun _ _ => by kernel_rfl) Try.func12 rfl Try.ntmps12 Try.results12 (Nat.le_of_ble_eq_true rfl) (fun hok M0 w0 hnl => ?_)
  refine Aw_seq ?_
  refine Aw_region ?_
  refine Al_boxN rfl rfl rfl (by decide) (by kernel_rfl) rfl (fun g3 => ?_)
  refine Al_pu (Pu_move (.inr rfl) (by conv => lhs; whnf)) rfl rfl (by decide) (by kernel_rfl) ?_
  refine Al_nil ?_
  refine Aw_seq ?_
  refine Aw_seq ?_
  refine Aw_draw 12 (by kernel_rfl) (by kernel_rfl) ?_
  refine Dr_pu (Pu_move (.inl rfl) (by conv => lhs; whnf)) rfl rfl ?_
  refine Dr_pu (Pu_eqnilN Try.underlying25 rfl rfl) rfl rfl ?_
  refine Dr_pu (Pu_move (.inl rfl) (by conv => lhs; whnf)) rfl rfl ?_
  refine Dr_st (St_gd (s := .any) [] rfl rfl rfl rfl trivial (fun hgd => nomatch hgd)) rfl ?_
  refine Dr_st (St_gd (s := .any) [] rfl rfl rfl rfl trivial (fun hgd => nomatch hgd)) rfl ?_
  refine Dr_st (St_gd (s := .any) [] rfl rfl rfl rfl trivial (fun hgd => nomatch hgd)) rfl ?_
  refine Dr_st (St_gd (s := .any) [] rfl rfl rfl rfl trivial (fun hgd => nomatch hgd)) rfl ?_
  refine Dr_st (St_gd (s := .any) [] rfl rfl rfl rfl trivial (fun hgd => nomatch hgd)) rfl ?_
  refine Dr_st (St_gd (s := .any) [] rfl rfl rfl rfl trivial (fun hgd => nomatch hgd)) rfl ?_
  refine Dr_st (St_gd (s := .any) [] rfl rfl rfl rfl trivial (fun hgd => nomatch hgd)) rfl ?_
  refine Dr_st (St_gd (s := .any) [] rfl rfl rfl rfl trivial (fun hgd => nomatch hgd)) rfl ?_
  refine Dr_pu (Pu_orT rfl rfl (rfl) rfl) rfl rfl ?_
  refine Dr_nil ?_
  refine Al_nil ?_
  refine Aw_condT rfl (rfl) ?_
  refine Aw_seq ?_
  refine Aw_region ?_
  refine Al_pu (Pu_move (.inr rfl) (by conv => lhs; whnf)) rfl rfl (by decide) (by kernel_rfl) ?_
  refine Al_nil ?_
  refine Aw_ret ?_
  exact Sub.rfl -- ret 0
theorem nhead_a (key : ByteArray) : ACall Try.prog 26 [nilP, tv key] (verA none) := by
  refine ACall_enterG (fun _ _ => by kernel_rfl) Try.func26 rfl Try.ntmps26 (Reads.cN1 Try.results26 Try.isAgg34 Try.sizeOf34) (Nat.le_of_ble_eq_true rfl) (fun hok M0 w0 hnl => ?_)
  refine Aw_seq ?_
  refine Aw_region ?_
  refine Al_alloc rfl rfl rfl (by decide) Try.zeroValue34 rfl (by kernel_rfl) (fun g4 => ?_)
  refine Al_pu (Pu_move (.inr rfl) (by conv => lhs; whnf)) rfl rfl (by decide) (by kernel_rfl) ?_
  refine Al_nil ?_
  refine Aw_seq ?_
  refine Aw_region ?_
  refine Al_pu (Pu_move (.inl rfl) (by conv => lhs; whnf)) rfl rfl (by decide) (by kernel_rfl) ?_
  refine Al_pu (Pu_move (.inl rfl) (by conv => lhs; whnf)) rfl rfl (by decide) (by kernel_rfl) ?_
  refine Al_pu (Pu_call (nchain_a key) rfl ⟨Sub.rfl, Sub.rfl, trivial⟩) rfl rfl (by decide) (by kernel_rfl) ?_
  refine Al_pu (Pu_call (chead_a []) rfl ⟨Sub.rfl, trivial⟩) rfl rfl (by decide) (by kernel_rfl) ?_
  refine Al_pu (Pu_extract rfl rfl rfl) rfl rfl (by decide) (by kernel_rfl) ?_
  refine Al_pu (Pu_extract rfl rfl rfl) rfl rfl (by decide) (by kernel_rfl) ?_
  refine Al_storeN rfl rfl rfl (by kernel_rfl) Try.isAgg34 Try.sizeOf34 rfl rfl rfl rfl (Nat.le_of_ble_eq_true rfl) ?_
  refine Al_pu (Pu_move (.inr rfl) (by conv => lhs; whnf)) rfl rfl (by decide) (by kernel_rfl) ?_
  refine Al_nil ?_
  refine Aw_ret ?_
  exact ⟨_, _, _, _, _, [_, _, _, _, _, _], _, rfl, rfl, rfl, rfl, Sub.rfl, rfl⟩ -- ret 0
theorem nat_a (key : ByteArray) (n s : Int) : ACall Try.prog 19 [nilP, tv key, .row [iv n, iv s]] (verA none) := by
  refine ACall_enterG (fun _ _ => by kernel_rfl) Try.func19 rfl Try.ntmps19 (Reads.cN1 Try.results19 Try.isAgg34 Try.sizeOf34) (Nat.le_of_ble_eq_true rfl) (fun hok M0 w0 hnl => ?_)
  refine Aw_seq ?_
  refine Aw_region ?_
  refine Al_pu (Pu_boxN rfl rfl) rfl rfl (by decide) (by kernel_rfl) ?_
  refine Al_alloc rfl rfl rfl (by decide) Try.zeroValue34 rfl (by kernel_rfl) (fun g6 => ?_)
  refine Al_pu (Pu_move (.inr rfl) (by conv => lhs; whnf)) rfl rfl (by decide) (by kernel_rfl) ?_
  refine Al_nil ?_
  -- join 0: live [6, 7], turned [7]
  refine Aw_seq ?_
  refine Aw_drawP 7 2 (by kernel_rfl) (by kernel_rfl) rfl ?_
  refine Dr_pu (Pu_move (.inl rfl) (by conv => lhs; whnf)) rfl rfl ?_
  refine Dr_pu (Pu_move (.inl rfl) (by conv => lhs; whnf)) rfl rfl ?_
  refine Dr_pu (Pu_call (nchain_a key) rfl ⟨Sub.rfl, Sub.rfl, trivial⟩) rfl rfl ?_
  refine Dr_pu (Pu_loadN rfl Try.isAgg31 Try.sizeOf31 rfl (Nat.le_of_ble_eq_true rfl)) rfl rfl ?_
  refine Dr_pu (Pu_call (cat_a [] n s) rfl ⟨Sub.rfl, Sub.rfl, trivial⟩) rfl rfl ?_
  refine Dr_pu (Pu_extract rfl rfl rfl) rfl rfl ?_
  refine Dr_pu (Pu_extract rfl rfl rfl) rfl rfl ?_
  refine Dr_nil ?_
  refine Ad_one 7 rfl (by kernel_rfl) ?_
  refine Al_storeN rfl rfl rfl (by kernel_rfl) Try.isAgg34 Try.sizeOf34 rfl rfl rfl rfl (Nat.le_of_ble_eq_true rfl) ?_
  refine Al_nil ?_
  refine Ad_take 8 rfl (PuI_move (.inr rfl) (by conv => lhs; whnf)) rfl rfl (by decide) (by kernel_rfl) (by kernel_rfl) (by kernel_rfl) (by kernel_rfl) (fun _ _ h => h) ?_
  refine Ad_done (by kernel_rfl) ?_
  refine Aw_ret ?_
  exact ⟨_, _, _, _, _, [_, _, _, _, _, _], _, rfl, rfl, rfl, rfl, Sub.rfl, rfl⟩ -- ret 0
theorem nkeys_a : ACall Try.prog 25 [nilP] (.sl 1 []) := by
  refine ACall_enter (fun _ _ => by kernel_rfl) Try.func25 rfl Try.ntmps25 Try.results25 (Nat.le_of_ble_eq_true rfl) (fun hok M0 w0 hnl => ?_)
  refine Aw_seq ?_
  refine Aw_region ?_
  refine Al_pu (Pu_move (.inr rfl) (by conv => lhs; whnf)) rfl rfl (by decide) (by kernel_rfl) ?_
  refine Al_nil ?_
  refine Aw_seq ?_
  refine Aw_seq ?_
  refine Aw_region ?_
  refine Al_pu (Pu_move (.inl rfl) (by conv => lhs; whnf)) rfl rfl (by decide) (by kernel_rfl) ?_
  refine Al_pu (Pu_eqnilN Try.underlying25 rfl rfl) rfl rfl (by decide) (by kernel_rfl) ?_
  refine Al_nil ?_
  refine Aw_condT rfl (rfl) ?_
  refine Aw_seq ?_
  refine Aw_region ?_
  refine Al_pu (Pu_move (.inr rfl) (by conv => lhs; whnf)) rfl rfl (by decide) (by kernel_rfl) ?_
  refine Al_nil ?_
  refine Aw_ret ?_
  exact Sub.nil -- ret 0
theorem nhave_a : ACall Try.prog 23 [nilP] (.sl 3 []) := by
  refine ACall_enter (fun _ _ => by kernel_rfl) Try.func23 rfl Try.ntmps23 Try.results23 (Nat.le_of_ble_eq_true rfl) (fun hok M0 w0 hnl => ?_)
  refine Aw_seq ?_
  refine Aw_region ?_
  refine Al_pu (Pu_move (.inr rfl) (by conv => lhs; whnf)) rfl rfl (by decide) (by kernel_rfl) ?_
  refine Al_nil ?_
  refine Aw_seq ?_
  refine Aw_region ?_
  refine Al_pu (Pu_move (.inr rfl) (by conv => lhs; whnf)) rfl rfl (by decide) (by kernel_rfl) ?_
  refine Al_nil ?_
  refine Aw_seq ?_
  refine Aw_seq ?_
  refine Aw_region ?_
  refine Al_pu (Pu_move (.inl rfl) (by conv => lhs; whnf)) rfl rfl (by decide) (by kernel_rfl) ?_
  refine Al_pu (Pu_call (nkeys_a) rfl ⟨Sub.rfl, trivial⟩) rfl rfl (by decide) (by kernel_rfl) ?_
  refine Al_pu (Pu_len rfl Try.underlying59 rfl (by first | exact List.length_map .. | exact rfl)) rfl rfl (by decide) (by kernel_rfl) ?_
  refine Al_pu (Pu_move (.inl rfl) (by conv => lhs; whnf)) rfl rfl (by decide) (by kernel_rfl) ?_
  refine Al_nil ?_
  refine Aw_block ?_
  refine Aw_loopk (ι := Unit) [0, 9, 10] [] (fun _ => [(11, .d (iv 0)), (3, .d nilS)]) (fun _ => []) (fun _ => True) (fun _ => 0) (()) (trivial) ⟨Sub.rfl, Sub.rfl, trivial⟩ trivial ?_
  rintro _ hok0
  refine Aw_seq ?_
  refine Aw_region ?_
  refine Al_pu (Pu_cmp rfl rfl rfl rfl) rfl rfl (by decide) (by kernel_rfl) ?_
  refine Al_nil ?_
  refine Aw_seq ?_
  refine Aw_condF rfl (rfl) ?_
  refine Aw_exit ?_
  refine Aw_seq ?_
  refine Aw_region ?_
  refine Al_pu (Pu_move (.inl rfl) (by conv => lhs; whnf)) rfl rfl (by decide) (by kernel_rfl) ?_
  refine Al_pu (Pu_move (.inr rfl) (by conv => lhs; whnf)) rfl rfl (by decide) (by kernel_rfl) ?_
  refine Al_nil ?_
  refine Aw_ret ?_
  exact Sub.nil -- ret 0
theorem nclean_a (n s : Int) : ACall Try.prog 24 [nilP, .row [iv n, iv s], .sl 3 []] (.tup []) := by
  refine ACall_enterG (fun _ _ => by kernel_rfl) Try.func24 rfl Try.ntmps24 (Reads.r0 Try.results24) (Nat.le_of_ble_eq_true rfl) (fun hok M0 w0 hnl => ?_)
  refine Aw_seq ?_
  refine Aw_region ?_
  refine Al_pu (Pu_boxN rfl rfl) rfl rfl (by decide) (by kernel_rfl) ?_
  refine Al_nil ?_
  refine Aw_seq ?_
  refine Aw_region ?_
  refine Al_pu (Pu_move (.inl rfl) (by conv => lhs; whnf)) rfl rfl (by decide) (by kernel_rfl) ?_
  refine Al_pu (Pu_call (nkeys_a) rfl ⟨Sub.rfl, trivial⟩) rfl rfl (by decide) (by kernel_rfl) ?_
  refine Al_pu (Pu_len rfl Try.underlying59 rfl (by first | exact List.length_map .. | exact rfl)) rfl rfl (by decide) (by kernel_rfl) ?_
  refine Al_pu (Pu_move (.inl rfl) (by conv => lhs; whnf)) rfl rfl (by decide) (by kernel_rfl) ?_
  refine Al_nil ?_
  refine Aw_block ?_
  refine Aw_loopk (ι := Unit) [0, 2, 4, 13, 14] [] (fun _ => [(15, .d (iv 0))]) (fun _ => []) (fun _ => True) (fun _ => 0) (()) (trivial) ⟨Sub.rfl, trivial⟩ trivial ?_
  rintro _ hok0
  refine Aw_seq ?_
  refine Aw_region ?_
  refine Al_pu (Pu_cmp rfl rfl rfl rfl) rfl rfl (by decide) (by kernel_rfl) ?_
  refine Al_nil ?_
  refine Aw_seq ?_
  refine Aw_condF rfl (rfl) ?_
  refine Aw_exit ?_
  trivial -- ret 0
theorem nmove_a : ACall Try.prog 16 [nilP, rngA []] (.tup []) := by
  refine ACall_enterG (fun _ _ => by kernel_rfl) Try.func16 rfl Try.ntmps16 (Reads.r0 Try.results16) (Nat.le_of_ble_eq_true rfl) (fun hok M0 w0 hnl => ?_)
  refine Aw_seq ?_
  refine Aw_seq ?_
  refine Aw_region ?_
  refine Al_pu (Pu_move (.inl rfl) (by conv => lhs; whnf)) rfl rfl (by decide) (by kernel_rfl) ?_
  refine Al_pu (Pu_eqnilN Try.underlying25 rfl rfl) rfl rfl (by decide) (by kernel_rfl) ?_
  refine Al_nil ?_
  refine Aw_condT rfl (rfl) ?_
  refine Aw_ret ?_
  trivial -- ret 0
/-! ### the zero one -/
theorem keysN_g : GCall Try.prog 37 [.d (.v (.map none))] [] (some ([(1001, .box 64 [.d (.v (.map none))])], .fnb 51 [] [.bx 1001 0 0])) := by
  refine GCall_enter (fun _ _ => by kernel_rfl) Try.func37 rfl Try.ntmps37 (ReadsS.r1 Try.results37) (Nat.le_of_ble_eq_true rfl) (fun hok hokB M0 w0 => ?_)
  refine Aw_seq ?_
  refine Aw_region ?_
  refine Al_box1 rfl rfl rfl (by decide) (by kernel_rfl) (by conv => lhs; whnf) rfl (fun g1 => ?_)
  refine Al_pu (Pu_move (.inr rfl) (by conv => lhs; whnf)) rfl rfl (by decide) (by kernel_rfl) ?_
  refine Al_nil ?_
  refine Aw_seq ?_
  refine Aw_region ?_
  refine Al_pu (Pu_makeFuncS [] [.bx 1 g1 0] rfl trivial ⟨Sub.rfl, trivial⟩) rfl rfl (by decide) (by kernel_rfl) ?_
  refine Al_pu (Pu_move (.inr rfl) (by conv => lhs; whnf)) rfl rfl (by decide) (by kernel_rfl) ?_
  refine Al_nil ?_
  refine Aw_ret ?_
  exact ⟨_, _, [(1001, 1, g1)], rfl, Sub.rfl, ⟨rfl, trivial⟩, rfl⟩ -- ret 0
theorem sortedN_g : GCall Try.prog 36 [.fnb 51 [] [.bx 1001 0 0]] [(1001, .box 64 [.d (.v (.map none))])] (some ([], .d (.sl 1 []))) := ⟨fun _ _ => by kernel_rfl, fun M w ρ vs hM hbnd ha hobs hfps hap => by
  obtain ⟨h2, e2, b2, cs2, rfl, _, hb2, hsz2, hcs2⟩ := hobs (1001, .box 64 [.d (.v (.map none))]) (by simp)
  have hcell : w.cell? ⟨b2, 0, none⟩ = some (.map none) := by
    have h0 : 0 < cs2.size := by rw [hsz2]; exact Nat.one_pos
    have h3 : cs2[0]? = some cs2[0] := Array.getElem?_eq_getElem h0
    have h4 := hcs2 0 (.d (.v (.map none))) cs2[0] rfl h3
    rw [Lib.cell_of_heap hb2]
    show cs2[0]? = _
    rw [h3]
    exact congrArg some (rep_v h4.1).1
  match vs, ha with
  | [x], ha =>
  obtain ⟨us, vs', rfl, ⟨hu, _⟩, hv1, hv2⟩ := ha.2 0 _ x rfl rfl
  obtain rfl : us = [] := List.eq_nil_of_length_eq_zero hu
  match vs', hv1, hv2 with
  | [y], _, hv2 =>
  obtain ⟨z, bz, ez, hz1, rfl⟩ := hv2 0 _ y rfl rfl
  rw [e2] at ez
  obtain rfl := Option.some.inj ez
  have hbz : b2 = bz := by simpa [blk] using hz1
  subst hbz
  have hlt2 : b2 < w.heap.size := (Array.getElem?_eq_some_iff.1 hb2).1
  have hseq := AnyZ.keys_gives_nil (ρ := Try.keysV_ren) { Try.keysV with } Fence.wide 2 trivial rfl b2 w hlt2 hcell
  have hS := AnyZ.sorted_in Try.sorted_lays Fence.wide 5 trivial trivial trivial trivial rfl (by omega) (Try.sorts_in _) (enters_of Try.func50 (by kernel_rfl) rfl) 51 #[.pointer (some ⟨b2, 0, none⟩)] trivial (enters_of Try.func51 (by kernel_rfl) rfl) _ _ (by decide) (by omega) _ hseq
  refine (callsIn_wide.1 hS).mono fun e w' ⟨v, ss, he, hperm, hrow, hnil, hbel⟩ => ?_
  have hext : Ev.Ext w w' := hbel
  have hv : v = .slice none 0 0 := hnil.2 hperm
  subst hv
  refine ⟨⟨hext.os, hext.tape, hext.output, hext.size, fun c hc _ => hext.block c hc⟩, _, he, ρ, hbnd, fun p hp => ?_, fun p hp => ?_, fun p hp => ?_, ?_⟩
  · rfl
  · cases hp
  · cases hp
  · exact .nil _ _ _⟩
theorem zranges_g : GCall Try.prog 27 [.bx 1001 0 0] ZH (some (ZH, .d (rngA []))) := by
  refine GCall_enterL (fun _ _ => by kernel_rfl) Try.func27 rfl Try.ntmps27 (ReadsS.r1 Try.results27) (Nat.le_of_ble_eq_true rfl) (fun hok hokB M0 w0 hl => ?_)
  refine Aw_seq ?_
  refine Aw_region ?_
  refine Al_pu (Pu_move (.inr rfl) (by conv => lhs; whnf)) rfl rfl (by decide) (by kernel_rfl) ?_
  refine Al_nil ?_
  refine Aw_seq ?_
  refine Aw_seq ?_
  refine Aw_region ?_
  refine Al_pu (Pu_move (.inl rfl) (by conv => lhs; whnf)) rfl rfl (by decide) (by kernel_rfl) ?_
  refine Al_pu (Pu_eqnilb Try.underlying25 rfl rfl) rfl rfl (by decide) (by kernel_rfl) ?_
  refine Al_nil ?_
  refine Aw_condF rfl (rfl) ?_
  refine Aw_skip ?_
  refine Aw_seq ?_
  refine Aw_region ?_
  refine Al_pu (Pu_move (.inl rfl) (by conv => lhs; whnf)) rfl rfl (by decide) (by kernel_rfl) ?_
  refine Al_pu (Pu_nilb rfl rfl) rfl rfl (by decide) (by kernel_rfl) ?_
  refine Al_pu (Pu_fieldb 0 rfl Try.underlying66 rfl rfl Try.sizeOf27 rfl) rfl rfl (by decide) (by kernel_rfl) ?_
  refine Al_pu (Pu_loadb rfl Try.isAgg27 rfl rfl rfl) rfl rfl (by decide) (by kernel_rfl) ?_
  refine Al_gcall [] [(1001, 9)] (cloneR_g [] (Nat.zero_le _)) rfl rfl rfl (by decide) (by kernel_rfl) trivial rfl ⟨Sub.nil, trivial⟩ (fun g9 => ?_)
  refine Al_pu (Pu_move (.inr rfl) (by conv => lhs; whnf)) rfl rfl (by decide) (by kernel_rfl) ?_
  refine Al_nil ?_
  refine Aw_frzL hl (k := 9) [2] rfl ⟨rfl, ⟨_, rfl, fun _ _ h => h⟩, trivial⟩ ⟨rfl, trivial⟩ ?_
  refine Aw_ret ?_
  exact ⟨_, _, [], rfl, Sub.rfl, ⟨rfl, trivial⟩, rfl⟩ -- ret 0
theorem zchain_g (key : ByteArray) : GCall Try.prog 15 [.bx 1001 0 0, .d (tv key)] ZH (some (ZH, .d (versA []))) := by
  refine GCall_enterL (fun _ _ => by kernel_rfl) Try.func15 rfl Try.ntmps15 (ReadsS.r1 Try.results15) (Nat.le_of_ble_eq_true rfl) (fun hok hokB M0 w0 hl => ?_)
  have hk : key.size ≤ A.maxI := (hok (tv key) (by simp)).text
  refine Aw_seq ?_
  refine Aw_region ?_
  refine Al_pu (Pu_move (.inr rfl) (by conv => lhs; whnf)) rfl rfl (by decide) (by kernel_rfl) ?_
  refine Al_nil ?_
  refine Aw_seq ?_
  refine Aw_seq ?_
  refine Aw_region ?_
  refine Al_pu (Pu_move (.inl rfl) (by conv => lhs; whnf)) rfl rfl (by decide) (by kernel_rfl) ?_
  refine Al_pu (Pu_eqnilb Try.underlying25 rfl rfl) rfl rfl (by decide) (by kernel_rfl) ?_
  refine Al_nil ?_
  refine Aw_condF rfl (rfl) ?_
  refine Aw_skip ?_
  refine Aw_seq ?_
  refine Aw_region ?_
  refine Al_pu (Pu_move (.inl rfl) (by conv => lhs; whnf)) rfl rfl (by decide) (by kernel_rfl) ?_
  refine Al_pu (Pu_nilb rfl rfl) rfl rfl (by decide) (by kernel_rfl) ?_
  refine Al_pu (Pu_fieldb 1 rfl Try.underlying66 rfl rfl Try.sizeOf64 rfl) rfl rfl (by decide) (by kernel_rfl) ?_
  refine Al_pu (Pu_loadb rfl Try.isAgg64 rfl rfl rfl) rfl rfl (by decide) (by kernel_rfl) ?_
  refine Al_pu (Pu_move (.inl rfl) (by conv => lhs; whnf)) rfl rfl (by decide) (by kernel_rfl) ?_
  refine Al_pu (Pu_lookupN (c := key) (z := versA []) keyS_T rfl Try.underlying64 Try.zeroValue41 (fun M w => .nil _ _ _) rfl rfl (Only.v _) hk) rfl rfl (by decide) (by kernel_rfl) ?_
  refine Al_gcall [] [(1001, 13)] (cloneV_g [] (Nat.zero_le _)) rfl rfl rfl (by decide) (by kernel_rfl) trivial rfl ⟨Sub.rfl, trivial⟩ (fun g13 => ?_)
  refine Al_pu (Pu_move (.inr rfl) (by conv => lhs; whnf)) rfl rfl (by decide) (by kernel_rfl) ?_
  refine Al_nil ?_
  refine Aw_frzL hl (k := 13) [4] rfl ⟨rfl, ⟨_, rfl, fun _ _ h => h⟩, trivial⟩ ⟨rfl, trivial⟩ ?_
  refine Aw_ret ?_
  exact ⟨_, _, [], rfl, Sub.rfl, ⟨rfl, trivial⟩, rfl⟩ -- ret 0
theorem zhead_g (key : ByteArray) : GCall Try.prog 26 [.bx 1001 0 0, .d (tv key)] ZH (some (ZH, .d (verA none))) := by
  refine GCall_enterL (fun _ _ => by kernel_rfl) Try.func26 rfl Try.ntmps26 (ReadsS.cN1 Try.results26 Try.isAgg34 Try.sizeOf34) (Nat.le_of_ble_eq_true rfl) (fun hok hokB M0 w0 hl => ?_)
  refine Aw_seq ?_
  refine Aw_region ?_
  refine Al_alloc rfl rfl rfl (by decide) Try.zeroValue34 rfl (by kernel_rfl) (fun g4 => ?_)
  refine Al_pu (Pu_move (.inr rfl) (by conv => lhs; whnf)) rfl rfl (by decide) (by kernel_rfl) ?_
  refine Al_nil ?_
  refine Aw_seq ?_
  refine Aw_region ?_
  refine Al_pu (Pu_move (.inl rfl) (by conv => lhs; whnf)) rfl rfl (by decide) (by kernel_rfl) ?_
  refine Al_pu (Pu_move (.inl rfl) (by conv => lhs; whnf)) rfl rfl (by decide) (by kernel_rfl) ?_
  refine Al_gcall [(1001, 1001, 0)] [] (zchain_g key) rfl rfl rfl (by decide) (by kernel_rfl) ⟨rfl, trivial⟩ rfl ⟨Sub.rfl, Sub.rfl, trivial⟩ (fun g8 => ?_)
  refine Al_pu (Pu_call (chead_a []) rfl ⟨Sub.rfl, trivial⟩) rfl rfl (by decide) (by kernel_rfl) ?_
  refine Al_pu (Pu_extract rfl rfl rfl) rfl rfl (by decide) (by kernel_rfl) ?_
  refine Al_pu (Pu_extract rfl rfl rfl) rfl rfl (by decide) (by kernel_rfl) ?_
  refine Al_storeN rfl rfl rfl (by kernel_rfl) Try.isAgg34 Try.sizeOf34 rfl rfl rfl rfl (Nat.le_of_ble_eq_true rfl) ?_
  refine Al_pu (Pu_move (.inr rfl) (by conv => lhs; whnf)) rfl rfl (by decide) (by kernel_rfl) ?_
  refine Al_nil ?_
  refine Aw_ret ?_
  exact ⟨_, _, [], rfl, ⟨_, rfl, _, _, _, _, _, [_, _, _, _, _, _], _, rfl, rfl, rfl, rfl, Sub.rfl, rfl⟩, ⟨rfl, trivial⟩, rfl⟩ -- ret 0
theorem zkeys_g : GCall Try.prog 25 [.bx 1001 0 0] ZH (some (ZH, .d (.sl 1 []))) := by
  refine GCall_enterL (fun _ _ => by kernel_rfl) Try.func25 rfl Try.ntmps25 (ReadsS.r1 Try.results25) (Nat.le_of_ble_eq_true rfl) (fun hok hokB M0 w0 hl => ?_)
  refine Aw_seq ?_
  refine Aw_region ?_
  refine Al_pu (Pu_move (.inr rfl) (by conv => lhs; whnf)) rfl rfl (by decide) (by kernel_rfl) ?_
  refine Al_nil ?_
  refine Aw_seq ?_
  refine Aw_seq ?_
  refine Aw_region ?_
  refine Al_pu (Pu_move (.inl rfl) (by conv => lhs; whnf)) rfl rfl (by decide) (by kernel_rfl) ?_
  refine Al_pu (Pu_eqnilb Try.underlying25 rfl rfl) rfl rfl (by decide) (by kernel_rfl) ?_
  refine Al_nil ?_
  refine Aw_condF rfl (rfl) ?_
  refine Aw_skip ?_
  refine Aw_seq ?_
  refine Aw_region ?_
  refine Al_pu (Pu_move (.inl rfl) (by conv => lhs; whnf)) rfl rfl (by decide) (by kernel_rfl) ?_
  refine Al_pu (Pu_nilb rfl rfl) rfl rfl (by decide) (by kernel_rfl) ?_
  refine Al_pu (Pu_fieldb 1 rfl Try.underlying66 rfl rfl Try.sizeOf64 rfl) rfl rfl (by decide) (by kernel_rfl) ?_
  refine Al_pu (Pu_loadb rfl Try.isAgg64 rfl rfl rfl) rfl rfl (by decide) (by kernel_rfl) ?_
  refine Al_gcall [] [(1001, 9)] (keysN_g) rfl rfl rfl (by decide) (by kernel_rfl) trivial rfl ⟨Sub.rfl, trivial⟩ (fun g9 => ?_)
  refine Al_gcall [(1001, 9, g9)] [] (sortedN_g) rfl rfl rfl (by decide) (by kernel_rfl) ⟨rfl, trivial⟩ rfl ⟨Sub.rfl, trivial⟩ (fun g10 => ?_)
  refine Al_pu (Pu_move (.inr rfl) (by conv => lhs; whnf)) rfl rfl (by decide) (by kernel_rfl) ?_
  refine Al_nil ?_
  refine Aw_ret ?_
  exact ⟨_, _, [], rfl, Sub.rfl, ⟨rfl, trivial⟩, rfl⟩ -- ret 0
theorem zput_g (v : Ver) : GCall Try.prog 12 [.bx 1001 0 0, .d (.row v.row)] ZH (some (ZH, .d (bv false))) := by
  refine GCall_enterL (fun _ _ => by kernel_rfl) Try.func12 rfl Try.ntmps12 (ReadsS.r1 Try.results12) (Nat.le_of_ble_eq_true rfl) (fun hok hokB M0 w0 hl => ?_)
  have hfi := find_a [] v.key (Nat.zero_le _)
  refine Aw_seq ?_
  refine Aw_region ?_
  refine Al_boxN rfl rfl rfl (by decide) (by kernel_rfl) rfl (fun g3 => ?_)
  refine Al_pu (Pu_move (.inr rfl) (by conv => lhs; whnf)) rfl rfl (by decide) (by kernel_rfl) ?_
  refine Al_nil ?_
  refine Aw_seq ?_
  refine Aw_seq ?_
  refine Aw_draw 12 (by kernel_rfl) (by kernel_rfl) ?_
  refine Dr_pu (Pu_move (.inl rfl) (by conv => lhs; whnf)) rfl rfl ?_
  refine Dr_pu (Pu_eqnilb Try.underlying25 rfl rfl) rfl rfl ?_
  refine Dr_pu (Pu_move (.inl rfl) (by conv => lhs; whnf)) rfl rfl ?_
  refine Dr_st (St_gd [] rfl rfl rfl rfl trivial (fun hg10 => by exact Pu_move (.inl rfl) (by conv => lhs; whnf))) rfl ?_
  refine Dr_st (St_gd [10] rfl rfl rfl rfl ⟨⟨_, rfl⟩, trivial⟩ (fun hg11 => Pu_nilb rfl rfl)) rfl ?_
  refine Dr_st (St_gd [11] rfl rfl rfl rfl ⟨⟨_, rfl⟩, trivial⟩ (fun hg12 => Pu_fieldb 0 rfl Try.underlying66 rfl rfl Try.sizeOf27 rfl)) rfl ?_
  refine Dr_st (St_gd [12] rfl rfl rfl rfl ⟨⟨_, rfl⟩, trivial⟩ (fun hg13 => Pu_loadb rfl Try.isAgg27 rfl rfl rfl)) rfl ?_
  refine Dr_st (St_gd [] rfl rfl rfl rfl trivial (fun hg14 => Pu_fieldb 0 rfl Try.underlying34 rfl rfl Try.sizeOf9 rfl)) rfl ?_
  refine Dr_st (St_gd [14] rfl rfl rfl rfl ⟨⟨_, rfl⟩, trivial⟩ (fun hg15 => Pu_loadb rfl Try.isAgg9 rfl rfl rfl)) rfl ?_
  refine Dr_st (St_gd [13, 15] rfl rfl rfl rfl ⟨⟨_, rfl⟩, ⟨_, rfl⟩, trivial⟩ (fun hg16 => Pu_call (hfi) rfl ⟨Sub.nil, Sub.rfl, trivial⟩)) rfl ?_
  refine Dr_st (St_gd [16] rfl rfl rfl rfl ⟨⟨_, rfl⟩, trivial⟩ (fun hg17 => Pu_cmp rfl rfl rfl rfl)) rfl ?_
  refine Dr_pu (Pu_or rfl rfl rfl rfl) rfl rfl ?_
  refine Dr_nil ?_
  refine Al_nil ?_
  refine Aw_cond rfl (fun h18 => ?_) (fun h18 => ?_)
  · skip
    refine Aw_seq ?_
    refine Aw_region ?_
    refine Al_pu (Pu_move (.inr rfl) (by conv => lhs; whnf)) rfl rfl (by decide) (by kernel_rfl) ?_
    refine Al_nil ?_
    refine Aw_ret ?_
    exact ⟨_, _, [], rfl, Sub.rfl, ⟨rfl, trivial⟩, rfl⟩ -- ret 0
  · skip
    exfalso
    have hf : findR [] v.key = -1 := rfl
    rw [hf] at h18
    exact absurd h18 (by decide)
theorem zclean_g (n s : Int) : GCall Try.prog 24 [.bx 1001 0 0, .d (.row [iv n, iv s]), .d (.sl 3 [])] ZH (some (ZH, .d (.tup []))) := by
  refine GCall_enterL (fun _ _ => by kernel_rfl) Try.func24 rfl Try.ntmps24 (ReadsS.r0 Try.results24) (Nat.le_of_ble_eq_true rfl) (fun hok hokB M0 w0 hl => ?_)
  refine Aw_seq ?_
  refine Aw_region ?_
  refine Al_pu (Pu_boxN rfl rfl) rfl rfl (by decide) (by kernel_rfl) ?_
  refine Al_nil ?_
  refine Aw_seq ?_
  refine Aw_region ?_
  refine Al_pu (Pu_move (.inl rfl) (by conv => lhs; whnf)) rfl rfl (by decide) (by kernel_rfl) ?_
  refine Al_gcall [(1001, 1001, 0)] [] (zkeys_g) rfl rfl rfl (by decide) (by kernel_rfl) ⟨rfl, trivial⟩ rfl ⟨Sub.rfl, trivial⟩ (fun g13 => ?_)
  refine Al_pu (Pu_len rfl Try.underlying59 rfl (by first | exact List.length_map .. | exact rfl)) rfl rfl (by decide) (by kernel_rfl) ?_
  refine Al_pu (Pu_move (.inl rfl) (by conv => lhs; whnf)) rfl rfl (by decide) (by kernel_rfl) ?_
  refine Al_nil ?_
  refine Aw_block ?_
  refine Aw_loopk (ι := Unit) [0, 2, 4, 13, 14] [1001] (fun _ => [(15, .d (iv 0))]) (fun _ => []) (fun _ => True) (fun _ => 0) (()) (trivial) ⟨Sub.rfl, trivial⟩ trivial ?_
  rintro _ hok0
  refine Aw_seq ?_
  refine Aw_region ?_
  refine Al_pu (Pu_cmp rfl rfl rfl rfl) rfl rfl (by decide) (by kernel_rfl) ?_
  refine Al_nil ?_
  refine Aw_seq ?_
  refine Aw_condF rfl (rfl) ?_
  refine Aw_exit ?_
  exact ⟨_, _, [], rfl, rfl, ⟨rfl, trivial⟩, rfl⟩ -- ret 0
theorem shardnil_law (key : ByteArray) : ACall Try.prog 8 [tv key] (bv true) := by
  refine ACall_enter (fun _ _ => by kernel_rfl) Try.func8 rfl Try.ntmps8 Try.results8 (Nat.le_of_ble_eq_true rfl) (fun hok M0 w0 hnl => ?_)
  obtain ⟨va, hva⟩ : ∃ va : Ver, va = ⟨⟨#[97]⟩, ⟨#[]⟩, false, 1, 0, []⟩ := ⟨_, rfl⟩
  have hv0 := hver_a ⟨#[97]⟩ 1 0
  rw [← hva] at hv0
  refine Aw_seq ?_
  refine Aw_region ?_
  refine Al_pu (Pu_move (.inr rfl) (by conv => lhs; whnf)) rfl rfl (by decide) (by kernel_rfl) ?_
  refine Al_nil ?_
  refine Aw_seq ?_
  refine Aw_region ?_
  refine Al_pu (Pu_move (.inr rfl) (by conv => lhs; whnf)) rfl rfl (by decide) (by kernel_rfl) ?_
  refine Al_nil ?_
  refine Aw_seq ?_
  refine Aw_region ?_
  refine Al_pu (Pu_build (aa := []) rfl Try.underlying66 Try.zeroValue66 (places66 Try.underlying66) (by kernel_rfl) trivial rfl) rfl rfl (by decide) (by kernel_rfl) ?_
  refine Al_boxN rfl rfl rfl (by decide) (by kernel_rfl) rfl (fun g12 => ?_)
  refine Al_pu (Pu_move (.inr rfl) (by conv => lhs; whnf)) rfl rfl (by decide) (by kernel_rfl) ?_
  refine Al_nil ?_
  refine Aw_seq ?_
  refine Aw_region ?_
  refine Al_pu (Pu_move (.inl rfl) (by conv => lhs; whnf)) rfl rfl (by decide) (by kernel_rfl) ?_
  refine Al_pu (Pu_build (aa := []) rfl Try.underlying31 Try.zeroValue31 (places31 Try.underlying31) (by kernel_rfl) trivial rfl) rfl rfl (by decide) (by kernel_rfl) ?_
  refine Al_pu (Pu_call (nclean_a 0 0) rfl ⟨Sub.rfl, Sub.rfl, Sub.nil, trivial⟩) rfl rfl (by decide) (by kernel_rfl) ?_
  refine Al_nil ?_
  refine Aw_seq ?_
  refine Aw_region ?_
  refine Al_pu (Pu_move (.inl rfl) (by conv => lhs; whnf)) rfl rfl (by decide) (by kernel_rfl) ?_
  refine Al_pu (Pu_call (nmove_a) rfl ⟨Sub.rfl, Sub.nil, trivial⟩) rfl rfl (by decide) (by kernel_rfl) ?_
  refine Al_nil ?_
  refine Aw_seq ?_
  refine Aw_region ?_
  refine Al_pu (Pu_move (.inl rfl) (by conv => lhs; whnf)) rfl rfl (by decide) (by kernel_rfl) ?_
  refine Al_pu (Pu_build (aa := []) rfl Try.underlying31 Try.zeroValue31 (places31 Try.underlying31) (by kernel_rfl) trivial rfl) rfl rfl (by decide) (by kernel_rfl) ?_
  refine Al_gcall [(1001, 12, g12)] [] (zclean_g 0 0) rfl rfl rfl (by decide) (by kernel_rfl) ⟨rfl, trivial⟩ rfl ⟨Sub.rfl, Sub.rfl, Sub.nil, trivial⟩ (fun g20 => ?_)
  refine Al_nil ?_
  refine Aw_seq ?_
  refine Aw_region ?_
  refine Al_pu (Pu_move (.inl rfl) (by conv => lhs; whnf)) rfl rfl (by decide) (by kernel_rfl) ?_
  refine Al_pu (Pu_move (.inl rfl) (by conv => lhs; whnf)) rfl rfl (by decide) (by kernel_rfl) ?_
  refine Al_pu (Pu_call (nhead_a key) rfl ⟨Sub.rfl, Sub.rfl, trivial⟩) rfl rfl (by decide) (by kernel_rfl) ?_
  refine Al_pu (Pu_move (.inl rfl) (by conv => lhs; whnf)) rfl rfl (by decide) (by kernel_rfl) ?_
  refine Al_pu (Pu_extract rfl rfl rfl) rfl rfl (by decide) (by kernel_rfl) ?_
  refine Al_pu (Pu_extract rfl rfl rfl) rfl rfl (by decide) (by kernel_rfl) ?_
  refine Al_alloc rfl rfl rfl (by decide) Try.zeroValue34 rfl (by kernel_rfl) (fun g5 => ?_)
  refine Al_storeN rfl rfl rfl (by kernel_rfl) Try.isAgg34 Try.sizeOf34 rfl rfl rfl rfl (Nat.le_of_ble_eq_true rfl) ?_
  refine Al_pu (Pu_move (.inr rfl) (by conv => lhs; whnf)) rfl rfl (by decide) (by kernel_rfl) ?_
  refine Al_nil ?_
  refine Aw_seq ?_
  refine Aw_region ?_
  refine Al_pu (Pu_move (.inl rfl) (by conv => lhs; whnf)) rfl rfl (by decide) (by kernel_rfl) ?_
  refine Al_pu (Pu_move (.inl rfl) (by conv => lhs; whnf)) rfl rfl (by decide) (by kernel_rfl) ?_
  refine Al_gcall [(1001, 12, g12)] [] (zhead_g key) rfl rfl rfl (by decide) (by kernel_rfl) ⟨rfl, trivial⟩ rfl ⟨Sub.rfl, Sub.rfl, trivial⟩ (fun g30 => ?_)
  refine Al_pu (Pu_move (.inl rfl) (by conv => lhs; whnf)) rfl rfl (by decide) (by kernel_rfl) ?_
  refine Al_pu (Pu_extract rfl rfl rfl) rfl rfl (by decide) (by kernel_rfl) ?_
  refine Al_pu (Pu_extract rfl rfl rfl) rfl rfl (by decide) (by kernel_rfl) ?_
  refine Al_alloc rfl rfl rfl (by decide) Try.zeroValue34 rfl (by kernel_rfl) (fun g7 => ?_)
  refine Al_storeN rfl rfl rfl (by kernel_rfl) Try.isAgg34 Try.sizeOf34 rfl rfl rfl rfl (Nat.le_of_ble_eq_true rfl) ?_
  refine Al_pu (Pu_move (.inr rfl) (by conv => lhs; whnf)) rfl rfl (by decide) (by kernel_rfl) ?_
  refine Al_nil ?_
  refine Aw_seq ?_
  refine Aw_region ?_
  refine Al_pu (Pu_move (.inl rfl) (by conv => lhs; whnf)) rfl rfl (by decide) (by kernel_rfl) ?_
  refine Al_pu (Pu_move (.inl rfl) (by conv => lhs; whnf)) rfl rfl (by decide) (by kernel_rfl) ?_
  refine Al_pu (Pu_build (aa := []) rfl Try.underlying31 Try.zeroValue31 (places31 Try.underlying31) (by kernel_rfl) trivial rfl) rfl rfl (by decide) (by kernel_rfl) ?_
  refine Al_pu (Pu_call (nat_a key 0 0) rfl ⟨Sub.rfl, Sub.rfl, Sub.rfl, trivial⟩) rfl rfl (by decide) (by kernel_rfl) ?_
  refine Al_pu (Pu_move (.inl rfl) (by conv => lhs; whnf)) rfl rfl (by decide) (by kernel_rfl) ?_
  refine Al_pu (Pu_extract rfl rfl rfl) rfl rfl (by decide) (by kernel_rfl) ?_
  refine Al_pu (Pu_extract rfl rfl rfl) rfl rfl (by decide) (by kernel_rfl) ?_
  refine Al_alloc rfl rfl rfl (by decide) Try.zeroValue34 rfl (by kernel_rfl) (fun g9 => ?_)
  refine Al_storeN rfl rfl rfl (by kernel_rfl) Try.isAgg34 Try.sizeOf34 rfl rfl rfl rfl (Nat.le_of_ble_eq_true rfl) ?_
  refine Al_pu (Pu_move (.inr rfl) (by conv => lhs; whnf)) rfl rfl (by decide) (by kernel_rfl) ?_
  refine Al_nil ?_
  refine Aw_seq ?_
  refine Aw_region ?_
  refine Al_pu (Pu_call (hawake_a) rfl trivial) rfl rfl (by decide) (by kernel_rfl) ?_
  refine Al_pu (Pu_move (.inl rfl) (by conv => lhs; whnf)) rfl rfl (by decide) (by kernel_rfl) ?_
  refine Al_gdT rfl rfl rfl rfl (rfl) (by decide) ?_
  refine Al_pu (Pu_move (.inl rfl) (by conv => lhs; whnf)) rfl rfl (by decide) (by kernel_rfl) ?_
  refine Al_gdT rfl rfl rfl rfl (rfl) (by decide) ?_
  refine Al_pu (Pu_not rfl rfl) rfl rfl (by decide) (by kernel_rfl) ?_
  refine Al_pu (Pu_and2 rfl rfl rfl rfl) rfl rfl (by decide) (by kernel_rfl) ?_
  refine Al_pu (Pu_move (.inl rfl) (by conv => lhs; whnf)) rfl rfl (by decide) (by kernel_rfl) ?_
  refine Al_gdT rfl rfl rfl rfl (rfl) (by decide) ?_
  refine Al_pu (Pu_move (.inl rfl) (by conv => lhs; whnf)) rfl rfl (by decide) (by kernel_rfl) ?_
  refine Al_gdT rfl rfl rfl rfl (rfl) (by decide) ?_
  refine Al_pu (Pu_not rfl rfl) rfl rfl (by decide) (by kernel_rfl) ?_
  refine Al_pu (Pu_and2 rfl rfl rfl rfl) rfl rfl (by decide) (by kernel_rfl) ?_
  refine Al_pu (Pu_move (.inl rfl) (by conv => lhs; whnf)) rfl rfl (by decide) (by kernel_rfl) ?_
  refine Al_gdT rfl rfl rfl rfl (rfl) (by decide) ?_
  refine Al_pu (Pu_move (.inl rfl) (by conv => lhs; whnf)) rfl rfl (by decide) (by kernel_rfl) ?_
  refine Al_gdT rfl rfl rfl rfl (rfl) (by decide) ?_
  refine Al_pu (Pu_not rfl rfl) rfl rfl (by decide) (by kernel_rfl) ?_
  refine Al_pu (Pu_and2 rfl rfl rfl rfl) rfl rfl (by decide) (by kernel_rfl) ?_
  refine Al_pu (Pu_move (.inl rfl) (by conv => lhs; whnf)) rfl rfl (by decide) (by kernel_rfl) ?_
  refine Al_gdT rfl rfl rfl rfl (rfl) (by decide) ?_
  refine Al_pu (Pu_move (.inl rfl) (by conv => lhs; whnf)) rfl rfl (by decide) (by kernel_rfl) ?_
  refine Al_gdT rfl rfl rfl rfl (rfl) (by decide) ?_
  refine Al_pu (Pu_call (hv0) rfl ⟨Sub.rfl, Sub.rfl, Sub.rfl, trivial⟩) rfl rfl (by decide) (by kernel_rfl) ?_
  refine Al_gdT rfl rfl rfl rfl (rfl) (by decide) ?_
  refine Al_pu (Pu_call (nput_a va) rfl ⟨Sub.rfl, Sub.rfl, trivial⟩) rfl rfl (by decide) (by kernel_rfl) ?_
  refine Al_gdT rfl rfl rfl rfl (rfl) (by decide) ?_
  refine Al_pu (Pu_not rfl rfl) rfl rfl (by decide) (by kernel_rfl) ?_
  refine Al_pu (Pu_and2 rfl rfl rfl rfl) rfl rfl (by decide) (by kernel_rfl) ?_
  refine Al_pu (Pu_move (.inl rfl) (by conv => lhs; whnf)) rfl rfl (by decide) (by kernel_rfl) ?_
  refine Al_gdT rfl rfl rfl rfl (rfl) (by decide) ?_
  refine Al_pu (Pu_move (.inl rfl) (by conv => lhs; whnf)) rfl rfl (by decide) (by kernel_rfl) ?_
  refine Al_gdT rfl rfl rfl rfl (rfl) (by decide) ?_
  refine Al_pu (Pu_call (hv0) rfl ⟨Sub.rfl, Sub.rfl, Sub.rfl, trivial⟩) rfl rfl (by decide) (by kernel_rfl) ?_
  refine Al_gdT rfl rfl rfl rfl (rfl) (by decide) ?_
  refine Al_gcall [(1001, 12, g12)] [] (zput_g va) rfl rfl rfl (by decide) (by kernel_rfl) ⟨rfl, trivial⟩ rfl ⟨Sub.rfl, Sub.rfl, trivial⟩ (fun g62 => ?_)
  refine Al_gdT rfl rfl rfl rfl (rfl) (by decide) ?_
  refine Al_pu (Pu_not rfl rfl) rfl rfl (by decide) (by kernel_rfl) ?_
  refine Al_pu (Pu_and2 rfl rfl rfl rfl) rfl rfl (by decide) (by kernel_rfl) ?_
  refine Al_pu (Pu_move (.inl rfl) (by conv => lhs; whnf)) rfl rfl (by decide) (by kernel_rfl) ?_
  refine Al_gdT rfl rfl rfl rfl (rfl) (by decide) ?_
  refine Al_pu (Pu_move (.inl rfl) (by conv => lhs; whnf)) rfl rfl (by decide) (by kernel_rfl) ?_
  refine Al_gdT rfl rfl rfl rfl (rfl) (by decide) ?_
  refine Al_pu (Pu_call (nkeys_a) rfl ⟨Sub.rfl, trivial⟩) rfl rfl (by decide) (by kernel_rfl) ?_
  refine Al_gdT rfl rfl rfl rfl (rfl) (by decide) ?_
  refine Al_pu (Pu_len rfl Try.underlying59 rfl (by first | exact List.length_map .. | exact rfl)) rfl rfl (by decide) (by kernel_rfl) ?_
  refine Al_gdT rfl rfl rfl rfl (rfl) (by decide) ?_
  refine Al_pu (Pu_move (.inl rfl) (by conv => lhs; whnf)) rfl rfl (by decide) (by kernel_rfl) ?_
  refine Al_gdT rfl rfl rfl rfl (rfl) (by decide) ?_
  refine Al_gcall [(1001, 12, g12)] [] (zkeys_g) rfl rfl rfl (by decide) (by kernel_rfl) ⟨rfl, trivial⟩ rfl ⟨Sub.rfl, trivial⟩ (fun g70 => ?_)
  refine Al_gdT rfl rfl rfl rfl (rfl) (by decide) ?_
  refine Al_pu (Pu_len rfl Try.underlying59 rfl (by first | exact List.length_map .. | exact rfl)) rfl rfl (by decide) (by kernel_rfl) ?_
  refine Al_gdT rfl rfl rfl rfl (rfl) (by decide) ?_
  refine Al_pu (Pu_add rfl rfl rfl (fun _ _ => by simp [A.inI, A.maxI])) rfl rfl (by decide) (by kernel_rfl) ?_
  refine Al_gdT rfl rfl rfl rfl (rfl) (by decide) ?_
  refine Al_pu (Pu_move (.inl rfl) (by conv => lhs; whnf)) rfl rfl (by decide) (by kernel_rfl) ?_
  refine Al_gdT rfl rfl rfl rfl (rfl) (by decide) ?_
  refine Al_pu (Pu_call (nhave_a) rfl ⟨Sub.rfl, trivial⟩) rfl rfl (by decide) (by kernel_rfl) ?_
  refine Al_gdT rfl rfl rfl rfl (rfl) (by decide) ?_
  refine Al_pu (Pu_len rfl Try.underlying32 rfl (by first | exact List.length_map .. | exact rfl)) rfl rfl (by decide) (by kernel_rfl) ?_
  refine Al_gdT rfl rfl rfl rfl (rfl) (by decide) ?_
  refine Al_pu (Pu_add rfl rfl rfl (fun _ _ => by simp [A.inI, A.maxI])) rfl rfl (by decide) (by kernel_rfl) ?_
  refine Al_gdT rfl rfl rfl rfl (rfl) (by decide) ?_
  refine Al_pu (Pu_move (.inl rfl) (by conv => lhs; whnf)) rfl rfl (by decide) (by kernel_rfl) ?_
  refine Al_gdT rfl rfl rfl rfl (rfl) (by decide) ?_
  refine Al_pu (Pu_move (.inl rfl) (by conv => lhs; whnf)) rfl rfl (by decide) (by kernel_rfl) ?_
  refine Al_gdT rfl rfl rfl rfl (rfl) (by decide) ?_
  refine Al_pu (Pu_call (nchain_a key) rfl ⟨Sub.rfl, Sub.rfl, trivial⟩) rfl rfl (by decide) (by kernel_rfl) ?_
  refine Al_gdT rfl rfl rfl rfl (rfl) (by decide) ?_
  refine Al_pu (Pu_len rfl Try.underlying41 rfl (by first | exact List.length_map .. | exact rfl)) rfl rfl (by decide) (by kernel_rfl) ?_
  refine Al_gdT rfl rfl rfl rfl (rfl) (by decide) ?_
  refine Al_pu (Pu_add rfl rfl rfl (fun _ _ => by simp [A.inI, A.maxI])) rfl rfl (by decide) (by kernel_rfl) ?_
  refine Al_gdT rfl rfl rfl rfl (rfl) (by decide) ?_
  refine Al_pu (Pu_move (.inl rfl) (by conv => lhs; whnf)) rfl rfl (by decide) (by kernel_rfl) ?_
  refine Al_gdT rfl rfl rfl rfl (rfl) (by decide) ?_
  refine Al_pu (Pu_call (nranges_a) rfl ⟨Sub.rfl, trivial⟩) rfl rfl (by decide) (by kernel_rfl) ?_
  refine Al_gdT rfl rfl rfl rfl (rfl) (by decide) ?_
  refine Al_pu (Pu_len rfl Try.underlying27 rfl (by first | exact List.length_map .. | exact rfl)) rfl rfl (by decide) (by kernel_rfl) ?_
  refine Al_gdT rfl rfl rfl rfl (rfl) (by decide) ?_
  refine Al_pu (Pu_add rfl rfl rfl (fun _ _ => by simp [A.inI, A.maxI])) rfl rfl (by decide) (by kernel_rfl) ?_
  refine Al_gdT rfl rfl rfl rfl (rfl) (by decide) ?_
  refine Al_pu (Pu_move (.inl rfl) (by conv => lhs; whnf)) rfl rfl (by decide) (by kernel_rfl) ?_
  refine Al_gdT rfl rfl rfl rfl (rfl) (by decide) ?_
  refine Al_gcall [(1001, 12, g12)] [] (zranges_g) rfl rfl rfl (by decide) (by kernel_rfl) ⟨rfl, trivial⟩ rfl ⟨Sub.rfl, trivial⟩ (fun g87 => ?_)
  refine Al_gdT rfl rfl rfl rfl (rfl) (by decide) ?_
  refine Al_pu (Pu_len rfl Try.underlying27 rfl (by first | exact List.length_map .. | exact rfl)) rfl rfl (by decide) (by kernel_rfl) ?_
  refine Al_gdT rfl rfl rfl rfl (rfl) (by decide) ?_
  refine Al_pu (Pu_add rfl rfl rfl (fun _ _ => by simp [A.inI, A.maxI])) rfl rfl (by decide) (by kernel_rfl) ?_
  refine Al_gdT rfl rfl rfl rfl (rfl) (by decide) ?_
  refine Al_pu (Pu_cmp rfl rfl rfl rfl) rfl rfl (by decide) (by kernel_rfl) ?_
  refine Al_pu (Pu_and2 rfl rfl rfl rfl) rfl rfl (by decide) (by kernel_rfl) ?_
  refine Al_pu (Pu_move (.inr rfl) (by conv => lhs; whnf)) rfl rfl (by decide) (by kernel_rfl) ?_
  refine Al_nil ?_
  refine Aw_ret ?_
  exact Sub.rfl -- ret 0
end Go.Proofs.Ytkmjiaegbooplaa
