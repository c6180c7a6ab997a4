/- What the proofs need in common, laid together (6 of 6): no condition. -/
import Derived.Test.YtdnijgdmohinlaaGreatG5
set_option linter.unusedSimpArgs false
set_option linter.unusedVariables false
set_option linter.constructorNameAsVariable false
section
set_option maxRecDepth 100000
namespace Go.Proofs.YtdnijgdmohinlaaGreat
open Go Go.RowKit A R
open A.RowT
abbrev GF (fr:FR) (g:PG) (t:GT):Obs:=(1008,.box 32 [.bx 1001 0 0])::GE fr g t
theorem PG.opn_ask (g:PG) {np:List Value}(hl:np.length=g.Y.length) (a b:Int):N.ask g.n (N.vX np g.Y) a b 0 (·.op.length)=g.opn a b:=by
 rw[N.vAsk hl]
 unfold PG.opn PG.ses
 cases N.vAt g.n g.Y a b with
 | none=>rfl
 | some s=>exact s.ses_inj_len.1
theorem gfull1_g (fr:FR) (g:PG) (t:GT) (a s:Int) (hf:fr.Ok g) (hY:∀s∈g.Y,s.Fit 1000):GCall Tryz.prog 225 [.d (iv s),.bx 1008 0 0,.d (.fp [iv a])] (GF fr g t) (some (GF fr g t,.d (bv (decide (8≤g.opn a s))))):=by
 refine GC_L Tryz.func225 Tryz.ntmps225 (ReadsS.r1 Tryz.results225) λhok hokB M0 w0 hl=>?_
 refine Aw_sr ?_
 refine Al_mr ?_
 refine Al_nil (Aw_seq ?_)
 refine Aw_dr 8 ?_
 refine Dr_p (Pu_lb Tryz.isAgg32) ?_
 refine Dr_p Pu_nb ?_
 refine Dr_p (Pu_fb 4 Tryz.underlying91 Tryz.sizeOf83) ?_
 refine Dr_p (Pu_lb Tryz.isAgg83) ?_
 refine Dr_p (Pu_l1 Tryz.isAgg3) ?_
 refine Dr_ml ?_
 refine Dr_p (Pu_gcall [(1001,1002,0),(1002,1003,0),(1003,1004,0)] (ntOpen_g g.n fr.b fr.cnt t.Fn (N.vX fr.np g.Y) a s (N.vX_places hf.np) (N.vX_fit hY)) (NT_in ..) rfl ⟨rfl,rfl,rfl,trivial⟩ rfl ⟨Sub.rfl,Sub.rfl,Sub.rfl,trivial⟩) ?_
 refine Dr_p Pu_cp ?_
 refine Dr_nil ?_
 refine Al_mr ?_
 refine Al_nil ?_
 exact Aw_ret (⟨_,_,[],rfl,Sub.bool (by rw[PG.opn_ask g hf.nl];exact decide_eq_decide.2 (by omega)),⟨rfl,rfl,rfl,rfl,rfl,rfl,rfl,rfl,trivial⟩,rfl⟩)
theorem gfullI_g (fr:FR) (g:PG) (t:GT) (a:Int) (to:List Nat) (hf:fr.Ok g) (hY:∀s∈g.Y,s.Fit 1000) (hlen:to.length≤1000):GCall Tryz.prog 295 [.d (.sl 1 (T.outR to)),.fnb 225 [] [.bx 1008 0 0,.d (.fp [iv a])]] (GF fr g t) (some (GF fr g t,.d (iv (S.find (λs:Nat=>decide (8≤g.opn a s)) to)))):=by
 refine GC_L Tryz.func295 Tryz.ntmps295 (ReadsS.r1 Tryz.results295) λhok hokB M0 w0 hl=>?_
 refine Aw_sr ?_
 refine Al_mr ?_
 refine Al_nil (Aw_seq (Aw_sr ?_))
 refine Al_ml ?_
 refine Al_p (Pu_ln Tryz.underlying22) ?_
 refine Al_ml ?_
 refine Al_nil (Aw_block ?_)
 refine Aw_loopk (ι:=Nat) [0,1,7] [1001,1002,1003,1004,1005,1006,1007,1008] (λk=>[(8,.d (iv k))]) (λk=>[]) (λk=>k≤to.length∧∀j (h:j<to.length),j<k→decide (8≤g.opn a (to[j]:Nat))=false) (λk=>to.length - k) (0) (⟨Nat.zero_le _,by intros;omega⟩) ⟨Sub.rfl,trivial⟩ trivial ?_
 rintro k ⟨hk0,hk2⟩
 refine Aw_sr ?_
 refine Al_p Pu_cp ?_
 refine Al_nil (Aw_seq ?_)
 refine Aw_cond rfl (λh9=>?_) (λh9=>?_)
 ·(try simp only[A.cd_]at h9)
  have hk:k<to.length:=by omega
  have hgd:to.getD k 0=to[k]:=by simp[hk]
  refine Aw_skip (Aw_seq (Aw_block (Aw_sr ?_)))
  refine Al_ml ?_
  refine Al_mr ?_
  refine Al_ns ?_
  refine Al_ml ?_
  refine Al_ml ?_
  refine Al_ml ?_
  refine Al_p (Pu_index rfl Tryz.underlying22 Tryz.sizeOf3 rfl rfl (rfl) (T.out_at hk)) ?_
  refine Al_p (Pu_l1 Tryz.isAgg3) ?_
  refine Al_gcallv [(1008,1008,0),(1001,1001,0),(1002,1002,0),(1003,1003,0),(1004,1004,0),(1005,1005,0),(1006,1006,0),(1007,1007,0)] [] (gfull1_g fr g t a (to.getD k 0:Nat) hf hY) rfl rfl rfl (by decide) (by kernel_rfl) rfl ⟨rfl,rfl,rfl,rfl,rfl,rfl,rfl,rfl,trivial⟩ rfl [.d (iv (to.getD k 0:Nat))] rfl ⟨Sub.rfl,trivial⟩ (λg16=>?_)
  refine Al_nil ?_
  refine Aw_cond rfl (λh16=>?_) (λh16=>?_)
  ·skip
   rw[hgd]at h16
   refine Aw_sr ?_
   refine Al_ml ?_
   refine Al_mr ?_
   refine Al_nil ?_
   exact Aw_ret (⟨_,_,[],rfl,Sub.num (S.find_at (p:=λs:Nat=>decide (8≤g.opn a s)) hk h16 hk2),⟨rfl,rfl,rfl,rfl,rfl,rfl,rfl,rfl,trivial⟩,rfl⟩)
  ·skip
   have h16':decide (8≤g.opn a (to.getD k 0:Nat))=false:=h16
   rw[hgd]at h16'
   refine Aw_skip (Aw_region ?_)
   refine Al_p Pu_ad ?_
   refine Al_ml ?_
   refine Al_nil ?_
   exact⟨k+1,⟨by omega,λj hj hjk=>by
    by_cases e:j=k
    ·subst e;exact h16'
    ·exact hk2 j hj (by omega)⟩,by omega,Le.ov ⟨Sub.num (by omega),trivial⟩ ⟨Sub.rfl,Sub.rfl,Sub.rfl,trivial⟩ trivial ⟨rfl,rfl,rfl,rfl,rfl,rfl,rfl,rfl,trivial⟩⟩
 ·(try simp only[A.cd_]at h9)
  obtain rfl:k=to.length:=by omega
  refine Aw_exit (Aw_sr ?_)
  refine Al_mr ?_
  refine Al_nil ?_
  exact Aw_ret (⟨_,_,[],rfl,Sub.num (S.find_no (p:=λs:Nat=>decide (8≤g.opn a s)) hk2),⟨rfl,rfl,rfl,rfl,rfl,rfl,rfl,rfl,trivial⟩,rfl⟩)
theorem gfullC_g (fr:FR) (g:PG) (t:GT) (a:Int) (to:List Nat) (hf:fr.Ok g) (hY:∀s∈g.Y,s.Fit 1000) (hlen:to.length≤1000):GCall Tryz.prog 224 [.d (.sl 1 (T.outR to)),.fnb 225 [] [.bx 1008 0 0,.d (.fp [iv a])]] (GF fr g t) (some (GF fr g t,.d (bv (g.full a to)))):=by
 refine GC_L Tryz.func224 Tryz.ntmps224 (ReadsS.r1 Tryz.results224) λhok hokB M0 w0 hl=>?_
 refine Aw_sr ?_
 refine Al_mr ?_
 refine Al_ns ?_
 refine Al_ml ?_
 refine Al_ml ?_
 refine Al_gcall [(1008,1008,0),(1001,1001,0),(1002,1002,0),(1003,1003,0),(1004,1004,0),(1005,1005,0),(1006,1006,0),(1007,1007,0)] [] (gfullI_g fr g t a to hf hY hlen) rfl rfl rfl (by decide) (by kernel_rfl) ⟨rfl,rfl,rfl,rfl,rfl,rfl,rfl,rfl,trivial⟩ rfl ⟨Sub.rfl,Sub.rfl,trivial⟩ (λg7=>?_)
 refine Al_p Pu_cp ?_
 refine Al_mr ?_
 refine Al_nil ?_
 exact Aw_ret (⟨_,_,[],rfl,Sub.bool S.find_any,⟨rfl,rfl,rfl,rfl,rfl,rfl,rfl,rfl,trivial⟩,rfl⟩)
theorem gfull_g (fr:FR) (g:PG) (t:GT) (a:Int) (to:List Nat) (hf:fr.Ok g) (hY:∀s∈g.Y,s.Fit 1000) (hlen:to.length≤1000):GCall Tryz.prog 148 [.bx 1001 0 0,.d (iv a),.d (.sl 1 (T.outR to))] (GE fr g t) (some (GE fr g t,.d (bv (g.full a to)))):=by
 refine GC_L Tryz.func148 Tryz.ntmps148 (ReadsS.r1 Tryz.results148) λhok hokB M0 w0 hl=>?_
 refine Aw_sr ?_
 refine Al_box1 rfl rfl rfl (by decide) (by kernel_rfl) (by conv=>lhs;whnf) rfl (λg3=>?_)
 refine Al_p (Pu_box1 rfl rfl (by nofun) (by nofun)) ?_
 refine Al_mr ?_
 refine Al_ns ?_
 refine Al_ml ?_
 refine Al_p (Pu_makeFuncS (ys:=[]) (xs:=[_,_]) [] [.bx 3 g3 0,.d (.fp [iv a])] rfl trivial ⟨Sub.rfl,Sub.rfl,trivial⟩) ?_
 refine Al_gcall [(1008,3,g3),(1001,1001,0),(1002,1002,0),(1003,1003,0),(1004,1004,0),(1005,1005,0),(1006,1006,0),(1007,1007,0)] [] (gfullC_g fr g t a to hf hY hlen) rfl rfl rfl (by decide) (by kernel_rfl) ⟨rfl,rfl,rfl,rfl,rfl,rfl,rfl,rfl,trivial⟩ rfl ⟨Sub.rfl,Sub.rfl,trivial⟩ (λg9=>?_)
 refine Al_mr ?_
 refine Al_nil ?_
 exact Aw_ret (⟨_,_,[],rfl,Sub.rfl,⟨rfl,rfl,rfl,rfl,rfl,rfl,rfl,trivial⟩,rfl⟩)
end Go.Proofs.YtdnijgdmohinlaaGreat
end
section
set_option maxRecDepth 100000
namespace Go.Proofs.YtdnijgdmohinlaaGreat
open Go Go.RowKit A R
open A.RowT
abbrev SX (F:Nat→Prop) (sp:List Value) (S:List PS):Obs:=[(1001,.op (starP ST F (siteX sp S)))]
theorem SX_in (F:Nat→Prop) (sp:List Value) (S:List PS):ObsIn [1001] (SX F sp S):=⟨λ_ _ _ _ _ h=>h,trivial⟩
section
variable {F:Nat→Prop}{sp:List Value}{S:List PS}{i:Nat}(h:sp.length=S.length) (hi:i<S.length)
include h hi
theorem gsR {f:FuncId}{rest:List AV}{res:AV}(hf:∀(vs:Array Value) (w:World),(callFunc f vs).run Tryz.prog w=.ok (.enter f vs) w) (hc:∀b,GCall Tryz.prog f (.bx 1001 0 0::rest.map .d) (ST (S.getD i default) b) (some (ST (S.getD i default) b,.d res))):GCall Tryz.prog f (.d (.v (sp.getD i default))::rest.map .d) (SX F sp S) (some (SX F sp S,.d res)) :=
 focusR hf hc (siteX_get h hi) (λb=>⟨⟨_,_,List.mem_cons_self ..⟩,ST_in _ _⟩)
theorem gsW {f:FuncId}{rest:List AV}{res:AV}{p':PS}(hf:∀(vs:Array Value) (w:World),(callFunc f vs).run Tryz.prog w=.ok (.enter f vs) w) (hc:∀b,GCall Tryz.prog f (.bx 1001 0 0::rest.map .d) (ST (S.getD i default) b) (some (ST p' b,.d res))):GCallE Tryz.prog f (.d (.v (sp.getD i default))::rest.map .d) (SX F sp S) (λF':Nat→Prop=>some (SX F' sp (S.set i p'),.d res)):=by
 have:=focusP (E:=ST) (F:=F) (s':=p') hf (λb=>GCall.e b (hc b)) (siteX_get h hi) (λb=>⟨_,_,List.mem_cons_self ..⟩)
 rw[siteX_set h hi]at this
 exact this
theorem gsWaiting_g:GCall Tryz.prog 76 [.d (.v (sp.getD i default))] (SX F sp S) (some (SX F sp S,.d (iv (S.getD i default).wait.length))):=gsR h hi (rest:=[]) (λ_ _=>by kernel_rfl) λb=>stWaiting_g _ b
variable {m:Nat}(hp:(S.getD i default).Ok m) (hm:m≤1000)
include hp
theorem gsOwn_g:GCall Tryz.prog 147 [.d (.v (sp.getD i default))] (SX F sp S) (some (SX F sp S,.d (rngA (S.getD i default).rs))):=gsR h hi (rest:=[]) (λ_ _=>by kernel_rfl) λb=>stOwn_g _ b hp.rl
include hm
theorem gsChain_g (key:ByteArray):GCall Tryz.prog 43 [.d (.v (sp.getD i default)),.d (tv key)] (SX F sp S) (some (SX F sp S,.d (versA (J.getC (S.getD i default).cs key)))):=gsR h hi (rest:=[tv key]) (λ_ _=>by kernel_rfl) λb=>stChain_g _ b key hp hm
theorem gsRead_g (key:ByteArray):GCall Tryz.prog 154 [.d (.v (sp.getD i default)),.d (tv key)] (SX F sp S) (some (SX F sp S,.d (.tup [.row (((S.getD i default).readV key).getD default).row,bv ((S.getD i default).readV key).isSome,iv ((S.getD i default).readE key)]))):=gsR h hi (rest:=[tv key]) (λ_ _=>by kernel_rfl) λb=>stRead_g _ b key hp hm
theorem gsArrive_g (v:Ver):GCallE Tryz.prog 170 [.d (.v (sp.getD i default)),.d (.row v.row)] (SX F sp S) (λF':Nat→Prop=>some (SX F' sp (S.set i ((S.getD i default).arrive v)),.d (iv ((S.getD i default).arriveE v)))):=gsW h hi (rest:=[.row v.row]) (λ_ _=>by kernel_rfl) λb=>stArrive_g _ b v hp hm
theorem gsStep_g:GCallE Tryz.prog 172 [.d (.v (sp.getD i default))] (SX F sp S) (λF':Nat→Prop=>some (SX F' sp (S.set i (S.getD i default).step),.d (.tup [.row ((S.getD i default).stepV.getD default).row,bv (S.getD i default).stepV.isSome]))):=gsW h hi (rest:=[]) (λ_ _=>by kernel_rfl) λb=>stStep_g _ b hp hm
theorem gsWrite_g (key value:ByteArray) (gone:Bool) (past:List Dep) (hpl:past.length≤1000000):GCallE Tryz.prog 149 [.d (.v (sp.getD i default)),.d (tv key),.d (tv value),.d (bv gone),.d (pastA past)] (SX F sp S) (λF':Nat→Prop=>some (SX F' sp (S.set i ((S.getD i default).write key value gone past)),.d (.tup [.row ((S.getD i default).writeV key value gone past).row,iv ((S.getD i default).writeE key value gone past)]))):=gsW h hi (rest:=[tv key,tv value,bv gone,pastA past]) (λ_ _=>by kernel_rfl) λb=>stWrite_g _ b key value gone past hpl hp hm
end
end Go.Proofs.YtdnijgdmohinlaaGreat
end
section
set_option maxRecDepth 100000
namespace Go.Proofs.YtdnijgdmohinlaaGreat
open Go Go.RowKit A R
open A.RowT
structure PG.At (g:PG) (o:SOp):Prop where
 lo:0≤o.client
 hi:o.client<4
 at_:0≤(g.cli o.client).1
theorem PG.Ok.cli {g:PG}{m:Nat}(h:g.Ok m) {o:SOp}(ha:g.At o):(g.cli o.client).1=((g.cli o.client).1.toNat:Int)∧(g.cli o.client).1.toNat<g.n∧(g.cli o.client).2.length≤400:=by
 have:=h.cs o.client.toNat
 have h1:=ha.at_
 unfold PG.cli at *
 exact⟨by omega,by omega,this.2.2⟩
theorem PG.setS_self (g:PG) (i:Int):g.setS i (g.site i)=g:=by
 unfold PG.setS PG.site
 have:g.S.set i.toNat (g.S.getD i.toNat default)=g.S:=by
  rcases Nat.lt_or_ge i.toNat g.S.length with h|h
  ·rw[show g.S.getD i.toNat default=g.S[i.toNat]from by simp[h]];exact List.set_getElem_self ..
  ·exact List.set_eq_of_length_le h
 rw[this]
theorem FR.Ok.setS {fr:FR}{g:PG}(h:fr.Ok g) (i:Int) (p:PS):fr.Ok (g.setS i p):=⟨by rw[h.sl];exact(List.length_set ..).symm,h.nl,h.np,h.sp,by rw[show(g.setS i p).S.length=g.S.length from List.length_set ..];exact h.s6⟩
theorem PS.write_ok {p:PS}{key value:ByteArray}{gone:Bool}{past:List Dep}(h:p.writeE key value gone past=0):J.checkB (p.writeV key value gone past)=true:=by
 unfold PS.writeV
 rw[if_pos h]
 unfold PS.writeE at h
 split at h
 ·cases h
 ·split at h
  ·cases h
  ·split at h
   ·assumption
   ·cases h
set_option maxHeartbeats 4000000 in
theorem gput_g (fr:FR) (g:PG) (t:GT) (o:SOp) {m:Nat}(hg:g.Ok m) (hm:m≤900) (hf:fr.Ok g) (ha:g.At o):GCallE Tryz.prog 87 [.bx 1001 0 0,.d (.row o.row)] (GE fr g t) (λt':GT=>some (GE fr (g.put o).1 t',.d (ansA (g.put o).2))):=by
 refine GC_EL Tryz.func87 Tryz.ntmps87 (ReadsS.cN Tryz.results87 Tryz.isAgg37 Tryz.sizeOf37) λhok hokB M0 w0 hl=>?_
 have hcl:o.client=(o.client.toNat:Int):=by have:=ha.lo;omega
 have hc4:o.client.toNat<4:=by have:=ha.lo;have:=ha.hi;omega
 obtain⟨hcs,hcn,hcp⟩:=hg.cli ha
 have hsl:=hf.sl
 have hgs:=hg.sl
 have h6:=hf.s6
 have hi:(g.cli o.client).1.toNat<g.S.length:=by rw[hgs];exact hcn
 have hisp:(g.cli o.client).1.toNat<fr.sp.length:=by rw[hsl];exact hi
 have hp:(g.S.getD (g.cli o.client).1.toNat default).Ok m:=hg.site (i:=(g.cli o.client).1) hcn
 have hY:∀s∈g.Y,s.Fit 1000:=λs hs=>(hg.yf s hs).mono (by omega)
 refine Aw_sr ?_
 refine Al_p Pu_bN ?_
 refine Al_al Tryz.zeroValue37 λg4=>?_
 refine Al_nil (Aw_seq ?_)
 refine Aw_dA 7 Tryz.zeroValue75 ?_
 refine Dr_ml ?_
 refine Dr_p (Pu_fd 1 Tryz.underlying41 Tryz.sizeOf3) ?_
 refine Dr_p (Pu_l1 Tryz.isAgg3) ?_
 refine Dr_p Pu_nb ?_
 refine Dr_p (Pu_fb 5 Tryz.underlying91 Tryz.sizeOf86) ?_
 refine Dr_p (Pu_indexArrb rfl Tryz.underlying86 Tryz.sizeOf75 rfl rfl (hcl) (hc4)) ?_
 refine Dr_p (Pu_loadbN (r:=cliA (g.cs o.client.toNat)) rfl Tryz.isAgg75 Tryz.sizeOf75 rfl rfl (gc_cs fr g t.hv hc4) rfl) ?_
 refine Dr_nil ?_
 intro g5
 refine Al_sN Tryz.isAgg75 Tryz.sizeOf75 ?_
 refine Al_nil (Aw_seq ?_)
 have hto:(T.next g.c (g.cli o.client).1.toNat (-1) o.key).length≤6:=Nat.le_trans (T.next_len ..) hg.par.le
 have hnx:=next_a g.c hg.par hg.row (g.cli o.client).1.toNat hcn (-1) o.key
 rw[←hcs]at hnx
 refine Aw_dr 9 ?_
 refine Dr_ml ?_
 refine Dr_p Pu_nb ?_
 refine Dr_p (Pu_fb 0 Tryz.underlying91 Tryz.sizeOf30) ?_
 refine Dr_p (Pu_lbN (r:=[_,_,_]) Tryz.isAgg30 Tryz.sizeOf30) ?_
 refine Dr_p (Pu_fb 0 Tryz.underlying75 Tryz.sizeOf3) ?_
 refine Dr_p (Pu_lb Tryz.isAgg3) ?_
 refine Dr_p (Pu_fd 6 Tryz.underlying41 Tryz.sizeOf9) ?_
 refine Dr_p (Pu_l1 Tryz.isAgg9) ?_
 refine Dr_p (Pu_call (hnx) rfl ⟨Sub.rfl,Sub.rfl,Sub.rfl,Sub.rfl,trivial⟩) ?_
 refine Dr_nil ?_
 refine Al_mr ?_
 refine Al_nil (Aw_seq (Aw_block (Aw_seq ?_)))
 refine Aw_dr 13 ?_
 refine Dr_ml ?_
 refine Dr_p Pu_nb ?_
 refine Dr_p (Pu_fb 3 Tryz.underlying91 Tryz.sizeOf85) ?_
 refine Dr_p (Pu_lb Tryz.isAgg85) ?_
 refine Dr_p (Pu_fb 0 Tryz.underlying75 Tryz.sizeOf3) ?_
 refine Dr_p (Pu_lb Tryz.isAgg3) ?_
 refine Dr_p (Pu_indexX (j:=(g.cli o.client).1.toNat) (k:=1007) rfl Tryz.underlying85 Tryz.sizeOf92 rfl rfl rfl hcs (by rw[List.length_map];exact hisp)) ?_
 refine Dr_p (Pu_loadX1 (k:=1007) rfl Tryz.isAgg92 rfl rfl (sp_at hisp)) ?_
 refine Dr_p (Pu_gcall [(1001,1005,0)] (gsOwn_g hsl hi hp) (SX_in ..) rfl ⟨rfl,trivial⟩ rfl ⟨Sub.rfl,trivial⟩) ?_
 refine Dr_p (Pu_fd 6 Tryz.underlying41 Tryz.sizeOf9) ?_
 refine Dr_p (Pu_l1 Tryz.isAgg9) ?_
 refine Dr_p (Pu_call (find_a (g.S.getD (g.cli o.client).1.toNat default).rs o.key hp.rl) rfl ⟨Sub.rfl,Sub.rfl,trivial⟩) ?_
 refine Dr_p Pu_cp ?_
 refine Dr_nil ?_
 refine Al_mr ?_
 refine Al_nil ?_
 refine Aw_cond rfl (λh27=>?_) (λh27=>?_)
 ·(try simp only[A.cd_]at h27)
  have he:g.putE o=14:=by unfold PG.putE;rw[if_pos (show findR (g.site (g.cli o.client).1).rs o.key<0 from h27)]
  have e1:g.put o=(g,14,[]):=by unfold PG.put;rw[he];rfl
  refine Aw_sr ?_
  refine Al_p (Pu_call (gtold_a 6 14) rfl ⟨Sub.rfl,trivial⟩) ?_
  refine Al_sN Tryz.isAgg37 Tryz.sizeOf37 ?_
  refine Al_nil ?_
  exact Aw_ret (⟨t,_,_,[],rfl,⟨_,rfl,_,_,_,_,_,[_,_],rfl,rfl,rfl,rfl,by rw[e1]<;>rfl⟩,⟨by rw[e1]<;>rfl,rfl,by rw[e1]<;>rfl,by rw[e1]<;>rfl,by rw[e1]<;>rfl,by rw[e1]<;>rfl,rfl,trivial⟩,rfl⟩)
 ·(try simp only[A.cd_]at h27)
  have hfd:¬findR (g.site (g.cli o.client).1).rs o.key<0:=h27
  refine Aw_sr ?_
  refine Al_ml ?_
  refine Al_p (Pu_fb 0 Tryz.underlying75 Tryz.sizeOf3) ?_
  refine Al_p (Pu_lb Tryz.isAgg3) ?_
  refine Al_ml ?_
  refine Al_p (Pu_gcall [(1001,1001,0),(1002,1002,0),(1003,1003,0),(1004,1004,0),(1005,1005,0),(1006,1006,0),(1007,1007,0)] (gfull_g fr g t (g.cli o.client).1 (T.next g.c (g.cli o.client).1.toNat (-1) o.key) hf hY (by omega)) (GE_in ..) rfl ⟨rfl,rfl,rfl,rfl,rfl,rfl,rfl,trivial⟩ rfl ⟨Sub.rfl,Sub.rfl,Sub.rfl,trivial⟩) ?_
  refine Al_mr ?_
  refine Al_nil ?_
  refine Aw_cond rfl (λh42=>?_) (λh42=>?_)
  ·skip
   have hfu:g.full (g.cli o.client).1 (g.nx (g.cli o.client).1 (-1) o.key)=true:=h42
   have he:g.putE o=15:=by unfold PG.putE;rw[if_neg hfd,if_pos hfu]
   have e1:g.put o=(g,15,[]):=by unfold PG.put;rw[he];rfl
   refine Aw_sr ?_
   refine Al_p (Pu_call (gtold_a 6 15) rfl ⟨Sub.rfl,trivial⟩) ?_
   refine Al_sN Tryz.isAgg37 Tryz.sizeOf37 ?_
   refine Al_nil ?_
   exact Aw_ret (⟨t,_,_,[],rfl,⟨_,rfl,_,_,_,_,_,[_,_],rfl,rfl,rfl,rfl,by rw[e1]<;>rfl⟩,⟨by rw[e1]<;>rfl,rfl,by rw[e1]<;>rfl,by rw[e1]<;>rfl,by rw[e1]<;>rfl,by rw[e1]<;>rfl,rfl,trivial⟩,rfl⟩)
  ·skip
   have hfu:¬g.full (g.cli o.client).1 (g.nx (g.cli o.client).1 (-1) o.key)=true:=by rw[show g.full (g.cli o.client).1 (g.nx (g.cli o.client).1 (-1) o.key)=false from h42];exact Bool.noConfusion
   refine Aw_skip (Aw_sr ?_)
   refine Al_p (Pu_fd 0 Tryz.underlying41 Tryz.sizeOf3) ?_
   refine Al_p (Pu_l1 Tryz.isAgg3) ?_
   refine Al_p Pu_cp ?_
   refine Al_mr ?_
   refine Al_ns ?_
   refine Al_p (Pu_fd 7 Tryz.underlying41 Tryz.sizeOf9) ?_
   refine Al_p (Pu_l1 Tryz.isAgg9) ?_
   refine Al_mr ?_
   refine Al_nil ?_
   refine Aw_join (ι:=Unit) [0,3,4,5,6,7] [4,5,1001,1002,1003,1004,1005,1006,1007] (λ_=>[(8,.d (tv (PG.putW o)))]) (λ_=>[]) (λ_=>True) ?_ ?_
   ·refine Aw_sr ?_
    refine Al_ml ?_
    refine Al_nil ?_
    refine Aw_cond rfl (λh54=>?_) (λh54=>?_)
    ·(try simp only[A.cd_]at h54)
     refine Aw_region ?_
     refine Al_mr ?_
     refine Al_nil ?_
     exact⟨(),trivial,Le.ov ⟨Sub.d (by rw[show PG.putW o=_ from if_pos h54]),trivial⟩ ⟨Sub.rfl,Sub.rfl,Sub.rfl,Sub.rfl,Sub.rfl,Sub.rfl,trivial⟩ trivial ⟨rfl,rfl,rfl,rfl,rfl,rfl,rfl,rfl,rfl,trivial⟩⟩
    ·(try simp only[A.cd_]at h54)
     refine Aw_skip ?_
     exact⟨(),trivial,Le.ov ⟨Sub.d (by rw[show PG.putW o=_ from if_neg h54]),trivial⟩ ⟨Sub.rfl,Sub.rfl,Sub.rfl,Sub.rfl,Sub.rfl,Sub.rfl,trivial⟩ trivial ⟨rfl,rfl,rfl,rfl,rfl,rfl,rfl,rfl,rfl,trivial⟩⟩
   ·rintro _ hj0
    refine Aw_join (ι:=Nat×(Nat→Prop)) [0,3,4,5,6] [4,5,1001,1002,1003,1004,1006,1007] (λ(g9,F)=>[(9,.bx 9 g9 0),(10,.d (iv ((g.site (g.cli o.client).1).writeE o.key (PG.putW o) (decide (o.kind=2)) (g.cli o.client).2)))]) (λ(g9,F)=>[(9,g9,.box 50 ((g.putV o).row.map .d)),(1005,0,.op (starP ST F (siteX fr.sp (g.S.set (g.cli o.client).1.toNat ((g.S.getD (g.cli o.client).1.toNat default).write o.key (PG.putW o) (decide (o.kind=2)) (g.cli o.client).2)))))]) (λ(g9,F)=>True) ?_ ?_
    ·refine Aw_drawPA 14 18 6 (by kernel_rfl) (by kernel_rfl) rfl (by decide) rfl rfl rfl rfl (by decide) Tryz.zeroValue50 rfl (by kernel_rfl) rfl ?_
     refine Dr_ml ?_
     refine Dr_p Pu_nb ?_
     refine Dr_p (Pu_fb 3 Tryz.underlying91 Tryz.sizeOf85) ?_
     refine Dr_p (Pu_lb Tryz.isAgg85) ?_
     refine Dr_p (Pu_fb 0 Tryz.underlying75 Tryz.sizeOf3) ?_
     refine Dr_p (Pu_lb Tryz.isAgg3) ?_
     refine Dr_p (Pu_indexX (j:=(g.cli o.client).1.toNat) (k:=1007) rfl Tryz.underlying85 Tryz.sizeOf92 rfl rfl rfl hcs (by rw[List.length_map];exact hisp)) ?_
     refine Dr_p (Pu_loadX1 (k:=1007) rfl Tryz.isAgg92 rfl rfl (sp_at hisp)) ?_
     refine Dr_p (Pu_fd 6 Tryz.underlying41 Tryz.sizeOf9) ?_
     refine Dr_p (Pu_l1 Tryz.isAgg9) ?_
     refine Dr_ml ?_
     refine Dr_ml ?_
     refine Dr_p (Pu_fb 1 Tryz.underlying75 Tryz.sizeOf48) ?_
     refine Dr_p (Pu_lb Tryz.isAgg48) ?_
     refine Dr_nil ⟨?_,λg9=>?_⟩
     ·refine Ad_two 14 18 rfl rfl (by kernel_rfl) ?_ ?_
      ·refine Al_gcallE [(1001,1005,0)] [] (gsWrite_g hsl hi hp (by omega) o.key (PG.putW o) (decide (o.kind=2)) (g.cli o.client).2 (by omega)) rfl rfl rfl (by decide) (by kernel_rfl) ⟨rfl,trivial⟩ (λ_=>rfl) rfl rfl ⟨Sub.rfl,Sub.rfl,Sub.rfl,Sub.rfl,Sub.rfl,trivial⟩ ?_
       rintro F g70
       refine Al_nil ?_
       refine Ad_t 15 rfl (PuI_move (.inl rfl) (by conv=>lhs;whnf)) ?_
       refine Ad_t 16 rfl PuI_ex ?_
       refine Ad_t 17 rfl PuI_ex ?_
       refine Ad_o 18 ?_
       refine Al_al Tryz.zeroValue50 λg9=>?_
       refine Al_nil ?_
       refine Ad_o 19 ?_
       refine Al_sN Tryz.isAgg50 Tryz.sizeOf50 ?_
       refine Al_nil ?_
       refine Ad_t 20 rfl (PuI_move (.inr rfl) (by conv=>lhs;whnf)) ?_
       refine Ad_d ?_
       exact⟨(g9,F),trivial,Le.ov ⟨Sub.rfl,Sub.rfl,trivial⟩ ⟨Sub.rfl,Sub.rfl,Sub.rfl,Sub.rfl,Sub.rfl,trivial⟩ ⟨rfl,rfl,trivial⟩ ⟨rfl,rfl,rfl,rfl,rfl,rfl,rfl,rfl,trivial⟩⟩
      ·refine Al_al Tryz.zeroValue50 λg9=>?_
       refine Al_nil ?_
       refine Ad_o 14 ?_
       refine Al_gcallE [(1001,1005,0)] [] (gsWrite_g hsl hi hp (by omega) o.key (PG.putW o) (decide (o.kind=2)) (g.cli o.client).2 (by omega)) rfl rfl rfl (by decide) (by kernel_rfl) ⟨rfl,trivial⟩ (λ_=>rfl) rfl rfl ⟨Sub.rfl,Sub.rfl,Sub.rfl,Sub.rfl,Sub.rfl,trivial⟩ ?_
       rintro F g70
       refine Al_nil ?_
       refine Ad_t 15 rfl (PuI_move (.inl rfl) (by conv=>lhs;whnf)) ?_
       refine Ad_t 16 rfl PuI_ex ?_
       refine Ad_t 17 rfl PuI_ex ?_
       refine Ad_o 19 ?_
       refine Al_sN Tryz.isAgg50 Tryz.sizeOf50 ?_
       refine Al_nil ?_
       refine Ad_t 20 rfl (PuI_move (.inr rfl) (by conv=>lhs;whnf)) ?_
       refine Ad_d ?_
       exact⟨(g9,F),trivial,Le.ov ⟨Sub.rfl,Sub.rfl,trivial⟩ ⟨Sub.rfl,Sub.rfl,Sub.rfl,Sub.rfl,Sub.rfl,trivial⟩ ⟨rfl,rfl,trivial⟩ ⟨rfl,rfl,rfl,rfl,rfl,rfl,rfl,rfl,trivial⟩⟩
     ·refine Ad_o 14 ?_
      refine Al_gcallE [(1001,1005,0)] [] (gsWrite_g hsl hi hp (by omega) o.key (PG.putW o) (decide (o.kind=2)) (g.cli o.client).2 (by omega)) rfl rfl rfl (by decide) (by kernel_rfl) ⟨rfl,trivial⟩ (λ_=>rfl) rfl rfl ⟨Sub.rfl,Sub.rfl,Sub.rfl,Sub.rfl,Sub.rfl,trivial⟩ ?_
      rintro F g70
      refine Al_nil ?_
      refine Ad_t 15 rfl (PuI_move (.inl rfl) (by conv=>lhs;whnf)) ?_
      refine Ad_t 16 rfl PuI_ex ?_
      refine Ad_t 17 rfl PuI_ex ?_
      refine Ad_o 19 ?_
      refine Al_sN Tryz.isAgg50 Tryz.sizeOf50 ?_
      refine Al_nil ?_
      refine Ad_t 20 rfl (PuI_move (.inr rfl) (by conv=>lhs;whnf)) ?_
      refine Ad_d ?_
      exact⟨(g9,F),trivial,Le.ov ⟨Sub.rfl,Sub.rfl,trivial⟩ ⟨Sub.rfl,Sub.rfl,Sub.rfl,Sub.rfl,Sub.rfl,trivial⟩ ⟨rfl,rfl,trivial⟩ ⟨rfl,rfl,rfl,rfl,rfl,rfl,rfl,rfl,trivial⟩⟩
    ·rintro⟨g9,F⟩ hj1
     refine Aw_seq (Aw_sr ?_)
     refine Al_ml ?_
     refine Al_p Pu_cp ?_
     refine Al_nil ?_
     refine Aw_cond rfl (λh74=>?_) (λh74=>?_)
     ·(try simp only[A.cd_]at h74)
      have he:g.putE o=(g.site (g.cli o.client).1).writeE o.key (PG.putW o) (decide (o.kind=2)) (g.cli o.client).2:=by unfold PG.putE;rw[if_neg hfd,if_neg hfu]
      have e1:g.put o=(g,(g.site (g.cli o.client).1).writeE o.key (PG.putW o) (decide (o.kind=2)) (g.cli o.client).2,[]):=by unfold PG.put;rw[he,if_neg h74]
      have hws:g.S.set (g.cli o.client).1.toNat ((g.S.getD (g.cli o.client).1.toNat default).write o.key (PG.putW o) (decide (o.kind=2)) (g.cli o.client).2)=g.S:=by
       have:(g.S.getD (g.cli o.client).1.toNat default).write o.key (PG.putW o) (decide (o.kind=2)) (g.cli o.client).2=g.S.getD (g.cli o.client).1.toNat default:=if_neg h74
       rw[this];exact congrArg PG.S (g.setS_self (g.cli o.client).1)
      refine Aw_sr ?_
      refine Al_ml ?_
      refine Al_p (Pu_call (gtold_a 6 ((g.site (g.cli o.client).1).writeE o.key (PG.putW o) (decide (o.kind=2)) (g.cli o.client).2)) rfl ⟨Sub.rfl,trivial⟩) ?_
      refine Al_sN Tryz.isAgg37 Tryz.sizeOf37 ?_
      refine Al_nil ?_
      exact Aw_ret (⟨{t with Fs:=F},_,_,[],rfl,⟨_,rfl,_,_,_,_,_,[_,_],rfl,rfl,rfl,rfl,by rw[e1]<;>rfl⟩,⟨by rw[e1];rfl,rfl,by rw[e1];rfl,by rw[e1];rfl,by rw[hws,e1];rfl,by rw[e1];rfl,rfl,trivial⟩,rfl⟩)
     ·(try simp only[A.cd_]at h74)
      have h0:(g.site (g.cli o.client).1).writeE o.key (PG.putW o) (decide (o.kind=2)) (g.cli o.client).2=0:=by simpa using h74
      have he:g.putE o=0:=by unfold PG.putE;rw[if_neg hfd,if_neg hfu];exact h0
      have e1:g.put o=(g.putS o,0,[g.putV o]):=by unfold PG.put;rw[if_pos he]
      have hvk:J.checkB (g.putV o)=true:=PS.write_ok h0
      have hvp:(g.putV o).past.length≤24:=J.past_len hvk
      have hf1:fr.Ok (g.setS (g.cli o.client).1 ((g.site (g.cli o.client).1).write o.key (PG.putW o) (decide (o.kind=2)) (g.cli o.client).2)):=hf.setS _ _
      refine Aw_skip (Aw_sr ?_)
      refine Al_ml ?_
      refine Al_p (Pu_fb 0 Tryz.underlying75 Tryz.sizeOf3) ?_
      refine Al_p (Pu_lb Tryz.isAgg3) ?_
      refine Al_ml ?_
      refine Al_p (Pu_lbN (r:=[_,_,_,_,_,_]) Tryz.isAgg50 Tryz.sizeOf50) ?_
      refine Al_gcallE [(1001,1001,0),(1002,1002,0),(1003,1003,0),(1004,1004,0),(1005,1005,0),(1006,1006,0),(1007,1007,0)] [] (gsend_g fr (g.setS (g.cli o.client).1 ((g.site (g.cli o.client).1).write o.key (PG.putW o) (decide (o.kind=2)) (g.cli o.client).2)) {t with Fs:=F} (g.cli o.client).1 (T.next g.c (g.cli o.client).1.toNat (-1) o.key) (g.putV o) hvk hf1 (m:=m) hg.yf (by omega)) rfl rfl rfl (by decide) (by kernel_rfl) ⟨rfl,rfl,rfl,rfl,rfl,rfl,rfl,trivial⟩ (λ_=>rfl) rfl rfl ⟨Sub.rfl,Sub.rfl,Sub.rfl,Sub.rfl,trivial⟩ ?_
      rintro Fn g82
      refine Al_ns ?_
      refine Al_ml ?_
      refine Al_p (Pu_fd 1 Tryz.underlying41 Tryz.sizeOf3) ?_
      refine Al_p (Pu_l1 Tryz.isAgg3) ?_
      refine Al_p (Pu_fb 0 Tryz.underlying50 Tryz.sizeOf9) ?_
      refine Al_p (Pu_lb Tryz.isAgg9) ?_
      refine Al_p (Pu_fb 3 Tryz.underlying50 Tryz.sizeOf47) ?_
      refine Al_p (Pu_lbN (r:=[_,_]) Tryz.isAgg47 Tryz.sizeOf47) ?_
      refine Al_p (Pu_fb 1 Tryz.underlying75 Tryz.sizeOf48) ?_
      refine Al_p (Pu_lb Tryz.isAgg48) ?_
      refine Al_gcallE [(1001,1001,0),(1002,1002,0),(1003,1003,0),(1004,1004,0),(1005,1005,0),(1006,1006,0),(1007,1007,0)] [] (gevent_g fr ((g.setS (g.cli o.client).1 ((g.site (g.cli o.client).1).write o.key (PG.putW o) (decide (o.kind=2)) (g.cli o.client).2)).send (g.cli o.client).1 (T.next g.c (g.cli o.client).1.toNat (-1) o.key) (g.putV o)) ⟨F,Fn,t.hv⟩ ⟨1,o.client,(g.putV o).key,(g.putV o).n,(g.putV o).s,(g.cli o.client).2⟩ (by rw[PG.send_h];have:=hg.hl;show g.h.length≤_;omega)) rfl rfl rfl (by decide) (by kernel_rfl) ⟨rfl,rfl,rfl,rfl,rfl,rfl,rfl,trivial⟩ (λ_=>rfl) rfl rfl ⟨Sub.rfl,Sub.rfl,Sub.rfl,Sub.rfl,Sub.rfl,Sub.rfl,trivial⟩ ?_
      rintro hv g92
      refine Al_nil (Aw_seq ?_)
      refine Aw_dr 10 ?_
      refine Dr_ml ?_
      refine Dr_p (Pu_fd 1 Tryz.underlying41 Tryz.sizeOf3) ?_
      refine Dr_p (Pu_l1 Tryz.isAgg3) ?_
      refine Dr_p (Pu_lbN (r:=[_,_]) Tryz.isAgg75 Tryz.sizeOf75) ?_
      refine Dr_p (Pu_lbN (r:=[_,_,_,_,_,_]) Tryz.isAgg50 Tryz.sizeOf50) ?_
      refine Dr_p (Pu_slice1 rfl Tryz.underlying35 Tryz.sizeOf50 Tryz.zeroValue50 rfl (by decide) (by decide) (by kernel_rfl) rfl rfl rfl) ?_
      refine Dr_p (Pu_call (cliSaw_a (g.cli o.client) [g.putV o] (λv hv=>by rw[List.mem_singleton.1 hv];exact hvp) (by simp;omega)) rfl ⟨Sub.rfl,Sub.rfl,trivial⟩) ?_
      refine Dr_p Pu_nb ?_
      refine Dr_p (Pu_fb 5 Tryz.underlying91 Tryz.sizeOf86) ?_
      refine Dr_p (Pu_indexArrb rfl Tryz.underlying86 Tryz.sizeOf75 rfl rfl (hcl) (hc4)) ?_
      refine Dr_nil ?_
      refine A.Al_storeC (gcells fr (g.putS o) hv) (gc_setC fr (((g.setS (g.cli o.client).1 ((g.site (g.cli o.client).1).write o.key (PG.putW o) (decide (o.kind=2)) (g.cli o.client).2)).send (g.cli o.client).1 (T.next g.c (g.cli o.client).1.toNat (-1) o.key) (g.putV o)).ev ⟨1,o.client,(g.putV o).key,(g.putV o).n,(g.putV o).s,(g.cli o.client).2⟩) hv (N.saw (g.cli o.client) [g.putV o]) hc4) rfl Tryz.isAgg75 Tryz.sizeOf75 rfl rfl rfl rfl (by show 0+5+o.client.toNat*2+2≤23;omega) ?_
      refine Al_ns ?_
      refine Al_p (Pu_lbN (r:=[_,_,_,_,_,_]) Tryz.isAgg50 Tryz.sizeOf50) ?_
      refine Al_p (Pu_slice1 rfl Tryz.underlying35 Tryz.sizeOf50 Tryz.zeroValue50 rfl (by decide) (by decide) (by kernel_rfl) rfl rfl rfl) ?_
      refine Al_p (Pu_call (gfound_a [g.putV o]) rfl ⟨Sub.rfl,trivial⟩) ?_
      refine Al_sN Tryz.isAgg37 Tryz.sizeOf37 ?_
      refine Al_nil ?_
      exact Aw_ret (⟨⟨F,Fn,hv⟩,_,_,[],rfl,⟨_,rfl,_,_,_,_,_,[_,_],rfl,rfl,rfl,rfl,by rw[e1]<;>rfl⟩,⟨by rw[e1]<;>rfl,rfl,by rw[e1]<;>rfl,by rw[e1]<;>rfl,by rw[e1]<;>rfl,by rw[e1]<;>rfl,rfl,trivial⟩,rfl⟩)
end Go.Proofs.YtdnijgdmohinlaaGreat
end
section
set_option maxRecDepth 100000
namespace Go.Proofs.YtdnijgdmohinlaaGreat
open Go Go.RowKit A R
open A.RowT
theorem J.shead_in {cs:SC}{key:ByteArray}{v:Ver}(h:J.shead cs key=some v):v∈J.getC cs key:=by
 unfold J.shead J.head J.told at h
 split at h
 ·exact List.mem_of_getElem? h
 ·cases h
def J.OkC (cs:SC):Prop:=∀p∈cs,∀v∈p.2,J.checkB v=true
theorem J.OkC.get {cs:SC}(h:J.OkC cs) (key:ByteArray):∀v∈J.getC cs key,J.checkB v=true:=by
 unfold J.getC
 cases hl:J.look cs key with
 | none=>intro v hv;cases hv
 | some l=>intro v hv;exact h _ (J.mem_look hl) v hv
theorem PS.read_ok {p:PS}(h:J.OkC p.cs) {key:ByteArray}{v:Ver}(hv:p.readV key=some v):J.checkB v=true:=by
 unfold PS.readV at hv
 split at hv
 ·cases hv
 ·exact h.get key v (J.shead_in hv)
set_option maxHeartbeats 4000000 in
theorem gget_g (fr:FR) (g:PG) (t:GT) (o:SOp) {m:Nat}(hg:g.Ok m) (hm:m≤900) (hf:fr.Ok g) (ha:g.At o) (hoc:J.OkC (g.site (g.cli o.client).1).cs):GCallE Tryz.prog 88 [.bx 1001 0 0,.d (.row o.row)] (GE fr g t) (λt':GT=>some (GE fr (g.get o).1 t',.d (ansA (g.get o).2))):=by
 refine GC_EL Tryz.func88 Tryz.ntmps88 (ReadsS.cN Tryz.results88 Tryz.isAgg37 Tryz.sizeOf37) λhok hokB M0 w0 hl=>?_
 have hcl:o.client=(o.client.toNat:Int):=by have:=ha.lo;omega
 have hc4:o.client.toNat<4:=by have:=ha.lo;have:=ha.hi;omega
 obtain⟨hcs,hcn,hcp⟩:=hg.cli ha
 have hsl:=hf.sl
 have hgs:=hg.sl
 have h6:=hf.s6
 have hi:(g.cli o.client).1.toNat<g.S.length:=by rw[hgs];exact hcn
 have hisp:(g.cli o.client).1.toNat<fr.sp.length:=by rw[hsl];exact hi
 have hp:(g.S.getD (g.cli o.client).1.toNat default).Ok m:=hg.site (i:=(g.cli o.client).1) hcn
 have hvp:((g.getV o).getD default).past.length≤24:=by
  cases hv:g.getV o with
  | none=>exact Nat.zero_le _
  | some v=>exact J.past_len (PS.read_ok hoc hv)
 refine Aw_sr ?_
 refine Al_p Pu_bN ?_
 refine Al_al Tryz.zeroValue37 λg4=>?_
 refine Al_nil (Aw_seq ?_)
 refine Aw_dA 7 Tryz.zeroValue75 ?_
 refine Dr_ml ?_
 refine Dr_p (Pu_fd 1 Tryz.underlying41 Tryz.sizeOf3) ?_
 refine Dr_p (Pu_l1 Tryz.isAgg3) ?_
 refine Dr_p Pu_nb ?_
 refine Dr_p (Pu_fb 5 Tryz.underlying91 Tryz.sizeOf86) ?_
 refine Dr_p (Pu_indexArrb rfl Tryz.underlying86 Tryz.sizeOf75 rfl rfl (hcl) (hc4)) ?_
 refine Dr_p (Pu_loadbN (r:=cliA (g.cs o.client.toNat)) rfl Tryz.isAgg75 Tryz.sizeOf75 rfl rfl (gc_cs fr g t.hv hc4) rfl) ?_
 refine Dr_nil ?_
 intro g5
 refine Al_sN Tryz.isAgg75 Tryz.sizeOf75 ?_
 refine Al_nil ?_
 refine Aw_join (ι:=Nat) [0,3,4,5] [4,5,1001,1002,1003,1004,1005,1006,1007] (λg6=>[(6,.bx 6 g6 0),(7,.d (bv (g.getV o).isSome)),(8,.d (iv ((g.site (g.cli o.client).1).readE o.key)))]) (λg6=>[(6,g6,.box 50 (((g.getV o).getD default).row.map .d))]) (λg6=>True) ?_ ?_
 ·refine Aw_drawPA 12 15 6 (by kernel_rfl) (by kernel_rfl) rfl (by decide) rfl rfl rfl rfl (by decide) Tryz.zeroValue50 rfl (by kernel_rfl) rfl ?_
  refine Dr_ml ?_
  refine Dr_p Pu_nb ?_
  refine Dr_p (Pu_fb 3 Tryz.underlying91 Tryz.sizeOf85) ?_
  refine Dr_p (Pu_lb Tryz.isAgg85) ?_
  refine Dr_p (Pu_fb 0 Tryz.underlying75 Tryz.sizeOf3) ?_
  refine Dr_p (Pu_lb Tryz.isAgg3) ?_
  refine Dr_p (Pu_indexX (j:=(g.cli o.client).1.toNat) (k:=1007) rfl Tryz.underlying85 Tryz.sizeOf92 rfl rfl rfl hcs (by rw[List.length_map];exact hisp)) ?_
  refine Dr_p (Pu_loadX1 (k:=1007) rfl Tryz.isAgg92 rfl rfl (sp_at hisp)) ?_
  refine Dr_p (Pu_fd 6 Tryz.underlying41 Tryz.sizeOf9) ?_
  refine Dr_p (Pu_l1 Tryz.isAgg9) ?_
  refine Dr_p (Pu_gcall [(1001,1005,0)] (gsRead_g hsl hi hp (by omega) o.key) (SX_in ..) rfl ⟨rfl,trivial⟩ rfl ⟨Sub.rfl,Sub.rfl,trivial⟩) ?_
  refine Dr_ml ?_
  refine Dr_nil ⟨?_,λg6=>?_⟩
  ·refine Ad_t 12 rfl PuI_ex ?_
   refine Ad_t 13 rfl PuI_ex ?_
   refine Ad_t 14 rfl PuI_ex ?_
   refine Ad_o 15 ?_
   refine Al_al Tryz.zeroValue50 λg6=>?_
   refine Al_nil ?_
   refine Ad_o 16 ?_
   refine Al_sN Tryz.isAgg50 Tryz.sizeOf50 ?_
   refine Al_nil ?_
   refine Ad_t 17 rfl (PuI_move (.inr rfl) (by conv=>lhs;whnf)) ?_
   refine Ad_t 18 rfl (PuI_move (.inr rfl) (by conv=>lhs;whnf)) ?_
   refine Ad_d ?_
   exact⟨g6,trivial,Le.ov ⟨Sub.rfl,Sub.rfl,Sub.rfl,trivial⟩ ⟨Sub.rfl,Sub.rfl,Sub.rfl,Sub.rfl,trivial⟩ ⟨rfl,trivial⟩ ⟨rfl,rfl,rfl,rfl,rfl,rfl,rfl,rfl,rfl,trivial⟩⟩
  ·refine Ad_t 12 rfl PuI_ex ?_
   refine Ad_t 13 rfl PuI_ex ?_
   refine Ad_t 14 rfl PuI_ex ?_
   refine Ad_o 16 ?_
   refine Al_sN Tryz.isAgg50 Tryz.sizeOf50 ?_
   refine Al_nil ?_
   refine Ad_t 17 rfl (PuI_move (.inr rfl) (by conv=>lhs;whnf)) ?_
   refine Ad_t 18 rfl (PuI_move (.inr rfl) (by conv=>lhs;whnf)) ?_
   refine Ad_d ?_
   exact⟨g6,trivial,Le.ov ⟨Sub.rfl,Sub.rfl,Sub.rfl,trivial⟩ ⟨Sub.rfl,Sub.rfl,Sub.rfl,Sub.rfl,trivial⟩ ⟨rfl,trivial⟩ ⟨rfl,rfl,rfl,rfl,rfl,rfl,rfl,rfl,rfl,trivial⟩⟩
 ·rintro g6 hj0
  refine Aw_seq (Aw_sr ?_)
  refine Al_ml ?_
  refine Al_p Pu_cp ?_
  refine Al_nil ?_
  refine Aw_cond rfl (λh32=>?_) (λh32=>?_)
  ·(try simp only[A.cd_]at h32)
   have e1:g.get o=(g,(g.site (g.cli o.client).1).readE o.key,[]):=by unfold PG.get;rw[if_neg (show¬(g.site (g.cli o.client).1).readE o.key=0 from h32)]
   refine Aw_sr ?_
   refine Al_ml ?_
   refine Al_p (Pu_call (gtold_a 6 ((g.site (g.cli o.client).1).readE o.key)) rfl ⟨Sub.rfl,trivial⟩) ?_
   refine Al_sN Tryz.isAgg37 Tryz.sizeOf37 ?_
   refine Al_nil ?_
   exact Aw_ret (⟨t,_,_,[],rfl,⟨_,rfl,_,_,_,_,_,[_,_],rfl,rfl,rfl,rfl,by rw[e1]<;>rfl⟩,⟨by rw[e1]<;>rfl,rfl,by rw[e1]<;>rfl,by rw[e1]<;>rfl,by rw[e1]<;>rfl,by rw[e1]<;>rfl,rfl,trivial⟩,rfl⟩)
  ·(try simp only[A.cd_]at h32)
   have h0:(g.site (g.cli o.client).1).readE o.key=0:=h32
   refine Aw_skip ?_
   refine Aw_seq ?_
   refine Aw_drawP 13 1 (by kernel_rfl) (by kernel_rfl) rfl ?_
   refine Dr_ml ?_
   refine Dr_p (Pu_fd 1 Tryz.underlying41 Tryz.sizeOf3) ?_
   refine Dr_p (Pu_l1 Tryz.isAgg3) ?_
   refine Dr_p (Pu_fd 6 Tryz.underlying41 Tryz.sizeOf9) ?_
   refine Dr_p (Pu_l1 Tryz.isAgg9) ?_
   refine Dr_p (Pu_fb 3 Tryz.underlying50 Tryz.sizeOf47) ?_
   refine Dr_p (Pu_lbN (r:=[_,_]) Tryz.isAgg47 Tryz.sizeOf47) ?_
   refine Dr_p (Pu_fb 1 Tryz.underlying75 Tryz.sizeOf48) ?_
   refine Dr_p (Pu_lb Tryz.isAgg48) ?_
   refine Dr_p (Pu_fb 5 Tryz.underlying50 Tryz.sizeOf48) ?_
   refine Dr_p (Pu_lb Tryz.isAgg48) ?_
   refine Dr_p (Pu_buildSlice (aa:=[(0,_),(1,_)]) rfl Tryz.underlying195 Tryz.sizeOf48 Tryz.zeroValue48 rfl (by decide) (by decide) (by decide) (by kernel_rfl) ⟨rfl,rfl,rfl,rfl,rfl,rfl,trivial⟩ ((rfl:_=some [[pastA (g.cli o.client).2],[pastA ((g.getV o).getD default).past]].flatten)) rfl rfl) ?_
   refine Dr_p (Pu_call (merge_a [(g.cli o.client).2,((g.getV o).getD default).past] (by simp;omega)) rfl ⟨Sub.rfl,trivial⟩) ?_
   refine Dr_nil ?_
   refine Ad_o 13 ?_
   refine Al_gcallE [(1001,1001,0),(1002,1002,0),(1003,1003,0),(1004,1004,0),(1005,1005,0),(1006,1006,0),(1007,1007,0)] [] (gevent_g fr g t ⟨2,o.client,o.key,((g.getV o).getD default).n,((g.getV o).getD default).s,D.mergeL [(g.cli o.client).2,((g.getV o).getD default).past]⟩ (by have:=hg.hl;omega)) rfl rfl rfl (by decide) (by kernel_rfl) ⟨rfl,rfl,rfl,rfl,rfl,rfl,rfl,trivial⟩ (λ_=>rfl) rfl rfl ⟨Sub.rfl,Sub.rfl,Sub.rfl,Sub.rfl,Sub.rfl,Sub.rfl,trivial⟩ ?_
   rintro hv g48
   refine Al_nil ?_
   refine Ad_d ?_
   refine Aw_seq (Aw_sr ?_)
   refine Al_ml ?_
   refine Al_p Pu_n ?_
   refine Al_nil ?_
   refine Aw_cond rfl (λh50=>?_) (λh50=>?_)
   ·skip
    have hn:g.getV o=none:=by
     have h1:(!(g.getV o).isSome)=true:=h50
     cases hx:g.getV o with
     | none=>rfl
     | some v=>rw[hx]at h1;cases h1
    have e1:g.get o=(g.getS o,0,[]):=by unfold PG.get;rw[if_pos h0,hn]
    refine Aw_sr ?_
    refine Al_p (Pu_build (aa:=[]) rfl Tryz.underlying37 Tryz.zeroValue37 places37 (by kernel_rfl) trivial rfl) ?_
    refine Al_sN Tryz.isAgg37 Tryz.sizeOf37 ?_
    refine Al_nil ?_
    refine Aw_boxle (k:=4) ([iv 0,versA []].map .d) rfl ⟨Sub.rfl,Sub.nil,trivial⟩ ?_
    exact Aw_ret (⟨{t with hv:=hv},_,_,[],rfl,⟨_,rfl,_,_,_,_,_,[_,_],rfl,rfl,rfl,rfl,by rw[e1]<;>rfl⟩,⟨by rw[e1]<;>rfl,rfl,by rw[e1]<;>rfl,by rw[e1]<;>rfl,by rw[e1]<;>rfl,by rw[e1]<;>rfl,rfl,trivial⟩,rfl⟩)
   ·skip
    obtain⟨v,hvs⟩:∃v,g.getV o=some v:=by
     have h1:(!(g.getV o).isSome)=false:=h50
     cases hx:g.getV o with
     | none=>rw[hx]at h1;cases h1
     | some v=>exact⟨v,rfl⟩
    have e1:g.get o=((g.getS o).setC o.client (N.saw1 (g.cli o.client) ((g.getV o).getD default)),0,[(g.getV o).getD default]):=by unfold PG.get;rw[if_pos h0,hvs];rfl
    refine Aw_skip (Aw_seq ?_)
    refine Aw_dr 10 ?_
    refine Dr_ml ?_
    refine Dr_p (Pu_fd 1 Tryz.underlying41 Tryz.sizeOf3) ?_
    refine Dr_p (Pu_l1 Tryz.isAgg3) ?_
    refine Dr_p (Pu_lbN (r:=[_,_]) Tryz.isAgg75 Tryz.sizeOf75) ?_
    refine Dr_p (Pu_lbN (r:=[_,_,_,_,_,_]) Tryz.isAgg50 Tryz.sizeOf50) ?_
    refine Dr_p (Pu_slice1 rfl Tryz.underlying35 Tryz.sizeOf50 Tryz.zeroValue50 rfl (by decide) (by decide) (by kernel_rfl) rfl rfl rfl) ?_
    refine Dr_p (Pu_call (cliSaw_a (g.cli o.client) [(g.getV o).getD default] (λv hv=>by rw[List.mem_singleton.1 hv];exact hvp) (by simp;omega)) rfl ⟨Sub.rfl,Sub.rfl,trivial⟩) ?_
    refine Dr_p Pu_nb ?_
    refine Dr_p (Pu_fb 5 Tryz.underlying91 Tryz.sizeOf86) ?_
    refine Dr_p (Pu_indexArrb rfl Tryz.underlying86 Tryz.sizeOf75 rfl rfl (hcl) (hc4)) ?_
    refine Dr_nil ?_
    refine A.Al_storeC (gcells fr ((g.getS o).setC o.client (N.saw (g.cli o.client) [(g.getV o).getD default])) hv) (gc_setC fr (g.getS o) hv (N.saw (g.cli o.client) [(g.getV o).getD default]) hc4) rfl Tryz.isAgg75 Tryz.sizeOf75 rfl rfl rfl rfl (by show 0+5+o.client.toNat*2+2≤23;omega) ?_
    refine Al_ns ?_
    refine Al_p (Pu_lbN (r:=[_,_,_,_,_,_]) Tryz.isAgg50 Tryz.sizeOf50) ?_
    refine Al_p (Pu_slice1 rfl Tryz.underlying35 Tryz.sizeOf50 Tryz.zeroValue50 rfl (by decide) (by decide) (by kernel_rfl) rfl rfl rfl) ?_
    refine Al_p (Pu_call (gfound_a [(g.getV o).getD default]) rfl ⟨Sub.rfl,trivial⟩) ?_
    refine Al_sN Tryz.isAgg37 Tryz.sizeOf37 ?_
    refine Al_nil ?_
    exact Aw_ret (⟨{t with hv:=hv},_,_,[],rfl,⟨_,rfl,_,_,_,_,_,[_,_],rfl,rfl,rfl,rfl,by rw[e1]<;>rfl⟩,⟨by rw[e1]<;>rfl,rfl,by rw[e1]<;>rfl,by rw[e1]<;>rfl,by rw[e1]<;>rfl,by rw[e1]<;>rfl,rfl,trivial⟩,rfl⟩)
theorem PG.again_ask (g:PG) {np:List Value}(hl:np.length=g.Y.length) (o:SOp):N.ask g.n (N.vX np g.Y) o.site o.to' 0 N.againN=g.againN o:=by
 rw[N.vAsk hl]
 unfold PG.againN PG.ses
 cases N.vAt g.n g.Y o.site o.to' with
 | none=>rfl
 | some s=>exact s.again_ses.2
theorem gagain_g (fr:FR) (g:PG) (t:GT) (o:SOp) (hf:fr.Ok g) (hY:∀s∈g.Y,s.Fit 1000):GCallE Tryz.prog 94 [.bx 1001 0 0,.d (.row o.row)] (GE fr g t) (λt':GT=>some (GE fr (g.again o).1 t',.d (ansA (g.again o).2))):=by
 refine GC_EL Tryz.func94 Tryz.ntmps94 (ReadsS.cN Tryz.results94 Tryz.isAgg37 Tryz.sizeOf37) λhok hokB M0 w0 hl=>?_
 have hnl:=hf.nl
 have hst:N.upd g.n (N.vX fr.np g.Y) o.site o.to' N.again=N.vX fr.np (N.vUpd g.n g.Y o.site o.to' (·.again)):=N.vUpd_ses hnl _ _ λs _=>s.again_ses.1
 have hmp:mapP g.n fr.b fr.cnt (N.upd g.n (N.vX fr.np g.Y) o.site o.to' N.again)=mapP g.n fr.b fr.cnt (N.vX fr.np (N.vUpd g.n g.Y o.site o.to' (·.again))):=by rw[mapP_upd,mapP_v hnl]
 refine Aw_sr ?_
 refine Al_p Pu_bN ?_
 refine Al_al Tryz.zeroValue37 λg4=>?_
 refine Al_nil ?_
 refine Aw_seq ?_
 refine Aw_seq ?_
 refine Aw_drawP 8 2 (by kernel_rfl) (by kernel_rfl) rfl ?_
 refine Dr_ml ?_
 refine Dr_p Pu_nb ?_
 refine Dr_p (Pu_fb 4 Tryz.underlying91 Tryz.sizeOf83) ?_
 refine Dr_p (Pu_lb Tryz.isAgg83) ?_
 refine Dr_p (Pu_fd 2 Tryz.underlying41 Tryz.sizeOf3) ?_
 refine Dr_p (Pu_l1 Tryz.isAgg3) ?_
 refine Dr_p (Pu_fd 3 Tryz.underlying41 Tryz.sizeOf3) ?_
 refine Dr_p (Pu_l1 Tryz.isAgg3) ?_
 refine Dr_nil ?_
 refine Ad_o 8 ?_
 refine Al_gcallE [(1001,1002,0),(1002,1003,0),(1003,1004,0)] [] (ntAgain_g g.n fr.b fr.cnt t.Fn (N.vX fr.np g.Y) o.site o.to' (N.vX_places hf.np) (N.vX_fit hY)) rfl rfl rfl (by decide) (by kernel_rfl) ⟨rfl,rfl,rfl,trivial⟩ (λ_=>rfl) rfl rfl ⟨Sub.rfl,Sub.rfl,Sub.rfl,trivial⟩ ?_
 rintro F g13
 refine Al_nil ?_
 refine Ad_o 9 ?_
 refine Al_p Pu_cp ?_
 refine Al_nil ?_
 refine Ad_d ?_
 refine Aw_cond rfl (λh14=>?_) (λh14=>?_)
 ·skip
  have h1:g.againN o=0:=by
   have h2:decide ((((N.ask g.n (N.vX fr.np g.Y) o.site o.to' 0 N.againN:Nat):Int))=0)=true:=h14
   rw[PG.again_ask g hnl o]at h2
   simpa using h2
  have e1:(g.again o).2=(12,[]):=by unfold PG.again;rw[h1];rfl
  refine Aw_sr ?_
  refine Al_p (Pu_call (gtold_a 6 12) rfl ⟨Sub.rfl,trivial⟩) ?_
  refine Al_sN Tryz.isAgg37 Tryz.sizeOf37 ?_
  refine Al_nil ?_
  exact Aw_ret (⟨{t with Fn:=F},_,_,[],rfl,⟨_,rfl,_,_,_,_,_,[_,_],rfl,rfl,rfl,rfl,by rw[e1]<;>rfl⟩,⟨rfl,rfl,A.obE hmp,A.obE (congrArg (λX=>AO.op (starP SES F X)) hst),rfl,rfl,rfl,trivial⟩,rfl⟩)
 ·skip
  have h1:g.againN o≠0:=by
   have h2:decide ((((N.ask g.n (N.vX fr.np g.Y) o.site o.to' 0 N.againN:Nat):Int))=0)=false:=h14
   rw[PG.again_ask g hnl o]at h2
   simpa using h2
  have e1:(g.again o).2=(0,[]):=by unfold PG.again;rw[if_neg h1]
  refine Aw_skip (Aw_sr ?_)
  refine Al_p (Pu_build (aa:=[]) rfl Tryz.underlying37 Tryz.zeroValue37 places37 (by kernel_rfl) trivial rfl) ?_
  refine Al_sN Tryz.isAgg37 Tryz.sizeOf37 ?_
  refine Al_nil ?_
  refine Aw_boxle (k:=4) ([iv 0,versA []].map .d) rfl ⟨Sub.rfl,Sub.nil,trivial⟩ ?_
  exact Aw_ret (⟨{t with Fn:=F},_,_,[],rfl,⟨_,rfl,_,_,_,_,_,[_,_],rfl,rfl,rfl,rfl,by rw[e1]<;>rfl⟩,⟨rfl,rfl,A.obE hmp,A.obE (congrArg (λX=>AO.op (starP SES F X)) hst),rfl,rfl,rfl,trivial⟩,rfl⟩)
end Go.Proofs.YtdnijgdmohinlaaGreat
end
section
set_option maxRecDepth 100000
namespace Go.Proofs.YtdnijgdmohinlaaGreat
open Go Go.RowKit A R
open A.RowT
theorem PG.isS_iff {g:PG}{s:Int}(h:g.isS s=true):s=(s.toNat:Int)∧s.toNat<g.n:=by
 unfold PG.isS at h
 simp only[Bool.and_eq_true,decide_eq_true_eq]at h
 omega
theorem atV_cases {fr:FR}{g:PG}(hf:fr.Ok g) (hn:g.S.length=g.n) (s:Int):(g.isS s=false∧atV fr g s=.pointer none)∨(g.isS s=true∧atV fr g s=fr.sp.getD s.toNat default∧∃a,atV fr g s=.pointer (some a)):=by
 cases h:g.isS s with
 | false=>exact .inl ⟨rfl,by unfold atV;rw[h];rfl⟩
 | true =>
  obtain⟨h1,h2⟩:=PG.isS_iff h
  have e:atV fr g s=fr.sp.getD s.toNat default:=by unfold atV;rw[h];rfl
  obtain⟨a,ha⟩:=place_at hf (i:=s.toNat) (by rw[hn];exact h2)
  exact .inr ⟨rfl,e,a,by rw[e,ha]⟩
set_option maxHeartbeats 2000000 in
theorem gsteps_g (fr:FR) (g:PG) (t:GT) (o:SOp) {m:Nat}(hg:g.Ok m) (hm:m≤900) (hf:fr.Ok g):GCallE Tryz.prog 95 [.bx 1001 0 0,.d (.row o.row)] (GE fr g t) (λt':GT=>some (GE fr (g.step o).1 t',.d (ansA (g.step o).2))):=by
 refine GC_EL Tryz.func95 Tryz.ntmps95 (ReadsS.cN Tryz.results95 Tryz.isAgg37 Tryz.sizeOf37) λhok hokB M0 w0 hl=>?_
 obtain⟨ad,had⟩:∃ad,atV fr g o.site=.pointer ad:=by
  rcases atV_cases hf hg.sl o.site with⟨_,h⟩|⟨_,_,a,h⟩
  ·exact⟨_,h⟩
  ·exact⟨_,h⟩
 have hsl:=hf.sl
 refine Aw_sr ?_
 refine Al_p Pu_bN ?_
 refine Al_al Tryz.zeroValue37 λg4=>?_
 refine Al_ns ?_
 refine Al_ml ?_
 refine Al_p (Pu_fd 2 Tryz.underlying41 Tryz.sizeOf3) ?_
 refine Al_p (Pu_l1 Tryz.isAgg3) ?_
 refine Al_p (Pu_gcall [(1001,1001,0),(1002,1002,0),(1003,1003,0),(1004,1004,0),(1005,1005,0),(1006,1006,0),(1007,1007,0)] (gat_g fr g t o.site hf hg.sl) (GE_in ..) rfl ⟨rfl,rfl,rfl,rfl,rfl,rfl,rfl,trivial⟩ rfl ⟨Sub.rfl,Sub.rfl,trivial⟩) ?_
 refine Al_mr ?_
 refine Al_nil (Aw_seq (Aw_sr ?_))
 refine Al_ml ?_
 refine Al_p (Pu_eqnilV had Tryz.underlying92 rfl rfl) ?_
 refine Al_nil ?_
 refine Aw_cond rfl (λh13=>?_) (λh13=>?_)
 ·(try simp only[A.cd_]at h13)
  have e1:g.step o=(g,1,[]):=by
   rcases atV_cases hf hg.sl o.site with⟨h,_⟩|⟨_,_,a,h⟩
   ·unfold PG.step;rw[h];rfl
   ·rw[had]at h;cases h;simp at h13
  refine Aw_sr ?_
  refine Al_p (Pu_call (gtold_a 6 1) rfl ⟨Sub.rfl,trivial⟩) ?_
  refine Al_sN Tryz.isAgg37 Tryz.sizeOf37 ?_
  refine Al_nil ?_
  exact Aw_ret (⟨t,_,_,[],rfl,⟨_,rfl,_,_,_,_,_,[_,_],rfl,rfl,rfl,rfl,by rw[e1]<;>rfl⟩,⟨by rw[e1]<;>rfl,rfl,by rw[e1]<;>rfl,by rw[e1]<;>rfl,by rw[e1]<;>rfl,by rw[e1]<;>rfl,rfl,trivial⟩,rfl⟩)
 ·(try simp only[A.cd_]at h13)
  obtain⟨hS,hav⟩:g.isS o.site=true∧atV fr g o.site=fr.sp.getD o.site.toNat default:=by
   rcases atV_cases hf hg.sl o.site with⟨_,h⟩|⟨h,h2,_⟩
   ·rw[had]at h;cases h;simp at h13
   ·exact⟨h,h2⟩
  obtain⟨hs0,hsn⟩:=PG.isS_iff hS
  have hi:o.site.toNat<g.S.length:=by rw[hg.sl];exact hsn
  have hp:(g.S.getD o.site.toNat default).Ok m:=hg.site (i:=o.site) hsn
  refine Aw_skip (Aw_sr ?_)
  refine Al_ml ?_
  refine Al_gcallE [(1001,1005,0)] [] (gsStep_g hsl hi hp (by omega)) rfl rfl rfl (by decide) (by kernel_rfl) ⟨rfl,trivial⟩ (λ_=>rfl) rfl rfl ⟨by rw[←hav];exact Sub.rfl,trivial⟩ ?_
  rintro F g17
  refine Al_ml ?_
  refine Al_p Pu_ex ?_
  refine Al_p Pu_ex ?_
  refine Al_al Tryz.zeroValue50 λg6=>?_
  refine Al_sN Tryz.isAgg50 Tryz.sizeOf50 ?_
  refine Al_mr ?_
  refine Al_nil (Aw_seq (Aw_sr ?_))
  refine Al_ml ?_
  refine Al_p Pu_n ?_
  refine Al_nil ?_
  refine Aw_cond rfl (λh21=>?_) (λh21=>?_)
  ·skip
   have hn:(g.site o.site).stepV=none:=by
    have h1:(!(g.site o.site).stepV.isSome)=true:=h21
    cases hx:(g.site o.site).stepV with
    | none=>rfl
    | some v=>rw[hx]at h1;cases h1
   have e1:g.step o=(g,12,[]):=by unfold PG.step;rw[hS,hn];rfl
   have hws:g.S.set o.site.toNat (g.S.getD o.site.toNat default).step=g.S:=by
    have:(g.S.getD o.site.toNat default).step=g.S.getD o.site.toNat default:=by
     show(g.site o.site).step=g.site o.site
     unfold PS.step;rw[hn]
    rw[this];exact congrArg PG.S (g.setS_self o.site)
   refine Aw_sr ?_
   refine Al_p (Pu_call (gtold_a 6 12) rfl ⟨Sub.rfl,trivial⟩) ?_
   refine Al_sN Tryz.isAgg37 Tryz.sizeOf37 ?_
   refine Al_nil ?_
   exact Aw_ret (⟨{t with Fs:=F},_,_,[],rfl,⟨_,rfl,_,_,_,_,_,[_,_],rfl,rfl,rfl,rfl,by rw[e1]<;>rfl⟩,⟨by rw[e1]<;>rfl,rfl,by rw[e1]<;>rfl,by rw[e1]<;>rfl,by rw[hws,e1];rfl,by rw[e1]<;>rfl,rfl,trivial⟩,rfl⟩)
  ·skip
   obtain⟨v,hvs⟩:∃v,(g.site o.site).stepV=some v:=by
    have h1:(!(g.site o.site).stepV.isSome)=false:=h21
    cases hx:(g.site o.site).stepV with
    | none=>rw[hx]at h1;cases h1
    | some v=>exact⟨v,rfl⟩
   have e1:g.step o=(g.setS o.site (g.site o.site).step,0,[(g.site o.site).stepV.getD default]):=by unfold PG.step;rw[hS,hvs];rfl
   refine Aw_skip (Aw_sr ?_)
   refine Al_p (Pu_lbN (r:=[_,_,_,_,_,_]) Tryz.isAgg50 Tryz.sizeOf50) ?_
   refine Al_p (Pu_slice1 rfl Tryz.underlying35 Tryz.sizeOf50 Tryz.zeroValue50 rfl (by decide) (by decide) (by kernel_rfl) rfl rfl rfl) ?_
   refine Al_p (Pu_call (gfound_a [(g.site o.site).stepV.getD default]) rfl ⟨Sub.rfl,trivial⟩) ?_
   refine Al_sN Tryz.isAgg37 Tryz.sizeOf37 ?_
   refine Al_nil ?_
   exact Aw_ret (⟨{t with Fs:=F},_,_,[],rfl,⟨_,rfl,_,_,_,_,_,[_,_],rfl,rfl,rfl,rfl,by rw[e1]<;>rfl⟩,⟨by rw[e1]<;>rfl,rfl,by rw[e1]<;>rfl,by rw[e1]<;>rfl,by rw[e1]<;>rfl,by rw[e1]<;>rfl,rfl,trivial⟩,rfl⟩)
theorem PG.fly_ask (g:PG) {np:List Value}(hl:np.length=g.Y.length) (a b:Int):(N.ask g.n (N.vX np g.Y) a b [] (·.way)).length=g.fly a b:=by
 rw[N.vAsk hl]
 unfold PG.fly PG.ses
 cases N.vAt g.n g.Y a b with
 | none=>rfl
 | some s=>exact s.ses_inj_len.2
theorem FR.Ok.updY {fr:FR}{g:PG}(h:fr.Ok g) (a b:Int) (f:VS→VS):fr.Ok (g.updY a b f):=⟨h.sl,by rw[h.nl];exact(N.vUpd_len ..).symm,h.np,h.sp,h.s6⟩
theorem PG.ses_idx {g:PG}{a b:Int}{s:VS}(h:g.ses a b=some s):a=(a.toNat:Int)∧a.toNat<g.n∧b=(b.toNat:Int)∧b.toNat<g.n:=by
 unfold PG.ses N.vAt at h
 obtain⟨i,hi,_⟩:=Option.bind_eq_some_iff.1 h
 have:=N.idx_some hi
 omega
set_option maxHeartbeats 4000000 in
theorem gpick_g (fr:FR) (g:PG) (t:GT) (o:SOp) {m:Nat}(hg:g.Ok m) (hm:m≤900) (hf:fr.Ok g):GCallE Tryz.prog 93 [.bx 1001 0 0,.d (.row o.row)] (GE fr g t) (λt':GT=>some (GE fr (g.pick o).1 t',.d (ansA (g.pick o).2))):=by
 refine GC_EL Tryz.func93 Tryz.ntmps93 (ReadsS.cN Tryz.results93 Tryz.isAgg37 Tryz.sizeOf37) λhok hokB M0 w0 hl=>?_
 have hnl:=hf.nl
 have hsl:=hf.sl
 have hpl:=N.vX_places (Y:=g.Y) hf.np
 have hY:∀s∈g.Y,s.Fit 1000:=λs hs=>(hg.yf s hs).mono (by omega)
 have hfl:=PG.fly_ask g hnl o.site o.to'
 refine Aw_sr ?_
 refine Al_p Pu_bN ?_
 refine Al_al Tryz.zeroValue37 λg4=>?_
 refine Al_nil (Aw_seq ?_)
 refine Aw_dr 9 ?_
 refine Dr_ml ?_
 refine Dr_p Pu_nb ?_
 refine Dr_p (Pu_fb 4 Tryz.underlying91 Tryz.sizeOf83) ?_
 refine Dr_p (Pu_lb Tryz.isAgg83) ?_
 refine Dr_p (Pu_fd 2 Tryz.underlying41 Tryz.sizeOf3) ?_
 refine Dr_p (Pu_l1 Tryz.isAgg3) ?_
 refine Dr_p (Pu_fd 3 Tryz.underlying41 Tryz.sizeOf3) ?_
 refine Dr_p (Pu_l1 Tryz.isAgg3) ?_
 refine Dr_p (Pu_gcall [(1001,1002,0),(1002,1003,0),(1003,1004,0)] (ntFly_g g.n fr.b fr.cnt t.Fn (N.vX fr.np g.Y) o.site o.to' hpl (N.vX_fit hY)) (NT_in ..) rfl ⟨rfl,rfl,rfl,trivial⟩ rfl ⟨Sub.rfl,Sub.rfl,Sub.rfl,trivial⟩) ?_
 refine Dr_nil ?_
 refine Al_mr ?_
 refine Al_nil (Aw_seq (Aw_sr ?_))
 refine Al_p (Pu_fd 4 Tryz.underlying41 Tryz.sizeOf3) ?_
 refine Al_p (Pu_l1 Tryz.isAgg3) ?_
 refine Al_p Pu_cp ?_
 refine Al_ml ?_
 refine Al_s (St_g [] trivial (λ_=>Pu_fd 4 Tryz.underlying41 Tryz.sizeOf3)) ?_
 refine Al_s (St_g [26] ⟨⟨_,rfl⟩,trivial⟩ (λ_=>Pu_l1 Tryz.isAgg3)) ?_
 refine Al_s (St_g [] trivial (λ_=>Pu_mvl)) ?_
 refine Al_s (St_g [28] ⟨⟨_,rfl⟩,trivial⟩ (λ_=>Pu_ln Tryz.underlying103)) ?_
 refine Al_s (St_g [27,29] ⟨⟨_,rfl⟩,⟨_,rfl⟩,trivial⟩ (λ_=>Pu_cp)) ?_
 refine Al_p Pu_o ?_
 refine Al_nil ?_
 refine Aw_cond rfl (λh31=>?_) (λh31=>?_)
 ·skip
  have h0:(decide (o.at'<0)||decide (((N.ask g.n (N.vX fr.np g.Y) o.site o.to' [] (·.way)).length:Int)≤o.at'))=true:=h31
  rw[hfl]at h0
  simp only[Bool.or_eq_true,decide_eq_true_eq]at h0
  have e1:g.pick o=(g,12,[]):=by
   unfold PG.pick
   cases hx:g.ses o.site o.to' with
   | none=>rfl
   | some s =>
    have hw:s.inW o.at'=false:=by
     have hfy:g.fly o.site o.to'=s.way.length:=by unfold PG.fly;rw[hx]
     rw[hfy]at h0
     unfold VS.inW
     simp only[Bool.and_eq_false_iff,decide_eq_false_iff_not]
     omega
    simp only[hw,if_true]
  refine Aw_sr ?_
  refine Al_p (Pu_call (gtold_a 6 12) rfl ⟨Sub.rfl,trivial⟩) ?_
  refine Al_sN Tryz.isAgg37 Tryz.sizeOf37 ?_
  refine Al_nil ?_
  exact Aw_ret (⟨t,_,_,[],rfl,⟨_,rfl,_,_,_,_,_,[_,_],rfl,rfl,rfl,rfl,by rw[e1]<;>rfl⟩,⟨by rw[e1]<;>rfl,rfl,by rw[e1]<;>rfl,by rw[e1]<;>rfl,by rw[e1]<;>rfl,by rw[e1]<;>rfl,rfl,trivial⟩,rfl⟩)
 ·skip
  have h0:(decide (o.at'<0)||decide (((N.ask g.n (N.vX fr.np g.Y) o.site o.to' [] (·.way)).length:Int)≤o.at'))=false:=h31
  rw[hfl]at h0
  simp only[Bool.or_eq_false_iff,decide_eq_false_iff_not]at h0
  obtain⟨s,hx⟩:∃s,g.ses o.site o.to'=some s:=by
   cases hx:g.ses o.site o.to' with
   | none =>
    have hfy:g.fly o.site o.to'=0:=by unfold PG.fly;rw[hx]
    rw[hfy]at h0;omega
   | some s=>exact⟨s,rfl⟩
  have hw:s.inW o.at'=true:=by
   have hfy:g.fly o.site o.to'=s.way.length:=by unfold PG.fly;rw[hx]
   rw[hfy]at h0
   unfold VS.inW
   simp only[Bool.and_eq_true,decide_eq_true_eq]
   omega
  obtain⟨ha0,han,hb0,hbn⟩:=PG.ses_idx hx
  have hsf:=hg.yf s (N.vAt_mem hx)
  have hat:N.at' g.n (N.vX fr.np g.Y) o.site o.to'=some s.ses:=by rw[N.vAt_ses hnl];exact congrArg (Option.map VS.ses) hx
  have hws:N.inW s.ses o.at'=true:=by rw[VS.inW_ses];exact hw
  have hst:N.upd g.n (N.vX fr.np g.Y) o.site o.to' (λs=>N.pick s o.at' o.how)=N.vX fr.np (N.vUpd g.n g.Y o.site o.to' (·.pick o.at' o.how)):=N.vUpd_ses hnl _ _ λs' hs'=>by
   rw[show N.vAt g.n g.Y o.site o.to'=some s from hx]at hs'
   cases hs'
   exact VS.pick_ses _ hw
  have hmp:mapP g.n fr.b fr.cnt (N.upd g.n (N.vX fr.np g.Y) o.site o.to' (λs=>N.pick s o.at' o.how))=mapP g.n fr.b fr.cnt (N.vX fr.np (N.vUpd g.n g.Y o.site o.to' (·.pick o.at' o.how))):=by rw[mapP_upd,mapP_v hnl]
  have hwo:=VS.would_ses hw
  refine Aw_skip ?_
  refine Aw_seq ?_
  refine Aw_drawP 12 4 (by kernel_rfl) (by kernel_rfl) rfl ?_
  refine Dr_ml ?_
  refine Dr_p Pu_nb ?_
  refine Dr_p (Pu_fb 4 Tryz.underlying91 Tryz.sizeOf83) ?_
  refine Dr_p (Pu_lb Tryz.isAgg83) ?_
  refine Dr_p (Pu_fd 2 Tryz.underlying41 Tryz.sizeOf3) ?_
  refine Dr_p (Pu_l1 Tryz.isAgg3) ?_
  refine Dr_p (Pu_fd 3 Tryz.underlying41 Tryz.sizeOf3) ?_
  refine Dr_p (Pu_l1 Tryz.isAgg3) ?_
  refine Dr_p (Pu_fd 4 Tryz.underlying41 Tryz.sizeOf3) ?_
  refine Dr_p (Pu_l1 Tryz.isAgg3) ?_
  refine Dr_p (Pu_gcall [(1001,1002,0),(1002,1003,0),(1003,1004,0)] ((ntTakes_g g.n fr.b fr.cnt t.Fn (N.vX fr.np g.Y) o.site o.to' o.at' s.ses hat hws (N.vX_fit hY)).tup) (NT_in ..) rfl ⟨rfl,rfl,rfl,trivial⟩ rfl ⟨Sub.rfl,Sub.rfl,Sub.rfl,Sub.rfl,trivial⟩) ?_
  refine Dr_ml ?_
  refine Dr_nil ?_
  refine Ad_t 12 rfl PuI_ex ?_
  refine Ad_t 13 rfl PuI_ex ?_
  refine Ad_t 14 rfl (PuI_move (.inr rfl) (by conv=>lhs;whnf)) ?_
  refine Ad_t 15 rfl (PuI_move (.inr rfl) (by conv=>lhs;whnf)) ?_
  refine Ad_d ?_
  refine Aw_sr ?_
  refine Al_p (Pu_fd 5 Tryz.underlying41 Tryz.sizeOf3) ?_
  refine Al_p (Pu_l1 Tryz.isAgg3) ?_
  refine Al_p (Pu_int_and (r:=N.hw3 o.how) rfl rfl rfl rfl (λ_=>V.i64_ok _)) ?_
  refine Al_mr ?_
  refine Al_nil (Aw_seq (Aw_sr ?_))
  refine Al_ml ?_
  refine Al_p Pu_cp ?_
  refine Al_ml ?_
  refine Al_s (St_g [] trivial (λ_=>Pu_mvl)) ?_
  refine Al_s (St_g [53] ⟨⟨_,rfl⟩,trivial⟩ (λ_=>Pu_cp)) ?_
  refine Al_p Pu_o ?_
  refine Al_ml ?_
  refine Al_s (St_g [] trivial (λ_=>Pu_mvl)) ?_
  refine Al_s (St_g [57] ⟨⟨_,rfl⟩,trivial⟩ (λ_=>Pu_n)) ?_
  refine Al_p Pu_o ?_
  refine Al_nil ?_
  refine Aw_cond rfl (λh59=>?_) (λh59=>?_)
  ·skip
   have h1:(decide (N.hw3 o.how=1)||decide (N.hw3 o.how=2)||!N.would s.ses o.at')=true:=h59
   rw[hwo]at h1
   simp only[Bool.or_eq_true,decide_eq_true_eq,Bool.not_eq_true']at h1
   have e1:g.pick o=(g.updY o.site o.to' (·.pick o.at' o.how),0,[]):=by
    unfold PG.pick
    rw[hx]
    simp only[hw]
    rw[if_neg (by simp),if_pos (by rcases h1 with(h|h)|h;exact .inl h;exact .inr (.inl h);exact .inr (.inr h))]
   refine Aw_seq ?_
   refine Aw_drawP 12 1 (by kernel_rfl) (by kernel_rfl) rfl ?_
   refine Dr_ml ?_
   refine Dr_p Pu_nb ?_
   refine Dr_p (Pu_fb 4 Tryz.underlying91 Tryz.sizeOf83) ?_
   refine Dr_p (Pu_lb Tryz.isAgg83) ?_
   refine Dr_p (Pu_fd 2 Tryz.underlying41 Tryz.sizeOf3) ?_
   refine Dr_p (Pu_l1 Tryz.isAgg3) ?_
   refine Dr_p (Pu_fd 3 Tryz.underlying41 Tryz.sizeOf3) ?_
   refine Dr_p (Pu_l1 Tryz.isAgg3) ?_
   refine Dr_p (Pu_fd 4 Tryz.underlying41 Tryz.sizeOf3) ?_
   refine Dr_p (Pu_l1 Tryz.isAgg3) ?_
   refine Dr_p (Pu_fd 5 Tryz.underlying41 Tryz.sizeOf3) ?_
   refine Dr_p (Pu_l1 Tryz.isAgg3) ?_
   refine Dr_nil ?_
   refine Ad_o 12 ?_
   refine Al_gcallE [(1001,1002,0),(1002,1003,0),(1003,1004,0)] [] (ntPick_g g.n fr.b fr.cnt t.Fn (N.vX fr.np g.Y) o.site o.to' o.at' o.how s.ses hat hws (N.vX_fit hY)) rfl rfl rfl (by decide) (by kernel_rfl) ⟨rfl,rfl,rfl,trivial⟩ (λ_=>rfl) rfl rfl ⟨Sub.rfl,Sub.rfl,Sub.rfl,Sub.rfl,Sub.rfl,trivial⟩ ?_
   rintro F g72
   refine Al_nil ?_
   refine Ad_d ?_
   refine Aw_sr ?_
   refine Al_p (Pu_build (aa:=[]) rfl Tryz.underlying37 Tryz.zeroValue37 places37 (by kernel_rfl) trivial rfl) ?_
   refine Al_sN Tryz.isAgg37 Tryz.sizeOf37 ?_
   refine Al_nil ?_
   refine Aw_boxle (k:=4) ([iv 0,versA []].map .d) rfl ⟨Sub.rfl,Sub.nil,trivial⟩ ?_
   exact Aw_ret (⟨{t with Fn:=F},_,_,[],rfl,⟨_,rfl,_,_,_,_,_,[_,_],rfl,rfl,rfl,rfl,by rw[e1]<;>rfl⟩,⟨by rw[e1];rfl,rfl,by rw[e1];exact A.obE hmp,by rw[e1];exact A.obE (congrArg (λX=>AO.op (starP SES F X)) hst),by rw[e1];rfl,by rw[e1];rfl,rfl,trivial⟩,rfl⟩)
  ·skip
   have h1:(decide (N.hw3 o.how=1)||decide (N.hw3 o.how=2)||!N.would s.ses o.at')=false:=h59
   rw[hwo]at h1
   simp only[Bool.or_eq_false_iff,decide_eq_false_iff_not,Bool.not_eq_false']at h1
   obtain⟨⟨hh1,hh2⟩,hwd⟩:=h1
   have hD:=VS.wouldD_ses hw hwd
   have hvk:J.checkB (s.at' o.at').2=true:=hsf.vw _ (VS.mem_at hw)
   have hto:(T.next g.c o.to'.toNat o.site (s.at' o.at').2.key).length≤6:=Nat.le_trans (T.next_len ..) hg.par.le
   have hnx:=next_a g.c hg.par hg.row o.to'.toNat hbn o.site (s.at' o.at').2.key
   rw[←hb0]at hnx
   have hi:o.to'.toNat<g.S.length:=by rw[hg.sl];exact hbn
   have hisp:o.to'.toNat<fr.sp.length:=by rw[hsl];exact hi
   have hp:(g.S.getD o.to'.toNat default).Ok m:=hg.site (i:=o.to') hbn
   refine Aw_skip (Aw_sr ?_)
   refine Al_ml ?_
   refine Al_p (Pu_call (wireread_a (s.at' o.at').2 hvk) rfl ⟨Sub.d (by rw[hD]),trivial⟩) ?_
   refine Al_ml ?_
   refine Al_p Pu_ex ?_
   refine Al_p Pu_ex ?_
   refine Al_al Tryz.zeroValue50 λg9=>?_
   refine Al_sN Tryz.isAgg50 Tryz.sizeOf50 ?_
   refine Al_mr ?_
   refine Al_nil (Aw_seq ?_)
   refine Aw_dr 8 ?_
   refine Dr_ml ?_
   refine Dr_p Pu_nb ?_
   refine Dr_p (Pu_fb 3 Tryz.underlying91 Tryz.sizeOf85) ?_
   refine Dr_p (Pu_lb Tryz.isAgg85) ?_
   refine Dr_p (Pu_fd 3 Tryz.underlying41 Tryz.sizeOf3) ?_
   refine Dr_p (Pu_l1 Tryz.isAgg3) ?_
   refine Dr_p (Pu_indexX (j:=o.to'.toNat) (k:=1007) rfl Tryz.underlying85 Tryz.sizeOf92 rfl rfl rfl hb0 (by rw[List.length_map];exact hisp)) ?_
   refine Dr_p (Pu_loadX1 (k:=1007) rfl Tryz.isAgg92 rfl rfl (sp_at hisp)) ?_
   refine Dr_nil ?_
   refine Al_mr ?_
   refine Al_nil (Aw_seq ?_)
   refine Aw_dr 11 ?_
   refine Dr_ml ?_
   refine Dr_p Pu_nb ?_
   refine Dr_p (Pu_fb 0 Tryz.underlying91 Tryz.sizeOf30) ?_
   refine Dr_p (Pu_lbN (r:=[_,_,_]) Tryz.isAgg30 Tryz.sizeOf30) ?_
   refine Dr_p (Pu_fd 3 Tryz.underlying41 Tryz.sizeOf3) ?_
   refine Dr_p (Pu_l1 Tryz.isAgg3) ?_
   refine Dr_p (Pu_fd 2 Tryz.underlying41 Tryz.sizeOf3) ?_
   refine Dr_p (Pu_l1 Tryz.isAgg3) ?_
   refine Dr_p (Pu_fb 0 Tryz.underlying50 Tryz.sizeOf9) ?_
   refine Dr_p (Pu_lb Tryz.isAgg9) ?_
   refine Dr_p (Pu_call (hnx) rfl ⟨Sub.rfl,Sub.rfl,Sub.rfl,Sub.rfl,trivial⟩) ?_
   refine Dr_nil ?_
   refine Al_mr ?_
   refine Al_nil (Aw_seq (Aw_seq ?_))
   refine Aw_dr 18 ?_
   refine Dr_ml ?_
   refine Dr_p (Pu_gcall [(1001,1005,0)] (gsOwn_g hsl hi hp) (SX_in ..) rfl ⟨rfl,trivial⟩ rfl ⟨Sub.rfl,trivial⟩) ?_
   refine Dr_p (Pu_fb 0 Tryz.underlying50 Tryz.sizeOf9) ?_
   refine Dr_p (Pu_lb Tryz.isAgg9) ?_
   refine Dr_p (Pu_call (find_a (g.S.getD o.to'.toNat default).rs (s.at' o.at').2.key hp.rl) rfl ⟨Sub.rfl,Sub.rfl,trivial⟩) ?_
   refine Dr_p Pu_cp ?_
   refine Dr_ml ?_
   refine Dr_s (St_g [] trivial (λ_=>Pu_mvl)) ?_
   refine Dr_s (St_g [105] ⟨⟨_,rfl⟩,trivial⟩ (λ_=>Pu_gcall [(1001,1005,0)] (gsWaiting_g hsl hi) (SX_in ..) rfl ⟨rfl,trivial⟩ rfl ⟨Sub.rfl,trivial⟩)) ?_
   refine Dr_s (St_g [106] ⟨⟨_,rfl⟩,trivial⟩ (λ_=>Pu_cp)) ?_
   refine Dr_p Pu_a ?_
   refine Dr_ml ?_
   refine Dr_s (St_g [] trivial (λ_=>Pu_mvl)) ?_
   refine Dr_s (St_g [] trivial (λ_=>Pu_fd 3 Tryz.underlying41 Tryz.sizeOf3)) ?_
   refine Dr_s (St_g [111] ⟨⟨_,rfl⟩,trivial⟩ (λ_=>Pu_l1 Tryz.isAgg3)) ?_
   refine Dr_s (St_g [] trivial (λ_=>Pu_mvl)) ?_
   refine Dr_s (St_gd [110,112,113] rfl rfl rfl rfl ⟨⟨_,rfl⟩,⟨_,rfl⟩,⟨_,rfl⟩,trivial⟩ (λhg114=>by exact Pu_gcall [(1001,1001,0),(1002,1002,0),(1003,1003,0),(1004,1004,0),(1005,1005,0),(1006,1006,0),(1007,1007,0)] (gfull_g fr g t o.to' (T.next g.c o.to'.toNat o.site (s.at' o.at').2.key) hf hY (by omega)) (GE_in ..) rfl ⟨rfl,rfl,rfl,rfl,rfl,rfl,rfl,trivial⟩ rfl ⟨Sub.rfl,Sub.rfl,Sub.rfl,trivial⟩)) ?_
   refine Dr_p Pu_o ?_
   refine Dr_nil (Al_nil ?_)
   refine Aw_cond rfl (λh115=>?_) (λh115=>?_)
   ·skip
    have h2:((decide (findR (g.site o.to').rs (s.at' o.at').2.key≥0)&&decide (((g.site o.to').wait.length:Int)≥24))||g.full o.to' (g.pickT o (s.at' o.at').2))=true:=h115
    simp only[Bool.or_eq_true,Bool.and_eq_true,decide_eq_true_eq]at h2
    have e1:g.pick o=(g,15,[]):=by
     unfold PG.pick
     rw[hx]
     simp only[hw]
     rw[if_neg (by simp),if_neg (by rintro(h|h|h);exact hh1 h;exact hh2 h;rw[hwd]at h;cases h),if_pos (by rcases h2 with h|h;exact .inl ⟨h.1,by omega⟩;exact .inr h)]
    refine Aw_sr ?_
    refine Al_p (Pu_call (gtold_a 6 15) rfl ⟨Sub.rfl,trivial⟩) ?_
    refine Al_sN Tryz.isAgg37 Tryz.sizeOf37 ?_
    refine Al_nil ?_
    exact Aw_ret (⟨t,_,_,[],rfl,⟨_,rfl,_,_,_,_,_,[_,_],rfl,rfl,rfl,rfl,by rw[e1]<;>rfl⟩,⟨by rw[e1]<;>rfl,rfl,by rw[e1]<;>rfl,by rw[e1]<;>rfl,by rw[e1]<;>rfl,by rw[e1]<;>rfl,rfl,trivial⟩,rfl⟩)
   ·skip
    have h2:((decide (findR (g.site o.to').rs (s.at' o.at').2.key≥0)&&decide (((g.site o.to').wait.length:Int)≥24))||g.full o.to' (g.pickT o (s.at' o.at').2))=false:=h115
    have e1:g.pick o=(((g.updY o.site o.to' (·.pick o.at' o.how)).setS o.to' ((g.site o.to').arrive (s.at' o.at').2)).send o.to' (T.next g.c o.to'.toNat o.site (s.at' o.at').2.key) (s.at' o.at').2,0,[(s.at' o.at').2]):=by
     unfold PG.pick
     rw[hx]
     simp only[hw]
     rw[if_neg (by simp),if_neg (by rintro(h|h|h);exact hh1 h;exact hh2 h;rw[hwd]at h;cases h),if_neg (by
      simp only[Bool.or_eq_false_iff,Bool.and_eq_false_iff,decide_eq_false_iff_not]at h2
      rintro(h|h)
      ·obtain⟨h3,h4⟩:=h2;omega
      ·rw[h2.2]at h;cases h)]
     rfl
    have hf2:fr.Ok ((g.updY o.site o.to' (·.pick o.at' o.how)).setS o.to' ((g.site o.to').arrive (s.at' o.at').2)):=(hf.updY ..).setS ..
    have hY2:∀s'∈N.vUpd g.n g.Y o.site o.to' (·.pick o.at' o.how),s'.Fit (m+33):=N.vUpd_fit (m:=m) (m':=m+33) hg.yf (by omega) λs' hs'=>by
     rw[show N.vAt g.n g.Y o.site o.to'=some s from hx]at hs'
     cases hs'
     exact((hsf.mono (m':=m+32) (by omega)).pick _ hw (by omega))
    refine Aw_skip ?_
    refine Aw_seq ?_
    refine Aw_drawP 12 1 (by kernel_rfl) (by kernel_rfl) rfl ?_
    refine Dr_ml ?_
    refine Dr_p Pu_nb ?_
    refine Dr_p (Pu_fb 4 Tryz.underlying91 Tryz.sizeOf83) ?_
    refine Dr_p (Pu_lb Tryz.isAgg83) ?_
    refine Dr_p (Pu_fd 2 Tryz.underlying41 Tryz.sizeOf3) ?_
    refine Dr_p (Pu_l1 Tryz.isAgg3) ?_
    refine Dr_p (Pu_fd 3 Tryz.underlying41 Tryz.sizeOf3) ?_
    refine Dr_p (Pu_l1 Tryz.isAgg3) ?_
    refine Dr_p (Pu_fd 4 Tryz.underlying41 Tryz.sizeOf3) ?_
    refine Dr_p (Pu_l1 Tryz.isAgg3) ?_
    refine Dr_p (Pu_fd 5 Tryz.underlying41 Tryz.sizeOf3) ?_
    refine Dr_p (Pu_l1 Tryz.isAgg3) ?_
    refine Dr_nil ?_
    refine Ad_o 12 ?_
    refine Al_gcallE [(1001,1002,0),(1002,1003,0),(1003,1004,0)] [] (ntPick_g g.n fr.b fr.cnt t.Fn (N.vX fr.np g.Y) o.site o.to' o.at' o.how s.ses hat hws (N.vX_fit hY)) rfl rfl rfl (by decide) (by kernel_rfl) ⟨rfl,rfl,rfl,trivial⟩ (λ_=>rfl) rfl rfl ⟨Sub.rfl,Sub.rfl,Sub.rfl,Sub.rfl,Sub.rfl,trivial⟩ ?_
    rintro F g129
    refine Al_nil ?_
    refine Ad_d ?_
    refine Aw_sr ?_
    refine Al_ml ?_
    refine Al_p (Pu_lbN (r:=[_,_,_,_,_,_]) Tryz.isAgg50 Tryz.sizeOf50) ?_
    refine Al_gcallE [(1001,1005,0)] [] (gsArrive_g hsl hi hp (by omega) (s.at' o.at').2) rfl rfl rfl (by decide) (by kernel_rfl) ⟨rfl,trivial⟩ (λ_=>rfl) rfl rfl ⟨Sub.rfl,Sub.rfl,trivial⟩ ?_
    rintro F2 g132
    refine Al_ns ?_
    refine Al_ml ?_
    refine Al_p (Pu_fd 3 Tryz.underlying41 Tryz.sizeOf3) ?_
    refine Al_p (Pu_l1 Tryz.isAgg3) ?_
    refine Al_ml ?_
    refine Al_p (Pu_lbN (r:=[_,_,_,_,_,_]) Tryz.isAgg50 Tryz.sizeOf50) ?_
    refine Al_gcallE [(1001,1001,0),(1002,1002,0),(1003,1003,0),(1004,1004,0),(1005,1005,0),(1006,1006,0),(1007,1007,0)] [] (gsend_g fr ((g.updY o.site o.to' (·.pick o.at' o.how)).setS o.to' ((g.site o.to').arrive (s.at' o.at').2)) ⟨F2,F,t.hv⟩ o.to' (T.next g.c o.to'.toNat o.site (s.at' o.at').2.key) (s.at' o.at').2 hvk hf2 (m:=m+33) hY2 (by omega)) rfl rfl rfl (by decide) (by kernel_rfl) ⟨rfl,rfl,A.obE hmp,A.obE (congrArg (λX=>AO.op (starP SES F X)) hst),rfl,rfl,rfl,trivial⟩ (λ_=>rfl) rfl rfl ⟨Sub.rfl,Sub.rfl,Sub.rfl,Sub.rfl,trivial⟩ ?_
    rintro F3 g138
    refine Al_ns ?_
    refine Al_p (Pu_lbN (r:=[_,_,_,_,_,_]) Tryz.isAgg50 Tryz.sizeOf50) ?_
    refine Al_p (Pu_slice1 rfl Tryz.underlying35 Tryz.sizeOf50 Tryz.zeroValue50 rfl (by decide) (by decide) (by kernel_rfl) rfl rfl rfl) ?_
    refine Al_p (Pu_call (gfound_a [(s.at' o.at').2]) rfl ⟨Sub.rfl,trivial⟩) ?_
    refine Al_sN Tryz.isAgg37 Tryz.sizeOf37 ?_
    refine Al_nil ?_
    exact Aw_ret (⟨⟨F2,F3,t.hv⟩,_,_,[],rfl,⟨_,rfl,_,_,_,_,_,[_,_],rfl,rfl,rfl,rfl,by rw[e1]<;>rfl⟩,⟨by rw[e1]<;>rfl,rfl,by rw[e1]<;>rfl,by rw[e1]<;>rfl,by rw[e1]<;>rfl,by rw[e1]<;>rfl,rfl,trivial⟩,rfl⟩)
end Go.Proofs.YtdnijgdmohinlaaGreat
end
section
set_option maxRecDepth 100000
namespace Go.Proofs.YtdnijgdmohinlaaGreat
open Go Go.RowKit A R
open A.RowT
namespace T
def pickR (s:Int) (l:List (Rng×Int)):List Rng:=(l.filter λp=>bit p.2.toNat s).map (·.1)
def rangesOf (c:SRow) (s:Int):List Rng:=if ok c then pickR s (c.ranges.zip c.owners)else[]
theorem pickR_snoc (s:Int) (l:List (Rng×Int)) {k:Nat}(hk:k<l.length):pickR s (l.take (k+1))=pickR s (l.take k)++(if bit l[k].2.toNat s then[l[k].1]else[]):=by
 unfold pickR
 rw[List.take_succ_eq_append_getElem hk,List.filter_append,List.map_append]
 cases h:bit l[k].2.toNat s<;>simp[List.filter_cons,h]
theorem pickR_len (s:Int) (l:List (Rng×Int)):(pickR s l).length≤l.length:=by unfold pickR;rw[List.length_map];exact List.length_filter_le _ _
theorem rangesOf_len (c:SRow) (s:Int):(rangesOf c s).length≤8:=by
 unfold rangesOf
 split
 ·rename_i h
  have h1:=(S.shape_facts (ok_facts h).1).2.2.1
  have h2:=pickR_len s (c.ranges.zip c.owners)
  rw[List.length_zip]at h2
  omega
 ·simp
end T
set_option maxHeartbeats 1000000 in
theorem tranges_a (c:SRow) (s:Int):ACall Tryz.prog 37 [.row c.row,iv s] (.sl 2 ((T.rangesOf c s).map Rng.row)):=by
 refine AC_G Tryz.func37 Tryz.ntmps37 (Reads.r1 Tryz.results37) λhok M0 w0 hnl=>?_
 refine Aw_sr ?_
 refine Al_p Pu_bN ?_
 refine Al_mr ?_
 refine Al_nil (Aw_scope (Aw_seq (Aw_sr ?_)))
 refine Al_p (Pu_lN Tryz.isAgg30 Tryz.sizeOf30) ?_
 refine Al_p (Pu_call (tcheck_a c) rfl ⟨Sub.rfl,trivial⟩) ?_
 refine Al_p Pu_n ?_
 refine Al_nil ?_
 refine Aw_cond rfl (λh10=>?_) (λh10=>?_)
 ·skip
  have hno:T.rangesOf c s=[]:=by
   unfold T.rangesOf;rw[if_neg];simpa using h10
  refine Aw_sr ?_
  refine Al_mr ?_
  refine Al_nil ?_
  refine Aw_ret ?_
  rw[hno];exact Sub.nil
 ·skip
  have hok2:T.ok c=true:=by simpa using h10
  have hR:T.rangesOf c s=T.pickR s (c.ranges.zip c.owners):=by unfold T.rangesOf;rw[if_pos hok2]
  obtain⟨hsh,hown⟩:=T.ok_facts hok2
  obtain⟨n1,n6,n8,no,_⟩:=S.shape_facts hsh
  have hz:(c.ranges.zip c.owners).length=c.ranges.length:=by rw[List.length_zip];omega
  refine Aw_skip (Aw_sr ?_)
  refine Al_mr ?_
  refine Al_nil (Aw_seq (Aw_label (Aw_seq (Aw_sr ?_))))
  refine Al_p (Pu_fd 0 Tryz.underlying30 Tryz.sizeOf28) ?_
  refine Al_p (Pu_l1 Tryz.isAgg28) ?_
  refine Al_p (Pu_ln Tryz.underlying28) ?_
  refine Al_ml ?_
  refine Al_nil (Aw_block ?_)
  refine Aw_own (j:=5) (k:=5) (T:=56) (n:=2) rfl (λg0=>?_)
  refine Aw_loopk (ι:=Nat×Nat) [1,2,12,13] [] (λ(k,g)=>[(14,.d (iv k)),(5,.ow 5 g)]) (λ(k,g)=>[(5,g,.arr 56 2 ((T.pickR s ((c.ranges.zip c.owners).take k)).map Rng.row))]) (λ(k,g)=>k≤c.ranges.length) (λ(k,g)=>c.ranges.length - k) ((0,g0)) (Nat.zero_le _) ⟨Sub.rfl,Sub.rfl,trivial⟩ ⟨rfl,trivial⟩ ?_
  rintro⟨k,g⟩ hk0
  refine Aw_sr ?_
  refine Al_p Pu_cp ?_
  refine Al_nil (Aw_seq ?_)
  refine Aw_cond rfl (λh15=>?_) (λh15=>?_)
  ·(try simp only[A.cd_]at h15)
   have hk:k<c.ranges.length:=by omega
   have hko:k<c.owners.length:=by omega
   have hkz:k<(c.ranges.zip c.owners).length:=by omega
   have hsn:=T.pickR_snoc s (c.ranges.zip c.owners) hkz
   have hpz:(c.ranges.zip c.owners)[k]=(c.ranges[k],c.owners[k]):=List.getElem_zip ..
   rw[hpz]at hsn
   have hpl:=T.pickR_len s ((c.ranges.zip c.owners).take k)
   rw[List.length_take]at hpl
   have ho:=hown _ (List.getElem_mem hko)
   have hpw:=T.pow_le n6
   have h3:((2^c.parents.length:Nat):Int)=(2:Int)^c.parents.length:=by rw[Int.natCast_pow];rfl
   refine Aw_skip ?_
   refine Aw_seq (Aw_block (Aw_sr ?_))
   refine Al_ml ?_
   refine Al_p (Pu_index rfl Tryz.underlying28 Tryz.sizeOf56 rfl rfl (rfl) (mapget hk)) ?_
   refine Al_p (Pu_lN Tryz.isAgg56 Tryz.sizeOf56) ?_
   refine Al_al Tryz.zeroValue56 λg7=>?_
   refine Al_mr ?_
   refine Al_sN Tryz.isAgg56 Tryz.sizeOf56 ?_
   refine Al_nil (Aw_seq (Aw_sr ?_))
   refine Al_p (Pu_fd 1 Tryz.underlying30 Tryz.sizeOf22) ?_
   refine Al_p (Pu_l1 Tryz.isAgg22) ?_
   refine Al_ml ?_
   refine Al_p (Pu_index rfl Tryz.underlying22 Tryz.sizeOf3 rfl rfl (rfl) (mapget hko)) ?_
   refine Al_p (Pu_l1 Tryz.isAgg3) ?_
   refine Al_ml ?_
   refine Al_p (Pu_call (has_a (c.owners[k]).toNat s (by omega)) rfl ⟨Sub.num (by omega),Sub.rfl,trivial⟩) ?_
   refine Al_p Pu_n ?_
   refine Al_nil ?_
   refine Aw_cond rfl (λh26=>?_) (λh26=>?_)
   ·skip
    have hb:T.bit (c.owners[k]).toNat s=false:=by simpa using h26
    refine Aw_exit (Aw_region ?_)
    refine Al_p Pu_ad ?_
    refine Al_ml ?_
    refine Al_nil ?_
    exact⟨(k+1,g),by omega,by simp only[];omega,Le.ov ⟨Sub.num (by omega),Sub.rfl,trivial⟩ ⟨Sub.rfl,Sub.rfl,Sub.rfl,Sub.rfl,trivial⟩ ⟨obeq (by rw[hsn,hb];simp),trivial⟩ trivial⟩
   ·skip
    have hb:T.bit (c.owners[k]).toNat s=true:=by simpa using h26
    refine Aw_skip (Aw_region ?_)
    refine Al_ml ?_
    refine Al_p (Pu_lbN (r:=[_,_]) Tryz.isAgg56 Tryz.sizeOf56) ?_
    refine Al_p (Pu_slice1 rfl Tryz.underlying28 Tryz.sizeOf56 Tryz.zeroValue56 rfl (by decide) (by decide) (by kernel_rfl) rfl rfl rfl) ?_
    refine Al_append rfl rfl rfl (by decide) (by kernel_rfl) elem28 (by decide) Tryz.sizeOf56 rfl rfl rfl (by simp;omega) (by decide) (λg30=>?_)
    refine Al_mr ?_
    refine Al_nil (Aw_region ?_)
    refine Al_p Pu_ad ?_
    refine Al_ml ?_
    refine Al_nil ?_
    exact⟨(k+1,g30),by omega,by simp only[];omega,Le.ov ⟨Sub.num (by omega),Sub.rfl,trivial⟩ ⟨Sub.rfl,Sub.rfl,Sub.rfl,Sub.rfl,trivial⟩ ⟨obeq (by rw[hsn,hb];simp[A.cellsA,Rng.row]),trivial⟩ trivial⟩
  ·(try simp only[A.cd_]at h15)
   have hkk:(c.ranges.zip c.owners).take k=c.ranges.zip c.owners:=List.take_of_length_le (by omega)
   refine Aw_exit (Aw_sr ?_)
   refine Al_ml ?_
   refine Al_mr ?_
   refine Al_nil ?_
   refine Aw_frz hnl (k:=5) [4] rfl ⟨rfl,trivial⟩ ?_
   exact Aw_ret (Sub.d (by rw[hkk,hR]))
end Go.Proofs.YtdnijgdmohinlaaGreat
end
section
set_option maxRecDepth 100000
namespace Go.Proofs.YtdnijgdmohinlaaGreat
open Go Go.RowKit A R
open A.RowT
set_option maxRecDepth 100000 in
theorem cloneRng_g (l:List Rng) (hl:l.length≤1000000):GCall Tryz.prog 81 [.d (.sl 2 (l.map Rng.row))] [] (some ([(1001,.arr 56 2 (l.map Rng.row))],.ow 1001 0)):=by
 refine GC_1 Tryz.func81 Tryz.ntmps81 (ReadsS.r1 Tryz.results81) λhok hokB M0 w0=>?_
 refine Aw_sr ?_
 refine Al_mr ?_
 refine Al_nil (Aw_seq (Aw_sr ?_))
 refine Al_ml ?_
 refine Al_eqnil rfl rfl rfl (by decide) (by kernel_rfl) Tryz.underlying28 rfl (λnl hnl=>?_)
 refine Al_nil ?_
 refine Aw_cond rfl (λh4=>?_) (λh4=>?_)
 ·(try simp only[A.cd_]at h4)
  refine Aw_sr ?_
  refine Al_mr ?_
  refine Al_nil ?_
  obtain rfl:l=[]:=by simpa using hnl h4
  refine Aw_own (j:=2) (k:=2) (T:=56) (n:=2) rfl (λg=>?_)
  exact Aw_ret (⟨_,_,[(1001,2,g)],rfl,Sub.rfl,⟨rfl,trivial⟩,rfl⟩)
 ·(try simp only[A.cd_]at h4)
  refine Aw_skip (Aw_sr ?_)
  refine Al_slice0 rfl rfl rfl (by decide) Tryz.underlying28 Tryz.sizeOf56 (λg5=>?_)
  refine Al_ml ?_
  refine Al_append rfl rfl rfl (by decide) (by kernel_rfl) elem28 (by decide) Tryz.sizeOf56 rfl rfl rfl (by simp;omega) (by decide) (λg7=>?_)
  refine Al_mr ?_
  refine Al_nil ?_
  exact Aw_ret (⟨_,_,[(1001,5,g7)],rfl,Sub.rfl,⟨rfl,trivial⟩,rfl⟩)
set_option maxRecDepth 100000 in
theorem cloneInt_g (l:List Int) (hl:l.length≤1000000):GCall Tryz.prog 82 [.d (.sl 1 (l.map (λx=>[iv x])))] [] (some ([(1001,.arr 3 1 (l.map (λx=>[iv x])))],.ow 1001 0)):=by
 refine GC_1 Tryz.func82 Tryz.ntmps82 (ReadsS.r1 Tryz.results82) λhok hokB M0 w0=>?_
 refine Aw_sr ?_
 refine Al_mr ?_
 refine Al_nil (Aw_seq (Aw_sr ?_))
 refine Al_ml ?_
 refine Al_eqnil rfl rfl rfl (by decide) (by kernel_rfl) Tryz.underlying22 rfl (λnl hnl=>?_)
 refine Al_nil ?_
 refine Aw_cond rfl (λh4=>?_) (λh4=>?_)
 ·(try simp only[A.cd_]at h4)
  refine Aw_sr ?_
  refine Al_mr ?_
  refine Al_nil ?_
  obtain rfl:l=[]:=by simpa using hnl h4
  refine Aw_own (j:=2) (k:=2) (T:=3) (n:=1) rfl (λg=>?_)
  exact Aw_ret (⟨_,_,[(1001,2,g)],rfl,Sub.rfl,⟨rfl,trivial⟩,rfl⟩)
 ·(try simp only[A.cd_]at h4)
  refine Aw_skip (Aw_sr ?_)
  refine Al_slice0 rfl rfl rfl (by decide) Tryz.underlying22 Tryz.sizeOf3 (λg5=>?_)
  refine Al_ml ?_
  refine Al_append rfl rfl rfl (by decide) (by kernel_rfl) elem22 (by decide) Tryz.sizeOf3 rfl rfl rfl (by simp;omega) (by decide) (λg7=>?_)
  refine Al_mr ?_
  refine Al_nil ?_
  exact Aw_ret (⟨_,_,[(1001,5,g7)],rfl,Sub.rfl,⟨rfl,trivial⟩,rfl⟩)
theorem gcopied_a (c:SRow) (h1:c.ranges.length≤1000000) (h2:c.owners.length≤1000000) (h3:c.parents.length≤1000000):ACall Tryz.prog 34 [.row c.row] (.row c.row):=by
 refine AC_G Tryz.func34 Tryz.ntmps34 (Reads.cN Tryz.results34 Tryz.isAgg30 Tryz.sizeOf30) λhok M0 w0 hnl=>?_
 refine Aw_sr ?_
 refine Al_p Pu_bN ?_
 refine Al_al Tryz.zeroValue30 λg2=>?_
 refine Al_nil (Aw_seq ?_)
 refine Aw_dr 10 ?_
 refine Dr_p (Pu_fd 0 Tryz.underlying30 Tryz.sizeOf28) ?_
 refine Dr_p (Pu_l1 Tryz.isAgg28) ?_
 refine Dr_p (Pu_call (GCall.a (aa:=[.sl 2 (c.ranges.map Rng.row)]) (cloneRng_g c.ranges h1)) rfl ⟨Sub.rfl,trivial⟩) ?_
 refine Dr_p (Pu_fd 1 Tryz.underlying30 Tryz.sizeOf22) ?_
 refine Dr_p (Pu_l1 Tryz.isAgg22) ?_
 refine Dr_p (Pu_call (GCall.a (aa:=[.sl 1 (c.owners.map λx=>[iv x])]) (cloneInt_g c.owners h2)) rfl ⟨Sub.rfl,trivial⟩) ?_
 refine Dr_p (Pu_fd 2 Tryz.underlying30 Tryz.sizeOf22) ?_
 refine Dr_p (Pu_l1 Tryz.isAgg22) ?_
 refine Dr_p (Pu_call (GCall.a (aa:=[.sl 1 (c.parents.map λx=>[iv x])]) (cloneInt_g c.parents h3)) rfl ⟨Sub.rfl,trivial⟩) ?_
 refine Dr_p (Pu_build (aa:=[(0,_),(1,_),(2,_)]) rfl Tryz.underlying30 Tryz.zeroValue30 places30 (by kernel_rfl) ⟨rfl,rfl,rfl,rfl,rfl,rfl,rfl,rfl,rfl,trivial⟩ rfl) ?_
 refine Dr_nil ?_
 refine Al_sN Tryz.isAgg30 Tryz.sizeOf30 ?_
 refine Al_nil ?_
 exact Aw_ret (⟨_,_,_,_,_,[_,_,_],rfl,rfl,rfl,rfl,rfl⟩)
namespace PG
def newK (c:SRow) (k:Nat):PG:=⟨c,(List.range c.parents.length).map λi=>PS.zero (i:Nat) (T.rangesOf c (i:Nat)),List.replicate (N.upto c.parents.length c.parents.length 0) ⟨0,[],0,[]⟩,λj=>if j<k then(((j%c.parents.length:Nat):Int),[])else(0,[]),λ_=>([],[]),[],[]⟩
def new (c:SRow):PG:=newK c 4
theorem newK_succ (c:SRow) {k:Nat}:newK c (k+1)=(newK c k).setC (k:Int) (((k%c.parents.length:Nat):Int),[]):=by
 unfold newK setC
 simp only[Int.toNat_natCast]
 congr 1
 funext j
 by_cases h:j=k
 ·subst h;rw[if_pos (by omega),if_pos rfl]
 ·rw[if_neg h]
  by_cases h2:j<k
  ·rw[if_pos (by omega),if_pos h2]
  ·rw[if_neg (by omega),if_neg h2]
theorem new_ok {c:SRow}(hp:T.Ahead c.parents) (hc:T.ok c=true):(new c).Ok 32 where
 par:=hp
 row:=hc
 sl:=by simp[new,newK,PG.n]
 so p hp2:=by
  obtain⟨i,hi,rfl⟩:=List.mem_map.1 hp2
  have h6:=hp.le
  rw[List.mem_range]at hi
  exact(PS.Ok.zero ⟨by omega,by omega⟩ (Nat.le_trans (T.rangesOf_len ..) (by decide))).mono (by decide)
 yl:=by simp[new,newK,PG.n]
 yf s hs:=by
  obtain⟨_,rfl⟩:=List.mem_replicate.1 hs
  exact⟨by decide,by decide,by decide,by decide,λp hp=>(by cases hp),λp hp=>by cases hp⟩
 cs k:=by
  have h1:=hp.pos
  show -1≤(if k<4 then(((k%c.parents.length:Nat):Int),([]:List Dep))else(0,[])).1∧(if k<4 then(((k%c.parents.length:Nat):Int),([]:List Dep))else(0,[])).1<(c.parents.length:Int)∧(if k<4 then(((k%c.parents.length:Nat):Int),([]:List Dep))else(0,[])).2.length≤400
  have h2:=Nat.mod_lt k (show c.parents.length>0 by omega)
  split
  ·refine⟨?_,?_,Nat.zero_le _⟩
   ·show(-1:Int)≤((k%c.parents.length:Nat):Int);omega
   ·show((k%c.parents.length:Nat):Int)<_;omega
  ·refine⟨by decide,?_,Nat.zero_le _⟩
   show(0:Int)<_;omega
 hl:=Nat.zero_le _
end PG
theorem siteX_snoc {sp:List Value}{S:List PS}(h:sp.length=S.length) (v:Value) (p:PS):siteX (sp++[v]) (S++[p])=siteX sp S++[(v,p)]:=by
 unfold siteX
 rw[List.zip_append h];rfl
theorem N.New.vX {n k:Nat}{X:N.XS}(h:N.New n k X):N.vX (X.map (·.1)) (List.replicate k (⟨0,[],0,[]⟩:VS))=X:=by
 have hl:=h.len
 refine List.ext_getElem (by simp[N.vX,hl]) λi h1 h2=>?_
 have hz:=h.zero _ (List.getElem_mem h2)
 simp only[N.vX,List.getElem_zip,List.getElem_map,List.getElem_replicate]
 exact Prod.ext rfl (by rw[hz];rfl)
abbrev nilV:Value:=.slice none 0 0
set_option maxHeartbeats 4000000 in
theorem gnew_g (c:SRow) (hp:T.Ahead c.parents) (hc:T.ok c=true):GCallE Tryz.prog 12 [.d (.row c.row)] [] (λz:{z:FR×GT // z.1.Ok (PG.new c)}=>some (GE z.1.1 (PG.new c) z.1.2,.bx 1001 0 0)):=by
 refine GC_E Tryz.func12 Tryz.ntmps12 (ReadsS.r1 Tryz.results12) λhok hokB M0 w0=>?_
 have hn:=hp.le
 have hn1:=hp.pos
 have hsh:=S.shape_facts (T.ok_facts hc).1
 obtain⟨k1,k2,k3,k4,_⟩:=hsh
 refine Aw_sr ?_
 refine Al_p Pu_bN ?_
 refine Al_mr ?_
 refine Al_nil (Aw_seq (Aw_sr ?_))
 refine Al_p (Pu_lN Tryz.isAgg30 Tryz.sizeOf30) ?_
 refine Al_p (Pu_call (routeC_a c hp) rfl ⟨Sub.rfl,trivial⟩) ?_
 refine Al_p Pu_n ?_
 refine Al_nil ?_
 refine Aw_condF rfl ((by rw[hc];rfl)) ?_
 refine Aw_skip (Aw_sr ?_)
 refine Al_p (Pu_lN Tryz.isAgg30 Tryz.sizeOf30) ?_
 refine Al_p (Pu_call (sites_a c) rfl ⟨Sub.rfl,trivial⟩) ?_
 refine Al_mr ?_
 refine Al_ns ?_
 refine Al_p (Pu_lN Tryz.isAgg30 Tryz.sizeOf30) ?_
 refine Al_p (Pu_call (gcopied_a c (by omega) (by omega) (by omega)) rfl ⟨Sub.rfl,trivial⟩) ?_
 refine Al_ml ?_
 refine Al_gcallE [] [(1001,15),(1002,150),(1003,151)] (ntNew_g c.parents.length ⟨hn1,hn⟩) rfl rfl rfl (by decide) (by kernel_rfl) trivial (λ_=>rfl) rfl rfl ⟨Sub.rfl,trivial⟩ ?_
 rintro⟨⟨nb,Fn,X⟩,hN⟩ g15
 refine Al_p (Pu_buildAg (aa:=[(0,_),(2,_)]) rfl Tryz.underlying91 Tryz.zeroValue91 places91 (by kernel_rfl) ⟨rfl,rfl,rfl,rfl,trivial⟩ rfl) ?_
 refine Al_boxAg rfl rfl rfl (by decide) (by kernel_rfl) rfl (λg17=>?_)
 refine Al_mr ?_
 refine Al_nil (Aw_seq (Aw_seq ?_))
 refine Aw_ghost [] [(1000,61)] 2 (gh_nil (E:=ST)) (λ_ _ _ _ _=>trivial) trivial (λ_=>rfl) rfl rfl (λ_ g61=>?_)
 refine Aw_ghost [] [(1003,62)] 2 (gh_row (T:=92) (n:=1)) (λ_ _ _ _ _=>trivial) trivial (λ_=>rfl) rfl rfl (λ_ g62=>?_)
 refine Aw_ghost [] [(1003,63)] 2 (gh_row (T:=107) (n:=6)) (λ_ _ _ _ _=>trivial) trivial (λ_=>rfl) rfl rfl (λ_ g63=>?_)
 refine Aw_boxle (k:=17) (gcellsN (.bx 15 g15 0) nilV (PG.newK c 0) nilV) rfl ⟨Sub.rfl,Sub.rfl,Sub.rfl,Sub.rfl,Sub.rfl,Sub.rfl,Sub.nil,Sub.rfl,Sub.nil,Sub.rfl,Sub.nil,Sub.rfl,Sub.nil,Sub.nil,Sub.nil,Sub.nil,Sub.nil,Sub.nil,Sub.nil,Sub.nil,Sub.nil,Sub.nil,Sub.rfl,trivial⟩ ?_
 refine Aw_region ?_
 refine Al_ml ?_
 refine Al_ml ?_
 refine Al_nil (Aw_block ?_)
 refine Aw_loopk (ι:=Nat×(Nat→Prop)×(List Value)×Value) [1,3,4,18] [15,150,151,63] (λ(i,Fs,sp,sv)=>[(19,.d (iv i))]) (λ(i,Fs,sp,sv)=>[(17,g17,.box 91 (gcellsN (.bx 15 g15 0) sv (PG.newK c 0) nilV)),(61,g61,.op (starP ST Fs (siteX sp ((List.range i).map λj=>PS.zero (j:Nat) (T.rangesOf c (j:Nat)))))),(62,g62,sitesX sv sp)]) (λ(i,Fs,sp,sv)=>i≤c.parents.length∧sp.length=i∧∀v∈sp,∃a,v=.pointer (some a)) (λ(i,Fs,sp,sv)=>c.parents.length - i) ((0,λ_=>False,[],nilV)) (⟨Nat.zero_le _,⟨rfl,λv hv=>by cases hv⟩⟩) ⟨Sub.rfl,trivial⟩ ⟨rfl,rfl,rfl,trivial⟩ ?_
 rintro⟨i,Fs,sp,sv⟩ ⟨hk0,⟨hspl,hspp⟩⟩
 refine Aw_sr ?_
 refine Al_p Pu_cp ?_
 refine Al_nil (Aw_seq ?_)
 refine Aw_cond rfl (λh20=>?_) (λh20=>?_)
 ·(try simp only[A.cd_]at h20)
  refine Aw_skip ?_
  refine Aw_seq (Aw_block (Aw_sr ?_))
  refine Al_ml ?_
  refine Al_mr ?_
  refine Al_nil ?_
  refine Aw_drawn (by kernel_rfl) ?_
  refine Ad_t 0 rfl (PuI_move (.inl rfl) (by conv=>lhs;whnf)) ?_
  refine Ad_t 1 rfl (PuI_move (.inl rfl) (by conv=>lhs;whnf)) ?_
  refine Ad_t 2 rfl PuI_nb ?_
  refine Ad_t 3 rfl (PuI_fb 3 Tryz.underlying91 Tryz.sizeOf85) ?_
  refine Ad_t 5 rfl (PuI_move (.inl rfl) (by conv=>lhs;whnf)) ?_
  refine Ad_t 7 rfl (PuI_move (.inl rfl) (by conv=>lhs;whnf)) ?_
  refine Ad_two 4 6 rfl rfl (by kernel_rfl) ?_ ?_
  ·refine Al_p (Pu_lb Tryz.isAgg85) ?_
   refine Al_nil ?_
   refine Ad_o 6 ?_
   refine Al_p (Pu_lN Tryz.isAgg30 Tryz.sizeOf30) ?_
   refine Al_nil ?_
   refine Ad_o 8 ?_
   refine Al_p (Pu_call (tranges_a c i) rfl ⟨Sub.rfl,Sub.rfl,trivial⟩) ?_
   refine Al_nil ?_
   refine Ad_o 9 ?_
   refine Al_gcallE [] [(1001,31),(1002,310),(1003,311)] (stNew_g i (by omega) (T.rangesOf c i) (Nat.le_trans (T.rangesOf_len ..) (by decide))) rfl rfl rfl (by decide) (by kernel_rfl) trivial (λ_=>rfl) rfl rfl ⟨Sub.rfl,Sub.rfl,trivial⟩ ?_
   rintro b g31
   refine Al_nil ?_
   refine Ad_o 10 ?_
   refine Al_ghost [(1000,61,g61),(1001,31,g31),(1002,310,g31),(1003,311,g31)] [] 31 (gh_newP (E:=ST) (s':=PS.zero i (T.rangesOf c i)) (t:=b) ⟨⟨_,_,List.mem_cons_self ..⟩,λp hp=>by
    simp only[ST,List.mem_cons,List.not_mem_nil,or_false]at hp
    rcases hp with rfl|rfl|rfl<;>exact⟨Nat.le_of_ble_eq_true rfl,Nat.le_of_ble_eq_true rfl⟩⟩) Sub.rfl ⟨rfl,rfl,rfl,rfl,trivial⟩ (λ_=>rfl) rfl rfl (λy G=>?_)
   obtain⟨F2,pb⟩:=y
   refine Al_p (Pu_slice1 rfl Tryz.underlying85 Tryz.sizeOf92 Tryz.zeroValue92 rfl (by decide) (by decide) (by kernel_rfl) rfl rfl rfl) ?_
   refine Al_nil ?_
   refine Ad_o 11 ?_
   refine Al_appendX (k:=62) rfl rfl rfl (by decide) (by kernel_rfl) site_elem (by decide) Tryz.sizeOf92 rfl rfl rfl (by simp;omega) (by decide) (λv2=>?_)
   refine Al_nil ?_
   refine Ad_t 12 rfl PuI_nb ?_
   refine Ad_t 13 rfl (PuI_fb 3 Tryz.underlying91 Tryz.sizeOf85) ?_
   refine Ad_o 14 ?_
   refine Al_s1 Tryz.isAgg85 Tryz.sizeOf85 ?_
   refine Al_nil ?_
   refine Ad_d ?_
   refine Aw_region ?_
   refine Al_p Pu_ad ?_
   refine Al_ml ?_
   refine Al_nil ?_
   exact⟨(i+1,F2,sp++[.pointer (some ⟨pb,0,none⟩)],v2),⟨by omega,⟨by rw[List.length_append,hspl];rfl,λv hv=>by
    rcases List.mem_append.1 hv with hv|hv
    ·exact hspp v hv
    ·rw[List.mem_singleton.1 hv];exact⟨_,rfl⟩⟩⟩,by simp only[];omega,Le.ov ⟨Sub.num (by omega),trivial⟩ ⟨Sub.rfl,Sub.rfl,Sub.rfl,Sub.rfl,trivial⟩ ⟨rfl,A.obE (congrArg (λX=>AO.op (starP ST F2 X)) (by rw[List.range_succ,List.map_append,List.map_singleton,siteX_snoc (by rw[hspl];simp)])),obeqX (by simp[A.cellsA]),trivial⟩ ⟨rfl,rfl,rfl,rfl,trivial⟩⟩
  ·refine Al_p (Pu_lN Tryz.isAgg30 Tryz.sizeOf30) ?_
   refine Al_nil ?_
   refine Ad_two 4 8 rfl rfl (by kernel_rfl) ?_ ?_
   ·refine Al_p (Pu_lb Tryz.isAgg85) ?_
    refine Al_nil ?_
    refine Ad_o 8 ?_
    refine Al_p (Pu_call (tranges_a c i) rfl ⟨Sub.rfl,Sub.rfl,trivial⟩) ?_
    refine Al_nil ?_
    refine Ad_o 9 ?_
    refine Al_gcallE [] [(1001,31),(1002,310),(1003,311)] (stNew_g i (by omega) (T.rangesOf c i) (Nat.le_trans (T.rangesOf_len ..) (by decide))) rfl rfl rfl (by decide) (by kernel_rfl) trivial (λ_=>rfl) rfl rfl ⟨Sub.rfl,Sub.rfl,trivial⟩ ?_
    rintro b g31
    refine Al_nil ?_
    refine Ad_o 10 ?_
    refine Al_ghost [(1000,61,g61),(1001,31,g31),(1002,310,g31),(1003,311,g31)] [] 31 (gh_newP (E:=ST) (s':=PS.zero i (T.rangesOf c i)) (t:=b) ⟨⟨_,_,List.mem_cons_self ..⟩,λp hp=>by
     simp only[ST,List.mem_cons,List.not_mem_nil,or_false]at hp
     rcases hp with rfl|rfl|rfl<;>exact⟨Nat.le_of_ble_eq_true rfl,Nat.le_of_ble_eq_true rfl⟩⟩) Sub.rfl ⟨rfl,rfl,rfl,rfl,trivial⟩ (λ_=>rfl) rfl rfl (λy G=>?_)
    obtain⟨F2,pb⟩:=y
    refine Al_p (Pu_slice1 rfl Tryz.underlying85 Tryz.sizeOf92 Tryz.zeroValue92 rfl (by decide) (by decide) (by kernel_rfl) rfl rfl rfl) ?_
    refine Al_nil ?_
    refine Ad_o 11 ?_
    refine Al_appendX (k:=62) rfl rfl rfl (by decide) (by kernel_rfl) site_elem (by decide) Tryz.sizeOf92 rfl rfl rfl (by simp;omega) (by decide) (λv2=>?_)
    refine Al_nil ?_
    refine Ad_t 12 rfl PuI_nb ?_
    refine Ad_t 13 rfl (PuI_fb 3 Tryz.underlying91 Tryz.sizeOf85) ?_
    refine Ad_o 14 ?_
    refine Al_s1 Tryz.isAgg85 Tryz.sizeOf85 ?_
    refine Al_nil ?_
    refine Ad_d ?_
    refine Aw_region ?_
    refine Al_p Pu_ad ?_
    refine Al_ml ?_
    refine Al_nil ?_
    exact⟨(i+1,F2,sp++[.pointer (some ⟨pb,0,none⟩)],v2),⟨by omega,⟨by rw[List.length_append,hspl];rfl,λv hv=>by
     rcases List.mem_append.1 hv with hv|hv
     ·exact hspp v hv
     ·rw[List.mem_singleton.1 hv];exact⟨_,rfl⟩⟩⟩,by simp only[];omega,Le.ov ⟨Sub.num (by omega),trivial⟩ ⟨Sub.rfl,Sub.rfl,Sub.rfl,Sub.rfl,trivial⟩ ⟨rfl,A.obE (congrArg (λX=>AO.op (starP ST F2 X)) (by rw[List.range_succ,List.map_append,List.map_singleton,siteX_snoc (by rw[hspl];simp)])),obeqX (by simp[A.cellsA]),trivial⟩ ⟨rfl,rfl,rfl,rfl,trivial⟩⟩
   ·refine Al_p (Pu_call (tranges_a c i) rfl ⟨Sub.rfl,Sub.rfl,trivial⟩) ?_
    refine Al_nil ?_
    refine Ad_two 4 9 rfl rfl (by kernel_rfl) ?_ ?_
    ·refine Al_p (Pu_lb Tryz.isAgg85) ?_
     refine Al_nil ?_
     refine Ad_o 9 ?_
     refine Al_gcallE [] [(1001,31),(1002,310),(1003,311)] (stNew_g i (by omega) (T.rangesOf c i) (Nat.le_trans (T.rangesOf_len ..) (by decide))) rfl rfl rfl (by decide) (by kernel_rfl) trivial (λ_=>rfl) rfl rfl ⟨Sub.rfl,Sub.rfl,trivial⟩ ?_
     rintro b g31
     refine Al_nil ?_
     refine Ad_o 10 ?_
     refine Al_ghost [(1000,61,g61),(1001,31,g31),(1002,310,g31),(1003,311,g31)] [] 31 (gh_newP (E:=ST) (s':=PS.zero i (T.rangesOf c i)) (t:=b) ⟨⟨_,_,List.mem_cons_self ..⟩,λp hp=>by
      simp only[ST,List.mem_cons,List.not_mem_nil,or_false]at hp
      rcases hp with rfl|rfl|rfl<;>exact⟨Nat.le_of_ble_eq_true rfl,Nat.le_of_ble_eq_true rfl⟩⟩) Sub.rfl ⟨rfl,rfl,rfl,rfl,trivial⟩ (λ_=>rfl) rfl rfl (λy G=>?_)
     obtain⟨F2,pb⟩:=y
     refine Al_p (Pu_slice1 rfl Tryz.underlying85 Tryz.sizeOf92 Tryz.zeroValue92 rfl (by decide) (by decide) (by kernel_rfl) rfl rfl rfl) ?_
     refine Al_nil ?_
     refine Ad_o 11 ?_
     refine Al_appendX (k:=62) rfl rfl rfl (by decide) (by kernel_rfl) site_elem (by decide) Tryz.sizeOf92 rfl rfl rfl (by simp;omega) (by decide) (λv2=>?_)
     refine Al_nil ?_
     refine Ad_t 12 rfl PuI_nb ?_
     refine Ad_t 13 rfl (PuI_fb 3 Tryz.underlying91 Tryz.sizeOf85) ?_
     refine Ad_o 14 ?_
     refine Al_s1 Tryz.isAgg85 Tryz.sizeOf85 ?_
     refine Al_nil ?_
     refine Ad_d ?_
     refine Aw_region ?_
     refine Al_p Pu_ad ?_
     refine Al_ml ?_
     refine Al_nil ?_
     exact⟨(i+1,F2,sp++[.pointer (some ⟨pb,0,none⟩)],v2),⟨by omega,⟨by rw[List.length_append,hspl];rfl,λv hv=>by
      rcases List.mem_append.1 hv with hv|hv
      ·exact hspp v hv
      ·rw[List.mem_singleton.1 hv];exact⟨_,rfl⟩⟩⟩,by simp only[];omega,Le.ov ⟨Sub.num (by omega),trivial⟩ ⟨Sub.rfl,Sub.rfl,Sub.rfl,Sub.rfl,trivial⟩ ⟨rfl,A.obE (congrArg (λX=>AO.op (starP ST F2 X)) (by rw[List.range_succ,List.map_append,List.map_singleton,siteX_snoc (by rw[hspl];simp)])),obeqX (by simp[A.cellsA]),trivial⟩ ⟨rfl,rfl,rfl,rfl,trivial⟩⟩
    ·refine Al_gcallE [] [(1001,31),(1002,310),(1003,311)] (stNew_g i (by omega) (T.rangesOf c i) (Nat.le_trans (T.rangesOf_len ..) (by decide))) rfl rfl rfl (by decide) (by kernel_rfl) trivial (λ_=>rfl) rfl rfl ⟨Sub.rfl,Sub.rfl,trivial⟩ ?_
     rintro b g31
     refine Al_nil ?_
     refine Ad_two 4 10 rfl rfl (by kernel_rfl) ?_ ?_
     ·refine Al_p (Pu_lb Tryz.isAgg85) ?_
      refine Al_nil ?_
      refine Ad_o 10 ?_
      refine Al_ghost [(1000,61,g61),(1001,31,g31),(1002,310,g31),(1003,311,g31)] [] 31 (gh_newP (E:=ST) (s':=PS.zero i (T.rangesOf c i)) (t:=b) ⟨⟨_,_,List.mem_cons_self ..⟩,λp hp=>by
       simp only[ST,List.mem_cons,List.not_mem_nil,or_false]at hp
       rcases hp with rfl|rfl|rfl<;>exact⟨Nat.le_of_ble_eq_true rfl,Nat.le_of_ble_eq_true rfl⟩⟩) Sub.rfl ⟨rfl,rfl,rfl,rfl,trivial⟩ (λ_=>rfl) rfl rfl (λy G=>?_)
      obtain⟨F2,pb⟩:=y
      refine Al_p (Pu_slice1 rfl Tryz.underlying85 Tryz.sizeOf92 Tryz.zeroValue92 rfl (by decide) (by decide) (by kernel_rfl) rfl rfl rfl) ?_
      refine Al_nil ?_
      refine Ad_o 11 ?_
      refine Al_appendX (k:=62) rfl rfl rfl (by decide) (by kernel_rfl) site_elem (by decide) Tryz.sizeOf92 rfl rfl rfl (by simp;omega) (by decide) (λv2=>?_)
      refine Al_nil ?_
      refine Ad_t 12 rfl PuI_nb ?_
      refine Ad_t 13 rfl (PuI_fb 3 Tryz.underlying91 Tryz.sizeOf85) ?_
      refine Ad_o 14 ?_
      refine Al_s1 Tryz.isAgg85 Tryz.sizeOf85 ?_
      refine Al_nil ?_
      refine Ad_d ?_
      refine Aw_region ?_
      refine Al_p Pu_ad ?_
      refine Al_ml ?_
      refine Al_nil ?_
      exact⟨(i+1,F2,sp++[.pointer (some ⟨pb,0,none⟩)],v2),⟨by omega,⟨by rw[List.length_append,hspl];rfl,λv hv=>by
       rcases List.mem_append.1 hv with hv|hv
       ·exact hspp v hv
       ·rw[List.mem_singleton.1 hv];exact⟨_,rfl⟩⟩⟩,by simp only[];omega,Le.ov ⟨Sub.num (by omega),trivial⟩ ⟨Sub.rfl,Sub.rfl,Sub.rfl,Sub.rfl,trivial⟩ ⟨rfl,A.obE (congrArg (λX=>AO.op (starP ST F2 X)) (by rw[List.range_succ,List.map_append,List.map_singleton,siteX_snoc (by rw[hspl];simp)])),obeqX (by simp[A.cellsA]),trivial⟩ ⟨rfl,rfl,rfl,rfl,trivial⟩⟩
     ·refine Al_ghost [(1000,61,g61),(1001,31,g31),(1002,310,g31),(1003,311,g31)] [] 31 (gh_newP (E:=ST) (s':=PS.zero i (T.rangesOf c i)) (t:=b) ⟨⟨_,_,List.mem_cons_self ..⟩,λp hp=>by
       simp only[ST,List.mem_cons,List.not_mem_nil,or_false]at hp
       rcases hp with rfl|rfl|rfl<;>exact⟨Nat.le_of_ble_eq_true rfl,Nat.le_of_ble_eq_true rfl⟩⟩) Sub.rfl ⟨rfl,rfl,rfl,rfl,trivial⟩ (λ_=>rfl) rfl rfl (λy G=>?_)
      obtain⟨F2,pb⟩:=y
      refine Al_p (Pu_slice1 rfl Tryz.underlying85 Tryz.sizeOf92 Tryz.zeroValue92 rfl (by decide) (by decide) (by kernel_rfl) rfl rfl rfl) ?_
      refine Al_nil ?_
      refine Ad_o 4 ?_
      refine Al_p (Pu_lb Tryz.isAgg85) ?_
      refine Al_nil ?_
      refine Ad_o 11 ?_
      refine Al_appendX (k:=62) rfl rfl rfl (by decide) (by kernel_rfl) site_elem (by decide) Tryz.sizeOf92 rfl rfl rfl (by simp;omega) (by decide) (λv2=>?_)
      refine Al_nil ?_
      refine Ad_t 12 rfl PuI_nb ?_
      refine Ad_t 13 rfl (PuI_fb 3 Tryz.underlying91 Tryz.sizeOf85) ?_
      refine Ad_o 14 ?_
      refine Al_s1 Tryz.isAgg85 Tryz.sizeOf85 ?_
      refine Al_nil ?_
      refine Ad_d ?_
      refine Aw_region ?_
      refine Al_p Pu_ad ?_
      refine Al_ml ?_
      refine Al_nil ?_
      exact⟨(i+1,F2,sp++[.pointer (some ⟨pb,0,none⟩)],v2),⟨by omega,⟨by rw[List.length_append,hspl];rfl,λv hv=>by
       rcases List.mem_append.1 hv with hv|hv
       ·exact hspp v hv
       ·rw[List.mem_singleton.1 hv];exact⟨_,rfl⟩⟩⟩,by simp only[];omega,Le.ov ⟨Sub.num (by omega),trivial⟩ ⟨Sub.rfl,Sub.rfl,Sub.rfl,Sub.rfl,trivial⟩ ⟨rfl,A.obE (congrArg (λX=>AO.op (starP ST F2 X)) (by rw[List.range_succ,List.map_append,List.map_singleton,siteX_snoc (by rw[hspl];simp)])),obeqX (by simp[A.cellsA]),trivial⟩ ⟨rfl,rfl,rfl,rfl,trivial⟩⟩
 ·(try simp only[A.cd_]at h20)
  obtain rfl:i=c.parents.length:=by omega
  refine Aw_exit (Aw_seq (Aw_sr ?_))
  refine Al_ml ?_
  refine Al_nil (Aw_block ?_)
  refine Aw_loopk (ι:=Nat) [3,4] [15,150,151,61,62,63] (λk=>[(37,.d (iv k))]) (λk=>[(17,g17,.box 91 (gcellsN (.bx 15 g15 0) sv (PG.newK c k) nilV))]) (λk=>k≤4) (λk=>4 - k) (0) (Nat.zero_le _) ⟨Sub.rfl,trivial⟩ ⟨rfl,trivial⟩ ?_
  rintro k hk1
  refine Aw_sr ?_
  refine Al_p Pu_cp ?_
  refine Al_nil (Aw_seq ?_)
  refine Aw_cond rfl (λh38=>?_) (λh38=>?_)
  ·(try simp only[A.cd_]at h38)
   refine Aw_skip (Aw_seq (Aw_block (Aw_sr ?_)))
   refine Al_ml ?_
   refine Al_mr ?_
   refine Al_nil ?_
   refine Aw_dr 9 ?_
   refine Dr_ml ?_
   refine Dr_ml ?_
   refine Dr_ml ?_
   refine Dr_ml ?_
   refine Dr_p (Pu_rem rfl rfl rfl (by omega) (Int.ofNat_tmod k c.parents.length).symm) ?_
   refine Dr_p (Pu_call (cliNew_a ((k%c.parents.length:Nat):Int)) rfl ⟨Sub.rfl,trivial⟩) ?_
   refine Dr_p Pu_nb ?_
   refine Dr_p (Pu_fb 5 Tryz.underlying91 Tryz.sizeOf86) ?_
   refine Dr_p (Pu_indexArrb rfl Tryz.underlying86 Tryz.sizeOf75 rfl rfl (rfl) (by omega)) ?_
   refine Dr_nil ?_
   refine A.Al_storeC (gcellsN (.bx 15 g15 0) sv (PG.newK c (k+1)) nilV) (by rw[PG.newK_succ];exact gcN_setC (.bx 15 g15 0) sv (PG.newK c k) nilV (i:=(k:Int)) (((k%c.parents.length:Nat):Int),[]) (by omega)) rfl Tryz.isAgg75 Tryz.sizeOf75 rfl rfl rfl rfl (by show 0+5+k*2+2≤23;omega) ?_
   refine Al_nil (Aw_region ?_)
   refine Al_p Pu_ad ?_
   refine Al_ml ?_
   refine Al_nil ?_
   exact⟨k+1,by omega,by omega,Le.ov ⟨Sub.num (by omega),trivial⟩ ⟨Sub.rfl,Sub.rfl,trivial⟩ ⟨rfl,trivial⟩ ⟨rfl,rfl,rfl,rfl,rfl,rfl,trivial⟩⟩
  ·(try simp only[A.cd_]at h38)
   obtain rfl:k=4:=by omega
   refine Aw_exit (Aw_sr ?_)
   refine Al_ml ?_
   refine Al_mr ?_
   refine Al_nil ?_
   exact Aw_ret (⟨⟨(⟨sp,X.map (·.1),nb,N.upto c.parents.length c.parents.length 0,sv⟩,⟨Fs,Fn,nilV⟩),⟨by simp[PG.new,PG.newK,hspl],by simp[PG.new,PG.newK,hN.len],λv hv=>(by obtain⟨x,hx,rfl⟩:=List.mem_map.1 hv;exact hN.pl x hx),hspp,by simp[PG.new,PG.newK];exact hn⟩⟩,_,_,[(1001,17,g17),(1002,15,g15),(1003,150,g15),(1004,151,g15),(1005,61,g61),(1006,63,g63),(1007,62,g62)],rfl,Sub.rfl,⟨rfl,rfl,A.obE (congrArg (λY=>mapP c.parents.length nb (N.upto c.parents.length c.parents.length 0) Y) hN.vX.symm),A.obE (congrArg (λY=>AO.op (starP SES Fn Y)) hN.vX.symm),rfl,rfl,rfl,trivial⟩,rfl⟩)
end Go.Proofs.YtdnijgdmohinlaaGreat
end
section
set_option maxRecDepth 100000
namespace Go.Proofs.YtdnijgdmohinlaaGreat.A
open Go Go.RowKit
section
variable {P:Program}{N:Nat}{M0:Nat→Prop}{w0:Base}{ops:Array Oper}{Q:Exit→ASt→Prop}{o:Oper}{l:List Oper}{st:ASt}
theorem run_eqF (d:Nat) (w:World) (t:TypeId) {ps rs:Array TypeId}{vr:Bool}(h:P.underlying t=some (.func ps rs vr)) (f:Fn) (us vs:Array Value):(Op.equalIn (d+1) t (.func f us vs) .nilFunc).run P w=.ok false w∧(Op.equalIn (d+1) t .nilFunc .nilFunc).run P w=.ok true w:=by
 constructor<;>simp[Op.equalIn,run_underlying h]
theorem Pu_eqnilF {t yt:TypeId}{x:Operand}{f:FuncId}{first caps:List CV}{ps rs:Array TypeId}{vr:Bool}(ht:P.underlying t=some (.func ps rs vr)) (ho:o.op=.binOp .eql t x (.const .nilFunc) yt) (hx:st.ev x=.fnb f first caps):Pu P st o (.d (.v (.bool false))):=Pu_q λB M ρ w a h2 h3=>by
 have hm:=h2 x (by simp[opsOf,ho,Op.operands])
 rw[hx]at hm
 obtain⟨us,vs,h6,_,_⟩:=hm
 refine⟨.bool false,?_,.v _ trivial⟩
 have hc:a.eval (.const .nilFunc)=.nilFunc:=rfl
 have he:(Op.equal t (.func (.func f) us.toArray vs.toArray) .nilFunc).run P w=.ok false w:=(run_eqF 9999 w t ht _ _ _).1
 have key:(do eqGuard .eql t x (.const .nilFunc) (.func (.func f) us.toArray vs.toArray) .nilFunc;binOp .eql t (.func (.func f) us.toArray vs.toArray) .nilFunc:Sem Value).run P w=.ok (.bool false) w:=by simp[go_sem,eqGuard,binOp,he]
 simp only[execOp,ho,h6,hc,Sem.run_bind,Sem.run_pure]at key ⊢
 rw[key];rfl
theorem Al_gcallvE {ι:Type}{f:FuncId}{first caps:List CV}{ins:List SV}{obs:Obs}{obs':ι→Obs}{res:ι→SV}(pm:Pm) (nw:List (Nat×Nat)) {d:Nat}{y:Operand}{xs:List Operand}{ts:Array TypeId}(hG:GCallE P f ins obs λi=>some (obs' i,res i)) (ho:o.op=.call ⟨.value y,xs.toArray,ts⟩) (hg:o.guard=none) (hd:o.dst=some d) (hN:d<N) (hc:conB o=true) (hy:st.ev y=.fnb f first caps)
  (hpre:PreO st (nmOf pm) obs) (hB:∀i,nmB obs (obs' i) pm nw=true) (hb1:(obs.all λp=>(lookR pm p.1).isSome)=true) (hb5:nodupB (pm.map (·.2.1))=true) (aa:List SV) (hins:ins.map (SV.ren (nmOf pm))=first.map CV.sv++aa++caps.map CV.sv) (ha:ArgsS st xs aa)
  (h:∀i G,Al P N M0 w0 ops Q l ((st.aft pm (obs' i) (nm2 pm nw G)).set d ((res i).ren (nm2 pm nw G)))):Al P N M0 w0 ops Q (o::l) st:=by
 refine⟨?_⟩
 rintro a w ⟨ρ,hsim⟩
 have hev:=λy hy=>hsim.ev hc y (mem_call ho y hy)
 have hm:=hsim.ev hc y (by simp[opsOf,ho,Op.operands,Call.operands])
 rw[hy]at hm
 obtain⟨us,vs,h1,h2,h3⟩:=hm
 refine gcallE_at hG hsim hd hN hg hpre hB hb1 hb5 (vs:=us++xs.map a.eval++vs) ?_ (by rw[hins];exact(h2.arep.append (ha.rep λx hx=>hev x (by simpa using hx))).append h3.arep) h
 simp only[execOp,ho,resolve,h1,Deferred.ofValue,invoke,Sem.run_bind,Sem.run_pure,Result.andThen_ok]
 rw[hG.1]
 simp
end
end Go.Proofs.YtdnijgdmohinlaaGreat.A
namespace Go.Proofs.YtdnijgdmohinlaaGreat
open Go Go.RowKit A R
open A.RowT
def stepF (k:Int):Option FuncId :=
 if k=1∨k=2 then some 87 else if k=3 then some 88 else if k=4 then some 89 else if k=5 then some 90 else if k=6 then some 91 else if k=7 then some 92
 else if k=8 then some 93 else if k=9 then some 94 else if k=10 then some 95 else if k=11 then some 96 else if k=12 then some 97 else none
def stR1:Option FuncId→SV
 | some f=>.fnb f [.bx 1001 0 0] []
 | none=>.d (.v .nilFunc)
def stR (k:Int):SV:=stR1 (stepF k)
theorem stR_put {k:Int}(h:k=1∨k=2):stR k=.fnb 87 [.bx 1001 0 0] []:=by rcases h with rfl|rfl<;>rfl
set_option maxHeartbeats 2000000 in
theorem gstep_g (fr:FR) (g:PG) (t:GT) (k:Int):GCall Tryz.prog 40 [.bx 1001 0 0,.d (iv k)] (GE fr g t) (some (GE fr g t,stR k)):=by
 refine GC_L Tryz.func40 Tryz.ntmps40 (ReadsS.r1 Tryz.results40) λhok hokB M0 w0 hl=>?_
 refine Aw_sr ?_
 refine Al_mr ?_
 refine Al_nil ?_
 refine Aw_seq (Aw_sr ?_)
 refine Al_ml ?_
 refine Al_nil (Aw_block ?_)
 refine Aw_join (ι:=Bool) [0,5] [1001,1002,1003,1004,1005,1006,1007] (λb=>[(6,.d (bv b))]) (λb=>[]) (λb=>b=decide (k=1∨k=2)) ?_ ?_
 ·refine Aw_sr ?_
  refine Al_p Pu_cp ?_
  refine Al_mr ?_
  refine Al_nil ?_
  refine Aw_cond rfl (λh6=>?_) (λh6=>?_)
  ·try simp only[decide_eq_true_eq,decide_eq_false_iff_not]at h6
   refine Aw_skip ?_
   exact⟨true,by simp only[h6,true_or,decide_true],Le.ov ⟨Sub.bool (decide_eq_true h6),trivial⟩ ⟨Sub.rfl,Sub.rfl,trivial⟩ trivial ⟨rfl,rfl,rfl,rfl,rfl,rfl,rfl,trivial⟩⟩
  ·try simp only[decide_eq_true_eq,decide_eq_false_iff_not]at h6
   refine Aw_region ?_
   refine Al_p Pu_cp ?_
   refine Al_mr ?_
   refine Al_nil ?_
   exact⟨decide (k=2),by simp only[h6,false_or],Le.ov ⟨Sub.rfl,trivial⟩ ⟨Sub.rfl,Sub.rfl,trivial⟩ trivial ⟨rfl,rfl,rfl,rfl,rfl,rfl,rfl,trivial⟩⟩
 ·rintro b hj1
  subst hj1
  refine Aw_cond rfl (λh6=>?_) (λh6=>?_)
  ·try simp only[decide_eq_true_eq,decide_eq_false_iff_not]at h6
   refine Aw_sr ?_
   refine Al_ml ?_
   refine Al_p (Pu_makeFuncS (ys:=[_]) (xs:=[]) [.bx 1001 0 0] [] rfl ⟨Sub.rfl,trivial⟩ trivial) ?_
   refine Al_mr ?_
   refine Al_nil ?_
   exact Aw_ret (⟨_,_,[],rfl,by rw[stR_put h6];exact Sub.rfl,⟨rfl,rfl,rfl,rfl,rfl,rfl,rfl,trivial⟩,rfl⟩)
  ·try simp only[decide_eq_true_eq,decide_eq_false_iff_not]at h6
   refine Aw_sr ?_
   refine Al_p Pu_cp ?_
   refine Al_mr ?_
   refine Al_nil ?_
   refine Aw_cond rfl (λh11=>?_) (λh11=>?_)
   ·(try simp only[A.cd_]at h11)
    subst h11
    refine Aw_sr ?_
    refine Al_ml ?_
    refine Al_p (Pu_makeFuncS (ys:=[_]) (xs:=[]) [.bx 1001 0 0] [] rfl ⟨Sub.rfl,trivial⟩ trivial) ?_
    refine Al_mr ?_
    refine Al_nil ?_
    exact Aw_ret (⟨_,_,[],rfl,Sub.rfl,⟨rfl,rfl,rfl,rfl,rfl,rfl,rfl,trivial⟩,rfl⟩)
   ·(try simp only[A.cd_]at h11)
    refine Aw_sr ?_
    refine Al_p Pu_cp ?_
    refine Al_mr ?_
    refine Al_nil ?_
    refine Aw_cond rfl (λh15=>?_) (λh15=>?_)
    ·(try simp only[A.cd_]at h15)
     subst h15
     refine Aw_sr ?_
     refine Al_ml ?_
     refine Al_p (Pu_makeFuncS (ys:=[_]) (xs:=[]) [.bx 1001 0 0] [] rfl ⟨Sub.rfl,trivial⟩ trivial) ?_
     refine Al_mr ?_
     refine Al_nil ?_
     exact Aw_ret (⟨_,_,[],rfl,Sub.rfl,⟨rfl,rfl,rfl,rfl,rfl,rfl,rfl,trivial⟩,rfl⟩)
    ·(try simp only[A.cd_]at h15)
     refine Aw_sr ?_
     refine Al_p Pu_cp ?_
     refine Al_mr ?_
     refine Al_nil ?_
     refine Aw_cond rfl (λh19=>?_) (λh19=>?_)
     ·(try simp only[A.cd_]at h19)
      subst h19
      refine Aw_sr ?_
      refine Al_ml ?_
      refine Al_p (Pu_makeFuncS (ys:=[_]) (xs:=[]) [.bx 1001 0 0] [] rfl ⟨Sub.rfl,trivial⟩ trivial) ?_
      refine Al_mr ?_
      refine Al_nil ?_
      exact Aw_ret (⟨_,_,[],rfl,Sub.rfl,⟨rfl,rfl,rfl,rfl,rfl,rfl,rfl,trivial⟩,rfl⟩)
     ·(try simp only[A.cd_]at h19)
      refine Aw_sr ?_
      refine Al_p Pu_cp ?_
      refine Al_mr ?_
      refine Al_nil ?_
      refine Aw_cond rfl (λh23=>?_) (λh23=>?_)
      ·(try simp only[A.cd_]at h23)
       subst h23
       refine Aw_sr ?_
       refine Al_ml ?_
       refine Al_p (Pu_makeFuncS (ys:=[_]) (xs:=[]) [.bx 1001 0 0] [] rfl ⟨Sub.rfl,trivial⟩ trivial) ?_
       refine Al_mr ?_
       refine Al_nil ?_
       exact Aw_ret (⟨_,_,[],rfl,Sub.rfl,⟨rfl,rfl,rfl,rfl,rfl,rfl,rfl,trivial⟩,rfl⟩)
      ·(try simp only[A.cd_]at h23)
       refine Aw_sr ?_
       refine Al_p Pu_cp ?_
       refine Al_mr ?_
       refine Al_nil ?_
       refine Aw_cond rfl (λh27=>?_) (λh27=>?_)
       ·(try simp only[A.cd_]at h27)
        subst h27
        refine Aw_sr ?_
        refine Al_ml ?_
        refine Al_p (Pu_makeFuncS (ys:=[_]) (xs:=[]) [.bx 1001 0 0] [] rfl ⟨Sub.rfl,trivial⟩ trivial) ?_
        refine Al_mr ?_
        refine Al_nil ?_
        exact Aw_ret (⟨_,_,[],rfl,Sub.rfl,⟨rfl,rfl,rfl,rfl,rfl,rfl,rfl,trivial⟩,rfl⟩)
       ·(try simp only[A.cd_]at h27)
        refine Aw_sr ?_
        refine Al_p Pu_cp ?_
        refine Al_mr ?_
        refine Al_nil ?_
        refine Aw_cond rfl (λh31=>?_) (λh31=>?_)
        ·(try simp only[A.cd_]at h31)
         subst h31
         refine Aw_sr ?_
         refine Al_ml ?_
         refine Al_p (Pu_makeFuncS (ys:=[_]) (xs:=[]) [.bx 1001 0 0] [] rfl ⟨Sub.rfl,trivial⟩ trivial) ?_
         refine Al_mr ?_
         refine Al_nil ?_
         exact Aw_ret (⟨_,_,[],rfl,Sub.rfl,⟨rfl,rfl,rfl,rfl,rfl,rfl,rfl,trivial⟩,rfl⟩)
        ·(try simp only[A.cd_]at h31)
         refine Aw_sr ?_
         refine Al_p Pu_cp ?_
         refine Al_mr ?_
         refine Al_nil ?_
         refine Aw_cond rfl (λh35=>?_) (λh35=>?_)
         ·(try simp only[A.cd_]at h35)
          subst h35
          refine Aw_sr ?_
          refine Al_ml ?_
          refine Al_p (Pu_makeFuncS (ys:=[_]) (xs:=[]) [.bx 1001 0 0] [] rfl ⟨Sub.rfl,trivial⟩ trivial) ?_
          refine Al_mr ?_
          refine Al_nil ?_
          exact Aw_ret (⟨_,_,[],rfl,Sub.rfl,⟨rfl,rfl,rfl,rfl,rfl,rfl,rfl,trivial⟩,rfl⟩)
         ·(try simp only[A.cd_]at h35)
          refine Aw_sr ?_
          refine Al_p Pu_cp ?_
          refine Al_mr ?_
          refine Al_nil ?_
          refine Aw_cond rfl (λh39=>?_) (λh39=>?_)
          ·(try simp only[A.cd_]at h39)
           subst h39
           refine Aw_sr ?_
           refine Al_ml ?_
           refine Al_p (Pu_makeFuncS (ys:=[_]) (xs:=[]) [.bx 1001 0 0] [] rfl ⟨Sub.rfl,trivial⟩ trivial) ?_
           refine Al_mr ?_
           refine Al_nil ?_
           exact Aw_ret (⟨_,_,[],rfl,Sub.rfl,⟨rfl,rfl,rfl,rfl,rfl,rfl,rfl,trivial⟩,rfl⟩)
          ·(try simp only[A.cd_]at h39)
           refine Aw_sr ?_
           refine Al_p Pu_cp ?_
           refine Al_mr ?_
           refine Al_nil ?_
           refine Aw_cond rfl (λh43=>?_) (λh43=>?_)
           ·(try simp only[A.cd_]at h43)
            subst h43
            refine Aw_sr ?_
            refine Al_ml ?_
            refine Al_p (Pu_makeFuncS (ys:=[_]) (xs:=[]) [.bx 1001 0 0] [] rfl ⟨Sub.rfl,trivial⟩ trivial) ?_
            refine Al_mr ?_
            refine Al_nil ?_
            exact Aw_ret (⟨_,_,[],rfl,Sub.rfl,⟨rfl,rfl,rfl,rfl,rfl,rfl,rfl,trivial⟩,rfl⟩)
           ·(try simp only[A.cd_]at h43)
            refine Aw_sr ?_
            refine Al_p Pu_cp ?_
            refine Al_mr ?_
            refine Al_nil ?_
            refine Aw_cond rfl (λh47=>?_) (λh47=>?_)
            ·(try simp only[A.cd_]at h47)
             subst h47
             refine Aw_sr ?_
             refine Al_ml ?_
             refine Al_p (Pu_makeFuncS (ys:=[_]) (xs:=[]) [.bx 1001 0 0] [] rfl ⟨Sub.rfl,trivial⟩ trivial) ?_
             refine Al_mr ?_
             refine Al_nil ?_
             exact Aw_ret (⟨_,_,[],rfl,Sub.rfl,⟨rfl,rfl,rfl,rfl,rfl,rfl,rfl,trivial⟩,rfl⟩)
            ·(try simp only[A.cd_]at h47)
             have hno:stR k=.d (.v .nilFunc):=by
              unfold stR stepF
              rw[if_neg h6,if_neg h11,if_neg h15,if_neg h19,if_neg h23,if_neg h27,if_neg h31,if_neg h35,if_neg h39,if_neg h43,if_neg h47];rfl
             refine Aw_skip (Aw_sr ?_)
             refine Al_mr ?_
             refine Al_nil ?_
             exact Aw_ret (⟨_,_,[],rfl,by rw[hno];exact Sub.rfl,⟨rfl,rfl,rfl,rfl,rfl,rfl,rfl,trivial⟩,rfl⟩)
end Go.Proofs.YtdnijgdmohinlaaGreat
end
section
set_option maxRecDepth 100000
namespace Go.Proofs.YtdnijgdmohinlaaGreat
open Go Go.RowKit A R
open A.RowT
namespace PG
def bad (o:SOp):Prop:=1≤o.kind∧o.kind≤7∧(o.client<0∨4≤o.client)
def away (g:PG) (o:SOp):Prop:=1≤o.kind∧o.kind≤7∧o.kind≠5∧(g.cli o.client).1= -1
instance (o:SOp):Decidable (bad o):=by unfold bad;infer_instance
instance (g:PG) (o:SOp):Decidable (g.away o):=by unfold away;infer_instance
def gate (g:PG) (o:SOp) (r:PG×Ans):PG×Ans:=if bad o then(g,1,[])else if g.away o then(g,13,[])else r
end PG
set_option maxHeartbeats 2000000 in
theorem gdo_of (fr:FR) (g:PG) (t:GT) (o:SOp) (r:PG×PG.Ans) (f:FuncId) (hk:stepF o.kind=some f) (hG:¬PG.bad o→¬g.away o→GCallE Tryz.prog f [.bx 1001 0 0,.d (.row o.row)] (GE fr g t) (λt':GT=>some (GE fr r.1 t',.d (ansA r.2)))):GCallE Tryz.prog 13 [.bx 1001 0 0,.d (.row o.row)] (GE fr g t) (λt':GT=>some (GE fr (g.gate o r).1 t',.d (ansA (g.gate o r).2))):=by
 refine GC_EL Tryz.func13 Tryz.ntmps13 (ReadsS.cN Tryz.results13 Tryz.isAgg37 Tryz.sizeOf37) λhok hokB M0 w0 hl=>?_
 have hst:=gstep_g fr g t o.kind
 rw[show stR o.kind=.fnb f [.bx 1001 0 0] []from congrArg stR1 hk]at hst
 refine Aw_sr ?_
 refine Al_p Pu_bN ?_
 refine Al_al Tryz.zeroValue37 λg4=>?_
 refine Al_nil (Aw_seq (Aw_sr ?_))
 refine Al_ml ?_
 refine Al_p (Pu_eqnilb Tryz.underlying32 rfl rfl) ?_
 refine Al_nil ?_
 refine Aw_condF rfl (rfl) ?_
 refine Aw_skip ?_
 refine Aw_join (ι:=Unit) [3,4] [4,1001,1002,1003,1004,1005,1006,1007] (λ_=>[(0,.bx 1001 0 0)]) (λ_=>[]) (λ_=>¬PG.bad o∧¬g.away o) ?_ ?_
 ·refine Aw_sr ?_
  refine Al_p (Pu_fd 0 Tryz.underlying41 Tryz.sizeOf3) ?_
  refine Al_p (Pu_l1 Tryz.isAgg3) ?_
  refine Al_p Pu_cp ?_
  refine Al_ml ?_
  refine Al_s (St_g [] trivial (λ_=>Pu_fd 0 Tryz.underlying41 Tryz.sizeOf3)) ?_
  refine Al_s (St_g [13] ⟨⟨_,rfl⟩,trivial⟩ (λ_=>Pu_l1 Tryz.isAgg3)) ?_
  refine Al_s (St_g [14] ⟨⟨_,rfl⟩,trivial⟩ (λ_=>Pu_cp)) ?_
  refine Al_p Pu_a ?_
  refine Al_nil ?_
  refine Aw_cond rfl (λh16=>?_) (λh16=>?_)
  ·(try simp only[A.cd_]at h16)
   refine Aw_block (Aw_sr ?_)
   refine Al_p (Pu_fd 1 Tryz.underlying41 Tryz.sizeOf3) ?_
   refine Al_p (Pu_l1 Tryz.isAgg3) ?_
   refine Al_p Pu_cp ?_
   refine Al_ml ?_
   refine Al_s (St_g [] trivial (λ_=>Pu_fd 1 Tryz.underlying41 Tryz.sizeOf3)) ?_
   refine Al_s (St_g [22] ⟨⟨_,rfl⟩,trivial⟩ (λ_=>Pu_l1 Tryz.isAgg3)) ?_
   refine Al_s (St_g [23] ⟨⟨_,rfl⟩,trivial⟩ (λ_=>Pu_cp)) ?_
   refine Al_p Pu_o ?_
   refine Al_mr ?_
   refine Al_nil ?_
   refine Aw_cond rfl (λh17=>?_) (λh17=>?_)
   ·(try simp only[A.cd_]at h17)
    have e1:g.gate o r=(g,1,[]):=if_pos ⟨by omega,by omega,by omega⟩
    refine Aw_sr ?_
    refine Al_p (Pu_call (gtold_a 6 1) rfl ⟨Sub.rfl,trivial⟩) ?_
    refine Al_sN Tryz.isAgg37 Tryz.sizeOf37 ?_
    refine Al_nil ?_
    exact Aw_ret (⟨t,_,_,[],rfl,⟨_,rfl,_,_,_,_,_,[_,_],rfl,rfl,rfl,rfl,by rw[e1]<;>rfl⟩,⟨by rw[e1]<;>rfl,rfl,by rw[e1]<;>rfl,by rw[e1]<;>rfl,by rw[e1]<;>rfl,by rw[e1]<;>rfl,rfl,trivial⟩,rfl⟩)
   ·(try simp only[A.cd_]at h17)
    have hcl:o.client=(o.client.toNat:Int):=by omega
    have hc4:o.client.toNat<4:=by omega
    have hnb:¬PG.bad o:=λh=>by have:=h.2.2;omega
    refine Aw_seq ?_
    refine Aw_dr 14 ?_
    refine Dr_p (Pu_fd 0 Tryz.underlying41 Tryz.sizeOf3) ?_
    refine Dr_p (Pu_l1 Tryz.isAgg3) ?_
    refine Dr_p Pu_cp ?_
    refine Dr_ml ?_
    refine Dr_s (St_g [] trivial (λ_=>Pu_mvl)) ?_
    refine Dr_s (St_g [] trivial (λ_=>Pu_fd 1 Tryz.underlying41 Tryz.sizeOf3)) ?_
    refine Dr_s (St_g [33] ⟨⟨_,rfl⟩,trivial⟩ (λ_=>Pu_l1 Tryz.isAgg3)) ?_
    refine Dr_s (St_g [32] ⟨⟨_,rfl⟩,trivial⟩ (λ_=>Pu_nb)) ?_
    refine Dr_s (St_g [35] ⟨⟨_,rfl⟩,trivial⟩ (λ_=>Pu_fb 5 Tryz.underlying91 Tryz.sizeOf86)) ?_
    refine Dr_s (St_g [36,34] ⟨⟨_,rfl⟩,⟨_,rfl⟩,trivial⟩ (λ_=>Pu_indexArrb rfl Tryz.underlying86 Tryz.sizeOf75 rfl rfl (hcl) (hc4))) ?_
    refine Dr_s (St_g [37] ⟨⟨_,rfl⟩,trivial⟩ (λ_=>Pu_fb 0 Tryz.underlying75 Tryz.sizeOf3)) ?_
    refine Dr_s (St_g [38] ⟨⟨_,rfl⟩,trivial⟩ (λ_=>Pu_loadb rfl Tryz.isAgg3 rfl rfl (gc_c0 fr g t.hv hc4))) ?_
    refine Dr_s (St_g [39] ⟨⟨_,rfl⟩,trivial⟩ (λ_=>Pu_cp)) ?_
    refine Dr_p Pu_a ?_
    refine Dr_nil ?_
    refine Al_mr ?_
    refine Al_nil ?_
    refine Aw_cond rfl (λh27=>?_) (λh27=>?_)
    ·skip
     have h1:(!decide (o.kind=5)&&decide ((g.cli o.client).1= -1))=true:=h27
     simp only[Bool.and_eq_true,decide_eq_true_eq,Bool.not_eq_true',decide_eq_false_iff_not]at h1
     have e1:g.gate o r=(g,13,[]):=by unfold PG.gate;rw[if_neg hnb,if_pos ⟨by omega,by omega,h1.1,h1.2⟩]
     refine Aw_sr ?_
     refine Al_p (Pu_call (gtold_a 6 13) rfl ⟨Sub.rfl,trivial⟩) ?_
     refine Al_sN Tryz.isAgg37 Tryz.sizeOf37 ?_
     refine Al_nil ?_
     exact Aw_ret (⟨t,_,_,[],rfl,⟨_,rfl,_,_,_,_,_,[_,_],rfl,rfl,rfl,rfl,by rw[e1]<;>rfl⟩,⟨by rw[e1]<;>rfl,rfl,by rw[e1]<;>rfl,by rw[e1]<;>rfl,by rw[e1]<;>rfl,by rw[e1]<;>rfl,rfl,trivial⟩,rfl⟩)
    ·skip
     have h1:(!decide (o.kind=5)&&decide ((g.cli o.client).1= -1))=false:=h27
     have hna:¬g.away o:=λ⟨_,_,h2,h3⟩=>by
      rw[decide_eq_false h2,decide_eq_true h3]at h1;cases h1
     refine Aw_skip ?_
     exact⟨(),⟨hnb,hna⟩,Le.ov ⟨Sub.rfl,trivial⟩ ⟨Sub.rfl,Sub.rfl,trivial⟩ trivial ⟨rfl,rfl,rfl,rfl,rfl,rfl,rfl,rfl,trivial⟩⟩
  ·(try simp only[A.cd_]at h16)
   have hnb:¬PG.bad o:=λh=>by have h1:=h.1;have h2:=h.2.1;omega
   have hna:¬g.away o:=λh=>by have h1:=h.1;have h2:=h.2.1;omega
   refine Aw_skip ?_
   exact⟨(),⟨hnb,hna⟩,Le.ov ⟨Sub.rfl,trivial⟩ ⟨Sub.rfl,Sub.rfl,trivial⟩ trivial ⟨rfl,rfl,rfl,rfl,rfl,rfl,rfl,rfl,trivial⟩⟩
 ·rintro _ ⟨hnb,hna⟩
  have e1:g.gate o r=r:=by unfold PG.gate;rw[if_neg hnb,if_neg hna]
  refine Aw_sr ?_
  refine Al_ml ?_
  refine Al_p (Pu_fd 0 Tryz.underlying41 Tryz.sizeOf3) ?_
  refine Al_p (Pu_l1 Tryz.isAgg3) ?_
  refine Al_p (Pu_gcall [(1001,1001,0),(1002,1002,0),(1003,1003,0),(1004,1004,0),(1005,1005,0),(1006,1006,0),(1007,1007,0)] (hst) (GE_in ..) rfl ⟨rfl,rfl,rfl,rfl,rfl,rfl,rfl,trivial⟩ rfl ⟨Sub.rfl,Sub.rfl,trivial⟩) ?_
  refine Al_mr ?_
  refine Al_nil (Aw_seq (Aw_sr ?_))
  refine Al_ml ?_
  refine Al_p (Pu_eqnilF Tryz.underlying38 rfl rfl) ?_
  refine Al_nil ?_
  refine Aw_condF rfl (rfl) ?_
  refine Aw_skip (Aw_sr ?_)
  refine Al_ml ?_
  refine Al_p (Pu_lN Tryz.isAgg41 Tryz.sizeOf41) ?_
  refine Al_gcallvE [(1001,1001,0),(1002,1002,0),(1003,1003,0),(1004,1004,0),(1005,1005,0),(1006,1006,0),(1007,1007,0)] [] (hG hnb hna) rfl rfl rfl (by decide) (by kernel_rfl) rfl ⟨rfl,rfl,rfl,rfl,rfl,rfl,rfl,trivial⟩ (λ_=>rfl) rfl rfl [.d (.row o.row)] rfl ⟨Sub.rfl,trivial⟩ (λt' g52=>?_)
  refine Al_sN Tryz.isAgg37 Tryz.sizeOf37 ?_
  refine Al_nil ?_
  exact Aw_ret (⟨t',_,_,[],rfl,⟨_,rfl,_,_,_,_,_,[_,_],rfl,rfl,rfl,rfl,by rw[e1]<;>rfl⟩,⟨by rw[e1]<;>rfl,rfl,by rw[e1]<;>rfl,by rw[e1]<;>rfl,by rw[e1]<;>rfl,by rw[e1]<;>rfl,rfl,trivial⟩,rfl⟩)
end Go.Proofs.YtdnijgdmohinlaaGreat
end
section
set_option maxRecDepth 100000
namespace Go.Proofs.YtdnijgdmohinlaaGreat
open Go Go.RowKit A R
open A.RowT
theorem N.full_all:∀n∈List.range 7,∀i∈List.range (N.upto n n 0),((List.range n).any λa=>(List.range n).any λb=>decide (N.idx n (a:Nat) (b:Nat)=some i))=true:=by decide +kernel
theorem PG.Ok.full {g:PG}{m:Nat}(h:g.Ok m):∀i,i<g.Y.length→∃c:H.SK,N.idx g.n c.1 c.2=some i:=λi hi=>by
 have h6:=h.n6
 rw[h.yl]at hi
 have:=N.full_all g.n (List.mem_range.2 (by omega)) i (List.mem_range.2 hi)
 obtain⟨a,_,ha⟩:=List.any_eq_true.1 this
 obtain⟨b,_,hb⟩:=List.any_eq_true.1 ha
 exact⟨((a:Int),(b:Int)),of_decide_eq_true hb⟩
section
variable (fr:FR) (g:PG) (t:GT)
theorem gIdle_g {m:Nat}(hg:g.Ok m) (hm:m≤1000) (hf:fr.Ok g):GCall Tryz.prog 17 [.bx 1001 0 0] (GE fr g t) (some (GE fr g t,.d (bv g.idle))):=by
 refine GC_L Tryz.func17 Tryz.ntmps17 (ReadsS.r1 Tryz.results17) λhok hokB M0 w0 hl=>?_
 have hY:∀s∈g.Y,s.Fit 1000:=λs hs=>(hg.yf s hs).mono (by omega)
 refine Aw_sr ?_
 refine Al_mr ?_
 refine Al_ns ?_
 refine Al_ml ?_
 refine Al_p (Pu_neqnilb Tryz.underlying32 rfl rfl) ?_
 refine Al_ml ?_
 refine Al_s (St_g [] trivial (λ_=>Pu_mvl)) ?_
 refine Al_s (St_g [6] ⟨⟨_,rfl⟩,trivial⟩ (λ_=>Pu_nb)) ?_
 refine Al_s (St_g [7] ⟨⟨_,rfl⟩,trivial⟩ (λ_=>Pu_fb 4 Tryz.underlying91 Tryz.sizeOf83)) ?_
 refine Al_s (St_g [8] ⟨⟨_,rfl⟩,trivial⟩ (λ_=>Pu_lb Tryz.isAgg83)) ?_
 refine Al_s (St_g [9] ⟨⟨_,rfl⟩,trivial⟩ (λ_=>Pu_gcall [(1001,1002,0),(1002,1003,0),(1003,1004,0)] (ntIdle_g g.n fr.b fr.cnt t.Fn (N.vX fr.np g.Y) (N.vX_full hf.nl hg.full) (N.vX_fit hY)) (NT_in ..) rfl ⟨rfl,rfl,rfl,trivial⟩ rfl ⟨Sub.rfl,trivial⟩)) ?_
 refine Al_p Pu_a ?_
 refine Al_mr ?_
 refine Al_nil ?_
 exact Aw_ret (⟨_,_,[],rfl,Sub.bool (by rw[N.vX_idle hf.nl];rfl),⟨rfl,rfl,rfl,rfl,rfl,rfl,rfl,trivial⟩,rfl⟩)
theorem gFlying_g (a b:Int) (hf:fr.Ok g) (hY:∀s∈g.Y,s.Fit 1000):GCall Tryz.prog 18 [.bx 1001 0 0,.d (iv a),.d (iv b)] (GE fr g t) (some (GE fr g t,.d (iv (g.fly a b)))):=by
 refine GC_L Tryz.func18 Tryz.ntmps18 (ReadsS.r1 Tryz.results18) λhok hokB M0 w0 hl=>?_
 refine Aw_sr ?_
 refine Al_mr ?_
 refine Al_nil (Aw_seq (Aw_sr ?_))
 refine Al_ml ?_
 refine Al_p (Pu_eqnilb Tryz.underlying32 rfl rfl) ?_
 refine Al_nil ?_
 refine Aw_condF rfl (rfl) ?_
 refine Aw_skip (Aw_sr ?_)
 refine Al_ml ?_
 refine Al_p Pu_nb ?_
 refine Al_p (Pu_fb 4 Tryz.underlying91 Tryz.sizeOf83) ?_
 refine Al_p (Pu_lb Tryz.isAgg83) ?_
 refine Al_ml ?_
 refine Al_ml ?_
 refine Al_p (Pu_gcall [(1001,1002,0),(1002,1003,0),(1003,1004,0)] (ntFly_g g.n fr.b fr.cnt t.Fn (N.vX fr.np g.Y) a b (N.vX_places hf.np) (N.vX_fit hY)) (NT_in ..) rfl ⟨rfl,rfl,rfl,trivial⟩ rfl ⟨Sub.rfl,Sub.rfl,Sub.rfl,trivial⟩) ?_
 refine Al_p (Pu_ln Tryz.underlying103) ?_
 refine Al_mr ?_
 refine Al_nil ?_
 exact Aw_ret (⟨_,_,[],rfl,Sub.num (by rw[←PG.fly_ask g hf.nl]),⟨rfl,rfl,rfl,rfl,rfl,rfl,rfl,trivial⟩,rfl⟩)
theorem atV_in {fr:FR}{g:PG}{s:Int}(h:g.isS s=true):atV fr g s=fr.sp.getD s.toNat default:=by unfold atV;rw[h];rfl
theorem gChain_g (s:Int) (key:ByteArray) {m:Nat}(hg:g.Ok m) (hm:m≤1000) (hf:fr.Ok g) (hs:g.isS s=true):GCall Tryz.prog 15 [.bx 1001 0 0,.d (iv s),.d (tv key)] (GE fr g t) (some (GE fr g t,.d (versA (J.getC (g.site s).cs key)))):=by
 refine GC_L Tryz.func15 Tryz.ntmps15 (ReadsS.r1 Tryz.results15) λhok hokB M0 w0 hl=>?_
 obtain⟨hs0,hsn⟩:=PG.isS_iff hs
 have hi:s.toNat<g.S.length:=by rw[hg.sl];exact hsn
 refine Aw_sr ?_
 refine Al_mr ?_
 refine Al_ns ?_
 refine Al_ml ?_
 refine Al_ml ?_
 refine Al_p (Pu_gcall [(1001,1001,0),(1002,1002,0),(1003,1003,0),(1004,1004,0),(1005,1005,0),(1006,1006,0),(1007,1007,0)] (gat_g fr g t s hf hg.sl) (GE_in ..) rfl ⟨rfl,rfl,rfl,rfl,rfl,rfl,rfl,trivial⟩ rfl ⟨Sub.rfl,Sub.rfl,trivial⟩) ?_
 refine Al_ml ?_
 refine Al_p (Pu_gcall [(1001,1005,0)] (gsChain_g hf.sl hi (hg.site hsn) hm key) (SX_in ..) rfl ⟨rfl,trivial⟩ rfl ⟨by rw[←atV_in hs];exact Sub.rfl,Sub.rfl,trivial⟩) ?_
 refine Al_mr ?_
 refine Al_nil ?_
 exact Aw_ret (⟨_,_,[],rfl,Sub.rfl,⟨rfl,rfl,rfl,rfl,rfl,rfl,rfl,trivial⟩,rfl⟩)
end
end Go.Proofs.YtdnijgdmohinlaaGreat
end
section
namespace Go.Proofs.YtdnijgdmohinlaaGreat
open Go.RowKit A R
open A.RowT
structure Act where
 write:Bool
 client:Int
 key:Int
 n:Int
 site:Int
instance:Inhabited Act:=⟨⟨false,0,0,0,0⟩⟩
namespace G
def keys4:List ByteArray:=[⟨#[97]⟩,⟨#[98]⟩,⟨#[99]⟩,⟨#[100]⟩]
end G
end Go.Proofs.YtdnijgdmohinlaaGreat
end
section
namespace Go.Proofs.YtdnijgdmohinlaaGreat
open Go.RowKit A R
namespace D
def Ge (p q:List Dep):Prop:=∀k,lessB (get p k).1 (get p k).2 (get q k).1 (get q k).2=false
end D
end Go.Proofs.YtdnijgdmohinlaaGreat
namespace Go.Proofs.YtdnijgdmohinlaaGreat
open Go.RowKit A R
namespace G
def wk (e:List Event) (key:ByteArray) (k:Nat):Bool:=decide ((e.getD k default).kind=1)&&(e.getD k default).key.toList==key.toList
structure EvI (e:List Event) (j:Nat) (x:Event):Prop where
 cl:0≤x.client∧x.client<4
 key:x.key∈keys4
 good:D.Good x.seen
 ent:∀d∈x.seen,∃w,w<j∧(e.getD w default).kind=1∧d=depE (e.getD w default)
 cov:D.Ge x.seen (behind e (lastZ e j x.client))
 kw:x.kind=1→x.n=1+j∧x.s=x.client
 kr:x.kind≠1→x.kind=2∧((x.n=0∧x.s=0∧∀w,w<j→wk e x.key w=false)∨∃w,w<j∧wk e x.key w=true∧(∀v,w<v→v<j→wk e x.key v=false)∧x.n=(e.getD w default).n∧x.s=(e.getD w default).s∧D.Ge x.seen (e.getD w default).seen)
section
variable {e:List Event}(hev:∀j,j<e.length→EvI e j (e.getD j default))
include hev in
include hev in
include hev in
end
end G
end Go.Proofs.YtdnijgdmohinlaaGreat
namespace Go.Proofs.YtdnijgdmohinlaaGreat
open Go.RowKit A R
namespace G
section
variable {e:List Event}(hn:e.length≤16) (hev:∀j,j<e.length→EvI e j (e.getD j default))
include hev in
include hev in
include hev in
include hn hev in
include hn hev in
include hn hev in
include hn hev in
include hev in
end
end G
end Go.Proofs.YtdnijgdmohinlaaGreat
end
section
set_option maxRecDepth 100000
namespace Go.Proofs.YtdnijgdmohinlaaGreat
open Go Go.RowKit A R
def letter (j:Nat):ByteArray:=⟨#[UInt8.ofNat (97+j)]⟩
def letters:List ByteArray:=(List.range 8).map letter
def K8 (k:ByteArray):Prop:=k∈letters
def idx8 (k:ByteArray):Nat:=(k.data.toList.headD 97).toNat - 97
theorem idx8_lt:∀a∈letters,∀b∈letters,Op.bytesLess a.toList b.toList=true→idx8 a<idx8 b:=by decide +kernel
theorem idx8_le:∀a∈letters,idx8 a<8:=by decide +kernel
theorem rise8:∀(l:List Nat) (b:Nat),b≤8→l.Pairwise (·<·)→(∀x∈l,b≤x∧x<8)→l.length≤8 - b
 | [],b,_,_,_=>Nat.zero_le _
 | x::r,b,hb,h,h2=>by
  obtain⟨h3,h4⟩:=List.pairwise_cons.1 h
  have hx:=h2 x (List.mem_cons_self ..)
  have:=rise8 r (x+1) (by omega) h4 λy hy=>⟨h3 y hy,(h2 y (List.mem_cons_of_mem _ hy)).2⟩
  rw[List.length_cons];omega
theorem rise_k8 {l:List ByteArray}(h:l.Pairwise λa b=>Op.bytesLess a.toList b.toList=true) (h8:∀k∈l,K8 k):l.length≤8:=by
 have:=rise8 (l.map idx8) 0 (by decide) (List.pairwise_map.2 (h.imp_of_mem λ{a b} ha hb hab=>idx8_lt a (h8 a ha) b (h8 b hb) hab)) λx hx=>by
  obtain⟨k,hk,rfl⟩:=List.mem_map.1 hx
  exact⟨Nat.zero_le _,idx8_le k (h8 k hk)⟩
 simpa using this
structure P8 (p:List Dep):Prop where
 good:D.Good p
 key:∀d∈p,K8 d.key
theorem P8.len {p:List Dep}(h:P8 p):p.length≤8:=by
 have:=rise_k8 (l:=p.map (·.key)) ((List.pairwise_map (f:=λd:Dep=>d.key)).2 (show p.Pairwise (λx y=>Op.bytesLess x.key.toList y.key.toList=true)from h.good.1)) λk hk=>by
  obtain⟨d,hd,rfl⟩:=List.mem_map.1 hk
  exact h.key d hd
 simpa using this
theorem P8.nil:P8 []:=⟨D.nil_good,λd hd=>by cases hd⟩
structure V8 (v:Ver):Prop where
 ok:J.checkB v=true
 key:K8 v.key
 past:∀d∈v.past,K8 d.key
theorem D.addAll_mem:∀(q p:List Dep) (x:Dep),x∈D.addAll p q→x∈p∨x∈q
 | [],p,x,h=>.inl h
 | d::q,p,x,h=>by
  rcases D.addAll_mem q (D.add p d) x h with h|h
  ·unfold D.add at h
   split at h
   ·rcases D.addF_mem _ _ _ _ h with h|h
    ·exact .inl h
    ·exact .inr (by rw[h];exact List.mem_cons_self ..)
   ·exact .inl h
  ·exact .inr (List.mem_cons_of_mem _ h)
theorem D.mergeL_mem {l:List (List Dep)}{x:Dep}(h:x∈D.mergeL l):∃p∈l,x∈p:=by
 rcases D.addAll_mem _ _ _ h with h|h
 ·cases h
 ·obtain⟨p,hp,hx⟩:=List.mem_flatten.1 h
  exact⟨p,hp,hx⟩
theorem P8.merge {l:List (List Dep)}(h:∀p∈l,∀d∈p,K8 d.key):P8 (D.mergeL l):=⟨D.mergeL_good l,λd hd=>by
 obtain⟨p,hp,hx⟩:=D.mergeL_mem hd
 exact h p hp d hx⟩
theorem P8.saw1 {c:Int×List Dep}(h:P8 c.2) {v:Ver}(hv:V8 v):P8 (N.saw1 c v).2:=P8.merge λp hp d hd=>by
 rcases List.mem_cons.1 hp with rfl|hp
 ·exact h.key d hd
 ·rcases List.mem_cons.1 hp with rfl|hp
  ·exact hv.past d hd
  ·obtain rfl:=List.mem_singleton.1 hp
   rw[List.mem_singleton.1 hd];exact hv.key
def SV8 (Q:Ver→Prop) (p:PS):Prop:=(∀q∈p.cs,∀v∈q.2,Q v)∧∀v∈p.wait,Q v
def YV8 (Q:Ver→Prop) (s:VS):Prop:=(∀p∈s.op,Q p.2)∧∀p∈s.way,Q p.2
section
variable {Q:Ver→Prop}
theorem J.put_in {l m:List Ver}{v x:Ver}(h:J.put l v=some m) (hx:x∈m):x=v∨x∈l:=by
 unfold J.put at h
 split at h
 ·obtain rfl:=Option.some.inj h
  rcases List.mem_append.1 hx with hx|hx
  ·exact .inr (List.mem_of_mem_take hx)
  ·rcases List.mem_cons.1 hx with rfl|hx
   ·exact .inl rfl
   ·exact .inr (List.mem_of_mem_drop hx)
 ·cases h
theorem J.getC_of {cs:SC}{k:ByteArray}{x:Ver}(hx:x∈J.getC cs k):∃q∈cs,x∈q.2:=by
 unfold J.getC at hx
 cases hl:J.look cs k with
 | none=>rw[hl]at hx;cases hx
 | some l=>rw[hl]at hx;exact⟨_,J.mem_look hl,hx⟩
theorem J.sput_all {rs:List Rng}{cs:SC}{v:Ver}(h:∀q∈cs,∀x∈q.2,Q x) (hv:Q v):∀q∈(J.sput rs cs v).1,∀x∈q.2,Q x:=by
 unfold J.sput
 split
 ·exact h
 ·split
  ·rename_i m hm
   intro q hq x hx
   rcases J.mem_setC _ _ _ _ hq with rfl|hq
   ·rcases J.put_in hm hx with rfl|hx
    ·exact hv
    ·obtain⟨q',hq',hx'⟩:=J.getC_of hx
     exact h q' hq' x hx'
   ·exact h q hq x hx
  ·exact h
theorem SV8.write {p:PS}(h:SV8 Q p) (key value:ByteArray) (gone:Bool) (past:List Dep) (hv:p.writeE key value gone past=0→Q (p.made key value gone past)):SV8 Q (p.write key value gone past):=by
 unfold PS.write
 split
 ·rename_i h0
  exact⟨J.sput_all h.1 (hv h0),h.2⟩
 ·exact h
theorem SV8.arrive {p:PS}(h:SV8 Q p) {v:Ver}(hv:Q v):SV8 Q (p.arrive v):=by
 unfold PS.arrive
 split
 ·split
  ·exact h
  ·refine⟨h.1,λx hx=>?_⟩
   rcases List.mem_append.1 hx with hx|hx
   ·exact h.2 x hx
   ·rw[List.mem_singleton.1 hx];exact hv
 ·exact h
theorem PS.stepV_mem {p:PS}{v:Ver}(h:p.stepV=some v):v∈p.wait:=List.mem_of_getElem? h
theorem SV8.step {p:PS}(h:SV8 Q p):SV8 Q p.step:=by
 unfold PS.step
 split
 ·rename_i v hv
  exact⟨J.sput_all h.1 (h.2 v (PS.stepV_mem hv)),λx hx=>h.2 x (List.mem_of_mem_eraseIdx hx)⟩
 ·exact h
theorem SV8.head {p:PS}(h:SV8 Q p) {key:ByteArray}{v:Ver}(hv:p.readV key=some v):Q v:=by
 unfold PS.readV at hv
 split at hv
 ·cases hv
 ·obtain⟨q,hq,hx⟩:=J.getC_of (J.shead_in hv)
  exact h.1 q hq v hx
theorem YV8.send {s:VS}(h:YV8 Q s) {v:Ver}(hv:Q v):YV8 Q (s.send v):=by
 unfold VS.send
 split
 ·exact h
 ·refine⟨λp hp=>?_,λp hp=>?_⟩ <;>
  ·rcases List.mem_append.1 hp with hp|hp
   ·first|exact h.1 p hp|exact h.2 p hp
   ·rw[List.mem_singleton.1 hp];exact hv
theorem YV8.out {s:VS}(h:YV8 Q s) (k:Int):YV8 Q (s.out k):=⟨h.1,λp hp=>by
 rcases List.mem_append.1 hp with hp|hp
 ·exact h.2 p (List.mem_of_mem_take hp)
 ·exact h.2 p (List.mem_of_mem_drop hp)⟩
theorem YV8.took {s:VS}(h:YV8 Q s) (q:Int):YV8 Q (s.took q):=by
 unfold VS.took
 split
 ·exact⟨λp hp=>h.1 p (List.mem_of_mem_drop hp),h.2⟩
 ·exact h
theorem YV8.pick {s:VS}(h:YV8 Q s) {k:Int}(how:Int) (hk:s.inW k=true):YV8 Q (s.pick k how):=by
 unfold VS.pick
 split
 ·split
  ·refine⟨h.1,λp hp=>?_⟩
   rcases List.mem_append.1 hp with hp|hp
   ·exact h.2 p hp
   ·rw[List.mem_singleton.1 hp];exact h.2 _ (VS.mem_at hk)
  ·exact h
 ·split
  ·exact h.out k
  ·exact(h.out k).took _
theorem YV8.again {s:VS}(h:YV8 Q s):YV8 Q s.again:=⟨h.1,λp hp=>by
 rcases List.mem_append.1 hp with hp|hp
 ·exact h.2 p hp
 ·exact h.1 p (List.mem_of_mem_take hp)⟩
end
end Go.Proofs.YtdnijgdmohinlaaGreat
end
section
set_option maxRecDepth 100000
namespace Go.Proofs.YtdnijgdmohinlaaGreat
open Go Go.RowKit A R
namespace PG
structure Inv (g:PG) (m:Nat):Prop where
 ok:g.Ok m
 cp:∀k,P8 (g.cs k).2
 sv:∀p∈g.S,SV8 V8 p
 yv:∀s∈g.Y,YV8 V8 s
variable {g:PG}{m:Nat}
theorem Ok.mono {m':Nat}(h:g.Ok m) (hm:m≤m'):g.Ok m':=⟨h.par,h.row,h.sl,λp hp=>(h.so p hp).mono hm,h.yl,λs hs=>(h.yf s hs).mono hm,h.cs,Nat.le_trans h.hl hm⟩
theorem Inv.mono {m':Nat}(h:g.Inv m) (hm:m≤m'):g.Inv m':=⟨h.ok.mono hm,h.cp,h.sv,h.yv⟩
theorem Inv.new {c:SRow}(hp:T.Ahead c.parents) (hc:T.ok c=true):(new c).Inv 32 where
 ok:=new_ok hp hc
 cp k:=by
  show P8 (if k<4 then(((k%c.parents.length:Nat):Int),([]:List Dep))else(0,[])).2
  split<;>exact P8.nil
 sv p hp2:=by
  obtain⟨i,hi,rfl⟩:=List.mem_map.1 hp2
  exact⟨λq hq=>(by cases hq),λv hv=>by cases hv⟩
 yv s hs:=by
  obtain⟨_,rfl⟩:=List.mem_replicate.1 hs
  exact⟨λp hp=>(by cases hp),λp hp=>by cases hp⟩
theorem Inv.setC (h:g.Inv m) (i:Int) {c:Int×List Dep}(h1: -1≤c.1) (h2:c.1<g.n) (h3:P8 c.2):(g.setC i c).Inv m where
 ok:=⟨h.ok.par,h.ok.row,h.ok.sl,h.ok.so,h.ok.yl,h.ok.yf,λk=>by
  show -1≤(if k=i.toNat then c else g.cs k).1∧(if k=i.toNat then c else g.cs k).1<(g.n:Int)∧(if k=i.toNat then c else g.cs k).2.length≤400
  split
  ·exact⟨h1,h2,by have:=h3.len;omega⟩
  ·exact h.ok.cs k,h.ok.hl⟩
 cp k:=by
  show P8 (if k=i.toNat then c else g.cs k).2
  split
  ·exact h3
  ·exact h.cp k
 sv:=h.sv
 yv:=h.yv
theorem Inv.setS {m':Nat}(h:g.Inv m) (hm:m≤m') (i:Int) {p:PS}(hp:p.Ok m') (hv:SV8 V8 p):(g.setS i p).Inv m' where
 ok:=⟨h.ok.par,h.ok.row,by show(g.S.set _ _).length=g.n;rw[List.length_set];exact h.ok.sl,λq hq=>by
  rcases List.mem_or_eq_of_mem_set hq with hq|rfl
  ·exact(h.ok.so q hq).mono hm
  ·exact hp,h.ok.yl,λs hs=>(h.ok.yf s hs).mono hm,h.ok.cs,Nat.le_trans h.ok.hl hm⟩
 cp:=h.cp
 sv q hq:=by
  rcases List.mem_or_eq_of_mem_set hq with hq|rfl
  ·exact h.sv q hq
  ·exact hv
 yv:=h.yv
theorem vUpd_mem {n:Nat}{Y:List VS}{a b:Int}{f:VS→VS}{s:VS}(h:s∈N.vUpd n Y a b f):s∈Y∨∃s',N.vAt n Y a b=some s'∧s=f s':=by
 unfold N.vUpd at h
 unfold N.vAt
 cases hx:N.idx n a b with
 | none=>rw[hx]at h;exact .inl h
 | some i =>
  rw[hx]at h
  cases hy:Y[i]? with
  | none=>simp only[hy]at h;exact .inl h
  | some x =>
   simp only[hy]at h
   rcases List.mem_or_eq_of_mem_set h with h|rfl
   ·exact .inl h
   ·exact .inr ⟨x,hy,rfl⟩
theorem Inv.updY {m':Nat}(h:g.Inv m) (hm:m≤m') (a b:Int) {f:VS→VS}(hf:∀s,g.ses a b=some s→s.Fit m→YV8 V8 s→(f s).Fit m'∧YV8 V8 (f s)):(g.updY a b f).Inv m' where
 ok:=⟨h.ok.par,h.ok.row,h.ok.sl,λq hq=>(h.ok.so q hq).mono hm,(N.vUpd_len ..).trans h.ok.yl,λs hs=>by
  rcases vUpd_mem hs with hs|⟨s',hs',rfl⟩
  ·exact(h.ok.yf s hs).mono hm
  ·exact(hf s' hs' (h.ok.yf s' (N.vAt_mem hs')) (h.yv s' (N.vAt_mem hs'))).1,h.ok.cs,Nat.le_trans h.ok.hl hm⟩
 cp:=h.cp
 sv:=h.sv
 yv s hs:=by
  rcases vUpd_mem hs with hs|⟨s',hs',rfl⟩
  ·exact h.yv s hs
  ·exact(hf s' hs' (h.ok.yf s' (N.vAt_mem hs')) (h.yv s' (N.vAt_mem hs'))).2
theorem Inv.send {v:Ver}(hv:V8 v) (fr:Int):∀(to:List Nat) (g:PG) (m:Nat),g.Inv m→(g.send fr to v).Inv (m+to.length)
 | [],g,m,h=>h
 | x::r,g,m,h=>by
  have:=Inv.send hv fr r (g.updY fr x (·.send v)) (m+1) (h.updY (by omega) fr x λs _ hs hy=>⟨hs.send hv.ok,hy.send hv⟩)
  rw[List.length_cons,show m+(r.length+1)=m+1+r.length from by omega]
  exact this
theorem Inv.ev (h:g.Inv m) (e:Event):(g.ev e).Inv (m+1) where
 ok:=⟨h.ok.par,h.ok.row,h.ok.sl,λq hq=>(h.ok.so q hq).mono (by omega),h.ok.yl,λs hs=>(h.ok.yf s hs).mono (by omega),h.ok.cs,by
  have:=h.ok.hl
  show(g.h++[e]).length≤_
  simp;omega⟩
 cp:=h.cp
 sv:=h.sv
 yv:=h.yv
theorem nx_len (h:g.Ok m) (a fr:Int) (key:ByteArray):(g.nx a fr key).length≤6:=Nat.le_trans (T.next_len ..) h.par.le
theorem Inv.site (h:g.Inv m) {i:Int}(hi:i.toNat<g.n):SV8 V8 (g.site i):=by
 have:i.toNat<g.S.length:=by rw[h.ok.sl];exact hi
 unfold PG.site
 rw[show g.S.getD i.toNat default=g.S[i.toNat]from by simp[this]]
 exact h.sv _ (List.getElem_mem this)
theorem write_v8 {p:PS}{key value:ByteArray}{gone:Bool}{past:List Dep}(hk:K8 key) (hp:P8 past) (h:p.writeE key value gone past=0):V8 (p.made key value gone past):=by
 have:=PS.write_ok h
 unfold PS.writeV at this
 rw[if_pos h]at this
 exact⟨this,hk,hp.key⟩
theorem putE_zero {o:SOp}(h:g.putE o=0):(g.site (g.cli o.client).1).writeE o.key (putW o) (decide (o.kind=2)) (g.cli o.client).2=0:=by
 unfold PG.putE at h
 split at h
 ·cases h
 ·split at h
  ·cases h
  ·exact h
theorem put_v8 (h:g.Inv m) {o:SOp}(hk:K8 o.key) (h0:g.putE o=0):V8 (g.putV o):=by
 have h1:=putE_zero h0
 unfold PG.putV PS.writeV
 rw[if_pos h1]
 exact write_v8 hk (h.cp _) h1
theorem Inv.put (h:g.Inv m) {o:SOp}(ha:g.At o) (hk:K8 o.key):(g.put o).1.Inv (m+8):=by
 unfold PG.put
 split
 ·rename_i h0
  obtain⟨hcs,hcn,hcp⟩:=h.ok.cli ha
  have hv:=put_v8 h hk h0
  have hl:=nx_len h.ok (g.cli o.client).1 (-1) o.key
  have h1:(g.setS (g.cli o.client).1 ((g.site (g.cli o.client).1).write o.key (putW o) (decide (o.kind=2)) (g.cli o.client).2)).Inv (m+1) :=
   h.setS (by omega) _ ((h.ok.site hcn).write ..) ((h.site hcn).write _ _ _ _ λh2=>write_v8 hk (h.cp _) h2)
  have h2:=(Inv.send hv (g.cli o.client).1 (g.nx (g.cli o.client).1 (-1) o.key) _ _ h1).ev ⟨1,o.client,(g.putV o).key,(g.putV o).n,(g.putV o).s,(g.cli o.client).2⟩
  have hc:=h.ok.cs o.client.toNat
  have h2':((((g.setS (g.cli o.client).1 ((g.site (g.cli o.client).1).write o.key (putW o) (decide (o.kind=2)) (g.cli o.client).2)).send (g.cli o.client).1 (g.nx (g.cli o.client).1 (-1) o.key) (g.putV o))).ev ⟨1,o.client,(g.putV o).key,(g.putV o).n,(g.putV o).s,(g.cli o.client).2⟩).n=g.n:=by
   show((g.setS _ _).send _ _ _).n=g.n
   rw[send_n];rfl
  refine(h2.setC o.client (c:=N.saw1 (g.cli o.client) (g.putV o)) ?_ ?_ (P8.saw1 (h.cp _) hv)).mono ?_
  ·exact hc.1
  ·rw[h2'];exact hc.2.1
  ·omega
 ·exact h.mono (by omega)
theorem Inv.get (h:g.Inv m) {o:SOp}(ha:g.At o):(g.get o).1.Inv (m+8):=by
 obtain⟨hcs,hcn,hcp⟩:=h.ok.cli ha
 have hc:=h.ok.cs o.client.toNat
 have h1:(g.getS o).Inv (m+1):=h.ev _
 unfold PG.get
 split
 ·split
  ·rename_i v hv
   exact(h1.setC o.client (c:=N.saw1 (g.cli o.client) v) hc.1 hc.2.1 (P8.saw1 (h.cp _) ((h.site hcn).head hv))).mono (by omega)
  ·exact h1.mono (by omega)
 ·exact h.mono (by omega)
theorem Inv.again (h:g.Inv m) (hm:32≤m) (o:SOp):(g.again o).1.Inv m:=h.updY (Nat.le_refl m) o.site o.to' λs _ hs hy=>⟨hs.again hm,hy.again⟩
theorem Inv.step (h:g.Inv m) (o:SOp):(g.step o).1.Inv (m+1):=by
 unfold PG.step
 split
 ·rename_i hs
  obtain⟨hs0,hsn⟩:=isS_iff hs
  split
  ·exact h.setS (by omega) _ (h.ok.site hsn).step (h.site hsn).step
  ·exact h.mono (by omega)
 ·exact h.mono (by omega)
theorem Inv.pick (h:g.Inv m) (hm:32≤m) (o:SOp):(g.pick o).1.Inv (m+8):=by
 unfold PG.pick
 split
 ·exact h.mono (by omega)
 ·rename_i s hx
  obtain⟨ha0,han,hb0,hbn⟩:=ses_idx hx
  by_cases hw:s.inW o.at'=false
  ·rw[if_pos hw];exact h.mono (by omega)
  ·rw[if_neg hw]
   have hw':s.inW o.at'=true:=by simpa using hw
   have h1:(g.updY o.site o.to' (·.pick o.at' o.how)).Inv (m+1):=h.updY (by omega) o.site o.to' λs' hs' hf hy=>by
    rw[hx]at hs';cases hs'
    exact⟨hf.pick _ hw' hm,hy.pick _ hw'⟩
   split
   ·exact h1.mono (by omega)
   ·split
    ·exact h.mono (by omega)
    ·have hv:V8 (s.at' o.at').2:=(h.yv s (N.vAt_mem hx)).2 _ (VS.mem_at hw')
     have h2:=h1.setS (Nat.le_refl _) o.to' (p:=(g.site o.to').arrive (s.at' o.at').2) (((h.ok.site hbn).arrive _).mono (by omega)) ((h.site hbn).arrive hv)
     have hl:=nx_len h.ok o.to' o.site (s.at' o.at').2.key
     exact(Inv.send hv o.to' _ _ _ h2).mono (by unfold pickT;omega)
theorem Inv.gate {m':Nat}(h:g.Inv m) (hm:m≤m') {o:SOp}{r:PG×Ans}(hr:¬bad o→¬g.away o→r.1.Inv m'):(g.gate o r).1.Inv m':=by
 unfold PG.gate
 split
 ·exact h.mono hm
 ·split
  ·exact h.mono hm
  ·rename_i h1 h2;exact hr h1 h2
theorem at_of (h:g.Ok m) {o:SOp}(hk:1≤o.kind∧o.kind≤7∧o.kind≠5) (hb:¬bad o) (ha:¬g.away o):g.At o:=by
 have hc:=h.cs o.client.toNat
 unfold bad at hb
 unfold away at ha
 unfold PG.cli at ha
 refine⟨by omega,by omega,?_⟩
 unfold PG.cli
 omega
end PG
end Go.Proofs.YtdnijgdmohinlaaGreat
end
section
set_option maxRecDepth 100000
namespace Go.Proofs.YtdnijgdmohinlaaGreat
open Go Go.RowKit A R
open A.RowT
theorem gdo_to {fr:FR}{g:PG}{t:GT}{o:SOp}{r:PG×PG.Ans}{f:FuncId}{w:PG}{a:PG.Ans}(hk:stepF o.kind=some f) (hw:g.gate o r=(w,a)) (hG:¬PG.bad o→¬g.away o→GCallE Tryz.prog f [.bx 1001 0 0,.d (.row o.row)] (GE fr g t) (λt':GT=>some (GE fr r.1 t',.d (ansA r.2)))):GCallE Tryz.prog 13 [.bx 1001 0 0,.d (.row o.row)] (GE fr g t) (λt':GT=>some (GE fr w t',.d (ansA a))):=by
 have:=gdo_of fr g t o r f hk hG
 rw[hw]at this
 exact this
section
variable {fr:FR}{g:PG}{t:GT}{o:SOp}{w:PG}{a:PG.Ans}{m:Nat}
theorem gdo_put (hi:g.Inv m) (hm:m≤900) (hf:fr.Ok g) (hk:o.kind=1∨o.kind=2) (hw:g.gate o (g.put o)=(w,a)):GCallE Tryz.prog 13 [.bx 1001 0 0,.d (.row o.row)] (GE fr g t) (λt':GT=>some (GE fr w t',.d (ansA a))) :=
 gdo_to (f:=87) (by rcases hk with h|h<;>rw[h]<;>rfl) hw λhb ha=>gput_g fr g t o hi.ok hm hf (PG.at_of hi.ok (by omega) hb ha)
theorem gdo_get (hi:g.Inv m) (hm:m≤900) (hf:fr.Ok g) (hk:o.kind=3) (hw:g.gate o (g.get o)=(w,a)):GCallE Tryz.prog 13 [.bx 1001 0 0,.d (.row o.row)] (GE fr g t) (λt':GT=>some (GE fr w t',.d (ansA a))) :=
 gdo_to (f:=88) (by rw[hk];rfl) hw λhb ha=>by
  have hat:=PG.at_of hi.ok (by omega) hb ha
  obtain⟨hcs,hcn,hcp⟩:=hi.ok.cli hat
  exact gget_g fr g t o hi.ok hm hf hat λq hq v hv=>((hi.site hcn).1 q hq v hv).ok
theorem gdo_pick (hi:g.Inv m) (hm:m≤900) (hf:fr.Ok g) (hk:o.kind=8) (hw:g.gate o (g.pick o)=(w,a)):GCallE Tryz.prog 13 [.bx 1001 0 0,.d (.row o.row)] (GE fr g t) (λt':GT=>some (GE fr w t',.d (ansA a))) :=
 gdo_to (f:=93) (by rw[hk];rfl) hw λ_ _=>gpick_g fr g t o hi.ok hm hf
theorem gdo_again (hi:g.Inv m) (hm:m≤900) (hf:fr.Ok g) (hk:o.kind=9) (hw:g.gate o (g.again o)=(w,a)):GCallE Tryz.prog 13 [.bx 1001 0 0,.d (.row o.row)] (GE fr g t) (λt':GT=>some (GE fr w t',.d (ansA a))) :=
 gdo_to (f:=94) (by rw[hk];rfl) hw λ_ _=>gagain_g fr g t o hf λs hs=>(hi.ok.yf s hs).mono (by omega)
theorem gdo_step (hi:g.Inv m) (hm:m≤900) (hf:fr.Ok g) (hk:o.kind=10) (hw:g.gate o (g.step o)=(w,a)):GCallE Tryz.prog 13 [.bx 1001 0 0,.d (.row o.row)] (GE fr g t) (λt':GT=>some (GE fr w t',.d (ansA a))) :=
 gdo_to (f:=95) (by rw[hk];rfl) hw λ_ _=>gsteps_g fr g t o hi.ok hm hf
end
namespace W21
def c0:SRow:=⟨[⟨⟨#[]⟩,⟨#[]⟩⟩],[3],[-1,0]⟩
def none_:SRow:=⟨[],[],[]⟩
def o1:SOp:=⟨1,0,0,0,0,0,⟨#[97]⟩,⟨#[120]⟩,[],none_⟩
def o2:SOp:=⟨8,0,0,1,0,0,⟨#[]⟩,⟨#[]⟩,[],none_⟩
def o3:SOp:=⟨10,0,1,0,0,0,⟨#[]⟩,⟨#[]⟩,[],none_⟩
def o4:SOp:=⟨3,1,0,0,0,0,⟨#[97]⟩,⟨#[]⟩,[],none_⟩
theorem h0:T.Ahead c0.parents:=⟨by decide,by decide,rfl,λi h1 h2=>by
 have:i=1:=by simp[c0]at h2;omega
 subst this;decide⟩
theorem k0:T.ok c0=true:=by decide +kernel
def w0:PG:=PG.new c0
def w1:PG:=(w0.gate o1 (w0.put o1)).1
def a1:PG.Ans:=(w0.gate o1 (w0.put o1)).2
def w2:PG:=(w1.gate o2 (w1.pick o2)).1
def a2:PG.Ans:=(w1.gate o2 (w1.pick o2)).2
def w3:PG:=(w2.gate o3 (w2.step o3)).1
def a3:PG.Ans:=(w2.gate o3 (w2.step o3)).2
def w4:PG:=(w3.gate o4 (w3.get o4)).1
def a4:PG.Ans:=(w3.gate o4 (w3.get o4)).2
theorem ka:K8 ⟨#[97]⟩:=List.mem_map.2 ⟨0,by decide,rfl⟩
theorem i0:w0.Inv 32:=PG.Inv.new h0 k0
theorem i1:w1.Inv 40:=i0.gate (by decide) λhb ha=>i0.put (PG.at_of i0.ok (by decide) hb ha) ka
theorem i2:w2.Inv 48:=i1.gate (by decide) λ_ _=>i1.pick (by decide) o2
theorem i3:w3.Inv 49:=i2.gate (by decide) λ_ _=>i2.step o3
theorem i4:w4.Inv 57:=i3.gate (by decide) λhb ha=>i3.get (PG.at_of i3.ok (by decide) hb ha)
theorem e4:a4.2.length=1:=by decide +kernel
theorem eall:(decide (a1.1=0)&&decide (a2.1=0)&&decide (a3.1=0)&&decide ((a4.2.length:Int)=1)&&((a4.2.getD 0 default).value.toList==(⟨#[120]⟩:ByteArray).toList)&&w4.idle)=true:=by decide +kernel
end W21
theorem FR.Ok.inv {fr:FR}{g g':PG}{m m':Nat}(h:fr.Ok g) (i:g.Inv m) (i':g'.Inv m') (hn:g'.n=g.n):fr.Ok g':=⟨by rw[h.sl,i.ok.sl,i'.ok.sl,hn],by rw[h.nl,i.ok.yl,i'.ok.yl,hn],h.np,h.sp,by rw[i'.ok.sl,hn,←i.ok.sl];exact h.s6⟩
theorem gawake_a:ACall Tryz.prog 10 [] (bv true):=by
 refine AC_1 Tryz.func10 Tryz.ntmps10 Tryz.results10 λhok M0 w0 hnl=>?_
 have he4:=W21.e4
 have hlt:0<W21.a4.2.length:=by omega
 refine Aw_sr ?_
 refine Al_mr ?_
 refine Al_ns ?_
 refine Al_p (Pu_build (aa:=[]) rfl Tryz.underlying56 Tryz.zeroValue56 places56 (by kernel_rfl) trivial rfl) ?_
 refine Al_p (Pu_slice1 rfl Tryz.underlying28 Tryz.sizeOf56 Tryz.zeroValue56 rfl (by decide) (by decide) (by kernel_rfl) rfl rfl rfl) ?_
 refine Al_p (Pu_slice1 rfl Tryz.underlying22 Tryz.sizeOf3 Tryz.zeroValue3 rfl (by decide) (by decide) (by kernel_rfl) rfl rfl rfl) ?_
 refine Al_p (Pu_buildSlice (aa:=[(0,_),(1,_)]) rfl Tryz.underlying22 Tryz.sizeOf3 Tryz.zeroValue3 rfl (by decide) (by decide) (by decide) (by kernel_rfl) ⟨rfl,rfl,rfl,rfl,rfl,rfl,trivial⟩ ((rfl:_=some [[iv (-1)],[iv 0]].flatten)) rfl rfl) ?_
 refine Al_p (Pu_build (aa:=[(0,_),(1,_),(2,_)]) rfl Tryz.underlying30 Tryz.zeroValue30 places30 (by kernel_rfl) ⟨rfl,rfl,rfl,rfl,rfl,rfl,rfl,rfl,rfl,trivial⟩ rfl) ?_
 refine Al_gcallE [] [(1001,2001),(1002,2002),(1003,2003),(1004,2004),(1005,2005),(1006,2006),(1007,2007)] (gnew_g W21.c0 W21.h0 W21.k0) rfl rfl rfl (by decide) (by kernel_rfl) trivial (λ_=>rfl) rfl rfl ⟨Sub.rfl,trivial⟩ ?_
 rintro⟨⟨fr,t0⟩,hf0⟩ g11
 refine Al_mr ?_
 refine Al_nil (Aw_seq (Aw_sr ?_))
 refine Al_ml ?_
 refine Al_p (Pu_eqnilb Tryz.underlying32 rfl rfl) ?_
 refine Al_nil ?_
 refine Aw_condF rfl (rfl) ?_
 refine Aw_skip (Aw_seq ?_)
 have hf1:fr.Ok W21.w1:=FR.Ok.inv hf0 W21.i0 W21.i1 (by decide +kernel)
 have hf2:fr.Ok W21.w2:=FR.Ok.inv hf0 W21.i0 W21.i2 (by decide +kernel)
 have hf3:fr.Ok W21.w3:=FR.Ok.inv hf0 W21.i0 W21.i3 (by decide +kernel)
 have hf4:fr.Ok W21.w4:=FR.Ok.inv hf0 W21.i0 W21.i4 (by decide +kernel)
 refine Aw_region ?_
 refine Al_ml ?_
 refine Al_p (Pu_build (aa:=[(0,_),(6,_),(7,_)]) rfl Tryz.underlying41 Tryz.zeroValue41 places41 (by kernel_rfl) ⟨rfl,rfl,rfl,rfl,rfl,rfl,rfl,rfl,rfl,trivial⟩ rfl) ?_
 refine Al_gcallE [(1001,2001,g11),(1002,2002,g11),(1003,2003,g11),(1004,2004,g11),(1005,2005,g11),(1006,2006,g11),(1007,2007,g11)] [] (gdo_put (g:=W21.w0) (t:=t0) (w:=W21.w1) (a:=W21.a1) W21.i0 (by decide) hf0 (o:=W21.o1) (.inl rfl) rfl) rfl rfl rfl (by decide) (by kernel_rfl) ⟨rfl,rfl,rfl,rfl,rfl,rfl,rfl,trivial⟩ (λ_=>rfl) rfl rfl ⟨Sub.rfl,ASub.sub (ASub.row ⟨ASub.rfl,ASub.rfl,ASub.rfl,ASub.rfl,ASub.rfl,ASub.rfl,ASub.rfl,ASub.rfl,ASub.nil,ASub.nil,ASub.nil,ASub.nil,trivial⟩),trivial⟩ ?_
 rintro t1 g16
 refine Al_al Tryz.zeroValue37 λg2=>?_
 refine Al_sN Tryz.isAgg37 Tryz.sizeOf37 ?_
 refine Al_ns ?_
 refine Al_ml ?_
 refine Al_p (Pu_build (aa:=[(0,_),(2,_),(3,_)]) rfl Tryz.underlying41 Tryz.zeroValue41 places41 (by kernel_rfl) ⟨rfl,rfl,rfl,rfl,rfl,rfl,rfl,rfl,rfl,trivial⟩ rfl) ?_
 refine Al_gcallE [(1001,2001,g11),(1002,2002,g11),(1003,2003,g11),(1004,2004,g11),(1005,2005,g11),(1006,2006,g11),(1007,2007,g11)] [] (gdo_pick (g:=W21.w1) (t:=t1) (w:=W21.w2) (a:=W21.a2) W21.i1 (by decide) hf1 (o:=W21.o2) rfl rfl) rfl rfl rfl (by decide) (by kernel_rfl) ⟨rfl,rfl,rfl,rfl,rfl,rfl,rfl,trivial⟩ (λ_=>rfl) rfl rfl ⟨Sub.rfl,ASub.sub (ASub.row ⟨ASub.rfl,ASub.rfl,ASub.rfl,ASub.rfl,ASub.rfl,ASub.rfl,ASub.rfl,ASub.rfl,ASub.nil,ASub.nil,ASub.nil,ASub.nil,trivial⟩),trivial⟩ ?_
 rintro t2 g19
 refine Al_al Tryz.zeroValue37 λg3=>?_
 refine Al_sN Tryz.isAgg37 Tryz.sizeOf37 ?_
 refine Al_ns ?_
 refine Al_ml ?_
 refine Al_p (Pu_build (aa:=[(0,_),(2,_)]) rfl Tryz.underlying41 Tryz.zeroValue41 places41 (by kernel_rfl) ⟨rfl,rfl,rfl,rfl,rfl,rfl,trivial⟩ rfl) ?_
 refine Al_gcallE [(1001,2001,g11),(1002,2002,g11),(1003,2003,g11),(1004,2004,g11),(1005,2005,g11),(1006,2006,g11),(1007,2007,g11)] [] (gdo_step (g:=W21.w2) (t:=t2) (w:=W21.w3) (a:=W21.a3) W21.i2 (by decide) hf2 (o:=W21.o3) rfl rfl) rfl rfl rfl (by decide) (by kernel_rfl) ⟨rfl,rfl,rfl,rfl,rfl,rfl,rfl,trivial⟩ (λ_=>rfl) rfl rfl ⟨Sub.rfl,ASub.sub (ASub.row ⟨ASub.rfl,ASub.rfl,ASub.rfl,ASub.rfl,ASub.rfl,ASub.rfl,ASub.rfl,ASub.rfl,ASub.nil,ASub.nil,ASub.nil,ASub.nil,trivial⟩),trivial⟩ ?_
 rintro t3 g22
 refine Al_al Tryz.zeroValue37 λg4=>?_
 refine Al_sN Tryz.isAgg37 Tryz.sizeOf37 ?_
 refine Al_ns ?_
 refine Al_ml ?_
 refine Al_p (Pu_build (aa:=[(0,_),(1,_),(6,_)]) rfl Tryz.underlying41 Tryz.zeroValue41 places41 (by kernel_rfl) ⟨rfl,rfl,rfl,rfl,rfl,rfl,rfl,rfl,rfl,trivial⟩ rfl) ?_
 refine Al_gcallE [(1001,2001,g11),(1002,2002,g11),(1003,2003,g11),(1004,2004,g11),(1005,2005,g11),(1006,2006,g11),(1007,2007,g11)] [] (gdo_get (g:=W21.w3) (t:=t3) (w:=W21.w4) (a:=W21.a4) W21.i3 (by decide) hf3 (o:=W21.o4) rfl rfl) rfl rfl rfl (by decide) (by kernel_rfl) ⟨rfl,rfl,rfl,rfl,rfl,rfl,rfl,trivial⟩ (λ_=>rfl) rfl rfl ⟨Sub.rfl,ASub.sub (ASub.row ⟨ASub.rfl,ASub.rfl,ASub.rfl,ASub.rfl,ASub.rfl,ASub.rfl,ASub.rfl,ASub.rfl,ASub.nil,ASub.nil,ASub.nil,ASub.nil,trivial⟩),trivial⟩ ?_
 rintro t4 g25
 refine Al_al Tryz.zeroValue37 λg5=>?_
 refine Al_sN Tryz.isAgg37 Tryz.sizeOf37 ?_
 refine Al_ns ?_
 refine Al_p (Pu_fb 0 Tryz.underlying37 Tryz.sizeOf34) ?_
 refine Al_p (Pu_lb Tryz.isAgg34) ?_
 refine Al_p Pu_cp ?_
 refine Al_ml ?_
 refine Al_s (St_g [] trivial (λ_=>Pu_fb 0 Tryz.underlying37 Tryz.sizeOf34)) ?_
 refine Al_s (St_g [30] ⟨⟨_,rfl⟩,trivial⟩ (λ_=>Pu_lb Tryz.isAgg34)) ?_
 refine Al_s (St_g [31] ⟨⟨_,rfl⟩,trivial⟩ (λ_=>Pu_cp)) ?_
 refine Al_p Pu_a ?_
 refine Al_ml ?_
 refine Al_s (St_g [] trivial (λ_=>Pu_fb 0 Tryz.underlying37 Tryz.sizeOf34)) ?_
 refine Al_s (St_g [35] ⟨⟨_,rfl⟩,trivial⟩ (λ_=>Pu_lb Tryz.isAgg34)) ?_
 refine Al_s (St_g [36] ⟨⟨_,rfl⟩,trivial⟩ (λ_=>Pu_cp)) ?_
 refine Al_p Pu_a ?_
 refine Al_ml ?_
 refine Al_s (St_g [] trivial (λ_=>Pu_fb 1 Tryz.underlying37 Tryz.sizeOf35)) ?_
 refine Al_s (St_g [40] ⟨⟨_,rfl⟩,trivial⟩ (λ_=>Pu_lb Tryz.isAgg35)) ?_
 refine Al_s (St_g [41] ⟨⟨_,rfl⟩,trivial⟩ (λ_=>Pu_ln Tryz.underlying35)) ?_
 refine Al_s (St_g [42] ⟨⟨_,rfl⟩,trivial⟩ (λ_=>Pu_cp)) ?_
 refine Al_p Pu_a ?_
 refine Al_ml ?_
 refine Al_s (St_g [] trivial (λ_=>Pu_fb 1 Tryz.underlying37 Tryz.sizeOf35)) ?_
 refine Al_s (St_g [46] ⟨⟨_,rfl⟩,trivial⟩ (λ_=>Pu_lb Tryz.isAgg35)) ?_
 refine Al_s (St_g [47] ⟨⟨_,rfl⟩,trivial⟩ (λ_=>Pu_index rfl Tryz.underlying35 Tryz.sizeOf50 rfl rfl (show((0:Int))=((0:Nat):Int)from rfl) (mapgetD (d:=default) hlt))) ?_
 refine Al_s (St_g [48] ⟨⟨_,rfl⟩,trivial⟩ (λ_=>Pu_fd 1 Tryz.underlying50 Tryz.sizeOf9)) ?_
 refine Al_s (St_g [49] ⟨⟨_,rfl⟩,trivial⟩ (λ_=>Pu_l1 Tryz.isAgg9)) ?_
 refine Al_s (St_g [50] ⟨⟨_,rfl⟩,trivial⟩ (λ_=>Pu_sr)) ?_
 refine Al_p Pu_a ?_
 refine Al_ml ?_
 refine Al_s (St_g [] trivial (λ_=>Pu_mvl)) ?_
 refine Al_s (St_gd [54] rfl rfl rfl rfl ⟨⟨_,rfl⟩,trivial⟩ (λhg55=>by exact Pu_gcall [(1001,2001,g11),(1002,2002,g11),(1003,2003,g11),(1004,2004,g11),(1005,2005,g11),(1006,2006,g11),(1007,2007,g11)] (gIdle_g fr W21.w4 t4 W21.i4.ok (by decide) hf4) (GE_in ..) rfl ⟨rfl,rfl,rfl,rfl,rfl,rfl,rfl,trivial⟩ rfl ⟨Sub.rfl,trivial⟩)) ?_
 refine Al_p Pu_a ?_
 refine Al_mr ?_
 refine Al_nil ?_
 exact Aw_ret (Sub.bool W21.eall)
end Go.Proofs.YtdnijgdmohinlaaGreat
end
section
namespace Go.Proofs.YtdnijgdmohinlaaGreat
open Go.ChangeShapes Go.WideShapes Go.ChangeAt Go.RowKit A
section
variable {H:Type}{enc:TypeId×Value→H}{W:World}{base:Nat}{spare:Nat→Bool}{held:Bool}{v:Value}{d:DataW H}{p:List MemPlace}
set_option maxRecDepth 100000 in
theorem open_ints21 (hv:Value.okWide Tryz.prog W .any base 22 v) (h:DataW.Trod enc Tryz.prog W 0 spare held 22 v d p):∃l:List Int,Rep NoM W (.sl 1 (l.map λx=>[iv x])) v:=by
 obtain⟨rows,h1,h2⟩:=A.open_slice Tryz.underlying22 (n:=1) (s:=.i64) ⟨_,Tryz.underlying22,by kernel_rfl,by decide,Tryz.underlying3⟩ hv h
 obtain⟨l,rfl⟩:=A.rows_map (f:=λx:Int=>[iv x]) λr hr=>int_fits (h1 r hr)
 exact⟨l,h2⟩
end
end Go.Proofs.YtdnijgdmohinlaaGreat
end
