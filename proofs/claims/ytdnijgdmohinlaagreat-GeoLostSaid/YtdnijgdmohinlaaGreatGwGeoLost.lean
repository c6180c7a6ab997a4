/- GeoLost: what is dropped on the way comes, once it is sent again; no condition. -/
import Derived.Test.YtdnijgdmohinlaaGreatG6
set_option linter.unusedSimpArgs false
set_option linter.unusedVariables false
set_option linter.constructorNameAsVariable false
section
set_option maxRecDepth 100000
namespace Go.Proofs.YtdnijgdmohinlaaGreat
open Go Go.RowKit A R
namespace W21
abbrev Pks:=List (Int×Ver)
def oP (i:Nat):SOp:=⟨1,0,0,0,0,0,⟨#[97]⟩,⟨#[UInt8.ofNat (48+i)]⟩,[],none_⟩
def oD (a:Int):SOp:=⟨8,0,0,1,a,1,⟨#[]⟩,⟨#[]⟩,[],none_⟩
def oA:SOp:=⟨9,0,0,1,0,0,⟨#[]⟩,⟨#[]⟩,[],none_⟩
def gP:Nat→PG
 | 0=>w0
 | i+1=>((gP i).gate (oP i) ((gP i).put (oP i))).1
def s0 (g:PG):VS:=g.Y.getD 0 default
def _root_.Go.Proofs.YtdnijgdmohinlaaGreat.VS.wy (s:VS) (w:Pks):VS:=⟨s.sn,s.op,s.rn,w⟩
def setW (g:PG) (w:Pks):PG:={g with Y:=(s0 g).wy w::g.Y.drop 1}
def W (m:Nat):Pks:=(s0 (gP m)).way
def pkm (m k:Nat):Int×Ver:=(W m).getD k default
def D (m:Nat):Nat→PG
 | 0=>setW (gP m) []
 | k+1=>(((setW (D m k) [pkm m k]).pick o2).1.step o3).1
theorem fP:∀i∈List.range 8,((gP i).gate (oP i) ((gP i).put (oP i))).2.1=0:=by decide +kernel
theorem fW:∀m∈List.range 9,(gP m).n=2∧(gP m).Y.length=2∧(W m).length=m∧(s0 (gP m)).op=W m∧∀k∈List.range m,(pkm m k).1=k:=by decide +kernel
theorem fD:∀m∈List.range 9,∀k∈List.range (m+1),(D m k).n=2∧(D m k).Y.length=2∧(s0 (D m k)).rn=k∧(s0 (D m k)).way=[]∧((D m k).site 1).stepV=none:=by decide +kernel
theorem fT:∀m∈List.range 9,∀k∈List.range m,T.next (D m k).c 1 0 (pkm m k).2.key=[]∧((D m k).site 1).wait.length<24:=by decide +kernel
theorem fG:∀m∈List.range 9,1≤m→(((D m m).gate o4 ((D m m).get o4)).2.2.length=1∧((((D m m).gate o4 ((D m m).get o4)).2.2.getD 0 default).value.toList==(⟨#[UInt8.ofNat (47+m)]⟩:ByteArray).toList)=true∧((D m m).gate o4 ((D m m).get o4)).1.idle=true∧((D m m).gate o4 ((D m m).get o4)).1.n=2∧(J.getC (((D m m).gate o4 ((D m m).get o4)).1.site 1).cs ⟨#[97]⟩).length=m):=by decide +kernel
theorem ses2 {g:PG}(hn:g.n=2) (hl:g.Y.length=2) (w:Pks):(setW g w).n=2∧(setW g w).ses 0 1=some ((s0 g).wy w)∧∀f:VS→VS,(setW g w).updY 0 1 f={g with Y:=f ((s0 g).wy w)::g.Y.drop 1}:=by
 have h0:N.idx 2 0 1=some 0:=by decide
 refine⟨hn,?_,λf=>?_⟩
 ·unfold PG.ses N.vAt
  rw[show(setW g w).n=2 from hn,h0];rfl
 ·unfold PG.updY N.vUpd
  rw[show(setW g w).n=2 from hn,h0];rfl
theorem setW2 (g:PG) (w w':Pks):setW (setW g w) w'=setW g w':=rfl
theorem s0_set (g:PG) (w:Pks):s0 (setW g w)=((s0 g).wy w):=rfl
theorem setW_self {g:PG}{w:Pks}(hl:0<g.Y.length) (h:(s0 g).way=w):setW g w=g:=by
 subst h
 have h1:(s0 g).wy (s0 g).way::g.Y.drop 1=g.Y:=by
  show s0 g::g.Y.drop 1=g.Y
  unfold s0
  cases hY:g.Y with
  | nil=>rw[hY]at hl;cases hl
  | cons s r=>rfl
 unfold setW
 rw[h1]
theorem drop_ {g:PG}(hn:g.n=2) (hl:g.Y.length=2) (w:Pks) (a:Int):∃w':Pks,w'.Sublist w∧((setW g w).gate (oD a) ((setW g w).pick (oD a))).1=setW g w':=by
 obtain⟨h1,h2,h3⟩:=ses2 hn hl w
 have hg:(setW g w).gate (oD a) ((setW g w).pick (oD a))=(setW g w).pick (oD a):=by
  unfold PG.gate
  rw[if_neg (show¬PG.bad (oD a)from λh=>by have:=h.2.1;simp[oD]at this),if_neg (show¬(setW g w).away (oD a)from λh=>by have:=h.2.1;simp[oD]at this)]
 rw[hg]
 unfold PG.pick
 rw[show(setW g w).ses (oD a).site (oD a).to'=_ from h2]
 by_cases hw:VS.inW ((s0 g).wy w) (oD a).at'=false
 ·exact⟨w,List.Sublist.refl _,by simp only[hw,if_true]⟩
 ·simp only[hw]
  rw[if_neg (by simp),if_pos (.inl (show N.hw3 1=1 from by decide))]
  refine⟨w.take a.toNat++w.drop (a.toNat+1),?_,?_⟩
  ·conv=>rhs;rw[←List.take_append_drop a.toNat w]
   refine List.Sublist.append (List.Sublist.refl _) ?_
   rw[←List.drop_drop]
   exact List.drop_sublist 1 _
  ·show(setW g w).updY 0 1 _=_
   rw[h3]
   unfold VS.pick
   rw[if_neg (show¬N.hw3 (oD a).how=2 from(show¬N.hw3 1=2 from by decide)),if_pos (show N.hw3 (oD a).how=1 from(show N.hw3 1=1 from by decide))]
   rfl
theorem again_ {g:PG}(hn:g.n=2) (hl:g.Y.length=2) {w:Pks}(h8:w.length≤8) (h8':(s0 g).op.length≤8):((setW g w).gate oA ((setW g w).again oA)).1=setW g (w++(s0 g).op):=by
 obtain⟨h1,h2,h3⟩:=ses2 hn hl w
 have hg:(setW g w).gate oA ((setW g w).again oA)=(setW g w).again oA:=by
  unfold PG.gate
  rw[if_neg (show¬PG.bad oA from by decide),if_neg (show¬(setW g w).away oA from λh=>by have:=h.2.1;simp[oA]at this)]
 rw[hg]
 show(setW g w).updY 0 1 _=_
 rw[h3]
 unfold VS.again VS.againN
 show{g with Y:=(s0 g).wy (w++(s0 g).op.take (min (s0 g).op.length (32 - w.length)))::g.Y.drop 1}=_
 rw[Nat.min_eq_left (by omega),List.take_length]
 rfl
theorem skip_ {g:PG}(hn:g.n=2) (hl:g.Y.length=2) {p:Int×Ver}{w:Pks}(hp:p.1≠(s0 g).rn):((setW g (p::w)).pick o2).1=setW g w:=by
 obtain⟨h1,h2,h3⟩:=ses2 hn hl (p::w)
 unfold PG.pick
 rw[show(setW g (p::w)).ses o2.site o2.to'=_ from h2]
 have hw:VS.inW ((s0 g).wy (p::w)) o2.at'=true:=by
  unfold VS.inW
  simp only[Bool.and_eq_true,decide_eq_true_eq]
  exact⟨by decide,by show(0:Int)<((w.length+1:Nat):Int);omega⟩
 have hwd:VS.would ((s0 g).wy (p::w)) o2.at'=false:=decide_eq_false hp
 simp only[hw]
 rw[if_neg (by simp),if_pos (.inr (.inr hwd))]
 show(setW g (p::w)).updY 0 1 _=_
 rw[h3]
 unfold VS.pick
 rw[if_neg (by decide),if_neg (by decide)]
 unfold VS.took
 rw[if_neg (show¬(VS.at' ((s0 g).wy (p::w)) o2.at').1=(VS.out ((s0 g).wy (p::w)) o2.at').rn from hp)]
 rfl
theorem none_1 {g:PG}(hn:g.n=2) (hl:g.Y.length=2):((setW g []).pick o2).1=setW g []:=by
 obtain⟨h1,h2,h3⟩:=ses2 hn hl []
 unfold PG.pick
 rw[show(setW g []).ses o2.site o2.to'=_ from h2]
 rfl
theorem take_ {g:PG}(hn:g.n=2) (hl:g.Y.length=2) {p:Int×Ver}(w:Pks) (hp:p.1=(s0 g).rn) (hx:T.next g.c 1 0 p.2.key=[]) (h24:(g.site 1).wait.length<24):((setW g (p::w)).pick o2).1=setW ((setW g [p]).pick o2).1 w:=by
 have key:∀w:Pks,((setW g (p::w)).pick o2).1=({g with Y:=VS.answer ⟨(s0 g).sn,(s0 g).op,(s0 g).rn+1,w⟩ ((s0 g).rn+1)::g.Y.drop 1}:PG).setS 1 ((g.site 1).arrive p.2):=λw=>by
  obtain⟨h1,h2,h3⟩:=ses2 hn hl (p::w)
  unfold PG.pick
  rw[show(setW g (p::w)).ses o2.site o2.to'=_ from h2]
  have hw:VS.inW ((s0 g).wy (p::w)) o2.at'=true:=by
   unfold VS.inW
   simp only[Bool.and_eq_true,decide_eq_true_eq]
   exact⟨by decide,by show(0:Int)<((w.length+1:Nat):Int);omega⟩
  have hwd:VS.would ((s0 g).wy (p::w)) o2.at'=true:=decide_eq_true hp
  have hat:VS.at' ((s0 g).wy (p::w)) o2.at'=p:=rfl
  have hto:(setW g (p::w)).pickT o2 p.2=[]:=hx
  simp only[hw,hat]
  rw[if_neg (by simp),if_neg (by rintro(h|h|h);exact absurd h (by decide);exact absurd h (by decide);rw[hwd]at h;cases h),hto,if_neg (by
   rintro(⟨_,h⟩|h)
   ·have:24≤(g.site 1).wait.length:=h
    omega
   ·cases h)]
  show((setW g (p::w)).updY 0 1 _).setS 1 _=_
  rw[h3]
  unfold VS.pick
  rw[if_neg (by decide),if_neg (by decide)]
  unfold VS.took
  rw[if_pos (show(VS.at' ((s0 g).wy (p::w)) o2.at').1=(VS.out ((s0 g).wy (p::w)) o2.at').rn from hp)]
  rfl
 rw[key w,key []]
 rfl
theorem step_ (g:PG) (w:Pks):((setW g w).step o3).1=setW (g.step o3).1 w:=by
 unfold PG.step
 by_cases hs:g.isS 1=true
 ·rw[if_pos (show(setW g w).isS o3.site=true from hs),if_pos (show g.isS o3.site=true from hs)]
  show(match (g.site 1).stepV with|some v=>((setW g w).setS 1 (g.site 1).step,(0:Int),[v])|none=>(setW g w,12,[])).1=setW (match (g.site 1).stepV with|some v=>(g.setS 1 (g.site 1).step,(0:Int),[v])|none=>(g,12,[])).1 w
  split<;>rfl
 ·rw[if_neg (show¬(setW g w).isS o3.site=true from hs),if_neg (show¬g.isS o3.site=true from hs)]
theorem step_no {g:PG}(h:(g.site 1).stepV=none):(g.step o3).1=g:=by
 unfold PG.step
 split
 ·rw[show(g.site o3.site).stepV=none from h]
 ·rfl
theorem pick_n (g:PG) (o:SOp):(g.pick o).1.n=g.n:=by
 unfold PG.pick
 split
 ·rfl
 ·split
  ·rfl
  ·split
   ·rfl
   ·split
    ·rfl
    ·show(PG.send _ _ _ _).n=g.n
     rw[PG.send_n];rfl
def rnd (k:Nat) (p:Int×Ver):Nat:=if p.1=(k:Int)then k+1 else k
def nxt (k:Nat):Pks→Nat
 | []=>k
 | p::_=>rnd k p
theorem gate8 (g:PG) (r:PG×PG.Ans):g.gate o2 r=r∧g.gate o3 r=r:=by
 constructor <;>
 ·unfold PG.gate
  rw[if_neg (by decide),if_neg (λh=>by have:=h.2.1;revert this;decide)]
theorem round_ {m:Nat}(hm:m≤8) {k:Nat}(hk:k≤m) {w:Pks}(hw:∀p∈w,p∈W m):((((setW (D m k) w).pick o2).1).step o3).1=setW (D m (nxt k w)) (w.drop 1)∧nxt k w≤m:=by
 obtain⟨f1,f2,f3,f4,f5⟩:=fD m (List.mem_range.2 (by omega)) k (List.mem_range.2 (by omega))
 cases w with
 | nil =>
  refine⟨?_,hk⟩
  rw[none_1 f1 f2,step_,step_no f5];rfl
 | cons p r =>
  show(((setW (D m k) (p::r)).pick o2).1.step o3).1=setW (D m (rnd k p)) r∧rnd k p≤m
  unfold rnd
  by_cases hp:p.1=(k:Int)
  ·rw[if_pos hp]
   obtain⟨g1,g2,g3,g4,g5⟩:=fW m (List.mem_range.2 (by omega))
   obtain⟨i,hi,he⟩:=List.getElem_of_mem (hw p (List.mem_cons_self ..))
   have hi':i<m:=by omega
   have hpi:pkm m i=p:=by unfold pkm;simp[hi,he]
   have:=g5 i (List.mem_range.2 hi')
   rw[hpi,hp]at this
   obtain rfl:k=i:=by omega
   obtain⟨t1,t2⟩:=fT m (List.mem_range.2 (by omega)) k (List.mem_range.2 hi')
   rw[hpi]at t1
   rw[take_ f1 f2 r (by rw[f3];exact hp) t1 t2,step_]
   refine⟨?_,hi'⟩
   show setW _ r=setW (D m (k+1)) r
   rw[show D m (k+1)=(((setW (D m k) [pkm m k]).pick o2).1.step o3).1 from rfl,hpi]
  ·rw[if_neg hp,skip_ f1 f2 (by rw[f3];exact hp),step_,step_no f5]
   exact⟨rfl,hk⟩
theorem rnd_ge (k:Nat) (p:Int×Ver):k≤rnd k p:=by unfold rnd;split<;>omega
theorem fold_ge:∀(w:Pks) (k:Nat),k≤w.foldl rnd k
 | [],k=>Nat.le_refl k
 | p::r,k=>Nat.le_trans (rnd_ge k p) (fold_ge r (rnd k p))
theorem fold_up:∀(w:Pks) (j k:Nat),j≤k→(∀i (h:i<w.length),(w[i]).1=((j+i:Nat):Int))→j+w.length≤w.foldl rnd k
 | [],j,k,h,_=>h
 | p::r,j,k,h,hs=>by
  have h0:=hs 0 (by simp)
  have h0':p.1=(j:Int):=by simpa using h0
  have:=fold_up r (j+1) (rnd k p) (by unfold rnd;split<;>omega) λi hi=>by
   have:=hs (i+1) (by simpa using hi)
   rw[List.getElem_cons_succ]at this
   rw[this];congr 1;omega
  rw[List.foldl_cons,List.length_cons];omega
theorem fold_all {m:Nat}(hm:m≤8) (w:Pks):m≤(w++W m).foldl rnd 0:=by
 obtain⟨g1,g2,g3,g4,g5⟩:=fW m (List.mem_range.2 (by omega))
 rw[List.foldl_append]
 have:=fold_up (W m) 0 (w.foldl rnd 0) (Nat.zero_le _) λi hi=>by
  have:=g5 i (List.mem_range.2 (by omega))
  unfold pkm at this
  rw[show(W m).getD i default=(W m)[i]from by simp[hi]]at this
  rw[this];congr 1;omega
 omega
end W21
end Go.Proofs.YtdnijgdmohinlaaGreat
end
section
set_option maxRecDepth 100000
namespace Go.Proofs.YtdnijgdmohinlaaGreat
open Go Go.RowKit A R
open A.RowT
namespace W21
theorem gP_n:∀i∈List.range 9,(gP i).n=2:=by decide +kernel
theorem gP_inv:∀i,i≤8→(gP i).Inv (32+8*i)
 | 0,_=>i0
 | i+1,h=>(gP_inv i (by omega)).gate (by omega) λhb ha=>(gP_inv i (by omega)).put (PG.at_of (gP_inv i (by omega)).ok (show(1:Int)≤1∧(1:Int)≤7∧(1:Int)≠5 from by decide) hb ha) ka
end W21
set_option maxHeartbeats 4000000 in
theorem geolost_law (n:Int) (ds:List Int):ACall Tryz.prog 5 [iv n,.sl 1 (ds.map λx=>[iv x])] (bv true):=by
 refine AC_1 Tryz.func5 Tryz.ntmps5 Tryz.results5 λhok M0 w0 hnl=>?_
 have hlen:=(hok _ (List.mem_cons_of_mem _ (List.mem_cons_self ..))).len
 rw[List.length_map]at hlen
 have h7:0≤J.andI n 7∧J.andI n 7≤7:=J.andI_le n 7 (by decide)
 obtain⟨M,hM⟩:∃M:Nat,1+J.andI n 7=(M:Int):=⟨(1+J.andI n 7).toNat,by omega⟩
 have hM1:1≤M∧M≤8:=by omega
 obtain⟨fw1,fw2,fw3,fw4,fw5⟩:=W21.fW M (List.mem_range.2 (by omega))
 refine Aw_sr ?_
 refine Al_mr ?_
 refine Al_ns ?_
 refine Al_p (Pu_call (gawake_a) rfl trivial) ?_
 refine Al_mr ?_
 refine Al_ns ?_
 refine Al_p (Pu_build (aa:=[]) rfl Tryz.underlying56 Tryz.zeroValue56 places56 (by kernel_rfl) trivial rfl) ?_
 refine Al_p (Pu_slice1 rfl Tryz.underlying28 Tryz.sizeOf56 Tryz.zeroValue56 rfl (by decide) (by decide) (by kernel_rfl) rfl rfl rfl) ?_
 refine Al_p (Pu_slice1 rfl Tryz.underlying22 Tryz.sizeOf3 Tryz.zeroValue3 rfl (by decide) (by decide) (by kernel_rfl) rfl rfl rfl) ?_
 refine Al_p (Pu_buildSlice (aa:=[(0,_),(1,_)]) rfl Tryz.underlying22 Tryz.sizeOf3 Tryz.zeroValue3 rfl (by decide) (by decide) (by decide) (by kernel_rfl) ⟨rfl,rfl,rfl,rfl,rfl,rfl,trivial⟩ ((rfl:_=some [[iv (-1)],[iv 0]].flatten)) rfl rfl) ?_
 refine Al_p (Pu_build (aa:=[(0,_),(1,_),(2,_)]) rfl Tryz.underlying30 Tryz.zeroValue30 places30 (by kernel_rfl) ⟨rfl,rfl,rfl,rfl,rfl,rfl,rfl,rfl,rfl,trivial⟩ rfl) ?_
 refine Al_gcallE [] [(1001,2001),(1002,2002),(1003,2003),(1004,2004),(1005,2005),(1006,2006),(1007,2007)] (gnew_g W21.c0 W21.h0 W21.k0) rfl rfl rfl (by decide) (by kernel_rfl) trivial (λ_=>rfl) rfl rfl ⟨Sub.rfl,trivial⟩ ?_
 rintro⟨⟨fr,t0⟩,hf0⟩ g19
 refine Al_mr ?_
 refine Al_nil (Aw_seq (Aw_sr ?_))
 refine Al_ml ?_
 refine Al_p (Pu_eqnilb Tryz.underlying32 rfl rfl) ?_
 refine Al_nil ?_
 refine Aw_condF rfl (rfl) ?_
 refine Aw_skip (Aw_sr ?_)
 refine Al_ml ?_
 refine Al_p (Pu_int_and (r:=J.andI n 7) rfl rfl rfl rfl (λ_=>V.i64_ok _)) ?_
 refine Al_p Pu_ad ?_
 refine Al_mr ?_
 refine Al_nil (Aw_seq (Aw_sr ?_))
 refine Al_mr ?_
 refine Al_nil (Aw_block ?_)
 refine Aw_loopk (ι:=Nat×GT) [1,5,6,7] [2002,2007] (λ(i,t)=>[(8,.d (iv i))]) (λ(i,t)=>[(2001,g19,.box 91 (gcellsN (.bx 2002 g19 0) fr.sv (W21.gP i) t.hv)),(2003,g19,mapP (W21.gP i).n fr.b fr.cnt (N.vX fr.np (W21.gP i).Y)),(2004,g19,.op (starP SES t.Fn (N.vX fr.np (W21.gP i).Y))),(2005,g19,.op (starP ST t.Fs (siteX fr.sp (W21.gP i).S))),(2006,g19,histX t.hv (W21.gP i).h)]) (λ(i,t)=>i≤M) (λ(i,t)=>M - i) ((0,t0)) (Nat.zero_le _) ⟨Sub.rfl,trivial⟩ ⟨rfl,rfl,rfl,rfl,rfl,trivial⟩ ?_
 rintro⟨i,t⟩ hi
 refine Aw_seq (Aw_sr ?_)
 refine Al_ml ?_
 refine Al_ml ?_
 refine Al_p Pu_cp ?_
 refine Al_nil ?_
 refine Aw_cond rfl (λh27=>?_) (λh27=>?_)
 ·(try simp only[A.cd_]at h27)
  have hi2:i<M:=by omega
  have hinv:=W21.gP_inv i (by omega)
  have hf:fr.Ok (W21.gP i):=FR.Ok.inv hf0 W21.i0 hinv (W21.gP_n i (List.mem_range.2 (by omega)))
  have hE:=W21.fP i (List.mem_range.2 (by omega))
  refine Aw_skip (Aw_seq (Aw_block (Aw_sr ?_)))
  refine Al_ml ?_
  refine Al_ml ?_
  refine Al_p Pu_ad ?_
  refine Al_p (Pu_convW (k':=.u8) (r:=((UInt8.ofNat (48+(i:Int)).toNat).toNat:Int)) rfl Tryz.underlying3 Tryz.underlying5 rfl (J.u8_wrap (by omega)) ⟨by omega,by have:=(UInt8.ofNat (48+(i:Int)).toNat).toNat_lt;omega⟩) ?_
  refine Al_p (Pu_slice1 rfl Tryz.underlying45 Tryz.sizeOf5 Tryz.zeroValue5 rfl (by decide) (by decide) (by kernel_rfl) rfl rfl rfl) ?_
  refine Al_p (Pu_convBS (bs:=[UInt8.ofNat (48+(i:Int)).toNat]) rfl Tryz.underlying45 Tryz.underlying5 Tryz.underlying9 rfl) ?_
  refine Al_p (Pu_build (aa:=[(0,_),(6,_),(7,_)]) rfl Tryz.underlying41 Tryz.zeroValue41 places41 (by kernel_rfl) ⟨rfl,rfl,rfl,rfl,rfl,rfl,rfl,rfl,rfl,trivial⟩ rfl) ?_
  refine Al_gcallE [(1001,2001,g19),(1002,2002,g19),(1003,2003,g19),(1004,2004,g19),(1005,2005,g19),(1006,2006,g19),(1007,2007,g19)] [] (gdo_put (t:=t) (w:=W21.gP (i+1)) (a:=((W21.gP i).gate (W21.oP i) ((W21.gP i).put (W21.oP i))).2) hinv (by omega) hf (o:=W21.oP i) (.inl rfl) rfl) rfl rfl rfl (by decide) (by kernel_rfl) ⟨rfl,rfl,rfl,rfl,rfl,rfl,rfl,trivial⟩ (λ_=>rfl) rfl rfl ⟨Sub.rfl,ASub.sub (ASub.row ⟨ASub.rfl,ASub.rfl,ASub.rfl,ASub.rfl,ASub.rfl,ASub.rfl,ASub.rfl,ASub.rfl,ASub.nil,ASub.nil,ASub.nil,ASub.nil,trivial⟩),trivial⟩ ?_
  rintro t1 g37
  refine Al_al Tryz.zeroValue37 λg9=>?_
  refine Al_sN Tryz.isAgg37 Tryz.sizeOf37 ?_
  refine Al_ns ?_
  refine Al_p (Pu_fb 0 Tryz.underlying37 Tryz.sizeOf34) ?_
  refine Al_p (Pu_lb Tryz.isAgg34) ?_
  refine Al_p Pu_cp ?_
  refine Al_nil ?_
  refine Aw_condF rfl ((by rw[hE];rfl)) ?_
  refine Aw_skip (Aw_region ?_)
  refine Al_ml ?_
  refine Al_p Pu_ad ?_
  refine Al_mr ?_
  refine Al_nil ?_
  exact⟨(i+1,t1),by omega,by simp only[];omega,Le.ov ⟨Sub.num (by omega),trivial⟩ ⟨Sub.rfl,Sub.rfl,Sub.rfl,Sub.rfl,trivial⟩ ⟨rfl,rfl,rfl,rfl,rfl,trivial⟩ ⟨rfl,rfl,trivial⟩⟩
 ·(try simp only[A.cd_]at h27)
  obtain rfl:i=M:=by omega
  have hself:W21.setW (W21.gP i) (W21.W i)=W21.gP i:=W21.setW_self (by omega) rfl
  have hinvP:=W21.gP_inv i (by omega)
  refine Aw_exit (Aw_seq (Aw_sr ?_))
  refine Al_mr ?_
  refine Al_nil (Aw_block ?_)
  refine Aw_loopk (ι:=Nat×W21.Pks×GT) [1,5,6,7] [2002,2007] (λ(k,w,t)=>[(10,.d (iv k))]) (λ(k,w,t)=>[(2001,g19,.box 91 (gcellsN (.bx 2002 g19 0) fr.sv (W21.setW (W21.gP i) w) t.hv)),(2003,g19,mapP (W21.setW (W21.gP i) w).n fr.b fr.cnt (N.vX fr.np (W21.setW (W21.gP i) w).Y)),(2004,g19,.op (starP SES t.Fn (N.vX fr.np (W21.setW (W21.gP i) w).Y))),(2005,g19,.op (starP ST t.Fs (siteX fr.sp (W21.setW (W21.gP i) w).S))),(2006,g19,histX t.hv (W21.setW (W21.gP i) w).h)]) (λ(k,w,t)=>k≤ds.length∧k≤10∧w.Sublist (W21.W i)∧(W21.setW (W21.gP i) w).Inv (96+8*k)) (λ(k,w,t)=>10 - k) ((0,W21.W i,t)) (⟨Nat.zero_le _,Nat.zero_le _,List.Sublist.refl _,by rw[hself];exact hinvP.mono (by omega)⟩) ⟨Sub.rfl,trivial⟩ ⟨by rw[hself];rfl,by rw[hself];rfl,by rw[hself];rfl,by rw[hself];rfl,by rw[hself];rfl,trivial⟩ ?_
  rintro⟨k,w,t⟩ ⟨hk1,hk2,hsub,hinv⟩
  refine Aw_seq (Aw_sr ?_)
  refine Al_ml ?_
  refine Al_ml ?_
  refine Al_p (Pu_ln Tryz.underlying22) ?_
  refine Al_p Pu_cp ?_
  refine Al_ml ?_
  refine Al_s (St_g [] trivial (λ_=>Pu_mvl)) ?_
  refine Al_s (St_g [46] ⟨⟨_,rfl⟩,trivial⟩ (λ_=>Pu_cp)) ?_
  refine Al_p Pu_a ?_
  refine Al_nil ?_
  refine Aw_cond rfl (λh48=>?_) (λh48=>?_)
  ·(try simp only[A.cd_]at h48)
   obtain⟨ha,hb⟩:k<ds.length∧k<10:=by omega
   have hf:fr.Ok (W21.setW (W21.gP i) w):=FR.Ok.inv hf0 W21.i0 hinv (W21.ses2 fw1 fw2 w).1
   obtain⟨w',hs',he'⟩:=W21.drop_ fw1 fw2 w (J.andI (ds.getD k default) 7)
   have hinv':((W21.setW (W21.gP i) w).gate (W21.oD (J.andI (ds.getD k default) 7)) ((W21.setW (W21.gP i) w).pick (W21.oD (J.andI (ds.getD k default) 7)))).1.Inv (96+8*k+8):=hinv.gate (by omega) λ_ _=>hinv.pick (by omega) _
   rw[he']at hinv'
   refine Aw_skip (Aw_seq (Aw_block (Aw_region ?_)))
   refine Al_ml ?_
   refine Al_ml ?_
   refine Al_ml ?_
   refine Al_p (Pu_index rfl Tryz.underlying22 Tryz.sizeOf3 rfl rfl (rfl) (mapgetD (d:=default) ha)) ?_
   refine Al_p (Pu_l1 Tryz.isAgg3) ?_
   refine Al_p (Pu_int_and (r:=J.andI (ds.getD k default) 7) rfl rfl rfl rfl (λ_=>V.i64_ok _)) ?_
   refine Al_p (Pu_build (aa:=[(0,_),(2,_),(3,_),(4,_),(5,_)]) rfl Tryz.underlying41 Tryz.zeroValue41 places41 (by kernel_rfl) ⟨rfl,rfl,rfl,rfl,rfl,rfl,rfl,rfl,rfl,rfl,rfl,rfl,rfl,rfl,rfl,trivial⟩ rfl) ?_
   refine Al_gcallE [(1001,2001,g19),(1002,2002,g19),(1003,2003,g19),(1004,2004,g19),(1005,2005,g19),(1006,2006,g19),(1007,2007,g19)] [] (gdo_pick (t:=t) (w:=W21.setW (W21.gP i) w') hinv (by omega) hf (o:=W21.oD (J.andI (ds.getD k default) 7)) rfl (Prod.ext he' rfl)) rfl rfl rfl (by decide) (by kernel_rfl) ⟨rfl,rfl,rfl,rfl,rfl,rfl,rfl,trivial⟩ (λ_=>rfl) rfl rfl ⟨Sub.rfl,ASub.sub (ASub.row ⟨ASub.rfl,ASub.rfl,ASub.rfl,ASub.rfl,ASub.rfl,ASub.rfl,ASub.rfl,ASub.rfl,ASub.nil,ASub.nil,ASub.nil,ASub.nil,trivial⟩),trivial⟩ ?_
   rintro t1 g58
   refine Al_nil (Aw_region ?_)
   refine Al_ml ?_
   refine Al_p Pu_ad ?_
   refine Al_mr ?_
   refine Al_nil ?_
   exact⟨(k+1,w',t1),⟨by omega,by omega,hs'.trans hsub,hinv'.mono (by omega)⟩,by simp only[];omega,Le.ov ⟨Sub.num (by omega),trivial⟩ ⟨Sub.rfl,Sub.rfl,Sub.rfl,Sub.rfl,trivial⟩ ⟨rfl,rfl,rfl,rfl,rfl,trivial⟩ ⟨rfl,rfl,trivial⟩⟩
  ·(try simp only[A.cd_]at h48)
   have hwl:w.length≤8:=by have:=hsub.length_le;omega
   have hinvA:(W21.setW (W21.gP i) w).Inv 176:=hinv.mono (by omega)
   have hfA:fr.Ok (W21.setW (W21.gP i) w):=FR.Ok.inv hf0 W21.i0 hinv (W21.ses2 fw1 fw2 w).1
   have heA:=W21.again_ fw1 fw2 hwl (by rw[fw4,fw3];omega)
   have hinvB:((W21.setW (W21.gP i) w).gate W21.oA ((W21.setW (W21.gP i) w).again W21.oA)).1.Inv 176:=hinvA.gate (Nat.le_refl _) λ_ _=>hinvA.again (by omega) _
   rw[heA]at hinvB
   refine Aw_exit (Aw_sr ?_)
   refine Al_ml ?_
   refine Al_p (Pu_build (aa:=[(0,_),(2,_),(3,_)]) rfl Tryz.underlying41 Tryz.zeroValue41 places41 (by kernel_rfl) ⟨rfl,rfl,rfl,rfl,rfl,rfl,rfl,rfl,rfl,trivial⟩ rfl) ?_
   refine Al_gcallE [(1001,2001,g19),(1002,2002,g19),(1003,2003,g19),(1004,2004,g19),(1005,2005,g19),(1006,2006,g19),(1007,2007,g19)] [] (gdo_again (t:=t) (w:=W21.setW (W21.gP i) (w++(W21.s0 (W21.gP i)).op)) hinvA (by omega) hfA (o:=W21.oA) rfl (Prod.ext heA rfl)) rfl rfl rfl (by decide) (by kernel_rfl) ⟨rfl,rfl,rfl,rfl,rfl,rfl,rfl,trivial⟩ (λ_=>rfl) rfl rfl ⟨Sub.rfl,ASub.sub (ASub.row ⟨ASub.rfl,ASub.rfl,ASub.rfl,ASub.rfl,ASub.rfl,ASub.rfl,ASub.rfl,ASub.rfl,ASub.nil,ASub.nil,ASub.nil,ASub.nil,trivial⟩),trivial⟩ ?_
   rintro t1 g61
   refine Al_nil (Aw_seq (Aw_sr ?_))
   refine Al_mr ?_
   refine Al_nil (Aw_block ?_)
   refine Aw_loopk (ι:=Nat×Nat×W21.Pks×GT) [5,6,7] [2002,2007] (λ(j,k,w,t)=>[(11,.d (iv j))]) (λ(j,k,w,t)=>[(2001,g19,.box 91 (gcellsN (.bx 2002 g19 0) fr.sv (W21.setW (W21.D i k) w) t.hv)),(2003,g19,mapP (W21.setW (W21.D i k) w).n fr.b fr.cnt (N.vX fr.np (W21.setW (W21.D i k) w).Y)),(2004,g19,.op (starP SES t.Fn (N.vX fr.np (W21.setW (W21.D i k) w).Y))),(2005,g19,.op (starP ST t.Fs (siteX fr.sp (W21.setW (W21.D i k) w).S))),(2006,g19,histX t.hv (W21.setW (W21.D i k) w).h)]) (λ(j,k,w,t)=>j≤20∧k≤i∧(∀p∈w,p∈W21.W i)∧w.length≤20 - j∧i≤w.foldl W21.rnd k∧(W21.setW (W21.D i k) w).Inv (176+9*j)) (λ(j,k,w,t)=>20 - j) ((0,0,w++(W21.s0 (W21.gP i)).op,t1)) (⟨Nat.zero_le _,⟨Nat.zero_le _,λp hp=>(by rcases List.mem_append.1 hp with hp|hp;exact hsub.subset hp;rw[fw4]at hp;exact hp),by rw[List.length_append,fw4,fw3];omega,by rw[fw4];exact W21.fold_all (by omega) w,hinvB⟩⟩) ⟨Sub.rfl,trivial⟩ ⟨rfl,rfl,rfl,rfl,rfl,trivial⟩ ?_
   rintro⟨j,k,w,t⟩ ⟨hk2,⟨hk,hmem,hwj,hfold,hinv2⟩⟩
   refine Aw_seq (Aw_sr ?_)
   refine Al_ml ?_
   refine Al_p Pu_cp ?_
   refine Al_nil ?_
   refine Aw_cond rfl (λh63=>?_) (λh63=>?_)
   ·(try simp only[A.cd_]at h63)
    obtain⟨f1,f2,f3,f4,f5⟩:=W21.fD i (List.mem_range.2 (by omega)) k (List.mem_range.2 (by omega))
    have hf:fr.Ok (W21.setW (W21.D i k) w):=FR.Ok.inv hf0 W21.i0 hinv2 (W21.ses2 f1 f2 w).1
    have hgt:=W21.gate8
    have hinv3:((W21.setW (W21.D i k) w).pick W21.o2).1.Inv (176+9*j+8):=hinv2.pick (by omega) _
    have hn3:((W21.setW (W21.D i k) w).pick W21.o2).1.n=2:=by rw[W21.pick_n];exact f1
    have hf3:fr.Ok ((W21.setW (W21.D i k) w).pick W21.o2).1:=FR.Ok.inv hf0 W21.i0 hinv3 hn3
    have hinv4:=hinv3.step W21.o3
    obtain⟨r1,r2⟩:=W21.round_ (m:=i) (by omega) hk hmem
    rw[r1]at hinv4
    refine Aw_skip (Aw_seq (Aw_block (Aw_sr ?_)))
    refine Al_ml ?_
    refine Al_p (Pu_build (aa:=[(0,_),(2,_),(3,_)]) rfl Tryz.underlying41 Tryz.zeroValue41 places41 (by kernel_rfl) ⟨rfl,rfl,rfl,rfl,rfl,rfl,rfl,rfl,rfl,trivial⟩ rfl) ?_
    refine Al_gcallE [(1001,2001,g19),(1002,2002,g19),(1003,2003,g19),(1004,2004,g19),(1005,2005,g19),(1006,2006,g19),(1007,2007,g19)] [] (gdo_pick (t:=t) (w:=((W21.setW (W21.D i k) w).pick W21.o2).1) (a:=((W21.setW (W21.D i k) w).pick W21.o2).2) hinv2 (by omega) hf (o:=W21.o2) rfl (hgt _ _).1) rfl rfl rfl (by decide) (by kernel_rfl) ⟨rfl,rfl,rfl,rfl,rfl,rfl,rfl,trivial⟩ (λ_=>rfl) rfl rfl ⟨Sub.rfl,ASub.sub (ASub.row ⟨ASub.rfl,ASub.rfl,ASub.rfl,ASub.rfl,ASub.rfl,ASub.rfl,ASub.rfl,ASub.rfl,ASub.nil,ASub.nil,ASub.nil,ASub.nil,trivial⟩),trivial⟩ ?_
    rintro t2 g68
    refine Al_nil (Aw_region ?_)
    refine Al_ml ?_
    refine Al_p (Pu_build (aa:=[(0,_),(2,_)]) rfl Tryz.underlying41 Tryz.zeroValue41 places41 (by kernel_rfl) ⟨rfl,rfl,rfl,rfl,rfl,rfl,trivial⟩ rfl) ?_
    refine Al_gcallE [(1001,2001,g19),(1002,2002,g19),(1003,2003,g19),(1004,2004,g19),(1005,2005,g19),(1006,2006,g19),(1007,2007,g19)] [] (gdo_step (t:=t2) (w:=W21.setW (W21.D i (W21.nxt k w)) (w.drop 1)) (a:=(((W21.setW (W21.D i k) w).pick W21.o2).1.step W21.o3).2) hinv3 (by omega) hf3 (o:=W21.o3) rfl ((hgt _ _).2.trans (Prod.ext r1 rfl))) rfl rfl rfl (by decide) (by kernel_rfl) ⟨rfl,rfl,rfl,rfl,rfl,rfl,rfl,trivial⟩ (λ_=>rfl) rfl rfl ⟨Sub.rfl,ASub.sub (ASub.row ⟨ASub.rfl,ASub.rfl,ASub.rfl,ASub.rfl,ASub.rfl,ASub.rfl,ASub.rfl,ASub.rfl,ASub.nil,ASub.nil,ASub.nil,ASub.nil,trivial⟩),trivial⟩ ?_
    rintro t3 g71
    refine Al_nil (Aw_region ?_)
    refine Al_ml ?_
    refine Al_p Pu_ad ?_
    refine Al_mr ?_
    refine Al_nil ?_
    exact⟨(j+1,(W21.nxt k w),w.drop 1,t3),⟨by omega,⟨r2,λp hp=>hmem p (List.mem_of_mem_drop hp),by rw[List.length_drop];omega,(by cases w with|nil=>exact hfold|cons p r=>exact hfold),hinv4.mono (by omega)⟩⟩,by simp only[];omega,Le.ov ⟨Sub.num (by omega),trivial⟩ ⟨Sub.rfl,Sub.rfl,Sub.rfl,trivial⟩ ⟨rfl,rfl,rfl,rfl,rfl,trivial⟩ ⟨rfl,rfl,trivial⟩⟩
   ·(try simp only[A.cd_]at h63)
    obtain rfl:j=20:=by omega
    obtain rfl:w=[]:=List.eq_nil_of_length_eq_zero (by omega)
    obtain rfl:k=i:=by have:i≤k:=hfold;omega
    obtain⟨f1,f2,f3,f4,f5⟩:=W21.fD k (List.mem_range.2 (by omega)) k (List.mem_range.2 (by omega))
    have hselfD:W21.setW (W21.D k k) []=W21.D k k:=W21.setW_self (by omega) f4
    rw[hselfD]at hinv2
    have hfD:fr.Ok (W21.D k k):=FR.Ok.inv hf0 W21.i0 hinv2 f1
    obtain⟨x1,x2,x3,x4,x5⟩:=W21.fG k (List.mem_range.2 (by omega)) hM1.1
    have hinv5:((W21.D k k).gate W21.o4 ((W21.D k k).get W21.o4)).1.Inv 364:=(hinv2.gate (m':=364) (by omega) λhb ha=>(hinv2.get (PG.at_of hinv2.ok (by decide) hb ha)).mono (by omega))
    have hf5:fr.Ok ((W21.D k k).gate W21.o4 ((W21.D k k).get W21.o4)).1:=FR.Ok.inv hf0 W21.i0 hinv5 x4
    have hlt:0<((W21.D k k).gate W21.o4 ((W21.D k k).get W21.o4)).2.2.length:=by omega
    refine Aw_exit (Aw_sr ?_)
    refine Al_ml ?_
    refine Al_p (Pu_build (aa:=[(0,_),(1,_),(6,_)]) rfl Tryz.underlying41 Tryz.zeroValue41 places41 (by kernel_rfl) ⟨rfl,rfl,rfl,rfl,rfl,rfl,rfl,rfl,rfl,trivial⟩ rfl) ?_
    refine Al_gcallE [(1001,2001,g19),(1002,2002,g19),(1003,2003,g19),(1004,2004,g19),(1005,2005,g19),(1006,2006,g19),(1007,2007,g19)] [] (gdo_get (t:=t) (w:=((W21.D k k).gate W21.o4 ((W21.D k k).get W21.o4)).1) (a:=((W21.D k k).gate W21.o4 ((W21.D k k).get W21.o4)).2) hinv2 (by omega) hfD (o:=W21.o4) rfl rfl) rfl rfl rfl (by decide) (by kernel_rfl) ⟨rfl,rfl,A.obE (congrArg (λg=>mapP g.n fr.b fr.cnt (N.vX fr.np g.Y)) hselfD),A.obE (congrArg (λg=>AO.op (starP SES t.Fn (N.vX fr.np g.Y))) hselfD),rfl,rfl,rfl,trivial⟩ (λ_=>rfl) rfl rfl ⟨Sub.rfl,ASub.sub (ASub.row ⟨ASub.rfl,ASub.rfl,ASub.rfl,ASub.rfl,ASub.rfl,ASub.rfl,ASub.rfl,ASub.rfl,ASub.nil,ASub.nil,ASub.nil,ASub.nil,trivial⟩),trivial⟩ ?_
    rintro t4 g74
    refine Al_al Tryz.zeroValue37 λg12=>?_
    refine Al_sN Tryz.isAgg37 Tryz.sizeOf37 ?_
    refine Al_nil (Aw_seq (Aw_sr ?_))
    refine Al_p (Pu_fb 1 Tryz.underlying37 Tryz.sizeOf35) ?_
    refine Al_p (Pu_lb Tryz.isAgg35) ?_
    refine Al_p (Pu_ln Tryz.underlying35) ?_
    refine Al_p Pu_cp ?_
    refine Al_nil ?_
    refine Aw_condF rfl ((by rw[x1];rfl)) ?_
    refine Aw_skip (Aw_seq ?_)
    refine Aw_dr 26 ?_
    refine Dr_ml ?_
    refine Dr_ml ?_
    refine Dr_s (St_g [] trivial (λ_=>Pu_mvl)) ?_
    refine Dr_s (St_gd [81] rfl rfl rfl rfl ⟨⟨_,rfl⟩,trivial⟩ (λhg82=>by exact Pu_gcall [(1001,2001,g19),(1002,2002,g19),(1003,2003,g19),(1004,2004,g19),(1005,2005,g19),(1006,2006,g19),(1007,2007,g19)] (gIdle_g fr ((W21.D k k).gate W21.o4 ((W21.D k k).get W21.o4)).1 t4 hinv5.ok (by omega) hf5) (GE_in ..) rfl ⟨rfl,rfl,rfl,rfl,rfl,rfl,rfl,trivial⟩ rfl ⟨Sub.rfl,trivial⟩)) ?_
    refine Dr_p Pu_a ?_
    refine Dr_ml ?_
    refine Dr_s (St_g [] trivial (λ_=>Pu_fb 1 Tryz.underlying37 Tryz.sizeOf35)) ?_
    refine Dr_s (St_g [85] ⟨⟨_,rfl⟩,trivial⟩ (λ_=>Pu_lb Tryz.isAgg35)) ?_
    refine Dr_s (St_g [86] ⟨⟨_,rfl⟩,trivial⟩ (λ_=>Pu_index rfl Tryz.underlying35 Tryz.sizeOf50 rfl rfl (show((0:Int))=((0:Nat):Int)from rfl) (mapgetD (d:=default) hlt))) ?_
    refine Dr_s (St_g [87] ⟨⟨_,rfl⟩,trivial⟩ (λ_=>Pu_fd 1 Tryz.underlying50 Tryz.sizeOf9)) ?_
    refine Dr_s (St_g [88] ⟨⟨_,rfl⟩,trivial⟩ (λ_=>Pu_l1 Tryz.isAgg9)) ?_
    refine Dr_s (St_g [] trivial (λ_=>Pu_mvl)) ?_
    refine Dr_s (St_gd [90] rfl rfl rfl rfl ⟨⟨_,rfl⟩,trivial⟩ (λhg91=>by exact Pu_add rfl rfl rfl (λh1 h2=>by simp only[A.inI];omega))) ?_
    refine Dr_s (St_gd [91] rfl rfl rfl rfl ⟨⟨_,rfl⟩,trivial⟩ (λhg92=>by exact Pu_sub rfl rfl rfl (λh1 h2=>by simp only[A.inI];omega))) ?_
    refine Dr_s (St_gd [92] rfl rfl rfl rfl ⟨⟨_,rfl⟩,trivial⟩ (λhg93=>by exact Pu_convW (k':=.u8) (r:=((UInt8.ofNat (47+k)).toNat:Int)) rfl Tryz.underlying3 Tryz.underlying5 rfl (by rw[show 48+(1+J.andI n 7) - 1=((47+k:Nat):Int)from by omega];exact J.u8_wrap (by omega)) ⟨by omega,by have:=(UInt8.ofNat (47+k)).toNat_lt;omega⟩)) ?_
    refine Dr_s (St_gd [93] rfl rfl rfl rfl ⟨⟨_,rfl⟩,trivial⟩ (λhg94=>by exact Pu_slice1 rfl Tryz.underlying45 Tryz.sizeOf5 Tryz.zeroValue5 rfl (by decide) (by decide) (by kernel_rfl) rfl rfl rfl)) ?_
    refine Dr_s (St_g [94] ⟨⟨_,rfl⟩,trivial⟩ (λ_=>Pu_convBS (bs:=[UInt8.ofNat (47+k)]) rfl Tryz.underlying45 Tryz.underlying5 Tryz.underlying9 rfl)) ?_
    refine Dr_s (St_g [89,95] ⟨⟨_,rfl⟩,⟨_,rfl⟩,trivial⟩ (λ_=>Pu_sr)) ?_
    refine Dr_p Pu_a ?_
    refine Dr_ml ?_
    refine Dr_s (St_g [] trivial (λ_=>Pu_mvl)) ?_
    refine Dr_s (St_gd [99] rfl rfl rfl rfl ⟨⟨_,rfl⟩,trivial⟩ (λhg100=>by exact Pu_gcall [(1001,2001,g19),(1002,2002,g19),(1003,2003,g19),(1004,2004,g19),(1005,2005,g19),(1006,2006,g19),(1007,2007,g19)] (gChain_g fr ((W21.D k k).gate W21.o4 ((W21.D k k).get W21.o4)).1 t4 1 ⟨#[97]⟩ hinv5.ok (by omega) hf5 (by unfold PG.isS;rw[x4];decide)) (GE_in ..) rfl ⟨rfl,rfl,rfl,rfl,rfl,rfl,rfl,trivial⟩ rfl ⟨Sub.rfl,Sub.rfl,Sub.rfl,trivial⟩)) ?_
    refine Dr_s (St_g [100] ⟨⟨_,rfl⟩,trivial⟩ (λ_=>Pu_ln Tryz.underlying35)) ?_
    refine Dr_s (St_g [] trivial (λ_=>Pu_mvl)) ?_
    refine Dr_s (St_g [101,102] ⟨⟨_,rfl⟩,⟨_,rfl⟩,trivial⟩ (λ_=>Pu_cp)) ?_
    refine Dr_p Pu_a ?_
    refine Dr_nil ?_
    refine Al_mr ?_
    refine Al_nil ?_
    refine Aw_ret ?_
    exact Sub.bool (by
     rw[show(((((W21.D k k).gate W21.o4 ((W21.D k k).get W21.o4)).2.2.getD 0 default).value.toList==(V.ba [UInt8.ofNat (47+k)]).toList))=true from x2,x3,decide_eq_true (show((J.getC (((W21.D k k).gate W21.o4 ((W21.D k k).get W21.o4)).1.site 1).cs ⟨#[97]⟩).length:Int)=1+J.andI n 7 from by rw[x5];omega)];rfl)
end Go.Proofs.YtdnijgdmohinlaaGreat
end
section
namespace Go.Proofs.YtdnijgdmohinlaaGreat
open Go.ChangeShapes Go.WideShapes Go.ChangeAt Go.RowKit A
theorem geoLost_law.own:ownKnob Tryz.prog.godebug=none:=by kernel_rfl
theorem geoLost_law.laidOut:laidOutB Tryz.prog=true:=by kernel_rfl
set_option maxRecDepth 100000 in
theorem geoLost_law.lifted (os:Os) (started:os.Started) (H:Type) (enc:TypeId×Value→H) :
  ReturnsInHanded {} Tryz.checked os 5 .any (Rows.geoLostSpec.pre6 enc Tryz.prog Tryz.f5 Rows.geoLostRow.domain false) (Rows.geoLostSpec.post enc Tryz.prog Tryz.f5 false true false false):=by
 refine returnsInHanded_of_change (C:=Tryz.checked) geoLost_law.own started (by kernel_rfl) Tryz.func5
  (ChangeSpec.witness6 (enc:=enc) (C:=Tryz.checked) false ⟨#[],#[.int .i64 0,.slice none 0 0],[]⟩ 8 (by kernel_rfl) (by kernel_rfl) (by kernel_rfl) (by kernel_rfl)) ?_
 intro W base args ds gs before hval0 hW hcnd _
 have hval:∀(j:Nat) t v,Tryz.f5.params[j]?=some t→args[j]?=some v→Value.okWide Tryz.prog W .any base t v:=hval0
 have hW':=hW
 obtain⟨p,q,hA0,hV,rfl,hfz,hnd⟩:=hW
 have hA:DataW.TrodAll enc Tryz.prog W 0 (λ_=>true) true Tryz.f5.params.toList args.toList ds p:=hA0
 rw[Tryz.params5]at hA hval
 obtain⟨v0,vs0,d0,ds0,p0,q0,hargs,rfl,rfl,h0,r0⟩:=trodAll_cons hA
 obtain⟨v1,vs1,d1,ds1,p1,q1,rfl,rfl,rfl,h1,r1⟩:=trodAll_cons r0
 obtain⟨rfl,rfl,rfl⟩:=trodAll_nil r1
 obtain rfl:args=#[v0,v1]:=by cases args;simp_all
 obtain⟨rfl,rfl⟩:=trodVars_none hV
 have k0:=h0
 have lt0:∀x∈p0,x.block<W.heap.size:=by obtain⟨m,hm⟩:=k0;exact DataW.trod_lt m _ _ _ hm
 have ok0:=hval 0 3 v0 rfl rfl
 have k1:=h1
 have lt1:∀x∈p1,x.block<W.heap.size:=by obtain⟨m,hm⟩:=k1;exact DataW.trod_lt m _ _ _ hm
 have ok1:=hval 1 22 v1 rfl rfl
 clear hA0 hval0
 obtain⟨n,hn⟩:=A.open_i64 Tryz.underlying3 ok0 h0
 obtain⟨l,hl⟩:=open_ints21 ok1 h1 
 refine(A.law (geolost_law n l) (A.allcons hn (A.allcons hl A.allnil))).mono λe W' ⟨he,bel⟩=>?_
 subst he
 exact⟨_,rfl,_,_,_,[],_,[],hW',trodAll_mk1 (shut_bool Tryz.underlying4 _),(trodAll_cons_mk (Below.trod geoLost_law.laidOut (by kernel_rfl) (of_decide_eq_true (by kernel_rfl)) k0 bel lt0) (trodAll_cons_mk (Below.trod geoLost_law.laidOut (by kernel_rfl) (of_decide_eq_true (by kernel_rfl)) k1 bel lt1) trodAll_mk0)),rfl,bel.frame _,λh=>by cases h⟩
theorem geoLost_law.j1:(laidOutB Tryz.prog)=true:=by kernel_rfl
theorem geoLost_law.j2:(mapsRowed Tryz.prog)=true:=by kernel_rfl
theorem geoLost_law.j9:((Rows.geoLostRow.inPlace==Tryz.prog.inPlace 5))=true:=by kernel_rfl
theorem geoLost_law.j10:((Rows.geoLostRow.unfollowed==Tryz.prog.unfollowed 5))=true:=by kernel_rfl
theorem geoLost_law.j11:((Rows.geoLostRow.recurses==Tryz.prog.recurses 5))=true:=by kernel_rfl
theorem geoLost_law.j12:((Rows.geoLostRow.named==Tryz.prog.varsNamed 5))=true:=by kernel_rfl
theorem geoLost_law.j24:(Tryz.prog.stopsHeard)=true:=by kernel_rfl
theorem geoLost_law.j25:(Tryz.prog.mayEnter)=true:=by kernel_rfl
theorem geoLost_law.j26:((Rows.geoLostRow.lifted==Tryz.prog.liftsFinal))=true:=by kernel_rfl
theorem geoLost_law.j27:((Tryz.prog.make==some Rows.geoLostRow.make))=true:=by kernel_rfl
theorem geoLost_law.andI {a b:Bool}(h:a=true) (k:b=true):(a&&b)=true:=by rw[h,k];rfl
set_option maxRecDepth 100000 in
theorem geoLost_law.joined:joinedFacts Tryz.prog 5 Tryz.f5 Rows.geoLostSpec Rows.geoLostRow=true:=(geoLost_law.andI (geoLost_law.andI (geoLost_law.andI (geoLost_law.andI (geoLost_law.andI (geoLost_law.andI (geoLost_law.andI (geoLost_law.andI (geoLost_law.andI (geoLost_law.andI (geoLost_law.andI (geoLost_law.andI (geoLost_law.andI (geoLost_law.andI (geoLost_law.andI (geoLost_law.andI (geoLost_law.andI (geoLost_law.andI (geoLost_law.andI (geoLost_law.andI (geoLost_law.andI (geoLost_law.andI (geoLost_law.andI (geoLost_law.andI (geoLost_law.andI (geoLost_law.andI (geoLost_law.andI (geoLost_law.andI (geoLost_law.andI (geoLost_law.andI (geoLost_law.andI (by kernel_rfl) geoLost_law.j1) geoLost_law.j2) (by kernel_rfl)) (by kernel_rfl)) (by kernel_rfl)) (by kernel_rfl)) (by kernel_rfl)) (by kernel_rfl)) geoLost_law.j9) geoLost_law.j10) geoLost_law.j11) geoLost_law.j12) (by kernel_rfl)) (by kernel_rfl)) (by kernel_rfl)) (by kernel_rfl)) (by kernel_rfl)) (by kernel_rfl)) (by kernel_rfl)) (by kernel_rfl)) (by kernel_rfl)) (by kernel_rfl)) (by kernel_rfl)) geoLost_law.j24) geoLost_law.j25) geoLost_law.j26) geoLost_law.j27) (by kernel_rfl)) (by kernel_rfl)) (by kernel_rfl)) (by kernel_rfl))
theorem geoLost_holds:Rows.GeoLostSaid :=
 OpenClaim.holds_of_wide 5 Tryz.f5 rfl rfl rfl rfl rfl rfl rfl ⟨rfl,rfl,rfl,rfl,rfl⟩ rfl rfl rfl rfl rfl (by kernel_rfl) Tryz.func5 geoLost_law.joined
  (of_decide_eq_true (by kernel_rfl)) (by unfold Func.isWrapper;first|(rw[if_pos (by decide +kernel)];kernel_rfl)|(rw[if_neg (by decide +kernel)];exact⟨rfl,rfl⟩))
  (λos started H enc _=>geoLost_law.lifted os started H enc)
end Go.Proofs.YtdnijgdmohinlaaGreat
end
namespace Go.Proofs.YtdnijgdmohinlaaGreat
#print axioms geoLost_holds
end Go.Proofs.YtdnijgdmohinlaaGreat
