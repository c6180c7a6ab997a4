/- What the proofs need in common, laid together (7 of 7): no condition. -/
import Derived.Test.YtdnijgdmohinlaaGreatF6
set_option linter.unusedSimpArgs false
set_option linter.unusedVariables false
set_option linter.constructorNameAsVariable false
section
set_option maxRecDepth 100000
namespace Go.Proofs.YtdnijgdmohinlaaGreat
open Go Go.RowKit A R
open A.RowT
theorem gspec_a (q:QSpec):ACall Tryz.prog 11 [.row q.row] (.row (q.mkR 0).row):=by
 refine AC_G Tryz.func11 Tryz.ntmps11 (Reads.cN Tryz.results11 Tryz.isAgg30 Tryz.sizeOf30) λhok M0 w0 hnl=>?_
 refine Aw_sr ?_
 refine Al_p Pu_bN ?_
 refine Al_al Tryz.zeroValue30 λg2=>?_
 refine Al_ns ?_
 refine Al_p (Pu_lN Tryz.isAgg24 Tryz.sizeOf24) ?_
 refine Al_al Tryz.zeroValue78 λg3=>?_
 refine Al_sN Tryz.isAgg78 Tryz.sizeOf78 ?_
 refine Al_ns ?_
 refine Al_p (Pu_lbN (r:=[_,_,_]) Tryz.isAgg78 Tryz.sizeOf78) ?_
 refine Al_p (Pu_call (qrow_a q 0 (by omega)) rfl ⟨Sub.rfl,Sub.rfl,trivial⟩) ?_
 refine Al_sN Tryz.isAgg30 Tryz.sizeOf30 ?_
 refine Al_nil ?_
 exact Aw_ret (⟨_,_,_,_,_,[_,_,_],rfl,rfl,rfl,rfl,rfl⟩)
namespace Far
theorem put_ans {c:SRow}(hp:T.Ahead c.parents) (hok:T.ok c=true) {k j:Nat}(hk:k<4) (hj:j<8):∃w a,(PG.new c).gate (o1 k (letter j)) ((PG.new c).put (o1 k (letter j)))=(w,a)∧w.Inv 40∧w.n=(PG.new c).n ∧
  (a.1=14∨(a.1=0∧Ask c (letter j) (k%c.parents.length)∧w=G1 c (letter j) k)):=by
 rw[gate1 hk]
 unfold PG.put
 have h1:=hp.pos
 by_cases ho:findR (T.rangesOf c (k%c.parents.length:Nat)) (letter j)<0
 ·rw[put_no hk h1 ho,if_neg (by decide)]
  exact⟨_,_,rfl,(PG.Inv.new hp hok).mono (by decide),rfl,.inl rfl⟩
 ·have A:Ask c (letter j) (k%c.parents.length):=⟨hp,hok,List.mem_map.2 ⟨j,List.mem_range.2 hj,rfl⟩,Nat.mod_lt _ (by omega),ho⟩
  rw[put_yes hk A,if_pos rfl]
  exact⟨_,_,rfl,G1_inv hk A,G1_n hk A,.inr ⟨rfl,A,rfl⟩⟩
end Far
set_option maxHeartbeats 4000000 in
theorem geofar_law (q:QSpec) (who which:Int):ACall Tryz.prog 4 [.row q.row,iv who,iv which] (bv true):=by
 refine AC_1 Tryz.func4 Tryz.ntmps4 Tryz.results4 λhok M0 w0 hnl=>?_
 obtain⟨c,hc⟩:∃c:SRow,c=q.mkR 0:=⟨_,rfl⟩
 have hp:T.Ahead c.parents:=by rw[hc];exact q.ahead
 have hok1:T.ok c=true:=by rw[hc];exact q.ok
 obtain⟨m,e,hchn,hrng⟩:∃m e,Chn m e∧c.ranges=m++[endR e]:=by rw[hc];exact⟨_,_,QSpec.chn _,rfl⟩
 have hq:ACall Tryz.prog 11 [.row q.row] (.row c.row):=by rw[hc];exact gspec_a q
 have h3:0≤J.andI who 3∧J.andI who 3≤3:=J.andI_le who 3 (by decide)
 have h7:0≤J.andI which 7∧J.andI which 7≤7:=J.andI_le which 7 (by decide)
 obtain⟨k,hk⟩:∃k:Nat,J.andI who 3=(k:Int):=⟨(J.andI who 3).toNat,by omega⟩
 obtain⟨j,hj⟩:∃j:Nat,J.andI which 7=(j:Int):=⟨(J.andI which 7).toNat,by omega⟩
 have hk4:k<4:=by omega
 have hj8:j<8:=by omega
 have hp1:=hp.pos
 have hp6:=hp.le
 have hkey:V.ba [UInt8.ofNat (97+(j:Int)).toNat]=letter j:=by rw[show(97+(j:Int)).toNat=97+j from by omega];rfl
 obtain⟨w,a,hw,hwi,hwn,hwa⟩:=Far.put_ans hp hok1 hk4 hj8
 refine Aw_sr ?_
 refine Al_p Pu_bN ?_
 refine Al_mr ?_
 refine Al_ns ?_
 refine Al_p (Pu_call (gawake_a) rfl trivial) ?_
 refine Al_mr ?_
 refine Al_ns ?_
 refine Al_p (Pu_lN Tryz.isAgg24 Tryz.sizeOf24) ?_
 refine Al_p (Pu_call (hq) rfl ⟨Sub.rfl,trivial⟩) ?_
 refine Al_al Tryz.zeroValue30 λg8=>?_
 refine Al_sN Tryz.isAgg30 Tryz.sizeOf30 ?_
 refine Al_ns ?_
 refine Al_p (Pu_lbN (r:=[_,_,_]) Tryz.isAgg30 Tryz.sizeOf30) ?_
 refine Al_gcallE [] [(1001,2001),(1002,2002),(1003,2003),(1004,2004),(1005,2005),(1006,2006),(1007,2007)] (gnew_g c hp hok1) rfl rfl rfl (by decide) (by kernel_rfl) trivial (λ_=>rfl) rfl rfl ⟨Sub.rfl,trivial⟩ ?_
 rintro⟨⟨fr,t0⟩,hf0⟩ g24
 refine Al_mr ?_
 refine Al_nil (Aw_seq (Aw_sr ?_))
 refine Al_ml ?_
 refine Al_p (Pu_eqnilb Tryz.underlying32 rfl rfl) ?_
 refine Al_nil ?_
 refine Aw_condF rfl (rfl) ?_
 refine Aw_skip (Aw_sr ?_)
 refine Al_p (Pu_fb 2 Tryz.underlying30 Tryz.sizeOf22) ?_
 refine Al_p (Pu_lb Tryz.isAgg22) ?_
 refine Al_p (Pu_ln Tryz.underlying22) ?_
 refine Al_mr ?_
 refine Al_ns ?_
 refine Al_ml ?_
 refine Al_p (Pu_int_and (r:=(j:Int)) rfl rfl rfl hj (λ_=>by show A.inI _;simp only[A.inI];omega)) ?_
 refine Al_p Pu_ad ?_
 refine Al_p (Pu_convW (k':=.u8) (r:=((UInt8.ofNat (97+(j:Int)).toNat).toNat:Int)) rfl Tryz.underlying3 Tryz.underlying5 rfl (J.u8_wrap (by omega)) ⟨by omega,by have:=(UInt8.ofNat (97+(j:Int)).toNat).toNat_lt;omega⟩) ?_
 refine Al_p (Pu_slice1 rfl Tryz.underlying45 Tryz.sizeOf5 Tryz.zeroValue5 rfl (by decide) (by decide) (by kernel_rfl) rfl rfl rfl) ?_
 refine Al_p (Pu_convBS (bs:=[UInt8.ofNat (97+(j:Int)).toNat]) rfl Tryz.underlying45 Tryz.underlying5 Tryz.underlying9 rfl) ?_
 refine Al_mr ?_
 refine Al_ns ?_
 refine Al_ml ?_
 refine Al_ml ?_
 refine Al_p (Pu_int_and (r:=(k:Int)) rfl rfl rfl hk (λ_=>by show A.inI _;simp only[A.inI];omega)) ?_
 refine Al_ml ?_
 refine Al_p (Pu_build (aa:=[(0,_),(1,_),(6,_),(7,_)]) rfl Tryz.underlying41 Tryz.zeroValue41 places41 (by kernel_rfl) ⟨rfl,rfl,rfl,rfl,rfl,rfl,rfl,rfl,rfl,rfl,rfl,rfl,trivial⟩ rfl) ?_
 refine Al_gcallE [(1001,2001,g24),(1002,2002,g24),(1003,2003,g24),(1004,2004,g24),(1005,2005,g24),(1006,2006,g24),(1007,2007,g24)] [] (gdo_put (t:=t0) (PG.Inv.new hp hok1) (by decide) hf0 (o:=Far.o1 k (letter j)) (.inl rfl) hw) rfl rfl rfl (by decide) (by kernel_rfl) ⟨rfl,rfl,rfl,rfl,rfl,rfl,rfl,trivial⟩ (λ_=>rfl) rfl rfl ⟨Sub.rfl,ASub.sub (ASub.row ⟨ASub.rfl,ASub.rfl,ASub.rfl,ASub.rfl,ASub.rfl,ASub.rfl,ASub.eq (by rw[hkey];rfl),ASub.rfl,ASub.nil,ASub.nil,ASub.nil,ASub.nil,trivial⟩),trivial⟩ ?_
 rintro t1 g41
 refine Al_al Tryz.zeroValue37 λg12=>?_
 refine Al_sN Tryz.isAgg37 Tryz.sizeOf37 ?_
 refine Al_nil (Aw_seq (Aw_sr ?_))
 refine Al_p (Pu_fb 0 Tryz.underlying37 Tryz.sizeOf34) ?_
 refine Al_p (Pu_lb Tryz.isAgg34) ?_
 refine Al_p Pu_cp ?_
 refine Al_nil ?_
 refine Aw_cond rfl (λh44=>?_) (λh44=>?_)
 ·(try simp only[A.cd_]at h44)
  have h14:a.1=14:=hwa.resolve_right λh=>by have:=h.1;simp_all
  refine Aw_sr ?_
  refine Al_ml ?_
  refine Al_ml ?_
  refine Al_s (St_g [] trivial (λ_=>Pu_fb 0 Tryz.underlying37 Tryz.sizeOf34)) ?_
  refine Al_s (St_g [47] ⟨⟨_,rfl⟩,trivial⟩ (λ_=>Pu_lb Tryz.isAgg34)) ?_
  refine Al_s (St_g [48] ⟨⟨_,rfl⟩,trivial⟩ (λ_=>Pu_cp)) ?_
  refine Al_p Pu_a ?_
  refine Al_mr ?_
  refine Al_nil ?_
  exact Aw_ret (Sub.bool (by rw[h14];rfl))
 ·(try simp only[A.cd_]at h44)
  obtain⟨ha0,Ak,hwg⟩:=hwa.resolve_left λh=>by simp_all
  have hfi:Far.FarI c (letter j) k (Far.Tr c 0 0 0) w:=by rw[hwg];exact Far.FarI.start hk4 Ak
  have hfr:∀{g:PG}{T:Nat→Nat→Prop},Far.FarI c (letter j) k T g→fr.Ok g:=λh=>FR.Ok.inv hf0 (PG.Inv.new hp hok1) (h.inv hk4 Ak) h.n
  refine Aw_skip (Aw_seq (Aw_sr ?_))
  refine Al_mr ?_
  refine Al_nil (Aw_block ?_)
  refine Aw_loopk (ι:=Nat×PG×GT) [7,8,9,10,11] [8,2002,2007] (λ(r,g,t)=>[(13,.d (iv r))]) (λ(r,g,t)=>[(2001,g24,.box 91 (gcellsN (.bx 2002 g24 0) fr.sv (g) t.hv)),(2003,g24,mapP (g).n fr.b fr.cnt (N.vX fr.np (g).Y)),(2004,g24,.op (starP SES t.Fn (N.vX fr.np (g).Y))),(2005,g24,.op (starP ST t.Fs (siteX fr.sp (g).S))),(2006,g24,histX t.hv (g).h)]) (λ(r,g,t)=>r≤6∧Far.FarI c (letter j) k (Far.Tr c r 0 0) g) (λ(r,g,t)=>6 - r) ((0,w,t1)) (⟨Nat.zero_le _,hfi⟩) ⟨Sub.rfl,trivial⟩ ⟨rfl,rfl,rfl,rfl,rfl,trivial⟩ ?_
  rintro⟨r,g,t⟩ ⟨hk0,hfi0⟩
  refine Aw_seq (Aw_sr ?_)
  refine Al_ml ?_
  refine Al_p Pu_cp ?_
  refine Al_nil ?_
  refine Aw_cond rfl (λh52=>?_) (λh52=>?_)
  ·(try simp only[A.cd_]at h52)
   refine Aw_skip (Aw_seq (Aw_block (Aw_sr ?_)))
   refine Al_mr ?_
   refine Al_nil (Aw_block ?_)
   refine Aw_loopk (ι:=Nat×PG×GT) [7,8,9,10,11,13] [8,2002,2007] (λ(x,g,t)=>[(14,.d (iv x))]) (λ(x,g,t)=>[(2001,g24,.box 91 (gcellsN (.bx 2002 g24 0) fr.sv (g) t.hv)),(2003,g24,mapP (g).n fr.b fr.cnt (N.vX fr.np (g).Y)),(2004,g24,.op (starP SES t.Fn (N.vX fr.np (g).Y))),(2005,g24,.op (starP ST t.Fs (siteX fr.sp (g).S))),(2006,g24,histX t.hv (g).h)]) (λ(x,g,t)=>x≤c.parents.length∧Far.FarI c (letter j) k (Far.Tr c r x 0) g) (λ(x,g,t)=>c.parents.length - x) ((0,g,t)) (⟨Nat.zero_le _,hfi0⟩) ⟨Sub.rfl,trivial⟩ ⟨rfl,rfl,rfl,rfl,rfl,trivial⟩ ?_
   rintro⟨x,g,t⟩ ⟨hk1,hfi1⟩
   refine Aw_seq (Aw_sr ?_)
   refine Al_ml ?_
   refine Al_ml ?_
   refine Al_p Pu_cp ?_
   refine Al_nil ?_
   refine Aw_cond rfl (λh57=>?_) (λh57=>?_)
   ·(try simp only[A.cd_]at h57)
    refine Aw_skip (Aw_seq (Aw_block (Aw_sr ?_)))
    refine Al_mr ?_
    refine Al_nil (Aw_block ?_)
    refine Aw_loopk (ι:=Nat×PG×GT) [7,8,9,10,11,13,14] [8,2002,2007] (λ(y,g,t)=>[(15,.d (iv y))]) (λ(y,g,t)=>[(2001,g24,.box 91 (gcellsN (.bx 2002 g24 0) fr.sv (g) t.hv)),(2003,g24,mapP (g).n fr.b fr.cnt (N.vX fr.np (g).Y)),(2004,g24,.op (starP SES t.Fn (N.vX fr.np (g).Y))),(2005,g24,.op (starP ST t.Fs (siteX fr.sp (g).S))),(2006,g24,histX t.hv (g).h)]) (λ(y,g,t)=>y≤c.parents.length∧Far.FarI c (letter j) k (Far.Tr c r x y) g) (λ(y,g,t)=>c.parents.length - y) ((0,g,t)) (⟨Nat.zero_le _,hfi1⟩) ⟨Sub.rfl,trivial⟩ ⟨rfl,rfl,rfl,rfl,rfl,trivial⟩ ?_
    rintro⟨y,g,t⟩ ⟨hk2,hfi2⟩
    refine Aw_seq (Aw_sr ?_)
    refine Al_ml ?_
    refine Al_ml ?_
    refine Al_p Pu_cp ?_
    refine Al_nil ?_
    refine Aw_cond rfl (λh62=>?_) (λh62=>?_)
    ·(try simp only[A.cd_]at h62)
     refine Aw_skip (Aw_seq (Aw_block (Aw_sr ?_)))
     refine Al_mr ?_
     refine Al_nil (Aw_block ?_)
     refine Aw_loopk (ι:=Nat×PG×GT) [7,8,9,10,11,13,14,15] [8,2002,2007] (λ(z,g,t)=>[(16,.d (iv z))]) (λ(z,g,t)=>[(2001,g24,.box 91 (gcellsN (.bx 2002 g24 0) fr.sv (g) t.hv)),(2003,g24,mapP (g).n fr.b fr.cnt (N.vX fr.np (g).Y)),(2004,g24,.op (starP SES t.Fn (N.vX fr.np (g).Y))),(2005,g24,.op (starP ST t.Fs (siteX fr.sp (g).S))),(2006,g24,histX t.hv (g).h)]) (λ(z,g,t)=>z≤3∧Far.FarI c (letter j) k (Far.Tr c r x y) g∧(0<z→Far.FarI c (letter j) k (Far.Tr c r x (y+1)) g)) (λ(z,g,t)=>3 - z) ((0,g,t)) (⟨Nat.zero_le _,⟨hfi2,λh=>absurd h (Nat.lt_irrefl 0)⟩⟩) ⟨Sub.rfl,trivial⟩ ⟨rfl,rfl,rfl,rfl,rfl,trivial⟩ ?_
     rintro⟨z,g,t⟩ ⟨hk3,⟨hfi3,hfi4⟩⟩
     refine Aw_seq (Aw_sr ?_)
     refine Al_ml ?_
     refine Al_p Pu_cp ?_
     refine Al_nil ?_
     refine Aw_cond rfl (λh66=>?_) (λh66=>?_)
     ·(try simp only[A.cd_]at h66)
      have hx:x<c.parents.length:=by omega
      have hy:y<c.parents.length:=by omega
      have hpk:=hfi3.pick Ak hx hy
      refine Aw_skip (Aw_seq (Aw_block (Aw_region ?_)))
      refine Al_ml ?_
      refine Al_ml ?_
      refine Al_ml ?_
      refine Al_p (Pu_build (aa:=[(0,_),(2,_),(3,_)]) rfl Tryz.underlying41 Tryz.zeroValue41 places41 (by kernel_rfl) ⟨rfl,rfl,rfl,rfl,rfl,rfl,rfl,rfl,rfl,trivial⟩ rfl) ?_
      refine Al_gcallE [(1001,2001,g24),(1002,2002,g24),(1003,2003,g24),(1004,2004,g24),(1005,2005,g24),(1006,2006,g24),(1007,2007,g24)] [] (gdo_pick (t:=t) (w:=(g.pick (Far.oB x y)).1) (a:=(g.pick (Far.oB x y)).2) (hfi3.inv hk4 Ak) (by decide) (hfr hfi3) (o:=Far.oB x y) rfl (Far.gate8 _ (show(7:Int)<8 by decide) _)) rfl rfl rfl (by decide) (by kernel_rfl) ⟨rfl,rfl,rfl,rfl,rfl,rfl,rfl,trivial⟩ (λ_=>rfl) rfl rfl ⟨Sub.rfl,ASub.sub (ASub.row ⟨ASub.rfl,ASub.rfl,ASub.rfl,ASub.rfl,ASub.rfl,ASub.rfl,ASub.rfl,ASub.rfl,ASub.nil,ASub.nil,ASub.nil,ASub.nil,trivial⟩),trivial⟩ ?_
      rintro t2 g73
      refine Al_nil (Aw_region ?_)
      refine Al_ml ?_
      refine Al_p Pu_ad ?_
      refine Al_mr ?_
      refine Al_nil ?_
      exact⟨(z+1,(g.pick (Far.oB x y)).1,t2),⟨by omega,⟨hfi3.keep Ak hx hy,λ_=>hpk⟩⟩,by simp only[];omega,Le.ov ⟨Sub.num (by omega),trivial⟩ ⟨Sub.rfl,Sub.rfl,Sub.rfl,Sub.rfl,Sub.rfl,Sub.rfl,Sub.rfl,Sub.rfl,trivial⟩ ⟨rfl,rfl,rfl,rfl,rfl,trivial⟩ ⟨rfl,rfl,rfl,trivial⟩⟩
     ·(try simp only[A.cd_]at h66)
      have hz0:0<z:=by omega
      refine Aw_exit (Aw_region ?_)
      refine Al_ml ?_
      refine Al_p Pu_ad ?_
      refine Al_mr ?_
      refine Al_nil ?_
      exact⟨(y+1,g,t),⟨by omega,hfi4 hz0⟩,by simp only[];omega,Le.ov ⟨Sub.num (by omega),trivial⟩ ⟨Sub.rfl,Sub.rfl,Sub.rfl,Sub.rfl,Sub.rfl,Sub.rfl,Sub.rfl,trivial⟩ ⟨rfl,rfl,rfl,rfl,rfl,trivial⟩ ⟨rfl,rfl,rfl,trivial⟩⟩
    ·(try simp only[A.cd_]at h62)
     obtain rfl:y=c.parents.length:=by omega
     refine Aw_exit (Aw_region ?_)
     refine Al_ml ?_
     refine Al_p Pu_ad ?_
     refine Al_mr ?_
     refine Al_nil ?_
     exact⟨(x+1,g,t),⟨by omega,hfi2.row⟩,by simp only[];omega,Le.ov ⟨Sub.num (by omega),trivial⟩ ⟨Sub.rfl,Sub.rfl,Sub.rfl,Sub.rfl,Sub.rfl,Sub.rfl,trivial⟩ ⟨rfl,rfl,rfl,rfl,rfl,trivial⟩ ⟨rfl,rfl,rfl,trivial⟩⟩
   ·(try simp only[A.cd_]at h57)
    obtain rfl:x=c.parents.length:=by omega
    refine Aw_exit (Aw_region ?_)
    refine Al_ml ?_
    refine Al_p Pu_ad ?_
    refine Al_mr ?_
    refine Al_nil ?_
    exact⟨(r+1,g,t),⟨by omega,hfi1.round⟩,by simp only[];omega,Le.ov ⟨Sub.num (by omega),trivial⟩ ⟨Sub.rfl,Sub.rfl,Sub.rfl,Sub.rfl,Sub.rfl,trivial⟩ ⟨rfl,rfl,rfl,rfl,rfl,trivial⟩ ⟨rfl,rfl,rfl,trivial⟩⟩
  ·(try simp only[A.cd_]at h52)
   obtain rfl:r=6:=by omega
   refine Aw_exit (Aw_seq (Aw_sr ?_))
   refine Al_mr ?_
   refine Al_nil (Aw_block ?_)
   refine Aw_loopk (ι:=Nat×PG×GT) [7,8,9,10,11] [8,2002,2007] (λ(s,g,t)=>[(17,.d (iv s))]) (λ(s,g,t)=>[(2001,g24,.box 91 (gcellsN (.bx 2002 g24 0) fr.sv (g) t.hv)),(2003,g24,mapP (g).n fr.b fr.cnt (N.vX fr.np (g).Y)),(2004,g24,.op (starP SES t.Fn (N.vX fr.np (g).Y))),(2005,g24,.op (starP ST t.Fs (siteX fr.sp (g).S))),(2006,g24,histX t.hv (g).h)]) (λ(s,g,t)=>s≤c.parents.length∧Far.EndI c (letter j) (k%c.parents.length) s g) (λ(s,g,t)=>c.parents.length - s) ((0,g,t)) (⟨Nat.zero_le _,Far.EndI.zero Ak hk4 hfi0⟩) ⟨Sub.rfl,trivial⟩ ⟨rfl,rfl,rfl,rfl,rfl,trivial⟩ ?_
   rintro⟨s,g,t⟩ ⟨hk4,hend⟩
   refine Aw_seq (Aw_sr ?_)
   refine Al_ml ?_
   refine Al_ml ?_
   refine Al_p Pu_cp ?_
   refine Al_nil ?_
   refine Aw_cond rfl (λh76=>?_) (λh76=>?_)
   ·(try simp only[A.cd_]at h76)
    have hs:s<c.parents.length:=by omega
    have hend2:=hend.step hs
    have hch:=hend.chain Ak hchn hrng hs
    have hf1:fr.Ok g:=FR.Ok.inv hf0 (PG.Inv.new hp hok1) hend.inv hend.n
    have hf2:fr.Ok (g.step (Far.oS s)).1:=FR.Ok.inv hf0 (PG.Inv.new hp hok1) hend2.inv hend2.n
    refine Aw_skip (Aw_seq (Aw_block (Aw_sr ?_)))
    refine Al_ml ?_
    refine Al_ml ?_
    refine Al_p (Pu_build (aa:=[(0,_),(2,_)]) rfl Tryz.underlying41 Tryz.zeroValue41 places41 (by kernel_rfl) ⟨rfl,rfl,rfl,rfl,rfl,rfl,trivial⟩ rfl) ?_
    refine Al_gcallE [(1001,2001,g24),(1002,2002,g24),(1003,2003,g24),(1004,2004,g24),(1005,2005,g24),(1006,2006,g24),(1007,2007,g24)] [] (gdo_step (t:=t) (w:=(g.step (Far.oS s)).1) (a:=(g.step (Far.oS s)).2) hend.inv (by omega) hf1 (o:=Far.oS s) rfl (Far.gate8 _ (show(7:Int)<10 by decide) _)) rfl rfl rfl (by decide) (by kernel_rfl) ⟨rfl,rfl,rfl,rfl,rfl,rfl,rfl,trivial⟩ (λ_=>rfl) rfl rfl ⟨Sub.rfl,ASub.sub (ASub.row ⟨ASub.rfl,ASub.rfl,ASub.rfl,ASub.rfl,ASub.rfl,ASub.rfl,ASub.rfl,ASub.rfl,ASub.nil,ASub.nil,ASub.nil,ASub.nil,trivial⟩),trivial⟩ ?_
    rintro t2 g82
    refine Al_ns ?_
    refine Al_ml ?_
    refine Al_ml ?_
    refine Al_ml ?_
    refine Al_p (Pu_gcall [(1001,2001,g24),(1002,2002,g24),(1003,2003,g24),(1004,2004,g24),(1005,2005,g24),(1006,2006,g24),(1007,2007,g24)] (gChain_g fr (g.step (Far.oS s)).1 t2 s (letter j) hend2.inv.ok (by omega) hf2 (by unfold PG.isS;rw[hend2.n];simp only[Bool.and_eq_true,decide_eq_true_eq];omega)) (GE_in ..) rfl ⟨rfl,rfl,rfl,rfl,rfl,rfl,rfl,trivial⟩ rfl ⟨Sub.rfl,Sub.rfl,Sub.rfl,trivial⟩) ?_
    refine Al_mr ?_
    refine Al_ns ?_
    refine Al_p (Pu_lbN (r:=[_,_,_]) Tryz.isAgg30 Tryz.sizeOf30) ?_
    refine Al_ml ?_
    refine Al_ml ?_
    refine Al_p (Pu_call (rowns_a c s (letter j)) rfl ⟨Sub.rfl,Sub.rfl,Sub.rfl,trivial⟩) ?_
    refine Al_mr ?_
    refine Al_ns ?_
    refine Al_ml ?_
    refine Al_ml ?_
    refine Al_s (St_g [] trivial (λ_=>Pu_mvl)) ?_
    refine Al_s (St_g [93] ⟨⟨_,rfl⟩,trivial⟩ (λ_=>Pu_ln Tryz.underlying35)) ?_
    refine Al_s (St_g [94] ⟨⟨_,rfl⟩,trivial⟩ (λ_=>Pu_cp)) ?_
    refine Al_s (St_g [95] ⟨⟨_,rfl⟩,trivial⟩ (λ_=>Pu_mvl)) ?_
    refine Al_s (St_gd2 [] rfl rfl rfl rfl trivial (λhp97 hg97=>Pu_mvl)) ?_
    refine Al_s (St_gd2 [97] rfl rfl rfl rfl ⟨⟨_,rfl⟩,trivial⟩ (λhp98 hg98=>(by have hz:0<(J.getC ((g.step (Far.oS s)).1.site s).cs (letter j)).length:=(by have h98:=hg98;simp only[Bool.not_eq_false',decide_eq_true_eq]at h98;omega);exact Pu_index rfl Tryz.underlying35 Tryz.sizeOf50 rfl rfl (show((0:Int))=((0:Nat):Int)from rfl) (mapgetD (d:=default) hz)))) ?_
    refine Al_s (St_gd2 [98] rfl rfl rfl rfl ⟨⟨_,rfl⟩,trivial⟩ (λhp99 hg99=>Pu_fd 1 Tryz.underlying50 Tryz.sizeOf9)) ?_
    refine Al_s (St_gd2 [99] rfl rfl rfl rfl ⟨⟨_,rfl⟩,trivial⟩ (λhp100 hg100=>Pu_l1 Tryz.isAgg9)) ?_
    refine Al_s (St_gd2 [100] rfl rfl rfl rfl ⟨⟨_,rfl⟩,trivial⟩ (λhp101 hg101=>Pu_sr)) ?_
    refine Al_s (St_g [96] ⟨⟨_,rfl⟩,trivial⟩ (λhg102=>Pu_orG rfl rfl rfl (λh=>⟨hg102,h⟩) rfl)) ?_
    refine Al_p Pu_a ?_
    refine Al_ml ?_
    refine Al_s (St_g [] trivial (λ_=>Pu_mvl)) ?_
    refine Al_s (St_g [105] ⟨⟨_,rfl⟩,trivial⟩ (λ_=>Pu_n)) ?_
    refine Al_s (St_g [106] ⟨⟨_,rfl⟩,trivial⟩ (λ_=>Pu_mvl)) ?_
    refine Al_s (St_gd2 [] rfl rfl rfl rfl trivial (λhp108 hg108=>Pu_mvl)) ?_
    refine Al_s (St_gd2 [108] rfl rfl rfl rfl ⟨⟨_,rfl⟩,trivial⟩ (λhp109 hg109=>Pu_ln Tryz.underlying35)) ?_
    refine Al_s (St_gd2 [109] rfl rfl rfl rfl ⟨⟨_,rfl⟩,trivial⟩ (λhp110 hg110=>Pu_cp)) ?_
    refine Al_s (St_g [107] ⟨⟨_,rfl⟩,trivial⟩ (λhg111=>Pu_andG rfl rfl (λh=>⟨hg111,h⟩) rfl rfl)) ?_
    refine Al_p Pu_o ?_
    refine Al_nil ?_
    refine Aw_condF rfl ((by rw[hch];cases T.bit (T.owners c (letter j)) (s:Nat)<;>simp[Far.ver,Far.vv])) ?_
    refine Aw_skip (Aw_region ?_)
    refine Al_ml ?_
    refine Al_p Pu_ad ?_
    refine Al_mr ?_
    refine Al_nil ?_
    exact⟨(s+1,(g.step (Far.oS s)).1,t2),⟨by omega,hend2⟩,by simp only[];omega,Le.ov ⟨Sub.num (by omega),trivial⟩ ⟨Sub.rfl,Sub.rfl,Sub.rfl,Sub.rfl,Sub.rfl,trivial⟩ ⟨rfl,rfl,rfl,rfl,rfl,trivial⟩ ⟨rfl,rfl,rfl,trivial⟩⟩
   ·(try simp only[A.cd_]at h76)
    have hf1:fr.Ok g:=FR.Ok.inv hf0 (PG.Inv.new hp hok1) hend.inv hend.n
    refine Aw_exit (Aw_sr ?_)
    refine Al_ml ?_
    refine Al_ml ?_
    refine Al_s (St_g [] trivial (λ_=>Pu_mvl)) ?_
    refine Al_s (St_gd [115] rfl rfl rfl rfl ⟨⟨_,rfl⟩,trivial⟩ (λhg116=>by exact Pu_gcall [(1001,2001,g24),(1002,2002,g24),(1003,2003,g24),(1004,2004,g24),(1005,2005,g24),(1006,2006,g24),(1007,2007,g24)] (gIdle_g fr g t hend.inv.ok (by omega) hf1) (GE_in ..) rfl ⟨rfl,rfl,rfl,rfl,rfl,rfl,rfl,trivial⟩ rfl ⟨Sub.rfl,trivial⟩)) ?_
    refine Al_p Pu_a ?_
    refine Al_mr ?_
    refine Al_nil ?_
    exact Aw_ret (Sub.bool (by rw[hend.idle Ak];rfl))
end Go.Proofs.YtdnijgdmohinlaaGreat
end
