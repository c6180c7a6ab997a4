/- What the proofs need in common, laid together (5 of 6): no condition. -/
import Derived.Test.YtdnijgdmohinlaaGreatG4
import Derived.Laws.IdiomStrings
import Derived.Laws.BytesArg
import Derived.Lib.LazyBuf
set_option linter.unusedSimpArgs false
set_option linter.unusedVariables false
set_option linter.constructorNameAsVariable false
section
set_option maxRecDepth 100000
namespace Go.Proofs.YtdnijgdmohinlaaGreat
open Go Go.RowKit A R
namespace N
theorem idx_all:∀n∈List.range 7,∀a∈List.range 6,∀b∈List.range 6,∀c∈List.range 6,∀d∈List.range 6,idx n a b≠none→idx n (a:Nat) (b:Nat)=idx n (c:Nat) (d:Nat)→a=c∧b=d:=by decide +kernel
theorem idx_some {n:Nat}{a b:Int}{i:Nat}(h:idx n a b=some i):0≤a∧a<n∧0≤b∧b<n∧a≠b:=by
 unfold idx at h
 split at h
 ·assumption
 ·cases h
theorem idx_inj {n:Nat}(hn:n≤6) {c c':H.SK}{i:Nat}(h:idx n c.1 c.2=some i) (h':idx n c'.1 c'.2=some i):c=c':=by
 obtain⟨a,b⟩:=c
 obtain⟨a',b'⟩:=c'
 obtain⟨h1,h2,h3,h4,_⟩:=idx_some h
 obtain⟨k1,k2,k3,k4,_⟩:=idx_some h'
 have e1:a=(a.toNat:Int):=by simp only[]at h1;omega
 have e2:b=(b.toNat:Int):=by simp only[]at h3;omega
 have e3:a'=(a'.toNat:Int):=by simp only[]at k1;omega
 have e4:b'=(b'.toNat:Int):=by simp only[]at k3;omega
 simp only[]at h h' h1 h2 h3 h4 k1 k2 k3 k4
 have:=idx_all n (List.mem_range.2 (by omega)) a.toNat (List.mem_range.2 (by omega)) b.toNat (List.mem_range.2 (by omega)) a'.toNat (List.mem_range.2 (by omega)) b'.toNat (List.mem_range.2 (by omega))
 rw[←e1,←e2,←e3,←e4,h,h']at this
 obtain⟨p,q⟩:=this (by simp) rfl
 rw[e1,e2,e3,e4,p,q]
theorem netM_snoc {n:Nat}(hn:n≤6) {X:XS}{a b:Int}{v:Value}{s:Ses}(h:idx n a b=some X.length):(λc':H.SK=>if c'=(a,b)then some v else netM n X c')=netM n (X++[(v,s)]):=by
 funext c'
 unfold netM
 by_cases hc:c'=(a,b)
 ·subst hc
  rw[if_pos rfl]
  simp only[h,Option.bind_some]
  simp
 ·rw[if_neg hc]
  cases hi:idx n c'.1 c'.2 with
  | none=>rfl
  | some i =>
   simp only[Option.bind_some]
   have hne:i≠X.length:=λe=>hc (idx_inj hn (c:=c') (c':=(a,b)) hi (by rw[e];exact h))
   rcases Nat.lt_or_ge i X.length with hl|hl
   ·rw[List.getElem?_append_left hl]
   ·rw[List.getElem?_eq_none (by omega),List.getElem?_eq_none (by simp;omega)]
def upto (n a b:Nat):Nat:=a*(n - 1)+(if a<b then b - 1 else b)
theorem idx_upto {n a b:Nat}(ha:a<n) (hb:b<n) (hab:a≠b):idx n a b=some (upto n a b):=by
 unfold idx upto
 rw[if_pos ⟨by omega,by omega,by omega,by omega,by omega⟩]
 simp only[Int.toNat_natCast]
 congr 2
 split<;>split<;>omega
theorem upto_next {n a b:Nat}:upto n a (b+1)=if a=b then upto n a b else upto n a b+1:=by
 unfold upto
 split<;>split<;>split<;>omega
theorem upto_row {n a:Nat}(ha:a<n):upto n a n=upto n (a+1) 0:=by
 unfold upto
 rw[if_pos ha,if_neg (by omega),Nat.add_zero]
 have:(a+1)*(n - 1)=a*(n - 1)+(n - 1):=by rw[Nat.add_mul,Nat.one_mul]
 omega
structure New (n k:Nat) (X:XS):Prop where
 len:X.length=k
 zero:∀p∈X,p.2=⟨0,[],0,[]⟩
 pl:∀p∈X,∃a,p.1=.pointer (some a)
end N
theorem lkNewS_g:GCall Tryz.prog 83 [] [] (some ([(1001,.box 233 [.d (iv 0),.d (.v (.slice none 0 0))])],.bx 1001 0 0)):=by
 refine GC_1 Tryz.func83 Tryz.ntmps83 (ReadsS.r1 Tryz.results83) λhok hokB M0 w0=>?_
 refine Aw_sr ?_
 refine Al_mr ?_
 refine Al_ns ?_
 refine Al_p (Pu_build (aa:=[]) rfl Tryz.underlying233 Tryz.zeroValue233 places233 (by kernel_rfl) trivial rfl) ?_
 refine Al_boxN rfl rfl rfl (by decide) (by kernel_rfl) rfl (λg2=>?_)
 refine Al_mr ?_
 refine Al_nil ?_
 exact Aw_ret (⟨_,_,[(1001,2,g2)],rfl,Sub.rfl,⟨rfl,trivial⟩,rfl⟩)
theorem lkNewR_g:GCall Tryz.prog 84 [] [] (some ([(1001,.box 235 [.d (iv 0)])],.bx 1001 0 0)):=by
 refine GC_1 Tryz.func84 Tryz.ntmps84 (ReadsS.r1 Tryz.results84) λhok hokB M0 w0=>?_
 refine Aw_sr ?_
 refine Al_mr ?_
 refine Al_ns ?_
 refine Al_p (Pu_build (aa:=[]) rfl Tryz.underlying235 Tryz.zeroValue235 places235 (by kernel_rfl) trivial rfl) ?_
 refine Al_boxN rfl rfl rfl (by decide) (by kernel_rfl) rfl (λg2=>?_)
 refine Al_mr ?_
 refine Al_nil ?_
 exact Aw_ret (⟨_,_,[(1001,2,g2)],rfl,Sub.rfl,⟨rfl,trivial⟩,rfl⟩)
theorem N.netM_nil (n:Nat):N.netM n []=λ_=>none:=by
 funext c
 unfold N.netM
 cases N.idx n c.1 c.2<;>rfl
theorem N.upto_le {n a b:Nat}(hn:n≤6) (ha:a≤n) (hb:b≤n):N.upto n a b≤100:=by
 unfold N.upto
 have:a*(n - 1)≤6*6:=Nat.mul_le_mul (by omega) (by omega)
 split<;>omega
theorem A.PuI_buildArr {P:Program}{st:ASt}{o:Oper}{t e:TypeId}{len n:Nat}{ps:Array (Nat×Operand)}{aa:List (Nat×AV)}{zs:List Value}{r:List AV}(ho:o.op=.build t ps) (ht:P.underlying t=some (.array len e)) (hz:∀w,(zeroValue t).run P w=.ok (.agg zs.toArray) w)
  (hs:∀w,(sizeOf e).run P w=.ok n w) (hv:zs.all (λz=>decide (vok z))=true) (ha:PartsOk st ps.toList aa) (hr:fillA (λi=>some (i*n,n)) (zs.map .v) aa=some r):PuI P st o (.d (.row r)):=λM ρ w a h2=>by
 obtain⟨us,h3,h4⟩:=run_fill (M:=M) (w:=w) (ρ:=ρ) (a:=a) (λi=>some (i*n,n)) ps.toList aa _ r zs.toArray ha (λp hp=>h2 p.2 (by
  simp only[opsOf,ho,Op.operands]
  exact List.mem_map.2 ⟨p,hp,rfl⟩)) (cells_v hv) hr
 refine⟨.agg us,h4.row,λw2=>?_⟩
 have e:(ps.map λ(p:Nat×Operand)=>(p.1,a.eval p.2)).toList=ps.toList.map λ(i,x)=>(i,a.eval x):=by simp
 simp only[execOp,ho,Instr.build,Sem.run_bind,hz,Result.andThen_ok,run_underlying ht,hs,Value.cells]
 rw[e]
 simp only[h3,Sem.run_pure,Sem.run_bind,Result.andThen_ok]
theorem ntNew_g (n:Nat) (hn:1≤n∧n≤6):GCallE Tryz.prog 35 [.d (iv n)] [] (λz:{z:Nat×(Nat→Prop)×N.XS // N.New n (N.upto n n 0) z.2.2}=>some (NT n z.1.1 (N.upto n n 0) z.1.2.1 z.1.2.2,.bx 1001 0 0)):=by
 refine GC_E Tryz.func35 Tryz.ntmps35 (ReadsS.r1 Tryz.results35) λhok hokB M0 w0=>?_
 refine Aw_sr ?_
 refine Al_mr ?_
 refine Al_nil (Aw_seq (Aw_sr ?_))
 refine Al_ml ?_
 refine Al_p Pu_cp ?_
 refine Al_ml ?_
 refine Al_s (St_g [] trivial (λ_=>Pu_mvl)) ?_
 refine Al_s (St_g [9] ⟨⟨_,rfl⟩,trivial⟩ (λ_=>Pu_cp)) ?_
 refine Al_p Pu_o ?_
 refine Al_nil ?_
 refine Aw_condF rfl ((by simp;omega)) ?_
 refine Aw_skip (Aw_sr ?_)
 refine Al_makeMap H.skv H.skok (λv:Value=>AV.v v) rfl rfl rfl (by decide) (λbm g12=>?_)
 refine Al_ghost [] [(1000,60)] 2 (gh_nil (E:=SES)) (λ_ _ _ _ _=>trivial) trivial (λ_=>rfl) rfl rfl (λ_ g60=>?_)
 refine Al_p (Pu_buildAg (aa:=[(0,_)]) rfl Tryz.underlying149 Tryz.zeroValue149 places149 (by kernel_rfl) ⟨rfl,rfl,trivial⟩ rfl) ?_
 refine Al_boxAg rfl rfl rfl (by decide) (by kernel_rfl) rfl (λg14=>?_)
 refine Al_mr ?_
 refine Al_nil (Aw_seq (Aw_sr ?_))
 refine Al_ml ?_
 refine Al_ml ?_
 refine Al_nil (Aw_block ?_)
 refine Aw_loopk (ι:=Nat×(Nat→Prop)×N.XS) [0,3,15] [14] (λ(a,F,X)=>[(16,.d (iv a))]) (λ(a,F,X)=>[(12,g12,.op (mapO H.skv H.skok (λv:Value=>AV.v v) bm (N.upto n a 0) (N.netM n X))),(60,g60,.op (starP SES F X))]) (λ(a,F,X)=>a≤n∧N.New n (N.upto n a 0) X) (λ(a,F,X)=>n - a) ((0,λ_=>False,[])) (⟨Nat.zero_le _,⟨by simp[N.upto],λp hp=>(by cases hp),λp hp=>by cases hp⟩⟩) ⟨Sub.rfl,trivial⟩ ⟨by rw[N.netM_nil,show N.upto n 0 0=0 from by simp[N.upto]];rfl,rfl,trivial⟩ ?_
 rintro⟨a,F,X⟩ ⟨hk0,hN⟩
 refine Aw_sr ?_
 refine Al_p Pu_cp ?_
 refine Al_nil (Aw_seq ?_)
 refine Aw_cond rfl (λh17=>?_) (λh17=>?_)
 ·(try simp only[A.cd_]at h17)
  refine Aw_skip (Aw_seq (Aw_block (Aw_sr ?_)))
  refine Al_ml ?_
  refine Al_mr ?_
  refine Al_ns ?_
  refine Al_ml ?_
  refine Al_ml ?_
  refine Al_nil (Aw_block ?_)
  refine Aw_loopk (ι:=Nat×(Nat→Prop)×N.XS) [0,3,4,15,16,19] [14] (λ(j,F,X)=>[(20,.d (iv j))]) (λ(j,F,X)=>[(12,g12,.op (mapO H.skv H.skok (λv:Value=>AV.v v) bm (N.upto n a j) (N.netM n X))),(60,g60,.op (starP SES F X))]) (λ(j,F,X)=>j≤n∧N.New n (N.upto n a j) X) (λ(j,F,X)=>n - j) ((0,F,X)) (⟨Nat.zero_le _,hN⟩) ⟨Sub.rfl,trivial⟩ ⟨rfl,rfl,trivial⟩ ?_
  rintro⟨j,F,X⟩ ⟨hk1,hN1⟩
  refine Aw_sr ?_
  refine Al_p Pu_cp ?_
  refine Al_nil (Aw_seq ?_)
  refine Aw_cond rfl (λh21=>?_) (λh21=>?_)
  ·(try simp only[A.cd_]at h21)
   refine Aw_skip ?_
   refine Aw_seq (Aw_block (Aw_sr ?_))
   refine Al_ml ?_
   refine Al_mr ?_
   refine Al_ns ?_
   refine Al_ml ?_
   refine Al_ml ?_
   refine Al_p Pu_cp ?_
   refine Al_nil ?_
   refine Aw_cond rfl (λh25=>?_) (λh25=>?_)
   ·(try simp only[A.cd_]at h25)
    have hne:a≠j:=λh=>by subst h;simp at h25
    have hix:=N.idx_upto (n:=n) (a:=a) (b:=j) (by omega) (by omega) hne
    have hup:=N.upto_next (n:=n) (a:=a) (b:=j)
    rw[if_neg hne]at hup
    have hul:=N.upto_le (n:=n) (a:=a) (b:=j) hn.2 (by omega) (by omega)
    refine Aw_drawn (by kernel_rfl) ?_
    refine Ad_t 0 rfl (PuI_move (.inl rfl) (by conv=>lhs;whnf)) ?_
    refine Ad_t 1 rfl PuI_nb ?_
    refine Ad_t 2 rfl (PuI_fb 0 Tryz.underlying149 Tryz.sizeOf147) ?_
    refine Ad_t 4 rfl (PuI_move (.inl rfl) (by conv=>lhs;whnf)) ?_
    refine Ad_t 5 rfl (PuI_move (.inl rfl) (by conv=>lhs;whnf)) ?_
    refine Ad_t 6 rfl (PuI_buildArr (aa:=[(0,_),(1,_)]) rfl Tryz.underlying157 Tryz.zeroValue157 Tryz.sizeOf3 (by kernel_rfl) ⟨rfl,rfl,rfl,rfl,rfl,rfl,trivial⟩ rfl) ?_
    refine Ad_two 3 7 rfl rfl (by kernel_rfl) ?_ ?_
    ·refine Al_p (Pu_lb Tryz.isAgg147) ?_
     refine Al_nil ?_
     refine Ad_o 7 ?_
     refine Al_gcall [] [(1001,33)] (lkNewS_g) rfl rfl rfl (by decide) (by kernel_rfl) trivial rfl trivial (λg33=>?_)
     refine Al_nil ?_
     refine Ad_o 8 ?_
     refine Al_gcall [] [(1001,34)] (lkNewR_g) rfl rfl rfl (by decide) (by kernel_rfl) trivial rfl trivial (λg34=>?_)
     refine Al_nil ?_
     refine Ad_o 9 ?_
     refine Al_p (Pu_buildAg (aa:=[(0,_),(1,_)]) rfl Tryz.underlying156 Tryz.zeroValue156 places156 (by kernel_rfl) ⟨rfl,rfl,rfl,rfl,trivial⟩ rfl) ?_
     refine Al_nil ?_
     refine Ad_o 10 ?_
     refine Al_boxAg rfl rfl rfl (by decide) (by kernel_rfl) rfl (λg36=>?_)
     refine Al_nil ?_
     refine Ad_o 11 ?_
     refine Al_ghost [] [(1003,50)] 2 (gh_row (T:=170) (n:=2)) (λ_ _ _ _ _=>trivial) trivial (λ_=>rfl) rfl rfl (λ_ g50=>?_)
     refine Al_ghost [] [(1003,51)] 2 (gh_row (T:=170) (n:=2)) (λ_ _ _ _ _=>trivial) trivial (λ_=>rfl) rfl rfl (λ_ g51=>?_)
     refine Al_ghost [(1000,60,g60),(1001,36,g36),(1002,33,g33),(1003,34,g34),(1004,50,g50),(1005,51,g51)] [] 36 (gh_newP (E:=SES) (s':=⟨0,[],0,[]⟩) (t:=(.slice none 0 0,.slice none 0 0)) ⟨(SES_in _ _).1,(SES_in _ _).2.1⟩) Sub.rfl ⟨rfl,rfl,rfl,rfl,rfl,rfl,trivial⟩ (λ_=>rfl) rfl rfl (λy G=>?_)
     obtain⟨F2,pb⟩:=y
     refine Al_mapUpdate (c:=(((a:Int),(j:Int)):H.SK)) (v:=.pointer (some ⟨pb,0,none⟩)) pair_key rfl rfl rfl (by kernel_rfl) Tryz.underlying147 (by simp only[maxLen];omega) rfl rfl rfl (Only.row [.int .i64 _,.int .i64 _]) ⟨by simp only[A.inI];omega,by simp only[A.inI];omega⟩ Sub.rfl ?_
     refine Al_nil ?_
     refine Ad_d ?_
     refine Aw_region ?_
     refine Al_p Pu_ad ?_
     refine Al_ml ?_
     refine Al_nil ?_
     exact⟨(j+1,F2,X++[(.pointer (some ⟨pb,0,none⟩),(⟨0,[],0,[]⟩:Ses))]),⟨by omega,⟨by rw[hup,List.length_append,hN1.len];rfl,λp hp=>(by
      rcases List.mem_append.1 hp with hp|hp
      ·exact hN1.zero p hp
      ·rw[List.mem_singleton.1 hp]),λp hp=>by
      rcases List.mem_append.1 hp with hp|hp
      ·exact hN1.pl p hp
      ·rw[List.mem_singleton.1 hp];exact⟨_,rfl⟩⟩⟩,by simp only[];omega,Le.ov ⟨Sub.num (by omega),trivial⟩ ⟨Sub.rfl,Sub.rfl,Sub.rfl,Sub.rfl,Sub.rfl,Sub.rfl,trivial⟩ ⟨by rw[hup,←N.netM_snoc hn.2 (by rw[hix,hN1.len])];rfl,rfl,trivial⟩ ⟨rfl,trivial⟩⟩
    ·refine Al_gcall [] [(1001,33)] (lkNewS_g) rfl rfl rfl (by decide) (by kernel_rfl) trivial rfl trivial (λg33=>?_)
     refine Al_nil ?_
     refine Ad_two 3 8 rfl rfl (by kernel_rfl) ?_ ?_
     ·refine Al_p (Pu_lb Tryz.isAgg147) ?_
      refine Al_nil ?_
      refine Ad_o 8 ?_
      refine Al_gcall [] [(1001,34)] (lkNewR_g) rfl rfl rfl (by decide) (by kernel_rfl) trivial rfl trivial (λg34=>?_)
      refine Al_nil ?_
      refine Ad_o 9 ?_
      refine Al_p (Pu_buildAg (aa:=[(0,_),(1,_)]) rfl Tryz.underlying156 Tryz.zeroValue156 places156 (by kernel_rfl) ⟨rfl,rfl,rfl,rfl,trivial⟩ rfl) ?_
      refine Al_nil ?_
      refine Ad_o 10 ?_
      refine Al_boxAg rfl rfl rfl (by decide) (by kernel_rfl) rfl (λg36=>?_)
      refine Al_nil ?_
      refine Ad_o 11 ?_
      refine Al_ghost [] [(1003,50)] 2 (gh_row (T:=170) (n:=2)) (λ_ _ _ _ _=>trivial) trivial (λ_=>rfl) rfl rfl (λ_ g50=>?_)
      refine Al_ghost [] [(1003,51)] 2 (gh_row (T:=170) (n:=2)) (λ_ _ _ _ _=>trivial) trivial (λ_=>rfl) rfl rfl (λ_ g51=>?_)
      refine Al_ghost [(1000,60,g60),(1001,36,g36),(1002,33,g33),(1003,34,g34),(1004,50,g50),(1005,51,g51)] [] 36 (gh_newP (E:=SES) (s':=⟨0,[],0,[]⟩) (t:=(.slice none 0 0,.slice none 0 0)) ⟨(SES_in _ _).1,(SES_in _ _).2.1⟩) Sub.rfl ⟨rfl,rfl,rfl,rfl,rfl,rfl,trivial⟩ (λ_=>rfl) rfl rfl (λy G=>?_)
      obtain⟨F2,pb⟩:=y
      refine Al_mapUpdate (c:=(((a:Int),(j:Int)):H.SK)) (v:=.pointer (some ⟨pb,0,none⟩)) pair_key rfl rfl rfl (by kernel_rfl) Tryz.underlying147 (by simp only[maxLen];omega) rfl rfl rfl (Only.row [.int .i64 _,.int .i64 _]) ⟨by simp only[A.inI];omega,by simp only[A.inI];omega⟩ Sub.rfl ?_
      refine Al_nil ?_
      refine Ad_d ?_
      refine Aw_region ?_
      refine Al_p Pu_ad ?_
      refine Al_ml ?_
      refine Al_nil ?_
      exact⟨(j+1,F2,X++[(.pointer (some ⟨pb,0,none⟩),(⟨0,[],0,[]⟩:Ses))]),⟨by omega,⟨by rw[hup,List.length_append,hN1.len];rfl,λp hp=>(by
       rcases List.mem_append.1 hp with hp|hp
       ·exact hN1.zero p hp
       ·rw[List.mem_singleton.1 hp]),λp hp=>by
       rcases List.mem_append.1 hp with hp|hp
       ·exact hN1.pl p hp
       ·rw[List.mem_singleton.1 hp];exact⟨_,rfl⟩⟩⟩,by simp only[];omega,Le.ov ⟨Sub.num (by omega),trivial⟩ ⟨Sub.rfl,Sub.rfl,Sub.rfl,Sub.rfl,Sub.rfl,Sub.rfl,trivial⟩ ⟨by rw[hup,←N.netM_snoc hn.2 (by rw[hix,hN1.len])];rfl,rfl,trivial⟩ ⟨rfl,trivial⟩⟩
     ·refine Al_gcall [] [(1001,34)] (lkNewR_g) rfl rfl rfl (by decide) (by kernel_rfl) trivial rfl trivial (λg34=>?_)
      refine Al_nil ?_
      refine Ad_two 3 9 rfl rfl (by kernel_rfl) ?_ ?_
      ·refine Al_p (Pu_lb Tryz.isAgg147) ?_
       refine Al_nil ?_
       refine Ad_o 9 ?_
       refine Al_p (Pu_buildAg (aa:=[(0,_),(1,_)]) rfl Tryz.underlying156 Tryz.zeroValue156 places156 (by kernel_rfl) ⟨rfl,rfl,rfl,rfl,trivial⟩ rfl) ?_
       refine Al_nil ?_
       refine Ad_o 10 ?_
       refine Al_boxAg rfl rfl rfl (by decide) (by kernel_rfl) rfl (λg36=>?_)
       refine Al_nil ?_
       refine Ad_o 11 ?_
       refine Al_ghost [] [(1003,50)] 2 (gh_row (T:=170) (n:=2)) (λ_ _ _ _ _=>trivial) trivial (λ_=>rfl) rfl rfl (λ_ g50=>?_)
       refine Al_ghost [] [(1003,51)] 2 (gh_row (T:=170) (n:=2)) (λ_ _ _ _ _=>trivial) trivial (λ_=>rfl) rfl rfl (λ_ g51=>?_)
       refine Al_ghost [(1000,60,g60),(1001,36,g36),(1002,33,g33),(1003,34,g34),(1004,50,g50),(1005,51,g51)] [] 36 (gh_newP (E:=SES) (s':=⟨0,[],0,[]⟩) (t:=(.slice none 0 0,.slice none 0 0)) ⟨(SES_in _ _).1,(SES_in _ _).2.1⟩) Sub.rfl ⟨rfl,rfl,rfl,rfl,rfl,rfl,trivial⟩ (λ_=>rfl) rfl rfl (λy G=>?_)
       obtain⟨F2,pb⟩:=y
       refine Al_mapUpdate (c:=(((a:Int),(j:Int)):H.SK)) (v:=.pointer (some ⟨pb,0,none⟩)) pair_key rfl rfl rfl (by kernel_rfl) Tryz.underlying147 (by simp only[maxLen];omega) rfl rfl rfl (Only.row [.int .i64 _,.int .i64 _]) ⟨by simp only[A.inI];omega,by simp only[A.inI];omega⟩ Sub.rfl ?_
       refine Al_nil ?_
       refine Ad_d ?_
       refine Aw_region ?_
       refine Al_p Pu_ad ?_
       refine Al_ml ?_
       refine Al_nil ?_
       exact⟨(j+1,F2,X++[(.pointer (some ⟨pb,0,none⟩),(⟨0,[],0,[]⟩:Ses))]),⟨by omega,⟨by rw[hup,List.length_append,hN1.len];rfl,λp hp=>(by
        rcases List.mem_append.1 hp with hp|hp
        ·exact hN1.zero p hp
        ·rw[List.mem_singleton.1 hp]),λp hp=>by
        rcases List.mem_append.1 hp with hp|hp
        ·exact hN1.pl p hp
        ·rw[List.mem_singleton.1 hp];exact⟨_,rfl⟩⟩⟩,by simp only[];omega,Le.ov ⟨Sub.num (by omega),trivial⟩ ⟨Sub.rfl,Sub.rfl,Sub.rfl,Sub.rfl,Sub.rfl,Sub.rfl,trivial⟩ ⟨by rw[hup,←N.netM_snoc hn.2 (by rw[hix,hN1.len])];rfl,rfl,trivial⟩ ⟨rfl,trivial⟩⟩
      ·refine Al_p (Pu_buildAg (aa:=[(0,_),(1,_)]) rfl Tryz.underlying156 Tryz.zeroValue156 places156 (by kernel_rfl) ⟨rfl,rfl,rfl,rfl,trivial⟩ rfl) ?_
       refine Al_nil ?_
       refine Ad_two 3 10 rfl rfl (by kernel_rfl) ?_ ?_
       ·refine Al_p (Pu_lb Tryz.isAgg147) ?_
        refine Al_nil ?_
        refine Ad_o 10 ?_
        refine Al_boxAg rfl rfl rfl (by decide) (by kernel_rfl) rfl (λg36=>?_)
        refine Al_nil ?_
        refine Ad_o 11 ?_
        refine Al_ghost [] [(1003,50)] 2 (gh_row (T:=170) (n:=2)) (λ_ _ _ _ _=>trivial) trivial (λ_=>rfl) rfl rfl (λ_ g50=>?_)
        refine Al_ghost [] [(1003,51)] 2 (gh_row (T:=170) (n:=2)) (λ_ _ _ _ _=>trivial) trivial (λ_=>rfl) rfl rfl (λ_ g51=>?_)
        refine Al_ghost [(1000,60,g60),(1001,36,g36),(1002,33,g33),(1003,34,g34),(1004,50,g50),(1005,51,g51)] [] 36 (gh_newP (E:=SES) (s':=⟨0,[],0,[]⟩) (t:=(.slice none 0 0,.slice none 0 0)) ⟨(SES_in _ _).1,(SES_in _ _).2.1⟩) Sub.rfl ⟨rfl,rfl,rfl,rfl,rfl,rfl,trivial⟩ (λ_=>rfl) rfl rfl (λy G=>?_)
        obtain⟨F2,pb⟩:=y
        refine Al_mapUpdate (c:=(((a:Int),(j:Int)):H.SK)) (v:=.pointer (some ⟨pb,0,none⟩)) pair_key rfl rfl rfl (by kernel_rfl) Tryz.underlying147 (by simp only[maxLen];omega) rfl rfl rfl (Only.row [.int .i64 _,.int .i64 _]) ⟨by simp only[A.inI];omega,by simp only[A.inI];omega⟩ Sub.rfl ?_
        refine Al_nil ?_
        refine Ad_d ?_
        refine Aw_region ?_
        refine Al_p Pu_ad ?_
        refine Al_ml ?_
        refine Al_nil ?_
        exact⟨(j+1,F2,X++[(.pointer (some ⟨pb,0,none⟩),(⟨0,[],0,[]⟩:Ses))]),⟨by omega,⟨by rw[hup,List.length_append,hN1.len];rfl,λp hp=>(by
         rcases List.mem_append.1 hp with hp|hp
         ·exact hN1.zero p hp
         ·rw[List.mem_singleton.1 hp]),λp hp=>by
         rcases List.mem_append.1 hp with hp|hp
         ·exact hN1.pl p hp
         ·rw[List.mem_singleton.1 hp];exact⟨_,rfl⟩⟩⟩,by simp only[];omega,Le.ov ⟨Sub.num (by omega),trivial⟩ ⟨Sub.rfl,Sub.rfl,Sub.rfl,Sub.rfl,Sub.rfl,Sub.rfl,trivial⟩ ⟨by rw[hup,←N.netM_snoc hn.2 (by rw[hix,hN1.len])];rfl,rfl,trivial⟩ ⟨rfl,trivial⟩⟩
       ·refine Al_boxAg rfl rfl rfl (by decide) (by kernel_rfl) rfl (λg36=>?_)
        refine Al_nil ?_
        refine Ad_o 3 ?_
        refine Al_p (Pu_lb Tryz.isAgg147) ?_
        refine Al_nil ?_
        refine Ad_o 11 ?_
        refine Al_ghost [] [(1003,50)] 2 (gh_row (T:=170) (n:=2)) (λ_ _ _ _ _=>trivial) trivial (λ_=>rfl) rfl rfl (λ_ g50=>?_)
        refine Al_ghost [] [(1003,51)] 2 (gh_row (T:=170) (n:=2)) (λ_ _ _ _ _=>trivial) trivial (λ_=>rfl) rfl rfl (λ_ g51=>?_)
        refine Al_ghost [(1000,60,g60),(1001,36,g36),(1002,33,g33),(1003,34,g34),(1004,50,g50),(1005,51,g51)] [] 36 (gh_newP (E:=SES) (s':=⟨0,[],0,[]⟩) (t:=(.slice none 0 0,.slice none 0 0)) ⟨(SES_in _ _).1,(SES_in _ _).2.1⟩) Sub.rfl ⟨rfl,rfl,rfl,rfl,rfl,rfl,trivial⟩ (λ_=>rfl) rfl rfl (λy G=>?_)
        obtain⟨F2,pb⟩:=y
        refine Al_mapUpdate (c:=(((a:Int),(j:Int)):H.SK)) (v:=.pointer (some ⟨pb,0,none⟩)) pair_key rfl rfl rfl (by kernel_rfl) Tryz.underlying147 (by simp only[maxLen];omega) rfl rfl rfl (Only.row [.int .i64 _,.int .i64 _]) ⟨by simp only[A.inI];omega,by simp only[A.inI];omega⟩ Sub.rfl ?_
        refine Al_nil ?_
        refine Ad_d ?_
        refine Aw_region ?_
        refine Al_p Pu_ad ?_
        refine Al_ml ?_
        refine Al_nil ?_
        exact⟨(j+1,F2,X++[(.pointer (some ⟨pb,0,none⟩),(⟨0,[],0,[]⟩:Ses))]),⟨by omega,⟨by rw[hup,List.length_append,hN1.len];rfl,λp hp=>(by
         rcases List.mem_append.1 hp with hp|hp
         ·exact hN1.zero p hp
         ·rw[List.mem_singleton.1 hp]),λp hp=>by
         rcases List.mem_append.1 hp with hp|hp
         ·exact hN1.pl p hp
         ·rw[List.mem_singleton.1 hp];exact⟨_,rfl⟩⟩⟩,by simp only[];omega,Le.ov ⟨Sub.num (by omega),trivial⟩ ⟨Sub.rfl,Sub.rfl,Sub.rfl,Sub.rfl,Sub.rfl,Sub.rfl,trivial⟩ ⟨by rw[hup,←N.netM_snoc hn.2 (by rw[hix,hN1.len])];rfl,rfl,trivial⟩ ⟨rfl,trivial⟩⟩
   ·(try simp only[A.cd_]at h25)
    have haj:a=j:=by omega
    have hup:=N.upto_next (n:=n) (a:=a) (b:=j)
    rw[if_pos haj]at hup
    refine Aw_skip (Aw_region ?_)
    refine Al_p Pu_ad ?_
    refine Al_ml ?_
    refine Al_nil ?_
    exact⟨(j+1,F,X),⟨by omega,⟨by rw[hup];exact hN1.len,hN1.zero,hN1.pl⟩⟩,by simp only[];omega,Le.ov ⟨Sub.num (by omega),trivial⟩ ⟨Sub.rfl,Sub.rfl,Sub.rfl,Sub.rfl,Sub.rfl,Sub.rfl,trivial⟩ ⟨by rw[hup];rfl,rfl,trivial⟩ ⟨rfl,trivial⟩⟩
  ·(try simp only[A.cd_]at h21)
   have hjn:j=n:=by omega
   have hur:N.upto n a j=N.upto n (a+1) 0:=by rw[hjn];exact N.upto_row (by omega)
   refine Aw_exit (Aw_region ?_)
   refine Al_p Pu_ad ?_
   refine Al_ml ?_
   refine Al_nil ?_
   exact⟨(a+1,F,X),⟨by omega,⟨by rw[←hur];exact hN1.len,hN1.zero,hN1.pl⟩⟩,by simp only[];omega,Le.ov ⟨Sub.num (by omega),trivial⟩ ⟨Sub.rfl,Sub.rfl,Sub.rfl,trivial⟩ ⟨by rw[←hur];rfl,rfl,trivial⟩ ⟨rfl,trivial⟩⟩
 ·(try simp only[A.cd_]at h17)
  obtain rfl:a=n:=by omega
  refine Aw_exit (Aw_sr ?_)
  refine Al_ml ?_
  refine Al_mr ?_
  refine Al_nil ?_
  exact Aw_ret (⟨⟨(bm,F,X),hN⟩,_,_,[(1001,14,g14),(1002,12,g12),(1003,60,g60)],rfl,Sub.rfl,⟨rfl,rfl,rfl,trivial⟩,rfl⟩)
end Go.Proofs.YtdnijgdmohinlaaGreat
end
section
namespace Go.Proofs.YtdnijgdmohinlaaGreat
open Go.RowKit A
theorem A.append_str {P:Program}(w:World) (B:Nat) (t u ty e:TypeId) (i:TypeInfo) (ht:P.underlying t=some (.slice e)) (hu:P.underlying u=some .string) (hi:P.info? e=some i) (hz:i.zero=some (.int .u8 0)) (hsize:i.size=1) (hby:i.bytes=1)
  (v:Value) (n:Nat) (xs:List Value) (hown:w.ownsRow B e 1 v n xs) (s:ByteArray) (h63:n+s.size≤maxLen) (hbytes:n+s.size≤140737488355328) (hbase:B≤w.heap.size) :
  ∃v' w',(Builtin.append_ #[t,u] ty #[v,.string s]).run P w=.ok v' w'∧w'.ownsRow B e 1 v' (n+s.size) (xs++Lib.strCells s)∧w.grownBy w' v.ownBlock∧(v'.ownBlock=v.ownBlock∨∃c,v'.ownBlock=some c∧w.heap.size≤c):=by
 obtain⟨v',w',h1',h2',h3',_⟩:=Lib.run_append_own_string (P:=P) w B t u ty e i ht hu hi hz hsize hby v n xs hown s h63 hbytes hbase
 refine⟨v',w',h1',h2',h3',?_⟩
 rcases hown.2 with⟨rfl,rfl⟩|⟨g,cap,cur,rfl,hbg,hg,hnc,hcm,hcs,htake⟩
 ·have hx:xs=[]:=List.eq_nil_of_length_eq_zero (by simpa using hown.1)
  obtain⟨v2,w2,k1,k2,_,_⟩:=Lib.run_append_own_string (P:=P) w w.heap.size t u ty e i ht hu hi hz hsize hby (.slice none 0 0) 0 xs (by rw[hx];exact World.ownsRow_nil w _ e 1) s h63 hbytes (Nat.le_refl _)
  rw[k1]at h1'
  simp only[Result.ok.injEq]at h1'
  obtain⟨rfl,rfl⟩:=h1'
  rcases k2.2 with⟨rfl,_⟩|⟨g,cap,cur,rfl,hbg,_⟩
  ·exact .inl rfl
  ·exact .inr ⟨g,rfl,hbg⟩
 ·by_cases hroom:n+s.size≤cap
  ·have hr:=Lib.run_append_room_string (P:=P) w t u ty e i ht hu hi hsize g n cap cur hg s hroom (by rw[hcs];omega)
   rw[hr]at h1'
   simp only[Result.ok.injEq]at h1'
   obtain⟨rfl,_⟩:=h1'
   exact .inl rfl
  ·have hr:=Lib.run_append_grow_string (P:=P) w t u ty e i _ ht hu hi hz ⟨g,0,none⟩ n cap xs (by rw[hsize];exact hown.1) (hown.cells (g:=g) rfl) s (by omega) (by simp only[maxLen]at h63;omega) (growslice_fits (by omega) (by rw[hby];omega))
   rw[hr]at h1'
   simp only[Result.ok.injEq]at h1'
   obtain⟨rfl,_⟩:=h1'
   exact .inr ⟨_,rfl,Nat.le_refl _⟩
structure A.Bld (B b:Nat) (v:Value) (bs:List Value) (w:World):Prop where
 blk:∃p,(p=.pointer none∨p=.pointer (some ⟨b,0,none⟩))∧w.heap[b]?=some (.cells #[p,v] 376 (0,0))
 own:w.ownsRow B 5 1 v bs.length bs
 ne:v.ownBlock≠some b
theorem A.wpList_append_str {P:Program}{w:World}{ops:Array Oper}{rest:List Oper}{o:Oper}{a:Act}{Q:Exit→Act→World→Prop}(hgd:o.guard=none) (sl x:Operand) (t u:TypeId)
  (ho:o.op=.call {callee:=.builtin .append,args:=#[sl,x],argTypes:=#[t,u]})
  (B:Nat) (e:TypeId) (i:TypeInfo) (ht:P.underlying t=some (.slice e)) (hu:P.underlying u=some .string) (hi:P.info? e=some i) (hz:i.zero=some (.int .u8 0)) (hsize:i.size=1) (hby:i.bytes=1)
  (v:Value) (n:Nat) (xs:List Value) (hs:a.eval sl=v) (hown:w.ownsRow B e 1 v n xs) (s:ByteArray) (hx:a.eval x=.string s)
  (h63:n+s.size≤maxLen) (hbytes:n+s.size≤140737488355328) (hbase:B≤w.heap.size)
  (h:∀v' w',w'.ownsRow B e 1 v' (n+s.size) (xs++Lib.strCells s)→w.grownBy w' v.ownBlock→(v'.ownBlock=v.ownBlock∨∃c,v'.ownBlock=some c∧w.heap.size≤c)→wpList P ops Q rest (a.put o.dst v') w'):wpList P ops Q (o::rest) a w:=by
 refine wpList_plain hgd λK hK=>?_
 obtain⟨v',w',hr,h2,h3,h4⟩:=A.append_str (P:=P) w B t u o.type e i ht hu hi hz hsize hby v n xs hown s h63 hbytes hbase
 unfold Oper.wp execOp
 simp only[ho,resolve,invoke,builtin,Sem.run_bind,Sem.run_pure,Result.andThen_ok,List.map_toArray,List.map_cons,List.map_nil,hs,hx,hr]
 exact hK _ _ (h v' w' h2 h3 h4)
set_option maxHeartbeats 2000000 in
set_option maxRecDepth 100000 in
theorem bcheck_any (B b:Nat) (v:Value) (bs:List Value) (w:World) (h:A.Bld B b v bs w) :
  Calls Tryz.prog 375 #[.pointer (some ⟨b,0,none⟩)] w λe w'=>e=.returned (.tuple #[])∧w'.heap[b]?=some (.cells #[.pointer (some ⟨b,0,none⟩),v] 376 (0,0))∧w'.heap.size=w.heap.size∧w'.os=w.os∧w'.tape=w.tape∧w'.output=w.output∧∀c,c≠b→w'.heap[c]?=w.heap[c]?:=by
 obtain⟨p,hp,hb⟩:=h.blk
 have c0:w.cell? ⟨b,0,none⟩=some p:=by rw[Lib.cell_of_heap hb];rfl
 rcases hp with rfl|rfl
 ·refine(Any.Builder_copyCheck_fresh Tryz.lays240 Tryz.Builder_X72_240 b w c0 (by simp[World.shape?,hb];rfl) (Lib.frozen_of_heap hb 0)).mono ?_
  rintro e w' ⟨rfl,rfl⟩
  refine⟨rfl,?_,by simp[World.setCell],rfl,rfl,rfl,λc hc=>Below.heap_setCell _ _ _ _ hc⟩
  simp[World.setCell,Array.getElem?_modify,hb]
 ·refine(Any.Builder_copyCheck_used Tryz.lays240 Tryz.Builder_X72_240 b w c0).mono ?_
  rintro e w' ⟨rfl,rfl⟩
  exact⟨rfl,hb,rfl,rfl,rfl,rfl,λ_ _=>rfl⟩
set_option maxHeartbeats 2000000 in
set_option maxRecDepth 100000 in
theorem bwrite_any (B b:Nat) (v:Value) (bs:List Value) (s:ByteArray) (w:World) (h:A.Bld B b v bs w) (hlen:bs.length+s.size≤140737488355328) (hBw:B≤w.heap.size) :
  Calls Tryz.prog 353 #[.pointer (some ⟨b,0,none⟩),.string s] w λe w'=>e=.returned (.tuple #[.int .i64 s.size,.nilIface])∧∃v',A.Bld B b v' (bs++Lib.strCells s) w'∧w'.heap[b]?=some (.cells #[.pointer (some ⟨b,0,none⟩),v'] 376 (0,0))∧(v'.ownBlock=v.ownBlock∨∃c,v'.ownBlock=some c∧w.heap.size≤c)∧w.heap.size≤w'.heap.size∧w'.os=w.os∧w'.tape=w.tape∧w'.output=w.output∧∀c,c<w.heap.size→c≠b→v.ownBlock≠some c→w'.heap[c]?=w.heap[c]?:=by
 obtain⟨i0,hi,hz0,hz1,hz2⟩:=info_parts Tryz.Builder_Extra_166.infoByte
 have hlt:b<w.heap.size:=by
  obtain⟨p,_,hb⟩:=h.blk
  exact(Array.getElem?_eq_some_iff.1 hb).1
 go_enter Tryz.func353,Tryz.ntmps353
 go_wp2_with (go_at_call 375;refine(bcheck_any B b v bs _ h).mono ?_)
 rintro e w1 ⟨rfl,hbk,hsz,ho1,ho2,ho3,hold⟩
 have hown:w1.ownsRow B 5 1 v bs.length bs:=owns_kept h.own λc hc=>hold c λe=>by
  subst e
  obtain⟨_,h2⟩:=h.own
  rcases h2 with⟨rfl,_⟩|⟨g,cap,cur,rfl,_⟩
  ·simp[blk]at hc
  ·simp only[blk,Option.some.injEq]at hc;subst hc;exact h.ne rfl
 have c0:w1.cell? ⟨b,0,none⟩=some (.pointer (some ⟨b,0,none⟩)):=by rw[Lib.cell_of_heap hbk];rfl
 have c1:w1.cell? ⟨b,1,none⟩=some v:=by rw[Lib.cell_of_heap hbk];rfl
 go_wp2_with (at_builtin;go_loud (refine A.wpList_append_str rfl _ _ 45 9 rfl B 5 i0 Tryz.underlying45 Tryz.underlying9 hi hz0 hz1 hz2 _ _ _ rfl hown s rfl ?c3 ?c4 ?c5 ?_))
 case c3=>unfold maxLen;omega
 case c4=>omega
 case c5=>omega
 intro v' w2 hown' hgrow hnew
 have hb2:w2.heap[b]?=some (.cells #[.pointer (some ⟨b,0,none⟩),v] 376 (0,0)):=by
  rw[hgrow.block b (by omega) (λe=>h.ne e.symm)]
  exact hbk
 have d0:w2.cell? ⟨b,0,none⟩=some (.pointer (some ⟨b,0,none⟩)):=by rw[Lib.cell_of_heap hb2];rfl
 have d1:w2.cell? ⟨b,1,none⟩=some v:=by rw[Lib.cell_of_heap hb2];rfl
 have f1:w2.frozen? ⟨b,1,none⟩=false:=Lib.frozen_of_heap hb2 1
 have hne':v'.ownBlock≠some b:=λe=>by
  rcases hnew with hn|⟨c,hc,hc2⟩
  ·exact h.ne (hn▸e)
  ·rw[hc]at e;cases e;omega
 obtain⟨ao,n',cap,rfl⟩:∃ao n' cap,v'=.slice ao n' cap:=by
  rcases hown'.2 with⟨hv,_⟩|⟨g,cap,cur,hv,_⟩
  ·exact⟨_,_,_,hv⟩
  ·exact⟨_,_,_,hv⟩
 go_wp2
 go_ret2
 have hk:∀c,c≠b→(w2.setCell ⟨b,1,none⟩ (.slice ao n' cap)).heap[c]?=w2.heap[c]?:=λc hc=>Below.heap_setCell _ _ _ _ hc
 have hself:(w2.setCell ⟨b,1,none⟩ (.slice ao n' cap)).heap[b]?=some (.cells #[.pointer (some ⟨b,0,none⟩),.slice ao n' cap] 376 (0,0)):=by simp[World.setCell,Array.getElem?_modify,hb2]
 refine⟨rfl,_,⟨⟨_,.inr rfl,hself⟩,?_,hne'⟩,hself,?_,?_,hgrow.os.trans ho1,hgrow.tape.trans ho2,hgrow.output.trans ho3,λc hc hcb hcv=>?_⟩
 ·rw[show(bs++Lib.strCells s).length=bs.length+s.size from by simp[Lib.strCells_length]]
  exact owns_kept hown' λc hc=>hk c λe=>by
   subst e
   cases ao with
   | none=>simp[blk]at hc
   | some a=>simp only[blk,Option.some.injEq]at hc;exact hne' (by simp[Value.ownBlock,hc])
 ·rcases hnew with hn|⟨c,hc,hc2⟩
  ·exact .inl hn
  ·exact .inr ⟨c,hc,by omega⟩
 ·have:=hgrow.size
  simp[World.setCell];omega
 ·rw[hk c hcb,hgrow.block c (by omega) (λe=>hcv e.symm),hold c hcb]
set_option maxHeartbeats 2000000 in
set_option maxRecDepth 100000 in
theorem bstring_any (B b:Nat) (v:Value) (l:List UInt8) (w:World) (h:A.Bld B b v (Lib.byteCells l) w) (h0:l≠[]) :
  Calls Tryz.prog 354 #[.pointer (some ⟨b,0,none⟩)] w λe w'=>e=.returned (.string (V.ba l))∧w.heap.size≤w'.heap.size∧w'.os=w.os∧w'.tape=w.tape∧w'.output=w.output∧∀c,c<w.heap.size→v.ownBlock≠some c→w'.heap[c]?=w.heap[c]?:=by
 have L:=Tryz.lays169
 have X:=Tryz.Builder_Extra_169
 obtain⟨p,_,hbk⟩:=h.blk
 have hown:=h.own
 have hl0:l.length≠0:=by simpa using h0
 rw[Lib.byteCells_length]at hown
 obtain⟨g,cap,cur,rfl,hbg,hg,hnc,hcm,hcs,htake⟩:∃g cap cur,v=.slice (some ⟨g,0,none⟩) l.length cap∧B≤g∧w.heap[g]?=some (.cells cur 5 (0,0))∧l.length≤cap∧cap≤maxLen∧cur.size=cap*1∧cur.toList.take (l.length*1)=Lib.byteCells l:=by
  rcases hown.2 with⟨_,hz⟩|⟨g,cap,cur,hv,r⟩
  ·exact absurd hz hl0
  ·exact⟨g,cap,cur,hv,r⟩
 have c1:w.drew.cell? ⟨b,1,none⟩=some (.slice (some ⟨g,0,none⟩) l.length cap):=by
  have:w.drew.heap[b]?=some (.cells #[p,.slice (some ⟨g,0,none⟩) l.length cap] 376 (0,0)):=hbk
  rw[Lib.cell_of_heap this];rfl
 have hSD:(Builtin.unsafeSliceData_ #[45] 396 #[.slice (some ⟨g,0,none⟩) l.length cap]).run Tryz.prog w.drew=.ok (.pointer (some ⟨g,0,none⟩)) w.drew :=
  Lib.run_unsafeSliceData_row _ _ _ _ _ _ (by omega)
 have hUS:(Builtin.unsafeString_ #[396,3] 9 #[.pointer (some ⟨g,0,none⟩),.int .i64 l.length]).run Tryz.prog w.drew=.ok (.string ⟨l.toArray⟩) (w.drew.freeze ⟨g,0,none⟩ l.length):=by
  refine Lib.run_unsafeString_row w.drew 396 3 9 5 L.t127 X.cellsByte g cur.size (by have hg':w.drew.heap[g]?=some (.cells cur 5 (0,0)):=hg;simp[World.shape?,hg']) l h0 (by omega) (by unfold maxLen at hcm;omega) ?_
  intro j x hx
  have:=hown.cells (g:=g) rfl j (.int .u8 x.toNat) (by simp[Lib.byteCells,hx])
  exact this
 have mixed:=L.mixed
 go_enter Tryz.func354,Tryz.ntmps354
 go_wp2
 go_region_o
 all_goals
  go_wp2
  go_ret
  have hb:=Lib.below_freeze (Below.drew (Below.refl g w)) (p:=⟨g,0,none⟩) (Nat.le_refl g) l.length
  refine⟨rfl,hb.size,hb.os,hb.tape,hb.output,λc hc hcv=>?_⟩
  have hgc:g≠c:=λe=>hcv (by rw[e];rfl)
  unfold World.freeze
  rw[if_neg hl0]
  simp only[Array.getElem?_modify,if_neg hgc]
  rfl
end Go.Proofs.YtdnijgdmohinlaaGreat
end
section
namespace Go.Proofs.YtdnijgdmohinlaaGreat.A
open Go Go.RowKit
abbrev byteA (bs:List UInt8):List (List AV):=colA (λc:UInt8=>Value.int .u8 c.toNat) bs
section
variable {P:Program}{N:Nat}{M0:Nat→Prop}{w0:Base}{ops:Array Oper}{Q:Exit→ASt→Prop}{o:Oper}{l:List Oper}{st:ASt}
theorem byteA_at {bs:List UInt8}{i:Nat}(hi:i<bs.length):(byteA bs)[i]?=some [.v (.int .u8 bs[i].toNat)]:=by simp[byteA,colA,hi]
theorem byteA_len (bs:List UInt8):(byteA bs).length=bs.length:=by simp[byteA,colA]
theorem Pu_convBS {f t e:TypeId}{x:Operand}{bs:List UInt8}(ho:o.op=.convert f t x) (hf:P.underlying f=some (.slice e)) (he:P.underlying e=some (.int .u8)) (ht:P.underlying t=some .string) (hx:st.ev x=.d (.sl 1 (byteA bs))):Pu P st o (.d (tv (V.ba bs))):=Pu_q λB M ρ w a h2 _=>by
 have hm:=h2 x (by simp[opsOf,ho,Op.operands])
 rw[hx]at hm
 have key:∃v,(convert f t (a.eval x)).run P w=.ok (.string (V.ba bs)) w∧bs.length≤maxI∧v=a.eval x:=by
  have hm':Rep M w (.sl 1 (byteA bs)) (a.eval x):=hm
  generalize a.eval x=y at hm'
  generalize hbl:byteA bs=rows at hm'
  have hlen:rows.length=bs.length:=by rw[←hbl,byteA_len]
  cases hm' with
  | nil n a c =>
   have h0:bs=[]:=List.eq_nil_of_length_eq_zero (by simpa using hlen.symm)
   subst h0
   refine⟨_,?_,by simp,rfl⟩
   cases a with
   | none=>exact run_convert_bytes_nil w f e hf he 0 c t ht
   | some a=>exact run_convert_bytes_back w f t e a c [] hf he ht (λj hj=>by simp at hj)
  | sl n rows b o' cap g hl hcap hn hc hr =>
   refine⟨_,?_,by omega,rfl⟩
   have h:=run_convert_bytes_back (P:=P) w f t e ⟨b,o',none⟩ cap bs hf he ht (λj hj=>by
    have hat:rows[j]?=some [.v (.int .u8 bs[j].toNat)]:=by rw[←hbl];exact byteA_at hj
    obtain⟨_,h5,_⟩:=hc j _ 0 _ hat rfl
    have h6:=hr j _ 0 _ hat rfl
    have h7:=(rep_v (ρ:=λ_ _=>none) (show SRep M w (λ_ _=>none) (.d (.v (.int .u8 bs[j].toNat))) (g j 0)from h6)).1
    rw[h7]at h5
    rw[add_addr]
    rw[show o'+j*1+0=o'+j from by omega]at h5
    exact h5)
   rw[hlen];exact h
 obtain⟨v,h3,h4,_⟩:=key
 refine⟨.string (V.ba bs),?_,.v _ (by show(V.ba bs).size≤maxI;rw[A.ba_sz];exact h4)⟩
 simp only[execOp,ho,Sem.run_bind,h3,Result.andThen_ok,Sem.run_pure]
end
end Go.Proofs.YtdnijgdmohinlaaGreat.A
end
section
namespace Go.Proofs.YtdnijgdmohinlaaGreat
open Go.RowKit A
namespace A
section
variable {N:Nat}{M0:Nat→Prop}{w0:Base}{ops:Array Oper}{Q:Exit→ASt→Prop}{o:Oper}{l:List Oper}{st:ASt}
theorem put_other {k k2 g:Nat}{o':AO}(h:Nat.beq k k2=false):(st.put k2 g o').ob k=st.ob k:=by
 show(bif Nat.beq k k2 then _ else st.ob k)=_
 rw[h];rfl
theorem SimR.lose {ρ:Rho}{a:Act}{w w':World}(h:SimR N M0 w0 st ρ a w) {k g:Nat}{o:AO}{x:Value}(hob:st.ob k=some (g,o)) (hx:ρ k g=some x) (hos:w'.os=w.os∧w'.tape=w.tape∧w'.output=w.output) (hsz:w.heap.size≤w'.heap.size)
  (hold:∀b,b<w.heap.size→¬fpO o x b→w'.heap[b]?=w.heap[b]?):SimR N M0 w0 (st.drop k) ρ a w':=by
 have hO0:ORep w0 (Mt M0 ρ st.ob) w ρ x o:=by
  obtain⟨y,h1,h2⟩:=h.obj k g o hob
  rw[hx]at h1;cases h1;exact h2
 have hob':∀j g' o',(st.drop k).ob j=some (g',o')→j≠k∧st.ob j=some (g',o'):=λj g' o' hh=>by
  have:(bif Nat.beq j k then none else st.ob j)=some (g',o'):=hh
  cases hb:Nat.beq j k with
  | true=>rw[hb]at this;cases this
  | false =>
   rw[hb]at this
   exact⟨λe=>by subst e;simp at hb,this⟩
 have hK:Known (Mt M0 ρ st.ob) (Mt M0 ρ (st.drop k).ob) w w':=λb hb hm=>⟨λhm'=>hm (by
  rcases hm' with hm'|⟨k2,g2,o2,x2,h1,h2,h3⟩
  ·exact .inl hm'
  ·exact .inr ⟨k2,g2,o2,x2,(hob' _ _ _ h1).2,h2,h3⟩),hold b hb λe=>hm (.inr ⟨k,g,o,x,hob,hx,e⟩)⟩
 exact{
  size:=h.size
  defers:=h.defers
  slot:=λi=>(h.slot i).mono hK
  obj:=λk2 g2 o2 hh=>by
   obtain⟨hn,h1⟩:=hob' _ _ _ hh
   obtain⟨y,h2,h3⟩:=h.obj k2 g2 o2 h1
   exact⟨y,h2,h3.mono hK λb hb=>hold b (h3.blk_lt hb).2 λe=>hn (h.apart k2 g2 o2 k g o y x b h1 hob h2 hx hb e)⟩
  apart:=λk1 g1 o1 k2 g2 o2 x x' b h1 h2=>h.apart k1 g1 o1 k2 g2 o2 x x' b (hob' _ _ _ h1).2 (hob' _ _ _ h2).2
  gens:=h.gens
  base:=h.base
  ext:=by
   have h1:=h.ext
   refine⟨hos.1.trans h1.os,hos.2.1.trans h1.tape,hos.2.2.trans h1.output,Nat.le_trans h1.size hsz,λb hb hl=>?_⟩
   rw[hold b (Nat.lt_of_lt_of_le hb h1.size) λe=>?_]
   ·exact h1.block b hb hl
   ·rcases(hO0.blk_lt e).1 with h7|h7
    ·omega
    ·exact hl h7
  pin:=h.pin}
theorem byte_vok (c:UInt8):vok (.int .u8 c.toNat):=by
 have:=UInt8.toNat_lt c
 show(0:Int)≤_∧_≤(255:Int)
 omega
theorem bld_of {ρ:Rho}{a:Act}{w:World}(hsim:SimR N M0 w0 st ρ a w) {k g k2 g2:Nat}{c0:SV}{bs:List UInt8}(hkk:Nat.beq k k2=false) (hc0:c0=.d (.v (.pointer none))∨c0=.bx k g 0) (hob:st.ob k=some (g,.box 376 [c0,.ow k2 g2])) (hob2:st.ob k2=some (g2,.arr 5 1 (byteA bs))) :
  ∃b v p,ρ k g=some (.pointer (some ⟨b,0,none⟩))∧ρ k2 g2=some v∧(w0.w.heap.size≤b∨w0.l b)∧A.Bld 0 b v (Lib.byteCells bs) w∧(∀c,blk v=some c→w0.w.heap.size≤c∨w0.l c)∧blk v=v.ownBlock∧w.heap[b]?=some (.cells #[p,v] 376 (0,0))∧bs.length≤maxI:=by
 obtain⟨y,hy,b,vs,rfl,hB,hh,hsz,hcs⟩:=hsim.obj k g _ hob
 obtain⟨v,hv,vals,hown,hrows,⟨va,vc,hvf⟩,hl,hlb⟩:=hsim.obj k2 g2 _ hob2
 obtain⟨hfl,_⟩:=col_vals hrows
 have hlen:(byteA bs).length=bs.length:=by simp[byteA,colA]
 rw[hfl,hlen]at hown
 obtain⟨x0,x1,rfl⟩:∃x0 x1,vs=#[x0,x1]:=by
  match vs,hsz with
  | ⟨[x0,x1]⟩,_=>exact⟨x0,x1,rfl⟩
 have h1:=(hcs 1 _ x1 rfl rfl).1
 have e1:x1=v:=by
  have:=h1.1
  rw[hv]at this
  exact(Option.some.inj this).symm
 subst e1
 have hbv:blk x1=x1.ownBlock:=blk_own ⟨va,_,vc,hvf⟩
 refine⟨b,x1,x0,hy,hv,hB,⟨⟨x0,?_,hh⟩,by simpa [Lib.byteCells]using hown,λe=>?_⟩,hlb,hbv,hh,by rwa [hlen]at hl⟩
 ·have h0:=(hcs 0 _ x0 rfl rfl).1
  rcases hc0 with rfl|rfl
  ·exact .inl (rep_v h0).1
  ·obtain⟨z,b',hz,hb',rfl⟩:=h0
   rw[hy]at hz;cases hz
   simp only[blk,Option.some.injEq]at hb'
   subst hb';exact .inr rfl
 ·have:=hsim.apart k g _ k2 g2 _ _ _ b hob hob2 hy hv rfl (by show blk x1=some b;rw[hbv];exact e)
  subst this
  simp at hkk
theorem Al_bwrite {d k g k2 g2:Nat}{c0:SV}{x y:Operand}{ts:Array TypeId}{bs:List UInt8}{s:ByteArray}(ho:o.op=.call ⟨.value (.func 353),#[x,y],ts⟩) (hg:o.guard=none) (hd:o.dst=some d) (hN:d<N) (hc:conB o=true) (hkk:Nat.beq k k2=false) (hx:st.ev x=.bx k g 0) (hc0:c0=.d (.v (.pointer none))∨c0=.bx k g 0) (hob:st.ob k=some (g,.box 376 [c0,.ow k2 g2])) (hob2:st.ob k2=some (g2,.arr 5 1 (byteA bs))) (hy:st.ev y=.d (tv s)) (hlen:bs.length+s.size≤140737488355328)
  (h:∀g',Al Tryz.prog N M0 w0 ops Q l (((st.put k2 g' (.arr 5 1 (byteA (bs++s.data.toList)))).put k g (.box 376 [.bx k g 0,.ow k2 g'])).set d .any)):Al Tryz.prog N M0 w0 ops Q (o::l) st:=by
 refine⟨?_⟩
 rintro a w ⟨ρ,hsim⟩
 have hev:=λz hz=>hsim.ev hc z (mem_call ho z hz)
 have h1:=hev x (by simp)
 rw[hx]at h1
 obtain⟨u,b',hu1,hu2,hu3⟩:=h1
 have h2:=hev y (by simp)
 rw[hy]at h2
 have hys:=(rep_v h2).1
 obtain⟨b,v,p,hb1,hv1,hB,hbld,hlb,hbv,hh,hl⟩:=bld_of hsim hkk hc0 hob hob2
 rw[hb1]at hu1;cases hu1
 simp only[blk,Option.some.injEq]at hu2
 subst hu2
 have hbl:(Lib.byteCells bs).length=bs.length:=by simp[Lib.byteCells]
 have hcall:=bwrite_any _ b v (Lib.byteCells bs) s w hbld (by rw[hbl];exact hlen) (Nat.zero_le _)
 refine wpList_plain hg λK hK=>wp_upon ?_
 have e:(execOp a.eval o).run Tryz.prog w=.ok (.enter 353 #[.pointer (some ⟨b,0,none⟩),.string s]) w:=by
  rw[call_run (λ_ _=>by kernel_rfl) (xs:=[y]) ho,hu3]
  simp[hys]
 rw[e]
 refine hcall.mono λe w' ⟨he,v',hbld',hh',hown',hsz',ho1,ho2,ho3,hold⟩=>⟨_,he,?_⟩
 have hbw:b<w.heap.size:=(Array.getElem?_eq_some_iff.1 hh).1
 have hbv':blk v'=v'.ownBlock:=by
  obtain⟨_,h5⟩:=hbld'.own
  rcases h5 with⟨rfl,_⟩|⟨g',cap,cur,rfl,_⟩<;>rfl
 have hform:∃q c,v'=.slice q (bs++s.data.toList).length c:=by
  obtain⟨q,c,e⟩:=own_form hbld'.own
  refine⟨q,c,by rw[e];simp[Lib.byteCells,Lib.strCells]⟩
 obtain⟨w1,hw1⟩:∃w1:World,w1={w' with heap:=w'.heap.setIfInBounds b (.cells #[p,v] 376 (0,0))}:=⟨_,rfl⟩
 have hw1b:w1.heap[b]?=w.heap[b]?:=by
  rw[hw1,hh]
  simp[Array.getElem?_setIfInBounds,show b<w'.heap.size by omega]
 have hw1c:∀c,c≠b→w1.heap[c]?=w'.heap[c]?:=λc hcb=>by
  rw[hw1];simp[Array.getElem?_setIfInBounds,Ne.symm hcb]
 have hw1s:w1.heap.size=w'.heap.size:=by rw[hw1];simp
 have hst:Lib.byteCells bs++Lib.strCells s=(bs++s.data.toList).map λc:UInt8=>Value.int .u8 c.toNat:=by simp[Lib.byteCells,Lib.strCells]
 have hlA:(byteA (bs++s.data.toList)).length=(bs++s.data.toList).length:=by simp[byteA,colA]
 obtain⟨g',ρ',m1,m2,m3⟩:=hsim.upd2 (w':=w1) k2 ⟨by rw[hw1];exact ho1,by rw[hw1];exact ho2,by rw[hw1];exact ho3⟩ (by omega) (λc hcs hne=>by
  by_cases hcb:c=b
  ·subst hcb;exact hw1b
  ·rw[hw1c c hcb];exact hold c hcs hcb (by rw[←hbv];exact hne g2 _ v hob2 hv1)) (x':=v') (o':=.arr 5 1 (byteA (bs++s.data.toList))) (λc hcv=>by
  have hcv:blk v'=some c:=hcv
  rw[hbv']at hcv
  rcases hown' with e1|⟨c',e1,e2⟩
  ·exact .inr ⟨g2,_,v,hob2,hv1,by show blk v=some c;rw[hbv,←e1];exact hcv⟩
  ·rw[e1]at hcv;cases hcv;exact .inl e2) (λM' ρ' hK _=>by
  refine⟨(bs++s.data.toList).map λc=>[Value.int .u8 c.toNat],?_,col_rows λc _=>byte_vok c,by rw[hlA];exact hform,by rw[hlA];simp[maxI];omega,λc hcv=>by
   rw[hbv']at hcv
   rcases hown' with e1|⟨c',e1,e2⟩
   ·exact hlb c (by rw[hbv,←e1];exact hcv)
   ·rw[e1]at hcv;cases hcv;exact .inl (by have:=hsim.ext.size;omega)⟩
  rw[col_flat,hlA,←hst]
  have:=hbld'.own
  rw[show(Lib.byteCells bs++Lib.strCells s).length=(bs++s.data.toList).length from by simp[Lib.byteCells,Lib.strCells]]at this
  exact owns_kept this λc hcv=>hw1c c λe=>hbld'.ne (by rw[←hbv',hcv,e]))
 have hob':(st.put k2 g' (.arr 5 1 (byteA (bs++s.data.toList)))).ob k=some (g,.box 376 [c0,.ow k2 g2]):=by rw[put_other hkk];exact hob
 have hb1':ρ' k g=some (.pointer (some ⟨b,0,none⟩)):=m3 _ _ _ hb1
 have hs2:=m1.mod (w':=w') hob' hb1' ⟨by rw[hw1],by rw[hw1],by rw[hw1]⟩ (by omega) (λc hcs hne=>(hw1c c λe=>hne (by rw[e];rfl)).symm) (o':=.box 376 [.bx k g 0,.ow k2 g']) (λM' hK _=>⟨b,_,rfl,hB,hh',rfl,λj q z hq hz=>by
  match j with
  | 0=>simp at hq hz;subst hq hz;exact⟨⟨_,b,hb1',rfl,rfl⟩,rfl⟩
  | 1 =>
   simp at hq hz;subst hq hz
   obtain⟨q,c,e⟩:=hform
   exact⟨⟨m2,by rw[e];rfl⟩,by rw[e];rfl⟩
  | j+2=>simp at hq⟩)
 refine hK _ _ ((h g').out _ _ ⟨ρ',?_⟩)
 rw[hd]
 exact hs2.set hN trivial
theorem Al_bstring {d k g k2 g2:Nat}{c0:SV}{x:Operand}{ts:Array TypeId}{bs:List UInt8}(ho:o.op=.call ⟨.value (.func 354),#[x],ts⟩) (hg:o.guard=none) (hd:o.dst=some d) (hN:d<N) (hc:conB o=true) (hkk:Nat.beq k k2=false) (hx:st.ev x=.bx k g 0) (hc0:c0=.d (.v (.pointer none))∨c0=.bx k g 0) (hob:st.ob k=some (g,.box 376 [c0,.ow k2 g2])) (hob2:st.ob k2=some (g2,.arr 5 1 (byteA bs))) (h0:bs≠[])
  (h:Al Tryz.prog N M0 w0 ops Q l ((st.drop k2).set d (.d (tv (V.ba bs))))):Al Tryz.prog N M0 w0 ops Q (o::l) st:=by
 refine⟨?_⟩
 rintro a w ⟨ρ,hsim⟩
 have h1:=hsim.ev hc x (mem_call ho x (by simp))
 rw[hx]at h1
 obtain⟨u,b',hu1,hu2,hu3⟩:=h1
 obtain⟨b,v,p,hb1,hv1,hB,hbld,hlb,hbv,hh,hl⟩:=bld_of hsim hkk hc0 hob hob2
 rw[hb1]at hu1;cases hu1
 simp only[blk,Option.some.injEq]at hu2
 subst hu2
 have hcall:=bstring_any _ b v bs w hbld h0
 refine wpList_plain hg λK hK=>wp_upon ?_
 have e:(execOp a.eval o).run Tryz.prog w=.ok (.enter 354 #[.pointer (some ⟨b,0,none⟩)]) w:=by
  rw[call_run (λ_ _=>by kernel_rfl) (xs:=[]) ho,hu3]
  rfl
 rw[e]
 refine hcall.mono λe w' ⟨he,hsz,ho1,ho2,ho3,hold⟩=>⟨_,he,?_⟩
 have hs2:=hsim.lose hob2 hv1 ⟨ho1,ho2,ho3⟩ hsz (λc hc hne=>hold c hc (by rw[←hbv];exact hne))
 refine hK _ _ (h.out _ _ ⟨ρ,?_⟩)
 rw[hd]
 exact hs2.set hN (.v _ (by show(V.ba bs).size≤maxI;rw[A.ba_sz];exact hl))
theorem le_ownc {k k2 g:Nat}{T e:TypeId}{c0:SV}{n:Nat}(hkk:Nat.beq k k2=false) (hob:st.ob k=some (g,.box T [c0,.d (.v (.slice none 0 0))])) {X:Act→World→Prop}(h:∀g2,∀a w,Sim N M0 w0 ((st.put k2 g2 (.arr e n [])).put k g (.box T [c0,.ow k2 g2])) a w→X a w):∀a w,Sim N M0 w0 st a w→X a w:=by
 rintro a w ⟨ρ,hs⟩
 obtain⟨g',ρ',h1,h2⟩:=hs.upd (w':=w) k2 ⟨rfl,rfl,rfl⟩ (Nat.le_refl _) (λ_ _ _=>rfl) (x':=.slice none 0 0) (o':=.arr e n []) (λb hb=>by simp[blk]at hb)
  (λM' ρ' _ _=>⟨[],World.ownsRow_nil w _ e n,⟨rfl,λi r v h=>by simp at h⟩,⟨none,0,rfl⟩,by simp,λb hb=>by simp[blk]at hb⟩)
 have hob':(st.put k2 g' (.arr e n [])).ob k=some (g,.box T [c0,.d (.v (.slice none 0 0))]):=by rw[put_other hkk];exact hob
 obtain⟨y,hy,b,vs,rfl,hB,hh,hsz,hcs⟩:=h1.obj k g _ hob'
 refine h g' a w ⟨ρ',h1.mod hob' hy ⟨rfl,rfl,rfl⟩ (Nat.le_refl _) (λ_ _ _=>rfl) (λM' hK _=>⟨b,vs,rfl,hB,hh,hsz,λj q z hq hz=>?_⟩)⟩
 match j with
 | 0=>simp at hq;subst hq;exact⟨(hcs 0 _ z rfl hz).1.mono hK,(hcs 0 _ z rfl hz).2⟩
 | 1 =>
  simp at hq;subst hq
  have:=(hcs 1 _ z rfl hz).1
  obtain rfl:=(rep_v this).1
  exact⟨⟨h2,rfl⟩,rfl⟩
 | j+2=>simp at hq
theorem Aw_ownc {c:Code}{Q:Exit→ASt→Prop}{k k2 g:Nat}{T e:TypeId}{c0:SV}{n:Nat}(hkk:Nat.beq k k2=false) (hob:st.ob k=some (g,.box T [c0,.d (.v (.slice none 0 0))])) (h:∀g2,Aw Tryz.prog N M0 w0 c Q ((st.put k2 g2 (.arr e n [])).put k g (.box T [c0,.ow k2 g2]))):Aw Tryz.prog N M0 w0 c Q st:=⟨le_ownc hkk hob λg2=>(h g2).out⟩
end
end A
end Go.Proofs.YtdnijgdmohinlaaGreat
end
section
set_option maxRecDepth 100000
namespace Go.Proofs.YtdnijgdmohinlaaGreat
open Go Go.RowKit A R
namespace V
def depB (d:Dep):List UInt8:=text d.key++stamp d.n d.s
def pastL (p:List Dep):List UInt8:=num p.length++p.flatMap depB
def gn (v:Ver):Nat:=if v.gone then 1 else 0
def verB (v:Ver):List UInt8:=text v.key++(num (gn v)++(text v.value++(stamp v.n v.s++pastL v.past)))
end V
theorem stamp_len (n s:Int):(V.stamp n s).length≤20:=by
 unfold V.stamp
 split
 ·rename_i h
  obtain⟨h1,h2,h3,h4⟩:=V.stampB_iff.1 h
  have a:=V.num_len64 (n:=n.toNat) (by omega)
  have b:=V.num_len64 (n:=s.toNat) (by omega)
  simp;omega
 ·simp
theorem stbytes_a (n s:Int):ACall Tryz.prog 305 [.row [iv n,iv s]] (tv (V.ba (V.stamp n s))):=A.ofv (λ_ _=>by kernel_rfl) (by have:=stamp_len n s;simp[vok,A.ba_sz,A.maxI];omega) λM w vs ha=>by
 obtain rfl:=A.all1r (us:=[.int .i64 n,.int .i64 s]) ha
 exact stbytes_any n s w
theorem V.dep_key {p:List Dep}(h:J.pastB p=true):∀d∈p,d.key.size≤32:=λd hd=>by
 unfold J.pastB at h
 simp only[Bool.and_eq_true,List.all_eq_true,List.mem_range]at h
 obtain⟨i,hi,rfl⟩:=List.getElem_of_mem hd
 have h1:=h.1 i hi
 unfold J.okAt at h1
 simp only[Bool.and_eq_true]at h1
 have h2:=h1.1
 rw[show p.getD i default=p[i]by simp[hi]]at h2
 unfold D.okB at h2
 simp only[Bool.and_eq_true]at h2
 exact J.check_size h2.1
theorem V.dep_len {d:Dep}(h:d.key.size≤32):(V.depB d).length≤62:=by
 have h1:=V.num_len64 (n:=d.key.size) (by omega)
 have h2:=stamp_len d.n d.s
 have h3:d.key.data.toList.length=d.key.size:=Array.length_toList ..
 simp only[V.depB,V.text,List.length_append,h3]
 omega
theorem V.deps_len {p:List Dep}(h:∀d∈p,d.key.size≤32):(p.flatMap V.depB).length≤62*p.length:=by
 induction p with
 | nil=>simp
 | cons d p ih =>
  have:=V.dep_len (h d (by simp))
  have:=ih λx hx=>h x (by simp[hx])
  simp only[List.flatMap_cons,List.length_append,List.length_cons]
  omega
theorem pastbytes_a (p:List Dep) (h:J.pastB p=true):ACall Tryz.prog 306 [.sl 3 (p.map Dep.row)] (tv (V.ba (V.pastL p))):=by
 refine AC_1 Tryz.func306 Tryz.ntmps306 Tryz.results306 λhok M0 w0 hnl=>?_
 have hpl:=(J.past_good h).2
 have hkk:=V.dep_key h
 have b1:=V.num_len64 (n:=p.length) (by omega)
 refine Aw_sr ?_
 refine Al_mr ?_
 refine Al_nil (Aw_seq (Aw_sr ?_))
 refine Al_ml ?_
 refine Al_p (Pu_call (pcheck_a p) rfl ⟨Sub.rfl,trivial⟩) ?_
 refine Al_p Pu_n ?_
 refine Al_nil ?_
 refine Aw_condF rfl ((by rw[h];rfl)) ?_
 refine Aw_skip (Aw_sr ?_)
 refine Al_al Tryz.zeroValue376 λg3=>?_
 refine Al_nil (Aw_seq ?_)
 refine Aw_ownc (k:=3) (k2:=30) (e:=5) (n:=1) rfl rfl (λg30=>?_)
 refine Aw_region ?_
 refine Al_ml ?_
 refine Al_p (Pu_ln Tryz.underlying48) ?_
 refine Al_p (Pu_conv rfl Tryz.underlying3 Tryz.underlying271 rfl (λhv=>u64_nat (by omega) (by simp only[vok,A.inI]at hv;omega))) ?_
 refine Al_p (Pu_call (number_a p.length (by omega)) rfl ⟨Sub.rfl,trivial⟩) ?_
 refine Al_bwrite (k:=3) (k2:=30) (bs:=[]) rfl rfl rfl (by decide) (by kernel_rfl) rfl rfl (.inl rfl) rfl rfl rfl (by simp only[List.length_nil,A.ba_sz];omega) (λg13=>?_)
 refine Al_nil (Aw_seq (Aw_sr ?_))
 refine Al_ml ?_
 refine Al_p (Pu_ln Tryz.underlying48) ?_
 refine Al_ml ?_
 refine Al_nil (Aw_block ?_)
 refine Aw_loopk (ι:=Nat×Nat) [3,14,15] [] (λ(k,g)=>[(16,.d (iv k))]) (λ(k,g)=>[(3,g3,.box 376 [.bx 3 g3 0,.ow 30 g]),(30,g,.arr 5 1 (byteA (V.num p.length++(p.take k).flatMap V.depB)))]) (λ(k,g)=>k≤p.length) (λ(k,g)=>p.length - k) ((0,g13)) (Nat.zero_le _) ⟨Sub.rfl,trivial⟩ ⟨rfl,obeq (by simp[V.ba]),trivial⟩ ?_
 rintro⟨k,g⟩ hk0
 refine Aw_sr ?_
 refine Al_p Pu_cp ?_
 refine Al_nil (Aw_seq ?_)
 refine Aw_cond rfl (λh17=>?_) (λh17=>?_)
 ·(try simp only[A.cd_]at h17)
  have hk:k<p.length:=by omega
  have t1:=V.deps_len (p:=p.take k) λd hd=>hkk d (List.mem_of_mem_take hd)
  rw[List.length_take]at t1
  have hgk:p.getD k default=p[k]:=by simp[hk]
  have hkd:(p.getD k default).key.size≤32:=by rw[hgk];exact hkk _ (List.getElem_mem hk)
  have t2:=V.dep_len hkd
  have t3:=stamp_len (p.getD k default).n (p.getD k default).s
  have t4:(V.text (p.getD k default).key).length≤42:=by have:=V.num_len64 (n:=(p.getD k default).key.size) (by omega);have h3:(p.getD k default).key.data.toList.length=(p.getD k default).key.size:=Array.length_toList ..;simp only[V.text,List.length_append,h3];omega
  refine Aw_skip ?_
  refine Aw_seq (Aw_block (Aw_sr ?_))
  refine Al_p (Pu_index rfl Tryz.underlying48 Tryz.sizeOf110 rfl rfl (rfl) (mapgetD (d:=default) hk)) ?_
  refine Al_p (Pu_lN Tryz.isAgg110 Tryz.sizeOf110) ?_
  refine Al_al Tryz.zeroValue110 λg5=>?_
  refine Al_sN Tryz.isAgg110 Tryz.sizeOf110 ?_
  refine Al_nil ?_
  refine Aw_drawP 7 1 (by kernel_rfl) (by kernel_rfl) rfl ?_
  refine Dr_p (Pu_fb 0 Tryz.underlying110 Tryz.sizeOf9) ?_
  refine Dr_p (Pu_lb Tryz.isAgg9) ?_
  refine Dr_p (Pu_call (text_a (p.getD k default).key (by omega)) rfl ⟨Sub.rfl,trivial⟩) ?_
  refine Dr_p (Pu_fb 1 Tryz.underlying110 Tryz.sizeOf47) ?_
  refine Dr_p (Pu_lbN (r:=[_,_]) Tryz.isAgg47 Tryz.sizeOf47) ?_
  refine Dr_p (Pu_call (stbytes_a (p.getD k default).n (p.getD k default).s) rfl ⟨Sub.rfl,trivial⟩) ?_
  refine Dr_p (A.Pu_catB rfl rfl rfl (by simp only[A.maxI];omega)) ?_
  refine Dr_nil ?_
  refine Ad_o 7 ?_
  refine Al_bwrite (k:=3) (k2:=30) (bs:=V.num p.length++(p.take k).flatMap V.depB) rfl rfl rfl (by decide) (by kernel_rfl) rfl rfl (.inr rfl) rfl rfl rfl (by simp only[List.length_append,A.ba_sz];omega) (λg27=>?_)
  refine Al_nil ?_
  refine Ad_d ?_
  refine Aw_region ?_
  refine Al_p Pu_ad ?_
  refine Al_ml ?_
  refine Al_nil ?_
  exact⟨(k+1,g27),by omega,by simp only[];omega,Le.ov ⟨Sub.num (by omega),trivial⟩ ⟨Sub.rfl,Sub.rfl,Sub.rfl,trivial⟩ ⟨rfl,obeq (by rw[List.take_succ_eq_append_getElem hk,List.flatMap_append,←hgk];simp[V.ba,V.depB]),trivial⟩ trivial⟩
 ·(try simp only[A.cd_]at h17)
  have hkk2:p.take k=p:=List.take_of_length_le (by omega)
  refine Aw_exit (Aw_sr ?_)
  refine Al_bstring (k:=3) (k2:=30) (bs:=V.num p.length++(p.take k).flatMap V.depB) rfl rfl rfl (by decide) (by kernel_rfl) rfl rfl (.inr rfl) rfl rfl (by have:=V.num_pos p.length;intro h;rw[←List.length_eq_zero_iff,List.length_append]at h;omega) ?_
  refine Al_mr ?_
  refine Al_nil ?_
  exact Aw_ret (Sub.str (by rw[hkk2];rfl))
theorem sjoin_a (xs:List ByteArray) (hne:xs≠[]) (hl:xs.length≤1000) (hlen:(Lib.join (xs.map (·.data.toList)) []).length≤1000000):ACall Tryz.prog 302 [.sl 1 (xs.map λs=>[tv s]),tv ⟨#[]⟩] (tv ⟨(Lib.join (xs.map (·.data.toList)) []).toArray⟩):=⟨λ_ _=>by kernel_rfl,λM w vs hM hr=>by
 obtain⟨y,vs,rfl,hy,hr⟩:=A.allc hr
 obtain⟨z,vs,rfl,hz,hr⟩:=A.allc hr
 obtain rfl:=A.all0 hr
 obtain⟨rfl,_⟩:=A.repv hz
 generalize hrr:(xs.map λs=>[tv s])=rr at hy
 cases hy with
 | nil n a c=>simp at hrr;exact(hne hrr).elim
 | sl n rows b o cap f hl2 hcap hn hc hrep =>
  subst hrr
  have hxl:(xs.map λs=>[tv s]).length=xs.length:=List.length_map ..
  have hcell:∀(j:Nat) x,xs[j]?=some x→w.cell? ⟨b,o+j,none⟩=some (.string x):=λj x hx=>by
   have h1:(xs.map λs=>[tv s])[j]?=some [tv x]:=by rw[List.getElem?_map,hx];rfl
   obtain⟨_,h2,_⟩:=hc j [tv x] 0 (tv x) h1 rfl
   have h3:=hrep j [tv x] 0 (tv x) h1 rfl
   obtain⟨h4,_⟩:=A.repv h3
   rw[Nat.mul_one,Nat.add_zero,h4]at h2
   exact h2
  obtain⟨x0,hx0⟩:∃x0,xs[0]?=some x0:=by
   cases xs with
   | nil=>exact(hne rfl).elim
   | cons x l=>exact⟨x,rfl⟩
  have hb:b<w.heap.size:=World.block_lt_of_cell? w _ (hcell 0 x0 hx0)
  have:=Tryz.strings_Join b o cap xs ⟨#[]⟩ w hcell hb (by omega) (by rw[hxl]at hcap;exact hcap) (by simp only[Array.toList_empty];omega)
  rw[hxl]
  refine this.mono λe w' ⟨h1,h2⟩=>⟨_,h1,h2,.v _ ?_⟩
  show ByteArray.size _≤_
  simp only[ByteArray.size,A.maxI]
  have:((Lib.join (xs.map (·.data.toList)) []).toArray).size≤1000000:=by simpa using hlen
  exact Nat.le_trans this (by decide)⟩
theorem J.ver_val {v:Ver}(h:J.checkB v=true):v.value.size≤32:=by
 unfold J.checkB at h
 simp only[Bool.and_eq_true,decide_eq_true_eq]at h
 have:=h.2.2.2.1
 omega
theorem J.ver_past {v:Ver}(h:J.checkB v=true):J.pastB v.past=true:=by
 unfold J.checkB at h
 simp only[Bool.and_eq_true]at h
 exact h.2.2.1
theorem V.gn_le (v:Ver):V.gn v≤1:=by unfold V.gn;split<;>omega
theorem V.gnT {v:Ver}(h:v.gone=true):Sub (.d (.v (.int .u64 1))) (.d (uv (V.gn v))):=by
 rw[show V.gn v=1 by simp[V.gn,h]]
 exact Sub.rfl
theorem V.gnF {v:Ver}(h:v.gone=false):Sub (.d (.v (.int .u64 0))) (.d (uv (V.gn v))):=by
 rw[show V.gn v=0 by simp[V.gn,h]]
 exact Sub.rfl
theorem V.text_len {s:ByteArray}(h:s.size≤32):(V.text s).length≤42:=by
 have:=V.num_len64 (n:=s.size) (by omega)
 have h3:s.data.toList.length=s.size:=Array.length_toList ..
 simp only[V.text,List.length_append,h3]
 omega
theorem V.past_len {p:List Dep}(h:J.pastB p=true):(V.pastL p).length≤10+62*p.length:=by
 have h1:=V.deps_len (V.dep_key h)
 have hpl:=(J.past_good h).2
 have h2:=V.num_len64 (n:=p.length) (by omega)
 simp only[V.pastL,List.length_append]
 omega
theorem V.ver_len {v:Ver}(h:J.checkB v=true):(V.verB v).length≤1000000:=by
 have h1:=V.text_len (J.ver_key h)
 have h2:=V.text_len (J.ver_val h)
 have h3:=V.past_len (J.ver_past h)
 have h4:=(J.past_good (J.ver_past h)).2
 have h5:=stamp_len v.n v.s
 have h7:=V.gn_le v
 have h6:=V.num_len64 (n:=V.gn v) (by omega)
 simp only[V.verB,List.length_append]
 omega
theorem V.ver_join (v:Ver):Lib.join ([V.ba (V.text v.key),V.ba (V.num (V.gn v)),V.ba (V.text v.value),V.ba (V.stamp v.n v.s),V.ba (V.pastL v.past)].map (·.data.toList)) []=V.verB v:=by
 simp[Lib.join,V.ba,V.verB]
theorem verbytes_a (v:Ver) (h:J.checkB v=true):ACall Tryz.prog 233 [.row v.row] (tv (V.ba (V.verB v))):=by
 refine AC_1 Tryz.func233 Tryz.ntmps233 Tryz.results233 λhok M0 w0 hnl=>?_
 have h1:=J.ver_key h
 have h2:=J.ver_val h
 have h3:=J.ver_past h
 have h4:=V.gn_le v
 refine Aw_sr ?_
 refine Al_p Pu_bN ?_
 refine Al_mr ?_
 refine Al_nil (Aw_seq (Aw_sr ?_))
 refine Al_p (Pu_lN Tryz.isAgg50 Tryz.sizeOf50) ?_
 refine Al_p (Pu_call (wcheck_a v) rfl ⟨Sub.rfl,trivial⟩) ?_
 refine Al_p Pu_n ?_
 refine Al_nil ?_
 refine Aw_condF rfl ((by rw[h];rfl)) ?_
 refine Aw_skip (Aw_sr ?_)
 refine Al_mr ?_
 refine Al_nil ?_
 refine Aw_join (ι:=Unit) [1] [25] (λ_=>[(3,.d (uv (V.gn v)))]) (λ_=>[]) (λ_=>True) ?_ ?_
 ·refine Aw_sr ?_
  refine Al_p (Pu_fd 2 Tryz.underlying50 Tryz.sizeOf4) ?_
  refine Al_p (Pu_l1 Tryz.isAgg4) ?_
  refine Al_nil ?_
  refine Aw_cond rfl (λh8=>?_) (λh8=>?_)
  ·(try simp only[A.cd_]at h8)
   refine Aw_region ?_
   refine Al_mr ?_
   refine Al_nil ?_
   exact⟨(),trivial,Le.ov ⟨V.gnT h8,trivial⟩ ⟨Sub.rfl,trivial⟩ trivial ⟨rfl,trivial⟩⟩
  ·(try simp only[A.cd_]at h8)
   refine Aw_skip ?_
   exact⟨(),trivial,Le.ov ⟨V.gnF h8,trivial⟩ ⟨Sub.rfl,trivial⟩ trivial ⟨rfl,trivial⟩⟩
 ·rintro _ hj0
  refine Aw_seq ?_
  refine Aw_dr 16 ?_
  refine Dr_p (Pu_fd 0 Tryz.underlying50 Tryz.sizeOf9) ?_
  refine Dr_p (Pu_l1 Tryz.isAgg9) ?_
  refine Dr_p (Pu_call (text_a v.key (by omega)) rfl ⟨Sub.rfl,trivial⟩) ?_
  refine Dr_ml ?_
  refine Dr_p (Pu_call (number_a (V.gn v) (by omega)) rfl ⟨Sub.rfl,trivial⟩) ?_
  refine Dr_p (Pu_fd 1 Tryz.underlying50 Tryz.sizeOf9) ?_
  refine Dr_p (Pu_l1 Tryz.isAgg9) ?_
  refine Dr_p (Pu_call (text_a v.value (by omega)) rfl ⟨Sub.rfl,trivial⟩) ?_
  refine Dr_p (Pu_fd 3 Tryz.underlying50 Tryz.sizeOf47) ?_
  refine Dr_p (Pu_lN Tryz.isAgg47 Tryz.sizeOf47) ?_
  refine Dr_p (Pu_call (stbytes_a v.n v.s) rfl ⟨Sub.rfl,trivial⟩) ?_
  refine Dr_p (Pu_fd 5 Tryz.underlying50 Tryz.sizeOf48) ?_
  refine Dr_p (Pu_l1 Tryz.isAgg48) ?_
  refine Dr_p (Pu_call (pastbytes_a v.past h3) rfl ⟨Sub.rfl,trivial⟩) ?_
  refine Dr_p (Pu_buildSlice (aa:=[(0,_),(1,_),(2,_),(3,_),(4,_)]) rfl Tryz.underlying39 Tryz.sizeOf9 Tryz.zeroValue9 rfl (by decide) (by decide) (by decide) (by kernel_rfl) ⟨rfl,rfl,rfl,rfl,rfl,rfl,rfl,rfl,rfl,rfl,rfl,rfl,rfl,rfl,rfl,trivial⟩ ((rfl:_=some [[tv (V.ba (V.text v.key))],[tv (V.ba (V.num (V.gn v)))],[tv (V.ba (V.text v.value))],[tv (V.ba (V.stamp v.n v.s))],[tv (V.ba (V.pastL v.past))]].flatten)) rfl rfl) ?_
  refine Dr_p (Pu_call (sjoin_a [V.ba (V.text v.key),V.ba (V.num (V.gn v)),V.ba (V.text v.value),V.ba (V.stamp v.n v.s),V.ba (V.pastL v.past)] (by simp) (by simp) (by rw[V.ver_join];exact V.ver_len h)) rfl ⟨Sub.rfl,Sub.rfl,trivial⟩) ?_
  refine Dr_nil ?_
  refine Al_mr ?_
  refine Al_nil ?_
  exact Aw_ret (Sub.str (by rw[V.ver_join]))
end Go.Proofs.YtdnijgdmohinlaaGreat
end
section
namespace Go.Proofs.YtdnijgdmohinlaaGreat
namespace V
def rd:List UInt8→Option (Nat×List UInt8)
 | []=>none
 | c::r=>if c.toNat<128 then some (c.toNat,r)else match rd r with
  | some (m,t)=>if m=0 then none else some (c.toNat - 128+128*m,t)
  | none=>none
theorem rd_some:∀(l:List UInt8) (n:Nat) (r:List UInt8),rd l=some (n,r)→l=num n++r
 | [],n,r,h=>by simp[rd]at h
 | c::t,n,r,h=>by
  rw[rd]at h
  split at h
  ·rename_i hc
   simp only[Option.some.injEq,Prod.mk.injEq]at h
   obtain⟨rfl,rfl⟩:=h
   rw[num_small hc];simp
  ·rename_i hc
   split at h
   ·rename_i m t' hr
    split at h
    ·cases h
    ·rename_i hm
     simp only[Option.some.injEq,Prod.mk.injEq]at h
     obtain⟨rfl,rfl⟩:=h
     have ih:=rd_some t m t' hr
     have hlt:=UInt8.toNat_lt c
     rw[num_big (by omega),ih]
     have e1:(c.toNat - 128+128*m) / 128=m:=by omega
     have e2:(c.toNat - 128+128*m)%128=c.toNat - 128:=by omega
     rw[e1,e2,show 128+(c.toNat - 128)=c.toNat from by omega,UInt8.ofNat_toNat]
     simp
   ·cases h
theorem rd_num (n:Nat):∀r,rd (num n++r)=some (n,r):=by
 induction n using Nat.strongRecOn with
 | _ n ih =>
  intro r
  by_cases h:n<128
  ·rw[num_small h]
   simp only[List.cons_append,List.nil_append,rd]
   have:(UInt8.ofNat n).toNat=n:=by simp;omega
   rw[this,if_pos h]
  ·rw[num_big h]
   simp only[List.cons_append,rd]
   have e:(UInt8.ofNat (128+n%128)).toNat=128+n%128:=by simp;omega
   rw[ih (n / 128) (by omega) r,e,if_neg (by omega)]
   simp only
   rw[if_neg (by omega)]
   simp only[Option.some.injEq,Prod.mk.injEq,and_true]
   omega
def comb (k acc:Nat):Option (Nat×List UInt8)→Option (Nat×List UInt8)
 | some (m,t)=>if (k=0∨m≠0)∧acc+128^k*m<18446744073709551616 then some (acc+128^k*m,t)else none
 | none=>none
def rdB (l:List UInt8):Option (Nat×List UInt8):=comb 0 0 (rd l)
theorem comb_more {k acc:Nat}{c:UInt8}{t:List UInt8}(h:128≤c.toNat):comb k acc (rd (c::t))=comb (k+1) (acc+128^k*(c.toNat - 128)) (rd t):=by
 rw[rd,if_neg (by omega)]
 cases hr:rd t with
 | none=>rfl
 | some x =>
  obtain⟨m,t'⟩:=x
  simp only
  by_cases hm:m=0
  ·rw[if_pos hm]
   simp[comb,hm]
  ·rw[if_neg hm]
   have e:acc+128^k*(c.toNat - 128+128*m)=acc+128^k*(c.toNat - 128)+128^(k+1)*m:=by
    rw[Nat.mul_add,Nat.pow_succ,Nat.mul_assoc];omega
   simp only[comb,e]
   have h1:k=0∨c.toNat - 128+128*m≠0:=.inr (by omega)
   have h2:k+1=0∨m≠0:=.inr hm
   by_cases hb:acc+128^k*(c.toNat - 128)+128^(k+1)*m<18446744073709551616
   ·rw[if_pos ⟨h1,hb⟩,if_pos ⟨h2,hb⟩]
   ·rw[if_neg (λh=>hb h.2),if_neg (λh=>hb h.2)]
theorem comb_last {k acc:Nat}{c:UInt8}{t:List UInt8}(h:c.toNat<128):comb k acc (rd (c::t))=if (k=0∨c.toNat≠0)∧acc+128^k*c.toNat<18446744073709551616 then some (acc+128^k*c.toNat,t)else none:=by
 rw[rd,if_pos h];rfl
theorem rd_low {c:UInt8}{t:List UInt8}{m:Nat}{r:List UInt8}(h:rd (c::t)=some (m,r)):c.toNat%128≤m:=by
 rw[rd]at h
 have:=UInt8.toNat_lt c
 split at h
 ·simp only[Option.some.injEq,Prod.mk.injEq]at h;omega
 ·split at h
  ·split at h
   ·cases h
   ·simp only[Option.some.injEq,Prod.mk.injEq]at h;omega
  ·cases h
theorem comb_over {k acc:Nat}{c:UInt8}{t:List UInt8}(h:18446744073709551616≤128^k*(c.toNat%128)):comb k acc (rd (c::t))=none:=by
 cases hr:rd (c::t)with
 | none=>rfl
 | some x =>
  obtain⟨m,r⟩:=x
  have h1:=rd_low hr
  have h2:128^k*(c.toNat%128)≤128^k*m:=Nat.mul_le_mul_left _ h1
  simp only[comb]
  rw[if_neg (by omega)]
theorem comb_far {k acc:Nat}(hk:10≤k) (x:Option (Nat×List UInt8)):comb k acc x=none:=by
 cases x with
 | none=>rfl
 | some x =>
  obtain⟨m,r⟩:=x
  simp only[comb]
  rw[if_neg]
  rintro⟨h1,h2⟩
  have h3:(128:Nat)^10≤128^k:=Nat.pow_le_pow_right (by omega) hk
  have h4:128^k*1≤128^k*m:=Nat.mul_le_mul_left _ (by omega)
  omega
end V
end Go.Proofs.YtdnijgdmohinlaaGreat
end
section
namespace Go.Proofs.YtdnijgdmohinlaaGreat
open Go.RowKit A R
namespace V
def gotN (s:ByteArray) (at_:Nat):Nat:=match rdB (s.data.toList.drop at_)with|some (n,_)=>n|none=>0
def gotE (s:ByteArray) (at_:Nat):Nat:=match rdB (s.data.toList.drop at_)with|some (_,r)=>s.size - r.length|none=>0
def gotB (s:ByteArray) (at_:Nat):Bool:=(rdB (s.data.toList.drop at_)).isSome
theorem got_none {s:ByteArray}{at_:Nat}(h:rdB (s.data.toList.drop at_)=none):gotN s at_=0∧gotE s at_=0∧gotB s at_=false:=by
 unfold gotN gotE gotB;rw[h];exact⟨rfl,rfl,rfl⟩
theorem got_some {s:ByteArray}{at_ n:Nat}{r:List UInt8}(h:rdB (s.data.toList.drop at_)=some (n,r)):gotN s at_=n∧gotE s at_=s.size - r.length∧gotB s at_=true:=by
 unfold gotN gotE gotB;rw[h];exact⟨rfl,rfl,rfl⟩
theorem low_bits (c:UInt8):IntKind.u64.wrap (BitVec.ofInt IntKind.u64.bits ((c.toNat:Nat):Int)&&&~~~BitVec.ofInt IntKind.u64.bits 128).toNat=((c.toNat%128:Nat):Int):=by
 have h:∀x:Fin 256,IntKind.u64.wrap (BitVec.ofInt IntKind.u64.bits ((x:Nat):Int)&&&~~~BitVec.ofInt IntKind.u64.bits 128).toNat=(((x:Nat)%128:Nat):Int):=by decide +kernel
 exact h ⟨c.toNat,UInt8.toNat_lt c⟩
theorem pow7 (k:Nat):(2:Nat)^(7*k)=128^k:=by rw[Nat.pow_mul]
theorem or_bits {a b k:Nat}(ha:a<128^k) (hb:128^k*b<18446744073709551616) (h:a+128^k*b<18446744073709551616):IntKind.u64.wrap (BitVec.ofInt IntKind.u64.bits (a:Int)|||BitVec.ofInt IntKind.u64.bits ((128^k*b:Nat):Int)).toNat=((a+128^k*b:Nat):Int):=by
 have e:a|||128^k*b=a+128^k*b:=by
  rw[←pow7]at *
  rw[Nat.or_comm,←Nat.two_pow_add_eq_or_of_lt ha]
  omega
 have e1:(BitVec.ofInt IntKind.u64.bits (a:Int)).toNat=a:=by
  show(BitVec.ofInt 64 (a:Int)).toNat=a
  rw[BitVec.ofInt_natCast,BitVec.toNat_ofNat];omega
 have e2:(BitVec.ofInt IntKind.u64.bits ((128^k*b:Nat):Int)).toNat=128^k*b:=by
  show(BitVec.ofInt 64 ((128^k*b:Nat):Int)).toNat=_
  rw[BitVec.ofInt_natCast,BitVec.toNat_ofNat];omega
 rw[BitVec.toNat_or,e1,e2,e]
 exact IntWalk.u64_in _ ⟨by omega,by omega⟩
theorem two_pow_cast (n:Nat):((2^n:Nat):Int)=(2:Int)^n:=by rw[Int.natCast_pow];rfl
theorem shl_bits (b sh:Nat):IntKind.u64.wrap ((b:Int)*2^((sh:Int)).toNat)=((b*2^sh%18446744073709551616:Nat):Int):=by
 rw[IntKind.wrap_u64,Int.toNat_natCast,←two_pow_cast,←Int.natCast_mul]
 generalize b*2^sh=x
 omega
theorem shr_bits (x sh:Nat):(x:Int) / 2^((sh:Int)).toNat=((x / 2^sh:Nat):Int):=by
 rw[Int.toNat_natCast,←two_pow_cast,Int.natCast_ediv]
theorem brk {k acc:Nat}{c:UInt8}{t:List UInt8}(h:64≤7*k∨c.toNat%128*2^(7*k)%18446744073709551616 / 2^(7*k)≠c.toNat%128∨(c.toNat=0∧0<k)):comb k acc (rd (c::t))=none:=by
 rcases h with h|h|⟨h,h2⟩
 ·exact comb_far (by omega) _
 ·refine comb_over ?_
  rw[←pow7]
  rcases Nat.lt_or_ge (2^(7*k)*(c.toNat%128)) 18446744073709551616 with hl|hl
  ·exfalso
   apply h
   rw[Nat.mul_comm,Nat.mod_eq_of_lt hl,Nat.mul_div_cancel_left _ (Nat.pow_pos (by omega))]
  ·exact hl
 ·rw[comb_last (by omega),if_neg (by omega)]
theorem no_over {k b:Nat}(h:b*2^(7*k)%18446744073709551616 / 2^(7*k)=b) (hk:¬64≤7*k):128^k*b<18446744073709551616:=by
 rw[←pow7]
 have hp:0<2^(7*k):=Nat.pow_pos (by omega)
 have h1:=Nat.mod_lt (b*2^(7*k)) (show 18446744073709551616>0 by omega)
 have h2:=Nat.div_mul_le_self (b*2^(7*k)%18446744073709551616) (2^(7*k))
 rw[h,Nat.mul_comm]at h2
 omega
theorem acc_fit {a b k:Nat}(ha:a<128^k) (hk:¬64≤7*k) (hb:128^k*b<18446744073709551616):a+128^k*b<18446744073709551616:=by
 rw[←pow7]at *
 have hp:0<2^(7*k):=Nat.pow_pos (by omega)
 have e:2^(7*k)*2^(64 - 7*k)=18446744073709551616:=by
  rw[←Nat.pow_add,show 7*k+(64 - 7*k)=64 by omega]
 have hb2:b<2^(64 - 7*k):=by
  rw[←e]at hb
  exact Nat.lt_of_mul_lt_mul_left hb
 have h3:2^(7*k)*(b+1)≤2^(7*k)*2^(64 - 7*k):=Nat.mul_le_mul_left _ hb2
 rw[e,Nat.mul_add]at h3
 omega
end V
set_option maxRecDepth 100000 in
theorem vread_a (s:ByteArray) (at_:Nat) (hs:s.size≤1000000):ACall Tryz.prog 331 [tv s,iv at_] (.tup [uv (V.gotN s at_),iv (V.gotE s at_),bv (V.gotB s at_)]):=by
 refine AC_G Tryz.func331 Tryz.ntmps331 (Reads.r3 Tryz.results331) λhok M0 w0 hnl=>?_
 refine Aw_sr ?_
 refine Al_mr ?_
 refine Al_mr ?_
 refine Al_mr ?_
 refine Al_nil (Aw_scope (Aw_seq (Aw_sr ?_)))
 refine Al_ml ?_
 refine Al_p Pu_cp ?_
 refine Al_ml ?_
 refine Al_s (St_g [] trivial (λ_=>Pu_mvl)) ?_
 refine Al_s (St_g [] trivial (λ_=>Pu_mvl)) ?_
 refine Al_s (St_g [15] ⟨⟨_,rfl⟩,trivial⟩ (λ_=>Pu_lenS rfl Tryz.underlying9 rfl)) ?_
 refine Al_s (St_g [14,16] ⟨⟨_,rfl⟩,⟨_,rfl⟩,trivial⟩ (λ_=>Pu_cp)) ?_
 refine Al_p Pu_o ?_
 refine Al_nil ?_
 refine Aw_cond rfl (λh18=>?_) (λh18=>?_)
 ·skip
  have hge:s.size≤at_:=by
   simp only[Bool.or_eq_true,decide_eq_true_eq]at h18
   omega
  obtain⟨e1,e2,e3⟩:=V.got_none (s:=s) (at_:=at_) (by rw[List.drop_eq_nil_of_le (by simpa using hge)];rfl)
  refine Aw_sr ?_
  refine Al_mr ?_
  refine Al_mr ?_
  refine Al_mr ?_
  refine Al_nil ?_
  exact Aw_ret (⟨_,_,_,rfl,Sub.num (by rw[e1];rfl),Sub.num (by rw[e2];rfl),Sub.bool (by rw[e3])⟩)
 ·skip
  have hlt:at_<s.size:=by
   simp only[Bool.or_eq_false_iff,decide_eq_false_iff_not]at h18
   omega
  refine Aw_skip (Aw_seq (Aw_label ?_))
  refine Aw_seq (Aw_sr ?_)
  refine Al_ml ?_
  refine Al_mr ?_
  refine Al_nil (Aw_block ?_)
  refine Aw_loopk (ι:=Nat×Nat) [0,1] [] (λ(k,acc)=>[(7,.d (iv ((at_+k:Nat):Int))),(4,.d (uv acc))]) (λ(k,acc)=>[]) (λ(k,acc)=>at_+k≤s.size∧acc<128^k∧acc<18446744073709551616∧V.rdB (s.data.toList.drop at_)=V.comb k acc (V.rd (s.data.toList.drop (at_+k)))) (λ(k,acc)=>s.size - (at_+k)) (0,0) (⟨by omega,by simp,by omega,rfl⟩) ⟨Sub.num (by omega),Sub.rfl,trivial⟩ trivial ?_
  rintro⟨k,acc⟩ ⟨hk1,hk2,hk3,hk4⟩
  refine Aw_seq (Aw_sr ?_)
  refine Al_ml ?_
  refine Al_ml ?_
  refine Al_p (Pu_lenS rfl Tryz.underlying9 rfl) ?_
  refine Al_p Pu_cp ?_
  refine Al_nil ?_
  refine Aw_cond rfl (λh23=>?_) (λh23=>?_)
  ·(try simp only[A.cd_]at h23)
   have hi:at_+k<s.size:=by omega
   have hdr:s.data.toList.drop (at_+k)=s[at_+k]::s.data.toList.drop (at_+k+1):=by
    rw[List.drop_eq_getElem_cons (by simpa using hi)];rfl
   rw[hdr]at hk4
   have hcl:=UInt8.toNat_lt s[at_+k]
   have q41:decide (64≤((7*k:Nat):Int))=false→(0:Int)≤((7*k:Nat):Int)∧((7*k:Nat):Int)≤(IntKind.u64.bits:Nat):=λh=>by
    have:=of_decide_eq_false h
    exact⟨by omega,by show((7*k:Nat):Int)≤64;omega⟩
   have q2:vok (.int .u64 ((s[at_+k].toNat%128*2^(7*k)%18446744073709551616:Nat):Int)):=⟨by omega,by omega⟩
   have q3:vok (.int .u64 ((s[at_+k].toNat%128*2^(7*k)%18446744073709551616 / 2^(7*k):Nat):Int)):=by
    have:=Nat.div_le_self (s[at_+k].toNat%128*2^(7*k)%18446744073709551616) (2^(7*k))
    have h2:=Nat.mod_lt (s[at_+k].toNat%128*2^(7*k)) (show 18446744073709551616>0 by omega)
    exact⟨Int.natCast_nonneg _,Int.ofNat_le.2 (Nat.le_trans this (Nat.le_of_lt_succ h2))⟩
   refine Aw_skip (Aw_seq (Aw_block (Aw_sr ?_)))
   refine Al_ml ?_
   refine Al_ml ?_
   refine Al_p (Pu_indexS rfl Tryz.underlying9 rfl rfl (rfl) (getS hi)) ?_
   refine Al_p (Pu_conv rfl Tryz.underlying5 Tryz.underlying271 rfl (λhv=>u64_nat (by omega) (by simp only[vok,A.inI]at hv;omega))) ?_
   refine Al_mr ?_
   refine Al_ns ?_
   refine Al_ml ?_
   refine Al_ml ?_
   refine Al_p (Pu_sub rfl rfl rfl (λh1 h2=>by simp only[A.inI,A.maxI]at *;omega)) ?_
   refine Al_p (Pu_int_mul (r:=((7*k:Nat):Int)) rfl rfl rfl (by rw[show(7:Int)*(((at_+k:Nat):Int) - (at_:Int))=((7*k:Nat):Int)from by omega];exact IntWalk.i64_in _ (by omega)) (λ_=>by show A.inI _;simp only[A.inI];omega)) ?_
   refine Al_mr ?_
   refine Al_ns ?_
   refine Al_ml ?_
   refine Al_p (Pu_int_andNot (r:=((s[at_+k].toNat%128:Nat):Int)) rfl rfl rfl (V.low_bits _) (λ_=>by constructor<;>omega)) ?_
   refine Al_mr ?_
   refine Al_nil (Aw_seq (Aw_sr ?_))
   refine Al_ml ?_
   refine Al_p Pu_cp ?_
   refine Al_ml ?_
   refine Al_s (St_g [] trivial (λ_=>Pu_mvl)) ?_
   refine Al_s (St_g [] trivial (λ_=>Pu_mvl)) ?_
   refine Al_s (St_g [39,40] ⟨⟨_,rfl⟩,⟨_,rfl⟩,trivial⟩ (λhg41=>Pu_int_shl rfl rfl rfl (q41 hg41) (V.shl_bits (s[at_+k].toNat%128) (7*k)) (λ_=>q2))) ?_
   refine Al_s (St_g [] trivial (λ_=>Pu_mvl)) ?_
   refine Al_s (St_g [41,42] ⟨⟨_,rfl⟩,⟨_,rfl⟩,trivial⟩ (λhg43=>Pu_int_shr rfl rfl rfl (q41 hg43) (V.shr_bits (s[at_+k].toNat%128*2^(7*k)%18446744073709551616) (7*k)) (λ_=>q3))) ?_
   refine Al_s (St_g [] trivial (λ_=>Pu_mvl)) ?_
   refine Al_s (St_g [43,44] ⟨⟨_,rfl⟩,⟨_,rfl⟩,trivial⟩ (λ_=>Pu_cp)) ?_
   refine Al_p Pu_o ?_
   refine Al_ml ?_
   refine Al_s (St_g [] trivial (λ_=>Pu_mvl)) ?_
   refine Al_s (St_g [48] ⟨⟨_,rfl⟩,trivial⟩ (λ_=>Pu_cp)) ?_
   refine Al_s (St_g [49] ⟨⟨_,rfl⟩,trivial⟩ (λ_=>Pu_mvl)) ?_
   refine Al_s (St_gd2 [] rfl rfl rfl rfl trivial (λhp51 hg51=>Pu_mvl)) ?_
   refine Al_s (St_gd2 [] rfl rfl rfl rfl trivial (λhp52 hg52=>Pu_mvl)) ?_
   refine Al_s (St_gd2 [51,52] rfl rfl rfl rfl ⟨⟨_,rfl⟩,⟨_,rfl⟩,trivial⟩ (λhp53 hg53=>Pu_cp)) ?_
   refine Al_s (St_g [50] ⟨⟨_,rfl⟩,trivial⟩ (λhg54=>Pu_andG rfl rfl (λh=>⟨hg54,h⟩) rfl rfl)) ?_
   refine Al_p Pu_o ?_
   refine Al_nil ?_
   refine Aw_cond rfl (λh55=>?_) (λh55=>?_)
   ·skip
    have hbk:V.rdB (s.data.toList.drop at_)=none:=by
     rw[hk4]
     refine V.brk ?_
     simp only[Bool.or_eq_true,Bool.and_eq_true,Bool.not_eq_true',decide_eq_true_eq,decide_eq_false_iff_not]at h55
     rcases h55 with(h|h)|⟨h,h'⟩
     ·exact .inl (by omega)
     ·exact .inr (.inl λe=>h (by rw[e]))
     ·exact .inr (.inr ⟨by omega,by omega⟩)
    obtain⟨e1,e2,e3⟩:=V.got_none hbk
    refine Aw_exit (Aw_sr ?_)
    refine Al_mr ?_
    refine Al_mr ?_
    refine Al_mr ?_
    refine Al_nil ?_
    exact Aw_ret (⟨_,_,_,rfl,Sub.num (by rw[e1];rfl),Sub.num (by rw[e2];rfl),Sub.bool (by rw[e3])⟩)
   ·skip
    have hsf:¬64≤7*k∧s[at_+k].toNat%128*2^(7*k)%18446744073709551616 / 2^(7*k)=s[at_+k].toNat%128∧(k=0∨s[at_+k].toNat≠0):=by
     simp only[Bool.or_eq_false_iff,Bool.and_eq_false_iff,Bool.not_eq_false',decide_eq_true_eq,decide_eq_false_iff_not]at h55
     obtain⟨⟨h,h'⟩,h''⟩:=h55
     exact⟨by omega,Int.ofNat_inj.1 h',by omega⟩
    obtain⟨s1,s2,s3⟩:=hsf
    have hov:=V.no_over s2 s1
    have hfit:=V.acc_fit hk2 s1 hov
    have q59:(0:Int)≤((7*k:Nat):Int)∧((7*k:Nat):Int)≤(IntKind.u64.bits:Nat):=⟨by omega,by show((7*k:Nat):Int)≤64;omega⟩
    have q60:IntKind.u64.wrap (((s[at_+k].toNat%128:Nat):Int)*2^(((7*k:Nat):Int)).toNat)=((128^k*(s[at_+k].toNat%128):Nat):Int):=by
     rw[V.shl_bits,V.pow7,Nat.mul_comm,Nat.mod_eq_of_lt hov]
    refine Aw_skip (Aw_sr ?_)
    refine Al_ml ?_
    refine Al_ml ?_
    refine Al_ml ?_
    refine Al_p (Pu_int_shl rfl rfl rfl q59 q60 (λ_=>by exact⟨by omega,by omega⟩)) ?_
    refine Al_p (Pu_int_or rfl rfl rfl (V.or_bits hk2 hov hfit) (λ_=>by exact⟨by omega,by omega⟩)) ?_
    refine Al_mr ?_
    refine Al_ns ?_
    refine Al_ml ?_
    refine Al_p Pu_cp ?_
    refine Al_nil ?_
    refine Aw_cond rfl (λh62=>?_) (λh62=>?_)
    ·(try simp only[A.cd_]at h62)
     have hsm:s[at_+k].toNat<128:=by omega
     have hmo:s[at_+k].toNat%128=s[at_+k].toNat:=Nat.mod_eq_of_lt hsm
     rw[hmo]at hfit
     have hgot:=V.got_some (s:=s) (at_:=at_) (n:=acc+128^k*s[at_+k].toNat) (r:=s.data.toList.drop (at_+k+1)) (by rw[hk4,V.comb_last hsm,if_pos ⟨s3,hfit⟩])
     obtain⟨e1,e2,e3⟩:=hgot
     have elen:(s.data.toList.drop (at_+k+1)).length=s.size - (at_+k+1):=by rw[List.length_drop];rfl
     refine Aw_sr ?_
     refine Al_ml ?_
     refine Al_ml ?_
     refine Al_p Pu_ad ?_
     refine Al_mr ?_
     refine Al_mr ?_
     refine Al_mr ?_
     refine Al_nil ?_
     exact Aw_ret (⟨_,_,_,rfl,Sub.num (by rw[e1,hmo]),Sub.num (by rw[e2,elen];omega),Sub.bool (by rw[e3])⟩)
    ·(try simp only[A.cd_]at h62)
     have hbg:128≤s[at_+k].toNat:=by omega
     have hmo:s[at_+k].toNat%128=s[at_+k].toNat - 128:=by omega
     have hacc:acc+128^k*(s[at_+k].toNat%128)<128^(k+1):=by
      have h1:128^k*(s[at_+k].toNat%128)≤128^k*127:=Nat.mul_le_mul_left _ (by omega)
      rw[Nat.pow_succ];omega
     refine Aw_skip (Aw_region ?_)
     refine Al_ml ?_
     refine Al_p Pu_ad ?_
     refine Al_mr ?_
     refine Al_nil ?_
     exact⟨(k+1,acc+128^k*(s[at_+k].toNat%128)),⟨by omega,hacc,hfit,by rw[hk4,V.comb_more hbg,hmo];rfl⟩,by simp only[];omega,Le.ov ⟨Sub.num (by omega),Sub.rfl,trivial⟩ ⟨Sub.rfl,Sub.rfl,trivial⟩ trivial trivial⟩
  ·(try simp only[A.cd_]at h23)
   have hend:s.size≤at_+k:=by omega
   rw[List.drop_eq_nil_of_le (show s.data.toList.length≤at_+k from hend)]at hk4
   obtain⟨e1,e2,e3⟩:=V.got_none (s:=s) (at_:=at_) hk4
   refine Aw_exit (Aw_sr ?_)
   refine Al_mr ?_
   refine Al_mr ?_
   refine Al_mr ?_
   refine Al_nil ?_
   exact Aw_ret (⟨_,_,_,rfl,Sub.num (by rw[e1];rfl),Sub.num (by rw[e2];rfl),Sub.bool (by rw[e3])⟩)
end Go.Proofs.YtdnijgdmohinlaaGreat
namespace Go.Proofs.YtdnijgdmohinlaaGreat
namespace V
def ptext (most:Nat) (r:List UInt8):Option (List UInt8×List UInt8):=match rdB r with
 | some (n,t)=>if n≤most∧n≤t.length then some (t.take n,t.drop n)else none
 | none=>none
theorem rdB_suf {r t:List UInt8}{n:Nat}(h:rdB r=some (n,t)):n<18446744073709551616∧r=num n++t:=by
 unfold rdB at h
 cases hr:rd r with
 | none=>rw[hr]at h;cases h
 | some x =>
  obtain⟨m,t'⟩:=x
  rw[hr]at h
  simp only[comb]at h
  split at h
  ·rename_i hc
   simp only[Option.some.injEq,Prod.mk.injEq]at h
   obtain⟨h1,rfl⟩:=h
   have:m=n:=by omega
   subst this
   exact⟨by omega,rd_some _ _ _ hr⟩
  ·cases h
theorem rdB_num {n:Nat}(hn:n<18446744073709551616) (t:List UInt8):rdB (num n++t)=some (n,t):=by
 unfold rdB
 rw[rd_num]
 simp only[comb]
 rw[if_pos ⟨.inl trivial,by omega⟩]
 simp
theorem text_ba (x:List UInt8):text (ba x)=num x.length++x:=by
 unfold text;rw[A.ba_sz]
theorem ptext_iff {most:Nat}{r t:List UInt8}{x:List UInt8}(hm:most<18446744073709551616):ptext most r=some (x,t)↔x.length≤most∧r=text (ba x)++t:=by
 rw[text_ba]
 unfold ptext
 constructor
 ·intro h
  split at h
  ·rename_i n' t' hr
   split at h
   ·rename_i hc
    simp only[Option.some.injEq,Prod.mk.injEq]at h
    obtain⟨rfl,rfl⟩:=h
    have hl:(t'.take n').length=n':=by simp;omega
    rw[hl]
    exact⟨hc.1,by rw[(rdB_suf hr).2,List.append_assoc,List.take_append_drop]⟩
   ·cases h
  ·cases h
 ·rintro⟨h1,rfl⟩
  rw[List.append_assoc,rdB_num (by omega)]
  simp[h1]
theorem drop_suf {s:ByteArray}{r:List UInt8}(h:r <:+s.data.toList):s.data.toList.drop (s.size - r.length)=r:=by
 obtain⟨p,hp⟩:=h
 have hs:s.size=p.length+r.length:=by
  show s.data.size=_
  rw[←Array.length_toList,←hp,List.length_append]
 rw[←hp,hs,Nat.add_sub_cancel,List.drop_left]
theorem suf_app {p t l:List UInt8}(h:p++t <:+l):t <:+l:=(List.suffix_append p t).trans h
theorem suf_len {s:ByteArray}{r:List UInt8}(h:r <:+s.data.toList):r.length≤s.size:=by
 have:=h.length_le
 rwa [Array.length_toList]at this
end V
end Go.Proofs.YtdnijgdmohinlaaGreat
namespace Go.Proofs.YtdnijgdmohinlaaGreat
open Go.RowKit A R
namespace V
def rtT (s:ByteArray) (at_ most:Nat):ByteArray:=match ptext most (s.data.toList.drop at_)with|some (x,_)=>ba x|none=>⟨#[]⟩
def rtE (s:ByteArray) (at_ most:Nat):Nat:=match ptext most (s.data.toList.drop at_)with|some (_,t)=>s.size - t.length|none=>0
def rtB (s:ByteArray) (at_ most:Nat):Bool:=(ptext most (s.data.toList.drop at_)).isSome
theorem got_cases (s:ByteArray) (at_:Nat):(gotB s at_=false∧gotN s at_=0∧gotE s at_=0∧rdB (s.data.toList.drop at_)=none)∨∃n t,gotB s at_=true∧gotN s at_=n∧gotE s at_=s.size - t.length∧rdB (s.data.toList.drop at_)=some (n,t)∧n<18446744073709551616∧t <:+s.data.toList:=by
 cases h:rdB (s.data.toList.drop at_)with
 | none=>obtain⟨e1,e2,e3⟩:=got_none h;exact .inl ⟨e3,e1,e2,rfl⟩
 | some x =>
  obtain⟨n,t⟩:=x
  obtain⟨e1,e2,e3⟩:=got_some h
  obtain⟨h1,h2⟩:=rdB_suf h
  exact .inr ⟨n,t,e3,e1,e2,rfl,h1,suf_app (p:=num n) (by rw[←h2];exact List.drop_suffix _ _)⟩
theorem cut_ba (s:ByteArray) (t:List UInt8) (n:Nat) (h:t <:+s.data.toList) (hn:n≤t.length):s.extract (s.size - t.length) (s.size - t.length+n)=ba (t.take n):=by
 apply ByteArray.ext
 apply Array.ext'
 rw[ByteArray.data_extract]
 rw[Array.toList_extract]
 simp only[List.extract]
 show List.take _ (List.drop _ _)=t.take n
 rw[drop_suf h,Nat.add_sub_cancel_left]
theorem rt_none {s:ByteArray}{at_ most:Nat}(h:ptext most (s.data.toList.drop at_)=none):rtT s at_ most=⟨#[]⟩∧rtE s at_ most=0∧rtB s at_ most=false:=by
 unfold rtT rtE rtB;rw[h];exact⟨rfl,rfl,rfl⟩
theorem rt_some {s:ByteArray}{at_ most:Nat}{x t:List UInt8}(h:ptext most (s.data.toList.drop at_)=some (x,t)):rtT s at_ most=ba x∧rtE s at_ most=s.size - t.length∧rtB s at_ most=true:=by
 unfold rtT rtE rtB;rw[h];exact⟨rfl,rfl,rfl⟩
end V
set_option maxRecDepth 100000 in
theorem readtext_a (s:ByteArray) (at_ most:Nat) (hs:s.size≤1000000) (hm:most≤1000000):ACall Tryz.prog 330 [tv s,iv at_,iv most] (.tup [tv (V.rtT s at_ most),iv (V.rtE s at_ most),bv (V.rtB s at_ most)]):=by
 refine AC_G Tryz.func330 Tryz.ntmps330 (Reads.r3 Tryz.results330) λhok M0 w0 hnl=>?_
 have hcs:=V.got_cases s at_
 have hE:V.gotE s at_≤s.size:=by
  rcases hcs with⟨_,_,h,_⟩|⟨n,t,_,_,h,_⟩<;>omega
 have hN:V.gotN s at_<18446744073709551616:=by
  rcases hcs with⟨_,h,_,_⟩|⟨n,t,_,h,_,_,h2,_⟩<;>omega
 refine Aw_sr ?_
 refine Al_mr ?_
 refine Al_mr ?_
 refine Al_mr ?_
 refine Al_ns ?_
 refine Al_ml ?_
 refine Al_ml ?_
 refine Al_p (Pu_call (vread_a s at_ hs) rfl ⟨Sub.rfl,Sub.rfl,trivial⟩) ?_
 refine Al_ml ?_
 refine Al_p Pu_ex ?_
 refine Al_p Pu_ex ?_
 refine Al_p Pu_ex ?_
 refine Al_mr ?_
 refine Al_mr ?_
 refine Al_mr ?_
 refine Al_nil (Aw_seq (Aw_sr ?_))
 refine Al_ml ?_
 refine Al_p Pu_n ?_
 refine Al_ml ?_
 refine Al_s (St_g [] trivial (λ_=>Pu_mvl)) ?_
 refine Al_s (St_g [21] ⟨⟨_,rfl⟩,trivial⟩ (λ_=>Pu_cp)) ?_
 refine Al_p Pu_o ?_
 refine Al_ml ?_
 refine Al_s (St_g [] trivial (λ_=>Pu_mvl)) ?_
 refine Al_s (St_g [] trivial (λ_=>Pu_mvl)) ?_
 refine Al_s (St_gd [26] rfl rfl rfl rfl ⟨⟨_,rfl⟩,trivial⟩ (λhg27=>by exact Pu_conv rfl Tryz.underlying3 Tryz.underlying271 rfl (λhv=>u64_nat (by omega) (by simp only[vok,A.inI]at hv;omega)))) ?_
 refine Al_s (St_g [25,27] ⟨⟨_,rfl⟩,⟨_,rfl⟩,trivial⟩ (λ_=>Pu_cp)) ?_
 refine Al_p Pu_o ?_
 refine Al_ml ?_
 refine Al_s (St_g [] trivial (λ_=>Pu_mvl)) ?_
 refine Al_s (St_g [] trivial (λ_=>Pu_mvl)) ?_
 refine Al_s (St_g [32] ⟨⟨_,rfl⟩,trivial⟩ (λ_=>Pu_lenS rfl Tryz.underlying9 rfl)) ?_
 refine Al_s (St_g [] trivial (λ_=>Pu_mvl)) ?_
 refine Al_s (St_gd [33,34] rfl rfl rfl rfl ⟨⟨_,rfl⟩,⟨_,rfl⟩,trivial⟩ (λhg35=>by exact Pu_sub rfl rfl rfl (λh1 h2=>by simp only[A.inI,A.maxI]at *;omega))) ?_
 refine Al_s (St_gd [35] rfl rfl rfl rfl ⟨⟨_,rfl⟩,trivial⟩ (λhg36=>by exact Pu_conv rfl Tryz.underlying3 Tryz.underlying271 rfl (λhv=>u64_nat (by omega) (by omega)))) ?_
 refine Al_s (St_g [31,36] ⟨⟨_,rfl⟩,⟨_,rfl⟩,trivial⟩ (λ_=>Pu_cp)) ?_
 refine Al_p Pu_o ?_
 refine Al_nil ?_
 refine Aw_cond rfl (λh38=>?_) (λh38=>?_)
 ·skip
  have hno:V.ptext most (s.data.toList.drop at_)=none:=by
   simp only[Bool.or_eq_true,Bool.not_eq_true',decide_eq_true_eq]at h38
   unfold V.ptext
   rcases hcs with⟨h1,h2,h3,h4⟩|⟨n,t,h1,h2,h3,h4,h5,h6⟩
   ·rw[h4]
   ·rw[h4]
    have hl:=V.suf_len h6
    rw[h1,h2,h3]at h38
    simp only
    rw[if_neg]
    rintro⟨k1,k2⟩
    rcases h38 with(((h|h)|h)|h)
    ·cases h
    ·omega
    ·omega
    ·omega
  obtain⟨e1,e2,e3⟩:=V.rt_none hno
  refine Aw_sr ?_
  refine Al_mr ?_
  refine Al_mr ?_
  refine Al_mr ?_
  refine Al_nil ?_
  exact Aw_ret (⟨_,_,_,rfl,Sub.str (by rw[e1]),Sub.num (by rw[e2];rfl),Sub.bool (by rw[e3])⟩)
 ·skip
  have hyes:∃n t,V.gotN s at_=n∧V.gotE s at_=s.size - t.length∧V.ptext most (s.data.toList.drop at_)=some (t.take n,t.drop n)∧n≤t.length∧t <:+s.data.toList∧n≤most:=by
   simp only[Bool.or_eq_false_iff,Bool.not_eq_false',decide_eq_false_iff_not]at h38
   obtain⟨⟨⟨h38,h39⟩,h40⟩,h41⟩:=h38
   rcases hcs with⟨h1,h2,h3,h4⟩|⟨n,t,h1,h2,h3,h4,h5,h6⟩
   ·rw[h1]at h38;cases h38
   ·have hl:=V.suf_len h6
    rw[h2]at h40 h41
    rw[h3]at h41
    refine⟨n,t,h2,h3,?_,by omega,h6,by omega⟩
    unfold V.ptext
    rw[h4]
    simp only
    rw[if_pos ⟨by omega,by omega⟩]
  obtain⟨n,t,k1,k2,k3,k4,k5,k6⟩:=hyes
  have hl:=V.suf_len k5
  obtain⟨e1,e2,e3⟩:=V.rt_some k3
  rw[k1,k2]
  refine Aw_skip (Aw_sr ?_)
  refine Al_ml ?_
  refine Al_ml ?_
  refine Al_p (Pu_conv rfl Tryz.underlying271 Tryz.underlying3 rfl (λhv=>i64_nat (by simp only[A.inI];omega))) ?_
  refine Al_p Pu_ad ?_
  refine Al_mr ?_
  refine Al_ns ?_
  refine Al_ml ?_
  refine Al_ml ?_
  refine Al_ml ?_
  refine Al_p (Pu_subS ((s.size - t.length)) ((s.size - t.length+n)) rfl Tryz.underlying9 rfl ⟨_,rfl,by omega⟩ ⟨_,rfl,by omega⟩ ⟨by omega,by omega⟩) ?_
  refine Al_ml ?_
  refine Al_mr ?_
  refine Al_mr ?_
  refine Al_mr ?_
  refine Al_nil ?_
  exact Aw_ret (⟨_,_,_,rfl,Sub.str (by rw[e1];exact V.cut_ba s t n k5 k4),Sub.num (by rw[e2];simp;omega),Sub.bool (by rw[e3])⟩)
end Go.Proofs.YtdnijgdmohinlaaGreat
namespace Go.Proofs.YtdnijgdmohinlaaGreat
open Go.RowKit A R
namespace V
abbrev pos (s:ByteArray) (r:List UInt8):Nat:=s.size - r.length
theorem data_ba (l:List UInt8):(ba l).data.toList=l:=by simp[ba]
end V
end Go.Proofs.YtdnijgdmohinlaaGreat
end
section
namespace Go.Proofs.YtdnijgdmohinlaaGreat
open Go.RowKit A R
namespace V
def pst (r:List UInt8):Option ((Nat×Nat)×List UInt8):=match rdB r with
 | none=>none
 | some (n,t)=>match rdB t with
  | none=>none
  | some (i,u)=>if 1≤n∧n≤1099511627776∧i<6 then some ((n,i),u)else none
def stN (s:ByteArray) (at_:Nat):Nat:=match pst (s.data.toList.drop at_)with|some ((n,_),_)=>n|none=>0
def stI (s:ByteArray) (at_:Nat):Nat:=match pst (s.data.toList.drop at_)with|some ((_,i),_)=>i|none=>0
def stEn (s:ByteArray) (at_:Nat):Nat:=match pst (s.data.toList.drop at_)with|some (_,u)=>s.size - u.length|none=>0
def stB (s:ByteArray) (at_:Nat):Bool:=(pst (s.data.toList.drop at_)).isSome
theorem pst_iff {r u:List UInt8}{n i:Nat}:pst r=some ((n,i),u)↔(1≤n∧n≤1099511627776∧i<6)∧r=num n++(num i++u):=by
 unfold pst
 constructor
 ·intro h
  split at h
  ·cases h
  ·rename_i m t h1
   split at h
   ·cases h
   ·rename_i j v h2
    split at h
    ·rename_i hc
     simp only[Option.some.injEq,Prod.mk.injEq]at h
     obtain⟨⟨rfl,rfl⟩,rfl⟩:=h
     exact⟨hc,by rw[(rdB_suf h1).2,(rdB_suf h2).2]⟩
    ·cases h
 ·rintro⟨hc,rfl⟩
  rw[rdB_num (by omega)]
  simp only
  rw[rdB_num (by omega)]
  simp only
  rw[if_pos hc]
theorem st_yes {s:ByteArray}{at_:Nat}(h1:gotB s at_=true) (h2:gotB s (gotE s at_)=true) (h3:stampB (gotN s at_:Nat) (gotN s (gotE s at_):Nat)=true):stN s at_=gotN s at_∧stI s at_=gotN s (gotE s at_)∧stEn s at_=gotE s (gotE s at_)∧stB s at_=true:=by
 rcases got_cases s at_ with⟨k1,_⟩|⟨n,t,_,k2,k3,k4,k5,k6⟩
 ·rw[k1]at h1;cases h1
 rcases got_cases s (gotE s at_)with⟨j1,_⟩|⟨i,u,_,j2,j3,j4,j5,j6⟩
 ·rw[j1]at h2;cases h2
 rw[k2,j2,stampB_iff]at h3
 have j4':rdB t=some (i,u):=by rw[k3,drop_suf k6]at j4;exact j4
 have hp:pst (s.data.toList.drop at_)=some ((n,i),u):=by
  unfold pst;rw[k4];simp only;rw[j4'];simp only;rw[if_pos (by omega)]
 unfold stN stI stEn stB
 rw[hp,k2,j2,j3]
 exact⟨rfl,rfl,rfl,rfl⟩
theorem st_none {s:ByteArray}{at_:Nat}(h:pst (s.data.toList.drop at_)=none):stN s at_=0∧stI s at_=0∧stEn s at_=0∧stB s at_=false:=by
 unfold stN stI stEn stB;rw[h];exact⟨rfl,rfl,rfl,rfl⟩
theorem st_no {s:ByteArray}{at_:Nat}(h:gotB s at_=true→gotB s (gotE s at_)=true→stampB (gotN s at_:Nat) (gotN s (gotE s at_):Nat)=false):stN s at_=0∧stI s at_=0∧stEn s at_=0∧stB s at_=false:=by
 apply st_none
 rcases got_cases s at_ with⟨_,_,_,k4⟩|⟨n,t,k1,k2,k3,k4,k5,k6⟩
 ·unfold pst;rw[k4]
 rcases got_cases s (gotE s at_)with⟨_,_,_,j4⟩|⟨i,u,j1,j2,j3,j4,j5,j6⟩
 ·have j4':rdB t=none:=by rw[k3,drop_suf k6]at j4;exact j4
  unfold pst;rw[k4];simp only;rw[j4']
 have h3:=h k1 j1
 have j4':rdB t=some (i,u):=by rw[k3,drop_suf k6]at j4;exact j4
 have h4:¬(1≤n∧n≤1099511627776∧i<6):=λhc=>by
  have:stampB (gotN s at_:Nat) (gotN s (gotE s at_):Nat)=true:=stampB_iff.2 (by rw[k2,j2];omega)
  rw[h3]at this;cases this
 unfold pst;rw[k4];simp only;rw[j4'];simp only;rw[if_neg h4]
end V
set_option maxRecDepth 100000 in
theorem vstread_a (s:ByteArray) (at_:Nat) (hs:s.size≤1000000):ACall Tryz.prog 257 [tv s,iv at_] (.tup [.row [iv (V.stN s at_),iv (V.stI s at_)],iv (V.stEn s at_),bv (V.stB s at_)]):=by
 refine AC_G Tryz.func257 Tryz.ntmps257 (Reads.cN2 Tryz.results257 Tryz.isAgg47 Tryz.sizeOf47) λhok M0 w0 hnl=>?_
 refine Aw_sr ?_
 refine Al_al Tryz.zeroValue47 λg4=>?_
 refine Al_mr ?_
 refine Al_mr ?_
 refine Al_ns ?_
 refine Al_ml ?_
 refine Al_ml ?_
 refine Al_p (Pu_call (vread_a s at_ hs) rfl ⟨Sub.rfl,Sub.rfl,trivial⟩) ?_
 refine Al_ml ?_
 refine Al_p Pu_ex ?_
 refine Al_p Pu_ex ?_
 refine Al_p Pu_ex ?_
 refine Al_mr ?_
 refine Al_mr ?_
 refine Al_mr ?_
 refine Al_ns ?_
 refine Al_ml ?_
 refine Al_ml ?_
 refine Al_p (Pu_call (vread_a s (V.gotE s at_) hs) rfl ⟨Sub.rfl,Sub.rfl,trivial⟩) ?_
 refine Al_ml ?_
 refine Al_p Pu_ex ?_
 refine Al_p Pu_ex ?_
 refine Al_p Pu_ex ?_
 refine Al_mr ?_
 refine Al_mr ?_
 refine Al_mr ?_
 refine Al_nil (Aw_seq (Aw_sr ?_))
 refine Al_ml ?_
 refine Al_p Pu_n ?_
 refine Al_ml ?_
 refine Al_s (St_g [] trivial (λ_=>Pu_mvl)) ?_
 refine Al_s (St_g [29] ⟨⟨_,rfl⟩,trivial⟩ (λ_=>Pu_n)) ?_
 refine Al_p Pu_o ?_
 refine Al_ml ?_
 refine Al_s (St_g [] trivial (λ_=>Pu_mvl)) ?_
 refine Al_s (St_g [33] ⟨⟨_,rfl⟩,trivial⟩ (λ_=>Pu_cp)) ?_
 refine Al_p Pu_o ?_
 refine Al_ml ?_
 refine Al_s (St_g [] trivial (λ_=>Pu_mvl)) ?_
 refine Al_s (St_g [37] ⟨⟨_,rfl⟩,trivial⟩ (λ_=>Pu_cp)) ?_
 refine Al_p Pu_o ?_
 refine Al_nil ?_
 refine Aw_cond rfl (λh39=>?_) (λh39=>?_)
 ·skip
  obtain⟨e1,e2,e3,e4⟩:=V.st_no (s:=s) (at_:=at_) (λc1 c2=>by
   rw[c1,c2]at h39
   simp only[Bool.not_true,Bool.false_or,Bool.or_eq_true,decide_eq_true_eq]at h39
   cases hb:V.stampB (V.gotN s at_:Nat) (V.gotN s (V.gotE s at_):Nat)with
   | false=>rfl
   | true=>have:=V.stampB_iff.1 hb;omega)
  refine Aw_sr ?_
  refine Al_p (Pu_build (aa:=[]) rfl Tryz.underlying47 Tryz.zeroValue47 places47 (by kernel_rfl) trivial rfl) ?_
  refine Al_sN Tryz.isAgg47 Tryz.sizeOf47 ?_
  refine Al_mr ?_
  refine Al_mr ?_
  refine Al_nil ?_
  exact Aw_ret (⟨_,_,_,_,_,[_,_],iv (V.stEn s at_),bv (V.stB s at_),rfl,rfl,rfl,rfl,Sub.num (by rw[e3];rfl),Sub.bool (by rw[e4]),by rw[e1,e2];rfl⟩)
 ·skip
  simp only[Bool.or_eq_false_iff,Bool.not_eq_false',decide_eq_false_iff_not]at h39
  refine Aw_skip (Aw_sr ?_)
  refine Al_ml ?_
  refine Al_p (Pu_conv rfl Tryz.underlying271 Tryz.underlying3 rfl (λhv=>i64_nat (by simp only[vok,A.inI]at *;omega))) ?_
  refine Al_ml ?_
  refine Al_p (Pu_conv rfl Tryz.underlying271 Tryz.underlying3 rfl (λhv=>i64_nat (by simp only[vok,A.inI]at *;omega))) ?_
  refine Al_p (Pu_build (aa:=[(0,_),(1,_)]) rfl Tryz.underlying47 Tryz.zeroValue47 places47 (by kernel_rfl) ⟨rfl,rfl,rfl,rfl,rfl,rfl,trivial⟩ rfl) ?_
  refine Al_sN Tryz.isAgg47 Tryz.sizeOf47 ?_
  refine Al_nil (Aw_seq (Aw_sr ?_))
  refine Al_p (Pu_lbN (r:=[_,_]) Tryz.isAgg47 Tryz.sizeOf47) ?_
  refine Al_p (Pu_call (stcheck_a _ _) rfl ⟨Sub.rfl,trivial⟩) ?_
  refine Al_p Pu_n ?_
  refine Al_nil ?_
  refine Aw_cond rfl (λh48=>?_) (λh48=>?_)
  ·(try simp only[A.cd_]at h48)
   obtain⟨e1,e2,e3,e4⟩:=V.st_no (s:=s) (at_:=at_) (λc1 c2=>h48)
   refine Aw_sr ?_
   refine Al_p (Pu_build (aa:=[]) rfl Tryz.underlying47 Tryz.zeroValue47 places47 (by kernel_rfl) trivial rfl) ?_
   refine Al_sN Tryz.isAgg47 Tryz.sizeOf47 ?_
   refine Al_mr ?_
   refine Al_mr ?_
   refine Al_nil ?_
   exact Aw_ret (⟨_,_,_,_,_,[_,_],iv (V.stEn s at_),bv (V.stB s at_),rfl,rfl,rfl,rfl,Sub.num (by rw[e3];rfl),Sub.bool (by rw[e4]),by rw[e1,e2];rfl⟩)
  ·(try simp only[A.cd_]at h48)
   obtain⟨e1,e2,e3,e4⟩:=V.st_yes (s:=s) (at_:=at_) h39.1.1.1 h39.1.1.2 h48
   refine Aw_skip (Aw_sr ?_)
   refine Al_p (Pu_lbN (r:=[_,_]) Tryz.isAgg47 Tryz.sizeOf47) ?_
   refine Al_ml ?_
   refine Al_sN Tryz.isAgg47 Tryz.sizeOf47 ?_
   refine Al_mr ?_
   refine Al_mr ?_
   refine Al_nil ?_
   exact Aw_ret (⟨_,_,_,_,_,[_,_],iv (V.stEn s at_),bv (V.stB s at_),rfl,rfl,rfl,rfl,Sub.num (by rw[e3]),Sub.bool (by rw[e4]),by rw[e1,e2]⟩)
end Go.Proofs.YtdnijgdmohinlaaGreat
end
section
set_option maxRecDepth 100000
namespace Go.Proofs.YtdnijgdmohinlaaGreat
open Go Go.RowKit A R
theorem vread_y (s:ByteArray) (n:Nat) (t:List UInt8) (hs:s.size≤1000000) (hn:n<18446744073709551616) (hr:V.num n++t <:+s.data.toList):ACall Tryz.prog 331 [tv s,iv (V.pos s (V.num n++t))] (.tup [uv n,iv (V.pos s t),bv true]):=by
 have h1:V.rdB (s.data.toList.drop (V.pos s (V.num n++t)))=some (n,t):=by
  rw[V.drop_suf hr];exact V.rdB_num hn t
 obtain⟨e1,e2,e3⟩:=V.got_some h1
 have:=vread_a s (V.pos s (V.num n++t)) hs
 rw[e1,e2,e3]at this
 exact this
theorem tread_y (s x:ByteArray) (t:List UInt8) (most:Nat) (hs:s.size≤1000000) (hm:most≤1000000) (hx:x.size≤most) {r:List UInt8}(hre:r=V.text x++t) (hr:r <:+s.data.toList):ACall Tryz.prog 330 [tv s,iv (V.pos s r),iv most] (.tup [tv x,iv (V.pos s t),bv true]):=by
 subst hre
 have h1:V.ptext most (s.data.toList.drop (V.pos s (V.text x++t)))=some (x.data.toList,t):=by
  rw[V.drop_suf hr]
  exact(V.ptext_iff (by omega)).2 ⟨by rw[Array.length_toList];exact hx,by rw[V.ba_data]⟩
 obtain⟨e1,e2,e3⟩:=V.rt_some h1
 have:=readtext_a s (V.pos s (V.text x++t)) most hs hm
 rw[e1,e2,e3,V.ba_data]at this
 exact this
theorem sread_y (s:ByteArray) (n i:Int) (t:List UInt8) (hs:s.size≤1000000) (hb:V.stampB n i=true) (hr:V.stamp n i++t <:+s.data.toList):ACall Tryz.prog 257 [tv s,iv (V.pos s (V.stamp n i++t))] (.tup [.row [iv n,iv i],iv (V.pos s t),bv true]):=by
 obtain⟨h1,h2,h3,h4⟩:=V.stampB_iff.1 hb
 have e:V.stamp n i=V.num n.toNat++V.num i.toNat:=by unfold V.stamp;rw[if_pos hb]
 have h5:V.pst (s.data.toList.drop (V.pos s (V.stamp n i++t)))=some ((n.toNat,i.toNat),t):=by
  rw[V.drop_suf hr];exact V.pst_iff.2 ⟨by omega,by rw[e,List.append_assoc]⟩
 have:=vstread_a s (V.pos s (V.stamp n i++t)) hs
 unfold V.stN V.stI V.stEn V.stB at this
 simp only[h5,Option.isSome_some]at this
 rw[Int.toNat_of_nonneg (by omega),Int.toNat_of_nonneg h3]at this
 exact this
def V.pr (p:List Dep) (k:Nat) (t:List UInt8):List UInt8:=(p.drop k).flatMap V.depB++t
theorem V.pr_step {p:List Dep}{k:Nat}(t:List UInt8) (hk:k<p.length):V.pr p k t=V.text (p.getD k default).key++(V.stamp (p.getD k default).n (p.getD k default).s++V.pr p (k+1) t):=by
 unfold V.pr
 rw[List.drop_eq_getElem_cons hk,List.flatMap_cons,show p.getD k default=p[k]by simp[hk]]
 simp only[V.depB,List.append_assoc]
theorem V.pr_zero (p:List Dep) (t:List UInt8):V.pastL p++t=V.num p.length++V.pr p 0 t:=by simp[V.pastL,V.pr]
theorem V.pr_all {p:List Dep}{k:Nat}(t:List UInt8) (hk:p.length≤k):V.pr p k t=t:=by simp[V.pr,List.drop_eq_nil_of_le hk]
theorem V.dep_stamp {p:List Dep}(h:J.pastB p=true):∀d∈p,V.stampB d.n d.s=true:=λd hd=>by
 unfold J.pastB at h
 simp only[Bool.and_eq_true,List.all_eq_true,List.mem_range]at h
 obtain⟨i,hi,rfl⟩:=List.getElem_of_mem hd
 have h1:=h.1 i hi
 unfold J.okAt at h1
 simp only[Bool.and_eq_true]at h1
 have h2:=h1.1
 rw[show p.getD i default=p[i]by simp[hi]]at h2
 unfold D.okB at h2
 simp only[Bool.and_eq_true]at h2
 exact h2.2
theorem pastread_a (s:ByteArray) (p:List Dep) (t:List UInt8) (hs:s.size≤1000000) (h:J.pastB p=true) (hr:V.num p.length++V.pr p 0 t <:+s.data.toList):ACall Tryz.prog 258 [tv s,iv (V.pos s (V.num p.length++V.pr p 0 t))] (.tup [.sl 3 (p.map Dep.row),iv (V.pos s t),bv true]):=by
 refine AC_G Tryz.func258 Tryz.ntmps258 (Reads.r3 Tryz.results258) λhok M0 w0 hnl=>?_
 have hpl:=(J.past_good h).2
 have hkk:=V.dep_key h
 have hst:=V.dep_stamp h
 have hr0:V.pr p 0 t <:+s.data.toList:=(List.suffix_append _ _).trans hr
 refine Aw_sr ?_
 refine Al_mr ?_
 refine Al_mr ?_
 refine Al_mr ?_
 refine Al_nil (Aw_scope (Aw_sr ?_))
 refine Al_ml ?_
 refine Al_ml ?_
 refine Al_p (Pu_call (vread_y s p.length (V.pr p 0 t) hs (by omega) hr) rfl ⟨Sub.rfl,Sub.rfl,trivial⟩) ?_
 refine Al_ml ?_
 refine Al_p Pu_ex ?_
 refine Al_p Pu_ex ?_
 refine Al_p Pu_ex ?_
 refine Al_mr ?_
 refine Al_mr ?_
 refine Al_mr ?_
 refine Al_nil (Aw_seq (Aw_sr ?_))
 refine Al_ml ?_
 refine Al_p Pu_n ?_
 refine Al_ml ?_
 refine Al_s (St_g [] trivial (λ_=>Pu_mvl)) ?_
 refine Al_s (St_g [19] ⟨⟨_,rfl⟩,trivial⟩ (λ_=>Pu_cp)) ?_
 refine Al_p Pu_o ?_
 refine Al_nil ?_
 refine Aw_condF rfl ((by simp;omega)) ?_
 refine Aw_skip (Aw_seq (Aw_label ?_))
 refine Aw_seq (Aw_sr ?_)
 refine Al_ml ?_
 refine Al_ml ?_
 refine Al_nil (Aw_block ?_)
 refine Aw_own (j:=4) (k:=4) (T:=110) (n:=3) rfl (λg0=>?_)
 refine Aw_loopk (ι:=Nat×Nat) [0,22] [] (λ(k,g)=>[(4,.ow 4 g),(23,.d (uv k)),(5,.d (iv (V.pos s (V.pr p k t)))),(6,.d (bv true))]) (λ(k,g)=>[(4,g,.arr 110 3 ((p.take k).map Dep.row))]) (λ(k,g)=>k≤p.length∧V.pr p k t <:+s.data.toList) (λ(k,g)=>p.length - k) (0,g0) (⟨by omega,hr0⟩) ⟨Sub.rfl,Sub.rfl,Sub.rfl,Sub.rfl,trivial⟩ ⟨rfl,trivial⟩ ?_
 rintro⟨k,g⟩ ⟨hk1,hk2⟩
 refine Aw_sr ?_
 refine Al_p Pu_cp ?_
 refine Al_nil (Aw_seq ?_)
 refine Aw_cond rfl (λh24=>?_) (λh24=>?_)
 ·(try simp only[A.cd_]at h24)
  have hk:k<p.length:=by omega
  have hm:p.getD k default∈p:=by rw[show p.getD k default=p[k]by simp[hk]];exact List.getElem_mem hk
  have hkd:=hkk _ hm
  have hsd:=hst _ hm
  have est:=V.pr_step t hk
  have hk3:V.stamp (p.getD k default).n (p.getD k default).s++V.pr p (k+1) t <:+s.data.toList:=(List.suffix_append _ _).trans (est▸hk2)
  have hk4:V.pr p (k+1) t <:+s.data.toList:=(List.suffix_append _ _).trans hk3
  refine Aw_skip (Aw_seq (Aw_block (Aw_sr ?_)))
  refine Al_al Tryz.zeroValue110 λg8=>?_
  refine Al_ns ?_
  refine Al_ml ?_
  refine Al_ml ?_
  refine Al_p (Pu_call (tread_y s (p.getD k default).key _ 32 hs (by omega) (by omega) est hk2) rfl ⟨Sub.rfl,Sub.rfl,Sub.rfl,trivial⟩) ?_
  refine Al_ml ?_
  refine Al_p Pu_ex ?_
  refine Al_p Pu_ex ?_
  refine Al_p Pu_ex ?_
  refine Al_p (Pu_fb 0 Tryz.underlying110 Tryz.sizeOf9) ?_
  refine Al_s1 Tryz.isAgg9 Tryz.sizeOf9 ?_
  refine Al_mr ?_
  refine Al_mr ?_
  refine Al_nil (Aw_seq (Aw_sr ?_))
  refine Al_ml ?_
  refine Al_p Pu_n ?_
  refine Al_nil ?_
  refine Aw_condF rfl (rfl) ?_
  refine Aw_skip (Aw_sr ?_)
  refine Al_ml ?_
  refine Al_ml ?_
  refine Al_p (Pu_call (sread_y s (p.getD k default).n (p.getD k default).s _ hs hsd hk3) rfl ⟨Sub.rfl,Sub.rfl,trivial⟩) ?_
  refine Al_ml ?_
  refine Al_p Pu_ex ?_
  refine Al_p Pu_ex ?_
  refine Al_p Pu_ex ?_
  refine Al_p (Pu_fb 1 Tryz.underlying110 Tryz.sizeOf47) ?_
  refine Al_sN Tryz.isAgg47 Tryz.sizeOf47 ?_
  refine Al_mr ?_
  refine Al_mr ?_
  refine Al_nil (Aw_seq (Aw_sr ?_))
  refine Al_ml ?_
  refine Al_p Pu_n ?_
  refine Al_nil ?_
  refine Aw_condF rfl (rfl) ?_
  refine Aw_skip (Aw_region ?_)
  refine Al_ml ?_
  refine Al_p (Pu_lbN (r:=[_,_,_]) Tryz.isAgg110 Tryz.sizeOf110) ?_
  refine Al_p (Pu_slice1 rfl Tryz.underlying48 Tryz.sizeOf110 Tryz.zeroValue110 rfl (by decide) (by decide) (by kernel_rfl) rfl rfl rfl) ?_
  refine Al_append rfl rfl rfl (by decide) (by kernel_rfl) elem48 (by decide) Tryz.sizeOf110 rfl rfl rfl (by simp;omega) (by decide) (λg48=>?_)
  refine Al_mr ?_
  refine Al_nil (Aw_region ?_)
  refine Al_p (Pu_int_add rfl rfl rfl (u64_nat (by omega) (by omega)).1 (λ_=>(u64_nat (by omega) (by omega)).2)) ?_
  refine Al_ml ?_
  refine Al_nil ?_
  exact⟨(k+1,g48),⟨by omega,hk4⟩,by simp only[];omega,Le.ov ⟨Sub.rfl,Sub.num (by omega),Sub.rfl,Sub.rfl,trivial⟩ ⟨Sub.rfl,Sub.rfl,trivial⟩ ⟨obeq (by rw[List.take_succ_eq_append_getElem hk,List.map_append];congr 1;simp[A.cellsA,Dep.row,hk]),trivial⟩ trivial⟩
 ·(try simp only[A.cd_]at h24)
  have e1:V.pr p k t=t:=V.pr_all t (by omega)
  have e2:p.take k=p:=List.take_of_length_le (by omega)
  refine Aw_exit (Aw_seq (Aw_seq ?_))
  refine Aw_frz hnl (k:=4) [4] rfl ⟨rfl,trivial⟩ ?_
  refine Aw_region ?_
  refine Al_ml ?_
  refine Al_p Pu_n ?_
  refine Al_ml ?_
  refine Al_s (St_g [] trivial (λ_=>Pu_mvl)) ?_
  refine Al_s (St_g [53] ⟨⟨_,rfl⟩,trivial⟩ (λ_=>Pu_call (pcheck_a (p.take k)) rfl ⟨Sub.rfl,trivial⟩)) ?_
  refine Al_s (St_g [54] ⟨⟨_,rfl⟩,trivial⟩ (λ_=>Pu_n)) ?_
  refine Al_p Pu_o ?_
  refine Al_nil ?_
  refine Aw_condF rfl ((by rw[e2,h];rfl)) ?_
  refine Aw_skip (Aw_sr ?_)
  refine Al_ml ?_
  refine Al_ml ?_
  refine Al_mr ?_
  refine Al_mr ?_
  refine Al_mr ?_
  refine Al_nil ?_
  exact Aw_ret (⟨_,_,_,rfl,(show Sub (.d (.sl 3 ((p.take k).map Dep.row))) (.d (.sl 3 (p.map Dep.row)))by rw[e2];exact Sub.rfl),(show Sub (.d (iv (V.pos s (V.pr p k t)))) (.d (iv (V.pos s t)))by rw[e1];exact Sub.rfl),Sub.rfl⟩)
end Go.Proofs.YtdnijgdmohinlaaGreat
end
section
namespace Go.Proofs.YtdnijgdmohinlaaGreat
open Go.RowKit A R
namespace V
abbrev WS:=Nat×Bool
def wcs (s:ByteArray) (p:WS):List AV:=[tv s,iv p.1,bv p.2]
def wokN (s:ByteArray) (most:Nat) (p:WS):Bool:=gotB s p.1&&decide ((gotN s p.1:Int)≤(most:Int))
def wnumS (s:ByteArray) (most:Nat) (p:WS):WS:=(gotE s p.1,p.2||!wokN s most p)
def wnumV (s:ByteArray) (most:Nat) (p:WS):Nat:=if (wnumS s most p).2 then 0 else gotN s p.1
def wtextS (s:ByteArray) (most:Nat) (p:WS):WS:=(rtE s p.1 most,p.2||!rtB s p.1 most)
theorem gotN_lt (s:ByteArray) (at_:Nat):gotN s at_<18446744073709551616:=by
 rcases got_cases s at_ with⟨_,h,_⟩|⟨n,t,_,h,_,_,h2,_⟩<;>omega
end V
set_option maxRecDepth 100000 in
theorem wmoves_m (s:ByteArray) (p:V.WS) (e:Nat) (ok:Bool):MCall Tryz.prog 259 313 (V.wcs s p) [iv e,bv ok] (some (V.wcs s (e,p.2||!ok),.tup [])):=by
 refine MC_1 Tryz.func259 Tryz.ntmps259 (Reads.r0 Tryz.results259) λhok hokc M0 w0 hlent=>?_
 refine Aw_sr ?_
 refine Al_ml ?_
 refine Al_ml ?_
 refine Al_p Pu_nb ?_
 refine Al_p (Pu_fb 1 Tryz.underlying313 Tryz.sizeOf3) ?_
 refine Al_s1 Tryz.isAgg3 Tryz.sizeOf3 ?_
 refine Al_nil (Aw_region ?_)
 refine Al_ml ?_
 refine Al_ml ?_
 refine Al_p Pu_nb ?_
 refine Al_p (Pu_fb 2 Tryz.underlying313 Tryz.sizeOf4) ?_
 refine Al_p (Pu_lb Tryz.isAgg4) ?_
 refine Al_ml ?_
 refine Al_s (St_g [] trivial (λ_=>Pu_mvl)) ?_
 refine Al_s (St_g [16] ⟨⟨_,rfl⟩,trivial⟩ (λ_=>Pu_n)) ?_
 refine Al_p Pu_o ?_
 refine Al_p Pu_nb ?_
 refine Al_p (Pu_fb 2 Tryz.underlying313 Tryz.sizeOf4) ?_
 refine Al_s1 Tryz.isAgg4 Tryz.sizeOf4 ?_
 refine Al_nil ?_
 exact⟨_,_,rfl,rfl,rfl⟩
set_option maxRecDepth 100000 in
theorem wnum_m (s:ByteArray) (p:V.WS) (most:Nat) (hs:s.size≤1000000) (hm:most≤1000000):MCall Tryz.prog 256 313 (V.wcs s p) [uv most] (some (V.wcs s (V.wnumS s most p),iv (V.wnumV s most p:Nat))):=by
 refine MC_1 Tryz.func256 Tryz.ntmps256 (Reads.r1 Tryz.results256) λhok hokc M0 w0 hlent=>?_
 have hN:=V.gotN_lt s p.1
 refine Aw_sr ?_
 refine Al_mr ?_
 refine Al_nil (Aw_seq ?_)
 refine Aw_dr 16 ?_
 refine Dr_ml ?_
 refine Dr_p Pu_nb ?_
 refine Dr_p (Pu_fb 0 Tryz.underlying313 Tryz.sizeOf9) ?_
 refine Dr_p (Pu_lb Tryz.isAgg9) ?_
 refine Dr_ml ?_
 refine Dr_p Pu_nb ?_
 refine Dr_p (Pu_fb 1 Tryz.underlying313 Tryz.sizeOf3) ?_
 refine Dr_p (Pu_lb Tryz.isAgg3) ?_
 refine Dr_p (Pu_call (vread_a s p.1 hs) rfl ⟨Sub.rfl,Sub.rfl,trivial⟩) ?_
 refine Dr_ml ?_
 refine Dr_p Pu_ex ?_
 refine Dr_p Pu_ex ?_
 refine Dr_p Pu_ex ?_
 refine Dr_p Pu_mvr ?_
 refine Dr_p Pu_mvr ?_
 refine Dr_p Pu_mvr ?_
 refine Dr_nil (Al_ns ?_)
 refine Al_ml ?_
 refine Al_ml ?_
 refine Al_ml ?_
 refine Al_ml ?_
 refine Al_s (St_g [] trivial (λ_=>Pu_mvl)) ?_
 refine Al_s (St_g [] trivial (λ_=>Pu_mvl)) ?_
 refine Al_s (St_g [25,26] ⟨⟨_,rfl⟩,⟨_,rfl⟩,trivial⟩ (λ_=>Pu_cp)) ?_
 refine Al_p Pu_a ?_
 refine Al_mcall (wmoves_m s p (V.gotE s p.1) (V.wokN s most p)) rfl rfl rfl (by decide) (by kernel_rfl) rfl rfl ⟨Sub.rfl,Sub.rfl,trivial⟩ ?_
 refine Al_nil (Aw_seq (Aw_sr ?_))
 refine Al_ml ?_
 refine Al_p Pu_nb ?_
 refine Al_p (Pu_fb 2 Tryz.underlying313 Tryz.sizeOf4) ?_
 refine Al_p (Pu_lb Tryz.isAgg4) ?_
 refine Al_nil ?_
 refine Aw_cond rfl (λh33=>?_) (λh33=>?_)
 ·skip
  have hb:(V.wnumS s most p).2=true:=h33
  refine Aw_sr ?_
  refine Al_mr ?_
  refine Al_nil ?_
  exact Aw_ret (⟨_,_,rfl,Sub.num (by unfold V.wnumV;rw[if_pos hb];rfl),rfl⟩)
 ·skip
  have hb:(V.wnumS s most p).2=false:=h33
  have hle:V.gotN s p.1≤most:=by
   have h1:(p.2||!V.wokN s most p)=false:=hb
   simp only[Bool.or_eq_false_iff,Bool.not_eq_false']at h1
   have h2:=h1.2
   unfold V.wokN at h2
   simp only[Bool.and_eq_true,decide_eq_true_eq]at h2
   omega
  refine Aw_skip (Aw_sr ?_)
  refine Al_ml ?_
  refine Al_p (Pu_conv rfl Tryz.underlying271 Tryz.underlying3 rfl (λhv=>i64_nat (by simp only[A.inI];omega))) ?_
  refine Al_mr ?_
  refine Al_nil ?_
  exact Aw_ret (⟨_,_,rfl,Sub.num (by unfold V.wnumV;rw[if_neg (by rw[hb];simp)]),rfl⟩)
set_option maxRecDepth 100000 in
theorem wtext_m (s:ByteArray) (p:V.WS) (most:Nat) (hs:s.size≤1000000) (hm:most≤1000000):MCall Tryz.prog 255 313 (V.wcs s p) [iv most] (some (V.wcs s (V.wtextS s most p),tv (V.rtT s p.1 most))):=by
 refine MC_1 Tryz.func255 Tryz.ntmps255 (Reads.r1 Tryz.results255) λhok hokc M0 w0 hlent=>?_
 refine Aw_sr ?_
 refine Al_mr ?_
 refine Al_nil (Aw_seq ?_)
 refine Aw_dr 17 ?_
 refine Dr_ml ?_
 refine Dr_p Pu_nb ?_
 refine Dr_p (Pu_fb 0 Tryz.underlying313 Tryz.sizeOf9) ?_
 refine Dr_p (Pu_lb Tryz.isAgg9) ?_
 refine Dr_ml ?_
 refine Dr_p Pu_nb ?_
 refine Dr_p (Pu_fb 1 Tryz.underlying313 Tryz.sizeOf3) ?_
 refine Dr_p (Pu_lb Tryz.isAgg3) ?_
 refine Dr_ml ?_
 refine Dr_p (Pu_call (readtext_a s p.1 most hs hm) rfl ⟨Sub.rfl,Sub.rfl,Sub.rfl,trivial⟩) ?_
 refine Dr_ml ?_
 refine Dr_p Pu_ex ?_
 refine Dr_p Pu_ex ?_
 refine Dr_p Pu_ex ?_
 refine Dr_p Pu_mvr ?_
 refine Dr_p Pu_mvr ?_
 refine Dr_p Pu_mvr ?_
 refine Dr_nil (Al_ns ?_)
 refine Al_ml ?_
 refine Al_ml ?_
 refine Al_ml ?_
 refine Al_mcall (wmoves_m s p (V.rtE s p.1 most) (V.rtB s p.1 most)) rfl rfl rfl (by decide) (by kernel_rfl) rfl rfl ⟨Sub.rfl,Sub.rfl,trivial⟩ ?_
 refine Al_ns ?_
 refine Al_ml ?_
 refine Al_mr ?_
 refine Al_nil ?_
 exact Aw_ret (⟨_,_,rfl,Sub.rfl,rfl⟩)
set_option maxRecDepth 100000 in
theorem wdone_m (s:ByteArray) (p:V.WS):MCall Tryz.prog 260 313 (V.wcs s p) [] (some (V.wcs s p,bv (!p.2&&decide ((p.1:Int)=(s.size:Int))))):=by
 refine MC_1 Tryz.func260 Tryz.ntmps260 (Reads.r1 Tryz.results260) λhok hokc M0 w0 hlent=>?_
 refine Aw_sr ?_
 refine Al_mr ?_
 refine Al_nil (Aw_seq ?_)
 refine Aw_dr 17 ?_
 refine Dr_ml ?_
 refine Dr_p Pu_nb ?_
 refine Dr_p (Pu_fb 2 Tryz.underlying313 Tryz.sizeOf4) ?_
 refine Dr_p (Pu_lb Tryz.isAgg4) ?_
 refine Dr_p Pu_n ?_
 refine Dr_ml ?_
 refine Dr_s (St_g [] trivial (λ_=>Pu_mvl)) ?_
 refine Dr_s (St_g [9] ⟨⟨_,rfl⟩,trivial⟩ (λ_=>Pu_nb)) ?_
 refine Dr_s (St_g [10] ⟨⟨_,rfl⟩,trivial⟩ (λ_=>Pu_fb 1 Tryz.underlying313 Tryz.sizeOf3)) ?_
 refine Dr_s (St_g [11] ⟨⟨_,rfl⟩,trivial⟩ (λ_=>Pu_lb Tryz.isAgg3)) ?_
 refine Dr_s (St_g [] trivial (λ_=>Pu_mvl)) ?_
 refine Dr_s (St_g [13] ⟨⟨_,rfl⟩,trivial⟩ (λ_=>Pu_nb)) ?_
 refine Dr_s (St_g [14] ⟨⟨_,rfl⟩,trivial⟩ (λ_=>Pu_fb 0 Tryz.underlying313 Tryz.sizeOf9)) ?_
 refine Dr_s (St_g [15] ⟨⟨_,rfl⟩,trivial⟩ (λ_=>Pu_lb Tryz.isAgg9)) ?_
 refine Dr_s (St_g [16] ⟨⟨_,rfl⟩,trivial⟩ (λ_=>Pu_lenS rfl Tryz.underlying9 rfl)) ?_
 refine Dr_s (St_g [12,17] ⟨⟨_,rfl⟩,⟨_,rfl⟩,trivial⟩ (λ_=>Pu_cp)) ?_
 refine Dr_p Pu_a ?_
 refine Dr_nil ?_
 refine Al_mr ?_
 refine Al_nil ?_
 exact Aw_ret (⟨_,_,rfl,Sub.rfl,rfl⟩)
end Go.Proofs.YtdnijgdmohinlaaGreat
end
section
set_option maxRecDepth 100000
namespace Go.Proofs.YtdnijgdmohinlaaGreat
open Go Go.RowKit A R
theorem wtext_y (s x:ByteArray) {r t:List UInt8}(most:Nat) (hs:s.size≤1000000) (hm:most≤1000000) (hx:x.size≤most) (hre:r=V.text x++t) (hr:r <:+s.data.toList):MCall Tryz.prog 255 313 (V.wcs s (V.pos s r,false)) [iv most] (some (V.wcs s (V.pos s t,false),tv x)):=by
 subst hre
 have h1:V.ptext most (s.data.toList.drop (V.pos s (V.text x++t)))=some (x.data.toList,t):=by
  rw[V.drop_suf hr]
  exact(V.ptext_iff (by omega)).2 ⟨by rw[Array.length_toList];exact hx,by rw[V.ba_data]⟩
 obtain⟨e1,e2,e3⟩:=V.rt_some h1
 have:=wtext_m s (V.pos s (V.text x++t),false) most hs hm
 unfold V.wtextS at this
 rw[e1,e2,e3,V.ba_data]at this
 exact this
theorem wnum_y (s:ByteArray) (n:Nat) {r t:List UInt8}(most:Nat) (hs:s.size≤1000000) (hm:most≤1000000) (hx:n≤most) (hre:r=V.num n++t) (hr:r <:+s.data.toList):MCall Tryz.prog 256 313 (V.wcs s (V.pos s r,false)) [uv most] (some (V.wcs s (V.pos s t,false),iv n)):=by
 subst hre
 have h1:V.rdB (s.data.toList.drop (V.pos s (V.num n++t)))=some (n,t):=by
  rw[V.drop_suf hr];exact V.rdB_num (by omega) t
 obtain⟨e1,e2,e3⟩:=V.got_some h1
 have:=wnum_m s (V.pos s (V.num n++t),false) most hs hm
 have hd:decide ((n:Int)≤(most:Int))=true:=decide_eq_true (by omega)
 unfold V.wnumV V.wnumS V.wokN at this
 simp only[e1,e2,e3,hd,Bool.and_self,Bool.not_true,Bool.or_self,Bool.false_eq_true,if_false]at this
 exact this
theorem V.gn_eq (v:Ver):{v with gone:=decide ((V.gn v:Int)=1)}=v:=by
 have:decide ((V.gn v:Int)=1)=v.gone:=by cases hg:v.gone<;>simp[V.gn,hg]
 rw[this]
theorem wireread_a (v:Ver) (h:J.checkB v=true):ACall Tryz.prog 169 [tv (V.ba (V.verB v))] (.tup [.row v.row,bv true]):=by
 have hv:=V.ver_len h
 obtain⟨s,hsd⟩:∃s,s=V.ba (V.verB v):=⟨_,rfl⟩
 have hsz:s.size=(V.verB v).length:=by rw[hsd,A.ba_sz]
 have hs:s.size≤1000000:=by omega
 have hda:s.data.toList=V.verB v:=by rw[hsd,V.data_ba]
 obtain⟨r4,e4⟩:∃r4,r4=V.num v.past.length++V.pr v.past 0 []:=⟨_,rfl⟩
 obtain⟨r3,e3⟩:∃r3,r3=V.stamp v.n v.s++r4:=⟨_,rfl⟩
 obtain⟨r2,e2⟩:∃r2,r2=V.text v.value++r3:=⟨_,rfl⟩
 obtain⟨r1,e1⟩:∃r1,r1=V.num (V.gn v)++r2:=⟨_,rfl⟩
 have e0:V.verB v=V.text v.key++r1:=by rw[e1,e2,e3,e4,←V.pr_zero];simp[V.verB]
 have f0:V.verB v <:+s.data.toList:=by rw[hda];exact List.suffix_refl _
 have f1:r1 <:+s.data.toList:=(List.suffix_append _ _).trans (e0▸f0)
 have f2:r2 <:+s.data.toList:=(List.suffix_append _ _).trans (e1▸f1)
 have f3:r3 <:+s.data.toList:=(List.suffix_append _ _).trans (e2▸f2)
 have f4:r4 <:+s.data.toList:=(List.suffix_append _ _).trans (e3▸f3)
 have hp0:V.pos s (V.verB v)=0:=by show s.size - _=0;omega
 have hb:V.stampB v.n v.s=true:=by
  unfold J.checkB at h
  simp only[Bool.and_eq_true]at h
  exact h.2.1
 have m0:=wtext_y s v.key 32 hs (by omega) (J.ver_key h) e0 f0
 rw[hp0]at m0
 have g:=V.gn_le v
 rw[←hsd]
 have c3:=sread_y s v.n v.s r4 hs hb (e3▸f3)
 rw[←e3]at c3
 have c4:=pastread_a s v.past [] hs (J.ver_past h) (e4▸f4)
 rw[←e4]at c4
 refine AC_G Tryz.func169 Tryz.ntmps169 (Reads.cN1 Tryz.results169 Tryz.isAgg50 Tryz.sizeOf50) λhok M0 w0 hnl=>?_
 refine Aw_sr ?_
 refine Al_al Tryz.zeroValue50 λg2=>?_
 refine Al_mr ?_
 refine Al_ns ?_
 refine Al_ml ?_
 refine Al_p (Pu_build (aa:=[(0,_)]) rfl Tryz.underlying313 Tryz.zeroValue313 places313 (by kernel_rfl) ⟨rfl,rfl,rfl,trivial⟩ rfl) ?_
 refine Al_boxN rfl rfl rfl (by decide) (by kernel_rfl) rfl (λg14=>?_)
 refine Al_mr ?_
 refine Al_ns ?_
 refine Al_ml ?_
 refine Al_mcall (m0) rfl rfl rfl (by decide) (by kernel_rfl) rfl rfl ⟨Sub.rfl,trivial⟩ ?_
 refine Al_p (Pu_build (aa:=[(0,_)]) rfl Tryz.underlying50 Tryz.zeroValue50 places50 (by kernel_rfl) ⟨rfl,rfl,rfl,trivial⟩ rfl) ?_
 refine Al_al Tryz.zeroValue50 λg5=>?_
 refine Al_sN Tryz.isAgg50 Tryz.sizeOf50 ?_
 refine Al_nil (Aw_seq (Aw_sr ?_))
 refine Al_ml ?_
 refine Al_p Pu_nb ?_
 refine Al_p (Pu_fb 2 Tryz.underlying313 Tryz.sizeOf4) ?_
 refine Al_p (Pu_lb Tryz.isAgg4) ?_
 refine Al_nil ?_
 refine Aw_condF rfl (rfl) ?_
 refine Aw_skip (Aw_sr ?_)
 refine Al_ml ?_
 refine Al_mcall (wnum_y s (V.gn v) 1 hs (by omega) g e1 f1) rfl rfl rfl (by decide) (by kernel_rfl) rfl rfl ⟨Sub.rfl,trivial⟩ ?_
 refine Al_p Pu_cp ?_
 refine Al_p (Pu_fb 2 Tryz.underlying50 Tryz.sizeOf4) ?_
 refine Al_s1 Tryz.isAgg4 Tryz.sizeOf4 ?_
 refine Al_nil (Aw_seq (Aw_sr ?_))
 refine Al_ml ?_
 refine Al_p Pu_nb ?_
 refine Al_p (Pu_fb 2 Tryz.underlying313 Tryz.sizeOf4) ?_
 refine Al_p (Pu_lb Tryz.isAgg4) ?_
 refine Al_nil ?_
 refine Aw_condF rfl (rfl) ?_
 refine Aw_skip (Aw_sr ?_)
 refine Al_ml ?_
 refine Al_mcall (wtext_y s v.value 32 hs (by omega) (J.ver_val h) e2 f2) rfl rfl rfl (by decide) (by kernel_rfl) rfl rfl ⟨Sub.rfl,trivial⟩ ?_
 refine Al_p (Pu_fb 1 Tryz.underlying50 Tryz.sizeOf9) ?_
 refine Al_s1 Tryz.isAgg9 Tryz.sizeOf9 ?_
 refine Al_nil (Aw_seq (Aw_sr ?_))
 refine Al_ml ?_
 refine Al_p Pu_nb ?_
 refine Al_p (Pu_fb 2 Tryz.underlying313 Tryz.sizeOf4) ?_
 refine Al_p (Pu_lb Tryz.isAgg4) ?_
 refine Al_nil ?_
 refine Aw_condF rfl (rfl) ?_
 refine Aw_skip (Aw_sr ?_)
 refine Al_ml ?_
 refine Al_ml ?_
 refine Al_p Pu_nb ?_
 refine Al_p (Pu_fb 1 Tryz.underlying313 Tryz.sizeOf3) ?_
 refine Al_p (Pu_lb Tryz.isAgg3) ?_
 refine Al_p (Pu_call (c3) rfl ⟨Sub.rfl,Sub.rfl,trivial⟩) ?_
 refine Al_ml ?_
 refine Al_p Pu_ex ?_
 refine Al_p Pu_ex ?_
 refine Al_p Pu_ex ?_
 refine Al_al Tryz.zeroValue47 λg6=>?_
 refine Al_sN Tryz.isAgg47 Tryz.sizeOf47 ?_
 refine Al_mr ?_
 refine Al_mr ?_
 refine Al_ns ?_
 refine Al_ml ?_
 refine Al_ml ?_
 refine Al_p (Pu_call (c4) rfl ⟨Sub.rfl,Sub.rfl,trivial⟩) ?_
 refine Al_ml ?_
 refine Al_p Pu_ex ?_
 refine Al_p Pu_ex ?_
 refine Al_p Pu_ex ?_
 refine Al_mr ?_
 refine Al_mr ?_
 refine Al_mr ?_
 refine Al_ns ?_
 refine Al_p (Pu_lbN (r:=[_,_]) Tryz.isAgg47 Tryz.sizeOf47) ?_
 refine Al_ml ?_
 refine Al_p (Pu_fb 3 Tryz.underlying50 Tryz.sizeOf47) ?_
 refine Al_sN Tryz.isAgg47 Tryz.sizeOf47 ?_
 refine Al_p (Pu_fb 5 Tryz.underlying50 Tryz.sizeOf48) ?_
 refine Al_s1 Tryz.isAgg48 Tryz.sizeOf48 ?_
 refine Al_ns ?_
 refine Al_ml ?_
 refine Al_ml ?_
 refine Al_ml ?_
 refine Al_ml ?_
 refine Al_s (St_g [] trivial (λ_=>Pu_mvl)) ?_
 refine Al_p Pu_a ?_
 refine Al_mcall (wmoves_m s (V.pos s r3,false) (V.pos s []) true) rfl rfl rfl (by decide) (by kernel_rfl) rfl rfl ⟨Sub.rfl,Sub.rfl,trivial⟩ ?_
 refine Al_nil (Aw_seq (Aw_sr ?_))
 refine Al_ml ?_
 refine Al_mcall (wdone_m s (V.pos s [],false)) rfl rfl rfl (by decide) (by kernel_rfl) rfl rfl trivial ?_
 refine Al_p Pu_n ?_
 refine Al_ml ?_
 refine Al_s (St_g [] trivial (λ_=>Pu_lbN (r:=[_,_,_,_,_,_]) Tryz.isAgg50 Tryz.sizeOf50)) ?_
 refine Al_s (St_g [72] ⟨⟨_,rfl⟩,trivial⟩ (λ_=>Pu_call (wcheck_a {v with gone:=decide ((V.gn v:Int)=1)}) rfl ⟨Sub.rfl,trivial⟩)) ?_
 refine Al_s (St_g [73] ⟨⟨_,rfl⟩,trivial⟩ (λ_=>Pu_n)) ?_
 refine Al_p Pu_o ?_
 refine Al_nil ?_
 refine Aw_condF rfl ((by rw[V.gn_eq,h];simp[V.pos])) ?_
 refine Aw_skip (Aw_sr ?_)
 refine Al_p (Pu_lbN (r:=[_,_,_,_,_,_]) Tryz.isAgg50 Tryz.sizeOf50) ?_
 refine Al_sN Tryz.isAgg50 Tryz.sizeOf50 ?_
 refine Al_mr ?_
 refine Al_nil ?_
 exact Aw_ret (⟨2,g2,0,_,_,[_,_,_,_,_,_],_,rfl,rfl,rfl,rfl,Sub.rfl,congrArg (λu:Ver=>AV.tup [.row u.row,bv true]) (V.gn_eq v).symm⟩)
end Go.Proofs.YtdnijgdmohinlaaGreat
end
section
set_option maxRecDepth 100000
namespace Go.Proofs.YtdnijgdmohinlaaGreat
open Go Go.RowKit A R
structure VS where
 sn:Int
 op:List (Int×Ver)
 rn:Int
 way:List (Int×Ver)
instance:Inhabited VS:=⟨⟨0,[],0,[]⟩⟩
namespace VS
def pk (p:Int×Ver):Pk:=⟨p.1,V.ba (V.verB p.2)⟩
def ses (s:VS):Ses:=⟨s.sn,s.op.map pk,s.rn,s.way.map pk⟩
def send (s:VS) (v:Ver):VS:=if 8≤s.op.length then s else⟨s.sn+1,s.op++[(s.sn,v)],s.rn,s.way++[(s.sn,v)]⟩
def inW (s:VS) (k:Int):Bool:=decide (0≤k)&&decide (k<s.way.length)
def at' (s:VS) (k:Int):Int×Ver:=s.way.getD k.toNat default
def would (s:VS) (k:Int):Bool:=decide ((s.at' k).1=s.rn)
def ansN (s:VS) (seq:Int):Nat:=if seq>s.sn then 0 else(s.op.takeWhile λp=>decide (p.1<seq)).length
def answer (s:VS) (seq:Int):VS:={s with op:=s.op.drop (s.ansN seq)}
def out (s:VS) (k:Int):VS:={s with way:=s.way.take k.toNat++s.way.drop (k.toNat+1)}
def took (s:VS) (q:Int):VS:=if q=s.rn then answer {s with rn:=s.rn+1} (s.rn+1)else s
def pick (s:VS) (k how:Int):VS :=
 if N.hw3 how=2 then(if s.way.length<32 then{s with way:=s.way++[s.at' k]}else s)
 else if N.hw3 how=1 then s.out k
 else(s.out k).took (s.at' k).1
def againN (s:VS):Nat:=min s.op.length (32 - s.way.length)
def again (s:VS):VS:={s with way:=s.way++s.op.take s.againN}
theorem ses_inj_len (s:VS):s.ses.op.length=s.op.length∧s.ses.way.length=s.way.length:=by simp[ses]
theorem send_ses (s:VS) (v:Ver):N.send s.ses (V.ba (V.verB v))=(s.send v).ses:=by
 unfold N.send send L.sendS L.sendO L.sendP
 simp only[ses,List.length_map]
 split<;>simp[pk]
theorem at_pk {s:VS}{k:Int}(h:s.inW k=true):s.ses.way.getD k.toNat default=pk (s.at' k):=by
 unfold inW at h
 simp only[Bool.and_eq_true,decide_eq_true_eq]at h
 unfold at' ses
 have:k.toNat<s.way.length:=by omega
 simp[this]
theorem inW_ses (s:VS) (k:Int):N.inW s.ses k=s.inW k:=by unfold N.inW inW;simp[ses]
theorem would_ses {s:VS}{k:Int}(h:s.inW k=true):N.would s.ses k=s.would k:=by
 unfold N.would would
 rw[at_pk h]
 unfold inW at h
 simp only[Bool.and_eq_true,decide_eq_true_eq]at h
 simp only[(s.ses_inj_len).2,h.1,h.2,decide_true,Bool.true_and]
 rfl
theorem wouldD_ses {s:VS}{k:Int}(h:s.inW k=true) (hw:s.would k=true):N.wouldD s.ses k=V.ba (V.verB (s.at' k).2):=by
 unfold N.wouldD
 rw[would_ses h,if_pos hw,at_pk h];rfl
theorem ansN_ses (s:VS) (seq:Int):L.ansN s.ses.sn s.ses.op seq=s.ansN seq:=by
 unfold L.ansN ansN ses
 simp only[List.takeWhile_map,List.length_map]
 split
 ·rfl
 ·rfl
theorem answer_ses (s:VS) (seq:Int):N.answer s.ses seq=(s.answer seq).ses:=by
 unfold N.answer answer
 rw[ansN_ses]
 simp[ses]
theorem out_ses (s:VS) (k:Int):N.out s.ses k=(s.out k).ses:=by
 unfold N.out out
 simp[ses]
theorem took_ses (s:VS) (p:Int×Ver):N.took s.ses (pk p)=(s.took p.1).ses:=by
 unfold N.took took
 show(if p.1=s.rn then _ else _)=_
 split
 ·have:=answer_ses {s with rn:=s.rn+1} (s.rn+1)
  rw[←this];rfl
 ·rfl
theorem pick_ses {s:VS}{k:Int}(how:Int) (h:s.inW k=true):N.pick s.ses k how=(s.pick k how).ses:=by
 unfold N.pick pick
 rw[inW_ses,h,if_neg (by simp),at_pk h,(s.ses_inj_len).2,out_ses,took_ses]
 split
 ·split
  ·simp[ses]
  ·rfl
 ·split<;>rfl
theorem again_ses (s:VS):N.again s.ses=s.again.ses∧N.againN s.ses=s.againN:=by
 have h:N.againN s.ses=s.againN:=by unfold N.againN againN;simp[ses]
 refine⟨?_,h⟩
 unfold N.again again
 rw[h]
 simp[ses]
structure Fit (m:Nat) (s:VS):Prop where
 op:s.op.length≤8
 way:s.way.length≤m
 sn:0≤s.sn∧s.sn≤m
 rn:0≤s.rn∧s.rn≤m
 vo:∀p∈s.op,J.checkB p.2=true
 vw:∀p∈s.way,J.checkB p.2=true
theorem Fit.ses {m:Nat}{s:VS}(h:s.Fit m):N.Fit m s.ses:=⟨by rw[(s.ses_inj_len).1];exact h.op,by rw[(s.ses_inj_len).2];exact h.way,h.sn,h.rn⟩
theorem Fit.mono {m m':Nat}{s:VS}(h:s.Fit m) (hm:m≤m'):s.Fit m':=⟨h.op,by have:=h.way;omega,by have:=h.sn;omega,by have:=h.rn;omega,h.vo,h.vw⟩
theorem Fit.send {m:Nat}{s:VS}(h:s.Fit m) {v:Ver}(hv:J.checkB v=true):(s.send v).Fit (m+1):=by
 obtain⟨h1,h2,h3,h4,h5,h6⟩:=h
 unfold VS.send
 split
 ·exact⟨h1,by omega,by omega,by omega,h5,h6⟩
 ·refine⟨by simp;omega,by simp;omega,by simp only[];omega,by simp only[];omega,λp hp=>?_,λp hp=>?_⟩ <;>
  ·rcases List.mem_append.1 hp with hp|hp
   ·first|exact h5 p hp|exact h6 p hp
   ·rw[List.mem_singleton.1 hp];exact hv
theorem mem_at {s:VS}{k:Int}(h:s.inW k=true):s.at' k∈s.way:=by
 unfold inW at h
 simp only[Bool.and_eq_true,decide_eq_true_eq]at h
 have hk:k.toNat<s.way.length:=by omega
 have:s.at' k=s.way[k.toNat]:=by unfold at';simp[hk]
 rw[this];exact List.getElem_mem hk
theorem Fit.out {m:Nat}{s:VS}(h:s.Fit m) (k:Int):(s.out k).Fit m:=by
 obtain⟨h1,h2,h3,h4,h5,h6⟩:=h
 refine⟨h1,?_,h3,h4,h5,λp hp=>?_⟩
 ·simp only[VS.out,List.length_append,List.length_take,List.length_drop];omega
 ·simp only[VS.out,List.mem_append]at hp
  rcases hp with hp|hp
  ·exact h6 p (List.mem_of_mem_take hp)
  ·exact h6 p (List.mem_of_mem_drop hp)
theorem Fit.took {m:Nat}{s:VS}(h:s.Fit m) (q:Int):(s.took q).Fit (m+1):=by
 obtain⟨h1,h2,h3,h4,h5,h6⟩:=h
 unfold VS.took
 split
 ·refine⟨?_,by simp only[answer];omega,by simp only[answer];omega,by simp only[answer];omega,λp hp=>h5 p (List.mem_of_mem_drop hp),h6⟩
  simp only[answer,List.length_drop];omega
 ·exact⟨h1,by omega,by omega,by omega,h5,h6⟩
theorem Fit.pick {m:Nat}{s:VS}(h:s.Fit m) {k:Int}(how:Int) (hk:s.inW k=true) (hm:32≤m):(s.pick k how).Fit (m+1):=by
 unfold VS.pick
 split
 ·split
  ·obtain⟨h1,h2,h3,h4,h5,h6⟩:=h
   refine⟨h1,by simp;omega,by simp only[];omega,by simp only[];omega,h5,λp hp=>?_⟩
   rcases List.mem_append.1 hp with hp|hp
   ·exact h6 p hp
   ·rw[List.mem_singleton.1 hp];exact h6 _ (mem_at hk)
  ·exact h.mono (by omega)
 ·split
  ·exact(h.out k).mono (by omega)
  ·exact(h.out k).took _
theorem Fit.again {m:Nat}{s:VS}(h:s.Fit m) (hm:32≤m):s.again.Fit m:=by
 obtain⟨h1,h2,h3,h4,h5,h6⟩:=h
 refine⟨h1,?_,h3,h4,h5,λp hp=>?_⟩
 ·simp only[VS.again,List.length_append,List.length_take,againN];omega
 ·rcases List.mem_append.1 hp with hp|hp
  ·exact h6 p hp
  ·exact h5 p (List.mem_of_mem_take hp)
end VS
namespace N
abbrev vX (np:List Value) (Y:List VS):XS:=np.zip (Y.map VS.ses)
def vAt (n:Nat) (Y:List VS) (a b:Int):Option VS:=(idx n a b).bind λi=>Y[i]?
def vUpd (n:Nat) (Y:List VS) (a b:Int) (f:VS→VS):List VS:=match idx n a b with
 | some i=>(match Y[i]? with|some s=>Y.set i (f s)|none=>Y)
 | none=>Y
variable {n:Nat}{np:List Value}{Y:List VS}
theorem vX_len (hl:np.length=Y.length):(vX np Y).length=Y.length:=by simp[vX,hl]
theorem vX_get (hl:np.length=Y.length) {i:Nat}(hi:i<Y.length):(vX np Y)[i]?=some (np[i]'(by omega),(Y[i]).ses):=by
 rw[List.getElem?_eq_getElem (by rw[vX_len hl];exact hi)]
 simp[vX]
theorem vX_none (hl:np.length=Y.length) {i:Nat}(hi:¬i<Y.length):(vX np Y)[i]?=none:=List.getElem?_eq_none (by rw[vX_len hl];omega)
theorem vAt_ses (hl:np.length=Y.length) (a b:Int):at' n (vX np Y) a b=(vAt n Y a b).map VS.ses:=by
 unfold at' vAt
 cases idx n a b with
 | none=>rfl
 | some i =>
  simp only[Option.bind_some]
  by_cases hi:i<Y.length
  ·rw[vX_get hl hi,List.getElem?_eq_getElem hi];rfl
  ·rw[vX_none hl hi,List.getElem?_eq_none (by omega)];rfl
theorem vAsk {α:Type}(hl:np.length=Y.length) (a b:Int) (z:α) (f:Ses→α):ask n (vX np Y) a b z f=(match vAt n Y a b with|some s=>f s.ses|none=>z):=by
 unfold ask
 rw[vAt_ses hl]
 cases vAt n Y a b<;>rfl
theorem vUpd_ses (hl:np.length=Y.length) (a b:Int) {F:Ses→Ses}{f:VS→VS}(hF:∀s,vAt n Y a b=some s→F s.ses=(f s).ses):upd n (vX np Y) a b F=vX np (vUpd n Y a b f):=by
 unfold upd vUpd
 unfold vAt at hF
 cases hx:idx n a b with
 | none=>rfl
 | some i =>
  simp only[hx,Option.bind_some]at hF
  by_cases hi:i<Y.length
  ·rw[List.getElem?_eq_getElem hi]at hF
   simp only[vX_get hl hi,List.getElem?_eq_getElem hi]
   rw[hF _ rfl]
   refine List.ext_getElem (by simp[vX]) λj h1 h2=>?_
   simp only[vX,List.getElem_set,List.getElem_zip,List.getElem_map]
   split
   ·subst j;rfl
   ·rfl
  ·simp only[vX_none hl hi,List.getElem?_eq_none (show Y.length≤i by omega)]
theorem vUpd_len (Y:List VS) (a b:Int) (f:VS→VS):(vUpd n Y a b f).length=Y.length:=by
 unfold vUpd
 split
 ·split<;>simp
 ·rfl
theorem vAt_mem {a b:Int}{s:VS}(h:vAt n Y a b=some s):s∈Y:=by
 unfold vAt at h
 obtain⟨i,_,h⟩:=Option.bind_eq_some_iff.1 h
 exact List.mem_of_getElem? h
theorem vUpd_fit {m m':Nat}{a b:Int}{f:VS→VS}(h:∀s∈Y,s.Fit m) (hm:m≤m') (hf:∀s,vAt n Y a b=some s→(f s).Fit m'):∀s∈vUpd n Y a b f,s.Fit m':=by
 intro s hs
 unfold vUpd at hs
 unfold vAt at hf
 cases hi:idx n a b with
 | none=>rw[hi]at hs;exact(h s hs).mono hm
 | some i =>
  rw[hi]at hs hf
  simp only[Option.bind_some]at hf
  cases hy:Y[i]? with
  | none=>simp only[hy]at hs;exact(h s hs).mono hm
  | some x =>
   simp only[hy]at hs
   rcases List.mem_or_eq_of_mem_set hs with hs|rfl
   ·exact(h s hs).mono hm
   ·exact hf x hy
theorem vX_fit {m:Nat}(h:∀s∈Y,s.Fit m):∀p∈vX np Y,Fit m p.2:=λp hp=>by
 obtain⟨s,hs,e⟩:=List.mem_map.1 (List.of_mem_zip (a:=p.1) (b:=p.2) hp).2
 rw[←e];exact(h s hs).ses
theorem vX_places (h:∀v∈np,∃a,v=.pointer (some a)):Places (vX np Y):=λx hx=>h x.1 (List.of_mem_zip (a:=x.1) (b:=x.2) hx).1
theorem vX_idle (hl:np.length=Y.length):idle (vX np Y)=Y.all (·.op.isEmpty):=by
 unfold idle vX
 rw[show(λp:Value×Ses=>p.2.op.isEmpty)=(λs:Ses=>s.op.isEmpty)∘Prod.snd from rfl,←List.all_map,List.map_snd_zip (by simp[hl]),List.all_map]
 congr 1
 funext s
 simp[VS.ses]
theorem vX_full (hl:np.length=Y.length) (h:∀i,i<Y.length→∃c:H.SK,idx n c.1 c.2=some i):Full n (vX np Y):=λi hi=>h i (by rw[vX_len hl]at hi;exact hi)
end N
end Go.Proofs.YtdnijgdmohinlaaGreat
end
section
set_option maxRecDepth 100000
namespace Go.Proofs.YtdnijgdmohinlaaGreat
open Go.RowKit A R
open A.RowT
namespace J
def andI (x m:Int):Int:=IntKind.i64.wrap (BitVec.ofInt 64 x&&&BitVec.ofInt 64 m).toNat
theorem andI_le (x:Int) (m:Nat) (hm:m<1000):0≤andI x m∧andI x m≤m:=by
 unfold andI
 have h1:(BitVec.ofInt 64 x&&&BitVec.ofInt 64 (m:Int)).toNat≤m:=by
  rw[BitVec.toNat_and]
  refine Nat.le_trans Nat.and_le_right ?_
  rw[BitVec.toNat_ofInt]
  omega
 generalize (BitVec.ofInt 64 x&&&BitVec.ofInt 64 (m:Int)).toNat=z at h1
 rw[IntKind.wrap_i64]
 omega
def byte1 (z:Int):ByteArray:=V.ba [UInt8.ofNat z.toNat]
def word (n:Int):ByteArray:=byte1 (97+3*andI n 7)
def ranges (n:Int):List Rng:=if andI n 3=0 then[⟨⟨#[]⟩,⟨#[]⟩⟩]else if andI n 3=1 then[⟨⟨#[]⟩,⟨#[106]⟩⟩]else if andI n 3=2 then[⟨⟨#[100]⟩,⟨#[109]⟩⟩,⟨⟨#[115]⟩,⟨#[]⟩⟩]else[]
theorem ranges_len (n:Int):(ranges n).length≤2:=by unfold ranges;split<;>(try split)<;>(try split)<;>simp
theorem u8_wrap {z:Int}(h:0≤z∧z≤255):IntKind.u8.wrap z=((UInt8.ofNat z.toNat).toNat:Int):=by
 have h1:IntKind.u8.wrap z=z:=by
  unfold IntKind.wrap
  simp[IntKind.bits,IntKind.signed]
  omega
 rw[h1]
 have:(UInt8.ofNat z.toNat).toNat=z.toNat:=by
  rw[UInt8.toNat_ofNat']
  omega
 rw[this];omega
end J
structure HOp where
 kind:Int
 key:Int
 n:Int
 site:Int
 raw:Bool
 v:Ver
 pin:Dep
instance:Inhabited HOp:=⟨⟨0,0,0,0,false,default,default⟩⟩
namespace J
end J
end Go.Proofs.YtdnijgdmohinlaaGreat
end
section
set_option maxRecDepth 100000
namespace Go.Proofs.YtdnijgdmohinlaaGreat
open Go.RowKit A R
open A.RowT
namespace J
theorem Sm.mono {m m':Nat}{cs:SC}(h:Sm m cs) (hm:m≤m'):Sm m' cs:=⟨Nat.le_trans h.1 hm,λp hp=>⟨Nat.le_trans (h.2 p hp).1 hm,(h.2 p hp).2⟩⟩
theorem sm_nil (m:Nat):Sm m []:=⟨Nat.zero_le _,λp hp=>by cases hp⟩
theorem rise_nil:RiseC []:=.nil
end J
namespace J
theorem findR_all (key:ByteArray):¬findR (ranges 0) key<0:=by
 have h:ranges 0=[⟨⟨#[]⟩,⟨#[]⟩⟩]:=by unfold ranges;rw[if_pos (by decide +kernel)]
 have h2:∀x:List UInt8,Op.bytesLess x []=false:=λx=>by cases x<;>rfl
 rw[h]
 unfold findR idxF
 simp[K.hasB,h2]
theorem getC_set {cs:SC}(h:RiseC cs) (k:ByteArray) (l:List Ver) (c:ByteArray):getC (setC cs k l) c=if c=k then l else getC cs c:=by
 unfold getC
 rw[look_set cs k l c h]
 split<;>rfl
theorem sput_some {rs:List Rng}{cs:SC}{v:Ver}(h:(sput rs cs v).2=true):∃l,¬findR rs v.key<0∧put (getC cs v.key) v=some l∧sput rs cs v=(setC cs v.key l,true):=by
 by_cases hf:findR rs v.key<0
 ·unfold sput at h;rw[if_pos hf]at h;cases h
 ·cases hl:put (getC cs v.key) v with
  | none=>unfold sput at h;rw[if_neg hf,hl]at h;cases h
  | some l=>exact⟨l,hf,rfl,by unfold sput;rw[if_neg hf,hl]⟩
theorem sput_no {rs:List Rng}{cs:SC}{v:Ver}(h:(sput rs cs v).2=false):(sput rs cs v).1=cs:=by
 unfold sput at h ⊢
 split
 ·rfl
 ·rename_i hf
  rw[if_neg hf]at h
  split
  ·rename_i l hl
   rw[hl]at h;cases h
  ·rfl
end J
end Go.Proofs.YtdnijgdmohinlaaGreat
end
section
namespace Go.Proofs.YtdnijgdmohinlaaGreat
open Go.RowKit A R
open A.RowT
namespace J
structure Own (m:Nat) (rs:List Rng) (cs:SC):Prop where
 rise:RiseC cs
 sm:Sm m cs
 own:∀p∈cs,¬findR rs p.1<0∧p.2≠[]
theorem own_nil (rs:List Rng):Own 0 rs []:=⟨rise_nil,sm_nil 0,λp hp=>by cases hp⟩
theorem Own.mono {m m':Nat}{rs:List Rng}{cs:SC}(h:Own m rs cs) (hm:m≤m'):Own m' rs cs:=⟨h.rise,h.sm.mono hm,h.own⟩
theorem own_put {m:Nat}{rs:List Rng}{cs:SC}(h:Own m rs cs) (v:Ver):Own (m+1) rs (sput rs cs v).1:=by
 refine⟨sput_rise h.rise v,sput_sm h.sm v,λp hp=>?_⟩
 cases hb:(sput rs cs v).2 with
 | false=>rw[sput_no hb]at hp;exact h.own p hp
 | true =>
  obtain⟨l,hf,hl,he⟩:=sput_some hb
  rw[he]at hp
  rcases mem_setC _ _ _ _ hp with rfl|hp
  ·refine⟨hf,λe=>?_⟩
   have:=put_len hl
   have e:l=[]:=e
   rw[e]at this;simp at this
  ·exact h.own p hp
theorem head_last {l:List Ver}(h:l≠[]):head l=some (l.getLast h):=by
 have hp:0<l.length:=List.length_pos_iff.2 h
 unfold head
 have h1:((l.length:Int) - 1)=((l.length - 1:Nat):Int):=by omega
 rw[h1,told_at (by omega),List.getLast_eq_getElem]
theorem head_keeps {l:List Ver}(h:l≠[]) (n s:Int) (pins:List (Int×Int)):keeps l n s pins (l.getLast h)=true:=by
 unfold keeps isO
 rw[head_last h]
 simp
theorem clean_ne {l:List Ver}(h:l≠[]) (n s:Int) (pins:List (Int×Int)):clean l n s pins≠[]:=by
 intro e
 have:l.getLast h∈clean l n s pins:=List.mem_filter.2 ⟨List.getLast_mem h,head_keeps h n s pins⟩
 rw[e]at this;cases this
theorem sclean_keys (cs:SC) (n s:Int) (pins:List Dep):(sclean cs n s pins).map (·.1)=cs.map (·.1):=by
 unfold sclean;rw[List.map_map];rfl
theorem sclean_rise {cs:SC}(h:RiseC cs) (n s:Int) (pins:List Dep):RiseC (sclean cs n s pins):=by unfold RiseC;rw[sclean_keys];exact h
theorem sclean_sm {m:Nat}{cs:SC}(h:Sm m cs) (n s:Int) (pins:List Dep):Sm m (sclean cs n s pins):=by
 refine⟨by unfold sclean;rw[List.length_map];exact h.1,λp hp=>?_⟩
 obtain⟨q,hq,rfl⟩:=List.mem_map.1 hp
 exact⟨Nat.le_trans (List.length_filter_le ..) (h.2 q hq).1,(h.2 q hq).2⟩
theorem own_clean {m:Nat}{rs:List Rng}{cs:SC}(h:Own m rs cs) (n s:Int) (pins:List Dep):Own m rs (sclean cs n s pins):=by
 refine⟨sclean_rise h.rise n s pins,sclean_sm h.sm n s pins,λp hp=>?_⟩
 obtain⟨q,hq,rfl⟩:=List.mem_map.1 hp
 exact⟨(h.own q hq).1,clean_ne (h.own q hq).2 _ _ _⟩
theorem Own.at{m:Nat}{rs:List Rng}{cs:SC}(h:Own m rs cs) {k:Nat}(hk:k<(keysC cs).length):¬findR rs ((keysC cs).getD k default)<0∧(shead cs ((keysC cs).getD k default)).isSome=true∧(have' cs).getD k default=⟨(keysC cs).getD k default,((shead cs ((keysC cs).getD k default)).getD default).n,((shead cs ((keysC cs).getD k default)).getD default).s⟩:=by
 have hk':k<cs.length:=by unfold keysC at hk;simpa using hk
 have hg:=keys_at cs hk'
 have ho:=h.own _ (List.getElem_mem hk')
 have hl:getC cs cs[k].1=cs[k].2:=by unfold getC;rw[look_mem h.rise (List.getElem_mem hk')];rfl
 refine⟨by rw[hg];exact ho.1,?_,?_⟩
 ·unfold shead
  rw[hg,hl,head_last ho.2];rfl
 ·unfold have'
  rw[List.getD_eq_getElem?_getD,List.getElem?_map,List.getElem?_eq_getElem hk,show(keysC cs).getD k default=(keysC cs)[k]from by simp[hk]]
  rfl
theorem have_len (cs:SC):(have' cs).length=(keysC cs).length:=by unfold have';simp
end J
end Go.Proofs.YtdnijgdmohinlaaGreat
end
section
namespace Go.Proofs.YtdnijgdmohinlaaGreat
open Go.RowKit A R
open A.RowT
namespace J
theorem less_asymm {a b c d:Int}(h:D.lessB a b c d=true):D.lessB c d a b=false:=by
 unfold D.lessB at h ⊢
 split at h<;>split<;>simp_all<;>omega
end J
end Go.Proofs.YtdnijgdmohinlaaGreat
end
section
namespace Go.Proofs.YtdnijgdmohinlaaGreat
open Go.RowKit A R
open A.RowT
namespace J
theorem bxeq {g:Nat}{T:TypeId}{cs cs':List SV}(h:cs=cs'):some (g,AO.box T cs)=some (g,AO.box T cs'):=by rw[h]
theorem look_map (f:ByteArray→List Ver→List Ver):∀(cs:SC) (k:ByteArray),look (cs.map λp=>(p.1,f p.1 p.2)) k=(look cs k).map (f k)
 | [],k=>rfl
 | p::r,k=>by
  rw[List.map_cons,look_cons,look_cons,look_map f r k]
  by_cases h:p.1=k
  ·rw[if_pos h,if_pos h,h];rfl
  ·rw[if_neg h,if_neg h]
theorem getC_clean (cs:SC) (n s:Int) (pins:List Dep) (k:ByteArray):getC (sclean cs n s pins) k=clean (getC cs k) n s (pinsOf pins k):=by
 unfold getC sclean
 rw[look_map (λk l=>clean l n s (pinsOf pins k))]
 cases look cs k<;>rfl
theorem head_snoc (a:List Ver) (x:Ver):head (a++[x])=some x:=by
 rw[head_last (by simp:a++[x]≠[])]
 simp
theorem head_clean {l:List Ver}(h:l≠[]) (n s:Int) (pins:List (Int×Int)):head (clean l n s pins)=head l:=by
 have hk:=head_keeps h n s pins
 have e:l=l.dropLast++[l.getLast h]:=(List.dropLast_concat_getLast h).symm
 have:clean l n s pins=(l.dropLast.filter (keeps l n s pins))++[l.getLast h]:=by
  unfold clean
  conv=>lhs;arg 2;rw[e]
  rw[List.filter_append,List.filter_cons,hk];rfl
 rw[this,head_snoc,head_last h]
end J
end Go.Proofs.YtdnijgdmohinlaaGreat
end
section
set_option maxRecDepth 100000
namespace Go.Proofs.YtdnijgdmohinlaaGreat
open Go.RowKit A R
open A.RowT
set_option maxRecDepth 100000 in
theorem containsV_a (l:List Ver) (f:FuncId) (caps:List AV) (p:Ver→Bool) (hf:∀x,ACall Tryz.prog f ([.row x.row]++caps) (bv (p x))):ACall Tryz.prog 333 [.sl 6 (l.map Ver.row),.fn f caps] (bv (l.any p)):=by
 refine AC_1 Tryz.func333 Tryz.ntmps333 Tryz.results333 λhok M0 w0 hnl=>?_
 refine Aw_sr ?_
 refine Al_mr ?_
 refine Al_ns ?_
 refine Al_ml ?_
 refine Al_ml ?_
 refine Al_p (Pu_call (indexV_a l f caps p hf) rfl ⟨Sub.rfl,Sub.rfl,trivial⟩) ?_
 refine Al_p Pu_cp ?_
 refine Al_mr ?_
 refine Al_nil ?_
 exact Aw_ret (Sub.bool S.find_any)
structure PS where
 id:Int
 wait:List Ver
 n:Int
 s:Int
 rs:List Rng
 cs:SC
abbrev ST (p:PS) (b:Nat):Obs:=[(1001,.box 163 [.bx 1002 0 0,.d (iv p.id),.d (versA p.wait),.d (iv p.n),.d (iv p.s)]),(1002,.box 238 [.d (rngA p.rs),.ow 1003 0]),(1003,mapV b p.cs)]
theorem SH_in (rs:List Rng) (cs:SC) (b:Nat):ObsIn [1001,1002] (SH rs cs b):=⟨rfl,λ_ _ _ _ _ h=>h,trivial⟩
theorem ST_in (p:PS) (b:Nat):ObsIn [1001,1002,1003] (ST p b):=⟨rfl,rfl,λ_ _ _ _ _ h=>h,trivial⟩
def mx (a b:Int×Int):Int×Int:=D.maxS [a,b]
namespace J
def nextE (n:Int):Int:=if 1099511627776≤n then 18 else 0
def nextR (n k:Int):Int×Int:=if 1099511627776≤n then(0,0)else(max n 0+1,k)
theorem have_srt {cs:SC}(h:RiseC cs):D.Srt (have' cs):=by
 unfold have' D.Srt
 rw[List.pairwise_map]
 exact h
theorem hav_len (cs:SC):(have' cs).length=cs.length:=by unfold have' keysC;simp
theorem past_len {v:Ver}(h:checkB v=true):v.past.length≤24:=by
 unfold checkB at h
 simp only[Bool.and_eq_true]at h
 exact(past_good h.2.2.1).2
end J
namespace PS
structure Ok (p:PS) (m:Nat):Prop where
 rise:J.RiseC p.cs
 sm:J.Sm m p.cs
 wl:p.wait.length≤24
 wp:∀v∈p.wait,J.checkB v=true
 rl:p.rs.length≤1000000
 id:0≤p.id∧p.id<6
theorem Ok.mono {p:PS}{m m':Nat}(h:p.Ok m) (hm:m≤m'):p.Ok m':=⟨h.rise,h.sm.mono hm,h.wl,h.wp,h.rl,h.id⟩
def seen (p:PS) (past:List Dep):Int×Int:=past.foldl (λx d=>mx x (d.n,d.s)) (p.n,p.s)
def made (p:PS) (key value:ByteArray) (gone:Bool) (past:List Dep):Ver:=⟨key,value,gone,max (p.seen past).1 0+1,p.id,past⟩
def writeE (p:PS) (key value:ByteArray) (gone:Bool) (past:List Dep):Int :=
 if findR p.rs key<0 then 14 else if 1099511627776≤(p.seen past).1 then 18 else if J.checkB (p.made key value gone past)then 0 else 1
def writeP (p:PS) (key value:ByteArray) (gone:Bool) (past:List Dep):PS :=
 {p with cs:=(J.sput p.rs p.cs (p.made key value gone past)).1,n:=max (p.seen past).1 0+1,s:=p.id}
def write (p:PS) (key value:ByteArray) (gone:Bool) (past:List Dep):PS:=if p.writeE key value gone past=0 then p.writeP key value gone past else p
def writeV (p:PS) (key value:ByteArray) (gone:Bool) (past:List Dep):Ver:=if p.writeE key value gone past=0 then p.made key value gone past else default
def isW (v w:Ver):Bool:=(w.key.toList==v.key.toList)&&((w.n==v.n)&&(w.s==v.s))
def there (p:PS) (v:Ver):Bool:=(J.sat p.cs v.key v.n v.s).isSome||p.wait.any (isW v)
def arriveE (p:PS) (v:Ver):Int :=
 if J.checkB v=false then 1 else if findR p.rs v.key<0 then 0 else if p.there v then 13 else J.pushE p.wait v
def clockP (p:PS) (v:Ver):PS:={p with n:=(mx (p.n,p.s) (v.n,v.s)).1,s:=(mx (p.n,p.s) (v.n,v.s)).2}
def arrive (p:PS) (v:Ver):PS:=if p.arriveE v=0 then(if findR p.rs v.key<0 then p else{p with wait:=p.wait++[v]}).clockP v else p
def stepV (p:PS):Option Ver:=J.nextV p.wait (J.have' p.cs) p.rs
def step (p:PS):PS:=match p.stepV with
 | some v=>{p with wait:=J.nextL p.wait (J.have' p.cs) p.rs,cs:=(J.sput p.rs p.cs v).1}
 | none=>p
def readE (p:PS) (key:ByteArray):Int:=if findR p.rs key<0 then 14 else 0
def readV (p:PS) (key:ByteArray):Option Ver:=if findR p.rs key<0 then none else J.shead p.cs key
def clean (p:PS) (n s:Int) (pins:List Dep):PS:={p with cs:=J.sclean p.cs n s pins}
end PS
def PS.zero (k:Int) (rs:List Rng):PS:=⟨k,[],0,0,rs,[]⟩
theorem snextG_a (n s k:Int) (hk:0≤k∧k<6):ACall Tryz.prog 228 [.row [iv n,iv s],iv k] (.tup [.row [iv (J.nextR n k).1,iv (J.nextR n k).2],iv (J.nextE n)]):=by
 refine AC_G Tryz.func228 Tryz.ntmps228 (Reads.cN1 Tryz.results228 Tryz.isAgg47 Tryz.sizeOf47) λhok M0 w0 hnl=>?_
 refine Aw_sr ?_
 refine Al_p Pu_bN ?_
 refine Al_al Tryz.zeroValue47 λg4=>?_
 refine Al_mr ?_
 refine Al_nil (Aw_seq (Aw_block (Aw_sr ?_)))
 refine Al_ml ?_
 refine Al_p Pu_cp ?_
 refine Al_ml ?_
 refine Al_s (St_g [] trivial (λ_=>Pu_mvl)) ?_
 refine Al_s (St_g [10] ⟨⟨_,rfl⟩,trivial⟩ (λ_=>Pu_cp)) ?_
 refine Al_p Pu_o ?_
 refine Al_mr ?_
 refine Al_nil ?_
 refine Aw_cond rfl (λh6=>?_) (λh6=>?_)
 ·(try simp only[A.cd_]at h6)
  exfalso
  omega
 ·(try simp only[A.cd_]at h6)
  refine Aw_sr ?_
  refine Al_p (Pu_fd 0 Tryz.underlying47 Tryz.sizeOf3) ?_
  refine Al_p (Pu_l1 Tryz.isAgg3) ?_
  refine Al_p Pu_cp ?_
  refine Al_mr ?_
  refine Al_nil ?_
  refine Aw_cond rfl (λh14=>?_) (λh14=>?_)
  ·(try simp only[A.cd_]at h14)
   have e1:J.nextE n=18:=by unfold J.nextE;rw[if_pos h14]
   have e2:J.nextR n k=(0,0):=by unfold J.nextR;rw[if_pos h14]
   refine Aw_sr ?_
   refine Al_p (Pu_build (aa:=[]) rfl Tryz.underlying47 Tryz.zeroValue47 places47 (by kernel_rfl) trivial rfl) ?_
   refine Al_sN Tryz.isAgg47 Tryz.sizeOf47 ?_
   refine Al_mr ?_
   refine Al_nil ?_
   exact Aw_ret (⟨_,_,_,_,_,[_,_],_,rfl,rfl,rfl,rfl,Sub.rfl,by rw[e1,e2]⟩)
  ·(try simp only[A.cd_]at h14)
   have e1:J.nextE n=0:=by unfold J.nextE;rw[if_neg h14]
   have e2:J.nextR n k=(max n 0+1,k):=by unfold J.nextR;rw[if_neg h14]
   refine Aw_skip (Aw_sr ?_)
   refine Al_p (Pu_fd 0 Tryz.underlying47 Tryz.sizeOf3) ?_
   refine Al_p (Pu_l1 Tryz.isAgg3) ?_
   refine Al_p (Pu_max2 (c:=max n 0) rfl rfl rfl (by rw[Int.max_def];split<;>split<;>omega)) ?_
   refine Al_p Pu_ad ?_
   refine Al_ml ?_
   refine Al_p (Pu_build (aa:=[(0,_),(1,_)]) rfl Tryz.underlying47 Tryz.zeroValue47 places47 (by kernel_rfl) ⟨rfl,rfl,rfl,rfl,rfl,rfl,trivial⟩ rfl) ?_
   refine Al_sN Tryz.isAgg47 Tryz.sizeOf47 ?_
   refine Al_mr ?_
   refine Al_nil ?_
   exact Aw_ret (⟨_,_,_,_,_,[_,_],_,rfl,rfl,rfl,rfl,Sub.rfl,by rw[e1,e2]⟩)
theorem kput_g (rs:List Rng) (cs:SC) (b:Nat) (v:Ver) (hrl:rs.length≤1000000) (hr:J.RiseC cs) (hs:J.Sm 1000 cs):GCall Tryz.prog 231 [.ag [.bx 1001 0 0],.d (.row v.row)] (SH rs cs b) (some (SH rs (J.sput rs cs v).1 b,.d (bv (J.sput rs cs v).2))):=by
 refine GC_L Tryz.func231 Tryz.ntmps231 (ReadsS.r1 Tryz.results231) λhok hokB M0 w0 hl=>?_
 refine Aw_sr ?_
 refine Al_boxAg rfl rfl rfl (by decide) (by kernel_rfl) rfl (λg2=>?_)
 refine Al_p Pu_bN ?_
 refine Al_mr ?_
 refine Al_ns ?_
 refine Al_p (Pu_fb 0 Tryz.underlying161 Tryz.sizeOf158) ?_
 refine Al_p (Pu_lb Tryz.isAgg158) ?_
 refine Al_p (Pu_lN Tryz.isAgg50 Tryz.sizeOf50) ?_
 refine Al_gcall [(1001,1001,0),(1002,1002,0)] [] (sput_g rs cs b v hrl hr hs) rfl rfl rfl (by decide) (by kernel_rfl) ⟨rfl,rfl,trivial⟩ rfl ⟨Sub.rfl,Sub.rfl,trivial⟩ (λg8=>?_)
 refine Al_mr ?_
 refine Al_nil ?_
 exact Aw_ret (⟨_,_,[],rfl,Sub.rfl,⟨rfl,rfl,trivial⟩,rfl⟩)
theorem khead_g (rs:List Rng) (cs:SC) (b:Nat) (key:ByteArray) (hs:J.Sm 1000 cs):GCall Tryz.prog 234 [.ag [.bx 1001 0 0],.d (tv key)] (SH rs cs b) (some (SH rs cs b,.d (verA (J.shead cs key)))):=by
 refine GC_L Tryz.func234 Tryz.ntmps234 (ReadsS.cN1 Tryz.results234 Tryz.isAgg50 Tryz.sizeOf50) λhok hokB M0 w0 hl=>?_
 refine Aw_sr ?_
 refine Al_boxAg rfl rfl rfl (by decide) (by kernel_rfl) rfl (λg2=>?_)
 refine Al_al Tryz.zeroValue50 λg4=>?_
 refine Al_mr ?_
 refine Al_ns ?_
 refine Al_p (Pu_fb 0 Tryz.underlying161 Tryz.sizeOf158) ?_
 refine Al_p (Pu_lb Tryz.isAgg158) ?_
 refine Al_ml ?_
 refine Al_p (Pu_gcall [(1001,1001,0),(1002,1002,0)] (shead_g rs cs b key hs) (SH_in ..) rfl ⟨rfl,rfl,trivial⟩ rfl ⟨Sub.rfl,Sub.rfl,trivial⟩) ?_
 refine Al_p Pu_ex ?_
 refine Al_p Pu_ex ?_
 refine Al_sN Tryz.isAgg50 Tryz.sizeOf50 ?_
 refine Al_mr ?_
 refine Al_nil ?_
 exact Aw_ret (⟨_,_,[],rfl,⟨_,rfl,_,_,_,_,_,[_,_,_,_,_,_],_,rfl,rfl,rfl,rfl,Sub.rfl,rfl⟩,⟨rfl,rfl,trivial⟩,rfl⟩)
theorem kat_g (rs:List Rng) (cs:SC) (b:Nat) (key:ByteArray) (n s:Int) (hs:J.Sm 1000 cs):GCall Tryz.prog 332 [.ag [.bx 1001 0 0],.d (tv key),.d (.row [iv n,iv s])] (SH rs cs b) (some (SH rs cs b,.d (verA (J.sat cs key n s)))):=by
 refine GC_L Tryz.func332 Tryz.ntmps332 (ReadsS.cN1 Tryz.results332 Tryz.isAgg50 Tryz.sizeOf50) λhok hokB M0 w0 hl=>?_
 refine Aw_sr ?_
 refine Al_boxAg rfl rfl rfl (by decide) (by kernel_rfl) rfl (λg3=>?_)
 refine Al_p Pu_bN ?_
 refine Al_al Tryz.zeroValue50 λg6=>?_
 refine Al_mr ?_
 refine Al_ns ?_
 refine Al_p (Pu_fb 0 Tryz.underlying161 Tryz.sizeOf158) ?_
 refine Al_p (Pu_lb Tryz.isAgg158) ?_
 refine Al_ml ?_
 refine Al_p (Pu_lN Tryz.isAgg47 Tryz.sizeOf47) ?_
 refine Al_p (Pu_gcall [(1001,1001,0),(1002,1002,0)] (sat_g rs cs b key n s hs) (SH_in ..) rfl ⟨rfl,rfl,trivial⟩ rfl ⟨Sub.rfl,Sub.rfl,Sub.rfl,trivial⟩) ?_
 refine Al_p Pu_ex ?_
 refine Al_p Pu_ex ?_
 refine Al_sN Tryz.isAgg50 Tryz.sizeOf50 ?_
 refine Al_mr ?_
 refine Al_nil ?_
 exact Aw_ret (⟨_,_,[],rfl,⟨_,rfl,_,_,_,_,_,[_,_,_,_,_,_],_,rfl,rfl,rfl,rfl,Sub.rfl,rfl⟩,⟨rfl,rfl,trivial⟩,rfl⟩)
namespace PS
theorem Ok.hl {p:PS}{m:Nat}(h:p.Ok m) (hm:m≤1000):(J.have' p.cs).length≤1000000:=by rw[J.hav_len];have:=h.sm.1;omega
theorem seen_take (p:PS) (past:List Dep) {k:Nat}(hk:k<past.length):p.seen (past.take (k+1))=mx (p.seen (past.take k)) ((past.getD k default).n,(past.getD k default).s):=by
 have hg:past.getD k default=past[k]:=by simp[hk]
 rw[List.take_succ_eq_append_getElem hk,hg]
 unfold seen
 rw[List.foldl_append];rfl
theorem wait_past {p:PS}{m:Nat}(h:p.Ok m):∀v∈p.wait,v.past.length≤1000000:=λv hv=>Nat.le_trans (J.past_len (h.wp v hv)) (by decide)
end PS
theorem cloneD_a (l:List Dep) (hl:l.length≤1000000):ACall Tryz.prog 229 [.sl 3 (l.map Dep.row)] (.sl 3 (l.map Dep.row)):=GCall.a (aa:=[.sl 3 (l.map Dep.row)]) (cloneD_g l hl)
section
variable (p:PS) (b:Nat)
theorem stOwn_g (hrl:p.rs.length≤1000000):GCall Tryz.prog 147 [.bx 1001 0 0] (ST p b) (some (ST p b,.d (rngA p.rs))):=by
 refine GC_L Tryz.func147 Tryz.ntmps147 (ReadsS.r1 Tryz.results147) λhok hokB M0 w0 hl=>?_
 refine Aw_sr ?_
 refine Al_mr ?_
 refine Al_nil (Aw_seq (Aw_sr ?_))
 refine Al_ml ?_
 refine Al_p (Pu_eqnilb Tryz.underlying92 rfl rfl) ?_
 refine Al_nil ?_
 refine Aw_condF rfl (rfl) ?_
 refine Aw_skip (Aw_sr ?_)
 refine Al_ml ?_
 refine Al_p Pu_nb ?_
 refine Al_p (Pu_fb 0 Tryz.underlying163 Tryz.sizeOf161) ?_
 refine Al_p (Pu_fb 0 Tryz.underlying161 Tryz.sizeOf158) ?_
 refine Al_p (Pu_lb Tryz.isAgg158) ?_
 refine Al_p (Pu_gcall [(1001,1002,0),(1002,1003,0)] (sranges_g p.rs p.cs b hrl) (SH_in ..) rfl ⟨rfl,rfl,trivial⟩ rfl ⟨Sub.rfl,trivial⟩) ?_
 refine Al_mr ?_
 refine Al_nil ?_
 exact Aw_ret (⟨_,_,[],rfl,Sub.rfl,⟨rfl,rfl,rfl,trivial⟩,rfl⟩)
theorem stowns_g (key:ByteArray) (hrl:p.rs.length≤1000000):GCall Tryz.prog 226 [.bx 1001 0 0,.d (tv key)] (ST p b) (some (ST p b,.d (bv (decide (0≤findR p.rs key))))):=by
 refine GC_L Tryz.func226 Tryz.ntmps226 (ReadsS.r1 Tryz.results226) λhok hokB M0 w0 hl=>?_
 refine Aw_sr ?_
 refine Al_mr ?_
 refine Al_ns ?_
 refine Al_ml ?_
 refine Al_p (Pu_gcall [(1001,1001,0),(1002,1002,0),(1003,1003,0)] (stOwn_g p b hrl) (ST_in ..) rfl ⟨rfl,rfl,rfl,trivial⟩ rfl ⟨Sub.rfl,trivial⟩) ?_
 refine Al_ml ?_
 refine Al_p (Pu_call (find_a p.rs key hrl) rfl ⟨Sub.rfl,Sub.rfl,trivial⟩) ?_
 refine Al_p Pu_cp ?_
 refine Al_mr ?_
 refine Al_nil ?_
 exact Aw_ret (⟨_,_,[],rfl,Sub.rfl,⟨rfl,rfl,rfl,trivial⟩,rfl⟩)
theorem stWaiting_g:GCall Tryz.prog 76 [.bx 1001 0 0] (ST p b) (some (ST p b,.d (iv p.wait.length))):=by
 refine GC_L Tryz.func76 Tryz.ntmps76 (ReadsS.r1 Tryz.results76) λhok hokB M0 w0 hl=>?_
 refine Aw_sr ?_
 refine Al_mr ?_
 refine Al_nil (Aw_seq (Aw_sr ?_))
 refine Al_ml ?_
 refine Al_p (Pu_eqnilb Tryz.underlying92 rfl rfl) ?_
 refine Al_nil ?_
 refine Aw_condF rfl (rfl) ?_
 refine Aw_skip (Aw_sr ?_)
 refine Al_ml ?_
 refine Al_p Pu_nb ?_
 refine Al_p (Pu_fb 2 Tryz.underlying163 Tryz.sizeOf35) ?_
 refine Al_p (Pu_lb Tryz.isAgg35) ?_
 refine Al_p (Pu_ln Tryz.underlying35) ?_
 refine Al_mr ?_
 refine Al_nil ?_
 exact Aw_ret (⟨_,_,[],rfl,Sub.rfl,⟨rfl,rfl,rfl,trivial⟩,rfl⟩)
theorem stHave_g {m:Nat}(hp:p.Ok m) (hm:m≤1000):GCall Tryz.prog 49 [.bx 1001 0 0] (ST p b) (some (ST p b,.d (.sl 3 ((J.have' p.cs).map Dep.row)))):=by
 refine GC_L Tryz.func49 Tryz.ntmps49 (ReadsS.r1 Tryz.results49) λhok hokB M0 w0 hl=>?_
 refine Aw_sr ?_
 refine Al_mr ?_
 refine Al_nil (Aw_seq (Aw_sr ?_))
 refine Al_ml ?_
 refine Al_p (Pu_eqnilb Tryz.underlying92 rfl rfl) ?_
 refine Al_nil ?_
 refine Aw_condF rfl (rfl) ?_
 refine Aw_skip (Aw_sr ?_)
 refine Al_ml ?_
 refine Al_p Pu_nb ?_
 refine Al_p (Pu_fb 0 Tryz.underlying163 Tryz.sizeOf161) ?_
 refine Al_p (Pu_fb 0 Tryz.underlying161 Tryz.sizeOf158) ?_
 refine Al_p (Pu_lb Tryz.isAgg158) ?_
 refine Al_p (Pu_gcall [(1001,1002,0),(1002,1003,0)] (shave_g p.rs p.cs b hp.rise (hp.sm.mono hm)) (SH_in ..) rfl ⟨rfl,rfl,trivial⟩ rfl ⟨Sub.rfl,trivial⟩) ?_
 refine Al_mr ?_
 refine Al_nil ?_
 exact Aw_ret (⟨_,_,[],rfl,Sub.rfl,⟨rfl,rfl,rfl,trivial⟩,rfl⟩)
theorem stChain_g (key:ByteArray) {m:Nat}(hp:p.Ok m) (hm:m≤1000):GCall Tryz.prog 43 [.bx 1001 0 0,.d (tv key)] (ST p b) (some (ST p b,.d (versA (J.getC p.cs key)))):=by
 refine GC_L Tryz.func43 Tryz.ntmps43 (ReadsS.r1 Tryz.results43) λhok hokB M0 w0 hl=>?_
 refine Aw_sr ?_
 refine Al_mr ?_
 refine Al_nil (Aw_seq (Aw_sr ?_))
 refine Al_ml ?_
 refine Al_p (Pu_eqnilb Tryz.underlying92 rfl rfl) ?_
 refine Al_nil ?_
 refine Aw_condF rfl (rfl) ?_
 refine Aw_skip (Aw_sr ?_)
 refine Al_ml ?_
 refine Al_p Pu_nb ?_
 refine Al_p (Pu_fb 0 Tryz.underlying163 Tryz.sizeOf161) ?_
 refine Al_p (Pu_fb 0 Tryz.underlying161 Tryz.sizeOf158) ?_
 refine Al_p (Pu_lb Tryz.isAgg158) ?_
 refine Al_ml ?_
 refine Al_p (Pu_gcall [(1001,1002,0),(1002,1003,0)] (schain_g p.rs p.cs b key (hp.sm.mono hm)) (SH_in ..) rfl ⟨rfl,rfl,trivial⟩ rfl ⟨Sub.rfl,Sub.rfl,trivial⟩) ?_
 refine Al_mr ?_
 refine Al_nil ?_
 exact Aw_ret (⟨_,_,[],rfl,Sub.rfl,⟨rfl,rfl,rfl,trivial⟩,rfl⟩)
theorem stRead_g (key:ByteArray) {m:Nat}(hp:p.Ok m) (hm:m≤1000):GCall Tryz.prog 154 [.bx 1001 0 0,.d (tv key)] (ST p b) (some (ST p b,.d (.tup [.row ((p.readV key).getD default).row,bv (p.readV key).isSome,iv (p.readE key)]))):=by
 refine GC_L Tryz.func154 Tryz.ntmps154 (ReadsS.cN2 Tryz.results154 Tryz.isAgg50 Tryz.sizeOf50) λhok hokB M0 w0 hl=>?_
 refine Aw_sr ?_
 refine Al_al Tryz.zeroValue50 λg4=>?_
 refine Al_mr ?_
 refine Al_mr ?_
 refine Al_nil (Aw_seq (Aw_block (Aw_sr ?_)))
 refine Al_ml ?_
 refine Al_p (Pu_eqnilb Tryz.underlying92 rfl rfl) ?_
 refine Al_mr ?_
 refine Al_nil ?_
 refine Aw_condF rfl (rfl) ?_
 refine Aw_sr ?_
 refine Al_ml ?_
 refine Al_ml ?_
 refine Al_p (Pu_gcall [(1001,1001,0),(1002,1002,0),(1003,1003,0)] (stowns_g p b key hp.rl) (ST_in ..) rfl ⟨rfl,rfl,rfl,trivial⟩ rfl ⟨Sub.rfl,Sub.rfl,trivial⟩) ?_
 refine Al_p Pu_n ?_
 refine Al_mr ?_
 refine Al_nil ?_
 refine Aw_cond rfl (λh13=>?_) (λh13=>?_)
 ·skip
  have h0:findR p.rs key<0:=by simpa using h13
  have e1:p.readV key=none:=by unfold PS.readV;rw[if_pos h0]
  have e2:p.readE key=14:=by unfold PS.readE;rw[if_pos h0]
  refine Aw_sr ?_
  refine Al_p (Pu_build (aa:=[]) rfl Tryz.underlying50 Tryz.zeroValue50 places50 (by kernel_rfl) trivial rfl) ?_
  refine Al_sN Tryz.isAgg50 Tryz.sizeOf50 ?_
  refine Al_mr ?_
  refine Al_mr ?_
  refine Al_nil ?_
  rw[e1,e2]
  refine Aw_boxle (k:=4) ((default:Ver).row.map .d) rfl ⟨Sub.rfl,Sub.rfl,Sub.rfl,Sub.rfl,Sub.rfl,Sub.nil,trivial⟩ ?_
  exact Aw_ret (⟨_,_,[],rfl,⟨_,rfl,_,_,_,_,_,[_,_,_,_,_,_],_,_,rfl,rfl,rfl,rfl,Sub.rfl,Sub.rfl,rfl⟩,⟨rfl,rfl,rfl,trivial⟩,rfl⟩)
 ·skip
  have h0:¬findR p.rs key<0:=by simpa using h13
  have e1:p.readV key=J.shead p.cs key:=by unfold PS.readV;rw[if_neg h0]
  have e2:p.readE key=0:=by unfold PS.readE;rw[if_neg h0]
  refine Aw_skip (Aw_sr ?_)
  refine Al_ml ?_
  refine Al_p Pu_nb ?_
  refine Al_p (Pu_fb 0 Tryz.underlying163 Tryz.sizeOf161) ?_
  refine Al_p (Pu_loadAg (r:=[.bx 1002 0 0]) rfl Tryz.isAgg161 Tryz.sizeOf161 rfl rfl (by exact rfl) rfl) ?_
  refine Al_ml ?_
  refine Al_p (Pu_gcall [(1001,1002,0),(1002,1003,0)] (khead_g p.rs p.cs b key (hp.sm.mono hm)) (SH_in ..) rfl ⟨rfl,rfl,trivial⟩ rfl ⟨Sub.rfl,Sub.rfl,trivial⟩) ?_
  refine Al_ml ?_
  refine Al_p Pu_ex ?_
  refine Al_p Pu_ex ?_
  refine Al_al Tryz.zeroValue50 λg7=>?_
  refine Al_sN Tryz.isAgg50 Tryz.sizeOf50 ?_
  refine Al_mr ?_
  refine Al_ns ?_
  refine Al_p (Pu_lbN (r:=[_,_,_,_,_,_]) Tryz.isAgg50 Tryz.sizeOf50) ?_
  refine Al_ml ?_
  refine Al_sN Tryz.isAgg50 Tryz.sizeOf50 ?_
  refine Al_mr ?_
  refine Al_mr ?_
  refine Al_nil ?_
  rw[e1,e2]
  exact Aw_ret (⟨_,_,[],rfl,⟨_,rfl,_,_,_,_,_,[_,_,_,_,_,_],_,_,rfl,rfl,rfl,rfl,Sub.rfl,Sub.rfl,rfl⟩,⟨rfl,rfl,rfl,trivial⟩,rfl⟩)
theorem stthere1_a (v w:Ver):ACall Tryz.prog 334 [.row w.row,.fp v.row] (bv (PS.isW v w)):=by
 refine AC_1 Tryz.func334 Tryz.ntmps334 Tryz.results334 λhok M0 w0 hnl=>?_
 refine Aw_sr ?_
 refine Al_p Pu_bN ?_
 refine Al_mr ?_
 refine Al_ns ?_
 refine Al_p (Pu_fd 0 Tryz.underlying50 Tryz.sizeOf9) ?_
 refine Al_p (Pu_l1 Tryz.isAgg9) ?_
 refine Al_p (Pu_fd 0 Tryz.underlying50 Tryz.sizeOf9) ?_
 refine Al_p (Pu_l1 Tryz.isAgg9) ?_
 refine Al_p Pu_sr ?_
 refine Al_ml ?_
 refine Al_s (St_g [] trivial (λ_=>Pu_fd 3 Tryz.underlying50 Tryz.sizeOf47)) ?_
 refine Al_s (St_g [10] ⟨⟨_,rfl⟩,trivial⟩ (λ_=>Pu_lN Tryz.isAgg47 Tryz.sizeOf47)) ?_
 refine Al_s (St_g [] trivial (λ_=>Pu_fd 3 Tryz.underlying50 Tryz.sizeOf47)) ?_
 refine Al_s (St_g [12] ⟨⟨_,rfl⟩,trivial⟩ (λ_=>Pu_lN Tryz.isAgg47 Tryz.sizeOf47)) ?_
 refine Al_s (St_g [11,13] ⟨⟨_,rfl⟩,⟨_,rfl⟩,trivial⟩ (λ_=>Pu_eqrow [.int .i64 _,.int .i64 _] [.int .i64 _,.int .i64 _] (λw=>eqv47 _ _ _ _ _ _ w) rfl rfl rfl)) ?_
 refine Al_p Pu_a ?_
 refine Al_mr ?_
 refine Al_nil ?_
 exact Aw_ret (Sub.rfl)
theorem stthere_g (v:Ver) {m:Nat}(hp:p.Ok m) (hm:m≤1000):GCall Tryz.prog 261 [.bx 1001 0 0,.d (.row v.row)] (ST p b) (some (ST p b,.d (bv (p.there v)))):=by
 refine GC_L Tryz.func261 Tryz.ntmps261 (ReadsS.r1 Tryz.results261) λhok hokB M0 w0 hl=>?_
 refine Aw_sr ?_
 refine Al_p Pu_bN ?_
 refine Al_mr ?_
 refine Al_nil ?_
 refine Aw_seq ?_
 refine Aw_drawPA 10 12 4 (by kernel_rfl) (by kernel_rfl) rfl (by decide) rfl rfl rfl rfl (by decide) Tryz.zeroValue50 rfl (by kernel_rfl) rfl ?_
 refine Dr_ml ?_
 refine Dr_p Pu_nb ?_
 refine Dr_p (Pu_fb 0 Tryz.underlying163 Tryz.sizeOf161) ?_
 refine Dr_p (Pu_loadAg (r:=[.bx 1002 0 0]) rfl Tryz.isAgg161 Tryz.sizeOf161 rfl rfl (by exact rfl) rfl) ?_
 refine Dr_p (Pu_fd 0 Tryz.underlying50 Tryz.sizeOf9) ?_
 refine Dr_p (Pu_l1 Tryz.isAgg9) ?_
 refine Dr_p (Pu_fd 3 Tryz.underlying50 Tryz.sizeOf47) ?_
 refine Dr_p (Pu_lN Tryz.isAgg47 Tryz.sizeOf47) ?_
 refine Dr_p (Pu_gcall [(1001,1002,0),(1002,1003,0)] (kat_g p.rs p.cs b v.key v.n v.s (hp.sm.mono hm)) (SH_in ..) rfl ⟨rfl,rfl,trivial⟩ rfl ⟨Sub.rfl,Sub.rfl,Sub.rfl,trivial⟩) ?_
 refine Dr_ml ?_
 refine Dr_nil ⟨?_,λg5=>?_⟩
 ·refine Ad_t 10 rfl PuI_ex ?_
  refine Ad_t 11 rfl PuI_ex ?_
  refine Ad_o 12 ?_
  refine Al_al Tryz.zeroValue50 λg5=>?_
  refine Al_nil ?_
  refine Ad_o 13 ?_
  refine Al_sN Tryz.isAgg50 Tryz.sizeOf50 ?_
  refine Al_nil ?_
  refine Ad_t 14 rfl (PuI_move (.inr rfl) (by conv=>lhs;whnf)) ?_
  refine Ad_d ?_
  refine Aw_sr ?_
  refine Al_ml ?_
  refine Al_ml ?_
  refine Al_s (St_g [] trivial (λ_=>Pu_mvl)) ?_
  refine Al_s (St_g [21] ⟨⟨_,rfl⟩,trivial⟩ (λ_=>Pu_nb)) ?_
  refine Al_s (St_g [22] ⟨⟨_,rfl⟩,trivial⟩ (λ_=>Pu_fb 2 Tryz.underlying163 Tryz.sizeOf35)) ?_
  refine Al_s (St_g [23] ⟨⟨_,rfl⟩,trivial⟩ (λ_=>Pu_lb Tryz.isAgg35)) ?_
  refine Al_s (St_g [] trivial (λ_=>Pu_makeFunc (caps:=[_]) rfl ⟨Sub.rfl,trivial⟩)) ?_
  refine Al_s (St_g [24,25] ⟨⟨_,rfl⟩,⟨_,rfl⟩,trivial⟩ (λ_=>Pu_call (containsV_a p.wait 334 [.fp v.row] (PS.isW v) (λw=>stthere1_a v w)) rfl ⟨Sub.rfl,Sub.rfl,trivial⟩)) ?_
  refine Al_p Pu_o ?_
  refine Al_mr ?_
  refine Al_nil ?_
  exact Aw_ret (⟨_,_,[],rfl,Sub.rfl,⟨rfl,rfl,rfl,trivial⟩,rfl⟩)
 ·refine Ad_t 10 rfl PuI_ex ?_
  refine Ad_t 11 rfl PuI_ex ?_
  refine Ad_o 13 ?_
  refine Al_sN Tryz.isAgg50 Tryz.sizeOf50 ?_
  refine Al_nil ?_
  refine Ad_t 14 rfl (PuI_move (.inr rfl) (by conv=>lhs;whnf)) ?_
  refine Ad_d ?_
  refine Aw_sr ?_
  refine Al_ml ?_
  refine Al_ml ?_
  refine Al_s (St_g [] trivial (λ_=>Pu_mvl)) ?_
  refine Al_s (St_g [21] ⟨⟨_,rfl⟩,trivial⟩ (λ_=>Pu_nb)) ?_
  refine Al_s (St_g [22] ⟨⟨_,rfl⟩,trivial⟩ (λ_=>Pu_fb 2 Tryz.underlying163 Tryz.sizeOf35)) ?_
  refine Al_s (St_g [23] ⟨⟨_,rfl⟩,trivial⟩ (λ_=>Pu_lb Tryz.isAgg35)) ?_
  refine Al_s (St_g [] trivial (λ_=>Pu_makeFunc (caps:=[_]) rfl ⟨Sub.rfl,trivial⟩)) ?_
  refine Al_s (St_g [24,25] ⟨⟨_,rfl⟩,⟨_,rfl⟩,trivial⟩ (λ_=>Pu_call (containsV_a p.wait 334 [.fp v.row] (PS.isW v) (λw=>stthere1_a v w)) rfl ⟨Sub.rfl,Sub.rfl,trivial⟩)) ?_
  refine Al_p Pu_o ?_
  refine Al_mr ?_
  refine Al_nil ?_
  exact Aw_ret (⟨_,_,[],rfl,Sub.rfl,⟨rfl,rfl,rfl,trivial⟩,rfl⟩)
set_option maxHeartbeats 1000000 in
theorem stArrive_g (v:Ver) {m:Nat}(hp:p.Ok m) (hm:m≤1000):GCall Tryz.prog 170 [.bx 1001 0 0,.d (.row v.row)] (ST p b) (some (ST (p.arrive v) b,.d (iv (p.arriveE v)))):=by
 refine GC_L Tryz.func170 Tryz.ntmps170 (ReadsS.r1 Tryz.results170) λhok hokB M0 w0 hl=>?_
 have hwl:=hp.wl
 refine Aw_sr ?_
 refine Al_p Pu_bN ?_
 refine Al_mr ?_
 refine Al_nil (Aw_seq (Aw_sr ?_))
 refine Al_ml ?_
 refine Al_p (Pu_eqnilb Tryz.underlying92 rfl rfl) ?_
 refine Al_ml ?_
 refine Al_s (St_g [] trivial (λ_=>Pu_lN Tryz.isAgg50 Tryz.sizeOf50)) ?_
 refine Al_s (St_g [10] ⟨⟨_,rfl⟩,trivial⟩ (λ_=>Pu_call (wcheck_a v) rfl ⟨Sub.rfl,trivial⟩)) ?_
 refine Al_s (St_g [11] ⟨⟨_,rfl⟩,trivial⟩ (λ_=>Pu_n)) ?_
 refine Al_p Pu_o ?_
 refine Al_nil ?_
 refine Aw_cond rfl (λh13=>?_) (λh13=>?_)
 ·skip
  have h0:J.checkB v=false:=by simpa using h13
  have e2:p.arriveE v=1:=by unfold PS.arriveE;rw[if_pos h0]
  have e1:p.arrive v=p:=by unfold PS.arrive;rw[e2,if_neg (by decide)]
  refine Aw_sr ?_
  refine Al_mr ?_
  refine Al_nil ?_
  rw[e1,e2]
  exact Aw_ret (⟨_,_,[],rfl,Sub.rfl,⟨rfl,rfl,rfl,trivial⟩,rfl⟩)
 ·skip
  have h0:J.checkB v=true:=by simpa using h13
  refine Aw_skip ?_
  refine Aw_seq (Aw_sr ?_)
  refine Al_ml ?_
  refine Al_p (Pu_fd 0 Tryz.underlying50 Tryz.sizeOf9) ?_
  refine Al_p (Pu_l1 Tryz.isAgg9) ?_
  refine Al_p (Pu_gcall [(1001,1001,0),(1002,1002,0),(1003,1003,0)] (stowns_g p b v.key hp.rl) (ST_in ..) rfl ⟨rfl,rfl,rfl,trivial⟩ rfl ⟨Sub.rfl,Sub.rfl,trivial⟩) ?_
  refine Al_nil ?_
  refine Aw_cond rfl (λh17=>?_) (λh17=>?_)
  ·(try simp only[A.cd_]at h17)
   have hf:¬findR p.rs v.key<0:=by omega
   refine Aw_seq (Aw_sr ?_)
   refine Al_ml ?_
   refine Al_p (Pu_lN Tryz.isAgg50 Tryz.sizeOf50) ?_
   refine Al_p (Pu_gcall [(1001,1001,0),(1002,1002,0),(1003,1003,0)] (stthere_g p b v hp hm) (ST_in ..) rfl ⟨rfl,rfl,rfl,trivial⟩ rfl ⟨Sub.rfl,Sub.rfl,trivial⟩) ?_
   refine Al_nil ?_
   refine Aw_cond rfl (λh20=>?_) (λh20=>?_)
   ·skip
    have e2:p.arriveE v=13:=by unfold PS.arriveE;rw[if_neg (by rw[h0];decide),if_neg hf,if_pos h20]
    have e1:p.arrive v=p:=by unfold PS.arrive;rw[e2,if_neg (by decide)]
    refine Aw_sr ?_
    refine Al_mr ?_
    refine Al_nil ?_
    rw[e1,e2]
    exact Aw_ret (⟨_,_,[],rfl,Sub.rfl,⟨rfl,rfl,rfl,trivial⟩,rfl⟩)
   ·skip
    have e3:p.arriveE v=J.pushE p.wait v:=by unfold PS.arriveE;rw[if_neg (by rw[h0];decide),if_neg hf,if_neg (by rw[h20];decide)]
    refine Aw_skip (Aw_seq ?_)
    refine Aw_dr 10 ?_
    refine Dr_ml ?_
    refine Dr_p Pu_nb ?_
    refine Dr_p (Pu_fb 2 Tryz.underlying163 Tryz.sizeOf35) ?_
    refine Dr_p (Pu_lb Tryz.isAgg35) ?_
    refine Dr_p (Pu_lN Tryz.isAgg50 Tryz.sizeOf50) ?_
    refine Dr_p (Pu_call (qpush_a p.wait v (by omega)) rfl ⟨Sub.rfl,Sub.rfl,trivial⟩) ?_
    refine Dr_ml ?_
    refine Dr_p Pu_ex ?_
    refine Dr_p Pu_ex ?_
    refine Dr_p Pu_mvr ?_
    refine Dr_nil ?_
    refine Al_mr ?_
    refine Al_nil (Aw_seq (Aw_sr ?_))
    refine Al_ml ?_
    refine Al_p Pu_cp ?_
    refine Al_nil ?_
    refine Aw_cond rfl (λh31=>?_) (λh31=>?_)
    ·(try simp only[A.cd_]at h31)
     have e1:p.arrive v=p:=by unfold PS.arrive;rw[if_neg (by rw[e3];exact h31)]
     refine Aw_sr ?_
     refine Al_ml ?_
     refine Al_mr ?_
     refine Al_nil ?_
     rw[e1,e3]
     exact Aw_ret (⟨_,_,[],rfl,Sub.rfl,⟨rfl,rfl,rfl,trivial⟩,rfl⟩)
    ·(try simp only[A.cd_]at h31)
     have e4:J.pushE p.wait v=0:=by simpa using h31
     have e1:p.arrive v=({p with wait:=p.wait++[v]}:PS).clockP v:=by unfold PS.arrive;rw[if_pos (e3.trans e4),if_neg hf]
     refine Aw_skip ?_
     rw[if_pos e4]
     refine Aw_region ?_
     refine Al_ml ?_
     refine Al_ml ?_
     refine Al_p Pu_nb ?_
     refine Al_p (Pu_fb 2 Tryz.underlying163 Tryz.sizeOf35) ?_
     refine Al_s1 Tryz.isAgg35 Tryz.sizeOf35 ?_
     refine Al_nil (Aw_seq ?_)
     refine Aw_dr 11 ?_
     refine Dr_ml ?_
     refine Dr_ml ?_
     refine Dr_p Pu_nb ?_
     refine Dr_p (Pu_fb 3 Tryz.underlying163 Tryz.sizeOf47) ?_
     refine Dr_p (Pu_lbN (r:=[_,_]) Tryz.isAgg47 Tryz.sizeOf47) ?_
     refine Dr_p (Pu_fd 3 Tryz.underlying50 Tryz.sizeOf47) ?_
     refine Dr_p (Pu_lN Tryz.isAgg47 Tryz.sizeOf47) ?_
     refine Dr_p (Pu_buildSlice (aa:=[(0,_),(1,_)]) rfl Tryz.underlying214 Tryz.sizeOf47 Tryz.zeroValue47 rfl (by decide) (by decide) (by decide) (by kernel_rfl) ⟨rfl,rfl,rfl,rfl,rfl,rfl,trivial⟩ ((rfl:_=some [[iv p.n,iv p.s],[iv v.n,iv v.s]].flatten)) rfl rfl) ?_
     refine Dr_p (Pu_call (smax_a [(p.n,p.s),(v.n,v.s)]) rfl ⟨Sub.rfl,trivial⟩) ?_
     refine Dr_p Pu_nb ?_
     refine Dr_p (Pu_fb 3 Tryz.underlying163 Tryz.sizeOf47) ?_
     refine Dr_nil ?_
     refine Al_sN Tryz.isAgg47 Tryz.sizeOf47 ?_
     refine Al_ns ?_
     refine Al_mr ?_
     refine Al_nil ?_
     rw[e1,e3,e4]
     exact Aw_ret (⟨_,_,[],rfl,Sub.rfl,⟨rfl,rfl,rfl,trivial⟩,rfl⟩)
  ·(try simp only[A.cd_]at h17)
   have hf:findR p.rs v.key<0:=by omega
   have e2:p.arriveE v=0:=by unfold PS.arriveE;rw[if_neg (by rw[h0];decide),if_pos hf]
   have e1:p.arrive v=p.clockP v:=by unfold PS.arrive;rw[if_pos e2,if_pos hf]
   refine Aw_skip (Aw_seq ?_)
   refine Aw_dr 11 ?_
   refine Dr_ml ?_
   refine Dr_ml ?_
   refine Dr_p Pu_nb ?_
   refine Dr_p (Pu_fb 3 Tryz.underlying163 Tryz.sizeOf47) ?_
   refine Dr_p (Pu_lbN (r:=[_,_]) Tryz.isAgg47 Tryz.sizeOf47) ?_
   refine Dr_p (Pu_fd 3 Tryz.underlying50 Tryz.sizeOf47) ?_
   refine Dr_p (Pu_lN Tryz.isAgg47 Tryz.sizeOf47) ?_
   refine Dr_p (Pu_buildSlice (aa:=[(0,_),(1,_)]) rfl Tryz.underlying214 Tryz.sizeOf47 Tryz.zeroValue47 rfl (by decide) (by decide) (by decide) (by kernel_rfl) ⟨rfl,rfl,rfl,rfl,rfl,rfl,trivial⟩ ((rfl:_=some [[iv p.n,iv p.s],[iv v.n,iv v.s]].flatten)) rfl rfl) ?_
   refine Dr_p (Pu_call (smax_a [(p.n,p.s),(v.n,v.s)]) rfl ⟨Sub.rfl,trivial⟩) ?_
   refine Dr_p Pu_nb ?_
   refine Dr_p (Pu_fb 3 Tryz.underlying163 Tryz.sizeOf47) ?_
   refine Dr_nil ?_
   refine Al_sN Tryz.isAgg47 Tryz.sizeOf47 ?_
   refine Al_ns ?_
   refine Al_mr ?_
   refine Al_nil ?_
   rw[e1,e2]
   exact Aw_ret (⟨_,_,[],rfl,Sub.rfl,⟨rfl,rfl,rfl,trivial⟩,rfl⟩)
set_option maxHeartbeats 1000000 in
theorem stStep_g {m:Nat}(hp:p.Ok m) (hm:m≤1000):GCall Tryz.prog 172 [.bx 1001 0 0] (ST p b) (some (ST p.step b,.d (.tup [.row (p.stepV.getD default).row,bv p.stepV.isSome]))):=by
 refine GC_L Tryz.func172 Tryz.ntmps172 (ReadsS.cN1 Tryz.results172 Tryz.isAgg50 Tryz.sizeOf50) λhok hokB M0 w0 hl=>?_
 have hwl:=hp.wl
 have hnx:=qnext_a p.wait (J.have' p.cs) p.rs hp.rl (PS.wait_past hp) (J.have_srt hp.rise) (hp.hl hm) (by omega)
 refine Aw_sr ?_
 refine Al_al Tryz.zeroValue50 λg2=>?_
 refine Al_mr ?_
 refine Al_nil (Aw_seq (Aw_sr ?_))
 refine Al_ml ?_
 refine Al_p (Pu_eqnilb Tryz.underlying92 rfl rfl) ?_
 refine Al_nil ?_
 refine Aw_condF rfl (rfl) ?_
 refine Aw_skip ?_
 refine Aw_seq ?_
 refine Aw_drawPA 10 13 6 (by kernel_rfl) (by kernel_rfl) rfl (by decide) rfl rfl rfl rfl (by decide) Tryz.zeroValue50 rfl (by kernel_rfl) rfl ?_
 refine Dr_ml ?_
 refine Dr_p Pu_nb ?_
 refine Dr_p (Pu_fb 2 Tryz.underlying163 Tryz.sizeOf35) ?_
 refine Dr_p (Pu_lb Tryz.isAgg35) ?_
 refine Dr_ml ?_
 refine Dr_p (Pu_gcall [(1001,1001,0),(1002,1002,0),(1003,1003,0)] (stHave_g p b hp hm) (ST_in ..) rfl ⟨rfl,rfl,rfl,trivial⟩ rfl ⟨Sub.rfl,trivial⟩) ?_
 refine Dr_ml ?_
 refine Dr_p (Pu_gcall [(1001,1001,0),(1002,1002,0),(1003,1003,0)] (stOwn_g p b hp.rl) (ST_in ..) rfl ⟨rfl,rfl,rfl,trivial⟩ rfl ⟨Sub.rfl,trivial⟩) ?_
 refine Dr_p (Pu_call (hnx) rfl ⟨Sub.rfl,Sub.rfl,Sub.rfl,trivial⟩) ?_
 refine Dr_ml ?_
 refine Dr_nil ⟨?_,λg4=>?_⟩
 ·refine Ad_t 10 rfl PuI_ex ?_
  refine Ad_t 11 rfl PuI_ex ?_
  refine Ad_t 12 rfl PuI_ex ?_
  refine Ad_o 13 ?_
  refine Al_al Tryz.zeroValue50 λg4=>?_
  refine Al_nil ?_
  refine Ad_o 14 ?_
  refine Al_sN Tryz.isAgg50 Tryz.sizeOf50 ?_
  refine Al_nil ?_
  refine Ad_t 15 rfl (PuI_move (.inr rfl) (by conv=>lhs;whnf)) ?_
  refine Ad_t 16 rfl (PuI_move (.inr rfl) (by conv=>lhs;whnf)) ?_
  refine Ad_d ?_
  refine Aw_seq (Aw_sr ?_)
  refine Al_ml ?_
  refine Al_nil ?_
  refine Aw_cond rfl (λh23=>?_) (λh23=>?_)
  ·skip
   obtain⟨v,hv⟩:=Option.isSome_iff_exists.1 h23
   have hv2:p.stepV=some v:=hv
   have e1:p.step={p with wait:=J.nextL p.wait (J.have' p.cs) p.rs,cs:=(J.sput p.rs p.cs v).1}:=by unfold PS.step;rw[hv2]
   rw[hv]
   refine Aw_seq ?_
   refine Aw_dr 5 ?_
   refine Dr_ml ?_
   refine Dr_p Pu_nb ?_
   refine Dr_p (Pu_fb 0 Tryz.underlying163 Tryz.sizeOf161) ?_
   refine Dr_p (Pu_loadAg (r:=[.bx 1002 0 0]) rfl Tryz.isAgg161 Tryz.sizeOf161 rfl rfl (by exact rfl) rfl) ?_
   refine Dr_p (Pu_lbN (r:=[_,_,_,_,_,_]) Tryz.isAgg50 Tryz.sizeOf50) ?_
   refine Dr_nil ?_
   refine Al_gcall [(1001,1002,0),(1002,1003,0)] [] (kput_g p.rs p.cs b v hp.rl hp.rise (hp.sm.mono hm)) rfl rfl rfl (by decide) (by kernel_rfl) ⟨rfl,rfl,trivial⟩ rfl ⟨Sub.rfl,Sub.rfl,trivial⟩ (λg29=>?_)
   refine Al_nil (Aw_region ?_)
   refine Al_ml ?_
   refine Al_ml ?_
   refine Al_p Pu_nb ?_
   refine Al_p (Pu_fb 2 Tryz.underlying163 Tryz.sizeOf35) ?_
   refine Al_s1 Tryz.isAgg35 Tryz.sizeOf35 ?_
   refine Al_ns ?_
   refine Al_p (Pu_lbN (r:=[_,_,_,_,_,_]) Tryz.isAgg50 Tryz.sizeOf50) ?_
   refine Al_ml ?_
   refine Al_sN Tryz.isAgg50 Tryz.sizeOf50 ?_
   refine Al_mr ?_
   refine Al_nil ?_
   rw[e1,hv2]
   exact Aw_ret (⟨_,_,[],rfl,⟨_,rfl,_,_,_,_,_,[_,_,_,_,_,_],_,rfl,rfl,rfl,rfl,Sub.rfl,rfl⟩,⟨rfl,rfl,rfl,trivial⟩,rfl⟩)
  ·skip
   have hv:J.nextV p.wait (J.have' p.cs) p.rs=none:=by simpa using h23
   have hv2:p.stepV=none:=hv
   have e1:p.step=p:=by unfold PS.step;rw[hv2]
   rw[hv]
   refine Aw_skip (Aw_sr ?_)
   refine Al_p (Pu_lbN (r:=[_,_,_,_,_,_]) Tryz.isAgg50 Tryz.sizeOf50) ?_
   refine Al_ml ?_
   refine Al_sN Tryz.isAgg50 Tryz.sizeOf50 ?_
   refine Al_mr ?_
   refine Al_nil ?_
   rw[e1,hv2]
   exact Aw_ret (⟨_,_,[],rfl,⟨_,rfl,_,_,_,_,_,[_,_,_,_,_,_],_,rfl,rfl,rfl,rfl,Sub.rfl,rfl⟩,⟨rfl,rfl,rfl,trivial⟩,rfl⟩)
 ·refine Ad_t 10 rfl PuI_ex ?_
  refine Ad_t 11 rfl PuI_ex ?_
  refine Ad_t 12 rfl PuI_ex ?_
  refine Ad_o 14 ?_
  refine Al_sN Tryz.isAgg50 Tryz.sizeOf50 ?_
  refine Al_nil ?_
  refine Ad_t 15 rfl (PuI_move (.inr rfl) (by conv=>lhs;whnf)) ?_
  refine Ad_t 16 rfl (PuI_move (.inr rfl) (by conv=>lhs;whnf)) ?_
  refine Ad_d ?_
  refine Aw_seq (Aw_sr ?_)
  refine Al_ml ?_
  refine Al_nil ?_
  refine Aw_cond rfl (λh23=>?_) (λh23=>?_)
  ·skip
   obtain⟨v,hv⟩:=Option.isSome_iff_exists.1 h23
   have hv2:p.stepV=some v:=hv
   have e1:p.step={p with wait:=J.nextL p.wait (J.have' p.cs) p.rs,cs:=(J.sput p.rs p.cs v).1}:=by unfold PS.step;rw[hv2]
   rw[hv]
   refine Aw_seq ?_
   refine Aw_dr 5 ?_
   refine Dr_ml ?_
   refine Dr_p Pu_nb ?_
   refine Dr_p (Pu_fb 0 Tryz.underlying163 Tryz.sizeOf161) ?_
   refine Dr_p (Pu_loadAg (r:=[.bx 1002 0 0]) rfl Tryz.isAgg161 Tryz.sizeOf161 rfl rfl (by exact rfl) rfl) ?_
   refine Dr_p (Pu_lbN (r:=[_,_,_,_,_,_]) Tryz.isAgg50 Tryz.sizeOf50) ?_
   refine Dr_nil ?_
   refine Al_gcall [(1001,1002,0),(1002,1003,0)] [] (kput_g p.rs p.cs b v hp.rl hp.rise (hp.sm.mono hm)) rfl rfl rfl (by decide) (by kernel_rfl) ⟨rfl,rfl,trivial⟩ rfl ⟨Sub.rfl,Sub.rfl,trivial⟩ (λg29=>?_)
   refine Al_nil (Aw_region ?_)
   refine Al_ml ?_
   refine Al_ml ?_
   refine Al_p Pu_nb ?_
   refine Al_p (Pu_fb 2 Tryz.underlying163 Tryz.sizeOf35) ?_
   refine Al_s1 Tryz.isAgg35 Tryz.sizeOf35 ?_
   refine Al_ns ?_
   refine Al_p (Pu_lbN (r:=[_,_,_,_,_,_]) Tryz.isAgg50 Tryz.sizeOf50) ?_
   refine Al_ml ?_
   refine Al_sN Tryz.isAgg50 Tryz.sizeOf50 ?_
   refine Al_mr ?_
   refine Al_nil ?_
   rw[e1,hv2]
   exact Aw_ret (⟨_,_,[],rfl,⟨_,rfl,_,_,_,_,_,[_,_,_,_,_,_],_,rfl,rfl,rfl,rfl,Sub.rfl,rfl⟩,⟨rfl,rfl,rfl,trivial⟩,rfl⟩)
  ·skip
   have hv:J.nextV p.wait (J.have' p.cs) p.rs=none:=by simpa using h23
   have hv2:p.stepV=none:=hv
   have e1:p.step=p:=by unfold PS.step;rw[hv2]
   rw[hv]
   refine Aw_skip (Aw_sr ?_)
   refine Al_p (Pu_lbN (r:=[_,_,_,_,_,_]) Tryz.isAgg50 Tryz.sizeOf50) ?_
   refine Al_ml ?_
   refine Al_sN Tryz.isAgg50 Tryz.sizeOf50 ?_
   refine Al_mr ?_
   refine Al_nil ?_
   rw[e1,hv2]
   exact Aw_ret (⟨_,_,[],rfl,⟨_,rfl,_,_,_,_,_,[_,_,_,_,_,_],_,rfl,rfl,rfl,rfl,Sub.rfl,rfl⟩,⟨rfl,rfl,rfl,trivial⟩,rfl⟩)
set_option maxHeartbeats 1000000 in
theorem stWrite_g (key value:ByteArray) (gone:Bool) (past:List Dep) (hpl:past.length≤1000000) {m:Nat}(hp:p.Ok m) (hm:m≤1000):GCall Tryz.prog 149 [.bx 1001 0 0,.d (tv key),.d (tv value),.d (bv gone),.d (.sl 3 (past.map Dep.row))] (ST p b) (some (ST (p.write key value gone past) b,.d (.tup [.row (p.writeV key value gone past).row,iv (p.writeE key value gone past)]))):=by
 refine GC_L Tryz.func149 Tryz.ntmps149 (ReadsS.cN1 Tryz.results149 Tryz.isAgg50 Tryz.sizeOf50) λhok hokB M0 w0 hl=>?_
 have hid:=hp.id
 refine Aw_sr ?_
 refine Al_al Tryz.zeroValue50 λg10=>?_
 refine Al_mr ?_
 refine Al_nil (Aw_seq (Aw_block (Aw_sr ?_)))
 refine Al_ml ?_
 refine Al_p (Pu_eqnilb Tryz.underlying92 rfl rfl) ?_
 refine Al_mr ?_
 refine Al_nil ?_
 refine Aw_condF rfl (rfl) ?_
 refine Aw_sr ?_
 refine Al_ml ?_
 refine Al_ml ?_
 refine Al_p (Pu_gcall [(1001,1001,0),(1002,1002,0),(1003,1003,0)] (stowns_g p b key hp.rl) (ST_in ..) rfl ⟨rfl,rfl,rfl,trivial⟩ rfl ⟨Sub.rfl,Sub.rfl,trivial⟩) ?_
 refine Al_p Pu_n ?_
 refine Al_mr ?_
 refine Al_nil ?_
 refine Aw_cond rfl (λh22=>?_) (λh22=>?_)
 ·skip
  have h0:findR p.rs key<0:=by simpa using h22
  have e2:p.writeE key value gone past=14:=by unfold PS.writeE;rw[if_pos h0]
  have e1:p.write key value gone past=p:=by unfold PS.write;rw[e2,if_neg (by decide)]
  have e3:p.writeV key value gone past=default:=by unfold PS.writeV;rw[e2,if_neg (by decide)]
  refine Aw_sr ?_
  refine Al_p (Pu_build (aa:=[]) rfl Tryz.underlying50 Tryz.zeroValue50 places50 (by kernel_rfl) trivial rfl) ?_
  refine Al_sN Tryz.isAgg50 Tryz.sizeOf50 ?_
  refine Al_mr ?_
  refine Al_nil ?_
  rw[e1,e2,e3]
  try rw[e4]
  first
   | refine Aw_boxle (k:=10) ((default:Ver).row.map .d) rfl ⟨Sub.rfl,Sub.rfl,Sub.rfl,Sub.rfl,Sub.rfl,Sub.nil,trivial⟩ ?_
   | skip
  exact Aw_ret (⟨_,_,[],rfl,⟨_,rfl,_,_,_,_,_,[_,_,_,_,_,_],_,rfl,rfl,rfl,rfl,Sub.rfl,rfl⟩,⟨rfl,rfl,rfl,trivial⟩,rfl⟩)
 ·skip
  have h0:¬findR p.rs key<0:=by simpa using h22
  refine Aw_skip (Aw_sr ?_)
  refine Al_ml ?_
  refine Al_p Pu_nb ?_
  refine Al_p (Pu_fb 3 Tryz.underlying163 Tryz.sizeOf47) ?_
  refine Al_p (Pu_lbN (r:=[_,_]) Tryz.isAgg47 Tryz.sizeOf47) ?_
  refine Al_al Tryz.zeroValue47 λg12=>?_
  refine Al_sN Tryz.isAgg47 Tryz.sizeOf47 ?_
  refine Al_nil (Aw_seq (Aw_sr ?_))
  refine Al_ml ?_
  refine Al_p (Pu_ln Tryz.underlying48) ?_
  refine Al_ml ?_
  refine Al_nil (Aw_block ?_)
  refine Aw_loopk (ι:=Nat) [0,1,2,3,4,10,12,32,33] [1001,1002,1003,10] (λk=>[(34,.d (iv k))]) (λk=>[(12,g12,.box 47 [.d (iv (p.seen (past.take k)).1),.d (iv (p.seen (past.take k)).2)])]) (λk=>k≤past.length) (λk=>past.length - k) (0) (Nat.zero_le _) ⟨Sub.rfl,trivial⟩ ⟨rfl,trivial⟩ ?_
  rintro k hk0
  refine Aw_sr ?_
  refine Al_p Pu_cp ?_
  refine Al_nil (Aw_seq ?_)
  refine Aw_cond rfl (λh35=>?_) (λh35=>?_)
  ·(try simp only[A.cd_]at h35)
   have hk:k<past.length:=by omega
   have hsn:=p.seen_take past hk
   refine Aw_skip (Aw_seq (Aw_block (Aw_sr ?_)))
   refine Al_p (Pu_index rfl Tryz.underlying48 Tryz.sizeOf110 rfl rfl (rfl) (mapgetD (d:=default) hk)) ?_
   refine Al_p (Pu_lN Tryz.isAgg110 Tryz.sizeOf110) ?_
   refine Al_al Tryz.zeroValue110 λg14=>?_
   refine Al_sN Tryz.isAgg110 Tryz.sizeOf110 ?_
   refine Al_nil (Aw_region ?_)
   refine Al_p (Pu_lbN (r:=[_,_]) Tryz.isAgg47 Tryz.sizeOf47) ?_
   refine Al_p (Pu_fb 1 Tryz.underlying110 Tryz.sizeOf47) ?_
   refine Al_p (Pu_lbN (r:=[_,_]) Tryz.isAgg47 Tryz.sizeOf47) ?_
   refine Al_p (Pu_buildSlice (aa:=[(0,_),(1,_)]) rfl Tryz.underlying214 Tryz.sizeOf47 Tryz.zeroValue47 rfl (by decide) (by decide) (by decide) (by kernel_rfl) ⟨rfl,rfl,rfl,rfl,rfl,rfl,trivial⟩ ((rfl:_=some [[iv (p.seen (past.take k)).1,iv (p.seen (past.take k)).2],[iv (past.getD k default).n,iv (past.getD k default).s]].flatten)) rfl rfl) ?_
   refine Al_p (Pu_call (smax_a [((p.seen (past.take k)).1,(p.seen (past.take k)).2),((past.getD k default).n,(past.getD k default).s)]) rfl ⟨Sub.rfl,trivial⟩) ?_
   refine Al_sN Tryz.isAgg47 Tryz.sizeOf47 ?_
   refine Al_nil (Aw_region ?_)
   refine Al_p Pu_ad ?_
   refine Al_ml ?_
   refine Al_nil ?_
   exact⟨k+1,by omega,by omega,Le.ov ⟨Sub.num (by omega),trivial⟩ ⟨Sub.rfl,Sub.rfl,Sub.rfl,Sub.rfl,Sub.rfl,Sub.rfl,Sub.rfl,Sub.rfl,Sub.rfl,trivial⟩ ⟨by rw[hsn];rfl,trivial⟩ ⟨rfl,rfl,rfl,rfl,trivial⟩⟩
  ·(try simp only[A.cd_]at h35)
   have hkk:k=past.length:=by omega
   rw[show past.take k=past from by rw[hkk,List.take_length]]
   refine Aw_exit ?_
   refine Aw_seq ?_
   refine Aw_drawPA 7 9 4 (by kernel_rfl) (by kernel_rfl) rfl (by decide) rfl rfl rfl rfl (by decide) Tryz.zeroValue47 rfl (by kernel_rfl) rfl ?_
   refine Dr_p (Pu_lbN (r:=[_,_]) Tryz.isAgg47 Tryz.sizeOf47) ?_
   refine Dr_ml ?_
   refine Dr_p Pu_nb ?_
   refine Dr_p (Pu_fb 1 Tryz.underlying163 Tryz.sizeOf3) ?_
   refine Dr_p (Pu_lb Tryz.isAgg3) ?_
   refine Dr_p (Pu_call (snextG_a (p.seen past).1 (p.seen past).2 p.id hid) rfl ⟨Sub.rfl,Sub.rfl,trivial⟩) ?_
   refine Dr_ml ?_
   refine Dr_nil ⟨?_,λg15=>?_⟩
   ·refine Ad_t 7 rfl PuI_ex ?_
    refine Ad_t 8 rfl PuI_ex ?_
    refine Ad_o 9 ?_
    refine Al_al Tryz.zeroValue47 λg15=>?_
    refine Al_nil ?_
    refine Ad_o 10 ?_
    refine Al_sN Tryz.isAgg47 Tryz.sizeOf47 ?_
    refine Al_nil ?_
    refine Ad_t 11 rfl (PuI_move (.inr rfl) (by conv=>lhs;whnf)) ?_
    refine Ad_d ?_
    refine Aw_seq (Aw_sr ?_)
    refine Al_ml ?_
    refine Al_p Pu_cp ?_
    refine Al_nil ?_
    refine Aw_cond rfl (λh54=>?_) (λh54=>?_)
    ·(try simp only[A.cd_]at h54)
     have h1:1099511627776≤(p.seen past).1:=by unfold J.nextE at h54;split at h54<;>simp_all
     have e2:p.writeE key value gone past=18:=by unfold PS.writeE;rw[if_neg h0,if_pos h1]
     have e1:p.write key value gone past=p:=by unfold PS.write;rw[e2,if_neg (by decide)]
     have e3:p.writeV key value gone past=default:=by unfold PS.writeV;rw[e2,if_neg (by decide)]
     have e4:J.nextE (p.seen past).1=18:=by unfold J.nextE;rw[if_pos h1]
     refine Aw_sr ?_
     refine Al_p (Pu_build (aa:=[]) rfl Tryz.underlying50 Tryz.zeroValue50 places50 (by kernel_rfl) trivial rfl) ?_
     refine Al_ml ?_
     refine Al_sN Tryz.isAgg50 Tryz.sizeOf50 ?_
     refine Al_mr ?_
     refine Al_nil ?_
     rw[e1,e2,e3]
     try rw[e4]
     first
      | refine Aw_boxle (k:=10) ((default:Ver).row.map .d) rfl ⟨Sub.rfl,Sub.rfl,Sub.rfl,Sub.rfl,Sub.rfl,Sub.nil,trivial⟩ ?_
      | skip
     exact Aw_ret (⟨_,_,[],rfl,⟨_,rfl,_,_,_,_,_,[_,_,_,_,_,_],_,rfl,rfl,rfl,rfl,Sub.rfl,rfl⟩,⟨rfl,rfl,rfl,trivial⟩,rfl⟩)
    ·(try simp only[A.cd_]at h54)
     have h1:¬1099511627776≤(p.seen past).1:=by unfold J.nextE at h54;split at h54<;>simp_all
     have e5:J.nextR (p.seen past).1 p.id=(max (p.seen past).1 0+1,p.id):=by unfold J.nextR;rw[if_neg h1]
     rw[e5]
     refine Aw_skip (Aw_seq ?_)
     refine Aw_dA 7 Tryz.zeroValue50 ?_
     refine Dr_ml ?_
     refine Dr_ml ?_
     refine Dr_ml ?_
     refine Dr_p (Pu_lbN (r:=[_,_]) Tryz.isAgg47 Tryz.sizeOf47) ?_
     refine Dr_ml ?_
     refine Dr_p (Pu_call (cloneD_a past hpl) rfl ⟨Sub.rfl,trivial⟩) ?_
     refine Dr_p (Pu_build (aa:=[(0,_),(1,_),(2,_),(3,_),(4,_)]) rfl Tryz.underlying50 Tryz.zeroValue50 places50 (by kernel_rfl) ⟨rfl,rfl,rfl,rfl,rfl,rfl,rfl,rfl,rfl,rfl,rfl,rfl,rfl,rfl,rfl,trivial⟩ rfl) ?_
     refine Dr_nil ?_
     intro g17
     refine Al_sN Tryz.isAgg50 Tryz.sizeOf50 ?_
     refine Al_nil (Aw_seq (Aw_sr ?_))
     refine Al_p (Pu_lbN (r:=[_,_,_,_,_,_]) Tryz.isAgg50 Tryz.sizeOf50) ?_
     refine Al_p (Pu_call (wcheck_a (p.made key value gone past)) rfl ⟨Sub.rfl,trivial⟩) ?_
     refine Al_p Pu_n ?_
     refine Al_nil ?_
     refine Aw_cond rfl (λh66=>?_) (λh66=>?_)
     ·skip
      have h2:J.checkB (p.made key value gone past)=false:=by simpa using h66
      have e2:p.writeE key value gone past=1:=by unfold PS.writeE;rw[if_neg h0,if_neg h1,if_neg (by rw[h2];decide)]
      have e1:p.write key value gone past=p:=by unfold PS.write;rw[e2,if_neg (by decide)]
      have e3:p.writeV key value gone past=default:=by unfold PS.writeV;rw[e2,if_neg (by decide)]
      refine Aw_sr ?_
      refine Al_p (Pu_build (aa:=[]) rfl Tryz.underlying50 Tryz.zeroValue50 places50 (by kernel_rfl) trivial rfl) ?_
      refine Al_sN Tryz.isAgg50 Tryz.sizeOf50 ?_
      refine Al_mr ?_
      refine Al_nil ?_
      rw[e1,e2,e3]
      try rw[e4]
      first
       | refine Aw_boxle (k:=10) ((default:Ver).row.map .d) rfl ⟨Sub.rfl,Sub.rfl,Sub.rfl,Sub.rfl,Sub.rfl,Sub.nil,trivial⟩ ?_
       | skip
      exact Aw_ret (⟨_,_,[],rfl,⟨_,rfl,_,_,_,_,_,[_,_,_,_,_,_],_,rfl,rfl,rfl,rfl,Sub.rfl,rfl⟩,⟨rfl,rfl,rfl,trivial⟩,rfl⟩)
     ·skip
      have h2:J.checkB (p.made key value gone past)=true:=by simpa using h66
      have e2:p.writeE key value gone past=0:=by unfold PS.writeE;rw[if_neg h0,if_neg h1,if_pos h2]
      have e1:p.write key value gone past=p.writeP key value gone past:=by unfold PS.write;rw[e2,if_pos rfl]
      have e3:p.writeV key value gone past=p.made key value gone past:=by unfold PS.writeV;rw[e2,if_pos rfl]
      refine Aw_skip (Aw_seq ?_)
      refine Aw_dr 5 ?_
      refine Dr_ml ?_
      refine Dr_p Pu_nb ?_
      refine Dr_p (Pu_fb 0 Tryz.underlying163 Tryz.sizeOf161) ?_
      refine Dr_p (Pu_loadAg (r:=[.bx 1002 0 0]) rfl Tryz.isAgg161 Tryz.sizeOf161 rfl rfl (by exact rfl) rfl) ?_
      refine Dr_p (Pu_lbN (r:=[_,_,_,_,_,_]) Tryz.isAgg50 Tryz.sizeOf50) ?_
      refine Dr_nil ?_
      refine Al_gcall [(1001,1002,0),(1002,1003,0)] [] (kput_g p.rs p.cs b (p.made key value gone past) hp.rl hp.rise (hp.sm.mono hm)) rfl rfl rfl (by decide) (by kernel_rfl) ⟨rfl,rfl,trivial⟩ rfl ⟨Sub.rfl,Sub.rfl,trivial⟩ (λg73=>?_)
      refine Al_ns ?_
      refine Al_ml ?_
      refine Al_p (Pu_lbN (r:=[_,_]) Tryz.isAgg47 Tryz.sizeOf47) ?_
      refine Al_p Pu_nb ?_
      refine Al_p (Pu_fb 3 Tryz.underlying163 Tryz.sizeOf47) ?_
      refine Al_sN Tryz.isAgg47 Tryz.sizeOf47 ?_
      refine Al_ns ?_
      refine Al_p (Pu_lbN (r:=[_,_,_,_,_,_]) Tryz.isAgg50 Tryz.sizeOf50) ?_
      refine Al_sN Tryz.isAgg50 Tryz.sizeOf50 ?_
      refine Al_mr ?_
      refine Al_nil ?_
      rw[e1,e2,e3]
      try rw[e4]
      first
       | refine Aw_boxle (k:=10) ((default:Ver).row.map .d) rfl ⟨Sub.rfl,Sub.rfl,Sub.rfl,Sub.rfl,Sub.rfl,Sub.nil,trivial⟩ ?_
       | skip
      exact Aw_ret (⟨_,_,[],rfl,⟨_,rfl,_,_,_,_,_,[_,_,_,_,_,_],_,rfl,rfl,rfl,rfl,Sub.rfl,rfl⟩,⟨rfl,rfl,rfl,trivial⟩,rfl⟩)
   ·refine Ad_t 7 rfl PuI_ex ?_
    refine Ad_t 8 rfl PuI_ex ?_
    refine Ad_o 10 ?_
    refine Al_sN Tryz.isAgg47 Tryz.sizeOf47 ?_
    refine Al_nil ?_
    refine Ad_t 11 rfl (PuI_move (.inr rfl) (by conv=>lhs;whnf)) ?_
    refine Ad_d ?_
    refine Aw_seq (Aw_sr ?_)
    refine Al_ml ?_
    refine Al_p Pu_cp ?_
    refine Al_nil ?_
    refine Aw_cond rfl (λh54=>?_) (λh54=>?_)
    ·(try simp only[A.cd_]at h54)
     have h1:1099511627776≤(p.seen past).1:=by unfold J.nextE at h54;split at h54<;>simp_all
     have e2:p.writeE key value gone past=18:=by unfold PS.writeE;rw[if_neg h0,if_pos h1]
     have e1:p.write key value gone past=p:=by unfold PS.write;rw[e2,if_neg (by decide)]
     have e3:p.writeV key value gone past=default:=by unfold PS.writeV;rw[e2,if_neg (by decide)]
     have e4:J.nextE (p.seen past).1=18:=by unfold J.nextE;rw[if_pos h1]
     refine Aw_sr ?_
     refine Al_p (Pu_build (aa:=[]) rfl Tryz.underlying50 Tryz.zeroValue50 places50 (by kernel_rfl) trivial rfl) ?_
     refine Al_ml ?_
     refine Al_sN Tryz.isAgg50 Tryz.sizeOf50 ?_
     refine Al_mr ?_
     refine Al_nil ?_
     rw[e1,e2,e3]
     try rw[e4]
     first
      | refine Aw_boxle (k:=10) ((default:Ver).row.map .d) rfl ⟨Sub.rfl,Sub.rfl,Sub.rfl,Sub.rfl,Sub.rfl,Sub.nil,trivial⟩ ?_
      | skip
     exact Aw_ret (⟨_,_,[],rfl,⟨_,rfl,_,_,_,_,_,[_,_,_,_,_,_],_,rfl,rfl,rfl,rfl,Sub.rfl,rfl⟩,⟨rfl,rfl,rfl,trivial⟩,rfl⟩)
    ·(try simp only[A.cd_]at h54)
     have h1:¬1099511627776≤(p.seen past).1:=by unfold J.nextE at h54;split at h54<;>simp_all
     have e5:J.nextR (p.seen past).1 p.id=(max (p.seen past).1 0+1,p.id):=by unfold J.nextR;rw[if_neg h1]
     rw[e5]
     refine Aw_skip (Aw_seq ?_)
     refine Aw_dA 7 Tryz.zeroValue50 ?_
     refine Dr_ml ?_
     refine Dr_ml ?_
     refine Dr_ml ?_
     refine Dr_p (Pu_lbN (r:=[_,_]) Tryz.isAgg47 Tryz.sizeOf47) ?_
     refine Dr_ml ?_
     refine Dr_p (Pu_call (cloneD_a past hpl) rfl ⟨Sub.rfl,trivial⟩) ?_
     refine Dr_p (Pu_build (aa:=[(0,_),(1,_),(2,_),(3,_),(4,_)]) rfl Tryz.underlying50 Tryz.zeroValue50 places50 (by kernel_rfl) ⟨rfl,rfl,rfl,rfl,rfl,rfl,rfl,rfl,rfl,rfl,rfl,rfl,rfl,rfl,rfl,trivial⟩ rfl) ?_
     refine Dr_nil ?_
     intro g17
     refine Al_sN Tryz.isAgg50 Tryz.sizeOf50 ?_
     refine Al_nil (Aw_seq (Aw_sr ?_))
     refine Al_p (Pu_lbN (r:=[_,_,_,_,_,_]) Tryz.isAgg50 Tryz.sizeOf50) ?_
     refine Al_p (Pu_call (wcheck_a (p.made key value gone past)) rfl ⟨Sub.rfl,trivial⟩) ?_
     refine Al_p Pu_n ?_
     refine Al_nil ?_
     refine Aw_cond rfl (λh66=>?_) (λh66=>?_)
     ·skip
      have h2:J.checkB (p.made key value gone past)=false:=by simpa using h66
      have e2:p.writeE key value gone past=1:=by unfold PS.writeE;rw[if_neg h0,if_neg h1,if_neg (by rw[h2];decide)]
      have e1:p.write key value gone past=p:=by unfold PS.write;rw[e2,if_neg (by decide)]
      have e3:p.writeV key value gone past=default:=by unfold PS.writeV;rw[e2,if_neg (by decide)]
      refine Aw_sr ?_
      refine Al_p (Pu_build (aa:=[]) rfl Tryz.underlying50 Tryz.zeroValue50 places50 (by kernel_rfl) trivial rfl) ?_
      refine Al_sN Tryz.isAgg50 Tryz.sizeOf50 ?_
      refine Al_mr ?_
      refine Al_nil ?_
      rw[e1,e2,e3]
      try rw[e4]
      first
       | refine Aw_boxle (k:=10) ((default:Ver).row.map .d) rfl ⟨Sub.rfl,Sub.rfl,Sub.rfl,Sub.rfl,Sub.rfl,Sub.nil,trivial⟩ ?_
       | skip
      exact Aw_ret (⟨_,_,[],rfl,⟨_,rfl,_,_,_,_,_,[_,_,_,_,_,_],_,rfl,rfl,rfl,rfl,Sub.rfl,rfl⟩,⟨rfl,rfl,rfl,trivial⟩,rfl⟩)
     ·skip
      have h2:J.checkB (p.made key value gone past)=true:=by simpa using h66
      have e2:p.writeE key value gone past=0:=by unfold PS.writeE;rw[if_neg h0,if_neg h1,if_pos h2]
      have e1:p.write key value gone past=p.writeP key value gone past:=by unfold PS.write;rw[e2,if_pos rfl]
      have e3:p.writeV key value gone past=p.made key value gone past:=by unfold PS.writeV;rw[e2,if_pos rfl]
      refine Aw_skip (Aw_seq ?_)
      refine Aw_dr 5 ?_
      refine Dr_ml ?_
      refine Dr_p Pu_nb ?_
      refine Dr_p (Pu_fb 0 Tryz.underlying163 Tryz.sizeOf161) ?_
      refine Dr_p (Pu_loadAg (r:=[.bx 1002 0 0]) rfl Tryz.isAgg161 Tryz.sizeOf161 rfl rfl (by exact rfl) rfl) ?_
      refine Dr_p (Pu_lbN (r:=[_,_,_,_,_,_]) Tryz.isAgg50 Tryz.sizeOf50) ?_
      refine Dr_nil ?_
      refine Al_gcall [(1001,1002,0),(1002,1003,0)] [] (kput_g p.rs p.cs b (p.made key value gone past) hp.rl hp.rise (hp.sm.mono hm)) rfl rfl rfl (by decide) (by kernel_rfl) ⟨rfl,rfl,trivial⟩ rfl ⟨Sub.rfl,Sub.rfl,trivial⟩ (λg73=>?_)
      refine Al_ns ?_
      refine Al_ml ?_
      refine Al_p (Pu_lbN (r:=[_,_]) Tryz.isAgg47 Tryz.sizeOf47) ?_
      refine Al_p Pu_nb ?_
      refine Al_p (Pu_fb 3 Tryz.underlying163 Tryz.sizeOf47) ?_
      refine Al_sN Tryz.isAgg47 Tryz.sizeOf47 ?_
      refine Al_ns ?_
      refine Al_p (Pu_lbN (r:=[_,_,_,_,_,_]) Tryz.isAgg50 Tryz.sizeOf50) ?_
      refine Al_sN Tryz.isAgg50 Tryz.sizeOf50 ?_
      refine Al_mr ?_
      refine Al_nil ?_
      rw[e1,e2,e3]
      try rw[e4]
      first
       | refine Aw_boxle (k:=10) ((default:Ver).row.map .d) rfl ⟨Sub.rfl,Sub.rfl,Sub.rfl,Sub.rfl,Sub.rfl,Sub.nil,trivial⟩ ?_
       | skip
      exact Aw_ret (⟨_,_,[],rfl,⟨_,rfl,_,_,_,_,_,[_,_,_,_,_,_],_,rfl,rfl,rfl,rfl,Sub.rfl,rfl⟩,⟨rfl,rfl,rfl,trivial⟩,rfl⟩)
end
namespace PS
theorem Ok.write {p:PS}{m:Nat}(h:p.Ok m) (key value:ByteArray) (gone:Bool) (past:List Dep):(p.write key value gone past).Ok (m+1):=by
 unfold PS.write
 split
 ·exact⟨J.sput_rise h.rise _,J.sput_sm h.sm _,h.wl,h.wp,h.rl,h.id⟩
 ·exact h.mono (Nat.le_succ m)
theorem pushE_zero {l:List Ver}{v:Ver}(h:J.pushE l v=0):J.checkB v=true∧l.length<24:=by
 unfold J.pushE at h
 split at h
 ·rename_i h1
  split at h
  ·omega
  ·rename_i h2
   exact⟨h1,by omega⟩
 ·omega
theorem Ok.arrive {p:PS}{m:Nat}(h:p.Ok m) (v:Ver):(p.arrive v).Ok m:=by
 unfold PS.arrive
 split
 ·rename_i he
  split
  ·exact⟨h.rise,h.sm,h.wl,h.wp,h.rl,h.id⟩
  ·rename_i hf
   unfold PS.arriveE at he
   split at he
   ·omega
   ·try rw[if_neg hf]at he
    split at he
    ·omega
    ·obtain⟨h1,h2⟩:=pushE_zero he
     refine⟨h.rise,h.sm,?_,λw hw=>?_,h.rl,h.id⟩
     ·show(p.wait++[v]).length≤24
      simp;omega
     ·rcases List.mem_append.1 hw with hw|hw
      ·exact h.wp w hw
      ·cases List.mem_singleton.1 hw;exact h1
 ·exact h
theorem Ok.step {p:PS}{m:Nat}(h:p.Ok m):p.step.Ok (m+1):=by
 unfold PS.step
 split
 ·refine⟨J.sput_rise h.rise _,J.sput_sm h.sm _,Nat.le_trans (List.length_eraseIdx_le ..) h.wl,λw hw=>h.wp w (List.mem_of_mem_eraseIdx hw),h.rl,h.id⟩
 ·exact h.mono (Nat.le_succ m)
theorem Ok.clean {p:PS}{m:Nat}(h:p.Ok m) (n s:Int) (pins:List Dep):(p.clean n s pins).Ok m:=⟨J.sclean_rise h.rise n s pins,J.sclean_sm h.sm n s pins,h.wl,h.wp,h.rl,h.id⟩
theorem Ok.zero {k:Int}(hk:0≤k∧k<6) {rs:List Rng}(hrl:rs.length≤1000000):(PS.zero k rs).Ok 0:=⟨J.rise_nil,J.sm_nil 0,Nat.zero_le _,(λv hv=>nomatch hv),hrl,hk⟩
end PS
section
variable (p:PS) (b:Nat)
end
theorem stNew_g (k:Int) (hk:0≤k∧k<6) (rs:List Rng) (hrl:rs.length≤1000000):GCallE Tryz.prog 36 [.d (iv k),.d (rngA rs)] [] (λb:Nat=>some (ST (PS.zero k rs) b,.bx 1001 0 0)):=by
 refine GC_EL Tryz.func36 Tryz.ntmps36 (ReadsS.r1 Tryz.results36) λhok hokB M0 w0 hl=>?_
 refine Aw_sr ?_
 refine Al_mr ?_
 refine Al_nil (Aw_seq (Aw_sr ?_))
 refine Al_ml ?_
 refine Al_p Pu_cp ?_
 refine Al_ml ?_
 refine Al_s (St_g [] trivial (λ_=>Pu_mvl)) ?_
 refine Al_s (St_g [8] ⟨⟨_,rfl⟩,trivial⟩ (λ_=>Pu_cp)) ?_
 refine Al_p Pu_o ?_
 refine Al_nil ?_
 refine Aw_cond rfl (λh10=>?_) (λh10=>?_)
 ·skip
  exfalso
  simp only[Bool.or_eq_true,decide_eq_true_eq]at h10
  omega
 ·skip
  refine Aw_skip (Aw_sr ?_)
  refine Al_ml ?_
  refine Al_gcallE [] [(1001,12),(1002,120)] (snew_g rs hrl) rfl rfl rfl (by decide) (by kernel_rfl) trivial (λ_=>rfl) rfl rfl ⟨Sub.rfl,trivial⟩ ?_
  rintro b g12
  refine Al_p (Pu_buildAg (aa:=[(0,_)]) rfl Tryz.underlying161 Tryz.zeroValue161 places161 (by kernel_rfl) ⟨rfl,rfl,trivial⟩ rfl) ?_
  refine Al_ml ?_
  refine Al_p (Pu_buildAg (aa:=[(0,_),(1,_)]) rfl Tryz.underlying163 Tryz.zeroValue163 places163 (by kernel_rfl) ⟨rfl,rfl,rfl,rfl,trivial⟩ rfl) ?_
  refine Al_boxAg rfl rfl rfl (by decide) (by kernel_rfl) rfl (λg16=>?_)
  refine Al_mr ?_
  refine Al_nil ?_
  refine Aw_boxle (k:=16) [.bx 12 g12 0,.d (iv k),.d (versA []),.d (iv 0),.d (iv 0)] rfl ⟨Sub.rfl,Sub.rfl,Sub.nil,Sub.rfl,Sub.rfl,trivial⟩ ?_
  exact Aw_ret (⟨b,_,_,[(1001,16,g16),(1002,12,g12),(1003,120,g12)],rfl,Sub.rfl,⟨rfl,rfl,rfl,trivial⟩,rfl⟩)
end Go.Proofs.YtdnijgdmohinlaaGreat
end
section
set_option maxRecDepth 100000
namespace Go.Proofs.YtdnijgdmohinlaaGreat
open Go Go.RowKit A R
abbrev cliA (c:Int×List Dep):List AV:=[iv c.1,pastA c.2]
namespace N
def vdep (v:Ver):Dep:=⟨v.key,v.n,v.s⟩
def saw1 (c:Int×List Dep) (v:Ver):Int×List Dep:=(c.1,D.mergeL [c.2,v.past,[vdep v]])
def saw (c:Int×List Dep) (l:List Ver):Int×List Dep:=l.foldl saw1 c
theorem saw_succ (c:Int×List Dep) (l:List Ver) {k:Nat}(hk:k<l.length):saw c (l.take (k+1))=saw1 (saw c (l.take k)) (l.getD k default):=by
 unfold saw
 rw[List.take_succ_eq_append_getElem hk,List.foldl_append]
 simp[hk]
theorem merge_len (l:List (List Dep)):(D.mergeL l).length≤l.flatten.length:=by
 have:=D.addAll_len l.flatten []
 unfold D.mergeL
 simpa using this
theorem saw_len (c:Int×List Dep) (l:List Ver) (hv:∀v∈l,v.past.length≤24):∀k,k≤l.length→(saw c (l.take k)).2.length≤c.2.length+25*k
 | 0,_=>by simp[saw]
 | k+1,hk=>by
  rw[saw_succ c l (by omega)]
  have ih:=saw_len c l hv k (by omega)
  have h1:=merge_len [(saw c (l.take k)).2,(l.getD k default).past,[vdep (l.getD k default)]]
  have h2:(l.getD k default).past.length≤24:=hv _ (by simp[show k<l.length by omega])
  simp only[List.flatten_cons,List.flatten_nil,List.length_append,List.length_nil,List.length_cons]at h1
  show(D.mergeL [_,_,_]).length≤_
  omega
end N
theorem cliNew_a (s:Int):ACall Tryz.prog 38 [iv s] (.row (cliA (s,[]))):=by
 refine AC_G Tryz.func38 Tryz.ntmps38 (Reads.cN Tryz.results38 Tryz.isAgg75 Tryz.sizeOf75) λhok M0 w0 hnl=>?_
 refine Aw_sr ?_
 refine Al_al Tryz.zeroValue75 λg2=>?_
 refine Al_ns ?_
 refine Al_ml ?_
 refine Al_p (Pu_build (aa:=[(0,_)]) rfl Tryz.underlying75 Tryz.zeroValue75 places75 (by kernel_rfl) ⟨rfl,rfl,rfl,trivial⟩ rfl) ?_
 refine Al_sN Tryz.isAgg75 Tryz.sizeOf75 ?_
 refine Al_nil ?_
 refine Aw_boxle (k:=2) [.d (iv s),.d (pastA [])] rfl ⟨Sub.rfl,Sub.nil,trivial⟩ ?_
 exact Aw_ret (⟨_,_,_,_,_,[_,_],rfl,rfl,rfl,rfl,rfl⟩)
theorem cliSaw_a (c:Int×List Dep) (l:List Ver) (hv:∀v∈l,v.past.length≤24) (hl:c.2.length+25*l.length≤900):ACall Tryz.prog 152 [.row (cliA c),.sl 6 (l.map Ver.row)] (.row (cliA (N.saw c l))):=by
 refine AC_G Tryz.func152 Tryz.ntmps152 (Reads.cN Tryz.results152 Tryz.isAgg75 Tryz.sizeOf75) λhok M0 w0 hnl=>?_
 have hlen:=(hok _ (List.mem_cons_of_mem _ (List.mem_cons_self ..))).len
 rw[List.length_map]at hlen
 refine Aw_sr ?_
 refine Al_boxN rfl rfl rfl (by decide) (by kernel_rfl) rfl (λg2=>?_)
 refine Al_al Tryz.zeroValue75 λg4=>?_
 refine Al_nil (Aw_seq (Aw_sr ?_))
 refine Al_ml ?_
 refine Al_p (Pu_ln Tryz.underlying35) ?_
 refine Al_ml ?_
 refine Al_nil (Aw_block ?_)
 refine Aw_loopk (ι:=Nat) [2,4,7,8] [4] (λk=>[(9,.d (iv k))]) (λk=>[(2,g2,.box 75 [.d (iv (N.saw c (l.take k)).1),.d (pastA (N.saw c (l.take k)).2)])]) (λk=>k≤l.length) (λk=>l.length - k) (0) (Nat.zero_le _) ⟨Sub.rfl,trivial⟩ ⟨rfl,trivial⟩ ?_
 rintro k hk0
 refine Aw_sr ?_
 refine Al_p Pu_cp ?_
 refine Al_nil (Aw_seq ?_)
 refine Aw_cond rfl (λh10=>?_) (λh10=>?_)
 ·(try simp only[A.cd_]at h10)
  have hk:k<l.length:=by omega
  have hsn:=N.saw_succ c l hk
  have hsl:=N.saw_len c l hv k (by omega)
  have hvl:(l.getD k default).past.length≤24:=hv _ (by simp[hk])
  have hmg:=merge_a [(N.saw c (l.take k)).2,(l.getD k default).past,[N.vdep (l.getD k default)]] (by simp only[List.flatten_cons,List.flatten_nil,List.length_append,List.length_nil,List.length_cons];omega)
  refine Aw_skip (Aw_seq (Aw_block (Aw_sr ?_)))
  refine Al_p (Pu_index rfl Tryz.underlying35 Tryz.sizeOf50 rfl rfl (rfl) (mapgetD (d:=default) hk)) ?_
  refine Al_p (Pu_lN Tryz.isAgg50 Tryz.sizeOf50) ?_
  refine Al_al Tryz.zeroValue50 λg6=>?_
  refine Al_sN Tryz.isAgg50 Tryz.sizeOf50 ?_
  refine Al_nil (Aw_region ?_)
  refine Al_p (Pu_fb 1 Tryz.underlying75 Tryz.sizeOf48) ?_
  refine Al_p (Pu_lb Tryz.isAgg48) ?_
  refine Al_p (Pu_fb 5 Tryz.underlying50 Tryz.sizeOf48) ?_
  refine Al_p (Pu_lb Tryz.isAgg48) ?_
  refine Al_p (Pu_fb 0 Tryz.underlying50 Tryz.sizeOf9) ?_
  refine Al_p (Pu_lb Tryz.isAgg9) ?_
  refine Al_p (Pu_fb 3 Tryz.underlying50 Tryz.sizeOf47) ?_
  refine Al_p (Pu_lbN (r:=[_,_]) Tryz.isAgg47 Tryz.sizeOf47) ?_
  refine Al_p (Pu_build (aa:=[(0,_),(1,_)]) rfl Tryz.underlying110 Tryz.zeroValue110 places110 (by kernel_rfl) ⟨rfl,rfl,rfl,rfl,rfl,rfl,trivial⟩ rfl) ?_
  refine Al_p (Pu_slice1 rfl Tryz.underlying48 Tryz.sizeOf110 Tryz.zeroValue110 rfl (by decide) (by decide) (by kernel_rfl) rfl rfl rfl) ?_
  refine Al_p (Pu_buildSlice (aa:=[(0,_),(1,_),(2,_)]) rfl Tryz.underlying195 Tryz.sizeOf48 Tryz.zeroValue48 rfl (by decide) (by decide) (by decide) (by kernel_rfl) ⟨rfl,rfl,rfl,rfl,rfl,rfl,rfl,rfl,rfl,trivial⟩ ((rfl:_=some [[pastA (N.saw c (l.take k)).2],[pastA (l.getD k default).past],[pastA [N.vdep (l.getD k default)]]].flatten)) rfl rfl) ?_
  refine Al_p (Pu_call (hmg) rfl ⟨Sub.rfl,trivial⟩) ?_
  refine Al_p (Pu_fb 1 Tryz.underlying75 Tryz.sizeOf48) ?_
  refine Al_s1 Tryz.isAgg48 Tryz.sizeOf48 ?_
  refine Al_nil (Aw_region ?_)
  refine Al_p Pu_ad ?_
  refine Al_ml ?_
  refine Al_nil ?_
  exact⟨k+1,by omega,by omega,Le.ov ⟨Sub.num (by omega),trivial⟩ ⟨Sub.rfl,Sub.rfl,Sub.rfl,Sub.rfl,trivial⟩ ⟨by rw[hsn];rfl,trivial⟩ ⟨rfl,trivial⟩⟩
 ·(try simp only[A.cd_]at h10)
  have hkk:l.take k=l:=List.take_of_length_le (by omega)
  refine Aw_exit (Aw_sr ?_)
  refine Al_p (Pu_lbN (r:=[_,_]) Tryz.isAgg75 Tryz.sizeOf75) ?_
  refine Al_sN Tryz.isAgg75 Tryz.sizeOf75 ?_
  refine Al_nil ?_
  exact Aw_ret (⟨_,_,_,_,_,[_,_],rfl,rfl,rfl,rfl,by rw[hkk]⟩)
end Go.Proofs.YtdnijgdmohinlaaGreat
end
section
set_option maxRecDepth 100000
namespace Go.Proofs.YtdnijgdmohinlaaGreat
open Go Go.RowKit A R
open A.RowT
abbrev PinT:=Int×List Dep
end Go.Proofs.YtdnijgdmohinlaaGreat
end
section
namespace Go.Proofs.YtdnijgdmohinlaaGreat
open Go.RowKit A R
namespace T
def nearB (p:List Int) (a b:Nat):Bool:=decide (p.getD a 0=(b:Int))||decide (p.getD b 0=(a:Int))
def lookS (p:List Int) (a:Nat) (fr:Int) (go:Nat→List Nat) (r:List Nat) (i:Nat):List Nat :=
 if r≠[]then r else if (i:Int)=fr∨i=a∨nearB p a i=false then[]else go i
def lookK (p:List Int) (a:Nat) (fr:Int) (go:Nat→List Nat) (k:Nat):List Nat:=(List.range k).foldl (lookS p a fr go) []
def way (p:List Int) (b:Nat):Nat→Nat→Int→List Nat
 | 0,_,_=>[]
 | f+1,a,fr=>if a=b then[a]else if lookK p a fr (λi=>way p b f i (a:Int)) p.length=[]then[]else a::lookK p a fr (λi=>way p b f i (a:Int)) p.length
theorem lookK_succ (p:List Int) (a:Nat) (fr:Int) (go:Nat→List Nat) (k:Nat):lookK p a fr go (k+1)=lookS p a fr go (lookK p a fr go k) k:=by
 unfold lookK
 rw[List.range_succ,List.foldl_append];rfl
theorem lookK_keep (p:List Int) (a:Nat) (fr:Int) (go:Nat→List Nat) {k:Nat}(h:lookK p a fr go k≠[]):∀m,lookK p a fr go (k+m)=lookK p a fr go k
 | 0=>rfl
 | m+1=>by
  have ih:=lookK_keep p a fr go h m
  rw[←Nat.add_assoc,lookK_succ,ih]
  unfold lookS
  rw[if_pos h]
def mu (p:List Int) (a:Nat) (fr:Int):Nat:=if fr=p.getD a 0 then p.length - a else p.length+a+1
theorem mu_lt {p:List Int}(h:Ahead p) {a i:Nat}{fr:Int}(ha:a<p.length) (hi:i<p.length) (hf:(i:Int)≠fr) (hn:nearB p a i=true):mu p i (a:Int)<mu p a fr:=by
 unfold nearB at hn
 simp only[Bool.or_eq_true,decide_eq_true_eq]at hn
 unfold mu
 rcases hn with hn|hn
 ·
  have hai:i<a:=by
   rcases Nat.eq_zero_or_pos a with h0|h0
   ·have:=h.root;rw[h0]at hn;omega
   ·have:=(h.up a h0 ha).2;omega
  have h1:¬(a:Int)=p.getD i 0:=by
   rcases Nat.eq_zero_or_pos i with h0|h0
   ·have:=h.root;rw[h0];omega
   ·have:=(h.up i h0 hi).2;omega
  rw[if_neg h1,if_neg (by omega)]
  omega
 ·have hai:a<i:=by
   rcases Nat.eq_zero_or_pos i with h0|h0
   ·have:=h.root;rw[h0]at hn;omega
   ·have:=(h.up i h0 hi).2;omega
  rw[if_pos hn.symm]
  split<;>omega
theorem way_len (p:List Int) (b:Nat):∀f a fr,(way p b f a fr).length≤f
 | 0,_,_=>Nat.le_refl _
 | f+1,a,fr=>by
  unfold way
  split
  ·simp
  ·split
   ·simp
   ·have key:∀k,(lookK p a fr (λi=>way p b f i (a:Int)) k).length≤f:=λk=>by
     induction k with
     | zero=>exact Nat.zero_le _
     | succ k ih =>
      rw[lookK_succ]
      unfold lookS
      split
      ·exact ih
      ·split
       ·exact Nat.zero_le _
       ·exact way_len p b f k a
    have:=key p.length
    simp only[List.length_cons];omega
def path (p:List Int) (a b:Nat):List Nat:=way p b (2*p.length+1) a (-1)
def sideK (p:List Int) (a:Nat) (b:Int) (k:Nat):Nat:=(List.range k).foldl (λm i=>if 1<(path p a i).length∧((path p a i).getD 1 0:Int)=b then m|||2^i else m) 0
def side (p:List Int) (a:Nat) (b:Int):Nat:=sideK p a b p.length
theorem sideK_succ (p:List Int) (a:Nat) (b:Int) (k:Nat):sideK p a b (k+1)=if 1<(path p a k).length∧((path p a k).getD 1 0:Int)=b then sideK p a b k|||2^k else sideK p a b k:=by
 unfold sideK
 rw[List.range_succ,List.foldl_append];rfl
theorem sideK_lt (p:List Int) (a:Nat) (b:Int) (k:Nat):sideK p a b k<2^k:=by
 induction k with
 | zero=>exact Nat.one_pos
 | succ k ih =>
  rw[sideK_succ]
  have h2:2^k<2^(k+1):=Nat.pow_lt_pow_right (by omega) (by omega)
  split
  ·exact Nat.or_lt_two_pow (by omega) h2
  ·omega
def nearL (p:List Int) (a:Nat):List Nat:=(List.range p.length).filter (nearB p a)
def next (c:SRow) (a:Nat) (fr:Int) (key:ByteArray):List Nat:=(nearL c.parents a).filter λs=>!(decide ((s:Int)=fr)||decide (side c.parents a s&&&owners c key=0))
theorem next_len (c:SRow) (a:Nat) (fr:Int) (key:ByteArray):(next c a fr key).length≤c.parents.length:=by
 unfold next nearL
 have h1:=List.length_filter_le (nearB c.parents a) (List.range c.parents.length)
 rw[List.length_range]at h1
 exact Nat.le_trans (List.length_filter_le _ _) h1
end T
end Go.Proofs.YtdnijgdmohinlaaGreat
end
section
set_option maxRecDepth 100000
namespace Go.Proofs.YtdnijgdmohinlaaGreat
open Go Go.RowKit A R
abbrev parA (p:List Int):AV:=.sl 1 (p.map λx=>[iv x])
theorem near_a (p:List Int) (a b:Nat) (ha:a<p.length) (hb:b<p.length):ACall Tryz.prog 297 [parA p,iv a,iv b] (bv (T.nearB p a b)):=by
 refine AC_1 Tryz.func297 Tryz.ntmps297 Tryz.results297 λhok M0 w0 hnl=>?_
 have e1:p.getD a 0=p[a]:=by simp[List.getD_eq_getElem?_getD,ha]
 have e2:p.getD b 0=p[b]:=by simp[List.getD_eq_getElem?_getD,hb]
 refine Aw_sr ?_
 refine Al_mr ?_
 refine Al_ns ?_
 refine Al_ml ?_
 refine Al_ml ?_
 refine Al_p (Pu_index rfl Tryz.underlying22 Tryz.sizeOf3 rfl rfl (rfl) (mapget ha)) ?_
 refine Al_p (Pu_l1 Tryz.isAgg3) ?_
 refine Al_ml ?_
 refine Al_p Pu_cp ?_
 refine Al_ml ?_
 refine Al_s (St_g [] trivial (λ_=>Pu_mvl)) ?_
 refine Al_s (St_g [] trivial (λ_=>Pu_mvl)) ?_
 refine Al_s (St_g [14,15] ⟨⟨_,rfl⟩,⟨_,rfl⟩,trivial⟩ (λ_=>Pu_index rfl Tryz.underlying22 Tryz.sizeOf3 rfl rfl (rfl) (mapget hb))) ?_
 refine Al_s (St_g [16] ⟨⟨_,rfl⟩,trivial⟩ (λ_=>Pu_l1 Tryz.isAgg3)) ?_
 refine Al_s (St_g [] trivial (λ_=>Pu_mvl)) ?_
 refine Al_s (St_g [17,18] ⟨⟨_,rfl⟩,⟨_,rfl⟩,trivial⟩ (λ_=>Pu_cp)) ?_
 refine Al_p Pu_o ?_
 refine Al_mr ?_
 refine Al_nil ?_
 exact Aw_ret (Sub.bool (by unfold T.nearB;rw[e1,e2]))
theorem there1_a (p:List Int) (x:Int):ACall Tryz.prog 350 ([iv x]++[.fp [parA p]]) (bv (decide (x<0)||decide (x≥p.length))):=by
 refine AC_1 Tryz.func350 Tryz.ntmps350 Tryz.results350 λhok M0 w0 hnl=>?_
 refine Aw_sr ?_
 refine Al_mr ?_
 refine Al_ns ?_
 refine Al_ml ?_
 refine Al_p Pu_cp ?_
 refine Al_ml ?_
 refine Al_s (St_g [] trivial (λ_=>Pu_mvl)) ?_
 refine Al_s (St_g [] trivial (λ_=>Pu_l1 Tryz.isAgg22)) ?_
 refine Al_s (St_g [8] ⟨⟨_,rfl⟩,trivial⟩ (λ_=>Pu_ln Tryz.underlying22)) ?_
 refine Al_s (St_g [7,9] ⟨⟨_,rfl⟩,⟨_,rfl⟩,trivial⟩ (λ_=>Pu_cp)) ?_
 refine Al_p Pu_o ?_
 refine Al_mr ?_
 refine Al_nil ?_
 exact Aw_ret (Sub.rfl)
theorem there_a (p:List Int) (hp:T.Ahead p) (l:List Int):ACall Tryz.prog 296 [parA p,parA l] (bv (!(l.any λx=>decide (x<0)||decide (x≥p.length)))):=by
 refine AC_1 Tryz.func296 Tryz.ntmps296 Tryz.results296 λhok M0 w0 hnl=>?_
 refine Aw_sr ?_
 refine Al_p (Pu_box1 rfl rfl (by nofun) (by nofun)) ?_
 refine Al_mr ?_
 refine Al_ns ?_
 refine Al_p (Pu_l1 Tryz.isAgg22) ?_
 refine Al_p (Pu_call (trcheck_a p hp) rfl ⟨Sub.rfl,trivial⟩) ?_
 refine Al_ml ?_
 refine Al_s (St_g [] trivial (λ_=>Pu_mvl)) ?_
 refine Al_s (St_g [] trivial (λ_=>Pu_makeFunc (caps:=[_]) rfl ⟨Sub.rfl,trivial⟩)) ?_
 refine Al_s (St_g [8,9] ⟨⟨_,rfl⟩,⟨_,rfl⟩,trivial⟩ (λ_=>Pu_call (containsI_a l 350 [.fp [parA p]] _ (there1_a p)) rfl ⟨Sub.rfl,Sub.rfl,trivial⟩)) ?_
 refine Al_s (St_g [10] ⟨⟨_,rfl⟩,trivial⟩ (λ_=>Pu_n)) ?_
 refine Al_p Pu_a ?_
 refine Al_mr ?_
 refine Al_nil ?_
 exact Aw_ret (Sub.bool (by simp))
namespace T
def wayA:List Nat→AV
 | []=>.v (.slice none 0 0)
 | x::l=>.sl 1 (outR (x::l))
def wF (p:List Int) (b:Nat):SV:=.fnb 349 [] [.d (.fp [iv b]),.d (.fp [parA p]),.bx 1007 0 0]
end T
theorem T.Pu_neqW {st:ASt}{o:Oper}{t yt e:TypeId}{x:Operand}{r:List Nat}(ho:o.op=.binOp .neq t x (.const (.slice none 0 0)) yt) (ht:Tryz.prog.underlying t=some (.slice e)) (hx:st.ev x=.d (T.wayA r)):Pu Tryz.prog st o (.d (bv (!r.isEmpty))):=Pu_q λB M ρ w a h2 _=>by
 have h1:=h2 x (by simp[opsOf,ho,Op.operands])
 rw[hx]at h1
 have hf:∃ad len cap,a.eval x=.slice ad len cap∧r.isEmpty=ad.isNone:=by
  cases r with
  | nil=>obtain⟨h3,_⟩:=rep_v h1;exact⟨none,0,0,h3,rfl⟩
  | cons y r =>
   have h1:Rep M w (.sl 1 (T.outR (y::r))) (a.eval x):=h1
   generalize a.eval x=z at h1
   generalize hrr:T.outR (y::r)=rr at h1
   cases h1 with
   | nil n a c=>simp[T.outR]at hrr
   | sl n rows b o' cap f hl hcap=>exact⟨_,_,_,rfl,rfl⟩
 obtain⟨ad,len,cap,he,hn⟩:=hf
 refine⟨.bool (!r.isEmpty),?_,.v _ trivial⟩
 simp only[execOp,ho,he,Sem.run_bind,Sem.run_pure,Result.andThen_ok]
 have hq:(eqGuard .neq t x (.const (.slice none 0 0)) (.slice ad len cap) (a.eval (.const (.slice none 0 0)))).run Tryz.prog w=.ok () w:=by
  simp[eqGuard,Act.eval]
 have h2:=run_neq_slice_nil (P:=Tryz.prog) w t e ad len cap ht
 rw[hn]
 first|(rw[hq];simp only[Result.andThen_ok];exact(by simp[Act.eval,h2]))|simp[Act.eval,h2]
theorem way_step (p:List Int) (hp:T.Ahead p) (b f a:Nat) (fr:Int) (ha:a<p.length) (hf:f≤1000) (hgo:∀(i:Nat),i<p.length→(i:Int)≠fr→T.nearB p a i=true→GCall Tryz.prog 349 [.d (iv i),.d (iv a),.d (.fp [iv b]),.d (.fp [parA p]),.bx 1007 0 0] [(1007,.box 373 [T.wF p b])] (some ([(1007,.box 373 [T.wF p b])],.d (T.wayA (T.way p b f i (a:Int)))))):GCall Tryz.prog 349 [.d (iv a),.d (iv fr),.d (.fp [iv b]),.d (.fp [parA p]),.bx 1007 0 0] [(1007,.box 373 [T.wF p b])] (some ([(1007,.box 373 [T.wF p b])],.d (T.wayA (T.way p b (f+1) a fr)))):=by
 refine GC_L Tryz.func349 Tryz.ntmps349 (ReadsS.r1 Tryz.results349) λhok hokB M0 w0 hl=>?_
 have hp6:=hp.le
 refine Aw_sr ?_
 refine Al_mr ?_
 refine Al_nil (Aw_seq (Aw_sr ?_))
 refine Al_ml ?_
 refine Al_p (Pu_l1 Tryz.isAgg3) ?_
 refine Al_p Pu_cp ?_
 refine Al_nil ?_
 refine Aw_cond rfl (λh12=>?_) (λh12=>?_)
 ·(try simp only[A.cd_]at h12)
  have hab:a=b:=by omega
  have e1:T.way p b (f+1) a fr=[a]:=by unfold T.way;rw[if_pos hab]
  refine Aw_sr ?_
  refine Al_ml ?_
  refine Al_p (Pu_slice1 rfl Tryz.underlying22 Tryz.sizeOf3 Tryz.zeroValue3 rfl (by decide) (by decide) (by kernel_rfl) rfl rfl rfl) ?_
  refine Al_mr ?_
  refine Al_nil ?_
  exact Aw_ret (⟨_,_,[],rfl,by rw[e1];exact Sub.rfl,⟨rfl,trivial⟩,rfl⟩)
 ·(try simp only[A.cd_]at h12)
  have hab:¬a=b:=by omega
  have e0:T.way p b (f+1) a fr=if T.lookK p a fr (λi=>T.way p b f i (a:Int)) p.length=[]then[]else a::T.lookK p a fr (λi=>T.way p b f i (a:Int)) p.length:=by conv=>lhs;unfold T.way;rw[if_neg hab]
  refine Aw_skip (Aw_seq (Aw_sr ?_))
  refine Al_p (Pu_l1 Tryz.isAgg22) ?_
  refine Al_p (Pu_ln Tryz.underlying22) ?_
  refine Al_ml ?_
  refine Al_nil (Aw_block ?_)
  refine Aw_loopk (ι:=Nat) [0,1,3,4,16] [1007] (λk=>[(17,.d (iv k))]) (λk=>[]) (λk=>k≤p.length∧T.lookK p a fr (λi=>T.way p b f i (a:Int)) k=[]) (λk=>p.length - k) (0) (⟨Nat.zero_le _,rfl⟩) ⟨Sub.rfl,trivial⟩ trivial ?_
  rintro k ⟨hk0,hlk⟩
  refine Aw_sr ?_
  refine Al_p Pu_cp ?_
  refine Al_nil (Aw_seq ?_)
  refine Aw_cond rfl (λh18=>?_) (λh18=>?_)
  ·(try simp only[A.cd_]at h18)
   have hk:k<p.length:=by omega
   have hsn:=T.lookK_succ p a fr (λi=>T.way p b f i (a:Int)) k
   rw[hlk]at hsn
   refine Aw_skip ?_
   refine Aw_seq (Aw_block (Aw_sr ?_))
   refine Al_ml ?_
   refine Al_mr ?_
   refine Al_nil (Aw_seq (Aw_sr ?_))
   refine Al_ml ?_
   refine Al_ml ?_
   refine Al_p Pu_cp ?_
   refine Al_ml ?_
   refine Al_s (St_g [] trivial (λ_=>Pu_mvl)) ?_
   refine Al_s (St_g [] trivial (λ_=>Pu_mvl)) ?_
   refine Al_s (St_g [24,25] ⟨⟨_,rfl⟩,⟨_,rfl⟩,trivial⟩ (λ_=>Pu_cp)) ?_
   refine Al_p Pu_o ?_
   refine Al_ml ?_
   refine Al_s (St_g [] trivial (λ_=>Pu_l1 Tryz.isAgg22)) ?_
   refine Al_s (St_g [] trivial (λ_=>Pu_mvl)) ?_
   refine Al_s (St_g [] trivial (λ_=>Pu_mvl)) ?_
   refine Al_s (St_g [29,30,31] ⟨⟨_,rfl⟩,⟨_,rfl⟩,⟨_,rfl⟩,trivial⟩ (λ_=>Pu_call (near_a p a k ha hk) rfl ⟨Sub.rfl,Sub.rfl,Sub.rfl,trivial⟩)) ?_
   refine Al_s (St_g [32] ⟨⟨_,rfl⟩,trivial⟩ (λ_=>Pu_n)) ?_
   refine Al_p Pu_o ?_
   refine Al_nil ?_
   refine Aw_cond rfl (λh34=>?_) (λh34=>?_)
   ·skip
    have h0:(k:Int)=fr∨k=a∨T.nearB p a k=false:=by
     have h1:(decide ((k:Int)=fr)||decide ((k:Int)=(a:Int))||!T.nearB p a k)=true:=h34
     simp only[Bool.or_eq_true,decide_eq_true_eq,Bool.not_eq_true']at h1
     rcases h1 with(h|h)|h
     ·exact .inl h
     ·exact .inr (.inl (by omega))
     ·exact .inr (.inr h)
    have hsn1:T.lookK p a fr (λi=>T.way p b f i (a:Int)) (k+1)=[]:=by rw[hsn];unfold T.lookS;rw[if_neg (by simp),if_pos h0]
    refine Aw_exit (Aw_region ?_)
    refine Al_p Pu_ad ?_
    refine Al_ml ?_
    refine Al_nil ?_
    exact⟨k+1,⟨by omega,hsn1⟩,by omega,Le.ov ⟨Sub.num (by omega),trivial⟩ ⟨Sub.rfl,Sub.rfl,Sub.rfl,Sub.rfl,Sub.rfl,trivial⟩ trivial ⟨rfl,trivial⟩⟩
   ·skip
    have h0:¬((k:Int)=fr∨k=a∨T.nearB p a k=false):=by
     have h1:(decide ((k:Int)=fr)||decide ((k:Int)=(a:Int))||!T.nearB p a k)=false:=h34
     simp only[Bool.or_eq_false_iff,decide_eq_false_iff_not,Bool.not_eq_false']at h1
     rintro(h|h|h)
     ·exact h1.1.1 h
     ·exact h1.1.2 (by rw[h])
     ·rw[h1.2]at h;cases h
    have hsn2:T.lookK p a fr (λi=>T.way p b f i (a:Int)) (k+1)=T.way p b f k (a:Int):=by rw[hsn];unfold T.lookS;rw[if_neg (by simp),if_neg h0]
    have hcall:=hgo k hk (λh=>h0 (.inl h)) (by cases h:T.nearB p a k with
     | true=>rfl
     | false=>exact(h0 (.inr (.inr h))).elim)
    have hwl:=T.way_len p b f k (a:Int)
    refine Aw_skip (Aw_sr ?_)
    refine Al_p (Pu_lb Tryz.isAgg373) ?_
    refine Al_ml ?_
    refine Al_ml ?_
    refine Al_gcallv [(1007,1007,0)] [] hcall rfl rfl rfl (by decide) (by kernel_rfl) rfl ⟨rfl,trivial⟩ rfl [.d (iv k),.d (iv a)] rfl ⟨Sub.rfl,Sub.rfl,trivial⟩ (λg38=>?_)
    refine Al_mr ?_
    refine Al_ns ?_
    refine Al_ml ?_
    refine Al_p (T.Pu_neqW (r:=T.way p b f k (a:Int)) rfl Tryz.underlying22 rfl) ?_
    refine Al_nil ?_
    refine Aw_cond rfl (λh40=>?_) (λh40=>?_)
    ·(try simp only[A.cd_]at h40)
     obtain⟨y,ys,hw⟩:∃y ys,T.way p b f k (a:Int)=y::ys:=by
      cases hw:T.way p b f k (a:Int)with
      | nil=>rw[hw]at h40;simp at h40
      | cons y ys=>exact⟨y,ys,rfl⟩
     have hfin:=T.lookK_keep p a fr (λi=>T.way p b f i (a:Int)) (k:=k+1) (by rw[hsn2,hw];simp) (p.length - (k+1))
     rw[show k+1+(p.length - (k+1))=p.length from by omega,hsn2]at hfin
     have e1:T.way p b (f+1) a fr=a::T.way p b f k (a:Int):=by rw[e0,hfin,if_neg (by rw[hw];simp)]
     rw[e1,hw]
     rw[hw]at hwl
     refine Aw_sr ?_
     refine Al_ml ?_
     refine Al_sliceLit (aa:=[(0,_)]) (rows:=[[iv (a:Int)]]) rfl rfl rfl (by decide) (by kernel_rfl) Tryz.underlying22 Tryz.sizeOf3 Tryz.zeroValue3 rfl (by decide) (by decide) (by decide) (by kernel_rfl) ⟨rfl,rfl,rfl,trivial⟩ (rfl) rfl rfl (λg42=>?_)
     refine Al_ml ?_
     refine Al_append rfl rfl rfl (by decide) (by kernel_rfl) elem22 (by decide) Tryz.sizeOf3 rfl rfl rfl (by rw[T.outR,List.length_map];simp only[List.length_singleton];omega) (by decide) (λg44=>?_)
     refine Al_mr ?_
     refine Al_nil ?_
     refine Aw_frzL hl (k:=42) [7] rfl ⟨rfl,⟨_,rfl,λ_ _ h=>h⟩,trivial⟩ ⟨rfl,trivial⟩ ?_
     exact Aw_ret (⟨_,_,[],rfl,Sub.rfl,⟨rfl,trivial⟩,rfl⟩)
    ·(try simp only[A.cd_]at h40)
     have hw:T.way p b f k (a:Int)=[]:=by
      cases hw:T.way p b f k (a:Int)with
      | nil=>rfl
      | cons y ys=>rw[hw]at h40;simp at h40
     refine Aw_skip (Aw_region ?_)
     refine Al_p Pu_ad ?_
     refine Al_ml ?_
     refine Al_nil ?_
     exact⟨k+1,⟨by omega,by rw[hsn2,hw]⟩,by omega,Le.ov ⟨Sub.num (by omega),trivial⟩ ⟨Sub.rfl,Sub.rfl,Sub.rfl,Sub.rfl,Sub.rfl,trivial⟩ trivial ⟨rfl,trivial⟩⟩
  ·(try simp only[A.cd_]at h18)
   have hkk:k=p.length:=by omega
   have e1:T.way p b (f+1) a fr=[]:=by rw[e0,←hkk,if_pos hlk]
   refine Aw_exit (Aw_sr ?_)
   refine Al_mr ?_
   refine Al_nil ?_
   exact Aw_ret (⟨_,_,[],rfl,by rw[e1];exact Sub.rfl,⟨rfl,trivial⟩,rfl⟩)
theorem way_g (p:List Int) (hp:T.Ahead p) (b:Nat):∀(f a:Nat) (fr:Int),a<p.length→f≤1000→T.mu p a fr≤f→GCall Tryz.prog 349 [.d (iv a),.d (iv fr),.d (.fp [iv b]),.d (.fp [parA p]),.bx 1007 0 0] [(1007,.box 373 [T.wF p b])] (some ([(1007,.box 373 [T.wF p b])],.d (T.wayA (T.way p b f a fr))))
 | 0,a,fr,ha,_,hm=>by
  unfold T.mu at hm
  split at hm<;>omega
 | f+1,a,fr,ha,hf,hm=>way_step p hp b f a fr ha (by omega) λi hi hne hn=>way_g p hp b f i a hi (by omega) (by
  have:=T.mu_lt hp ha hi hne hn
  omega)
theorem path_a (p:List Int) (hp:T.Ahead p) (a b:Nat) (ha:a<p.length) (hb:b<p.length):ACall Tryz.prog 294 [parA p,iv a,iv b] (T.wayA (T.path p a b)):=by
 refine AC_1 Tryz.func294 Tryz.ntmps294 Tryz.results294 λhok M0 w0 hnl=>?_
 have hp6:=hp.le
 have hm:T.mu p a (-1)≤2*p.length+1:=by unfold T.mu;split<;>omega
 have hcall:=way_g p hp b (2*p.length+1) a (-1) ha (by omega) hm
 refine Aw_sr ?_
 refine Al_p (Pu_box1 rfl rfl (by nofun) (by nofun)) ?_
 refine Al_p (Pu_box1 rfl rfl (by nofun) (by nofun)) ?_
 refine Al_mr ?_
 refine Al_nil (Aw_seq (Aw_sr ?_))
 refine Al_p (Pu_l1 Tryz.isAgg22) ?_
 refine Al_ml ?_
 refine Al_p (Pu_l1 Tryz.isAgg3) ?_
 refine Al_p (Pu_buildSlice (aa:=[(0,_),(1,_)]) rfl Tryz.underlying22 Tryz.sizeOf3 Tryz.zeroValue3 rfl (by decide) (by decide) (by decide) (by kernel_rfl) ⟨rfl,rfl,rfl,rfl,rfl,rfl,trivial⟩ ((rfl:_=some [[iv (a:Int)],[iv (b:Int)]].flatten)) rfl rfl) ?_
 refine Al_p (Pu_call (there_a p hp [(a:Int),(b:Int)]) rfl ⟨Sub.rfl,Sub.rfl,trivial⟩) ?_
 refine Al_p Pu_n ?_
 refine Al_nil ?_
 refine Aw_condF rfl ((by simp;omega)) ?_
 refine Aw_skip (Aw_sr ?_)
 refine Al_al Tryz.zeroValue373 λg7=>?_
 refine Al_ns ?_
 refine Al_p (Pu_makeFuncS (ys:=[]) (xs:=[_,_,_]) [] [.d (.fp [iv b]),.d (.fp [parA p]),.bx 7 g7 0] rfl trivial ⟨Sub.rfl,Sub.rfl,Sub.rfl,trivial⟩) ?_
 refine Al_s1 Tryz.isAgg373 Tryz.sizeOf373 ?_
 refine Al_ns ?_
 refine Al_p (Pu_lb Tryz.isAgg373) ?_
 refine Al_ml ?_
 refine Al_gcallv [(1007,7,g7)] [] hcall rfl rfl rfl (by decide) (by kernel_rfl) rfl ⟨rfl,trivial⟩ rfl [.d (iv a),.d (iv (-1))] rfl ⟨Sub.rfl,Sub.rfl,trivial⟩ (λg17=>?_)
 refine Al_mr ?_
 refine Al_nil ?_
 exact Aw_ret (Sub.rfl)
theorem path_b (p:List Int) (hp:T.Ahead p) (a b:Nat) (ha:a<p.length) (hb:b<p.length):ACall Tryz.prog 294 [parA p,iv a,iv b] (.sl 1 (T.outR (T.path p a b))):=⟨(path_a p hp a b ha hb).1,λM w vs hM hr=>((path_a p hp a b ha hb).2 M w vs hM hr).mono λe w' ⟨v,h1,h2,h3⟩=>⟨v,h1,h2,by
 cases h:T.path p a b with
 | nil=>rw[h]at h3;cases h3;exact .nil _ _ _
 | cons x l=>rw[h]at h3;exact h3⟩⟩
theorem T.out_at {l:List Nat}{j:Nat}(h:j<l.length):(T.outR l)[j]?=some [iv ((l.getD j 0:Nat):Int)]:=by
 simp[T.outR,h]
theorem T.or64:∀a∈List.range 64,∀b∈List.range 64,IntKind.i64.wrap (BitVec.ofInt IntKind.i64.bits (a:Nat)|||BitVec.ofInt IntKind.i64.bits (b:Nat)).toNat=((a|||b:Nat):Int):=by decide +kernel
theorem T.and64:∀a∈List.range 64,∀b∈List.range 64,IntKind.i64.wrap (BitVec.ofInt IntKind.i64.bits (a:Nat)&&&BitVec.ofInt IntKind.i64.bits (b:Nat)).toNat=((a&&&b:Nat):Int):=by decide +kernel
theorem T.shl1:∀k∈List.range 6,IntKind.i64.wrap (1*2^((k:Nat):Int).toNat)=((2^k:Nat):Int):=by decide +kernel
theorem side_a (p:List Int) (hp:T.Ahead p) (a:Nat) (b:Int) (ha:a<p.length):ACall Tryz.prog 218 [parA p,iv a,iv b] (iv (T.side p a b:Nat)):=by
 refine AC_1 Tryz.func218 Tryz.ntmps218 Tryz.results218 λhok M0 w0 hnl=>?_
 have hp6:=hp.le
 refine Aw_sr ?_
 refine Al_mr ?_
 refine Al_ns ?_
 refine Al_mr ?_
 refine Al_nil (Aw_seq (Aw_sr ?_))
 refine Al_ml ?_
 refine Al_p (Pu_ln Tryz.underlying22) ?_
 refine Al_ml ?_
 refine Al_nil (Aw_block ?_)
 refine Aw_loopk (ι:=Nat) [0,1,2,11] [] (λk=>[(12,.d (iv k)),(7,.d (iv (T.sideK p a b k:Nat)))]) (λk=>[]) (λk=>k≤p.length) (λk=>p.length - k) (0) (Nat.zero_le _) ⟨Sub.rfl,Sub.rfl,trivial⟩ trivial ?_
 rintro k hk0
 refine Aw_sr ?_
 refine Al_p Pu_cp ?_
 refine Al_nil (Aw_seq ?_)
 refine Aw_cond rfl (λh13=>?_) (λh13=>?_)
 ·(try simp only[A.cd_]at h13)
  have hk:k<p.length:=by omega
  have hsn:=T.sideK_succ p a b k
  have hlt:=T.sideK_lt p a b k
  have h64:2^k≤32:=Nat.pow_le_pow_right (by omega) (by omega:k≤5)
  refine Aw_skip ?_
  refine Aw_seq (Aw_block (Aw_sr ?_))
  refine Al_ml ?_
  refine Al_mr ?_
  refine Al_ns ?_
  refine Al_ml ?_
  refine Al_ml ?_
  refine Al_ml ?_
  refine Al_p (Pu_call (path_b p hp a k ha hk) rfl ⟨Sub.rfl,Sub.rfl,Sub.rfl,trivial⟩) ?_
  refine Al_mr ?_
  refine Al_ns ?_
  refine Al_ml ?_
  refine Al_p (Pu_ln Tryz.underlying22) ?_
  refine Al_p Pu_cp ?_
  refine Al_ml ?_
  refine Al_s (St_g [] trivial (λ_=>Pu_mvl)) ?_
  refine Al_s (St_gd [23] rfl rfl rfl rfl ⟨⟨_,rfl⟩,trivial⟩ (λhg24=>by exact Pu_index rfl Tryz.underlying22 Tryz.sizeOf3 rfl rfl (rfl) (T.out_at (j:=1) (by have h0:=hg24;simp[T.outR]at h0;omega)))) ?_
  refine Al_s (St_g [24] ⟨⟨_,rfl⟩,trivial⟩ (λ_=>Pu_l1 Tryz.isAgg3)) ?_
  refine Al_s (St_g [] trivial (λ_=>Pu_mvl)) ?_
  refine Al_s (St_g [25,26] ⟨⟨_,rfl⟩,⟨_,rfl⟩,trivial⟩ (λ_=>Pu_cp)) ?_
  refine Al_p Pu_a ?_
  refine Al_nil ?_
  refine Aw_cond rfl (λh28=>?_) (λh28=>?_)
  ·skip
   have h0:1<(T.path p a k).length∧(((T.path p a k).getD 1 0:Nat):Int)=b:=by
    have h1:(decide ((1:Int)<((T.path p a k).length:Nat))&&decide ((((T.path p a k).getD 1 0:Nat):Int)=b))=true:=h28
    simp only[Bool.and_eq_true,decide_eq_true_eq]at h1
    exact⟨by omega,h1.2⟩
   rw[if_pos h0]at hsn
   refine Aw_region ?_
   refine Al_ml ?_
   refine Al_ml ?_
   refine Al_p (Pu_int_shl (r:=((2^k:Nat):Int)) rfl rfl rfl ⟨by omega,by show(k:Int)≤64;omega⟩ (T.shl1 k (List.mem_range.2 (by omega))) (λ_=>by show A.inI _;simp only[A.inI];omega)) ?_
   refine Al_p (Pu_int_or (r:=((T.sideK p a b k|||2^k:Nat):Int)) rfl rfl rfl (T.or64 _ (List.mem_range.2 (by omega)) _ (List.mem_range.2 (by omega))) (λ_=>by show A.inI _;have:=Nat.or_lt_two_pow (n:=6) (x:=T.sideK p a b k) (y:=2^k) (by omega) (by omega);simp only[A.inI];omega)) ?_
   refine Al_mr ?_
   refine Al_nil (Aw_region ?_)
   refine Al_p Pu_ad ?_
   refine Al_ml ?_
   refine Al_nil ?_
   exact⟨k+1,by omega,by omega,Le.ov ⟨Sub.num (by omega),Sub.num (by rw[hsn]),trivial⟩ ⟨Sub.rfl,Sub.rfl,Sub.rfl,Sub.rfl,trivial⟩ trivial trivial⟩
  ·skip
   have h0:¬(1<(T.path p a k).length∧(((T.path p a k).getD 1 0:Nat):Int)=b):=by
    have h1:(decide ((1:Int)<((T.path p a k).length:Nat))&&decide ((((T.path p a k).getD 1 0:Nat):Int)=b))=false:=h28
    rintro⟨h2,h3⟩
    simp only[Bool.and_eq_false_iff,decide_eq_false_iff_not]at h1
    rcases h1 with h1|h1
    ·omega
    ·exact h1 h3
   rw[if_neg h0]at hsn
   refine Aw_skip (Aw_region ?_)
   refine Al_p Pu_ad ?_
   refine Al_ml ?_
   refine Al_nil ?_
   exact⟨k+1,by omega,by omega,Le.ov ⟨Sub.num (by omega),Sub.num (by rw[hsn]),trivial⟩ ⟨Sub.rfl,Sub.rfl,Sub.rfl,Sub.rfl,trivial⟩ trivial trivial⟩
 ·(try simp only[A.cd_]at h13)
  have hkk:k=p.length:=by omega
  refine Aw_exit (Aw_sr ?_)
  refine Al_ml ?_
  refine Al_mr ?_
  refine Al_nil ?_
  exact Aw_ret (Sub.num (by rw[hkk];rfl))
theorem T.outI (l:List Nat):T.outR l=(l.map λx=>((x:Nat):Int)).map λx=>[iv x]:=by
 unfold T.outR
 rw[List.map_map];rfl
theorem nearL_g (p:List Int) (hp:T.Ahead p) (a:Nat) (ha:a<p.length):GCall Tryz.prog 220 [.d (parA p),.d (iv a)] [] (some ([(1001,.arr 3 1 (((T.nearL p a).map λx=>((x:Nat):Int)).map λx=>[iv x]))],.ow 1001 0)):=by
 refine GC_1 Tryz.func220 Tryz.ntmps220 (ReadsS.r1 Tryz.results220) λhok hokB M0 w0=>?_
 have hp6:=hp.le
 refine Aw_sr ?_
 refine Al_mr ?_
 refine Al_nil (Aw_scope (Aw_seq (Aw_sr ?_)))
 refine Al_ml ?_
 refine Al_ml ?_
 refine Al_p (Pu_slice1 rfl Tryz.underlying22 Tryz.sizeOf3 Tryz.zeroValue3 rfl (by decide) (by decide) (by kernel_rfl) rfl rfl rfl) ?_
 refine Al_p (Pu_call (there_a p hp [(a:Int)]) rfl ⟨Sub.rfl,Sub.rfl,trivial⟩) ?_
 refine Al_p Pu_n ?_
 refine Al_nil ?_
 refine Aw_condF rfl ((by simp;omega)) ?_
 refine Aw_skip (Aw_sr ?_)
 refine Al_mr ?_
 refine Al_nil (Aw_seq (Aw_label (Aw_seq (Aw_sr ?_))))
 refine Al_ml ?_
 refine Al_p (Pu_ln Tryz.underlying22) ?_
 refine Al_ml ?_
 refine Al_nil (Aw_block ?_)
 refine Aw_own (j:=5) (k:=5) (T:=3) (n:=1) rfl (λg5=>?_)
 refine Aw_loopk (ι:=Nat×Nat) [0,1,13] [] (λ(k,g)=>[(14,.d (iv k)),(5,.ow 5 g)]) (λ(k,g)=>[(5,g,.arr 3 1 (T.outR ((List.range k).filter (T.nearB p a))))]) (λ(k,g)=>k≤p.length) (λ(k,g)=>p.length - k) ((0,g5)) (Nat.zero_le _) ⟨Sub.rfl,Sub.rfl,trivial⟩ ⟨rfl,trivial⟩ ?_
 rintro⟨k,g⟩ hk0
 refine Aw_sr ?_
 refine Al_p Pu_cp ?_
 refine Al_nil (Aw_seq ?_)
 refine Aw_cond rfl (λh15=>?_) (λh15=>?_)
 ·(try simp only[A.cd_]at h15)
  have hk:k<p.length:=by omega
  have hsn:(List.range (k+1)).filter (T.nearB p a)=(List.range k).filter (T.nearB p a)++(if T.nearB p a k then[k]else[]):=by
   rw[List.range_succ,List.filter_append]
   congr 1
   cases h:T.nearB p a k<;>simp[List.filter_cons,h]
  have hfl:=List.length_filter_le (T.nearB p a) (List.range k)
  rw[List.length_range]at hfl
  refine Aw_skip ?_
  refine Aw_seq (Aw_block (Aw_sr ?_))
  refine Al_ml ?_
  refine Al_mr ?_
  refine Al_nil (Aw_seq (Aw_sr ?_))
  refine Al_ml ?_
  refine Al_ml ?_
  refine Al_ml ?_
  refine Al_p (Pu_call (near_a p a k ha hk) rfl ⟨Sub.rfl,Sub.rfl,Sub.rfl,trivial⟩) ?_
  refine Al_p Pu_n ?_
  refine Al_nil ?_
  refine Aw_cond rfl (λh21=>?_) (λh21=>?_)
  ·(try simp only[A.cd_]at h21)
   have hno:T.nearB p a k=false:=by simpa using h21
   refine Aw_exit (Aw_region ?_)
   refine Al_p Pu_ad ?_
   refine Al_ml ?_
   refine Al_nil ?_
   exact⟨(k+1,g),by omega,by simp only[];omega,Le.ov ⟨Sub.num (by omega),Sub.rfl,trivial⟩ ⟨Sub.rfl,Sub.rfl,Sub.rfl,trivial⟩ ⟨obeq (by rw[hsn,hno];simp),trivial⟩ trivial⟩
  ·(try simp only[A.cd_]at h21)
   have hye:T.nearB p a k=true:=by simpa using h21
   refine Aw_skip (Aw_region ?_)
   refine Al_ml ?_
   refine Al_ml ?_
   refine Al_p (Pu_slice1 rfl Tryz.underlying22 Tryz.sizeOf3 Tryz.zeroValue3 rfl (by decide) (by decide) (by kernel_rfl) rfl rfl rfl) ?_
   refine Al_append rfl rfl rfl (by decide) (by kernel_rfl) elem22 (by decide) Tryz.sizeOf3 rfl rfl rfl (by simp[T.outR];omega) (by decide) (λg25=>?_)
   refine Al_mr ?_
   refine Al_nil (Aw_region ?_)
   refine Al_p Pu_ad ?_
   refine Al_ml ?_
   refine Al_nil ?_
   exact⟨(k+1,g25),by omega,by simp only[];omega,Le.ov ⟨Sub.num (by omega),Sub.rfl,trivial⟩ ⟨Sub.rfl,Sub.rfl,Sub.rfl,trivial⟩ ⟨obeq (by rw[hsn,hye];simp[T.outR,A.cellsA]),trivial⟩ trivial⟩
 ·(try simp only[A.cd_]at h15)
  have hkk:k=p.length:=by omega
  refine Aw_exit (Aw_sr ?_)
  refine Al_ml ?_
  refine Al_mr ?_
  refine Al_nil ?_
  exact Aw_ret (⟨_,_,[(1001,5,g)],rfl,Sub.rfl,⟨obeq (by rw[hkk,←T.outI];rfl),trivial⟩,rfl⟩)
set_option maxRecDepth 100000 in
set_option maxHeartbeats 1000000 in
theorem delfuncI_g (l:List Int) (f:FuncId) (caps:List AV) (p:Int→Bool) (hf:∀x,ACall Tryz.prog f ([iv x]++caps) (bv (p x))) (hl:l.length≤1000000):GCall Tryz.prog 219 [.ow 1001 0,.d (.fn f caps)] [(1001,.arr 3 1 (l.map (λx=>[iv x])))] (some ([(1002,.arr 3 1 ((l.filter λx=>!p x).map (λx=>[iv x])))],.ow 1002 0)):=by
 refine GC_1 Tryz.func219 Tryz.ntmps219 (ReadsS.r1 Tryz.results219) λhok hokB M0 w0=>?_
 have hu:∀(c:List Int),∀r∈c.map (λx=>[iv x]),r.length=1:=λc r hr=>by obtain⟨x,_,rfl⟩:=List.mem_map.1 hr;rfl
 refine Aw_sr ?_
 refine Al_mr ?_
 refine Al_ns ?_
 refine Al_ml ?_
 refine Al_ml ?_
 refine Al_p (Pu_callR (indexI_a l f caps p hf) rfl rfl ⟨.inr ⟨1001,0,_,_,_,rfl,rfl,rfl⟩,.inl Sub.rfl,trivial⟩) ?_
 refine Al_mr ?_
 refine Al_nil (Aw_seq (Aw_sr ?_))
 refine Al_ml ?_
 refine Al_p Pu_cp ?_
 refine Al_nil ?_
 refine Aw_cond rfl (λh12=>?_) (λh12=>?_)
 ·(try simp only[A.cd_]at h12)
  have hno:=S.find_neg h12
  refine Aw_sr ?_
  refine Al_ml ?_
  refine Al_mr ?_
  refine Al_nil ?_
  exact Aw_ret (⟨_,_,[(1002,1001,0)],rfl,Sub.rfl,⟨obeq (by rw[hno]),trivial⟩,rfl⟩)
 ·(try simp only[A.cd_]at h12)
  obtain⟨i0,hi0,hfi,hpi,hbef⟩:=S.find_pos (p:=p) (l:=l) h12
  refine Aw_skip (Aw_seq (Aw_sr ?_))
  refine Al_ml ?_
  refine Al_p Pu_ad ?_
  refine Al_mr ?_
  refine Al_nil (Aw_block ?_)
  refine Aw_loopk (ι:=Nat×Nat×(List Int)) [0,1] [] (λ(i,j,c)=>[(5,.d (iv i)),(6,.d (iv j))]) (λ(i,j,c)=>[(1001,0,.arr 3 1 (c.map (λx=>[iv x])))]) (λ(i,j,c)=>c.length=l.length∧i≤j∧j≤l.length∧c.take i=(l.take j).filter (λx=>!p x)∧c.drop j=l.drop j∧i<j) (λ(i,j,c)=>l.length - j) (i0,i0+1,l) (⟨rfl,by omega,by omega,S.filter_first hi0 hpi hbef,rfl,by omega⟩) ⟨Sub.num hfi,Sub.num (by rw[hfi];omega),trivial⟩ ⟨rfl,trivial⟩ ?_
  rintro⟨i,j,c⟩ ⟨hcl,hij,hjl,hct,hcd,hij2⟩
  refine Aw_seq (Aw_sr ?_)
  refine Al_ml ?_
  refine Al_ml ?_
  refine Al_p (Pu_lenOw (m:=l.length) rfl Tryz.underlying22 rfl rfl (by rw[List.length_map,hcl])) ?_
  refine Al_p Pu_cp ?_
  refine Al_nil ?_
  refine Aw_cond rfl (λh19=>?_) (λh19=>?_)
  ·(try simp only[A.cd_]at h19)
   have hj:j<l.length:=by omega
   have hjc:j<(c.map (λx=>[iv x])).length:=by rw[List.length_map];omega
   have hcj:c.getD j default=l[j]:=S.drop_at hcd hj (by omega)
   have hrow:=S.row_at (hu c) hjc
   rw[S.map_getD (by omega:j<c.length),hcj]at hrow
   have hrow1:(c.map (λx=>[iv x])).flatten[j*1]?=some ((λx=>iv x) l[j]):=by
    have h0:=congrArg (λz=>z[0]?) hrow
    simpa [List.getElem?_drop,List.getElem?_take]using h0
   have hset:=S.flat_set (hu c) (x:=(λx=>[iv x]) l[j]) (i:=i) (by rw[List.length_map];omega) rfl
   refine Aw_skip ?_
   refine Aw_seq (Aw_block (Aw_sr ?_))
   refine Al_ml ?_
   refine Al_ml ?_
   refine Al_p (Pu_indexOw (j:=j) rfl Tryz.underlying22 Tryz.sizeOf3 rfl rfl rfl rfl hjc) ?_
   refine Al_p (Pu_loadArr rfl Tryz.isAgg3 rfl rfl hrow1) ?_
   refine Al_mr ?_
   refine Al_ns ?_
   refine Al_ml ?_
   refine Al_ml ?_
   refine Al_p (Pu_callv (aa:=[(λx=>iv x) l[j]]) (caps:=caps) (hf l[j]) rfl rfl ⟨Sub.rfl,trivial⟩) ?_
   refine Al_p Pu_n ?_
   refine Al_nil ?_
   refine Aw_cond rfl (λh29=>?_) (λh29=>?_)
   ·skip
    have hpj:p l[j]=false:=by simpa using h29
    refine Aw_sr ?_
    refine Al_ml ?_
    refine Al_ml ?_
    refine Al_ml ?_
    refine Al_p (Pu_indexOw (j:=i) rfl Tryz.underlying22 Tryz.sizeOf3 rfl rfl rfl rfl (by rw[List.length_map];omega)) ?_
    refine Al_storeArr ((c.map (λx=>[iv x])).set i ((λx=>[iv x]) l[j])) rfl rfl rfl (by kernel_rfl) Tryz.sizeOf3 rfl rfl rfl rfl rfl (by rw[List.length_map];omega) (by simp) (λq hq=>by rcases List.mem_or_eq_of_mem_set hq with h|rfl;exact hu c q h;rfl) hset ?_
    refine Al_nil (Aw_region ?_)
    refine Al_ml ?_
    refine Al_p Pu_ad ?_
    refine Al_mr ?_
    refine Al_nil (Aw_region ?_)
    refine Al_ml ?_
    refine Al_p Pu_ad ?_
    refine Al_mr ?_
    refine Al_nil ?_
    exact⟨(i+1,j+1,c.set i l[j]),⟨by rw[List.length_set,hcl],by omega,by omega,S.del_keep hj hct hpj (by omega),by rw[List.drop_set_of_lt (by omega),←List.drop_drop,hcd,List.drop_drop],by omega⟩,by simp only[];omega,Le.ov ⟨Sub.num (by omega),Sub.num (by omega),trivial⟩ ⟨Sub.rfl,Sub.rfl,trivial⟩ ⟨obeq (by rw[List.map_set]),trivial⟩ trivial⟩
   ·skip
    have hpj:p l[j]=true:=by simpa using h29
    refine Aw_skip (Aw_region ?_)
    refine Al_ml ?_
    refine Al_p Pu_ad ?_
    refine Al_mr ?_
    refine Al_nil ?_
    exact⟨(i,j+1,c),⟨hcl,by omega,by omega,S.del_drop hj hct hpj,by rw[←List.drop_drop,hcd,List.drop_drop],by omega⟩,by simp only[];omega,Le.ov ⟨Sub.rfl,Sub.num (by omega),trivial⟩ ⟨Sub.rfl,Sub.rfl,trivial⟩ ⟨rfl,trivial⟩ trivial⟩
  ·(try simp only[A.cd_]at h19)
   obtain rfl:j=l.length:=by omega
   rw[List.take_length]at hct
   have hfl:∀zz,((c.map (λx=>[iv x])).take i++List.replicate ((c.map (λx=>[iv x])).length - i) zz).take i=(l.filter λx=>!p x).map (λx=>[iv x]):=λzz=>by
    rw[←hct,List.map_take,List.take_append_of_le_length (by simp;omega),List.take_take,Nat.min_self]
   refine Aw_exit (Aw_sr ?_)
   refine Al_ml ?_
   refine Al_ml ?_
   refine Al_p (Pu_sliceOw i (c.map (λx=>[iv x])).length rfl Tryz.underlying22 Tryz.sizeOf3 rfl rfl ⟨_,rfl,rfl⟩ rfl ⟨by rw[List.length_map];omega,.inl (Nat.le_refl _)⟩) ?_
   refine Al_clear0 rfl rfl rfl (by kernel_rfl) Tryz.underlying22 Tryz.zeroValue3 rfl (by decide) rfl (by decide) rfl rfl rfl ?_
   refine Al_ns ?_
   refine Al_ml ?_
   refine Al_ml ?_
   refine Al_cut i rfl rfl rfl (by decide) (by kernel_rfl) Tryz.underlying22 Tryz.sizeOf3 rfl rfl rfl ⟨_,rfl,rfl⟩ (by simp;omega) (λg41=>?_)
   refine Al_mr ?_
   refine Al_nil ?_
   exact Aw_ret (⟨_,_,[(1002,1001,g41)],rfl,Sub.rfl,⟨obeq (hfl _),trivial⟩,rfl⟩)
theorem routeC_a (c:SRow) (hp:T.Ahead c.parents):ACall Tryz.prog 32 [.row c.row] (bv (T.ok c)):=by
 refine AC_1 Tryz.func32 Tryz.ntmps32 Tryz.results32 λhok M0 w0 hnl=>?_
 refine Aw_sr ?_
 refine Al_p Pu_bN ?_
 refine Al_mr ?_
 refine Al_ns ?_
 refine Al_p (Pu_lN Tryz.isAgg30 Tryz.sizeOf30) ?_
 refine Al_p (Pu_call (tcheck_a c) rfl ⟨Sub.rfl,trivial⟩) ?_
 refine Al_ml ?_
 refine Al_s (St_g [] trivial (λ_=>Pu_fd 2 Tryz.underlying30 Tryz.sizeOf22)) ?_
 refine Al_s (St_g [6] ⟨⟨_,rfl⟩,trivial⟩ (λ_=>Pu_l1 Tryz.isAgg22)) ?_
 refine Al_s (St_g [7] ⟨⟨_,rfl⟩,trivial⟩ (λ_=>Pu_call (trcheck_a c.parents hp) rfl ⟨Sub.rfl,trivial⟩)) ?_
 refine Al_p Pu_a ?_
 refine Al_mr ?_
 refine Al_nil ?_
 exact Aw_ret (Sub.bool (by simp))
theorem next1_a (c:SRow) (hp:T.Ahead c.parents) (a:Nat) (ha:a<c.parents.length) (fr:Int) (ow:Nat) (ho:ow<64) (s:Int):ACall Tryz.prog 217 ([iv s]++[.fp [iv fr],.fp c.row,.fp [iv a],.fp [iv ow]]) (bv (decide (s=fr)||decide (T.side c.parents a s&&&ow=0))):=by
 refine AC_1 Tryz.func217 Tryz.ntmps217 Tryz.results217 λhok M0 w0 hnl=>?_
 have hp6:=hp.le
 have hsl:T.side c.parents a s<64:=by
  have h1:=T.sideK_lt c.parents a s c.parents.length
  have h2:2^c.parents.length≤2^6:=Nat.pow_le_pow_right (by omega) hp6
  unfold T.side;omega
 refine Aw_sr ?_
 refine Al_mr ?_
 refine Al_nil (Aw_seq ?_)
 refine Aw_dr 13 ?_
 refine Dr_ml ?_
 refine Dr_p (Pu_l1 Tryz.isAgg3) ?_
 refine Dr_p Pu_cp ?_
 refine Dr_ml ?_
 refine Dr_s (St_g [] trivial (λ_=>Pu_fd 2 Tryz.underlying30 Tryz.sizeOf22)) ?_
 refine Dr_s (St_g [11] ⟨⟨_,rfl⟩,trivial⟩ (λ_=>Pu_l1 Tryz.isAgg22)) ?_
 refine Dr_s (St_g [] trivial (λ_=>Pu_l1 Tryz.isAgg3)) ?_
 refine Dr_s (St_g [] trivial (λ_=>Pu_mvl)) ?_
 refine Dr_s (St_g [12,13,14] ⟨⟨_,rfl⟩,⟨_,rfl⟩,⟨_,rfl⟩,trivial⟩ (λ_=>Pu_call (side_a c.parents hp a s ha) rfl ⟨Sub.rfl,Sub.rfl,Sub.rfl,trivial⟩)) ?_
 refine Dr_s (St_g [] trivial (λ_=>Pu_l1 Tryz.isAgg3)) ?_
 refine Dr_s (St_gd [15,16] rfl rfl rfl rfl ⟨⟨_,rfl⟩,⟨_,rfl⟩,trivial⟩ (λhg17=>by exact Pu_int_and (r:=((T.side c.parents a s&&&ow:Nat):Int)) rfl rfl rfl (T.and64 _ (List.mem_range.2 hsl) _ (List.mem_range.2 ho)) (λ_=>by have:=Nat.and_lt_two_pow (n:=6) (T.side c.parents a s) (y:=ow) (by omega);show A.inI _;simp only[A.inI];omega))) ?_
 refine Dr_s (St_g [17] ⟨⟨_,rfl⟩,trivial⟩ (λ_=>Pu_cp)) ?_
 refine Dr_p Pu_o ?_
 refine Dr_nil ?_
 refine Al_mr ?_
 refine Al_nil ?_
 exact Aw_ret (Sub.bool (by congr 1;simp))
theorem next_a (c:SRow) (hp:T.Ahead c.parents) (hc:T.ok c=true) (a:Nat) (ha:a<c.parents.length) (fr:Int) (key:ByteArray):ACall Tryz.prog 145 [.row c.row,iv a,iv fr,tv key] (.sl 1 (T.outR (T.next c a fr key))):=by
 refine AC_1 Tryz.func145 Tryz.ntmps145 Tryz.results145 λhok M0 w0 hnl=>?_
 have hp6:=hp.le
 have hnl2:=List.length_filter_le (T.nearB c.parents a) (List.range c.parents.length)
 rw[List.length_range]at hnl2
 have hdel:=delfuncI_g ((T.nearL c.parents a).map λx=>((x:Nat):Int)) 217 [.fp [iv fr],.fp c.row,.fp [iv a],.fp [iv (T.owners c key)]] _ (λs=>next1_a c hp a ha fr (T.owners c key) (T.owners_lt c key) s) (by rw[List.length_map];unfold T.nearL;omega)
 refine Aw_sr ?_
 refine Al_p Pu_bN ?_
 refine Al_p (Pu_box1 rfl rfl (by nofun) (by nofun)) ?_
 refine Al_p (Pu_box1 rfl rfl (by nofun) (by nofun)) ?_
 refine Al_mr ?_
 refine Al_nil (Aw_seq (Aw_sr ?_))
 refine Al_p (Pu_lN Tryz.isAgg30 Tryz.sizeOf30) ?_
 refine Al_p (Pu_call (routeC_a c hp) rfl ⟨Sub.rfl,trivial⟩) ?_
 refine Al_p Pu_n ?_
 refine Al_nil ?_
 refine Aw_condF rfl ((by rw[hc];rfl)) ?_
 refine Aw_skip (Aw_sr ?_)
 refine Al_p (Pu_lN Tryz.isAgg30 Tryz.sizeOf30) ?_
 refine Al_ml ?_
 refine Al_p (Pu_call (owners_a c key) rfl ⟨Sub.rfl,Sub.rfl,trivial⟩) ?_
 refine Al_al Tryz.zeroValue3 λg9=>?_
 refine Al_s1 Tryz.isAgg3 Tryz.sizeOf3 ?_
 refine Al_nil (Aw_seq ?_)
 refine Aw_frzb hnl (k:=9) (cs:=[iv (T.owners c key)]) [9] rfl ⟨rfl,trivial⟩ ?_
 refine Aw_region ?_
 refine Al_p (Pu_makeFunc (caps:=[_,_,_,_]) rfl ⟨Sub.rfl,Sub.rfl,Sub.rfl,Sub.rfl,trivial⟩) ?_
 refine Al_mr ?_
 refine Al_ns ?_
 refine Al_p (Pu_fd 2 Tryz.underlying30 Tryz.sizeOf22) ?_
 refine Al_p (Pu_l1 Tryz.isAgg22) ?_
 refine Al_p (Pu_l1 Tryz.isAgg3) ?_
 refine Al_gcall [] [(1001,21)] (nearL_g c.parents hp a ha) rfl rfl rfl (by decide) (by kernel_rfl) trivial rfl ⟨Sub.rfl,Sub.rfl,trivial⟩ (λg21=>?_)
 refine Al_ml ?_
 refine Al_gcall [(1001,21,g21)] [(1002,23)] (hdel) rfl rfl rfl (by decide) (by kernel_rfl) ⟨rfl,trivial⟩ rfl ⟨Sub.rfl,Sub.rfl,trivial⟩ (λg23=>?_)
 refine Al_mr ?_
 refine Al_nil ?_
 refine Aw_frz hnl (k:=23) [8] rfl ⟨rfl,trivial⟩ ?_
 exact Aw_ret (Sub.d (by rw[List.filter_map,T.outI];rfl))
end Go.Proofs.YtdnijgdmohinlaaGreat
end
section
set_option maxRecDepth 100000
namespace Go.Proofs.YtdnijgdmohinlaaGreat
open Go Go.RowKit A R
instance:Inhabited PS:=⟨⟨0,[],0,0,[],[]⟩⟩
structure PG where
 c:SRow
 S:List PS
 Y:List VS
 cs:Nat→Int×List Dep
 bg:Nat→List ByteArray×List Int
 ps:List PinT
 h:List Event
namespace PG
abbrev Ans:=Int×List Ver
def n (g:PG):Nat:=g.c.parents.length
def cli (g:PG) (i:Int):Int×List Dep:=g.cs i.toNat
def site (g:PG) (i:Int):PS:=g.S.getD i.toNat default
def setC (g:PG) (i:Int) (c:Int×List Dep):PG:={g with cs:=λj=>if j=i.toNat then c else g.cs j}
def setS (g:PG) (i:Int) (p:PS):PG:={g with S:=g.S.set i.toNat p}
def updY (g:PG) (a b:Int) (f:VS→VS):PG:={g with Y:=N.vUpd g.n g.Y a b f}
def ses (g:PG) (a b:Int):Option VS:=N.vAt g.n g.Y a b
def opn (g:PG) (a b:Int):Nat:=match g.ses a b with|some s=>s.op.length|none=>0
def fly (g:PG) (a b:Int):Nat:=match g.ses a b with|some s=>s.way.length|none=>0
def idle (g:PG):Bool:=g.Y.all (·.op.isEmpty)
def full (g:PG) (fr:Int) (to:List Nat):Bool:=to.any λs=>decide (8≤g.opn fr s)
def send (g:PG) (fr:Int) (to:List Nat) (v:Ver):PG:=to.foldl (λ(g:PG) (s:Nat)=>g.updY fr s (·.send v)) g
def ev (g:PG) (e:Event):PG:={g with h:=g.h++[e]}
def nx (g:PG) (a fr:Int) (key:ByteArray):List Nat:=T.next g.c a.toNat fr key
def isS (g:PG) (s:Int):Bool:=decide (0≤s)&&decide (s<g.n)
def putW (o:SOp):ByteArray:=if o.kind=2 then⟨#[]⟩else o.value
def putE (g:PG) (o:SOp):Int :=
 if findR (g.site (g.cli o.client).1).rs o.key<0 then 14
 else if g.full (g.cli o.client).1 (g.nx (g.cli o.client).1 (-1) o.key)then 15
 else(g.site (g.cli o.client).1).writeE o.key (putW o) (decide (o.kind=2)) (g.cli o.client).2
def putV (g:PG) (o:SOp):Ver:=(g.site (g.cli o.client).1).writeV o.key (putW o) (decide (o.kind=2)) (g.cli o.client).2
def putS (g:PG) (o:SOp):PG :=
 ((
  ((g.setS (g.cli o.client).1 ((g.site (g.cli o.client).1).write o.key (putW o) (decide (o.kind=2)) (g.cli o.client).2)).send (g.cli o.client).1 (g.nx (g.cli o.client).1 (-1) o.key) (g.putV o)).ev
  ⟨1,o.client,(g.putV o).key,(g.putV o).n,(g.putV o).s,(g.cli o.client).2⟩).setC o.client (N.saw1 (g.cli o.client) (g.putV o)))
def put (g:PG) (o:SOp):PG×Ans:=if g.putE o=0 then(g.putS o,0,[g.putV o])else(g,g.putE o,[])
def getV (g:PG) (o:SOp):Option Ver:=(g.site (g.cli o.client).1).readV o.key
def getS (g:PG) (o:SOp):PG:=g.ev ⟨2,o.client,o.key,((g.getV o).getD default).n,((g.getV o).getD default).s,D.mergeL [(g.cli o.client).2,((g.getV o).getD default).past]⟩
def get (g:PG) (o:SOp):PG×Ans :=
 if (g.site (g.cli o.client).1).readE o.key=0 then(match g.getV o with
  | some v=>((g.getS o).setC o.client (N.saw1 (g.cli o.client) v),0,[v])
  | none=>(g.getS o,0,[]))
 else(g,(g.site (g.cli o.client).1).readE o.key,[])
def pickT (g:PG) (o:SOp) (v:Ver):List Nat:=g.nx o.to' o.site v.key
def pick (g:PG) (o:SOp):PG×Ans:=match g.ses o.site o.to' with
 | none=>(g,12,[])
 | some s =>
  if s.inW o.at'=false then(g,12,[])
  else if N.hw3 o.how=1∨N.hw3 o.how=2∨s.would o.at'=false then(g.updY o.site o.to' (·.pick o.at' o.how),0,[])
  else if (0≤findR (g.site o.to').rs (s.at' o.at').2.key∧24≤(g.site o.to').wait.length)∨g.full o.to' (g.pickT o (s.at' o.at').2)=true then(g,15,[])
  else(((g.updY o.site o.to' (·.pick o.at' o.how)).setS o.to' ((g.site o.to').arrive (s.at' o.at').2)).send o.to' (g.pickT o (s.at' o.at').2) (s.at' o.at').2,0,[(s.at' o.at').2])
def againN (g:PG) (o:SOp):Nat:=match g.ses o.site o.to' with|some s=>s.againN|none=>0
def again (g:PG) (o:SOp):PG×Ans:=(g.updY o.site o.to' (·.again),if g.againN o=0 then 12 else 0,[])
def step (g:PG) (o:SOp):PG×Ans :=
 if g.isS o.site then(match (g.site o.site).stepV with
  | some v=>(g.setS o.site (g.site o.site).step,0,[v])
  | none=>(g,12,[]))
 else(g,1,[])
end PG
end Go.Proofs.YtdnijgdmohinlaaGreat
end
section
set_option maxRecDepth 100000
namespace Go.Proofs.YtdnijgdmohinlaaGreat
open Go Go.RowKit A R
theorem gtold_a (n:Nat) (i:Int):ACall Tryz.prog 39 [iv i] (.row [iv i,.sl n []]):=by
 refine AC_G Tryz.func39 Tryz.ntmps39 (Reads.cN Tryz.results39 Tryz.isAgg37 Tryz.sizeOf37) λhok M0 w0 hnl=>?_
 refine Aw_sr ?_
 refine Al_al Tryz.zeroValue37 λg2=>?_
 refine Al_ns ?_
 refine Al_ml ?_
 refine Al_p (Pu_build (aa:=[(0,_)]) rfl Tryz.underlying37 Tryz.zeroValue37 places37 (by kernel_rfl) ⟨rfl,rfl,rfl,trivial⟩ rfl) ?_
 refine Al_sN Tryz.isAgg37 Tryz.sizeOf37 ?_
 refine Al_nil ?_
 refine Aw_boxle (k:=2) [.d (iv i),.d (.sl n [])] rfl ⟨Sub.rfl,Sub.nil,trivial⟩ ?_
 exact Aw_ret (⟨_,_,_,_,_,[_,_],rfl,rfl,rfl,rfl,rfl⟩)
end Go.Proofs.YtdnijgdmohinlaaGreat
end
section
set_option maxRecDepth 100000
namespace Go.Proofs.YtdnijgdmohinlaaGreat
open Go Go.RowKit A R
open A.RowT
structure FR where
 sp:List Value
 np:List Value
 b:Nat
 cnt:Nat
 sv:Value
structure GT where
 Fs:Nat→Prop
 Fn:Nat→Prop
 hv:Value
abbrev keysA (l:List ByteArray):AV:=.sl 1 (l.map λs=>[tv s])
abbrev intA (l:List Int):AV:=.sl 1 (l.map λx=>[iv x])
abbrev siteX (sp:List Value) (S:List PS):List (Value×PS):=sp.zip S
def gcellsN (nt:SV) (sv:Value) (g:PG) (hv:Value):List SV :=
 [.d (rngA g.c.ranges),.d (intA g.c.owners),.d (intA g.c.parents),.d (.v sv),nt,
  .d (iv (g.cs 0).1),.d (pastA (g.cs 0).2),.d (iv (g.cs 1).1),.d (pastA (g.cs 1).2),.d (iv (g.cs 2).1),.d (pastA (g.cs 2).2),.d (iv (g.cs 3).1),.d (pastA (g.cs 3).2),
  .d (keysA (g.bg 0).1),.d (intA (g.bg 0).2),.d (keysA (g.bg 1).1),.d (intA (g.bg 1).2),.d (keysA (g.bg 2).1),.d (intA (g.bg 2).2),.d (keysA (g.bg 3).1),.d (intA (g.bg 3).2),
  .d (.sl 2 (g.ps.map cliA)),.d (.v hv)]
abbrev gcells (fr:FR) (g:PG) (hv:Value):List SV:=gcellsN (.bx 1002 0 0) fr.sv g hv
abbrev histX (hv:Value) (h:List Event):AO:=.op (rowX 107 6 hv (h.map Event.row))
abbrev sitesX (sv:Value) (sp:List Value):AO:=.op (rowX 92 1 sv (sp.map λv=>[.v v]))
abbrev GE (fr:FR) (g:PG) (t:GT):Obs:=[(1001,.box 91 (gcells fr g t.hv)),(1002,.box 149 [.ow 1003 0]),(1003,mapP g.n fr.b fr.cnt (N.vX fr.np g.Y)),(1004,.op (starP SES t.Fn (N.vX fr.np g.Y))),(1005,.op (starP ST t.Fs (siteX fr.sp g.S))),(1006,histX t.hv g.h),(1007,sitesX fr.sv fr.sp)]
theorem GE_in (fr:FR) (g:PG) (t:GT):ObsIn [1001,1002,1003,1004,1005,1006,1007] (GE fr g t):=⟨rfl,rfl,λ_ _ _ _ _ h=>h,λ_ _ _ _ _ h=>h,λ_ _ _ _ _ h=>h,λ_ _ _ _ _ h=>h,λ_ _ _ _ _ h=>h,trivial⟩
structure FR.Ok (fr:FR) (g:PG):Prop where
 sl:fr.sp.length=g.S.length
 nl:fr.np.length=g.Y.length
 np:∀v∈fr.np,∃a,v=.pointer (some a)
 sp:∀v∈fr.sp,∃a,v=.pointer (some a)
 s6:g.S.length≤6
theorem gc_cs (fr:FR) (g:PG) (hv:Value) {k:Nat}(h:k<4):((gcells fr g hv).drop (0+5+k*2)).take 2=(cliA (g.cs k)).map .d:=by
 match k,h with
 | 0,_=>rfl
 | 1,_=>rfl
 | 2,_=>rfl
 | 3,_=>rfl
theorem gc_c0 (fr:FR) (g:PG) (hv:Value) {k:Nat}(h:k<4):(gcells fr g hv)[0+5+k*2+0]?=some (.d (iv (g.cs k).1)):=by
 match k,h with
 | 0,_=>rfl
 | 1,_=>rfl
 | 2,_=>rfl
 | 3,_=>rfl
theorem gcN_setC (nt:SV) (sv:Value) (g:PG) (hv:Value) {i:Int}(c:Int×List Dep) (h:i.toNat<4):(gcellsN nt sv g hv).take (0+5+i.toNat*2)++(cliA c).map .d++(gcellsN nt sv g hv).drop (0+5+i.toNat*2+2)=gcellsN nt sv (g.setC i c) hv:=by
 unfold PG.setC
 generalize i.toNat=k at h
 match k,h with
 | 0,_=>rfl
 | 1,_=>rfl
 | 2,_=>rfl
 | 3,_=>rfl
theorem gc_setC (fr:FR) (g:PG) (hv:Value) {i:Int}(c:Int×List Dep) (h:i.toNat<4):(gcells fr g hv).take (0+5+i.toNat*2)++(cliA c).map .d++(gcells fr g hv).drop (0+5+i.toNat*2+2)=gcells fr (g.setC i c) hv:=gcN_setC _ _ _ _ _ h
section
variable {P:Program}{N:Nat}{M0:Nat→Prop}{w0:Base}{ops:Array Oper}{Q:Exit→ASt→Prop}{o:Oper}{l:List Oper}{st:ASt}
theorem A.Al_storeC {t T:TypeId}{x y:Operand}{k g off n:Nat}{cs:List SV}{r:List AV}(cs':List SV) (he:cs.take off++r.map .d++cs.drop (off+n)=cs') (ho:o.op=.store t x y) (ht:∀w,(isAgg t).run P w=.ok true w) (hz:∀w,(sizeOf t).run P w=.ok n w) (hx:st.ev x=.bx k g off) (hob:st.ob k=some (g,.box T cs)) (hy:st.ev y=.d (.row r)) (hn:r.length=n) (hoff:off+n≤cs.length)
  (h:Al P N M0 w0 ops Q l (st.put k g (.box T cs'))) (hg:o.guard=none:=by rfl) (hd:o.dst=none:=by rfl) (hc:conB o=true:=by kernel_rfl):Al P N M0 w0 ops Q (o::l) st:=by
 subst he
 exact Al_storeN ho hg hd hc ht hz hx hob hy hn hoff h
end
abbrev ansA (a:Int×List Ver):AV:=.row [iv a.1,versA a.2]
theorem siteX_len {sp:List Value}{S:List PS}(h:sp.length=S.length):(siteX sp S).length=S.length:=by simp[siteX,h]
theorem siteX_get {sp:List Value}{S:List PS}(h:sp.length=S.length) {i:Nat}(hi:i<S.length):(siteX sp S)[i]?=some (sp.getD i default,S.getD i default):=by
 rw[List.getElem?_eq_getElem (by rw[siteX_len h];exact hi)]
 simp[siteX,hi,show i<sp.length from by omega]
theorem siteX_set {sp:List Value}{S:List PS}{i:Nat}(h:sp.length=S.length) (hi:i<S.length) (p:PS):(siteX sp S).set i (sp.getD i default,p)=siteX sp (S.set i p):=by
 refine List.ext_getElem (by simp[siteX]) λj h1 h2=>?_
 simp only[siteX,List.getElem_set,List.getElem_zip]
 split
 ·subst j;simp[show i<sp.length from by omega]
 ·rfl
theorem place_at {fr:FR}{g:PG}(h:fr.Ok g) {i:Nat}(hi:i<g.S.length):∃a,fr.sp.getD i default=.pointer (some a):=by
 have:i<fr.sp.length:=by rw[h.sl];exact hi
 rw[show fr.sp.getD i default=fr.sp[i]from by simp[this]]
 exact h.sp _ (List.getElem_mem this)
theorem sp_flat:∀sp:List Value,(sp.map λv=>[AV.v v]).flatten=sp.map AV.v
 | []=>rfl
 | x::r=>by rw[List.map_cons,List.flatten_cons,sp_flat r];rfl
theorem sp_at {sp:List Value}{i:Nat}(h:i<sp.length):((sp.map λv=>[AV.v v]).flatten)[i*1]?=some (.v (sp.getD i default)):=by
 rw[sp_flat]
 simp[h]
namespace PG
structure Ok (g:PG) (m:Nat):Prop where
 par:T.Ahead g.c.parents
 row:T.ok g.c=true
 sl:g.S.length=g.n
 so:∀p∈g.S,p.Ok m
 yl:g.Y.length=N.upto g.n g.n 0
 yf:∀s∈g.Y,s.Fit m
 cs:∀k, -1≤(g.cs k).1∧(g.cs k).1<g.n∧(g.cs k).2.length≤400
 hl:g.h.length≤m
theorem Ok.n6 {g:PG}{m:Nat}(h:g.Ok m):1≤g.n∧g.n≤6:=⟨h.par.pos,h.par.le⟩
theorem Ok.site {g:PG}{m:Nat}(h:g.Ok m) {i:Int}(hi:i.toNat<g.n):(g.site i).Ok m:=by
 have:i.toNat<g.S.length:=by rw[h.sl];exact hi
 unfold PG.site
 rw[show g.S.getD i.toNat default=g.S[i.toNat]from by simp[this]]
 exact h.so _ (List.getElem_mem this)
end PG
end Go.Proofs.YtdnijgdmohinlaaGreat
end
section
set_option maxRecDepth 100000
namespace Go.Proofs.YtdnijgdmohinlaaGreat
open Go Go.RowKit A R
open A.RowT
theorem gfound_a (l:List Ver):ACall Tryz.prog 153 [versA l] (ansA (0,l)):=by
 refine AC_G Tryz.func153 Tryz.ntmps153 (Reads.cN Tryz.results153 Tryz.isAgg37 Tryz.sizeOf37) λhok M0 w0 hnl=>?_
 refine Aw_sr ?_
 refine Al_al Tryz.zeroValue37 λg2=>?_
 refine Al_ns ?_
 refine Al_ml ?_
 refine Al_p (Pu_build (aa:=[(1,_)]) rfl Tryz.underlying37 Tryz.zeroValue37 places37 (by kernel_rfl) ⟨rfl,rfl,rfl,trivial⟩ rfl) ?_
 refine Al_sN Tryz.isAgg37 Tryz.sizeOf37 ?_
 refine Al_nil ?_
 exact Aw_ret (⟨_,_,_,_,_,[_,_],rfl,rfl,rfl,rfl,rfl⟩)
theorem site_elem:ElemT Tryz.prog 85 92 1 8:=⟨Tryz.underlying85,by
 have h:(Tryz.prog.info? 92).map (λi=>(i.zero,i.size,i.bytes))=some (some (.pointer none),1,8):=by kernel_rfl
 obtain⟨i,hi,h1,h2,h3⟩:=info_parts h
 exact⟨i,_,hi,h1,h2,h3,rfl⟩⟩
theorem A.obE {g:Nat}{o o':AO}(h:o=o'):some (g,o)=some (g,o'):=by rw[h]
def atV (fr:FR) (g:PG) (s:Int):Value:=if g.isS s then fr.sp.getD s.toNat default else .pointer none
theorem gat_g (fr:FR) (g:PG) (t:GT) (s:Int) (hf:fr.Ok g) (hn:g.S.length=g.n):GCall Tryz.prog 42 [.bx 1001 0 0,.d (iv s)] (GE fr g t) (some (GE fr g t,.d (.v (atV fr g s)))):=by
 refine GC_L Tryz.func42 Tryz.ntmps42 (ReadsS.r1 Tryz.results42) λhok hokB M0 w0 hl=>?_
 have hsl:=hf.sl
 have h6:=hf.s6
 refine Aw_sr ?_
 refine Al_mr ?_
 refine Al_nil (Aw_seq (Aw_sr ?_))
 refine Al_ml ?_
 refine Al_p (Pu_eqnilb Tryz.underlying32 rfl rfl) ?_
 refine Al_ml ?_
 refine Al_s (St_g [] trivial (λ_=>Pu_mvl)) ?_
 refine Al_s (St_g [8] ⟨⟨_,rfl⟩,trivial⟩ (λ_=>Pu_cp)) ?_
 refine Al_p Pu_o ?_
 refine Al_ml ?_
 refine Al_s (St_g [] trivial (λ_=>Pu_mvl)) ?_
 refine Al_s (St_g [] trivial (λ_=>Pu_mvl)) ?_
 refine Al_s (St_g [13] ⟨⟨_,rfl⟩,trivial⟩ (λ_=>Pu_nb)) ?_
 refine Al_s (St_g [14] ⟨⟨_,rfl⟩,trivial⟩ (λ_=>Pu_fb 3 Tryz.underlying91 Tryz.sizeOf85)) ?_
 refine Al_s (St_g [15] ⟨⟨_,rfl⟩,trivial⟩ (λ_=>Pu_lb Tryz.isAgg85)) ?_
 refine Al_s (St_gd [16] rfl rfl rfl rfl ⟨⟨_,rfl⟩,trivial⟩ (λhg17=>by exact Pu_lenX (k:=1007) rfl Tryz.underlying85 rfl rfl (by rw[List.length_map];simp only[A.maxI];omega))) ?_
 refine Al_s (St_g [12,17] ⟨⟨_,rfl⟩,⟨_,rfl⟩,trivial⟩ (λ_=>Pu_cp)) ?_
 refine Al_p Pu_o ?_
 refine Al_nil ?_
 refine Aw_cond rfl (λh19=>?_) (λh19=>?_)
 ·skip
  have e1:atV fr g s=.pointer none:=by
   unfold atV PG.isS
   have h0:(decide (s<0)||decide (s≥((fr.sp.map λv=>[AV.v v]).length:Int)))=true:=h19
   simp only[Bool.or_eq_true,decide_eq_true_eq,List.length_map]at h0
   rw[if_neg (by simp only[Bool.and_eq_true,decide_eq_true_eq];omega)]
  refine Aw_sr ?_
  refine Al_mr ?_
  refine Al_nil ?_
  exact Aw_ret (⟨_,_,[],rfl,Sub.d (by rw[e1]),⟨rfl,rfl,rfl,rfl,rfl,rfl,rfl,trivial⟩,rfl⟩)
 ·skip
  have h0:(decide (s<0)||decide (s≥((fr.sp.map λv=>[AV.v v]).length:Int)))=false:=h19
  simp only[Bool.or_eq_false_iff,decide_eq_false_iff_not,List.length_map]at h0
  have hs0:s=(s.toNat:Int):=by omega
  have hlt:s.toNat<fr.sp.length:=by omega
  have e1:atV fr g s=fr.sp.getD s.toNat default:=by
   unfold atV PG.isS
   rw[if_pos (by simp only[Bool.and_eq_true,decide_eq_true_eq];omega)]
  refine Aw_skip (Aw_sr ?_)
  refine Al_ml ?_
  refine Al_p Pu_nb ?_
  refine Al_p (Pu_fb 3 Tryz.underlying91 Tryz.sizeOf85) ?_
  refine Al_p (Pu_lb Tryz.isAgg85) ?_
  refine Al_ml ?_
  refine Al_p (Pu_indexX (j:=s.toNat) (k:=1007) rfl Tryz.underlying85 Tryz.sizeOf92 rfl rfl rfl hs0 (by rw[List.length_map];exact hlt)) ?_
  refine Al_p (Pu_loadX1 (k:=1007) rfl Tryz.isAgg92 rfl rfl (sp_at hlt)) ?_
  refine Al_mr ?_
  refine Al_nil ?_
  exact Aw_ret (⟨_,_,[],rfl,Sub.d (by rw[e1]),⟨rfl,rfl,rfl,rfl,rfl,rfl,rfl,trivial⟩,rfl⟩)
theorem gevent_g (fr:FR) (g:PG) (t:GT) (e:Event) (hl:g.h.length≤100000):GCallE Tryz.prog 151 [.bx 1001 0 0,.d (iv e.kind),.d (iv e.client),.d (tv e.key),.d (.row [iv e.n,iv e.s]),.d (pastA e.seen)] (GE fr g t) (λv:Value=>some (GE fr (g.ev e) {t with hv:=v},.d (.tup []))):=by
 refine GC_EL Tryz.func151 Tryz.ntmps151 (ReadsS.r0 Tryz.results151) λhok hokB M0 w0 hl=>?_
 refine Aw_sr ?_
 refine Al_p Pu_bN ?_
 refine Al_nil ?_
 refine Aw_drawn (by kernel_rfl) ?_
 refine Ad_t 0 rfl (PuI_move (.inl rfl) (by conv=>lhs;whnf)) ?_
 refine Ad_drawP 1 12 4 (by kernel_rfl) (by decide) rfl (by rfl) (by rfl) ?_
 refine Dr_ml ?_
 refine Dr_p Pu_nb ?_
 refine Dr_p (Pu_fb 22 Tryz.underlying91 Tryz.sizeOf61) ?_
 refine Dr_p (Pu_lb Tryz.isAgg61) ?_
 refine Dr_ml ?_
 refine Dr_ml ?_
 refine Dr_ml ?_
 refine Dr_p (Pu_lN Tryz.isAgg47 Tryz.sizeOf47) ?_
 refine Dr_ml ?_
 refine Dr_p (Pu_build (aa:=[(0,_),(1,_),(2,_),(3,_),(4,_)]) rfl Tryz.underlying107 Tryz.zeroValue107 places107 (by kernel_rfl) ⟨rfl,rfl,rfl,rfl,rfl,rfl,rfl,rfl,rfl,rfl,rfl,rfl,rfl,rfl,rfl,trivial⟩ rfl) ?_
 refine Dr_p (Pu_slice1 rfl Tryz.underlying61 Tryz.sizeOf107 Tryz.zeroValue107 rfl (by decide) (by decide) (by kernel_rfl) rfl rfl rfl) ?_
 refine Dr_nil ?_
 refine Ad_o 12 ?_
 refine Al_appendX (k:=1006) rfl rfl rfl (by decide) (by kernel_rfl) event_elem (by decide) Tryz.sizeOf107 rfl rfl rfl (by simp;omega) (by decide) (λv=>?_)
 refine Al_nil ?_
 refine Ad_t 13 rfl PuI_nb ?_
 refine Ad_t 14 rfl (PuI_fb 22 Tryz.underlying91 Tryz.sizeOf61) ?_
 refine Ad_o 15 ?_
 refine Al_s1 Tryz.isAgg61 Tryz.sizeOf61 ?_
 refine Al_nil ?_
 refine Ad_d ?_
 exact⟨v,_,_,[],rfl,rfl,⟨rfl,rfl,rfl,rfl,rfl,obeqX (by simp[A.cellsA,PG.ev,Event.row]),rfl,trivial⟩,rfl⟩
namespace PG
theorem send_Y (g:PG) (fr:Int) (to:List Nat) (v:Ver):g.send fr to v={g with Y:=(g.send fr to v).Y}:=by
 unfold send
 induction to generalizing g with
 | nil=>rfl
 | cons s r ih=>rw[List.foldl_cons,ih];rfl
theorem send_succ (g:PG) (fr:Int) (to:List Nat) (v:Ver) {j:Nat}(hj:j<to.length):g.send fr (to.take (j+1)) v=(g.send fr (to.take j) v).updY fr (to.getD j default:Nat) (·.send v):=by
 unfold send
 rw[List.take_succ_eq_append_getElem hj,List.foldl_append]
 simp[hj]
theorem send_n (g:PG) (fr:Int) (to:List Nat) (v:Ver):(g.send fr to v).n=g.n:=by rw[send_Y];rfl
theorem send_h (g:PG) (fr:Int) (to:List Nat) (v:Ver):(g.send fr to v).h=g.h:=by rw[send_Y]
theorem send_S (g:PG) (fr:Int) (to:List Nat) (v:Ver):(g.send fr to v).S=g.S:=by rw[send_Y]
theorem send_len (g:PG) (fr:Int) (to:List Nat) (v:Ver):(g.send fr to v).Y.length=g.Y.length:=by
 unfold send
 induction to generalizing g with
 | nil=>rfl
 | cons s r ih=>rw[List.foldl_cons,ih];exact N.vUpd_len ..
theorem send_fit {v:Ver}(hv:J.checkB v=true) (fr:Int):∀(to:List Nat) (g:PG) (m:Nat),(∀s∈g.Y,s.Fit m)→∀s∈(g.send fr to v).Y,s.Fit (m+to.length)
 | [],g,m,h=>h
 | x::r,g,m,h=>by
  have:=send_fit hv fr r (g.updY fr x (·.send v)) (m+1) (N.vUpd_fit h (by omega) λs hs=>(h s (N.vAt_mem hs)).send hv)
  rw[List.length_cons,show m+(r.length+1)=m+1+r.length from by omega]
  exact this
end PG
theorem mapP_v {n b cnt:Nat}{np:List Value}{Y:List VS}(hl:np.length=Y.length) (x y:Int) (f:VS→VS):mapP n b cnt (N.vX np (N.vUpd n Y x y f))=mapP n b cnt (N.vX np Y):=by
 have e:N.netM n (N.vX np (N.vUpd n Y x y f))=N.netM n (N.vX np Y):=by
  funext c
  unfold N.netM
  cases N.idx n c.1 c.2 with
  | none=>rfl
  | some i =>
   simp only[Option.bind_some,←List.getElem?_map]
   rw[List.map_fst_zip (by simp[N.vUpd_len,hl]),List.map_fst_zip (by simp[hl])]
 show AO.op (mapO _ _ _ _ _ _)=_
 rw[e]
theorem mapP_send {n b cnt:Nat}{np:List Value}{g:PG}(hl:np.length=g.Y.length) (hn:g.n=n) (fr:Int) (v:Ver):∀(to:List Nat),mapP n b cnt (N.vX np (g.send fr to v).Y)=mapP n b cnt (N.vX np g.Y):=by
 intro to
 unfold PG.send
 induction to generalizing g with
 | nil=>rfl
 | cons s r ih =>
  rw[List.foldl_cons,ih (g:=g.updY fr s (·.send v)) (by rw[hl];exact(N.vUpd_len ..).symm) hn]
  show mapP n b cnt (N.vX np (N.vUpd g.n g.Y fr s _))=_
  rw[hn]
  exact mapP_v hl _ _ _
theorem gc_send (fr:FR) (g:PG) (hv:Value) (a:Int) (to:List Nat) (v:Ver):gcells fr (g.send a to v) hv=gcells fr g hv:=by rw[PG.send_Y];rfl
set_option maxHeartbeats 1000000 in
theorem gsend_g (fr:FR) (g:PG) (t:GT) (a:Int) (to:List Nat) (v:Ver) (hv:J.checkB v=true) (hf:fr.Ok g) {m:Nat}(hY:∀s∈g.Y,s.Fit m) (hm:m+to.length≤1000):GCallE Tryz.prog 150 [.bx 1001 0 0,.d (iv a),.d (.sl 1 (T.outR to)),.d (.row v.row)] (GE fr g t) (λF:Nat→Prop=>some (GE fr (g.send a to v) {t with Fn:=F},.d (.tup []))):=by
 refine GC_EL Tryz.func150 Tryz.ntmps150 (ReadsS.r0 Tryz.results150) λhok hokB M0 w0 hl=>?_
 have hnl:=hf.nl
 refine Aw_sr ?_
 refine Al_p Pu_bN ?_
 refine Al_ns ?_
 refine Al_ml ?_
 refine Al_p (Pu_ln Tryz.underlying22) ?_
 refine Al_ml ?_
 refine Al_nil (Aw_block ?_)
 refine Aw_loopk (ι:=Nat×(Nat→Prop)) [0,1,7,10,11] [1001,1002,1005,1006,1007] (λ(j,F)=>[(12,.d (iv j))]) (λ(j,F)=>[(1003,0,mapP g.n fr.b fr.cnt (N.vX fr.np g.Y)),(1004,0,.op (starP SES F (N.vX fr.np (g.send a (to.take j) v).Y)))]) (λ(j,F)=>j≤to.length) (λ(j,F)=>to.length - j) ((0,t.Fn)) (Nat.zero_le _) ⟨Sub.rfl,trivial⟩ ⟨rfl,rfl,trivial⟩ ?_
 rintro⟨j,F⟩ hk0
 refine Aw_sr ?_
 refine Al_p Pu_cp ?_
 refine Al_nil (Aw_seq ?_)
 refine Aw_cond rfl (λh13=>?_) (λh13=>?_)
 ·(try simp only[A.cd_]at h13)
  have hj:j<to.length:=by omega
  have hl2:fr.np.length=(g.send a (to.take j) v).Y.length:=by rw[PG.send_len];exact hnl
  have hY2:∀s∈(g.send a (to.take j) v).Y,s.Fit 1000:=λs hs=>(PG.send_fit hv a (to.take j) g m hY s hs).mono (by rw[List.length_take];omega)
  have hmp:=mapP_send (b:=fr.b) (cnt:=fr.cnt) hnl rfl a v (to.take j)
  have hst:N.upd g.n (N.vX fr.np (g.send a (to.take j) v).Y) a (to.getD j default:Nat) (λs=>N.send s (V.ba (V.verB v)))=N.vX fr.np (g.send a (to.take (j+1)) v).Y:=by
   rw[N.vUpd_ses hl2 (f:=(·.send v)) _ _ λs _=>VS.send_ses s v,PG.send_succ g a to v hj]
   show _=N.vX fr.np (N.vUpd (g.send a (to.take j) v).n _ _ _ _)
   rw[PG.send_n]
  refine Aw_skip ?_
  refine Aw_seq (Aw_block (Aw_sr ?_))
  refine Al_p (Pu_index rfl Tryz.underlying22 Tryz.sizeOf3 rfl rfl (rfl) (T.out_at hj)) ?_
  refine Al_p (Pu_l1 Tryz.isAgg3) ?_
  refine Al_mr ?_
  refine Al_nil ?_
  refine Aw_drawP 8 1 (by kernel_rfl) (by kernel_rfl) rfl ?_
  refine Dr_ml ?_
  refine Dr_p Pu_nb ?_
  refine Dr_p (Pu_fb 4 Tryz.underlying91 Tryz.sizeOf83) ?_
  refine Dr_p (Pu_lb Tryz.isAgg83) ?_
  refine Dr_ml ?_
  refine Dr_ml ?_
  refine Dr_p (Pu_lN Tryz.isAgg50 Tryz.sizeOf50) ?_
  refine Dr_p (Pu_call (verbytes_a v hv) rfl ⟨Sub.rfl,trivial⟩) ?_
  refine Dr_nil ?_
  refine Ad_o 8 ?_
  refine Al_gcallE [(1001,1002,0),(1002,1003,0),(1003,1004,0)] [] (ntSend_g g.n fr.b fr.cnt F (N.vX fr.np (g.send a (to.take j) v).Y) a (to.getD j default:Nat) (V.ba (V.verB v)) (N.vX_places hf.np) (N.vX_fit hY2)) rfl rfl rfl (by decide) (by kernel_rfl) ⟨rfl,by rw[hmp];rfl,rfl,trivial⟩ (λ_=>rfl) rfl rfl ⟨Sub.rfl,Sub.rfl,Sub.rfl,Sub.rfl,trivial⟩ ?_
  rintro F2 g24
  refine Al_nil ?_
  refine Ad_d ?_
  refine Aw_region ?_
  refine Al_p Pu_ad ?_
  refine Al_ml ?_
  refine Al_nil ?_
  exact⟨(j+1,F2),by omega,by simp only[];omega,Le.ov ⟨Sub.num (by omega),trivial⟩ ⟨Sub.rfl,Sub.rfl,Sub.rfl,Sub.rfl,Sub.rfl,trivial⟩ ⟨A.obE (mapP_upd.trans hmp),A.obE (congrArg (λX=>AO.op (starP SES F2 X)) hst),trivial⟩ ⟨rfl,rfl,rfl,rfl,rfl,trivial⟩⟩
 ·(try simp only[A.cd_]at h13)
  have hjj:to.take j=to:=List.take_of_length_le (by omega)
  refine Aw_exit ?_
  exact⟨F,_,_,[],rfl,rfl,⟨by rw[gc_send];rfl,rfl,by rw[PG.send_n,mapP_send hnl rfl a v to];rfl,A.obE (congrArg (λl=>AO.op (starP SES F (N.vX fr.np (g.send a l v).Y))) hjj),by rw[PG.send_S];rfl,by rw[PG.send_h];rfl,rfl,trivial⟩,rfl⟩
end Go.Proofs.YtdnijgdmohinlaaGreat
end
