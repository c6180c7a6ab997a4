/- What the proofs need in common, laid together (3 of 6): no condition. -/
import Derived.Test.YtdnijgdmohinlaaGreatG2
import Derived.ArgAppend
set_option linter.unusedSimpArgs false
set_option linter.unusedVariables false
set_option linter.constructorNameAsVariable false
section
namespace Go.Proofs.YtdnijgdmohinlaaGreat.A
open Go Go.RowKit
def hd (ρ:Rho):Value:=(ρ 1001 0).getD undef
section
variable {P:Program}{st:ASt}{o:Oper}
end
section
variable {P:Program}{N:Nat}{M0:Nat→Prop}{w0:Base}{ops:Array Oper}{Q:Exit→ASt→Prop}{o:Oper}{l:List Oper}{st:ASt}
end
theorem objs_mono {M M':Nat→Prop}{w w':World}{ρ:Rho}{obs:Obs}(k:Known M M' w w') (hb:∀b,fps ρ obs b→w'.heap[b]?=w.heap[b]?) (h:Objs ⟨w,λ_=>True,[],λ_ _=>none⟩ M w ρ obs):Objs ⟨w',λ_=>True,[],λ_ _=>none⟩ M' w' ρ obs:=λp hp=>by
 obtain⟨x,h1,h2⟩:=h p hp
 exact⟨x,h1,(h2.mono k λb hf=>hb b ⟨p,hp,x,h1,hf⟩).base λb _=>.inr trivial⟩
def starO (L:List (Rho×Obs)):OP where
 F:=λb=>∃e∈L,fps e.1 e.2 b
 I:=λM w _ _=>(∀e∈L,Objs ⟨w,λ_=>True,[],λ_ _=>none⟩ M w e.1 e.2∧Apart e.1 e.2∧Bnd e.1)∧L.Pairwise λ(e e':Rho×Obs)=>∀b,fps e.1 e.2 b→fps e'.1 e'.2 b→False
 mono:=λ{M M' w w' ρ h} k hb hI=>⟨λe he=>⟨objs_mono k (λb hf=>hb b ⟨e,he,hf⟩) (hI.1 e he).1,(hI.1 e he).2⟩,hI.2⟩
 rho:=λ_ h=>h
 lt:=λ{M w ρ h} hI b ⟨e,he,p,hp,x,h1,h2⟩=>by
  obtain⟨y,h3,h4⟩:=(hI.1 e he).1 p hp
  rw[h1]at h3;cases h3
  exact(h4.blk_lt h2).2
def Ghost (s:SV) (obs:Obs) {ι:Type}(obs':ι→Obs) (s':ι→SV):Prop :=
 ∀(M:Nat→Prop) (w:World) (ρ:Rho) (x:Value),(∀b,M b→b<w.heap.size)→Bnd ρ→SRep M w ρ s x→Objs ⟨w,λ_=>True,[],λ_ _=>none⟩ M w ρ obs→(∀b,fps ρ obs b→M b)→Apart ρ obs→∃i,GOut M w ρ obs w (obs' i) (s' i) x
section
variable {P:Program}{N:Nat}{M0:Nat→Prop}{w0:Base}{ops:Array Oper}{Q:Exit→ASt→Prop}{o:Oper}{l:List Oper}{st:ASt}
theorem le_ghost {ι:Type}{s:SV}{obs:Obs}{obs':ι→Obs}{s':ι→SV}(pm:Pm) (nw:List (Nat×Nat)) (j:Nat) (hG:Ghost s obs obs' s') (hj:Sub (st.sl j) (s.ren (nmOf pm))) (hpre:PreO st (nmOf pm) obs) (hB:∀i,nmB obs (obs' i) pm nw=true) (hb1:(obs.all λp=>(lookR pm p.1).isSome)=true) (hb5:nodupB (pm.map (·.2.1))=true) {X:Act→World→Prop}
  (h:∀i G,∀a w,Sim N M0 w0 ((st.aft pm (obs' i) (nm2 pm nw G)).set j ((s' i).ren (nm2 pm nw G))) a w→X a w):∀a w,Sim N M0 w0 st a w→X a w:=by
 rintro a w ⟨ρ,hsim⟩
 obtain⟨l1,l2,l3,l4,l5⟩:=hsim.lent ⟨hpre,λp hp=>List.all_eq_true.1 hb1 p hp⟩ hb5
 have hx:SRep (Mt M0 ρ st.ob) w (pull (nmOf pm) ρ) s (a.tmps.getD j undef):=SRep.ren.1 (hj _ _ _ _ (hsim.slot j))
 obtain⟨i,ho⟩:=hG (Mt M0 ρ st.ob) w (pull (nmOf pm) ρ) _ hsim.mt_lt (nmOf_bnd hsim.gens) hx l1 l2 l3
 obtain⟨G,ρ',hs',hr'⟩:=hsim.aft hpre (hB i) ⟨rfl,rfl,rfl,Nat.le_refl _,λ_ _ _=>rfl⟩ ho
 exact h i G a w ⟨ρ',hs'.tell hr'⟩
theorem Aw_ghost {ι:Type}{c:Code}{s:SV}{obs:Obs}{obs':ι→Obs}{s':ι→SV}(pm:Pm) (nw:List (Nat×Nat)) (j:Nat) (hG:Ghost s obs obs' s') (hj:Sub (st.sl j) (s.ren (nmOf pm))) (hpre:PreO st (nmOf pm) obs) (hB:∀i,nmB obs (obs' i) pm nw=true) (hb1:(obs.all λp=>(lookR pm p.1).isSome)=true) (hb5:nodupB (pm.map (·.2.1))=true)
 (h:∀i G,Aw P N M0 w0 c Q ((st.aft pm (obs' i) (nm2 pm nw G)).set j ((s' i).ren (nm2 pm nw G)))):Aw P N M0 w0 c Q st:=⟨le_ghost pm nw j hG hj hpre hB hb1 hb5 λi G a w hs=>(h i G).out a w hs⟩
theorem Al_ghost {ι:Type}{s:SV}{obs:Obs}{obs':ι→Obs}{s':ι→SV}(pm:Pm) (nw:List (Nat×Nat)) (j:Nat) (hG:Ghost s obs obs' s') (hj:Sub (st.sl j) (s.ren (nmOf pm))) (hpre:PreO st (nmOf pm) obs) (hB:∀i,nmB obs (obs' i) pm nw=true) (hb1:(obs.all λp=>(lookR pm p.1).isSome)=true) (hb5:nodupB (pm.map (·.2.1))=true)
 (h:∀i G,Al P N M0 w0 ops Q l ((st.aft pm (obs' i) (nm2 pm nw G)).set j ((s' i).ren (nm2 pm nw G)))):Al P N M0 w0 ops Q l st:=⟨le_ghost pm nw j hG hj hpre hB hb1 hb5 λi G a w hs=>(h i G).out a w hs⟩
end
theorem GCall.focus {P:Program}{f:FuncId}{rest:List AV}{obs obs':Obs}{res:AV}{T:TypeId}{cs:List SV}{ρe:Rho}{L:List (Rho×Obs)}{i:Nat}(h:GCall P f (.bx 1001 0 0::rest.map .d) obs (some (obs',.d res))) (hi:L[i]?=some (ρe,obs)) (h0:(1001,AO.box T cs)∈obs) (hk:obs'.map (·.1)=obs.map (·.1)) (hin:ObsIn (obs.map (·.1)) obs') :
  GCall P f (.eq (hd ρe)::rest.map .d) [(1001,.op (starO L))] (some ([(1001,.op (starO (L.set i (ρe,obs'))))],.d res)):=by
 refine⟨h.1,λM w ρ vs hM hbnd ha hobs hfps hap=>?_⟩
 obtain⟨hh,e1,hF,hI1,hI2⟩:=hobs _ (List.mem_cons_self ..)
 have hm:(ρe,obs)∈L:=List.mem_of_getElem? hi
 obtain⟨j1,j2,j3⟩:=hI1 _ hm
 obtain⟨y,k1',b,ys,rfl,_,k3,k4,k5⟩:=j1 _ h0
 have k1:ρe 1001 0=some (.pointer (some ⟨b,0,none⟩)):=k1'
 have hsub:∀b,fps ρe obs b→M b:=λb hb=>hfps b ⟨_,List.mem_cons_self ..,hh,e1,⟨_,hm,hb⟩⟩
 have hargs:ARep M w ρe (.bx 1001 0 0::rest.map .d) vs:=by
  refine⟨by rw[ha.1];simp,λj s x h1 h2=>?_⟩
  cases j with
  | zero =>
   have:=ha.2 0 _ x rfl h2
   simp only[List.getElem?_cons_zero,Option.some.injEq]at h1
   subst h1
   refine⟨_,b,k1,rfl,?_⟩
   rw[this.1];unfold hd;rw[k1];rfl
  | succ j =>
   have h1':(rest.map SV.d)[j]?=some s:=by simpa using h1
   have:=ha.2 (j+1) s x (by simpa using h1') h2
   rw[List.getElem?_map]at h1'
   obtain⟨r,_,rfl⟩:=Option.map_eq_some_iff.1 h1'
   exact this
 have hcall:=h.2 M w ρe vs hM j3 hargs j1 hsub j2
 refine hcall.mono λe w' ⟨hx,v,he,ρ',_,hsame,hobj,hap',hres⟩=>?_
 have hks:∀k∈obs.map (·.1),ρ' k 0=ρe k 0:=λk hk=>by
  obtain⟨p,hp,rfl⟩:=List.mem_map.1 hk
  exact hsame p hp
 have hks':∀p∈obs',ρ' p.1 0=ρe p.1 0:=λp hp=>hks _ (by rw[←hk];exact List.mem_map_of_mem hp)
 have hfe:∀b,fps ρ' obs' b↔fps ρe obs' b:=fps_eq hks'
 have hnew:∀b,fps ρe obs' b→w.heap.size≤b∨fps ρe obs b:=λb ⟨p,hp,x,h1,h2⟩=>by
  obtain⟨x',h3,h4⟩:=hobj p hp
  rw[hks' p hp,h1]at h3;cases h3
  exact(h4.blk_lt h2).1
 have hext:ExtL ⟨w,fps ρ [(1001,.op (starO L))],[],λ_ _=>none⟩ w':=⟨hx.os,hx.tape,hx.output,hx.size,λb hb hn=>hx.block b hb λhf=>hn ⟨_,List.mem_cons_self ..,hh,e1,⟨_,hm,hf⟩⟩⟩
 have hset:∀e'∈L.set i (ρe,obs'),e'=(ρe,obs')∨∃j,j≠i∧L[j]?=some e':=λe' he'=>by
  obtain⟨j,hj,rfl⟩:=List.getElem_of_mem he'
  rw[List.getElem_set]
  split
  ·exact .inl rfl
  ·rename_i hne
   exact .inr ⟨j,λe=>hne e.symm,List.getElem?_eq_getElem (by simpa using hj)⟩
 have hpw:=List.pairwise_iff_getElem.1 hI2
 have hdis:∀j e',j≠i→L[j]?=some e'→∀b,fps e'.1 e'.2 b→fps ρe obs b→False:=λj e' hne hj b h1 h2=>by
  obtain⟨hjl,hje⟩:=List.getElem?_eq_some_iff.1 hj
  obtain⟨hil,hie⟩:=List.getElem?_eq_some_iff.1 hi
  rcases Nat.lt_or_ge j i with hlt|hge
  ·have:=hpw j i hjl hil hlt b
   rw[hje,hie]at this
   exact this h1 h2
  ·have:=hpw i j hil hjl (by omega) b
   rw[hje,hie]at this
   exact this h2 h1
 have hltO:∀e'∈L,∀b,fps e'.1 e'.2 b→b<w.heap.size:=λe' he' b ⟨p,hp,x,h1,h2⟩=>by
  obtain⟨x',h3,h4⟩:=(hI1 e' he').1 p hp
  rw[h1]at h3;cases h3
  exact(h4.blk_lt h2).2
 have hkn:Known M (λb=>M b∨fps ρ [(1001,.op (starO (L.set i (ρe,obs'))))] b) w w':=λb hb hn=>by
  refine⟨?_,hx.block b hb λhf=>hn (hsub b hf)⟩
  intro hor
  rcases hor with h1|⟨p,hp,x,h1,h2⟩
  ·exact hn h1
  ·rcases List.mem_cons.1 hp with rfl|hp
   ·obtain⟨e',he',h2⟩:(starO (L.set i (ρe,obs'))).F b:=h2
    rcases hset e' he' with rfl|⟨j,_,hj⟩
    ·rcases hnew b h2 with h3|h3
     ·omega
     ·exact hn (hsub b h3)
    ·exact hn (hfps b ⟨_,List.mem_cons_self ..,hh,e1,⟨_,List.mem_of_getElem? hj,h2⟩⟩)
   ·cases hp
 refine⟨hext,v,he,ρ,hbnd,λp hp=>rfl,λp hp=>?_,λp hp q hq x x' b _ _ _ _=>?_,?_⟩
 ·rcases List.mem_cons.1 hp with rfl|hp
  ·refine⟨hh,e1,λb ⟨e',he',hb⟩=>?_,⟨λe' he'=>?_,?_⟩⟩
   ·rcases hset e' he' with rfl|⟨j,_,hj⟩
    ·rcases hnew b hb with h3|h3
     ·exact .inl h3
     ·exact .inr ⟨_,List.mem_cons_self ..,hh,e1,⟨_,hm,h3⟩⟩
    ·exact .inr ⟨_,List.mem_cons_self ..,hh,e1,⟨_,List.mem_of_getElem? hj,hb⟩⟩
   ·rcases hset e' he' with rfl|⟨j,hne,hj⟩
    ·refine⟨λp hp=>?_,λp hp q hq x x' b h1 h2 h3 h4=>?_,j3⟩
     ·obtain⟨x,h1,h2⟩:=hobj p hp
      refine⟨x,(hks' p hp).symm.trans h1,?_⟩
      refine(aoIn_rep (ρ:=ρe) hks (hin.get p hp) h2 |>.mono (Known.sub λc hc=>?_) λ_ _=>rfl).base λb _=>.inr trivial
      rcases hc with h3|⟨p',hp',x',h3,h4⟩
      ·exact .inl h3
      ·rcases List.mem_cons.1 hp' with rfl|hp'
       ·obtain⟨e2,he2,h4⟩:(starO (L.set i (ρe,obs'))).F c:=h4
        rcases hset e2 he2 with rfl|⟨j',_,hj'⟩
        ·exact .inr ((hfe c).2 h4)
        ·exact .inl (hfps c ⟨_,List.mem_cons_self ..,hh,e1,⟨_,List.mem_of_getElem? hj',h4⟩⟩)
       ·cases hp'
     ·exact hap' p hp q hq x x' b ((hks' p hp).trans h1) ((hks' q hq).trans h2) h3 h4
    ·have hme:e'∈L:=List.mem_of_getElem? hj
     obtain⟨m1,m2,m3⟩:=hI1 e' hme
     exact⟨objs_mono hkn (λb hb=>hx.block b (hltO e' hme b hb) λhf=>hdis j e' hne hj b hb hf) m1,m2,m3⟩
   ·rw[List.pairwise_iff_getElem]
    intro j j' hj hj' hlt b h1 h2
    have hj0:j<L.length:=by simpa using hj
    have hj0':j'<L.length:=by simpa using hj'
    rw[List.getElem_set]at h1 h2
    have hold:∀x (hx:x<L.length),x≠i→fps ρe obs' b→fps (L[x]).1 (L[x]).2 b→False:=λx hx hne h3 h4=>by
     rcases hnew b h3 with h5|h5
     ·have:=hltO _ (List.getElem_mem hx) b h4
      omega
     ·exact hdis x L[x] hne (List.getElem?_eq_getElem hx) b h4 h5
    split at h1<;>split at h2
    ·omega
    ·rename_i e1 e2
     exact hold j' hj0' (λe=>e2 e.symm) h1 h2
    ·rename_i e1 e2
     exact hold j hj0 (λe=>e1 e.symm) h2 h1
    ·exact hpw j j' hj0 hj0' hlt b h1 h2
  ·cases hp
 ·rcases List.mem_cons.1 hp with rfl|hp
  ·rcases List.mem_cons.1 hq with rfl|hq
   ·rfl
   ·cases hq
  ·cases hp
 ·refine SRep.mono (ρ:=ρ) (s:=.d res) (Known.sub λc hc=>?_) hres
  rcases hc with h3|⟨p',hp',x',h3,h4⟩
  ·exact .inl h3
  ·rcases List.mem_cons.1 hp' with rfl|hp'
   ·obtain⟨e2,he2,h4⟩:(starO (L.set i (ρe,obs'))).F c:=h4
    rcases hset e2 he2 with rfl|⟨j',_,hj'⟩
    ·exact .inr ((hfe c).2 h4)
    ·exact .inl (hfps c ⟨_,List.mem_cons_self ..,hh,e1,⟨_,List.mem_of_getElem? hj',h4⟩⟩)
   ·cases hp'
end Go.Proofs.YtdnijgdmohinlaaGreat.A
end
section
namespace Go.Proofs.YtdnijgdmohinlaaGreat.A
open Go Go.RowKit
theorem Sub.ve {v:Value}:Sub (.d (.v v)) (.eq v):=λM w ρ x h=>by
 obtain⟨h1,h2⟩:=rep_v h
 exact⟨h1,h2.one⟩
theorem GCallE.focus {P:Program}{f:FuncId}{rest:List AV}{obs:Obs}{ι:Type}{obs':ι→Obs}{res:ι→AV}{T:TypeId}{cs:List SV}{ρe:Rho}{L:List (Rho×Obs)}{i:Nat}(h:GCallE P f (.bx 1001 0 0::rest.map .d) obs λx=>some (obs' x,.d (res x))) (hi:L[i]?=some (ρe,obs)) (h0:(1001,AO.box T cs)∈obs) :
  GCallE P f (.eq (hd ρe)::rest.map .d) [(1001,.op (starO L))] (λx:ι×{ρn:Rho // hd ρn=hd ρe}=>some ([(1001,.op (starO (L.set i (x.2.1,obs' x.1))))],.d (res x.1))):=by
 refine⟨h.1,λM w ρ vs hM hbnd ha hobs hfps hap=>?_⟩
 obtain⟨hh,e1,hF,hI1,hI2⟩:=hobs _ (List.mem_cons_self ..)
 have hm:(ρe,obs)∈L:=List.mem_of_getElem? hi
 obtain⟨j1,j2,j3⟩:=hI1 _ hm
 obtain⟨y,k1',b,ys,rfl,_,k3,k4,k5⟩:=j1 _ h0
 have k1:ρe 1001 0=some (.pointer (some ⟨b,0,none⟩)):=k1'
 have hsub:∀b,fps ρe obs b→M b:=λb hb=>hfps b ⟨_,List.mem_cons_self ..,hh,e1,⟨_,hm,hb⟩⟩
 have hargs:ARep M w ρe (.bx 1001 0 0::rest.map .d) vs:=by
  refine⟨by rw[ha.1];simp,λj s x h1 h2=>?_⟩
  cases j with
  | zero =>
   have:=ha.2 0 _ x rfl h2
   simp only[List.getElem?_cons_zero,Option.some.injEq]at h1
   subst h1
   refine⟨_,b,k1,rfl,?_⟩
   rw[this.1];unfold hd;rw[k1];rfl
  | succ j =>
   have h1':(rest.map SV.d)[j]?=some s:=by simpa using h1
   have:=ha.2 (j+1) s x (by simpa using h1') h2
   rw[List.getElem?_map]at h1'
   obtain⟨r,_,rfl⟩:=Option.map_eq_some_iff.1 h1'
   exact this
 have hcall:=h.2 M w ρe vs hM j3 hargs j1 hsub j2
 refine hcall.mono λe w' ⟨hx,ix,v,he,ρ',hbnd',hsame,hobj,hap',hres⟩=>?_
 have hhd:hd ρ'=hd ρe:=by
  show(ρ' 1001 0).getD undef=(ρe 1001 0).getD undef
  rw[hsame _ h0]
 have hnew:∀b,fps ρ' (obs' ix) b→w.heap.size≤b∨fps ρe obs b:=λb ⟨p,hp,x,h1,h2⟩=>by
  obtain⟨x',h3,h4⟩:=hobj p hp
  rw[h1]at h3;cases h3
  exact(h4.blk_lt h2).1
 have hset:∀e'∈L.set i (ρ',obs' ix),e'=(ρ',obs' ix)∨∃j,j≠i∧L[j]?=some e':=λe' he'=>by
  obtain⟨j,hj,rfl⟩:=List.getElem_of_mem he'
  rw[List.getElem_set]
  split
  ·exact .inl rfl
  ·rename_i hne
   exact .inr ⟨j,λe=>hne e.symm,List.getElem?_eq_getElem (by simpa using hj)⟩
 have hpw:=List.pairwise_iff_getElem.1 hI2
 have hdis:∀j e',j≠i→L[j]?=some e'→∀b,fps e'.1 e'.2 b→fps ρe obs b→False:=λj e' hne hj b h1 h2=>by
  obtain⟨hjl,hje⟩:=List.getElem?_eq_some_iff.1 hj
  obtain⟨hil,hie⟩:=List.getElem?_eq_some_iff.1 hi
  rcases Nat.lt_or_ge j i with hlt|hge
  ·have:=hpw j i hjl hil hlt b
   rw[hje,hie]at this
   exact this h1 h2
  ·have:=hpw i j hil hjl (by omega) b
   rw[hje,hie]at this
   exact this h2 h1
 have hltO:∀e'∈L,∀b,fps e'.1 e'.2 b→b<w.heap.size:=λe' he' b ⟨p,hp,x,h1,h2⟩=>by
  obtain⟨x',h3,h4⟩:=(hI1 e' he').1 p hp
  rw[h1]at h3;cases h3
  exact(h4.blk_lt h2).2
 have hM2:∀c,(M c∨fps ρ [(1001,AO.op (starO (L.set i (ρ',obs' ix))))] c)→M c∨fps ρ' (obs' ix) c:=λc hc'=>by
  rcases hc' with h3|⟨p',hp',x',h3,h4⟩
  ·exact .inl h3
  ·rcases List.mem_cons.1 hp' with rfl|hp'
   ·obtain⟨e2,he2,h4⟩:(starO (L.set i (ρ',obs' ix))).F c:=h4
    rcases hset e2 he2 with rfl|⟨j',_,hj'⟩
    ·exact .inr h4
    ·exact .inl (hfps c ⟨_,List.mem_cons_self ..,hh,e1,⟨_,List.mem_of_getElem? hj',h4⟩⟩)
   ·cases hp'
 have hkn:Known M (λb=>M b∨fps ρ [(1001,.op (starO (L.set i (ρ',obs' ix))))] b) w w':=λb hb hn=>by
  refine⟨?_,hx.block b hb λhf=>hn (hsub b hf)⟩
  intro hor
  rcases hM2 b hor with h1|h1
  ·exact hn h1
  ·rcases hnew b h1 with h3|h3
   ·omega
   ·exact hn (hsub b h3)
 have hext:ExtL ⟨w,fps ρ [(1001,.op (starO L))],[],λ_ _=>none⟩ w':=⟨hx.os,hx.tape,hx.output,hx.size,λb hb hn=>hx.block b hb λhf=>hn ⟨_,List.mem_cons_self ..,hh,e1,⟨_,hm,hf⟩⟩⟩
 refine⟨hext,(ix,⟨ρ',hhd⟩),v,he,ρ,hbnd,λp hp=>rfl,λp hp=>?_,λp hp q hq x x' b _ _ _ _=>?_,?_⟩
 ·rcases List.mem_cons.1 hp with rfl|hp
  ·refine⟨hh,e1,λb ⟨e',he',hb⟩=>?_,⟨λe' he'=>?_,?_⟩⟩
   ·rcases hset e' he' with rfl|⟨j,_,hj⟩
    ·rcases hnew b hb with h3|h3
     ·exact .inl h3
     ·exact .inr ⟨_,List.mem_cons_self ..,hh,e1,⟨_,hm,h3⟩⟩
    ·exact .inr ⟨_,List.mem_cons_self ..,hh,e1,⟨_,List.mem_of_getElem? hj,hb⟩⟩
   ·rcases hset e' he' with rfl|⟨j,hne,hj⟩
    ·refine⟨λp hp=>?_,λp hp q hq x x' b h1 h2 h3 h4=>?_,hbnd'⟩
     ·obtain⟨x,h1,h2⟩:=hobj p hp
      exact⟨x,h1,(h2.mono (Known.sub hM2) λ_ _=>rfl).base λb _=>.inr trivial⟩
     ·exact hap' p hp q hq x x' b h1 h2 h3 h4
    ·have hme:e'∈L:=List.mem_of_getElem? hj
     obtain⟨m1,m2,m3⟩:=hI1 e' hme
     exact⟨objs_mono hkn (λb hb=>hx.block b (hltO e' hme b hb) λhf=>hdis j e' hne hj b hb hf) m1,m2,m3⟩
   ·rw[List.pairwise_iff_getElem]
    intro j j' hj hj' hlt b h1 h2
    have hj0:j<L.length:=by simpa using hj
    have hj0':j'<L.length:=by simpa using hj'
    rw[List.getElem_set]at h1 h2
    have hold:∀x (hx:x<L.length),x≠i→fps ρ' (obs' ix) b→fps (L[x]).1 (L[x]).2 b→False:=λx hx hne h3 h4=>by
     rcases hnew b h3 with h5|h5
     ·have:=hltO _ (List.getElem_mem hx) b h4
      omega
     ·exact hdis x L[x] hne (List.getElem?_eq_getElem hx) b h4 h5
    split at h1<;>split at h2
    ·omega
    ·rename_i e1 e2
     exact hold j' hj0' (λe=>e2 e.symm) h1 h2
    ·rename_i e1 e2
     exact hold j hj0 (λe=>e1 e.symm) h2 h1
    ·exact hpw j j' hj0 hj0' hlt b h1 h2
  ·cases hp
 ·rcases List.mem_cons.1 hp with rfl|hp
  ·rcases List.mem_cons.1 hq with rfl|hq
   ·rfl
   ·cases hq
  ·cases hp
 ·exact SRep.mono (ρ:=ρ) (s:=.d (res ix)) (Known.sub hM2) hres
end Go.Proofs.YtdnijgdmohinlaaGreat.A
end
section
namespace Go.Proofs.YtdnijgdmohinlaaGreat.A
open Go Go.RowKit
section
variable {P:Program}{N:Nat}{M0:Nat→Prop}{w0:Base}{ops:Array Oper}{Q:Exit→ASt→Prop}{o:Oper}{l:List Oper}{st:ASt}
theorem rep_take {M:Nat→Prop}{w:World}{n h:Nat}{rows:List (List AV)}{ad:Option Addr}{c:Nat}(hm:Rep M w (.sl n rows) (.slice ad rows.length c)) (hle:h≤rows.length):Rep M w (.sl n (rows.take h)) (.slice ad h h):=by
 rcases Nat.eq_zero_or_pos h with h0|h0
 ·subst h0
  rw[List.take_zero]
  exact .nil _ _ _
 ·have hlen:(rows.take h).length=h:=by simp;omega
  generalize hyy:Value.slice ad rows.length c=y at hm
  cases hm with
  | nil n a' c'=>simp at hle;omega
  | sl n rows b o' cap f hl hcap hn hcc hr =>
   simp only[Value.slice.injEq]at hyy
   obtain⟨rfl,_,rfl⟩:=hyy
   have:=Rep.sl (M:=M) (w:=w) n (rows.take h) b o' h f (by rw[hlen];omega) (by rw[hlen];exact Nat.le_refl _) (λi r hi=>hn i r (by rw[List.getElem?_take]at hi;split at hi;exact hi;cases hi)) (λi r j a hi ha=>hcc i r j a (by rw[List.getElem?_take]at hi;split at hi;exact hi;cases hi) ha) (λi r j a hi ha=>hr i r j a (by rw[List.getElem?_take]at hi;split at hi;exact hi;cases hi) ha)
   rw[hlen]at this
   exact this
theorem Pu_sub3 {t e:TypeId}{x hi mx:Operand}{n:Nat}{rows:List (List AV)}(h:Nat) (ho:o.op=.slice t x none (some hi) (some mx)) (ht:P.underlying t=some (.slice e)) (hz:∀w,(sizeOf e).run P w=.ok n w) (hx:st.ev x=.d (.sl n rows)) (hhi:∃z:Int,st.ev hi=.d (.v (.int .i64 z))∧z=h) (hmx:∃z:Int,st.ev mx=.d (.v (.int .i64 z))∧z=h) (hle:h≤rows.length):Pu P st o (.slc n (rows.take h)):=Pu_q λB M ρ w a h2 _=>by
 have hm:=h2 x (by simp[opsOf,ho,Op.operands])
 rw[hx]at hm
 have hcap:∃ad c,a.eval x=.slice ad rows.length c∧rows.length≤c:=by
  generalize a.eval x=y at hm
  cases hm with
  | nil n a c=>exact⟨_,_,rfl,by simp⟩
  | sl n rows b o' cap f hl hcap=>exact⟨_,_,rfl,hcap⟩
 obtain⟨ad,c,hy,hc⟩:=hcap
 obtain⟨z1,k1,k2⟩:=hhi
 obtain⟨z2,k3,k4⟩:=hmx
 have b1:=λc=>bnd_run (P:=P) (w:=w) (c:=c) (y:=h) (h2 hi (by simp[opsOf,ho,Op.operands])) k1 k2 (Nat.le_refl h)
 have b2:=λc'=>bnd_run (P:=P) (w:=w) (c:=c') (y:=c) (h2 mx (by simp[opsOf,ho,Op.operands])) k3 k4 (by omega:h≤c)
 refine⟨.slice ad h h,?_,?_⟩
 ·cases ad<;>simp[execOp,ho,hy,Instr.sliceAt,Sem.run_bind,run_underlying ht,Result.andThen_ok,Instr.slice,Instr.sliceBounds,b1,b2,hz,Sem.run_pure,Addr.add]
 ·rw[hy]at hm
  exact⟨rep_take hm hle,ad,h,rfl⟩
theorem rep_cells {M:Nat→Prop}{w:World}{n:Nat}{rows:List (List AV)}{y:Value}(hn:1≤n) (h2:Rep M w (.sl n rows) y):∃(us:List (List Value)) (ad:Option Addr) (c:Nat),y=.slice ad rows.length c∧rows.length≤c∧(∀r∈us,r.length=n)∧Rows M w n us rows∧(rows≠[]→∃b,ad=some b∧∀q u,us.flatten[q]?=some u→w.cell? (b.add q)=some u)∧∀u∈us.flatten,u.oneCell'=true:=by
 cases h2 with
 | nil n na nc=>exact⟨[],_,_,rfl,by simp,(λr hr=>by cases hr),⟨rfl,(λi r v h=>by simp at h)⟩,λh=>(h rfl).elim,λu hu=>by simp at hu⟩
 | sl n news b o' cap f hl hcap hn' hcc hr =>
  let us:List (List Value):=(List.range rows.length).map λi=>(List.range n).map λj=>f i j
  have hul:∀r∈us,r.length=n:=λr hr=>by
   simp only[us,List.mem_map]at hr
   obtain⟨i,_,rfl⟩:=hr
   simp
  have hus:∀i,i<rows.length→us[i]?=some ((List.range n).map λj=>f i j):=λi hi=>by
   simp[us,hi]
  have hcell:∀i,i<rows.length→∀j,j<n→∃r a,rows[i]?=some r∧r[j]?=some a:=λi hi j hj=>by
   have h5:(rows[i]'hi).length=n:=hn' i _ (by simp[hi])
   exact⟨rows[i],(rows[i]'hi)[j]'(by omega),by simp[hi],by simp[h5,hj]⟩
  have hrr:Rows M w n us rows:=by
   refine⟨by simp[us],λi r v h3 h4=>?_⟩
   have hi:i<rows.length:=(List.getElem?_eq_some_iff.1 h3).1
   rw[hus i hi]at h4
   simp only[Option.some.injEq]at h4
   subst h4
   refine⟨hn' i r h3,by simp,λj a x h5 h6=>?_⟩
   have hj:j<n:=by rw[←hn' i r h3];exact(List.getElem?_eq_some_iff.1 h5).1
   rw[List.getElem?_map,List.getElem?_range hj]at h6
   simp only[Option.map_some,Option.some.injEq]at h6
   subst h6
   exact⟨hr i r j a h3 h5,(hcc i r j a h3 h5).2.2⟩
  have hfl:∀q u,us.flatten[q]?=some u→∃i j r c,i<rows.length∧j<n∧q=i*n+j∧rows[i]?=some r∧r[j]?=some c∧u=f i j:=λq u hq=>by
   rw[flatten_get (by omega) us q hul]at hq
   obtain⟨r,h5,h6⟩:=Option.bind_eq_some_iff.1 hq
   have hi:q / n<rows.length:=by
    have:=(List.getElem?_eq_some_iff.1 h5).1
    simpa [us]using this
   have hj:q%n<n:=Nat.mod_lt _ (by omega)
   rw[hus _ hi]at h5
   simp only[Option.some.injEq]at h5
   subst h5
   rw[List.getElem?_map,List.getElem?_range hj]at h6
   simp only[Option.map_some,Option.some.injEq]at h6
   obtain⟨r,c,h7,h8⟩:=hcell _ hi _ hj
   exact⟨q / n,q%n,r,c,hi,hj,by rw[Nat.mul_comm];exact(Nat.div_add_mod q n).symm,h7,h8,h6.symm⟩
  refine⟨us,_,_,rfl,hcap,hul,hrr,λ_=>⟨_,rfl,λq u hq=>?_⟩,λu hu=>?_⟩
  ·obtain⟨i,j,r,c,hi,hj,rfl,h7,h8,rfl⟩:=hfl q u hq
   rw[add_addr,←Nat.add_assoc]
   exact(hcc i r j c h7 h8).2.1
  ·obtain⟨q,hq,rfl⟩:=List.getElem_of_mem hu
   obtain⟨i,j,r,c,hi,hj,_,h7,h8,h9⟩:=hfl q _ (by simp[hq]:us.flatten[q]?=some us.flatten[q])
   rw[h9]
   exact(hcc i r j c h7 h8).2.2
theorem rep_own {M:Nat→Prop}{w':World}{B n:Nat}{T:TypeId}{v:Value}{rows:List (List AV)}{us:List (List Value)}(hn:1≤n) (hM:∀b,M b→b<B) (ho:w'.ownsRow B T n v rows.length us.flatten) (hul:∀r∈us,r.length=n) (hr:Rows M w' n us rows) (h1:∀u∈us.flatten,u.oneCell'=true) (hlen:rows.length≤maxI):Rep M w' (.sl n rows) v:=by
 rcases ho.2 with⟨rfl,hz⟩|⟨gb,cap,cur,rfl,hbase,hgb,hnc,hcm,hcs,htk⟩
 ·rw[List.eq_nil_of_length_eq_zero hz]
  exact .nil _ _ _
 ·have hget:∀i j r c,rows[i]?=some r→r[j]?=some c→∃u,us.flatten[i*n+j]?=some u∧Rep M w' c u:=λi j r c h3 h4=>by
   have hi:i<us.length:=by rw[hr.1];exact(List.getElem?_eq_some_iff.1 h3).1
   obtain⟨k1,k2,k3⟩:=hr.2 i r us[i] h3 (by simp[hi])
   have hj:j<n:=by rw[←k1];exact(List.getElem?_eq_some_iff.1 h4).1
   have hj2:j<us[i].length:=by omega
   refine⟨us[i][j],?_,(k3 j c us[i][j] h4 (by simp[hj2])).1⟩
   rw[flatten_get (by omega) us _ hul]
   have e1:(i*n+j) / n=i:=by rw[Nat.mul_comm,Nat.mul_add_div (by omega),Nat.div_eq_of_lt hj];omega
   have e2:(i*n+j)%n=j:=by rw[Nat.mul_comm,Nat.mul_add_mod,Nat.mod_eq_of_lt hj]
   rw[e1,e2]
   simp[hi,hj2]
  refine .sl n rows gb 0 cap (λi j=>us.flatten.getD (i*n+j) undef) hlen hnc (λi r hi=>?_) (λi r j c h3 h4=>?_) (λi r j c h3 h4=>?_)
  ·have hi':i<us.length:=by rw[hr.1];exact(List.getElem?_eq_some_iff.1 hi).1
   exact(hr.2 i r us[i] hi (by simp[hi'])).1
  ·obtain⟨u,h5,h6⟩:=hget i j r c h3 h4
   refine⟨λhm=>by have:=hM _ hm;omega,?_,?_⟩
   ·rw[Lib.cell_of_heap hgb]
    have h7:us.flatten[i*n+j]?=some (us.flatten.getD (i*n+j) undef):=by rw[List.getD_eq_getElem?_getD,h5];rfl
    have hlt:i*n+j<us.flatten.length:=(List.getElem?_eq_some_iff.1 h5).1
    show cur[0+i*n+j]?=_
    rw[←h7,←htk,Nat.zero_add,List.getElem?_take,if_pos (by rw[←htk]at hlt;simp at hlt;omega),Array.getElem?_toList]
   ·rw[List.getD_eq_getElem?_getD,h5]
    exact h1 u (List.mem_of_getElem? h5)
  ·obtain⟨u,h5,h6⟩:=hget i j r c h3 h4
   rw[List.getD_eq_getElem?_getD,h5]
   exact h6
theorem rows_app {M:Nat→Prop}{w:World}{n:Nat}{us vs:List (List Value)}{rows news:List (List AV)}(h:Rows M w n us rows) (k:Rows M w n vs news):Rows M w n (us++vs) (rows++news):=⟨by rw[List.length_append,List.length_append,h.1,k.1],λi r u h1 h2=>by
 rcases Nat.lt_or_ge i rows.length with hi|hi
 ·rw[List.getElem?_append_left hi]at h1
  rw[List.getElem?_append_left (by rw[h.1];exact hi)]at h2
  exact h.2 i r u h1 h2
 ·rw[List.getElem?_append_right hi]at h1
  rw[List.getElem?_append_right (by rw[h.1];exact hi),h.1]at h2
  exact k.2 _ r u h1 h2⟩
theorem Pu_appendC {s x:Operand}{t T:TypeId}{n bytes:Nat}{rows news:List (List AV)}(ho:o.op=.call ⟨.builtin .append,#[s,x],#[t,t]⟩) (hT:R.ElemT P t T n bytes) (hn:1≤n) (hsz:∀w,(sizeOf T).run P w=.ok n w) (hs:st.ev s=.slc n rows) (hx:st.ev x=.d (.sl n news)) (hlen:rows.length+news.length≤4294967296) (hby:bytes≤32768):Pu P st o (.d (.sl n (rows++news))):=Pu_of λB M ρ w a hM h2 _=>by
 have h1:=h2 s (mem_call ho s (by simp))
 have h4:=h2 x (mem_call ho x (by simp))
 rw[hs]at h1
 rw[hx]at h4
 obtain⟨hr,ad,len,he⟩:=h1
 obtain⟨us,ad1,c1,e1,_,hul,hrows,hcell,hone⟩:=rep_cells hn hr
 obtain⟨vs,ad2,c2,e2,_,hvl,hvrows,hvcell,hvone⟩:=rep_cells hn h4
 have e3:=he.symm.trans e1
 simp only[Value.slice.injEq]at e3
 obtain⟨rfl,rfl,rfl⟩:=e3
 have hfull:∀v' w',(Builtin.append_ #[t,t] o.type #[a.eval s,a.eval x]).run P w=.ok v' w'→(execOp a.eval o).run P w=.ok (.value v') w':=λv' w' e=>by
  simp only[execOp,ho,resolve,invoke,builtin,Sem.run_bind,Sem.run_pure,Result.andThen_ok,List.map_toArray,List.map_cons,List.map_nil,e]
 by_cases hnil:news=[]
 ·subst hnil
  refine⟨_,w,hfull _ w ?_,Ev.Ext.refl _,by rw[List.append_nil];exact hr⟩
  rw[he,e2]
  cases ad<;>cases ad2<;>simp[Builtin.append_,run_underlying hT.ht,hsz,Builtin.lenOf,Builtin.firstCells,storeCells,loadCells,loadCellsFrom,Result.andThen]
 ·obtain⟨b2,rfl,hb2⟩:=hvcell hnil
  have hnl:0<news.length:=List.length_pos_iff.2 hnil
  obtain⟨ix,z,hi,hz,hsize,hbyt,hzs⟩:=hT.hi
  obtain⟨v',w',h3,h5,h6⟩:∃v' w',(Builtin.append_ #[t,t] o.type #[a.eval s,a.eval x]).run P w=.ok v' w'∧w'.ownsRow w.heap.size T n v' (rows.length+news.length) (us.flatten++vs.flatten)∧Ev.Ext w w':=by
   rw[he,e2]
   have hfl:∀(l:List (List Value)),(∀r∈l,r.length=n)→l.flatten.length=l.length*n:=λl hl=>flatten_len hl
   have hb1:(rows.length+news.length)*bytes≤140737488355328:=Nat.le_trans (Nat.mul_le_mul hlen hby) (by decide)
   cases ad with
   | none =>
    have hr0:rows=[]:=Classical.byContradiction λh=>by obtain⟨b,h5,_⟩:=hcell h;cases h5
    subst hr0
    have hu0:us=[]:=List.eq_nil_of_length_eq_zero hrows.1
    subst hu0
    obtain⟨v',w',k1,k2,k3,_⟩:=R.run_append (P:=P) w w.heap.size t o.type T n bytes hT hn (.slice none 0 0) 0 [] ⟨by simp,.inl ⟨rfl,rfl⟩⟩ b2 news.length c2 vs.flatten (by rw[hfl vs hvl,hvrows.1]) hb2 hvone (by unfold maxLen;simp at hlen;omega) (by simpa using hb1) (Nat.le_refl _)
    exact⟨v',w',k1,by simpa using k2,⟨k3.os,k3.tape,k3.output,k3.size,λk hk=>k3.block k hk (by simp[Value.ownBlock])⟩⟩
   | some b1 =>
    have hold:∀j u,us.flatten[j]?=some u→w.cell? (b1.add j)=some u:=λj u hj=>by
     by_cases hr0:rows=[]
     ·have hu0:us=[]:=List.eq_nil_of_length_eq_zero (by rw[hrows.1,hr0];rfl)
      rw[hu0]at hj;simp at hj
     ·obtain⟨b,h7,h8⟩:=hcell hr0
      cases h7
      exact h8 j u hj
    obtain⟨v',w',k1,k2,k3⟩:=run_append_arg_grows (P:=P) (w:=w) t o.type T ix z n bytes hT.ht hi hz hsize hbyt hzs (by omega) b1 rows.length rows.length us.flatten (by rw[hfl us hul,hrows.1]) hold b2 news.length c2 vs.flatten (by rw[hfl vs hvl,hvrows.1]) hb2 (by omega) (by unfold maxLen;omega) hb1
    exact⟨v',w',k1,k2,⟨k3.os,k3.tape,k3.output,k3.size,λk hk=>k3.block k hk (by simp)⟩⟩
  have hul2:∀r∈us++vs,r.length=n:=λr hr=>by
   rcases List.mem_append.1 hr with h|h
   ·exact hul r h
   ·exact hvl r h
  refine⟨v',w',hfull v' w' h3,h6,rep_own (B:=w.heap.size) hn hM (by rw[List.flatten_append,List.length_append];exact h5) hul2 ((rows_app hrows hvrows).mono (Known.ext h6)) (λu hu=>?_) (by rw[List.length_append];unfold maxI;omega)⟩
  rw[List.flatten_append]at hu
  rcases List.mem_append.1 hu with h|h
  ·exact hone u h
  ·exact hvone u h
end
end Go.Proofs.YtdnijgdmohinlaaGreat.A
end
section
namespace Go.Proofs.YtdnijgdmohinlaaGreat.A
open Go Go.RowKit
theorem SimR.mod2 {N:Nat}{M0:Nat→Prop}{w0:Base}{st:ASt}{ρ:Rho}{a:Act}{w w':World}(h:SimR N M0 w0 st ρ a w) {k g:Nat}{o:AO}{x:Value}(hob:st.ob k=some (g,o)) (hx:ρ k g=some x) (hos:w'.os=w.os∧w'.tape=w.tape∧w'.output=w.output) (hsz:w.heap.size≤w'.heap.size)
  (hold:∀b,b<w.heap.size→¬fpO o x b→w'.heap[b]?=w.heap[b]?) {o':AO}(hO:∀M',Known (Mt M0 ρ st.ob) M' w w'→ORep w0 M' w' ρ x o') (hfp:∀b,fpO o' x b→fpO o x b∨w.heap.size≤b):SimR N M0 w0 (st.put k g o') ρ a w':=by
 have hO0:ORep w0 (Mt M0 ρ st.ob) w ρ x o:=by
  obtain⟨y,h1,h2⟩:=h.obj k g o hob
  rw[hx]at h1;cases h1;exact h2
 have hob':∀k2 g2 o2,(st.put k g o').ob k2=some (g2,o2)→(k2=k∧g2=g∧o2=o')∨(k2≠k∧st.ob k2=some (g2,o2)):=λk2 g2 o2 hh=>by
  have:(bif Nat.beq k2 k then some (g,o')else st.ob k2)=some (g2,o2):=hh
  cases hb:Nat.beq k2 k with
  | true =>
   rw[hb]at this
   simp only[cond_true,Option.some.injEq,Prod.mk.injEq]at this
   exact .inl ⟨Nat.eq_of_beq_eq_true hb,this.1.symm,this.2.symm⟩
  | false =>
   rw[hb]at this
   refine .inr ⟨λe=>?_,this⟩
   subst e
   simp at hb
 have hM:∀b,Mt M0 ρ (st.put k g o').ob b→Mt M0 ρ st.ob b∨w.heap.size≤b:=λb hm=>by
  rcases hm with hm|⟨k2,g2,o2,x2,h1,h2,h3⟩
  ·exact .inl (.inl hm)
  ·rcases hob' k2 g2 o2 h1 with⟨rfl,rfl,rfl⟩|⟨_,h1'⟩
   ·rw[hx]at h2;cases h2
    rcases hfp _ h3 with h4|h4
    ·exact .inl (.inr ⟨_,_,o,x,hob,hx,h4⟩)
    ·exact .inr h4
   ·exact .inl (.inr ⟨k2,g2,o2,x2,h1',h2,h3⟩)
 have hK:Known (Mt M0 ρ st.ob) (Mt M0 ρ (st.put k g o').ob) w w':=λb hb hm=>⟨λhm'=>by
  rcases hM b hm' with h1|h1
  ·exact hm h1
  ·omega,hold b hb λe=>hm (.inr ⟨k,g,o,x,hob,hx,e⟩)⟩
 have hlt:∀k2 g2 o2 x2 b,st.ob k2=some (g2,o2)→ρ k2 g2=some x2→fpO o2 x2 b→b<w.heap.size:=λk2 g2 o2 x2 b h1 h2 h3=>by
  obtain⟨y,h4,h5⟩:=h.obj k2 g2 o2 h1
  rw[h2]at h4;cases h4
  exact(h5.blk_lt h3).2
 exact{
  size:=h.size
  defers:=h.defers
  slot:=λi=>(h.slot i).mono hK
  obj:=λk2 g2 o2 hh=>by
   rcases hob' k2 g2 o2 hh with⟨rfl,rfl,rfl⟩|⟨hn,h1⟩
   ·exact⟨x,hx,hO _ hK⟩
   ·obtain⟨y,h2,h3⟩:=h.obj k2 g2 o2 h1
    exact⟨y,h2,h3.mono hK λb hb=>hold b (h3.blk_lt hb).2 λe=>hn (h.apart k2 g2 o2 k g o y x b h1 hob h2 hx hb e)⟩
  apart:=λk1 g1 o1 k2 g2 o2 x1 x2 b h1 h2 h3 h4 h5 h6=>by
   rcases hob' k1 g1 o1 h1 with⟨rfl,rfl,rfl⟩|⟨_,h1'⟩<;>rcases hob' k2 g2 o2 h2 with⟨rfl,rfl,rfl⟩|⟨_,h2'⟩
   ·rfl
   ·rw[hx]at h3;cases h3
    rcases hfp _ h5 with h7|h7
    ·exact h.apart _ _ _ _ _ _ x x2 b hob h2' hx h4 h7 h6
    ·have:=hlt _ _ _ _ b h2' h4 h6;omega
   ·rw[hx]at h4;cases h4
    rcases hfp _ h6 with h7|h7
    ·exact h.apart _ _ _ _ _ _ x1 x b h1' hob h3 hx h5 h7
    ·have:=hlt _ _ _ _ b h1' h3 h5;omega
   ·exact h.apart _ _ _ _ _ _ x1 x2 b h1' h2' h3 h4 h5 h6
  gens:=h.gens
  base:=h.base
  ext:=by
   have h1:=h.ext
   refine⟨hos.1.trans h1.os,hos.2.1.trans h1.tape,hos.2.2.trans h1.output,Nat.le_trans h1.size hsz,λb hb hl=>?_⟩
   rw[hold b (Nat.lt_of_lt_of_le hb h1.size) λe=>?_]
   ·exact h1.block b hb hl
   ·rcases(hO0.blk_lt e).1 with h7|h7
    ·omega
    ·exact hl h7
  pin:=h.pin}
def rowF:Value→Option Nat
 | .slice (some a) _ (_+1)=>some a.block
 | _=>none
structure RowAt (M:Nat→Prop) (w:World) (T:TypeId) (n:Nat) (v:Value) (rows:List (List AV)) (b off cap:Nat) (cur:Array Value) (vals:List (List Value)):Prop where
 v:v=.slice (some ⟨b,off,none⟩) rows.length (cap+1)
 hb:w.heap[b]?=some (.cells cur T (0,0))
 le:rows.length≤cap+1
 own:rows.length=cap+1∨(off=0∧cur.size=(cap+1)*n∧cap+1≤maxLen)
 fit:off+rows.length*n≤cur.size
 tk:(cur.toList.drop off).take (rows.length*n)=vals.flatten
 rows:Rows M w n vals rows
def RowX (M:Nat→Prop) (w:World) (T:TypeId) (n:Nat) (v:Value) (rows:List (List AV)):Prop :=
 (∃ad,v=.slice ad 0 0∧rows=[])∨∃b off cap cur vals,RowAt M w T n v rows b off cap cur vals
def rowX (T:TypeId) (n:Nat) (v:Value) (rows:List (List AV)):OP where
 F:=λc=>rowF v=some c
 I:=λM w _ _=>RowX M w T n v rows
 mono:=λ{M M' w w' ρ h} k hb hI=>by
  rcases hI with h1|⟨b,off,cap,cur,vals,h⟩
  ·exact .inl h1
  ·exact .inr ⟨b,off,cap,cur,vals,h.v,by rw[hb b (by rw[h.v];rfl)];exact h.hb,h.le,h.own,h.fit,h.tk,h.rows.mono k⟩
 rho:=λ_ h=>h
 lt:=λ{M w ρ h} hI c hc=>by
  rcases hI with⟨ad,rfl,_⟩|⟨b,off,cap,cur,vals,h⟩
  ·cases ad<;>cases hc
  ·rw[h.v]at hc
   obtain rfl:b=c:=Option.some.inj hc
   exact(Array.getElem?_eq_some_iff.1 h.hb).1
theorem RowX.form {M:Nat→Prop}{w:World}{T:TypeId}{n:Nat}{v:Value}{rows:List (List AV)}(h:RowX M w T n v rows):∃ad c,v=.slice ad rows.length c∧rows.length≤c:=by
 rcases h with⟨ad,rfl,rfl⟩|⟨b,off,cap,cur,vals,h⟩
 ·exact⟨ad,0,rfl,Nat.le_refl _⟩
 ·exact⟨_,_,h.v,h.le⟩
theorem RowX.vok {M:Nat→Prop}{w:World}{T:TypeId}{n:Nat}{v:Value}{rows:List (List AV)}(h:RowX M w T n v rows):A.vok v:=by
 rcases h with⟨ad,rfl,rfl⟩|⟨b,off,cap,cur,vals,h⟩
 ·cases ad with
  | none=>exact⟨rfl,rfl⟩
  | some a=>trivial
 ·rw[h.v];trivial
theorem RowX.of_own {M:Nat→Prop}{w:World}{B:Nat}{T:TypeId}{n:Nat}{v:Value}{rows:List (List AV)}{vals:List (List Value)}(h:w.ownsRow B T n v rows.length vals.flatten) (hr:Rows M w n vals rows):RowX M w T n v rows:=by
 rcases h.2 with⟨rfl,h0⟩|⟨g,cap,cur,rfl,_,hg,hnc,hcm,hsz,htk⟩
 ·exact .inl ⟨none,rfl,List.eq_nil_of_length_eq_zero h0⟩
 ·cases cap with
  | zero=>obtain rfl:rows=[]:=List.eq_nil_of_length_eq_zero (by omega);exact .inl ⟨_,rfl,rfl⟩
  | succ cap=>exact .inr ⟨g,0,cap,cur,vals,rfl,hg,hnc,.inr ⟨rfl,hsz,hcm⟩,by rw[hsz,Nat.zero_add];exact Nat.mul_le_mul_right _ hnc,by rw[List.drop_zero];exact htk,hr⟩
theorem RowAt.cell {M:Nat→Prop}{w:World}{T:TypeId}{n:Nat}{v:Value}{rows:List (List AV)}{b off cap:Nat}{cur:Array Value}{vals:List (List Value)}(h:RowAt M w T n v rows b off cap cur vals) {q:Nat}{u:Value}(hq:vals.flatten[q]?=some u):w.cell? ⟨b,off+q,none⟩=some u:=by
 rw[←h.tk,List.getElem?_take]at hq
 split at hq
 ·rw[List.getElem?_drop]at hq
  have:cur[off+q]?=some u:=by simpa using hq
  simp[World.cell?,h.hb,this]
 ·cases hq
theorem vals_len {M:Nat→Prop}{w:World}{n:Nat}{vals:List (List Value)}{rows:List (List AV)}(h:Rows M w n vals rows):(∀q∈vals,q.length=n)∧vals.flatten.length=rows.length*n:=by
 have h1:∀q∈vals,q.length=n:=λq hq=>by
  obtain⟨i,hi,rfl⟩:=List.getElem_of_mem hq
  have hi':i<rows.length:=by rw[←h.1];exact hi
  exact(h.2 i rows[i] _ (by simp[hi']) (by simp[hi])).2.1
 exact⟨h1,by rw[flatten_len h1,h.1]⟩
theorem vals_one {M:Nat→Prop}{w:World}{n:Nat}{vals:List (List Value)}{rows:List (List AV)}(h:Rows M w n vals rows):∀u∈vals.flatten,u.oneCell'=true:=λu hu=>by
 obtain⟨r,hr,hu⟩:=List.mem_flatten.1 hu
 obtain⟨i,hi,rfl⟩:=List.getElem_of_mem hr
 obtain⟨j,hj,rfl⟩:=List.getElem_of_mem hu
 have hi':i<rows.length:=by rw[←h.1];exact hi
 obtain⟨e1,e2,e3⟩:=h.2 i rows[i] vals[i] (by simp[hi']) (by simp[hi])
 exact(e3 j ((rows[i])[j]'(by omega)) _ (by simp) (by simp[hj])).2
theorem rows_take {M:Nat→Prop}{w:World}{n:Nat}{vals:List (List Value)}{rows:List (List AV)}(h:Rows M w n vals rows) (k:Nat):Rows M w n (vals.take k) (rows.take k):=⟨by simp[h.1],λi r v h1 h2=>by
 rw[List.getElem?_take]at h1 h2
 split at h1
 ·rename_i hk
  rw[if_pos hk]at h2
  exact h.2 i r v h1 h2
 ·cases h1⟩
theorem rows_drop {M:Nat→Prop}{w:World}{n:Nat}{vals:List (List Value)}{rows:List (List AV)}(h:Rows M w n vals rows) (k:Nat):Rows M w n (vals.drop k) (rows.drop k):=⟨by simp[h.1],λi r v h1 h2=>by
 rw[List.getElem?_drop]at h1 h2
 exact h.2 _ r v h1 h2⟩
section
variable {P:Program}
theorem append_nothing (w:World) (t ty e:TypeId) (n:Nat) (ht:P.underlying t=some (.slice e)) (hz:∀w,(sizeOf e).run P w=.ok n w) (b a:Option Addr) (k c c':Nat) (hkc:k≤c):(Builtin.append_ #[t,t] ty #[.slice b k c,.slice a 0 c']).run P w=.ok (.slice b k c) w:=by
 cases b<;>cases a<;>simp[Builtin.append_,run_underlying ht,hz,Builtin.lenOf,hkc,Builtin.firstCells,storeCells,loadCells,loadCellsFrom]
structure Grown (w w':World) (f f':Option Nat):Prop where
 os:w'.os=w.os∧w'.tape=w.tape∧w'.output=w.output
 size:w.heap.size≤w'.heap.size
 old:∀b,b<w.heap.size→f≠some b→w'.heap[b]?=w.heap[b]?
 blk:∀b,f'=some b→f=some b∨w.heap.size≤b
theorem rowF_own {w:World}{B:Nat}{T:TypeId}{n k:Nat}{v:Value}{xs:List Value}(h:w.ownsRow B T n v k xs) {b:Nat}(hb:rowF v=some b):B≤b∧v.ownBlock=some b:=by
 rcases h.2 with⟨rfl,h0⟩|⟨g,cap,cur,rfl,hg,_⟩
 ·cases hb
 ·cases cap with
  | zero=>cases hb
  | succ c=>obtain rfl:g=b:=Option.some.inj hb;exact⟨hg,rfl⟩
theorem grow_new {M:Nat→Prop}{w:World}{T:TypeId}{n bytes:Nat}{t ty:TypeId}(hT:R.ElemT P t T n bytes) (hn:1≤n) {vals us:List (List Value)}{rows news:List (List AV)}(hr:Rows M w n vals rows) (hur:Rows M w n us news) (b a:Addr) (c:Nat) (holds:∀q u,vals.flatten[q]?=some u→w.cell? (b.add q)=some u) (hnews:∀q u,us.flatten[q]?=some u→w.cell? (a.add q)=some u) (hpos:news≠[]) (hlen:rows.length+news.length≤4294967296) (hby:bytes≤32768) (f:Option Nat) :
  ∃v' w',(Builtin.append_ #[t,t] ty #[.slice (some b) rows.length rows.length,.slice (some a) news.length c]).run P w=.ok v' w'∧Grown w w' f (rowF v')∧(∀b,b<w.heap.size→w'.heap[b]?=w.heap[b]?)∧(∀b,rowF v'=some b→w.heap.size≤b)∧∀M',Known M M' w w'→RowX M' w' T n v' (rows++news):=by
 obtain⟨i,z,hi,hz,hsize,hbb,hzs⟩:=hT.hi
 have hp:0<news.length:=List.length_pos_iff.2 hpos
 obtain⟨v',w',h1,h2,h3⟩:=run_append_arg_grows (P:=P) w t ty T i z n bytes hT.ht hi hz hsize hbb hzs hn b rows.length rows.length vals.flatten (vals_len hr).2 holds a news.length c us.flatten (vals_len hur).2 hnews (by omega) (by unfold maxLen;omega) (Nat.le_trans (Nat.mul_le_mul hlen hby) (by decide))
 have hnb:∀b,rowF v'=some b→w.heap.size≤b:=λb hb=>(rowF_own h2 hb).1
 refine⟨v',w',h1,⟨⟨h3.os,h3.tape,h3.output⟩,h3.size,λb hb _=>h3.block b hb (by simp),λb hb=>.inr (hnb b hb)⟩,λb hb=>h3.block b hb (by simp),hnb,λM' hK=>?_⟩
 have h4:w'.ownsRow w.heap.size T n v' (rows++news).length (vals++us).flatten:=by rw[List.length_append,List.flatten_append];exact h2
 exact RowX.of_own h4 (rows_app (hr.mono hK) (hur.mono hK))
theorem RowX.append {M:Nat→Prop}{w:World}{T:TypeId}{n bytes:Nat}{t ty:TypeId}{v:Value}{rows:List (List AV)}(hT:R.ElemT P t T n bytes) (hn:1≤n) (hsz:∀w,(sizeOf T).run P w=.ok n w) (hX:RowX M w T n v rows) {us:List (List Value)}{news:List (List AV)}{ad:Option Addr}{c:Nat}(hur:Rows M w n us news) (hsrc:news≠[]→∃b,ad=some b∧∀q u,us.flatten[q]?=some u→w.cell? (b.add q)=some u) (hlen:rows.length+news.length≤4294967296) (hby:bytes≤32768) :
  ∃v' w',(Builtin.append_ #[t,t] ty #[v,.slice ad news.length c]).run P w=.ok v' w'∧Grown w w' (rowF v) (rowF v')∧∀M',Known M M' w w'→RowX M' w' T n v' (rows++news):=by
 by_cases h0:news=[]
 ·subst h0
  obtain⟨ad0,c0,hv,hc0⟩:=hX.form
  refine⟨v,w,by rw[hv];exact append_nothing w t ty T n hT.ht hsz _ _ _ _ _ hc0,⟨⟨rfl,rfl,rfl⟩,Nat.le_refl _,λ_ _ _=>rfl,λb hb=>.inl hb⟩,λM' hK=>?_⟩
  rw[List.append_nil]
  exact(rowX T n v rows).mono (ρ:=λ_ _=>none) (h:=undef) hK (λ_ _=>rfl) hX
 obtain⟨a,rfl,hcell⟩:=hsrc h0
 have old:∀{vals:List (List Value)},w.ownsRow 0 T n v rows.length vals.flatten→Rows M w n vals rows→(∀b,v.ownBlock=some b→rowF v=some b)→∃v' w',(Builtin.append_ #[t,t] ty #[v,.slice (some a) news.length c]).run P w=.ok v' w'∧Grown w w' (rowF v) (rowF v')∧∀M',Known M M' w w'→RowX M' w' T n v' (rows++news):=λ{vals} hown hr hrf=>by
  obtain⟨v',w',h1,h2,h3,h4⟩:=R.run_append (P:=P) w 0 t ty T n bytes hT hn v rows.length vals.flatten hown a news.length c us.flatten (vals_len hur).2 hcell (vals_one hur) (by unfold maxLen;omega) (Nat.le_trans (Nat.mul_le_mul hlen hby) (by decide)) (Nat.zero_le _)
  refine⟨v',w',h1,⟨⟨h3.os,h3.tape,h3.output⟩,h3.size,λb hb hne=>h3.block b hb λe=>hne (hrf b e.symm),λb hb=>?_⟩,λM' hK=>?_⟩
  ·have h5:=(rowF_own h2 hb).2
   rcases h4 with e|e
   ·exact .inl (hrf b (by rw[←e,h5]))
   ·rw[h5]at e;exact .inr (by rw[Option.some.inj e];exact Nat.le_refl _)
  ·have h6:w'.ownsRow 0 T n v' (rows++news).length (vals++us).flatten:=by rw[List.length_append,List.flatten_append];exact h2
   exact RowX.of_own h6 (rows_app (hr.mono hK) (hur.mono hK))
 rcases hX with⟨ad0,rfl,rfl⟩|⟨b,off,cap,cur,vals,hA⟩
 ·cases ad0 with
  | none=>exact old (vals:=[]) ⟨by simp,.inl ⟨rfl,rfl⟩⟩ ⟨rfl,λi r v h=>by simp at h⟩ (λb hb=>by cases hb)
  | some b0 =>
   obtain⟨v',w',h1,h2,_,_,h3⟩:=grow_new (P:=P) (ty:=ty) hT hn (vals:=[]) (rows:=[]) ⟨rfl,λi r v h=>by simp at h⟩ hur b0 a c (λq u h=>by simp at h) hcell h0 hlen hby (rowF (.slice (some b0) 0 0))
   exact⟨v',w',h1,h2,h3⟩
 ·rcases hA.own with hl|⟨rfl,hs,hcm⟩
  ·obtain⟨v',w',h1,h2,_,_,h3⟩:=grow_new (P:=P) (ty:=ty) hT hn hA.rows hur ⟨b,off,none⟩ a c (λq u h=>by rw[add_addr];exact hA.cell h) hcell h0 hlen hby (rowF v)
   refine⟨v',w',?_,h2,h3⟩
   rw[hA.v,←hl];exact h1
  ·refine old (vals:=vals) ⟨(vals_len hA.rows).2,.inr ⟨b,cap+1,cur,hA.v,Nat.zero_le _,hA.hb,hA.le,hcm,hs,by rw[←hA.tk,List.drop_zero]⟩⟩ hA.rows λc' hc'=>?_
   rw[hA.v]at hc' ⊢
   exact hc'
end
section
variable {P:Program}{N:Nat}{M0:Nat→Prop}{w0:Base}{ops:Array Oper}{Q:Exit→ASt→Prop}{o:Oper}{l:List Oper}{st:ASt}
theorem Al_appendX {d k g:Nat}{s x:Operand}{t T:TypeId}{n bytes:Nat}{rows news:List (List AV)}{v:Value}(ho:o.op=.call ⟨.builtin .append,#[s,x],#[t,t]⟩) (hg:o.guard=none) (hd:o.dst=some d) (hN:d<N) (hc:conB o=true) (hT:R.ElemT P t T n bytes) (hn:1≤n) (hsz:∀w,(sizeOf T).run P w=.ok n w)
  (hs:st.ev s=.d (.v v)) (hob:st.ob k=some (g,.op (rowX T n v rows))) (hx:st.ev x=.d (.sl n news)) (hlen:rows.length+news.length≤4294967296) (hby:bytes≤32768)
  (h:∀v',Al P N M0 w0 ops Q l ((st.put k g (.op (rowX T n v' (rows++news)))).set d (.d (.v v')))):Al P N M0 w0 ops Q (o::l) st:=by
 refine⟨?_⟩
 rintro a w ⟨ρ,hsim⟩
 have hev:=hsim.ev hc
 have h1:=hev s (mem_call ho s (by simp))
 have h2:=hev x (mem_call ho x (by simp))
 rw[hs]at h1
 rw[hx]at h2
 obtain⟨e1,_⟩:=rep_v h1
 obtain⟨y,hy,hF,hX⟩:=hsim.obj k g _ hob
 obtain⟨us,ad,c,e2,_,_,hur,hsrc,_⟩:=rep_cells hn h2
 obtain⟨v',w',hrun,hG,hX'⟩:=RowX.append (P:=P) (ty:=o.type) hT hn hsz hX (ad:=ad) (c:=c) hur hsrc hlen hby
 have hs2:=hsim.mod2 (w':=w') hob hy hG.os hG.size (λb hb hne=>hG.old b hb hne) (o':=.op (rowX T n v' (rows++news))) (λM' hK=>⟨λb hb=>by
  rcases hG.blk b hb with h3|h3
  ·exact hF b h3
  ·exact .inl (Nat.le_trans hsim.ext.size h3),hX' M' hK⟩) (λb hb=>hG.blk b hb)
 refine wpList_plain hg λK hK=>wp_upon ?_
 have e:(execOp a.eval o).run P w=.ok (.value v') w':=by
  simp only[execOp,ho,resolve,invoke,builtin,Sem.run_bind,Sem.run_pure,Result.andThen_ok,List.map_toArray,List.map_cons,List.map_nil,e1,e2,hrun]
 rw[e]
 refine hK _ _ ((h v').out _ _ ⟨ρ,?_⟩)
 rw[hd]
 obtain⟨_,_,_,hX2⟩:=hs2.obj k g (.op (rowX T n v' (rows++news))) (by simp[ASt.put])
 exact hs2.set hN (.v _ hX2.vok)
end
end Go.Proofs.YtdnijgdmohinlaaGreat.A
end
section
namespace Go.Proofs.YtdnijgdmohinlaaGreat.A
open Go Go.RowKit
section
variable {P:Program}{N:Nat}{M0:Nat→Prop}{w0:Base}{ops:Array Oper}{Q:Exit→ASt→Prop}{o:Oper}{l:List Oper}{st:ASt}
theorem obeqX {g n:Nat}{T:TypeId}{v:Value}{a b:List (List AV)}(h:a=b):some (g,AO.op (rowX T n v a))=some (g,AO.op (rowX T n v b)):=h▸rfl
theorem row_in {B:Base}{M:Nat→Prop}{w:World}{ρ:Rho}{T:TypeId}{n k g:Nat}{v:Value}{rows:List (List AV)}(h3:∀k g ob,st.ob k=some (g,ob)→∃h,ρ k g=some h∧ORep B M w ρ h ob) (hob:st.ob k=some (g,.op (rowX T n v rows))):RowX M w T n v rows:=by
 obtain⟨_,_,_,h⟩:=h3 k g _ hob
 exact h
theorem Pu_lenX {x:Operand}{t e T:TypeId}{n k g:Nat}{v:Value}{rows:List (List AV)}(ho:o.op=.call ⟨.builtin .len,#[x],#[t]⟩) (ht:P.underlying t=some (.slice e)) (hx:st.ev x=.d (.v v)) (hob:st.ob k=some (g,.op (rowX T n v rows))) (hl:rows.length≤maxI):Pu P st o (.d (.v (.int .i64 rows.length))):=Pu_q λB M ρ w a h2 h3=>by
 obtain⟨e1,_⟩:=ev_v h2 (mem_call ho x (by simp)) hx
 obtain⟨ad,c,hv,_⟩:=(row_in h3 hob).form
 refine⟨.int .i64 rows.length,?_,.v _ ?_⟩
 ·rw[hv]at e1
  simp[execOp,ho,resolve,invoke,builtin,Builtin.len_,e1,run_underlying ht,Sem.run,goInt]
 ·unfold maxI at hl;simp[vok,inI];omega
def elP (v:Value) (k:Nat):Value:=match v with
 | .slice (some a) _ _=>.pointer (some (a.add k))
 | _=>undef
theorem elP_at {v:Value}{b off len c k:Nat}(h:v=.slice (some ⟨b,off,none⟩) len c):elP v k=.pointer (some ⟨b,off+k,none⟩):=by
 subst h
 simp[elP,add_addr]
theorem Pu_indexX {t e T:TypeId}{x i:Operand}{n k g j:Nat}{z:Int}{v:Value}{rows:List (List AV)}(ho:o.op=.indexAddr t x i) (ht:P.underlying t=some (.slice e)) (hz:∀w,(sizeOf e).run P w=.ok n w) (hx:st.ev x=.d (.v v)) (hi:st.ev i=.d (.v (.int .i64 z))) (hob:st.ob k=some (g,.op (rowX T n v rows))) (hk:z=j) (hj:j<rows.length):Pu P st o (.d (.v (elP v (j*n)))):=Pu_q λB M ρ w a h2 h3=>by
 have m:x∈opsOf o∧i∈opsOf o:=by simp[opsOf,ho,Op.operands]
 obtain⟨e1,_⟩:=ev_v h2 m.1 hx
 obtain⟨e2,_⟩:=ev_v h2 m.2 hi
 subst hk
 rcases row_in h3 hob with⟨ad,_,h0⟩|⟨b,off,cap,cur,vals,hA⟩
 ·rw[h0]at hj;simp at hj
 ·refine⟨elP v (j*n),?_,.v _ (by rw[elP_at hA.v];trivial)⟩
  rw[elP_at hA.v]
  rw[hA.v]at e1
  simp only[execOp,ho,e1,e2,Instr.indexAt,Instr.sureAddr,Sem.run_bind,asIntOf,Sem.run_pure,Result.andThen_ok,run_underlying ht]
  rw[if_pos ⟨by omega,by omega⟩]
  simp only[Sem.run_bind,hz,Result.andThen_ok,Int.toNat_natCast,add_addr,Sem.run_pure]
theorem RowX.addr {M:Nat→Prop}{w:World}{T:TypeId}{n:Nat}{v:Value}{rows:List (List AV)}(h:RowX M w T n v rows) (h0:rows≠[]):∃b off len c,v=.slice (some ⟨b,off,none⟩) len c:=by
 rcases h with⟨_,_,h1⟩|⟨b,off,cap,cur,vals,h⟩
 ·exact(h0 h1).elim
 ·exact⟨b,off,_,_,h.v⟩
theorem Pu_fieldX {t T:TypeId}{x:Operand}{i:Nat}{fs:Array Field}{fd:Field}{n m q k g:Nat}{v:Value}{rows:List (List AV)}(fo:Nat) (ho:o.op=.fieldAddr t x i) (ht:P.underlying t=some (.struct fs)) (hf:fs[i]?=some fd) (hoff:fd.offset=fo) (hz:∀w,(sizeOf fd.type).run P w=.ok (m+1) w) (hx:st.ev x=.d (.v (elP v q))) (hob:st.ob k=some (g,.op (rowX T n v rows))) (h0:rows≠[]):Pu P st o (.d (.v (elP v (q+fo)))):=Pu_q λB M ρ w a h2 h3=>by
 subst hoff
 obtain⟨e1,_⟩:=ev_v h2 (by simp[opsOf,ho,Op.operands]) hx
 obtain⟨b,off,len,c,hv⟩:=(row_in h3 hob).addr h0
 rw[elP_at hv]at e1
 refine⟨elP v (q+fd.offset),?_,.v _ (by rw[elP_at hv];trivial)⟩
 rw[elP_at hv]
 simp only[execOp,ho,e1,Instr.fieldAt,Sem.run_bind,run_underlying ht,Result.andThen_ok,hf,Instr.sureAddr,Sem.run_pure,fieldPlace,hz]
 rw[if_neg (by omega)]
 simp[add_addr,Sem.run,Nat.add_assoc]
theorem Pu_loadX1 {t T:TypeId}{x:Operand}{k g q n:Nat}{v:Value}{rows:List (List AV)}{c:AV}(ho:o.op=.load t x) (ht:∀w,(isAgg t).run P w=.ok false w) (hx:st.ev x=.d (.v (elP v q))) (hob:st.ob k=some (g,.op (rowX T n v rows))) (hs:rows.flatten[q]?=some c):Pu P st o (.d c):=Pu_q λB M ρ w a h2 h3=>by
 obtain⟨e1,_⟩:=ev_v h2 (by simp[opsOf,ho,Op.operands]) hx
 rcases row_in h3 hob with⟨ad,_,h0⟩|⟨b,off,cap,cur,vals,hA⟩
 ·rw[h0]at hs;simp at hs
 ·obtain⟨u,h8,h9,h10⟩:=rows_flat hA.rows hs
  rw[elP_at hA.v]at e1
  refine⟨u,?_,h9⟩
  simp[execOp,ho,e1,Instr.loadAt,Instr.sureAddr,loadVar,ht,load,Sem.run,hA.cell h8,Sem.run_bind]
theorem Pu_loadXN {t T:TypeId}{x:Operand}{k g q n m:Nat}{v:Value}{rows:List (List AV)}{r:List AV}(ho:o.op=.load t x) (ht:∀w,(isAgg t).run P w=.ok true w) (hz:∀w,(sizeOf t).run P w=.ok m w) (hx:st.ev x=.d (.v (elP v q))) (hob:st.ob k=some (g,.op (rowX T n v rows))) (hs:(rows.flatten.drop q).take m=r) (hm:r.length=m) (hpos:0<m):Pu P st o (.d (.row r)):=Pu_q λB M ρ w a h2 h3=>by
 obtain⟨e1,_⟩:=ev_v h2 (by simp[opsOf,ho,Op.operands]) hx
 rcases row_in h3 hob with⟨ad,_,h0⟩|⟨b,off,cap,cur,vals,hA⟩
 ·rw[h0]at hs;simp at hs;subst hs;simp at hm;omega
 ·rw[elP_at hA.v]at e1
  have hcell:∀j,j<m→∃c u,r[j]?=some c∧vals.flatten[q+j]?=some u∧Rep M w c u∧u.oneCell'=true:=λj hj=>by
   have h12:r[j]?=some (r[j]'(by omega)):=by simp[hm,hj]
   have h13:rows.flatten[q+j]?=r[j]?:=by rw[←hs,List.getElem?_take,if_pos hj,List.getElem?_drop]
   rw[h12]at h13
   obtain⟨u,h8,h9,h10⟩:=rows_flat hA.rows h13
   exact⟨_,u,h12,h8,h9,h10⟩
  have gd:∀j u,vals.flatten[j]?=some u→vals.flatten.getD j undef=u:=λj u hv=>by simp[List.getD_eq_getElem?_getD,hv]
  have h1:=run_cells (P:=P) (w:=w) (b:=b) m (off+q) 0 (λj=>vals.flatten.getD (q+j) undef) #[] (λj hj=>by
   obtain⟨c,u,_,hv,_⟩:=hcell j hj
   rw[Nat.zero_add,gd _ _ hv,Nat.add_assoc]
   exact hA.cell hv)
  refine⟨.agg ((List.range m).map λj=>vals.flatten.getD (q+j) undef).toArray,?_,.row _ _ (by simp[hm]) (λx hx=>?_) (λj c x h12 h13=>?_)⟩
  ·simp only[execOp,ho,e1,Instr.loadAt,Instr.sureAddr,loadVar,Sem.run_bind,Sem.run_pure,Result.andThen_ok,ht,hz,loadCells,if_true,h1]
   simp
  ·simp only[List.mem_map,List.mem_range]at hx
   obtain⟨j,hj,rfl⟩:=hx
   obtain⟨c,u,_,hv,_,h10⟩:=hcell j hj
   rw[gd _ _ hv];exact h10
  ·have hj:j<m:=by rw[←hm];exact(List.getElem?_eq_some_iff.1 h12).1
   obtain⟨c',u,hc',hv,h9,_⟩:=hcell j hj
   rw[h12]at hc';cases hc'
   rw[List.getElem?_map,List.getElem?_range hj]at h13
   simp only[Option.map_some,Option.some.injEq]at h13
   rw[gd _ _ hv]at h13
   subst h13
   exact h9
def cut3 (v:Value) (h:Nat):Value:=match v with
 | .slice ad _ _=>.slice ad h h
 | x=>x
def cutLo (v:Value) (lo n:Nat):Value:=match v with
 | .slice ad len c=>.slice (if c=lo then ad else ad.map (·.add (lo*n))) (len - lo) (c - lo)
 | x=>x
def cutX (v:Value) (lo n:Nat):Value:=match v with
 | .slice ad len _=>.slice (if len=lo then ad else ad.map (·.add (lo*n))) (len - lo) (len - lo)
 | x=>x
theorem Pu_cut3 {t e T:TypeId}{x hi mx:Operand}{lo:Option Operand}{n k g:Nat}{v:Value}{rows:List (List AV)}(h:Nat) (ho:o.op=.slice t x lo (some hi) (some mx)) (ht:P.underlying t=some (.slice e)) (hz:∀w,(sizeOf e).run P w=.ok n w) (hx:st.ev x=.d (.v v)) (hob:st.ob k=some (g,.op (rowX T n v rows))) (hlo:bndA st lo 0 0) (hhi:∃z:Int,st.ev hi=.d (.v (.int .i64 z))∧z=h) (hmx:∃z:Int,st.ev mx=.d (.v (.int .i64 z))∧z=h) (hle:h≤rows.length):Pu P st o (.d (.v (cut3 v h))):=Pu_q λB M ρ w a h2 h3=>by
 obtain⟨e1,_⟩:=ev_v h2 (by simp[opsOf,ho,Op.operands]) hx
 have hX:=row_in h3 hob
 obtain⟨ad,c,hv,hc⟩:=hX.form
 obtain⟨z1,k1,k2⟩:=hhi
 obtain⟨z2,k3,k4⟩:=hmx
 have b1:=λc=>bnd_run (P:=P) (w:=w) (c:=c) (y:=h) (h2 hi (by simp[opsOf,ho,Op.operands])) k1 k2 (Nat.le_refl h)
 have b2:=λc'=>bnd_run (P:=P) (w:=w) (c:=c') (y:=c) (h2 mx (by simp[opsOf,ho,Op.operands])) k3 k4 (by omega:h≤c)
 have hvk:vok (.slice ad h h):=by
  have:=hX.vok
  rw[hv]at this
  cases ad with
  | none=>obtain⟨h5,_⟩:=this;exact⟨by omega,by omega⟩
  | some a=>trivial
 refine⟨.slice ad h h,?_,?_⟩
 ·rw[hv]at e1
  cases lo with
  | none=>cases ad<;>simp[execOp,ho,e1,Instr.sliceAt,Sem.run_bind,run_underlying ht,Result.andThen_ok,Instr.slice,Instr.sliceBounds,b1,b2,hz,Sem.run_pure,Addr.add]
  | some lo =>
   obtain⟨z3,k5,k6⟩:=hlo
   have b3:=λc=>bnd_run (P:=P) (w:=w) (c:=c) (y:=h) (h2 lo (by simp[opsOf,ho,Op.operands])) k5 k6 (Nat.zero_le h)
   cases ad<;>simp[execOp,ho,e1,Instr.sliceAt,Sem.run_bind,run_underlying ht,Result.andThen_ok,Instr.slice,Instr.sliceBounds,b1,b2,b3,hz,Sem.run_pure,Addr.add]
 ·rw[hv];exact .v _ hvk
theorem Pu_cutLo {t e T:TypeId}{x lo:Operand}{n k g:Nat}{v:Value}{rows:List (List AV)}(h:Nat) (ho:o.op=.slice t x (some lo) none none) (ht:P.underlying t=some (.slice e)) (hz:∀w,(sizeOf e).run P w=.ok n w) (hx:st.ev x=.d (.v v)) (hob:st.ob k=some (g,.op (rowX T n v rows))) (hlo:∃z:Int,st.ev lo=.d (.v (.int .i64 z))∧z=h) (hle:h≤rows.length):Pu P st o (.d (.v (cutLo v h n))):=Pu_q λB M ρ w a h2 h3=>by
 obtain⟨e1,_⟩:=ev_v h2 (by simp[opsOf,ho,Op.operands]) hx
 have hX:=row_in h3 hob
 obtain⟨ad,c,hv,hc⟩:=hX.form
 have hrun:=slice_run (P:=P) (w:=w) (M:=M) (ρ:=ρ) (lw:=h) (h:=rows.length) (len:=rows.length) (cap:=c) ho ht hz h2 (by rw[e1];exact hv) hlo (show bndA st none rows.length rows.length from rfl) ⟨hle,hc⟩
 refine⟨cutLo v h n,?_,.v _ ?_⟩
 ·rw[hrun,hv];rfl
 ·have:=hX.vok
  rw[hv]at this ⊢
  cases ad with
  | none=>obtain⟨h5,h6⟩:=this;subst h6;show vok (.slice _ _ _);rw[show h=0 from by omega];exact⟨by omega,rfl⟩
  | some a=>show vok (.slice _ _ _);split<;>trivial
theorem Pu_cutX {t e T:TypeId}{x lo hi mx:Operand}{n k g:Nat}{v:Value}{rows:List (List AV)}(h:Nat) (ho:o.op=.slice t x (some lo) (some hi) (some mx)) (ht:P.underlying t=some (.slice e)) (hz:∀w,(sizeOf e).run P w=.ok n w) (hx:st.ev x=.d (.v v)) (hob:st.ob k=some (g,.op (rowX T n v rows))) (hlo:∃z:Int,st.ev lo=.d (.v (.int .i64 z))∧z=h) (hhi:∃z:Int,st.ev hi=.d (.v (.int .i64 z))∧z=rows.length) (hmx:∃z:Int,st.ev mx=.d (.v (.int .i64 z))∧z=rows.length) (hle:h≤rows.length):Pu P st o (.d (.v (cutX v h n))):=Pu_q λB M ρ w a h2 h3=>by
 obtain⟨e1,_⟩:=ev_v h2 (by simp[opsOf,ho,Op.operands]) hx
 have hX:=row_in h3 hob
 obtain⟨ad,c,hv,hc⟩:=hX.form
 obtain⟨z1,k1,k2⟩:=hhi
 obtain⟨z2,k3,k4⟩:=hmx
 obtain⟨z3,k5,k6⟩:=hlo
 have b1:=λc=>bnd_run (P:=P) (w:=w) (c:=c) (y:=rows.length) (h2 hi (by simp[opsOf,ho,Op.operands])) k1 k2 (Nat.le_refl _)
 have b2:=λc'=>bnd_run (P:=P) (w:=w) (c:=c') (y:=c) (h2 mx (by simp[opsOf,ho,Op.operands])) k3 k4 hc
 have b3:=λc=>bnd_run (P:=P) (w:=w) (c:=c) (y:=rows.length) (h2 lo (by simp[opsOf,ho,Op.operands])) k5 k6 hle
 refine⟨cutX v h n,?_,.v _ ?_⟩
 ·rw[hv]at e1 ⊢
  simp[cutX,execOp,ho,e1,Instr.sliceAt,Sem.run_bind,run_underlying ht,Result.andThen_ok,Instr.slice,Instr.sliceBounds,b1,b2,b3,hz,Sem.run_pure]
 ·have:=hX.vok
  rw[hv]at this ⊢
  cases ad with
  | none=>obtain⟨h5,h6⟩:=this;show vok (.slice _ _ _);rw[show h=0 from by omega,h5];exact⟨rfl,rfl⟩
  | some a=>show vok (.slice _ _ _);split<;>trivial
theorem RowX.cutX {M:Nat→Prop}{w:World}{T:TypeId}{n:Nat}{v:Value}{rows:List (List AV)}(hX:RowX M w T n v rows) {h:Nat}(hle:h≤rows.length):RowX M w T n (A.cutX v h n) (rows.drop h)∧∀b,rowF (A.cutX v h n)=some b→rowF v=some b:=by
 rcases hX with⟨ad,rfl,rfl⟩|⟨b,off,cap,cur,vals,hA⟩
 ·obtain rfl:h=0:=by simpa using hle
  exact⟨.inl ⟨ad,by simp[A.cutX],by simp⟩,λb hb=>by cases ad<;>simp[A.cutX,rowF]at hb⟩
 ·have hv:=hA.v
  by_cases he:rows.length=h
  ·subst he
   rw[hv]
   exact⟨.inl ⟨some ⟨b,off,none⟩,by simp[A.cutX],by simp⟩,λb hb=>by simp[A.cutX,rowF]at hb⟩
  ·obtain⟨k,hk⟩:∃k,rows.length - h=k+1:=⟨rows.length - h - 1,by omega⟩
   have hcv:A.cutX v h n=.slice (some ⟨b,off+h*n,none⟩) (k+1) (k+1):=by
    rw[hv];simp[A.cutX,he,hk,add_addr]
   rw[hcv]
   have hl:(rows.drop h).length=k+1:=by simp[hk]
   have hm:rows.length*n=h*n+(k+1)*n:=by rw[←Nat.add_mul];congr 1;omega
   refine⟨.inr ⟨b,off+h*n,k,cur,vals.drop h,by rw[hl],hA.hb,by omega,.inl hl,by rw[hl];have:=hA.fit;omega,?_,rows_drop hA.rows h⟩,λb' hb'=>by rw[hv];exact hb'⟩
   rw[hl,←List.drop_drop]
   have h5:(vals.drop h).flatten=vals.flatten.drop (h*n):=by
    have h6:(vals.take h).flatten.length=h*n:=by rw[flatten_len (λq hq=>(vals_len hA.rows).1 q (List.mem_of_mem_take hq)),List.length_take,hA.rows.1,Nat.min_eq_left hle]
    have h7:vals.flatten=(vals.take h).flatten++(vals.drop h).flatten:=by rw[←List.flatten_append,List.take_append_drop]
    rw[h7,←h6,List.drop_left]
   rw[h5,←hA.tk,List.drop_take,hm,Nat.add_sub_cancel_left]
theorem le_cutX {k g n h:Nat}{T:TypeId}{v:Value}{rows:List (List AV)}(hob:st.ob k=some (g,.op (rowX T n v rows))) (hle:h≤rows.length):Le N M0 w0 st (st.put k g (.op (rowX T n (cutX v h n) (rows.drop h)))):=λa w ⟨ρ,hs⟩=>by
 obtain⟨y,hy,hF,hX⟩:=hs.obj k g _ hob
 have h1:=RowX.cutX hX hle
 refine⟨ρ,hs.mod2 (w':=w) hob hy ⟨rfl,rfl,rfl⟩ (Nat.le_refl _) (λ_ _ _=>rfl) (λM' hK=>⟨λb hb=>hF b (h1.2 b hb),?_⟩) (λb hb=>.inl (h1.2 b hb))⟩
 exact(rowX T n (cutX v h n) (rows.drop h)).mono (ρ:=ρ) (h:=y) hK (λ_ _=>rfl) h1.1
theorem Pu_slice0 {t e:TypeId}{n:Nat}(ho:o.op=.buildSlice t 0 #[]) (ht:P.underlying t=some (.slice e)) (hz:∀w,(sizeOf e).run P w=.ok n w):Pu P st o (.slc n []):=Pu_of λB M ρ w a hM h2 h3=>by
 refine⟨.slice (some ⟨w.heap.size,0,none⟩) 0 0,w.alloc (.cells #[] e),?_,(Below.refl _ _).alloc (Nat.le_refl _) _,.nil _ _ _,_,0,rfl⟩
 simp[execOp,ho,Instr.buildSlice,Sem.run_bind,run_underlying ht,Result.andThen_ok,hz,Instr.fill,newRow,newObj,Sem.run]
 rw[show Array.map (λ_=>(default:Value)) (Array.range 0)=#[]from Array.eq_empty_of_size_eq_zero (by simp)]
theorem Al_eqnilX {d:Nat}{t yt e:TypeId}{x:Operand}{T:TypeId}{n k g:Nat}{v:Value}{rows:List (List AV)}(ho:o.op=.binOp .eql t x (.const (.slice none 0 0)) yt) (hg:o.guard=none) (hd:o.dst=some d) (hN:d<N) (hc:conB o=true) (ht:P.underlying t=some (.slice e)) (hx:st.ev x=.d (.v v)) (hob:st.ob k=some (g,.op (rowX T n v rows)))
  (hr:∀b:Bool,(b=true→rows=[])→Al P N M0 w0 ops Q l (st.set d (.d (.v (.bool b))))):Al P N M0 w0 ops Q (o::l) st:=by
 refine⟨?_⟩
 rintro a w ⟨ρ,hsim⟩
 have h1:=hsim.ev hc x (by simp[opsOf,ho,Op.operands])
 rw[hx]at h1
 obtain⟨e1,_⟩:=rep_v h1
 obtain⟨_,_,_,hX⟩:=hsim.obj k g _ hob
 obtain⟨ad,len,cap,hv,hn⟩:∃ad len cap,v=.slice ad len cap∧(ad=none→rows=[]):=by
  rcases hX with⟨ad,rfl,rfl⟩|⟨b,off,cap,cur,vals,hA⟩
  ·exact⟨ad,0,0,rfl,λ_=>rfl⟩
  ·exact⟨_,_,_,hA.v,λh=>by cases h⟩
 rw[hv]at e1
 refine wpList_plain hg λK hK=>wp_upon ?_
 have e:(execOp a.eval o).run P w=.ok (.value (.bool ad.isNone)) w:=by
  simp only[execOp,ho,e1,Sem.run_bind,Sem.run_pure,Result.andThen_ok]
  have hq:(eqGuard .eql t x (.const (.slice none 0 0)) (.slice ad len cap) (a.eval (.const (.slice none 0 0)))).run P w=.ok () w:=by
   simp[eqGuard,Act.eval]
  have h2:=Lib.run_eql_slice_nil (P:=P) w t e ad len cap 0 0 ht
  first|(rw[hq];simp only[Result.andThen_ok];exact(by simp[Act.eval,h2]))|simp[Act.eval,h2]
 rw[e]
 refine hK _ _ ((hr ad.isNone (λh=>hn (by simpa using h))).out _ _ ⟨ρ,?_⟩)
 rw[hd]
 exact hsim.set hN (.v _ trivial)
theorem Pu_eqnilV {t yt:TypeId}{x:Operand}{e:TypeId}{ad:Option Addr}{v:Value}(hv:v=.pointer ad) (ht:P.underlying t=some (.pointer e)) (ho:o.op=.binOp .eql t x (.const (.pointer none)) yt) (hx:st.ev x=.d (.v v)):Pu P st o (.d (.v (.bool ad.isNone))):=Pu_q λB M ρ w a h2 h3=>by
 subst hv
 obtain⟨h4,_⟩:=ev_v h2 (by simp[opsOf,ho,Op.operands]) hx
 refine⟨.bool ad.isNone,?_,.v _ trivial⟩
 have hc:a.eval (.const (.pointer none))=.pointer none:=rfl
 have hp:P.underlying t=some (.pointer (P.pointee t)):=by rw[ht];simp[Program.pointee,ht]
 have key:(do eqGuard .eql t x (.const (.pointer none)) (.pointer ad) (.pointer none);binOp .eql t (.pointer ad) (.pointer none):Sem Value).run P w=.ok (.bool ad.isNone) w:=by cases ad<;>simp[go_sem,eqGuard,run_eql_pointer_nil w t _ hp,run_neq_pointer_nil w t _ hp]
 simp only[execOp,ho,h4,hc,Sem.run_bind,Sem.run_pure]at key ⊢
 rw[key];rfl
theorem Pu_cloneX {s x:Operand}{t T:TypeId}{n bytes k g:Nat}{v:Value}{rows:List (List AV)}(ho:o.op=.call ⟨.builtin .append,#[s,x],#[t,t]⟩) (hT:R.ElemT P t T n bytes) (hn:1≤n) (hsz:∀w,(sizeOf T).run P w=.ok n w) (hs:st.ev s=.slc n []) (hx:st.ev x=.d (.v v)) (hob:st.ob k=some (g,.op (rowX T n v rows))) (hlen:rows.length≤4294967296) (hby:bytes≤32768):Pu P st o (.d (.sl n rows)):=Pu_of λB M ρ w a hM h2 h3=>by
 have h1:=h2 s (mem_call ho s (by simp))
 rw[hs]at h1
 obtain⟨e2,_⟩:=ev_v h2 (mem_call ho x (by simp)) hx
 obtain⟨bs,e1⟩:∃bs,a.eval s=.slice bs 0 0:=by
  obtain⟨h4,a',len,h5⟩:=h1
  generalize a.eval s=y at h4 h5
  cases h4 with
  | nil n a c=>cases h5;exact⟨_,rfl⟩
  | sl n rows b o' cap f hl hcap=>cases h5;exact⟨_,rfl⟩
 have hrun:∀v' w',(Builtin.append_ #[t,t] o.type #[.slice bs 0 0,v]).run P w=.ok v' w'→(execOp a.eval o).run P w=.ok (.value v') w':=λv' w' h=>by
  simp only[execOp,ho,resolve,invoke,builtin,Sem.run_bind,Sem.run_pure,Result.andThen_ok,List.map_toArray,List.map_cons,List.map_nil,e1,e2,h]
 have hX0:Rows M w n [] []:=⟨rfl,λi r v h=>by simp at h⟩
 rcases row_in h3 hob with⟨ad,rfl,rfl⟩|⟨b,off,cap,cur,vals,hA⟩
 ·refine⟨_,w,hrun _ _ (append_nothing w t o.type T n hT.ht hsz _ _ 0 0 _ (Nat.le_refl _)),Ev.Ext.refl _,.nil _ _ _⟩
 ·by_cases h0:rows=[]
  ·subst h0
   refine⟨.slice bs 0 0,w,hrun _ _ ?_,Ev.Ext.refl _,.nil _ _ _⟩
   rw[hA.v]
   exact append_nothing w t o.type T n hT.ht hsz _ _ 0 0 _ (Nat.le_refl _)
  ·obtain⟨v',w',q1,q2,q3,q4,q5⟩:∃v' w',(Builtin.append_ #[t,t] o.type #[.slice bs 0 0,v]).run P w=.ok v' w'∧Grown w w' none (rowF v')∧(∀b,b<w.heap.size→w'.heap[b]?=w.heap[b]?)∧(∀b,rowF v'=some b→w.heap.size≤b)∧∀M',Known M M' w w'→RowX M' w' T n v' rows:=by
    cases bs with
    | some bs =>
     obtain⟨v',w',q1,q2⟩:=grow_new (P:=P) (ty:=o.type) hT hn hX0 hA.rows bs ⟨b,off,none⟩ (cap+1) (λq u h=>by simp at h) (λq u h=>by rw[add_addr];exact hA.cell h) h0 (by simpa using hlen) hby none
     exact⟨v',w',by rw[hA.v];exact q1,q2⟩
    | none =>
     have hX1:RowX M w T n (.slice none 0 0) []:=.inl ⟨none,rfl,rfl⟩
     obtain⟨v',w',q1,q2,q3⟩:=RowX.append (P:=P) (ty:=o.type) hT hn hsz hX1 (ad:=some ⟨b,off,none⟩) (c:=cap+1) hA.rows (λ_=>⟨_,rfl,λq u h=>by rw[add_addr];exact hA.cell h⟩) (by simpa using hlen) hby
     exact⟨v',w',by rw[hA.v];exact q1,q2,λb hb=>q2.old b hb (by simp[rowF]),λb hb=>(q2.blk b hb).resolve_left (by simp[rowF]),q3⟩
   have hE:Ev.Ext w w':=⟨q2.os.1,q2.os.2.1,q2.os.2.2,q2.size,q3⟩
   refine⟨v',w',hrun _ _ q1,hE,?_⟩
   have h6:=q5 M (Known.ext hE)
   rcases h6 with⟨ad,_,h7⟩|⟨b',off',cap',cur',vals',hA'⟩
   ·exact(h0 h7).elim
   ·have hb':¬M b':=λhm=>by
     have h8:=hM b' hm
     have h9:=q4 b' (by rw[hA'.v];rfl)
     omega
    have hvl:=vals_len hA'.rows
    have hfl:∀(i:Nat) (r:List AV) (j:Nat) (c:AV),rows[i]?=some r→r[j]?=some c→∃u,vals'.flatten[i*n+j]?=some u∧u=vals'.flatten.getD (i*n+j) undef∧Rep M w' c u∧u.oneCell'=true:=λi r j c h10 h11=>by
     have hr:r.length=n:=unif_rows hA'.rows r (List.mem_of_getElem? h10)
     have hj:j<n:=by rw[←hr];exact(List.getElem?_eq_some_iff.1 h11).1
     have hi:i<vals'.length:=by rw[hA'.rows.1];exact(List.getElem?_eq_some_iff.1 h10).1
     have h12:vals'[i]?=some vals'[i]:=by simp[hi]
     obtain⟨e3,e4,e5⟩:=hA'.rows.2 i r vals'[i] h10 h12
     have hj2:(vals'[i])[j]?=some ((vals'[i])[j]'(by omega)):=by simp[e4,hj]
     obtain⟨e6,e7⟩:=e5 j c _ h11 hj2
     have h13:vals'.flatten[i*n+j]?=some ((vals'[i])[j]'(by omega)):=by
      rw[flatten_get (by omega) vals' _ hvl.1,show(i*n+j) / n=i from by rw[Nat.mul_comm,Nat.mul_add_div (by omega),Nat.div_eq_of_lt hj,Nat.add_zero],show(i*n+j)%n=j from by rw[Nat.mul_comm,Nat.mul_add_mod,Nat.mod_eq_of_lt hj],h12]
      exact hj2
     exact⟨_,h13,by rw[List.getD_eq_getElem?_getD,h13];rfl,e6,e7⟩
    have hrep:Rep M w' (.sl n rows) (.slice (some ⟨b',off',none⟩) rows.length (cap'+1)):=.sl n rows b' off' (cap'+1) (λi j=>vals'.flatten.getD (i*n+j) undef) (by unfold maxI;omega) hA'.le (λi r h10=>unif_rows hA'.rows r (List.mem_of_getElem? h10)) (λi r j c h10 h11=>by
     obtain⟨u,e3,e4,e5,e6⟩:=hfl i r j c h10 h11
     refine⟨hb',?_,?_⟩
     ·rw[←e4,Nat.add_assoc];exact hA'.cell e3
     ·rw[←e4];exact e6) (λi r j c h10 h11=>by
     obtain⟨u,e3,e4,e5,e6⟩:=hfl i r j c h10 h11
     rw[←e4];exact e5)
    rw[hA'.v]
    exact hrep
end
end Go.Proofs.YtdnijgdmohinlaaGreat.A
end
section
namespace Go.Proofs.YtdnijgdmohinlaaGreat.A
open Go Go.RowKit
section
variable {P:Program}{N:Nat}{M0:Nat→Prop}{w0:Base}{ops:Array Oper}{Q:Exit→ASt→Prop}{o:Oper}{l:List Oper}{st:ASt}
theorem RowX.erase {M:Nat→Prop}{w:World}{T:TypeId}{n bytes:Nat}{t ty:TypeId}{v:Value}{rows:List (List AV)}(hT:R.ElemT P t T n bytes) (hn:1≤n) (hsz:∀w,(sizeOf T).run P w=.ok n w) (hX:RowX M w T n v rows) {h:Nat}(hh:h<rows.length) (hlen:rows.length≤4294967296) (hby:bytes≤32768) :
  ∃v' w',(Builtin.append_ #[t,t] ty #[cut3 v h,cutLo v (h+1) n]).run P w=.ok v' w'∧Grown w w' (rowF v) (rowF v')∧∀M',Known M M' w w'→RowX M' w' T n v' (rows.take h++rows.drop (h+1)):=by
 rcases hX with⟨ad,rfl,rfl⟩|⟨b,off,cap,cur,vals,hA⟩
 ·simp at hh
 have hv:=hA.v
 have hvl:=vals_len hA.rows
 have hvn:vals.length=rows.length:=hA.rows.1
 have hle:=hA.le
 have htl:(rows.take h).length=h:=by simp;omega
 have hc3:cut3 v h=.slice (some ⟨b,off,none⟩) (rows.take h).length (rows.take h).length:=by rw[hv,htl];rfl
 have hdl:(rows.drop (h+1)).length=rows.length - (h+1):=by simp
 by_cases hm:rows.drop (h+1)=[]
 ·have hl:rows.length - (h+1)=0:=by rw[←hdl,hm];rfl
  refine⟨cut3 v h,w,?_,⟨⟨rfl,rfl,rfl⟩,Nat.le_refl _,λ_ _ _=>rfl,λc hc=>.inl ?_⟩,λM' hK=>?_⟩
  ·rw[hc3,hv]
   show(Builtin.append_ #[t,t] ty #[_,.slice _ (rows.length - (h+1)) _]).run P w=_
   rw[hl]
   exact append_nothing w t ty T n hT.ht hsz _ _ _ _ _ (Nat.le_refl _)
  ·rw[hc3,htl]at hc
   cases h with
   | zero=>cases hc
   | succ h=>rw[hv];exact hc
  ·rw[hm,List.append_nil]
   refine(rowX T n (cut3 v h) (rows.take h)).mono (ρ:=λ_ _=>none) (h:=undef) hK (λ_ _=>rfl) ?_
   cases h with
   | zero=>exact .inl ⟨some ⟨b,off,none⟩,by rw[hc3];rfl,rfl⟩
   | succ h =>
    refine .inr ⟨b,off,h,cur,vals.take (h+1),by rw[hc3,htl],hA.hb,by omega,.inl htl,?_,?_,rows_take hA.rows _⟩
    ·have:=hA.fit
     have h2:(h+1)*n≤rows.length*n:=Nat.mul_le_mul_right _ (by omega)
     rw[htl];omega
    ·rw[htl,flat_take hvl.1,←hA.tk,List.take_take,Nat.min_eq_left (Nat.mul_le_mul_right _ (by omega))]
 ·have hpos:0<rows.length - (h+1):=by rw[←hdl];exact List.length_pos_iff.2 hm
  have hcl:cutLo v (h+1) n=.slice (some ⟨b,off+(h+1)*n,none⟩) (rows.drop (h+1)).length (cap+1 - (h+1)):=by
   rw[hv,hdl]
   show Value.slice (if cap+1=h+1 then _ else _) _ _=_
   rw[if_neg (by omega)]
   simp[add_addr]
  obtain⟨v',w',q1,q2,_,_,q3⟩:=grow_new (P:=P) (ty:=ty) hT hn (rows_take hA.rows h) (rows_drop hA.rows (h+1)) ⟨b,off,none⟩ ⟨b,off+(h+1)*n,none⟩ (cap+1 - (h+1)) (λq u hq=>by
   rw[flat_take hvl.1,List.getElem?_take]at hq
   split at hq
   ·rw[add_addr];exact hA.cell hq
   ·cases hq) (λq u hq=>by
   rw[flat_drop hvl.1,List.getElem?_drop]at hq
   rw[add_addr,Nat.add_assoc]
   exact hA.cell hq) hm (by rw[htl,hdl];omega) hby (rowF v)
  exact⟨v',w',by rw[hc3,hcl];exact q1,q2,q3⟩
theorem Al_eraseX {d k g h:Nat}{s x:Operand}{t T:TypeId}{n bytes:Nat}{rows:List (List AV)}{v:Value}(ho:o.op=.call ⟨.builtin .append,#[s,x],#[t,t]⟩) (hg:o.guard=none) (hd:o.dst=some d) (hN:d<N) (hc:conB o=true) (hT:R.ElemT P t T n bytes) (hn:1≤n) (hsz:∀w,(sizeOf T).run P w=.ok n w)
  (hs:st.ev s=.d (.v (cut3 v h))) (hx:st.ev x=.d (.v (cutLo v (h+1) n))) (hob:st.ob k=some (g,.op (rowX T n v rows))) (hh:h<rows.length) (hlen:rows.length≤4294967296) (hby:bytes≤32768)
  (hr:∀v',Al P N M0 w0 ops Q l ((st.put k g (.op (rowX T n v' (rows.take h++rows.drop (h+1))))).set d (.d (.v v')))):Al P N M0 w0 ops Q (o::l) st:=by
 refine⟨?_⟩
 rintro a w ⟨ρ,hsim⟩
 have hev:=hsim.ev hc
 have h1:=hev s (mem_call ho s (by simp))
 have h2:=hev x (mem_call ho x (by simp))
 rw[hs]at h1
 rw[hx]at h2
 obtain⟨e1,_⟩:=rep_v h1
 obtain⟨e2,_⟩:=rep_v h2
 obtain⟨y,hy,hF,hX⟩:=hsim.obj k g _ hob
 obtain⟨v',w',hrun,hG,hX'⟩:=RowX.erase (P:=P) (ty:=o.type) hT hn hsz hX hh hlen hby
 have hs2:=hsim.mod2 (w':=w') hob hy hG.os hG.size (λb hb hne=>hG.old b hb hne) (o':=.op (rowX T n v' (rows.take h++rows.drop (h+1)))) (λM' hK=>⟨λb hb=>by
  rcases hG.blk b hb with h3|h3
  ·exact hF b h3
  ·exact .inl (Nat.le_trans hsim.ext.size h3),hX' M' hK⟩) (λb hb=>hG.blk b hb)
 refine wpList_plain hg λK hK=>wp_upon ?_
 have e:(execOp a.eval o).run P w=.ok (.value v') w':=by
  simp only[execOp,ho,resolve,invoke,builtin,Sem.run_bind,Sem.run_pure,Result.andThen_ok,List.map_toArray,List.map_cons,List.map_nil,e1,e2,hrun]
 rw[e]
 refine hK _ _ ((hr v').out _ _ ⟨ρ,?_⟩)
 rw[hd]
 obtain⟨_,_,_,hX2⟩:=hs2.obj k g (.op (rowX T n v' (rows.take h++rows.drop (h+1)))) (by simp[ASt.put])
 exact hs2.set hN (.v _ hX2.vok)
end
theorem gh_row {T:TypeId}{n:Nat}:Ghost .any [] (λ_:Unit=>[(1003,.op (rowX T n (.slice none 0 0) []))]) (λ_=>.any):=λM w ρ x hM hb hx hobs hf hap=>by
 let ρ':Rho:=λk g=>bif Nat.beq k 1003&&Nat.beq g 0 then some undef else ρ k g
 refine⟨(),ρ',?_,λp hp=>(by cases hp),λp hp=>?_,λp hp q hq x x' b _ _ h3 _=>?_,trivial⟩
 ·obtain⟨G,hG⟩:=hb
  refine⟨G+1,λk g h=>?_⟩
  cases hk:(Nat.beq k 1003&&Nat.beq g 0)with
  | true =>
   simp only[Bool.and_eq_true]at hk
   have:=Nat.eq_of_beq_eq_true hk.2
   omega
  | false=>simp only[ρ']at h;rw[hk]at h;have:=hG k g h;omega
 ·rcases List.mem_cons.1 hp with rfl|hp
  ·exact⟨undef,rfl,λb hb=>(by cases hb),.inl ⟨none,rfl,rfl⟩⟩
  ·cases hp
 ·rcases List.mem_cons.1 hp with rfl|hp
  ·cases h3
  ·cases hp
end Go.Proofs.YtdnijgdmohinlaaGreat.A
end
section
namespace Go.Proofs.YtdnijgdmohinlaaGreat.A
open Go Go.RowKit
abbrev bas (w:World):Base:=⟨w,λ_=>True,[],λ_ _=>none⟩
def StarI {σ τ:Type}(E:σ→τ→Obs) (F:Nat→Prop) (X:List (Value×σ)) (M:Nat→Prop) (w:World):Prop :=
 ∃L:List (Rho×Obs),L.length=X.length∧(∀(i:Nat) (e:Rho×Obs) (x:Value×σ),L[i]?=some e→X[i]?=some x→hd e.1=x.1∧∃t,e.2=E x.2 t)∧(∀b,F b↔(starO L).F b)∧(starO L).I M w (λ_ _=>none) undef
def starP {σ τ:Type}(E:σ→τ→Obs) (F:Nat→Prop) (X:List (Value×σ)):OP where
 F:=F
 I:=λM w _ _=>StarI E F X M w
 mono:=λ{M M' w w' ρ h} k hb ⟨L,h1,h2,h3,h4⟩=>⟨L,h1,h2,h3,(starO L).mono (ρ:=λ_ _=>none) (h:=undef) k (λb hf=>hb b ((h3 b).2 hf)) h4⟩
 rho:=λ_ h=>h
 lt:=λ{M w ρ h} ⟨L,_,_,h3,h4⟩ b hb=>(starO L).lt (ρ:=λ_ _=>none) (h:=undef) h4 b ((h3 b).1 hb)
def namTok (k:Nat) (v:Value):OP:=⟨λ_=>False,λ_ _ ρ _=>ρ k 0=some v,λ_ _ h=>h,λhr h=>hr _ _ _ h,λ_ _ hb=>hb.elim⟩
theorem star_perm {L L':List (Rho×Obs)}(hp:L.Perm L') {M:Nat→Prop}{w:World}{ρ:Rho}{h:Value}(hI:(starO L).I M w ρ h):(starO L').I M w ρ h :=
 ⟨λe he=>hI.1 e (hp.mem_iff.2 he),(hp.pairwise_iff (λ{a b} hab c h1 h2=>hab c h2 h1)).1 hI.2⟩
theorem starF_perm {L L':List (Rho×Obs)}(hp:L.Perm L') (b:Nat):(starO L).F b↔(starO L').F b :=
 ⟨λ⟨e,he,h⟩=>⟨e,hp.mem_iff.1 he,h⟩,λ⟨e,he,h⟩=>⟨e,hp.mem_iff.2 he,h⟩⟩
theorem fps_one {ρ:Rho}{k:Nat}{I:OP}{h:Value}(hh:ρ k 0=some h) (b:Nat):fps ρ [(k,.op I)] b↔I.F b :=
 ⟨λ⟨p,hp,x,h1,h2⟩=>by obtain rfl:=List.mem_singleton.1 hp;exact h2,λhb=>⟨_,List.mem_singleton.2 rfl,h,hh,hb⟩⟩
theorem fps_cons {ρ:Rho}{p:Nat×AO}{r:Obs}{b:Nat}:fps ρ (p::r) b↔(∃h,ρ p.1 0=some h∧fpO p.2 h b)∨fps ρ r b:=by
 constructor
 ·rintro⟨q,hq,x,h1,h2⟩
  rcases List.mem_cons.1 hq with rfl|hq
  ·exact .inl ⟨x,h1,h2⟩
  ·exact .inr ⟨q,hq,x,h1,h2⟩
 ·rintro(⟨x,h1,h2⟩|⟨q,hq,x,h1,h2⟩)
  ·exact⟨p,List.mem_cons_self ..,x,h1,h2⟩
  ·exact⟨q,List.mem_cons_of_mem _ hq,x,h1,h2⟩
section
variable {σ τ:Type}{E:σ→τ→Obs}{F:Nat→Prop}{X X1 X2:List (Value×σ)}{v:Value}{s s':σ}
theorem focusP {P:Program}{f:FuncId}{rest:List AV}{res:AV}{i:Nat}(hf:∀(vs:Array Value) (w:World),(callFunc f vs).run P w=.ok (.enter f vs) w) (h:∀t,GCallE P f (.bx 1001 0 0::rest.map .d) (E s t) λt':τ=>some (E s' t',.d res)) (hi:X[i]?=some (v,s)) (h0:∀t,∃T cs,(1001,AO.box T cs)∈E s t) :
  GCallE P f (.d (.v v)::rest.map .d) [(1001,.op (starP E F X))] (λF':Nat→Prop=>some ([(1001,.op (starP E F' (X.set i (v,s'))))],.d res)):=by
 refine⟨hf,λM w ρ vs hM hbnd ha hobs hfps hap=>?_⟩
 obtain⟨hh,e1,hF,L,l1,l2,l3,hI⟩:=hobs _ (List.mem_singleton.2 rfl)
 have hil:i<L.length:=by rw[l1];exact(List.getElem?_eq_some_iff.1 hi).1
 obtain⟨k1,t,k2⟩:=l2 i L[i] (v,s) (by simp[hil]) hi
 obtain⟨T,cs,hbx⟩:=h0 t
 have hLi:L[i]?=some ((L[i]).1,E s t):=by rw[List.getElem?_eq_getElem hil,←k2]
 have hcall:=GCallE.focus (h t) hLi hbx
 have e1':ρ 1001 0=some hh:=e1
 have fo:=λb=>fps_one (I:=starP E F X) e1' b
 have fo':=λb=>fps_one (I:=starO L) e1' b
 have hargs:ARep M w ρ (.eq (hd (L[i]).1)::rest.map .d) vs:=⟨by rw[ha.1];simp,λj a x h1 h2=>by
  cases j with
  | zero =>
   obtain rfl:SV.eq (hd (L[i]).1)=a:=by simpa using h1
   rw[k1]
   exact Sub.ve _ _ _ _ (ha.2 0 (.d (.v v)) x rfl h2)
  | succ j=>exact ha.2 (j+1) a x (by simpa using h1) h2⟩
 have hob1:Objs (bas w) M w ρ [(1001,.op (starO L))]:=λp hp=>by
  obtain rfl:=List.mem_singleton.1 hp
  exact⟨hh,e1,λ_ _=>.inr trivial,hI⟩
 refine(hcall.2 M w ρ vs hM hbnd hargs hob1 (λb hb=>hfps b ((fo b).2 ((l3 b).2 ((fo' b).1 hb)))) (λp hp q hq _ _ _ _ _ _ _=>by rw[List.mem_singleton.1 hp,List.mem_singleton.1 hq])).mono λe w' ⟨hx,⟨t',ρn⟩,u,he,ρ',hb',hsame,hobj,hap',hres⟩=>?_
 have e2:ρ' 1001 0=some hh:=(hsame _ (List.mem_singleton.2 rfl)).trans e1
 obtain⟨h2,e3,hF2,hI2⟩:=hobj _ (List.mem_singleton.2 rfl)
 have e3':ρ' 1001 0=some h2:=e3
 rw[e2]at e3'
 obtain rfl:=Option.some.inj e3'
 have fn:=λb=>fps_one (I:=starO (L.set i (ρn.1,E s' t'))) e2 b
 have fn':=λb=>fps_one (I:=starP E (starO (L.set i (ρn.1,E s' t'))).F (X.set i (v,s'))) e2 b
 have hM2:∀b,(M b∨fps ρ' [(1001,AO.op (starP E (starO (L.set i (ρn.1,E s' t'))).F (X.set i (v,s'))))] b)↔(M b∨fps ρ' [(1001,AO.op (starO (L.set i (ρn.1,E s' t'))))] b):=λb=>or_congr_right ((fn' b).trans (fn b).symm)
 have hM3:(λb=>M b∨fps ρ' [(1001,AO.op (starP E (starO (L.set i (ρn.1,E s' t'))).F (X.set i (v,s'))))] b)=(λb=>M b∨fps ρ' [(1001,AO.op (starO (L.set i (ρn.1,E s' t'))))] b):=funext λb=>propext (hM2 b)
 have hl:fps ρ [(1001,.op (starP E F X))]=fps ρ [(1001,.op (starO L))]:=funext λb=>propext ((fo b).trans ((l3 b).trans (fo' b).symm))
 rw[hl]
 refine⟨hx,(starO (L.set i (ρn.1,E s' t'))).F,u,he,ρ',hb',λp hp=>(by rw[List.mem_singleton.1 hp];exact e2.trans e1.symm),λp hp=>?_,λp hp q hq _ _ _ _ _ _ _=>by rw[List.mem_singleton.1 hp,List.mem_singleton.1 hq],?_⟩
 ·obtain rfl:=List.mem_singleton.1 hp
  refine⟨hh,e2,λb hb=>by rw[hl];exact hF2 b hb,L.set i (ρn.1,E s' t'),by simp[l1],λj e x h1 h2=>?_,λb=>Iff.rfl,?_⟩
  ·rw[List.getElem?_set]at h1 h2
   split at h1
   ·rename_i hij
    rw[if_pos hij]at h2
    simp only[show i<L.length from hil,show i<X.length from by omega,if_true]at h1 h2
    obtain rfl:=Option.some.inj h1
    obtain rfl:=Option.some.inj h2
    exact⟨ρn.2.trans k1,t',rfl⟩
   ·rename_i hij
    rw[if_neg hij]at h2
    exact l2 j e x h1 h2
  ·rw[hM3];exact hI2
 ·rw[hM3];exact hres
theorem mem_fps {ρ:Rho}{obs:Obs}{b:Nat}{p:Nat×AO}{x:Value}(hp:p∈obs) (h1:ρ p.1 0=some x) (h2:fpO p.2 x b):fps ρ obs b:=⟨p,hp,x,h1,h2⟩
theorem gh_pull (hE:∀t,(∃T cs,(1001,AO.box T cs)∈E s t)∧(∀p∈E s t,1001≤p.1∧p.1≤1008)∧ObsIn [1001,1002,1003,1004,1005,1006,1007,1008] (E s t)):Ghost (.d (.v v)) [(1000,.op (starP E F (X1++(v,s)::X2)))] (λx:τ×(Nat→Prop)=>(1000,.op (starP E x.2 (X1++X2)))::(1009,.op (namTok 1001 v))::E s x.1) (λ_=>.bx 1001 0 0):=λM w ρ x hM hb hx hobs hf hap=>by
 obtain⟨hh,e1',hF,L,l1,l2,l3,hI⟩:=hobs _ (List.mem_singleton.2 rfl)
 have e1:ρ 1000 0=some hh:=e1'
 have hi:X1.length<L.length:=by rw[l1];simp
 obtain⟨k1,t,k2⟩:=l2 X1.length L[X1.length] (v,s) (by simp[hi]) (by simp)
 obtain⟨⟨T,cs,hbx⟩,hks,hin⟩:=hE t
 have hLe:L=L.take X1.length++L[X1.length]::L.drop (X1.length+1):=by rw[List.getElem_cons_drop,List.take_append_drop]
 have hperm:L.Perm (L[X1.length]::(L.take X1.length++L.drop (X1.length+1))):=by
  have:=List.perm_middle (a:=L[X1.length]) (l₁:=L.take X1.length) (l₂:=L.drop (X1.length+1))
  rwa [←hLe]at this
 have hI':=star_perm hperm hI
 have hF':=λb=>(l3 b).trans (starF_perm hperm b)
 generalize L[X1.length]=le at *
 obtain⟨ρe,oe⟩:=le
 obtain rfl:oe=E s t:=k2
 obtain⟨m1,m2,m3⟩:=hI'.1 _ (List.mem_cons_self ..)
 have hdis:=(List.pairwise_cons.1 hI'.2).1
 have hfo:∀b,fps ρ [(1000,AO.op (starP E F (X1++(v,s)::X2)))] b↔F b:=fps_one e1
 let ρ':Rho:=λk g=>if g=0∧1001≤k∧k≤1008 then ρe k 0 else if g=0∧k=1009 then some undef else ρ k g
 have r0:ρ' 1000 0=some hh:=by simp[ρ',e1]
 have r9:ρ' 1009 0=some undef:=by simp[ρ']
 have rk:∀k,1001≤k→k≤1008→ρ' k 0=ρe k 0:=λk h1 h2=>by simp[ρ',h1,h2]
 have rE:∀p∈E s t,ρ' p.1 0=ρe p.1 0:=λp hp=>rk p.1 (hks p hp).1 (hks p hp).2
 have fE:∀b,fps ρ' (E s t) b↔fps ρe (E s t) b:=fps_eq rE
 obtain⟨y,n1',b0,ys,rfl,n2⟩:=m1 _ hbx
 have n1:ρe 1001 0=some (.pointer (some ⟨b0,0,none⟩)):=n1'
 have hv:v=.pointer (some ⟨b0,0,none⟩):=by
  have:hd ρe=v:=k1
  rw[←this];unfold hd;rw[n1];rfl
 have hEF:∀b,fps ρe (E s t) b→F b:=λb hb=>(hF' b).2 ⟨_,List.mem_cons_self ..,hb⟩
 have hSF:∀b,(starO (L.take X1.length++L.drop (X1.length+1))).F b→F b:=λb ⟨e,he,h⟩=>(hF' b).2 ⟨e,List.mem_cons_of_mem _ he,h⟩
 have hM':∀c,(M c∨fps ρ' ((1000,AO.op (starP E (starO (L.take X1.length++L.drop (X1.length+1))).F (X1++X2)))::(1009,.op (namTok 1001 v))::E s t) c)→M c:=λc hc=>by
  rcases hc with hc|hc
  ·exact hc
  ·refine hf c ((hfo c).2 ?_)
   rcases fps_cons.1 hc with⟨_,_,h⟩|hc
   ·exact hSF c h
   ·rcases fps_cons.1 hc with⟨_,_,h⟩|hc
    ·exact h.elim
    ·exact hEF c ((fE c).1 hc)
 refine⟨(t,(starO (L.take X1.length++L.drop (X1.length+1))).F),ρ',?_,λp hp=>?_,λp hp=>?_,λp hp q hq z z' c h1 h2 h3 h4=>?_,?_⟩
 ·obtain⟨G,hG⟩:=hb
  refine⟨G+1,λk g h=>?_⟩
  by_cases hg:g=0
  ·omega
  ·have:ρ k g≠none:=by simpa [ρ',hg]using h
   have:=hG k g this
   omega
 ·obtain rfl:=List.mem_singleton.1 hp
  exact r0.trans e1.symm
 ·rcases List.mem_cons.1 hp with rfl|hp
  ·refine⟨hh,r0,λb hb=>.inr ((hfo b).2 (hSF b hb)),L.take X1.length++L.drop (X1.length+1),?_,λj e z h1 h2=>?_,λb=>Iff.rfl,?_⟩
   ·simp only[List.length_append,List.length_take,List.length_drop,List.length_cons]at l1 ⊢;omega
   ·rcases Nat.lt_or_ge j X1.length with hj|hj
    ·rw[List.getElem?_append_left (by simp;omega),List.getElem?_take,if_pos hj]at h1
     rw[List.getElem?_append_left hj]at h2
     exact l2 j e z h1 (by rw[List.getElem?_append_left hj];exact h2)
    ·have hlt:(L.take X1.length).length=X1.length:=by simp;omega
     rw[List.getElem?_append_right (by omega),hlt,List.getElem?_drop]at h1
     rw[List.getElem?_append_right hj]at h2
     refine l2 (X1.length+1+(j - X1.length)) e z h1 ?_
     rw[List.getElem?_append_right (by omega),show X1.length+1+(j - X1.length) - X1.length=(j - X1.length)+1 from by omega,List.getElem?_cons_succ]
     exact h2
   ·refine⟨λe he=>⟨objs_mono (Known.sub hM') (λ_ _=>rfl) (hI'.1 e (List.mem_cons_of_mem _ he)).1,(hI'.1 e (List.mem_cons_of_mem _ he)).2⟩,(List.pairwise_cons.1 hI'.2).2⟩
  ·rcases List.mem_cons.1 hp with rfl|hp
   ·exact⟨undef,r9,λb hb=>hb.elim,by show ρ' 1001 0=some v;rw[rk 1001 (by omega) (by omega),n1,hv]⟩
   ·obtain⟨z,h1,h2⟩:=m1 p hp
    refine⟨z,(rE p hp).trans h1,?_⟩
    refine(aoIn_rep (ρ:=ρ') (ρ':=ρe) (ks:=[1001,1002,1003,1004,1005,1006,1007,1008]) (λk hk=>?_) (hin.get p hp) h2 |>.mono (Known.sub hM') λ_ _=>rfl).base λb hb=>.inr ((hfo b).2 (hEF b ⟨p,hp,z,h1,hb⟩))
    simp only[List.mem_cons,List.not_mem_nil,or_false]at hk
    exact(rk k (by omega) (by omega)).symm
 ·have hsep:∀c q z',q∈E s t→ρ' q.1 0=some z'→fpO q.2 z' c→(starO (L.take X1.length++L.drop (X1.length+1))).F c→False:=λc q z' hq h2 h4 ⟨e,he,h⟩=>hdis e he c ((fE c).1 ⟨q,hq,z',h2,h4⟩) h
  rcases List.mem_cons.1 hp with rfl|hp
  ·rcases List.mem_cons.1 hq with rfl|hq
   ·rfl
   ·rcases List.mem_cons.1 hq with rfl|hq
    ·exact h4.elim
    ·exact(hsep c q z' hq h2 h4 h3).elim
  ·rcases List.mem_cons.1 hp with rfl|hp
   ·exact h3.elim
   ·rcases List.mem_cons.1 hq with rfl|hq
    ·exact(hsep c p z hp h1 h3 h4).elim
    ·rcases List.mem_cons.1 hq with rfl|hq
     ·exact h4.elim
     ·exact m2 p hp q hq z z' c ((rE p hp).symm.trans h1) ((rE q hq).symm.trans h2) h3 h4
 ·obtain⟨h1,_⟩:=rep_v hx
  exact⟨_,b0,(rk 1001 (by omega) (by omega)).trans n1,rfl,by rw[h1,hv]⟩
theorem star_put {M:Nat→Prop}{w:World}{L:List (Rho×Obs)}{ρ:Rho}{o:Obs}(hI:(starO L).I M w (λ_ _=>none) undef) (h1:Objs (bas w) M w ρ o) (h2:Apart ρ o) (h3:Bnd ρ) (hd:∀b,(starO L).F b→fps ρ o b→False) (n:Nat):(starO (L.take n++(ρ,o)::L.drop n)).I M w (λ_ _=>none) undef∧∀b,(starO (L.take n++(ρ,o)::L.drop n)).F b↔(fps ρ o b∨(starO L).F b):=by
 have hp:((ρ,o)::L).Perm (L.take n++(ρ,o)::L.drop n):=by
  have:=(List.perm_middle (a:=(ρ,o)) (l₁:=L.take n) (l₂:=L.drop n)).symm
  rwa [List.take_append_drop]at this
 refine⟨star_perm hp ⟨λe he=>?_,List.pairwise_cons.2 ⟨λe he b hb hb'=>hd b ⟨e,he,hb'⟩ hb,hI.2⟩⟩,λb=>(starF_perm hp b).symm.trans ?_⟩
 ·rcases List.mem_cons.1 he with rfl|he
  ·exact⟨h1,h2,h3⟩
  ·exact hI.1 e he
 ·constructor
  ·rintro⟨e,he,h⟩
   rcases List.mem_cons.1 he with rfl|he
   ·exact .inl h
   ·exact .inr ⟨e,he,h⟩
  ·rintro(h|⟨e,he,h⟩)
   ·exact⟨_,List.mem_cons_self ..,h⟩
   ·exact⟨e,List.mem_cons_of_mem _ he,h⟩
theorem star_rel {L:List (Rho×Obs)}{ρ:Rho}{t:τ}(l1:L.length=(X1++X2).length) (l2:∀(i:Nat) (e:Rho×Obs) (x:Value×σ),L[i]?=some e→(X1++X2)[i]?=some x→hd e.1=x.1∧∃t,e.2=E x.2 t) (hv:hd ρ=v):(L.take X1.length++(ρ,E s' t)::L.drop X1.length).length=(X1++(v,s')::X2).length∧∀(i:Nat) (e:Rho×Obs) (x:Value×σ),(L.take X1.length++(ρ,E s' t)::L.drop X1.length)[i]?=some e→(X1++(v,s')::X2)[i]?=some x→hd e.1=x.1∧∃t,e.2=E x.2 t:=by
 rw[List.length_append]at l1
 have hlt:(L.take X1.length).length=X1.length:=by simp;omega
 refine⟨by simp;omega,λj e x h1 h2=>?_⟩
 rcases Nat.lt_or_ge j X1.length with hj|hj
 ·rw[List.getElem?_append_left (by omega),List.getElem?_take,if_pos hj]at h1
  rw[List.getElem?_append_left hj]at h2
  exact l2 j e x h1 (by rw[List.getElem?_append_left hj];exact h2)
 ·rw[List.getElem?_append_right (by omega),hlt]at h1
  rw[List.getElem?_append_right hj]at h2
  cases hk:j - X1.length with
  | zero =>
   rw[hk]at h1 h2
   simp only[List.getElem?_cons_zero,Option.some.injEq]at h1 h2
   subst h1 h2
   exact⟨hv,t,rfl⟩
  | succ k =>
   rw[hk]at h1 h2
   rw[List.getElem?_cons_succ]at h1 h2
   rw[List.getElem?_drop]at h1
   refine l2 (X1.length+k) e x h1 ?_
   rw[List.getElem?_append_right (by omega),Nat.add_sub_cancel_left]
   exact h2
theorem gh_put {t:τ}(hE:∀p∈E s' t,1001≤p.1∧p.1≤1008):Ghost .any ((1000,.op (starP E F (X1++X2)))::(1009,.op (namTok 1001 v))::E s' t) (λF':Nat→Prop=>[(1000,.op (starP E F' (X1++(v,s')::X2)))]) (λ_=>.any):=λM w ρ x hM hb hx hobs hf hap=>by
 obtain⟨hh,e1',hF,L,l1,l2,l3,hI⟩:=hobs _ (List.mem_cons_self ..)
 have e1:ρ 1000 0=some hh:=e1'
 obtain⟨_,_,_,hn⟩:=hobs (1009,.op (namTok 1001 v)) (by simp)
 have hn:ρ 1001 0=some v:=hn
 have hsub:∀p∈E s' t,p∈(1000,AO.op (starP E F (X1++X2)))::(1009,AO.op (namTok 1001 v))::E s' t:=λp hp=>by simp[hp]
 have hv:hd ρ=v:=by unfold hd;rw[hn];rfl
 have hsep:∀b,(starO L).F b→fps ρ (E s' t) b→False:=λb h1 ⟨p,hp,z,h2,h3⟩=>by
  have:=hap _ (List.mem_cons_self ..) p (hsub p hp) hh z b e1 h2 ((l3 b).2 h1) h3
  have h4:=(hE p hp).1
  rw[←this]at h4
  exact absurd h4 (show¬1001≤1000 by decide)
 obtain⟨j1,j2⟩:=star_put hI (λp hp=>hobs p (hsub p hp)) (λp hp q hq=>hap p (hsub p hp) q (hsub q hq)) hb hsep X1.length
 obtain⟨j3,j4⟩:=star_rel (E:=E) (s':=s') (t:=t) l1 l2 hv
 have hfo:∀b,(starO (L.take X1.length++(ρ,E s' t)::L.drop X1.length)).F b→fps ρ ((1000,AO.op (starP E F (X1++X2)))::(1009,AO.op (namTok 1001 v))::E s' t) b:=λb hb=>by
  rcases(j2 b).1 hb with⟨p,hp,z,h1,h2⟩|h
  ·exact⟨p,hsub p hp,z,h1,h2⟩
  ·exact mem_fps (List.mem_cons_self ..) e1 ((l3 b).2 h)
 have hM':∀c,(M c∨fps ρ [(1000,AO.op (starP E (starO (L.take X1.length++(ρ,E s' t)::L.drop X1.length)).F (X1++(v,s')::X2)))] c)→M c:=λc hc=>by
  rcases hc with hc|hc
  ·exact hc
  ·exact hf c (hfo c ((fps_one (I:=starP E _ _) e1 c).1 hc))
 refine⟨(starO (L.take X1.length++(ρ,E s' t)::L.drop X1.length)).F,ρ,hb,λp hp=>rfl,λp hp=>?_,λp hp q hq _ _ _ _ _ _ _=>by rw[List.mem_singleton.1 hp,List.mem_singleton.1 hq],trivial⟩
 obtain rfl:=List.mem_singleton.1 hp
 refine⟨hh,e1,λb hb=>.inr (hfo b hb),L.take X1.length++(ρ,E s' t)::L.drop X1.length,j3,j4,λb=>Iff.rfl,?_⟩
 exact(starO _).mono (ρ:=λ_ _=>none) (h:=undef) (Known.sub hM') (λ_ _=>rfl) j1
theorem gh_nil:Ghost .any [] (λ_:Unit=>[(1000,.op (starP E (λ_=>False) []))]) (λ_=>.any):=λM w ρ x hM hb hx hobs hf hap=>by
 let ρ':Rho:=λk g=>if k=1000∧g=0 then some undef else ρ k g
 have r0:ρ' 1000 0=some undef:=by simp[ρ']
 refine⟨(),ρ',?_,λp hp=>(by cases hp),λp hp=>?_,λp hp q hq _ _ _ _ _ _ _=>by rw[List.mem_singleton.1 hp,List.mem_singleton.1 hq],trivial⟩
 ·obtain⟨G,hG⟩:=hb
  refine⟨G+1,λk g h=>?_⟩
  by_cases hg:g=0
  ·omega
  ·have:=hG k g (by simpa [ρ',hg]using h)
   omega
 ·obtain rfl:=List.mem_singleton.1 hp
  exact⟨undef,r0,λb hb=>hb.elim,[],rfl,λi e x h=>by simp at h,λb=>⟨λh=>h.elim,λ⟨e,he,_⟩=>(by cases he)⟩,⟨λe he=>(by cases he),List.Pairwise.nil⟩⟩
end
end Go.Proofs.YtdnijgdmohinlaaGreat.A
end
section
namespace Go.Proofs.YtdnijgdmohinlaaGreat.A
open Go Go.RowKit
section
variable {P:Program}{N:Nat}{M0:Nat→Prop}{w0:Base}{ops:Array Oper}{Q:Exit→ASt→Prop}{o:Oper}{l:List Oper}{st:ASt}
theorem Al_clear0 {k g n lo h:Nat}{x:Operand}{t e T:TypeId}{z:Value}{zs:List AV}{rows:List (List AV)}(ho:o.op=.call ⟨.builtin .clear,#[x],#[t]⟩) (hg:o.guard=none) (hd:o.dst=none) (hc:conB o=true) (ht:P.underlying t=some (.slice e)) (hz:∀w,(zeroValue e).run P w=.ok z w) (hzn:z.cells.size=n) (hn:0<n)
  (hzs:z.cells.toList.map AV.v=zs) (hv:z.cells.toList.all (λz=>decide (vok z))=true) (hx:st.ev x=.ows k g n lo h) (hob:st.ob k=some (g,.arr T n rows)) (hh:h=rows.length)
  (hr:Al P N M0 w0 ops Q l (st.put k g (.arr T n (rows.take lo++List.replicate (h - lo) zs)))):Al P N M0 w0 ops Q (o::l) st:=by
 refine⟨?_⟩
 rintro a w ⟨ρ,hsim⟩
 have h1:=hsim.ev hc x (mem_call ho x (by simp))
 rw[hx]at h1
 obtain⟨ad,len,cp,a',k1,k2,k3,k4,k5⟩:=h1
 obtain⟨u,hu,hO⟩:=hsim.obj k g _ hob
 rw[k1]at hu;cases hu
 subst hh
 have fin:∀w',SimR N M0 w0 (st.put k g (.arr T n (rows.take lo++List.replicate (rows.length - lo) zs))) ρ a w'→(execOp a.eval o).run P w=.ok (.value (.tuple #[])) w'→wpList P ops (QL N M0 w0 Q) (o::l) a w:=λw' hs e=>by
  refine wpList_plain hg λK hK=>wp_upon ?_
  rw[e]
  refine hK _ _ (hr.out _ _ ⟨ρ,?_⟩)
  rw[hd]
  exact hs
 by_cases hlt:lo<rows.length
 ·obtain⟨b,rfl,rfl⟩:=k5 hlt
  obtain⟨cap,cur,vals,he,hgb,hnc,hcp,hsz,htk,hrw,hl,hlb⟩:=arr_at hO (b:=b) rfl
  have hcc:cap=cp:=by cases he;rfl
  subst hcc
  cases he
  have hun:=unif_rows hrw
  have hfr:=flat_lenA hun
  have hzl:zs.length=n:=by rw[←hzs];simp[hzn]
  have hrl:(List.replicate (rows.length - lo) zs).flatten.length=(rows.length - lo)*n:=by simp[hzl]
  have hul:(List.replicate (rows.length - lo) z.cells.toList).flatten.length=(rows.length - lo)*n:=by simp[hzn]
  have hlen:(rows.take lo++List.replicate (rows.length - lo) zs).length=rows.length:=by simp;omega
  have e1:lo*n+(rows.length - lo)*n=rows.length*n:=by rw[←Nat.add_mul];congr 1;omega
  have e2:rows.length*n≤cap*n:=Nat.mul_le_mul_right _ hnc
  obtain⟨w',vs',q1,q2,q3,q4,q5,q6,q7⟩:=splice_core (P:=P) (rows.take lo++List.replicate (rows.length - lo) zs) hgb hsz htk hrw (zero_cells hzs hv (rows.length - lo)) (off:=lo*n) (by omega) (by rw[hul];omega) (by rw[hlen];exact hnc)
   (λq hq=>by
    rcases List.mem_append.1 hq with hq|hq
    ·exact hun q (List.mem_of_mem_take hq)
    ·rw[List.eq_of_mem_replicate hq];exact hzl)
   (by rw[List.flatten_append,flat_take hun,hrl,List.drop_eq_nil_of_le (by omega),List.append_nil])
  refine fin w' (hsim.mod (w':=w') hob k1 q6 (by omega) (λc' hc' hne=>q4 c' (λe=>hne (by simp[blk,e]))) (λM' hK _=>by
   obtain⟨vals',hv1,hv2⟩:=q7 M' hK
   exact⟨vals',⟨by have h9:vs'.toList.length=cap*n:=(Array.length_toList ..).trans q3;rw[hv1,List.length_take,hlen,h9];omega,.inr ⟨b,cap,vs',by rw[hlen],Nat.zero_le _,q2,by rw[hlen];exact hnc,hcp,q3,hv1.symm⟩⟩,hv2,⟨_,cap,by rw[hlen]⟩,by rw[hlen];exact hl,λc' hc'=>by simp only[blk,Option.some.injEq]at hc';subst hc';exact hlb⟩)) ?_
  have hne:rows.length - lo≠0:=by omega
  rw[←zeroCells_list z.cells _ (by omega)]at q1
  simp only[execOp,ho,resolve,invoke,builtin,Sem.run_bind,Sem.run_pure,Result.andThen_ok,List.map_toArray,List.map_cons,List.map_nil,k2,Builtin.clear_]
  simp[run_underlying ht,hz,hne,q1,Result.andThen]
 ·have hll:rows.length - lo=0:=by omega
  refine fin w (hsim.mod (w':=w) hob k1 ⟨rfl,rfl,rfl⟩ (Nat.le_refl _) (λ_ _ _=>rfl) (λM' hK _=>?_)) ?_
  ·rw[hll,List.replicate_zero,List.append_nil,List.take_of_length_le (by omega)]
   exact hO.mono hK λ_ _=>rfl
  ·simp only[execOp,ho,resolve,invoke,builtin,Sem.run_bind,Sem.run_pure,Result.andThen_ok,List.map_toArray,List.map_cons,List.map_nil,k2,hll,Builtin.clear_]
   cases a'<;>simp[run_underlying ht,Result.andThen]
end
end Go.Proofs.YtdnijgdmohinlaaGreat.A
namespace Go.Proofs.YtdnijgdmohinlaaGreat
open Go.RowKit A
namespace S
theorem find_neg {α:Type}{p:α→Bool}{l:List α}(h:S.find p l= -1):(l.filter λx=>!p x)=l:=by
 unfold S.find at h
 split at h
 ·omega
 ·rename_i hn
  rw[List.filter_eq_self]
  intro x hx
  cases hp:p x with
  | false=>rfl
  | true=>exact(hn (List.any_eq_true.2 ⟨x,hx,hp⟩)).elim
theorem find_pos {α:Type}{p:α→Bool}{l:List α}(h:¬S.find p l= -1):∃i,∃hi:i<l.length,S.find p l=(i:Int)∧p l[i]=true∧∀j (hj:j<l.length),j<i→p l[j]=false:=by
 unfold S.find at h ⊢
 split at h
 ·rename_i hy
  rw[if_pos hy]
  obtain⟨x,hx,hp⟩:=List.any_eq_true.1 hy
  have hlt:l.findIdx p<l.length:=List.findIdx_lt_length_of_exists ⟨x,hx,hp⟩
  exact⟨l.findIdx p,hlt,rfl,List.findIdx_getElem,λj hj hji=>by simpa using List.not_of_lt_findIdx hji⟩
 ·exact(h rfl).elim
theorem filter_first {α:Type}{p:α→Bool}{l:List α}{i:Nat}(hi:i<l.length) (hp:p l[i]=true) (hb:∀j (hj:j<l.length),j<i→p l[j]=false):l.take i=(l.take (i+1)).filter (λx=>!p x):=by
 rw[List.take_succ_eq_append_getElem hi,List.filter_append,List.filter_cons,hp]
 have:(l.take i).filter (λx=>!p x)=l.take i:=by
  rw[List.filter_eq_self]
  intro x hx
  obtain⟨j,hj,rfl⟩:=List.getElem_of_mem hx
  rw[List.length_take]at hj
  rw[List.getElem_take,hb j (by omega) (by omega)];rfl
 rw[this];simp
theorem drop_at {α:Type}[Inhabited α] {c l:List α}{j:Nat}(h:c.drop j=l.drop j) (hj:j<l.length) (hc:j<c.length):c.getD j default=l[j]:=by
 have h1:(c.drop j)[0]?=(l.drop j)[0]?:=by rw[h]
 rw[List.getElem?_drop,List.getElem?_drop,Nat.add_zero,List.getElem?_eq_getElem hj]at h1
 rw[List.getD_eq_getElem?_getD,h1];rfl
theorem map_getD {α β:Type}[Inhabited α] {f:α→β}{c:List α}{j:Nat}(hj:j<c.length):(c.map f)[j]'(by simpa using hj)=f (c.getD j default):=by simp[hj]
theorem row_at {rows:List (List AV)}{n j:Nat}(hu:∀r∈rows,r.length=n) (hj:j<rows.length):(rows.flatten.drop (j*n)).take n=rows[j]:=by
 rw[←flat_drop hu,List.drop_eq_getElem_cons hj,List.flatten_cons,List.take_append_of_le_length (by rw[hu _ (List.getElem_mem hj)];exact Nat.le_refl _),List.take_of_length_le (by rw[hu _ (List.getElem_mem hj)];exact Nat.le_refl _)]
theorem flat_set {rows:List (List AV)}{n i:Nat}{x:List AV}(hu:∀r∈rows,r.length=n) (hi:i<rows.length) (hx:x.length=n):(rows.set i x).flatten=rows.flatten.take (i*n)++x++rows.flatten.drop (i*n+n):=by
 have h2:i*n+n=(i+1)*n:=by rw[Nat.add_mul,Nat.one_mul]
 rw[h2,←flat_take hu,←flat_drop hu,List.set_eq_take_append_cons_drop,if_pos hi]
 simp
theorem del_keep {α:Type}{p:α→Bool}{c l:List α}{i j:Nat}(hj:j<l.length) (h:c.take i=(l.take j).filter λx=>!p x) (hp:p l[j]=false) (hi:i<c.length):(c.set i l[j]).take (i+1)=(l.take (j+1)).filter λx=>!p x:=by
 rw[List.take_succ_eq_append_getElem hj,List.filter_append,List.filter_cons,hp,←h]
 rw[List.take_succ_eq_append_getElem (by simpa using hi),List.take_set_of_le (Nat.le_refl i)]
 simp
theorem del_drop {α:Type}{p:α→Bool}{c l:List α}{i j:Nat}(hj:j<l.length) (h:c.take i=(l.take j).filter λx=>!p x) (hp:p l[j]=true):c.take i=(l.take (j+1)).filter λx=>!p x:=by
 rw[List.take_succ_eq_append_getElem hj,List.filter_append,List.filter_cons,hp,←h]
 simp
end S
end Go.Proofs.YtdnijgdmohinlaaGreat
end
section
namespace Go.Proofs.YtdnijgdmohinlaaGreat.A
open Go Go.RowKit
theorem find_congr {α:Type}{p q:α→Bool}:∀{l:List α},(∀x∈l,p x=q x)→l.find? p=l.find? q
 | [],_=>rfl
 | x::l,h=>by
  rw[List.find?_cons,List.find?_cons,h x (by simp),find_congr λy hy=>h y (by simp[hy])]
def stL (l:List Oper) (ss:Nat→SV) (L:Nat→Bool) (st:ASt):ASt:={st with sl:=λt=>match (List.range l.length).find? (λi=>L i&&(l[i]?.bind (·.dst))==some t)with|some i=>ss i|none=>st.sl t}
theorem stL_congr {l:List Oper}{ss ss':Nat→SV}{L L':Nat→Bool}{st:ASt}(hL:∀i,i<l.length→L i=L' i) (hs:∀i,i<l.length→L i=true→ss i=ss' i):stL l ss L st=stL l ss' L' st:=by
 unfold stL
 congr 1
 funext t
 have e:(List.range l.length).find? (λi=>L i&&(l[i]?.bind (·.dst))==some t)=(List.range l.length).find? (λi=>L' i&&(l[i]?.bind (·.dst))==some t):=by
  apply find_congr
  intro i hi
  rw[hL i (List.mem_range.1 hi)]
 rw[←e]
 cases h:(List.range l.length).find? (λi=>L i&&(l[i]?.bind (·.dst))==some t)with
 | none=>rfl
 | some i =>
  have h1:=List.find?_some h
  have h2:=List.mem_range.1 (List.mem_of_find?_eq_some h)
  simp only[Bool.and_eq_true]at h1
  exact hs i h2 h1.1
theorem find_uniq {l:List Oper}{L:Nat→Bool}{i t:Nat}{o:Oper}(hd:Ev.distinct l=true) (hi:l[i]?=some o) (ho:o.dst=some t) (hL:L i=true):(List.range l.length).find? (λi=>L i&&(l[i]?.bind (·.dst))==some t)=some i:=by
 have hil:i<l.length:=(List.getElem?_eq_some_iff.1 hi).1
 cases h:(List.range l.length).find? (λi=>L i&&(l[i]?.bind (·.dst))==some t)with
 | none =>
  have:=List.find?_eq_none.1 h i (List.mem_range.2 hil)
  simp[hL,hi,ho]at this
 | some j =>
  have h1:=List.find?_some h
  simp only[Bool.and_eq_true,beq_iff_eq]at h1
  obtain⟨oj,h2,h3⟩:=Option.bind_eq_some_iff.1 h1.2
  congr 1
  rcases Nat.lt_trichotomy i j with e|e|e
  ·exact(dist_ne hd hi h2 e ho h3).elim
  ·exact e.symm
  ·exact(dist_ne hd h2 hi e h3 ho).elim
theorem stL_at {l:List Oper}{ss:Nat→SV}{L:Nat→Bool}{st:ASt}{i t:Nat}{o:Oper}(hd:Ev.distinct l=true) (hi:l[i]?=some o) (ho:o.dst=some t) (hL:L i=true):(stL l ss L st).sl t=ss i:=by
 unfold stL
 simp only[find_uniq hd hi ho hL]
theorem stL_out {l:List Oper}{ss:Nat→SV}{L:Nat→Bool}{st:ASt}{t:Nat}(h:∀(i:Nat) (o:Oper),l[i]?=some o→o.dst=some t→L i=false):(stL l ss L st).sl t=st.sl t:=by
 unfold stL
 have e:(List.range l.length).find? (λi=>L i&&(l[i]?.bind (·.dst))==some t)=none:=by
  rw[List.find?_eq_none]
  intro i hi
  simp only[Bool.and_eq_true,beq_iff_eq,not_and]
  intro hL h2
  obtain⟨o,h3,h4⟩:=Option.bind_eq_some_iff.1 h2
  rw[h i o h3 h4]at hL;cases hL
 simp only[e]
theorem stL_none {l:List Oper}{ss:Nat→SV}{st:ASt}:stL l ss (λ_=>false) st=st:=by
 unfold stL
 have e:∀t,(List.range l.length).find? (λi=>false&&(l[i]?.bind (·.dst))==some t)=none:=λt=>by
  rw[List.find?_eq_none];intro i _;simp
 simp only[e]
theorem stL_set {l:List Oper}{ss:Nat→SV}{L L':Nat→Bool}{st:ASt}{j d:Nat}{o:Oper}(hd:Ev.distinct l=true) (hj:l[j]?=some o) (ho:o.dst=some d) (hL':∀i,L' i=(L i||decide (i=j))):(stL l ss L st).set d (ss j)=stL l ss L' st:=by
 have hb:∀{s s':ASt},s.sl=s'.sl→s.ob=s'.ob→s=s':=λ{s s'} h1 h2=>by cases s;cases s';simp_all
 refine hb (funext λt=>?_) rfl
 show(bif Nat.beq t d then ss j else(stL l ss L st).sl t)=(stL l ss L' st).sl t
 cases ht:Nat.beq t d with
 | true =>
  have:=Nat.eq_of_beq_eq_true ht
  subst this
  exact(stL_at hd hj ho (by rw[hL' j];simp)).symm
 | false =>
  have hne:t≠d:=λe=>by subst e;simp at ht
  show(stL l ss L st).sl t=(stL l ss L' st).sl t
  unfold stL
  have e:(List.range l.length).find? (λi=>L i&&(l[i]?.bind (·.dst))==some t)=(List.range l.length).find? (λi=>L' i&&(l[i]?.bind (·.dst))==some t):=by
   apply find_congr
   intro i _
   rw[hL' i]
   by_cases e:i=j
   ·subst e
    have:((l[i]?.bind (·.dst))==some t)=false:=by
     rw[hj]
     simp only[Option.bind_some,ho,beq_eq_false_iff_ne,ne_eq,Option.some.injEq]
     exact λe=>hne e.symm
    rw[this];simp
   ·simp[e]
  simp only[e]
theorem St_frame {P:Program}{ops:Array Oper}{st st':ASt}{o:Oper}{s:SV}(h:St P ops st o s) (hx:∀x∈opsOf o,st'.ev x=st.ev x) (hg:∀j b oj dj,o.guard=some (j,b)→ops[j]?=some oj→oj.dst=some dj→st'.sl dj=st.sl dj) (hob:∀k g ob,st.ob k=some (g,ob)→st'.ob k=some (g,ob)):St P ops st' o s:=λB M ρ w a h1 h2 h3 h4 hev=>by
 have h5:=h B M ρ w a h1 (λx hx'=>by rw[←hx x hx'];exact h2 x hx') (λj b oj dj k1 k2 k3=>by rw[←hg j b oj dj k1 k2 k3];exact h3 j b oj dj k1 k2 k3) (λk g ob hk=>h4 k g ob (hob k g ob hk)) (hev.sub hob)
 split
 ·rename_i hw
  rw[if_pos hw]at h5
  intro K hK
  exact h5 K λv w' hk hv=>hK v w' (hk.sup hev hob) hv
 ·rename_i hw
  rw[if_neg hw]at h5
  exact h5
theorem dr_all {P:Program}{ops:Array Oper}{R:ASt→Prop}{l:List Oper}{st:ASt}(hd:Ev.distinct l=true):∀(r:List Oper) (j:Nat) (ss0:Nat→SV),l.drop j=r→Dr P ops R r (stL l ss0 (λi=>decide (i<j)) st) →
  ∃ss:Nat→SV,(∀i,i<j→ss i=ss0 i)∧(∀i o,j≤i→l[i]?=some o→∃d,o.dst=some d∧St P ops (stL l ss (λx=>decide (x<i)) st) o (ss i))∧R (stL l ss (λ_=>true) st)
 | [],j,ss0,hr,h=>⟨ss0,λ_ _=>rfl,λi o h1 h2=>by
   have h3:=(List.getElem?_eq_some_iff.1 h2).1
   have h4:=congrArg List.length hr
   simp at h4;omega,by
   have h4:=congrArg List.length hr
   simp at h4
   have e:stL l ss0 (λi=>decide (i<j)) st=stL l ss0 (λ_=>true) st:=stL_congr (λi hi=>by simp;omega) (λ_ _ _=>rfl)
   rw[←e];exact h⟩
 | o::r,j,ss0,hr,h=>by
  obtain⟨d,s,hdo,hst,hdr⟩:=h
  have hj:l[j]?=some o:=by
   have:(l.drop j)[0]?=some o:=by rw[hr];rfl
   simpa using this
  let ss1:Nat→SV:=λi=>if i=j then s else ss0 i
  have e0:stL l ss0 (λi=>decide (i<j)) st=stL l ss1 (λi=>decide (i<j)) st:=stL_congr (λ_ _=>rfl) (λi _ h=>by
   have:i<j:=by simpa using h
   simp[ss1,show i≠j by omega])
  have e1:(stL l ss0 (λi=>decide (i<j)) st).set d s=stL l ss1 (λi=>decide (i<j+1)) st:=by
   rw[e0]
   have:s=ss1 j:=by simp[ss1]
   rw[this]
   exact stL_set hd hj hdo λi=>by
    rw[Bool.eq_iff_iff];simp;omega
  rw[e1]at hdr
  obtain⟨ss,h1,h2,h3⟩:=dr_all hd r (j+1) ss1 (by
   have:(l.drop j).drop 1=r:=by rw[hr];rfl
   rwa [List.drop_drop]at this) hdr
  refine⟨ss,λi hi=>by rw[h1 i (by omega)];simp[ss1,show i≠j by omega],λi o' hi ho'=>?_,h3⟩
  by_cases e:i=j
  ·subst e
   rw[hj]at ho';cases ho'
   refine⟨d,hdo,?_⟩
   have e2:stL l ss0 (λx=>decide (x<i)) st=stL l ss (λx=>decide (x<i)) st:=stL_congr (λ_ _=>rfl) (λx _ hx=>by
    have:x<i:=by simpa using hx
    rw[h1 x (by omega)];simp[ss1,show x≠i by omega])
   rw[←e2]
   have:ss i=s:=by rw[h1 i (by omega)];simp[ss1]
   rw[this];exact hst
  ·exact h2 i o' (by omega) ho'
def alcS (d g:Nat) (o:AO) (st:ASt):ASt:=(st.put d g o).set d (.bx d g 0)
def alcO (d:Nat) (o:AO):Option Nat→ASt→ASt
 | none,st=>st
 | some g,st=>alcS d g o st
theorem alcS_set {d g e:Nat}{o:AO}{s:SV}{st:ASt}(h:e≠d):(alcS d g o st).set e s=alcS d g o (st.set e s):=by
 have hb:∀{s s':ASt},s.sl=s'.sl→s.ob=s'.ob→s=s':=λ{s s'} h1 h2=>by cases s;cases s';simp_all
 refine hb (funext λt=>?_) rfl
 show(bif Nat.beq t e then s else bif Nat.beq t d then SV.bx d g 0 else st.sl t)=(bif Nat.beq t d then SV.bx d g 0 else bif Nat.beq t e then s else st.sl t)
 cases h1:Nat.beq t e with
 | false=>rfl
 | true =>
  cases h2:Nat.beq t d with
  | false=>rfl
  | true =>
   have e1:=Nat.eq_of_beq_eq_true h1
   have e2:=Nat.eq_of_beq_eq_true h2
   exact absurd (e1.symm.trans e2) h
def drawAB (N:Nat) (l:List Oper) (n dA:Nat):Bool:=Ev.distinct (l.take n)&&Ev.backB l.toArray&&Ev.tailB l.toArray (n+1)&&drB N l n&&((l.take n).all λo=>match o.dst with|some d=>decide (d<N)&&!Nat.beq d dA|none=>false)&&(l.take n).all λo=>((opsOf o).all fun|.tmp t=>!Nat.beq t dA|_=>true)&&match o.guard with|some (j,_)=>(match l[j]? with|some oj=>(match oj.dst with|some dj=>!Nat.beq dj dA|none=>true)|none=>true)|none=>true
section
variable {P:Program}{N:Nat}{M0:Nat→Prop}{w0:Base}{Q:Exit→ASt→Prop}{st:ASt}
theorem drawA_go {l:List Oper}{n dA:Nat}{oA:Oper}{T:TypeId}{z:Value}{zs:List AV}{ss:Nat→SV}(hok:drawAB N l n dA=true) (hA:l[n]?=some oA) (ho:oA.op=.alloc T) (hgA:oA.guard=none) (hdA:oA.dst=some dA) (hNA:dA<N) (hz:∀w,(zeroValue T).run P w=.ok z w) (hzs:z.cells.toList.map AV.v=zs) (hv:z.cells.toList.all (λz=>decide (vok z))=true) (hfree:st.ob dA=none)
  (hst:∀i o,(l.take n)[i]?=some o→∃d,o.dst=some d∧St P l.toArray (stL (l.take n) ss (λx=>decide (x<i)) st) o (ss i))
  (hfin:∀g,Al P N M0 w0 l.toArray Q (l.drop (n+1)) (alcS dA g (.box T (zs.map .d)) (stL (l.take n) ss (λ_=>true) st))) :
  ∀(fuel:Nat) (listed:Array Bool) (og:Option Nat),listed.size=l.length→Ev.Closed l.toArray listed→listed[n]?=some og.isSome→(∀i,n<i→i<l.length→listed[i]?=some false)→listed.count false≤fuel →
   Ad P N M0 w0 l.toArray Q fuel listed (alcO dA (.box T (zs.map .d)) og (stL (l.take n) ss (λi=>listed.getD i false) st)):=by
 simp only[drawAB,Bool.and_eq_true]at hok
 obtain⟨⟨⟨⟨⟨hd,hb⟩,ht⟩,hdr⟩,hds⟩,hdA2⟩:=hok
 have hnl:n<l.length:=(List.getElem?_eq_some_iff.1 hA).1
 have hsz:l.toArray.size=l.length:=by simp
 have hget:∀(j:Nat),l.toArray[j]?=l[j]?:=λj=>by simp
 have htk:∀(j:Nat),j<n→(l.take n)[j]?=l[j]?:=λj hj=>by rw[List.getElem?_take,if_pos hj]
 have hlen:(l.take n).length=n:=by simp;omega
 have fin:∀(fuel:Nat) (listed:Array Bool) (og:Option Nat),listed.size=l.length→Ev.Closed l.toArray listed→listed[n]?=some og.isSome→(∀i,n<i→i<l.length→listed[i]?=some false)→listed.count false≤fuel→(∀i,i<n+1→listed[i]?=some true) →
   Ad P N M0 w0 l.toArray Q fuel listed (alcO dA (.box T (zs.map .d)) og (stL (l.take n) ss (λi=>listed.getD i false) st)):=by
  intro fuel listed og hs hcl hog hun hfu hall
  have h1:=hall n (by omega)
  rw[hog]at h1
  obtain⟨g,rfl⟩:∃g,og=some g:=by
   cases og with
   | none=>simp at h1
   | some g=>exact⟨g,rfl⟩
  have e:stL (l.take n) ss (λi=>listed.getD i false) st=stL (l.take n) ss (λ_=>true) st:=stL_congr (λi hi=>by
   have:=hall i (by omega)
   simp[Array.getD_eq_getD_getElem?,this]) (λ_ _ _=>rfl)
  rw[e]
  refine⟨λa w hs'=>?_⟩
  have hcnt:l.length - (n+1)≤fuel:=by
   have e:listed.toList=listed.toList.take (n+1)++List.replicate (l.length - (n+1)) false:=by
    apply List.ext_getElem?
    intro i
    rcases Nat.lt_or_ge i (n+1)with h|h
    ·rw[List.getElem?_append_left (by simp;omega),List.getElem?_take_of_lt h]
    ·rw[List.getElem?_append_right (by simp;omega)]
     rcases Nat.lt_or_ge i l.length with h2|h2
     ·have:=hun i (by omega) h2
      have e1:listed.toList[i]?=some false:=by simpa using this
      rw[e1,List.getElem?_replicate,if_pos (by simp;omega)]
     ·rw[List.getElem?_eq_none (by simp;omega),List.getElem?_eq_none (by simp;omega)]
   have h2:listed.count false=listed.toList.count false:=by rw[Array.count_toList]
   rw[h2,e,List.count_append]at hfu
   simp at hfu
   omega
  refine Ev.seq_any hb ht (l.length - (n+1)) fuel (n+1) listed a w (by simp;omega) hcnt (Nat.le_refl _) (by simpa using hs) (λi hi=>hall i hi) (λi hi hi2=>hun i (by omega) (by simpa using hi2)) hcl ?_
  have h3:=wpOps_eq_wpList (P:=P) (ops:=l.toArray) (Q:=QL N M0 w0 Q) (l.drop (n+1)) (n+1) (λj=>by simp)
  rw[List.length_drop]at h3
  rw[h3]
  exact(hfin g).out a w hs'
 intro fuel
 induction fuel with
 | zero =>
  intro listed og hs hcl hog hun hn
  refine fin 0 listed og hs hcl hog hun hn λi hi=>?_
  cases hl:listed[i]? with
  | none=>rw[Array.getElem?_eq_none_iff]at hl;omega
  | some b =>
   cases b with
   | true=>rfl
   | false =>
    have:false∈listed:=Array.mem_of_getElem? hl
    have:=Array.count_pos_iff.2 this
    omega
 | succ fuel ih =>
  intro listed og hs hcl hog hun hn
  by_cases hall:∀(i:Nat),i<n+1→listed[i]?=some true
  ·exact fin (fuel+1) listed og hs hcl hog hun hn hall
  refine⟨λa w hsim=>⟨λh0=>?_,λj hj=>?_⟩⟩
  ·exfalso
   apply hall
   intro i
   induction i using Nat.strongRecOn with
   | _ i ih' =>
    intro hi
    cases hl:listed[i]? with
    | none=>rw[Array.getElem?_eq_none_iff]at hl;omega
    | some b =>
     cases b with
     | true=>rfl
     | false =>
      have:=Ev.ready_of_least hb (by simpa using hs) (by simp;omega) hl (λk hk=>ih' k hk (by omega))
      rw[h0]at this
      cases this
  obtain⟨hju,o,hoj,hdone⟩:=mem_ready.1 hj
  have hjo:j<l.length:=by
   have:=(Array.getElem?_eq_some_iff.1 hoj).1
   simpa using this
  have hlt:j<listed.size:=by omega
  have hjl:listed[j]?=some false:=by simp[Array.getD,hlt]at hju;simp[hlt,hju]
  have hj1:j<n+1:=by
   rcases Nat.lt_or_ge j (n+1)with h|h
   ·exact h
   ·exact(hall λi hi=>Ev.ready_all ht hcl hj h i (by omega)).elim
  have hoj':l[j]?=some o:=by rw[←hget];exact hoj
  have hdl:∀d∈Ev.depsOf o,listed[d]?=some true:=Ev.deps_listed hdone
  have hold:∀(i:Nat),i≠j→(listed.setIfInBounds j true)[i]?=listed[i]?:=λi hij=>by
   rw[Array.getElem?_setIfInBounds,if_neg (Ne.symm hij)]
  have hcl':Ev.Closed l.toArray (listed.setIfInBounds j true):=λi o' hi ho' d hd'=>by
   have keep:∀(y:Nat),listed[y]?=some true→(listed.setIfInBounds j true)[y]?=some true:=λy hy=>by
    by_cases e:y=j
    ·subst e;simp[hlt]
    ·rw[hold y e];exact hy
   by_cases hij:i=j
   ·subst hij
    rw[hoj]at ho'
    cases ho'
    exact keep d (hdl d hd')
   ·rw[hold i hij]at hi
    exact keep d (hcl i o' hi ho' d hd')
  have hcnt:(listed.setIfInBounds j true).count false≤fuel:=by
   have:=Array.count_set (xs:=listed) (i:=j) (a:=true) (b:=false) hlt
   rw[Array.setIfInBounds,dif_pos hlt]
   have h3:listed[j]=false:=by simpa [hlt]using hjl
   have h4:0<listed.count false:=Array.count_pos_iff.2 (Array.mem_iff_getElem.2 ⟨j,hlt,h3⟩)
   rw[this]
   simp[h3]
   omega
  have hLL:∀i,(listed.setIfInBounds j true).getD i false=(listed.getD i false||decide (i=j)):=λi=>by
   by_cases e:i=j
   ·subst e;simp[Array.getD_eq_getD_getElem?,hlt]
   ·simp[Array.getD_eq_getD_getElem?,hold i e,e]
  have hun':∀i,n<i→i<l.length→(listed.setIfInBounds j true)[i]?=some false:=λi h1 h2=>by
   rw[hold i (by omega)];exact hun i h1 h2
  by_cases hjn:j=n
  ·subst hjn
   rw[hA]at hoj';cases hoj'
   have hog':og=none:=by
    rw[hjl]at hog
    cases og with
    | none=>rfl
    | some g=>simp at hog
   subst hog'
   refine wpOp_of_list hoj ((Al_alloc (l:=[]) (Q:=Then (Ad P N M0 w0 l.toArray Q fuel (listed.setIfInBounds j true)) Q) ho hgA hdA hNA hz hzs hv (λg=>Al_nil ?_)).out a w hsim) (λa' w' ⟨st',h1,h2⟩=>h1.out a' w' h2) (λc a' w' h=>h) (λ⟨a',w',h⟩=>⟨a',w',h⟩)
   have:=ih (listed.setIfInBounds j true) (some g) (by simpa using hs) hcl' (by simp[hlt]) hun' hcnt
   have e:stL (l.take j) ss (λi=>(listed.setIfInBounds j true).getD i false) st=stL (l.take j) ss (λi=>listed.getD i false) st:=stL_congr (λi hi=>by
    rw[hLL i]
    simp at hi
    simp[show i≠j by omega]) (λ_ _ _=>rfl)
   rw[e]at this
   exact this
  ·have hjn':j<n:=by omega
   have hjt:(l.take n)[j]?=some o:=by rw[htk j hjn'];exact hoj'
   obtain⟨d,hdo,hS⟩:=hst j o hjt
   have hmem:o∈l.take n:=List.mem_of_getElem? hjt
   have hdN:=List.all_eq_true.1 hds o hmem
   rw[hdo]at hdN
   simp only[Bool.and_eq_true,decide_eq_true_eq,Bool.not_eq_true']at hdN
   have hddA:d≠dA:=λe=>by rw[e]at hdN;simp at hdN
   have hno:=List.all_eq_true.1 hdA2 o hmem
   simp only[Bool.and_eq_true]at hno
   have hdrj:=List.all_eq_true.1 hdr j (List.mem_range.2 hjn')
   rw[hoj']at hdrj
   simp only[Bool.and_eq_true]at hdrj
   obtain⟨⟨hops,hgd⟩,hconst⟩:=hdrj
   have hsl:∀t,opB (l.take n) j o t=true→t≠dA→(alcO dA (.box T (zs.map .d)) og (stL (l.take n) ss (λi=>listed.getD i false) st)).sl t=(stL (l.take n) ss (λx=>decide (x<j)) st).sl t:=by
    intro t hop hne
    have e1:(alcO dA (.box T (zs.map .d)) og (stL (l.take n) ss (λi=>listed.getD i false) st)).sl t=(stL (l.take n) ss (λi=>listed.getD i false) st).sl t:=by
     cases og with
     | none=>rfl
     | some g =>
      show(bif Nat.beq t dA then _ else _)=_
      have:Nat.beq t dA=false:=by
       cases hb:Nat.beq t dA with
       | false=>rfl
       | true=>exact absurd (Nat.eq_of_beq_eq_true hb) hne
      rw[this];rfl
    rw[e1]
    by_cases hin:inB (l.take n) t=true
    ·simp only[opB,hin,Bool.not_true,Bool.false_or,List.any_eq_true,List.mem_range,Bool.and_eq_true,beq_iff_eq]at hop
     obtain⟨i,hi,hid,hic⟩:=hop
     obtain⟨oi,hoi,hoid⟩:=Option.bind_eq_some_iff.1 hid
     have hli:=hdl i (by simpa using hic)
     rw[stL_at hd hoi hoid (by simp[Array.getD_eq_getD_getElem?,hli]),stL_at hd hoi hoid (by simpa using hi)]
    ·have hout:∀(i:Nat) (o':Oper),(l.take n)[i]?=some o'→o'.dst≠some t:=λi o' h1 h2=>hin (by
      simp only[inB,List.any_eq_true,beq_iff_eq]
      exact⟨o',List.mem_of_getElem? h1,h2⟩)
     rw[stL_out λi o' h1 h2=>absurd h2 (hout i o' h1),stL_out λi o' h1 h2=>absurd h2 (hout i o' h1)]
   have hS2:St P l.toArray (alcO dA (.box T (zs.map .d)) og (stL (l.take n) ss (λi=>listed.getD i false) st)) o (ss j):=by
    refine St_frame hS (λx hx=>?_) (λj' b oj dj h1 h2 h3=>?_) (λk g ob h=>?_)
    ·cases x with
     | tmp t =>
      have h1:=List.all_eq_true.1 hops _ hx
      have h2:=List.all_eq_true.1 hno.1 _ hx
      exact hsl t h1 (λe=>by rw[e]at h2;simp at h2)
     | _=>rfl
    ·rw[hget]at h2
     rw[h1]at hgd
     simp only[h2,h3,Bool.and_eq_true,decide_eq_true_eq]at hgd
     have h4:=hno.2
     rw[h1]at h4
     simp only[h2,h3,Bool.not_eq_true']at h4
     exact hsl dj hgd.1 (λe=>by rw[e]at h4;simp at h4)
    ·cases og with
     | none=>exact h
     | some g' =>
      show(bif Nat.beq k dA then _ else st.ob k)=_
      have h':st.ob k=some (g,ob):=h
      have:Nat.beq k dA=false:=by
       cases hb:Nat.beq k dA with
       | false=>rfl
       | true =>
        have:=Nat.eq_of_beq_eq_true hb
        subst this
        rw[hfree]at h';cases h'
      rw[this];exact h'
   refine wpOp_of_list hoj ((Al_st (l:=[]) (Q:=Then (Ad P N M0 w0 l.toArray Q fuel (listed.setIfInBounds j true)) Q) hS2 hdo hdN.1 hconst (λj' b oj dj h1 h2 h3=>?_) (Al_nil ?_)).out a w hsim) (λa' w' ⟨st',h1,h2⟩=>h1.out a' w' h2) (λc a' w' h=>h) (λ⟨a',w',h⟩=>⟨a',w',h⟩)
   ·rw[hget]at h2
    rw[h1]at hgd
    simp only[h2,h3,Bool.and_eq_true,decide_eq_true_eq]at hgd
    exact hgd.2
   ·have:=ih (listed.setIfInBounds j true) og (by simpa using hs) hcl' (by rw[hold n (by omega)];exact hog) hun' hcnt
    have e:(alcO dA (.box T (zs.map .d)) og (stL (l.take n) ss (λi=>listed.getD i false) st)).set d (ss j)=alcO dA (.box T (zs.map .d)) og (stL (l.take n) ss (λi=>(listed.setIfInBounds j true).getD i false) st):=by
     have e2:(stL (l.take n) ss (λi=>listed.getD i false) st).set d (ss j)=stL (l.take n) ss (λi=>(listed.setIfInBounds j true).getD i false) st:=stL_set hd hjt hdo hLL
     cases og with
     | none=>exact e2
     | some g=>show(alcS _ _ _ _).set d (ss j)=alcS _ _ _ _;rw[alcS_set hddA,e2]
    show Ad P N M0 w0 l.toArray Q fuel (listed.setIfInBounds j true) _
    rw[e]
    exact this
theorem Aw_drawA {id:Nat}{l:List Oper}(n:Nat) {oA:Oper}{dA:Nat}{T:TypeId}{z:Value}{zs:List AV}(hm:P.follows .mixedOrders=true) (hok:drawAB N l n dA=true) (hA:l[n]?=some oA) (ho:oA.op=.alloc T) (hgA:oA.guard=none) (hdA:oA.dst=some dA) (hNA:dA<N) (hz:∀w,(zeroValue T).run P w=.ok z w) (hzs:z.cells.toList.map AV.v=zs) (hv:z.cells.toList.all (λz=>decide (vok z))=true) (hfree:st.ob dA=none)
  (h:Dr P l.toArray (λst'=>∀g,Al P N M0 w0 l.toArray Q (l.drop (n+1)) ((st'.put dA g (.box T (zs.map .d))).set dA (.bx dA g 0))) (l.take n) st):Aw P N M0 w0 (.region id l.toArray true) Q st:=by
 have hd:Ev.distinct (l.take n)=true:=by
  simp only[drawAB,Bool.and_eq_true]at hok
  exact hok.1.1.1.1.1
 have hnl:n<l.length:=(List.getElem?_eq_some_iff.1 hA).1
 have h0:stL (l.take n) (λ_=>.any) (λi=>decide (i<0)) st=st:=by
  refine Eq.trans (stL_congr (λi _=>?_) (λ_ _ _=>rfl)) (stL_none (l:=l.take n) (ss:=λ_=>.any) (st:=st))
  simp
 obtain⟨ss,_,h2,h3⟩:=dr_all hd (l.take n) 0 (λ_=>.any) rfl (by rw[h0];exact h)
 refine Aw_drawn hm ?_
 have:=drawA_go hok hA ho hgA hdA hNA hz hzs hv hfree (λi o hi=>h2 i o (Nat.zero_le _) hi) (λg=>h3 g) l.length (List.replicate l.length false).toArray none (by simp) (λi o h1 _ d _=>by
  exfalso
  rw[List.getElem?_toArray,List.getElem?_replicate]at h1
  split at h1<;>simp at h1) (by simp[List.getElem?_replicate,hnl]) (λi _ hi=>by simp[List.getElem?_replicate,hi]) (by simp[Array.count_replicate])
 have e:stL (l.take n) ss (λi=>(List.replicate l.length false).toArray.getD i false) st=st:=by
  refine Eq.trans (stL_congr (λi _=>?_) (λ_ _ _=>rfl)) stL_none
  rw[Array.getD_eq_getD_getElem?,List.getElem?_toArray,List.getElem?_replicate]
  split<;>rfl
 rw[e]at this
 exact this
theorem Aw_dA {id:Nat}{l:List Oper}{oA:Oper}{dA:Nat}{T:TypeId}{z:Value}{zs:List AV}(n:Nat) (hz:∀w,(zeroValue T).run P w=.ok z w) (h:Dr P l.toArray (λst'=>∀g,Al P N M0 w0 l.toArray Q (l.drop (n+1)) ((st'.put dA g (.box T (zs.map .d))).set dA (.bx dA g 0))) (l.take n) st) (hm:P.follows .mixedOrders=true:=by kernel_rfl) (hok:drawAB N l n dA=true:=by kernel_rfl) (hA:l[n]?=some oA:=by rfl) (ho:oA.op=.alloc T:=by rfl) (hgA:oA.guard=none:=by rfl) (hdA:oA.dst=some dA:=by rfl) (hNA:dA<N:=by decide) (hzs:z.cells.toList.map AV.v=zs:=by rfl) (hv:z.cells.toList.all (λz=>decide (vok z))=true:=by kernel_rfl) (hfree:st.ob dA=none:=by rfl):Aw P N M0 w0 (.region id l.toArray true) Q st:=Aw_drawA (n:=n) (hm:=hm) (hok:=hok) (hA:=hA) (ho:=ho) (hgA:=hgA) (hdA:=hdA) (hNA:=hNA) (hz:=hz) (hzs:=hzs) (hv:=hv) (hfree:=hfree) (h:=h)
end
end Go.Proofs.YtdnijgdmohinlaaGreat.A
end
section
namespace Go.Proofs.YtdnijgdmohinlaaGreat.A
open Go Go.RowKit
def preB (ops:Array Oper) (n k0:Nat):Bool:=(List.range ops.size).all λj=>decide (j<n)||(List.range n).all λi=>decide (i<k0)||(Ev.anc ops j (match ops[j]? with|some o=>Ev.depsOf o|none=>[])).contains i
theorem pre_ready {ops:Array Oper}{listed:Array Bool}{n k0 j:Nat}(ht:preB ops n k0=true) (h0:∀i,i<k0→listed[i]?=some true) (hc:Ev.Closed ops listed) (hj:j∈Region.ready .any ops listed) (hk:n≤j):∀i,i<n→listed[i]?=some true:=by
 obtain⟨_,o,ho,hall⟩:=mem_ready.1 hj
 have hlt:j<ops.size:=(Array.getElem?_eq_some_iff.1 ho).1
 have h1:=List.all_eq_true.1 ht j (List.mem_range.2 hlt)
 rw[ho]at h1
 simp only[Bool.or_eq_true,decide_eq_true_eq,List.all_eq_true]at h1
 intro i hi
 rcases(h1.resolve_left (by omega)) i (List.mem_range.2 hi)with h2|h2
 ·exact h0 i h2
 ·exact Ev.anc_listed hc j _ (Ev.deps_listed hall) i (by simpa using h2)
def drawPB (N:Nat) (l:List Oper) (n k0:Nat):Bool:=Ev.distinct (l.take n)&&Ev.backB l.toArray&&preB l.toArray n k0&&drB N l n&&(l.take n).all λo=>match o.dst with|some d=>decide (d<N)|none=>false
theorem back_lt {ops:Array Oper}{i d:Nat}{o:Oper}(hb:Ev.backB ops=true) (ho:ops[i]?=some o) (hd:d∈Ev.depsOf o):d<i:=by
 have hlt:i<ops.size:=(Array.getElem?_eq_some_iff.1 ho).1
 have h1:=List.all_eq_true.1 hb i (List.mem_range.2 hlt)
 rw[ho]at h1
 simp only[Array.all_eq_true_iff_forall_mem,Bool.or_eq_true,Bool.not_eq_true',decide_eq_true_eq]at h1
 obtain⟨e,he,hbi,rfl⟩:=Ev.mem_deps hd
 rcases h1 e (by simpa using he)with h|h
 ·rw[h]at hbi;cases hbi
 ·exact h
section
variable {P:Program}{N:Nat}{M0:Nat→Prop}{w0:Base}{Q:Exit→ASt→Prop}{st:ASt}
theorem drawP_go {l:List Oper}{k0 n m:Nat}{ss:Nat→SV}(hok:drawPB N l n k0=true) (hnm:l.length=n+m)
  (hst:∀i o,k0≤i→(l.take n)[i]?=some o→∃d,o.dst=some d∧St P l.toArray (stL (l.take n) ss (λx=>decide (k0≤x)&&decide (x<i)) st) o (ss i))
  (hfin:Ad P N M0 w0 l.toArray Q m (List.replicate n true++List.replicate m false).toArray (stL (l.take n) ss (λx=>decide (k0≤x)) st)) :
  ∀(fuel:Nat) (listed:Array Bool),listed.size=l.length→Ev.Closed l.toArray listed→(∀i,i<k0→listed[i]?=some true)→(∀i,n≤i→i<l.length→listed[i]?=some false)→listed.count false=fuel →
   Ad P N M0 w0 l.toArray Q fuel listed (stL (l.take n) ss (λi=>decide (k0≤i)&&listed.getD i false) st):=by
 simp only[drawPB,Bool.and_eq_true]at hok
 obtain⟨⟨⟨⟨hd,hb⟩,ht⟩,hdr⟩,hds⟩:=hok
 have hsz:l.toArray.size=l.length:=by simp
 have hget:∀(j:Nat),l.toArray[j]?=l[j]?:=λj=>by simp
 have htk:∀(j:Nat),j<n→(l.take n)[j]?=l[j]?:=λj hj=>by rw[List.getElem?_take,if_pos hj]
 have hlen:(l.take n).length=n:=by simp;omega
 have fin:∀(fuel:Nat) (listed:Array Bool),listed.size=l.length→(∀i,n≤i→i<l.length→listed[i]?=some false)→listed.count false=fuel→(∀i,i<n→listed[i]?=some true) →
   Ad P N M0 w0 l.toArray Q fuel listed (stL (l.take n) ss (λi=>decide (k0≤i)&&listed.getD i false) st):=by
  intro fuel listed hs hun hfu hall
  have e1:listed=(List.replicate n true++List.replicate m false).toArray:=by
   apply Array.ext'
   apply List.ext_getElem?
   intro i
   rw[Array.getElem?_toList]
   rcases Nat.lt_or_ge i n with h|h
   ·rw[hall i h,List.getElem?_append_left (by simpa using h),List.getElem?_replicate,if_pos h]
   ·rw[List.getElem?_append_right (by simpa using h),List.getElem?_replicate,List.length_replicate]
    rcases Nat.lt_or_ge i l.length with h2|h2
    ·rw[hun i h h2,if_pos (by omega)]
    ·rw[if_neg (by omega),Array.getElem?_eq_none (by omega)]
  have e2:fuel=m:=by rw[←hfu,e1];simp[List.count_replicate]
  have e:stL (l.take n) ss (λi=>decide (k0≤i)&&listed.getD i false) st=stL (l.take n) ss (λx=>decide (k0≤x)) st:=stL_congr (λi hi=>by
   have:=hall i (by omega)
   simp[Array.getD_eq_getD_getElem?,this]) (λ_ _ _=>rfl)
  rw[e,e2,e1]
  exact hfin
 intro fuel
 induction fuel with
 | zero =>
  intro listed hs hcl hk0 hun hn
  refine fin 0 listed hs hun hn λi hi=>?_
  cases hl:listed[i]? with
  | none=>rw[Array.getElem?_eq_none_iff]at hl;omega
  | some b =>
   cases b with
   | true=>rfl
   | false =>
    have:false∈listed:=Array.mem_of_getElem? hl
    have:=Array.count_pos_iff.2 this
    omega
 | succ fuel ih =>
  intro listed hs hcl hk0 hun hn
  by_cases hall:∀(i:Nat),i<n→listed[i]?=some true
  ·exact fin (fuel+1) listed hs hun hn hall
  refine⟨λa w hsim=>⟨λh0=>?_,λj hj=>?_⟩⟩
  ·exfalso
   apply hall
   intro i
   induction i using Nat.strongRecOn with
   | _ i ih' =>
    intro hi
    cases hl:listed[i]? with
    | none=>rw[Array.getElem?_eq_none_iff]at hl;omega
    | some b =>
     cases b with
     | true=>rfl
     | false =>
      have:=Ev.ready_of_least hb (by simpa using hs) (by simp;omega) hl (λk hk=>ih' k hk (by omega))
      rw[h0]at this
      cases this
  obtain⟨hju,o,hoj,hdone⟩:=mem_ready.1 hj
  have hjo:j<l.length:=by
   have:=(Array.getElem?_eq_some_iff.1 hoj).1
   simpa using this
  have hlt:j<listed.size:=by omega
  have hjl:listed[j]?=some false:=by simp[Array.getD,hlt]at hju;simp[hlt,hju]
  have hjn':j<n:=by
   rcases Nat.lt_or_ge j n with h|h
   ·exact h
   ·exact(hall (pre_ready ht hk0 hcl hj h)).elim
  have hoj':l[j]?=some o:=by rw[←hget];exact hoj
  have hdl:∀d∈Ev.depsOf o,listed[d]?=some true:=Ev.deps_listed hdone
  have hold:∀(i:Nat),i≠j→(listed.setIfInBounds j true)[i]?=listed[i]?:=λi hij=>by
   rw[Array.getElem?_setIfInBounds,if_neg (Ne.symm hij)]
  have hcl':Ev.Closed l.toArray (listed.setIfInBounds j true):=λi o' hi ho' d hd'=>by
   have keep:∀(y:Nat),listed[y]?=some true→(listed.setIfInBounds j true)[y]?=some true:=λy hy=>by
    by_cases e:y=j
    ·subst e;simp[hlt]
    ·rw[hold y e];exact hy
   by_cases hij:i=j
   ·subst hij
    rw[hoj]at ho'
    cases ho'
    exact keep d (hdl d hd')
   ·rw[hold i hij]at hi
    exact keep d (hcl i o' hi ho' d hd')
  have hcnt:(listed.setIfInBounds j true).count false=fuel:=by
   have:=Array.count_set (xs:=listed) (i:=j) (a:=true) (b:=false) hlt
   rw[Array.setIfInBounds,dif_pos hlt]
   have h3:listed[j]=false:=by simpa [hlt]using hjl
   have h4:0<listed.count false:=Array.count_pos_iff.2 (Array.mem_iff_getElem.2 ⟨j,hlt,h3⟩)
   rw[this]
   simp[h3]
   omega
  have hLL:∀i,(listed.setIfInBounds j true).getD i false=(listed.getD i false||decide (i=j)):=λi=>by
   by_cases e:i=j
   ·subst e;simp[Array.getD_eq_getD_getElem?,hlt]
   ·simp[Array.getD_eq_getD_getElem?,hold i e,e]
  have hun':∀i,n≤i→i<l.length→(listed.setIfInBounds j true)[i]?=some false:=λi h1 h2=>by
   rw[hold i (by omega)];exact hun i h1 h2
  have hkj:k0≤j:=by
   rcases Nat.lt_or_ge j k0 with h|h
   ·have:=hk0 j h
    rw[hjl]at this;simp at this
   ·exact h
  have hk0':∀i,i<k0→(listed.setIfInBounds j true)[i]?=some true:=λi hi=>by rw[hold i (by omega)];exact hk0 i hi
  have hjt:(l.take n)[j]?=some o:=by rw[htk j hjn'];exact hoj'
  obtain⟨d,hdo,hS⟩:=hst j o hkj hjt
  have hmem:o∈l.take n:=List.mem_of_getElem? hjt
  have hdN:=List.all_eq_true.1 hds o hmem
  rw[hdo]at hdN
  simp only[decide_eq_true_eq]at hdN
  have hdrj:=List.all_eq_true.1 hdr j (List.mem_range.2 hjn')
  rw[hoj']at hdrj
  simp only[Bool.and_eq_true]at hdrj
  obtain⟨⟨hops,hgd⟩,hconst⟩:=hdrj
  have hsl:∀t,opB (l.take n) j o t=true→(stL (l.take n) ss (λi=>decide (k0≤i)&&listed.getD i false) st).sl t=(stL (l.take n) ss (λx=>decide (k0≤x)&&decide (x<j)) st).sl t:=by
   intro t hop
   by_cases hin:inB (l.take n) t=true
   ·simp only[opB,hin,Bool.not_true,Bool.false_or,List.any_eq_true,List.mem_range,Bool.and_eq_true,beq_iff_eq]at hop
    obtain⟨i,hi,hid,hic⟩:=hop
    obtain⟨oi,hoi,hoid⟩:=Option.bind_eq_some_iff.1 hid
    have hli:=hdl i (by simpa using hic)
    rcases Nat.lt_or_ge i k0 with hik|hik
    ·have hex:∀(L:Nat→Bool),L i=false→(stL (l.take n) ss L st).sl t=st.sl t:=λL hL=>stL_out λi' o' h1 h2=>by
      rcases Nat.lt_trichotomy i' i with h|h|h
      ·exact(dist_ne hd h1 hoi h h2 hoid).elim
      ·subst h;exact hL
      ·exact(dist_ne hd hoi h1 h hoid h2).elim
     rw[hex _ (by simp[show¬k0≤i from by omega]),hex _ (by simp[show¬k0≤i from by omega])]
    ·rw[stL_at hd hoi hoid (by simp[Array.getD_eq_getD_getElem?,hli,hik]),stL_at hd hoi hoid (by simp[hik];exact hi)]
   ·have hout:∀(i:Nat) (o':Oper),(l.take n)[i]?=some o'→o'.dst≠some t:=λi o' h1 h2=>hin (by
     simp only[inB,List.any_eq_true,beq_iff_eq]
     exact⟨o',List.mem_of_getElem? h1,h2⟩)
    rw[stL_out λi o' h1 h2=>absurd h2 (hout i o' h1),stL_out λi o' h1 h2=>absurd h2 (hout i o' h1)]
  have hS2:St P l.toArray (stL (l.take n) ss (λi=>decide (k0≤i)&&listed.getD i false) st) o (ss j):=by
   refine St_frame hS (λx hx=>?_) (λj' b oj dj h1 h2 h3=>?_) (λk g ob h=>h)
   ·cases x with
    | tmp t=>exact hsl t (List.all_eq_true.1 hops _ hx)
    | _=>rfl
   ·rw[hget]at h2
    rw[h1]at hgd
    simp only[h2,h3,Bool.and_eq_true,decide_eq_true_eq]at hgd
    exact hsl dj hgd.1
  refine wpOp_of_list hoj ((Al_st (l:=[]) (Q:=Then (Ad P N M0 w0 l.toArray Q fuel (listed.setIfInBounds j true)) Q) hS2 hdo hdN hconst (λj' b oj dj h1 h2 h3=>?_) (Al_nil ?_)).out a w hsim) (λa' w' ⟨st',h1,h2⟩=>h1.out a' w' h2) (λc a' w' h=>h) (λ⟨a',w',h⟩=>⟨a',w',h⟩)
  ·rw[hget]at h2
   rw[h1]at hgd
   simp only[h2,h3,Bool.and_eq_true,decide_eq_true_eq]at hgd
   exact hgd.2
  ·have:=ih (listed.setIfInBounds j true) (by simpa using hs) hcl' hk0' hun' hcnt
   have e2:(stL (l.take n) ss (λi=>decide (k0≤i)&&listed.getD i false) st).set d (ss j)=stL (l.take n) ss (λi=>decide (k0≤i)&&(listed.setIfInBounds j true).getD i false) st:=stL_set hd hjt hdo (λi=>by rw[hLL];by_cases e:i=j<;>simp[e,hkj])
   show Ad P N M0 w0 l.toArray Q fuel (listed.setIfInBounds j true) _
   rw[e2]
   exact this
theorem Ad_drawP {l:List Oper}{listed:Array Bool}{fuel:Nat}(k0 n m:Nat) (hok:drawPB N l n k0=true) (hk:k0≤n) (hnm:l.length=n+m) (hl:listed=(List.replicate k0 true++List.replicate (n - k0+m) false).toArray) (hf:fuel=n - k0+m)
  (h:Dr P l.toArray (λst'=>Ad P N M0 w0 l.toArray Q m (List.replicate n true++List.replicate m false).toArray st') ((l.take n).drop k0) st):Ad P N M0 w0 l.toArray Q fuel listed st:=by
 have hok':=hok
 simp only[drawPB,Bool.and_eq_true]at hok'
 obtain⟨⟨⟨⟨hd,hb⟩,_⟩,_⟩,_⟩:=hok'
 subst hl hf
 obtain⟨ss,h2,h3⟩:∃ss:Nat→SV,(∀i o,k0≤i→(l.take n)[i]?=some o→∃d,o.dst=some d∧St P l.toArray (stL (l.take n) ss (λx=>decide (k0≤x)&&decide (x<i)) st) o (ss i))∧Ad P N M0 w0 l.toArray Q m (List.replicate n true++List.replicate m false).toArray (stL (l.take n) ss (λx=>decide (k0≤x)) st):=by
  have gen:∀(r:List Oper) (j:Nat) (ss0:Nat→SV),k0≤j→(l.take n).drop j=r→Dr P l.toArray (λst'=>Ad P N M0 w0 l.toArray Q m (List.replicate n true++List.replicate m false).toArray st') r (stL (l.take n) ss0 (λx=>decide (k0≤x)&&decide (x<j)) st) →
    ∃ss:Nat→SV,(∀i,i<j→ss i=ss0 i)∧(∀i o,j≤i→(l.take n)[i]?=some o→∃d,o.dst=some d∧St P l.toArray (stL (l.take n) ss (λx=>decide (k0≤x)&&decide (x<i)) st) o (ss i))∧Ad P N M0 w0 l.toArray Q m (List.replicate n true++List.replicate m false).toArray (stL (l.take n) ss (λx=>decide (k0≤x)) st):=by
   intro r
   induction r with
   | nil =>
    intro j ss0 hj hr hD
    have hlj:(l.take n).length≤j:=by
     have:=congrArg List.length hr
     simp only[List.length_drop,List.length_nil]at this
     omega
    refine⟨ss0,λ_ _=>rfl,λi o hi ho=>?_,?_⟩
    ·have:=(List.getElem?_eq_some_iff.1 ho).1
     omega
    ·have e:stL (l.take n) ss0 (λx=>decide (k0≤x)&&decide (x<j)) st=stL (l.take n) ss0 (λx=>decide (k0≤x)) st:=stL_congr (λi hi=>by simp[show i<j from by omega]) (λ_ _ _=>rfl)
     rw[←e]
     exact hD
   | cons o r ih =>
    intro j ss0 hj hr hD
    obtain⟨d,s,hdo,hS,hD2⟩:=hD
    have hlt:j<(l.take n).length:=by
     have:=congrArg List.length hr
     simp only[List.length_drop,List.length_cons]at this
     omega
    have hoj:(l.take n)[j]?=some o:=by
     have:=congrArg (·[0]?) hr
     simpa [List.getElem?_drop]using this
    have hr2:(l.take n).drop (j+1)=r:=by
     have:=congrArg (List.drop 1) hr
     simpa [List.drop_drop,Nat.add_comm]using this
    let ss1:Nat→SV:=λi=>if i=j then s else ss0 i
    have e1:(stL (l.take n) ss0 (λx=>decide (k0≤x)&&decide (x<j)) st)=stL (l.take n) ss1 (λx=>decide (k0≤x)&&decide (x<j)) st:=stL_congr (λ_ _=>rfl) (λi _ hi=>by
     simp only[Bool.and_eq_true,decide_eq_true_eq]at hi
     show ss0 i=if i=j then s else ss0 i
     rw[if_neg (by omega)])
    have e2:(stL (l.take n) ss1 (λx=>decide (k0≤x)&&decide (x<j)) st).set d s=stL (l.take n) ss1 (λx=>decide (k0≤x)&&decide (x<j+1)) st:=by
     have hs1:ss1 j=s:=if_pos rfl
     have:=stL_set (st:=st) (ss:=ss1) (L:=λx=>decide (k0≤x)&&decide (x<j)) (L':=λx=>decide (k0≤x)&&decide (x<j+1)) hd hoj hdo (λi=>by
      by_cases e:i=j
      ·subst e;simp[hj]
      ·have:(i<j+1)↔i<j:=by omega
       simp[e,this])
     rw[hs1]at this
     exact this
    rw[e1,e2]at hD2
    obtain⟨ss,g1,g2,g3⟩:=ih (j+1) ss1 (by omega) hr2 hD2
    refine⟨ss,λi hi=>?_,λi o' hi ho'=>?_,g3⟩
    ·rw[g1 i (by omega)]
     show(if i=j then s else ss0 i)=_
     rw[if_neg (by omega)]
    ·rcases Nat.lt_or_ge j i with h|h
     ·exact g2 i o' h ho'
     ·obtain rfl:i=j:=by omega
      rw[hoj]at ho';cases ho'
      refine⟨d,hdo,?_⟩
      have e3:stL (l.take n) ss (λx=>decide (k0≤x)&&decide (x<i)) st=stL (l.take n) ss0 (λx=>decide (k0≤x)&&decide (x<i)) st:=stL_congr (λ_ _=>rfl) (λy _ hy=>by
       simp only[Bool.and_eq_true,decide_eq_true_eq]at hy
       rw[g1 y (by omega)]
       show(if y=i then s else ss0 y)=_
       rw[if_neg (by omega)])
      rw[e3,g1 i (by omega),show ss1 i=s from if_pos rfl]
      exact hS
  have e0:stL (l.take n) (λ_=>.any) (λx=>decide (k0≤x)&&decide (x<k0)) st=st:=by
   refine Eq.trans (stL_congr (λi _=>?_) (λ_ _ _=>rfl)) (stL_none (l:=l.take n) (ss:=λ_=>.any) (st:=st))
   simp only[Bool.and_eq_false_iff,decide_eq_false_iff_not];omega
  obtain⟨ss,_,g2,g3⟩:=gen ((l.take n).drop k0) k0 (λ_=>.any) (Nat.le_refl _) rfl (by rw[e0];exact h)
  exact⟨ss,g2,g3⟩
 have:=drawP_go (k0:=k0) hok hnm h2 h3 (n - k0+m) (List.replicate k0 true++List.replicate (n - k0+m) false).toArray (by simp;omega) (λi o h1 ho d hd'=>?_) (λi hi=>by rw[List.getElem?_toArray,List.getElem?_append_left (by simpa using hi),List.getElem?_replicate,if_pos hi]) (λi h1 h2=>by rw[List.getElem?_toArray,List.getElem?_append_right (by simp;omega),List.getElem?_replicate,if_pos (by simp;omega)]) (by simp[List.count_replicate])
 ·have e:stL (l.take n) ss (λi=>decide (k0≤i)&&(List.replicate k0 true++List.replicate (n - k0+m) false).toArray.getD i false) st=st:=by
   refine Eq.trans (stL_congr (λi _=>?_) (λ_ _ _=>rfl)) stL_none
   rw[Array.getD_eq_getD_getElem?,List.getElem?_toArray]
   rcases Nat.lt_or_ge i k0 with h|h
   ·simp[show¬k0≤i from by omega]
   ·rw[List.getElem?_append_right (by simpa using h),List.getElem?_replicate]
    split<;>simp
  rw[e]at this
  exact this
 ·have hi:i<k0:=by
   rcases Nat.lt_or_ge i k0 with h|h
   ·exact h
   ·rw[List.getElem?_toArray,List.getElem?_append_right (by simpa using h),List.getElem?_replicate]at h1
    split at h1<;>simp at h1
  have hdi:d<i:=back_lt hb ho hd'
  rw[List.getElem?_toArray,List.getElem?_append_left (by simp;omega),List.getElem?_replicate,if_pos (by omega)]
theorem Aw_drawP {id:Nat}{l:List Oper}(n m:Nat) (hm:P.follows .mixedOrders=true) (hok:drawPB N l n 0=true) (hnm:l.length=n+m)
  (h:Dr P l.toArray (λst'=>Ad P N M0 w0 l.toArray Q m (List.replicate n true++List.replicate m false).toArray st') (l.take n) st):Aw P N M0 w0 (.region id l.toArray true) Q st:=by
 refine Aw_drawn hm ?_
 exact Ad_drawP 0 n m hok (Nat.zero_le _) hnm (by rw[hnm];simp) (by omega) (by rw[List.drop_zero];exact h)
def preAB (ops:Array Oper) (n nA:Nat):Bool:=(List.range ops.size).all λj=>decide (j<n)||(Nat.beq j nA||(List.range n).all λi=>(Ev.anc ops j (match ops[j]? with|some o=>Ev.depsOf o|none=>[])).contains i)
theorem preA_ready {ops:Array Oper}{listed:Array Bool}{n nA j:Nat}(ht:preAB ops n nA=true) (hc:Ev.Closed ops listed) (hj:j∈Region.ready .any ops listed) (hk:n≤j) (hA:j≠nA):∀i,i<n→listed[i]?=some true:=by
 obtain⟨_,o,ho,hall⟩:=mem_ready.1 hj
 have hlt:j<ops.size:=(Array.getElem?_eq_some_iff.1 ho).1
 have h1:=List.all_eq_true.1 ht j (List.mem_range.2 hlt)
 rw[ho]at h1
 simp only[Bool.or_eq_true,decide_eq_true_eq,List.all_eq_true]at h1
 intro i hi
 rcases h1 with h1|h1|h1
 ·omega
 ·exact(hA (Nat.eq_of_beq_eq_true h1)).elim
 ·have h2:=h1 i (List.mem_range.2 hi)
  exact Ev.anc_listed hc j _ (Ev.deps_listed hall) i (by simpa using h2)
def drawPAB (N:Nat) (l:List Oper) (n nA dA:Nat):Bool:=Ev.distinct (l.take n)&&Ev.backB l.toArray&&preAB l.toArray n nA&&drB N l n&&((l.take n).all λo=>match o.dst with|some d=>decide (d<N)&&!Nat.beq d dA|none=>false)&&(l.take n).all λo=>((opsOf o).all fun|.tmp t=>!Nat.beq t dA|_=>true)&&match o.guard with|some (j,_)=>(match l[j]? with|some oj=>(match oj.dst with|some dj=>!Nat.beq dj dA|none=>true)|none=>true)|none=>true
theorem drawPA_go {l:List Oper}{n nA m dA:Nat}{oA:Oper}{T:TypeId}{z:Value}{zs:List AV}{ss:Nat→SV}(hok:drawPAB N l n nA dA=true) (hnm:l.length=n+(m+1)) (hnA:n≤nA) (hA:l[nA]?=some oA) (ho:oA.op=.alloc T) (hgA:oA.guard=none) (hdA:oA.dst=some dA) (hNA:dA<N) (hz:∀w,(zeroValue T).run P w=.ok z w) (hzs:z.cells.toList.map AV.v=zs) (hv:z.cells.toList.all (λz=>decide (vok z))=true) (hfree:st.ob dA=none)
  (hst:∀i o,(l.take n)[i]?=some o→∃d,o.dst=some d∧St P l.toArray (stL (l.take n) ss (λx=>decide (x<i)) st) o (ss i))
  (hfin1:Ad P N M0 w0 l.toArray Q (m+1) (List.replicate n true++List.replicate (m+1) false).toArray (stL (l.take n) ss (λ_=>true) st))
  (hfin2:∀g,Ad P N M0 w0 l.toArray Q m ((List.replicate n true++List.replicate (m+1) false).toArray.setIfInBounds nA true) (alcS dA g (.box T (zs.map .d)) (stL (l.take n) ss (λ_=>true) st))) :
  ∀(fuel:Nat) (listed:Array Bool) (og:Option Nat),listed.size=l.length→Ev.Closed l.toArray listed→listed[nA]?=some og.isSome→(∀i,n≤i→i≠nA→i<l.length→listed[i]?=some false)→listed.count false=fuel →
   Ad P N M0 w0 l.toArray Q fuel listed (alcO dA (.box T (zs.map .d)) og (stL (l.take n) ss (λi=>listed.getD i false) st)):=by
 simp only[drawPAB,Bool.and_eq_true]at hok
 obtain⟨⟨⟨⟨⟨hd,hb⟩,ht⟩,hdr⟩,hds⟩,hdA2⟩:=hok
 have hnl:nA<l.length:=(List.getElem?_eq_some_iff.1 hA).1
 have hsz:l.toArray.size=l.length:=by simp
 have hget:∀(j:Nat),l.toArray[j]?=l[j]?:=λj=>by simp
 have htk:∀(j:Nat),j<n→(l.take n)[j]?=l[j]?:=λj hj=>by rw[List.getElem?_take,if_pos hj]
 have hlen:(l.take n).length=n:=by simp;omega
 have fin:∀(fuel:Nat) (listed:Array Bool) (og:Option Nat),listed.size=l.length→listed[nA]?=some og.isSome→(∀i,n≤i→i≠nA→i<l.length→listed[i]?=some false)→listed.count false=fuel→(∀i,i<n→listed[i]?=some true) →
   Ad P N M0 w0 l.toArray Q fuel listed (alcO dA (.box T (zs.map .d)) og (stL (l.take n) ss (λi=>listed.getD i false) st)):=by
  intro fuel listed og hs hog hun hfu hall
  have e:stL (l.take n) ss (λi=>listed.getD i false) st=stL (l.take n) ss (λ_=>true) st:=stL_congr (λi hi=>by
   have:=hall i (by omega)
   simp[Array.getD_eq_getD_getElem?,this]) (λ_ _ _=>rfl)
  have e1:listed=if og.isSome then(List.replicate n true++List.replicate (m+1) false).toArray.setIfInBounds nA true else(List.replicate n true++List.replicate (m+1) false).toArray:=by
   apply Array.ext'
   apply List.ext_getElem?
   intro i
   rw[Array.getElem?_toList,Array.getElem?_toList]
   have base:∀i,i≠nA→listed[i]?=(List.replicate n true++List.replicate (m+1) false).toArray[i]?:=λi hi=>by
    rw[List.getElem?_toArray (xs:=List.replicate n true++List.replicate (m+1) false)]
    rcases Nat.lt_or_ge i n with h|h
    ·rw[hall i h,List.getElem?_append_left (by simpa using h),List.getElem?_replicate,if_pos h]
    ·rw[List.getElem?_append_right (by simpa using h),List.getElem?_replicate,List.length_replicate]
     rcases Nat.lt_or_ge i l.length with h2|h2
     ·rw[hun i h hi h2,if_pos (by omega)]
     ·rw[if_neg (by omega),Array.getElem?_eq_none (by omega)]
   by_cases hi:i=nA
   ·subst hi
    rw[hog]
    cases og with
    | none =>
     simp only[Option.isSome_none,Bool.false_eq_true,if_false]
     rw[List.getElem?_toArray,List.getElem?_append_right (by simpa using hnA),List.getElem?_replicate,if_pos (by simp;omega)]
    | some g =>
     simp only[Option.isSome_some,if_true]
     rw[Array.getElem?_setIfInBounds_self_of_lt (by simp;omega)]
   ·rw[base i hi]
    split
    ·rw[Array.getElem?_setIfInBounds_ne (Ne.symm hi)]
    ·rfl
  rw[e]
  cases og with
  | none =>
   simp only[Option.isSome_none,Bool.false_eq_true,if_false]at e1
   have e2:fuel=m+1:=by rw[←hfu,e1];simp[List.count_replicate]
   rw[e2,e1]
   exact hfin1
  | some g =>
   simp only[Option.isSome_some,if_true]at e1
   have e2:fuel=m:=by
    have h3:nA<(List.replicate n true++List.replicate (m+1) false).toArray.size:=by simp;omega
    have h4:(List.replicate n true++List.replicate (m+1) false).toArray[nA]=false:=by
     have:(List.replicate n true++List.replicate (m+1) false).toArray[nA]?=some false:=by
      rw[List.getElem?_toArray,List.getElem?_append_right (by simpa using hnA),List.getElem?_replicate,if_pos (by simp;omega)]
     exact(Array.getElem?_eq_some_iff.1 this).2
    have h5:=Array.count_set (xs:=(List.replicate n true++List.replicate (m+1) false).toArray) (i:=nA) (a:=true) (b:=false) h3
    rw[←hfu,e1,Array.setIfInBounds,dif_pos h3,h5,h4]
    simp[List.count_replicate]
   rw[e2,e1]
   exact hfin2 g
 intro fuel
 induction fuel with
 | zero =>
  intro listed og hs hcl hog hun hn
  refine fin 0 listed og hs hog hun hn λi hi=>?_
  cases hl:listed[i]? with
  | none=>rw[Array.getElem?_eq_none_iff]at hl;omega
  | some b =>
   cases b with
   | true=>rfl
   | false =>
    have:false∈listed:=Array.mem_of_getElem? hl
    have:=Array.count_pos_iff.2 this
    omega
 | succ fuel ih =>
  intro listed og hs hcl hog hun hn
  by_cases hall:∀(i:Nat),i<n→listed[i]?=some true
  ·exact fin (fuel+1) listed og hs hog hun hn hall
  refine⟨λa w hsim=>⟨λh0=>?_,λj hj=>?_⟩⟩
  ·exfalso
   apply hall
   intro i
   induction i using Nat.strongRecOn with
   | _ i ih' =>
    intro hi
    cases hl:listed[i]? with
    | none=>rw[Array.getElem?_eq_none_iff]at hl;omega
    | some b =>
     cases b with
     | true=>rfl
     | false =>
      have:=Ev.ready_of_least hb (by simpa using hs) (by simp;omega) hl (λk hk=>ih' k hk (by omega))
      rw[h0]at this
      cases this
  obtain⟨hju,o,hoj,hdone⟩:=mem_ready.1 hj
  have hjo:j<l.length:=by
   have:=(Array.getElem?_eq_some_iff.1 hoj).1
   simpa using this
  have hlt:j<listed.size:=by omega
  have hjl:listed[j]?=some false:=by simp[Array.getD,hlt]at hju;simp[hlt,hju]
  have hoj':l[j]?=some o:=by rw[←hget];exact hoj
  have hdl:∀d∈Ev.depsOf o,listed[d]?=some true:=Ev.deps_listed hdone
  have hold:∀(i:Nat),i≠j→(listed.setIfInBounds j true)[i]?=listed[i]?:=λi hij=>by
   rw[Array.getElem?_setIfInBounds,if_neg (Ne.symm hij)]
  have hcl':Ev.Closed l.toArray (listed.setIfInBounds j true):=λi o' hi ho' d hd'=>by
   have keep:∀(y:Nat),listed[y]?=some true→(listed.setIfInBounds j true)[y]?=some true:=λy hy=>by
    by_cases e:y=j
    ·subst e;simp[hlt]
    ·rw[hold y e];exact hy
   by_cases hij:i=j
   ·subst hij
    rw[hoj]at ho'
    cases ho'
    exact keep d (hdl d hd')
   ·rw[hold i hij]at hi
    exact keep d (hcl i o' hi ho' d hd')
  have hcnt:(listed.setIfInBounds j true).count false=fuel:=by
   have:=Array.count_set (xs:=listed) (i:=j) (a:=true) (b:=false) hlt
   rw[Array.setIfInBounds,dif_pos hlt]
   have h3:listed[j]=false:=by simpa [hlt]using hjl
   have h4:0<listed.count false:=Array.count_pos_iff.2 (Array.mem_iff_getElem.2 ⟨j,hlt,h3⟩)
   rw[this]
   simp[h3]
   omega
  have hLL:∀i,(listed.setIfInBounds j true).getD i false=(listed.getD i false||decide (i=j)):=λi=>by
   by_cases e:i=j
   ·subst e;simp[Array.getD_eq_getD_getElem?,hlt]
   ·simp[Array.getD_eq_getD_getElem?,hold i e,e]
  by_cases hjn:j=nA
  ·subst hjn
   rw[hA]at hoj';cases hoj'
   have hog':og=none:=by
    rw[hjl]at hog
    cases og with
    | none=>rfl
    | some g=>simp at hog
   subst hog'
   refine wpOp_of_list hoj ((Al_alloc (l:=[]) (Q:=Then (Ad P N M0 w0 l.toArray Q fuel (listed.setIfInBounds j true)) Q) ho hgA hdA hNA hz hzs hv (λg=>Al_nil ?_)).out a w hsim) (λa' w' ⟨st',h1,h2⟩=>h1.out a' w' h2) (λc a' w' h=>h) (λ⟨a',w',h⟩=>⟨a',w',h⟩)
   have hun':∀i,n≤i→i≠j→i<l.length→(listed.setIfInBounds j true)[i]?=some false:=λi h1 h2 h3=>by
    rw[hold i h2];exact hun i h1 h2 h3
   have:=ih (listed.setIfInBounds j true) (some g) (by simpa using hs) hcl' (by simp[hlt]) hun' hcnt
   have e:stL (l.take n) ss (λi=>(listed.setIfInBounds j true).getD i false) st=stL (l.take n) ss (λi=>listed.getD i false) st:=stL_congr (λi hi=>by
    rw[hLL i]
    simp at hi
    simp[show i≠j by omega]) (λ_ _ _=>rfl)
   rw[e]at this
   exact this
  ·have hjn':j<n:=by
    rcases Nat.lt_or_ge j n with h|h
    ·exact h
    ·exact(hall (preA_ready ht hcl hj h hjn)).elim
   have hun':∀i,n≤i→i≠nA→i<l.length→(listed.setIfInBounds j true)[i]?=some false:=λi h1 h2 h3=>by
    rw[hold i (by omega)];exact hun i h1 h2 h3
   have hjt:(l.take n)[j]?=some o:=by rw[htk j hjn'];exact hoj'
   obtain⟨d,hdo,hS⟩:=hst j o hjt
   have hmem:o∈l.take n:=List.mem_of_getElem? hjt
   have hdN:=List.all_eq_true.1 hds o hmem
   rw[hdo]at hdN
   simp only[Bool.and_eq_true,decide_eq_true_eq,Bool.not_eq_true']at hdN
   have hddA:d≠dA:=λe=>by rw[e]at hdN;simp at hdN
   have hno:=List.all_eq_true.1 hdA2 o hmem
   simp only[Bool.and_eq_true]at hno
   have hdrj:=List.all_eq_true.1 hdr j (List.mem_range.2 hjn')
   rw[hoj']at hdrj
   simp only[Bool.and_eq_true]at hdrj
   obtain⟨⟨hops,hgd⟩,hconst⟩:=hdrj
   have hsl:∀t,opB (l.take n) j o t=true→t≠dA→(alcO dA (.box T (zs.map .d)) og (stL (l.take n) ss (λi=>listed.getD i false) st)).sl t=(stL (l.take n) ss (λx=>decide (x<j)) st).sl t:=by
    intro t hop hne
    have e1:(alcO dA (.box T (zs.map .d)) og (stL (l.take n) ss (λi=>listed.getD i false) st)).sl t=(stL (l.take n) ss (λi=>listed.getD i false) st).sl t:=by
     cases og with
     | none=>rfl
     | some g =>
      show(bif Nat.beq t dA then _ else _)=_
      have:Nat.beq t dA=false:=by
       cases hb:Nat.beq t dA with
       | false=>rfl
       | true=>exact absurd (Nat.eq_of_beq_eq_true hb) hne
      rw[this];rfl
    rw[e1]
    by_cases hin:inB (l.take n) t=true
    ·simp only[opB,hin,Bool.not_true,Bool.false_or,List.any_eq_true,List.mem_range,Bool.and_eq_true,beq_iff_eq]at hop
     obtain⟨i,hi,hid,hic⟩:=hop
     obtain⟨oi,hoi,hoid⟩:=Option.bind_eq_some_iff.1 hid
     have hli:=hdl i (by simpa using hic)
     rw[stL_at hd hoi hoid (by simp[Array.getD_eq_getD_getElem?,hli]),stL_at hd hoi hoid (by simpa using hi)]
    ·have hout:∀(i:Nat) (o':Oper),(l.take n)[i]?=some o'→o'.dst≠some t:=λi o' h1 h2=>hin (by
      simp only[inB,List.any_eq_true,beq_iff_eq]
      exact⟨o',List.mem_of_getElem? h1,h2⟩)
     rw[stL_out λi o' h1 h2=>absurd h2 (hout i o' h1),stL_out λi o' h1 h2=>absurd h2 (hout i o' h1)]
   have hS2:St P l.toArray (alcO dA (.box T (zs.map .d)) og (stL (l.take n) ss (λi=>listed.getD i false) st)) o (ss j):=by
    refine St_frame hS (λx hx=>?_) (λj' b oj dj h1 h2 h3=>?_) (λk g ob h=>?_)
    ·cases x with
     | tmp t =>
      have h1:=List.all_eq_true.1 hops _ hx
      have h2:=List.all_eq_true.1 hno.1 _ hx
      exact hsl t h1 (λe=>by rw[e]at h2;simp at h2)
     | _=>rfl
    ·rw[hget]at h2
     rw[h1]at hgd
     simp only[h2,h3,Bool.and_eq_true,decide_eq_true_eq]at hgd
     have h4:=hno.2
     rw[h1]at h4
     simp only[h2,h3,Bool.not_eq_true']at h4
     exact hsl dj hgd.1 (λe=>by rw[e]at h4;simp at h4)
    ·cases og with
     | none=>exact h
     | some g' =>
      show(bif Nat.beq k dA then _ else st.ob k)=_
      have h':st.ob k=some (g,ob):=h
      have:Nat.beq k dA=false:=by
       cases hb:Nat.beq k dA with
       | false=>rfl
       | true =>
        have:=Nat.eq_of_beq_eq_true hb
        subst this
        rw[hfree]at h';cases h'
      rw[this];exact h'
   refine wpOp_of_list hoj ((Al_st (l:=[]) (Q:=Then (Ad P N M0 w0 l.toArray Q fuel (listed.setIfInBounds j true)) Q) hS2 hdo hdN.1 hconst (λj' b oj dj h1 h2 h3=>?_) (Al_nil ?_)).out a w hsim) (λa' w' ⟨st',h1,h2⟩=>h1.out a' w' h2) (λc a' w' h=>h) (λ⟨a',w',h⟩=>⟨a',w',h⟩)
   ·rw[hget]at h2
    rw[h1]at hgd
    simp only[h2,h3,Bool.and_eq_true,decide_eq_true_eq]at hgd
    exact hgd.2
   ·have:=ih (listed.setIfInBounds j true) og (by simpa using hs) hcl' (by rw[hold nA (Ne.symm hjn)];exact hog) hun' hcnt
    have e:(alcO dA (.box T (zs.map .d)) og (stL (l.take n) ss (λi=>listed.getD i false) st)).set d (ss j)=alcO dA (.box T (zs.map .d)) og (stL (l.take n) ss (λi=>(listed.setIfInBounds j true).getD i false) st):=by
     have e2:(stL (l.take n) ss (λi=>listed.getD i false) st).set d (ss j)=stL (l.take n) ss (λi=>(listed.setIfInBounds j true).getD i false) st:=stL_set hd hjt hdo hLL
     cases og with
     | none=>exact e2
     | some g=>show(alcS _ _ _ _).set d (ss j)=alcS _ _ _ _;rw[alcS_set hddA,e2]
    show Ad P N M0 w0 l.toArray Q fuel (listed.setIfInBounds j true) _
    rw[e]
    exact this
theorem Aw_drawPA {id:Nat}{l:List Oper}(n nA m:Nat) {oA:Oper}{dA:Nat}{T:TypeId}{z:Value}{zs:List AV}(hm:P.follows .mixedOrders=true) (hok:drawPAB N l n nA dA=true) (hnm:l.length=n+(m+1)) (hnA:n≤nA) (hA:l[nA]?=some oA) (ho:oA.op=.alloc T) (hgA:oA.guard=none) (hdA:oA.dst=some dA) (hNA:dA<N) (hz:∀w,(zeroValue T).run P w=.ok z w) (hzs:z.cells.toList.map AV.v=zs) (hv:z.cells.toList.all (λz=>decide (vok z))=true) (hfree:st.ob dA=none)
  (h:Dr P l.toArray (λst'=>Ad P N M0 w0 l.toArray Q (m+1) (List.replicate n true++List.replicate (m+1) false).toArray st'∧∀g,Ad P N M0 w0 l.toArray Q m ((List.replicate n true++List.replicate (m+1) false).toArray.setIfInBounds nA true) ((st'.put dA g (.box T (zs.map .d))).set dA (.bx dA g 0))) (l.take n) st):Aw P N M0 w0 (.region id l.toArray true) Q st:=by
 have hd:Ev.distinct (l.take n)=true:=by
  simp only[drawPAB,Bool.and_eq_true]at hok
  exact hok.1.1.1.1.1
 have hnl:nA<l.length:=(List.getElem?_eq_some_iff.1 hA).1
 have h0:stL (l.take n) (λ_=>.any) (λi=>decide (i<0)) st=st:=by
  refine Eq.trans (stL_congr (λi _=>?_) (λ_ _ _=>rfl)) (stL_none (l:=l.take n) (ss:=λ_=>.any) (st:=st))
  simp
 obtain⟨ss,_,h2,h3,h4⟩:=dr_all hd (l.take n) 0 (λ_=>.any) rfl (by rw[h0];exact h)
 refine Aw_drawn hm ?_
 have:=drawPA_go hok hnm hnA hA ho hgA hdA hNA hz hzs hv hfree (λi o hi=>h2 i o (Nat.zero_le _) hi) h3 (λg=>h4 g) l.length (List.replicate l.length false).toArray none (by simp) (λi o h1 _ d _=>by
  exfalso
  rw[List.getElem?_toArray,List.getElem?_replicate]at h1
  split at h1<;>simp at h1) (by simp[List.getElem?_replicate,hnl]) (λi _ _ hi=>by simp[List.getElem?_replicate,hi]) (by simp[Array.count_replicate])
 have e:stL (l.take n) ss (λi=>(List.replicate l.length false).toArray.getD i false) st=st:=by
  refine Eq.trans (stL_congr (λi _=>?_) (λ_ _ _=>rfl)) stL_none
  rw[Array.getD_eq_getD_getElem?,List.getElem?_toArray,List.getElem?_replicate]
  split<;>rfl
 rw[e]at this
 exact this
end
end Go.Proofs.YtdnijgdmohinlaaGreat.A
end
section
set_option maxRecDepth 100000
namespace Go.Proofs.YtdnijgdmohinlaaGreat
open Go Go.RowKit A R
structure Pk where
 seq:Int
 d:ByteArray
instance:Inhabited Pk:=⟨⟨0,⟨#[]⟩⟩⟩
def Pk.row (p:Pk):List AV:=[iv p.seq,tv p.d]
abbrev pkA (l:List Pk):List (List AV):=l.map Pk.row
theorem pk_elem:ElemT Tryz.prog 103 170 2 24:=⟨Tryz.underlying103,by
 have h:(Tryz.prog.info? 170).map (λi=>(i.zero,i.size,i.bytes))=some (some (.agg #[.int .i64 0,.string ⟨#[]⟩]),2,24):=by kernel_rfl
 obtain⟨i,hi,h1,h2,h3⟩:=info_parts h
 exact⟨i,_,hi,h1,h2,h3,rfl⟩⟩
namespace L
def sendE (op:List Pk):Int:=if 8≤op.length then 15 else 0
def sendP (sn:Int) (op:List Pk) (d:ByteArray):Pk:=if 8≤op.length then default else⟨sn,d⟩
def sendS (sn:Int) (op:List Pk):Int:=if 8≤op.length then sn else sn+1
def sendO (sn:Int) (op:List Pk) (d:ByteArray):List Pk:=if 8≤op.length then op else op++[⟨sn,d⟩]
theorem tw (p:Pk→Bool):∀(l:List Pk) (k:Nat),k≤l.length→(∀j,j<k→p (l.getD j default)=true)→(k<l.length→p (l.getD k default)=false)→(l.takeWhile p).length=k
 | [],k,h,_,_=>by simp at h;subst h;rfl
 | x::l,0,_,_,h2=>by
  have:=h2 (by simp)
  simp at this
  rw[List.takeWhile_cons,this];rfl
 | x::l,k+1,h,h1,h2=>by
  have h0:=h1 0 (by omega)
  simp at h0
  rw[List.takeWhile_cons,h0]
  simp only[if_true,List.length_cons]
  rw[tw p l k (by simpa using h) (λj hj=>by have:=h1 (j+1) (by omega);simpa using this) (λhk=>by have:=h2 (by simp;omega);simpa using this)]
def ansN (sn:Int) (op:List Pk) (seq:Int):Nat:=if seq>sn then 0 else(op.takeWhile λp=>decide (p.seq<seq)).length
end L
theorem pk_ne {l:List Pk}{k:Nat}(h:k<l.length):pkA l≠[]:=λh0=>by
 have:=congrArg List.length h0
 simp at this
 subst this;simp at h
theorem pk_at {l:List Pk}{k:Nat}(h:k<l.length):(pkA l).flatten[k*2]?=some (iv (l.getD k default).seq)∧(pkA l).flatten[k*2+1]?=some (tv (l.getD k default).d)∧((pkA l).flatten.drop (k*2)).take 2=(l.getD k default).row:=by
 have hu:∀r∈pkA l,r.length=2:=λr hr=>by obtain⟨x,_,rfl⟩:=List.mem_map.1 hr;rfl
 have h1:((pkA l).flatten.drop (k*2)).take 2=(l.getD k default).row:=by
  have:=S.row_at hu (j:=k) (by rw[List.length_map];exact h)
  rw[this,S.map_getD h]
 refine⟨?_,?_,h1⟩
 ·have h2:(((pkA l).flatten.drop (k*2)).take 2)[0]?=some (iv (l.getD k default).seq):=by rw[h1];rfl
  rw[List.getElem?_take,if_pos (by decide),List.getElem?_drop]at h2
  exact h2
 ·have h2:(((pkA l).flatten.drop (k*2)).take 2)[1]?=some (tv (l.getD k default).d):=by rw[h1];rfl
  rw[List.getElem?_take,if_pos (by decide),List.getElem?_drop]at h2
  exact h2
abbrev rowK (v:Value) (l:List Pk):AO:=.op (rowX 170 2 v (pkA l))
abbrev SN (sn:Int) (v:Value) (op:List Pk):Obs:=[(1001,.box 233 [.d (iv sn),.d (.v v)]),(1002,rowK v op)]
abbrev RC (rn:Int):Obs:=[(1001,.box 235 [.d (iv rn)])]
theorem SN_in (sn:Int) (v:Value) (op:List Pk):ObsIn [1001,1002] (SN sn v op):=⟨rfl,λ_ _ _ _ _ h=>h,trivial⟩
theorem RC_in (rn:Int):ObsIn [1001] (RC rn):=⟨rfl,trivial⟩
theorem rowK_in (v:Value) (l:List Pk):ObsIn [1001] [(1001,rowK v l)]:=⟨λ_ _ _ _ _ h=>h,trivial⟩
theorem clonePk_g (v:Value) (l:List Pk) (hop:l.length≤1000000):GCall Tryz.prog 105 [.d (.v v)] [(1001,rowK v l)] (some ([(1001,rowK v l)],.d (.sl 2 (pkA l)))):=by
 refine GC_L Tryz.func105 Tryz.ntmps105 (ReadsS.r1 Tryz.results105) λhok hokB M0 w0 hl=>?_
 refine Aw_sr ?_
 refine Al_mr ?_
 refine Al_nil (Aw_seq (Aw_sr ?_))
 refine Al_ml ?_
 refine Al_eqnilX (k:=1001) rfl rfl rfl (by decide) (by kernel_rfl) Tryz.underlying103 rfl rfl (λnl hnl=>?_)
 refine Al_nil ?_
 refine Aw_cond rfl (λh4=>?_) (λh4=>?_)
 ·(try simp only[A.cd_]at h4)
  refine Aw_sr ?_
  refine Al_mr ?_
  refine Al_nil ?_
  obtain rfl:l=[]:=by simpa using hnl h4
  exact Aw_ret (⟨_,_,[],rfl,Sub.nil,⟨rfl,trivial⟩,rfl⟩)
 ·(try simp only[A.cd_]at h4)
  refine Aw_skip (Aw_sr ?_)
  refine Al_p (Pu_slice0 rfl Tryz.underlying103 Tryz.sizeOf170) ?_
  refine Al_ml ?_
  refine Al_p (Pu_cloneX (k:=1001) rfl pk_elem (by decide) Tryz.sizeOf170 rfl rfl rfl (by simp;omega) (by decide)) ?_
  refine Al_mr ?_
  refine Al_nil ?_
  exact Aw_ret (⟨_,_,[],rfl,Sub.rfl,⟨rfl,trivial⟩,rfl⟩)
theorem lkOpen_g (sn:Int) (v:Value) (op:List Pk) (hop:op.length≤1000000):GCall Tryz.prog 103 [.bx 1001 0 0] (SN sn v op) (some (SN sn v op,.d (.sl 2 (pkA op)))):=by
 refine GC_L Tryz.func103 Tryz.ntmps103 (ReadsS.r1 Tryz.results103) λhok hokB M0 w0 hl=>?_
 refine Aw_sr ?_
 refine Al_mr ?_
 refine Al_nil (Aw_seq (Aw_sr ?_))
 refine Al_ml ?_
 refine Al_p (Pu_eqnilb Tryz.underlying151 rfl rfl) ?_
 refine Al_nil ?_
 refine Aw_condF rfl (rfl) ?_
 refine Aw_skip (Aw_sr ?_)
 refine Al_ml ?_
 refine Al_p Pu_nb ?_
 refine Al_p (Pu_fb 1 Tryz.underlying233 Tryz.sizeOf103) ?_
 refine Al_p (Pu_lb Tryz.isAgg103) ?_
 refine Al_p (Pu_gcall [(1001,1002,0)] (clonePk_g v op hop) (rowK_in ..) rfl ⟨rfl,trivial⟩ rfl ⟨Sub.rfl,trivial⟩) ?_
 refine Al_mr ?_
 refine Al_nil ?_
 exact Aw_ret (⟨_,_,[],rfl,Sub.rfl,⟨rfl,rfl,trivial⟩,rfl⟩)
theorem lkSend_g (sn:Int) (v:Value) (op:List Pk) (d:ByteArray) (hop:op.length≤1000000) (hs:0≤sn∧sn≤1000000):GCallE Tryz.prog 301 [.bx 1001 0 0,.d (tv d)] (SN sn v op) (λv':Value=>some (SN (L.sendS sn op) v' (L.sendO sn op d),.d (.tup [.row (L.sendP sn op d).row,iv (L.sendE op)]))):=by
 refine GC_EL Tryz.func301 Tryz.ntmps301 (ReadsS.cN1 Tryz.results301 Tryz.isAgg170 Tryz.sizeOf170) λhok hokB M0 w0 hl=>?_
 refine Aw_sr ?_
 refine Al_al Tryz.zeroValue170 λg4=>?_
 refine Al_mr ?_
 refine Al_nil (Aw_seq (Aw_block (Aw_sr ?_)))
 refine Al_ml ?_
 refine Al_p (Pu_eqnilb Tryz.underlying151 rfl rfl) ?_
 refine Al_mr ?_
 refine Al_nil ?_
 refine Aw_condF rfl (rfl) ?_
 refine Aw_sr ?_
 refine Al_ml ?_
 refine Al_p Pu_nb ?_
 refine Al_p (Pu_fb 1 Tryz.underlying233 Tryz.sizeOf103) ?_
 refine Al_p (Pu_lb Tryz.isAgg103) ?_
 refine Al_p (Pu_lenX (k:=1002) rfl Tryz.underlying103 rfl rfl (by rw[List.length_map];simp only[A.maxI];omega)) ?_
 refine Al_p Pu_cp ?_
 refine Al_mr ?_
 refine Al_nil ?_
 refine Aw_cond rfl (λh11=>?_) (λh11=>?_)
 ·(try simp only[A.cd_]at h11)
  have h8:8≤op.length:=by omega
  have e1:L.sendS sn op=sn:=if_pos h8
  have e2:L.sendO sn op d=op:=if_pos h8
  have e3:L.sendP sn op d=default:=if_pos h8
  have e4:L.sendE op=15:=if_pos h8
  refine Aw_sr ?_
  refine Al_p (Pu_build (aa:=[]) rfl Tryz.underlying170 Tryz.zeroValue170 places170 (by kernel_rfl) trivial rfl) ?_
  refine Al_sN Tryz.isAgg170 Tryz.sizeOf170 ?_
  refine Al_mr ?_
  refine Al_nil ?_
  exact Aw_ret (⟨v,_,_,[],rfl,⟨_,rfl,_,_,_,_,_,[_,_],_,rfl,rfl,rfl,rfl,Sub.num e4.symm,by rw[e3];rfl⟩,⟨by rw[e1];rfl,by rw[e2];rfl,trivial⟩,rfl⟩)
 ·(try simp only[A.cd_]at h11)
  have h8:¬8≤op.length:=by omega
  have e1:L.sendS sn op=sn+1:=if_neg h8
  have e2:L.sendO sn op d=op++[⟨sn,d⟩]:=if_neg h8
  have e3:L.sendP sn op d=⟨sn,d⟩:=if_neg h8
  have e4:L.sendE op=0:=if_neg h8
  refine Aw_skip (Aw_sr ?_)
  refine Al_ml ?_
  refine Al_p Pu_nb ?_
  refine Al_p (Pu_fb 0 Tryz.underlying233 Tryz.sizeOf231) ?_
  refine Al_p (Pu_fb 0 Tryz.underlying231 Tryz.sizeOf3) ?_
  refine Al_p (Pu_lb Tryz.isAgg3) ?_
  refine Al_ml ?_
  refine Al_p (Pu_build (aa:=[(0,_),(1,_)]) rfl Tryz.underlying170 Tryz.zeroValue170 places170 (by kernel_rfl) ⟨rfl,rfl,rfl,rfl,rfl,rfl,trivial⟩ rfl) ?_
  refine Al_al Tryz.zeroValue170 λg6=>?_
  refine Al_sN Tryz.isAgg170 Tryz.sizeOf170 ?_
  refine Al_ns ?_
  refine Al_ml ?_
  refine Al_p Pu_nb ?_
  refine Al_p (Pu_fb 0 Tryz.underlying233 Tryz.sizeOf231) ?_
  refine Al_p (Pu_fb 0 Tryz.underlying231 Tryz.sizeOf3) ?_
  refine Al_p (Pu_lb Tryz.isAgg3) ?_
  refine Al_p Pu_ad ?_
  refine Al_p Pu_nb ?_
  refine Al_p (Pu_fb 0 Tryz.underlying233 Tryz.sizeOf231) ?_
  refine Al_p (Pu_fb 0 Tryz.underlying231 Tryz.sizeOf3) ?_
  refine Al_s1 Tryz.isAgg3 Tryz.sizeOf3 ?_
  refine Al_nil ?_
  refine Aw_seq ?_
  refine Aw_drawn (by kernel_rfl) ?_
  refine Ad_t 0 rfl (PuI_move (.inl rfl) (by conv=>lhs;whnf)) ?_
  refine Ad_drawP 1 7 4 (by kernel_rfl) (by decide) rfl (by rfl) (by rfl) ?_
  refine Dr_ml ?_
  refine Dr_p Pu_nb ?_
  refine Dr_p (Pu_fb 1 Tryz.underlying233 Tryz.sizeOf103) ?_
  refine Dr_p (Pu_lb Tryz.isAgg103) ?_
  refine Dr_p (Pu_lbN (r:=[_,_]) Tryz.isAgg170 Tryz.sizeOf170) ?_
  refine Dr_p (Pu_slice1 rfl Tryz.underlying103 Tryz.sizeOf170 Tryz.zeroValue170 rfl (by decide) (by decide) (by kernel_rfl) rfl rfl rfl) ?_
  refine Dr_nil ?_
  refine Ad_o 7 ?_
  refine Al_appendX (k:=1002) rfl rfl rfl (by decide) (by kernel_rfl) pk_elem (by decide) Tryz.sizeOf170 rfl rfl rfl (by simp;omega) (by decide) (λv'=>?_)
  refine Al_nil ?_
  refine Ad_t 8 rfl PuI_nb ?_
  refine Ad_t 9 rfl (PuI_fb 1 Tryz.underlying233 Tryz.sizeOf103) ?_
  refine Ad_o 10 ?_
  refine Al_s1 Tryz.isAgg103 Tryz.sizeOf103 ?_
  refine Al_nil ?_
  refine Ad_d ?_
  refine Aw_sr ?_
  refine Al_p (Pu_lbN (r:=[_,_]) Tryz.isAgg170 Tryz.sizeOf170) ?_
  refine Al_sN Tryz.isAgg170 Tryz.sizeOf170 ?_
  refine Al_mr ?_
  refine Al_nil ?_
  exact Aw_ret (⟨v',_,_,[],rfl,⟨_,rfl,_,_,_,_,_,[_,_],_,rfl,rfl,rfl,rfl,Sub.num e4.symm,by rw[e3];rfl⟩,⟨by rw[e1];rfl,by rw[e2];exact obeqX (by simp[Pk.row,A.cellsA]),trivial⟩,rfl⟩)
theorem lkAns_g (sn:Int) (v:Value) (op:List Pk) (seq:Int) (hop:op.length≤1000000):GCallE Tryz.prog 254 [.bx 1001 0 0,.d (iv seq)] (SN sn v op) (λv':Value=>some (SN sn v' (op.drop (L.ansN sn op seq)),.d (iv (L.ansN sn op seq)))):=by
 refine GC_EL Tryz.func254 Tryz.ntmps254 (ReadsS.r1 Tryz.results254) λhok hokB M0 w0 hl=>?_
 refine Aw_sr ?_
 refine Al_mr ?_
 refine Al_nil (Aw_seq (Aw_sr ?_))
 refine Al_ml ?_
 refine Al_p (Pu_eqnilb Tryz.underlying151 rfl rfl) ?_
 refine Al_ml ?_
 refine Al_s (St_g [] trivial (λ_=>Pu_mvl)) ?_
 refine Al_s (St_g [] trivial (λ_=>Pu_mvl)) ?_
 refine Al_s (St_g [10] ⟨⟨_,rfl⟩,trivial⟩ (λ_=>Pu_nb)) ?_
 refine Al_s (St_g [11] ⟨⟨_,rfl⟩,trivial⟩ (λ_=>Pu_fb 0 Tryz.underlying233 Tryz.sizeOf231)) ?_
 refine Al_s (St_g [12] ⟨⟨_,rfl⟩,trivial⟩ (λ_=>Pu_fb 0 Tryz.underlying231 Tryz.sizeOf3)) ?_
 refine Al_s (St_g [13] ⟨⟨_,rfl⟩,trivial⟩ (λ_=>Pu_lb Tryz.isAgg3)) ?_
 refine Al_s (St_g [9,14] ⟨⟨_,rfl⟩,⟨_,rfl⟩,trivial⟩ (λ_=>Pu_cp)) ?_
 refine Al_p Pu_o ?_
 refine Al_nil ?_
 refine Aw_cond rfl (λh16=>?_) (λh16=>?_)
 ·(try simp only[A.cd_]at h16)
  have e1:L.ansN sn op seq=0:=if_pos (by simpa using h16)
  refine Aw_sr ?_
  refine Al_mr ?_
  refine Al_nil ?_
  exact Aw_ret (⟨v,_,_,[],rfl,Sub.num (by rw[e1];rfl),⟨rfl,by rw[e1];rfl,trivial⟩,rfl⟩)
 ·(try simp only[A.cd_]at h16)
  have hns:¬seq>sn:=by simpa using h16
  refine Aw_skip (Aw_sr ?_)
  refine Al_mr ?_
  refine Al_nil (Aw_seq (Aw_block ?_))
  refine Aw_loopk (ι:=Nat) [0,1] [1001,1002] (λk=>[(5,.d (iv k))]) (λk=>[]) (λk=>k≤op.length∧∀j,j<k→decide ((op.getD j default).seq<seq)=true) (λk=>op.length - k) (0) (⟨Nat.zero_le _,λj hj=>absurd hj (Nat.not_lt_zero _)⟩) ⟨Sub.rfl,trivial⟩ trivial ?_
  rintro k ⟨hk,hall⟩
  refine Aw_seq (Aw_sr ?_)
  refine Al_ml ?_
  refine Al_ml ?_
  refine Al_p Pu_nb ?_
  refine Al_p (Pu_fb 1 Tryz.underlying233 Tryz.sizeOf103) ?_
  refine Al_p (Pu_lb Tryz.isAgg103) ?_
  refine Al_p (Pu_lenX (k:=1002) rfl Tryz.underlying103 rfl rfl (by rw[List.length_map];simp only[A.maxI];omega)) ?_
  refine Al_p Pu_cp ?_
  refine Al_ml ?_
  refine Al_s (St_g [] trivial (λ_=>Pu_mvl)) ?_
  refine Al_s (St_g [25] ⟨⟨_,rfl⟩,trivial⟩ (λ_=>Pu_nb)) ?_
  refine Al_s (St_g [26] ⟨⟨_,rfl⟩,trivial⟩ (λ_=>Pu_fb 1 Tryz.underlying233 Tryz.sizeOf103)) ?_
  refine Al_s (St_g [27] ⟨⟨_,rfl⟩,trivial⟩ (λ_=>Pu_lb Tryz.isAgg103)) ?_
  refine Al_s (St_g [] trivial (λ_=>Pu_mvl)) ?_
  refine Al_s (St_gd [28,29] rfl rfl rfl rfl ⟨⟨_,rfl⟩,⟨_,rfl⟩,trivial⟩ (λhg30=>by exact Pu_indexX (j:=k) (k:=1002) rfl Tryz.underlying103 Tryz.sizeOf170 rfl rfl rfl rfl (by simpa using hg30))) ?_
  refine Al_s (St_gd [30] rfl rfl rfl rfl ⟨⟨_,rfl⟩,trivial⟩ (λhg31=>by exact Pu_fieldX (k:=1002) 0 rfl Tryz.underlying170 rfl rfl Tryz.sizeOf3 rfl rfl (pk_ne (by simpa using hg31)))) ?_
  refine Al_s (St_gd [31] rfl rfl rfl rfl ⟨⟨_,rfl⟩,trivial⟩ (λhg32=>by exact Pu_loadX1 (k:=1002) rfl Tryz.isAgg3 rfl rfl (pk_at (by simpa using hg32)).1)) ?_
  refine Al_s (St_g [] trivial (λ_=>Pu_mvl)) ?_
  refine Al_s (St_g [32,33] ⟨⟨_,rfl⟩,⟨_,rfl⟩,trivial⟩ (λ_=>Pu_cp)) ?_
  refine Al_p Pu_a ?_
  refine Al_nil ?_
  refine Aw_cond rfl (λh35=>?_) (λh35=>?_)
  ·skip
   simp only[Bool.and_eq_true,decide_eq_true_eq,List.length_map]at h35
   obtain⟨h35a,h35b⟩:=h35
   refine Aw_skip (Aw_block (Aw_region ?_))
   refine Al_ml ?_
   refine Al_p Pu_ad ?_
   refine Al_mr ?_
   refine Al_nil ?_
   exact⟨k+1,⟨by omega,λj hj=>by
    rcases Nat.lt_or_ge j k with h|h
    ·exact hall j h
    ·rw[show j=k from by omega];simpa using h35b⟩,by omega,Le.ov ⟨Sub.num (by omega),trivial⟩ ⟨Sub.rfl,Sub.rfl,trivial⟩ trivial ⟨rfl,rfl,trivial⟩⟩
  ·skip
   have hst:k<op.length→decide ((op.getD k default).seq<seq)=false:=λhk2=>by
    simp only[Bool.and_eq_false_iff,decide_eq_false_iff_not,List.length_map]at h35
    rcases h35 with h|h
    ·omega
    ·simpa using h
   have e1:L.ansN sn op seq=k:=by unfold L.ansN;rw[if_neg hns];exact L.tw _ op k hk hall hst
   refine Aw_exit ?_
   refine Aw_seq ?_
   refine Aw_drawP 19 1 (by kernel_rfl) (by kernel_rfl) rfl ?_
   refine Dr_ml ?_
   refine Dr_ml ?_
   refine Dr_p Pu_nb ?_
   refine Dr_p (Pu_fb 1 Tryz.underlying233 Tryz.sizeOf103) ?_
   refine Dr_p (Pu_lb Tryz.isAgg103) ?_
   refine Dr_ml ?_
   refine Dr_ml ?_
   refine Dr_p Pu_nb ?_
   refine Dr_p (Pu_fb 1 Tryz.underlying233 Tryz.sizeOf103) ?_
   refine Dr_p (Pu_lb Tryz.isAgg103) ?_
   refine Dr_p (Pu_lenX (k:=1002) rfl Tryz.underlying103 rfl rfl (by rw[List.length_map];simp only[A.maxI];omega)) ?_
   refine Dr_ml ?_
   refine Dr_p Pu_nb ?_
   refine Dr_p (Pu_fb 1 Tryz.underlying233 Tryz.sizeOf103) ?_
   refine Dr_p (Pu_lb Tryz.isAgg103) ?_
   refine Dr_p (Pu_lenX (k:=1002) rfl Tryz.underlying103 rfl rfl (by rw[List.length_map];simp only[A.maxI];omega)) ?_
   refine Dr_p (Pu_cutX (k:=1002) k rfl Tryz.underlying103 Tryz.sizeOf170 rfl rfl ⟨_,rfl,rfl⟩ ⟨_,rfl,rfl⟩ ⟨_,rfl,rfl⟩ (by rw[List.length_map];exact hk)) ?_
   refine Dr_p Pu_nb ?_
   refine Dr_p (Pu_fb 1 Tryz.underlying233 Tryz.sizeOf103) ?_
   refine Dr_nil ?_
   refine Ad_o 19 ?_
   refine Al_s1 Tryz.isAgg103 Tryz.sizeOf103 ?_
   refine Al_nil ?_
   refine Ad_d ?_
   refine Aw_sr ?_
   refine Al_ml ?_
   refine Al_mr ?_
   refine Al_nil ?_
   refine Aw_le (le_cutX (k:=1002) (h:=k) rfl (by rw[List.length_map];exact hk)) ?_
   exact Aw_ret (⟨cutX v k 2,_,_,[],rfl,Sub.num (by rw[e1]),⟨rfl,by rw[e1];exact obeqX (by simp),trivial⟩,rfl⟩)
theorem lktold_g (rn:Int):GCall Tryz.prog 329 [.bx 1001 0 0] (RC rn) (some (RC rn,.d (iv rn))):=by
 refine GC_L Tryz.func329 Tryz.ntmps329 (ReadsS.r1 Tryz.results329) λhok hokB M0 w0 hl=>?_
 refine Aw_sr ?_
 refine Al_mr ?_
 refine Al_ns ?_
 refine Al_ml ?_
 refine Al_p Pu_nb ?_
 refine Al_p (Pu_fb 0 Tryz.underlying231 Tryz.sizeOf3) ?_
 refine Al_p (Pu_lb Tryz.isAgg3) ?_
 refine Al_mr ?_
 refine Al_nil ?_
 exact Aw_ret (⟨_,_,[],rfl,Sub.rfl,⟨rfl,trivial⟩,rfl⟩)
theorem lkWaits_g (rn:Int):GCall Tryz.prog 252 [.bx 1001 0 0] (RC rn) (some (RC rn,.d (iv rn))):=by
 refine GC_L Tryz.func252 Tryz.ntmps252 (ReadsS.r1 Tryz.results252) λhok hokB M0 w0 hl=>?_
 refine Aw_sr ?_
 refine Al_mr ?_
 refine Al_nil (Aw_seq (Aw_sr ?_))
 refine Al_ml ?_
 refine Al_p (Pu_eqnilb Tryz.underlying153 rfl rfl) ?_
 refine Al_nil ?_
 refine Aw_condF rfl (rfl) ?_
 refine Aw_skip (Aw_sr ?_)
 refine Al_ml ?_
 refine Al_p Pu_nb ?_
 refine Al_p (Pu_fb 0 Tryz.underlying235 Tryz.sizeOf231) ?_
 refine Al_p (Pu_gcall [(1001,1001,0)] (lktold_g rn) (RC_in ..) rfl ⟨rfl,trivial⟩ rfl ⟨Sub.rfl,trivial⟩) ?_
 refine Al_mr ?_
 refine Al_nil ?_
 exact Aw_ret (⟨_,_,[],rfl,Sub.rfl,⟨rfl,trivial⟩,rfl⟩)
theorem lkTake_g (rn:Int) (p:Pk) (hs:0≤rn∧rn≤1000000):GCall Tryz.prog 253 [.bx 1001 0 0,.d (.row p.row)] (RC rn) (some (RC (if p.seq=rn then rn+1 else rn),.tp [.d (tv (if p.seq=rn then p.d else⟨#[]⟩)),.d (bv (decide (p.seq=rn)))])):=by
 refine GC_L Tryz.func253 Tryz.ntmps253 (ReadsS.r2 Tryz.results253) λhok hokB M0 w0 hl=>?_
 refine Aw_sr ?_
 refine Al_p Pu_bN ?_
 refine Al_mr ?_
 refine Al_mr ?_
 refine Al_nil (Aw_seq (Aw_seq ?_))
 refine Aw_dr 12 ?_
 refine Dr_ml ?_
 refine Dr_p (Pu_eqnilb Tryz.underlying153 rfl rfl) ?_
 refine Dr_ml ?_
 refine Dr_s (St_g [] trivial (λ_=>Pu_fd 0 Tryz.underlying170 Tryz.sizeOf3)) ?_
 refine Dr_s (St_g [9] ⟨⟨_,rfl⟩,trivial⟩ (λ_=>Pu_l1 Tryz.isAgg3)) ?_
 refine Dr_s (St_g [] trivial (λ_=>Pu_mvl)) ?_
 refine Dr_s (St_g [11] ⟨⟨_,rfl⟩,trivial⟩ (λ_=>Pu_nb)) ?_
 refine Dr_s (St_g [12] ⟨⟨_,rfl⟩,trivial⟩ (λ_=>Pu_fb 0 Tryz.underlying235 Tryz.sizeOf231)) ?_
 refine Dr_s (St_g [13] ⟨⟨_,rfl⟩,trivial⟩ (λ_=>Pu_fb 0 Tryz.underlying231 Tryz.sizeOf3)) ?_
 refine Dr_s (St_g [14] ⟨⟨_,rfl⟩,trivial⟩ (λ_=>Pu_lb Tryz.isAgg3)) ?_
 refine Dr_s (St_g [10,15] ⟨⟨_,rfl⟩,⟨_,rfl⟩,trivial⟩ (λ_=>Pu_cp)) ?_
 refine Dr_p Pu_o ?_
 refine Dr_nil (Al_nil ?_)
 refine Aw_cond rfl (λh17=>?_) (λh17=>?_)
 ·(try simp only[A.cd_]at h17)
  have hne:¬p.seq=rn:=by simpa using h17
  refine Aw_sr ?_
  refine Al_mr ?_
  refine Al_mr ?_
  refine Al_nil ?_
  exact Aw_ret (⟨_,_,[],rfl,⟨_,_,rfl,Sub.d (by rw[if_neg hne]),Sub.bool (by simp[hne])⟩,⟨by rw[if_neg hne];rfl,trivial⟩,rfl⟩)
 ·(try simp only[A.cd_]at h17)
  have hey:p.seq=rn:=by simpa using h17
  refine Aw_skip (Aw_sr ?_)
  refine Al_ml ?_
  refine Al_p Pu_nb ?_
  refine Al_p (Pu_fb 0 Tryz.underlying235 Tryz.sizeOf231) ?_
  refine Al_p (Pu_fb 0 Tryz.underlying231 Tryz.sizeOf3) ?_
  refine Al_p (Pu_lb Tryz.isAgg3) ?_
  refine Al_p Pu_ad ?_
  refine Al_p Pu_nb ?_
  refine Al_p (Pu_fb 0 Tryz.underlying235 Tryz.sizeOf231) ?_
  refine Al_p (Pu_fb 0 Tryz.underlying231 Tryz.sizeOf3) ?_
  refine Al_s1 Tryz.isAgg3 Tryz.sizeOf3 ?_
  refine Al_ns ?_
  refine Al_p (Pu_fd 1 Tryz.underlying170 Tryz.sizeOf9) ?_
  refine Al_p (Pu_l1 Tryz.isAgg9) ?_
  refine Al_mr ?_
  refine Al_mr ?_
  refine Al_nil ?_
  exact Aw_ret (⟨_,_,[],rfl,⟨_,_,rfl,Sub.d (by rw[if_pos hey]),Sub.bool (by simp[hey])⟩,⟨by rw[if_pos hey];rfl,trivial⟩,rfl⟩)
end Go.Proofs.YtdnijgdmohinlaaGreat
end
section
namespace Go.Proofs.YtdnijgdmohinlaaGreat.A
open Go Go.RowKit
def defL:Obs→Rho→Prop
 | [],_=>True
 | p::r,ρ=>(∃h,ρ p.1 0=some h)∧defL r ρ
def fpsL:Obs→Rho→Nat→Prop
 | [],_,_=>False
 | p::r,ρ,b=>(∃h,ρ p.1 0=some h∧fpO p.2 h b)∨fpsL r ρ b
theorem defL_of {ρ:Rho}:∀{o:Obs},(∀p∈o,∃h,ρ p.1 0=some h)→defL o ρ
 | [],_=>trivial
 | q::r,h=>⟨h q (List.mem_cons_self ..),defL_of λp hp=>h p (List.mem_cons_of_mem _ hp)⟩
theorem defL_rho {ρ ρ':Rho}(hr:RhoLe ρ ρ'):∀{o:Obs},defL o ρ→defL o ρ'
 | [],_=>trivial
 | q::r,h=>⟨by obtain⟨x,hx⟩:=h.1;exact⟨x,hr _ _ _ hx⟩,defL_rho hr h.2⟩
theorem fpsL_eq {ρ:Rho}{b:Nat}:∀{o:Obs},fpsL o ρ b↔fps ρ o b
 | []=>⟨λh=>h.elim,λ⟨p,hp,_⟩=>by cases hp⟩
 | q::r=>by
  rw[fps_cons,←fpsL_eq (o:=r)]
  exact Iff.rfl
theorem fpsL_rho {ρ ρ':Rho}(hr:RhoLe ρ ρ') {b:Nat}:∀{o:Obs},defL o ρ→(fpsL o ρ' b↔fpsL o ρ b)
 | [],_=>Iff.rfl
 | q::r,h=>by
  obtain⟨x,hx⟩:=h.1
  have hx':=hr _ _ _ hx
  refine or_congr ⟨λ⟨y,h1,h2⟩=>?_,λ⟨y,h1,h2⟩=>⟨y,hr _ _ _ h1,h2⟩⟩ (fpsL_rho hr h.2)
  rw[hx']at h1
  cases h1
  exact⟨x,hx,h2⟩
def tokF (F F1:Nat→Prop) (o:Obs):OP:=⟨λ_=>False,λ_ _ ρ _=>defL o ρ∧∀b,F b↔(fpsL o ρ b∨F1 b),λ_ _ h=>h,
 λhr h=>⟨defL_rho hr h.1,λb=>(h.2 b).trans (or_congr (fpsL_rho hr h.1).symm Iff.rfl)⟩,λ_ _ hb=>hb.elim⟩
section
variable {σ τ:Type}{E:σ→τ→Obs}{F F1:Nat→Prop}{X X1 X2:List (Value×σ)}{v:Value}{s s':σ}
theorem gh_pullS (hE:∀t,(∃T cs,(1001,AO.box T cs)∈E s t)∧(∀p∈E s t,1001≤p.1∧p.1≤1008)∧ObsIn [1001,1002,1003,1004,1005,1006,1007,1008] (E s t)):Ghost (.d (.v v)) [(1000,.op (starP E F (X1++(v,s)::X2)))] (λx:τ×(Nat→Prop)=>(1000,.op (starP E x.2 (X1++X2)))::(1009,.op (namTok 1001 v))::(1010,.op (tokF F x.2 (E s x.1)))::E s x.1) (λ_=>.bx 1001 0 0):=λM w ρ x hM hb hx hobs hf hap=>by
 obtain⟨hh,e1',hF,L,l1,l2,l3,hI⟩:=hobs _ (List.mem_singleton.2 rfl)
 have e1:ρ 1000 0=some hh:=e1'
 have hi:X1.length<L.length:=by rw[l1];simp
 obtain⟨k1,t,k2⟩:=l2 X1.length L[X1.length] (v,s) (by simp[hi]) (by simp)
 obtain⟨⟨T,cs,hbx⟩,hks,hin⟩:=hE t
 have hLe:L=L.take X1.length++L[X1.length]::L.drop (X1.length+1):=by rw[List.getElem_cons_drop,List.take_append_drop]
 have hperm:L.Perm (L[X1.length]::(L.take X1.length++L.drop (X1.length+1))):=by
  have:=List.perm_middle (a:=L[X1.length]) (l₁:=L.take X1.length) (l₂:=L.drop (X1.length+1))
  rwa [←hLe]at this
 have hI':=star_perm hperm hI
 have hF':=λb=>(l3 b).trans (starF_perm hperm b)
 generalize L[X1.length]=le at *
 obtain⟨ρe,oe⟩:=le
 obtain rfl:oe=E s t:=k2
 obtain⟨m1,m2,m3⟩:=hI'.1 _ (List.mem_cons_self ..)
 have hdis:=(List.pairwise_cons.1 hI'.2).1
 have hfo:∀b,fps ρ [(1000,AO.op (starP E F (X1++(v,s)::X2)))] b↔F b:=fps_one e1
 let ρ':Rho:=λk g=>if g=0∧1001≤k∧k≤1008 then ρe k 0 else if g=0∧(k=1009∨k=1010)then some undef else ρ k g
 have r0:ρ' 1000 0=some hh:=by simp[ρ',e1]
 have r9:ρ' 1009 0=some undef:=by simp[ρ']
 have r10:ρ' 1010 0=some undef:=by simp[ρ']
 have rk:∀k,1001≤k→k≤1008→ρ' k 0=ρe k 0:=λk h1 h2=>by simp[ρ',h1,h2]
 have rE:∀p∈E s t,ρ' p.1 0=ρe p.1 0:=λp hp=>rk p.1 (hks p hp).1 (hks p hp).2
 have fE:∀b,fps ρ' (E s t) b↔fps ρe (E s t) b:=fps_eq rE
 obtain⟨y,n1',b0,ys,rfl,n2⟩:=m1 _ hbx
 have n1:ρe 1001 0=some (.pointer (some ⟨b0,0,none⟩)):=n1'
 have hv:v=.pointer (some ⟨b0,0,none⟩):=by
  have:hd ρe=v:=k1
  rw[←this];unfold hd;rw[n1];rfl
 have hEF:∀b,fps ρe (E s t) b→F b:=λb hb=>(hF' b).2 ⟨_,List.mem_cons_self ..,hb⟩
 have hSF:∀b,(starO (L.take X1.length++L.drop (X1.length+1))).F b→F b:=λb ⟨e,he,h⟩=>(hF' b).2 ⟨e,List.mem_cons_of_mem _ he,h⟩
 have hM':∀c,(M c∨fps ρ' ((1000,AO.op (starP E (starO (L.take X1.length++L.drop (X1.length+1))).F (X1++X2)))::(1009,.op (namTok 1001 v))::(1010,.op (tokF F (starO (L.take X1.length++L.drop (X1.length+1))).F (E s t)))::E s t) c)→M c:=λc hc=>by
  rcases hc with hc|hc
  ·exact hc
  ·refine hf c ((hfo c).2 ?_)
   rcases fps_cons.1 hc with⟨_,_,h⟩|hc
   ·exact hSF c h
   ·rcases fps_cons.1 hc with⟨_,_,h⟩|hc
    ·exact h.elim
    ·rcases fps_cons.1 hc with⟨_,_,h⟩|hc
     ·exact h.elim
     ·exact hEF c ((fE c).1 hc)
 refine⟨(t,(starO (L.take X1.length++L.drop (X1.length+1))).F),ρ',?_,λp hp=>?_,λp hp=>?_,λp hp q hq z z' c h1 h2 h3 h4=>?_,?_⟩
 ·obtain⟨G,hG⟩:=hb
  refine⟨G+1,λk g h=>?_⟩
  by_cases hg:g=0
  ·omega
  ·have:ρ k g≠none:=by simpa [ρ',hg]using h
   have:=hG k g this
   omega
 ·obtain rfl:=List.mem_singleton.1 hp
  exact r0.trans e1.symm
 ·rcases List.mem_cons.1 hp with rfl|hp
  ·refine⟨hh,r0,λb hb=>.inr ((hfo b).2 (hSF b hb)),L.take X1.length++L.drop (X1.length+1),?_,λj e z h1 h2=>?_,λb=>Iff.rfl,?_⟩
   ·simp only[List.length_append,List.length_take,List.length_drop,List.length_cons]at l1 ⊢;omega
   ·rcases Nat.lt_or_ge j X1.length with hj|hj
    ·rw[List.getElem?_append_left (by simp;omega),List.getElem?_take,if_pos hj]at h1
     rw[List.getElem?_append_left hj]at h2
     exact l2 j e z h1 (by rw[List.getElem?_append_left hj];exact h2)
    ·have hlt:(L.take X1.length).length=X1.length:=by simp;omega
     rw[List.getElem?_append_right (by omega),hlt,List.getElem?_drop]at h1
     rw[List.getElem?_append_right hj]at h2
     refine l2 (X1.length+1+(j - X1.length)) e z h1 ?_
     rw[List.getElem?_append_right (by omega),show X1.length+1+(j - X1.length) - X1.length=(j - X1.length)+1 from by omega,List.getElem?_cons_succ]
     exact h2
   ·refine⟨λe he=>⟨objs_mono (Known.sub hM') (λ_ _=>rfl) (hI'.1 e (List.mem_cons_of_mem _ he)).1,(hI'.1 e (List.mem_cons_of_mem _ he)).2⟩,(List.pairwise_cons.1 hI'.2).2⟩
  ·rcases List.mem_cons.1 hp with rfl|hp
   ·exact⟨undef,r9,λb hb=>hb.elim,by show ρ' 1001 0=some v;rw[rk 1001 (by omega) (by omega),n1,hv]⟩
   ·rcases List.mem_cons.1 hp with rfl|hp
    ·refine⟨undef,r10,λb hb=>hb.elim,defL_of λq hq=>?_,λb=>?_⟩
     ·obtain⟨z,h1,_⟩:=m1 q hq
      exact⟨z,(rE q hq).trans h1⟩
     ·refine(hF' b).trans ?_
      rw[fpsL_eq,fE]
      constructor
      ·rintro⟨e,he,h⟩
       rcases List.mem_cons.1 he with rfl|he
       ·exact .inl h
       ·exact .inr ⟨e,he,h⟩
      ·rintro(h|⟨e,he,h⟩)
       ·exact⟨_,List.mem_cons_self ..,h⟩
       ·exact⟨e,List.mem_cons_of_mem _ he,h⟩
    ·obtain⟨z,h1,h2⟩:=m1 p hp
     refine⟨z,(rE p hp).trans h1,?_⟩
     refine(aoIn_rep (ρ:=ρ') (ρ':=ρe) (ks:=[1001,1002,1003,1004,1005,1006,1007,1008]) (λk hk=>?_) (hin.get p hp) h2 |>.mono (Known.sub hM') λ_ _=>rfl).base λb hb=>.inr ((hfo b).2 (hEF b ⟨p,hp,z,h1,hb⟩))
     simp only[List.mem_cons,List.not_mem_nil,or_false]at hk
     exact(rk k (by omega) (by omega)).symm
 ·have hsep:∀c q z',q∈E s t→ρ' q.1 0=some z'→fpO q.2 z' c→(starO (L.take X1.length++L.drop (X1.length+1))).F c→False:=λc q z' hq h2 h4 ⟨e,he,h⟩=>hdis e he c ((fE c).1 ⟨q,hq,z',h2,h4⟩) h
  rcases List.mem_cons.1 hp with rfl|hp
  ·rcases List.mem_cons.1 hq with rfl|hq
   ·rfl
   ·rcases List.mem_cons.1 hq with rfl|hq
    ·exact h4.elim
    ·rcases List.mem_cons.1 hq with rfl|hq
     ·exact h4.elim
     ·exact(hsep c q z' hq h2 h4 h3).elim
  ·rcases List.mem_cons.1 hp with rfl|hp
   ·exact h3.elim
   ·rcases List.mem_cons.1 hp with rfl|hp
    ·exact h3.elim
    ·rcases List.mem_cons.1 hq with rfl|hq
     ·exact(hsep c p z hp h1 h3 h4).elim
     ·rcases List.mem_cons.1 hq with rfl|hq
      ·exact h4.elim
      ·rcases List.mem_cons.1 hq with rfl|hq
       ·exact h4.elim
       ·exact m2 p hp q hq z z' c ((rE p hp).symm.trans h1) ((rE q hq).symm.trans h2) h3 h4
 ·obtain⟨h1,_⟩:=rep_v hx
  exact⟨_,b0,(rk 1001 (by omega) (by omega)).trans n1,rfl,by rw[h1,hv]⟩
theorem gh_putS {t:τ}(hE:∀p∈E s t,1001≤p.1∧p.1≤1008):Ghost .any ((1000,.op (starP E F1 (X1++X2)))::(1009,.op (namTok 1001 v))::(1010,.op (tokF F F1 (E s t)))::E s t) (λ_:Unit=>[(1000,.op (starP E F (X1++(v,s)::X2)))]) (λ_=>.any):=λM w ρ x hM hb hx hobs hf hap=>by
 obtain⟨hh,e1',hF,L,l1,l2,l3,hI⟩:=hobs _ (List.mem_cons_self ..)
 have e1:ρ 1000 0=some hh:=e1'
 obtain⟨_,_,_,hn⟩:=hobs (1009,.op (namTok 1001 v)) (by simp)
 obtain⟨_,_,_,_,hFF⟩:=hobs (1010,.op (tokF F F1 (E s t))) (by simp)
 have hn:ρ 1001 0=some v:=hn
 have hsub:∀p∈E s t,p∈(1000,AO.op (starP E F1 (X1++X2)))::(1009,AO.op (namTok 1001 v))::(1010,AO.op (tokF F F1 (E s t)))::E s t:=λp hp=>by simp[hp]
 have hv:hd ρ=v:=by unfold hd;rw[hn];rfl
 have hsep:∀b,(starO L).F b→fps ρ (E s t) b→False:=λb h1 ⟨p,hp,z,h2,h3⟩=>by
  have:=hap _ (List.mem_cons_self ..) p (hsub p hp) hh z b e1 h2 ((l3 b).2 h1) h3
  have h4:=(hE p hp).1
  rw[←this]at h4
  exact absurd h4 (show¬1001≤1000 by decide)
 obtain⟨j1,j2⟩:=star_put hI (λp hp=>hobs p (hsub p hp)) (λp hp q hq=>hap p (hsub p hp) q (hsub q hq)) hb hsep X1.length
 obtain⟨j3,j4⟩:=star_rel (E:=E) (s':=s) (t:=t) l1 l2 hv
 have hfF:∀b,F b↔(starO (L.take X1.length++(ρ,E s t)::L.drop X1.length)).F b:=λb=>(hFF b).trans ((or_congr fpsL_eq (l3 b)).trans (j2 b).symm)
 have hfo:∀b,F b→fps ρ ((1000,AO.op (starP E F1 (X1++X2)))::(1009,AO.op (namTok 1001 v))::(1010,AO.op (tokF F F1 (E s t)))::E s t) b:=λb hb=>by
  rcases(hFF b).1 hb with h|h
  ·obtain⟨p,hp,z,h1,h2⟩:=fpsL_eq.1 h
   exact⟨p,hsub p hp,z,h1,h2⟩
  ·exact mem_fps (List.mem_cons_self ..) e1 h
 have hM':∀c,(M c∨fps ρ [(1000,AO.op (starP E F (X1++(v,s)::X2)))] c)→M c:=λc hc=>by
  rcases hc with hc|hc
  ·exact hc
  ·exact hf c (hfo c ((fps_one (I:=starP E _ _) e1 c).1 hc))
 refine⟨(),ρ,hb,λp hp=>rfl,λp hp=>?_,λp hp q hq _ _ _ _ _ _ _=>by rw[List.mem_singleton.1 hp,List.mem_singleton.1 hq],trivial⟩
 obtain rfl:=List.mem_singleton.1 hp
 refine⟨hh,e1,λb hb=>.inr (hfo b hb),L.take X1.length++(ρ,E s t)::L.drop X1.length,j3,j4,hfF,?_⟩
 exact(starO _).mono (ρ:=λ_ _=>none) (h:=undef) (Known.sub hM') (λ_ _=>rfl) j1
theorem gh_newP {t:τ}(hE:(∃T cs,(1001,AO.box T cs)∈E s' t)∧∀p∈E s' t,1001≤p.1∧p.1≤1008):Ghost (.bx 1001 0 0) ((1000,.op (starP E F X))::E s' t) (λy:(Nat→Prop)×Nat=>[(1000,.op (starP E y.1 (X++[(.pointer (some ⟨y.2,0,none⟩),s')])))]) (λy=>.d (.v (.pointer (some ⟨y.2,0,none⟩)))):=λM w ρ x hM hb hx hobs hf hap=>by
 obtain⟨hh,e1',hF,L,l1,l2,l3,hI⟩:=hobs _ (List.mem_cons_self ..)
 have e1:ρ 1000 0=some hh:=e1'
 obtain⟨⟨T,cs,hbx⟩,hk⟩:=hE
 have hsub:∀p∈E s' t,p∈(1000,AO.op (starP E F X))::E s' t:=λp hp=>by simp[hp]
 obtain⟨y,n1',b0,ys,rfl,n2⟩:=hobs _ (hsub _ hbx)
 have n1:ρ 1001 0=some (.pointer (some ⟨b0,0,none⟩)):=n1'
 have hv:hd ρ=.pointer (some ⟨b0,0,none⟩):=by unfold hd;rw[n1];rfl
 have hsep:∀b,(starO L).F b→fps ρ (E s' t) b→False:=λb h1 ⟨p,hp,z,h2,h3⟩=>by
  have:=hap _ (List.mem_cons_self ..) p (hsub p hp) hh z b e1 h2 ((l3 b).2 h1) h3
  have h4:=(hk p hp).1
  rw[←this]at h4
  exact absurd h4 (show¬1001≤1000 by decide)
 obtain⟨j1,j2⟩:=star_put hI (λp hp=>hobs p (hsub p hp)) (λp hp q hq=>hap p (hsub p hp) q (hsub q hq)) hb hsep X.length
 obtain⟨j3,j4⟩:=star_rel (E:=E) (s':=s') (t:=t) (X1:=X) (X2:=[]) (by rw[l1,List.append_nil]) (by rw[List.append_nil];exact l2) hv
 have hfo:∀b,(starO (L.take X.length++(ρ,E s' t)::L.drop X.length)).F b→fps ρ ((1000,AO.op (starP E F X))::E s' t) b:=λb hb=>by
  rcases(j2 b).1 hb with⟨p,hp,z,h1,h2⟩|h
  ·exact⟨p,hsub p hp,z,h1,h2⟩
  ·exact mem_fps (List.mem_cons_self ..) e1 ((l3 b).2 h)
 have hM':∀c,(M c∨fps ρ [(1000,AO.op (starP E (starO (L.take X.length++(ρ,E s' t)::L.drop X.length)).F (X++[(.pointer (some ⟨b0,0,none⟩),s')])))] c)→M c:=λc hc=>by
  rcases hc with hc|hc
  ·exact hc
  ·exact hf c (hfo c ((fps_one (I:=starP E _ _) e1 c).1 hc))
 refine⟨((starO (L.take X.length++(ρ,E s' t)::L.drop X.length)).F,b0),ρ,hb,λp hp=>rfl,λp hp=>?_,λp hp q hq _ _ _ _ _ _ _=>by rw[List.mem_singleton.1 hp,List.mem_singleton.1 hq],?_⟩
 ·obtain rfl:=List.mem_singleton.1 hp
  refine⟨hh,e1,λb hb=>.inr (hfo b hb),L.take X.length++(ρ,E s' t)::L.drop X.length,j3,j4,λb=>Iff.rfl,?_⟩
  exact(starO _).mono (ρ:=λ_ _=>none) (h:=undef) (Known.sub hM') (λ_ _=>rfl) j1
 ·obtain⟨z,b',h1,h2,h3⟩:=hx
  rw[n1]at h1
  obtain rfl:=Option.some.inj h1
  simp only[blk,Option.some.injEq]at h2
  subst h2
  rw[h3]
  exact .v _ trivial
theorem focusR {P:Program}{f:FuncId}{rest:List AV}{res:AV}{i:Nat}(hf:∀(vs:Array Value) (w:World),(callFunc f vs).run P w=.ok (.enter f vs) w) (h:∀t,GCall P f (.bx 1001 0 0::rest.map .d) (E s t) (some (E s t,.d res))) (hi:X[i]?=some (v,s)) (h0:∀t,(∃T cs,(1001,AO.box T cs)∈E s t)∧ObsIn ((E s t).map (·.1)) (E s t)) :
  GCall P f (.d (.v v)::rest.map .d) [(1001,.op (starP E F X))] (some ([(1001,.op (starP E F X))],.d res)):=by
 refine⟨hf,λM w ρ vs hM hbnd ha hobs hfps hap=>?_⟩
 obtain⟨hh,e1,hF,L,l1,l2,l3,hI⟩:=hobs _ (List.mem_singleton.2 rfl)
 have hil:i<L.length:=by rw[l1];exact(List.getElem?_eq_some_iff.1 hi).1
 obtain⟨k1,t,k2⟩:=l2 i L[i] (v,s) (by simp[hil]) hi
 obtain⟨⟨T,cs,hbx⟩,hin⟩:=h0 t
 have hLi:L[i]?=some ((L[i]).1,E s t):=by rw[List.getElem?_eq_getElem hil,←k2]
 have hcall:=GCall.focus (h t) hLi hbx rfl hin
 have hset:L.set i ((L[i]).1,E s t)=L:=by
  rw[←k2]
  exact List.set_getElem_self ..
 rw[hset]at hcall
 have e1':ρ 1001 0=some hh:=e1
 have fo:=λb=>fps_one (I:=starP E F X) e1' b
 have fo':=λb=>fps_one (I:=starO L) e1' b
 have hargs:ARep M w ρ (.eq (hd (L[i]).1)::rest.map .d) vs:=⟨by rw[ha.1];simp,λj a x h1 h2=>by
  cases j with
  | zero =>
   obtain rfl:SV.eq (hd (L[i]).1)=a:=by simpa using h1
   rw[k1]
   exact Sub.ve _ _ _ _ (ha.2 0 (.d (.v v)) x rfl h2)
  | succ j=>exact ha.2 (j+1) a x (by simpa using h1) h2⟩
 have hob1:Objs (bas w) M w ρ [(1001,.op (starO L))]:=λp hp=>by
  obtain rfl:=List.mem_singleton.1 hp
  exact⟨hh,e1,λ_ _=>.inr trivial,hI⟩
 have hl:fps ρ [(1001,.op (starP E F X))]=fps ρ [(1001,.op (starO L))]:=funext λb=>propext ((fo b).trans ((l3 b).trans (fo' b).symm))
 refine(hcall.2 M w ρ vs hM hbnd hargs hob1 (λb hb=>hfps b (by rw[hl];exact hb)) (λp hp q hq _ _ _ _ _ _ _=>by rw[List.mem_singleton.1 hp,List.mem_singleton.1 hq])).mono λe w' ⟨hx,u,he,ρ',hb',hsame,hobj,hap',hres⟩=>?_
 have e2:ρ' 1001 0=some hh:=(hsame _ (List.mem_singleton.2 rfl)).trans e1
 obtain⟨h2,e3,hF2,hI2⟩:=hobj _ (List.mem_singleton.2 rfl)
 have fn:=λb=>fps_one (I:=starO L) e2 b
 have fn':=λb=>fps_one (I:=starP E F X) e2 b
 have hM3:(λb=>M b∨fps ρ' [(1001,AO.op (starP E F X))] b)=(λb=>M b∨fps ρ' [(1001,AO.op (starO L))] b):=funext λb=>propext (or_congr_right ((fn' b).trans ((l3 b).trans (fn b).symm)))
 rw[hl]
 refine⟨hx,u,he,ρ',hb',λp hp=>(by rw[List.mem_singleton.1 hp];exact e2.trans e1.symm),λp hp=>?_,λp hp q hq _ _ _ _ _ _ _=>by rw[List.mem_singleton.1 hp,List.mem_singleton.1 hq],?_⟩
 ·obtain rfl:=List.mem_singleton.1 hp
  refine⟨hh,e2,λb hb=>by rw[hl];exact hF2 b ((l3 b).1 hb),L,l1,l2,l3,?_⟩
  rw[hM3]
  exact(starO L).mono (ρ:=λ_ _=>none) (h:=undef) (Known.refl _ _) (λ_ _=>rfl) hI2
 ·rw[hM3];exact hres
end
end Go.Proofs.YtdnijgdmohinlaaGreat.A
end
section
namespace Go.Proofs.YtdnijgdmohinlaaGreat.A
open Go Go.RowKit
def ASub (a a':AV):Prop:=∀(M:Nat→Prop) (w:World) (x:Value),Rep M w a x→Rep M w a' x
theorem ASub.rfl {a:AV}:ASub a a:=λ_ _ _ h=>h
theorem ASub.eq {a b:AV}(h:a=b):ASub a b:=h▸ASub.rfl
theorem ASub.nil {n:Nat}:ASub (.v (.slice none 0 0)) (.sl n []):=λ_ _ _ h=>by cases h;exact .nil n _ _
theorem ASub.sub {a a':AV}(h:ASub a a'):Sub (.d a) (.d a'):=λM w _ x hx=>h M w x hx
def LSub:List AV→List AV→Prop
 | [],[]=>True
 | a::l,b::m=>ASub a b∧LSub l m
 | _,_=>False
theorem LSub.get:∀{l m:List AV},LSub l m→l.length=m.length∧∀(j:Nat) (b:AV),m[j]?=some b→∃a,l[j]?=some a∧ASub a b
 | [],[],_=>⟨rfl,λj b h=>by simp at h⟩
 | a::l,b::m,h=>by
  obtain⟨h1,h2⟩:=h.2.get
  refine⟨by simp[h1],λj c hc=>?_⟩
  cases j with
  | zero=>simp at hc;subst hc;exact⟨a,rfl,h.1⟩
  | succ j=>exact h2 j c (by simpa using hc)
 | [],_::_,h=>h.elim
 | _::_,[],h=>h.elim
def RSub:List (List AV)→List (List AV)→Prop
 | [],[]=>True
 | a::l,b::m=>LSub a b∧RSub l m
 | _,_=>False
theorem RSub.get:∀{l m:List (List AV)},RSub l m→l.length=m.length∧∀(j:Nat) (b:List AV),m[j]?=some b→∃a,l[j]?=some a∧LSub a b
 | [],[],_=>⟨rfl,λj b h=>by simp at h⟩
 | a::l,b::m,h=>by
  obtain⟨h1,h2⟩:=h.2.get
  refine⟨by simp[h1],λj c hc=>?_⟩
  cases j with
  | zero=>simp at hc;subst hc;exact⟨a,rfl,h.1⟩
  | succ j=>exact h2 j c (by simpa using hc)
 | [],_::_,h=>h.elim
 | _::_,[],h=>h.elim
theorem ASub.sl {n:Nat}{rows rows':List (List AV)}(h:RSub rows rows'):ASub (.sl n rows) (.sl n rows'):=λM w x hx=>by
 obtain⟨h1,h2⟩:=h.get
 cases hx with
 | nil n a c =>
  cases rows' with
  | nil=>exact .nil n a c
  | cons r l=>simp at h1
 | sl n rows b o cap f hl hcap hn hc hr =>
  rw[h1]
  refine .sl n rows' b o cap f (by omega) (by omega) (λi r hi=>?_) (λi r j a hi hj=>?_) (λi r j a hi hj=>?_)
  ·obtain⟨q,h3,h4⟩:=h2 i r hi
   rw[←h4.get.1];exact hn i q h3
  ·obtain⟨q,h3,h4⟩:=h2 i r hi
   obtain⟨c,h5,_⟩:=h4.get.2 j a hj
   exact hc i q j c h3 h5
  ·obtain⟨q,h3,h4⟩:=h2 i r hi
   obtain⟨c,h5,h6⟩:=h4.get.2 j a hj
   exact h6 _ _ _ (hr i q j c h3 h5)
theorem ASub.row {cs cs':List AV}(h:LSub cs cs'):ASub (.row cs) (.row cs'):=λM w x hx=>by
 obtain⟨h1,h2⟩:=h.get
 cases hx with
 | row cs vs hl hone hr =>
  refine .row cs' vs (by omega) hone (λj a x hj hx=>?_)
  obtain⟨c,h3,h4⟩:=h2 j a hj
  exact h4 _ _ _ (hr j c x h3 hx)
end Go.Proofs.YtdnijgdmohinlaaGreat.A
namespace Go.Proofs.YtdnijgdmohinlaaGreat.A
open Go Go.RowKit
def CCells (M:Nat→Prop) (w:World) (ρ:Rho) (cs:List CV) (vs:List Value):Prop:=vs.length=cs.length∧∀(j:Nat) (c:CV) (x:Value),cs[j]?=some c→vs[j]?=some x→CRep M w ρ c x∧x.oneCell'=true
theorem CCells.append {M:Nat→Prop}{w:World}{ρ:Rho}{aa bs:List CV}{vs us:List Value}(h:CCells M w ρ aa vs) (k:CCells M w ρ bs us):CCells M w ρ (aa++bs) (vs++us):=⟨by simp[h.1,k.1],λj a x h1 h2=>by
 by_cases hj:j<aa.length
 ·rw[List.getElem?_append_left hj]at h1
  rw[List.getElem?_append_left (by rw[h.1];exact hj)]at h2
  exact h.2 j a x h1 h2
 ·rw[List.getElem?_append_right (by omega)]at h1
  rw[List.getElem?_append_right (by rw[h.1];omega),h.1]at h2
  exact k.2 _ a x h1 h2⟩
theorem CCells.take {M:Nat→Prop}{w:World}{ρ:Rho}{aa:List CV}{vs:List Value}(h:CCells M w ρ aa vs) (n:Nat):CCells M w ρ (aa.take n) (vs.take n):=⟨by simp[h.1],λj a x h1 h2=>by
 rw[List.getElem?_take]at h1 h2
 split at h1
 ·rename_i hj;rw[if_pos hj]at h2;exact h.2 j a x h1 h2
 ·cases h1⟩
theorem CCells.drop {M:Nat→Prop}{w:World}{ρ:Rho}{aa:List CV}{vs:List Value}(h:CCells M w ρ aa vs) (n:Nat):CCells M w ρ (aa.drop n) (vs.drop n):=⟨by simp[h.1],λj a x h1 h2=>by
 rw[List.getElem?_drop]at h1 h2
 exact h.2 _ a x h1 h2⟩
theorem Cells.cc {M:Nat→Prop}{w:World}{ρ:Rho}{cs:List AV}{vs:List Value}(h:Cells M w cs vs):CCells M w ρ (cs.map .d) vs:=⟨by simp[h.1],λj c x h1 h2=>by
 rw[List.getElem?_map]at h1
 obtain⟨a,h3,rfl⟩:=Option.map_eq_some_iff.1 h1
 exact h.2 j a x h3 h2⟩
theorem CCells.reps {M:Nat→Prop}{w:World}{ρ:Rho}{cs:List CV}{vs:List Value}(h:CCells M w ρ cs vs):(∀v∈vs,v.oneCell'=true)∧CReps M w ρ cs vs:=⟨λv hv=>by
 obtain⟨j,hj,rfl⟩:=List.getElem_of_mem hv
 have hj2:j<cs.length:=by rw[←h.1];exact hj
 exact(h.2 j cs[j] _ (by simp[hj2]) (by simp[hj])).2,h.1,λj c x h1 h2=>(h.2 j c x h1 h2).1⟩
theorem CReps.cc {M:Nat→Prop}{w:World}{ρ:Rho}{cs:List CV}{vs:List Value}(h:CReps M w ρ cs vs) (h1:∀v∈vs,v.oneCell'=true):CCells M w ρ cs vs:=⟨h.1,λj c x h2 h3=>⟨h.2 j c x h2 h3,h1 x (List.mem_of_getElem? h3)⟩⟩
def cellsS:SV→Option (List CV)
 | .d (.tup _)=>none
 | .d a=>some ((cellsA a).map .d)
 | .bx k g o=>some [.bx k g o]
 | .ow k g=>some [.ow k g]
 | .ag l=>some l
 | .eq v=>some [.eq v]
 | _=>none
theorem SRep.cc {M:Nat→Prop}{w:World}{ρ:Rho}{s:SV}{x:Value}{cs:List CV}(h:SRep M w ρ s x) (hc:cellsS s=some cs):CCells M w ρ cs x.cells.toList:=by
 have one:∀(c:CV) (x:Value),CRep M w ρ c x→x.oneCell'=true→CCells M w ρ [c] x.cells.toList:=λc x h1 h2=>by
  rw[one_cells h2]
  exact⟨rfl,λj a y h3 h4=>by
   match j,h3,h4 with
   | 0,h3,h4=>simp at h3 h4;subst h3 h4;exact⟨h1,h2⟩
   | j+1,h3,_=>simp at h3⟩
 cases s with
 | d a =>
  have hd:cellB a=true∧(cellsA a).map CV.d=cs:=by
   cases a<;>simp[cellsS]at hc<;>first|exact⟨rfl,hc⟩|cases hc
  rw[←hd.2]
  exact(Rep.cells h hd.1).cc
 | bx k g o =>
  obtain rfl:=Option.some.inj hc
  obtain⟨_,b,_,_,h3⟩:=id h
  exact one (.bx k g o) x h (by rw[h3];rfl)
 | ow k g =>
  obtain rfl:=Option.some.inj hc
  exact one (.ow k g) x h h.2
 | eq v =>
  obtain rfl:=Option.some.inj hc
  exact one (.eq v) x h (by rw[h.1];exact h.2)
 | ag l =>
  obtain rfl:=Option.some.inj hc
  obtain⟨vs,rfl,h1,h2⟩:=h
  exact h2.cc h1
 | _=>cases hc
def fillC (place:Nat→Option (Nat×Nat)) (cells:List CV):List (Nat×List CV)→Option (List CV)
 | []=>some cells
 | (i,a)::rest=>match place i with
  | none=>none
  | some (off,size)=>if a.length≠size||off+a.length>cells.length then none else fillC place (cells.take off++a++cells.drop (off+a.length)) rest
section
variable {P:Program}{N:Nat}{M0:Nat→Prop}{w0:Base}{ops:Array Oper}{Q:Exit→ASt→Prop}{o:Oper}{l:List Oper}{st:ASt}
def PartsC (st:ASt):List (Nat×Operand)→List (Nat×List CV)→Prop
 | [],[]=>True
 | (i,x)::xs,(j,a)::aa=>i=j∧cellsS (st.ev x)=some a∧PartsC st xs aa
 | _,_=>False
theorem run_fillC {M:Nat→Prop}{w:World}{ρ:Rho}{a:Act}(place:Nat→Option (Nat×Nat)):∀(ps:List (Nat×Operand)) (aa:List (Nat×List CV)) (cs r:List CV) (vs:Array Value),PartsC st ps aa→(∀p∈ps,SRep M w ρ (st.ev p.2) (a.eval p.2))→CCells M w ρ cs vs.toList→fillC place cs aa=some r →
  ∃us:Array Value,Instr.fill place vs (ps.map λ(i,x)=>(i,a.eval x))=some us∧CCells M w ρ r us.toList
 | [],[],cs,r,vs,_,_,hc,hr=>by simp only[fillC,Option.some.injEq]at hr;subst hr;exact⟨vs,rfl,hc⟩
 | (i,x)::ps,(j,b)::aa,cs,r,vs,hp,hs,hc,hr=>by
  obtain⟨rfl,hx,hp⟩:=hp
  have h1:=hs (i,x) (by simp)
  have h2:=SRep.cc h1 hx
  simp only[fillC]at hr
  simp only[List.map_cons,Instr.fill]
  cases hpl:place i with
  | none=>rw[hpl]at hr;cases hr
  | some p =>
   obtain⟨off,size⟩:=p
   rw[hpl]at hr
   simp only at hr ⊢
   split at hr
   ·cases hr
   ·rename_i hn
    simp only[Bool.or_eq_true,decide_eq_true_eq,not_or,Nat.not_lt]at hn
    obtain⟨h3,h4⟩:=hn
    have hl1:(a.eval x).cells.size=b.length:=by rw[←h2.1];simp
    have hl2:vs.size=cs.length:=by rw[←hc.1];simp
    have h3':b.length=size:=by simpa using h3
    rw[if_neg (by simp only[Bool.or_eq_true,decide_eq_true_eq,not_or,Nat.not_lt];exact⟨by simp;omega,by omega⟩)]
    refine run_fillC place ps aa _ r _ hp (λp hp'=>hs p (by simp[hp'])) ?_ hr
    have h5:=fold_splice off (a.eval x).cells.toList 0 vs (by simp;omega)
    have e:(Array.foldl (λcs (p:Value×Nat)=>cs.setIfInBounds (off+p.2) p.1) vs (a.eval x).cells.zipIdx).toList=vs.toList.take off++(a.eval x).cells.toList++vs.toList.drop (off+b.length):=by
     rw[←Array.foldl_toList,Array.toList_zipIdx,h5]
     simp[hl1]
    have e':(Array.foldl (λcs (x:Value×Nat)=>match x with|(c,j)=>cs.setIfInBounds (off+j) c) vs (a.eval x).cells.zipIdx).toList=_:=e
    rw[e']
    exact((hc.take off).append h2).append (hc.drop _)
 | [],_::_,_,_,_,h,_,_,_=>h.elim
 | _::_,[],_,_,_,h,_,_,_=>h.elim
theorem Pu_buildAg {t:TypeId}{ps:Array (Nat×Operand)}{aa:List (Nat×List CV)}{fs:Array Field}{places:Array (Nat×Nat)}{zs:List Value}{r:List CV}(ho:o.op=.build t ps) (ht:P.underlying t=some (.struct fs)) (hz:∀w,(zeroValue t).run P w=.ok (.agg zs.toArray) w)
  (hp:∀w,(fs.mapM (λf=>do pure (f.offset,←sizeOf f.type)):Sem (Array (Nat×Nat))).run P w=.ok places w) (hv:zs.all (λz=>decide (vok z))=true) (ha:PartsC st ps.toList aa) (hr:fillC (places[·]?) (zs.map λz=>.d (.v z)) aa=some r):Pu P st o (.ag r):=Pu_q λB M ρ w a h2 _=>by
 have hz0:CCells M w ρ (zs.map λz=>.d (.v z)) zs:=by
  have:=(cells_v (M:=M) (w:=w) hv).cc (ρ:=ρ)
  rwa [List.map_map]at this
 obtain⟨us,h3,h4⟩:=run_fillC (M:=M) (w:=w) (ρ:=ρ) (a:=a) (places[·]?) ps.toList aa _ r zs.toArray ha (λp hp=>h2 p.2 (by
  simp only[opsOf,ho,Op.operands]
  exact List.mem_map.2 ⟨p,hp,rfl⟩)) hz0 hr
 refine⟨.agg us,?_,us.toList,by simp,h4.reps⟩
 have e:(ps.map λ(p:Nat×Operand)=>(p.1,a.eval p.2)).toList=ps.toList.map λ(i,x)=>(i,a.eval x):=by simp
 simp only[execOp,ho,Instr.build,Sem.run_bind,hz,Result.andThen_ok,run_underlying ht,hp,Value.cells]
 rw[e]
 simp only[h3,Sem.run_pure,Sem.run_bind,Result.andThen_ok]
theorem cv_one {M:Nat→Prop}{w:World}{ρ:Rho}{r:List CV}{vs:List Value}{j:Nat}{s:SV}{x:Value}(h:CReps M w ρ r vs) (h1:∀v∈vs,v.oneCell'=true) (hs:(r.map CV.sv)[j]?=some s) (hx:vs[j]?=some x):SRep M w ρ s x∧x.oneCell'=true:=by
 rw[List.getElem?_map]at hs
 obtain⟨c,h2,rfl⟩:=Option.map_eq_some_iff.1 hs
 exact⟨CV.rep.2 (h.2 j c x h2 hx),h1 x (List.mem_of_getElem? hx)⟩
theorem Al_boxAg {d:Nat}{T:TypeId}{x:Operand}{r:List CV}(ho:o.op=.box T x) (hg:o.guard=none) (hd:o.dst=some d) (hN:d<N) (hc:conB o=true) (hx:st.ev x=.ag r)
  (h:∀g,Al P N M0 w0 ops Q l ((st.put d g (.box T (r.map CV.sv))).set d (.bx d g 0))):Al P N M0 w0 ops Q (o::l) st:=by
 refine⟨?_⟩
 rintro a w ⟨ρ,hsim⟩
 have hm:=hsim.ev hc x (by simp[opsOf,ho,Op.operands])
 rw[hx]at hm
 obtain⟨vs,hy,h1,hr⟩:=hm
 have hE:Ev.Ext w (w.alloc (.cells vs.toArray T)):=(Below.refl _ _).alloc (Nat.le_refl _) _
 obtain⟨g',ρ',k1,k2⟩:=hsim.upd (w':=w.alloc (.cells vs.toArray T)) d ⟨rfl,rfl,rfl⟩ hE.size (λb hb _=>hE.block b hb) (x':=.pointer (some ⟨w.heap.size,0,none⟩)) (o':=.box T (r.map CV.sv)) (λb hb=>by simp[blk]at hb;exact .inl (by omega))
  (λM' ρ' hK hle=>⟨w.heap.size,vs.toArray,rfl,.inl hsim.ext.size,heap_alloc_new _ _,by simp[hr.1],λj s x h2 h3=>by
   have h3':vs[j]?=some x:=by simpa using h3
   exact cv_one ((hr.mono hK).rho hle) h1 h2 h3'⟩)
 refine wpList_plain hg λK hK=>wp_upon ?_
 have e:(execOp a.eval o).run P w=.ok (.value (.pointer (some ⟨w.heap.size,0,none⟩))) (w.alloc (.cells vs.toArray T)):=by
  simp[execOp,ho,hy,Instr.box,newVar,newRow,newObj,Value.cells,Sem.run,Sem.run_bind]
 rw[e]
 refine hK _ _ ((h g').out _ _ ⟨ρ',?_⟩)
 rw[hd]
 exact k1.set hN ⟨_,_,k2,rfl,rfl⟩
theorem Pu_loadAg {t T:TypeId}{x:Operand}{k g off n:Nat}{cs:List SV}{r:List CV}(ho:o.op=.load t x) (ht:∀w,(isAgg t).run P w=.ok true w) (hz:∀w,(sizeOf t).run P w=.ok n w) (hx:st.ev x=.bx k g off) (hob:st.ob k=some (g,.box T cs)) (hr:(cs.drop off).take n=r.map CV.sv) (hn:r.length=n):Pu P st o (.ag r):=Pu_q λB M ρ w a h2 h3=>by
 have h1:=h2 x (by simp[opsOf,ho,Op.operands])
 rw[hx]at h1
 obtain⟨u,b,h4,h5,h6⟩:=h1
 obtain⟨u',h7,b',vs,rfl,h8,h9,h10,h11⟩:=h3 k g _ hob
 rw[h4]at h7;cases h7
 simp only[blk,Option.some.injEq]at h5
 subst h5
 have hlen:n≤cs.length - off:=by
  have:=congrArg List.length hr
  simp only[List.length_take,List.length_drop,List.length_map]at this
  omega
 have hat:∀j,j<n→w.cell? ⟨b',off+j,none⟩=some (vs.toList.getD (off+j) undef):=λj hj=>by
  have:off+j<vs.size:=by omega
  simp[World.cell?,h9,List.getD_eq_getElem?_getD,this]
 have hrun:=run_cells (P:=P) (w:=w) (b:=b') n off 0 (λj=>vs.toList.getD (off+j) undef) #[] (λj hj=>by rw[Nat.zero_add];exact hat j hj)
 refine⟨_,?_,(List.range n).map (λj=>vs.toList.getD (off+j) undef),rfl,?_,by simp[hn],λj c y h12 h13=>?_⟩
 ·simp only[execOp,ho,h6,Instr.loadAt,Instr.sureAddr,loadVar,Sem.run_bind,Sem.run_pure,Result.andThen_ok,ht,hz,if_true,loadCells,hrun]
  simp
 ·intro v hv
  obtain⟨j,hj,rfl⟩:=List.mem_map.1 hv
  have hj:=List.mem_range.1 hj
  have h12:∃s,cs[off+j]?=some s:=⟨cs[off+j]'(by omega),by simp⟩
  obtain⟨s,h12⟩:=h12
  have h13:vs[off+j]?=some (vs.toList.getD (off+j) undef):=by
   have:off+j<vs.size:=by omega
   simp[List.getD_eq_getElem?_getD,this]
  exact(h11 _ s _ h12 h13).2
 ·have hj:j<n:=by have:=(List.getElem?_eq_some_iff.1 h12).1;omega
  rw[List.getElem?_map,List.getElem?_range hj]at h13
  simp only[Option.map_some,Option.some.injEq]at h13
  subst h13
  have h14:cs[off+j]?=some c.sv:=by
   have:=congrArg (λl=>l[j]?) hr
   simp only[List.getElem?_take,if_pos hj,List.getElem?_drop,List.getElem?_map,h12,Option.map_some]at this
   exact this
  have h15:vs[off+j]?=some (vs.toList.getD (off+j) undef):=by
   have:off+j<vs.size:=by omega
   simp[List.getD_eq_getElem?_getD,this]
  exact CV.rep.1 (h11 _ _ _ h14 h15).1
theorem Pu_indexArr {t e:TypeId}{x i:Operand}{n k m:Nat}{z:Int}{cs:List AV}(ho:o.op=.indexAddr t x i) (ht:P.underlying t=some (.array m e)) (hz:∀w,(sizeOf e).run P w=.ok n w) (hx:st.ev x=.d (.fp cs)) (hi:st.ev i=.d (.v (.int .i64 z))) (hk:z=k) (hlt:k<m):Pu P st o (.d (.fp (cs.drop (k*n)))):=Pu_q λB M ρ w a h2 _=>by
 have mm:x∈opsOf o∧i∈opsOf o:=by simp[opsOf,ho,Op.operands]
 obtain⟨e2,_⟩:=ev_v h2 mm.2 hi
 have hm:=h2 x mm.1
 rw[hx]at hm
 generalize hy:a.eval x=y at hm
 cases hm with
 | fp cs b o' f hc hr =>
  subst hk
  refine⟨.pointer (some ⟨b,o'+k*n,none⟩),?_,.fp _ b (o'+k*n) (λj=>f (k*n+j)) (λj a ha=>?_) (λj a ha=>?_)⟩
  ·simp only[execOp,ho,hy,e2,Instr.indexAt,Sem.run_bind,asIntOf,Sem.run_pure,Result.andThen_ok,run_underlying ht,Instr.sureAddr]
   rw[if_pos ⟨by omega,by omega⟩]
   simp only[Sem.run_bind,hz,Result.andThen_ok,Int.toNat_natCast,add_addr,Sem.run_pure]
  ·rw[List.getElem?_drop]at ha
   have:=hc _ a ha
   rw[show o'+k*n+j=o'+(k*n+j)from by omega]
   exact this
  ·rw[List.getElem?_drop]at ha
   exact hr _ a ha
theorem Pu_indexArrb {t e:TypeId}{x i:Operand}{n j m k g off:Nat}{z:Int}(ho:o.op=.indexAddr t x i) (ht:P.underlying t=some (.array m e)) (hz:∀w,(sizeOf e).run P w=.ok n w) (hx:st.ev x=.bx k g off) (hi:st.ev i=.d (.v (.int .i64 z))) (hk:z=j) (hlt:j<m):Pu P st o (.bx k g (off+j*n)):=Pu_q λB M ρ w a h2 _=>by
 have mm:x∈opsOf o∧i∈opsOf o:=by simp[opsOf,ho,Op.operands]
 obtain⟨e2,_⟩:=ev_v h2 mm.2 hi
 have hm:=h2 x mm.1
 rw[hx]at hm
 obtain⟨u,b,h4,h5,h6⟩:=hm
 subst hk
 refine⟨.pointer (some ⟨b,off+j*n,none⟩),?_,u,b,h4,h5,rfl⟩
 simp only[execOp,ho,h6,e2,Instr.indexAt,Sem.run_bind,asIntOf,Sem.run_pure,Result.andThen_ok,run_underlying ht,Instr.sureAddr]
 rw[if_pos ⟨by omega,by omega⟩]
 simp only[Sem.run_bind,hz,Result.andThen_ok,Int.toNat_natCast,add_addr,Sem.run_pure]
theorem Al_sliceLit {d:Nat}{t e:TypeId}{len n:Nat}{ps:Array (Nat×Operand)}{aa:List (Nat×AV)}{zs:Value}{rows:List (List AV)}(ho:o.op=.buildSlice t len ps) (hg:o.guard=none) (hd:o.dst=some d) (hN:d<N) (hc:conB o=true) (ht:P.underlying t=some (.slice e)) (hs:∀w,(sizeOf e).run P w=.ok n w) (hz:∀w,(zeroValue e).run P w=.ok zs w) (hzs:zs.cells.size=n) (hn0:0<n) (hl0:0<len) (hmax:len*n≤16777216)
  (hv:zs.cells.toList.all (λz=>decide (vok z))=true) (ha:PartsOk st ps.toList aa) (hr:fillA (λi=>some (i*n,n)) (zerosA zs.cells.toList (len*n)) aa=some rows.flatten) (hlen:rows.length=len) (hn:(rows.all λr=>r.length==n)=true)
  (h:∀g,Al P N M0 w0 ops Q l ((st.put d g (.arr e n rows)).set d (.ow d g))):Al P N M0 w0 ops Q (o::l) st:=by
 refine⟨?_⟩
 rintro a w ⟨ρ,hsim⟩
 have h2:=hsim.ev hc
 have hzl:zs.cells.toList.length=n:=by simpa using hzs
 have hz0:Cells (Mt M0 ρ st.ob) w (zerosA zs.cells.toList (len*n)) ((Array.range (len*n)).map (zs.cells[·%zs.cells.size]!)).toList:=by
  refine⟨by simp[zerosA],λj b x h3 h4=>?_⟩
  unfold zerosA at h3
  have hj:j<len*n:=by
   have:=(List.getElem?_eq_some_iff.1 h3).1
   simpa using this
  rw[List.getElem?_map,List.getElem?_range hj]at h3
  simp only[Option.map_some,Option.some.injEq]at h3
  simp only[Array.toList_map,Array.toList_range,List.getElem?_map,List.getElem?_range hj,Option.map_some,Option.some.injEq]at h4
  have hlt:j%n<zs.cells.size:=by rw[hzs];exact Nat.mod_lt _ hn0
  have e1:zs.cells[j%zs.cells.size]! = zs.cells[j%n]:=by rw[hzs];simp[hlt]
  have e2:zs.cells.toList.getD (j%zs.cells.toList.length) undef=zs.cells[j%n]:=by rw[hzl];simp[List.getD_eq_getElem?_getD,hlt]
  rw[e1]at h4
  rw[e2]at h3
  subst h3 h4
  have:=List.all_eq_true.1 hv zs.cells[j%n] (by simp)
  have hvk:vok zs.cells[j%n]:=by simpa using this
  exact⟨.v _ hvk,hvk.one⟩
 obtain⟨us,h3,h4⟩:=run_fill (M:=Mt M0 ρ st.ob) (w:=w) (ρ:=ρ) (a:=a) (λi=>some (i*n,n)) ps.toList aa _ _ _ ha (λp hp=>h2 p.2 (by
  simp only[opsOf,ho,Op.operands]
  exact List.mem_map.2 ⟨p,hp,rfl⟩)) hz0 hr
 have hE:Ev.Ext w (w.alloc (.cells us e)):=(Below.refl _ _).alloc (Nat.le_refl _) _
 have hn':∀r∈rows,r.length=n:=λr hr'=>by have:=List.all_eq_true.1 hn r hr';simpa using this
 have hlm:len≤len*n:=Nat.le_mul_of_pos_right _ hn0
 have hus:us.toList.length=rows.length*n:=by rw[h4.1,flat_len hn']
 have e1:(ps.map λ(p:Nat×Operand)=>(p.1,a.eval p.2)).toList=ps.toList.map λ(i,x)=>(i,a.eval x):=by simp
 have hrun:(execOp a.eval o).run P w=.ok (.value (.slice (some ⟨w.heap.size,0,none⟩) len len)) (w.alloc (.cells us e)):=by
  simp only[execOp,ho,Instr.buildSlice,Sem.run_bind,run_underlying ht,Result.andThen_ok,hs]
  rw[if_neg (by show¬_>16777216;omega)]
  simp only[Sem.run_bind,Sem.run_pure,Result.andThen_ok]
  rw[if_neg (by intro h;have:0<len*n:=Nat.mul_pos hl0 hn0;omega)]
  simp only[Sem.run_bind,Sem.run_pure,Result.andThen_ok,hz]
  rw[e1]
  simp only[h3,Sem.run_pure,Sem.run_bind,Result.andThen_ok,newRow,newObj,Sem.run]
  rfl
 obtain⟨g',ρ',k1,k2⟩:=hsim.upd (w':=w.alloc (.cells us e)) d ⟨rfl,rfl,rfl⟩ hE.size (λb hb _=>hE.block b hb) (x':=.slice (some ⟨w.heap.size,0,none⟩) len len) (o':=.arr e n rows) (λb hb=>by simp[blk]at hb;exact .inl (by omega))
  (λM' ρ' hK _=>by
   obtain⟨vals,hv1,hv2⟩:=rows_of_flat (M:=M') (w:=w.alloc (.cells us e)) hn' hus (λq c x h5 h6=>⟨(h4.2 q c x h5 h6).1.mono hK,(h4.2 q c x h5 h6).2⟩)
   refine⟨vals,⟨by rw[hv1,hus],.inr ⟨w.heap.size,len,us,by rw[hlen],Nat.zero_le _,heap_alloc_new _ _,by omega,by unfold maxLen;omega,by rw[←hlen,←hus];simp,?_⟩⟩,hv2,⟨_,len,by rw[hlen]⟩,by unfold maxI;omega,λb hb=>?_⟩
   ·rw[hv1,←hus,List.take_length]
   ·simp only[blk,Option.some.injEq]at hb
    subst hb
    exact .inl hsim.ext.size)
 refine wpList_plain hg λK hK=>wp_upon ?_
 rw[hrun]
 refine hK _ _ ((h g').out _ _ ⟨ρ',?_⟩)
 rw[hd]
 exact k1.set hN ⟨k2,rfl⟩
end
end Go.Proofs.YtdnijgdmohinlaaGreat.A
end
section
namespace Go.Proofs.YtdnijgdmohinlaaGreat
open Go.RowKit A R
open A.RowT
def Dep.row (d:Dep):List AV:=[tv d.key,iv d.n,iv d.s]
def Event.row (e:Event):List AV:=[iv e.kind,iv e.client,tv e.key,iv e.n,iv e.s,.sl 3 (e.seen.map Dep.row)]
instance:DecidableEq Dep:=λa b=>decidable_of_iff (a.key=b.key∧a.n=b.n∧a.s=b.s) (by cases a;cases b;simp)
instance:RowI Dep where
 row:=Dep.row
 into h _:=by
  obtain⟨rfl,h2,h3,h4⟩:=h
  exact cellsc (.v _ h2) rfl (cellsc (.v _ h3) rfl (cells1 (.v _ h4) rfl))
 back h:=by
  obtain⟨x1,xs1,rfl,h1_1,h2_1,g1⟩:=uncons h
  obtain⟨rfl,k1⟩:=repv h1_1
  obtain⟨x2,xs2,rfl,h1_2,h2_2,g2⟩:=uncons g1
  obtain⟨rfl,k2⟩:=repv h1_2
  obtain⟨x3,xs3,rfl,h1_3,h2_3,g3⟩:=uncons g2
  obtain⟨rfl,k3⟩:=repv h1_3
  obtain rfl:=uncons0 g3
  exact⟨rfl,k1,k2,k3⟩
instance:RowT Event where
 row:=Event.row
 back h:=by
  obtain⟨x1,xs1,rfl,h1_1,h2_1,g1⟩:=uncons h
  obtain⟨rfl,k1⟩:=repv h1_1
  obtain⟨x2,xs2,rfl,h1_2,h2_2,g2⟩:=uncons g1
  obtain⟨rfl,k2⟩:=repv h1_2
  obtain⟨x3,xs3,rfl,h1_3,h2_3,g3⟩:=uncons g2
  obtain⟨rfl,k3⟩:=repv h1_3
  obtain⟨x4,xs4,rfl,h1_4,h2_4,g4⟩:=uncons g3
  obtain⟨rfl,k4⟩:=repv h1_4
  obtain⟨x5,xs5,rfl,h1_5,h2_5,g5⟩:=uncons g4
  obtain⟨rfl,k5⟩:=repv h1_5
  obtain⟨x6,xs6,rfl,h1_6,h2_6,g6⟩:=uncons g5
  obtain rfl:=uncons0 g6
  exact⟨x6,rfl,⟨k3,k1,k2,k4,k5⟩,sl_of (α:=Dep) h1_6⟩
end Go.Proofs.YtdnijgdmohinlaaGreat
end
section
namespace Go.Proofs.YtdnijgdmohinlaaGreat
open Go.RowKit A R
open A.RowT
set_option maxRecDepth 100000 in
theorem cloneD_g (l:List Dep) (hl:l.length≤1000000):GCall Tryz.prog 229 [.d (.sl 3 (l.map Dep.row))] [] (some ([(1001,.arr 110 3 (l.map Dep.row))],.ow 1001 0)):=by
 refine GC_1 Tryz.func229 Tryz.ntmps229 (ReadsS.r1 Tryz.results229) λhok hokB M0 w0=>?_
 refine Aw_sr ?_
 refine Al_mr ?_
 refine Al_nil (Aw_seq (Aw_sr ?_))
 refine Al_ml ?_
 refine Al_eqnil rfl rfl rfl (by decide) (by kernel_rfl) Tryz.underlying48 rfl (λnl hnl=>?_)
 refine Al_nil ?_
 refine Aw_cond rfl (λh4=>?_) (λh4=>?_)
 ·(try simp only[A.cd_]at h4)
  refine Aw_sr ?_
  refine Al_mr ?_
  refine Al_nil ?_
  obtain rfl:l=[]:=by simpa using hnl h4
  refine Aw_own (j:=2) (k:=2) (T:=110) (n:=3) rfl (λg=>?_)
  exact Aw_ret (⟨_,_,[(1001,2,g)],rfl,Sub.rfl,⟨rfl,trivial⟩,rfl⟩)
 ·(try simp only[A.cd_]at h4)
  refine Aw_skip (Aw_sr ?_)
  refine Al_slice0 rfl rfl rfl (by decide) Tryz.underlying48 Tryz.sizeOf110 (λg5=>?_)
  refine Al_ml ?_
  refine Al_append rfl rfl rfl (by decide) (by kernel_rfl) elem48 (by decide) Tryz.sizeOf110 rfl rfl rfl (by simp;omega) (by decide) (λg7=>?_)
  refine Al_mr ?_
  refine Al_nil ?_
  exact Aw_ret (⟨_,_,[(1001,5,g7)],rfl,Sub.rfl,⟨rfl,trivial⟩,rfl⟩)
theorem ins_grow {α:Type}{L:List α}{z x:α}{i:Nat}(hi:i<L.length):(((L.take i++List.replicate (L.length+1 - i) z).take i++[x].take 1++(L.take i++List.replicate (L.length+1 - i) z).drop (i+1)).take (i+1)++(L.drop i).take (L.length - i)++((L.take i++List.replicate (L.length+1 - i) z).take i++[x].take 1++(L.take i++List.replicate (L.length+1 - i) z).drop (i+1)).drop (i+1+(L.length - i)))=L.take i++x::L.drop i:=by
 have h1:(L.take i).length=i:=by simp;omega
 have h2:(L.take i++List.replicate (L.length+1 - i) z).take i=L.take i:=by
  rw[List.take_append_of_le_length (by omega),List.take_of_length_le (by omega)]
 rw[h2]
 have h3:((L.take i++List.replicate (L.length+1 - i) z).drop (i+1)).length=L.length - i:=by simp;omega
 generalize (L.take i++List.replicate (L.length+1 - i) z).drop (i+1)=D at *
 have h4:(L.take i++[x].take 1).length=i+1:=by simp;omega
 have e1:(L.take i++[x].take 1++D).take (i+1)=L.take i++[x].take 1:=by rw[List.take_append_of_le_length (by omega),List.take_of_length_le (by omega)]
 have e2:(L.take i++[x].take 1++D).drop (i+1+(L.length - i))=[]:=List.drop_eq_nil_of_le (by rw[List.length_append,h4,h3];omega)
 rw[e1,e2,List.take_of_length_le (l:=L.drop i) (by simp)]
 simp
theorem ins_room {α:Type}{L:List α}{x:α}{i:Nat}(hi:i<L.length):((L.take (i+1)++(L.drop i).take (L.length - i)).take i++[x].take 1++(L.take (i+1)++(L.drop i).take (L.length - i)).drop (i+1))=L.take i++x::L.drop i:=by
 have h1:(L.take (i+1)).length=i+1:=by simp;omega
 rw[List.take_append_of_le_length (by omega),List.take_take,Nat.min_eq_left (by omega),List.drop_append_of_le_length (by omega),List.drop_eq_nil_of_le (by omega),List.take_of_length_le (l:=L.drop i) (by simp)]
 simp
set_option maxRecDepth 100000 in
set_option maxHeartbeats 1000000 in
theorem insertD_g (l:List Dep) (x:Dep) (i:Nat) (hi:i≤l.length) (hl:l.length≤1000000):GCall Tryz.prog 309 [.ow 1001 0,.d (iv i),.ow 1002 0] [(1001,.arr 110 3 (l.map Dep.row)),(1002,.arr 110 3 [Dep.row x])] (some ([(1003,.arr 110 3 ((l.take i++x::l.drop i).map Dep.row))],.ow 1003 0)):=by
 refine GC_1 Tryz.func309 Tryz.ntmps309 (ReadsS.r1 Tryz.results309) λhok hokB M0 w0=>?_
 have hlm:(l.map Dep.row).length=l.length:=List.length_map ..
 have hres:(l.take i++x::l.drop i).map Dep.row=(l.map Dep.row).take i++Dep.row x::(l.map Dep.row).drop i:=by simp
 rw[hres]
 generalize l.map Dep.row=L at *
 refine Aw_sr ?_
 refine Al_mr ?_
 refine Al_ns ?_
 refine Al_ml ?_
 refine Al_ml ?_
 refine Al_p (Pu_sliceOw i L.length rfl Tryz.underlying48 Tryz.sizeOf110 rfl rfl ⟨_,rfl,rfl⟩ rfl ⟨by omega,.inl (by omega)⟩) ?_
 refine Al_ns ?_
 refine Al_ml ?_
 refine Al_p (Pu_lenOw (m:=1) rfl Tryz.underlying48 rfl rfl rfl) ?_
 refine Al_mr ?_
 refine Al_nil (Aw_seq (Aw_sr ?_))
 refine Al_ml ?_
 refine Al_p Pu_cp ?_
 refine Al_nil ?_
 refine Aw_cond rfl (λh16=>?_) (λh16=>?_)
 ·(try simp only[A.cd_]at h16)
  exfalso;revert h16;decide
 ·(try simp only[A.cd_]at h16)
  refine Aw_skip (Aw_sr ?_)
  refine Al_ml ?_
  refine Al_p (Pu_lenOw rfl Tryz.underlying48 rfl rfl rfl) ?_
  refine Al_mr ?_
  refine Al_nil (Aw_seq (Aw_sr ?_))
  refine Al_ml ?_
  refine Al_ml ?_
  refine Al_p Pu_cp ?_
  refine Al_nil ?_
  refine Aw_cond rfl (λh22=>?_) (λh22=>?_)
  ·(try simp only[A.cd_]at h22)
   refine Aw_sr ?_
   refine Al_ml ?_
   refine Al_ml ?_
   refine Al_appendOw (k2:=1002) (g2:=0) rfl rfl rfl (by decide) (by kernel_rfl) elem48 (by decide) Tryz.sizeOf110 rfl rfl rfl rfl Nat.one_pos (by simp;omega) (by decide) (λg25=>?_)
   refine Al_mr ?_
   refine Al_nil ?_
   exact Aw_ret (⟨_,_,[(1003,1001,g25)],rfl,Sub.rfl,⟨obeq (by rw[show i=L.length by omega];simp),trivial⟩,rfl⟩)
  ·(try simp only[A.cd_]at h22)
   refine Aw_skip (Aw_seq (Aw_sr ?_))
   refine Al_ml ?_
   refine Al_ml ?_
   refine Al_p Pu_ad ?_
   refine Al_ml ?_
   refine Al_cap (kt:=900) rfl rfl rfl (by decide) (by kernel_rfl) Tryz.underlying48 rfl rfl rfl (λc gt hc hcm=>?_)
   refine Al_p Pu_cp ?_
   refine Al_nil ?_
   refine Aw_cond rfl (λh31=>?_) (λh31=>?_)
   ·(try simp only[A.cd_]at h31)
    refine Aw_sr ?_
    refine Al_ml ?_
    refine Al_ml ?_
    refine Al_p (Pu_sliceOw 0 i rfl Tryz.underlying48 Tryz.sizeOf110 rfl rfl rfl ⟨_,rfl,rfl⟩ ⟨by omega,.inl (by omega)⟩) ?_
    refine Al_ml ?_
    refine Al_ml ?_
    refine Al_p Pu_ad ?_
    refine Al_ml ?_
    refine Al_p (Pu_sub rfl rfl rfl (λh1 h2=>by simp only[A.inI,A.maxI]at *;omega)) ?_
    refine Al_appendZ (zz:=L.length+1 - i) (kt:=900) (c:=c) rfl rfl rfl (by decide) (by kernel_rfl) elem48 Tryz.underlying3 Tryz.zeroValue110 (by decide) rfl (by kernel_rfl) rfl rfl rfl (by omega) (by omega) (by omega) rfl (by omega) (by omega) (by decide) (λg40=>?_) rfl
    generalize hzr:List.map AV.v _=zs
    have hz1:(L.take i++List.replicate (L.length+1 - i) zs).length=L.length+1:=by simp;omega
    refine Al_mr ?_
    refine Al_ns ?_
    refine Al_ml ?_
    refine Al_ml ?_
    refine Al_p (Pu_sliceOw i (L.take i++List.replicate (L.length+1 - i) zs).length rfl Tryz.underlying48 Tryz.sizeOf110 rfl rfl ⟨_,rfl,rfl⟩ rfl ⟨by omega,.inl (by omega)⟩) ?_
    refine Al_ml ?_
    refine Al_copy (c:=1) (L:=1) rfl rfl rfl (by decide) (by kernel_rfl) Tryz.underlying48 Tryz.sizeOf110 (by decide) rfl rfl (.inr (.inr ⟨_,_,_,rfl,rfl,rfl⟩)) (by omega) Nat.one_pos (Nat.le_refl _) (by omega) ?_
    refine Al_nil (Aw_seq ?_)
    refine Aw_dr 8 ?_
    refine Dr_ml ?_
    refine Dr_ml ?_
    refine Dr_ml ?_
    refine Dr_p Pu_ad ?_
    refine Dr_p (Pu_sliceOw (i+1) (L.length+1) rfl Tryz.underlying48 Tryz.sizeOf110 rfl rfl ⟨_,rfl,by omega⟩ (by show L.length+1=_;simp;omega) ⟨by omega,.inl (by simp;omega)⟩) ?_
    refine Dr_ml ?_
    refine Dr_ml ?_
    refine Dr_p (Pu_sliceOw i L.length rfl Tryz.underlying48 Tryz.sizeOf110 rfl rfl ⟨_,rfl,rfl⟩ rfl ⟨by omega,.inl (by omega)⟩) ?_
    refine Dr_nil ?_
    refine Al_copy (c:=L.length - i) (L:=L.length - i) (news:=L.drop i) rfl rfl rfl (by decide) (by kernel_rfl) Tryz.underlying48 Tryz.sizeOf110 (by decide) rfl rfl (.inr (.inl ⟨_,_,_,_,_,_,rfl,rfl,rfl,by rw[List.take_length]⟩)) (by omega) (by omega) (by simp) (by simp;omega) ?_
    refine Al_ns ?_
    refine Al_ml ?_
    refine Al_mr ?_
    refine Al_nil ?_
    exact Aw_ret (⟨_,_,[(1003,40,g40)],rfl,Sub.rfl,⟨obeq (ins_grow (by omega)),trivial⟩,rfl⟩)
   ·(try simp only[A.cd_]at h31)
    refine Aw_skip (Aw_sr ?_)
    refine Al_ml ?_
    refine Al_ml ?_
    refine Al_ml ?_
    refine Al_p Pu_ad ?_
    refine Al_p (Pu_sliceOw 0 (L.length+1) rfl Tryz.underlying48 Tryz.sizeOf110 rfl rfl rfl ⟨_,rfl,by omega⟩ ⟨by omega,.inr ⟨900,gt,c,rfl,by omega⟩⟩) ?_
    refine Al_mr ?_
    refine Al_nil (Aw_seq (Aw_sr ?_))
    refine Al_ml ?_
    refine Al_ml ?_
    refine Al_ml ?_
    refine Al_ml ?_
    refine Al_p Pu_ad ?_
    refine Al_p (Pu_sliceOws (i+1) (i+1) rfl Tryz.underlying48 Tryz.sizeOf110 rfl ⟨_,rfl,by omega⟩ (by omega) (by omega)) ?_
    refine Al_overlaps (tS:=48) (tR:=4) (e:=110) (λargs w=>run_callFunc_extern Tryz.func359 (by kernel_rfl) (by kernel_rfl) (by kernel_rfl) (e:=Extern.SlicesOverlaps.overlaps #[48,48] #[4]) (by kernel_rfl) args w) rfl rfl rfl (by decide) (by kernel_rfl) Tryz.underlying48 Tryz.sizeOf110 (by decide) rfl rfl Nat.one_pos rfl rfl rfl (by omega) ?_
    refine Al_p Pu_n ?_
    refine Al_nil ?_
    refine Aw_cond rfl (λh68=>?_) (λh68=>?_)
    ·(try simp only[A.cd_]at h68)
     refine Aw_seq ?_
     refine Aw_dr 8 ?_
     refine Dr_ml ?_
     refine Dr_ml ?_
     refine Dr_ml ?_
     refine Dr_p Pu_ad ?_
     refine Dr_p (Pu_sliceOws (i+1) (i+1) rfl Tryz.underlying48 Tryz.sizeOf110 rfl ⟨_,rfl,by omega⟩ (by omega) (by omega)) ?_
     refine Dr_ml ?_
     refine Dr_ml ?_
     refine Dr_p (Pu_sliceOws i i rfl Tryz.underlying48 Tryz.sizeOf110 rfl ⟨_,rfl,rfl⟩ (by omega) (by omega)) ?_
     refine Dr_nil ?_
     refine Al_copyUp (j:=0) (c:=L.length - i) (L:=L.length+1 - i) (news:=L.drop i) rfl rfl rfl (by decide) (by kernel_rfl) Tryz.underlying48 Tryz.sizeOf110 (by decide) rfl rfl (by show SV.ows 1001 0 3 0 (L.length+1)=SV.ows 1001 0 3 0 (i+1+(L.length - i));congr 1;omega) (.inr (.inl ⟨_,_,_,_,_,_,rfl,rfl,rfl,by rw[List.take_of_length_le (by omega)]⟩)) (by omega) (by omega) (by simp) (by omega) (by omega) (λg77=>?_)
     have hz2:(L.take (i+1)++(L.drop i).take (L.length - i)).length=L.length+1:=by simp;omega
     refine Al_ns ?_
     refine Al_ml ?_
     refine Al_ml ?_
     refine Al_p (Pu_sliceOw i (L.take (i+1)++(L.drop i).take (L.length - i)).length rfl Tryz.underlying48 Tryz.sizeOf110 rfl rfl ⟨_,rfl,rfl⟩ rfl ⟨by omega,.inl (by omega)⟩) ?_
     refine Al_ml ?_
     refine Al_copy (c:=1) (L:=1) rfl rfl rfl (by decide) (by kernel_rfl) Tryz.underlying48 Tryz.sizeOf110 (by decide) rfl rfl (.inr (.inr ⟨_,_,_,rfl,rfl,rfl⟩)) (by omega) Nat.one_pos (Nat.le_refl _) (by omega) ?_
     refine Al_ns ?_
     refine Al_ml ?_
     refine Al_mr ?_
     refine Al_nil ?_
     exact Aw_ret (⟨_,_,[(1003,1001,g77)],rfl,Sub.rfl,⟨obeq (ins_room (by omega)),trivial⟩,rfl⟩)
    ·(try simp only[A.cd_]at h68)
     exfalso;revert h68;decide
instance:Inhabited Dep:=⟨⟨⟨#[]⟩,0,0⟩⟩
set_option maxRecDepth 100000 in
theorem bsearchD_a (l:List Dep) (tg:AV) (f:FuncId) (c:Dep→Int) (s:Nat) (hf:∀x,ACall Tryz.prog f [.row x.row,tg] (iv (c x))) (hl:l.length≤1000000) (hs:s≤l.length) (hlo:∀(j:Nat) (hj:j<l.length),j<s→c l[j]<0) (hhi:∀(j:Nat) (hj:j<l.length),s≤j→0≤c l[j]):ACall Tryz.prog 356 [.sl 3 (l.map Dep.row),tg,.fn f []] (.tup [iv s,bv (decide (s<l.length)&&decide (c (l.getD s default)=0))]):=by
 refine AC_2 Tryz.func356 Tryz.ntmps356 Tryz.results356 λhok M0 w0 hnl=>?_
 refine Aw_sr ?_
 refine Al_mr ?_
 refine Al_mr ?_
 refine Al_ns ?_
 refine Al_ml ?_
 refine Al_p (Pu_ln Tryz.underlying48) ?_
 refine Al_mr ?_
 refine Al_ns ?_
 refine Al_ml ?_
 refine Al_mr ?_
 refine Al_mr ?_
 refine Al_nil (Aw_seq (Aw_block ?_))
 refine Aw_loopk (ι:=Nat×Nat) [0,1,2,8] [] (λ(a,b)=>[(9,.d (iv a)),(10,.d (iv b))]) (λ(a,b)=>[]) (λ(a,b)=>a≤s∧s≤b∧b≤l.length) (λ(a,b)=>b - a) (0,l.length) (⟨Nat.zero_le _,hs,Nat.le_refl _⟩) ⟨Sub.rfl,Sub.num (by simp),trivial⟩ trivial ?_
 rintro⟨a,b⟩ ⟨ha,hb,hbl⟩
 refine Aw_seq (Aw_sr ?_)
 refine Al_ml ?_
 refine Al_ml ?_
 refine Al_p Pu_cp ?_
 refine Al_nil ?_
 refine Aw_cond rfl (λh17=>?_) (λh17=>?_)
 ·(try simp only[A.cd_]at h17)
  have hm:(a+b) / 2<l.length:=by omega
  refine Aw_skip (Aw_block (Aw_sr ?_))
  refine Al_ml ?_
  refine Al_ml ?_
  refine Al_p Pu_ad ?_
  refine Al_p (Pu_conv (k':=.u64) (a:=((a+b:Nat):Int)) rfl Tryz.underlying3 Tryz.underlying390 rfl (λ_=>u64_nat (by omega) (by omega))) ?_
  refine Al_p (Pu_int_shr (r:=(((a+b) / 2:Nat):Int)) rfl rfl rfl ⟨by decide,by decide⟩ (by show(((a+b:Nat):Int)) / 2^1=_;omega) (λ_=>by show 0≤_∧_;omega)) ?_
  refine Al_p (Pu_conv (k':=.i64) rfl Tryz.underlying390 Tryz.underlying3 rfl (λ_=>i64_nat (by simp only[A.inI];omega))) ?_
  refine Al_mr ?_
  refine Al_ns ?_
  refine Al_ml ?_
  refine Al_ml ?_
  refine Al_ml ?_
  refine Al_p (Pu_index rfl Tryz.underlying48 Tryz.sizeOf110 rfl rfl (rfl) (mapget hm)) ?_
  refine Al_p (Pu_lN Tryz.isAgg110 Tryz.sizeOf110) ?_
  refine Al_ml ?_
  refine Al_p (Pu_callv (aa:=[(λx=>.row x.row) (l[(a+b) / 2]'hm),tg]) (caps:=[]) (hf (l[(a+b) / 2]'hm)) rfl rfl ⟨Sub.rfl,Sub.rfl,trivial⟩) ?_
  refine Al_p Pu_cp ?_
  refine Al_nil ?_
  refine Aw_cond rfl (λh31=>?_) (λh31=>?_)
  ·(try simp only[A.cd_]at h31)
   have hms:(a+b) / 2<s:=by
    rcases Nat.lt_or_ge ((a+b) / 2) s with h|h
    ·exact h
    ·have:=hhi _ hm h;omega
   refine Aw_region ?_
   refine Al_ml ?_
   refine Al_p Pu_ad ?_
   refine Al_mr ?_
   refine Al_nil ?_
   exact⟨((a+b) / 2+1,b),⟨by omega,hb,hbl⟩,by simp only[];omega,Le.ov ⟨Sub.num (by omega),Sub.rfl,trivial⟩ ⟨Sub.rfl,Sub.rfl,Sub.rfl,Sub.rfl,trivial⟩ trivial trivial⟩
  ·(try simp only[A.cd_]at h31)
   have hms:s≤(a+b) / 2:=by
    rcases Nat.lt_or_ge ((a+b) / 2) s with h|h
    ·have:=hlo _ hm h;omega
    ·exact h
   refine Aw_region ?_
   refine Al_ml ?_
   refine Al_mr ?_
   refine Al_nil ?_
   exact⟨(a,(a+b) / 2),⟨ha,hms,by omega⟩,by simp only[];omega,Le.ov ⟨Sub.rfl,Sub.rfl,trivial⟩ ⟨Sub.rfl,Sub.rfl,Sub.rfl,Sub.rfl,trivial⟩ trivial trivial⟩
 ·(try simp only[A.cd_]at h17)
  obtain rfl:a=s:=by omega
  refine Aw_exit (Aw_sr ?_)
  refine Al_ml ?_
  refine Al_ml ?_
  refine Al_ml ?_
  refine Al_p Pu_cp ?_
  refine Al_ml ?_
  refine Al_s (St_g [] trivial (λ_=>Pu_mvl)) ?_
  refine Al_s (St_g [] trivial (λ_=>Pu_mvl)) ?_
  refine Al_s (St_g [] trivial (λ_=>Pu_mvl)) ?_
  refine Al_s (St_gd [41,42] rfl rfl rfl rfl ⟨⟨_,rfl⟩,⟨_,rfl⟩,trivial⟩ (λhg43=>by exact Pu_index rfl Tryz.underlying48 Tryz.sizeOf110 rfl rfl (rfl) (mapgetD (d:=default) (by simpa using hg43)))) ?_
  refine Al_s (St_g [43] ⟨⟨_,rfl⟩,trivial⟩ (λ_=>Pu_lN Tryz.isAgg110 Tryz.sizeOf110)) ?_
  refine Al_s (St_g [] trivial (λ_=>Pu_mvl)) ?_
  refine Al_s (St_g [40,44,45] ⟨⟨_,rfl⟩,⟨_,rfl⟩,⟨_,rfl⟩,trivial⟩ (λ_=>Pu_callv (aa:=[(λx=>.row x.row) (l.getD a default),tg]) (caps:=[]) (hf (l.getD a default)) rfl rfl ⟨Sub.rfl,Sub.rfl,trivial⟩)) ?_
  refine Al_s (St_g [46] ⟨⟨_,rfl⟩,trivial⟩ (λ_=>Pu_cp)) ?_
  refine Al_p Pu_a ?_
  refine Al_mr ?_
  refine Al_mr ?_
  refine Al_nil ?_
  exact Aw_ret (⟨Sub.num rfl,Sub.bool (by congr 1;exact decide_eq_decide.2 (by simp))⟩)
end Go.Proofs.YtdnijgdmohinlaaGreat
end
section
namespace Go.Proofs.YtdnijgdmohinlaaGreat
open Go.RowKit R
namespace D
def lessB (a b c d:Int):Bool:=if a=c then decide (b<d)else decide (a<c)
def okB (d:Dep):Bool:=K.checkB d.key&&V.stampB d.n d.s
def eqB (x d:Dep):Bool:=x.key.toList==d.key.toList
def ltB (x d:Dep):Bool:=Op.bytesLess x.key.toList d.key.toList
def addF:List Dep→Dep→Bool→List Dep
 | [],d,put=>if put then[]else[d]
 | x::r,d,put =>
  if eqB x d then(if lessB x.n x.s d.n d.s then d else x)::addF r d true
  else if put then x::addF r d true
  else if ltB x d then x::addF r d false
  else d::x::addF r d true
def add (p:List Dep) (d:Dep):List Dep:=if okB d then addF p d false else p
theorem addF_len:∀(p:List Dep) (d:Dep) (put:Bool),(addF p d put).length≤p.length+1
 | [],d,put=>by unfold addF;split<;>simp
 | x::r,d,put=>by
  have h1:=addF_len r d true
  have h2:=addF_len r d false
  have h3:(addF r d true).length≤r.length:=addF_len_true r d
  unfold addF
  split
  ·simp;omega
  ·split
   ·simp;omega
   ·split<;>simp<;>omega
where addF_len_true:∀(p:List Dep) (d:Dep),(addF p d true).length≤p.length
 | [],d=>by simp[addF]
 | x::r,d=>by
  have h1:=addF_len_true r d
  unfold addF
  split<;>simp<;>omega
theorem add_len (p:List Dep) (d:Dep):(add p d).length≤p.length+1:=by
 unfold add;split
 ·exact addF_len p d false
 ·omega
theorem addF_mem:∀(p:List Dep) (d:Dep) (put:Bool) (x:Dep),x∈addF p d put→x∈p∨x=d
 | [],d,put,x,h=>by
  unfold addF at h;split at h
  ·cases h
  ·simp at h;exact .inr h
 | y::r,d,put,x,h=>by
  unfold addF at h
  split at h
  ·rcases List.mem_cons.1 h with h|h
   ·split at h
    ·exact .inr h
    ·exact .inl (by simp[h])
   ·rcases addF_mem r d _ x h with h|h
    ·exact .inl (by simp[h])
    ·exact .inr h
  ·split at h
   ·rcases List.mem_cons.1 h with h|h
    ·exact .inl (by simp[h])
    ·rcases addF_mem r d _ x h with h|h
     ·exact .inl (by simp[h])
     ·exact .inr h
   ·split at h
    ·rcases List.mem_cons.1 h with h|h
     ·exact .inl (by simp[h])
     ·rcases addF_mem r d _ x h with h|h
      ·exact .inl (by simp[h])
      ·exact .inr h
    ·rcases List.mem_cons.1 h with h|h
     ·exact .inr h
     ·rcases List.mem_cons.1 h with h|h
      ·exact .inl (by simp[h])
      ·rcases addF_mem r d _ x h with h|h
       ·exact .inl (by simp[h])
       ·exact .inr h
theorem add_mem (p:List Dep) (d x:Dep) (h:x∈add p d):x∈p∨x=d:=by
 unfold add at h;split at h
 ·exact addF_mem p d false x h
 ·exact .inl h
end D
end Go.Proofs.YtdnijgdmohinlaaGreat
namespace Go.Proofs.YtdnijgdmohinlaaGreat
open Go.RowKit A
end Go.Proofs.YtdnijgdmohinlaaGreat
end
