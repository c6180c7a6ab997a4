/- What the proofs need in common, laid together (4 of 6): no condition. -/
import Derived.Test.YtdnijgdmohinlaaGreatG3
import Derived.Shelf.Sort.Plain
import Derived.Shelf.Slices.In.SortNone
import Derived.DeepKeys4
import Derived.Shelf.SlIter.Sorted
import Derived.Maps.RangeRun
set_option linter.unusedSimpArgs false
set_option linter.unusedVariables false
set_option linter.constructorNameAsVariable false
section
namespace Go.Proofs.YtdnijgdmohinlaaGreat
open Go.RowKit A R
open A.RowT
namespace D
def cmpS (a b:ByteArray):Int:=if Op.bytesLess a.toList b.toList then -1 else if Op.bytesLess b.toList a.toList then 1 else 0
theorem cmp_lt {a b:ByteArray}:cmpS a b<0↔Op.bytesLess a.toList b.toList=true:=by
 unfold cmpS
 cases h:Op.bytesLess a.toList b.toList<;>cases Op.bytesLess b.toList a.toList<;>simp
theorem cmp_ge {a b:ByteArray}(h:Op.bytesLess a.toList b.toList=false):0≤cmpS a b:=Int.not_lt.1 λe=>by rw[cmp_lt.1 e]at h;cases h
theorem cmp_eq {a b:ByteArray}:cmpS a b=0↔a.toList=b.toList:=by
 unfold cmpS
 cases h:Op.bytesLess a.toList b.toList<;>cases h2:Op.bytesLess b.toList a.toList<;>simp
 ·exact K.bl_tri _ _ h h2
 ·intro e;rw[e,K.bl_irrefl]at h2;cases h2
 ·intro e;rw[e,K.bl_irrefl]at h;cases h
 ·intro e;rw[e,K.bl_irrefl]at h;cases h
def Srt (p:List Dep):Prop:=p.Pairwise λx y=>Op.bytesLess x.key.toList y.key.toList=true
structure Good (p:List Dep):Prop where
 srt:Srt p
 ok:∀x∈p,okB x=true
def pos:List Dep→ByteArray→Nat
 | [],_=>0
 | x::r,k=>if Op.bytesLess x.key.toList k.toList then pos r k+1 else 0
theorem pos_le:∀(p:List Dep) (k:ByteArray),pos p k≤p.length
 | [],_=>Nat.le_refl _
 | x::r,k=>by
  unfold pos
  have:=pos_le r k
  split
  ·simp;omega
  ·simp
theorem pos_lo:∀(p:List Dep) (k:ByteArray) (j:Nat) (hj:j<p.length),j<pos p k→Op.bytesLess p[j].key.toList k.toList=true
 | [],_,j,hj,_=>by cases hj
 | x::r,k,j,hj,h=>by
  unfold pos at h
  split at h
  ·rename_i hx
   cases j with
   | zero=>exact hx
   | succ j=>exact pos_lo r k j (by simpa using hj) (by omega)
  ·omega
theorem pos_hi:∀(p:List Dep) (k:ByteArray),Srt p→∀(j:Nat) (hj:j<p.length),pos p k≤j→Op.bytesLess p[j].key.toList k.toList=false
 | [],_,_,j,hj,_=>by cases hj
 | x::r,k,hs,j,hj,h=>by
  have hc:=List.pairwise_cons.1 hs
  unfold pos at h
  split at h
  ·cases j with
   | zero=>omega
   | succ j=>exact pos_hi r k hc.2 j (by simpa using hj) (by omega)
  ·rename_i hx
   have hx:Op.bytesLess x.key.toList k.toList=false:=by simpa using hx
   cases j with
   | zero=>exact hx
   | succ j =>
    cases h2:Op.bytesLess (x::r)[j+1].key.toList k.toList with
    | false=>rfl
    | true =>
     have h3:=hc.1 _ (List.getElem_mem (by simpa using hj:j<r.length))
     have:=K.bl_trans _ _ _ h3 h2
     rw[hx]at this;cases this
def hasK (p:List Dep) (k:ByteArray):Bool:=p.any λx=>x.key.toList==k.toList
theorem pos_has {p:List Dep}{k:ByteArray}(hs:Srt p):(decide (pos p k<p.length)&&decide (cmpS (p.getD (pos p k) default).key k=0))=hasK p k:=by
 unfold hasK
 cases h:p.any λx=>x.key.toList==k.toList with
 | true =>
  obtain⟨x,hx,he⟩:=List.any_eq_true.1 h
  obtain⟨j,hj,rfl⟩:=List.getElem_of_mem hx
  have he:p[j].key.toList=k.toList:=by simpa using he
  have h1:pos p k=j:=by
   rcases Nat.lt_trichotomy (pos p k) j with h2|h2|h2
   ·have h3:=pos_hi p k hs (pos p k) (by omega) (Nat.le_refl _)
    have h4:=List.pairwise_iff_getElem.1 hs (pos p k) j (by omega) hj h2
    rw[he]at h4;rw[h4]at h3;cases h3
   ·exact h2
   ·have h3:=pos_lo p k j hj h2
    rw[he,K.bl_irrefl]at h3;cases h3
  rw[h1]
  simp[hj,cmp_eq.2 he]
 | false =>
  by_cases h1:pos p k<p.length
  ·have h2:¬cmpS (p.getD (pos p k) default).key k=0:=λe=>by
    have e:=cmp_eq.1 e
    rw[List.any_eq_false]at h
    exact h p[pos p k] (List.getElem_mem h1) (by simpa [h1]using e)
   simp only[h2,decide_false,Bool.and_false]
  ·simp[h1]
theorem byte_inj {a b:ByteArray}(h:a.toList=b.toList):a=b:=by
 rw[ByteArray.toList_eq,ByteArray.toList_eq]at h
 exact ByteArray.ext (Array.toList_inj.1 h)
theorem pos_at {p:List Dep}{k:ByteArray}(hs:Srt p) (h:hasK p k=true):∃hj:pos p k<p.length,p[pos p k].key=k:=by
 rw[←pos_has hs]at h
 simp only[Bool.and_eq_true,decide_eq_true_eq]at h
 refine⟨h.1,?_⟩
 have:=cmp_eq.1 h.2
 simp only[List.getD_eq_getElem?_getD,h.1,List.getElem?_eq_getElem,Option.getD_some]at this
 exact byte_inj this
def get (p:List Dep) (k:ByteArray):Int×Int:=match p.find? λx=>x.key.toList==k.toList with
 | some x=>(x.n,x.s)
 | none=>(0,0)
theorem get_no {p:List Dep}{k:ByteArray}(h:hasK p k=false):get p k=(0,0):=by
 unfold get
 have:p.find? (λx=>x.key.toList==k.toList)=none:=by
  rw[List.find?_eq_none]
  intro x hx
  have:=List.any_eq_false.1 h x hx
  simpa using this
 rw[this]
theorem get_first:∀{p:List Dep}{k:ByteArray}{j:Nat}(hj:j<p.length),p[j].key.toList=k.toList→(∀(i:Nat) (hi:i<p.length),i<j→¬p[i].key.toList=k.toList)→get p k=(p[j].n,p[j].s)
 | [],_,j,hj,_,_=>by cases hj
 | x::r,k,0,_,h,_=>by
  unfold get
  rw[List.find?_cons_of_pos (by simpa using h)];rfl
 | x::r,k,j+1,hj,h,hn=>by
  have h0:=hn 0 (by simp) (by omega)
  have ih:=get_first (p:=r) (k:=k) (j:=j) (by simpa using hj) (by simpa using h) (λi hi hij=>by have:=hn (i+1) (by simpa using hi) (by omega);rwa [List.getElem_cons_succ]at this)
  unfold get at *
  rw[List.find?_cons_of_neg (by simpa using h0),ih];rfl
theorem get_pos {p:List Dep}{k:ByteArray}(hs:Srt p) (h:hasK p k=true) {x:Dep}(hx:p.getD (pos p k) default=x):get p k=(x.n,x.s):=by
 obtain⟨hj,he⟩:=pos_at hs h
 have:p[pos p k]=x:=by rw[←hx];simp[hj]
 rw[←this]
 refine get_first hj (by rw[he]) λi hi hij e=>?_
 have:=pos_lo p k i hi hij
 rw[e,K.bl_irrefl]at this;cases this
theorem addF_true:∀(r:List Dep) (d:Dep),(∀x∈r,eqB x d=false)→addF r d true=r
 | [],d,_=>by simp[addF]
 | x::r,d,h=>by
  rw[addF,if_neg (by simp[h x (by simp)]),if_pos rfl,addF_true r d λy hy=>h y (by simp[hy])]
theorem eq_toList {x d:Dep}:eqB x d=true↔x.key.toList=d.key.toList:=by unfold eqB;simp
theorem addF_srt:∀(p:List Dep) (d:Dep),Srt p→addF p d false=(if hasK p d.key then p.take (pos p d.key)++(if lessB (p.getD (pos p d.key) default).n (p.getD (pos p d.key) default).s d.n d.s then d else p.getD (pos p d.key) default)::p.drop (pos p d.key+1)else p.take (pos p d.key)++d::p.drop (pos p d.key))
 | [],d,_=>by simp[addF,hasK,pos]
 | x::r,d,hs=>by
  have hc:=List.pairwise_cons.1 hs
  have ih:=addF_srt r d hc.2
  rw[addF]
  cases he:eqB x d with
  | true =>
   have he':=eq_toList.1 he
   have hp:pos (x::r) d.key=0:=by unfold pos;rw[he',K.bl_irrefl];rfl
   have hh:hasK (x::r) d.key=true:=by simp[hasK,he']
   have hr:addF r d true=r:=addF_true r d λy hy=>by
    cases h:eqB y d with
    | false=>rfl
    | true =>
     have:=hc.1 y hy
     rw[eq_toList.1 h,he',K.bl_irrefl]at this;cases this
   rw[if_pos rfl,hr,if_pos hh,hp]
   simp
  | false =>
   have hne:¬x.key.toList=d.key.toList:=λe=>by rw[eq_toList.2 e]at he;cases he
   cases hl:ltB x d with
   | true =>
    have hl':Op.bytesLess x.key.toList d.key.toList=true:=hl
    have hp:pos (x::r) d.key=pos r d.key+1:=by rw[pos,if_pos hl']
    have hh:hasK (x::r) d.key=hasK r d.key:=by unfold hasK;rw[List.any_cons];simp[hne]
    rw[if_neg (by simp),if_neg (by simp),if_pos rfl,ih,hp,hh]
    cases hasK r d.key<;>simp
   | false =>
    have hl':Op.bytesLess x.key.toList d.key.toList=false:=hl
    have hp:pos (x::r) d.key=0:=by rw[pos,if_neg (by simp[hl'])]
    have hlt:Op.bytesLess d.key.toList x.key.toList=true:=by
     cases h:Op.bytesLess d.key.toList x.key.toList with
     | true=>rfl
     | false=>exact absurd (K.bl_tri _ _ hl' h) hne
    have hno:∀y∈r,eqB y d=false:=λy hy=>by
     cases h:eqB y d with
     | false=>rfl
     | true =>
      have:=K.bl_trans _ _ _ hlt (hc.1 y hy)
      rw[eq_toList.1 h,K.bl_irrefl]at this;cases this
    have hh:hasK (x::r) d.key=false:=by
     unfold hasK
     rw[List.any_eq_false]
     intro y hy
     rcases List.mem_cons.1 hy with rfl|hy
     ·simpa using hne
     ·have:=hno y hy;unfold eqB at this;simp[this]
    rw[if_neg (by simp),if_neg (by simp),if_neg (by simp),addF_true r d hno,hh,hp]
    simp
theorem add_no {p:List Dep}{d:Dep}(h:okB d=false):add p d=p:=by unfold add;rw[h];rfl
theorem add_new {p:List Dep}{d:Dep}(hs:Srt p) (h:okB d=true) (hk:hasK p d.key=false):add p d=p.take (pos p d.key)++d::p.drop (pos p d.key):=by
 unfold add
 rw[if_pos h,addF_srt p d hs,hk];rfl
theorem add_old {p:List Dep}{d:Dep}(hs:Srt p) (h:okB d=true) (hk:hasK p d.key=true):add p d=p.set (pos p d.key) (if lessB (p.getD (pos p d.key) default).n (p.getD (pos p d.key) default).s d.n d.s then d else p.getD (pos p d.key) default):=by
 unfold add
 obtain⟨hj,_⟩:=pos_at hs hk
 rw[if_pos h,addF_srt p d hs,if_pos hk,List.set_eq_take_append_cons_drop,if_pos hj]
theorem less_irrefl (n s:Int):lessB n s n s=false:=by unfold lessB;simp
theorem add_good {p:List Dep}(hp:Good p) (d:Dep):Good (add p d):=by
 cases hd:okB d with
 | false=>rw[add_no hd];exact hp
 | true =>
  refine⟨?_,λx hx=>?_⟩
  ·have key:∀(p:List Dep),Srt p→(∀x:Dep,(∀y∈p,Op.bytesLess x.key.toList y.key.toList=true)→Op.bytesLess x.key.toList d.key.toList=true→∀y∈addF p d false,Op.bytesLess x.key.toList y.key.toList=true)∧Srt (addF p d false):=by
    intro p
    induction p with
    | nil=>intro _;exact⟨λx _ h y hy=>by simp[addF]at hy;subst hy;exact h,by simp[addF,Srt]⟩
    | cons z r ih =>
     intro hs
     have hc:=List.pairwise_cons.1 hs
     have hmem:∀(q:List Dep) (put:Bool) (y:Dep),y∈addF q d put→y∈q∨y=d:=λq put y=>addF_mem q d put y
     refine⟨λx h1 h2 y hy=>?_,?_⟩
     ·rcases hmem _ _ _ hy with h|rfl
      ·exact h1 y h
      ·exact h2
     ·rw[addF]
      split
      ·rename_i he
       have he':=eq_toList.1 he
       have hr:addF r d true=r:=addF_true r d λy hy=>by
        cases h:eqB y d with
        | false=>rfl
        | true =>
         have:=hc.1 y hy
         rw[eq_toList.1 h,he',K.bl_irrefl]at this;cases this
       rw[hr]
       refine List.pairwise_cons.2 ⟨λy hy=>?_,hc.2⟩
       have h3:=hc.1 y hy
       split
       ·rw[←he'];exact h3
       ·exact h3
      ·rename_i he
       have hne:¬z.key.toList=d.key.toList:=λe=>he (eq_toList.2 e)
       rw[if_neg (by simp)]
       split
       ·rename_i hl
        exact List.pairwise_cons.2 ⟨(ih hc.2).1 z hc.1 hl,(ih hc.2).2⟩
       ·rename_i hl
        have hl':Op.bytesLess z.key.toList d.key.toList=false:=by unfold ltB at hl;simpa using hl
        have hlt:Op.bytesLess d.key.toList z.key.toList=true:=by
         cases h:Op.bytesLess d.key.toList z.key.toList with
         | true=>rfl
         | false=>exact absurd (K.bl_tri _ _ hl' h) hne
        have hno:∀y∈r,eqB y d=false:=λy hy=>by
         cases h:eqB y d with
         | false=>rfl
         | true =>
          have:=K.bl_trans _ _ _ hlt (hc.1 y hy)
          rw[eq_toList.1 h,K.bl_irrefl]at this;cases this
        rw[addF_true r d hno]
        refine List.pairwise_cons.2 ⟨λy hy=>?_,hs⟩
        rcases List.mem_cons.1 hy with rfl|hy
        ·exact hlt
        ·exact K.bl_trans _ _ _ hlt (hc.1 y hy)
   have:=(key p hp.srt).2
   unfold add
   rw[if_pos hd]
   exact this
  ·rcases add_mem p d x hx with h|rfl
   ·exact hp.ok x h
   ·exact hd
theorem less_eq (a b c d:Int):(!(a==c&&b==d)&&(decide (a<c)||decide (a=c)&&decide (b≤d)))=lessB a b c d:=by
 unfold lessB
 by_cases h:a=c<;>by_cases h2:b=d<;>simp[h,h2]<;>first|omega|(rw[Bool.eq_iff_iff];simp;omega)
theorem good_nil:Good []:=⟨.nil,λx hx=>by cases hx⟩
theorem ok_stamp {d:Dep}(h:okB d=true):1≤d.n∧d.n≤1099511627776∧0≤d.s∧d.s<6:=by
 unfold okB V.stampB at h
 simp only[Bool.and_eq_true,decide_eq_true_eq]at h
 obtain⟨_,h⟩:=h
 refine⟨?_,?_,?_,?_⟩<;>omega
end D
theorem check_a (s:ByteArray):ACall Tryz.prog 238 [tv s] (bv (K.checkB s)):=A.ofv (λ_ _=>by kernel_rfl) trivial λM w vs ha=>by
 obtain⟨rfl,h⟩:=A.all1 ha
 exact check_any s h w
set_option maxRecDepth 100000 in
theorem stcheck_a (n s:Int):ACall Tryz.prog 298 [.row [iv n,iv s]] (bv (V.stampB n s)):=by
 refine AC_1 Tryz.func298 Tryz.ntmps298 Tryz.results298 λhok M0 w0 hnl=>?_
 refine Aw_sr ?_
 refine Al_p Pu_bN ?_
 refine Al_mr ?_
 refine Al_ns ?_
 refine Al_p (Pu_fd 0 Tryz.underlying47 Tryz.sizeOf3) ?_
 refine Al_p (Pu_l1 Tryz.isAgg3) ?_
 refine Al_p Pu_cp ?_
 refine Al_ml ?_
 refine Al_s (St_g [] trivial (λ_=>Pu_fd 0 Tryz.underlying47 Tryz.sizeOf3)) ?_
 refine Al_s (St_g [7] ⟨⟨_,rfl⟩,trivial⟩ (λ_=>Pu_l1 Tryz.isAgg3)) ?_
 refine Al_s (St_g [8] ⟨⟨_,rfl⟩,trivial⟩ (λ_=>Pu_cp)) ?_
 refine Al_p Pu_a ?_
 refine Al_ml ?_
 refine Al_s (St_g [] trivial (λ_=>Pu_fd 1 Tryz.underlying47 Tryz.sizeOf3)) ?_
 refine Al_s (St_g [12] ⟨⟨_,rfl⟩,trivial⟩ (λ_=>Pu_l1 Tryz.isAgg3)) ?_
 refine Al_s (St_g [13] ⟨⟨_,rfl⟩,trivial⟩ (λ_=>Pu_cp)) ?_
 refine Al_p Pu_a ?_
 refine Al_ml ?_
 refine Al_s (St_g [] trivial (λ_=>Pu_fd 1 Tryz.underlying47 Tryz.sizeOf3)) ?_
 refine Al_s (St_g [17] ⟨⟨_,rfl⟩,trivial⟩ (λ_=>Pu_l1 Tryz.isAgg3)) ?_
 refine Al_s (St_g [18] ⟨⟨_,rfl⟩,trivial⟩ (λ_=>Pu_cp)) ?_
 refine Al_p Pu_a ?_
 refine Al_mr ?_
 refine Al_nil ?_
 exact Aw_ret (Sub.bool (by unfold V.stampB;simp[Bool.and_assoc]))
set_option maxRecDepth 100000 in
theorem less_a (a b c d:Int):ACall Tryz.prog 174 [.row [iv a,iv b],.row [iv c,iv d]] (bv (D.lessB a b c d)):=by
 refine AC_1 Tryz.func174 Tryz.ntmps174 Tryz.results174 λhok M0 w0 hnl=>?_
 refine Aw_sr ?_
 refine Al_p Pu_bN ?_
 refine Al_p Pu_bN ?_
 refine Al_mr ?_
 refine Al_ns ?_
 refine Al_p (Pu_lN Tryz.isAgg47 Tryz.sizeOf47) ?_
 refine Al_p (Pu_lN Tryz.isAgg47 Tryz.sizeOf47) ?_
 refine Al_p (Pu_eqrow [.int .i64 _,.int .i64 _] [.int .i64 _,.int .i64 _] (λw=>nev47 _ _ _ _ _ _ w) rfl rfl rfl) ?_
 refine Al_ml ?_
 refine Al_s (St_g [] trivial (λ_=>Pu_fd 0 Tryz.underlying47 Tryz.sizeOf3)) ?_
 refine Al_s (St_g [9] ⟨⟨_,rfl⟩,trivial⟩ (λ_=>Pu_l1 Tryz.isAgg3)) ?_
 refine Al_s (St_g [] trivial (λ_=>Pu_fd 0 Tryz.underlying47 Tryz.sizeOf3)) ?_
 refine Al_s (St_g [11] ⟨⟨_,rfl⟩,trivial⟩ (λ_=>Pu_l1 Tryz.isAgg3)) ?_
 refine Al_s (St_g [10,12] ⟨⟨_,rfl⟩,⟨_,rfl⟩,trivial⟩ (λ_=>Pu_cp)) ?_
 refine Al_s (St_g [13] ⟨⟨_,rfl⟩,trivial⟩ (λ_=>Pu_mvl)) ?_
 refine Al_s (St_gd2 [] rfl rfl rfl rfl trivial (λhp15 hg15=>Pu_fd 0 Tryz.underlying47 Tryz.sizeOf3)) ?_
 refine Al_s (St_gd2 [15] rfl rfl rfl rfl ⟨⟨_,rfl⟩,trivial⟩ (λhp16 hg16=>Pu_l1 Tryz.isAgg3)) ?_
 refine Al_s (St_gd2 [] rfl rfl rfl rfl trivial (λhp17 hg17=>Pu_fd 0 Tryz.underlying47 Tryz.sizeOf3)) ?_
 refine Al_s (St_gd2 [17] rfl rfl rfl rfl ⟨⟨_,rfl⟩,trivial⟩ (λhp18 hg18=>Pu_l1 Tryz.isAgg3)) ?_
 refine Al_s (St_gd2 [16,18] rfl rfl rfl rfl ⟨⟨_,rfl⟩,⟨_,rfl⟩,trivial⟩ (λhp19 hg19=>Pu_cp)) ?_
 refine Al_s (St_gd2 [19] rfl rfl rfl rfl ⟨⟨_,rfl⟩,trivial⟩ (λhp20 hg20=>Pu_mvl)) ?_
 refine Al_s (St_gd2 [] rfl rfl rfl rfl trivial (λhp21 hg21=>Pu_fd 1 Tryz.underlying47 Tryz.sizeOf3)) ?_
 refine Al_s (St_gd2 [21] rfl rfl rfl rfl ⟨⟨_,rfl⟩,trivial⟩ (λhp22 hg22=>Pu_l1 Tryz.isAgg3)) ?_
 refine Al_s (St_gd2 [] rfl rfl rfl rfl trivial (λhp23 hg23=>Pu_fd 1 Tryz.underlying47 Tryz.sizeOf3)) ?_
 refine Al_s (St_gd2 [23] rfl rfl rfl rfl ⟨⟨_,rfl⟩,trivial⟩ (λhp24 hg24=>Pu_l1 Tryz.isAgg3)) ?_
 refine Al_s (St_gd2 [22,24] rfl rfl rfl rfl ⟨⟨_,rfl⟩,⟨_,rfl⟩,trivial⟩ (λhp25 hg25=>Pu_cp)) ?_
 refine Al_s (St_gd2 [20] rfl rfl rfl rfl ⟨⟨_,rfl⟩,trivial⟩ (λhp26 hg26=>Pu_andG rfl rfl (λh=>⟨⟨hp26,hg26⟩,h⟩) rfl rfl)) ?_
 refine Al_s (St_g [14] ⟨⟨_,rfl⟩,trivial⟩ (λhg27=>Pu_orG rfl rfl rfl (λh=>⟨hg27,h⟩) rfl)) ?_
 refine Al_p Pu_a ?_
 refine Al_mr ?_
 refine Al_nil ?_
 exact Aw_ret (Sub.bool (D.less_eq a b c d))
theorem isnan_a (s:ByteArray):ACall Tryz.prog 379 [tv s] (bv false):=by
 refine AC_1 Tryz.func379 Tryz.ntmps379 Tryz.results379 λhok M0 w0 hnl=>?_
 refine Aw_sr ?_
 refine Al_mr ?_
 refine Al_ns ?_
 refine Al_ml ?_
 refine Al_ml ?_
 refine Al_p Pu_sr ?_
 refine Al_mr ?_
 refine Al_nil ?_
 exact Aw_ret (Sub.bool (by simp))
set_option maxRecDepth 100000 in
theorem cmps_a (s t:ByteArray):ACall Tryz.prog 358 [tv s,tv t] (iv (D.cmpS s t)):=by
 refine AC_1 Tryz.func358 Tryz.ntmps358 Tryz.results358 λhok M0 w0 hnl=>?_
 refine Aw_sr ?_
 refine Al_mr ?_
 refine Al_ns ?_
 refine Al_ml ?_
 refine Al_p (Pu_call (isnan_a s) rfl ⟨Sub.rfl,trivial⟩) ?_
 refine Al_mr ?_
 refine Al_ns ?_
 refine Al_ml ?_
 refine Al_p (Pu_call (isnan_a t) rfl ⟨Sub.rfl,trivial⟩) ?_
 refine Al_mr ?_
 refine Al_nil (Aw_seq (Aw_sr ?_))
 refine Al_ml ?_
 refine Al_nil ?_
 refine Aw_condF rfl (rfl) ?_
 refine Aw_skip (Aw_seq (Aw_sr ?_))
 refine Al_ml ?_
 refine Al_nil ?_
 refine Aw_condF rfl (rfl) ?_
 refine Aw_skip (Aw_seq (Aw_sr ?_))
 refine Al_ml ?_
 refine Al_ml ?_
 refine Al_p Pu_sr ?_
 refine Al_nil ?_
 refine Aw_cond rfl (λh16=>?_) (λh16=>?_)
 ·(try simp only[A.cd_]at h16)
  refine Aw_sr ?_
  refine Al_mr ?_
  refine Al_nil ?_
  exact Aw_ret (Sub.num (by unfold D.cmpS;simp_all))
 ·(try simp only[A.cd_]at h16)
  refine Aw_skip (Aw_seq (Aw_sr ?_))
  refine Al_ml ?_
  refine Al_ml ?_
  refine Al_p Pu_sr ?_
  refine Al_nil ?_
  refine Aw_cond rfl (λh19=>?_) (λh19=>?_)
  ·(try simp only[A.cd_]at h19)
   have hlt:Op.bytesLess t.toList s.toList=true:=by
    cases h:Op.bytesLess t.toList s.toList with
    | true=>rfl
    | false=>have:=K.bl_tri _ _ (by simpa using h16) h;simp_all
   refine Aw_sr ?_
   refine Al_mr ?_
   refine Al_nil ?_
   exact Aw_ret (Sub.num (by unfold D.cmpS;simp_all))
  ·(try simp only[A.cd_]at h19)
   refine Aw_skip (Aw_sr ?_)
   refine Al_mr ?_
   refine Al_nil ?_
   exact Aw_ret (Sub.num (by unfold D.cmpS;simp_all))
set_option maxRecDepth 100000 in
theorem pfindc_a (d:Dep) (k:ByteArray):ACall Tryz.prog 357 [.row d.row,tv k] (iv (D.cmpS d.key k)):=by
 refine AC_1 Tryz.func357 Tryz.ntmps357 Tryz.results357 λhok M0 w0 hnl=>?_
 refine Aw_sr ?_
 refine Al_p Pu_bN ?_
 refine Al_mr ?_
 refine Al_ns ?_
 refine Al_p (Pu_fd 0 Tryz.underlying110 Tryz.sizeOf9) ?_
 refine Al_p (Pu_l1 Tryz.isAgg9) ?_
 refine Al_ml ?_
 refine Al_p (Pu_call (cmps_a d.key k) rfl ⟨Sub.rfl,Sub.rfl,trivial⟩) ?_
 refine Al_mr ?_
 refine Al_nil ?_
 exact Aw_ret (Sub.rfl)
set_option maxRecDepth 100000 in
theorem pfind_a (p:List Dep) (k:ByteArray) (hs:D.Srt p) (hl:p.length≤1000000):ACall Tryz.prog 307 [.sl 3 (p.map Dep.row),tv k] (.tup [iv (D.pos p k),bv (D.hasK p k)]):=by
 refine AC_2 Tryz.func307 Tryz.ntmps307 Tryz.results307 λhok M0 w0 hnl=>?_
 refine Aw_sr ?_
 refine Al_mr ?_
 refine Al_mr ?_
 refine Al_ns ?_
 refine Al_ml ?_
 refine Al_ml ?_
 refine Al_p (Pu_call (bsearchD_a p (tv k) _ (λx=>D.cmpS x.key k) (D.pos p k) (λx=>pfindc_a x k) hl (D.pos_le p k) (λj hj h=>D.cmp_lt.2 (D.pos_lo p k j hj h)) (λj hj h=>D.cmp_ge (D.pos_hi p k hs j hj h))) rfl ⟨Sub.rfl,Sub.rfl,Sub.rfl,trivial⟩) ?_
 refine Al_p Pu_ex ?_
 refine Al_p Pu_ex ?_
 refine Al_mr ?_
 refine Al_mr ?_
 refine Al_nil ?_
 exact Aw_ret (⟨Sub.rfl,Sub.bool (D.pos_has hs)⟩)
set_option maxRecDepth 100000 in
theorem pget_a (p:List Dep) (k:ByteArray) (hs:D.Srt p) (hl:p.length≤1000000):ACall Tryz.prog 324 [.sl 3 (p.map Dep.row),tv k] (.row [iv (D.get p k).1,iv (D.get p k).2]):=by
 refine AC_G Tryz.func324 Tryz.ntmps324 (Reads.cN Tryz.results324 Tryz.isAgg47 Tryz.sizeOf47) λhok M0 w0 hnl=>?_
 refine Aw_sr ?_
 refine Al_al Tryz.zeroValue47 λg4=>?_
 refine Al_ns ?_
 refine Al_ml ?_
 refine Al_ml ?_
 refine Al_p (Pu_call (pfind_a p k hs hl) rfl ⟨Sub.rfl,Sub.rfl,trivial⟩) ?_
 refine Al_ml ?_
 refine Al_p Pu_ex ?_
 refine Al_p Pu_ex ?_
 refine Al_mr ?_
 refine Al_mr ?_
 refine Al_nil (Aw_seq (Aw_sr ?_))
 refine Al_ml ?_
 refine Al_p Pu_n ?_
 refine Al_nil ?_
 refine Aw_cond rfl (λh14=>?_) (λh14=>?_)
 ·skip
  have hk:D.hasK p k=false:=by simpa using h14
  refine Aw_sr ?_
  refine Al_p (Pu_build (aa:=[]) rfl Tryz.underlying47 Tryz.zeroValue47 places47 (by kernel_rfl) trivial rfl) ?_
  refine Al_sN Tryz.isAgg47 Tryz.sizeOf47 ?_
  refine Al_nil ?_
  refine Aw_ret ?_
  rw[D.get_no hk];exact⟨_,_,_,_,_,[_,_],rfl,rfl,rfl,rfl,rfl⟩
 ·skip
  have hk:D.hasK p k=true:=by simpa using h14
  obtain⟨hj,he⟩:=D.pos_at hs hk
  have hg:D.get p k=((p.getD (D.pos p k) default).n,(p.getD (D.pos p k) default).s):=D.get_pos hs hk rfl
  refine Aw_skip (Aw_sr ?_)
  refine Al_ml ?_
  refine Al_ml ?_
  refine Al_p (Pu_index rfl Tryz.underlying48 Tryz.sizeOf110 rfl rfl (rfl) (mapgetD (d:=default) hj)) ?_
  refine Al_p (Pu_fd 1 Tryz.underlying110 Tryz.sizeOf47) ?_
  refine Al_p (Pu_lN Tryz.isAgg47 Tryz.sizeOf47) ?_
  refine Al_sN Tryz.isAgg47 Tryz.sizeOf47 ?_
  refine Al_nil ?_
  refine Aw_ret ?_
  rw[hg];exact⟨_,_,_,_,_,[_,_],rfl,rfl,rfl,rfl,rfl⟩
set_option maxRecDepth 100000 in
theorem pmay_a (d:Dep):ACall Tryz.prog 308 [.row d.row] (bv (D.okB d)):=by
 refine AC_1 Tryz.func308 Tryz.ntmps308 Tryz.results308 λhok M0 w0 hnl=>?_
 refine Aw_sr ?_
 refine Al_p Pu_bN ?_
 refine Al_mr ?_
 refine Al_ns ?_
 refine Al_p (Pu_fd 0 Tryz.underlying110 Tryz.sizeOf9) ?_
 refine Al_p (Pu_l1 Tryz.isAgg9) ?_
 refine Al_p (Pu_call (check_a d.key) rfl ⟨Sub.rfl,trivial⟩) ?_
 refine Al_ml ?_
 refine Al_s (St_g [] trivial (λ_=>Pu_fd 1 Tryz.underlying110 Tryz.sizeOf47)) ?_
 refine Al_s (St_g [7] ⟨⟨_,rfl⟩,trivial⟩ (λ_=>Pu_lN Tryz.isAgg47 Tryz.sizeOf47)) ?_
 refine Al_s (St_g [8] ⟨⟨_,rfl⟩,trivial⟩ (λ_=>Pu_call (stcheck_a d.n d.s) rfl ⟨Sub.rfl,trivial⟩)) ?_
 refine Al_p Pu_a ?_
 refine Al_mr ?_
 refine Al_nil ?_
 exact Aw_ret (Sub.rfl)
def D.maxS (l:List (Int×Int)):Int×Int:=l.foldl (λm s=>if D.lessB m.1 m.2 s.1 s.2 then s else m) (0,0)
theorem D.maxS_take (l:List (Int×Int)) {k:Nat}(hk:k<l.length):D.maxS (l.take (k+1))=if D.lessB (D.maxS (l.take k)).1 (D.maxS (l.take k)).2 l[k].1 l[k].2 then l[k]else D.maxS (l.take k):=by
 rw[List.take_succ_eq_append_getElem hk];unfold D.maxS;rw[List.foldl_append];rfl
set_option maxRecDepth 100000 in
theorem smax_a (l:List (Int×Int)):ACall Tryz.prog 227 [.sl 2 (l.map λs=>[iv s.1,iv s.2])] (.row [iv (D.maxS l).1,iv (D.maxS l).2]):=by
 refine AC_G Tryz.func227 Tryz.ntmps227 (Reads.cN Tryz.results227 Tryz.isAgg47 Tryz.sizeOf47) λhok M0 w0 hnl=>?_
 have hlen:=(hok _ (List.mem_cons_self ..)).len
 rw[List.length_map]at hlen
 refine Aw_sr ?_
 refine Al_al Tryz.zeroValue47 λg2=>?_
 refine Al_ns ?_
 refine Al_al Tryz.zeroValue47 λg3=>?_
 refine Al_nil (Aw_seq (Aw_sr ?_))
 refine Al_ml ?_
 refine Al_p (Pu_ln Tryz.underlying214) ?_
 refine Al_ml ?_
 refine Al_nil (Aw_block ?_)
 refine Aw_loopk (ι:=Nat) [2,3,6,7] [2] (λk=>[(8,.d (iv k))]) (λk=>[(3,g3,.box 47 [.d (iv (D.maxS (l.take k)).1),.d (iv (D.maxS (l.take k)).2)])]) (λk=>k≤l.length) (λk=>l.length - k) (0) (Nat.zero_le _) ⟨Sub.rfl,trivial⟩ ⟨rfl,trivial⟩ ?_
 rintro k hk0
 refine Aw_sr ?_
 refine Al_p Pu_cp ?_
 refine Al_nil (Aw_seq ?_)
 refine Aw_cond rfl (λh9=>?_) (λh9=>?_)
 ·(try simp only[A.cd_]at h9)
  have hk:k<l.length:=by omega
  have hmt:=D.maxS_take l hk
  refine Aw_skip ?_
  refine Aw_seq (Aw_block (Aw_sr ?_))
  refine Al_p (Pu_index rfl Tryz.underlying214 Tryz.sizeOf47 rfl rfl (rfl) (mapget hk)) ?_
  refine Al_p (Pu_lN Tryz.isAgg47 Tryz.sizeOf47) ?_
  refine Al_al Tryz.zeroValue47 λg5=>?_
  refine Al_sN Tryz.isAgg47 Tryz.sizeOf47 ?_
  refine Al_ns ?_
  refine Al_p (Pu_lbN (r:=[_,_]) Tryz.isAgg47 Tryz.sizeOf47) ?_
  refine Al_p (Pu_lbN (r:=[_,_]) Tryz.isAgg47 Tryz.sizeOf47) ?_
  refine Al_p (Pu_call (less_a (D.maxS (l.take k)).1 (D.maxS (l.take k)).2 (l[k]'hk).1 (l[k]'hk).2) rfl ⟨Sub.rfl,Sub.rfl,trivial⟩) ?_
  refine Al_nil ?_
  refine Aw_cond rfl (λh14=>?_) (λh14=>?_)
  ·skip
   rw[if_pos h14]at hmt
   refine Aw_region ?_
   refine Al_p (Pu_lbN (r:=[_,_]) Tryz.isAgg47 Tryz.sizeOf47) ?_
   refine Al_sN Tryz.isAgg47 Tryz.sizeOf47 ?_
   refine Al_nil (Aw_region ?_)
   refine Al_p Pu_ad ?_
   refine Al_ml ?_
   refine Al_nil ?_
   exact⟨k+1,by omega,by omega,Le.ov ⟨Sub.num (by omega),trivial⟩ ⟨Sub.rfl,Sub.rfl,Sub.rfl,Sub.rfl,trivial⟩ ⟨by rw[hmt];rfl,trivial⟩ ⟨rfl,trivial⟩⟩
  ·skip
   rw[if_neg (by rw[h14];decide)]at hmt
   refine Aw_skip (Aw_region ?_)
   refine Al_p Pu_ad ?_
   refine Al_ml ?_
   refine Al_nil ?_
   exact⟨k+1,by omega,by omega,Le.ov ⟨Sub.num (by omega),trivial⟩ ⟨Sub.rfl,Sub.rfl,Sub.rfl,Sub.rfl,trivial⟩ ⟨by rw[hmt];rfl,trivial⟩ ⟨rfl,trivial⟩⟩
 ·(try simp only[A.cd_]at h9)
  obtain rfl:k=l.length:=by omega
  rw[List.take_length]
  refine Aw_exit (Aw_sr ?_)
  refine Al_p (Pu_lbN (r:=[_,_]) Tryz.isAgg47 Tryz.sizeOf47) ?_
  refine Al_sN Tryz.isAgg47 Tryz.sizeOf47 ?_
  refine Al_nil ?_
  exact Aw_ret (⟨_,_,_,_,_,[_,_],rfl,rfl,rfl,rfl,rfl⟩)
namespace D
theorem max_two {x d:Dep}(h:okB x=true):maxS [(x.n,x.s),(d.n,d.s)]=if lessB x.n x.s d.n d.s then(d.n,d.s)else(x.n,x.s):=by
 have h1:=(ok_stamp h).1
 have h2:lessB 0 0 x.n x.s=true:=by
  unfold lessB
  rw[if_neg (by omega)]
  simp;omega
 unfold maxS
 simp only[List.foldl_cons,List.foldl_nil,h2,if_true]
theorem cells_at {p:List Dep}{j:Nat}(hj:j<p.length):((p.map Dep.row).flatten.drop (j*3+1)).take 2=[iv (p.getD j default).n,iv (p.getD j default).s]:=by
 have hu:∀r∈p.map Dep.row,r.length=3:=λr hr=>by obtain⟨x,_,rfl⟩:=List.mem_map.1 hr;rfl
 rw[←List.drop_drop,←flat_drop hu,List.drop_eq_getElem_cons (l:=p.map Dep.row) (by simpa using hj)]
 simp[Dep.row,hj]
theorem cells_set {p:List Dep}{j:Nat}(hj:j<p.length) (n s:Int):((p.set j ⟨(p.getD j default).key,n,s⟩).map Dep.row).flatten=(p.map Dep.row).flatten.take (j*3+1)++[iv n,iv s]++(p.map Dep.row).flatten.drop (j*3+1+2):=by
 have hu:∀r∈p.map Dep.row,r.length=3:=λr hr=>by obtain⟨x,_,rfl⟩:=List.mem_map.1 hr;rfl
 have h1:(p.map Dep.row).flatten.take (j*3+1)=(p.map Dep.row).flatten.take (j*3)++[tv (p.getD j default).key]:=by
  rw[List.take_add,←flat_drop hu,List.drop_eq_getElem_cons (l:=p.map Dep.row) (by simpa using hj)]
  simp[Dep.row,hj]
 have h2:(p.map Dep.row).flatten.drop (j*3+1+2)=(p.map Dep.row).flatten.drop ((j+1)*3):=by congr 1;omega
 rw[h1,h2,←flat_take hu,←flat_drop hu,List.set_eq_take_append_cons_drop,if_pos hj]
 simp[Dep.row]
end D
set_option maxRecDepth 100000 in
set_option maxHeartbeats 1000000 in
theorem padd_a (p:List Dep) (d:Dep) (hp:D.Good p) (hl:p.length≤1000):ACall Tryz.prog 235 [.sl 3 (p.map Dep.row),.row d.row] (.sl 3 ((D.add p d).map Dep.row)):=by
 refine AC_1 Tryz.func235 Tryz.ntmps235 Tryz.results235 λhok M0 w0 hnl=>?_
 have hpl:=D.pos_le p d.key
 refine Aw_sr ?_
 refine Al_p Pu_bN ?_
 refine Al_mr ?_
 refine Al_ns ?_
 refine Al_ml ?_
 refine Al_p (Pu_fd 0 Tryz.underlying110 Tryz.sizeOf9) ?_
 refine Al_p (Pu_l1 Tryz.isAgg9) ?_
 refine Al_p (Pu_call (pfind_a p d.key hp.srt (by omega)) rfl ⟨Sub.rfl,Sub.rfl,trivial⟩) ?_
 refine Al_ml ?_
 refine Al_p Pu_ex ?_
 refine Al_p Pu_ex ?_
 refine Al_mr ?_
 refine Al_mr ?_
 refine Al_nil (Aw_seq (Aw_block (Aw_sr ?_)))
 refine Al_p (Pu_lN Tryz.isAgg110 Tryz.sizeOf110) ?_
 refine Al_p (Pu_call (pmay_a d) rfl ⟨Sub.rfl,trivial⟩) ?_
 refine Al_p Pu_n ?_
 refine Al_mr ?_
 refine Al_nil ?_
 refine Aw_cond rfl (λh15=>?_) (λh15=>?_)
 ·skip
  have hd:D.okB d=false:=by simpa using h15
  refine Aw_sr ?_
  refine Al_ml ?_
  refine Al_mr ?_
  refine Al_nil ?_
  exact Aw_ret (Sub.d (by rw[D.add_no hd]))
 ·skip
  have hd:D.okB d=true:=by simpa using h15
  refine Aw_sr ?_
  refine Al_ml ?_
  refine Al_p Pu_n ?_
  refine Al_mr ?_
  refine Al_nil ?_
  refine Aw_cond rfl (λh20=>?_) (λh20=>?_)
  ·skip
   have hk:D.hasK p d.key=false:=by simpa using h20
   refine Aw_seq ?_
   refine Aw_drawn (by kernel_rfl) ?_
   refine Ad_t 0 rfl (PuI_move (.inl rfl) (by conv=>lhs;whnf)) ?_
   refine Ad_t 2 rfl (PuI_move (.inl rfl) (by conv=>lhs;whnf)) ?_
   refine Ad_two 1 3 rfl rfl (by kernel_rfl) ?_ ?_
   ·refine Al_gcall [] [(1001,24)] (cloneD_g p (by omega)) rfl rfl rfl (by decide) (by kernel_rfl) trivial rfl ⟨Sub.rfl,trivial⟩ (λg24=>?_)
    refine Al_nil ?_
    refine Ad_o 3 ?_
    refine Al_p (Pu_lN Tryz.isAgg110 Tryz.sizeOf110) ?_
    refine Al_nil ?_
    refine Ad_o 4 ?_
    refine Al_sliceLit (aa:=[(0,_)]) (rows:=[d.row]) rfl rfl rfl (by decide) (by kernel_rfl) Tryz.underlying48 Tryz.sizeOf110 Tryz.zeroValue110 rfl (by decide) (by decide) (by decide) (by kernel_rfl) ⟨rfl,rfl,rfl,trivial⟩ (rfl) rfl rfl (λg27=>?_)
    refine Al_nil ?_
    refine Ad_o 5 ?_
    refine Al_gcall [(1001,24,g24),(1002,27,g27)] [(1003,28)] (insertD_g p d (D.pos p d.key) hpl (by omega)) rfl rfl rfl (by decide) (by kernel_rfl) ⟨rfl,rfl,trivial⟩ rfl ⟨Sub.rfl,Sub.rfl,Sub.rfl,trivial⟩ (λg28=>?_)
    refine Al_nil ?_
    refine Ad_t 6 rfl (PuI_move (.inr rfl) (by conv=>lhs;whnf)) ?_
    refine Ad_d ?_
    refine Aw_frz hnl (k:=28) [4] rfl ⟨rfl,trivial⟩ ?_
    exact Aw_ret (Sub.d (by rw[D.add_new hp.srt hd hk]))
   ·refine Al_p (Pu_lN Tryz.isAgg110 Tryz.sizeOf110) ?_
    refine Al_nil ?_
    refine Ad_two 1 4 rfl rfl (by kernel_rfl) ?_ ?_
    ·refine Al_gcall [] [(1001,24)] (cloneD_g p (by omega)) rfl rfl rfl (by decide) (by kernel_rfl) trivial rfl ⟨Sub.rfl,trivial⟩ (λg24=>?_)
     refine Al_nil ?_
     refine Ad_o 4 ?_
     refine Al_sliceLit (aa:=[(0,_)]) (rows:=[d.row]) rfl rfl rfl (by decide) (by kernel_rfl) Tryz.underlying48 Tryz.sizeOf110 Tryz.zeroValue110 rfl (by decide) (by decide) (by decide) (by kernel_rfl) ⟨rfl,rfl,rfl,trivial⟩ (rfl) rfl rfl (λg27=>?_)
     refine Al_nil ?_
     refine Ad_o 5 ?_
     refine Al_gcall [(1001,24,g24),(1002,27,g27)] [(1003,28)] (insertD_g p d (D.pos p d.key) hpl (by omega)) rfl rfl rfl (by decide) (by kernel_rfl) ⟨rfl,rfl,trivial⟩ rfl ⟨Sub.rfl,Sub.rfl,Sub.rfl,trivial⟩ (λg28=>?_)
     refine Al_nil ?_
     refine Ad_t 6 rfl (PuI_move (.inr rfl) (by conv=>lhs;whnf)) ?_
     refine Ad_d ?_
     refine Aw_frz hnl (k:=28) [4] rfl ⟨rfl,trivial⟩ ?_
     exact Aw_ret (Sub.d (by rw[D.add_new hp.srt hd hk]))
    ·refine Al_sliceLit (aa:=[(0,_)]) (rows:=[d.row]) rfl rfl rfl (by decide) (by kernel_rfl) Tryz.underlying48 Tryz.sizeOf110 Tryz.zeroValue110 rfl (by decide) (by decide) (by decide) (by kernel_rfl) ⟨rfl,rfl,rfl,trivial⟩ (rfl) rfl rfl (λg27=>?_)
     refine Al_nil ?_
     refine Ad_o 1 ?_
     refine Al_gcall [] [(1001,24)] (cloneD_g p (by omega)) rfl rfl rfl (by decide) (by kernel_rfl) trivial rfl ⟨Sub.rfl,trivial⟩ (λg24=>?_)
     refine Al_nil ?_
     refine Ad_o 5 ?_
     refine Al_gcall [(1001,24,g24),(1002,27,g27)] [(1003,28)] (insertD_g p d (D.pos p d.key) hpl (by omega)) rfl rfl rfl (by decide) (by kernel_rfl) ⟨rfl,rfl,trivial⟩ rfl ⟨Sub.rfl,Sub.rfl,Sub.rfl,trivial⟩ (λg28=>?_)
     refine Al_nil ?_
     refine Ad_t 6 rfl (PuI_move (.inr rfl) (by conv=>lhs;whnf)) ?_
     refine Ad_d ?_
     refine Aw_frz hnl (k:=28) [4] rfl ⟨rfl,trivial⟩ ?_
     exact Aw_ret (Sub.d (by rw[D.add_new hp.srt hd hk]))
  ·skip
   have hk:D.hasK p d.key=true:=by simpa using h20
   obtain⟨hj,hje⟩:=D.pos_at hp.srt hk
   have hg:p.getD (D.pos p d.key) default=p[D.pos p d.key]:=by simp[hj]
   have hok2:D.okB (p.getD (D.pos p d.key) default)=true:=by rw[hg];exact hp.ok _ (List.getElem_mem hj)
   have hke:(p.getD (D.pos p d.key) default).key=d.key:=by rw[hg,hje]
   have hmx:=D.max_two (d:=d) hok2
   have hma:=smax_a [((p.getD (D.pos p d.key) default).n,(p.getD (D.pos p d.key) default).s),(d.n,d.s)]
   have hca:=D.cells_at hj
   have hcs:=D.cells_set hj (D.maxS [((p.getD (D.pos p d.key) default).n,(p.getD (D.pos p d.key) default).s),(d.n,d.s)]).1 (D.maxS [((p.getD (D.pos p d.key) default).n,(p.getD (D.pos p d.key) default).s),(d.n,d.s)]).2
   refine Aw_skip (Aw_sr ?_)
   refine Al_ml ?_
   refine Al_gcall [] [(1001,30)] (cloneD_g p (by omega)) rfl rfl rfl (by decide) (by kernel_rfl) trivial rfl ⟨Sub.rfl,trivial⟩ (λg30=>?_)
   refine Al_mr ?_
   refine Al_nil (Aw_seq ?_)
   refine Aw_dr 13 ?_
   refine Dr_ml ?_
   refine Dr_ml ?_
   refine Dr_ml ?_
   refine Dr_ml ?_
   refine Dr_p (Pu_indexOw (j:=D.pos p d.key) rfl Tryz.underlying48 Tryz.sizeOf110 rfl rfl rfl rfl (by rw[List.length_map];exact hj)) ?_
   refine Dr_p (Pu_fb 1 Tryz.underlying110 Tryz.sizeOf47) ?_
   refine Dr_p (Pu_loadArrN rfl Tryz.isAgg47 Tryz.sizeOf47 rfl rfl hca rfl) ?_
   refine Dr_p (Pu_fd 1 Tryz.underlying110 Tryz.sizeOf47) ?_
   refine Dr_p (Pu_lN Tryz.isAgg47 Tryz.sizeOf47) ?_
   refine Dr_p (Pu_buildSlice (aa:=[(0,_),(1,_)]) rfl Tryz.underlying214 Tryz.sizeOf47 Tryz.zeroValue47 rfl (by decide) (by decide) (by decide) (by kernel_rfl) ⟨rfl,rfl,rfl,rfl,rfl,rfl,trivial⟩ ((rfl:_=some [[iv (p.getD (D.pos p d.key) default).n,iv (p.getD (D.pos p d.key) default).s],[iv d.n,iv d.s]].flatten)) rfl rfl) ?_
   refine Dr_p (Pu_call (hma) rfl ⟨Sub.rfl,trivial⟩) ?_
   refine Dr_p (Pu_indexOw (j:=D.pos p d.key) rfl Tryz.underlying48 Tryz.sizeOf110 rfl rfl rfl rfl (by rw[List.length_map];exact hj)) ?_
   refine Dr_p (Pu_fb 1 Tryz.underlying110 Tryz.sizeOf47) ?_
   refine Dr_nil ?_
   refine Al_storeArr ((p.set (D.pos p d.key) ⟨(p.getD (D.pos p d.key) default).key,_,_⟩).map Dep.row) rfl rfl rfl (by kernel_rfl) Tryz.sizeOf47 rfl rfl rfl rfl rfl (by rw[List.length_map];omega) (by simp) (λq hq=>by obtain⟨x,_,rfl⟩:=List.mem_map.1 hq;rfl) hcs ?_
   refine Al_ns ?_
   refine Al_ml ?_
   refine Al_mr ?_
   refine Al_nil ?_
   refine Aw_frz hnl (k:=30) [4] rfl ⟨rfl,trivial⟩ ?_
   refine Aw_ret ?_
   exact Sub.d (by
    rw[D.add_old hp.srt hd hk,hmx]
    congr 3
    split
    ·rw[hke]
    ·rfl)
end Go.Proofs.YtdnijgdmohinlaaGreat
end
section
namespace Go.Proofs
open Go.Shelf
def Tryz.lays190_ren:Go.Shelf.Ren:=⟨fun|190=>313|125=>363|258=>362|128=>390|129=>391|302=>381|303=>382|304=>383|305=>384|306=>385|307=>386|308=>387|309=>388|310=>389|333=>406|329=>407|330=>408|334=>409|335=>410|336=>379|344=>414|n=>n,fun|31=>39|9=>9|3=>3|46=>390|0=>0|51=>409|53=>271|4=>4|183=>402|182=>401|131=>304|5=>5|218=>419|222=>423|228=>426|229=>427|n=>n,fun|n=>n⟩
theorem Tryz.lays190:Go.Proofs.Lays.n190 Tryz.prog Tryz.lays190_ren:={
 mixed:=by kernel_rfl
 f125:=Tryz.func363.trans (congrArg some (by kernel_rfl))
 f128:=Tryz.func390.trans (congrArg some (by kernel_rfl))
 f129:=Tryz.func391.trans (congrArg some (by kernel_rfl))
 f190:=Tryz.func313.trans (congrArg some (by kernel_rfl))
 f258:=Tryz.func362.trans (congrArg some (by kernel_rfl))
 f302:=Tryz.func381.trans (congrArg some (by kernel_rfl))
 f303:=Tryz.func382.trans (congrArg some (by kernel_rfl))
 f304:=Tryz.func383.trans (congrArg some (by kernel_rfl))
 f305:=Tryz.func384.trans (congrArg some (by kernel_rfl))
 f306:=Tryz.func385.trans (congrArg some (by kernel_rfl))
 f307:=Tryz.func386.trans (congrArg some (by kernel_rfl))
 f308:=Tryz.func387.trans (congrArg some (by kernel_rfl))
 f309:=Tryz.func388.trans (congrArg some (by kernel_rfl))
 f310:=Tryz.func389.trans (congrArg some (by kernel_rfl))
 f329:=Tryz.func407.trans (congrArg some (by kernel_rfl))
 f330:=Tryz.func408.trans (congrArg some (by kernel_rfl))
 f333:=Tryz.func406.trans (congrArg some (by kernel_rfl))
 f334:=Tryz.func409.trans (congrArg some (by kernel_rfl))
 f335:=Tryz.func410.trans (congrArg some (by kernel_rfl))
 f336:=Tryz.func379.trans (congrArg some (by kernel_rfl))
 f344:=Tryz.func414.trans (congrArg some (by kernel_rfl))
 t0:=Tryz.underlying0
 a0:=Tryz.isAgg0
 z0:=Tryz.sizeOf0
 v0:=Tryz.zeroValue0
 t3:=Tryz.underlying3
 a3:=Tryz.isAgg3
 z3:=Tryz.sizeOf3
 v3:=Tryz.zeroValue3
 t4:=Tryz.underlying4
 a4:=Tryz.isAgg4
 z4:=Tryz.sizeOf4
 v4:=Tryz.zeroValue4
 t5:=Tryz.underlying5
 a5:=Tryz.isAgg5
 z5:=Tryz.sizeOf5
 v5:=Tryz.zeroValue5
 t9:=Tryz.underlying9
 a9:=Tryz.isAgg9
 z9:=Tryz.sizeOf9
 v9:=Tryz.zeroValue9
 t31:=Tryz.underlying39
 a31:=Tryz.isAgg39
 z31:=Tryz.sizeOf39
 v31:=Tryz.zeroValue39
 t46:=Tryz.underlying390
 a46:=Tryz.isAgg390
 z46:=Tryz.sizeOf390
 v46:=Tryz.zeroValue390
 t51:=Tryz.underlying409
 a51:=Tryz.isAgg409
 z51:=Tryz.sizeOf409
 v51:=Tryz.zeroValue409
 t53:=Tryz.underlying271
 a53:=Tryz.isAgg271
 z53:=Tryz.sizeOf271
 v53:=Tryz.zeroValue271
 t131:=Tryz.underlying304
 a131:=Tryz.isAgg304
 z131:=Tryz.sizeOf304
 v131:=Tryz.zeroValue304
 t182:=Tryz.underlying401
 a182:=Tryz.isAgg401
 z182:=Tryz.sizeOf401
 v182:=Tryz.zeroValue401
 t183:=Tryz.underlying402
 a183:=Tryz.isAgg402
 z183:=Tryz.sizeOf402
 v183:=Tryz.zeroValue402
 t218:=Tryz.underlying419
 a218:=Tryz.isAgg419
 z218:=Tryz.sizeOf419
 v218:=Tryz.zeroValue419
 t222:=Tryz.underlying423
 a222:=Tryz.isAgg423
 z222:=Tryz.sizeOf423
 v222:=Tryz.zeroValue423
 t228:=Tryz.underlying426
 a228:=Tryz.isAgg426
 z228:=Tryz.sizeOf426
 v228:=Tryz.zeroValue426
 t229:=Tryz.underlying427
 a229:=Tryz.isAgg427
 z229:=Tryz.sizeOf427
 v229:=Tryz.zeroValue427}
open Go.Sort Go.RowKit in
theorem Tryz.slices_Sort_string (blk off cap:Nat) (ss:List (List UInt8)) (w:World) (hH:Holds encStr w blk off ss.toArray) (hblk:blk<w.heap.size) (hsz:ss.length<4611686018427387904) :
 Calls Tryz.prog 313 #[.slice (some ⟨blk,off,none⟩) ss.length cap] w λe w' =>
  e=.returned (.tuple #[])∧∃n os,w'=grow (putRow encStr (Sort.ahead w n) blk off (ss.mergeSort λx y=>decide (x≤y)).toArray) os:=Any.slices_Sort_string Tryz.lays190 blk off cap ss w hH hblk hsz
open Go.RowKit Go.Sort in
theorem Tryz.slices_Sort_string_none (p:Option Addr) (cap:Nat) (w:World) :
 Calls Tryz.prog 313 #[.slice p 0 cap] w λe w'=>e=.returned (.tuple #[])∧w'=w:=Any.slices_Sort_string_none Tryz.lays190 p cap w
end Go.Proofs
end
section
namespace Go.Proofs.YtdnijgdmohinlaaGreat
open Go.RowKit A R
open A.RowT
abbrev VK:=ByteArray×Int×Int
instance:Inhabited Event:=⟨⟨0,0,⟨#[]⟩,0,0,[]⟩⟩
namespace G
def keyE (e:Event):VK:=(e.key,e.n,e.s)
def isW (v:VK) (e:Event):Bool:=decide (e.kind=1)&&decide (keyE e=v)
def first (l:List Event) (k:Nat) (v:VK):Option Nat:=(l.take k).findIdx? (isW v)
def last (l:List Event):Nat→Int→Option Nat
 | 0,_=>none
 | k+1,c=>match l[k]? with
  | some e=>if e.client=c then some k else last l k c
  | none=>last l k c
end G
end Go.Proofs.YtdnijgdmohinlaaGreat
end
section
namespace Go.Proofs.YtdnijgdmohinlaaGreat.A
open Go Go.RowKit
variable {P:Program}{st:ASt}{o:Oper}
theorem Pu_buildArr {t e:TypeId}{len n:Nat}{ps:Array (Nat×Operand)}{aa:List (Nat×AV)}{zs:List Value}{r:List AV}(ho:o.op=.build t ps) (ht:P.underlying t=some (.array len e)) (hz:∀w,(zeroValue t).run P w=.ok (.agg zs.toArray) w)
  (hs:∀w,(sizeOf e).run P w=.ok n w) (hv:zs.all (λz=>decide (vok z))=true) (ha:PartsOk st ps.toList aa) (hr:fillA (λi=>some (i*n,n)) (zs.map .v) aa=some r):Pu P st o (.d (.row r)):=Pu_q λB M ρ w a h2 _=>by
 obtain⟨us,h3,h4⟩:=run_fill (M:=M) (w:=w) (ρ:=ρ) (a:=a) (λi=>some (i*n,n)) ps.toList aa _ r zs.toArray ha (λp hp=>h2 p.2 (by
  simp only[opsOf,ho,Op.operands]
  exact List.mem_map.2 ⟨p,hp,rfl⟩)) (cells_v hv) hr
 refine⟨.agg us,?_,h4.row⟩
 have e:(ps.map λ(p:Nat×Operand)=>(p.1,a.eval p.2)).toList=ps.toList.map λ(i,x)=>(i,a.eval x):=by simp
 simp only[execOp,ho,Instr.build,Sem.run_bind,hz,Result.andThen_ok,run_underlying ht,hs,Value.cells]
 rw[e]
 simp only[h3,Sem.run_pure,Sem.run_bind,Result.andThen_ok]
theorem Pu_max2 {x y:Operand}{ts:Array TypeId}{a b c:Int}(ho:o.op=.call ⟨.builtin .max,#[x,y],ts⟩) (hx:st.ev x=.d (.v (.int .i64 a))) (hy:st.ev y=.d (.v (.int .i64 b))) (hc:c=if b>a then b else a):Pu P st o (.d (.v (.int .i64 c))):=Pu_q λB M ρ w act h2 h3=>by
 subst hc
 obtain⟨e1,o1⟩:=ev_v h2 (mem_call ho x (by simp)) hx
 obtain⟨e2,o2⟩:=ev_v h2 (mem_call ho y (by simp)) hy
 refine⟨.int .i64 (if b>a then b else a),?_,.v _ ?_⟩
 ·simp[execOp,ho,resolve,invoke,builtin,Builtin.max_,Builtin.max2,e1,e2,Sem.run]
 ·split
  ·exact o2
  ·exact o1
theorem Pu_int_and {t yt:TypeId}{x y:Operand}{k:IntKind}{a b r:Int}(ho:o.op=.binOp .and t x y yt) (hx:st.ev x=.d (.v (.int k a))) (hy:st.ev y=.d (.v (.int k b))) (hr:k.wrap (BitVec.ofInt k.bits a&&&BitVec.ofInt k.bits b).toNat=r) (hv:vok (.int k a)→vok (.int k r)):Pu P st o (.d (.v (.int k r))) :=
 Pu_bin ho hx hy (λh1 h2 w=>by
  simp only[Sem.run_bind,guard_int,Result.andThen_ok,binOp];simp only[Op.intBits,hr,ne_eq,not_true_eq_false,if_false,Sem.run_pure]) (λh _=>hv h)
theorem Pu_convW {f t:TypeId}{x:Operand}{k k' k2:IntKind}{a r:Int}(ho:o.op=.convert f t x) (hf:P.underlying f=some (.int k2)) (ht:P.underlying t=some (.int k')) (hx:st.ev x=.d (.v (.int k a))) (hw:k'.wrap a=r) (hv:vok (.int k' r)):Pu P st o (.d (.v (.int k' r))):=Pu_q λB M ρ w a2 h2 _=>by
 obtain⟨e1,k1⟩:=ev_v h2 (x:=x) (by simp[opsOf,ho,Op.operands]) hx
 refine⟨.int k' r,?_,.v _ hv⟩
 simp only[execOp,ho,e1,convert,Sem.run_bind,run_underlying hf,run_underlying ht,Result.andThen_ok,Conv.intToInt,hw,Sem.run_pure]
end Go.Proofs.YtdnijgdmohinlaaGreat.A
namespace Go.Proofs.YtdnijgdmohinlaaGreat.V
open Go.RowKit A R
theorem i64_ok (z:Int):vok (.int .i64 (IntKind.i64.wrap z)):=by
 show A.inI _
 rw[IntKind.wrap_i64]
 simp only[A.inI];omega
end Go.Proofs.YtdnijgdmohinlaaGreat.V
end
section
namespace Go.Proofs.YtdnijgdmohinlaaGreat
open Go.RowKit A R
namespace G
def dirB (l:List Event) (j i:Nat):Bool:=decide (last l j (l.getD j default).client=some i)||(decide ((l.getD j default).kind=2)&&!(decide ((l.getD j default).n=0)&&decide ((l.getD j default).s=0))&&decide (first l l.length (keyE (l.getD j default))=some i))
def dirN (l:List Event) (j:Nat):List Nat:=(List.range j).filter (dirB l j)
def ahF (l:List Event):Nat→Nat→Nat→Bool
 | 0,_,_=>false
 | f+1,i,k=>(dirN l i).any λd=>d==k||ahF l f d k
def ah (l:List Event) (i k:Nat):Bool:=ahF l (i+1) i k
abbrev VS:=(Nat→Bool)×Nat
def add (s:VS) (k:Nat):VS:=(λx=>x==k||s.1 x,s.2+1)
def aheadN (l:List Event) (i:Nat):List Nat:=(List.range l.length).filter (ah l i)
end G
end Go.Proofs.YtdnijgdmohinlaaGreat
namespace Go.Proofs.YtdnijgdmohinlaaGreat
open Go.RowKit A R
open A.RowT
namespace G
end G
namespace G
end G
end Go.Proofs.YtdnijgdmohinlaaGreat
namespace Go.Proofs.YtdnijgdmohinlaaGreat
open Go.RowKit A R
open A.RowT
namespace G
def aheadI (l:List Event) (i:Int):List Nat:=if 0≤i∧i<l.length then aheadN l i.toNat else[]
end G
namespace G
end G
end Go.Proofs.YtdnijgdmohinlaaGreat
namespace Go.Proofs.YtdnijgdmohinlaaGreat
open Go.RowKit A R
open A.RowT
namespace G
end G
namespace G
def depE (e:Event):Dep:=⟨e.key,e.n,e.s⟩
def seenS (l:List Event) (p:List Dep) (j:Nat):List Dep:=if (l.getD j default).kind=1 then D.add p (depE (l.getD j default))else p
def seenTo (l:List Event) (js:List Nat) (k:Nat):List Dep:=(js.take k).foldl (seenS l) []
def seen (l:List Event) (i:Int):List Dep:=seenTo l (aheadI l i) (aheadI l i).length
end G
end Go.Proofs.YtdnijgdmohinlaaGreat
end
section
namespace Go.Proofs.YtdnijgdmohinlaaGreat
open Go.RowKit A
theorem byte_beq (a b:ByteArray):(a==b)=decide (a=b):=by
 rw[beq_toListBytes,Bool.eq_iff_iff]
 simp only[beq_iff_eq,decide_eq_true_eq]
 exact⟨λh=>by rw[←V.ba_data a,←V.ba_data b,←ByteArray.toList_eq,←ByteArray.toList_eq,h],λh=>h▸rfl⟩
theorem str_eqB (a b:ByteArray):(a.toList==b.toList)=decide (a=b):=by rw[←beq_toListBytes];exact byte_beq _ _
namespace L
end L
end Go.Proofs.YtdnijgdmohinlaaGreat
end
section
set_option maxRecDepth 100000
namespace Go.Proofs.YtdnijgdmohinlaaGreat
open Go.RowKit A R
namespace D
end D
abbrev pastA (p:List Dep):AV:=.sl 3 (p.map Dep.row)
end Go.Proofs.YtdnijgdmohinlaaGreat
end
section
namespace Go.Proofs.YtdnijgdmohinlaaGreat
open Go.RowKit A R
open A.RowT
namespace D
def addAll (p q:List Dep):List Dep:=q.foldl add p
def mergeL (l:List (List Dep)):List Dep:=addAll [] l.flatten
theorem addAll_len:∀(q p:List Dep),(addAll p q).length≤p.length+q.length
 | [],p=>Nat.le_refl _
 | d::q,p=>by
  have h1:=addAll_len q (add p d)
  have h2:=add_len p d
  show(addAll (add p d) q).length≤_
  simp only[List.length_cons]
  omega
theorem addAll_succ (p q:List Dep) {k:Nat}(hk:k<q.length):addAll p (q.take (k+1))=add (addAll p (q.take k)) q[k]:=by
 unfold addAll
 rw[List.take_succ_eq_append_getElem hk,List.foldl_append];rfl
theorem addAll_app (p q r:List Dep):addAll p (q++r)=addAll (addAll p q) r:=List.foldl_append
theorem flat_len (l:List (List Dep)) (k:Nat):(l.take k).flatten.length≤l.flatten.length:=by
 have:l.flatten=(l.take k).flatten++(l.drop k).flatten:=by rw[←List.flatten_append,List.take_append_drop]
 rw[this,List.length_append];omega
theorem flat_len2 (l:List (List Dep)) {k:Nat}(hk:k<l.length):(l.take k).flatten.length+l[k].length≤l.flatten.length:=by
 have:=flat_len l (k+1)
 rw[List.take_succ_eq_append_getElem hk,List.flatten_append,List.length_append]at this
 simpa using this
theorem mergeL_succ (l:List (List Dep)) {k:Nat}(hk:k<l.length):mergeL (l.take (k+1))=addAll (mergeL (l.take k)) l[k]:=by
 unfold mergeL
 rw[List.take_succ_eq_append_getElem hk,List.flatten_append,addAll_app];simp
end D
namespace G
def behindN (l:List Event) (j:Nat):List Dep:=D.mergeL [(l.getD j default).seen,[depE (l.getD j default)]]
def behind (l:List Event) (i:Int):List Dep:=if 0≤i∧i<l.length then behindN l i.toNat else[]
def lastZ (l:List Event) (k:Nat) (c:Int):Int:=match last l k c with|some i=>(i:Int)|none=> -1
end G
end Go.Proofs.YtdnijgdmohinlaaGreat
end
section
set_option maxRecDepth 100000
namespace Go.Proofs.YtdnijgdmohinlaaGreat
open Go.RowKit A R
open A.RowT
structure Ver where
 key:ByteArray
 value:ByteArray
 gone:Bool
 n:Int
 s:Int
 past:List Dep
def Ver.row (v:Ver):List AV:=[tv v.key,tv v.value,bv v.gone,iv v.n,iv v.s,.sl 3 (v.past.map Dep.row)]
instance:Inhabited Ver:=⟨⟨⟨#[]⟩,⟨#[]⟩,false,0,0,[]⟩⟩
instance:DecidableEq Ver:=λa b=>decidable_of_iff (a.key=b.key∧a.value=b.value∧a.gone=b.gone∧a.n=b.n∧a.s=b.s∧a.past=b.past) (by cases a;cases b;simp)
abbrev versA (l:List Ver):AV:=.sl 6 (l.map Ver.row)
namespace J
def okAt (p:List Dep) (i:Nat):Bool:=D.okB (p.getD i default)&&(decide (i=0)||Op.bytesLess (p.getD (i - 1) default).key.toList (p.getD i default).key.toList)
def pastB (p:List Dep):Bool:=(List.range p.length).all (okAt p)&&decide ((p.length:Int)≤24)
theorem past_no {p:List Dep}{i:Nat}(hi:i<p.length) (h:okAt p i=false):pastB p=false:=by
 unfold pastB
 rw[Bool.and_eq_false_iff]
 refine .inl ?_
 rw[List.all_eq_false]
 exact⟨i,List.mem_range.2 hi,by rw[h];decide⟩
theorem past_all {p:List Dep}(h:∀i,i<p.length→okAt p i=true):pastB p=decide ((p.length:Int)≤24):=by
 unfold pastB
 rw[show(List.range p.length).all (okAt p)=true from List.all_eq_true.2 λi hi=>h i (List.mem_range.1 hi),Bool.true_and]
theorem adj_srt:∀(p:List Dep),(∀i,i+1<p.length→Op.bytesLess (p.getD i default).key.toList (p.getD (i+1) default).key.toList=true)→D.Srt p
 | [],_=>.nil
 | [x],_=>List.pairwise_singleton ..
 | x::y::r,h=>by
  have ih:=adj_srt (y::r) λi hi=>h (i+1) (by simpa using hi)
  have h0:Op.bytesLess x.key.toList y.key.toList=true:=h 0 (by simp)
  refine List.pairwise_cons.2 ⟨λz hz=>?_,ih⟩
  rcases List.mem_cons.1 hz with rfl|hz
  ·exact h0
  ·exact K.bl_trans _ _ _ h0 ((List.pairwise_cons.1 ih).1 z hz)
theorem past_good {p:List Dep}(h:pastB p=true):D.Good p∧p.length≤24:=by
 unfold pastB at h
 simp only[Bool.and_eq_true,List.all_eq_true,List.mem_range,decide_eq_true_eq]at h
 obtain⟨h1,h2⟩:=h
 refine⟨⟨adj_srt p λi hi=>?_,λx hx=>?_⟩,by omega⟩
 ·have:=h1 (i+1) hi
  unfold okAt at this
  simp only[Bool.and_eq_true,Bool.or_eq_true,decide_eq_true_eq]at this
  rcases this.2 with h|h
  ·omega
  ·exact h
 ·obtain⟨i,hi,rfl⟩:=List.getElem_of_mem hx
  have:=h1 i hi
  unfold okAt at this
  simp only[Bool.and_eq_true]at this
  have hg:p.getD i default=p[i]:=by simp[hi]
  rw[hg]at this
  exact this.1
theorem size_runes (s:ByteArray):∀(k i f n:Nat),s.size - i≤k→s.size≤i+f→K.runesF s f i=some n→s.size≤i+4*n:=by
 intro k
 induction k with
 | zero=>intro i f n h _ _;omega
 | succ k ih =>
  intro i f n h hf hr
  by_cases hi:i<s.size
  ·cases ho:K.okAt s i with
   | false=>rw[K.runesF_bad s f i hi hf ho]at hr;cases hr
   | true =>
    obtain⟨g,hg,e⟩:=K.runesF_ok s f i hi hf ho
    rw[e]at hr
    obtain⟨m,hm,rfl⟩:=Option.map_eq_some_iff.1 hr
    have hw:=K.wd_pos s i hi
    have hw4:K.wd s i≤4:=by rw[←(K.ref_ok s i hi).2 ho];exact K.longN_le _
    have:=ih (i+K.wd s i) g m (by omega) hg hm
    omega
  ·omega
theorem check_size {s:ByteArray}(h:K.checkB s=true):s.size≤32:=by
 unfold K.checkB K.lim at h
 simp only[Bool.and_eq_true,decide_eq_true_eq]at h
 obtain⟨⟨h1,h2⟩,_⟩:=h
 unfold K.runes at h1 h2
 split at h1
 ·rename_i n hn
  have:=size_runes s s.size 0 s.size n (by omega) (by omega) hn
  rw[hn]at h2
  simp only at h2
  omega
 ·omega
def checkB (v:Ver):Bool:=K.checkB v.key&&(V.stampB v.n v.s&&(pastB v.past&&(decide ((v.value.size:Int)≤32)&&(!v.gone||(v.value.toList==(⟨#[]⟩:ByteArray).toList)))))
theorem ver_key {v:Ver}(h:checkB v=true):v.key.size≤32:=by
 unfold checkB at h
 simp only[Bool.and_eq_true]at h
 exact check_size h.1
end J
set_option maxRecDepth 100000 in
theorem pcheck_a (p:List Dep):ACall Tryz.prog 299 [.sl 3 (p.map Dep.row)] (bv (J.pastB p)):=by
 refine AC_1 Tryz.func299 Tryz.ntmps299 Tryz.results299 λhok M0 w0 hnl=>?_
 have hlen:=(hok _ (List.mem_cons_self ..)).len
 rw[List.length_map]at hlen
 refine Aw_sr ?_
 refine Al_mr ?_
 refine Al_nil (Aw_seq (Aw_sr ?_))
 refine Al_ml ?_
 refine Al_p (Pu_ln Tryz.underlying48) ?_
 refine Al_ml ?_
 refine Al_nil (Aw_block ?_)
 refine Aw_loopk (ι:=Nat) [0,5,6] [] (λk=>[(7,.d (iv k))]) (λk=>[]) (λk=>k≤p.length∧∀i,i<k→J.okAt p i=true) (λk=>p.length - k) (0) (⟨Nat.zero_le _,by intros;omega⟩) ⟨Sub.rfl,trivial⟩ trivial ?_
 rintro k ⟨hk0,hno⟩
 refine Aw_sr ?_
 refine Al_p Pu_cp ?_
 refine Al_nil (Aw_seq ?_)
 refine Aw_cond rfl (λh8=>?_) (λh8=>?_)
 ·(try simp only[A.cd_]at h8)
  have hk:k<p.length:=by omega
  refine Aw_skip (Aw_seq (Aw_block (Aw_sr ?_)))
  refine Al_ml ?_
  refine Al_p (Pu_index rfl Tryz.underlying48 Tryz.sizeOf110 rfl rfl (rfl) (mapgetD (d:=default) hk)) ?_
  refine Al_p (Pu_lN Tryz.isAgg110 Tryz.sizeOf110) ?_
  refine Al_al Tryz.zeroValue110 λg4=>?_
  refine Al_mr ?_
  refine Al_sN Tryz.isAgg110 Tryz.sizeOf110 ?_
  refine Al_nil (Aw_seq ?_)
  refine Aw_dr 18 ?_
  refine Dr_p (Pu_lbN (r:=[_,_,_]) Tryz.isAgg110 Tryz.sizeOf110) ?_
  refine Dr_p (Pu_call (pmay_a _) rfl ⟨Sub.rfl,trivial⟩) ?_
  refine Dr_p Pu_n ?_
  refine Dr_ml ?_
  refine Dr_s (St_g [] trivial (λ_=>Pu_mvl)) ?_
  refine Dr_s (St_g [16] ⟨⟨_,rfl⟩,trivial⟩ (λ_=>Pu_cp)) ?_
  refine Dr_s (St_g [17] ⟨⟨_,rfl⟩,trivial⟩ (λ_=>Pu_mvl)) ?_
  refine Dr_s (St_gd2 [] rfl rfl rfl rfl trivial (λhp19 hg19=>Pu_mvl)) ?_
  refine Dr_s (St_gd2 [] rfl rfl rfl rfl trivial (λhp20 hg20=>Pu_mvl)) ?_
  refine Dr_s (St_gd2 [20] rfl rfl rfl rfl ⟨⟨_,rfl⟩,trivial⟩ (λhp21 hg21=>by exact Pu_sub rfl rfl rfl (λh1 h2=>by simp only[A.inI,A.maxI]at *;omega))) ?_
  refine Dr_s (St_gd2 [19,21] rfl rfl rfl rfl ⟨⟨_,rfl⟩,⟨_,rfl⟩,trivial⟩ (λhp22 hg22=>by exact Pu_index rfl Tryz.underlying48 Tryz.sizeOf110 rfl rfl ((show((k:Int) - 1)=((k - 1:Nat):Int)from by have:=of_decide_eq_true hg22;omega)) (mapgetD (d:=default) (show k - 1<p.length by omega)))) ?_
  refine Dr_s (St_gd2 [22] rfl rfl rfl rfl ⟨⟨_,rfl⟩,trivial⟩ (λhp23 hg23=>Pu_fd 0 Tryz.underlying110 Tryz.sizeOf9)) ?_
  refine Dr_s (St_gd2 [23] rfl rfl rfl rfl ⟨⟨_,rfl⟩,trivial⟩ (λhp24 hg24=>Pu_l1 Tryz.isAgg9)) ?_
  refine Dr_s (St_gd2 [] rfl rfl rfl rfl trivial (λhp25 hg25=>Pu_fb 0 Tryz.underlying110 Tryz.sizeOf9)) ?_
  refine Dr_s (St_gd2 [25] rfl rfl rfl rfl ⟨⟨_,rfl⟩,trivial⟩ (λhp26 hg26=>Pu_lb Tryz.isAgg9)) ?_
  refine Dr_s (St_gd2 [24,26] rfl rfl rfl rfl ⟨⟨_,rfl⟩,⟨_,rfl⟩,trivial⟩ (λhp27 hg27=>Pu_sr)) ?_
  refine Dr_s (St_g [18] ⟨⟨_,rfl⟩,trivial⟩ (λhg28=>Pu_andG rfl rfl (λh=>⟨hg28,h⟩) rfl rfl)) ?_
  refine Dr_p Pu_o ?_
  refine Dr_nil (Al_nil ?_)
  refine Aw_cond rfl (λh29=>?_) (λh29=>?_)
  ·skip
   have hf:J.okAt p k=false:=by
    unfold J.okAt
    rcases Nat.eq_zero_or_pos k with h0|h0
    ·subst h0
     simpa using h29
    ·rw[show decide (k=0)=false from by simp;omega,Bool.false_or]
     simp only[Bool.or_eq_true,Bool.not_eq_true',Bool.and_eq_true,decide_eq_true_eq]at h29
     rcases h29 with h|h
     ·rw[h];rfl
     ·rw[h.2,Bool.and_false]
   refine Aw_sr ?_
   refine Al_mr ?_
   refine Al_nil ?_
   exact Aw_ret (Sub.bool (J.past_no hk hf).symm)
  ·skip
   have hf:J.okAt p k=true:=by
    unfold J.okAt
    rcases Nat.eq_zero_or_pos k with h0|h0
    ·subst h0
     simpa using h29
    ·rw[show decide (k=0)=false from by simp;omega,Bool.false_or]
     simp only[Bool.or_eq_false_iff,Bool.not_eq_false',Bool.and_eq_false_iff,decide_eq_false_iff_not]at h29
     obtain⟨h1,h2⟩:=h29
     rw[h1,Bool.true_and]
     rcases h2 with h|h
     ·omega
     ·exact h
   refine Aw_skip (Aw_region ?_)
   refine Al_p Pu_ad ?_
   refine Al_ml ?_
   refine Al_nil ?_
   exact⟨k+1,⟨by omega,λi hi=>by
    rcases Nat.lt_succ_iff_lt_or_eq.1 hi with h|rfl
    ·exact hno i h
    ·exact hf⟩,by omega,Le.ov ⟨Sub.num (by omega),trivial⟩ ⟨Sub.rfl,Sub.rfl,Sub.rfl,trivial⟩ trivial trivial⟩
 ·(try simp only[A.cd_]at h8)
  have hk:k=p.length:=by omega
  refine Aw_exit (Aw_sr ?_)
  refine Al_ml ?_
  refine Al_p (Pu_ln Tryz.underlying48) ?_
  refine Al_p Pu_cp ?_
  refine Al_mr ?_
  refine Al_nil ?_
  exact Aw_ret (Sub.bool (J.past_all (by subst hk;exact hno)).symm)
set_option maxRecDepth 100000 in
theorem wcheck_a (v:Ver):ACall Tryz.prog 230 [.row v.row] (bv (J.checkB v)):=by
 refine AC_1 Tryz.func230 Tryz.ntmps230 Tryz.results230 λhok M0 w0 hnl=>?_
 refine Aw_sr ?_
 refine Al_p Pu_bN ?_
 refine Al_mr ?_
 refine Al_ns ?_
 refine Al_p (Pu_fd 0 Tryz.underlying50 Tryz.sizeOf9) ?_
 refine Al_p (Pu_l1 Tryz.isAgg9) ?_
 refine Al_p (Pu_call (check_a _) rfl ⟨Sub.rfl,trivial⟩) ?_
 refine Al_ml ?_
 refine Al_s (St_g [] trivial (λ_=>Pu_fd 3 Tryz.underlying50 Tryz.sizeOf47)) ?_
 refine Al_s (St_g [7] ⟨⟨_,rfl⟩,trivial⟩ (λ_=>Pu_lN Tryz.isAgg47 Tryz.sizeOf47)) ?_
 refine Al_s (St_g [8] ⟨⟨_,rfl⟩,trivial⟩ (λ_=>Pu_call (stcheck_a _ _) rfl ⟨Sub.rfl,trivial⟩)) ?_
 refine Al_p Pu_a ?_
 refine Al_ml ?_
 refine Al_s (St_g [] trivial (λ_=>Pu_fd 5 Tryz.underlying50 Tryz.sizeOf48)) ?_
 refine Al_s (St_g [12] ⟨⟨_,rfl⟩,trivial⟩ (λ_=>Pu_l1 Tryz.isAgg48)) ?_
 refine Al_s (St_g [13] ⟨⟨_,rfl⟩,trivial⟩ (λ_=>Pu_call (pcheck_a v.past) rfl ⟨Sub.rfl,trivial⟩)) ?_
 refine Al_p Pu_a ?_
 refine Al_ml ?_
 refine Al_s (St_g [] trivial (λ_=>Pu_fd 1 Tryz.underlying50 Tryz.sizeOf9)) ?_
 refine Al_s (St_g [17] ⟨⟨_,rfl⟩,trivial⟩ (λ_=>Pu_l1 Tryz.isAgg9)) ?_
 refine Al_s (St_g [18] ⟨⟨_,rfl⟩,trivial⟩ (λ_=>Pu_lenS rfl Tryz.underlying9 rfl)) ?_
 refine Al_s (St_g [19] ⟨⟨_,rfl⟩,trivial⟩ (λ_=>Pu_cp)) ?_
 refine Al_p Pu_a ?_
 refine Al_ml ?_
 refine Al_s (St_g [] trivial (λ_=>Pu_fd 2 Tryz.underlying50 Tryz.sizeOf4)) ?_
 refine Al_s (St_g [23] ⟨⟨_,rfl⟩,trivial⟩ (λ_=>Pu_l1 Tryz.isAgg4)) ?_
 refine Al_s (St_g [24] ⟨⟨_,rfl⟩,trivial⟩ (λ_=>Pu_n)) ?_
 refine Al_s (St_g [25] ⟨⟨_,rfl⟩,trivial⟩ (λ_=>Pu_mvl)) ?_
 refine Al_s (St_gd2 [] rfl rfl rfl rfl trivial (λhp27 hg27=>Pu_fd 1 Tryz.underlying50 Tryz.sizeOf9)) ?_
 refine Al_s (St_gd2 [27] rfl rfl rfl rfl ⟨⟨_,rfl⟩,trivial⟩ (λhp28 hg28=>Pu_l1 Tryz.isAgg9)) ?_
 refine Al_s (St_gd2 [28] rfl rfl rfl rfl ⟨⟨_,rfl⟩,trivial⟩ (λhp29 hg29=>Pu_sr)) ?_
 refine Al_s (St_g [26] ⟨⟨_,rfl⟩,trivial⟩ (λhg30=>Pu_orG rfl rfl rfl (λh=>⟨hg30,h⟩) rfl)) ?_
 refine Al_p Pu_a ?_
 refine Al_mr ?_
 refine Al_nil ?_
 exact Aw_ret (Sub.bool (by unfold J.checkB;simp only[Bool.and_assoc]))
end Go.Proofs.YtdnijgdmohinlaaGreat
end
section
set_option maxRecDepth 100000
namespace Go.Proofs.YtdnijgdmohinlaaGreat
open Go.RowKit A R
open A.RowT
set_option maxRecDepth 100000 in
theorem cloneV_g (l:List Ver) (hl:l.length≤1000000):GCall Tryz.prog 183 [.d (.sl 6 (l.map Ver.row))] [] (some ([(1001,.arr 50 6 (l.map Ver.row))],.ow 1001 0)):=by
 refine GC_1 Tryz.func183 Tryz.ntmps183 (ReadsS.r1 Tryz.results183) λhok hokB M0 w0=>?_
 refine Aw_sr ?_
 refine Al_mr ?_
 refine Al_nil (Aw_seq (Aw_sr ?_))
 refine Al_ml ?_
 refine Al_eqnil rfl rfl rfl (by decide) (by kernel_rfl) Tryz.underlying35 rfl (λnl hnl=>?_)
 refine Al_nil ?_
 refine Aw_cond rfl (λh4=>?_) (λh4=>?_)
 ·(try simp only[A.cd_]at h4)
  refine Aw_sr ?_
  refine Al_mr ?_
  refine Al_nil ?_
  obtain rfl:l=[]:=by simpa using hnl h4
  refine Aw_own (j:=2) (k:=2) (T:=50) (n:=6) rfl (λg=>?_)
  exact Aw_ret (⟨_,_,[(1001,2,g)],rfl,Sub.rfl,⟨rfl,trivial⟩,rfl⟩)
 ·(try simp only[A.cd_]at h4)
  refine Aw_skip (Aw_sr ?_)
  refine Al_slice0 rfl rfl rfl (by decide) Tryz.underlying35 Tryz.sizeOf50 (λg5=>?_)
  refine Al_ml ?_
  refine Al_append rfl rfl rfl (by decide) (by kernel_rfl) elem35 (by decide) Tryz.sizeOf50 rfl rfl rfl (by simp;omega) (by decide) (λg7=>?_)
  refine Al_mr ?_
  refine Al_nil ?_
  exact Aw_ret (⟨_,_,[(1001,5,g7)],rfl,Sub.rfl,⟨rfl,trivial⟩,rfl⟩)
set_option maxRecDepth 100000 in
set_option maxHeartbeats 1000000 in
theorem insertV_g (l:List Ver) (x:Ver) (i:Nat) (hi:i≤l.length) (hl:l.length≤1000000):GCall Tryz.prog 374 [.ow 1001 0,.d (iv i),.ow 1002 0] [(1001,.arr 50 6 (l.map Ver.row)),(1002,.arr 50 6 [Ver.row x])] (some ([(1003,.arr 50 6 ((l.take i++x::l.drop i).map Ver.row))],.ow 1003 0)):=by
 refine GC_1 Tryz.func374 Tryz.ntmps374 (ReadsS.r1 Tryz.results374) λhok hokB M0 w0=>?_
 have hlm:(l.map Ver.row).length=l.length:=List.length_map ..
 have hres:(l.take i++x::l.drop i).map Ver.row=(l.map Ver.row).take i++Ver.row x::(l.map Ver.row).drop i:=by simp
 rw[hres]
 generalize l.map Ver.row=L at *
 refine Aw_sr ?_
 refine Al_mr ?_
 refine Al_ns ?_
 refine Al_ml ?_
 refine Al_ml ?_
 refine Al_p (Pu_sliceOw i L.length rfl Tryz.underlying35 Tryz.sizeOf50 rfl rfl ⟨_,rfl,rfl⟩ rfl ⟨by omega,.inl (by omega)⟩) ?_
 refine Al_ns ?_
 refine Al_ml ?_
 refine Al_p (Pu_lenOw (m:=1) rfl Tryz.underlying35 rfl rfl rfl) ?_
 refine Al_mr ?_
 refine Al_nil (Aw_seq (Aw_sr ?_))
 refine Al_ml ?_
 refine Al_p Pu_cp ?_
 refine Al_nil ?_
 refine Aw_cond rfl (λh16=>?_) (λh16=>?_)
 ·(try simp only[A.cd_]at h16)
  exfalso;revert h16;decide
 ·(try simp only[A.cd_]at h16)
  refine Aw_skip (Aw_sr ?_)
  refine Al_ml ?_
  refine Al_p (Pu_lenOw rfl Tryz.underlying35 rfl rfl rfl) ?_
  refine Al_mr ?_
  refine Al_nil (Aw_seq (Aw_sr ?_))
  refine Al_ml ?_
  refine Al_ml ?_
  refine Al_p Pu_cp ?_
  refine Al_nil ?_
  refine Aw_cond rfl (λh22=>?_) (λh22=>?_)
  ·(try simp only[A.cd_]at h22)
   refine Aw_sr ?_
   refine Al_ml ?_
   refine Al_ml ?_
   refine Al_appendOw (k2:=1002) (g2:=0) rfl rfl rfl (by decide) (by kernel_rfl) elem35 (by decide) Tryz.sizeOf50 rfl rfl rfl rfl Nat.one_pos (by simp;omega) (by decide) (λg25=>?_)
   refine Al_mr ?_
   refine Al_nil ?_
   exact Aw_ret (⟨_,_,[(1003,1001,g25)],rfl,Sub.rfl,⟨obeq (by rw[show i=L.length by omega];simp),trivial⟩,rfl⟩)
  ·(try simp only[A.cd_]at h22)
   refine Aw_skip (Aw_seq (Aw_sr ?_))
   refine Al_ml ?_
   refine Al_ml ?_
   refine Al_p Pu_ad ?_
   refine Al_ml ?_
   refine Al_cap (kt:=900) rfl rfl rfl (by decide) (by kernel_rfl) Tryz.underlying35 rfl rfl rfl (λc gt hc hcm=>?_)
   refine Al_p Pu_cp ?_
   refine Al_nil ?_
   refine Aw_cond rfl (λh31=>?_) (λh31=>?_)
   ·(try simp only[A.cd_]at h31)
    refine Aw_sr ?_
    refine Al_ml ?_
    refine Al_ml ?_
    refine Al_p (Pu_sliceOw 0 i rfl Tryz.underlying35 Tryz.sizeOf50 rfl rfl rfl ⟨_,rfl,rfl⟩ ⟨by omega,.inl (by omega)⟩) ?_
    refine Al_ml ?_
    refine Al_ml ?_
    refine Al_p Pu_ad ?_
    refine Al_ml ?_
    refine Al_p (Pu_sub rfl rfl rfl (λh1 h2=>by simp only[A.inI,A.maxI]at *;omega)) ?_
    refine Al_appendZ (zz:=L.length+1 - i) (kt:=900) (c:=c) rfl rfl rfl (by decide) (by kernel_rfl) elem35 Tryz.underlying3 Tryz.zeroValue50 (by decide) rfl (by kernel_rfl) rfl rfl rfl (by omega) (by omega) (by omega) rfl (by omega) (by omega) (by decide) (λg40=>?_) rfl
    generalize hzr:List.map AV.v _=zs
    have hz1:(L.take i++List.replicate (L.length+1 - i) zs).length=L.length+1:=by simp;omega
    refine Al_mr ?_
    refine Al_ns ?_
    refine Al_ml ?_
    refine Al_ml ?_
    refine Al_p (Pu_sliceOw i (L.take i++List.replicate (L.length+1 - i) zs).length rfl Tryz.underlying35 Tryz.sizeOf50 rfl rfl ⟨_,rfl,rfl⟩ rfl ⟨by omega,.inl (by omega)⟩) ?_
    refine Al_ml ?_
    refine Al_copy (c:=1) (L:=1) rfl rfl rfl (by decide) (by kernel_rfl) Tryz.underlying35 Tryz.sizeOf50 (by decide) rfl rfl (.inr (.inr ⟨_,_,_,rfl,rfl,rfl⟩)) (by omega) Nat.one_pos (Nat.le_refl _) (by omega) ?_
    refine Al_nil (Aw_seq ?_)
    refine Aw_dr 8 ?_
    refine Dr_ml ?_
    refine Dr_ml ?_
    refine Dr_ml ?_
    refine Dr_p Pu_ad ?_
    refine Dr_p (Pu_sliceOw (i+1) (L.length+1) rfl Tryz.underlying35 Tryz.sizeOf50 rfl rfl ⟨_,rfl,by omega⟩ (by show L.length+1=_;simp;omega) ⟨by omega,.inl (by simp;omega)⟩) ?_
    refine Dr_ml ?_
    refine Dr_ml ?_
    refine Dr_p (Pu_sliceOw i L.length rfl Tryz.underlying35 Tryz.sizeOf50 rfl rfl ⟨_,rfl,rfl⟩ rfl ⟨by omega,.inl (by omega)⟩) ?_
    refine Dr_nil ?_
    refine Al_copy (c:=L.length - i) (L:=L.length - i) (news:=L.drop i) rfl rfl rfl (by decide) (by kernel_rfl) Tryz.underlying35 Tryz.sizeOf50 (by decide) rfl rfl (.inr (.inl ⟨_,_,_,_,_,_,rfl,rfl,rfl,by rw[List.take_length]⟩)) (by omega) (by omega) (by simp) (by simp;omega) ?_
    refine Al_ns ?_
    refine Al_ml ?_
    refine Al_mr ?_
    refine Al_nil ?_
    exact Aw_ret (⟨_,_,[(1003,40,g40)],rfl,Sub.rfl,⟨obeq (ins_grow (by omega)),trivial⟩,rfl⟩)
   ·(try simp only[A.cd_]at h31)
    refine Aw_skip (Aw_sr ?_)
    refine Al_ml ?_
    refine Al_ml ?_
    refine Al_ml ?_
    refine Al_p Pu_ad ?_
    refine Al_p (Pu_sliceOw 0 (L.length+1) rfl Tryz.underlying35 Tryz.sizeOf50 rfl rfl rfl ⟨_,rfl,by omega⟩ ⟨by omega,.inr ⟨900,gt,c,rfl,by omega⟩⟩) ?_
    refine Al_mr ?_
    refine Al_nil (Aw_seq (Aw_sr ?_))
    refine Al_ml ?_
    refine Al_ml ?_
    refine Al_ml ?_
    refine Al_ml ?_
    refine Al_p Pu_ad ?_
    refine Al_p (Pu_sliceOws (i+1) (i+1) rfl Tryz.underlying35 Tryz.sizeOf50 rfl ⟨_,rfl,by omega⟩ (by omega) (by omega)) ?_
    refine Al_overlaps (tS:=35) (tR:=4) (e:=50) (λargs w=>run_callFunc_extern Tryz.func400 (by kernel_rfl) (by kernel_rfl) (by kernel_rfl) (e:=Extern.SlicesOverlaps.overlaps #[35,35] #[4]) (by kernel_rfl) args w) rfl rfl rfl (by decide) (by kernel_rfl) Tryz.underlying35 Tryz.sizeOf50 (by decide) rfl rfl Nat.one_pos rfl rfl rfl (by omega) ?_
    refine Al_p Pu_n ?_
    refine Al_nil ?_
    refine Aw_cond rfl (λh68=>?_) (λh68=>?_)
    ·(try simp only[A.cd_]at h68)
     refine Aw_seq ?_
     refine Aw_dr 8 ?_
     refine Dr_ml ?_
     refine Dr_ml ?_
     refine Dr_ml ?_
     refine Dr_p Pu_ad ?_
     refine Dr_p (Pu_sliceOws (i+1) (i+1) rfl Tryz.underlying35 Tryz.sizeOf50 rfl ⟨_,rfl,by omega⟩ (by omega) (by omega)) ?_
     refine Dr_ml ?_
     refine Dr_ml ?_
     refine Dr_p (Pu_sliceOws i i rfl Tryz.underlying35 Tryz.sizeOf50 rfl ⟨_,rfl,rfl⟩ (by omega) (by omega)) ?_
     refine Dr_nil ?_
     refine Al_copyUp (j:=0) (c:=L.length - i) (L:=L.length+1 - i) (news:=L.drop i) rfl rfl rfl (by decide) (by kernel_rfl) Tryz.underlying35 Tryz.sizeOf50 (by decide) rfl rfl (by show SV.ows 1001 0 6 0 (L.length+1)=SV.ows 1001 0 6 0 (i+1+(L.length - i));congr 1;omega) (.inr (.inl ⟨_,_,_,_,_,_,rfl,rfl,rfl,by rw[List.take_of_length_le (by omega)]⟩)) (by omega) (by omega) (by simp) (by omega) (by omega) (λg77=>?_)
     have hz2:(L.take (i+1)++(L.drop i).take (L.length - i)).length=L.length+1:=by simp;omega
     refine Al_ns ?_
     refine Al_ml ?_
     refine Al_ml ?_
     refine Al_p (Pu_sliceOw i (L.take (i+1)++(L.drop i).take (L.length - i)).length rfl Tryz.underlying35 Tryz.sizeOf50 rfl rfl ⟨_,rfl,rfl⟩ rfl ⟨by omega,.inl (by omega)⟩) ?_
     refine Al_ml ?_
     refine Al_copy (c:=1) (L:=1) rfl rfl rfl (by decide) (by kernel_rfl) Tryz.underlying35 Tryz.sizeOf50 (by decide) rfl rfl (.inr (.inr ⟨_,_,_,rfl,rfl,rfl⟩)) (by omega) Nat.one_pos (Nat.le_refl _) (by omega) ?_
     refine Al_ns ?_
     refine Al_ml ?_
     refine Al_mr ?_
     refine Al_nil ?_
     exact Aw_ret (⟨_,_,[(1003,1001,g77)],rfl,Sub.rfl,⟨obeq (ins_room (by omega)),trivial⟩,rfl⟩)
    ·(try simp only[A.cd_]at h68)
     exfalso;revert h68;decide
set_option maxRecDepth 100000 in
theorem indexV_a (l:List Ver) (f:FuncId) (caps:List AV) (p:Ver→Bool) (hf:∀x,ACall Tryz.prog f ([.row x.row]++caps) (bv (p x))):ACall Tryz.prog 247 [.sl 6 (l.map Ver.row),.fn f caps] (iv (S.find p l)):=by
 refine AC_1 Tryz.func247 Tryz.ntmps247 Tryz.results247 λhok M0 w0 hnl=>?_
 have hlen:=(hok _ (List.mem_cons_self ..)).len
 rw[List.length_map]at hlen
 refine Aw_sr ?_
 refine Al_mr ?_
 refine Al_nil (Aw_seq (Aw_sr ?_))
 refine Al_ml ?_
 refine Al_p (Pu_ln Tryz.underlying35) ?_
 refine Al_ml ?_
 refine Al_nil (Aw_block ?_)
 refine Aw_loopk (ι:=Nat) [0,1,7] [] (λk=>[(8,.d (iv k))]) (λk=>[]) (λk=>k≤l.length∧∀j (h:j<l.length),j<k→p l[j]=false) (λk=>l.length - k) (0) (⟨Nat.zero_le _,by intros;omega⟩) ⟨Sub.rfl,trivial⟩ trivial ?_
 rintro k ⟨hk0,hk2⟩
 refine Aw_sr ?_
 refine Al_p Pu_cp ?_
 refine Al_nil (Aw_seq ?_)
 refine Aw_cond rfl (λh9=>?_) (λh9=>?_)
 ·(try simp only[A.cd_]at h9)
  have hk:k<l.length:=by omega
  refine Aw_skip (Aw_seq (Aw_block (Aw_sr ?_)))
  refine Al_ml ?_
  refine Al_mr ?_
  refine Al_ns ?_
  refine Al_ml ?_
  refine Al_ml ?_
  refine Al_ml ?_
  refine Al_p (Pu_index rfl Tryz.underlying35 Tryz.sizeOf50 rfl rfl (rfl) (mapget hk)) ?_
  refine Al_p (Pu_lN Tryz.isAgg50 Tryz.sizeOf50) ?_
  refine Al_p (Pu_callv (aa:=[(λx=>.row x.row) l[k]]) (caps:=caps) (hf l[k]) rfl rfl ⟨Sub.rfl,trivial⟩) ?_
  refine Al_nil ?_
  refine Aw_cond rfl (λh16=>?_) (λh16=>?_)
  ·skip
   refine Aw_sr ?_
   refine Al_ml ?_
   refine Al_mr ?_
   refine Al_nil ?_
   exact Aw_ret (Sub.num (S.find_at hk h16 hk2))
  ·skip
   have h16':p l[k]=false:=h16
   refine Aw_skip (Aw_region ?_)
   refine Al_p Pu_ad ?_
   refine Al_ml ?_
   refine Al_nil ?_
   exact⟨k+1,⟨by omega,λj hj hjk=>by
    by_cases e:j=k
    ·subst e;exact h16'
    ·exact hk2 j hj (by omega)⟩,by omega,Le.ov ⟨Sub.num (by omega),trivial⟩ ⟨Sub.rfl,Sub.rfl,Sub.rfl,trivial⟩ trivial trivial⟩
 ·(try simp only[A.cd_]at h9)
  obtain rfl:k=l.length:=by omega
  refine Aw_exit (Aw_sr ?_)
  refine Al_mr ?_
  refine Al_nil ?_
  exact Aw_ret (Sub.num (S.find_no hk2))
abbrev verA (o:Option Ver):AV:=.tup [.row (o.getD default).row,bv o.isSome]
namespace J
def notB (n s:Int) (v:Ver):Bool:=!D.lessB v.n v.s n s
def frm (l:List Ver) (n s:Int):Nat:=l.findIdx (notB n s)
theorem frm_le (l:List Ver) (n s:Int):frm l n s≤l.length:=List.findIdx_le_length
def told (l:List Ver) (i:Int):Option Ver:=if 0≤i∧i<l.length then l[i.toNat]? else none
def head (l:List Ver):Option Ver:=told l ((l.length:Int) - 1)
def isSt (n s:Int) (v:Ver):Bool:=(v.n==n)&&(v.s==s)
def atc (l:List Ver) (n s:Int):Option Ver:=(l[frm l n s]?).filter (isSt n s)
def below (l:List Ver) (n s:Int):Option Ver:=match atc l n s with
 | some v=>some v
 | none=>told l ((frm l n s:Int) - 1)
def isO (o:Option Ver) (v:Ver):Bool:=o.isSome&&decide (o.getD default=v)
def keeps (l:List Ver) (n s:Int) (pins:List (Int×Int)) (v:Ver):Bool:=pins.any (λp=>(v.n==p.1)&&(v.s==p.2))||!D.lessB v.n v.s n s||isO (head l) v||isO (below l n s) v
def clean (l:List Ver) (n s:Int) (pins:List (Int×Int)):List Ver:=l.filter (keeps l n s pins)
def put (l:List Ver) (v:Ver):Option (List Ver):=if checkB v=true∧(∀x,l[0]?=some x→x.key.toList=v.key.toList)∧(∀x,l[frm l v.n v.s]?=some x→isSt v.n v.s x=false)then some (l.take (frm l v.n v.s)++v::l.drop (frm l v.n v.s))else none
theorem find_frm (l:List Ver) (n s:Int):(S.find (notB n s) l<0∧frm l n s=l.length)∨S.find (notB n s) l=frm l n s:=by
 unfold S.find frm
 split
 ·exact .inr rfl
 ·rename_i h
  refine .inl ⟨by omega,?_⟩
  apply Nat.le_antisymm List.findIdx_le_length
  rw[Nat.le_iff_lt_or_eq]
  refine .inr (List.findIdx_eq_length.2 ?_).symm
  intro x hx
  cases hp:notB n s x with
  | false=>rfl
  | true=>exact(h (List.any_eq_true.2 ⟨x,hx,hp⟩)).elim
theorem told_at {l:List Ver}{i:Nat}(hi:i<l.length):told l i=some l[i]:=by
 unfold told
 rw[if_pos ⟨by omega,by omega⟩,Int.toNat_natCast,List.getElem?_eq_getElem hi]
theorem told_no {l:List Ver}{i:Int}(hi:i<0∨l.length≤i):told l i=none:=if_neg (by omega)
end J
set_option maxRecDepth 100000 in
theorem cfrom1_a (v:Ver) (n s:Int):ACall Tryz.prog 399 [.row v.row,.fp [iv n,iv s]] (bv (J.notB n s v)):=by
 refine AC_1 Tryz.func399 Tryz.ntmps399 Tryz.results399 λhok M0 w0 hnl=>?_
 refine Aw_sr ?_
 refine Al_p Pu_bN ?_
 refine Al_mr ?_
 refine Al_ns ?_
 refine Al_p (Pu_fd 3 Tryz.underlying50 Tryz.sizeOf47) ?_
 refine Al_p (Pu_lN Tryz.isAgg47 Tryz.sizeOf47) ?_
 refine Al_p (Pu_lN Tryz.isAgg47 Tryz.sizeOf47) ?_
 refine Al_p (Pu_call (less_a _ _ _ _) rfl ⟨Sub.rfl,Sub.rfl,trivial⟩) ?_
 refine Al_p Pu_n ?_
 refine Al_mr ?_
 refine Al_nil ?_
 exact Aw_ret (Sub.rfl)
theorem cfrom_a (l:List Ver) (n s:Int):ACall Tryz.prog 373 [versA l,.row [iv n,iv s]] (iv (J.frm l n s:Nat)):=by
 refine AC_1 Tryz.func373 Tryz.ntmps373 Tryz.results373 λhok M0 w0 hnl=>?_
 have hlen:=(hok _ (List.mem_cons_self ..)).len
 rw[List.length_map]at hlen
 have hix:=indexV_a l 399 [.fp [iv n,iv s]] (J.notB n s) λv=>cfrom1_a v n s
 refine Aw_sr ?_
 refine Al_p Pu_bN ?_
 refine Al_mr ?_
 refine Al_ns ?_
 refine Al_ml ?_
 refine Al_p (Pu_makeFunc (caps:=[_]) rfl ⟨Sub.rfl,trivial⟩) ?_
 refine Al_p (Pu_call (hix) rfl ⟨Sub.rfl,Sub.rfl,trivial⟩) ?_
 refine Al_mr ?_
 refine Al_nil (Aw_seq (Aw_sr ?_))
 refine Al_ml ?_
 refine Al_p Pu_cp ?_
 refine Al_nil ?_
 refine Aw_cond rfl (λh10=>?_) (λh10=>?_)
 ·(try simp only[A.cd_]at h10)
  refine Aw_sr ?_
  refine Al_ml ?_
  refine Al_p (Pu_ln Tryz.underlying35) ?_
  refine Al_mr ?_
  refine Al_nil ?_
  exact Aw_ret (Sub.num (by rcases J.find_frm l n s with h|h<;>omega))
 ·(try simp only[A.cd_]at h10)
  refine Aw_skip (Aw_sr ?_)
  refine Al_ml ?_
  refine Al_mr ?_
  refine Al_nil ?_
  exact Aw_ret (Sub.num (by rcases J.find_frm l n s with h|h<;>omega))
set_option maxRecDepth 100000 in
theorem ctold_a (l:List Ver) (i:Int):ACall Tryz.prog 346 [versA l,iv i] (verA (J.told l i)):=by
 refine AC_G Tryz.func346 Tryz.ntmps346 (Reads.cN1 Tryz.results346 Tryz.isAgg50 Tryz.sizeOf50) λhok M0 w0 hnl=>?_
 have hlen:=(hok _ (List.mem_cons_self ..)).len
 rw[List.length_map]at hlen
 refine Aw_sr ?_
 refine Al_al Tryz.zeroValue50 λg4=>?_
 refine Al_mr ?_
 refine Al_nil (Aw_seq (Aw_sr ?_))
 refine Al_ml ?_
 refine Al_p Pu_cp ?_
 refine Al_ml ?_
 refine Al_s (St_g [] trivial (λ_=>Pu_mvl)) ?_
 refine Al_s (St_g [] trivial (λ_=>Pu_mvl)) ?_
 refine Al_s (St_g [10] ⟨⟨_,rfl⟩,trivial⟩ (λ_=>Pu_ln Tryz.underlying35)) ?_
 refine Al_s (St_g [9,11] ⟨⟨_,rfl⟩,⟨_,rfl⟩,trivial⟩ (λ_=>Pu_cp)) ?_
 refine Al_p Pu_o ?_
 refine Al_nil ?_
 refine Aw_cond rfl (λh13=>?_) (λh13=>?_)
 ·(try simp only[A.cd_]at h13)
  refine Aw_sr ?_
  refine Al_p (Pu_build (aa:=[]) rfl Tryz.underlying50 Tryz.zeroValue50 places50 (by kernel_rfl) trivial rfl) ?_
  refine Al_sN Tryz.isAgg50 Tryz.sizeOf50 ?_
  refine Al_mr ?_
  refine Al_nil ?_
  refine Aw_boxle (k:=4) ((default:Ver).row.map .d) rfl ⟨Sub.rfl,Sub.rfl,Sub.rfl,Sub.rfl,Sub.rfl,Sub.nil,trivial⟩ ?_
  exact Aw_ret (⟨_,_,_,_,_,[_,_,_,_,_,_],_,rfl,rfl,rfl,rfl,Sub.rfl,by rw[J.told_no (by omega)];rfl⟩)
 ·(try simp only[A.cd_]at h13)
  obtain⟨k,rfl⟩:∃k:Nat,i=k:=⟨i.toNat,by omega⟩
  have hk:k<l.length:=by omega
  refine Aw_skip (Aw_sr ?_)
  refine Al_ml ?_
  refine Al_ml ?_
  refine Al_p (Pu_index rfl Tryz.underlying35 Tryz.sizeOf50 rfl rfl (rfl) (mapgetD (d:=default) hk)) ?_
  refine Al_p (Pu_lN Tryz.isAgg50 Tryz.sizeOf50) ?_
  refine Al_sN Tryz.isAgg50 Tryz.sizeOf50 ?_
  refine Al_mr ?_
  refine Al_nil ?_
  refine Aw_ret ?_
  exact⟨_,_,_,_,_,[_,_,_,_,_,_],_,rfl,rfl,rfl,rfl,Sub.rfl,by
   rw[J.told_at hk,show l[k]=l.getD k default from by simp[hk]];rfl⟩
set_option maxRecDepth 100000 in
theorem chead_a (l:List Ver):ACall Tryz.prog 275 [versA l] (verA (J.head l)):=by
 refine AC_G Tryz.func275 Tryz.ntmps275 (Reads.cN1 Tryz.results275 Tryz.isAgg50 Tryz.sizeOf50) λhok M0 w0 hnl=>?_
 have hlen:=(hok _ (List.mem_cons_self ..)).len
 rw[List.length_map]at hlen
 refine Aw_sr ?_
 refine Al_al Tryz.zeroValue50 λg2=>?_
 refine Al_mr ?_
 refine Al_ns ?_
 refine Al_ml ?_
 refine Al_ml ?_
 refine Al_p (Pu_ln Tryz.underlying35) ?_
 refine Al_p (Pu_sub rfl rfl rfl (λh1 h2=>by simp only[A.inI,A.maxI]at *;omega)) ?_
 refine Al_p (Pu_call (ctold_a l _) rfl ⟨Sub.rfl,Sub.rfl,trivial⟩) ?_
 refine Al_p Pu_ex ?_
 refine Al_p Pu_ex ?_
 refine Al_sN Tryz.isAgg50 Tryz.sizeOf50 ?_
 refine Al_mr ?_
 refine Al_nil ?_
 exact Aw_ret (⟨_,_,_,_,_,[_,_,_,_,_,_],_,rfl,rfl,rfl,rfl,Sub.rfl,rfl⟩)
set_option maxRecDepth 100000 in
theorem cat_a (l:List Ver) (n s:Int):ACall Tryz.prog 393 [versA l,.row [iv n,iv s]] (verA (J.atc l n s)):=by
 refine AC_G Tryz.func393 Tryz.ntmps393 (Reads.cN1 Tryz.results393 Tryz.isAgg50 Tryz.sizeOf50) λhok M0 w0 hnl=>?_
 refine Aw_sr ?_
 refine Al_p Pu_bN ?_
 refine Al_al Tryz.zeroValue50 λg4=>?_
 refine Al_mr ?_
 refine Al_ns ?_
 refine Al_ml ?_
 refine Al_ml ?_
 refine Al_p (Pu_lN Tryz.isAgg47 Tryz.sizeOf47) ?_
 refine Al_p (Pu_call (cfrom_a l n s) rfl ⟨Sub.rfl,Sub.rfl,trivial⟩) ?_
 refine Al_p (Pu_call (ctold_a l _) rfl ⟨Sub.rfl,Sub.rfl,trivial⟩) ?_
 refine Al_ml ?_
 refine Al_p Pu_ex ?_
 refine Al_p Pu_ex ?_
 refine Al_al Tryz.zeroValue50 λg6=>?_
 refine Al_sN Tryz.isAgg50 Tryz.sizeOf50 ?_
 refine Al_mr ?_
 refine Al_nil (Aw_seq (Aw_sr ?_))
 refine Al_ml ?_
 refine Al_p Pu_n ?_
 refine Al_ml ?_
 refine Al_s (St_g [] trivial (λ_=>Pu_fb 3 Tryz.underlying50 Tryz.sizeOf47)) ?_
 refine Al_s (St_g [19] ⟨⟨_,rfl⟩,trivial⟩ (λ_=>Pu_lbN (r:=[_,_]) Tryz.isAgg47 Tryz.sizeOf47)) ?_
 refine Al_s (St_g [] trivial (λ_=>Pu_lN Tryz.isAgg47 Tryz.sizeOf47)) ?_
 refine Al_s (St_g [20,21] ⟨⟨_,rfl⟩,⟨_,rfl⟩,trivial⟩ (λ_=>Pu_eqrow [.int .i64 _,.int .i64 _] [.int .i64 _,.int .i64 _] (λw=>nev47 _ _ _ _ _ _ w) rfl rfl rfl)) ?_
 refine Al_p Pu_o ?_
 refine Al_nil ?_
 refine Aw_cond rfl (λh23=>?_) (λh23=>?_)
 ·skip
  have hno:J.atc l n s=none:=by
   unfold J.atc
   rcases Nat.lt_or_ge (J.frm l n s) l.length with h|h
   ·rw[J.told_at h]at h23
    rw[List.getElem?_eq_getElem h,Option.filter_some]
    simp only[Option.isSome_some,Option.getD_some,Bool.not_true,Bool.false_or,Bool.not_eq_true']at h23
    rw[if_neg (by unfold J.isSt;rw[h23];decide)]
   ·rw[List.getElem?_eq_none h];rfl
  refine Aw_sr ?_
  refine Al_p (Pu_build (aa:=[]) rfl Tryz.underlying50 Tryz.zeroValue50 places50 (by kernel_rfl) trivial rfl) ?_
  refine Al_sN Tryz.isAgg50 Tryz.sizeOf50 ?_
  refine Al_mr ?_
  refine Al_nil ?_
  refine Aw_boxle (k:=4) ((default:Ver).row.map .d) rfl ⟨Sub.rfl,Sub.rfl,Sub.rfl,Sub.rfl,Sub.rfl,Sub.nil,trivial⟩ ?_
  exact Aw_ret (⟨_,_,_,_,_,[_,_,_,_,_,_],_,rfl,rfl,rfl,rfl,Sub.rfl,by rw[hno];rfl⟩)
 ·skip
  have hyes:J.atc l n s=J.told l (J.frm l n s:Nat):=by
   unfold J.atc
   rcases Nat.lt_or_ge (J.frm l n s) l.length with h|h
   ·rw[J.told_at h]at h23 ⊢
    rw[List.getElem?_eq_getElem h,Option.filter_some]
    simp only[Option.isSome_some,Option.getD_some,Bool.not_true,Bool.false_or,Bool.not_eq_false']at h23
    rw[if_pos (by unfold J.isSt;rw[h23])]
   ·rw[J.told_no (.inr (by omega)),List.getElem?_eq_none h];rfl
  have hsm:(J.told l (J.frm l n s:Nat)).isSome=true:=by
   cases h:(J.told l (J.frm l n s:Nat)).isSome with
   | true=>rfl
   | false=>rw[h]at h23;simp at h23
  refine Aw_skip (Aw_sr ?_)
  refine Al_p (Pu_lbN (r:=[_,_,_,_,_,_]) Tryz.isAgg50 Tryz.sizeOf50) ?_
  refine Al_sN Tryz.isAgg50 Tryz.sizeOf50 ?_
  refine Al_mr ?_
  refine Al_nil ?_
  exact Aw_ret (⟨_,_,_,_,_,[_,_,_,_,_,_],_,rfl,rfl,rfl,rfl,Sub.rfl,by rw[hyes,verA,hsm];rfl⟩)
set_option maxRecDepth 100000 in
set_option maxHeartbeats 1000000 in
theorem cput_a (l:List Ver) (v:Ver) (hl:l.length≤1000):ACall Tryz.prog 351 [versA l,.row v.row] (.tup [versA ((J.put l v).getD l),bv (J.put l v).isSome]):=by
 refine AC_2 Tryz.func351 Tryz.ntmps351 Tryz.results351 λhok M0 w0 hnl=>?_
 have hfl:=J.frm_le l v.n v.s
 refine Aw_sr ?_
 refine Al_p Pu_bN ?_
 refine Al_mr ?_
 refine Al_mr ?_
 refine Al_ns ?_
 refine Al_ml ?_
 refine Al_p (Pu_fd 3 Tryz.underlying50 Tryz.sizeOf47) ?_
 refine Al_p (Pu_lN Tryz.isAgg47 Tryz.sizeOf47) ?_
 refine Al_p (Pu_call (cfrom_a l v.n v.s) rfl ⟨Sub.rfl,Sub.rfl,trivial⟩) ?_
 refine Al_mr ?_
 refine Al_nil (Aw_seq (Aw_seq ?_))
 refine Aw_dr 33 ?_
 refine Dr_p (Pu_lN Tryz.isAgg50 Tryz.sizeOf50) ?_
 refine Dr_p (Pu_call (wcheck_a v) rfl ⟨Sub.rfl,trivial⟩) ?_
 refine Dr_p Pu_n ?_
 refine Dr_ml ?_
 refine Dr_s (St_g [] trivial (λ_=>Pu_mvl)) ?_
 refine Dr_s (St_g [15] ⟨⟨_,rfl⟩,trivial⟩ (λ_=>Pu_ln Tryz.underlying35)) ?_
 refine Dr_s (St_g [16] ⟨⟨_,rfl⟩,trivial⟩ (λ_=>Pu_cp)) ?_
 refine Dr_s (St_g [17] ⟨⟨_,rfl⟩,trivial⟩ (λ_=>Pu_mvl)) ?_
 refine Dr_s (St_gd2 [] rfl rfl rfl rfl trivial (λhp19 hg19=>Pu_mvl)) ?_
 refine Dr_s (St_gd2 [19] rfl rfl rfl rfl ⟨⟨_,rfl⟩,trivial⟩ (λhp20 hg20=>by exact Pu_index rfl Tryz.underlying35 Tryz.sizeOf50 rfl rfl (rfl) (mapgetD (d:=default) (show 0<l.length from by have:=of_decide_eq_true hg20;omega)))) ?_
 refine Dr_s (St_gd2 [20] rfl rfl rfl rfl ⟨⟨_,rfl⟩,trivial⟩ (λhp21 hg21=>Pu_fd 0 Tryz.underlying50 Tryz.sizeOf9)) ?_
 refine Dr_s (St_gd2 [21] rfl rfl rfl rfl ⟨⟨_,rfl⟩,trivial⟩ (λhp22 hg22=>Pu_l1 Tryz.isAgg9)) ?_
 refine Dr_s (St_gd2 [] rfl rfl rfl rfl trivial (λhp23 hg23=>Pu_fd 0 Tryz.underlying50 Tryz.sizeOf9)) ?_
 refine Dr_s (St_gd2 [23] rfl rfl rfl rfl ⟨⟨_,rfl⟩,trivial⟩ (λhp24 hg24=>Pu_l1 Tryz.isAgg9)) ?_
 refine Dr_s (St_gd2 [22,24] rfl rfl rfl rfl ⟨⟨_,rfl⟩,⟨_,rfl⟩,trivial⟩ (λhp25 hg25=>Pu_sr)) ?_
 refine Dr_s (St_g [18] ⟨⟨_,rfl⟩,trivial⟩ (λhg26=>Pu_andG rfl rfl (λh=>⟨hg26,h⟩) rfl rfl)) ?_
 refine Dr_p Pu_o ?_
 refine Dr_ml ?_
 refine Dr_s (St_g [] trivial (λ_=>Pu_mvl)) ?_
 refine Dr_s (St_g [] trivial (λ_=>Pu_mvl)) ?_
 refine Dr_s (St_g [30] ⟨⟨_,rfl⟩,trivial⟩ (λ_=>Pu_ln Tryz.underlying35)) ?_
 refine Dr_s (St_g [29,31] ⟨⟨_,rfl⟩,⟨_,rfl⟩,trivial⟩ (λ_=>Pu_cp)) ?_
 refine Dr_s (St_g [32] ⟨⟨_,rfl⟩,trivial⟩ (λ_=>Pu_mvl)) ?_
 refine Dr_s (St_gd2 [] rfl rfl rfl rfl trivial (λhp34 hg34=>Pu_mvl)) ?_
 refine Dr_s (St_gd2 [] rfl rfl rfl rfl trivial (λhp35 hg35=>Pu_mvl)) ?_
 refine Dr_s (St_gd2 [34,35] rfl rfl rfl rfl ⟨⟨_,rfl⟩,⟨_,rfl⟩,trivial⟩ (λhp36 hg36=>by exact Pu_index rfl Tryz.underlying35 Tryz.sizeOf50 rfl rfl (rfl) (mapgetD (d:=default) (show J.frm l v.n v.s<l.length from by have:=of_decide_eq_true hg36;omega)))) ?_
 refine Dr_s (St_gd2 [36] rfl rfl rfl rfl ⟨⟨_,rfl⟩,trivial⟩ (λhp37 hg37=>Pu_fd 3 Tryz.underlying50 Tryz.sizeOf47)) ?_
 refine Dr_s (St_gd2 [37] rfl rfl rfl rfl ⟨⟨_,rfl⟩,trivial⟩ (λhp38 hg38=>Pu_lN Tryz.isAgg47 Tryz.sizeOf47)) ?_
 refine Dr_s (St_gd2 [] rfl rfl rfl rfl trivial (λhp39 hg39=>Pu_fd 3 Tryz.underlying50 Tryz.sizeOf47)) ?_
 refine Dr_s (St_gd2 [39] rfl rfl rfl rfl ⟨⟨_,rfl⟩,trivial⟩ (λhp40 hg40=>Pu_lN Tryz.isAgg47 Tryz.sizeOf47)) ?_
 refine Dr_s (St_gd2 [38,40] rfl rfl rfl rfl ⟨⟨_,rfl⟩,⟨_,rfl⟩,trivial⟩ (λhp41 hg41=>Pu_eqrow [.int .i64 _,.int .i64 _] [.int .i64 _,.int .i64 _] (λw=>eqv47 _ _ _ _ _ _ w) rfl rfl rfl)) ?_
 refine Dr_s (St_g [33] ⟨⟨_,rfl⟩,trivial⟩ (λhg42=>Pu_andG rfl rfl (λh=>⟨hg42,h⟩) rfl rfl)) ?_
 refine Dr_p Pu_o ?_
 refine Dr_nil (Al_nil ?_)
 refine Aw_cond rfl (λh43=>?_) (λh43=>?_)
 ·skip
  have hno:J.put l v=none:=by
   unfold J.put
   rw[if_neg]
   rintro⟨h1,h2,h3⟩
   simp only[h1,Bool.not_true,Bool.false_or,Bool.or_eq_true,Bool.and_eq_true,decide_eq_true_eq,Bool.not_eq_true']at h43
   rcases h43 with⟨h4,h5⟩|⟨h4,h5⟩
   ·have h6:0<l.length:=by omega
    have:=h2 _ (List.getElem?_eq_getElem h6)
    rw[show l.getD 0 default=l[0]from by simp[h6]]at h5
    simp[this]at h5
   ·have h6:J.frm l v.n v.s<l.length:=by omega
    have:=h3 _ (List.getElem?_eq_getElem h6)
    unfold J.isSt at this
    rw[show l.getD (J.frm l v.n v.s) default=l[J.frm l v.n v.s]from by simp[h6]]at h5
    rw[Bool.and_eq_false_iff]at this
    simp only[beq_iff_eq]at h5
    rcases this with h|h<;>simp[h5]at h
  refine Aw_sr ?_
  refine Al_ml ?_
  refine Al_mr ?_
  refine Al_mr ?_
  refine Al_nil ?_
  exact Aw_ret (⟨Sub.d (by rw[hno];rfl),Sub.bool (by rw[hno];rfl)⟩)
 ·skip
  have hyes:J.put l v=some (l.take (J.frm l v.n v.s)++v::l.drop (J.frm l v.n v.s)):=by
   unfold J.put
   simp only[Bool.or_eq_false_iff,Bool.not_eq_false',Bool.and_eq_false_iff,decide_eq_false_iff_not]at h43
   obtain⟨⟨h1,h2⟩,h3⟩:=h43
   refine if_pos ⟨h1,λx hx=>?_,λx hx=>?_⟩
   ·obtain⟨h6,rfl⟩:=List.getElem?_eq_some_iff.1 hx
    rcases h2 with h|h
    ·omega
    ·rw[show l.getD 0 default=l[0]from by simp[h6]]at h
     simpa using h
   ·obtain⟨h6,rfl⟩:=List.getElem?_eq_some_iff.1 hx
    rcases h3 with h|h
    ·omega
    ·rw[show l.getD (J.frm l v.n v.s) default=l[J.frm l v.n v.s]from by simp[h6]]at h
     unfold J.isSt
     rw[Bool.and_eq_false_iff]
     exact h
  refine Aw_skip ?_
  refine Aw_seq ?_
  refine Aw_drawn (by kernel_rfl) ?_
  refine Ad_t 0 rfl (PuI_move (.inl rfl) (by conv=>lhs;whnf)) ?_
  refine Ad_t 2 rfl (PuI_move (.inl rfl) (by conv=>lhs;whnf)) ?_
  refine Ad_two 1 3 rfl rfl (by kernel_rfl) ?_ ?_
  ·refine Al_gcall [] [(1001,46)] (cloneV_g l (by omega)) rfl rfl rfl (by decide) (by kernel_rfl) trivial rfl ⟨Sub.rfl,trivial⟩ (λg46=>?_)
   refine Al_nil ?_
   refine Ad_o 3 ?_
   refine Al_p (Pu_lN Tryz.isAgg50 Tryz.sizeOf50) ?_
   refine Al_nil ?_
   refine Ad_o 4 ?_
   refine Al_sliceLit (aa:=[(0,_)]) (rows:=[v.row]) rfl rfl rfl (by decide) (by kernel_rfl) Tryz.underlying35 Tryz.sizeOf50 Tryz.zeroValue50 rfl (by decide) (by decide) (by decide) (by kernel_rfl) ⟨rfl,rfl,rfl,trivial⟩ (rfl) rfl rfl (λg49=>?_)
   refine Al_nil ?_
   refine Ad_o 5 ?_
   refine Al_gcall [(1001,46,g46),(1002,49,g49)] [(1003,50)] (insertV_g l v (J.frm l v.n v.s) hfl (by omega)) rfl rfl rfl (by decide) (by kernel_rfl) ⟨rfl,rfl,trivial⟩ rfl ⟨Sub.rfl,Sub.rfl,Sub.rfl,trivial⟩ (λg50=>?_)
   refine Al_nil ?_
   refine Ad_t 6 rfl (PuI_move (.inr rfl) (by conv=>lhs;whnf)) ?_
   refine Ad_t 7 rfl (PuI_move (.inr rfl) (by conv=>lhs;whnf)) ?_
   refine Ad_d ?_
   refine Aw_frz hnl (k:=50) [4] rfl ⟨rfl,trivial⟩ ?_
   exact Aw_ret (⟨Sub.d (by rw[hyes];rfl),Sub.bool (by rw[hyes];rfl)⟩)
  ·refine Al_p (Pu_lN Tryz.isAgg50 Tryz.sizeOf50) ?_
   refine Al_nil ?_
   refine Ad_two 1 4 rfl rfl (by kernel_rfl) ?_ ?_
   ·refine Al_gcall [] [(1001,46)] (cloneV_g l (by omega)) rfl rfl rfl (by decide) (by kernel_rfl) trivial rfl ⟨Sub.rfl,trivial⟩ (λg46=>?_)
    refine Al_nil ?_
    refine Ad_o 4 ?_
    refine Al_sliceLit (aa:=[(0,_)]) (rows:=[v.row]) rfl rfl rfl (by decide) (by kernel_rfl) Tryz.underlying35 Tryz.sizeOf50 Tryz.zeroValue50 rfl (by decide) (by decide) (by decide) (by kernel_rfl) ⟨rfl,rfl,rfl,trivial⟩ (rfl) rfl rfl (λg49=>?_)
    refine Al_nil ?_
    refine Ad_o 5 ?_
    refine Al_gcall [(1001,46,g46),(1002,49,g49)] [(1003,50)] (insertV_g l v (J.frm l v.n v.s) hfl (by omega)) rfl rfl rfl (by decide) (by kernel_rfl) ⟨rfl,rfl,trivial⟩ rfl ⟨Sub.rfl,Sub.rfl,Sub.rfl,trivial⟩ (λg50=>?_)
    refine Al_nil ?_
    refine Ad_t 6 rfl (PuI_move (.inr rfl) (by conv=>lhs;whnf)) ?_
    refine Ad_t 7 rfl (PuI_move (.inr rfl) (by conv=>lhs;whnf)) ?_
    refine Ad_d ?_
    refine Aw_frz hnl (k:=50) [4] rfl ⟨rfl,trivial⟩ ?_
    exact Aw_ret (⟨Sub.d (by rw[hyes];rfl),Sub.bool (by rw[hyes];rfl)⟩)
   ·refine Al_sliceLit (aa:=[(0,_)]) (rows:=[v.row]) rfl rfl rfl (by decide) (by kernel_rfl) Tryz.underlying35 Tryz.sizeOf50 Tryz.zeroValue50 rfl (by decide) (by decide) (by decide) (by kernel_rfl) ⟨rfl,rfl,rfl,trivial⟩ (rfl) rfl rfl (λg49=>?_)
    refine Al_nil ?_
    refine Ad_o 1 ?_
    refine Al_gcall [] [(1001,46)] (cloneV_g l (by omega)) rfl rfl rfl (by decide) (by kernel_rfl) trivial rfl ⟨Sub.rfl,trivial⟩ (λg46=>?_)
    refine Al_nil ?_
    refine Ad_o 5 ?_
    refine Al_gcall [(1001,46,g46),(1002,49,g49)] [(1003,50)] (insertV_g l v (J.frm l v.n v.s) hfl (by omega)) rfl rfl rfl (by decide) (by kernel_rfl) ⟨rfl,rfl,trivial⟩ rfl ⟨Sub.rfl,Sub.rfl,Sub.rfl,trivial⟩ (λg50=>?_)
    refine Al_nil ?_
    refine Ad_t 6 rfl (PuI_move (.inr rfl) (by conv=>lhs;whnf)) ?_
    refine Ad_t 7 rfl (PuI_move (.inr rfl) (by conv=>lhs;whnf)) ?_
    refine Ad_d ?_
    refine Aw_frz hnl (k:=50) [4] rfl ⟨rfl,trivial⟩ ?_
    exact Aw_ret (⟨Sub.d (by rw[hyes];rfl),Sub.bool (by rw[hyes];rfl)⟩)
end Go.Proofs.YtdnijgdmohinlaaGreat
end
section
namespace Go.Proofs
open Go.RowKit Go.Maps Go.Sort Go.Shelf
def Tryz.sorted_ren:Go.Shelf.Ren:=⟨fun|6=>240|8=>312|11=>361|9=>313|n=>n,fun|0=>0|24=>39|26=>9|28=>302|33=>186|n=>n,fun|n=>n⟩
theorem Tryz.sorted_lays:SlLaysZ.n6 Tryz.prog Tryz.sorted_ren:={
 mixed:=by kernel_rfl
 f6:=⟨Tryz.f240.name,by kernel_rfl,Tryz.func240.trans (congrArg some (by kernel_rfl))⟩
 f8:=⟨Tryz.f312.name,by kernel_rfl,Tryz.func312.trans (congrArg some (by kernel_rfl))⟩
 f11:=⟨Tryz.f361.name,by kernel_rfl,Tryz.func361.trans (congrArg some (by kernel_rfl))⟩
 t0:=Tryz.underlying0
 a0:=Tryz.isAgg0
 z0:=Tryz.sizeOf0
 v0:=Tryz.zeroValue0
 t24:=Tryz.underlying39
 a24:=Tryz.isAgg39
 z24:=Tryz.sizeOf39
 v24:=Tryz.zeroValue39
 t26:=Tryz.underlying9
 a26:=Tryz.isAgg9
 z26:=Tryz.sizeOf9
 v26:=Tryz.zeroValue9
 t28:=Tryz.underlying302
 a28:=Tryz.isAgg302
 z28:=Tryz.sizeOf302
 v28:=Tryz.zeroValue302
 i26:=by kernel_rfl}
theorem Tryz.sorts_in (m:Nat):AnyZ.SortsIn Tryz.prog Tryz.sorted_ren Fence.wide m :=
 ⟨λblk off cap ss W hH hblk hsz=>callsIn_wide.2 (Tryz.slices_Sort_string blk off cap ss W hH hblk hsz),
  λp cap W=>callsIn_wide.2 (Tryz.slices_Sort_string_none p cap W)⟩
end Go.Proofs
namespace Go.Proofs.YtdnijgdmohinlaaGreat
open Go Go.RowKit Go.Maps Go.Sort Go.Shelf A R
abbrev keyS (s:ByteArray):Value:=.string s
abbrev okS (s:ByteArray):Prop:=s.size≤A.maxI
theorem keyS_T:KeyT Tryz.prog 9 ByteArray keyS okS:=KeyT.of (Maps.string_keyed Tryz.underlying9) (λa ha=>⟨_,Go.WideMaps.keyOf_string_mk Tryz.underlying9 ha⟩) λa b h=>by cases h;rfl
def Rise (ks:List ByteArray):Prop:=ks.Pairwise λa b=>Op.bytesLess a.toList b.toList=true
theorem enc_flat:∀(ks:List ByteArray),(ks.map (·.data.toList)).map encStr=(ks.map λs=>[Value.string s]).flatten
 | []=>rfl
 | a::r=>by simp only[List.map_cons,List.flatten_cons];rw[enc_flat r];rfl
def Tryz.keysV_ren:Go.Shelf.Ren:=⟨fun|7=>274|10=>345|n=>n,fun|0=>0|3=>35|4=>4|23=>236|26=>9|27=>301|28=>302|33=>186|n=>n,fun|n=>n⟩
theorem Tryz.keysV:SlLaysZ.n7 Tryz.prog Tryz.keysV_ren:={
 mixed:=by kernel_rfl
 f7:=⟨Tryz.f274.name,by kernel_rfl,Tryz.func274.trans (congrArg some (by kernel_rfl))⟩
 f10:=⟨Tryz.f345.name,by kernel_rfl,Tryz.func345.trans (congrArg some (by kernel_rfl))⟩
 t0:=Tryz.underlying0
 a0:=Tryz.isAgg0
 z0:=Tryz.sizeOf0
 v0:=Tryz.zeroValue0
 t4:=Tryz.underlying4
 a4:=Tryz.isAgg4
 z4:=Tryz.sizeOf4
 v4:=Tryz.zeroValue4
 t23:=Tryz.underlying236
 a23:=Tryz.isAgg236
 z23:=Tryz.sizeOf236
 v23:=Tryz.zeroValue236
 t26:=Tryz.underlying9
 a26:=Tryz.isAgg9
 z26:=Tryz.sizeOf9
 v26:=Tryz.zeroValue9
 t27:=Tryz.underlying301
 a27:=Tryz.isAgg301
 z27:=Tryz.sizeOf301
 v27:=Tryz.zeroValue301
 t28:=Tryz.underlying302
 a28:=Tryz.isAgg302
 z28:=Tryz.sizeOf302
 v28:=Tryz.zeroValue302
 t33:=Tryz.underlying186
 a33:=Tryz.isAgg186
 z33:=Tryz.sizeOf186
 v33:=Tryz.zeroValue186}
set_option maxRecDepth 100000 in
theorem keysV_g {κ α:Type}(kv:κ→Value) (ok:κ→Prop) (enc:α→AV) (b n:Nat) (m:κ→Option α):GCall Tryz.prog 274 [.ow 1001 0] [(1001,.op (mapO kv ok enc b n m))] (some ([(1001,.op (mapO kv ok enc b n m)),(1002,.box 236 [.ow 1001 0])],.fnb 345 [] [.bx 1002 0 0])):=by
 refine GC_1 Tryz.func274 Tryz.ntmps274 (ReadsS.r1 Tryz.results274) λhok hokB M0 w0=>?_
 refine Aw_sr ?_
 refine Al_box1 rfl rfl rfl (by decide) (by kernel_rfl) (by conv=>lhs;whnf) rfl (λg1=>?_)
 refine Al_mr ?_
 refine Al_ns ?_
 refine Al_p (Pu_makeFuncS [] [.bx 1 g1 0] rfl trivial ⟨Sub.rfl,trivial⟩) ?_
 refine Al_mr ?_
 refine Al_nil ?_
 exact Aw_ret (⟨_,_,[(1002,1,g1)],rfl,Sub.rfl,⟨rfl,rfl,trivial⟩,rfl⟩)
set_option maxHeartbeats 1000000 in
theorem sortedV_g {α:Type}(enc:α→AV) (b n:Nat) (m:ByteArray→Option α) (ks:List ByteArray) (hr:Rise ks) (hk:∀k,(m k).isSome=true↔k∈ks) (hn:n≤1000000):GCall Tryz.prog 240 [.fnb 345 [] [.bx 1002 0 0]] [(1001,.op (mapO keyS okS enc b n m)),(1002,.box 236 [.ow 1001 0])] (some ([(1001,.op (mapO keyS okS enc b n m)),(1003,.arr 9 1 (ks.map λs=>[tv s]))],.ow 1003 0)):=⟨λ_ _=>by kernel_rfl,λM w ρ vs hM hbnd ha hobs hfps hap=>by
 obtain⟨h1,e1,_,hh1,hmp⟩:=hobs (1001,.op (mapO keyS okS enc b n m)) (by simp)
 obtain⟨h2,e2,b2,cs2,rfl,_,hb2,hsz2,hcs2⟩:=hobs (1002,.box 236 [.ow 1001 0]) (by simp)
 have hmb:M b:=hfps b ⟨_,List.mem_cons_self ..,h1,e1,rfl⟩
 have hcell:w.cell? ⟨b2,0,none⟩=some (.map (some b)):=by
  have h0:0<cs2.size:=by rw[hsz2];exact Nat.one_pos
  have h3:cs2[0]?=some cs2[0]:=Array.getElem?_eq_getElem h0
  obtain⟨⟨h4,_⟩,_⟩:=hcs2 0 (.ow 1001 0) cs2[0] rfl h3
  rw[e1]at h4
  rw[Lib.cell_of_heap hb2]
  show cs2[0]?=_
  rw[h3,←Option.some.inj h4,hh1]
 match vs,ha with
 | [x],ha =>
 obtain⟨us,vs',rfl,⟨hu,_⟩,hv1,hv2⟩:=ha.2 0 _ x rfl rfl
 obtain rfl:us=[]:=List.eq_nil_of_length_eq_zero hu
 match vs',hv1,hv2 with
 | [y],_,hv2 =>
 obtain⟨z,bz,ez,hz1,rfl⟩:=hv2 0 _ y rfl rfl
 rw[e2]at ez
 obtain rfl:=Option.some.inj ez
 have hbz:b2=bz:=by simpa [blk]using hz1
 subst hbz
 obtain⟨es,clock,hbm,hst,hsz,hent,hall⟩:=hmp
 have hrd:∀x∈es.toList,∃c,okS c∧x.key=keyS c∧(m c).isSome=true∧WideElems.rd (H:=Unit) Tryz.prog 9 (λ_=>some (.lit (.bool true),[])) x=some (.string c.data.toList,.lit (.bool true)):=λx hx=>by
  obtain⟨c,v,h3,h4,h5,_⟩:=hent x hx
  refine⟨c,h3,h4,by rw[h5];rfl,?_⟩
  have:=WideElems.rd_mk (H:=Unit) (P:=Tryz.prog) (k:=9) (R:=λ_=>some (.lit (.bool true),[])) (key:=x.key) (val:=x.val) (born:=x.born) (kl:=.string c.data.toList) (yv:=(.lit (.bool true),[])) (by rw[h4];exact WideMaps.keyOf_string_mk Tryz.underlying9 h3) rfl
  exact this
 have hown:w.ownsMap (H:=Unit) Tryz.prog 9 (λ_=>some (.lit (.bool true),[])) b n (.map ((es.toList.map (WideElems.rg Tryz.prog 9 (λ_=>some (.lit (.bool true),[])))).foldr DataW.insert [])) :=
  ⟨es,clock,hbm,⟨by have:maxLen=9223372036854775807:=rfl;omega,hst,λx hx=>by obtain⟨c,_,_,_,h6⟩:=hrd x hx;exact⟨_,h6⟩⟩,hsz,rfl⟩
 have hsl:=hown.size_le
 have hlt2:b2<w.heap.size:=(Array.getElem?_eq_some_iff.1 hb2).1
 have hseq:=AnyZ.keys_gives (ρ:=Tryz.keysV_ren) {Tryz.keysV with} Fence.wide 2 trivial rfl (by omega) b2 b n _ w hlt2 hcell hown
 have hS:=AnyZ.sorted_in Tryz.sorted_lays Fence.wide 5 trivial trivial trivial trivial rfl (by omega) (Tryz.sorts_in _) (enters_of Tryz.func313 (by kernel_rfl) rfl) 345 #[.pointer (some ⟨b2,0,none⟩)] trivial (enters_of Tryz.func345 (by kernel_rfl) rfl) _ _ (Nat.le_trans hsl (by have:maxLen=9223372036854775807:=rfl;omega)) (by omega) _ hseq
 refine(callsIn_wide.1 hS).mono λe w' ⟨v,ss,he,hperm,hrow,hnil,hbel⟩=>?_
 have hext:Ev.Ext w w':=hbel
 have hkp:∀c∈ks,okS c:=λc hc=>by
  obtain⟨x,hx⟩:=Option.isSome_iff_exists.1 ((hk c).2 hc)
  obtain⟨e,he,hek⟩:=hall c x hx
  obtain⟨c',_,h3,h4,_⟩:=hent e he
  rw[h4]at hek
  cases hek;exact h3
 have hinj:∀a c:ByteArray,a.data.toList=c.data.toList→a=c:=λa c h=>ByteArray.ext (Array.toList_inj.1 h)
 have hlt:(ks.map (·.data.toList)).Pairwise (·<·):=by
  rw[List.pairwise_map]
  refine hr.imp λ{a c} h=>?_
  rw[ByteArray.toList_eq,ByteArray.toList_eq,bytesLess_eq]at h
  simpa using h
 have hnd:(ks.map (·.data.toList)).Nodup:=hlt.imp λ{a c} h e=>by rw[e]at h;exact List.lt_irrefl _ h
 have hpk:(ks.map (·.data.toList)).Perm (strKeys (.map ((es.toList.map (WideElems.rg (H:=Unit) Tryz.prog 9 (λ_=>some (.lit (.bool true),[])))).foldr DataW.insert []))):=by
  obtain⟨es',hD,hpw,_⟩:=hown.entries (Maps.string_keyed Tryz.underlying9)
  cases hD
  have hmem:∀p:Lit×DataW Unit,p∈(es.toList.map (WideElems.rg (H:=Unit) Tryz.prog 9 (λ_=>some (.lit (.bool true),[])))).foldr DataW.insert []↔∃x∈es.toList,∃c,x.key=keyS c∧(m c).isSome=true∧p=(.string c.data.toList,.lit (.bool true)):=λp=>by
   rw[mem_sorted,List.mem_map]
   constructor
   ·rintro⟨x,hx,rfl⟩
    obtain⟨c,_,h4,h5,h6⟩:=hrd x hx
    exact⟨x,hx,c,h4,h5,WideElems.rg_of h6⟩
   ·rintro⟨x,hx,c,h4,_,rfl⟩
    obtain⟨c',_,h4',_,h6⟩:=hrd x hx
    rw[h4]at h4'
    cases h4'
    exact⟨x,hx,WideElems.rg_of h6⟩
  refine perm_strKeys hpw (λp hp=>?_) hnd λx=>?_
  ·obtain⟨_,_,c,_,_,rfl⟩:=(hmem p).1 hp
   exact⟨_,rfl⟩
  ·rw[Maps.has_eq,List.any_eq_true,List.mem_map]
   constructor
   ·rintro⟨c,hc,rfl⟩
    obtain⟨y,hy⟩:=Option.isSome_iff_exists.1 ((hk c).2 hc)
    obtain⟨e0,he0,hek⟩:=hall c y hy
    exact⟨_,(hmem _).2 ⟨e0,he0,c,hek,(hk c).2 hc,rfl⟩,by simp[Lit.sameKey]⟩
   ·rintro⟨p,hp,hs⟩
    obtain⟨_,_,c,_,hsm,rfl⟩:=(hmem p).1 hp
    refine⟨c,(hk c).1 hsm,?_⟩
    simpa [Lit.sameKey]using hs
 have hsort:ss.mergeSort (λx y=>decide (x≤y))=ks.map (·.data.toList):=by
  have h3:=mergeSort_of_perm (hperm.trans hpk.symm)
  refine h3.trans (List.mergeSort_of_pairwise ?_)
  refine hlt.imp λ{a c} h=>?_
  simpa using List.le_of_lt h
 have hss:ss.length=ks.length:=by rw[←List.length_mergeSort ss (le:=λx y=>decide (x≤y)),hsort,List.length_map]
 have hvals:(ss.mergeSort (λx y=>decide (x≤y))).map encStr=(ks.map λs=>[Value.string s]).flatten:=by
  rw[hsort,enc_flat]
 rw[hvals,hss]at hrow
 let ρ':Rho:=λk g=>if k=1003∧g=0 then some v else ρ k g
 have r1:ρ' 1001 0=ρ 1001 0:=if_neg (by decide)
 have r2:ρ' 1002 0=ρ 1002 0:=if_neg (by decide)
 have r3:ρ' 1003 0=some v:=if_pos ⟨rfl,rfl⟩
 have hblk:∀c,blk v=some c→w.heap.size≤c:=λc hc=>by
  rcases hrow.2 with⟨rfl,_⟩|⟨gb,cap,cur,rfl,hbase,_⟩
  ·cases hc
  ·simp[blk]at hc;omega
 have hf':∀c,fps ρ' [(1001,.op (mapO keyS okS enc b n m)),(1003,.arr 9 1 (ks.map λs=>[tv s]))] c→c=b∨blk v=some c:=λc ⟨p,hp,z,hz,hc⟩=>by
  rcases List.mem_cons.1 hp with rfl|hp
  ·exact .inl hc
  ·rcases List.mem_cons.1 hp with rfl|hp
   ·rw[show ρ' 1003 0=some v from r3]at hz
    cases hz;exact .inr hc
   ·cases hp
 have hkn:Known M (λc=>M c∨fps ρ' [(1001,.op (mapO keyS okS enc b n m)),(1003,.arr 9 1 (ks.map λs=>[tv s]))] c) w w':=λc hc hn=>⟨λh=>by
  rcases h with h|h
  ·exact hn h
  ·rcases hf' c h with rfl|h
   ·exact hn hmb
   ·have:=hblk c h;omega,hext.block c hc⟩
 have hbl:b<w.heap.size:=hM b hmb
 have hks:ks.length≤n:=by
  have:=hpk.length_eq
  rw[List.length_map]at this
  have h5:(strKeys (.map ((es.toList.map (WideElems.rg (H:=Unit) Tryz.prog 9 (λ_=>some (.lit (.bool true),[])))).foldr DataW.insert []))).length=Maps.size (.map ((es.toList.map (WideElems.rg (H:=Unit) Tryz.prog 9 (λ_=>some (.lit (.bool true),[])))).foldr DataW.insert [])):=by
   rw[Maps.size_eq];exact List.length_map ..
  omega
 refine⟨⟨hext.os,hext.tape,hext.output,hext.size,λc hc _=>hext.block c hc⟩,v,he,ρ',?_,λp hp=>?_,λp hp=>?_,λp hp q hq x x' c hx hx' hc hc'=>?_,?_⟩
 ·obtain⟨G,hG⟩:=hbnd
  refine⟨G+1,λk g h=>?_⟩
  by_cases e:k=1003∧g=0
  ·omega
  ·have:ρ' k g=ρ k g:=if_neg e
   rw[this]at h
   have:=hG k g h;omega
 ·rcases List.mem_cons.1 hp with rfl|hp
  ·exact r1
  ·rcases List.mem_cons.1 hp with rfl|hp
   ·exact r2
   ·cases hp
 ·rcases List.mem_cons.1 hp with rfl|hp
  ·refine⟨h1,r1.trans e1,λc hc=>.inr ⟨_,List.mem_cons_self ..,h1,e1,hc⟩,hh1,?_⟩
   refine R.Mp.mono (V:=λw v x=>Rep M w (enc x) v) ⟨es,clock,hbm,hst,hsz,hent,hall⟩ (hext.block b hbl) λv x hv=>hv.mono hkn
  ·rcases List.mem_cons.1 hp with rfl|hp
   ·refine⟨v,r3,ks.map λs=>[Value.string s],?_,⟨by simp,λi r u hi hu=>?_⟩,?_,?_,λc hc=>.inl (hblk c hc)⟩
    ·have h6:=hrow
     rw[List.length_map]
     refine⟨h6.1,?_⟩
     rcases h6.2 with h7|⟨gb,cap,cur,h7,hbase,h8⟩
     ·exact .inl h7
     ·exact .inr ⟨gb,cap,cur,h7,Nat.zero_le _,h8⟩
    ·rw[List.getElem?_map]at hi hu
     obtain⟨a,h8,rfl⟩:=Option.map_eq_some_iff.1 hi
     rw[h8]at hu
     simp only[Option.map_some,Option.some.injEq]at hu
     subst hu
     refine⟨rfl,rfl,λj c x hj hx=>?_⟩
     match j with
     | 0 =>
      simp at hj hx
      subst hj hx
      exact⟨.v _ (hkp a (List.mem_of_getElem? h8)),rfl⟩
     | j+1=>simp at hj
    ·rw[List.length_map]
     rcases hrow.2 with⟨rfl,h7⟩|⟨gb,cap,cur,rfl,_⟩
     ·exact⟨none,0,by simp at h7;simp[h7]⟩
     ·exact⟨_,cap,rfl⟩
    ·rw[List.length_map]
     simp only[A.maxI];omega
   ·cases hp
 ·rcases List.mem_cons.1 hp with rfl|hp<;>rcases List.mem_cons.1 hq with rfl|hq
  ·rfl
  ·rcases List.mem_cons.1 hq with rfl|hq
   ·have hcb:c=b:=hc
    rw[show ρ' 1003 0=some v from r3]at hx'
    cases hx'
    have:=hblk c hc'
    omega
   ·cases hq
  ·rcases List.mem_cons.1 hp with rfl|hp
   ·have hcb:c=b:=hc'
    rw[show ρ' 1003 0=some v from r3]at hx
    cases hx
    have:=hblk c hc
    omega
   ·cases hp
  ·rcases List.mem_cons.1 hp with rfl|hp
   ·rcases List.mem_cons.1 hq with rfl|hq
    ·rfl
    ·cases hq
   ·cases hp
 ·refine⟨r3,?_⟩
  rcases hrow.2 with⟨rfl,_⟩|⟨gb,cap,cur,rfl,_⟩<;>rfl⟩
end Go.Proofs.YtdnijgdmohinlaaGreat
end
section
namespace Go.Proofs.YtdnijgdmohinlaaGreat
open Go.RowKit R
def pv (l:List Rng) (k:Nat):ByteArray:=if k=0 then⟨#[]⟩else(l.getD (k - 1) ⟨⟨#[]⟩,⟨#[]⟩⟩).t
end Go.Proofs.YtdnijgdmohinlaaGreat
end
section
namespace Go.Proofs.YtdnijgdmohinlaaGreat
open Go.RowKit A R
open A.RowT
instance:RowI Rng where
 row:=Rng.row
 into h _:=by
  obtain⟨rfl,h2,h3⟩:=h
  exact cellsc (.v _ h2) rfl (cells1 (.v _ h3) rfl)
 back h:=by
  obtain⟨x1,xs1,rfl,h1_1,h2_1,g1⟩:=uncons h
  obtain⟨rfl,k1⟩:=repv h1_1
  obtain⟨x2,xs2,rfl,h1_2,h2_2,g2⟩:=uncons g1
  obtain⟨rfl,k2⟩:=repv h1_2
  obtain rfl:=uncons0 g2
  exact⟨rfl,k1,k2⟩
theorem whole_a (l:List Rng):ACall Tryz.prog 142 [.sl 2 (l.map Rng.row)] (bv (whole l)):=A.ofv (λ_ _=>by kernel_rfl) trivial λM w vs ha=>by
 obtain⟨x,xs,rfl,h1,h2⟩:=allc ha
 obtain rfl:=all0 h2
 exact whole_any x l _ w (sl_of (α:=Rng) h1)
namespace S
def shape (c:SRow):Bool:=!(decide (c.parents.length<1)||decide (6<c.parents.length)||decide (8<c.ranges.length)||!decide (c.owners.length=c.ranges.length)||!whole c.ranges)
def badO (n:Nat) (x:Int):Bool:=decide (x<1)||decide (2^n≤x)
end S
theorem shr_pos (x:Int) (n:Nat) (h:¬x<1):(!decide (x / 2^n=0))=decide ((2:Int)^n≤x):=by
 have hp:(0:Int)<2^n:=Int.pow_pos (by omega)
 by_cases h2:(2:Int)^n≤x
 ·have:1≤x / 2^n:=(Int.le_ediv_iff_mul_le hp).2 (by omega)
  have h3:¬x / 2^n=0:=by omega
  simp[h2,h3]
 ·have:x / 2^n=0:=Int.ediv_eq_zero_of_lt (by omega) (by omega)
  simp[h2,this]
theorem div_in {x:Int}(n:Nat) (h:A.inI x):A.inI (x / 2^(n:Int).toNat):=by
 rw[Int.toNat_natCast]
 have hp:(0:Int)<2^n:=Int.pow_pos (by omega)
 simp only[A.inI]at *
 have h1: -9223372036854775808≤x / 2^n:=by
  rw[Int.le_ediv_iff_mul_le hp]
  have:(-9223372036854775808:Int)*2^n≤ -9223372036854775808*1:=Int.mul_le_mul_of_nonpos_left (by omega) (by omega)
  omega
 have h2:x / 2^n≤9223372036854775807:=by
  by_cases h0:0≤x
  ·have:=Int.ediv_le_self (2^n) h0
   omega
  ·have:x / 2^n<0:=Int.ediv_neg_of_neg_of_pos (by omega) hp
   omega
 omega
theorem S.shape_z (c:SRow):(decide ((c.parents.length:Int)<1)||decide (6<(c.parents.length:Int))||decide (8<(c.ranges.length:Int))||!decide ((c.owners.length:Int)=c.ranges.length)||!whole c.ranges)=!S.shape c:=by
 have d1:decide ((c.parents.length:Int)<1)=decide (c.parents.length<1):=decide_eq_decide.2 (by omega)
 have d2:decide (6<(c.parents.length:Int))=decide (6<c.parents.length):=decide_eq_decide.2 (by omega)
 have d3:decide (8<(c.ranges.length:Int))=decide (8<c.ranges.length):=decide_eq_decide.2 (by omega)
 have d4:decide ((c.owners.length:Int)=c.ranges.length)=decide (c.owners.length=c.ranges.length):=decide_eq_decide.2 (by omega)
 rw[d1,d2,d3,d4,S.shape,Bool.not_not]
theorem S.shape_facts {c:SRow}(h:S.shape c=true):1≤c.parents.length∧c.parents.length≤6∧c.ranges.length≤8∧c.owners.length=c.ranges.length∧whole c.ranges=true:=by
 simp only[S.shape,Bool.not_eq_true',Bool.or_eq_false_iff,decide_eq_false_iff_not,Bool.not_eq_false',decide_eq_true_eq]at h
 obtain⟨⟨⟨⟨h1,h2⟩,h3⟩,h4⟩,h5⟩:=h
 exact⟨by omega,by omega,by omega,h4,h5⟩
namespace S
theorem any_at {α:Type}{p:α→Bool}{l:List α}{k:Nat}(hk:k<l.length) (h:p l[k]=true):l.any p=true:=List.any_eq_true.2 ⟨_,List.getElem_mem hk,h⟩
theorem any_snoc {α:Type}{p:α→Bool}{l:List α}{k:Nat}(hk:k<l.length) (h:(l.take k).any p=false) (h2:p l[k]=false):(l.take (k+1)).any p=false:=by
 rw[List.take_succ_eq_append_getElem hk,List.any_append,h];simp[h2]
end S
end Go.Proofs.YtdnijgdmohinlaaGreat
end
section
namespace Go.Proofs.YtdnijgdmohinlaaGreat.A
open Go Go.RowKit
section
variable {P:Program}{st:ASt}{o:Oper}
theorem Pu_and1 {t yt:TypeId}{x y:Operand}{a:Nat}{r:Int}(ho:o.op=.binOp .and t x y yt) (hx:st.ev x=.d (.v (.int .i64 a))) (hy:st.ev y=.d (.v (.int .i64 1))) (ha:a<9223372036854775808) (hr:((a%2:Nat):Int)=r):Pu P st o (.d (.v (.int .i64 r))):=by
 subst hr
 exact Pu_bin ho hx hy (λh1 h2 w=>by
  simp only[Sem.run_bind,guard_int,Result.andThen_ok,binOp]
  have e:IntKind.i64.wrap (BitVec.ofInt IntKind.i64.bits (a:Int)&&&BitVec.ofInt IntKind.i64.bits 1).toNat=((a%2:Nat):Int):=by
   have e1:(BitVec.ofInt IntKind.i64.bits (a:Int)).toNat=a:=by
    show(BitVec.ofInt 64 (a:Int)).toNat=a
    rw[BitVec.ofInt_natCast,BitVec.toNat_ofNat];omega
   have e2:(BitVec.ofInt IntKind.i64.bits 1).toNat=1:=rfl
   rw[BitVec.toNat_and,e1,e2,Nat.and_one_is_mod]
   exact IntWalk.i64_in _ (by omega)
  simp only[Op.intBits,e,ne_eq,not_true_eq_false,if_false,Sem.run_pure]) (λh _=>by show inI _;simp only[inI];omega)
end
end Go.Proofs.YtdnijgdmohinlaaGreat.A
namespace Go.Proofs.YtdnijgdmohinlaaGreat
open Go.RowKit A R
open A.RowT
namespace T
def ok (c:SRow):Bool:=S.shape c&&!c.owners.any (S.badO c.parents.length)
theorem ok_facts {c:SRow}(h:ok c=true):S.shape c=true∧∀x∈c.owners,1≤x∧x<2^c.parents.length:=by
 unfold ok at h
 rw[Bool.and_eq_true]at h
 refine⟨h.1,λx hx=>?_⟩
 by_cases hb:S.badO c.parents.length x=true
 ·rw[List.any_eq_true.2 ⟨x,hx,hb⟩]at h;cases h.2
 ·simp only[S.badO,Bool.or_eq_true,decide_eq_true_eq,not_or]at hb;omega
def owners (c:SRow) (key:ByteArray):Nat:=if ok c then(if findR c.ranges key<0 then 0 else(c.owners.getD (findR c.ranges key).toNat 0).toNat)else 0
def bit (m:Nat) (s:Int):Bool:=decide (0≤s)&&decide (s<6)&&decide (m / 2^s.toNat%2=1)
theorem vok64 {m:Nat}(h:m<64):vok (.int .i64 (m:Int)):=by show A.inI _;simp only[A.inI];omega
theorem shr_nat (m:Nat) (s:Int):(m:Int) / 2^s.toNat=((m / 2^s.toNat:Nat):Int):=by
 rw[Int.natCast_ediv,Int.natCast_pow];rfl
theorem bit_eq (m:Nat) (s:Int):(decide (0≤s)&&decide (s<6)&&decide (((m / 2^s.toNat%2:Nat):Int)=1))=bit m s:=by
 unfold bit
 congr 1
 exact decide_eq_decide.2 (by omega)
theorem pow_le {n:Nat}(h:n≤6):(2:Nat)^n≤64:=Nat.pow_le_pow_right (by omega) h
end T
theorem idxF_le {α:Type}(p:α→Bool) (l:List α): -1≤idxF p l∧idxF p l<l.length∨l=[]∧idxF p l= -1:=by
 unfold idxF
 cases h:l.findIdx? p with
 | none =>
  cases l with
  | nil=>exact .inr ⟨rfl,rfl⟩
  | cons x r=>exact .inl ⟨by simp,by simp;omega⟩
 | some i =>
  have:i<l.length:=by
   rw[List.findIdx?_eq_some_iff_getElem]at h
   exact h.1
  exact .inl ⟨by simp only[];omega,by simp only[];omega⟩
theorem find_vok (l:List Rng) (key:ByteArray) (h:l.length≤1000000):vok (.int .i64 (findR l key)):=by
 show A.inI _
 unfold findR
 simp only[A.inI]
 rcases idxF_le (λr=>K.hasB r.f r.t key) l with h1|⟨_,h1⟩<;>omega
theorem find_a (l:List Rng) (key:ByteArray) (hl:l.length≤1000000):ACall Tryz.prog 146 [.sl 2 (l.map Rng.row),tv key] (iv (findR l key)):=A.ofv (λ_ _=>by kernel_rfl) (find_vok l key hl) λM w vs ha=>by
 obtain⟨x,xs,rfl,h1,h2⟩:=allc ha
 obtain⟨rfl,_⟩:=A.all1 h2
 exact find_any x l key _ w (sl_of (α:=Rng) h1)
set_option maxRecDepth 100000 in
theorem sites_a (c:SRow):ACall Tryz.prog 33 [.row c.row] (iv c.parents.length):=by
 refine AC_1 Tryz.func33 Tryz.ntmps33 Tryz.results33 λhok M0 w0 hnl=>?_
 refine Aw_sr ?_
 refine Al_p Pu_bN ?_
 refine Al_mr ?_
 refine Al_ns ?_
 refine Al_p (Pu_fd 2 Tryz.underlying30 Tryz.sizeOf22) ?_
 refine Al_p (Pu_l1 Tryz.isAgg22) ?_
 refine Al_p (Pu_ln Tryz.underlying22) ?_
 refine Al_mr ?_
 refine Al_nil ?_
 exact Aw_ret (Sub.rfl)
set_option maxRecDepth 100000 in
theorem tcheck_a (c:SRow):ACall Tryz.prog 79 [.row c.row] (bv (T.ok c)):=by
 refine AC_1 Tryz.func79 Tryz.ntmps79 Tryz.results79 λhok M0 w0 hnl=>?_
 refine Aw_sr ?_
 refine Al_p Pu_bN ?_
 refine Al_mr ?_
 refine Al_ns ?_
 refine Al_p (Pu_lN Tryz.isAgg30 Tryz.sizeOf30) ?_
 refine Al_p (Pu_call (sites_a c) rfl ⟨Sub.rfl,trivial⟩) ?_
 refine Al_mr ?_
 refine Al_nil (Aw_seq (Aw_sr ?_))
 refine Al_ml ?_
 refine Al_p Pu_cp ?_
 refine Al_ml ?_
 refine Al_s (St_g [] trivial (λ_=>Pu_mvl)) ?_
 refine Al_s (St_g [11] ⟨⟨_,rfl⟩,trivial⟩ (λ_=>Pu_cp)) ?_
 refine Al_p Pu_o ?_
 refine Al_ml ?_
 refine Al_s (St_g [] trivial (λ_=>Pu_fd 0 Tryz.underlying30 Tryz.sizeOf28)) ?_
 refine Al_s (St_g [15] ⟨⟨_,rfl⟩,trivial⟩ (λ_=>Pu_l1 Tryz.isAgg28)) ?_
 refine Al_s (St_g [16] ⟨⟨_,rfl⟩,trivial⟩ (λ_=>Pu_ln Tryz.underlying28)) ?_
 refine Al_s (St_g [17] ⟨⟨_,rfl⟩,trivial⟩ (λ_=>Pu_cp)) ?_
 refine Al_p Pu_o ?_
 refine Al_ml ?_
 refine Al_s (St_g [] trivial (λ_=>Pu_fd 1 Tryz.underlying30 Tryz.sizeOf22)) ?_
 refine Al_s (St_g [21] ⟨⟨_,rfl⟩,trivial⟩ (λ_=>Pu_l1 Tryz.isAgg22)) ?_
 refine Al_s (St_g [22] ⟨⟨_,rfl⟩,trivial⟩ (λ_=>Pu_ln Tryz.underlying22)) ?_
 refine Al_s (St_g [] trivial (λ_=>Pu_fd 0 Tryz.underlying30 Tryz.sizeOf28)) ?_
 refine Al_s (St_g [24] ⟨⟨_,rfl⟩,trivial⟩ (λ_=>Pu_l1 Tryz.isAgg28)) ?_
 refine Al_s (St_g [25] ⟨⟨_,rfl⟩,trivial⟩ (λ_=>Pu_ln Tryz.underlying28)) ?_
 refine Al_s (St_g [23,26] ⟨⟨_,rfl⟩,⟨_,rfl⟩,trivial⟩ (λ_=>Pu_cp)) ?_
 refine Al_p Pu_o ?_
 refine Al_ml ?_
 refine Al_s (St_g [] trivial (λ_=>Pu_fd 0 Tryz.underlying30 Tryz.sizeOf28)) ?_
 refine Al_s (St_g [30] ⟨⟨_,rfl⟩,trivial⟩ (λ_=>Pu_l1 Tryz.isAgg28)) ?_
 refine Al_s (St_g [31] ⟨⟨_,rfl⟩,trivial⟩ (λ_=>Pu_call (whole_a c.ranges) rfl ⟨Sub.rfl,trivial⟩)) ?_
 refine Al_s (St_g [32] ⟨⟨_,rfl⟩,trivial⟩ (λ_=>Pu_n)) ?_
 refine Al_p Pu_o ?_
 refine Al_nil ?_
 refine Aw_cond rfl (λh34=>?_) (λh34=>?_)
 ·skip
  have hs:S.shape c=false:=by
   have h:=S.shape_z c
   rw[h34]at h
   simpa using h.symm
  refine Aw_sr ?_
  refine Al_mr ?_
  refine Al_nil ?_
  exact Aw_ret (Sub.bool (by unfold T.ok;rw[hs];rfl))
 ·skip
  have hs:S.shape c=true:=by
   have h:=S.shape_z c
   rw[h34]at h
   simpa using h.symm
  obtain⟨n1,n6,n8,no,_⟩:=S.shape_facts hs
  have hn:(0:Int)≤(c.parents.length:Int)∧(c.parents.length:Int)≤(IntKind.i64.bits:Nat):=⟨by omega,by show(c.parents.length:Int)≤64;omega⟩
  refine Aw_skip (Aw_seq (Aw_sr ?_))
  refine Al_p (Pu_fd 1 Tryz.underlying30 Tryz.sizeOf22) ?_
  refine Al_p (Pu_l1 Tryz.isAgg22) ?_
  refine Al_p (Pu_ln Tryz.underlying22) ?_
  refine Al_ml ?_
  refine Al_nil (Aw_block ?_)
  refine Aw_loopk (ι:=Nat) [3,36,37] [] (λk=>[(38,.d (iv k))]) (λk=>[]) (λk=>k≤c.owners.length∧(c.owners.take k).any (S.badO c.parents.length)=false) (λk=>c.owners.length - k) (0) (⟨Nat.zero_le _,by simp⟩) ⟨Sub.rfl,trivial⟩ trivial ?_
  rintro k ⟨hk0,hno⟩
  refine Aw_sr ?_
  refine Al_p Pu_cp ?_
  refine Al_nil (Aw_seq ?_)
  refine Aw_cond rfl (λh39=>?_) (λh39=>?_)
  ·(try simp only[A.cd_]at h39)
   have hk:k<c.owners.length:=by omega
   refine Aw_skip (Aw_seq (Aw_block (Aw_sr ?_)))
   refine Al_p (Pu_index rfl Tryz.underlying22 Tryz.sizeOf3 rfl rfl (rfl) (mapget hk)) ?_
   refine Al_p (Pu_l1 Tryz.isAgg3) ?_
   refine Al_mr ?_
   refine Al_ns ?_
   refine Al_ml ?_
   refine Al_p Pu_cp ?_
   refine Al_ml ?_
   refine Al_s (St_g [] trivial (λ_=>Pu_mvl)) ?_
   refine Al_s (St_g [] trivial (λ_=>Pu_mvl)) ?_
   refine Al_s (St_g [45,46] ⟨⟨_,rfl⟩,⟨_,rfl⟩,trivial⟩ (λ_=>Pu_int_shr rfl rfl rfl hn rfl (λh=>div_in _ h))) ?_
   refine Al_s (St_g [47] ⟨⟨_,rfl⟩,trivial⟩ (λ_=>Pu_cp)) ?_
   refine Al_p Pu_o ?_
   refine Al_nil ?_
   refine Aw_cond rfl (λh49=>?_) (λh49=>?_)
   ·skip
    have hb:S.badO c.parents.length (c.owners[k]'hk)=true:=by
     unfold S.badO
     by_cases h:c.owners[k]'hk<1
     ·simp[h]
     ·have h2:=shr_pos (c.owners[k]'hk) c.parents.length h
      rw[←h2]
      exact h49
    refine Aw_sr ?_
    refine Al_mr ?_
    refine Al_nil ?_
    exact Aw_ret (Sub.bool (by unfold T.ok;rw[S.any_at hk hb];simp))
   ·skip
    have hb:S.badO c.parents.length (c.owners[k]'hk)=false:=by
     unfold S.badO
     by_cases h:c.owners[k]'hk<1
     ·simp[h]at h49
     ·have h2:=shr_pos (c.owners[k]'hk) c.parents.length h
      rw[←h2]
      exact h49
    refine Aw_skip (Aw_region ?_)
    refine Al_p Pu_ad ?_
    refine Al_ml ?_
    refine Al_nil ?_
    exact⟨k+1,⟨by omega,S.any_snoc hk hno hb⟩,by omega,Le.ov ⟨Sub.num (by omega),trivial⟩ ⟨Sub.rfl,Sub.rfl,Sub.rfl,trivial⟩ trivial trivial⟩
  ·(try simp only[A.cd_]at h39)
   obtain rfl:k=c.owners.length:=by omega
   rw[List.take_length]at hno
   refine Aw_exit (Aw_sr ?_)
   refine Al_mr ?_
   refine Al_nil ?_
   exact Aw_ret (Sub.bool (by unfold T.ok;rw[hs,hno];rfl))
set_option maxRecDepth 100000 in
theorem has_a (m:Nat) (s:Int) (hm:m<64):ACall Tryz.prog 86 [iv m,iv s] (bv (T.bit m s)):=by
 refine AC_1 Tryz.func86 Tryz.ntmps86 Tryz.results86 λhok M0 w0 hnl=>?_
 have q14:(decide (0≤s)&&decide (s<6))=true→(0:Int)≤s∧s≤(IntKind.i64.bits:Nat):=λh=>by
  simp only[Bool.and_eq_true,decide_eq_true_eq]at h
  exact⟨h.1,by show s≤64;omega⟩
 have q15:m / 2^s.toNat<64:=by have:=Nat.div_le_self m (2^s.toNat);omega
 refine Aw_sr ?_
 refine Al_mr ?_
 refine Al_ns ?_
 refine Al_ml ?_
 refine Al_p Pu_cp ?_
 refine Al_ml ?_
 refine Al_s (St_g [] trivial (λ_=>Pu_mvl)) ?_
 refine Al_s (St_g [8] ⟨⟨_,rfl⟩,trivial⟩ (λ_=>Pu_cp)) ?_
 refine Al_p Pu_a ?_
 refine Al_ml ?_
 refine Al_s (St_g [] trivial (λ_=>Pu_mvl)) ?_
 refine Al_s (St_g [] trivial (λ_=>Pu_mvl)) ?_
 refine Al_s (St_g [12,13] ⟨⟨_,rfl⟩,⟨_,rfl⟩,trivial⟩ (λhg14=>Pu_int_shr (r:=((m / 2^s.toNat:Nat):Int)) rfl rfl rfl (q14 hg14) (T.shr_nat m s) (λ_=>T.vok64 q15))) ?_
 refine Al_s (St_gd [14] rfl rfl rfl rfl ⟨⟨_,rfl⟩,trivial⟩ (λhg15=>by exact Pu_and1 rfl rfl rfl (Nat.lt_trans q15 (by decide)) rfl)) ?_
 refine Al_s (St_g [15] ⟨⟨_,rfl⟩,trivial⟩ (λ_=>Pu_cp)) ?_
 refine Al_p Pu_a ?_
 refine Al_mr ?_
 refine Al_nil ?_
 exact Aw_ret (Sub.bool (T.bit_eq m s))
theorem T.shape_owner {c:SRow}(h:T.ok c=true) {key:ByteArray}(hf:¬findR c.ranges key<0):∃k:Nat,findR c.ranges key=(k:Int)∧∃hk:k<c.owners.length,1≤c.owners[k]∧c.owners[k]<64∧(T.owners c key:Int)=c.owners[k]:=by
 obtain⟨hs,ho⟩:=T.ok_facts h
 obtain⟨n1,n6,n8,no,_⟩:=S.shape_facts hs
 have hi:findR c.ranges key<c.ranges.length:=by
  rcases idxF_le (λr=>K.hasB r.f r.t key) c.ranges with h1|⟨_,h1⟩
  ·exact h1.2
  ·exact absurd (show findR c.ranges key<0 by show idxF _ _<0;omega) hf
 refine⟨(findR c.ranges key).toNat,by omega,by omega,?_⟩
 have hk:(findR c.ranges key).toNat<c.owners.length:=by omega
 have h1:=ho _ (List.getElem_mem hk)
 have h2:=T.pow_le n6
 have h3:((2^c.parents.length:Nat):Int)=(2:Int)^c.parents.length:=by rw[Int.natCast_pow];rfl
 refine⟨h1.1,by omega,?_⟩
 unfold T.owners
 rw[if_pos h,if_neg hf,List.getD_eq_getElem?_getD,List.getElem?_eq_getElem hk]
 simp only[Option.getD_some]
 omega
theorem T.owners_lt (c:SRow) (key:ByteArray):T.owners c key<64:=by
 by_cases h:T.ok c=true
 ·by_cases hf:findR c.ranges key<0
  ·unfold T.owners;rw[if_pos h,if_pos hf];omega
  ·obtain⟨k,h1,h2,h3,h4,h5⟩:=T.shape_owner h hf
   omega
 ·unfold T.owners;rw[if_neg h];omega
set_option maxRecDepth 100000 in
theorem owners_a (c:SRow) (key:ByteArray):ACall Tryz.prog 216 [.row c.row,tv key] (iv (T.owners c key)):=by
 refine AC_1 Tryz.func216 Tryz.ntmps216 Tryz.results216 λhok M0 w0 hnl=>?_
 refine Aw_sr ?_
 refine Al_p Pu_bN ?_
 refine Al_mr ?_
 refine Al_nil (Aw_seq (Aw_sr ?_))
 refine Al_p (Pu_lN Tryz.isAgg30 Tryz.sizeOf30) ?_
 refine Al_p (Pu_call (tcheck_a c) rfl ⟨Sub.rfl,trivial⟩) ?_
 refine Al_p Pu_n ?_
 refine Al_nil ?_
 refine Aw_cond rfl (λh8=>?_) (λh8=>?_)
 ·skip
  have hno:T.owners c key=0:=by
   unfold T.owners;rw[if_neg];simpa using h8
  refine Aw_sr ?_
  refine Al_mr ?_
  refine Al_nil ?_
  exact Aw_ret (Sub.num (by rw[hno];rfl))
 ·skip
  have hok2:T.ok c=true:=by simpa using h8
  have hl:=(S.shape_facts (T.ok_facts hok2).1).2.2.1
  refine Aw_skip (Aw_sr ?_)
  refine Al_p (Pu_fd 0 Tryz.underlying30 Tryz.sizeOf28) ?_
  refine Al_p (Pu_l1 Tryz.isAgg28) ?_
  refine Al_ml ?_
  refine Al_p (Pu_call (find_a c.ranges key (by omega)) rfl ⟨Sub.rfl,Sub.rfl,trivial⟩) ?_
  refine Al_mr ?_
  refine Al_nil (Aw_seq (Aw_sr ?_))
  refine Al_ml ?_
  refine Al_p Pu_cp ?_
  refine Al_nil ?_
  refine Aw_cond rfl (λh14=>?_) (λh14=>?_)
  ·(try simp only[A.cd_]at h14)
   have hno:T.owners c key=0:=by
    unfold T.owners;rw[if_pos hok2,if_pos h14]
   refine Aw_sr ?_
   refine Al_mr ?_
   refine Al_nil ?_
   exact Aw_ret (Sub.num (by rw[hno];rfl))
  ·(try simp only[A.cd_]at h14)
   obtain⟨k,e1,hk,e2,e3,e4⟩:=T.shape_owner hok2 h14
   refine Aw_skip (Aw_sr ?_)
   refine Al_p (Pu_fd 1 Tryz.underlying30 Tryz.sizeOf22) ?_
   refine Al_p (Pu_l1 Tryz.isAgg22) ?_
   refine Al_ml ?_
   refine Al_p (Pu_index rfl Tryz.underlying22 Tryz.sizeOf3 rfl rfl (e1) (mapget hk)) ?_
   refine Al_p (Pu_l1 Tryz.isAgg3) ?_
   refine Al_mr ?_
   refine Al_nil ?_
   exact Aw_ret (Sub.num e4.symm)
end Go.Proofs.YtdnijgdmohinlaaGreat
namespace Go.Proofs.YtdnijgdmohinlaaGreat
open Go.RowKit A R
open A.RowT
end Go.Proofs.YtdnijgdmohinlaaGreat
namespace Go.Proofs.YtdnijgdmohinlaaGreat
open Go.RowKit A R
namespace T
structure Ahead (p:List Int):Prop where
 pos:1≤p.length
 le:p.length≤6
 root:p.getD 0 0= -1
 up:∀i,1≤i→i<p.length→0≤p.getD i 0∧p.getD i 0<(i:Int)
abbrev DS:=List Bool×List Nat
def dstep (p:List Int) (a:Nat) (go:Nat→DS→DS) (so:DS) (i:Nat):DS:=if p.getD i 0=(a:Int)∧so.1.getD i true=false then go i so else so
def dfs (p:List Int):Nat→Nat→DS→DS
 | 0,_,so=>so
 | f+1,a,so=>(List.range p.length).foldl (dstep p a (dfs p f)) (so.1.set a true,so.2++[a])
def dfsAt (p:List Int) (f a:Nat) (so:DS) (k:Nat):DS:=(List.range k).foldl (dstep p a (dfs p f)) (so.1.set a true,so.2++[a])
theorem dfsAt_zero (p:List Int) (f a:Nat) (so:DS):dfsAt p f a so 0=(so.1.set a true,so.2++[a]):=rfl
theorem dfsAt_succ (p:List Int) (f a:Nat) (so:DS) (k:Nat):dfsAt p f a so (k+1)=dstep p a (dfs p f) (dfsAt p f a so k) k:=by
 unfold dfsAt
 rw[List.range_succ,List.foldl_append];rfl
theorem dfsAt_all (p:List Int) (f a:Nat) (so:DS):dfsAt p f a so p.length=dfs p (f+1) a so:=rfl
theorem dfs_len (p:List Int) (hp:p.length≤6):∀(f a:Nat) (so:DS),(dfs p f a so).1.length=so.1.length∧(dfs p f a so).2.length≤so.2.length+7^f
 | 0,a,so=>⟨rfl,by simp[dfs]⟩
 | f+1,a,so=>by
  have key:∀k,(dfsAt p f a so k).1.length=so.1.length∧(dfsAt p f a so k).2.length≤so.2.length+1+k*7^f:=by
   intro k
   induction k with
   | zero=>rw[dfsAt_zero];simp
   | succ k ih =>
    rw[dfsAt_succ]
    unfold dstep
    have e:(k+1)*7^f=k*7^f+7^f:=by rw[Nat.add_mul,Nat.one_mul]
    rw[e]
    split
    ·obtain⟨h1,h2⟩:=dfs_len p hp f k (dfsAt p f a so k)
     generalize 7^f=q at *
     generalize k*q=r at *
     exact⟨by omega,by omega⟩
    ·generalize 7^f=q at *
     generalize k*q=r at *
     exact⟨ih.1,by omega⟩
  have h:=key p.length
  rw[dfsAt_all]at h
  refine⟨h.1,?_⟩
  have h7:0<7^f:=Nat.pow_pos (by omega)
  have h8:p.length*7^f≤6*7^f:=Nat.mul_le_mul_right _ hp
  have h9:7^(f+1)=7*7^f:=by rw[Nat.pow_succ,Nat.mul_comm]
  omega
theorem dfsAt_len (p:List Int) (hp:p.length≤6) (f a:Nat) (so:DS):∀k,(dfsAt p f a so k).1.length=so.1.length∧(dfsAt p f a so k).2.length≤so.2.length+1+k*7^f:=by
 intro k
 induction k with
 | zero=>rw[dfsAt_zero];simp
 | succ k ih =>
  rw[dfsAt_succ]
  unfold dstep
  have e:(k+1)*7^f=k*7^f+7^f:=by rw[Nat.add_mul,Nat.one_mul]
  rw[e]
  split
  ·obtain⟨h1,h2⟩:=dfs_len p hp f k (dfsAt p f a so k)
   generalize 7^f=q at *
   generalize k*q=r at *
   exact⟨by omega,by omega⟩
  ·generalize 7^f=q at *
   generalize k*q=r at *
   exact⟨ih.1,by omega⟩
def seenR (s:List Bool):List (List AV):=s.map λb=>[bv b]
def outR (l:List Nat):List (List AV):=l.map λx=>[iv (x:Nat)]
def inF (p:List Int):SV:=.fnb 215 [] [.bx 1005 0 0,.bx 1006 0 0,.d (.fp [.sl 1 (p.map λx=>[iv x])]),.bx 1007 0 0]
def inObs2 (p:List Int) (so:DS):Obs:=[(1005,.box 291 [.ow 1015 0]),(1015,.arr 4 1 (seenR so.1)),(1006,.box 22 [.ow 1026 0]),(1026,.arr 3 1 (outR so.2)),(1007,.box 292 [inF p])]
def inObs (p:List Int) (so:DS):Obs:=[(1005,.box 291 [.ow 1015 0]),(1015,.arr 4 1 (seenR so.1)),(1006,.box 22 [.ow 1016 0]),(1016,.arr 3 1 (outR so.2)),(1007,.box 292 [inF p])]
theorem seenR_un (s:List Bool):∀q∈seenR s,q.length=1:=λq hq=>by
 obtain⟨b,_,rfl⟩:=List.mem_map.1 hq;rfl
theorem seenR_fl (s:List Bool):(seenR s).flatten=s.map bv:=by
 unfold seenR
 induction s with
 | nil=>rfl
 | cons b r ih=>simp[ih]
theorem seenR_set {s:List Bool}{a:Nat}(h:a<s.length):(seenR (s.set a true)).flatten=(seenR s).flatten.take (a*1)++cellsA (bv true)++(seenR s).flatten.drop (a*1+1):=by
 rw[seenR_fl,seenR_fl,List.map_set,Nat.mul_one,List.set_eq_take_append_cons_drop,if_pos (by simpa using h)]
 simp[cellsA]
end T
set_option maxRecDepth 100000 in
set_option maxHeartbeats 2000000 in
theorem in_step (p:List Int) (hp:T.Ahead p) (f a:Nat) (so:T.DS) (hgo:∀(a':Nat) (so':T.DS),a<a'→a'<p.length→so'.1.length=p.length→so'.2.length+7^f≤1000000→GCall Tryz.prog 215 [.d (iv a'),.bx 1005 0 0,.bx 1006 0 0,.d (.fp [.sl 1 (p.map λx=>[iv x])]),.bx 1007 0 0] (T.inObs p so') (some (T.inObs2 p (T.dfs p f a' so'),.d (.tup []))))
  (ha:a<p.length) (hs:so.1.length=p.length) (ho:so.2.length+7^(f+1)≤1000000):GCall Tryz.prog 215 [.d (iv a),.bx 1005 0 0,.bx 1006 0 0,.d (.fp [.sl 1 (p.map λx=>[iv x])]),.bx 1007 0 0] (T.inObs p so) (some (T.inObs2 p (T.dfs p (f+1) a so),.d (.tup []))):=by
 refine GC_1 Tryz.func215 Tryz.ntmps215 (ReadsS.r0 Tryz.results215) λhok hokB M0 w0=>?_
 have hp6:=hp.le
 have h70:0<7^f:=Nat.pow_pos (by omega)
 have h71:7^(f+1)=7*7^f:=by rw[Nat.pow_succ,Nat.mul_comm]
 refine Aw_sr ?_
 refine Al_p (Pu_lb Tryz.isAgg291) ?_
 refine Al_ml ?_
 refine Al_p (Pu_indexOw (j:=a) rfl Tryz.underlying291 Tryz.sizeOf4 rfl rfl rfl rfl (by unfold T.seenR;rw[List.length_map];omega)) ?_
 refine Al_storeArr (T.seenR (so.1.set a true)) rfl rfl rfl (by kernel_rfl) Tryz.sizeOf4 rfl rfl rfl rfl rfl (by unfold T.seenR;rw[List.length_map];omega) (by simp[T.seenR]) (T.seenR_un _) (T.seenR_set (by omega)) ?_
 refine Al_ns ?_
 refine Al_p (Pu_lb Tryz.isAgg22) ?_
 refine Al_ml ?_
 refine Al_p (Pu_slice1 rfl Tryz.underlying22 Tryz.sizeOf3 Tryz.zeroValue3 rfl (by decide) (by decide) (by kernel_rfl) rfl rfl rfl) ?_
 refine Al_append rfl rfl rfl (by decide) (by kernel_rfl) elem22 (by decide) Tryz.sizeOf3 rfl rfl rfl ((by simp[T.outR];omega)) (by decide) (λg14=>?_)
 refine Al_s1 Tryz.isAgg22 Tryz.sizeOf22 ?_
 refine Al_ns ?_
 refine Al_p (Pu_l1 Tryz.isAgg22) ?_
 refine Al_p (Pu_ln Tryz.underlying22) ?_
 refine Al_ml ?_
 refine Al_nil (Aw_block ?_)
 refine Aw_loopk (ι:=Nat×Nat) [0,1,4,15,16] [1007] (λ(k,g)=>[(17,.d (iv k))]) (λ(k,g)=>[(1005,0,.box 291 [.ow 1015 0]),(1015,0,.arr 4 1 (T.seenR (T.dfsAt p f a so k).1)),(1006,0,.box 22 [.ow 1016 g]),(1016,g,.arr 3 1 (T.outR (T.dfsAt p f a so k).2))]) (λ(k,g)=>k≤p.length) (λ(k,g)=>p.length - k) ((0,g14)) (Nat.zero_le _) ⟨Sub.rfl,trivial⟩ ⟨rfl,rfl,rfl,obeq (by simp[T.outR,T.dfsAt_zero,A.cellsA]),trivial⟩ ?_
 rintro⟨k,g⟩ hk0
 refine Aw_sr ?_
 refine Al_p Pu_cp ?_
 refine Al_nil (Aw_seq ?_)
 refine Aw_cond rfl (λh18=>?_) (λh18=>?_)
 ·(try simp only[A.cd_]at h18)
  have hk:k<p.length:=by omega
  obtain⟨d1,d2⟩:=T.dfsAt_len p hp6 f a so k
  have d3:k*7^f≤5*7^f:=Nat.mul_le_mul_right _ (by omega)
  have hks:k<(T.dfsAt p f a so k).1.length:=by omega
  have hkb:p.getD k 0=p[k]:=by simp[List.getD_eq_getElem?_getD,hk]
  have hkd:(T.dfsAt p f a so k).1.getD k true=(T.dfsAt p f a so k).1[k]:=by simp[List.getD_eq_getElem?_getD,hks]
  have hat:(T.seenR (T.dfsAt p f a so k).1).flatten[k*1]?=some (bv (T.dfsAt p f a so k).1[k]):=by rw[T.seenR_fl,Nat.mul_one];simp[hks]
  have hkl:k<(T.seenR (T.dfsAt p f a so k).1).length:=by unfold T.seenR;rw[List.length_map];omega
  refine Aw_skip ?_
  refine Aw_seq (Aw_block (Aw_sr ?_))
  refine Al_ml ?_
  refine Al_p (Pu_index rfl Tryz.underlying22 Tryz.sizeOf3 rfl rfl (rfl) (mapget hk)) ?_
  refine Al_p (Pu_l1 Tryz.isAgg3) ?_
  refine Al_mr ?_
  refine Al_mr ?_
  refine Al_ns ?_
  refine Al_ml ?_
  refine Al_ml ?_
  refine Al_p Pu_cp ?_
  refine Al_ml ?_
  refine Al_s (St_g [] trivial (λ_=>Pu_lb Tryz.isAgg291)) ?_
  refine Al_s (St_g [] trivial (λ_=>Pu_mvl)) ?_
  refine Al_s (St_g [26,27] ⟨⟨_,rfl⟩,⟨_,rfl⟩,trivial⟩ (λ_=>Pu_indexOw (j:=k) rfl Tryz.underlying291 Tryz.sizeOf4 rfl rfl rfl rfl hkl)) ?_
  refine Al_s (St_g [28] ⟨⟨_,rfl⟩,trivial⟩ (λ_=>Pu_loadArr rfl Tryz.isAgg4 rfl rfl hat)) ?_
  refine Al_s (St_g [29] ⟨⟨_,rfl⟩,trivial⟩ (λ_=>Pu_n)) ?_
  refine Al_p Pu_a ?_
  refine Al_nil ?_
  refine Aw_cond rfl (λh31=>?_) (λh31=>?_)
  ·skip
   have h31':p.getD k 0=(a:Int)∧(T.dfsAt p f a so k).1.getD k true=false:=by
    rw[hkb,hkd];simpa using h31
   have hak:a<k:=by
    rcases Nat.eq_zero_or_pos k with h0|h0
    ·have:=hp.root;rw[←h0,h31'.1]at this;omega
    ·have:=(hp.up k h0 hk).2;rw[h31'.1]at this;omega
   have hnx:T.dfsAt p f a so (k+1)=T.dfs p f k (T.dfsAt p f a so k):=by rw[T.dfsAt_succ,T.dstep,if_pos h31']
   have hcall:=hgo k (T.dfsAt p f a so k) hak hk (by omega) (by omega)
   refine Aw_region ?_
   refine Al_p (Pu_lb Tryz.isAgg292) ?_
   refine Al_ml ?_
   refine Al_gcallv [(1005,1005,0),(1015,1015,0),(1006,1006,0),(1016,1016,g),(1007,1007,0)] [(1026,1016)] hcall rfl rfl rfl (by decide) (by kernel_rfl) rfl ⟨rfl,rfl,rfl,rfl,rfl,trivial⟩ rfl [.d (iv k)] rfl ⟨Sub.rfl,trivial⟩ (λg34=>?_)
   refine Al_nil (Aw_region ?_)
   refine Al_p Pu_ad ?_
   refine Al_ml ?_
   refine Al_nil ?_
   exact⟨(k+1,g34),by omega,by simp only[];omega,Le.ov ⟨Sub.num (by omega),trivial⟩ ⟨Sub.rfl,Sub.rfl,Sub.rfl,Sub.rfl,Sub.rfl,trivial⟩ ⟨rfl,obeq (by rw[hnx]),rfl,obeq (by rw[hnx]),trivial⟩ ⟨rfl,trivial⟩⟩
  ·skip
   have hnx:T.dfsAt p f a so (k+1)=T.dfsAt p f a so k:=by
    rw[T.dfsAt_succ,T.dstep,if_neg]
    rw[hkb,hkd];rintro⟨h1,h2⟩;rw[h2]at h31;simp[h1]at h31
   refine Aw_skip (Aw_region ?_)
   refine Al_p Pu_ad ?_
   refine Al_ml ?_
   refine Al_nil ?_
   exact⟨(k+1,g),by omega,by simp only[];omega,Le.ov ⟨Sub.num (by omega),trivial⟩ ⟨Sub.rfl,Sub.rfl,Sub.rfl,Sub.rfl,Sub.rfl,trivial⟩ ⟨rfl,obeq (by rw[hnx]),rfl,obeq (by rw[hnx]),trivial⟩ ⟨rfl,trivial⟩⟩
 ·(try simp only[A.cd_]at h18)
  have hkk:k=p.length:=by omega
  refine Aw_exit ?_
  exact⟨_,_,[(1026,1016,g)],rfl,rfl,⟨rfl,obeq (by rw[hkk,T.dfsAt_all]),rfl,obeq (by rw[hkk,T.dfsAt_all]),rfl,trivial⟩,rfl⟩
theorem in_g (p:List Int) (hp:T.Ahead p):∀(f a:Nat) (so:T.DS),a<p.length→p.length≤a+f→so.1.length=p.length→so.2.length+7^f≤1000000→GCall Tryz.prog 215 [.d (iv a),.bx 1005 0 0,.bx 1006 0 0,.d (.fp [.sl 1 (p.map λx=>[iv x])]),.bx 1007 0 0] (T.inObs p so) (some (T.inObs2 p (T.dfs p f a so),.d (.tup [])))
 | 0,a,so,ha,hf,_,_=>by omega
 | f+1,a,so,ha,hf,hs,ho=>in_step p hp f a so (λa' so' h1 h2 h3 h4=>in_g p hp f a' so' h2 (by omega) h3 h4) ha hs ho
set_option maxRecDepth 100000 in
set_option maxHeartbeats 2000000 in
theorem below_a (p:List Int) (hp:T.Ahead p):ACall Tryz.prog 143 [.sl 1 (p.map λx=>[iv x]),iv (0:Nat)] (.sl 1 (T.outR (T.dfs p p.length 0 (List.replicate p.length false,[])).2)):=by
 refine AC_1 Tryz.func143 Tryz.ntmps143 Tryz.results143 λhok M0 w0 hnl=>?_
 have hp6:=hp.le
 have hin:=in_g p hp p.length 0 (List.replicate p.length false,[]) hp.pos (by omega) (by simp) (by
  have:(7:Nat)^p.length≤7^6:=Nat.pow_le_pow_right (by omega) hp6
  simp only[List.length_nil];omega)
 have hrep:(List.replicate p.length [AV.v (.bool false)])=T.seenR (List.replicate p.length false):=by simp[T.seenR]
 refine Aw_sr ?_
 refine Al_p (Pu_box1 rfl rfl (by nofun) (by nofun)) ?_
 refine Al_mr ?_
 refine Al_ns ?_
 refine Al_p (Pu_l1 Tryz.isAgg22) ?_
 refine Al_p (Pu_ln Tryz.underlying22) ?_
 refine Al_make1 (n:=p.length) (bytes:=1) (z:=.bool false) rfl rfl rfl (by decide) (by kernel_rfl) Tryz.underlying291 (by kernel_rfl) rfl trivial rfl rfl (by omega) (by decide) (λg10=>?_)
 refine Al_al Tryz.zeroValue291 λg5=>?_
 refine Al_s1 Tryz.isAgg291 Tryz.sizeOf291 ?_
 refine Al_ns ?_
 refine Al_al Tryz.zeroValue22 λg6=>?_
 refine Al_ns ?_
 refine Al_al Tryz.zeroValue292 λg7=>?_
 refine Al_ns ?_
 refine Al_p (Pu_makeFuncS (ys:=[]) (xs:=[_,_,_,_]) [] [.bx 5 g5 0,.bx 6 g6 0,.d (.fp [.sl 1 (p.map λx=>[iv x])]),.bx 7 g7 0] rfl trivial ⟨Sub.rfl,Sub.rfl,Sub.rfl,Sub.rfl,trivial⟩) ?_
 refine Al_s1 Tryz.isAgg292 Tryz.sizeOf292 ?_
 refine Al_nil (Aw_seq ?_)
 refine Aw_owncell 0 (k:=6) (k2:=16) (e:=3) (n:=1) rfl rfl rfl (λg16=>?_)
 refine Aw_region ?_
 refine Al_p (Pu_lb Tryz.isAgg292) ?_
 refine Al_ml ?_
 refine Al_gcallv [(1005,5,g5),(1015,10,g10),(1006,6,g6),(1016,16,g16),(1007,7,g7)] [(1026,16)] hin rfl rfl rfl (by decide) (by kernel_rfl) rfl ⟨rfl,obeq hrep,rfl,rfl,rfl,trivial⟩ rfl [.d (iv (0:Nat))] rfl ⟨Sub.rfl,trivial⟩ (λg14=>?_)
 refine Al_ns ?_
 refine Al_p (Pu_lb Tryz.isAgg22) ?_
 refine Al_mr ?_
 refine Al_nil ?_
 refine Aw_frz hnl (k:=16) [4] rfl ⟨rfl,trivial⟩ ?_
 exact Aw_ret (Sub.rfl)
namespace T
def allA:Nat→List (List Int)
 | 0=>[[]]
 | 1=>[[-1]]
 | n+2=>(allA (n+1)).flatMap λp=>(List.range (n+1)).map λ(k:Nat)=>p++[(k:Int)]
theorem getD_app {p:List Int}{x:Int}{i:Nat}(h:i<p.length):(p++[x]).getD i 0=p.getD i 0:=by
 rw[List.getD_eq_getElem?_getD,List.getD_eq_getElem?_getD,List.getElem?_append_left h]
theorem ahead_mem:∀(n:Nat) (p:List Int),p.length=n→Ahead p→p∈allA n
 | 0,p,hn,h=>by have:=h.pos;omega
 | 1,p,hn,h=>by
  match p,hn with
  | [x],_ =>
   have:=h.root
   simp at this
   simp[allA,this]
 | n+2,p,hn,h=>by
  have hne:p≠[]:=λe=>by rw[e]at hn;simp at hn
  obtain⟨q,x,rfl⟩:∃q x,p=q++[x]:=⟨p.dropLast,p.getLast hne,(List.dropLast_concat_getLast hne).symm⟩
  have hql:q.length=n+1:=by simp at hn;omega
  have hl:=h.le
  rw[List.length_append,List.length_singleton]at hl
  have hq:Ahead q:=⟨by omega,by omega,by rw[←getD_app (x:=x) (by omega)];exact h.root,λi h1 h2=>by
   have:=h.up i h1 (by rw[List.length_append,List.length_singleton];omega)
   rwa [getD_app h2]at this⟩
  have hx:=h.up (n+1) (by omega) (by rw[List.length_append,List.length_singleton];omega)
  have hxe:(q++[x]).getD (n+1) 0=x:=by
   rw[List.getD_eq_getElem?_getD,List.getElem?_append_right (by omega)]
   simp[hql]
  rw[hxe]at hx
  rw[allA,List.mem_flatMap]
  refine⟨q,ahead_mem (n+1) q hql hq,List.mem_map.2 ⟨x.toNat,List.mem_range.2 (by omega),?_⟩⟩
  rw[show((x.toNat:Nat):Int)=x from by omega]
theorem all_dfs:∀n∈List.range 7,∀p∈allA n,(dfs p n 0 (List.replicate n false,[])).2.length=n:=by decide +kernel
theorem dfs_all {p:List Int}(h:Ahead p):(dfs p p.length 0 (List.replicate p.length false,[])).2.length=p.length :=
 all_dfs p.length (List.mem_range.2 (by have:=h.le;omega)) p (ahead_mem _ p rfl h)
theorem ahead_at {p:List Int}(h:Ahead p) {k:Nat}(hk:k<p.length):(p[k]= -1∧k=0)∨(0≤p[k]∧p[k]<k∧1≤k):=by
 have e:p.getD k 0=p[k]:=by simp[List.getD_eq_getElem?_getD,hk]
 rcases Nat.eq_zero_or_pos k with h0|h0
 ·left
  have:=h.root
  subst h0
  rw[e]at this
  exact⟨this,rfl⟩
 ·right
  have:=h.up k h0 hk
  rw[e]at this
  exact⟨this.1,this.2,h0⟩
end T
set_option maxRecDepth 100000 in
theorem index0_a (p:List Int) (hp:T.Ahead p):ACall Tryz.prog 144 [.sl 1 (p.map λx=>[iv x]),iv (-1)] (iv (0:Nat)):=by
 refine AC_1 Tryz.func144 Tryz.ntmps144 Tryz.results144 λhok M0 w0 hnl=>?_
 have hp1:=hp.pos
 have hp6:=hp.le
 refine Aw_sr ?_
 refine Al_mr ?_
 refine Al_nil (Aw_seq (Aw_sr ?_))
 refine Al_ml ?_
 refine Al_p (Pu_ln Tryz.underlying22) ?_
 refine Al_ml ?_
 refine Al_nil (Aw_block ?_)
 refine Aw_loopk (ι:=Nat) [0,1,7] [] (λk=>[(8,.d (iv k))]) (λk=>[]) (λk=>k≤p.length∧k=0) (λk=>p.length - k) (0) (⟨Nat.zero_le _,rfl⟩) ⟨Sub.rfl,trivial⟩ trivial ?_
 rintro k ⟨hk0,hz⟩
 refine Aw_sr ?_
 refine Al_p Pu_cp ?_
 refine Al_nil (Aw_seq ?_)
 refine Aw_cond rfl (λh9=>?_) (λh9=>?_)
 ·(try simp only[A.cd_]at h9)
  subst hz
  have hk:0<p.length:=by omega
  have hat:=T.ahead_at hp hk
  refine Aw_skip (Aw_seq (Aw_block (Aw_sr ?_)))
  refine Al_ml ?_
  refine Al_mr ?_
  refine Al_ns ?_
  refine Al_ml ?_
  refine Al_ml ?_
  refine Al_ml ?_
  refine Al_p (Pu_index rfl Tryz.underlying22 Tryz.sizeOf3 rfl rfl (rfl) (mapget hk)) ?_
  refine Al_p (Pu_l1 Tryz.isAgg3) ?_
  refine Al_p Pu_cp ?_
  refine Al_nil ?_
  refine Aw_cond rfl (λh16=>?_) (λh16=>?_)
  ·(try simp only[A.cd_]at h16)
   refine Aw_sr ?_
   refine Al_ml ?_
   refine Al_mr ?_
   refine Al_nil ?_
   exact Aw_ret (Sub.rfl)
  ·(try simp only[A.cd_]at h16)
   exfalso;omega
 ·(try simp only[A.cd_]at h9)
  exfalso;omega
set_option maxRecDepth 100000 in
theorem trcheck_a (p:List Int) (hp:T.Ahead p):ACall Tryz.prog 80 [.sl 1 (p.map λx=>[iv x])] (bv true):=by
 refine AC_1 Tryz.func80 Tryz.ntmps80 Tryz.results80 λhok M0 w0 hnl=>?_
 have hp1:=hp.pos
 have hp6:=hp.le
 refine Aw_sr ?_
 refine Al_mr ?_
 refine Al_nil (Aw_seq (Aw_sr ?_))
 refine Al_ml ?_
 refine Al_p (Pu_ln Tryz.underlying22) ?_
 refine Al_p Pu_cp ?_
 refine Al_ml ?_
 refine Al_s (St_g [] trivial (λ_=>Pu_mvl)) ?_
 refine Al_s (St_g [10] ⟨⟨_,rfl⟩,trivial⟩ (λ_=>Pu_ln Tryz.underlying22)) ?_
 refine Al_s (St_g [11] ⟨⟨_,rfl⟩,trivial⟩ (λ_=>Pu_cp)) ?_
 refine Al_p Pu_o ?_
 refine Al_nil ?_
 refine Aw_cond rfl (λh13=>?_) (λh13=>?_)
 ·skip
  exfalso
  simp only[Bool.or_eq_true,decide_eq_true_eq]at h13
  omega
 ·skip
  refine Aw_skip (Aw_sr ?_)
  refine Al_mr ?_
  refine Al_nil (Aw_seq (Aw_sr ?_))
  refine Al_ml ?_
  refine Al_p (Pu_ln Tryz.underlying22) ?_
  refine Al_ml ?_
  refine Al_nil (Aw_block ?_)
  refine Aw_loopk (ι:=Nat) [0,14,15] [] (λk=>[(16,.d (iv k)),(3,.d (iv (if k=0 then 0 else 1)))]) (λk=>[]) (λk=>k≤p.length) (λk=>p.length - k) (0) (Nat.zero_le _) ⟨Sub.rfl,Sub.rfl,trivial⟩ trivial ?_
  rintro k hk0
  refine Aw_sr ?_
  refine Al_p Pu_cp ?_
  refine Al_nil (Aw_seq ?_)
  refine Aw_cond rfl (λh17=>?_) (λh17=>?_)
  ·(try simp only[A.cd_]at h17)
   have hk:k<p.length:=by omega
   have hat:=T.ahead_at hp hk
   refine Aw_skip ?_
   refine Aw_seq (Aw_block (Aw_sr ?_))
   refine Al_p (Pu_index rfl Tryz.underlying22 Tryz.sizeOf3 rfl rfl (rfl) (mapget hk)) ?_
   refine Al_p (Pu_l1 Tryz.isAgg3) ?_
   refine Al_mr ?_
   refine Al_nil (Aw_seq (Aw_sr ?_))
   refine Al_ml ?_
   refine Al_p Pu_cp ?_
   refine Al_ml ?_
   refine Al_s (St_g [] trivial (λ_=>Pu_mvl)) ?_
   refine Al_s (St_g [] trivial (λ_=>Pu_mvl)) ?_
   refine Al_s (St_g [24] ⟨⟨_,rfl⟩,trivial⟩ (λ_=>Pu_ln Tryz.underlying22)) ?_
   refine Al_s (St_g [23,25] ⟨⟨_,rfl⟩,⟨_,rfl⟩,trivial⟩ (λ_=>Pu_cp)) ?_
   refine Al_p Pu_o ?_
   refine Al_nil ?_
   refine Aw_cond rfl (λh27=>?_) (λh27=>?_)
   ·skip
    exfalso
    simp only[Bool.or_eq_true,decide_eq_true_eq]at h27
    omega
   ·skip
    refine Aw_skip (Aw_sr ?_)
    refine Al_ml ?_
    refine Al_p Pu_cp ?_
    refine Al_nil ?_
    refine Aw_cond rfl (λh29=>?_) (λh29=>?_)
    ·(try simp only[A.cd_]at h29)
     refine Aw_region ?_
     refine Al_ml ?_
     refine Al_p Pu_ad ?_
     refine Al_mr ?_
     refine Al_nil (Aw_region ?_)
     refine Al_p Pu_ad ?_
     refine Al_ml ?_
     refine Al_nil ?_
     exact⟨k+1,by omega,by omega,Le.ov ⟨Sub.num (by omega),Sub.num (by rw[if_pos (by omega:k=0),if_neg (by omega)];rfl),trivial⟩ ⟨Sub.rfl,Sub.rfl,Sub.rfl,trivial⟩ trivial trivial⟩
    ·(try simp only[A.cd_]at h29)
     refine Aw_skip (Aw_region ?_)
     refine Al_p Pu_ad ?_
     refine Al_ml ?_
     refine Al_nil ?_
     exact⟨k+1,by omega,by omega,Le.ov ⟨Sub.num (by omega),Sub.num (by rw[if_neg (by omega:¬k=0),if_neg (by omega)]),trivial⟩ ⟨Sub.rfl,Sub.rfl,Sub.rfl,trivial⟩ trivial trivial⟩
  ·(try simp only[A.cd_]at h17)
   have hkk:¬k=0:=by omega
   rw[if_neg hkk]
   refine Aw_exit (Aw_sr ?_)
   refine Al_ml ?_
   refine Al_p Pu_cp ?_
   refine Al_ml ?_
   refine Al_s (St_g [] trivial (λ_=>Pu_mvl)) ?_
   refine Al_s (St_g [] trivial (λ_=>Pu_mvl)) ?_
   refine Al_s (St_g [37] ⟨⟨_,rfl⟩,trivial⟩ (λ_=>Pu_call (index0_a p hp) rfl ⟨Sub.rfl,Sub.rfl,trivial⟩)) ?_
   refine Al_s (St_g [36,38] ⟨⟨_,rfl⟩,⟨_,rfl⟩,trivial⟩ (λ_=>Pu_call (below_a p hp) rfl ⟨Sub.rfl,Sub.rfl,trivial⟩)) ?_
   refine Al_s (St_gd [39] rfl rfl rfl rfl ⟨⟨_,rfl⟩,trivial⟩ (λhg40=>by exact Pu_len rfl Tryz.underlying22 rfl (by unfold T.outR;exact List.length_map ..))) ?_
   refine Al_s (St_g [] trivial (λ_=>Pu_mvl)) ?_
   refine Al_s (St_g [41] ⟨⟨_,rfl⟩,trivial⟩ (λ_=>Pu_ln Tryz.underlying22)) ?_
   refine Al_s (St_g [40,42] ⟨⟨_,rfl⟩,⟨_,rfl⟩,trivial⟩ (λ_=>Pu_cp)) ?_
   refine Al_p Pu_a ?_
   refine Al_mr ?_
   refine Al_nil ?_
   exact Aw_ret (Sub.bool (by rw[T.dfs_all hp];simp))
end Go.Proofs.YtdnijgdmohinlaaGreat
end
section
set_option maxRecDepth 100000
namespace Go.Proofs.YtdnijgdmohinlaaGreat
open Go.RowKit A R
open A.RowT
abbrev SC:=List (ByteArray×List Ver)
namespace J
def look (cs:SC) (k:ByteArray):Option (List Ver):=(cs.find? λp=>decide (p.1=k)).map (·.2)
def getC (cs:SC) (k:ByteArray):List Ver:=(look cs k).getD []
def RiseC (cs:SC):Prop:=Rise (cs.map (·.1))
def setC:SC→ByteArray→List Ver→SC
 | [],k,l=>[(k,l)]
 | p::r,k,l=>if p.1=k then(k,l)::r else if Op.bytesLess k.toList p.1.toList then(k,l)::p::r else p::setC r k l
theorem look_cons (p:ByteArray×List Ver) (r:SC) (k:ByteArray):look (p::r) k=if p.1=k then some p.2 else look r k:=by
 unfold look
 rw[List.find?_cons]
 split<;>simp_all
theorem look_set:∀(cs:SC) (k:ByteArray) (l:List Ver) (c:ByteArray),RiseC cs→look (setC cs k l) c=if c=k then some l else look cs c
 | [],k,l,c,_=>by
  rw[setC,look_cons]
  by_cases h:c=k
  ·rw[if_pos h.symm,if_pos h]
  ·rw[if_neg (λe=>h e.symm),if_neg h]
 | p::r,k,l,c,hr=>by
  have hc:=List.pairwise_cons.1 hr
  rw[setC]
  by_cases h1:p.1=k
  ·rw[if_pos h1,look_cons,look_cons]
   by_cases h:c=k
   ·rw[if_pos h.symm,if_pos h]
   ·rw[if_neg (λe=>h e.symm),if_neg h,if_neg (λe=>h (e.symm.trans h1))]
  ·rw[if_neg h1]
   split
   ·rw[look_cons,look_cons]
    by_cases h:c=k
    ·rw[if_pos h.symm,if_pos h]
    ·rw[if_neg (λe=>h e.symm),if_neg h]
   ·rw[look_cons,look_cons,look_set r k l c hc.2]
    by_cases h:c=k
    ·rw[if_pos h,if_neg (λe=>h1 (e.trans h)),if_pos h]
    ·rw[if_neg h];simp[h]
theorem mem_setC:∀(cs:SC) (k:ByteArray) (l:List Ver) (p:ByteArray×List Ver),p∈setC cs k l→p=(k,l)∨p∈cs
 | [],k,l,p,h=>by simp[setC]at h;exact .inl h
 | q::r,k,l,p,h=>by
  rw[setC]at h
  split at h
  ·rcases List.mem_cons.1 h with h|h
   ·exact .inl h
   ·exact .inr (List.mem_cons_of_mem _ h)
  ·split at h
   ·rcases List.mem_cons.1 h with h|h
    ·exact .inl h
    ·exact .inr h
   ·rcases List.mem_cons.1 h with rfl|h
    ·exact .inr (List.mem_cons_self ..)
    ·rcases mem_setC r k l p h with h|h
     ·exact .inl h
     ·exact .inr (List.mem_cons_of_mem _ h)
theorem rise_set:∀(cs:SC) (k:ByteArray) (l:List Ver),RiseC cs→RiseC (setC cs k l)
 | [],k,l,_=>List.pairwise_singleton ..
 | p::r,k,l,hr=>by
  have hc:=List.pairwise_cons.1 hr
  rw[setC]
  split
  ·rename_i h1
   subst h1
   exact hr
  ·rename_i h1
   split
   ·rename_i h2
    refine List.pairwise_cons.2 ⟨λy hy=>?_,hr⟩
    rcases List.mem_cons.1 hy with rfl|hy
    ·exact h2
    ·exact K.bl_trans _ _ _ h2 (hc.1 y hy)
   ·rename_i h2
    refine List.pairwise_cons.2 ⟨λy hy=>?_,rise_set r k l hc.2⟩
    obtain⟨q,hq,rfl⟩:=List.mem_map.1 hy
    rcases mem_setC r k l q hq with rfl|hq
    ·show Op.bytesLess p.1.toList k.toList=true
     cases h:Op.bytesLess p.1.toList k.toList with
     | true=>rfl
     | false=>exact(h1 (D.byte_inj (K.bl_tri _ _ h (by simpa using h2)))).elim
    ·exact hc.1 _ (List.mem_map_of_mem hq)
theorem look_mem {cs:SC}(h:RiseC cs) {p:ByteArray×List Ver}(hp:p∈cs):look cs p.1=some p.2:=by
 induction cs with
 | nil=>cases hp
 | cons q r ih =>
  have hc:=List.pairwise_cons.1 h
  rw[look_cons]
  rcases List.mem_cons.1 hp with rfl|hp
  ·rw[if_pos rfl]
  ·rw[if_neg,ih hc.2 hp]
   intro e
   have h9:Op.bytesLess q.1.toList p.1.toList=true:=hc.1 p.1 (List.mem_map_of_mem hp)
   rw[e,K.bl_irrefl]at h9;cases h9
theorem mem_look {cs:SC}{k:ByteArray}{l:List Ver}(h:look cs k=some l):(k,l)∈cs:=by
 unfold look at h
 obtain⟨p,hp,rfl⟩:=Option.map_eq_some_iff.1 h
 have h1:=List.mem_of_find?_eq_some hp
 have h2:=List.find?_some hp
 simp only[decide_eq_true_eq]at h2
 subst h2;exact h1
theorem look_keys {cs:SC}(h:RiseC cs) (k:ByteArray):(look cs k).isSome=true↔k∈cs.map (·.1):=by
 constructor
 ·intro hs
  obtain⟨l,hl⟩:=Option.isSome_iff_exists.1 hs
  exact List.mem_map_of_mem (mem_look hl)
 ·intro hm
  obtain⟨p,hp,rfl⟩:=List.mem_map.1 hm
  rw[look_mem h hp];rfl
theorem look_getA (cs:SC) (k:ByteArray):lookA (λl:List Ver=>versA l) (versA []) (look cs k)=versA (getC cs k):=by
 unfold getC
 cases look cs k<;>rfl
def Sm (m:Nat) (cs:SC):Prop:=cs.length≤m∧∀p∈cs,p.2.length≤m∧p.1.size≤9223372036854775807
theorem Sm.get {m:Nat}{cs:SC}(h:Sm m cs) (k:ByteArray):(getC cs k).length≤m:=by
 unfold getC
 cases hl:look cs k with
 | none=>exact Nat.zero_le _
 | some l=>exact(h.2 _ (mem_look hl)).1
def sput (rs:List Rng) (cs:SC) (v:Ver):SC×Bool:=if findR rs v.key<0 then(cs,false)else match put (getC cs v.key) v with
 | some l=>(setC cs v.key l,true)
 | none=>(cs,false)
def keysC (cs:SC):List ByteArray:=cs.map (·.1)
def shead (cs:SC) (k:ByteArray):Option Ver:=head (getC cs k)
def sat (cs:SC) (k:ByteArray) (n s:Int):Option Ver:=atc (getC cs k) n s
def have' (cs:SC):List Dep:=(keysC cs).map λk=>⟨k,((shead cs k).getD default).n,((shead cs k).getD default).s⟩
def pinsOf (pins:List Dep) (k:ByteArray):List (Int×Int):=(pins.filter λd=>d.key.toList==k.toList).map λd=>(d.n,d.s)
def sclean (cs:SC) (n s:Int) (pins:List Dep):SC:=cs.map λp=>(p.1,clean p.2 n s (pinsOf pins p.1))
end J
abbrev mapV (b:Nat) (cs:SC):AO:=.op (mapO keyS okS (λl:List Ver=>versA l) b cs.length (J.look cs))
theorem obeq2 {g b:Nat}{cs cs':SC}(h:cs=cs'):some (g,mapV b cs)=some (g,mapV b cs'):=by rw[h]
abbrev rngA (rs:List Rng):AV:=.sl 2 (rs.map Rng.row)
abbrev SH (rs:List Rng) (cs:SC) (b:Nat):Obs:=[(1001,.box 238 [.d (rngA rs),.ow 1002 0]),(1002,mapV b cs)]
set_option maxRecDepth 100000 in
theorem cloneR_g (l:List Rng) (hl:l.length≤1000000):GCall Tryz.prog 81 [.d (.sl 2 (l.map Rng.row))] [] (some ([(1001,.arr 56 2 (l.map Rng.row))],.ow 1001 0)):=by
 refine GC_1 Tryz.func81 Tryz.ntmps81 (ReadsS.r1 Tryz.results81) λhok hokB M0 w0=>?_
 refine Aw_sr ?_
 refine Al_mr ?_
 refine Al_nil (Aw_seq (Aw_sr ?_))
 refine Al_ml ?_
 refine Al_eqnil rfl rfl rfl (by decide) (by kernel_rfl) Tryz.underlying28 rfl (λnl hnl=>?_)
 refine Al_nil ?_
 refine Aw_cond rfl (λh4=>?_) (λh4=>?_)
 ·(try simp only[A.cd_]at h4)
  refine Aw_sr ?_
  refine Al_mr ?_
  refine Al_nil ?_
  obtain rfl:l=[]:=by simpa using hnl h4
  refine Aw_own (j:=2) (k:=2) (T:=56) (n:=2) rfl (λg=>?_)
  exact Aw_ret (⟨_,_,[(1001,2,g)],rfl,Sub.rfl,⟨rfl,trivial⟩,rfl⟩)
 ·(try simp only[A.cd_]at h4)
  refine Aw_skip (Aw_sr ?_)
  refine Al_slice0 rfl rfl rfl (by decide) Tryz.underlying28 Tryz.sizeOf56 (λg5=>?_)
  refine Al_ml ?_
  refine Al_append rfl rfl rfl (by decide) (by kernel_rfl) elem28 (by decide) Tryz.sizeOf56 rfl rfl rfl (by simp;omega) (by decide) (λg7=>?_)
  refine Al_mr ?_
  refine Al_nil ?_
  exact Aw_ret (⟨_,_,[(1001,5,g7)],rfl,Sub.rfl,⟨rfl,trivial⟩,rfl⟩)
set_option maxRecDepth 100000 in
theorem snew_g (rs:List Rng) (hrl:rs.length≤1000000):GCallE Tryz.prog 85 [.d (rngA rs)] [] (λb:Nat=>some (SH rs [] b,.bx 1001 0 0)):=by
 refine GC_EL Tryz.func85 Tryz.ntmps85 (ReadsS.r1 Tryz.results85) λhok hokB M0 w0 hl=>?_
 refine Aw_sr ?_
 refine Al_mr ?_
 refine Al_ns ?_
 refine Al_ml ?_
 refine Al_gcall [] [(1001,4)] (cloneR_g rs hrl) rfl rfl rfl (by decide) (by kernel_rfl) trivial rfl ⟨Sub.rfl,trivial⟩ (λg4=>?_)
 refine Al_frzL hl (k:=4) [4] rfl trivial ⟨rfl,trivial⟩ ?_
 refine Al_makeMap keyS okS (λl:List Ver=>versA l) rfl rfl rfl (by decide) (λb5 g5=>?_)
 refine Al_p (Pu_buildAg (aa:=[(0,_),(1,_)]) rfl Tryz.underlying238 Tryz.zeroValue238 places238 (by decide) ⟨rfl,rfl,rfl,rfl,trivial⟩ rfl) ?_
 refine Al_boxAg rfl rfl rfl (by decide) (by kernel_rfl) rfl (λg7=>?_)
 refine Al_mr ?_
 refine Al_nil ?_
 exact Aw_ret (⟨b5,_,_,[(1001,7,g7),(1002,5,g5)],rfl,Sub.rfl,⟨rfl,rfl,trivial⟩,rfl⟩)
set_option maxRecDepth 100000 in
theorem sranges_g (rs:List Rng) (cs:SC) (b:Nat) (hrl:rs.length≤1000000):GCall Tryz.prog 223 [.bx 1001 0 0] (SH rs cs b) (some (SH rs cs b,.d (rngA rs))):=by
 refine GC_L Tryz.func223 Tryz.ntmps223 (ReadsS.r1 Tryz.results223) λhok hokB M0 w0 hl=>?_
 refine Aw_sr ?_
 refine Al_mr ?_
 refine Al_nil (Aw_seq (Aw_sr ?_))
 refine Al_ml ?_
 refine Al_p (Pu_eqnilb Tryz.underlying158 rfl rfl) ?_
 refine Al_nil ?_
 refine Aw_condF rfl (rfl) ?_
 refine Aw_skip (Aw_sr ?_)
 refine Al_ml ?_
 refine Al_p Pu_nb ?_
 refine Al_p (Pu_fb 0 Tryz.underlying238 Tryz.sizeOf28) ?_
 refine Al_p (Pu_lb Tryz.isAgg28) ?_
 refine Al_gcall [] [(1001,9)] (cloneR_g rs hrl) rfl rfl rfl (by decide) (by kernel_rfl) trivial rfl ⟨Sub.rfl,trivial⟩ (λg9=>?_)
 refine Al_mr ?_
 refine Al_nil ?_
 refine Aw_frzL hl (k:=9) [2] rfl ⟨rfl,⟨_,rfl,λ_ _ h=>h⟩,rfl,⟨_,rfl,λ_ _ h=>h⟩,trivial⟩ ⟨rfl,trivial⟩ ?_
 exact Aw_ret (⟨_,_,[],rfl,Sub.rfl,⟨rfl,rfl,trivial⟩,rfl⟩)
set_option maxRecDepth 100000 in
theorem schain_g (rs:List Rng) (cs:SC) (b:Nat) (key:ByteArray) (hs:J.Sm 1000 cs):GCall Tryz.prog 99 [.bx 1001 0 0,.d (tv key)] (SH rs cs b) (some (SH rs cs b,.d (versA (J.getC cs key)))):=by
 refine GC_L Tryz.func99 Tryz.ntmps99 (ReadsS.r1 Tryz.results99) λhok hokB M0 w0 hl=>?_
 have hk:key.size≤A.maxI:=(hok (tv key) (by simp)).text
 refine Aw_sr ?_
 refine Al_mr ?_
 refine Al_nil (Aw_seq (Aw_sr ?_))
 refine Al_ml ?_
 refine Al_p (Pu_eqnilb Tryz.underlying158 rfl rfl) ?_
 refine Al_nil ?_
 refine Aw_condF rfl (rfl) ?_
 refine Aw_skip (Aw_sr ?_)
 refine Al_ml ?_
 refine Al_p Pu_nb ?_
 refine Al_p (Pu_fb 1 Tryz.underlying238 Tryz.sizeOf236) ?_
 refine Al_p (Pu_lb Tryz.isAgg236) ?_
 refine Al_ml ?_
 refine Al_p (Pu_lookup (c:=key) (z:=versA []) keyS_T rfl Tryz.underlying236 Tryz.zeroValue35 (λM w=>.nil _ _ _) rfl rfl rfl (Only.v _) hk) ?_
 refine Al_gcall [] [(1001,13)] (cloneV_g (J.getC cs key) (Nat.le_trans (hs.get key) (by decide))) rfl rfl rfl (by decide) (by kernel_rfl) trivial rfl ⟨Sub.d (J.look_getA cs key),trivial⟩ (λg13=>?_)
 refine Al_mr ?_
 refine Al_nil ?_
 refine Aw_frzL hl (k:=13) [4] rfl ⟨rfl,⟨_,rfl,λ_ _ h=>h⟩,rfl,⟨_,rfl,λ_ _ h=>h⟩,trivial⟩ ⟨rfl,trivial⟩ ?_
 exact Aw_ret (⟨_,_,[],rfl,Sub.rfl,⟨rfl,rfl,trivial⟩,rfl⟩)
set_option maxRecDepth 100000 in
theorem shead_g (rs:List Rng) (cs:SC) (b:Nat) (key:ByteArray) (hs:J.Sm 1000 cs):GCall Tryz.prog 186 [.bx 1001 0 0,.d (tv key)] (SH rs cs b) (some (SH rs cs b,.d (verA (J.shead cs key)))):=by
 refine GC_L Tryz.func186 Tryz.ntmps186 (ReadsS.cN1 Tryz.results186 Tryz.isAgg50 Tryz.sizeOf50) λhok hokB M0 w0 hl=>?_
 refine Aw_sr ?_
 refine Al_al Tryz.zeroValue50 λg4=>?_
 refine Al_mr ?_
 refine Al_ns ?_
 refine Al_ml ?_
 refine Al_ml ?_
 refine Al_gcall [(1001,1001,0),(1002,1002,0)] [] (schain_g rs cs b key hs) rfl rfl rfl (by decide) (by kernel_rfl) ⟨rfl,rfl,trivial⟩ rfl ⟨Sub.rfl,Sub.rfl,trivial⟩ (λg8=>?_)
 refine Al_p (Pu_call (chead_a (J.getC cs key)) rfl ⟨Sub.rfl,trivial⟩) ?_
 refine Al_p Pu_ex ?_
 refine Al_p Pu_ex ?_
 refine Al_sN Tryz.isAgg50 Tryz.sizeOf50 ?_
 refine Al_mr ?_
 refine Al_nil ?_
 exact Aw_ret (⟨_,_,[],rfl,⟨_,rfl,_,_,_,_,_,[_,_,_,_,_,_],_,rfl,rfl,rfl,rfl,Sub.rfl,rfl⟩,⟨rfl,rfl,trivial⟩,rfl⟩)
set_option maxRecDepth 100000 in
theorem sat_g (rs:List Rng) (cs:SC) (b:Nat) (key:ByteArray) (n s:Int) (hs:J.Sm 1000 cs):GCall Tryz.prog 366 [.bx 1001 0 0,.d (tv key),.d (.row [iv n,iv s])] (SH rs cs b) (some (SH rs cs b,.d (verA (J.sat cs key n s)))):=by
 refine GC_L Tryz.func366 Tryz.ntmps366 (ReadsS.cN1 Tryz.results366 Tryz.isAgg50 Tryz.sizeOf50) λhok hokB M0 w0 hl=>?_
 refine Aw_sr ?_
 refine Al_p Pu_bN ?_
 refine Al_al Tryz.zeroValue50 λg6=>?_
 refine Al_mr ?_
 refine Al_nil ?_
 refine Aw_seq ?_
 refine Aw_drawn (by kernel_rfl) ?_
 refine Ad_t 0 rfl (PuI_move (.inl rfl) (by conv=>lhs;whnf)) ?_
 refine Ad_t 1 rfl (PuI_move (.inl rfl) (by conv=>lhs;whnf)) ?_
 refine Ad_two 2 3 rfl rfl (by kernel_rfl) ?_ ?_
 ·refine Al_gcall [(1001,1001,0),(1002,1002,0)] [] (schain_g rs cs b key hs) rfl rfl rfl (by decide) (by kernel_rfl) ⟨rfl,rfl,trivial⟩ rfl ⟨Sub.rfl,Sub.rfl,trivial⟩ (λg10=>?_)
  refine Al_nil ?_
  refine Ad_drawP 3 7 2 (by kernel_rfl) (by decide) rfl (by rfl) (by rfl) ?_
  refine Dr_p (Pu_lN Tryz.isAgg47 Tryz.sizeOf47) ?_
  refine Dr_p (Pu_call (cat_a (J.getC cs key) n s) rfl ⟨Sub.rfl,Sub.rfl,trivial⟩) ?_
  refine Dr_p Pu_ex ?_
  refine Dr_p Pu_ex ?_
  refine Dr_nil ?_
  refine Ad_o 7 ?_
  refine Al_sN Tryz.isAgg50 Tryz.sizeOf50 ?_
  refine Al_nil ?_
  refine Ad_t 8 rfl (PuI_move (.inr rfl) (by conv=>lhs;whnf)) ?_
  refine Ad_d ?_
  exact Aw_ret (⟨_,_,[],rfl,⟨_,rfl,_,_,_,_,_,[_,_,_,_,_,_],_,rfl,rfl,rfl,rfl,Sub.rfl,rfl⟩,⟨rfl,rfl,trivial⟩,rfl⟩)
 ·refine Al_p (Pu_lN Tryz.isAgg47 Tryz.sizeOf47) ?_
  refine Al_nil ?_
  refine Ad_o 2 ?_
  refine Al_gcall [(1001,1001,0),(1002,1002,0)] [] (schain_g rs cs b key hs) rfl rfl rfl (by decide) (by kernel_rfl) ⟨rfl,rfl,trivial⟩ rfl ⟨Sub.rfl,Sub.rfl,trivial⟩ (λg10=>?_)
  refine Al_nil ?_
  refine Ad_drawP 4 7 2 (by kernel_rfl) (by decide) rfl (by rfl) (by rfl) ?_
  refine Dr_p (Pu_call (cat_a (J.getC cs key) n s) rfl ⟨Sub.rfl,Sub.rfl,trivial⟩) ?_
  refine Dr_p Pu_ex ?_
  refine Dr_p Pu_ex ?_
  refine Dr_nil ?_
  refine Ad_o 7 ?_
  refine Al_sN Tryz.isAgg50 Tryz.sizeOf50 ?_
  refine Al_nil ?_
  refine Ad_t 8 rfl (PuI_move (.inr rfl) (by conv=>lhs;whnf)) ?_
  refine Ad_d ?_
  exact Aw_ret (⟨_,_,[],rfl,⟨_,rfl,_,_,_,_,_,[_,_,_,_,_,_],_,rfl,rfl,rfl,rfl,Sub.rfl,rfl⟩,⟨rfl,rfl,trivial⟩,rfl⟩)
set_option maxRecDepth 100000 in
theorem skeys_g (rs:List Rng) (cs:SC) (b:Nat) (hr:J.RiseC cs) (hs:J.Sm 1000 cs):GCall Tryz.prog 185 [.bx 1001 0 0] (SH rs cs b) (some (SH rs cs b,.d (.sl 1 ((J.keysC cs).map λs=>[tv s])))):=by
 refine GC_L Tryz.func185 Tryz.ntmps185 (ReadsS.r1 Tryz.results185) λhok hokB M0 w0 hl=>?_
 refine Aw_sr ?_
 refine Al_mr ?_
 refine Al_nil (Aw_seq (Aw_sr ?_))
 refine Al_ml ?_
 refine Al_p (Pu_eqnilb Tryz.underlying158 rfl rfl) ?_
 refine Al_nil ?_
 refine Aw_condF rfl (rfl) ?_
 refine Aw_skip (Aw_sr ?_)
 refine Al_ml ?_
 refine Al_p Pu_nb ?_
 refine Al_p (Pu_fb 1 Tryz.underlying238 Tryz.sizeOf236) ?_
 refine Al_p (Pu_lb Tryz.isAgg236) ?_
 refine Al_gcall [(1001,1002,0)] [(1002,9)] (keysV_g keyS okS (λl:List Ver=>versA l) b cs.length (J.look cs)) rfl rfl rfl (by decide) (by kernel_rfl) ⟨rfl,trivial⟩ rfl ⟨Sub.rfl,trivial⟩ (λg9=>?_)
 refine Al_gcall [(1001,1002,0),(1002,9,g9)] [(1003,10)] (sortedV_g (λl:List Ver=>versA l) b cs.length (J.look cs) (J.keysC cs) hr (J.look_keys hr) (Nat.le_trans hs.1 (by decide))) rfl rfl rfl (by decide) (by kernel_rfl) ⟨rfl,rfl,trivial⟩ rfl ⟨Sub.rfl,trivial⟩ (λg10=>?_)
 refine Al_mr ?_
 refine Al_nil ?_
 refine Aw_frzL hl (k:=10) [2] rfl ⟨rfl,⟨_,rfl,λ_ _ h=>h⟩,rfl,⟨_,rfl,λ_ _ h=>h⟩,trivial⟩ ⟨rfl,trivial⟩ ?_
 exact Aw_ret (⟨_,_,[],rfl,Sub.rfl,⟨rfl,rfl,trivial⟩,rfl⟩)
namespace J
theorem put_len {l m:List Ver}{v:Ver}(h:put l v=some m):m.length=l.length+1:=by
 unfold put at h
 split at h
 ·cases h
  have:=frm_le l v.n v.s
  simp;omega
 ·cases h
theorem put_ok {l m:List Ver}{v:Ver}(h:put l v=some m):checkB v=true:=by
 unfold put at h
 split at h
 ·rename_i hc;exact hc.1
 ·cases h
theorem set_len:∀(cs:SC) (k:ByteArray) (l:List Ver),(setC cs k l).length≤cs.length+1
 | [],k,l=>Nat.le_refl _
 | p::r,k,l=>by
  rw[setC]
  split
  ·simp
  ·split
   ·simp
   ·have:=set_len r k l
    simp;omega
theorem sput_sm {m:Nat}{rs:List Rng}{cs:SC}(h:Sm m cs) (v:Ver):Sm (m+1) (sput rs cs v).1:=by
 have h':Sm (m+1) cs:=⟨Nat.le_succ_of_le h.1,λp hp=>⟨Nat.le_succ_of_le (h.2 p hp).1,(h.2 p hp).2⟩⟩
 unfold sput
 split
 ·exact h'
 ·split
  ·rename_i l hl
   refine⟨Nat.le_trans (set_len _ _ _) (Nat.succ_le_succ h.1),λp hp=>?_⟩
   rcases mem_setC _ _ _ _ hp with rfl|hp
   ·show l.length≤m+1∧_
    rw[put_len hl]
    have:=h.get v.key
    have h3:=ver_key (put_ok hl)
    exact⟨by omega,by show v.key.size≤_;omega⟩
   ·exact h'.2 p hp
  ·exact h'
theorem sput_rise {rs:List Rng}{cs:SC}(h:RiseC cs) (v:Ver):RiseC (sput rs cs v).1:=by
 unfold sput
 split
 ·exact h
 ·split
  ·exact rise_set _ _ _ h
  ·exact h
theorem take_have (cs:SC) {j:Nat}(hj:j<cs.length):(have' cs).take (j+1)=(have' cs).take j++[⟨(keysC cs).getD j default,((shead cs ((keysC cs).getD j default)).getD default).n,((shead cs ((keysC cs).getD j default)).getD default).s⟩]:=by
 have h1:j<(have' cs).length:=by unfold have' keysC;simpa using hj
 have h2:(keysC cs).getD j default=cs[j].1:=by unfold keysC;simp[hj]
 rw[List.take_succ_eq_append_getElem h1,h2]
 unfold have' keysC
 simp
end J
instance:Inhabited ByteArray:=⟨⟨#[]⟩⟩
set_option maxRecDepth 100000 in
set_option maxHeartbeats 1000000 in
theorem sput_g (rs:List Rng) (cs:SC) (b:Nat) (v:Ver) (hrl:rs.length≤1000000) (hr:J.RiseC cs) (hs:J.Sm 1000 cs):GCall Tryz.prog 300 [.bx 1001 0 0,.d (.row v.row)] (SH rs cs b) (some (SH rs (J.sput rs cs v).1 b,.d (bv (J.sput rs cs v).2))):=by
 refine GC_L Tryz.func300 Tryz.ntmps300 (ReadsS.r1 Tryz.results300) λhok hokB M0 w0 hl=>?_
 have hk:v.key.size≤A.maxI:=((hok (.row v.row) (by simp)).row (tv v.key) (by simp[Ver.row])).text
 have hfi:=find_a rs v.key hrl
 have hpu:=cput_a (J.getC cs v.key) v (hs.get v.key)
 refine Aw_sr ?_
 refine Al_p Pu_bN ?_
 refine Al_mr ?_
 refine Al_nil (Aw_seq (Aw_seq ?_))
 refine Aw_dr 12 ?_
 refine Dr_ml ?_
 refine Dr_p (Pu_eqnilb Tryz.underlying158 rfl rfl) ?_
 refine Dr_ml ?_
 refine Dr_s (St_g [] trivial (λ_=>Pu_mvl)) ?_
 refine Dr_s (St_g [10] ⟨⟨_,rfl⟩,trivial⟩ (λ_=>Pu_nb)) ?_
 refine Dr_s (St_g [11] ⟨⟨_,rfl⟩,trivial⟩ (λ_=>Pu_fb 0 Tryz.underlying238 Tryz.sizeOf28)) ?_
 refine Dr_s (St_g [12] ⟨⟨_,rfl⟩,trivial⟩ (λ_=>Pu_lb Tryz.isAgg28)) ?_
 refine Dr_s (St_g [] trivial (λ_=>Pu_fd 0 Tryz.underlying50 Tryz.sizeOf9)) ?_
 refine Dr_s (St_g [14] ⟨⟨_,rfl⟩,trivial⟩ (λ_=>Pu_l1 Tryz.isAgg9)) ?_
 refine Dr_s (St_g [13,15] ⟨⟨_,rfl⟩,⟨_,rfl⟩,trivial⟩ (λ_=>Pu_call (hfi) rfl ⟨Sub.rfl,Sub.rfl,trivial⟩)) ?_
 refine Dr_s (St_g [16] ⟨⟨_,rfl⟩,trivial⟩ (λ_=>Pu_cp)) ?_
 refine Dr_p Pu_o ?_
 refine Dr_nil (Al_nil ?_)
 refine Aw_cond rfl (λh18=>?_) (λh18=>?_)
 ·skip
  have hno:J.sput rs cs v=(cs,false):=by
   unfold J.sput
   rw[if_pos (by simpa using h18)]
  refine Aw_sr ?_
  refine Al_mr ?_
  refine Al_nil ?_
  exact Aw_ret (⟨_,_,[],rfl,Sub.bool (by rw[hno]),⟨rfl,obeq2 (by rw[hno]),trivial⟩,rfl⟩)
 ·skip
  have hfn:¬findR rs v.key<0:=by simpa using h18
  refine Aw_skip (Aw_seq ?_)
  refine Aw_dr 14 ?_
  refine Dr_ml ?_
  refine Dr_p Pu_nb ?_
  refine Dr_p (Pu_fb 1 Tryz.underlying238 Tryz.sizeOf236) ?_
  refine Dr_p (Pu_lb Tryz.isAgg236) ?_
  refine Dr_p (Pu_fd 0 Tryz.underlying50 Tryz.sizeOf9) ?_
  refine Dr_p (Pu_l1 Tryz.isAgg9) ?_
  refine Dr_p (Pu_lookup (c:=v.key) (z:=versA []) keyS_T rfl Tryz.underlying236 Tryz.zeroValue35 (λM w=>.nil _ _ _) rfl rfl rfl (Only.v _) hk) ?_
  refine Dr_p (Pu_lN Tryz.isAgg50 Tryz.sizeOf50) ?_
  refine Dr_p (Pu_call (hpu) rfl ⟨Sub.d (J.look_getA cs v.key),Sub.rfl,trivial⟩) ?_
  refine Dr_ml ?_
  refine Dr_p Pu_ex ?_
  refine Dr_p Pu_ex ?_
  refine Dr_p Pu_mvr ?_
  refine Dr_p Pu_mvr ?_
  refine Dr_nil (Al_nil ?_)
  refine Aw_seq (Aw_sr ?_)
  refine Al_ml ?_
  refine Al_nil ?_
  refine Aw_cond rfl (λh31=>?_) (λh31=>?_)
  ·skip
   obtain⟨l,hl2⟩:=Option.isSome_iff_exists.1 h31
   have hyes:J.sput rs cs v=(J.setC cs v.key l,true):=by
    unfold J.sput
    rw[if_neg hfn,hl2]
   have hlk:(λc=>if c=v.key then some l else J.look cs c)=J.look (J.setC cs v.key l):=funext λc=>(J.look_set cs v.key l c hr).symm
   refine Aw_dr 7 ?_
   refine Dr_ml ?_
   refine Dr_p Pu_nb ?_
   refine Dr_p (Pu_fb 1 Tryz.underlying238 Tryz.sizeOf236) ?_
   refine Dr_p (Pu_lb Tryz.isAgg236) ?_
   refine Dr_p (Pu_fd 0 Tryz.underlying50 Tryz.sizeOf9) ?_
   refine Dr_p (Pu_l1 Tryz.isAgg9) ?_
   refine Dr_ml ?_
   refine Dr_nil ?_
   refine Al_mapUpdate (c:=v.key) (v:=l) keyS_T rfl rfl rfl (by kernel_rfl) Tryz.underlying236 (by have:=hs.1;simp only[maxLen];omega) rfl rfl rfl (Only.v _) hk (Sub.d (by rw[hl2];rfl)) ?_
   refine Al_mapT (k:=1002) ((J.setC cs v.key l).map (·.1)) rfl hlk (λc hc=>(J.look_keys (J.rise_set cs v.key l hr) c).1 hc) (List.length_map ..) ?_
   refine Al_ns ?_
   refine Al_ml ?_
   refine Al_mr ?_
   refine Al_nil ?_
   exact Aw_ret (⟨_,_,[],rfl,Sub.bool (by rw[h31,hyes]),⟨rfl,obeq2 (by rw[hyes]),trivial⟩,rfl⟩)
  ·skip
   have hyes:J.sput rs cs v=(cs,false):=by
    unfold J.sput
    rw[if_neg hfn]
    cases hp:J.put (J.getC cs v.key) v with
    | none=>rfl
    | some l=>rw[hp]at h31;cases h31
   refine Aw_skip (Aw_sr ?_)
   refine Al_ml ?_
   refine Al_mr ?_
   refine Al_nil ?_
   exact Aw_ret (⟨_,_,[],rfl,Sub.bool (by rw[h31,hyes]),⟨rfl,obeq2 (by rw[hyes]),trivial⟩,rfl⟩)
set_option maxRecDepth 100000 in
set_option maxHeartbeats 1000000 in
theorem shave_g (rs:List Rng) (cs:SC) (b:Nat) (hr:J.RiseC cs) (hs:J.Sm 1000 cs):GCall Tryz.prog 106 [.bx 1001 0 0] (SH rs cs b) (some (SH rs cs b,.d (.sl 3 ((J.have' cs).map Dep.row)))):=by
 refine GC_L Tryz.func106 Tryz.ntmps106 (ReadsS.r1 Tryz.results106) λhok hokB M0 w0 hl=>?_
 have hcl:=hs.1
 refine Aw_sr ?_
 refine Al_mr ?_
 refine Al_ns ?_
 refine Al_mr ?_
 refine Al_nil (Aw_seq (Aw_sr ?_))
 refine Al_ml ?_
 refine Al_gcall [(1001,1001,0),(1002,1002,0)] [] (skeys_g rs cs b hr hs) rfl rfl rfl (by decide) (by kernel_rfl) ⟨rfl,rfl,trivial⟩ rfl ⟨Sub.rfl,trivial⟩ (λg9=>?_)
 refine Al_p (Pu_ln Tryz.underlying39) ?_
 refine Al_ml ?_
 refine Al_nil (Aw_block ?_)
 refine Aw_own (j:=3) (k:=3) (T:=110) (n:=3) rfl (λg0=>?_)
 refine Aw_loopk (ι:=Nat×Nat) [0,9,10] [1001,1002] (λ(k,g)=>[(11,.d (iv k)),(3,.ow 3 g)]) (λ(k,g)=>[(3,g,.arr 110 3 (((J.have' cs).take k).map Dep.row))]) (λ(k,g)=>k≤cs.length) (λ(k,g)=>cs.length - k) ((0,g0)) (Nat.zero_le _) ⟨Sub.rfl,Sub.rfl,trivial⟩ ⟨rfl,trivial⟩ ?_
 rintro⟨k,g⟩ hk0
 refine Aw_sr ?_
 refine Al_p Pu_cp ?_
 refine Al_nil (Aw_seq ?_)
 refine Aw_cond rfl (λh12=>?_) (λh12=>?_)
 ·(try simp only[A.cd_]at h12)
  have hk:k<cs.length:=by first|omega|(unfold J.keysC at h12;simp at h12;omega)
  have hkk:k<(J.keysC cs).length:=by unfold J.keysC;simpa using hk
  refine Aw_skip (Aw_seq (Aw_block (Aw_sr ?_)))
  refine Al_p (Pu_index rfl Tryz.underlying39 Tryz.sizeOf9 rfl rfl (rfl) (mapgetD (d:=default) hkk)) ?_
  refine Al_p (Pu_l1 Tryz.isAgg9) ?_
  refine Al_mr ?_
  refine Al_ns ?_
  refine Al_ml ?_
  refine Al_ml ?_
  refine Al_gcall [(1001,1001,0),(1002,1002,0)] [] (shead_g rs cs b ((J.keysC cs).getD k default) hs) rfl rfl rfl (by decide) (by kernel_rfl) ⟨rfl,rfl,trivial⟩ rfl ⟨Sub.rfl,Sub.rfl,trivial⟩ (λg18=>?_)
  refine Al_ml ?_
  refine Al_p Pu_ex ?_
  refine Al_p Pu_ex ?_
  refine Al_al Tryz.zeroValue50 λg6=>?_
  refine Al_sN Tryz.isAgg50 Tryz.sizeOf50 ?_
  refine Al_mr ?_
  refine Al_nil (Aw_region ?_)
  refine Al_ml ?_
  refine Al_ml ?_
  refine Al_p (Pu_fb 3 Tryz.underlying50 Tryz.sizeOf47) ?_
  refine Al_p (Pu_lbN (r:=[_,_]) Tryz.isAgg47 Tryz.sizeOf47) ?_
  refine Al_p (Pu_build (aa:=[(0,_),(1,_)]) rfl Tryz.underlying110 Tryz.zeroValue110 places110 (by kernel_rfl) ⟨rfl,rfl,rfl,rfl,rfl,rfl,trivial⟩ rfl) ?_
  refine Al_p (Pu_slice1 rfl Tryz.underlying48 Tryz.sizeOf110 Tryz.zeroValue110 rfl (by decide) (by decide) (by kernel_rfl) rfl rfl rfl) ?_
  refine Al_append rfl rfl rfl (by decide) (by kernel_rfl) elem48 (by decide) Tryz.sizeOf110 rfl rfl rfl (by simp;omega) (by decide) (λg27=>?_)
  refine Al_mr ?_
  refine Al_nil (Aw_region ?_)
  refine Al_p Pu_ad ?_
  refine Al_ml ?_
  refine Al_nil ?_
  exact⟨(k+1,g27),by omega,by simp only[];omega,Le.ov ⟨Sub.num (by omega),Sub.rfl,trivial⟩ ⟨Sub.rfl,Sub.rfl,Sub.rfl,trivial⟩ ⟨obeq (by rw[J.take_have cs hk,List.map_append];rfl),trivial⟩ ⟨rfl,rfl,trivial⟩⟩
 ·(try simp only[A.cd_]at h12)
  have hkn:k=cs.length:=by first|omega|(unfold J.keysC at h12;simp at h12;omega)
  have htk:(J.have' cs).take k=J.have' cs:=List.take_of_length_le (by subst hkn;unfold J.have' J.keysC;simp)
  refine Aw_exit (Aw_sr ?_)
  refine Al_ml ?_
  refine Al_mr ?_
  refine Al_nil ?_
  refine Aw_frzL hl (k:=3) [2] rfl ⟨rfl,⟨_,rfl,λ_ _ h=>h⟩,rfl,⟨_,rfl,λ_ _ h=>h⟩,trivial⟩ ⟨rfl,trivial⟩ ?_
  exact Aw_ret (⟨_,_,[],rfl,Sub.d (by rw[htk]),⟨rfl,rfl,trivial⟩,rfl⟩)
namespace J
theorem keys_at (cs:SC) {k:Nat}(hk:k<cs.length):(keysC cs).getD k default=cs[k].1:=by unfold keysC;simp[hk]
end J
end Go.Proofs.YtdnijgdmohinlaaGreat
end
section
set_option maxRecDepth 100000
namespace Go.Proofs.YtdnijgdmohinlaaGreat
open Go.RowKit A R
open A.RowT
set_option maxRecDepth 100000 in
theorem indexD_a (l:List Dep) (f:FuncId) (caps:List AV) (p:Dep→Bool) (hf:∀x,ACall Tryz.prog f ([.row x.row]++caps) (bv (p x))):ACall Tryz.prog 245 [.sl 3 (l.map Dep.row),.fn f caps] (iv (S.find p l)):=by
 refine AC_1 Tryz.func245 Tryz.ntmps245 Tryz.results245 λhok M0 w0 hnl=>?_
 have hlen:=(hok _ (List.mem_cons_self ..)).len
 rw[List.length_map]at hlen
 refine Aw_sr ?_
 refine Al_mr ?_
 refine Al_nil (Aw_seq (Aw_sr ?_))
 refine Al_ml ?_
 refine Al_p (Pu_ln Tryz.underlying48) ?_
 refine Al_ml ?_
 refine Al_nil (Aw_block ?_)
 refine Aw_loopk (ι:=Nat) [0,1,7] [] (λk=>[(8,.d (iv k))]) (λk=>[]) (λk=>k≤l.length∧∀j (h:j<l.length),j<k→p l[j]=false) (λk=>l.length - k) (0) (⟨Nat.zero_le _,by intros;omega⟩) ⟨Sub.rfl,trivial⟩ trivial ?_
 rintro k ⟨hk0,hk2⟩
 refine Aw_sr ?_
 refine Al_p Pu_cp ?_
 refine Al_nil (Aw_seq ?_)
 refine Aw_cond rfl (λh9=>?_) (λh9=>?_)
 ·(try simp only[A.cd_]at h9)
  have hk:k<l.length:=by omega
  refine Aw_skip (Aw_seq (Aw_block (Aw_sr ?_)))
  refine Al_ml ?_
  refine Al_mr ?_
  refine Al_ns ?_
  refine Al_ml ?_
  refine Al_ml ?_
  refine Al_ml ?_
  refine Al_p (Pu_index rfl Tryz.underlying48 Tryz.sizeOf110 rfl rfl (rfl) (mapget hk)) ?_
  refine Al_p (Pu_lN Tryz.isAgg110 Tryz.sizeOf110) ?_
  refine Al_p (Pu_callv (aa:=[(λx=>.row x.row) l[k]]) (caps:=caps) (hf l[k]) rfl rfl ⟨Sub.rfl,trivial⟩) ?_
  refine Al_nil ?_
  refine Aw_cond rfl (λh16=>?_) (λh16=>?_)
  ·skip
   refine Aw_sr ?_
   refine Al_ml ?_
   refine Al_mr ?_
   refine Al_nil ?_
   exact Aw_ret (Sub.num (S.find_at hk h16 hk2))
  ·skip
   have h16':p l[k]=false:=h16
   refine Aw_skip (Aw_region ?_)
   refine Al_p Pu_ad ?_
   refine Al_ml ?_
   refine Al_nil ?_
   exact⟨k+1,⟨by omega,λj hj hjk=>by
    by_cases e:j=k
    ·subst e;exact h16'
    ·exact hk2 j hj (by omega)⟩,by omega,Le.ov ⟨Sub.num (by omega),trivial⟩ ⟨Sub.rfl,Sub.rfl,Sub.rfl,trivial⟩ trivial trivial⟩
 ·(try simp only[A.cd_]at h9)
  obtain rfl:k=l.length:=by omega
  refine Aw_exit (Aw_sr ?_)
  refine Al_mr ?_
  refine Al_nil ?_
  exact Aw_ret (Sub.num (S.find_no hk2))
set_option maxRecDepth 100000 in
set_option maxHeartbeats 1000000 in
theorem delfuncD_g (l:List Dep) (f:FuncId) (caps:List AV) (p:Dep→Bool) (hf:∀x,ACall Tryz.prog f ([.row x.row]++caps) (bv (p x))) (hl:l.length≤1000000):GCall Tryz.prog 327 [.ow 1001 0,.d (.fn f caps)] [(1001,.arr 110 3 (l.map Dep.row))] (some ([(1002,.arr 110 3 ((l.filter λx=>!p x).map Dep.row))],.ow 1002 0)):=by
 refine GC_1 Tryz.func327 Tryz.ntmps327 (ReadsS.r1 Tryz.results327) λhok hokB M0 w0=>?_
 have hu:∀(c:List Dep),∀r∈c.map Dep.row,r.length=3:=λc r hr=>by obtain⟨x,_,rfl⟩:=List.mem_map.1 hr;rfl
 refine Aw_sr ?_
 refine Al_mr ?_
 refine Al_ns ?_
 refine Al_ml ?_
 refine Al_ml ?_
 refine Al_p (Pu_callR (indexD_a l f caps p hf) rfl rfl ⟨.inr ⟨1001,0,_,_,_,rfl,rfl,rfl⟩,.inl Sub.rfl,trivial⟩) ?_
 refine Al_mr ?_
 refine Al_nil (Aw_seq (Aw_sr ?_))
 refine Al_ml ?_
 refine Al_p Pu_cp ?_
 refine Al_nil ?_
 refine Aw_cond rfl (λh12=>?_) (λh12=>?_)
 ·(try simp only[A.cd_]at h12)
  have hno:=S.find_neg h12
  refine Aw_sr ?_
  refine Al_ml ?_
  refine Al_mr ?_
  refine Al_nil ?_
  exact Aw_ret (⟨_,_,[(1002,1001,0)],rfl,Sub.rfl,⟨obeq (by rw[hno]),trivial⟩,rfl⟩)
 ·(try simp only[A.cd_]at h12)
  obtain⟨i0,hi0,hfi,hpi,hbef⟩:=S.find_pos (p:=p) (l:=l) h12
  refine Aw_skip (Aw_seq (Aw_sr ?_))
  refine Al_ml ?_
  refine Al_p Pu_ad ?_
  refine Al_mr ?_
  refine Al_nil (Aw_block ?_)
  refine Aw_loopk (ι:=Nat×Nat×(List Dep)) [0,1] [] (λ(i,j,c)=>[(5,.d (iv i)),(6,.d (iv j))]) (λ(i,j,c)=>[(1001,0,.arr 110 3 (c.map Dep.row))]) (λ(i,j,c)=>c.length=l.length∧i≤j∧j≤l.length∧c.take i=(l.take j).filter (λx=>!p x)∧c.drop j=l.drop j∧i<j) (λ(i,j,c)=>l.length - j) (i0,i0+1,l) (⟨rfl,by omega,by omega,S.filter_first hi0 hpi hbef,rfl,by omega⟩) ⟨Sub.num hfi,Sub.num (by rw[hfi];omega),trivial⟩ ⟨rfl,trivial⟩ ?_
  rintro⟨i,j,c⟩ ⟨hcl,hij,hjl,hct,hcd,hij2⟩
  refine Aw_seq (Aw_sr ?_)
  refine Al_ml ?_
  refine Al_ml ?_
  refine Al_p (Pu_lenOw (m:=l.length) rfl Tryz.underlying48 rfl rfl (by rw[List.length_map,hcl])) ?_
  refine Al_p Pu_cp ?_
  refine Al_nil ?_
  refine Aw_cond rfl (λh19=>?_) (λh19=>?_)
  ·(try simp only[A.cd_]at h19)
   have hj:j<l.length:=by omega
   have hjc:j<(c.map Dep.row).length:=by rw[List.length_map];omega
   have hcj:c.getD j default=l[j]:=S.drop_at hcd hj (by omega)
   have hrow:=S.row_at (hu c) hjc
   rw[S.map_getD (by omega:j<c.length),hcj]at hrow
   have hset:=S.flat_set (hu c) (x:=Dep.row l[j]) (i:=i) (by rw[List.length_map];omega) rfl
   refine Aw_skip ?_
   refine Aw_seq (Aw_block (Aw_sr ?_))
   refine Al_ml ?_
   refine Al_ml ?_
   refine Al_p (Pu_indexOw (j:=j) rfl Tryz.underlying48 Tryz.sizeOf110 rfl rfl rfl rfl hjc) ?_
   refine Al_p (Pu_loadArrN rfl Tryz.isAgg110 Tryz.sizeOf110 rfl rfl hrow rfl) ?_
   refine Al_al Tryz.zeroValue110 λg7=>?_
   refine Al_sN Tryz.isAgg110 Tryz.sizeOf110 ?_
   refine Al_ns ?_
   refine Al_ml ?_
   refine Al_p (Pu_lbN (r:=[_,_,_]) Tryz.isAgg110 Tryz.sizeOf110) ?_
   refine Al_p (Pu_callv (aa:=[(λx=>.row x.row) l[j]]) (caps:=caps) (hf l[j]) rfl rfl ⟨Sub.rfl,trivial⟩) ?_
   refine Al_p Pu_n ?_
   refine Al_nil ?_
   refine Aw_cond rfl (λh29=>?_) (λh29=>?_)
   ·skip
    have hpj:p l[j]=false:=by simpa using h29
    refine Aw_sr ?_
    refine Al_ml ?_
    refine Al_ml ?_
    refine Al_p (Pu_lbN (r:=[_,_,_]) Tryz.isAgg110 Tryz.sizeOf110) ?_
    refine Al_p (Pu_indexOw (j:=i) rfl Tryz.underlying48 Tryz.sizeOf110 rfl rfl rfl rfl (by rw[List.length_map];omega)) ?_
    refine Al_storeArr ((c.map Dep.row).set i (Dep.row l[j])) rfl rfl rfl (by kernel_rfl) Tryz.sizeOf110 rfl rfl rfl rfl rfl (by rw[List.length_map];omega) (by simp) (λq hq=>by rcases List.mem_or_eq_of_mem_set hq with h|rfl;exact hu c q h;rfl) hset ?_
    refine Al_nil (Aw_region ?_)
    refine Al_ml ?_
    refine Al_p Pu_ad ?_
    refine Al_mr ?_
    refine Al_nil (Aw_region ?_)
    refine Al_ml ?_
    refine Al_p Pu_ad ?_
    refine Al_mr ?_
    refine Al_nil ?_
    exact⟨(i+1,j+1,c.set i l[j]),⟨by rw[List.length_set,hcl],by omega,by omega,S.del_keep hj hct hpj (by omega),by rw[List.drop_set_of_lt (by omega),←List.drop_drop,hcd,List.drop_drop],by omega⟩,by simp only[];omega,Le.ov ⟨Sub.num (by omega),Sub.num (by omega),trivial⟩ ⟨Sub.rfl,Sub.rfl,trivial⟩ ⟨obeq (by rw[List.map_set]),trivial⟩ trivial⟩
   ·skip
    have hpj:p l[j]=true:=by simpa using h29
    refine Aw_skip (Aw_region ?_)
    refine Al_ml ?_
    refine Al_p Pu_ad ?_
    refine Al_mr ?_
    refine Al_nil ?_
    exact⟨(i,j+1,c),⟨hcl,by omega,by omega,S.del_drop hj hct hpj,by rw[←List.drop_drop,hcd,List.drop_drop],by omega⟩,by simp only[];omega,Le.ov ⟨Sub.rfl,Sub.num (by omega),trivial⟩ ⟨Sub.rfl,Sub.rfl,trivial⟩ ⟨rfl,trivial⟩ trivial⟩
  ·(try simp only[A.cd_]at h19)
   obtain rfl:j=l.length:=by omega
   rw[List.take_length]at hct
   have hfl:∀zz,((c.map Dep.row).take i++List.replicate ((c.map Dep.row).length - i) zz).take i=(l.filter λx=>!p x).map Dep.row:=λzz=>by
    rw[←hct,List.map_take,List.take_append_of_le_length (by simp;omega),List.take_take,Nat.min_self]
   refine Aw_exit (Aw_sr ?_)
   refine Al_ml ?_
   refine Al_ml ?_
   refine Al_p (Pu_sliceOw i (c.map Dep.row).length rfl Tryz.underlying48 Tryz.sizeOf110 rfl rfl ⟨_,rfl,rfl⟩ rfl ⟨by rw[List.length_map];omega,.inl (Nat.le_refl _)⟩) ?_
   refine Al_clear0 rfl rfl rfl (by kernel_rfl) Tryz.underlying48 Tryz.zeroValue110 rfl (by decide) rfl (by decide) rfl rfl rfl ?_
   refine Al_ns ?_
   refine Al_ml ?_
   refine Al_ml ?_
   refine Al_cut i rfl rfl rfl (by decide) (by kernel_rfl) Tryz.underlying48 Tryz.sizeOf110 rfl rfl rfl ⟨_,rfl,rfl⟩ (by simp;omega) (λg41=>?_)
   refine Al_mr ?_
   refine Al_nil ?_
   exact Aw_ret (⟨_,_,[(1002,1001,g41)],rfl,Sub.rfl,⟨obeq (hfl _),trivial⟩,rfl⟩)
namespace J
def only(p:List Dep) (own:List Rng):List Dep:=p.filter λd=>!decide (findR own d.key<0)
def lacks (hv:List Dep) (d:Dep):Bool:=D.lessB (D.get hv d.key).1 (D.get hv d.key).2 d.n d.s
def misses (v:Ver) (hv:List Dep) (own:List Rng):List Dep:=(only v.past own).filter (lacks hv)
def ready (hv:List Dep) (own:List Rng) (v:Ver):Bool:=decide (((misses v hv own).length:Int)=0)
def nextI (l:List Ver) (hv:List Dep) (own:List Rng):Nat:=l.findIdx (ready hv own)
end J
theorem ponly1_a (own:List Rng) (d:Dep) (hl:own.length≤1000000):ACall Tryz.prog 328 [.row d.row,.fp [rngA own]] (bv (decide (findR own d.key<0))):=by
 refine AC_1 Tryz.func328 Tryz.ntmps328 Tryz.results328 λhok M0 w0 hnl=>?_
 refine Aw_sr ?_
 refine Al_p Pu_bN ?_
 refine Al_mr ?_
 refine Al_ns ?_
 refine Al_p (Pu_l1 Tryz.isAgg28) ?_
 refine Al_p (Pu_fd 0 Tryz.underlying110 Tryz.sizeOf9) ?_
 refine Al_p (Pu_l1 Tryz.isAgg9) ?_
 refine Al_p (Pu_call (find_a own d.key hl) rfl ⟨Sub.rfl,Sub.rfl,trivial⟩) ?_
 refine Al_p Pu_cp ?_
 refine Al_mr ?_
 refine Al_nil ?_
 exact Aw_ret (Sub.rfl)
theorem ponly_g (p:List Dep) (own:List Rng) (hl:own.length≤1000000) (hp:p.length≤1000000):GCall Tryz.prog 251 [.d (.sl 3 (p.map Dep.row)),.d (rngA own)] [] (some ([(1001,.arr 110 3 ((J.only p own).map Dep.row))],.ow 1001 0)):=by
 refine GC_1 Tryz.func251 Tryz.ntmps251 (ReadsS.r1 Tryz.results251) λhok hokB M0 w0=>?_
 have hdel:=delfuncD_g p 328 [.fp [rngA own]] (λd=>decide (findR own d.key<0)) (λd=>ponly1_a own d hl) hp
 refine Aw_sr ?_
 refine Al_p (Pu_box1 rfl rfl (by nofun) (by nofun)) ?_
 refine Al_mr ?_
 refine Al_ns ?_
 refine Al_ml ?_
 refine Al_gcall [] [(1001,6)] (cloneD_g p hp) rfl rfl rfl (by decide) (by kernel_rfl) trivial rfl ⟨Sub.rfl,trivial⟩ (λg6=>?_)
 refine Al_p (Pu_makeFunc (caps:=[_]) rfl ⟨Sub.rfl,trivial⟩) ?_
 refine Al_gcall [(1001,6,g6)] [(1002,8)] (hdel) rfl rfl rfl (by decide) (by kernel_rfl) ⟨rfl,trivial⟩ rfl ⟨Sub.rfl,Sub.rfl,trivial⟩ (λg8=>?_)
 refine Al_mr ?_
 refine Al_nil ?_
 exact Aw_ret (⟨_,_,[(1001,8,g8)],rfl,Sub.rfl,⟨rfl,trivial⟩,rfl⟩)
theorem qmisses1_a (hv:List Dep) (d:Dep) (hs:D.Srt hv) (hl:hv.length≤1000000):ACall Tryz.prog 394 [.row d.row,.fp [.sl 3 (hv.map Dep.row)]] (bv (!J.lacks hv d)):=by
 refine AC_1 Tryz.func394 Tryz.ntmps394 Tryz.results394 λhok M0 w0 hnl=>?_
 refine Aw_sr ?_
 refine Al_p Pu_bN ?_
 refine Al_mr ?_
 refine Al_nil (Aw_seq ?_)
 refine Aw_dr 8 ?_
 refine Dr_p (Pu_l1 Tryz.isAgg48) ?_
 refine Dr_p (Pu_fd 0 Tryz.underlying110 Tryz.sizeOf9) ?_
 refine Dr_p (Pu_l1 Tryz.isAgg9) ?_
 refine Dr_p (Pu_call (pget_a hv d.key hs hl) rfl ⟨Sub.rfl,Sub.rfl,trivial⟩) ?_
 refine Dr_p (Pu_fd 1 Tryz.underlying110 Tryz.sizeOf47) ?_
 refine Dr_p (Pu_lN Tryz.isAgg47 Tryz.sizeOf47) ?_
 refine Dr_p (Pu_call (less_a _ _ _ _) rfl ⟨Sub.rfl,Sub.rfl,trivial⟩) ?_
 refine Dr_p Pu_n ?_
 refine Dr_nil ?_
 refine Al_mr ?_
 refine Al_nil ?_
 exact Aw_ret (Sub.rfl)
theorem qmisses_g (v:Ver) (hv:List Dep) (own:List Rng) (hl:own.length≤1000000) (hp:v.past.length≤1000000) (hs:D.Srt hv) (hh:hv.length≤1000000):GCall Tryz.prog 367 [.d (.row v.row),.d (.sl 3 (hv.map Dep.row)),.d (rngA own)] [] (some ([(1001,.arr 110 3 ((J.misses v hv own).map Dep.row))],.ow 1001 0)):=by
 refine GC_1 Tryz.func367 Tryz.ntmps367 (ReadsS.r1 Tryz.results367) λhok hokB M0 w0=>?_
 have hol:(J.only v.past own).length≤1000000:=Nat.le_trans (List.length_filter_le ..) hp
 have hdel:=delfuncD_g (J.only v.past own) 394 [.fp [.sl 3 (hv.map Dep.row)]] (λd=>!J.lacks hv d) (λd=>qmisses1_a hv d hs hh) hol
 refine Aw_sr ?_
 refine Al_p Pu_bN ?_
 refine Al_p (Pu_box1 rfl rfl (by nofun) (by nofun)) ?_
 refine Al_mr ?_
 refine Al_ns ?_
 refine Al_p (Pu_fd 5 Tryz.underlying50 Tryz.sizeOf48) ?_
 refine Al_p (Pu_l1 Tryz.isAgg48) ?_
 refine Al_ml ?_
 refine Al_gcall [] [(1001,10)] (ponly_g v.past own hl hp) rfl rfl rfl (by decide) (by kernel_rfl) trivial rfl ⟨Sub.rfl,Sub.rfl,trivial⟩ (λg10=>?_)
 refine Al_p (Pu_makeFunc (caps:=[_]) rfl ⟨Sub.rfl,trivial⟩) ?_
 refine Al_gcall [(1001,10,g10)] [(1002,12)] (hdel) rfl rfl rfl (by decide) (by kernel_rfl) ⟨rfl,trivial⟩ rfl ⟨Sub.rfl,Sub.rfl,trivial⟩ (λg12=>?_)
 refine Al_mr ?_
 refine Al_nil ?_
 exact Aw_ret (⟨_,_,[(1001,12,g12)],rfl,Sub.rfl,⟨obeq (by unfold J.misses;simp only[Bool.not_not]),trivial⟩,rfl⟩)
theorem qcheck_a (v:Ver) (hv:List Dep) (own:List Rng) (hl:own.length≤1000000) (hp:v.past.length≤1000000) (hs:D.Srt hv) (hh:hv.length≤1000000):ACall Tryz.prog 335 [.row v.row,.sl 3 (hv.map Dep.row),rngA own] (bv (J.ready hv own v)):=by
 refine AC_1 Tryz.func335 Tryz.ntmps335 Tryz.results335 λhok M0 w0 hnl=>?_
 refine Aw_sr ?_
 refine Al_p Pu_bN ?_
 refine Al_mr ?_
 refine Al_ns ?_
 refine Al_p (Pu_lN Tryz.isAgg50 Tryz.sizeOf50) ?_
 refine Al_ml ?_
 refine Al_ml ?_
 refine Al_gcall [] [(1001,10)] (qmisses_g v hv own hl hp hs hh) rfl rfl rfl (by decide) (by kernel_rfl) trivial rfl ⟨Sub.rfl,Sub.rfl,Sub.rfl,trivial⟩ (λg10=>?_)
 refine Al_p (Pu_lenOw rfl Tryz.underlying48 rfl rfl (List.length_map ..)) ?_
 refine Al_p Pu_cp ?_
 refine Al_mr ?_
 refine Al_nil ?_
 exact Aw_ret (Sub.rfl)
def J.pushE (l:List Ver) (v:Ver):Int:=if J.checkB v then(if (24:Int)≤l.length then 15 else 0)else 1
theorem qpush_a (l:List Ver) (v:Ver) (hp:l.length≤1000000):ACall Tryz.prog 262 [versA l,.row v.row] (.tup [versA (if J.pushE l v=0 then l++[v]else[]),iv (J.pushE l v)]):=by
 refine AC_2 Tryz.func262 Tryz.ntmps262 Tryz.results262 λhok M0 w0 hnl=>?_
 refine Aw_sr ?_
 refine Al_p Pu_bN ?_
 refine Al_mr ?_
 refine Al_mr ?_
 refine Al_nil (Aw_seq (Aw_block (Aw_sr ?_)))
 refine Al_p (Pu_lN Tryz.isAgg50 Tryz.sizeOf50) ?_
 refine Al_p (Pu_call (wcheck_a v) rfl ⟨Sub.rfl,trivial⟩) ?_
 refine Al_p Pu_n ?_
 refine Al_mr ?_
 refine Al_nil ?_
 refine Aw_cond rfl (λh6=>?_) (λh6=>?_)
 ·(try simp only[A.cd_]at h6)
  have he:J.pushE l v=1:=by
   unfold J.pushE
   rw[if_neg (by rw[Bool.not_eq_true];simpa using h6)]
  refine Aw_sr ?_
  refine Al_mr ?_
  refine Al_mr ?_
  refine Al_nil ?_
  refine Aw_ret ?_
  rw[he];exact⟨Sub.nil,Sub.rfl⟩
 ·(try simp only[A.cd_]at h6)
  refine Aw_sr ?_
  refine Al_ml ?_
  refine Al_p (Pu_ln Tryz.underlying35) ?_
  refine Al_p Pu_cp ?_
  refine Al_mr ?_
  refine Al_nil ?_
  refine Aw_cond rfl (λh10=>?_) (λh10=>?_)
  ·(try simp only[A.cd_]at h10)
   have he:J.pushE l v=15:=by
    unfold J.pushE
    rw[if_pos (by simpa using h6),if_pos (by simpa using h10)]
   refine Aw_sr ?_
   refine Al_mr ?_
   refine Al_mr ?_
   refine Al_nil ?_
   refine Aw_ret ?_
   rw[he];exact⟨Sub.nil,Sub.rfl⟩
  ·(try simp only[A.cd_]at h10)
   have he:J.pushE l v=0:=by
    unfold J.pushE
    rw[if_pos (by simpa using h6),if_neg (by simpa using h10)]
   refine Aw_skip (Aw_seq ?_)
   refine Aw_dr 8 ?_
   refine Dr_ml ?_
   refine Dr_ml ?_
   refine Dr_p (Pu_ln Tryz.underlying35) ?_
   refine Dr_ml ?_
   refine Dr_p (Pu_ln Tryz.underlying35) ?_
   refine Dr_p (Pu_sub3 l.length rfl Tryz.underlying35 Tryz.sizeOf50 rfl ⟨_,rfl,rfl⟩ ⟨_,rfl,rfl⟩ (by rw[List.length_map];exact Nat.le_refl _)) ?_
   refine Dr_p (Pu_lN Tryz.isAgg50 Tryz.sizeOf50) ?_
   refine Dr_p (Pu_slice1 rfl Tryz.underlying35 Tryz.sizeOf50 Tryz.zeroValue50 rfl (by decide) (by decide) (by kernel_rfl) rfl rfl rfl) ?_
   refine Dr_nil ?_
   refine Al_p (Pu_appendC rfl elem35 (by decide) Tryz.sizeOf50 rfl rfl (by simp;omega) (by decide)) ?_
   refine Al_mr ?_
   refine Al_mr ?_
   refine Al_nil ?_
   exact Aw_ret (⟨Sub.d (by rw[he,if_pos rfl];show AV.sl 6 _=AV.sl 6 ((l++[v]).map Ver.row);rw[List.map_append,List.take_of_length_le (by rw[List.length_map];exact Nat.le_refl _)];rfl),Sub.num he.symm⟩)
namespace J
theorem next_at {l:List Ver}{hv:List Dep}{own:List Rng}{k:Nat}(hk:k<l.length) (hr:ready hv own (l.getD k default)=true) (hno:∀j,j<k→ready hv own (l.getD j default)=false):nextI l hv own=k∧l[nextI l hv own]?=some (l.getD k default)∧l.eraseIdx (nextI l hv own)=l.take k++l.drop (k+1):=by
 have h1:nextI l hv own=k:=by
  unfold nextI
  rw[List.findIdx_eq hk]
  refine⟨by rw[List.getD_eq_getElem?_getD,List.getElem?_eq_getElem hk]at hr;exact hr,λj hj=>?_⟩
  have:=hno j hj
  rw[List.getD_eq_getElem?_getD,List.getElem?_eq_getElem (by omega)]at this
  exact this
 refine⟨h1,by rw[h1,List.getD_eq_getElem?_getD,List.getElem?_eq_getElem hk];rfl,by rw[h1,List.eraseIdx_eq_take_drop_succ]⟩
theorem next_no {l:List Ver}{hv:List Dep}{own:List Rng}(hno:∀j,j<l.length→ready hv own (l.getD j default)=false):l[nextI l hv own]?=none∧l.eraseIdx (nextI l hv own)=l:=by
 have h1:nextI l hv own=l.length:=by
  unfold nextI
  rw[List.findIdx_eq_length]
  intro x hx
  obtain⟨j,hj,rfl⟩:=List.getElem_of_mem hx
  have:=hno j hj
  rw[List.getD_eq_getElem?_getD,List.getElem?_eq_getElem hj]at this
  exact this
 exact⟨by rw[h1];simp,by rw[h1,List.eraseIdx_of_length_le (Nat.le_refl _)]⟩
def nextV (l:List Ver) (hv:List Dep) (own:List Rng):Option Ver:=l[nextI l hv own]?
def nextL (l:List Ver) (hv:List Dep) (own:List Rng):List Ver:=l.eraseIdx (nextI l hv own)
end J
abbrev nextA (l:List Ver) (hv:List Dep) (own:List Rng):AV:=.tup [.row ((J.nextV l hv own).getD default).row,versA (J.nextL l hv own),bv (J.nextV l hv own).isSome]
set_option maxRecDepth 100000 in
theorem qnext_a (l:List Ver) (hv:List Dep) (own:List Rng) (hl:own.length≤1000000) (hp:∀v∈l,v.past.length≤1000000) (hs:D.Srt hv) (hh:hv.length≤1000000) (hll:l.length≤1000000):ACall Tryz.prog 263 [versA l,.sl 3 (hv.map Dep.row),rngA own] (nextA l hv own):=by
 refine AC_G Tryz.func263 Tryz.ntmps263 (Reads.cN2 Tryz.results263 Tryz.isAgg50 Tryz.sizeOf50) λhok M0 w0 hnl=>?_
 refine Aw_sr ?_
 refine Al_al Tryz.zeroValue50 λg6=>?_
 refine Al_mr ?_
 refine Al_mr ?_
 refine Al_nil (Aw_scope (Aw_seq (Aw_label (Aw_seq (Aw_sr ?_)))))
 refine Al_ml ?_
 refine Al_p (Pu_ln Tryz.underlying35) ?_
 refine Al_ml ?_
 refine Al_nil (Aw_block ?_)
 refine Aw_loopk (ι:=Nat) [0,1,2,6,11,12] [6] (λk=>[(13,.d (iv k))]) (λk=>[]) (λk=>k≤l.length∧∀j,j<k→J.ready hv own (l.getD j default)=false) (λk=>l.length - k) (0) (⟨Nat.zero_le _,λj hj=>absurd hj (Nat.not_lt_zero _)⟩) ⟨Sub.rfl,trivial⟩ trivial ?_
 rintro k ⟨hk0,hno⟩
 refine Aw_sr ?_
 refine Al_p Pu_cp ?_
 refine Al_nil (Aw_seq ?_)
 refine Aw_cond rfl (λh14=>?_) (λh14=>?_)
 ·(try simp only[A.cd_]at h14)
  have hk:k<l.length:=by omega
  have hmem:l.getD k default∈l:=by rw[List.getD_eq_getElem?_getD,List.getElem?_eq_getElem hk];exact List.getElem_mem hk
  refine Aw_skip (Aw_seq (Aw_block (Aw_sr ?_)))
  refine Al_ml ?_
  refine Al_p (Pu_index rfl Tryz.underlying35 Tryz.sizeOf50 rfl rfl (rfl) (mapgetD (d:=default) hk)) ?_
  refine Al_p (Pu_lN Tryz.isAgg50 Tryz.sizeOf50) ?_
  refine Al_al Tryz.zeroValue50 λg10=>?_
  refine Al_mr ?_
  refine Al_sN Tryz.isAgg50 Tryz.sizeOf50 ?_
  refine Al_nil (Aw_seq (Aw_sr ?_))
  refine Al_p (Pu_lbN (r:=[_,_,_,_,_,_]) Tryz.isAgg50 Tryz.sizeOf50) ?_
  refine Al_ml ?_
  refine Al_ml ?_
  refine Al_p (Pu_call (qcheck_a (l.getD k default) hv own hl (hp _ hmem) hs hh) rfl ⟨Sub.rfl,Sub.rfl,Sub.rfl,trivial⟩) ?_
  refine Al_p Pu_n ?_
  refine Al_nil ?_
  refine Aw_cond rfl (λh22=>?_) (λh22=>?_)
  ·(try simp only[A.cd_]at h22)
   refine Aw_exit (Aw_region ?_)
   refine Al_p Pu_ad ?_
   refine Al_ml ?_
   refine Al_nil ?_
   exact⟨k+1,⟨by omega,λj hj=>by
    rcases Nat.lt_succ_iff_lt_or_eq.1 hj with h|rfl
    ·exact hno j h
    ·exact h22⟩,by omega,Le.ov ⟨Sub.num (by omega),trivial⟩ ⟨Sub.rfl,Sub.rfl,Sub.rfl,Sub.rfl,Sub.rfl,Sub.rfl,trivial⟩ trivial ⟨rfl,trivial⟩⟩
  ·(try simp only[A.cd_]at h22)
   obtain⟨e1,e2,e3⟩:=J.next_at hk h22 hno
   refine Aw_skip (Aw_seq ?_)
   refine Aw_dr 10 ?_
   refine Dr_p (Pu_lbN (r:=[_,_,_,_,_,_]) Tryz.isAgg50 Tryz.sizeOf50) ?_
   refine Dr_ml ?_
   refine Dr_ml ?_
   refine Dr_ml ?_
   refine Dr_p (Pu_sub3 k rfl Tryz.underlying35 Tryz.sizeOf50 rfl ⟨_,rfl,rfl⟩ ⟨_,rfl,rfl⟩ (by rw[List.length_map];omega)) ?_
   refine Dr_ml ?_
   refine Dr_ml ?_
   refine Dr_p Pu_ad ?_
   refine Dr_p (Pu_subL (k+1) (l.length) rfl Tryz.underlying35 Tryz.sizeOf50 rfl ⟨_,rfl,rfl⟩ ((List.length_map ..).symm) ⟨by first|omega|(rw[List.length_map];omega),by first|omega|(rw[List.length_map];omega)⟩) ?_
   refine Dr_p (Pu_appendC rfl elem35 (by decide) Tryz.sizeOf50 rfl rfl (by simp;omega) (by decide)) ?_
   refine Dr_nil ?_
   refine Al_sN Tryz.isAgg50 Tryz.sizeOf50 ?_
   refine Al_mr ?_
   refine Al_mr ?_
   refine Al_nil ?_
   refine Aw_ret ?_
   exact⟨_,_,_,_,_,[_,_,_,_,_,_],versA (l.take k++l.drop (k+1)),_,rfl,rfl,rfl,rfl,Sub.d (by
    have h1:(l.map Ver.row).take l.length=l.map Ver.row:=List.take_of_length_le (by simp)
    show AV.sl 6 _=AV.sl 6 _
    rw[List.map_append,List.map_take,List.map_drop,h1]),Sub.rfl,by unfold nextA J.nextV J.nextL;rw[e2,e3];rfl⟩
 ·(try simp only[A.cd_]at h14)
  obtain⟨e2,e3⟩:=J.next_no (l:=l) (hv:=hv) (own:=own) λj hj=>hno j (by omega)
  refine Aw_exit (Aw_sr ?_)
  refine Al_p (Pu_build (aa:=[]) rfl Tryz.underlying50 Tryz.zeroValue50 places50 (by kernel_rfl) trivial rfl) ?_
  refine Al_ml ?_
  refine Al_sN Tryz.isAgg50 Tryz.sizeOf50 ?_
  refine Al_mr ?_
  refine Al_mr ?_
  refine Al_nil ?_
  refine Aw_boxle (k:=6) ((default:Ver).row.map .d) rfl ⟨Sub.rfl,Sub.rfl,Sub.rfl,Sub.rfl,Sub.rfl,Sub.nil,trivial⟩ ?_
  exact Aw_ret (⟨_,_,_,_,_,[_,_,_,_,_,_],versA l,_,rfl,rfl,rfl,rfl,Sub.rfl,Sub.rfl,by unfold nextA J.nextV J.nextL;rw[e2,e3];rfl⟩)
end Go.Proofs.YtdnijgdmohinlaaGreat
end
section
namespace Go.Proofs.YtdnijgdmohinlaaGreat.A
open Go Go.RowKit
section
variable {P:Program}{N:Nat}{M0:Nat→Prop}{w0:Base}{ops:Array Oper}{Q:Exit→ASt→Prop}{o:Oper}{l:List Oper}{st:ASt}
theorem Pu_to {s s':SV}(h:Pu P st o s) (e:s=s'):Pu P st o s':=e▸h
end
section
variable {κ α:Type}{kv:κ→Value}{ok:κ→Prop}{enc:α→AV}
end
end Go.Proofs.YtdnijgdmohinlaaGreat.A
end
section
set_option maxRecDepth 100000
namespace Go.Proofs.YtdnijgdmohinlaaGreat
open Go Go.RowKit A R
open A.RowT
namespace D
theorem addAll_good1:∀(q p:List Dep),Good p→Good (addAll p q)
 | [],p,h=>h
 | d::q,p,h=>addAll_good1 q (add p d) (add_good h d)
theorem nil_good:Good []:=⟨List.Pairwise.nil,λx hx=>by cases hx⟩
theorem mergeL_good (l:List (List Dep)):Good (mergeL l):=addAll_good1 _ _ nil_good
end D
set_option maxHeartbeats 1000000 in
theorem merge_a (l:List (List Dep)) (hl:l.flatten.length≤1000):ACall Tryz.prog 155 [.sl 1 (l.map λp=>[pastA p])] (pastA (D.mergeL l)):=by
 refine AC_1 Tryz.func155 Tryz.ntmps155 Tryz.results155 λhok M0 w0 hnl=>?_
 have hlen:=(hok _ (List.mem_cons_self ..)).len
 rw[List.length_map]at hlen
 refine Aw_sr ?_
 refine Al_mr ?_
 refine Al_ns ?_
 refine Al_mr ?_
 refine Al_nil (Aw_seq (Aw_sr ?_))
 refine Al_ml ?_
 refine Al_p (Pu_ln Tryz.underlying195) ?_
 refine Al_ml ?_
 refine Al_nil (Aw_block ?_)
 refine Aw_loopk (ι:=Nat) [8,9] [] (λi=>[(10,.d (iv i)),(3,.d (pastA (D.mergeL (l.take i))))]) (λi=>[]) (λi=>i≤l.length) (λi=>l.length - i) (0) (Nat.zero_le _) ⟨Sub.rfl,Sub.nil,trivial⟩ trivial ?_
 rintro i hk0
 refine Aw_sr ?_
 refine Al_p Pu_cp ?_
 refine Al_nil (Aw_seq ?_)
 refine Aw_cond rfl (λh11=>?_) (λh11=>?_)
 ·(try simp only[A.cd_]at h11)
  have hi:i<l.length:=by omega
  have hfl:=D.flat_len2 l hi
  have hml:=D.addAll_len (l.take i).flatten []
  have hgi:l.getD i default=l[i]:=by simp[hi]
  refine Aw_skip (Aw_seq (Aw_block (Aw_sr ?_)))
  refine Al_p (Pu_index rfl Tryz.underlying195 Tryz.sizeOf48 rfl rfl (rfl) (mapgetD (d:=default) hi)) ?_
  refine Al_p (Pu_l1 Tryz.isAgg48) ?_
  refine Al_mr ?_
  refine Al_ns ?_
  refine Al_ml ?_
  refine Al_p (Pu_ln Tryz.underlying48) ?_
  refine Al_ml ?_
  refine Al_nil (Aw_block ?_)
  refine Aw_loopk (ι:=Nat) [8,9,10,14,15] [] (λj=>[(16,.d (iv j)),(3,.d (pastA (D.addAll (D.mergeL (l.take i)) ((l.getD i default).take j))))]) (λj=>[]) (λj=>j≤(l.getD i default).length) (λj=>(l.getD i default).length - j) (0) (Nat.zero_le _) ⟨Sub.rfl,Sub.rfl,trivial⟩ trivial ?_
  rintro j hk1
  refine Aw_sr ?_
  refine Al_p Pu_cp ?_
  refine Al_nil (Aw_seq ?_)
  refine Aw_cond rfl (λh17=>?_) (λh17=>?_)
  ·(try simp only[A.cd_]at h17)
   have hj:j<(l.getD i default).length:=by omega
   have hal:=D.addAll_len ((l.getD i default).take j) (D.mergeL (l.take i))
   have htl:((l.getD i default).take j).length≤(l.getD i default).length:=by rw[List.length_take];omega
   have hml2:(D.mergeL (l.take i)).length≤(l.take i).flatten.length:=by unfold D.mergeL;simpa using hml
   have hgl:(l.getD i default).length=l[i].length:=by rw[hgi]
   have hda:=padd_a (D.addAll (D.mergeL (l.take i)) ((l.getD i default).take j)) ((l.getD i default)[j]'hj) (D.addAll_good1 _ _ (D.mergeL_good _)) (by omega)
   refine Aw_skip (Aw_seq (Aw_block (Aw_sr ?_)))
   refine Al_p (Pu_index rfl Tryz.underlying48 Tryz.sizeOf110 rfl rfl (rfl) (mapget hj)) ?_
   refine Al_p (Pu_lN Tryz.isAgg110 Tryz.sizeOf110) ?_
   refine Al_al Tryz.zeroValue110 λg7=>?_
   refine Al_sN Tryz.isAgg110 Tryz.sizeOf110 ?_
   refine Al_nil (Aw_region ?_)
   refine Al_ml ?_
   refine Al_p (Pu_lbN (r:=[_,_,_]) Tryz.isAgg110 Tryz.sizeOf110) ?_
   refine Al_p (Pu_call (hda) rfl ⟨Sub.rfl,Sub.rfl,trivial⟩) ?_
   refine Al_mr ?_
   refine Al_nil (Aw_region ?_)
   refine Al_p Pu_ad ?_
   refine Al_ml ?_
   refine Al_nil ?_
   exact⟨j+1,by omega,by omega,Le.ov ⟨Sub.num (by omega),Sub.d (by rw[D.addAll_succ _ _ hj]),trivial⟩ ⟨Sub.rfl,Sub.rfl,Sub.rfl,Sub.rfl,Sub.rfl,trivial⟩ trivial trivial⟩
  ·(try simp only[A.cd_]at h17)
   have hjj:(l.getD i default).take j=l[i]:=by rw[List.take_of_length_le (by omega),hgi]
   refine Aw_exit (Aw_region ?_)
   refine Al_p Pu_ad ?_
   refine Al_ml ?_
   refine Al_nil ?_
   exact⟨i+1,by omega,by omega,Le.ov ⟨Sub.num (by omega),Sub.d (by rw[hjj,D.mergeL_succ l hi]),trivial⟩ ⟨Sub.rfl,Sub.rfl,trivial⟩ trivial trivial⟩
 ·(try simp only[A.cd_]at h11)
  have hii:l.take i=l:=List.take_of_length_le (by omega)
  refine Aw_exit (Aw_sr ?_)
  refine Al_ml ?_
  refine Al_mr ?_
  refine Al_nil ?_
  exact Aw_ret (Sub.d (by rw[hii]))
namespace H
abbrev SK:=Int×Int
def skv (x:SK):Value:=.agg #[.int .i64 x.1,.int .i64 x.2]
def skok (x:SK):Prop:=A.inI x.1∧A.inI x.2
theorem skv_inj (a b:SK) (h:skv a=skv b):a=b:=by
 obtain⟨a1,a2⟩:=a
 obtain⟨b1,b2⟩:=b
 simp[skv]at h
 simp[h]
end H
end Go.Proofs.YtdnijgdmohinlaaGreat
end
section
set_option maxRecDepth 100000
namespace Go.Proofs.YtdnijgdmohinlaaGreat
open Go Go.RowKit A R
theorem pair_lit (a:H.SK) (h:H.skok a):∃l,keyOf Tryz.prog 157 (H.skv a)=some l:=by
 obtain⟨a2,a3⟩:=a
 obtain⟨h2,h3⟩:=h
 have w2:(Lit.int .i64 a2).wf=true:=by simp only[Lit.wf,Bool.and_eq_true,decide_eq_true_eq];exact h2
 have w3:(Lit.int .i64 a3).wf=true:=by simp only[Lit.wf,Bool.and_eq_true,decide_eq_true_eq];exact h3
 have k1:Tryz.prog.keyType 157=true:=by kernel_rfl
 have k2:(H.skv (a2,a3)).formed Tryz.prog 157=true:=by kernel_rfl
 have c2:Tryz.prog.cellsOf 157=2:=by kernel_rfl
 have c4:Tryz.prog.cellsOf 3=1:=by kernel_rfl
 have hl:∃n,Tryz.prog.types.size+1=n+3:=⟨Tryz.prog.types.size - 2,by have:2≤Tryz.prog.types.size:=Nat.le_of_ble_eq_true (by kernel_rfl);omega⟩
 obtain⟨n,hn⟩:=hl
 have hI:∀z:Int,(Lit.int .i64 z).wf=true→Tryz.prog.keyLits (n+2) 3 [.int .i64 z]=some [Lit.int .i64 z]:=λz hz=>by
  simp[Program.keyLits,Tryz.underlying3,hz]
 have hP:Tryz.prog.keyLits (n+3) 157 [.int .i64 a2,.int .i64 a3]=some [Lit.int .i64 a2,Lit.int .i64 a3]:=by
  rw[Program.keyLits]
  case heq=>exact Tryz.underlying157
  rw[show List.range 2=[0,1]from rfl]
  simp[hI a2 w2,hI a3 w3,c2,c4]
 unfold keyOf
 simp only[Tryz.underlying157,k1,k2,Bool.and_self,if_true,hn]
 exact⟨_,by
  show(Tryz.prog.keyLits (n+3) _ [.int .i64 a2,.int .i64 a3]).map _=some _
  rw[hP];rfl⟩
theorem pair_key:KeyT Tryz.prog 157 H.SK H.skv H.skok :=
 .of (Go.Maps.Keyed.of_law (deep_law_laid (by kernel_rfl) (m:=2) (by decide) (Nat.lt_of_lt_of_le (Nat.lt_succ_self _) (Nat.le_of_ble_eq_true (by kernel_rfl))) (by kernel_rfl) (by rw[Tryz.underlying157]))) pair_lit H.skv_inj
end Go.Proofs.YtdnijgdmohinlaaGreat
end
section
set_option maxRecDepth 100000
namespace Go.Proofs.YtdnijgdmohinlaaGreat
open Go Go.RowKit A R
structure Ses where
 sn:Int
 op:List Pk
 rn:Int
 way:List Pk
instance:Inhabited Ses:=⟨⟨0,[],0,[]⟩⟩
namespace N
def idx (n:Nat) (a b:Int):Option Nat:=if 0≤a∧a<n∧0≤b∧b<n∧a≠b then some (a.toNat*(n - 1)+(if b<a then b.toNat else b.toNat - 1))else none
def send (s:Ses) (d:ByteArray):Ses:={s with sn:=L.sendS s.sn s.op,op:=L.sendO s.sn s.op d,way:=if 8≤s.op.length then s.way else s.way++[L.sendP s.sn s.op d]}
abbrev XS:=List (Value×Ses)
def netM (n:Nat) (X:XS) (c:H.SK):Option Value:=(idx n c.1 c.2).bind λi=>X[i]?.map (·.1)
def ofV (n:Nat) (X:XS) (a b:Int):Value:=(netM n X (a,b)).getD (.pointer none)
def at' (n:Nat) (X:XS) (a b:Int):Option Ses:=(idx n a b).bind λi=>X[i]?.map (·.2)
def upd (n:Nat) (X:XS) (a b:Int) (f:Ses→Ses):XS:=match idx n a b with
 | some i=>(match X[i]? with|some x=>X.set i (x.1,f x.2)|none=>X)
 | none=>X
theorem upd_m (n:Nat) (X:XS) (a b:Int) (f:Ses→Ses):netM n (upd n X a b f)=netM n X:=by
 funext c
 unfold netM upd
 cases idx n a b with
 | none=>rfl
 | some i =>
  simp only
  cases hx:X[i]? with
  | none=>rfl
  | some x =>
   simp only
   congr 1
   funext j
   rw[List.getElem?_set]
   split
   ·rename_i hij
    subst hij
    obtain⟨h1,h2⟩:=List.getElem?_eq_some_iff.1 hx
    simp[h1,h2]
   ·rfl
theorem of_cases (n:Nat) (X:XS) (a b:Int):(ofV n X a b=.pointer none∧at' n X a b=none∧∀f,upd n X a b f=X)∨∃X1 v s X2,X=X1++(v,s)::X2∧ofV n X a b=v∧at' n X a b=some s∧∀f,upd n X a b f=X1++(v,f s)::X2:=by
 unfold ofV netM at' upd
 cases idx n a b with
 | none=>exact .inl ⟨rfl,rfl,λf=>rfl⟩
 | some i =>
  simp only[Option.bind_some]
  cases hx:X[i]? with
  | none=>exact .inl ⟨rfl,rfl,λf=>rfl⟩
  | some x =>
   obtain⟨h1,h2⟩:=List.getElem?_eq_some_iff.1 hx
   refine .inr ⟨X.take i,x.1,x.2,X.drop (i+1),?_,rfl,rfl,λf=>?_⟩
   ·rw[←h2,List.getElem_cons_drop,List.take_append_drop]
   ·simp only
    rw[List.set_eq_take_append_cons_drop,if_pos h1]
end N
abbrev SES (x:Ses) (t:Value×Value):Obs:=[(1001,.box 156 [.bx 1002 0 0,.bx 1003 0 0,.d (.v t.2)]),(1002,.box 233 [.d (iv x.sn),.d (.v t.1)]),(1003,.box 235 [.d (iv x.rn)]),(1004,rowK t.1 x.op),(1005,rowK t.2 x.way)]
theorem SES_in (s:Ses) (t:Value×Value):(∃T cs,(1001,AO.box T cs)∈SES s t)∧(∀p∈SES s t,1001≤p.1∧p.1≤1008)∧ObsIn [1001,1002,1003,1004,1005,1006,1007,1008] (SES s t) :=
 ⟨⟨_,_,List.mem_cons_self ..⟩,λp hp=>by
  simp only[SES,List.mem_cons,List.not_mem_nil,or_false]at hp
  rcases hp with rfl|rfl|rfl|rfl|rfl<;>exact⟨Nat.le_of_ble_eq_true rfl,Nat.le_of_ble_eq_true rfl⟩,rfl,rfl,rfl,λ_ _ _ _ _ h=>h,λ_ _ _ _ _ h=>h,trivial⟩
abbrev mapP (n b cnt:Nat) (X:N.XS):AO:=.op (mapO H.skv H.skok (λv:Value=>AV.v v) b cnt (N.netM n X))
abbrev NT (n b cnt:Nat) (F:Nat→Prop) (X:N.XS):Obs:=[(1001,.box 149 [.ow 1002 0]),(1002,mapP n b cnt X),(1003,.op (starP SES F X))]
theorem NT_in (n b cnt:Nat) (F:Nat→Prop) (X:N.XS):ObsIn [1001,1002,1003] (NT n b cnt F X):=⟨rfl,λ_ _ _ _ _ h=>h,λ_ _ _ _ _ h=>h,trivial⟩
def Places (X:N.XS):Prop:=∀x∈X,∃a,x.1=.pointer (some a)
theorem ntOf_g (n b cnt:Nat) (F:Nat→Prop) (X:N.XS) (x y:Int):GCall Tryz.prog 104 [.bx 1001 0 0,.d (iv x),.d (iv y)] (NT n b cnt F X) (some (NT n b cnt F X,.d (.v (N.ofV n X x y)))):=by
 refine GC_L Tryz.func104 Tryz.ntmps104 (ReadsS.r1 Tryz.results104) λhok hokB M0 w0 hl=>?_
 have hx:=hok _ (List.mem_cons_of_mem _ (List.mem_cons_self ..))
 have hy:=hok _ (List.mem_cons_of_mem _ (List.mem_cons_of_mem _ (List.mem_cons_self ..)))
 have hks:H.skok (x,y):=⟨hx.int,hy.int⟩
 refine Aw_sr ?_
 refine Al_mr ?_
 refine Al_nil (Aw_seq (Aw_sr ?_))
 refine Al_ml ?_
 refine Al_p (Pu_eqnilb Tryz.underlying83 rfl rfl) ?_
 refine Al_nil ?_
 refine Aw_condF rfl (rfl) ?_
 refine Aw_skip (Aw_sr ?_)
 refine Al_ml ?_
 refine Al_p Pu_nb ?_
 refine Al_p (Pu_fb 0 Tryz.underlying149 Tryz.sizeOf147) ?_
 refine Al_p (Pu_lb Tryz.isAgg147) ?_
 refine Al_ml ?_
 refine Al_ml ?_
 refine Al_p (Pu_buildArr (aa:=[(0,_),(1,_)]) rfl Tryz.underlying157 Tryz.zeroValue157 Tryz.sizeOf3 (by kernel_rfl) ⟨rfl,rfl,rfl,rfl,rfl,rfl,trivial⟩ rfl) ?_
 refine Al_p (Pu_to (s':=.d (.v (N.ofV n X x y))) (Pu_lookup (k:=1002) (c:=((x,y):H.SK)) (z:=.v (.pointer none)) pair_key rfl Tryz.underlying147 Tryz.zeroValue150 (λM w=>.v _ trivial) rfl rfl rfl (Only.row [.int .i64 x,.int .i64 y]) hks) (by unfold N.ofV;cases N.netM n X (x,y)<;>rfl)) ?_
 refine Al_mr ?_
 refine Al_nil ?_
 exact Aw_ret (⟨_,_,[],rfl,Sub.rfl,⟨rfl,rfl,rfl,trivial⟩,rfl⟩)
theorem Places.of {n:Nat}{X:N.XS}(h:Places X) (x y:Int):∃ad,N.ofV n X x y=.pointer ad:=by
 rcases N.of_cases n X x y with⟨h1,_⟩|⟨X1,v,s,X2,rfl,h1,_⟩
 ·exact⟨none,h1⟩
 ·obtain⟨a,ha⟩:=h (v,s) (by simp)
  exact⟨some a,by rw[h1];exact ha⟩
theorem Places.none {n:Nat}{X:N.XS}(hX:Places X) {x y:Int}(hnn:N.ofV n X x y=.pointer none):N.ofV n X x y=.pointer none∧N.at' n X x y=none∧∀f,N.upd n X x y f=X:=by
 rcases N.of_cases n X x y with h|⟨X1,v,s,X2,rfl,h1,_⟩
 ·exact h
 ·obtain⟨a,ha⟩:=hX (v,s) (by simp)
  rw[h1]at hnn;rw[show v=_ from ha]at hnn;cases hnn
def isNilP:Value→Bool
 | .pointer none=>true
 | _=>false
theorem N.of_some {n:Nat}{X:N.XS}{x y:Int}(h:isNilP (N.ofV n X x y)=false):∃X1 v s X2,X=X1++(v,s)::X2∧N.ofV n X x y=v∧N.at' n X x y=some s∧∀f,N.upd n X x y f=X1++(v,f s)::X2:=by
 rcases N.of_cases n X x y with⟨h1,_⟩|h1
 ·rw[h1]at h;cases h
 ·exact h1
namespace N
structure Fit (m:Nat) (s:Ses):Prop where
 op:s.op.length≤8
 way:s.way.length≤m
 sn:0≤s.sn∧s.sn≤m
 rn:0≤s.rn∧s.rn≤m
def ask {α:Type}(n:Nat) (X:XS) (a b:Int) (z:α) (f:Ses→α):α:=match at' n X a b with
 | some s=>f s
 | none=>z
end N
theorem mapP_upd {n b cnt:Nat}{X:N.XS}{x y:Int}{f:Ses→Ses}:mapP n b cnt (N.upd n X x y f)=mapP n b cnt X:=by
 show AO.op (mapO _ _ _ _ _ (N.netM n (N.upd n X x y f)))=_
 rw[N.upd_m]
theorem ntSend_g (n b cnt:Nat) (F:Nat→Prop) (X:N.XS) (x y:Int) (d:ByteArray) (hX:Places X) (hs:∀p∈X,N.Fit 1000 p.2):GCallE Tryz.prog 232 [.bx 1001 0 0,.d (iv x),.d (iv y),.d (tv d)] (NT n b cnt F X) (λF':Nat→Prop=>some (NT n b cnt F' (N.upd n X x y λs=>N.send s d),.d (iv (N.ask n X x y 1 λs=>L.sendE s.op)))):=by
 refine GC_EL Tryz.func232 Tryz.ntmps232 (ReadsS.r1 Tryz.results232) λhok hokB M0 w0 hl=>?_
 obtain⟨ad,had⟩:=hX.of (n:=n) x y
 refine Aw_sr ?_
 refine Al_mr ?_
 refine Al_ns ?_
 refine Al_ml ?_
 refine Al_ml ?_
 refine Al_ml ?_
 refine Al_p (Pu_gcall [(1001,1001,0),(1002,1002,0),(1003,1003,0)] (ntOf_g n b cnt F X x y) (NT_in ..) rfl ⟨rfl,rfl,rfl,trivial⟩ rfl ⟨Sub.rfl,Sub.rfl,Sub.rfl,trivial⟩) ?_
 refine Al_mr ?_
 refine Al_nil (Aw_seq (Aw_sr ?_))
 refine Al_ml ?_
 refine Al_p (Pu_eqnilV had Tryz.underlying150 rfl rfl) ?_
 refine Al_nil ?_
 refine Aw_cond rfl (λh17=>?_) (λh17=>?_)
 ·(try simp only[A.cd_]at h17)
  have hnn:N.ofV n X x y=.pointer none:=by rw[had];cases ad with
   | none=>rfl
   | some a=>simp at h17
  obtain⟨h1,h2,h3⟩:=hX.none hnn
  have e1:N.ask n X x y (1:Int) (λs=>L.sendE s.op)=1:=by unfold N.ask;rw[h2]
  refine Aw_sr ?_
  refine Al_mr ?_
  refine Al_nil ?_
  exact Aw_ret (⟨F,_,_,[],rfl,Sub.num e1.symm,⟨rfl,by rw[h3];rfl,by rw[h3];rfl,trivial⟩,rfl⟩)
 ·(try simp only[A.cd_]at h17)
  obtain⟨X1,v,s,X2,rfl,h1,h2,h3⟩:=N.of_some (by rw[had];cases ad with
   | none=>simp at h17
   | some a=>rfl)
  obtain⟨s1,s2,s3,s4⟩:N.Fit 1000 s:=hs (v,s) (by simp)
  refine Aw_ghost [(1000,1003,0)] [(1009,1019),(1001,1011),(1002,1012),(1003,1013),(1004,1014),(1005,1015)] 9 (gh_pull (SES_in s)) (by rw[h1];exact Sub.rfl) ⟨rfl,trivial⟩ (λ_=>rfl) rfl rfl (λz G=>?_)
  obtain⟨t,F1⟩:=z
  refine Aw_skip (Aw_sr ?_)
  refine Al_ml ?_
  refine Al_p Pu_nb ?_
  refine Al_p (Pu_fb 0 Tryz.underlying156 Tryz.sizeOf151) ?_
  refine Al_p (Pu_lb Tryz.isAgg151) ?_
  refine Al_ml ?_
  refine Al_gcallE [(1001,1012,G),(1002,1014,G)] [] (lkSend_g s.sn t.1 s.op d (by omega) (by omega)) rfl rfl rfl (by decide) (by kernel_rfl) ⟨rfl,rfl,trivial⟩ (λ_=>rfl) rfl rfl ⟨Sub.rfl,Sub.rfl,trivial⟩ ?_
  rintro v1 g24
  refine Al_ml ?_
  refine Al_p Pu_ex ?_
  refine Al_p Pu_ex ?_
  refine Al_al Tryz.zeroValue170 λg10=>?_
  refine Al_sN Tryz.isAgg170 Tryz.sizeOf170 ?_
  refine Al_mr ?_
  refine Al_nil ?_
  refine Aw_seq (Aw_sr ?_)
  refine Al_ml ?_
  refine Al_p Pu_cp ?_
  refine Al_nil ?_
  refine Aw_cond rfl (λh28=>?_) (λh28=>?_)
  ·(try simp only[A.cd_]at h28)
   have h8:¬8≤s.op.length:=λh=>by
    rw[show L.sendE s.op=15 from if_pos h]at h28
    cases h28
   have e1:N.ask n (X1++(v,s)::X2) x y (1:Int) (λs=>L.sendE s.op)=L.sendE s.op:=by unfold N.ask;rw[h2]
   have e2:N.send s d=⟨L.sendS s.sn s.op,L.sendO s.sn s.op d,s.rn,s.way++[L.sendP s.sn s.op d]⟩:=by unfold N.send;rw[if_neg h8]
   refine Aw_drawn (by kernel_rfl) ?_
   refine Ad_t 0 rfl (PuI_move (.inl rfl) (by conv=>lhs;whnf)) ?_
   refine Ad_drawP 1 7 4 (by kernel_rfl) (by decide) rfl (by rfl) (by rfl) ?_
   refine Dr_ml ?_
   refine Dr_p Pu_nb ?_
   refine Dr_p (Pu_fb 2 Tryz.underlying156 Tryz.sizeOf103) ?_
   refine Dr_p (Pu_lb Tryz.isAgg103) ?_
   refine Dr_p (Pu_lbN (r:=[_,_]) Tryz.isAgg170 Tryz.sizeOf170) ?_
   refine Dr_p (Pu_slice1 rfl Tryz.underlying103 Tryz.sizeOf170 Tryz.zeroValue170 rfl (by decide) (by decide) (by kernel_rfl) rfl rfl rfl) ?_
   refine Dr_nil ?_
   refine Ad_o 7 ?_
   refine Al_appendX (k:=1015) rfl rfl rfl (by decide) (by kernel_rfl) pk_elem (by decide) Tryz.sizeOf170 rfl rfl rfl (by simp;omega) (by decide) (λv2=>?_)
   refine Al_nil ?_
   refine Ad_t 8 rfl PuI_nb ?_
   refine Ad_t 9 rfl (PuI_fb 2 Tryz.underlying156 Tryz.sizeOf103) ?_
   refine Ad_o 10 ?_
   refine Al_s1 Tryz.isAgg103 Tryz.sizeOf103 ?_
   refine Al_nil ?_
   refine Ad_d ?_
   refine Aw_sr ?_
   refine Al_ml ?_
   refine Al_mr ?_
   refine Al_nil ?_
   refine Aw_ghost [(1000,1003,0),(1009,1019,G),(1001,1011,G),(1002,1012,G),(1003,1013,G),(1004,1014,G),(1005,1015,G)] [] 9 (gh_put (E:=SES) (s':=N.send s d) (t:=(v1,v2)) (λp hp=>(SES_in _ _).2.1 p hp)) (λ_ _ _ _ _=>trivial) ⟨rfl,rfl,rfl,by rw[e2];rfl,by rw[e2];rfl,by rw[e2];rfl,by rw[e2];exact obeqX (by simp[A.cellsA,Pk.row]),trivial⟩ (λ_=>rfl) rfl rfl (λF' G'=>?_)
   exact Aw_ret (⟨F',_,_,[],rfl,Sub.num e1.symm,⟨rfl,by rw[mapP_upd];rfl,by rw[h3];rfl,trivial⟩,rfl⟩)
  ·(try simp only[A.cd_]at h28)
   have h8:8≤s.op.length:=by
    rcases Nat.lt_or_ge s.op.length 8 with h|h
    ·rw[show L.sendE s.op=0 from if_neg (by omega)]at h28
     exact absurd rfl h28
    ·exact h
   have e1:N.ask n (X1++(v,s)::X2) x y (1:Int) (λs=>L.sendE s.op)=L.sendE s.op:=by unfold N.ask;rw[h2]
   have e2:N.send s d=⟨L.sendS s.sn s.op,L.sendO s.sn s.op d,s.rn,s.way⟩:=by unfold N.send;rw[if_pos h8]
   refine Aw_skip (Aw_sr ?_)
   refine Al_ml ?_
   refine Al_mr ?_
   refine Al_nil ?_
   refine Aw_ghost [(1000,1003,0),(1009,1019,G),(1001,1011,G),(1002,1012,G),(1003,1013,G),(1004,1014,G),(1005,1015,G)] [] 9 (gh_put (E:=SES) (s':=N.send s d) (t:=(v1,t.2)) (λp hp=>(SES_in _ _).2.1 p hp)) (λ_ _ _ _ _=>trivial) ⟨rfl,rfl,rfl,by rw[e2];rfl,by rw[e2];rfl,by rw[e2];rfl,by rw[e2];rfl,trivial⟩ (λ_=>rfl) rfl rfl (λF' G'=>?_)
   exact Aw_ret (⟨F',_,_,[],rfl,Sub.num e1.symm,⟨rfl,by rw[mapP_upd];rfl,by rw[h3];rfl,trivial⟩,rfl⟩)
theorem ntFly_g (n b cnt:Nat) (F:Nat→Prop) (X:N.XS) (x y:Int) (hX:Places X) (hs:∀p∈X,N.Fit 1000 p.2):GCall Tryz.prog 47 [.bx 1001 0 0,.d (iv x),.d (iv y)] (NT n b cnt F X) (some (NT n b cnt F X,.d (.sl 2 (pkA (N.ask n X x y [] (·.way)))))):=by
 refine GC_L Tryz.func47 Tryz.ntmps47 (ReadsS.r1 Tryz.results47) λhok hokB M0 w0 hl=>?_
 obtain⟨ad,had⟩:=hX.of (n:=n) x y
 refine Aw_sr ?_
 refine Al_mr ?_
 refine Al_ns ?_
 refine Al_ml ?_
 refine Al_ml ?_
 refine Al_ml ?_
 refine Al_p (Pu_gcall [(1001,1001,0),(1002,1002,0),(1003,1003,0)] (ntOf_g n b cnt F X x y) (NT_in ..) rfl ⟨rfl,rfl,rfl,trivial⟩ rfl ⟨Sub.rfl,Sub.rfl,Sub.rfl,trivial⟩) ?_
 refine Al_mr ?_
 refine Al_nil (Aw_seq (Aw_sr ?_))
 refine Al_ml ?_
 refine Al_p (Pu_eqnilV had Tryz.underlying150 rfl rfl) ?_
 refine Al_nil ?_
 refine Aw_cond rfl (λh13=>?_) (λh13=>?_)
 ·(try simp only[A.cd_]at h13)
  have hnn:N.ofV n X x y=.pointer none:=by rw[had];cases ad with
   | none=>rfl
   | some a=>simp at h13
  obtain⟨h1,h2,h3⟩:=hX.none hnn
  have e1:N.ask n X x y [] (·.way)=[]:=by unfold N.ask;rw[h2]
  refine Aw_sr ?_
  refine Al_mr ?_
  refine Al_nil ?_
  exact Aw_ret (⟨_,_,[],rfl,by rw[e1];exact Sub.nil,⟨rfl,rfl,rfl,trivial⟩,rfl⟩)
 ·(try simp only[A.cd_]at h13)
  obtain⟨X1,v,s,X2,rfl,h1,h2,h3⟩:=N.of_some (by rw[had];cases ad with
   | none=>simp at h13
   | some a=>rfl)
  obtain⟨s1,s2,s3,s4⟩:N.Fit 1000 s:=hs (v,s) (by simp)
  have e1:N.ask n (X1++(v,s)::X2) x y [] (·.way)=s.way:=by unfold N.ask;rw[h2]
  refine Aw_ghost [(1000,1003,0)] [(1009,1019),(1010,1020),(1001,1011),(1002,1012),(1003,1013),(1004,1014),(1005,1015)] 7 (gh_pullS (SES_in s)) (by rw[h1];exact Sub.rfl) ⟨rfl,trivial⟩ (λ_=>rfl) rfl rfl (λz G=>?_)
  obtain⟨t,F1⟩:=z
  refine Aw_skip (Aw_sr ?_)
  refine Al_ml ?_
  refine Al_p Pu_nb ?_
  refine Al_p (Pu_fb 2 Tryz.underlying156 Tryz.sizeOf103) ?_
  refine Al_p (Pu_lb Tryz.isAgg103) ?_
  refine Al_p (Pu_gcall [(1001,1015,G)] (clonePk_g t.2 s.way (by omega)) (rowK_in ..) rfl ⟨rfl,trivial⟩ rfl ⟨Sub.rfl,trivial⟩) ?_
  refine Al_mr ?_
  refine Al_nil ?_
  refine Aw_ghost [(1000,1003,0),(1009,1019,G),(1010,1020,G),(1001,1011,G),(1002,1012,G),(1003,1013,G),(1004,1014,G),(1005,1015,G)] [] 7 (gh_putS (E:=SES) (F:=F) (F1:=F1) (s:=s) (t:=t) (λp hp=>(SES_in _ _).2.1 p hp)) (λ_ _ _ _ _=>trivial) ⟨rfl,rfl,rfl,rfl,rfl,rfl,rfl,rfl,trivial⟩ (λ_=>rfl) rfl rfl (λ_ G'=>?_)
  exact Aw_ret (⟨_,_,[],rfl,by rw[e1];exact Sub.rfl,⟨rfl,rfl,rfl,trivial⟩,rfl⟩)
theorem ntOpen_g (n b cnt:Nat) (F:Nat→Prop) (X:N.XS) (x y:Int) (hX:Places X) (hs:∀p∈X,N.Fit 1000 p.2):GCall Tryz.prog 77 [.bx 1001 0 0,.d (iv x),.d (iv y)] (NT n b cnt F X) (some (NT n b cnt F X,.d (iv ((N.ask n X x y 0 (·.op.length):Nat):Int)))):=by
 refine GC_L Tryz.func77 Tryz.ntmps77 (ReadsS.r1 Tryz.results77) λhok hokB M0 w0 hl=>?_
 obtain⟨ad,had⟩:=hX.of (n:=n) x y
 refine Aw_sr ?_
 refine Al_mr ?_
 refine Al_ns ?_
 refine Al_ml ?_
 refine Al_ml ?_
 refine Al_ml ?_
 refine Al_p (Pu_gcall [(1001,1001,0),(1002,1002,0),(1003,1003,0)] (ntOf_g n b cnt F X x y) (NT_in ..) rfl ⟨rfl,rfl,rfl,trivial⟩ rfl ⟨Sub.rfl,Sub.rfl,Sub.rfl,trivial⟩) ?_
 refine Al_mr ?_
 refine Al_nil (Aw_seq (Aw_sr ?_))
 refine Al_ml ?_
 refine Al_p (Pu_eqnilV had Tryz.underlying150 rfl rfl) ?_
 refine Al_nil ?_
 refine Aw_cond rfl (λh13=>?_) (λh13=>?_)
 ·(try simp only[A.cd_]at h13)
  have hnn:N.ofV n X x y=.pointer none:=by rw[had];cases ad with
   | none=>rfl
   | some a=>simp at h13
  obtain⟨h1,h2,h3⟩:=hX.none hnn
  have e1:N.ask n X x y 0 (·.op.length)=0:=by unfold N.ask;rw[h2]
  refine Aw_sr ?_
  refine Al_mr ?_
  refine Al_nil ?_
  exact Aw_ret (⟨_,_,[],rfl,Sub.num (by rw[e1];rfl),⟨rfl,rfl,rfl,trivial⟩,rfl⟩)
 ·(try simp only[A.cd_]at h13)
  obtain⟨X1,v,s,X2,rfl,h1,h2,h3⟩:=N.of_some (by rw[had];cases ad with
   | none=>simp at h13
   | some a=>rfl)
  obtain⟨s1,s2,s3,s4⟩:N.Fit 1000 s:=hs (v,s) (by simp)
  have e1:N.ask n (X1++(v,s)::X2) x y 0 (·.op.length)=s.op.length:=by unfold N.ask;rw[h2]
  refine Aw_ghost [(1000,1003,0)] [(1009,1019),(1010,1020),(1001,1011),(1002,1012),(1003,1013),(1004,1014),(1005,1015)] 7 (gh_pullS (SES_in s)) (by rw[h1];exact Sub.rfl) ⟨rfl,trivial⟩ (λ_=>rfl) rfl rfl (λz G=>?_)
  obtain⟨t,F1⟩:=z
  refine Aw_skip (Aw_sr ?_)
  refine Al_ml ?_
  refine Al_p Pu_nb ?_
  refine Al_p (Pu_fb 0 Tryz.underlying156 Tryz.sizeOf151) ?_
  refine Al_p (Pu_lb Tryz.isAgg151) ?_
  refine Al_p (Pu_gcall [(1001,1012,G),(1002,1014,G)] (lkOpen_g s.sn t.1 s.op (by omega)) (SN_in ..) rfl ⟨rfl,rfl,trivial⟩ rfl ⟨Sub.rfl,trivial⟩) ?_
  refine Al_p (Pu_ln Tryz.underlying103) ?_
  refine Al_mr ?_
  refine Al_nil ?_
  refine Aw_ghost [(1000,1003,0),(1009,1019,G),(1010,1020,G),(1001,1011,G),(1002,1012,G),(1003,1013,G),(1004,1014,G),(1005,1015,G)] [] 7 (gh_putS (E:=SES) (F:=F) (F1:=F1) (s:=s) (t:=t) (λp hp=>(SES_in _ _).2.1 p hp)) (λ_ _ _ _ _=>trivial) ⟨rfl,rfl,rfl,rfl,rfl,rfl,rfl,rfl,trivial⟩ (λ_=>rfl) rfl rfl (λ_ G'=>?_)
  exact Aw_ret (⟨_,_,[],rfl,Sub.num (by rw[e1]),⟨rfl,rfl,rfl,trivial⟩,rfl⟩)
end Go.Proofs.YtdnijgdmohinlaaGreat
end
section
set_option maxRecDepth 100000
namespace Go.Proofs.YtdnijgdmohinlaaGreat
open Go Go.RowKit A R
theorem A.tup2 {M:Nat→Prop}{w:World}{ρ:Rho}{a b:AV}{v:Value}(h:SRep M w ρ (.tp [.d a,.d b]) v):SRep M w ρ (.d (.tup [a,b])) v:=by
 obtain⟨vs,rfl,hl,hr⟩:=h
 refine .tup _ _ hl λj c x h1 h2=>?_
 match j,h1 with
 | 0,h1=>simp at h1;subst h1;exact hr 0 (.d a) x rfl h2
 | 1,h1=>simp at h1;subst h1;exact hr 1 (.d b) x rfl h2
 | j+2,h1=>simp at h1
theorem A.GCall.tup {P:Program}{f:FuncId}{ins:List SV}{obs obs':Obs}{a b:AV}(h:GCall P f ins obs (some (obs',.tp [.d a,.d b]))):GCall P f ins obs (some (obs',.d (.tup [a,b]))):=⟨h.1,λM w ρ vs h1 h2 h3 h4 h5 h6=>(h.2 M w ρ vs h1 h2 h3 h4 h5 h6).mono λe w' ⟨h7,v,h8,ρ',k1,k2,k3,k4,k5⟩=>⟨h7,v,h8,ρ',k1,k2,k3,k4,A.tup2 k5⟩⟩
namespace N
def would (s:Ses) (k:Int):Bool:=decide (0≤k)&&(decide (k<s.way.length)&&decide ((s.way.getD k.toNat default).seq=s.rn))
def wouldD (s:Ses) (k:Int):ByteArray:=if would s k then(s.way.getD k.toNat default).d else⟨#[]⟩
def inW (s:Ses) (k:Int):Bool:=decide (0≤k)&&decide (k<s.way.length)
def answer (s:Ses) (seq:Int):Ses:={s with op:=s.op.drop (L.ansN s.sn s.op seq)}
def out (s:Ses) (k:Int):Ses:={s with way:=s.way.take k.toNat++s.way.drop (k.toNat+1)}
def took (s:Ses) (p:Pk):Ses:=if p.seq=s.rn then answer {s with rn:=s.rn+1} (s.rn+1)else s
def hw3 (a:Int):Int:=IntKind.i64.wrap (BitVec.ofInt IntKind.i64.bits a&&&BitVec.ofInt IntKind.i64.bits 3).toNat
def pick (s:Ses) (k how:Int):Ses :=
 if inW s k=false then s
 else if hw3 how=2 then(if s.way.length<32 then{s with way:=s.way++[s.way.getD k.toNat default]}else s)
 else if hw3 how=1 then out s k
 else took (out s k) (s.way.getD k.toNat default)
def pickB (s:Ses) (k how:Int):Bool:=inW s k&&(decide (hw3 how≠2)&&(decide (hw3 how≠1)&&decide ((s.way.getD k.toNat default).seq=s.rn)))
def pickD (s:Ses) (k how:Int):ByteArray:=if pickB s k how then(s.way.getD k.toNat default).d else⟨#[]⟩
def againN (s:Ses):Nat:=min s.op.length (32 - s.way.length)
def again (s:Ses):Ses:={s with way:=s.way++s.op.take (againN s)}
end N
theorem N.at_some {n:Nat}{X:N.XS}{x y:Int}{s:Ses}(h:N.at' n X x y=some s):∃X1 v X2,X=X1++(v,s)::X2∧N.ofV n X x y=v∧∀f,N.upd n X x y f=X1++(v,f s)::X2:=by
 rcases N.of_cases n X x y with⟨_,h1,_⟩|⟨X1,v,s',X2,h1,h2,h3,h4⟩
 ·rw[h1]at h;cases h
 ·rw[h3]at h;cases h;exact⟨X1,v,X2,h1,h2,h4⟩
theorem N.inW_iff {s:Ses}{k:Int}(h:N.inW s k=true):0≤k∧k<s.way.length∧k.toNat<s.way.length∧k=(k.toNat:Int):=by
 unfold N.inW at h
 simp only[Bool.and_eq_true,decide_eq_true_eq]at h
 omega
theorem ntTakes_g (n b cnt:Nat) (F:Nat→Prop) (X:N.XS) (x y k:Int) (s:Ses) (hat:N.at' n X x y=some s) (hk:N.inW s k=true) (hs:∀p∈X,N.Fit 1000 p.2):GCall Tryz.prog 167 [.bx 1001 0 0,.d (iv x),.d (iv y),.d (iv k)] (NT n b cnt F X) (some (NT n b cnt F X,.tp [.d (tv (N.wouldD s k)),.d (bv (N.would s k))])):=by
 refine GC_L Tryz.func167 Tryz.ntmps167 (ReadsS.r2 Tryz.results167) λhok hokB M0 w0 hl=>?_
 obtain⟨X1,v,X2,rfl,h1,h3⟩:=N.at_some hat
 obtain⟨s1,s2,s3,s4⟩:N.Fit 1000 s:=hs (v,s) (by simp)
 obtain⟨k1,k2,k3,k4⟩:=N.inW_iff hk
 refine Aw_sr ?_
 refine Al_mr ?_
 refine Al_mr ?_
 refine Al_ns ?_
 refine Al_ml ?_
 refine Al_ml ?_
 refine Al_ml ?_
 refine Al_p (Pu_gcall [(1001,1001,0),(1002,1002,0),(1003,1003,0)] (ntOf_g n b cnt F (X1++(v,s)::X2) x y) (NT_in ..) rfl ⟨rfl,rfl,rfl,trivial⟩ rfl ⟨Sub.rfl,Sub.rfl,Sub.rfl,trivial⟩) ?_
 refine Al_mr ?_
 refine Al_nil (Aw_seq (Aw_seq ?_))
 refine Aw_ghost [(1000,1003,0)] [(1009,1019),(1010,1020),(1001,1011),(1002,1012),(1003,1013),(1004,1014),(1005,1015)] 10 (gh_pullS (SES_in s)) (by rw[h1];exact Sub.rfl) ⟨rfl,trivial⟩ (λ_=>rfl) rfl rfl (λz G=>?_)
 obtain⟨t,F1⟩:=z
 refine Aw_dr 31 ?_
 refine Dr_ml ?_
 refine Dr_p (Pu_eqnilb Tryz.underlying150 rfl rfl) ?_
 refine Dr_ml ?_
 refine Dr_s (St_g [] trivial (λ_=>Pu_mvl)) ?_
 refine Dr_s (St_g [18] ⟨⟨_,rfl⟩,trivial⟩ (λ_=>Pu_cp)) ?_
 refine Dr_p Pu_o ?_
 refine Dr_ml ?_
 refine Dr_s (St_g [] trivial (λ_=>Pu_mvl)) ?_
 refine Dr_s (St_g [] trivial (λ_=>Pu_mvl)) ?_
 refine Dr_s (St_g [23] ⟨⟨_,rfl⟩,trivial⟩ (λ_=>Pu_nb)) ?_
 refine Dr_s (St_g [24] ⟨⟨_,rfl⟩,trivial⟩ (λ_=>Pu_fb 2 Tryz.underlying156 Tryz.sizeOf103)) ?_
 refine Dr_s (St_g [25] ⟨⟨_,rfl⟩,trivial⟩ (λ_=>Pu_lb Tryz.isAgg103)) ?_
 refine Dr_s (St_gd [26] rfl rfl rfl rfl ⟨⟨_,rfl⟩,trivial⟩ (λhg27=>by exact Pu_lenX (k:=1015) rfl Tryz.underlying103 rfl rfl (by rw[List.length_map];simp only[A.maxI];omega))) ?_
 refine Dr_s (St_g [22,27] ⟨⟨_,rfl⟩,⟨_,rfl⟩,trivial⟩ (λ_=>Pu_cp)) ?_
 refine Dr_p Pu_o ?_
 refine Dr_ml ?_
 refine Dr_s (St_g [] trivial (λ_=>Pu_mvl)) ?_
 refine Dr_s (St_g [31] ⟨⟨_,rfl⟩,trivial⟩ (λ_=>Pu_nb)) ?_
 refine Dr_s (St_g [32] ⟨⟨_,rfl⟩,trivial⟩ (λ_=>Pu_fb 2 Tryz.underlying156 Tryz.sizeOf103)) ?_
 refine Dr_s (St_g [33] ⟨⟨_,rfl⟩,trivial⟩ (λ_=>Pu_lb Tryz.isAgg103)) ?_
 refine Dr_s (St_g [] trivial (λ_=>Pu_mvl)) ?_
 refine Dr_s (St_gd [34,35] rfl rfl rfl rfl ⟨⟨_,rfl⟩,⟨_,rfl⟩,trivial⟩ (λhg36=>by exact Pu_indexX (j:=k.toNat) (k:=1015) rfl Tryz.underlying103 Tryz.sizeOf170 rfl rfl rfl k4 (by rw[List.length_map];exact k3))) ?_
 refine Dr_s (St_g [36] ⟨⟨_,rfl⟩,trivial⟩ (λ_=>Pu_fieldX (k:=1015) 0 rfl Tryz.underlying170 rfl rfl Tryz.sizeOf3 rfl rfl (pk_ne k3))) ?_
 refine Dr_s (St_g [37] ⟨⟨_,rfl⟩,trivial⟩ (λ_=>Pu_loadX1 (k:=1015) rfl Tryz.isAgg3 rfl rfl (pk_at k3).1)) ?_
 refine Dr_s (St_g [] trivial (λ_=>Pu_mvl)) ?_
 refine Dr_s (St_g [39] ⟨⟨_,rfl⟩,trivial⟩ (λ_=>Pu_nb)) ?_
 refine Dr_s (St_g [40] ⟨⟨_,rfl⟩,trivial⟩ (λ_=>Pu_fb 1 Tryz.underlying156 Tryz.sizeOf153)) ?_
 refine Dr_s (St_g [41] ⟨⟨_,rfl⟩,trivial⟩ (λ_=>Pu_lb Tryz.isAgg153)) ?_
 refine Dr_s (St_g [42] ⟨⟨_,rfl⟩,trivial⟩ (λ_=>Pu_gcall [(1001,1013,G)] (lkWaits_g s.rn) (RC_in ..) rfl ⟨rfl,trivial⟩ rfl ⟨Sub.rfl,trivial⟩)) ?_
 refine Dr_s (St_g [38,43] ⟨⟨_,rfl⟩,⟨_,rfl⟩,trivial⟩ (λ_=>Pu_cp)) ?_
 refine Dr_p Pu_o ?_
 refine Dr_nil (Al_nil ?_)
 refine Aw_cond rfl (λh45=>?_) (λh45=>?_)
 ·skip
  have hw:N.would s k=false:=by
   have h0:(decide (k<0)||decide (k≥(pkA s.way).length)||!decide ((s.way.getD k.toNat default).seq=s.rn))=true:=h45
   rw[List.length_map]at h0
   unfold N.would
   simp only[Bool.or_eq_true,decide_eq_true_eq,Bool.not_eq_true',decide_eq_false_iff_not]at h0
   simp only[k1,k2,decide_true,Bool.true_and,decide_eq_false_iff_not]
   rcases h0 with(h0|h0)|h0
   ·omega
   ·omega
   ·exact h0
  have e1:N.wouldD s k=⟨#[]⟩:=by unfold N.wouldD;rw[hw];rfl
  refine Aw_sr ?_
  refine Al_mr ?_
  refine Al_mr ?_
  refine Al_nil ?_
  refine Aw_ghost [(1000,1003,0),(1009,1019,G),(1010,1020,G),(1001,1011,G),(1002,1012,G),(1003,1013,G),(1004,1014,G),(1005,1015,G)] [] 10 (gh_putS (E:=SES) (F:=F) (F1:=F1) (s:=s) (t:=t) (λp hp=>(SES_in _ _).2.1 p hp)) (λ_ _ _ _ _=>trivial) ⟨rfl,rfl,rfl,rfl,rfl,rfl,rfl,rfl,trivial⟩ (λ_=>rfl) rfl rfl (λ_ G'=>?_)
  exact Aw_ret (⟨_,_,[],rfl,⟨_,_,rfl,Sub.d (by rw[e1]),Sub.bool hw.symm⟩,⟨rfl,rfl,rfl,trivial⟩,rfl⟩)
 ·skip
  have hw:N.would s k=true:=by
   have h0:(decide (k<0)||decide (k≥(pkA s.way).length)||!decide ((s.way.getD k.toNat default).seq=s.rn))=false:=h45
   unfold N.would
   simp only[Bool.or_eq_false_iff,Bool.not_eq_false',decide_eq_true_eq]at h0
   simp only[k1,k2,decide_true,Bool.true_and,decide_eq_true_eq]
   exact h0.2
  have e1:N.wouldD s k=(s.way.getD k.toNat default).d:=by unfold N.wouldD;rw[hw];rfl
  refine Aw_skip (Aw_sr ?_)
  refine Al_ml ?_
  refine Al_p Pu_nb ?_
  refine Al_p (Pu_fb 2 Tryz.underlying156 Tryz.sizeOf103) ?_
  refine Al_p (Pu_lb Tryz.isAgg103) ?_
  refine Al_ml ?_
  refine Al_p (Pu_indexX (j:=k.toNat) (k:=1015) rfl Tryz.underlying103 Tryz.sizeOf170 rfl rfl rfl k4 (by rw[List.length_map];exact k3)) ?_
  refine Al_p (Pu_fieldX (k:=1015) 1 rfl Tryz.underlying170 rfl rfl Tryz.sizeOf9 rfl rfl (pk_ne k3)) ?_
  refine Al_p (Pu_loadX1 (k:=1015) rfl Tryz.isAgg9 rfl rfl (pk_at k3).2.1) ?_
  refine Al_mr ?_
  refine Al_mr ?_
  refine Al_nil ?_
  refine Aw_ghost [(1000,1003,0),(1009,1019,G),(1010,1020,G),(1001,1011,G),(1002,1012,G),(1003,1013,G),(1004,1014,G),(1005,1015,G)] [] 10 (gh_putS (E:=SES) (F:=F) (F1:=F1) (s:=s) (t:=t) (λp hp=>(SES_in _ _).2.1 p hp)) (λ_ _ _ _ _=>trivial) ⟨rfl,rfl,rfl,rfl,rfl,rfl,rfl,rfl,trivial⟩ (λ_=>rfl) rfl rfl (λ_ G'=>?_)
  exact Aw_ret (⟨_,_,[],rfl,⟨_,_,rfl,Sub.d (by rw[e1]),Sub.bool hw.symm⟩,⟨rfl,rfl,rfl,trivial⟩,rfl⟩)
theorem ntPick_g (n b cnt:Nat) (F:Nat→Prop) (X:N.XS) (x y k how:Int) (s:Ses) (hat:N.at' n X x y=some s) (hk:N.inW s k=true) (hs:∀p∈X,N.Fit 1000 p.2):GCallE Tryz.prog 168 [.bx 1001 0 0,.d (iv x),.d (iv y),.d (iv k),.d (iv how)] (NT n b cnt F X) (λF':Nat→Prop=>some (NT n b cnt F' (N.upd n X x y λs=>N.pick s k how),.tp [.d (tv (N.pickD s k how)),.d (bv (N.pickB s k how))])):=by
 refine GC_EL Tryz.func168 Tryz.ntmps168 (ReadsS.r2 Tryz.results168) λhok hokB M0 w0 hl=>?_
 obtain⟨X1,v,X2,rfl,h1,h3⟩:=N.at_some hat
 obtain⟨s1,s2,s3,s4⟩:N.Fit 1000 s:=hs (v,s) (by simp)
 obtain⟨k1,k2,k3,k4⟩:=N.inW_iff hk
 have hnk:¬N.inW s k=false:=by rw[hk];exact Bool.noConfusion
 refine Aw_sr ?_
 refine Al_mr ?_
 refine Al_mr ?_
 refine Al_ns ?_
 refine Al_ml ?_
 refine Al_ml ?_
 refine Al_ml ?_
 refine Al_p (Pu_gcall [(1001,1001,0),(1002,1002,0),(1003,1003,0)] (ntOf_g n b cnt F (X1++(v,s)::X2) x y) (NT_in ..) rfl ⟨rfl,rfl,rfl,trivial⟩ rfl ⟨Sub.rfl,Sub.rfl,Sub.rfl,trivial⟩) ?_
 refine Al_mr ?_
 refine Al_nil (Aw_seq (Aw_seq ?_))
 refine Aw_ghost [(1000,1003,0)] [(1009,1019),(1001,1011),(1002,1012),(1003,1013),(1004,1014),(1005,1015)] 12 (gh_pull (SES_in s)) (by rw[h1];exact Sub.rfl) ⟨rfl,trivial⟩ (λ_=>rfl) rfl rfl (λz G=>?_)
 obtain⟨t,F1⟩:=z
 refine Aw_region ?_
 refine Al_ml ?_
 refine Al_p (Pu_eqnilb Tryz.underlying150 rfl rfl) ?_
 refine Al_ml ?_
 refine Al_s (St_g [] trivial (λ_=>Pu_mvl)) ?_
 refine Al_s (St_g [23] ⟨⟨_,rfl⟩,trivial⟩ (λ_=>Pu_cp)) ?_
 refine Al_p Pu_o ?_
 refine Al_ml ?_
 refine Al_s (St_g [] trivial (λ_=>Pu_mvl)) ?_
 refine Al_s (St_g [] trivial (λ_=>Pu_mvl)) ?_
 refine Al_s (St_g [28] ⟨⟨_,rfl⟩,trivial⟩ (λ_=>Pu_nb)) ?_
 refine Al_s (St_g [29] ⟨⟨_,rfl⟩,trivial⟩ (λ_=>Pu_fb 2 Tryz.underlying156 Tryz.sizeOf103)) ?_
 refine Al_s (St_g [30] ⟨⟨_,rfl⟩,trivial⟩ (λ_=>Pu_lb Tryz.isAgg103)) ?_
 refine Al_s (St_gd [31] rfl rfl rfl rfl ⟨⟨_,rfl⟩,trivial⟩ (λhg32=>by exact Pu_lenX (k:=1015) rfl Tryz.underlying103 rfl rfl (by rw[List.length_map];simp only[A.maxI];omega))) ?_
 refine Al_s (St_g [27,32] ⟨⟨_,rfl⟩,⟨_,rfl⟩,trivial⟩ (λ_=>Pu_cp)) ?_
 refine Al_p Pu_o ?_
 refine Al_nil ?_
 refine Aw_condF rfl ((by rw[List.length_map];simp;omega)) ?_
 refine Aw_skip (Aw_sr ?_)
 refine Al_ml ?_
 refine Al_p Pu_nb ?_
 refine Al_p (Pu_fb 2 Tryz.underlying156 Tryz.sizeOf103) ?_
 refine Al_p (Pu_lb Tryz.isAgg103) ?_
 refine Al_ml ?_
 refine Al_p (Pu_indexX (j:=k.toNat) (k:=1015) rfl Tryz.underlying103 Tryz.sizeOf170 rfl rfl rfl k4 (by rw[List.length_map];exact k3)) ?_
 refine Al_p (Pu_loadXN (k:=1015) rfl Tryz.isAgg170 Tryz.sizeOf170 rfl rfl (pk_at k3).2.2 rfl (by decide)) ?_
 refine Al_al Tryz.zeroValue170 λg13=>?_
 refine Al_sN Tryz.isAgg170 Tryz.sizeOf170 ?_
 refine Al_nil (Aw_seq (Aw_sr ?_))
 refine Al_ml ?_
 refine Al_p (Pu_int_and (r:=N.hw3 how) rfl rfl rfl rfl (λ_=>V.i64_ok _)) ?_
 refine Al_p Pu_cp ?_
 refine Al_nil ?_
 refine Aw_cond rfl (λh44=>?_) (λh44=>?_)
 ·(try simp only[A.cd_]at h44)
  have hw:N.hw3 how=2:=h44
  have eb:N.pickB s k how=false:=by unfold N.pickB;rw[hw];simp
  have ed:N.pickD s k how=⟨#[]⟩:=by unfold N.pickD;rw[eb];rfl
  refine Aw_seq (Aw_sr ?_)
  refine Al_ml ?_
  refine Al_p Pu_nb ?_
  refine Al_p (Pu_fb 2 Tryz.underlying156 Tryz.sizeOf103) ?_
  refine Al_p (Pu_lb Tryz.isAgg103) ?_
  refine Al_p (Pu_lenX (k:=1015) rfl Tryz.underlying103 rfl rfl (by rw[List.length_map];simp only[A.maxI];omega)) ?_
  refine Al_p Pu_cp ?_
  refine Al_nil ?_
  refine Aw_cond rfl (λh50=>?_) (λh50=>?_)
  ·(try simp only[A.cd_]at h50)
   have h32:s.way.length<32:=by omega
   have es:N.pick s k how={s with way:=s.way++[s.way.getD k.toNat default]}:=by unfold N.pick;rw[if_neg hnk,if_pos hw,if_pos h32]
   refine Aw_drawn (by kernel_rfl) ?_
   refine Ad_t 0 rfl (PuI_move (.inl rfl) (by conv=>lhs;whnf)) ?_
   refine Ad_drawP 1 7 4 (by kernel_rfl) (by decide) rfl (by rfl) (by rfl) ?_
   refine Dr_ml ?_
   refine Dr_p Pu_nb ?_
   refine Dr_p (Pu_fb 2 Tryz.underlying156 Tryz.sizeOf103) ?_
   refine Dr_p (Pu_lb Tryz.isAgg103) ?_
   refine Dr_p (Pu_lbN (r:=[_,_]) Tryz.isAgg170 Tryz.sizeOf170) ?_
   refine Dr_p (Pu_slice1 rfl Tryz.underlying103 Tryz.sizeOf170 Tryz.zeroValue170 rfl (by decide) (by decide) (by kernel_rfl) rfl rfl rfl) ?_
   refine Dr_nil ?_
   refine Ad_o 7 ?_
   refine Al_appendX (k:=1015) rfl rfl rfl (by decide) (by kernel_rfl) pk_elem (by decide) Tryz.sizeOf170 rfl rfl rfl (by simp;omega) (by decide) (λv2=>?_)
   refine Al_nil ?_
   refine Ad_t 8 rfl PuI_nb ?_
   refine Ad_t 9 rfl (PuI_fb 2 Tryz.underlying156 Tryz.sizeOf103) ?_
   refine Ad_o 10 ?_
   refine Al_s1 Tryz.isAgg103 Tryz.sizeOf103 ?_
   refine Al_nil ?_
   refine Ad_d ?_
   refine Aw_sr ?_
   refine Al_mr ?_
   refine Al_mr ?_
   refine Al_nil ?_
   refine Aw_ghost [(1000,1003,0),(1009,1019,G),(1001,1011,G),(1002,1012,G),(1003,1013,G),(1004,1014,G),(1005,1015,G)] [] 12 (gh_put (E:=SES) (s':=N.pick s k how) (t:=(t.1,v2)) (λp hp=>(SES_in _ _).2.1 p hp)) (λ_ _ _ _ _=>trivial) ⟨rfl,rfl,rfl,by rw[es];rfl,by rw[es];rfl,by rw[es];rfl,by rw[es];exact obeqX (by simp[A.cellsA,Pk.row]),trivial⟩ (λ_=>rfl) rfl rfl (λF' G'=>?_)
   exact Aw_ret (⟨F',_,_,[],rfl,⟨_,_,rfl,Sub.d (by rw[ed]),Sub.bool eb.symm⟩,⟨rfl,by rw[mapP_upd];rfl,by rw[h3];rfl,trivial⟩,rfl⟩)
  ·(try simp only[A.cd_]at h50)
   have h32:¬s.way.length<32:=by omega
   have es:N.pick s k how=s:=by unfold N.pick;rw[if_neg hnk,if_pos hw,if_neg h32]
   refine Aw_skip (Aw_sr ?_)
   refine Al_mr ?_
   refine Al_mr ?_
   refine Al_nil ?_
   refine Aw_ghost [(1000,1003,0),(1009,1019,G),(1001,1011,G),(1002,1012,G),(1003,1013,G),(1004,1014,G),(1005,1015,G)] [] 12 (gh_put (E:=SES) (s':=N.pick s k how) (t:=t) (λp hp=>(SES_in _ _).2.1 p hp)) (λ_ _ _ _ _=>trivial) ⟨rfl,rfl,rfl,by rw[es];rfl,by rw[es];rfl,by rw[es];rfl,by rw[es];rfl,trivial⟩ (λ_=>rfl) rfl rfl (λF' G'=>?_)
   exact Aw_ret (⟨F',_,_,[],rfl,⟨_,_,rfl,Sub.d (by rw[ed]),Sub.bool eb.symm⟩,⟨rfl,by rw[mapP_upd];rfl,by rw[h3];rfl,trivial⟩,rfl⟩)
 ·(try simp only[A.cd_]at h44)
  have hw:¬N.hw3 how=2:=h44
  refine Aw_skip ?_
  refine Aw_seq ?_
  refine Aw_drawn (by kernel_rfl) ?_
  refine Ad_t 0 rfl (PuI_move (.inl rfl) (by conv=>lhs;whnf)) ?_
  refine Ad_drawP 1 15 4 (by kernel_rfl) (by decide) rfl (by rfl) (by rfl) ?_
  refine Dr_ml ?_
  refine Dr_p Pu_nb ?_
  refine Dr_p (Pu_fb 2 Tryz.underlying156 Tryz.sizeOf103) ?_
  refine Dr_p (Pu_lb Tryz.isAgg103) ?_
  refine Dr_ml ?_
  refine Dr_ml ?_
  refine Dr_p (Pu_cut3 (k:=1015) k.toNat rfl Tryz.underlying103 Tryz.sizeOf170 rfl rfl rfl ⟨_,rfl,k4⟩ ⟨_,rfl,k4⟩ (by rw[List.length_map];omega)) ?_
  refine Dr_ml ?_
  refine Dr_p Pu_nb ?_
  refine Dr_p (Pu_fb 2 Tryz.underlying156 Tryz.sizeOf103) ?_
  refine Dr_p (Pu_lb Tryz.isAgg103) ?_
  refine Dr_ml ?_
  refine Dr_p Pu_ad ?_
  refine Dr_p (Pu_cutLo (k:=1015) (k.toNat+1) rfl Tryz.underlying103 Tryz.sizeOf170 rfl rfl ⟨_,rfl,by omega⟩ (by rw[List.length_map];omega)) ?_
  refine Dr_nil ?_
  refine Ad_o 15 ?_
  refine Al_eraseX (k:=1015) rfl rfl rfl (by decide) (by kernel_rfl) pk_elem (by decide) Tryz.sizeOf170 rfl rfl rfl (by rw[List.length_map];exact k3) (by rw[List.length_map];omega) (by decide) (λv2=>?_)
  refine Al_nil ?_
  refine Ad_t 16 rfl PuI_nb ?_
  refine Ad_t 17 rfl (PuI_fb 2 Tryz.underlying156 Tryz.sizeOf103) ?_
  refine Ad_o 18 ?_
  refine Al_s1 Tryz.isAgg103 Tryz.sizeOf103 ?_
  refine Al_nil ?_
  refine Ad_d ?_
  refine Aw_seq (Aw_sr ?_)
  refine Al_ml ?_
  refine Al_p (Pu_int_and (r:=N.hw3 how) rfl rfl rfl rfl (λ_=>V.i64_ok _)) ?_
  refine Al_p Pu_cp ?_
  refine Al_nil ?_
  refine Aw_cond rfl (λh81=>?_) (λh81=>?_)
  ·(try simp only[A.cd_]at h81)
   have hw1:N.hw3 how=1:=h81
   have eb:N.pickB s k how=false:=by unfold N.pickB;rw[hw1];simp
   have ed:N.pickD s k how=⟨#[]⟩:=by unfold N.pickD;rw[eb];rfl
   have es:N.pick s k how=N.out s k:=by unfold N.pick;rw[if_neg hnk,if_neg hw,if_pos hw1]
   refine Aw_sr ?_
   refine Al_mr ?_
   refine Al_mr ?_
   refine Al_nil ?_
   refine Aw_ghost [(1000,1003,0),(1009,1019,G),(1001,1011,G),(1002,1012,G),(1003,1013,G),(1004,1014,G),(1005,1015,G)] [] 12 (gh_put (E:=SES) (s':=N.pick s k how) (t:=(t.1,v2)) (λp hp=>(SES_in _ _).2.1 p hp)) (λ_ _ _ _ _=>trivial) ⟨rfl,rfl,rfl,by rw[es];rfl,by rw[es];rfl,by rw[es];rfl,by rw[es];exact obeqX (by simp[N.out]),trivial⟩ (λ_=>rfl) rfl rfl (λF' G'=>?_)
   exact Aw_ret (⟨F',_,_,[],rfl,⟨_,_,rfl,Sub.d (by rw[ed]),Sub.bool eb.symm⟩,⟨rfl,by rw[mapP_upd];rfl,by rw[h3];rfl,trivial⟩,rfl⟩)
  ·(try simp only[A.cd_]at h81)
   have hw1:¬N.hw3 how=1:=h81
   have es:N.pick s k how=N.took (N.out s k) (s.way.getD k.toNat default):=by unfold N.pick;rw[if_neg hnk,if_neg hw,if_neg hw1]
   refine Aw_skip ?_
   refine Aw_seq ?_
   refine Aw_drawP 5 6 (by kernel_rfl) (by kernel_rfl) rfl ?_
   refine Dr_ml ?_
   refine Dr_p Pu_nb ?_
   refine Dr_p (Pu_fb 1 Tryz.underlying156 Tryz.sizeOf153) ?_
   refine Dr_p (Pu_lb Tryz.isAgg153) ?_
   refine Dr_p (Pu_lbN (r:=[_,_]) Tryz.isAgg170 Tryz.sizeOf170) ?_
   refine Dr_nil ?_
   refine Ad_o 5 ?_
   refine Al_gcall [(1001,1013,G)] [] ((lkTake_g s.rn (s.way.getD k.toNat default) (by omega)).tup) rfl rfl rfl (by decide) (by kernel_rfl) ⟨rfl,trivial⟩ rfl ⟨Sub.rfl,Sub.rfl,trivial⟩ (λg88=>?_)
   refine Al_nil ?_
   refine Ad_t 6 rfl (PuI_move (.inl rfl) (by conv=>lhs;whnf)) ?_
   refine Ad_t 7 rfl PuI_ex ?_
   refine Ad_t 8 rfl PuI_ex ?_
   refine Ad_t 9 rfl (PuI_move (.inr rfl) (by conv=>lhs;whnf)) ?_
   refine Ad_t 10 rfl (PuI_move (.inr rfl) (by conv=>lhs;whnf)) ?_
   refine Ad_d ?_
   refine Aw_seq (Aw_sr ?_)
   refine Al_ml ?_
   refine Al_nil ?_
   refine Aw_cond rfl (λh91=>?_) (λh91=>?_)
   ·(try simp only[A.cd_]at h91)
    have hq:(s.way.getD k.toNat default).seq=s.rn:=h91
    have eb:N.pickB s k how=true:=by unfold N.pickB;rw[hk,decide_eq_true hq];simp[hw,hw1]
    have ed:N.pickD s k how=(s.way.getD k.toNat default).d:=by unfold N.pickD;rw[eb];rfl
    have et:N.took (N.out s k) (s.way.getD k.toNat default)=N.answer {N.out s k with rn:=s.rn+1} (s.rn+1):=by unfold N.took;rw[if_pos (show _=(N.out s k).rn from hq)];rfl
    rw[if_pos hq]
    refine Aw_drawP 9 1 (by kernel_rfl) (by kernel_rfl) rfl ?_
    refine Dr_ml ?_
    refine Dr_p Pu_nb ?_
    refine Dr_p (Pu_fb 0 Tryz.underlying156 Tryz.sizeOf151) ?_
    refine Dr_p (Pu_lb Tryz.isAgg151) ?_
    refine Dr_ml ?_
    refine Dr_p Pu_nb ?_
    refine Dr_p (Pu_fb 1 Tryz.underlying156 Tryz.sizeOf153) ?_
    refine Dr_p (Pu_lb Tryz.isAgg153) ?_
    refine Dr_p (Pu_gcall [(1001,1013,G)] (lkWaits_g (s.rn+1)) (RC_in ..) rfl ⟨rfl,trivial⟩ rfl ⟨Sub.rfl,trivial⟩) ?_
    refine Dr_nil ?_
    refine Ad_o 9 ?_
    refine Al_gcallE [(1001,1012,G),(1002,1014,G)] [] (lkAns_g s.sn t.1 s.op (s.rn+1) (by omega)) rfl rfl rfl (by decide) (by kernel_rfl) ⟨rfl,rfl,trivial⟩ (λ_=>rfl) rfl rfl ⟨Sub.rfl,Sub.rfl,trivial⟩ ?_
    rintro v1 g101
    refine Al_nil ?_
    refine Ad_d ?_
    refine Aw_sr ?_
    refine Al_ml ?_
    refine Al_ml ?_
    refine Al_mr ?_
    refine Al_mr ?_
    refine Al_nil ?_
    refine Aw_ghost [(1000,1003,0),(1009,1019,G),(1001,1011,G),(1002,1012,G),(1003,1013,G),(1004,1014,G),(1005,1015,G)] [] 12 (gh_put (E:=SES) (s':=N.pick s k how) (t:=(v1,v2)) (λp hp=>(SES_in _ _).2.1 p hp)) (λ_ _ _ _ _=>trivial) ⟨rfl,rfl,rfl,by rw[es,et];rfl,by rw[es,et];rfl,by rw[es,et];rfl,by rw[es,et];exact obeqX (by simp[N.out,N.answer]),trivial⟩ (λ_=>rfl) rfl rfl (λF' G'=>?_)
    exact Aw_ret (⟨F',_,_,[],rfl,⟨_,_,rfl,Sub.d (by rw[if_pos hq,ed]),Sub.bool (by rw[eb];exact decide_eq_true hq)⟩,⟨rfl,by rw[mapP_upd];rfl,by rw[h3];rfl,trivial⟩,rfl⟩)
   ·(try simp only[A.cd_]at h91)
    have hq:¬(s.way.getD k.toNat default).seq=s.rn:=h91
    have eb:N.pickB s k how=false:=by unfold N.pickB;rw[decide_eq_false hq];simp
    have ed:N.pickD s k how=⟨#[]⟩:=by unfold N.pickD;rw[eb];rfl
    have et:N.took (N.out s k) (s.way.getD k.toNat default)=N.out s k:=by unfold N.took;rw[if_neg (show¬_=(N.out s k).rn from hq)]
    refine Aw_skip (Aw_sr ?_)
    refine Al_ml ?_
    refine Al_ml ?_
    refine Al_mr ?_
    refine Al_mr ?_
    refine Al_nil ?_
    refine Aw_ghost [(1000,1003,0),(1009,1019,G),(1001,1011,G),(1002,1012,G),(1003,1013,G),(1004,1014,G),(1005,1015,G)] [] 12 (gh_put (E:=SES) (s':=N.pick s k how) (t:=(t.1,v2)) (λp hp=>(SES_in _ _).2.1 p hp)) (λ_ _ _ _ _=>trivial) ⟨rfl,rfl,rfl,by rw[es,et];rfl,by rw[es,et,if_neg hq];rfl,by rw[es,et];rfl,by rw[es,et];exact obeqX (by simp[N.out]),trivial⟩ (λ_=>rfl) rfl rfl (λF' G'=>?_)
    exact Aw_ret (⟨F',_,_,[],rfl,⟨_,_,rfl,Sub.d (by rw[if_neg hq,ed]),Sub.bool (by rw[eb];exact decide_eq_false hq)⟩,⟨rfl,by rw[mapP_upd];rfl,by rw[h3];rfl,trivial⟩,rfl⟩)
end Go.Proofs.YtdnijgdmohinlaaGreat
end
section
namespace Go.Proofs.YtdnijgdmohinlaaGreat.A
open Go Go.RowKit
open Go.ChangeMaps (setBlock)
section
variable {κ α:Type}
def Iter (kv:κ→Value) (w:World) (b r cnt:Nat) (D:κ→Prop) (cur:Option κ):Prop :=
 ∃(since:Nat) (seen:Array Nat) (c0:Nat) (es:Array MapEntry) (clock:Nat),w.heap[r]?=some (.mapIter (some b) since seen c0)∧w.heap[b]?=some (.map es clock)∧(∀x∈es.toList,x.born<since)∧(since≤c0∧since≤clock)∧(es.toList.map (·.born)).Nodup∧(leftOf es seen).size=cnt∧(∀e∈es.toList,seen.contains e.born=true→∀c,e.key=kv c→D c)∧∀c,cur=some c→c0=clock∧∃e∈es.toList,e.key=kv c∧∃s':Array Nat,seen=s'.push e.born
def mapIt (kv:κ→Value) (ok:κ→Prop) (enc:α→AV) (b n:Nat) (m:κ→Option α) (r cnt:Nat) (D:κ→Prop) (cur:Option κ):OP where
 F:=λc=>c=b∨c=r
 I:=λM w _ h=>h=.map (some b)∧R.Mp kv ok (λw v x=>Rep M w (enc x) v) w b n m∧Iter kv w b r cnt D cur
 mono:=λ{M M' w w' ρ h} k hb hI=>by
  obtain⟨h1,h2,since,seen,c0,es,clock,h3,h4,h5⟩:=hI
  exact⟨h1,h2.mono (hb b (.inl rfl)) λv x hv=>hv.mono k,since,seen,c0,es,clock,(hb r (.inr rfl)).trans h3,(hb b (.inl rfl)).trans h4,h5⟩
 rho:=λ_ h=>h
 lt:=λ{M w ρ h} hI c hc=>by
  obtain⟨h1,h2,since,seen,c0,es,clock,h3,h4,h5⟩:=hI
  rcases hc with rfl|rfl
  ·exact(Array.getElem?_eq_some_iff.1 h4).1
  ·exact(Array.getElem?_eq_some_iff.1 h3).1
abbrev itV (r:Nat):Value:=.pointer (some ⟨r,0,none⟩)
end
section
variable {P:Program}{N:Nat}{M0:Nat→Prop}{w0:Base}{ops:Array Oper}{Q:Exit→ASt→Prop}{o o2:Oper}{l:List Oper}{st:ASt}
variable {κ α:Type}{kv:κ→Value}{ok:κ→Prop}{enc:α→AV}{b n:Nat}{m:κ→Option α}
theorem Al_range {d k g:Nat}{t kt e:TypeId}{x:Operand}(ho:o.op=.range t x) (hg:o.guard=none) (hd:o.dst=some d) (hN:d<N) (hc:conB o=true) (ht:P.underlying t=some (.map kt e)) (hx:st.ev x=.ow k g) (hob:st.ob k=some (g,.op (mapO kv ok enc b n m)))
  (h:∀r cnt,Al P N M0 w0 ops Q l ((st.put k g (.op (mapIt kv ok enc b n m r cnt (λ_=>False) none))).set d (.d (.v (itV r))))):Al P N M0 w0 ops Q (o::l) st:=by
 refine⟨?_⟩
 rintro a w ⟨ρ,hsim⟩
 have h1:=hsim.ev hc x (by simp[opsOf,ho,Op.operands])
 rw[hx]at h1
 obtain⟨k1,_⟩:=h1
 obtain⟨u,hu,hF,he,hmp⟩:=hsim.obj k g _ hob
 rw[k1]at hu
 have hxe:a.eval x=.map (some b):=(Option.some.inj hu).trans he
 have hmp0:=hmp
 obtain⟨es,clock,q1,q2,q3⟩:=hmp
 have hlt:b<w.heap.size:=(Array.getElem?_eq_some_iff.1 q1).1
 have hs2:=hsim.mod2 (w':=w.alloc (.mapIter (some b) clock #[] clock)) hob k1 ⟨rfl,rfl,rfl⟩ (by simp) (λc hc _=>heap_alloc_old w _ hc) (o':=.op (mapIt kv ok enc b n m w.heap.size (leftOf es #[]).size (λ_=>False) none)) (λM' hK=>⟨λc hc=>by
   rcases hc with rfl|rfl
   ·exact hF _ rfl
   ·exact .inl hsim.ext.size,hxe,hmp0.mono (heap_alloc_old w _ hlt) (λv x hv=>hv.mono hK),clock,#[],clock,es,clock,heap_alloc_new w _,(heap_alloc_old w _ hlt).trans q1,q2.1,⟨Nat.le_refl _,Nat.le_refl _⟩,q2.2.1,rfl,λe he hs=>by simp at hs,λc hc=>by cases hc⟩) (λc hc=>by
   rcases hc with rfl|rfl
   ·exact .inl rfl
   ·exact .inr (Nat.le_refl _))
 refine wpList_plain hg λK hK=>wp_upon ?_
 have e:(execOp a.eval o).run P w=.ok (.value (itV w.heap.size)) (w.alloc (.mapIter (some b) clock #[] clock)):=by
  simp only[execOp,ho,hxe,run_range_map w t kt _ b es clock ht q1,Sem.run_bind,Result.andThen_ok,Sem.run_pure]
 rw[e]
 refine hK _ _ ((h w.heap.size (leftOf es #[]).size).out _ _ ⟨ρ,?_⟩)
 rw[hd]
 exact hs2.set hN (.v _ trivial)
theorem Al_next {d d2 k g r cnt:Nat}{D:κ→Prop}{cur:Option κ}{x:Operand}(ho:o.op=.next x false) (hg:o.guard=none) (hd:o.dst=some d) (hN:d<N) (hc:conB o=true) (ho2:o2.op=.extract (.tmp d) 0) (hg2:o2.guard=none) (hd2:o2.dst=some d2) (hN2:d2<N) (hx:st.ev x=.d (.v (itV r))) (hob:st.ob k=some (g,.op (mapIt kv ok enc b n m r cnt D cur))) (hinj:∀a c,kv a=kv c→a=c)
  (h:∀(y:Bool) (cnt':Nat) (D':κ→Prop) (cur':Option κ),(y=false→∀c,(m c).isSome=true→D' c)→(y=false→D'=D)→(y=true→cnt'<cnt∧∃c v,cur'=some c∧m c=some v∧D'=λc'=>D c'∨c'=c)→Al P N M0 w0 ops Q l (((st.put k g (.op (mapIt kv ok enc b n m r cnt' D' cur'))).set d .any).set d2 (.d (.v (.bool y))))):Al P N M0 w0 ops Q (o::o2::l) st:=by
 refine⟨?_⟩
 rintro a w ⟨ρ,hsim⟩
 have h1:=hsim.ev hc x (by simp[opsOf,ho,Op.operands])
 rw[hx]at h1
 obtain⟨hxe,_⟩:=rep_v h1
 obtain⟨u,hu,hF,he,hmp,since,seen,c0,es,clock,i1,i2,i3,i4,i5,i6,i7,i8⟩:=hsim.obj k g _ hob
 have hmp0:=hmp
 obtain⟨es',clock',m1,m2,m3,m4,m5⟩:=hmp
 rw[i2]at m1
 obtain⟨rfl,rfl⟩:es=es'∧clock=clock':=by cases m1;exact⟨rfl,rfl⟩
 have fin:∀(y:Bool) (vs:List Value) (w':World) (cnt':Nat) (D':κ→Prop) (cur':Option κ),(y=false→∀c,(m c).isSome=true→D' c)→(y=false→D'=D)→(y=true→cnt'<cnt∧∃c v,cur'=some c∧m c=some v∧D'=λc'=>D c'∨c'=c)→(Instr.next (itV r) false o.type).run P w=.ok (.tuple (.bool y::vs).toArray) w'→SimR N M0 w0 (st.put k g (.op (mapIt kv ok enc b n m r cnt' D' cur'))) ρ a w'→wpList P ops (QL N M0 w0 Q) (o::o2::l) a w:=λy vs w' cnt' D' cur' hy1 hy3 hy2 hrun hs=>by
  refine wpList_plain hg λK hK=>wp_upon ?_
  have e:(execOp a.eval o).run P w=.ok (.value (.tuple (.bool y::vs).toArray)) w':=by
   simp only[execOp,ho,hxe,hrun,Sem.run_bind,Result.andThen_ok,Sem.run_pure]
  rw[e]
  refine hK _ _ ?_
  rw[hd]
  have hs1:=hs.set (i:=d) (s:=.any) (x:=.tuple (.bool y::vs).toArray) hN trivial
  have hget:(a.put (some d) (.tuple (.bool y::vs).toArray)).eval (.tmp d)=.tuple (.bool y::vs).toArray:=by
   have hsz:=hs.size
   simp[Act.put,Act.eval,Array.getD_eq_getD_getElem?,hsz,hN]
  refine wpList_plain hg2 λK2 hK2=>wp_upon ?_
  have e2:(execOp (a.put (some d) (.tuple (.bool y::vs).toArray)).eval o2).run P w'=.ok (.value (.bool y)) w':=by
   simp[execOp,ho2,hget,Instr.extract,Sem.run]
  rw[e2]
  refine hK2 _ _ ((h y cnt' D' cur' hy1 hy3 hy2).out _ _ ⟨ρ,?_⟩)
  rw[hd2]
  exact hs1.set hN2 (.v _ trivial)
 rcases run_next_at (P:=P) w o.type r b since c0 seen es clock i1 i2 i3 i4.1 with⟨h0,hr⟩|⟨en,hen,w1,hw1,hr⟩
 ·refine fin false [] w cnt D cur (λ_ c hcs=>?_) (λ_=>rfl) (λh=>by cases h) hr ?_
  ·obtain⟨v,hv⟩:=Option.isSome_iff_exists.1 hcs
   obtain⟨en,he1,he2⟩:=m5 c v hv
   refine i7 en he1 ?_ c he2
   cases hsn:seen.contains en.born with
   | true=>rfl
   | false =>
    exfalso
    have:en∈leftOf es seen:=by
     unfold leftOf
     rw[Array.mem_filter]
     exact⟨by simpa using he1,by simpa using hsn⟩
    have:=Array.size_pos_of_mem this
    omega
  ·exact hsim.mod2 (w':=w) hob hu ⟨rfl,rfl,rfl⟩ (Nat.le_refl _) (λ_ _ _=>rfl) (λM' hK=>⟨hF,he,hmp0.mono rfl λv x hv=>hv.mono hK,since,seen,c0,es,clock,i1,i2,i3,i4,i5,i6,i7,i8⟩) (λc hc=>.inl hc)
 ·have hen1:en∈es.toList∧seen.contains en.born=false:=by
   unfold leftOf at hen
   rw[Array.mem_toList_iff,Array.mem_filter]at hen
   exact⟨by simpa using hen.1,by simpa using hen.2⟩
  obtain⟨c,v,hck,hkc,hmc,hvc⟩:=m4 en hen1.1
  have hw:w1.heap=w.heap∧w1.os=w.os∧w1.tape=w.tape∧w1.output=w.output:=by rcases hw1 with rfl|rfl<;>exact⟨rfl,rfl,rfl,rfl⟩
  have hrb:r≠b:=λe=>by subst e;rw[i1]at i2;cases i2
  have hrl:r<w.heap.size:=(Array.getElem?_eq_some_iff.1 i1).1
  have hnw:∀c',c'≠r→(setBlock w1 r (.mapIter (some b) since (seen.push en.born) clock)).heap[c']?=w.heap[c']?:=λc' hc'=>by
   simp[setBlock,hw.1,Array.getElem?_setIfInBounds,Ne.symm hc']
  have hnr:(setBlock w1 r (.mapIter (some b) since (seen.push en.born) clock)).heap[r]?=some (.mapIter (some b) since (seen.push en.born) clock):=by
   simp[setBlock,hw.1,Array.getElem?_setIfInBounds,hrl]
  have hcnt:(leftOf es (seen.push en.born)).size<(leftOf es seen).size:=by
   have:=filter_lt (λe=>!seen.contains e.born) (λe=>!(seen.push en.born).contains e.born) (λx hx=>by simp at hx ⊢;exact hx.1) en (by simpa using hen1.2) (by simp) es.toList hen1.1
   have hsz:∀sn,(leftOf es sn).size=(es.toList.filter λe=>!sn.contains e.born).length:=λsn=>by
    unfold leftOf
    rw[←Array.length_toList,Array.toList_filter]
   rw[hsz,hsz]
   exact this
  refine fin true [en.key,en.val] _ (leftOf es (seen.push en.born)).size (λc'=>D c'∨c'=c) (some c) (λh=>by cases h) (λh=>by cases h) (λ_=>⟨by rw[←i6];exact hcnt,c,v,rfl,hmc,rfl⟩) hr ?_
  refine hsim.mod2 (w':=setBlock w1 r (.mapIter (some b) since (seen.push en.born) clock)) hob hu ⟨hw.2.1,hw.2.2.1,hw.2.2.2⟩ (by simp[setBlock,hw.1]) (λc' _ hc'=>hnw c' λe=>hc' (.inr e)) (λM' hK=>⟨hF,he,hmp0.mono (hnw b (Ne.symm hrb)) λv x hv=>hv.mono hK,since,seen.push en.born,clock,es,clock,hnr,(hnw b (Ne.symm hrb)).trans i2,i3,⟨i4.2,i4.2⟩,i5,rfl,λe' he' hs' c' hk'=>?_,λc' hc'=>?_⟩) (λc' hc'=>.inl hc')
  ·by_cases hb:seen.contains e'.born=true
   ·exact .inl (i7 e' he' hb c' hk')
   ·right
    have hbe:e'.born=en.born:=by
     simp only[Array.contains_eq_mem,Array.mem_push,decide_eq_true_eq]at hs' hb
     exact hs'.resolve_left hb
    have h7:=find_born en es.toList i5 hen1.1
    have h8:=find_born e' es.toList i5 he'
    rw[hbe]at h8
    rw[h7]at h8
    obtain rfl:=Option.some.inj h8
    exact hinj _ _ (hk'.symm.trans hkc)
  ·obtain rfl:=Option.some.inj hc'
   exact⟨rfl,en,hen1.1,hkc,seen,rfl⟩
theorem Al_entry {d d2 k g r cnt:Nat}{D:κ→Prop}{c:κ}{v:α}{x:Operand}(ho:o.op=.entry x) (hg:o.guard=none) (hd:o.dst=some d) (hN:d<N) (hc:conB o=true) (ho2:o2.op=.extract (.tmp d) 1) (hg2:o2.guard=none) (hd2:o2.dst=some d2) (hN2:d2<N) (hx:st.ev x=.d (.v (itV r))) (hob:st.ob k=some (g,.op (mapIt kv ok enc b n m r cnt D (some c)))) (hm:m c=some v) (hinj:∀a c,kv a=kv c→a=c)
  (h:Al P N M0 w0 ops Q l ((st.set d .any).set d2 (.d (enc v)))):Al P N M0 w0 ops Q (o::o2::l) st:=by
 refine⟨?_⟩
 rintro a w ⟨ρ,hs⟩
 have h1:=hs.ev hc x (by simp[opsOf,ho,Op.operands])
 rw[hx]at h1
 obtain⟨hxe,_⟩:=rep_v h1
 obtain⟨u,hu,hF,he,hmp,since,seen,c0,es,clock,i1,i2,i3,i4,i5,i6,i7,i8⟩:=hs.obj k g _ hob
 obtain⟨es',clock',m1,m2,m3,m4,m5⟩:=hmp
 rw[i2]at m1
 obtain⟨rfl,rfl⟩:es=es'∧clock=clock':=by cases m1;exact⟨rfl,rfl⟩
 obtain⟨rfl,en,he1,he2,s',rfl⟩:=i8 c rfl
 obtain⟨c',v',hck,hkc,hmc,hvc⟩:=m4 en he1
 obtain rfl:=hinj _ _ (he2.symm.trans hkc)
 rw[hm]at hmc
 obtain rfl:=Option.some.inj hmc
 have hrun:=run_entry_at (P:=P) w r b since s' es _ en i1 i2 he1 i5
 refine wpList_plain hg λK hK=>wp_upon ?_
 have e:(execOp a.eval o).run P w=.ok (.value (.tuple #[en.key,en.val])) w:=by
  simp only[execOp,ho,hxe,hrun,Sem.run_bind,Result.andThen_ok,Sem.run_pure]
 rw[e]
 refine hK _ _ ?_
 rw[hd]
 have hs1:=hs.set (i:=d) (s:=.any) (x:=.tuple #[en.key,en.val]) hN trivial
 have hget:(a.put (some d) (.tuple #[en.key,en.val])).eval (.tmp d)=.tuple #[en.key,en.val]:=by
  have hsz:=hs.size
  simp[Act.put,Act.eval,Array.getD_eq_getD_getElem?,hsz,hN]
 refine wpList_plain hg2 λK2 hK2=>wp_upon ?_
 have e2:(execOp (a.put (some d) (.tuple #[en.key,en.val])).eval o2).run P w=.ok (.value en.val) w:=by
  simp[execOp,ho2,hget,Instr.extract,Sem.run]
 rw[e2]
 refine hK2 _ _ (h.out _ _ ⟨ρ,?_⟩)
 rw[hd2]
 exact hs1.set hN2 hvc
theorem le_iter {k g r cnt:Nat}{D:κ→Prop}{cur:Option κ}(hob:st.ob k=some (g,.op (mapIt kv ok enc b n m r cnt D cur))):Le N M0 w0 st (st.put k g (.op (mapO kv ok enc b n m))):=λa w ⟨ρ,hs⟩=>by
 obtain⟨y,hy,hF,h1,h2,_⟩:=hs.obj k g _ hob
 exact⟨ρ,hs.mod2 (w':=w) hob hy ⟨rfl,rfl,rfl⟩ (Nat.le_refl _) (λ_ _ _=>rfl) (λM' hK=>⟨λc hc=>hF c (.inl hc),h1,h2.mono rfl λv x hv=>hv.mono hK⟩) (λc hc=>.inl (.inl hc))⟩
end
end Go.Proofs.YtdnijgdmohinlaaGreat.A
end
section
set_option maxRecDepth 100000
namespace Go.Proofs.YtdnijgdmohinlaaGreat
open Go Go.RowKit A R
namespace N
def idle (X:XS):Bool:=X.all λp=>p.2.op.isEmpty
theorem netM_some {n:Nat}{X:XS}{c:H.SK}{v:Value}(h:netM n X c=some v):∃X1 s X2,X=X1++(v,s)::X2∧idx n c.1 c.2=some X1.length:=by
 unfold netM at h
 obtain⟨i,hi,h1⟩:=Option.bind_eq_some_iff.1 h
 obtain⟨x,hx,rfl⟩:=Option.map_eq_some_iff.1 h1
 obtain⟨hl,he⟩:=List.getElem?_eq_some_iff.1 hx
 refine⟨X.take i,x.2,X.drop (i+1),?_,?_⟩
 ·show X=X.take i++x::_
  rw[←he,List.getElem_cons_drop,List.take_append_drop]
 ·rw[hi,List.length_take,Nat.min_eq_left (by omega)]
def Full (n:Nat) (X:XS):Prop:=∀i,i<X.length→∃c:H.SK,idx n c.1 c.2=some i
end N
theorem ntIdle_g (n b cm:Nat) (F:Nat→Prop) (X:N.XS) (hX:N.Full n X) (hs:∀p∈X,N.Fit 1000 p.2):GCall Tryz.prog 46 [.bx 1001 0 0] (NT n b cm F X) (some (NT n b cm F X,.d (bv (N.idle X)))):=by
 refine GC_L Tryz.func46 Tryz.ntmps46 (ReadsS.r1 Tryz.results46) λhok hokB M0 w0 hl=>?_
 refine Aw_sr ?_
 refine Al_mr ?_
 refine Al_nil (Aw_seq (Aw_sr ?_))
 refine Al_ml ?_
 refine Al_p (Pu_eqnilb Tryz.underlying83 rfl rfl) ?_
 refine Al_nil ?_
 refine Aw_condF rfl (rfl) ?_
 refine Aw_skip (Aw_seq (Aw_sr ?_))
 refine Al_ml ?_
 refine Al_p Pu_nb ?_
 refine Al_p (Pu_fb 0 Tryz.underlying149 Tryz.sizeOf147) ?_
 refine Al_p (Pu_lb Tryz.isAgg147) ?_
 refine Al_range (k:=1002) rfl rfl rfl (by decide) (by kernel_rfl) Tryz.underlying147 rfl rfl (λr cnt0=>?_)
 refine Al_nil (Aw_block ?_)
 refine Aw_loopk (ι:=Nat×(H.SK→Prop)×(Option H.SK)) [11] [1001] (λ(cnt,D,cur)=>[]) (λ(cnt,D,cur)=>[(1002,0,.op (mapIt H.skv H.skok (λv:Value=>AV.v v) b cm (N.netM n X) r cnt D cur)),(1003,0,.op (starP SES F X))]) (λ(cnt,D,cur)=>∀c,D c→∀i p,N.idx n c.1 c.2=some i→X[i]?=some p→p.2.op=[]) (λ(cnt,D,cur)=>cnt) (cnt0,λ_=>False,none) (λc h=>h.elim) trivial ⟨rfl,rfl,trivial⟩ ?_
 rintro⟨cnt,D,cur⟩ hD
 refine Aw_sr ?_
 refine Al_next (k:=1002) rfl rfl rfl (by decide) (by kernel_rfl) rfl rfl rfl (by decide) rfl rfl H.skv_inj (λy cnt' D' cur' hy1 hy2 hy3=>?_)
 skip
 refine Al_nil (Aw_seq ?_)
 refine Aw_cond rfl (λh13=>?_) (λh13=>?_)
 ·(try simp only[A.cd_]at h13)
  obtain⟨hlt,c,v,rfl,hm,rfl⟩:=hy3 h13
  obtain⟨X1,s,X2,rfl,hi⟩:=N.netM_some hm
  obtain⟨s1,s2,s3,s4⟩:N.Fit 1000 s:=hs (v,s) (by simp)
  refine Aw_skip (Aw_block (Aw_sr ?_))
  refine Al_entry (k:=1002) rfl rfl rfl (by decide) (by kernel_rfl) rfl rfl rfl (by decide) rfl rfl hm H.skv_inj ?_
  skip
  refine Al_mr ?_
  refine Al_nil (Aw_seq ?_)
  refine Aw_ghost [(1000,1003,0)] [(1009,1019),(1010,1020),(1001,1011),(1002,1012),(1003,1013),(1004,1014),(1005,1015)] 4 (gh_pullS (SES_in s)) Sub.rfl ⟨rfl,trivial⟩ (λ_=>rfl) rfl rfl (λz G=>?_)
  obtain⟨t,F2⟩:=z
  refine Aw_region ?_
  refine Al_ml ?_
  refine Al_p Pu_nb ?_
  refine Al_p (Pu_fb 0 Tryz.underlying156 Tryz.sizeOf151) ?_
  refine Al_p (Pu_lb Tryz.isAgg151) ?_
  refine Al_p (Pu_gcall [(1001,1012,G),(1002,1014,G)] (lkOpen_g s.sn t.1 s.op (by omega)) (SN_in ..) rfl ⟨rfl,rfl,trivial⟩ rfl ⟨Sub.rfl,trivial⟩) ?_
  refine Al_p (Pu_ln Tryz.underlying103) ?_
  refine Al_p Pu_cp ?_
  refine Al_nil ?_
  refine Aw_cond rfl (λh22=>?_) (λh22=>?_)
  ·(try simp only[A.cd_]at h22)
   have hne:s.op≠[]:=λh=>by rw[h]at h22;simp at h22
   refine Aw_ghost [(1000,1003,0),(1009,1019,G),(1010,1020,G),(1001,1011,G),(1002,1012,G),(1003,1013,G),(1004,1014,G),(1005,1015,G)] [] 4 (gh_putS (E:=SES) (F:=F) (F1:=F2) (s:=s) (t:=t) (λp hp=>(SES_in _ _).2.1 p hp)) (λ_ _ _ _ _=>trivial) ⟨rfl,rfl,rfl,rfl,rfl,rfl,rfl,rfl,trivial⟩ (λ_=>rfl) rfl rfl (λ_ G'=>?_)
   refine Aw_le (le_iter (k:=1002) rfl) ?_
   have e1:N.idle (X1++(v,s)::X2)=false:=by
    unfold N.idle
    rw[List.all_eq_false]
    exact⟨(v,s),by simp,by simpa using hne⟩
   refine Aw_sr ?_
   refine Al_mr ?_
   refine Al_nil ?_
   exact Aw_ret (⟨_,_,[],rfl,Sub.bool e1.symm,⟨rfl,rfl,rfl,trivial⟩,rfl⟩)
  ·(try simp only[A.cd_]at h22)
   have hno:s.op=[]:=List.eq_nil_of_length_eq_zero (by omega)
   refine Aw_ghost [(1000,1003,0),(1009,1019,G),(1010,1020,G),(1001,1011,G),(1002,1012,G),(1003,1013,G),(1004,1014,G),(1005,1015,G)] [] 4 (gh_putS (E:=SES) (F:=F) (F1:=F2) (s:=s) (t:=t) (λp hp=>(SES_in _ _).2.1 p hp)) (λ_ _ _ _ _=>trivial) ⟨rfl,rfl,rfl,rfl,rfl,rfl,rfl,rfl,trivial⟩ (λ_=>rfl) rfl rfl (λ_ G'=>?_)
   refine Aw_skip ?_
   exact⟨(cnt',_,_),λc' hc' i p h1 h2=>by
    rcases hc' with hc'|rfl
    ·exact hD c' hc' i p h1 h2
    ·rw[hi]at h1
     cases h1
     rw[List.getElem?_append_right (Nat.le_refl _),Nat.sub_self,List.getElem?_cons_zero]at h2
     cases h2
     exact hno,hlt,Le.ov trivial ⟨Sub.rfl,trivial⟩ ⟨rfl,rfl,trivial⟩ ⟨rfl,trivial⟩⟩
 ·(try simp only[A.cd_]at h13)
  have hall:=hy1 h13
  have hDD:=hy2 h13
  subst hDD
  refine Aw_le (le_iter (k:=1002) rfl) ?_
  have e1:N.idle X=true:=by
   unfold N.idle
   rw[List.all_eq_true]
   intro p hp
   obtain⟨i,hi,rfl⟩:=List.getElem_of_mem hp
   obtain⟨c,hc⟩:=hX i hi
   have h2:X[i]?=some X[i]:=List.getElem?_eq_getElem hi
   have h3:(N.netM n X c).isSome=true:=by unfold N.netM;rw[hc];simp[h2]
   rw[hD c (hall c h3) i _ hc h2];rfl
  refine Aw_exit (Aw_sr ?_)
  refine Al_mr ?_
  refine Al_nil ?_
  exact Aw_ret (⟨_,_,[],rfl,Sub.bool e1.symm,⟨rfl,rfl,rfl,trivial⟩,rfl⟩)
theorem A.Pu_min2 {P:Program}{st:ASt}{o:Oper}{x y:Operand}{ts:Array TypeId}{a b c:Int}(ho:o.op=.call ⟨.builtin .min,#[x,y],ts⟩) (hx:st.ev x=.d (.v (.int .i64 a))) (hy:st.ev y=.d (.v (.int .i64 b))) (hc:(if b<a then b else a)=c):Pu P st o (.d (.v (.int .i64 c))):=Pu_q λB M ρ w ac h2 _=>by
 obtain⟨e1,v1⟩:=ev_v h2 (mem_call ho x (by simp)) hx
 obtain⟨e2,v2⟩:=ev_v h2 (mem_call ho y (by simp)) hy
 subst hc
 refine⟨.int .i64 (if b<a then b else a),?_,.v _ ?_⟩
 ·simp[execOp,ho,resolve,invoke,builtin,Builtin.min_,Builtin.min2,e1,e2,Sem.run]
 ·split
  ·exact v2
  ·exact v1
theorem ntAgain_g (n b cnt:Nat) (F:Nat→Prop) (X:N.XS) (x y:Int) (hX:Places X) (hs:∀p∈X,N.Fit 1000 p.2):GCallE Tryz.prog 171 [.bx 1001 0 0,.d (iv x),.d (iv y)] (NT n b cnt F X) (λF':Nat→Prop=>some (NT n b cnt F' (N.upd n X x y N.again),.d (iv ((N.ask n X x y 0 N.againN:Nat):Int)))):=by
 refine GC_EL Tryz.func171 Tryz.ntmps171 (ReadsS.r1 Tryz.results171) λhok hokB M0 w0 hl=>?_
 obtain⟨ad,had⟩:=hX.of (n:=n) x y
 refine Aw_sr ?_
 refine Al_mr ?_
 refine Al_ns ?_
 refine Al_ml ?_
 refine Al_ml ?_
 refine Al_ml ?_
 refine Al_p (Pu_gcall [(1001,1001,0),(1002,1002,0),(1003,1003,0)] (ntOf_g n b cnt F X x y) (NT_in ..) rfl ⟨rfl,rfl,rfl,trivial⟩ rfl ⟨Sub.rfl,Sub.rfl,Sub.rfl,trivial⟩) ?_
 refine Al_mr ?_
 refine Al_nil (Aw_seq (Aw_sr ?_))
 refine Al_ml ?_
 refine Al_p (Pu_eqnilV had Tryz.underlying150 rfl rfl) ?_
 refine Al_nil ?_
 refine Aw_cond rfl (λh14=>?_) (λh14=>?_)
 ·(try simp only[A.cd_]at h14)
  have hnn:N.ofV n X x y=.pointer none:=by rw[had];cases ad with
   | none=>rfl
   | some a=>simp at h14
  obtain⟨h1,h2,h3⟩:=hX.none hnn
  have e1:N.ask n X x y 0 N.againN=0:=by unfold N.ask;rw[h2]
  refine Aw_sr ?_
  refine Al_mr ?_
  refine Al_nil ?_
  exact Aw_ret (⟨F,_,_,[],rfl,Sub.num (by rw[e1];rfl),⟨rfl,by rw[h3];rfl,by rw[h3];rfl,trivial⟩,rfl⟩)
 ·(try simp only[A.cd_]at h14)
  obtain⟨X1,v,s,X2,rfl,h1,h2,h3⟩:=N.of_some (by rw[had];cases ad with
   | none=>simp at h14
   | some a=>rfl)
  obtain⟨s1,s2,s3,s4⟩:N.Fit 1000 s:=hs (v,s) (by simp)
  have e1:N.ask n (X1++(v,s)::X2) x y 0 N.againN=N.againN s:=by unfold N.ask;rw[h2]
  have hle:N.againN s≤s.op.length:=Nat.min_le_left _ _
  refine Aw_ghost [(1000,1003,0)] [(1009,1019),(1001,1011),(1002,1012),(1003,1013),(1004,1014),(1005,1015)] 7 (gh_pull (SES_in s)) (by rw[h1];exact Sub.rfl) ⟨rfl,trivial⟩ (λ_=>rfl) rfl rfl (λz G=>?_)
  obtain⟨t,F1⟩:=z
  refine Aw_skip (Aw_sr ?_)
  refine Al_ml ?_
  refine Al_p Pu_nb ?_
  refine Al_p (Pu_fb 0 Tryz.underlying156 Tryz.sizeOf151) ?_
  refine Al_p (Pu_lb Tryz.isAgg151) ?_
  refine Al_p (Pu_gcall [(1001,1012,G),(1002,1014,G)] (lkOpen_g s.sn t.1 s.op (by omega)) (SN_in ..) rfl ⟨rfl,rfl,trivial⟩ rfl ⟨Sub.rfl,trivial⟩) ?_
  refine Al_mr ?_
  refine Al_ns ?_
  refine Al_ml ?_
  refine Al_ml ?_
  refine Al_p (Pu_ln Tryz.underlying103) ?_
  refine Al_ml ?_
  refine Al_p Pu_nb ?_
  refine Al_p (Pu_fb 2 Tryz.underlying156 Tryz.sizeOf103) ?_
  refine Al_p (Pu_lb Tryz.isAgg103) ?_
  refine Al_p (Pu_lenX (k:=1015) rfl Tryz.underlying103 rfl rfl (by rw[List.length_map];simp only[A.maxI];omega)) ?_
  refine Al_p (Pu_sub rfl rfl rfl (λh1 h2=>by simp only[A.inI,A.maxI]at *;omega)) ?_
  refine Al_p (Pu_max2 (c:=((32 - s.way.length:Nat):Int)) rfl rfl rfl (by rw[List.length_map];split<;>omega)) ?_
  refine Al_p (Pu_min2 (c:=((N.againN s:Nat):Int)) rfl rfl rfl (by unfold N.againN;split<;>omega)) ?_
  refine Al_p (Pu_subL (0) ((N.againN s)) rfl Tryz.underlying103 Tryz.sizeOf170 rfl (rfl) ⟨_,rfl,rfl⟩ ⟨by(try rw[List.length_map]);omega,by(try rw[List.length_map]);omega⟩) ?_
  refine Al_mr ?_
  refine Al_ns ?_
  refine Al_ml ?_
  refine Al_ml ?_
  refine Al_p Pu_nb ?_
  refine Al_p (Pu_fb 2 Tryz.underlying156 Tryz.sizeOf103) ?_
  refine Al_p (Pu_lb Tryz.isAgg103) ?_
  refine Al_ml ?_
  refine Al_appendX (k:=1015) rfl rfl rfl (by decide) (by kernel_rfl) pk_elem (by decide) Tryz.sizeOf170 rfl rfl rfl (by simp;omega) (by decide) (λv2=>?_)
  refine Al_p Pu_nb ?_
  refine Al_p (Pu_fb 2 Tryz.underlying156 Tryz.sizeOf103) ?_
  refine Al_s1 Tryz.isAgg103 Tryz.sizeOf103 ?_
  refine Al_ns ?_
  refine Al_ml ?_
  refine Al_p (Pu_ln Tryz.underlying103) ?_
  refine Al_mr ?_
  refine Al_nil ?_
  refine Aw_ghost [(1000,1003,0),(1009,1019,G),(1001,1011,G),(1002,1012,G),(1003,1013,G),(1004,1014,G),(1005,1015,G)] [] 7 (gh_put (E:=SES) (s':=N.again s) (t:=(t.1,v2)) (λp hp=>(SES_in _ _).2.1 p hp)) (λ_ _ _ _ _=>trivial) ⟨rfl,rfl,rfl,rfl,rfl,rfl,obeqX (by simp[N.again,List.map_take]),trivial⟩ (λ_=>rfl) rfl rfl (λF' G'=>?_)
  exact Aw_ret (⟨F',_,_,[],rfl,Sub.num (by rw[e1];simp;omega),⟨rfl,by rw[mapP_upd];rfl,by rw[h3];rfl,trivial⟩,rfl⟩)
end Go.Proofs.YtdnijgdmohinlaaGreat
end
