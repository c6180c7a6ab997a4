/- GeoAlone: a site that owns all by itself needs no net, and who reads there reads the last write; no condition. -/
import Derived.Test.YtdnijgdmohinlaaGreatG6
set_option linter.unusedSimpArgs false
set_option linter.unusedVariables false
set_option linter.constructorNameAsVariable false
section
set_option maxRecDepth 100000
namespace Go.Proofs.YtdnijgdmohinlaaGreat
open Go.RowKit A R
namespace J
def cut12 (d:Dep):Dep:=⟨d.key.extract 0 12,d.n,d.s⟩
def adds (l:List Dep):List Dep:=l.foldl (λp d=>D.add p (cut12 d)) []
theorem adds_snoc (l:List Dep) (d:Dep):adds (l++[d])=D.add (adds l) (cut12 d):=by simp[adds]
theorem adds_good (l:List Dep):D.Good (adds l)∧(adds l).length≤l.length:=by
 have:∀(l:List Dep) (p:List Dep),D.Good p→D.Good (l.foldl (λp d=>D.add p (cut12 d)) p)∧(l.foldl (λp d=>D.add p (cut12 d)) p).length≤p.length+l.length:=by
  intro l
  induction l with
  | nil=>intro p h;exact⟨h,Nat.le_refl _⟩
  | cons d r ih =>
   intro p h
   rw[List.foldl_cons]
   have h1:=ih (D.add p (cut12 d)) (D.add_good h (cut12 d))
   have h2:=D.add_len p (cut12 d)
   refine⟨h1.1,?_⟩
   simp only[List.length_cons];omega
 have:=this l [] D.good_nil
 simpa [adds]using this
end J
end Go.Proofs.YtdnijgdmohinlaaGreat
end
section
set_option maxRecDepth 100000
namespace Go.Proofs.YtdnijgdmohinlaaGreat
open Go.RowKit A R
open A.RowT
structure TOp where
 kind:Int
 key:Int
 n:Int
 site:Int
 gone:Bool
 value:ByteArray
 past:List Dep
def TOp.row (o:TOp):List AV:=[iv o.kind,iv o.key,iv o.n,iv o.site,bv o.gone,tv o.value,.sl 3 (o.past.map Dep.row)]
instance:Inhabited TOp:=⟨⟨0,0,0,0,false,⟨#[]⟩,[]⟩⟩
namespace TOp
def pastP (o:TOp):List Dep:=J.adds (o.past.take 5)
def val (o:TOp):ByteArray:=S.short o.value
def ver (o:TOp):Ver:=⟨J.word o.key,o.val,false,o.n,o.site,o.pastP⟩
theorem past_len (o:TOp):o.pastP.length≤5:=Nat.le_trans (J.adds_good _).2 (by simp;omega)
theorem past_good (o:TOp):D.Good o.pastP:=(J.adds_good _).1
end TOp
namespace TOp
def exV:Ver:=⟨⟨#[98]⟩,⟨#[]⟩,false,2,1,[⟨⟨#[97]⟩,9,0⟩]⟩
def ex0:PS:=PS.zero 0 [⟨⟨#[]⟩,⟨#[]⟩⟩]
def ex1:PS:=ex0.write ⟨#[97]⟩ ⟨#[120]⟩ false []
def ex2:PS:=ex1.arrive exV
theorem e1:ex0.writeE ⟨#[97]⟩ ⟨#[120]⟩ false []=0∧(ex0.writeV ⟨#[97]⟩ ⟨#[120]⟩ false []).n=1∧(ex0.writeV ⟨#[97]⟩ ⟨#[120]⟩ false []).s=0:=by decide +kernel
theorem e2:ex1.arriveE exV=0:=by decide +kernel
theorem e3:ex2.stepV.isSome=false∧ex2.step.wait.length=1:=by decide +kernel
end TOp
end Go.Proofs.YtdnijgdmohinlaaGreat
end
section
set_option maxRecDepth 100000
namespace Go.Proofs.YtdnijgdmohinlaaGreat
open Go.RowKit A R
open A.RowT
namespace PS
structure Inv (p:PS) (m:Nat):Prop where
 ok:p.Ok m
 own:J.Own m p.rs p.cs
theorem Inv.mono {p:PS}{m m':Nat}(h:p.Inv m) (hm:m≤m'):p.Inv m':=⟨h.ok.mono hm,h.own.mono hm⟩
theorem Inv.zero {k:Int}(hk:0≤k∧k<6) {rs:List Rng}(hrl:rs.length≤1000000):(PS.zero k rs).Inv 0:=⟨Ok.zero hk hrl,J.own_nil rs⟩
theorem Inv.write {p:PS}{m:Nat}(h:p.Inv m) (key value:ByteArray) (gone:Bool) (past:List Dep):(p.write key value gone past).Inv (m+1):=by
 refine⟨h.ok.write _ _ _ _,?_⟩
 unfold PS.write
 split
 ·exact J.own_put h.own _
 ·exact h.own.mono (Nat.le_succ m)
theorem Inv.arrive {p:PS}{m:Nat}(h:p.Inv m) (v:Ver):(p.arrive v).Inv m:=by
 refine⟨h.ok.arrive v,?_⟩
 unfold PS.arrive
 split
 ·split<;>exact h.own
 ·exact h.own
theorem Inv.step {p:PS}{m:Nat}(h:p.Inv m):p.step.Inv (m+1):=by
 refine⟨h.ok.step,?_⟩
 unfold PS.step
 split
 ·exact J.own_put h.own _
 ·exact h.own.mono (Nat.le_succ m)
theorem Inv.clean {p:PS}{m:Nat}(h:p.Inv m) (n s:Int) (pins:List Dep):(p.clean n s pins).Inv m:=⟨h.ok.clean n s pins,J.own_clean h.own n s pins⟩
end PS
end Go.Proofs.YtdnijgdmohinlaaGreat
end
section
set_option maxRecDepth 100000
namespace Go.Proofs.YtdnijgdmohinlaaGreat
open Go.RowKit A R
open A.RowT
namespace J
theorem check_stamp {v:Ver}(h:checkB v=true):1≤v.n∧v.n≤1099511627776∧0≤v.s∧v.s<6:=by
 unfold checkB V.stampB at h
 simp only[Bool.and_eq_true,decide_eq_true_eq]at h
 omega
theorem mx_zero {n s:Int}(h:1≤n):mx (0,0) (n,s)=(n,s):=by
 have h1:D.lessB 0 0 n s=true:=by
  unfold D.lessB
  rw[if_neg (by omega)]
  simp;omega
 have h2:D.lessB 0 0 0 0=false:=rfl
 unfold mx D.maxS
 simp[h1,h2]
theorem put_nil {v:Ver}(h:checkB v=true):put [] v=some [v]:=by
 unfold put
 rw[if_pos ⟨h,by simp,by simp⟩]
 simp
theorem sput_nil {v:Ver}{rs:List Rng}(h:checkB v=true) (hf:¬findR rs v.key<0):sput rs [] v=([(v.key,[v])],true):=by
 unfold sput
 rw[if_neg hf,show getC [] v.key=[]from rfl,put_nil h];rfl
theorem isSt_self (v:Ver):isSt v.n v.s v=true:=by unfold isSt;simp
theorem sat_one (v:Ver):sat [(v.key,[v])] v.key v.n v.s=some v:=by
 have h1:getC [(v.key,[v])] v.key=[v]:=by unfold getC look;simp
 have h2:notB v.n v.s v=true:=by unfold notB;rw[D.less_irrefl];rfl
 unfold sat
 rw[h1]
 unfold atc frm
 rw[List.findIdx_cons,h2]
 simp[isSt_self]
theorem head_one (v:Ver):shead [(v.key,[v])] v.key=some v:=by
 have h1:getC [(v.key,[v])] v.key=[v]:=by unfold getC look;simp
 unfold shead
 rw[h1];rfl
theorem past_ok {v:Ver}(h:checkB v=true):D.Good v.past:=by
 unfold checkB at h
 simp only[Bool.and_eq_true]at h
 exact(past_good h.2.2.1).1
theorem only_allT (p:List Dep):only p (ranges 0)=p:=by
 unfold only
 rw[List.filter_eq_self]
 intro d _
 simpa using findR_all d.key
theorem ready_nil {v:Ver}(h:checkB v=true):ready [] (ranges 0) v=v.past.isEmpty:=by
 have hl:v.past.filter (lacks [])=v.past:=by
  rw[List.filter_eq_self]
  intro d hd
  have h1:=(D.ok_stamp ((past_ok h).2 d hd)).1
  show D.lessB 0 0 d.n d.s=true
  unfold D.lessB
  rw[if_neg (by omega)]
  simp;omega
 unfold ready misses
 rw[only_allT,hl]
 cases v.past<;>simp
 omega
end J
namespace TOp
def one (kept:Bool) (v:Ver):PS:=if kept then⟨0,[],v.n,v.s,J.ranges 0,[(v.key,[v])]⟩else⟨0,[v],v.n,v.s,J.ranges 0,[]⟩
theorem zero_arr {v:Ver}{k:Int}{rs:List Rng}:(PS.zero k rs).arriveE v=if J.checkB v=false then 1 else 0:=by
 unfold PS.arriveE
 split
 ·rfl
 ·rename_i h
  split
  ·rfl
  ·rw[if_neg (show¬(PS.zero k rs).there v=true from by rw[show(PS.zero k rs).there v=false from rfl];decide)]
   unfold J.pushE
   rw[if_pos (by simpa using h)];rfl
theorem one_arr {v:Ver}(h:J.checkB v=true):(PS.zero 0 (J.ranges 0)).arriveE v=0∧(PS.zero 0 (J.ranges 0)).arrive v=one false v:=by
 have h1:(PS.zero 0 (J.ranges 0)).arriveE v=0:=by rw[zero_arr,if_neg (by rw[h];decide)]
 refine⟨h1,?_⟩
 unfold PS.arrive
 rw[if_pos h1,if_neg (show¬findR (PS.zero 0 (J.ranges 0)).rs v.key<0 from J.findR_all v.key)]
 unfold PS.clockP
 rw[show mx ((PS.zero 0 (J.ranges 0)).n,(PS.zero 0 (J.ranges 0)).s) (v.n,v.s)=(v.n,v.s)from J.mx_zero (J.check_stamp h).1]
 rfl
theorem one_next {v:Ver}(h:J.checkB v=true):(one false v).stepV=if v.past.isEmpty then some v else none:=by
 have h1:=J.ready_nil h
 show J.nextV [v] [] (J.ranges 0)=_
 unfold J.nextV J.nextI
 rw[List.findIdx_cons,h1]
 cases v.past.isEmpty<;>simp
theorem one_step {v:Ver}(h:J.checkB v=true):(one false v).step=one v.past.isEmpty v∧(one false v).stepV.isSome=v.past.isEmpty:=by
 have h1:=one_next h
 unfold PS.step
 rw[h1]
 cases hp:v.past.isEmpty with
 | true =>
  rw[hp]at h1
  simp only[if_true]
  refine⟨?_,rfl⟩
  have hr:J.ready [] (J.ranges 0) v=true:=by rw[J.ready_nil h,hp]
  have hn:J.nextL [v] [] (J.ranges 0)=[]:=by
   unfold J.nextL J.nextI
   rw[List.findIdx_cons,hr];rfl
  have hs:(J.sput (J.ranges 0) [] v).1=[(v.key,[v])]:=by rw[J.sput_nil h (J.findR_all v.key)]
  show(⟨0,J.nextL [v] [] (J.ranges 0),v.n,v.s,J.ranges 0,(J.sput (J.ranges 0) [] v).1⟩:PS)=_
  rw[hn,hs];rfl
 | false=>exact⟨rfl,rfl⟩
theorem one_again {v:Ver}(h:J.checkB v=true) (kept:Bool):(one kept v).arriveE v=13∧(one kept v).arrive v=one kept v:=by
 have h1:(one kept v).arriveE v=13:=by
  unfold PS.arriveE
  have hrs:(one kept v).rs=J.ranges 0:=by cases kept<;>rfl
  rw[if_neg (by rw[h];decide),hrs,if_neg (J.findR_all v.key),if_pos]
  cases kept with
  | true=>show((J.sat [(v.key,[v])] v.key v.n v.s).isSome||_)=true;rw[J.sat_one];rfl
  | false =>
   show((J.sat [] v.key v.n v.s).isSome||[v].any (PS.isW v))=true
   simp[PS.isW]
 refine⟨h1,?_⟩
 unfold PS.arrive
 rw[h1,if_neg (by decide)]
theorem one_read (v:Ver) (kept:Bool):(one kept v).readV v.key=if kept then some v else none:=by
 have hrs:(one kept v).rs=J.ranges 0:=by cases kept<;>rfl
 unfold PS.readV
 rw[hrs,if_neg (J.findR_all v.key)]
 cases kept with
 | true=>exact J.head_one v
 | false=>rfl
theorem one_ok {v:Ver}(h:J.checkB v=true) (kept:Bool):(one kept v).Ok 1:=by
 have h0:(PS.zero 0 (J.ranges 0)).Ok 0:=PS.Ok.zero (by decide) (Nat.le_trans (J.ranges_len 0) (by decide))
 have h1:=h0.arrive v
 rw[(one_arr h).2]at h1
 cases kept with
 | false=>exact h1.mono (by decide)
 | true =>
  have h2:J.RiseC [(v.key,[v])]:=List.pairwise_singleton ..
  refine⟨h2,⟨Nat.le_refl _,λp hp=>?_⟩,Nat.zero_le _,(λw hw=>nomatch hw),h1.rl,h1.id⟩
  cases List.mem_singleton.1 hp
  have:=J.ver_key h
  exact⟨Nat.le_refl _,by show v.key.size≤_;omega⟩
end TOp
end Go.Proofs.YtdnijgdmohinlaaGreat
end
section
namespace Go.Proofs.YtdnijgdmohinlaaGreat
open Go.RowKit A R
namespace J
theorem nl_trans {a b c d e f:Int}(h:D.lessB a b c d=false) (h2:D.lessB c d e f=false):D.lessB a b e f=false:=by
 unfold D.lessB at *
 split at h<;>split at h2<;>split<;>simp_all<;>omega
theorem nl_n {a b c d:Int}(h:D.lessB a b c d=false):c≤a:=by
 unfold D.lessB at h
 split at h<;>simp_all
theorem l_n {a b c d:Int}(h:a<c):D.lessB a b c d=true:=by
 unfold D.lessB
 rw[if_neg (by omega)]
 simpa using h
theorem nl_of {a b c d:Int}(h:c<a):D.lessB a b c d=false:=by
 unfold D.lessB
 rw[if_neg (by omega)]
 simp;omega
theorem mx_ge (x y:Int×Int):D.lessB (mx x y).1 (mx x y).2 x.1 x.2=false∧D.lessB (mx x y).1 (mx x y).2 y.1 y.2=false:=by
 unfold mx D.maxS
 simp only[List.foldl_cons,List.foldl_nil]
 have hx:D.lessB (if D.lessB 0 0 x.1 x.2 then x else((0,0):Int×Int)).1 (if D.lessB 0 0 x.1 x.2 then x else((0,0):Int×Int)).2 x.1 x.2=false:=by
  cases h:D.lessB 0 0 x.1 x.2 with
  | true=>simp[D.less_irrefl]
  | false=>simpa using h
 generalize (if D.lessB 0 0 x.1 x.2 then x else((0,0):Int×Int))=m at hx
 cases h:D.lessB m.1 m.2 y.1 y.2 with
 | true =>
  simp only[if_true]
  refine⟨nl_trans (less_asymm h) hx,D.less_irrefl _ _⟩
 | false=>simp only[Bool.false_eq_true,if_false];exact⟨hx,h⟩
theorem seen_ge:∀(past:List Dep) (x:Int×Int),D.lessB (past.foldl (λx d=>mx x (d.n,d.s)) x).1 (past.foldl (λx d=>mx x (d.n,d.s)) x).2 x.1 x.2=false∧∀d∈past,D.lessB (past.foldl (λx d=>mx x (d.n,d.s)) x).1 (past.foldl (λx d=>mx x (d.n,d.s)) x).2 d.n d.s=false
 | [],x=>⟨D.less_irrefl _ _,λd h=>by cases h⟩
 | e::r,x=>by
  obtain⟨h1,h2⟩:=seen_ge r (mx x (e.n,e.s))
  obtain⟨m1,m2⟩:=mx_ge x (e.n,e.s)
  rw[List.foldl_cons]
  refine⟨nl_trans h1 m1,λd hd=>?_⟩
  rcases List.mem_cons.1 hd with rfl|hd
  ·exact nl_trans h1 m2
  ·exact h2 d hd
theorem head_mem {l:List Ver}{v:Ver}(h:head l=some v):v∈l:=by
 unfold head told at h
 split at h
 ·exact List.mem_of_getElem? h
 ·cases h
theorem getC_mem {cs:SC}{k:ByteArray}{v:Ver}(h:v∈getC cs k):(k,getC cs k)∈cs:=by
 unfold getC at h ⊢
 cases hl:look cs k with
 | none=>rw[hl]at h;cases h
 | some l=>exact mem_look hl
def hst (o:Option Ver):Int×Int:=((o.getD default).n,(o.getD default).s)
theorem put_head {l m:List Ver}{v:Ver}(h:put l v=some m):D.lessB (hst (head m)).1 (hst (head m)).2 (hst (head l)).1 (hst (head l)).2=false:=by
 have hc:=put_ok h
 have hn:=(check_stamp hc).1
 unfold put at h
 split at h
 ·cases h
  by_cases hd:l.drop (frm l v.n v.s)=[]
  ·have hfl:frm l v.n v.s=l.length:=by
    have h1:=frm_le l v.n v.s
    rw[List.drop_eq_nil_iff]at hd
    omega
   rw[hd,head_snoc]
   show D.lessB v.n v.s _ _=false
   cases hh:head l with
   | none=>exact nl_of (by show(0:Int)<v.n;omega)
   | some x =>
    have hx:=head_mem hh
    obtain⟨j,hj,rfl⟩:=List.getElem_of_mem hx
    have hnot:=List.not_of_lt_findIdx (p:=notB v.n v.s) (xs:=l) (i:=j) (by unfold frm at hfl;omega)
    unfold notB at hnot
    simp only[Bool.not_eq_true',Bool.not_eq_false',Bool.not_eq_true]at hnot
    have h5:D.lessB l[j].n l[j].s v.n v.s=true:=by simpa using hnot
    exact less_asymm h5
  ·have hl:l≠[]:=λe=>hd (by rw[e];simp)
   have h1:head (l.take (frm l v.n v.s)++v::l.drop (frm l v.n v.s))=head l:=by
    rw[head_last (l:=l.take (frm l v.n v.s)++v::l.drop (frm l v.n v.s)) (by simp),head_last hl]
    congr 1
    rw[List.getLast_append_of_ne_nil _ (by simp),List.getLast_cons hd,List.getLast_drop]
   rw[h1]
   exact D.less_irrefl _ _
 ·cases h
theorem put_mem {l m:List Ver}{v w:Ver}(h:put l v=some m) (hw:w∈m):w=v∨w∈l:=by
 unfold put at h
 split at h
 ·cases h
  rcases List.mem_append.1 hw with hw|hw
  ·exact .inr (List.mem_of_mem_take hw)
  ·rcases List.mem_cons.1 hw with rfl|hw
   ·exact .inl rfl
   ·exact .inr (List.mem_of_mem_drop hw)
 ·cases h
theorem sput_mem {rs:List Rng}{cs:SC}{v:Ver}{q:ByteArray×List Ver}(hq:q∈(sput rs cs v).1) {w:Ver}(hw:w∈q.2):w=v∨∃q'∈cs,w∈q'.2:=by
 cases hb:(sput rs cs v).2 with
 | false=>rw[sput_no hb]at hq;exact .inr ⟨q,hq,hw⟩
 | true =>
  obtain⟨l,_,hl,he⟩:=sput_some hb
  rw[he]at hq
  rcases mem_setC _ _ _ _ hq with rfl|hq
  ·rcases put_mem hl hw with h|h
   ·exact .inl h
   ·exact .inr ⟨_,getC_mem h,h⟩
  ·exact .inr ⟨q,hq,hw⟩
theorem sput_head {rs:List Rng}{cs:SC}(hr:RiseC cs) (v:Ver) (c:ByteArray):D.lessB (hst (shead (sput rs cs v).1 c)).1 (hst (shead (sput rs cs v).1 c)).2 (hst (shead cs c)).1 (hst (shead cs c)).2=false:=by
 cases hb:(sput rs cs v).2 with
 | false=>rw[sput_no hb];exact D.less_irrefl _ _
 | true =>
  obtain⟨l,_,hl,he⟩:=sput_some hb
  rw[he]
  unfold shead
  rw[getC_set hr]
  by_cases hc:c=v.key
  ·rw[if_pos hc,hc];exact put_head hl
  ·rw[if_neg hc];exact D.less_irrefl _ _
end J
namespace PS
structure Top (p:PS):Prop where
 ch:∀q∈p.cs,∀v∈q.2,D.lessB p.n p.s v.n v.s=false
 wt:∀v∈p.wait,D.lessB p.n p.s v.n v.s=false
def top (p:PS) (c:ByteArray):Int×Int:=J.hst (J.shead p.cs c)
structure Since (p q:PS):Prop where
 clock:D.lessB q.n q.s p.n p.s=false
 head:∀c,D.lessB (q.top c).1 (q.top c).2 (p.top c).1 (p.top c).2=false
theorem Top.zero (k:Int) (rs:List Rng):(PS.zero k rs).Top:=⟨λq h=>(by cases h),λv h=>by cases h⟩
theorem seen_clock (p:PS) (past:List Dep):D.lessB (p.seen past).1 (p.seen past).2 p.n p.s=false:=(J.seen_ge past (p.n,p.s)).1
theorem seen_past (p:PS) (past:List Dep):∀d∈past,D.lessB (p.seen past).1 (p.seen past).2 d.n d.s=false:=(J.seen_ge past (p.n,p.s)).2
theorem made_gt (p:PS) (key value:ByteArray) (gone:Bool) (past:List Dep):D.lessB p.n p.s (p.made key value gone past).n (p.made key value gone past).s=true∧∀d∈past,D.lessB d.n d.s (p.made key value gone past).n (p.made key value gone past).s=true:=by
 have h1:=J.nl_n (p.seen_clock past)
 refine⟨J.l_n (by show p.n<max (p.seen past).1 0+1;omega),λd hd=>?_⟩
 have h2:=J.nl_n (p.seen_past past d hd)
 exact J.l_n (by show d.n<max (p.seen past).1 0+1;omega)
theorem Since.refl (p:PS):Since p p:=⟨D.less_irrefl _ _,λ_=>D.less_irrefl _ _⟩
theorem since_write (p:PS) {m:Nat}(hi:p.Inv m) (ht:p.Top) (key value:ByteArray) (gone:Bool) (past:List Dep):(p.write key value gone past).Top∧Since p (p.write key value gone past):=by
 unfold PS.write
 split
 ·have hg:=(p.made_gt key value gone past).1
  have hge:∀a b,D.lessB p.n p.s a b=false→D.lessB (p.made key value gone past).n (p.made key value gone past).s a b=false:=λa b h=>J.nl_trans (J.less_asymm hg) h
  refine⟨⟨λq hq v hv=>?_,λv hv=>hge _ _ (ht.wt v hv)⟩,⟨J.less_asymm hg,λc=>J.sput_head hi.ok.rise _ c⟩⟩
  rcases J.sput_mem hq hv with rfl|⟨q',h1,h2⟩
  ·exact D.less_irrefl _ _
  ·exact hge _ _ (ht.ch q' h1 v h2)
 ·exact⟨ht,Since.refl p⟩
theorem clockP_ge (p:PS) (v:Ver):D.lessB (p.clockP v).n (p.clockP v).s p.n p.s=false∧D.lessB (p.clockP v).n (p.clockP v).s v.n v.s=false:=J.mx_ge (p.n,p.s) (v.n,v.s)
theorem since_arrive (p:PS) (ht:p.Top) (v:Ver):(p.arrive v).Top∧Since p (p.arrive v):=by
 obtain⟨g1,g2⟩:=p.clockP_ge v
 unfold PS.arrive
 split
 ·split
  ·exact⟨⟨λq hq w hw=>J.nl_trans g1 (ht.ch q hq w hw),λw hw=>J.nl_trans g1 (ht.wt w hw)⟩,⟨g1,λ_=>D.less_irrefl _ _⟩⟩
  ·refine⟨⟨λq hq w hw=>J.nl_trans g1 (ht.ch q hq w hw),λw hw=>?_⟩,⟨g1,λ_=>D.less_irrefl _ _⟩⟩
   rcases List.mem_append.1 hw with hw|hw
   ·exact J.nl_trans g1 (ht.wt w hw)
   ·cases List.mem_singleton.1 hw;exact g2
 ·exact⟨ht,Since.refl p⟩
theorem since_step (p:PS) {m:Nat}(hi:p.Inv m) (ht:p.Top):p.step.Top∧Since p p.step:=by
 unfold PS.step
 split
 ·rename_i v hv
  have hm:v∈p.wait:=by
   unfold PS.stepV J.nextV at hv
   exact List.mem_of_getElem? hv
  refine⟨⟨λq hq w hw=>?_,λw hw=>ht.wt w (List.mem_of_mem_eraseIdx hw)⟩,⟨D.less_irrefl _ _,λc=>J.sput_head hi.ok.rise _ c⟩⟩
  rcases J.sput_mem hq hw with rfl|⟨q',h1,h2⟩
  ·exact ht.wt _ hm
  ·exact ht.ch q' h1 w h2
 ·exact⟨ht,Since.refl p⟩
theorem since_clean (p:PS) {m:Nat}(hi:p.Inv m) (ht:p.Top) (n s:Int) (pins:List Dep):(p.clean n s pins).Top∧Since p (p.clean n s pins):=by
 refine⟨⟨λq hq w hw=>?_,ht.wt⟩,⟨D.less_irrefl _ _,λc=>?_⟩⟩
 ·obtain⟨q',h1,rfl⟩:=List.mem_map.1 hq
  exact ht.ch q' h1 w (List.mem_filter.1 hw).1
 ·have h1:J.shead (J.sclean p.cs n s pins) c=J.shead p.cs c:=by
   unfold J.shead
   rw[J.getC_clean]
   by_cases h:J.getC p.cs c=[]
   ·rw[h];rfl
   ·exact J.head_clean h _ _ _
  show D.lessB (J.hst (J.shead (J.sclean p.cs n s pins) c)).1 _ _ _=false
  rw[show(p.clean n s pins).top c=J.hst (J.shead (J.sclean p.cs n s pins) c)from rfl,h1]
  exact D.less_irrefl _ _
theorem have_le {p:PS}{m:Nat}(hi:p.Inv m) (ht:p.Top) {j:Nat}(hj:j<(J.have' p.cs).length):D.lessB p.n p.s ((J.have' p.cs).getD j default).n ((J.have' p.cs).getD j default).s=false:=by
 have hk:j<(J.keysC p.cs).length:=by rw[←J.have_len];exact hj
 obtain⟨_,h2,h3⟩:=hi.own.at hk
 obtain⟨v,hv⟩:=Option.isSome_iff_exists.1 h2
 rw[h3,hv]
 have hm:v∈J.getC p.cs ((J.keysC p.cs).getD j default):=J.head_mem hv
 exact ht.ch _ (J.getC_mem hm) v hm
end PS
end Go.Proofs.YtdnijgdmohinlaaGreat
end
section
set_option maxRecDepth 100000
namespace Go.Proofs.YtdnijgdmohinlaaGreat
open Go Go.RowKit A R
namespace J
theorem put_top {l:List Ver}{v:Ver}(hc:checkB v=true) (hl:∀x∈l,x.key=v.key∧x.n<v.n):put l v=some (l++[v]):=by
 have hf:frm l v.n v.s=l.length:=List.findIdx_eq_length.2 λx hx=>by
  have:=(hl x hx).2
  unfold notB D.lessB
  rw[if_neg (by omega)]
  simp only[Bool.not_eq_false',decide_eq_true_eq]
  exact this
 unfold put
 rw[if_pos ⟨hc,λx hx=>by rw[(hl x (List.mem_of_getElem? hx)).1],λx hx=>by rw[hf,List.getElem?_eq_none (Nat.le_refl _)]at hx;cases hx⟩,hf]
 simp
theorem getC_in {cs:SC}{k:ByteArray}{x:Ver}(hx:x∈getC cs k):∃q∈cs,q.1=k∧x∈q.2:=by
 unfold getC at hx
 cases hl:look cs k with
 | none=>rw[hl]at hx;cases hx
 | some l=>rw[hl]at hx;exact⟨_,mem_look hl,rfl,hx⟩
theorem sput_top {rs:List Rng}{cs:SC}{v:Ver}(hf:¬findR rs v.key<0) (hc:checkB v=true) (hk:∀q∈cs,∀x∈q.2,x.key=q.1∧x.n<v.n):sput rs cs v=(setC cs v.key (getC cs v.key++[v]),true):=by
 unfold sput
 rw[if_neg hf,put_top hc λx hx=>by
  obtain⟨q,hq,h1,h2⟩:=getC_in hx
  obtain⟨h3,h4⟩:=hk q hq x h2
  exact⟨by rw[h3,h1],h4⟩]
theorem head_snoc1 (a:List Ver) (x:Ver):head (a++[x])=some x:=by
 unfold head told
 rw[if_pos (by simp;omega)]
 have:((((a++[x]).length:Nat):Int) - 1).toNat=a.length:=by simp
 rw[this];simp
theorem shead_set {cs:SC}(hr:RiseC cs) (k:ByteArray) (l:List Ver) (c:ByteArray):shead (setC cs k l) c=if c=k then head l else shead cs c:=by
 unfold shead getC
 rw[look_set cs k l c hr]
 split<;>rfl
theorem pastB_of {p:List Dep}(h:D.Good p) (hl:p.length≤24):pastB p=true:=by
 have hs:p.Pairwise λx y=>Op.bytesLess x.key.toList y.key.toList=true:=h.1
 unfold pastB
 simp only[Bool.and_eq_true,List.all_eq_true,List.mem_range,decide_eq_true_eq]
 refine⟨λi hi=>?_,by omega⟩
 unfold okAt
 have hg:p.getD i default=p[i]:=by simp[hi]
 rw[hg]
 simp only[Bool.and_eq_true,Bool.or_eq_true,decide_eq_true_eq]
 refine⟨h.2 _ (List.getElem_mem hi),?_⟩
 cases i with
 | zero=>exact .inl rfl
 | succ i =>
  refine .inr ?_
  rw[show p.getD (i+1 - 1) default=p[i]from by simp[show i<p.length from by omega]]
  exact List.pairwise_iff_getElem.1 hs i (i+1) (by omega) hi (by omega)
end J
theorem mx_le (a b:Int×Int) {m:Int}(hm:0≤m) (ha:a.1≤m) (hb:b.1≤m):(mx a b).1≤m:=by
 unfold mx D.maxS
 simp only[List.foldl_cons,List.foldl_nil]
 have h1:(if D.lessB 0 0 a.1 a.2 then a else((0,0):Int×Int)).1≤m:=by split<;>assumption
 generalize (if D.lessB 0 0 a.1 a.2 then a else((0,0):Int×Int))=c at h1
 split<;>assumption
theorem PS.seen_le {p:PS}{past:List Dep}{m:Int}(hm:0≤m) (hp:p.n≤m) (h:∀d∈past,d.n≤m):(p.seen past).1≤m:=by
 unfold PS.seen
 suffices ∀(l:List Dep) (x:Int×Int),x.1≤m→(∀d∈l,d.n≤m)→(l.foldl (λx d=>mx x (d.n,d.s)) x).1≤m from this past (p.n,p.s) hp h
 intro l
 induction l with
 | nil=>intro x hx _;exact hx
 | cons d r ih=>intro x hx h;exact ih _ (mx_le x (d.n,d.s) hm hx (h d (List.mem_cons_self ..))) λd hd=>h d (List.mem_cons_of_mem _ hd)
theorem letters_ok:∀k∈letters,K.checkB k=true:=by decide +kernel
structure Fresh (p:PS) (m:Int):Prop where
 n:p.n≤m
 top:∀q∈p.cs,∀x∈q.2,x.key=q.1∧x.n≤p.n
theorem Fresh.write {p:PS}{m:Int}(h:Fresh p m) (hm:0≤m∧m≤1000) (hid:0≤p.id∧p.id<6) (hr:J.RiseC p.cs) {key value:ByteArray}{past:List Dep}(hk:K8 key) (hf:¬findR p.rs key<0) (hv:value.size≤32) (hp:P8 past) (hpn:∀d∈past,d.n≤m) :
  p.writeE key value false past=0∧Fresh (p.write key value false past) (m+1)∧(∀c,J.shead (p.write key value false past).cs c=if c=key then some (p.writeV key value false past)else J.shead p.cs c)∧(p.writeV key value false past).value=value∧(p.writeV key value false past).n≤m+1∧(p.writeV key value false past).key=key∧(p.writeV key value false past).past=past:=by
 have hs:=PS.seen_le hm.1 h.n hpn
 have hcl:=J.nl_n (p.seen_clock past)
 have hl:=hp.len
 have hc:J.checkB (p.made key value false past)=true:=by
  unfold J.checkB PS.made
  simp only[Bool.and_eq_true,decide_eq_true_eq,V.stampB_iff,Bool.not_false,Bool.true_or]
  exact⟨letters_ok key hk,⟨by omega,by omega,hid.1,hid.2⟩,J.pastB_of hp.good (by omega),by omega,trivial⟩
 have he:p.writeE key value false past=0:=by
  unfold PS.writeE
  rw[if_neg hf,if_neg (by omega),if_pos hc]
 have hV:p.writeV key value false past=p.made key value false past:=if_pos he
 have hW:p.write key value false past=p.writeP key value false past:=if_pos he
 have hst:J.sput p.rs p.cs (p.made key value false past)=(J.setC p.cs key (J.getC p.cs key++[p.made key value false past]),true):=J.sput_top hf hc λq hq x hx=>⟨(h.top q hq x hx).1,by
  have:=(h.top q hq x hx).2
  show x.n<max (p.seen past).1 0+1
  omega⟩
 refine⟨he,⟨?_,λq hq x hx=>?_⟩,λc=>?_,by rw[hV];rfl,?_,by rw[hV];rfl,by rw[hV];rfl⟩
 ·rw[hW];show max (p.seen past).1 0+1≤m+1;omega
 ·rw[hW]at hq ⊢
  have hq':q∈(J.sput p.rs p.cs (p.made key value false past)).1:=hq
  rw[hst]at hq'
  show x.key=q.1∧x.n≤max (p.seen past).1 0+1
  rcases J.mem_setC _ _ _ _ hq' with rfl|hq'
  ·rcases List.mem_append.1 hx with hx|hx
   ·obtain⟨q',h1,h2,h3⟩:=J.getC_in hx
    obtain⟨h4,h5⟩:=h.top q' h1 x h3
    exact⟨by rw[h4,h2],by omega⟩
   ·rw[List.mem_singleton.1 hx];exact⟨rfl,Int.le_refl _⟩
  ·obtain⟨h4,h5⟩:=h.top q hq' x hx
   exact⟨h4,by omega⟩
 ·rw[hW,hV]
  show J.shead (J.sput p.rs p.cs (p.made key value false past)).1 c=_
  rw[hst,J.shead_set hr,J.head_snoc1]
 ·rw[hV];show max (p.seen past).1 0+1≤m+1;omega
namespace W21
def cA:SRow:=⟨[⟨⟨#[]⟩,⟨#[]⟩⟩],[1],[-1,0,0]⟩
theorem hA:T.Ahead cA.parents:=⟨by decide,by decide,rfl,λi h1 h2=>by
 have:i=1∨i=2:=by simp[cA]at h2;omega
 rcases this with rfl|rfl<;>decide⟩
theorem kA:T.ok cA=true:=by decide +kernel
def opA (kind client:Int) (key value:ByteArray):SOp:=⟨kind,client,0,0,0,0,key,value,[],none_⟩
theorem nxA:∀k∈letters,T.next cA 0 (-1) k=[]:=by decide +kernel
theorem fA:∀k∈letters,¬findR (T.rangesOf cA 0) k<0∧findR (T.rangesOf cA 1) k<0:=by decide +kernel
structure AI (g:PG) (i:Nat) (last:Nat→ByteArray):Prop where
 c:g.c=cA
 S3:g.S.length=3
 c0:(g.cs 0).1=0
 c1:(g.cs 1).1=1
 c3:(g.cs 3).1=0
 pn:∀d∈(g.cs 0).2,d.n≤(i:Int)
 Y:g.Y=(PG.new cA).Y
 s1:(g.site 1).rs=T.rangesOf cA 1
 rs:(g.site 0).rs=T.rangesOf cA 0
 fr:Fresh (g.site 0) i
 hd:∀k,k<4→(last k=⟨#[]⟩∧J.shead (g.site 0).cs (letter k)=none)∨(last k≠⟨#[]⟩∧∃v,J.shead (g.site 0).cs (letter k)=some v∧v.value=last k)
theorem AI.zero:AI (PG.new cA) 0 (λ_=>⟨#[]⟩) where
 c:=rfl
 S3:=by decide
 c0:=by decide
 c1:=by decide
 c3:=by decide
 pn d hd:=by cases hd
 Y:=rfl
 s1:=rfl
 rs:=rfl
 fr:=⟨by decide,λq hq=>by cases hq⟩
 hd k _:=.inl ⟨rfl,rfl⟩
theorem letter_in {j:Nat}(h:j<8):letter j∈letters:=List.mem_map.2 ⟨j,List.mem_range.2 h,rfl⟩
theorem letter_ne:∀j∈List.range 8,∀k∈List.range 8,j≠k→(letter j).toList≠(letter k).toList:=by decide +kernel
theorem letter_inj {j k:Nat}(hj:j<8) (hk:k<8) (h:letter j=letter k):j=k:=by
 rcases Nat.decEq j k with hn|he
 ·exact absurd (congrArg ByteArray.toList h) (letter_ne j (List.mem_range.2 hj) k (List.mem_range.2 hk) hn)
 ·exact he
theorem AI.put {g:PG}{i:Nat}{last:Nat→ByteArray}(h:AI g i last) {m:Nat}(hi:g.Inv m) (hi2:i≤100) {j:Nat}(hj:j<4) {value:ByteArray}(hv:value.size≤32) (hv0:value≠⟨#[]⟩) :
  (g.gate (opA 1 0 (letter j) value) (g.put (opA 1 0 (letter j) value))).2.1=0∧AI (g.gate (opA 1 0 (letter j) value) (g.put (opA 1 0 (letter j) value))).1 (i+1) (λk=>if k=j then value else last k):=by
 have hk8:=letter_in (j:=j) (by omega)
 have hn:g.n=3:=by unfold PG.n;rw[h.c];rfl
 have hc0:(g.cli 0).1=0:=h.c0
 have hb:¬PG.bad (opA 1 0 (letter j) value):=λh=>absurd h.2.2 (show¬((0:Int)<0∨(4:Int)≤0)from by decide)
 have ha:¬g.away (opA 1 0 (letter j) value):=λhx=>by
  have:=hx.2.2.2
  rw[show(opA 1 0 (letter j) value).client=0 from rfl,hc0]at this
  cases this
 have hg:g.gate (opA 1 0 (letter j) value) (g.put (opA 1 0 (letter j) value))=g.put (opA 1 0 (letter j) value):=by unfold PG.gate;rw[if_neg hb,if_neg ha]
 rw[hg]
 have hp0:=hi.ok.site (i:=0) (by rw[hn];decide)
 obtain⟨e1,e2,e3,e4,e5,e6,e7⟩:=h.fr.write (m:=i) (value:=value) (past:=(g.cs 0).2) ⟨by omega,by omega⟩ hp0.id hp0.rise hk8 (by rw[h.rs];exact(fA _ hk8).1) hv (hi.cp 0) h.pn
 have hcl:g.cli (opA 1 0 (letter j) value).client=g.cs 0:=rfl
 have hnx:g.nx (g.cs 0).1 (-1) (letter j)=[]:=by
  unfold PG.nx
  rw[h.c0,h.c]
  exact nxA _ hk8
 have hE:g.putE (opA 1 0 (letter j) value)=0:=by
  unfold PG.putE
  rw[hcl,h.c0]
  rw[if_neg (by rw[h.rs];exact(fA _ hk8).1)]
  have:g.full 0 (g.nx 0 (-1) (opA 1 0 (letter j) value).key)=false:=by
   rw[←h.c0]
   show g.full (g.cs 0).1 (g.nx (g.cs 0).1 (-1) (letter j))=false
   rw[hnx];rfl
  rw[this,if_neg (by decide)]
  exact e1
 have hp:g.put (opA 1 0 (letter j) value)=(g.putS (opA 1 0 (letter j) value),0,[g.putV (opA 1 0 (letter j) value)]):=by unfold PG.put;rw[if_pos hE]
 rw[hp]
 refine⟨rfl,?_⟩
 have hV:g.putV (opA 1 0 (letter j) value)=(g.site 0).writeV (letter j) value false (g.cs 0).2:=by
  unfold PG.putV
  rw[hcl,h.c0];rfl
 have hS:g.putS (opA 1 0 (letter j) value)=(((g.setS 0 ((g.site 0).write (letter j) value false (g.cs 0).2)).ev ⟨1,0,(g.putV (opA 1 0 (letter j) value)).key,(g.putV (opA 1 0 (letter j) value)).n,(g.putV (opA 1 0 (letter j) value)).s,(g.cs 0).2⟩).setC 0 (N.saw1 (g.cs 0) (g.putV (opA 1 0 (letter j) value)))):=by
  unfold PG.putS
  rw[hcl,show(opA 1 0 (letter j) value).key=letter j from rfl,hnx,h.c0]
  rfl
 rw[hS]
 have hl0:0<g.S.length:=by rw[h.S3];decide
 have hs0:∀q:PS,(g.S.set 0 q).getD 0 default=q:=λq=>by simp[hl0]
 have hs1:∀q:PS,(g.S.set 0 q).getD 1 default=g.S.getD 1 default:=λq=>by simp[List.getD]
 constructor
 ·exact h.c
 ·show(g.S.set 0 _).length=3
  rw[List.length_set];exact h.S3
 ·exact h.c0
 ·exact h.c1
 ·exact h.c3
 ·intro d hd
  have hd':d∈(N.saw1 (g.cs 0) (g.putV (opA 1 0 (letter j) value))).2:=hd
  obtain⟨p,hpp,hdp⟩:=D.mergeL_mem hd'
  rcases List.mem_cons.1 hpp with rfl|hpp
  ·have:=h.pn d hdp;omega
  ·rcases List.mem_cons.1 hpp with rfl|hpp
   ·rw[hV,e7]at hdp
    have:=h.pn d hdp;omega
   ·obtain rfl:=List.mem_singleton.1 hpp
    rw[List.mem_singleton.1 hdp]
    show(g.putV (opA 1 0 (letter j) value)).n≤_
    rw[hV]
    omega
 ·exact h.Y
 ·show((g.S.set 0 _).getD 1 default).rs=_
  rw[hs1];exact h.s1
 ·show((g.S.set 0 _).getD 0 default).rs=_
  rw[hs0]
  unfold PS.write PS.writeP
  split<;>exact h.rs
 ·show Fresh ((g.S.set 0 _).getD 0 default) _
  rw[hs0]
  exact e2
 ·intro k hk
  show(_∧J.shead ((g.S.set 0 _).getD 0 default).cs _=none)∨(_∧∃v,J.shead ((g.S.set 0 _).getD 0 default).cs _=some v∧_)
  rw[hs0,e3 (letter k)]
  by_cases hkj:k=j
  ·subst hkj
   rw[if_pos rfl,if_pos rfl]
   exact .inr ⟨hv0,_,rfl,e4⟩
  ·rw[if_neg hkj,if_neg λhx=>hkj (letter_inj (by omega) (by omega) hx)]
   exact h.hd k hk
theorem AI.far {g:PG}{i:Nat}{last:Nat→ByteArray}(h:AI g i last) {j:Nat}(hj:j<4) (value:ByteArray):g.gate (opA 1 1 (letter j) value) (g.put (opA 1 1 (letter j) value))=(g,14,[]):=by
 have hk8:=letter_in (j:=j) (by omega)
 have hc1:(g.cli 1).1=1:=h.c1
 have hb:¬PG.bad (opA 1 1 (letter j) value):=λh=>absurd h.2.2 (show¬((1:Int)<0∨(4:Int)≤1)from by decide)
 have ha:¬g.away (opA 1 1 (letter j) value):=λhx=>by
  have:=hx.2.2.2
  rw[show(opA 1 1 (letter j) value).client=1 from rfl,hc1]at this
  cases this
 have hE:g.putE (opA 1 1 (letter j) value)=14:=by
  unfold PG.putE
  rw[if_pos]
  rw[show(opA 1 1 (letter j) value).client=1 from rfl,hc1,h.s1]
  exact(fA _ hk8).2
 unfold PG.gate
 rw[if_neg hb,if_neg ha]
 unfold PG.put
 rw[hE];rfl
theorem AI.quiet {g:PG}{i:Nat}{last:Nat→ByteArray}(h:AI g i last):g.idle=true∧g.fly 0 1=0∧g.fly 0 2=0:=by
 have hn:g.n=3:=by unfold PG.n;rw[h.c];rfl
 refine⟨?_,?_,?_⟩
 ·unfold PG.idle;rw[h.Y];decide +kernel
 ·unfold PG.fly PG.ses;rw[hn,h.Y];decide +kernel
 ·unfold PG.fly PG.ses;rw[hn,h.Y];decide +kernel
theorem AI.get {g:PG}{i:Nat}{last:Nat→ByteArray}(h:AI g i last) {j:Nat}(hj:j<4) :
  (g.gate (opA 3 3 (letter j) ⟨#[]⟩) (g.get (opA 3 3 (letter j) ⟨#[]⟩))).2.1=0∧AI (g.gate (opA 3 3 (letter j) ⟨#[]⟩) (g.get (opA 3 3 (letter j) ⟨#[]⟩))).1 i last ∧
  ((last j=⟨#[]⟩∧(g.gate (opA 3 3 (letter j) ⟨#[]⟩) (g.get (opA 3 3 (letter j) ⟨#[]⟩))).2.2=[])∨(last j≠⟨#[]⟩∧∃v,(g.gate (opA 3 3 (letter j) ⟨#[]⟩) (g.get (opA 3 3 (letter j) ⟨#[]⟩))).2.2=[v]∧v.value=last j)):=by
 have hk8:=letter_in (j:=j) (by omega)
 have hc3:(g.cli 3).1=0:=h.c3
 have hb:¬PG.bad (opA 3 3 (letter j) ⟨#[]⟩):=λh=>absurd h.2.2 (show¬((3:Int)<0∨(4:Int)≤3)from by decide)
 have ha:¬g.away (opA 3 3 (letter j) ⟨#[]⟩):=λhx=>by
  have:=hx.2.2.2
  rw[show(opA 3 3 (letter j) ⟨#[]⟩).client=3 from rfl,hc3]at this
  cases this
 have hg:g.gate (opA 3 3 (letter j) ⟨#[]⟩) (g.get (opA 3 3 (letter j) ⟨#[]⟩))=g.get (opA 3 3 (letter j) ⟨#[]⟩):=by unfold PG.gate;rw[if_neg hb,if_neg ha]
 rw[hg]
 have hf:¬findR (g.site 0).rs (letter j)<0:=by rw[h.rs];exact(fA _ hk8).1
 have hE:(g.site (g.cli (opA 3 3 (letter j) ⟨#[]⟩).client).1).readE (opA 3 3 (letter j) ⟨#[]⟩).key=0:=by
  rw[show(opA 3 3 (letter j) ⟨#[]⟩).client=3 from rfl,hc3]
  exact if_neg hf
 have hV:g.getV (opA 3 3 (letter j) ⟨#[]⟩)=J.shead (g.site 0).cs (letter j):=by
  unfold PG.getV
  rw[show(opA 3 3 (letter j) ⟨#[]⟩).client=3 from rfl,hc3]
  exact if_neg hf
 have keep:∀e,AI (g.ev e) i last:=λe=>⟨h.c,h.S3,h.c0,h.c1,h.c3,h.pn,h.Y,h.s1,h.rs,h.fr,h.hd⟩
 have keepC:∀e c,c.1=0→AI ((g.ev e).setC 3 c) i last:=λe c hc=>⟨h.c,h.S3,h.c0,h.c1,hc,h.pn,h.Y,h.s1,h.rs,h.fr,h.hd⟩
 unfold PG.get
 rw[if_pos hE,hV]
 rcases h.hd j hj with⟨h1,h2⟩|⟨h1,v,h2,h3⟩
 ·rw[h2]
  exact⟨rfl,keep _,.inl ⟨h1,rfl⟩⟩
 ·rw[h2]
  exact⟨rfl,keepC _ _ hc3,.inr ⟨h1,v,rfl,h3⟩⟩
end W21
end Go.Proofs.YtdnijgdmohinlaaGreat
end
section
set_option maxRecDepth 100000
namespace Go.Proofs.YtdnijgdmohinlaaGreat
open Go Go.RowKit A R
open A.RowT
namespace W21
abbrev lastA (last:Nat→ByteArray):List SV:=[.d (tv (last 0)),.d (tv (last 1)),.d (tv (last 2)),.d (tv (last 3))]
theorem last_set (last:Nat→ByteArray) {j:Nat}(hj:j<4) (v:ByteArray):(lastA last).set (0+j*1) (.d (tv v))=lastA (λk=>if k=j then v else last k):=by
 match j,hj with
 | 0,_=>rfl
 | 1,_=>rfl
 | 2,_=>rfl
 | 3,_=>rfl
theorem last_at (last:Nat→ByteArray) {j:Nat}(hj:j<4):(lastA last)[0+j*1]?=some (.d (tv (last j))):=by
 match j,hj with
 | 0,_=>rfl
 | 1,_=>rfl
 | 2,_=>rfl
 | 3,_=>rfl
theorem key_eq {z:Int}(h:0≤z):V.ba [UInt8.ofNat (97+z).toNat]=letter z.toNat:=by
 rw[show(97+z).toNat=97+z.toNat from by omega];rfl
theorem AI.n3 {g:PG}{i:Nat}{last:Nat→ByteArray}(h:AI g i last):g.n=(PG.new cA).n:=by unfold PG.n;rw[h.c];rfl
end W21
set_option maxHeartbeats 4000000 in
theorem geoalone_law (l:List Int):ACall Tryz.prog 6 [.sl 1 (l.map λx=>[iv x])] (bv true):=by
 refine AC_1 Tryz.func6 Tryz.ntmps6 Tryz.results6 λhok M0 w0 hnl=>?_
 have hlen:=(hok _ (List.mem_cons_self ..)).len
 rw[List.length_map]at hlen
 refine Aw_sr ?_
 refine Al_mr ?_
 refine Al_ns ?_
 refine Al_p (Pu_call (gawake_a) rfl trivial) ?_
 refine Al_mr ?_
 refine Al_ns ?_
 refine Al_p (Pu_build (aa:=[]) rfl Tryz.underlying56 Tryz.zeroValue56 places56 (by kernel_rfl) trivial rfl) ?_
 refine Al_p (Pu_slice1 rfl Tryz.underlying28 Tryz.sizeOf56 Tryz.zeroValue56 rfl (by decide) (by decide) (by kernel_rfl) rfl rfl rfl) ?_
 refine Al_p (Pu_slice1 rfl Tryz.underlying22 Tryz.sizeOf3 Tryz.zeroValue3 rfl (by decide) (by decide) (by kernel_rfl) rfl rfl rfl) ?_
 refine Al_p (Pu_buildSlice (aa:=[(0,_),(1,_),(2,_)]) rfl Tryz.underlying22 Tryz.sizeOf3 Tryz.zeroValue3 rfl (by decide) (by decide) (by decide) (by kernel_rfl) ⟨rfl,rfl,rfl,rfl,rfl,rfl,rfl,rfl,rfl,trivial⟩ ((rfl:_=some [[iv (-1)],[iv 0],[iv 0]].flatten)) rfl rfl) ?_
 refine Al_p (Pu_build (aa:=[(0,_),(1,_),(2,_)]) rfl Tryz.underlying30 Tryz.zeroValue30 places30 (by kernel_rfl) ⟨rfl,rfl,rfl,rfl,rfl,rfl,rfl,rfl,rfl,trivial⟩ rfl) ?_
 refine Al_gcallE [] [(1001,2001),(1002,2002),(1003,2003),(1004,2004),(1005,2005),(1006,2006),(1007,2007)] (gnew_g W21.cA W21.hA W21.kA) rfl rfl rfl (by decide) (by kernel_rfl) trivial (λ_=>rfl) rfl rfl ⟨Sub.rfl,trivial⟩ ?_
 rintro⟨⟨fr,t0⟩,hf0⟩ g19
 refine Al_mr ?_
 refine Al_nil (Aw_seq (Aw_sr ?_))
 refine Al_ml ?_
 refine Al_p (Pu_eqnilb Tryz.underlying32 rfl rfl) ?_
 refine Al_nil ?_
 refine Aw_condF rfl (rfl) ?_
 refine Aw_skip (Aw_sr ?_)
 refine Al_al Tryz.zeroValue58 λg5=>?_
 refine Al_nil (Aw_seq (Aw_sr ?_))
 refine Al_mr ?_
 refine Al_nil (Aw_block ?_)
 refine Aw_loopk (ι:=Nat×PG×GT×(Nat→ByteArray)) [0,3,4,5] [2002,2007] (λ(i,g,t,last)=>[(6,.d (iv i))]) (λ(i,g,t,last)=>[(2001,g19,.box 91 (gcellsN (.bx 2002 g19 0) fr.sv (g) t.hv)),(2003,g19,mapP (g).n fr.b fr.cnt (N.vX fr.np (g).Y)),(2004,g19,.op (starP SES t.Fn (N.vX fr.np (g).Y))),(2005,g19,.op (starP ST t.Fs (siteX fr.sp (g).S))),(2006,g19,histX t.hv (g).h),(5,g5,.box 58 (W21.lastA last))]) (λ(i,g,t,last)=>i≤l.length∧i≤20∧W21.AI g i last∧g.Inv (32+16*i)) (λ(i,g,t,last)=>20 - i) (0,PG.new W21.cA,t0,λ_=>⟨#[]⟩) (⟨Nat.zero_le _,Nat.zero_le _,W21.AI.zero,PG.Inv.new W21.hA W21.kA⟩) ⟨Sub.rfl,trivial⟩ ⟨rfl,rfl,rfl,rfl,rfl,rfl,trivial⟩ ?_
 rintro⟨i,g,t,last⟩ ⟨hk1,hk2,hai,hinv⟩
 refine Aw_seq (Aw_sr ?_)
 refine Al_ml ?_
 refine Al_ml ?_
 refine Al_p (Pu_ln Tryz.underlying22) ?_
 refine Al_p Pu_cp ?_
 refine Al_ml ?_
 refine Al_s (St_g [] trivial (λ_=>Pu_mvl)) ?_
 refine Al_s (St_g [27] ⟨⟨_,rfl⟩,trivial⟩ (λ_=>Pu_cp)) ?_
 refine Al_p Pu_a ?_
 refine Al_nil ?_
 refine Aw_cond rfl (λh29=>?_) (λh29=>?_)
 ·(try simp only[A.cd_]at h29)
  obtain⟨ha,hb⟩:i<l.length∧i<20:=by omega
  have h3:0≤J.andI (l.getD i default) 3∧J.andI (l.getD i default) 3≤3:=J.andI_le (l.getD i default) 3 (by decide)
  have hj:(J.andI (l.getD i default) 3).toNat<4:=by omega
  have hjz:J.andI (l.getD i default) 3=((J.andI (l.getD i default) 3).toNat:Int):=by omega
  have hkey:=W21.key_eq h3.1
  have hf:fr.Ok g:=FR.Ok.inv hf0 (PG.Inv.new W21.hA W21.kA) hinv hai.n3
  have hput:=hai.put hinv (by omega) hj (value:=V.ba [UInt8.ofNat (48+((i%10:Nat):Int)).toNat]) (Nat.le_of_ble_eq_true rfl) (λh=>by have:=congrArg (λb=>b.data.toList.length) h;simp[V.ba]at this)
  have hinv1:(g.gate (W21.opA 1 0 (letter (J.andI (l.getD i default) 3).toNat) (V.ba [UInt8.ofNat (48+((i%10:Nat):Int)).toNat])) (g.put (W21.opA 1 0 (letter (J.andI (l.getD i default) 3).toNat) (V.ba [UInt8.ofNat (48+((i%10:Nat):Int)).toNat])))).1.Inv (32+16*i+8):=hinv.gate (by omega) λhb ha=>hinv.put (PG.at_of hinv.ok (show(1:Int)≤1∧(1:Int)≤7∧(1:Int)≠5 from by decide) hb ha) (W21.letter_in (by omega))
  generalize hw:g.gate (W21.opA 1 0 (letter (J.andI (l.getD i default) 3).toNat) (V.ba [UInt8.ofNat (48+((i%10:Nat):Int)).toNat])) (g.put (W21.opA 1 0 (letter (J.andI (l.getD i default) 3).toNat) (V.ba [UInt8.ofNat (48+((i%10:Nat):Int)).toNat])))=wa at hput hinv1
  obtain⟨w,a⟩:=wa
  obtain⟨e1,hai1⟩:=hput
  have hfw:fr.Ok w:=FR.Ok.inv hf0 (PG.Inv.new W21.hA W21.kA) hinv1 hai1.n3
  obtain⟨q1,q2,q3⟩:=hai1.quiet
  have hYw:∀s∈w.Y,s.Fit 1000:=λs hs=>(hinv1.ok.yf s hs).mono (by omega)
  refine Aw_skip (Aw_seq (Aw_block (Aw_sr ?_)))
  refine Al_ml ?_
  refine Al_ml ?_
  refine Al_p (Pu_index rfl Tryz.underlying22 Tryz.sizeOf3 rfl rfl (rfl) (mapgetD (d:=default) ha)) ?_
  refine Al_p (Pu_l1 Tryz.isAgg3) ?_
  refine Al_p (Pu_int_and (r:=J.andI (l.getD i default) 3) rfl rfl rfl rfl (λ_=>V.i64_ok _)) ?_
  refine Al_p Pu_ad ?_
  refine Al_p (Pu_convW (k':=.u8) (r:=((UInt8.ofNat (97+J.andI (l.getD i default) 3).toNat).toNat:Int)) rfl Tryz.underlying3 Tryz.underlying5 rfl (J.u8_wrap (by omega)) ⟨by omega,by have:=(UInt8.ofNat (97+J.andI (l.getD i default) 3).toNat).toNat_lt;omega⟩) ?_
  refine Al_p (Pu_slice1 rfl Tryz.underlying45 Tryz.sizeOf5 Tryz.zeroValue5 rfl (by decide) (by decide) (by kernel_rfl) rfl rfl rfl) ?_
  refine Al_p (Pu_convBS (bs:=[UInt8.ofNat (97+J.andI (l.getD i default) 3).toNat]) rfl Tryz.underlying45 Tryz.underlying5 Tryz.underlying9 rfl) ?_
  refine Al_mr ?_
  refine Al_ns ?_
  refine Al_ml ?_
  refine Al_p (Pu_rem rfl rfl rfl (by omega) (Int.ofNat_tmod i 10).symm) ?_
  refine Al_p (Pu_add rfl rfl rfl (λh1 h2=>by simp only[A.inI];omega)) ?_
  refine Al_p (Pu_convW (k':=.u8) (r:=((UInt8.ofNat (48+((i%10:Nat):Int)).toNat).toNat:Int)) rfl Tryz.underlying3 Tryz.underlying5 rfl (J.u8_wrap (by omega)) ⟨by omega,by have:=(UInt8.ofNat (48+((i%10:Nat):Int)).toNat).toNat_lt;omega⟩) ?_
  refine Al_p (Pu_slice1 rfl Tryz.underlying45 Tryz.sizeOf5 Tryz.zeroValue5 rfl (by decide) (by decide) (by kernel_rfl) rfl rfl rfl) ?_
  refine Al_p (Pu_convBS (bs:=[UInt8.ofNat (48+((i%10:Nat):Int)).toNat]) rfl Tryz.underlying45 Tryz.underlying5 Tryz.underlying9 rfl) ?_
  refine Al_mr ?_
  refine Al_ns ?_
  refine Al_ml ?_
  refine Al_ml ?_
  refine Al_ml ?_
  refine Al_p (Pu_build (aa:=[(0,_),(6,_),(7,_)]) rfl Tryz.underlying41 Tryz.zeroValue41 places41 (by kernel_rfl) ⟨rfl,rfl,rfl,rfl,rfl,rfl,rfl,rfl,rfl,trivial⟩ rfl) ?_
  refine Al_gcallE [(1001,2001,g19),(1002,2002,g19),(1003,2003,g19),(1004,2004,g19),(1005,2005,g19),(1006,2006,g19),(1007,2007,g19)] [] (gdo_put (t:=t) hinv (by omega) hf (o:=W21.opA 1 0 (letter (J.andI (l.getD i default) 3).toNat) (V.ba [UInt8.ofNat (48+((i%10:Nat):Int)).toNat])) (.inl rfl) hw) rfl rfl rfl (by decide) (by kernel_rfl) ⟨rfl,rfl,rfl,rfl,rfl,rfl,rfl,trivial⟩ (λ_=>rfl) rfl rfl ⟨Sub.rfl,ASub.sub (ASub.row ⟨ASub.rfl,ASub.rfl,ASub.rfl,ASub.rfl,ASub.rfl,ASub.rfl,ASub.eq (by rw[hkey];rfl),ASub.rfl,ASub.nil,ASub.nil,ASub.nil,ASub.nil,trivial⟩),trivial⟩ ?_
  rintro t1 g51
  refine Al_al Tryz.zeroValue37 λg9=>?_
  refine Al_sN Tryz.isAgg37 Tryz.sizeOf37 ?_
  refine Al_ns ?_
  refine Al_ml ?_
  refine Al_ml ?_
  refine Al_ml ?_
  refine Al_p (Pu_build (aa:=[(0,_),(1,_),(6,_),(7,_)]) rfl Tryz.underlying41 Tryz.zeroValue41 places41 (by kernel_rfl) ⟨rfl,rfl,rfl,rfl,rfl,rfl,rfl,rfl,rfl,rfl,rfl,rfl,trivial⟩ rfl) ?_
  refine Al_gcallE [(1001,2001,g19),(1002,2002,g19),(1003,2003,g19),(1004,2004,g19),(1005,2005,g19),(1006,2006,g19),(1007,2007,g19)] [] (gdo_put (t:=t1) hinv1 (by omega) hfw (o:=W21.opA 1 1 (letter (J.andI (l.getD i default) 3).toNat) (V.ba [UInt8.ofNat (48+((i%10:Nat):Int)).toNat])) (.inl rfl) (hai1.far hj _)) rfl rfl rfl (by decide) (by kernel_rfl) ⟨rfl,rfl,rfl,rfl,rfl,rfl,rfl,trivial⟩ (λ_=>rfl) rfl rfl ⟨Sub.rfl,ASub.sub (ASub.row ⟨ASub.rfl,ASub.rfl,ASub.rfl,ASub.rfl,ASub.rfl,ASub.rfl,ASub.eq (by rw[hkey];rfl),ASub.rfl,ASub.nil,ASub.nil,ASub.nil,ASub.nil,trivial⟩),trivial⟩ ?_
  rintro t2 g56
  refine Al_al Tryz.zeroValue37 λg10=>?_
  refine Al_sN Tryz.isAgg37 Tryz.sizeOf37 ?_
  refine Al_nil (Aw_seq (Aw_sr ?_))
  refine Al_p (Pu_fb 0 Tryz.underlying37 Tryz.sizeOf34) ?_
  refine Al_p (Pu_lb Tryz.isAgg34) ?_
  refine Al_p Pu_cp ?_
  refine Al_ml ?_
  refine Al_s (St_g [] trivial (λ_=>Pu_fb 0 Tryz.underlying37 Tryz.sizeOf34)) ?_
  refine Al_s (St_g [61] ⟨⟨_,rfl⟩,trivial⟩ (λ_=>Pu_lb Tryz.isAgg34)) ?_
  refine Al_s (St_g [62] ⟨⟨_,rfl⟩,trivial⟩ (λ_=>Pu_cp)) ?_
  refine Al_p Pu_o ?_
  refine Al_ml ?_
  refine Al_s (St_g [] trivial (λ_=>Pu_mvl)) ?_
  refine Al_s (St_gd [66] rfl rfl rfl rfl ⟨⟨_,rfl⟩,trivial⟩ (λhg67=>by exact Pu_gcall [(1001,2001,g19),(1002,2002,g19),(1003,2003,g19),(1004,2004,g19),(1005,2005,g19),(1006,2006,g19),(1007,2007,g19)] (gIdle_g fr w t2 hinv1.ok (by omega) hfw) (GE_in ..) rfl ⟨rfl,rfl,rfl,rfl,rfl,rfl,rfl,trivial⟩ rfl ⟨Sub.rfl,trivial⟩)) ?_
  refine Al_s (St_g [67] ⟨⟨_,rfl⟩,trivial⟩ (λ_=>Pu_n)) ?_
  refine Al_p Pu_o ?_
  refine Al_ml ?_
  refine Al_s (St_g [] trivial (λ_=>Pu_mvl)) ?_
  refine Al_s (St_g [71] ⟨⟨_,rfl⟩,trivial⟩ (λ_=>Pu_gcall [(1001,2001,g19),(1002,2002,g19),(1003,2003,g19),(1004,2004,g19),(1005,2005,g19),(1006,2006,g19),(1007,2007,g19)] (gFlying_g fr w t2 0 1 hfw hYw) (GE_in ..) rfl ⟨rfl,rfl,rfl,rfl,rfl,rfl,rfl,trivial⟩ rfl ⟨Sub.rfl,Sub.rfl,Sub.rfl,trivial⟩)) ?_
  refine Al_s (St_g [] trivial (λ_=>Pu_mvl)) ?_
  refine Al_s (St_g [73] ⟨⟨_,rfl⟩,trivial⟩ (λ_=>Pu_gcall [(1001,2001,g19),(1002,2002,g19),(1003,2003,g19),(1004,2004,g19),(1005,2005,g19),(1006,2006,g19),(1007,2007,g19)] (gFlying_g fr w t2 0 2 hfw hYw) (GE_in ..) rfl ⟨rfl,rfl,rfl,rfl,rfl,rfl,rfl,trivial⟩ rfl ⟨Sub.rfl,Sub.rfl,Sub.rfl,trivial⟩)) ?_
  refine Al_s (St_gd [72,74] rfl rfl rfl rfl ⟨⟨_,rfl⟩,⟨_,rfl⟩,trivial⟩ (λhg75=>by exact Pu_add rfl rfl rfl (λh1 h2=>by rw[q2,q3];decide))) ?_
  refine Al_s (St_g [75] ⟨⟨_,rfl⟩,trivial⟩ (λ_=>Pu_cp)) ?_
  refine Al_p Pu_o ?_
  refine Al_nil ?_
  refine Aw_condF rfl ((by rw[q1,q2,q3];have e1':a.1=0:=e1;rw[e1'];rfl)) ?_
  refine Aw_skip (Aw_region ?_)
  refine Al_ml ?_
  refine Al_ml ?_
  refine Al_p (Pu_index rfl Tryz.underlying22 Tryz.sizeOf3 rfl rfl (rfl) (mapgetD (d:=default) ha)) ?_
  refine Al_p (Pu_l1 Tryz.isAgg3) ?_
  refine Al_p (Pu_int_and (r:=J.andI (l.getD i default) 3) rfl rfl rfl rfl (λ_=>V.i64_ok _)) ?_
  refine Al_ml ?_
  refine Al_p (Pu_indexArrb rfl Tryz.underlying58 Tryz.sizeOf9 rfl rfl (hjz) (hj)) ?_
  refine Al_store1 rfl rfl rfl (by kernel_rfl) Tryz.isAgg9 Tryz.sizeOf9 rfl rfl (by show 0+_*1<4;omega) (by conv=>lhs;whnf) rfl ?_
  refine Al_nil (Aw_region ?_)
  refine Al_ml ?_
  refine Al_p Pu_ad ?_
  refine Al_mr ?_
  refine Al_nil ?_
  exact⟨(i+1,w,t2,λk=>if k=(J.andI (l.getD i default) 3).toNat then V.ba [UInt8.ofNat (48+((i%10:Nat):Int)).toNat]else last k),⟨by omega,by omega,hai1,hinv1.mono (by omega)⟩,by simp only[];omega,Le.ov ⟨Sub.num (by omega),trivial⟩ ⟨Sub.rfl,Sub.rfl,Sub.rfl,Sub.rfl,trivial⟩ ⟨rfl,rfl,rfl,rfl,rfl,J.bxeq (W21.last_set last hj _),trivial⟩ ⟨rfl,rfl,trivial⟩⟩
 ·(try simp only[A.cd_]at h29)
  have hinv':g.Inv 352:=hinv.mono (by omega)
  refine Aw_exit (Aw_seq (Aw_sr ?_))
  refine Al_mr ?_
  refine Al_nil (Aw_block ?_)
  refine Aw_loopk (ι:=Nat×PG×GT) [3,4,5] [5,2002,2007] (λ(k,g,t)=>[(11,.d (iv k))]) (λ(k,g,t)=>[(2001,g19,.box 91 (gcellsN (.bx 2002 g19 0) fr.sv (g) t.hv)),(2003,g19,mapP (g).n fr.b fr.cnt (N.vX fr.np (g).Y)),(2004,g19,.op (starP SES t.Fn (N.vX fr.np (g).Y))),(2005,g19,.op (starP ST t.Fs (siteX fr.sp (g).S))),(2006,g19,histX t.hv (g).h)]) (λ(k,g,t)=>k≤4∧W21.AI g i last∧g.Inv (352+8*k)) (λ(k,g,t)=>4 - k) ((0,g,t)) (⟨Nat.zero_le _,⟨hai,hinv'⟩⟩) ⟨Sub.rfl,trivial⟩ ⟨rfl,rfl,rfl,rfl,rfl,trivial⟩ ?_
  rintro⟨k,g,t⟩ ⟨hk1,⟨hai2,hinv2⟩⟩
  refine Aw_seq (Aw_sr ?_)
  refine Al_ml ?_
  refine Al_p Pu_cp ?_
  refine Al_nil ?_
  refine Aw_cond rfl (λh86=>?_) (λh86=>?_)
  ·(try simp only[A.cd_]at h86)
   have hk4:k<4:=by omega
   have hf:fr.Ok g:=FR.Ok.inv hf0 (PG.Inv.new W21.hA W21.kA) hinv2 hai2.n3
   have hkey:=W21.key_eq (z:=(k:Int)) (by omega)
   rw[Int.toNat_natCast]at hkey
   have hget:=hai2.get hk4
   have hinv3:(g.gate (W21.opA 3 3 (letter k) ⟨#[]⟩) (g.get (W21.opA 3 3 (letter k) ⟨#[]⟩))).1.Inv (352+8*k+8):=hinv2.gate (by omega) λhb ha=>hinv2.get (PG.at_of hinv2.ok (show(1:Int)≤3∧(3:Int)≤7∧(3:Int)≠5 from by decide) hb ha)
   generalize hw:g.gate (W21.opA 3 3 (letter k) ⟨#[]⟩) (g.get (W21.opA 3 3 (letter k) ⟨#[]⟩))=wa at hget hinv3
   obtain⟨w,a⟩:=wa
   obtain⟨e1,hai3,hres⟩:=hget
   have hle:a.2.length≤1∧(!(decide ((a.2.length:Int)=1)==(!((last k).toList==(⟨#[]⟩:ByteArray).toList))))=false∧(a.2.length=1→(a.2.getD 0 default).value=last k):=by
    rw[str_eqB]
    rcases hres with⟨h1,h2⟩|⟨h1,v,h2,h3⟩
    ·have h2':a.2=[]:=h2
     rw[h2',h1];exact⟨by decide,by decide,λh=>by cases h⟩
    ·have h2':a.2=[v]:=h2
     rw[h2'];exact⟨by simp,by simp[h1],λ_=>h3⟩
   obtain⟨m1,m2,m3⟩:=hle
   refine Aw_skip (Aw_seq (Aw_block (Aw_sr ?_)))
   refine Al_ml ?_
   refine Al_ml ?_
   refine Al_p Pu_ad ?_
   refine Al_p (Pu_convW (k':=.u8) (r:=((UInt8.ofNat (97+(k:Int)).toNat).toNat:Int)) rfl Tryz.underlying3 Tryz.underlying5 rfl (J.u8_wrap (by omega)) ⟨by omega,by have:=(UInt8.ofNat (97+(k:Int)).toNat).toNat_lt;omega⟩) ?_
   refine Al_p (Pu_slice1 rfl Tryz.underlying45 Tryz.sizeOf5 Tryz.zeroValue5 rfl (by decide) (by decide) (by kernel_rfl) rfl rfl rfl) ?_
   refine Al_p (Pu_convBS (bs:=[UInt8.ofNat (97+(k:Int)).toNat]) rfl Tryz.underlying45 Tryz.underlying5 Tryz.underlying9 rfl) ?_
   refine Al_p (Pu_build (aa:=[(0,_),(1,_),(6,_)]) rfl Tryz.underlying41 Tryz.zeroValue41 places41 (by kernel_rfl) ⟨rfl,rfl,rfl,rfl,rfl,rfl,rfl,rfl,rfl,trivial⟩ rfl) ?_
   refine Al_gcallE [(1001,2001,g19),(1002,2002,g19),(1003,2003,g19),(1004,2004,g19),(1005,2005,g19),(1006,2006,g19),(1007,2007,g19)] [] (gdo_get (t:=t) hinv2 (by omega) hf (o:=W21.opA 3 3 (letter k) ⟨#[]⟩) rfl hw) rfl rfl rfl (by decide) (by kernel_rfl) ⟨rfl,rfl,rfl,rfl,rfl,rfl,rfl,trivial⟩ (λ_=>rfl) rfl rfl ⟨Sub.rfl,ASub.sub (ASub.row ⟨ASub.rfl,ASub.rfl,ASub.rfl,ASub.rfl,ASub.rfl,ASub.rfl,ASub.eq (by rw[hkey];rfl),ASub.rfl,ASub.nil,ASub.nil,ASub.nil,ASub.nil,trivial⟩),trivial⟩ ?_
   rintro t1 g96
   refine Al_al Tryz.zeroValue37 λg12=>?_
   refine Al_sN Tryz.isAgg37 Tryz.sizeOf37 ?_
   refine Al_nil (Aw_seq (Aw_seq ?_))
   refine Aw_dr 20 ?_
   refine Dr_p (Pu_fb 0 Tryz.underlying37 Tryz.sizeOf34) ?_
   refine Dr_p (Pu_lb Tryz.isAgg34) ?_
   refine Dr_p Pu_cp ?_
   refine Dr_ml ?_
   refine Dr_s (St_g [] trivial (λ_=>Pu_fb 1 Tryz.underlying37 Tryz.sizeOf35)) ?_
   refine Dr_s (St_g [101] ⟨⟨_,rfl⟩,trivial⟩ (λ_=>Pu_lb Tryz.isAgg35)) ?_
   refine Dr_s (St_g [102] ⟨⟨_,rfl⟩,trivial⟩ (λ_=>Pu_ln Tryz.underlying35)) ?_
   refine Dr_s (St_g [103] ⟨⟨_,rfl⟩,trivial⟩ (λ_=>Pu_cp)) ?_
   refine Dr_p Pu_o ?_
   refine Dr_ml ?_
   refine Dr_s (St_g [] trivial (λ_=>Pu_fb 1 Tryz.underlying37 Tryz.sizeOf35)) ?_
   refine Dr_s (St_g [107] ⟨⟨_,rfl⟩,trivial⟩ (λ_=>Pu_lb Tryz.isAgg35)) ?_
   refine Dr_s (St_g [108] ⟨⟨_,rfl⟩,trivial⟩ (λ_=>Pu_ln Tryz.underlying35)) ?_
   refine Dr_s (St_g [109] ⟨⟨_,rfl⟩,trivial⟩ (λ_=>Pu_cp)) ?_
   refine Dr_s (St_g [] trivial (λ_=>Pu_mvl)) ?_
   refine Dr_s (St_g [111] ⟨⟨_,rfl⟩,trivial⟩ (λ_=>Pu_indexArrb rfl Tryz.underlying58 Tryz.sizeOf9 rfl rfl (rfl) (hk4))) ?_
   refine Dr_s (St_g [112] ⟨⟨_,rfl⟩,trivial⟩ (λ_=>Pu_loadb rfl Tryz.isAgg9 rfl rfl (W21.last_at last hk4))) ?_
   refine Dr_s (St_g [113] ⟨⟨_,rfl⟩,trivial⟩ (λ_=>Pu_sr)) ?_
   refine Dr_s (St_g [110,114] ⟨⟨_,rfl⟩,⟨_,rfl⟩,trivial⟩ (λ_=>Pu_bool rfl Tryz.underlying4 rfl rfl rfl)) ?_
   refine Dr_p Pu_o ?_
   refine Dr_nil (Al_nil ?_)
   refine Aw_condF rfl ((by
    have e1':a.1=0:=e1
    rw[e1',show decide (1<(a.2.length:Int))=false from decide_eq_false (by omega),m2];rfl)) ?_
   refine Aw_skip (Aw_seq ?_)
   refine Aw_dr 15 ?_
   refine Dr_p (Pu_fb 1 Tryz.underlying37 Tryz.sizeOf35) ?_
   refine Dr_p (Pu_lb Tryz.isAgg35) ?_
   refine Dr_p (Pu_ln Tryz.underlying35) ?_
   refine Dr_p Pu_cp ?_
   refine Dr_ml ?_
   refine Dr_s (St_g [] trivial (λ_=>Pu_fb 1 Tryz.underlying37 Tryz.sizeOf35)) ?_
   refine Dr_s (St_g [122] ⟨⟨_,rfl⟩,trivial⟩ (λ_=>Pu_lb Tryz.isAgg35)) ?_
   refine Dr_s (St_gd [123] rfl rfl rfl rfl ⟨⟨_,rfl⟩,trivial⟩ (λhg124=>(by have hz:0<a.2.length:=(by have:=hg124;simp only[decide_eq_true_eq]at this;omega);exact Pu_index rfl Tryz.underlying35 Tryz.sizeOf50 rfl rfl (show((0:Int))=((0:Nat):Int)from rfl) (mapgetD (d:=default) hz)))) ?_
   refine Dr_s (St_g [124] ⟨⟨_,rfl⟩,trivial⟩ (λ_=>Pu_fd 1 Tryz.underlying50 Tryz.sizeOf9)) ?_
   refine Dr_s (St_g [125] ⟨⟨_,rfl⟩,trivial⟩ (λ_=>Pu_l1 Tryz.isAgg9)) ?_
   refine Dr_s (St_g [] trivial (λ_=>Pu_mvl)) ?_
   refine Dr_s (St_g [127] ⟨⟨_,rfl⟩,trivial⟩ (λ_=>Pu_indexArrb rfl Tryz.underlying58 Tryz.sizeOf9 rfl rfl (rfl) (hk4))) ?_
   refine Dr_s (St_g [128] ⟨⟨_,rfl⟩,trivial⟩ (λ_=>Pu_loadb rfl Tryz.isAgg9 rfl rfl (W21.last_at last hk4))) ?_
   refine Dr_s (St_g [126,129] ⟨⟨_,rfl⟩,⟨_,rfl⟩,trivial⟩ (λ_=>Pu_sr)) ?_
   refine Dr_p Pu_a ?_
   refine Dr_nil (Al_nil ?_)
   refine Aw_condF rfl ((by
    by_cases h1:a.2.length=1
    ·rw[m3 h1,str_eqB,decide_eq_true rfl];simp
    ·rw[decide_eq_false (show¬((a.2.length:Int)=1)from by omega)];rfl)) ?_
   refine Aw_skip (Aw_region ?_)
   refine Al_ml ?_
   refine Al_p Pu_ad ?_
   refine Al_mr ?_
   refine Al_nil ?_
   exact⟨(k+1,w,t1),⟨by omega,⟨hai3,hinv3.mono (by omega)⟩⟩,by simp only[];omega,Le.ov ⟨Sub.num (by omega),trivial⟩ ⟨Sub.rfl,Sub.rfl,Sub.rfl,trivial⟩ ⟨rfl,rfl,rfl,rfl,rfl,trivial⟩ ⟨rfl,rfl,rfl,trivial⟩⟩
  ·(try simp only[A.cd_]at h86)
   refine Aw_exit (Aw_sr ?_)
   refine Al_ml ?_
   refine Al_mr ?_
   refine Al_nil ?_
   exact Aw_ret (Sub.rfl)
end Go.Proofs.YtdnijgdmohinlaaGreat
end
section
namespace Go.Proofs.YtdnijgdmohinlaaGreat
open Go.ChangeShapes Go.WideShapes Go.ChangeAt Go.RowKit A
theorem geoAlone_law.own:ownKnob Tryz.prog.godebug=none:=by kernel_rfl
theorem geoAlone_law.laidOut:laidOutB Tryz.prog=true:=by kernel_rfl
set_option maxRecDepth 100000 in
theorem geoAlone_law.lifted (os:Os) (started:os.Started) (H:Type) (enc:TypeId×Value→H) :
  ReturnsInHanded {} Tryz.checked os 6 .any (Rows.geoAloneSpec.pre6 enc Tryz.prog Tryz.f6 Rows.geoAloneRow.domain false) (Rows.geoAloneSpec.post enc Tryz.prog Tryz.f6 false true false false):=by
 refine returnsInHanded_of_change (C:=Tryz.checked) geoAlone_law.own started (by kernel_rfl) Tryz.func6
  (ChangeSpec.witness6 (enc:=enc) (C:=Tryz.checked) false ⟨#[],#[.slice none 0 0],[]⟩ 8 (by kernel_rfl) (by kernel_rfl) (by kernel_rfl) (by kernel_rfl)) ?_
 intro W base args ds gs before hval0 hW hcnd _
 have hval:∀(j:Nat) t v,Tryz.f6.params[j]?=some t→args[j]?=some v→Value.okWide Tryz.prog W .any base t v:=hval0
 have hW':=hW
 obtain⟨p,q,hA0,hV,rfl,hfz,hnd⟩:=hW
 have hA:DataW.TrodAll enc Tryz.prog W 0 (λ_=>true) true Tryz.f6.params.toList args.toList ds p:=hA0
 rw[Tryz.params6]at hA hval
 obtain⟨v0,vs0,d0,ds0,p0,q0,hargs,rfl,rfl,h0,r0⟩:=trodAll_cons hA
 obtain⟨rfl,rfl,rfl⟩:=trodAll_nil r0
 obtain rfl:args=#[v0]:=by cases args;simp_all
 obtain⟨rfl,rfl⟩:=trodVars_none hV
 have k0:=h0
 have lt0:∀x∈p0,x.block<W.heap.size:=by obtain⟨m,hm⟩:=k0;exact DataW.trod_lt m _ _ _ hm
 have ok0:=hval 0 22 v0 rfl rfl
 clear hA0 hval0
 obtain⟨l,hl⟩:=open_ints21 ok0 h0 
 refine(A.law (geoalone_law l) (A.allcons hl A.allnil)).mono λe W' ⟨he,bel⟩=>?_
 subst he
 exact⟨_,rfl,_,_,_,[],_,[],hW',trodAll_mk1 (shut_bool Tryz.underlying4 _),(trodAll_cons_mk (Below.trod geoAlone_law.laidOut (by kernel_rfl) (of_decide_eq_true (by kernel_rfl)) k0 bel lt0) trodAll_mk0),rfl,bel.frame _,λh=>by cases h⟩
theorem geoAlone_law.j1:(laidOutB Tryz.prog)=true:=by kernel_rfl
theorem geoAlone_law.j2:(mapsRowed Tryz.prog)=true:=by kernel_rfl
theorem geoAlone_law.j9:((Rows.geoAloneRow.inPlace==Tryz.prog.inPlace 6))=true:=by kernel_rfl
theorem geoAlone_law.j10:((Rows.geoAloneRow.unfollowed==Tryz.prog.unfollowed 6))=true:=by kernel_rfl
theorem geoAlone_law.j11:((Rows.geoAloneRow.recurses==Tryz.prog.recurses 6))=true:=by kernel_rfl
theorem geoAlone_law.j12:((Rows.geoAloneRow.named==Tryz.prog.varsNamed 6))=true:=by kernel_rfl
theorem geoAlone_law.j24:(Tryz.prog.stopsHeard)=true:=by kernel_rfl
theorem geoAlone_law.j25:(Tryz.prog.mayEnter)=true:=by kernel_rfl
theorem geoAlone_law.j26:((Rows.geoAloneRow.lifted==Tryz.prog.liftsFinal))=true:=by kernel_rfl
theorem geoAlone_law.j27:((Tryz.prog.make==some Rows.geoAloneRow.make))=true:=by kernel_rfl
theorem geoAlone_law.andI {a b:Bool}(h:a=true) (k:b=true):(a&&b)=true:=by rw[h,k];rfl
set_option maxRecDepth 100000 in
theorem geoAlone_law.joined:joinedFacts Tryz.prog 6 Tryz.f6 Rows.geoAloneSpec Rows.geoAloneRow=true:=(geoAlone_law.andI (geoAlone_law.andI (geoAlone_law.andI (geoAlone_law.andI (geoAlone_law.andI (geoAlone_law.andI (geoAlone_law.andI (geoAlone_law.andI (geoAlone_law.andI (geoAlone_law.andI (geoAlone_law.andI (geoAlone_law.andI (geoAlone_law.andI (geoAlone_law.andI (geoAlone_law.andI (geoAlone_law.andI (geoAlone_law.andI (geoAlone_law.andI (geoAlone_law.andI (geoAlone_law.andI (geoAlone_law.andI (geoAlone_law.andI (geoAlone_law.andI (geoAlone_law.andI (geoAlone_law.andI (geoAlone_law.andI (geoAlone_law.andI (geoAlone_law.andI (geoAlone_law.andI (geoAlone_law.andI (geoAlone_law.andI (by kernel_rfl) geoAlone_law.j1) geoAlone_law.j2) (by kernel_rfl)) (by kernel_rfl)) (by kernel_rfl)) (by kernel_rfl)) (by kernel_rfl)) (by kernel_rfl)) geoAlone_law.j9) geoAlone_law.j10) geoAlone_law.j11) geoAlone_law.j12) (by kernel_rfl)) (by kernel_rfl)) (by kernel_rfl)) (by kernel_rfl)) (by kernel_rfl)) (by kernel_rfl)) (by kernel_rfl)) (by kernel_rfl)) (by kernel_rfl)) (by kernel_rfl)) (by kernel_rfl)) geoAlone_law.j24) geoAlone_law.j25) geoAlone_law.j26) geoAlone_law.j27) (by kernel_rfl)) (by kernel_rfl)) (by kernel_rfl)) (by kernel_rfl))
theorem geoAlone_holds:Rows.GeoAloneSaid :=
 OpenClaim.holds_of_wide 6 Tryz.f6 rfl rfl rfl rfl rfl rfl rfl ⟨rfl,rfl,rfl,rfl,rfl⟩ rfl rfl rfl rfl rfl (by kernel_rfl) Tryz.func6 geoAlone_law.joined
  (of_decide_eq_true (by kernel_rfl)) (by unfold Func.isWrapper;first|(rw[if_pos (by decide +kernel)];kernel_rfl)|(rw[if_neg (by decide +kernel)];exact⟨rfl,rfl⟩))
  (λos started H enc _=>geoAlone_law.lifted os started H enc)
end Go.Proofs.YtdnijgdmohinlaaGreat
end
namespace Go.Proofs.YtdnijgdmohinlaaGreat
#print axioms geoAlone_holds
end Go.Proofs.YtdnijgdmohinlaaGreat
