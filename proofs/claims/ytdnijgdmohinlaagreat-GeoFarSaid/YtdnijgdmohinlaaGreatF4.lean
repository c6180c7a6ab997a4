/- What the proofs need in common, laid together (4 of 7): no condition. -/
import Derived.Test.YtdnijgdmohinlaaGreatF3
import Derived.Shelf.Sort.Plain
import Derived.Shelf.Slices.In.SortNone
import Derived.DeepKeys4
import Derived.Shelf.SlIter.Sorted
set_option linter.unusedSimpArgs false
set_option linter.unusedVariables false
set_option linter.constructorNameAsVariable false
section
namespace Go.Proofs.YtdnijgdmohinlaaGreat.A
open Go Go.RowKit
theorem find_congr {α:Type}{p q:α→Bool}:∀{l:List α},(∀x∈l,p x=q x)→l.find? p=l.find? q
 | [],_=>rfl
 | x::l,h=>by
  rw[List.find?_cons,List.find?_cons,h x (by simp),find_congr λy hy=>h y (by simp[hy])]
def stL (l:List Oper) (ss:Nat→SV) (L:Nat→Bool) (st:ASt):ASt:={st with sl:=λt=>match (List.range l.length).find? (λi=>L i&&(l[i]?.bind (·.dst))==some t)with|some i=>ss i|none=>st.sl t}
theorem stL_congr {l:List Oper}{ss ss':Nat→SV}{L L':Nat→Bool}{st:ASt}(hL:∀i,i<l.length→L i=L' i) (hs:∀i,i<l.length→L i=true→ss i=ss' i):stL l ss L st=stL l ss' L' st:=by
 unfold stL
 congr 1
 funext t
 have e:(List.range l.length).find? (λi=>L i&&(l[i]?.bind (·.dst))==some t)=(List.range l.length).find? (λi=>L' i&&(l[i]?.bind (·.dst))==some t):=by
  apply find_congr
  intro i hi
  rw[hL i (List.mem_range.1 hi)]
 rw[←e]
 cases h:(List.range l.length).find? (λi=>L i&&(l[i]?.bind (·.dst))==some t)with
 | none=>rfl
 | some i =>
  have h1:=List.find?_some h
  have h2:=List.mem_range.1 (List.mem_of_find?_eq_some h)
  simp only[Bool.and_eq_true]at h1
  exact hs i h2 h1.1
theorem find_uniq {l:List Oper}{L:Nat→Bool}{i t:Nat}{o:Oper}(hd:Ev.distinct l=true) (hi:l[i]?=some o) (ho:o.dst=some t) (hL:L i=true):(List.range l.length).find? (λi=>L i&&(l[i]?.bind (·.dst))==some t)=some i:=by
 have hil:i<l.length:=(List.getElem?_eq_some_iff.1 hi).1
 cases h:(List.range l.length).find? (λi=>L i&&(l[i]?.bind (·.dst))==some t)with
 | none =>
  have:=List.find?_eq_none.1 h i (List.mem_range.2 hil)
  simp[hL,hi,ho]at this
 | some j =>
  have h1:=List.find?_some h
  simp only[Bool.and_eq_true,beq_iff_eq]at h1
  obtain⟨oj,h2,h3⟩:=Option.bind_eq_some_iff.1 h1.2
  congr 1
  rcases Nat.lt_trichotomy i j with e|e|e
  ·exact(dist_ne hd hi h2 e ho h3).elim
  ·exact e.symm
  ·exact(dist_ne hd h2 hi e h3 ho).elim
theorem stL_at {l:List Oper}{ss:Nat→SV}{L:Nat→Bool}{st:ASt}{i t:Nat}{o:Oper}(hd:Ev.distinct l=true) (hi:l[i]?=some o) (ho:o.dst=some t) (hL:L i=true):(stL l ss L st).sl t=ss i:=by
 unfold stL
 simp only[find_uniq hd hi ho hL]
theorem stL_out {l:List Oper}{ss:Nat→SV}{L:Nat→Bool}{st:ASt}{t:Nat}(h:∀(i:Nat) (o:Oper),l[i]?=some o→o.dst=some t→L i=false):(stL l ss L st).sl t=st.sl t:=by
 unfold stL
 have e:(List.range l.length).find? (λi=>L i&&(l[i]?.bind (·.dst))==some t)=none:=by
  rw[List.find?_eq_none]
  intro i hi
  simp only[Bool.and_eq_true,beq_iff_eq,not_and]
  intro hL h2
  obtain⟨o,h3,h4⟩:=Option.bind_eq_some_iff.1 h2
  rw[h i o h3 h4]at hL;cases hL
 simp only[e]
theorem stL_none {l:List Oper}{ss:Nat→SV}{st:ASt}:stL l ss (λ_=>false) st=st:=by
 unfold stL
 have e:∀t,(List.range l.length).find? (λi=>false&&(l[i]?.bind (·.dst))==some t)=none:=λt=>by
  rw[List.find?_eq_none];intro i _;simp
 simp only[e]
theorem stL_set {l:List Oper}{ss:Nat→SV}{L L':Nat→Bool}{st:ASt}{j d:Nat}{o:Oper}(hd:Ev.distinct l=true) (hj:l[j]?=some o) (ho:o.dst=some d) (hL':∀i,L' i=(L i||decide (i=j))):(stL l ss L st).set d (ss j)=stL l ss L' st:=by
 have hb:∀{s s':ASt},s.sl=s'.sl→s.ob=s'.ob→s=s':=λ{s s'} h1 h2=>by cases s;cases s';simp_all
 refine hb (funext λt=>?_) rfl
 show(bif Nat.beq t d then ss j else(stL l ss L st).sl t)=(stL l ss L' st).sl t
 cases ht:Nat.beq t d with
 | true =>
  have:=Nat.eq_of_beq_eq_true ht
  subst this
  exact(stL_at hd hj ho (by rw[hL' j];simp)).symm
 | false =>
  have hne:t≠d:=λe=>by subst e;simp at ht
  show(stL l ss L st).sl t=(stL l ss L' st).sl t
  unfold stL
  have e:(List.range l.length).find? (λi=>L i&&(l[i]?.bind (·.dst))==some t)=(List.range l.length).find? (λi=>L' i&&(l[i]?.bind (·.dst))==some t):=by
   apply find_congr
   intro i _
   rw[hL' i]
   by_cases e:i=j
   ·subst e
    have:((l[i]?.bind (·.dst))==some t)=false:=by
     rw[hj]
     simp only[Option.bind_some,ho,beq_eq_false_iff_ne,ne_eq,Option.some.injEq]
     exact λe=>hne e.symm
    rw[this];simp
   ·simp[e]
  simp only[e]
theorem St_frame {P:Program}{ops:Array Oper}{st st':ASt}{o:Oper}{s:SV}(h:St P ops st o s) (hx:∀x∈opsOf o,st'.ev x=st.ev x) (hg:∀j b oj dj,o.guard=some (j,b)→ops[j]?=some oj→oj.dst=some dj→st'.sl dj=st.sl dj) (hob:∀k g ob,st.ob k=some (g,ob)→st'.ob k=some (g,ob)):St P ops st' o s:=λB M ρ w a h1 h2 h3 h4 hev=>by
 have h5:=h B M ρ w a h1 (λx hx'=>by rw[←hx x hx'];exact h2 x hx') (λj b oj dj k1 k2 k3=>by rw[←hg j b oj dj k1 k2 k3];exact h3 j b oj dj k1 k2 k3) (λk g ob hk=>h4 k g ob (hob k g ob hk)) (hev.sub hob)
 split
 ·rename_i hw
  rw[if_pos hw]at h5
  intro K hK
  exact h5 K λv w' hk hv=>hK v w' (hk.sup hev hob) hv
 ·rename_i hw
  rw[if_neg hw]at h5
  exact h5
theorem dr_all {P:Program}{ops:Array Oper}{R:ASt→Prop}{l:List Oper}{st:ASt}(hd:Ev.distinct l=true):∀(r:List Oper) (j:Nat) (ss0:Nat→SV),l.drop j=r→Dr P ops R r (stL l ss0 (λi=>decide (i<j)) st) →
  ∃ss:Nat→SV,(∀i,i<j→ss i=ss0 i)∧(∀i o,j≤i→l[i]?=some o→∃d,o.dst=some d∧St P ops (stL l ss (λx=>decide (x<i)) st) o (ss i))∧R (stL l ss (λ_=>true) st)
 | [],j,ss0,hr,h=>⟨ss0,λ_ _=>rfl,λi o h1 h2=>by
   have h3:=(List.getElem?_eq_some_iff.1 h2).1
   have h4:=congrArg List.length hr
   simp at h4;omega,by
   have h4:=congrArg List.length hr
   simp at h4
   have e:stL l ss0 (λi=>decide (i<j)) st=stL l ss0 (λ_=>true) st:=stL_congr (λi hi=>by simp;omega) (λ_ _ _=>rfl)
   rw[←e];exact h⟩
 | o::r,j,ss0,hr,h=>by
  obtain⟨d,s,hdo,hst,hdr⟩:=h
  have hj:l[j]?=some o:=by
   have:(l.drop j)[0]?=some o:=by rw[hr];rfl
   simpa using this
  let ss1:Nat→SV:=λi=>if i=j then s else ss0 i
  have e0:stL l ss0 (λi=>decide (i<j)) st=stL l ss1 (λi=>decide (i<j)) st:=stL_congr (λ_ _=>rfl) (λi _ h=>by
   have:i<j:=by simpa using h
   simp[ss1,show i≠j by omega])
  have e1:(stL l ss0 (λi=>decide (i<j)) st).set d s=stL l ss1 (λi=>decide (i<j+1)) st:=by
   rw[e0]
   have:s=ss1 j:=by simp[ss1]
   rw[this]
   exact stL_set hd hj hdo λi=>by
    rw[Bool.eq_iff_iff];simp;omega
  rw[e1]at hdr
  obtain⟨ss,h1,h2,h3⟩:=dr_all hd r (j+1) ss1 (by
   have:(l.drop j).drop 1=r:=by rw[hr];rfl
   rwa [List.drop_drop]at this) hdr
  refine⟨ss,λi hi=>by rw[h1 i (by omega)];simp[ss1,show i≠j by omega],λi o' hi ho'=>?_,h3⟩
  by_cases e:i=j
  ·subst e
   rw[hj]at ho';cases ho'
   refine⟨d,hdo,?_⟩
   have e2:stL l ss0 (λx=>decide (x<i)) st=stL l ss (λx=>decide (x<i)) st:=stL_congr (λ_ _=>rfl) (λx _ hx=>by
    have:x<i:=by simpa using hx
    rw[h1 x (by omega)];simp[ss1,show x≠i by omega])
   rw[←e2]
   have:ss i=s:=by rw[h1 i (by omega)];simp[ss1]
   rw[this];exact hst
  ·exact h2 i o' (by omega) ho'
def alcS (d g:Nat) (o:AO) (st:ASt):ASt:=(st.put d g o).set d (.bx d g 0)
def alcO (d:Nat) (o:AO):Option Nat→ASt→ASt
 | none,st=>st
 | some g,st=>alcS d g o st
theorem alcS_set {d g e:Nat}{o:AO}{s:SV}{st:ASt}(h:e≠d):(alcS d g o st).set e s=alcS d g o (st.set e s):=by
 have hb:∀{s s':ASt},s.sl=s'.sl→s.ob=s'.ob→s=s':=λ{s s'} h1 h2=>by cases s;cases s';simp_all
 refine hb (funext λt=>?_) rfl
 show(bif Nat.beq t e then s else bif Nat.beq t d then SV.bx d g 0 else st.sl t)=(bif Nat.beq t d then SV.bx d g 0 else bif Nat.beq t e then s else st.sl t)
 cases h1:Nat.beq t e with
 | false=>rfl
 | true =>
  cases h2:Nat.beq t d with
  | false=>rfl
  | true =>
   have e1:=Nat.eq_of_beq_eq_true h1
   have e2:=Nat.eq_of_beq_eq_true h2
   exact absurd (e1.symm.trans e2) h
def drawAB (N:Nat) (l:List Oper) (n dA:Nat):Bool:=Ev.distinct (l.take n)&&Ev.backB l.toArray&&Ev.tailB l.toArray (n+1)&&drB N l n&&((l.take n).all λo=>match o.dst with|some d=>decide (d<N)&&!Nat.beq d dA|none=>false)&&(l.take n).all λo=>((opsOf o).all fun|.tmp t=>!Nat.beq t dA|_=>true)&&match o.guard with|some (j,_)=>(match l[j]? with|some oj=>(match oj.dst with|some dj=>!Nat.beq dj dA|none=>true)|none=>true)|none=>true
section
variable {P:Program}{N:Nat}{M0:Nat→Prop}{w0:Base}{Q:Exit→ASt→Prop}{st:ASt}
theorem drawA_go {l:List Oper}{n dA:Nat}{oA:Oper}{T:TypeId}{z:Value}{zs:List AV}{ss:Nat→SV}(hok:drawAB N l n dA=true) (hA:l[n]?=some oA) (ho:oA.op=.alloc T) (hgA:oA.guard=none) (hdA:oA.dst=some dA) (hNA:dA<N) (hz:∀w,(zeroValue T).run P w=.ok z w) (hzs:z.cells.toList.map AV.v=zs) (hv:z.cells.toList.all (λz=>decide (vok z))=true) (hfree:st.ob dA=none)
  (hst:∀i o,(l.take n)[i]?=some o→∃d,o.dst=some d∧St P l.toArray (stL (l.take n) ss (λx=>decide (x<i)) st) o (ss i))
  (hfin:∀g,Al P N M0 w0 l.toArray Q (l.drop (n+1)) (alcS dA g (.box T (zs.map .d)) (stL (l.take n) ss (λ_=>true) st))) :
  ∀(fuel:Nat) (listed:Array Bool) (og:Option Nat),listed.size=l.length→Ev.Closed l.toArray listed→listed[n]?=some og.isSome→(∀i,n<i→i<l.length→listed[i]?=some false)→listed.count false≤fuel →
   Ad P N M0 w0 l.toArray Q fuel listed (alcO dA (.box T (zs.map .d)) og (stL (l.take n) ss (λi=>listed.getD i false) st)):=by
 simp only[drawAB,Bool.and_eq_true]at hok
 obtain⟨⟨⟨⟨⟨hd,hb⟩,ht⟩,hdr⟩,hds⟩,hdA2⟩:=hok
 have hnl:n<l.length:=(List.getElem?_eq_some_iff.1 hA).1
 have hsz:l.toArray.size=l.length:=by simp
 have hget:∀(j:Nat),l.toArray[j]?=l[j]?:=λj=>by simp
 have htk:∀(j:Nat),j<n→(l.take n)[j]?=l[j]?:=λj hj=>by rw[List.getElem?_take,if_pos hj]
 have hlen:(l.take n).length=n:=by simp;omega
 have fin:∀(fuel:Nat) (listed:Array Bool) (og:Option Nat),listed.size=l.length→Ev.Closed l.toArray listed→listed[n]?=some og.isSome→(∀i,n<i→i<l.length→listed[i]?=some false)→listed.count false≤fuel→(∀i,i<n+1→listed[i]?=some true) →
   Ad P N M0 w0 l.toArray Q fuel listed (alcO dA (.box T (zs.map .d)) og (stL (l.take n) ss (λi=>listed.getD i false) st)):=by
  intro fuel listed og hs hcl hog hun hfu hall
  have h1:=hall n (by omega)
  rw[hog]at h1
  obtain⟨g,rfl⟩:∃g,og=some g:=by
   cases og with
   | none=>simp at h1
   | some g=>exact⟨g,rfl⟩
  have e:stL (l.take n) ss (λi=>listed.getD i false) st=stL (l.take n) ss (λ_=>true) st:=stL_congr (λi hi=>by
   have:=hall i (by omega)
   simp[Array.getD_eq_getD_getElem?,this]) (λ_ _ _=>rfl)
  rw[e]
  refine⟨λa w hs'=>?_⟩
  have hcnt:l.length - (n+1)≤fuel:=by
   have e:listed.toList=listed.toList.take (n+1)++List.replicate (l.length - (n+1)) false:=by
    apply List.ext_getElem?
    intro i
    rcases Nat.lt_or_ge i (n+1)with h|h
    ·rw[List.getElem?_append_left (by simp;omega),List.getElem?_take_of_lt h]
    ·rw[List.getElem?_append_right (by simp;omega)]
     rcases Nat.lt_or_ge i l.length with h2|h2
     ·have:=hun i (by omega) h2
      have e1:listed.toList[i]?=some false:=by simpa using this
      rw[e1,List.getElem?_replicate,if_pos (by simp;omega)]
     ·rw[List.getElem?_eq_none (by simp;omega),List.getElem?_eq_none (by simp;omega)]
   have h2:listed.count false=listed.toList.count false:=by rw[Array.count_toList]
   rw[h2,e,List.count_append]at hfu
   simp at hfu
   omega
  refine Ev.seq_any hb ht (l.length - (n+1)) fuel (n+1) listed a w (by simp;omega) hcnt (Nat.le_refl _) (by simpa using hs) (λi hi=>hall i hi) (λi hi hi2=>hun i (by omega) (by simpa using hi2)) hcl ?_
  have h3:=wpOps_eq_wpList (P:=P) (ops:=l.toArray) (Q:=QL N M0 w0 Q) (l.drop (n+1)) (n+1) (λj=>by simp)
  rw[List.length_drop]at h3
  rw[h3]
  exact(hfin g).out a w hs'
 intro fuel
 induction fuel with
 | zero =>
  intro listed og hs hcl hog hun hn
  refine fin 0 listed og hs hcl hog hun hn λi hi=>?_
  cases hl:listed[i]? with
  | none=>rw[Array.getElem?_eq_none_iff]at hl;omega
  | some b =>
   cases b with
   | true=>rfl
   | false =>
    have:false∈listed:=Array.mem_of_getElem? hl
    have:=Array.count_pos_iff.2 this
    omega
 | succ fuel ih =>
  intro listed og hs hcl hog hun hn
  by_cases hall:∀(i:Nat),i<n+1→listed[i]?=some true
  ·exact fin (fuel+1) listed og hs hcl hog hun hn hall
  refine⟨λa w hsim=>⟨λh0=>?_,λj hj=>?_⟩⟩
  ·exfalso
   apply hall
   intro i
   induction i using Nat.strongRecOn with
   | _ i ih' =>
    intro hi
    cases hl:listed[i]? with
    | none=>rw[Array.getElem?_eq_none_iff]at hl;omega
    | some b =>
     cases b with
     | true=>rfl
     | false =>
      have:=Ev.ready_of_least hb (by simpa using hs) (by simp;omega) hl (λk hk=>ih' k hk (by omega))
      rw[h0]at this
      cases this
  obtain⟨hju,o,hoj,hdone⟩:=mem_ready.1 hj
  have hjo:j<l.length:=by
   have:=(Array.getElem?_eq_some_iff.1 hoj).1
   simpa using this
  have hlt:j<listed.size:=by omega
  have hjl:listed[j]?=some false:=by simp[Array.getD,hlt]at hju;simp[hlt,hju]
  have hj1:j<n+1:=by
   rcases Nat.lt_or_ge j (n+1)with h|h
   ·exact h
   ·exact(hall λi hi=>Ev.ready_all ht hcl hj h i (by omega)).elim
  have hoj':l[j]?=some o:=by rw[←hget];exact hoj
  have hdl:∀d∈Ev.depsOf o,listed[d]?=some true:=Ev.deps_listed hdone
  have hold:∀(i:Nat),i≠j→(listed.setIfInBounds j true)[i]?=listed[i]?:=λi hij=>by
   rw[Array.getElem?_setIfInBounds,if_neg (Ne.symm hij)]
  have hcl':Ev.Closed l.toArray (listed.setIfInBounds j true):=λi o' hi ho' d hd'=>by
   have keep:∀(y:Nat),listed[y]?=some true→(listed.setIfInBounds j true)[y]?=some true:=λy hy=>by
    by_cases e:y=j
    ·subst e;simp[hlt]
    ·rw[hold y e];exact hy
   by_cases hij:i=j
   ·subst hij
    rw[hoj]at ho'
    cases ho'
    exact keep d (hdl d hd')
   ·rw[hold i hij]at hi
    exact keep d (hcl i o' hi ho' d hd')
  have hcnt:(listed.setIfInBounds j true).count false≤fuel:=by
   have:=Array.count_set (xs:=listed) (i:=j) (a:=true) (b:=false) hlt
   rw[Array.setIfInBounds,dif_pos hlt]
   have h3:listed[j]=false:=by simpa [hlt]using hjl
   have h4:0<listed.count false:=Array.count_pos_iff.2 (Array.mem_iff_getElem.2 ⟨j,hlt,h3⟩)
   rw[this]
   simp[h3]
   omega
  have hLL:∀i,(listed.setIfInBounds j true).getD i false=(listed.getD i false||decide (i=j)):=λi=>by
   by_cases e:i=j
   ·subst e;simp[Array.getD_eq_getD_getElem?,hlt]
   ·simp[Array.getD_eq_getD_getElem?,hold i e,e]
  have hun':∀i,n<i→i<l.length→(listed.setIfInBounds j true)[i]?=some false:=λi h1 h2=>by
   rw[hold i (by omega)];exact hun i h1 h2
  by_cases hjn:j=n
  ·subst hjn
   rw[hA]at hoj';cases hoj'
   have hog':og=none:=by
    rw[hjl]at hog
    cases og with
    | none=>rfl
    | some g=>simp at hog
   subst hog'
   refine wpOp_of_list hoj ((Al_alloc (l:=[]) (Q:=Then (Ad P N M0 w0 l.toArray Q fuel (listed.setIfInBounds j true)) Q) ho hgA hdA hNA hz hzs hv (λg=>Al_nil ?_)).out a w hsim) (λa' w' ⟨st',h1,h2⟩=>h1.out a' w' h2) (λc a' w' h=>h) (λ⟨a',w',h⟩=>⟨a',w',h⟩)
   have:=ih (listed.setIfInBounds j true) (some g) (by simpa using hs) hcl' (by simp[hlt]) hun' hcnt
   have e:stL (l.take j) ss (λi=>(listed.setIfInBounds j true).getD i false) st=stL (l.take j) ss (λi=>listed.getD i false) st:=stL_congr (λi hi=>by
    rw[hLL i]
    simp at hi
    simp[show i≠j by omega]) (λ_ _ _=>rfl)
   rw[e]at this
   exact this
  ·have hjn':j<n:=by omega
   have hjt:(l.take n)[j]?=some o:=by rw[htk j hjn'];exact hoj'
   obtain⟨d,hdo,hS⟩:=hst j o hjt
   have hmem:o∈l.take n:=List.mem_of_getElem? hjt
   have hdN:=List.all_eq_true.1 hds o hmem
   rw[hdo]at hdN
   simp only[Bool.and_eq_true,decide_eq_true_eq,Bool.not_eq_true']at hdN
   have hddA:d≠dA:=λe=>by rw[e]at hdN;simp at hdN
   have hno:=List.all_eq_true.1 hdA2 o hmem
   simp only[Bool.and_eq_true]at hno
   have hdrj:=List.all_eq_true.1 hdr j (List.mem_range.2 hjn')
   rw[hoj']at hdrj
   simp only[Bool.and_eq_true]at hdrj
   obtain⟨⟨hops,hgd⟩,hconst⟩:=hdrj
   have hsl:∀t,opB (l.take n) j o t=true→t≠dA→(alcO dA (.box T (zs.map .d)) og (stL (l.take n) ss (λi=>listed.getD i false) st)).sl t=(stL (l.take n) ss (λx=>decide (x<j)) st).sl t:=by
    intro t hop hne
    have e1:(alcO dA (.box T (zs.map .d)) og (stL (l.take n) ss (λi=>listed.getD i false) st)).sl t=(stL (l.take n) ss (λi=>listed.getD i false) st).sl t:=by
     cases og with
     | none=>rfl
     | some g =>
      show(bif Nat.beq t dA then _ else _)=_
      have:Nat.beq t dA=false:=by
       cases hb:Nat.beq t dA with
       | false=>rfl
       | true=>exact absurd (Nat.eq_of_beq_eq_true hb) hne
      rw[this];rfl
    rw[e1]
    by_cases hin:inB (l.take n) t=true
    ·simp only[opB,hin,Bool.not_true,Bool.false_or,List.any_eq_true,List.mem_range,Bool.and_eq_true,beq_iff_eq]at hop
     obtain⟨i,hi,hid,hic⟩:=hop
     obtain⟨oi,hoi,hoid⟩:=Option.bind_eq_some_iff.1 hid
     have hli:=hdl i (by simpa using hic)
     rw[stL_at hd hoi hoid (by simp[Array.getD_eq_getD_getElem?,hli]),stL_at hd hoi hoid (by simpa using hi)]
    ·have hout:∀(i:Nat) (o':Oper),(l.take n)[i]?=some o'→o'.dst≠some t:=λi o' h1 h2=>hin (by
      simp only[inB,List.any_eq_true,beq_iff_eq]
      exact⟨o',List.mem_of_getElem? h1,h2⟩)
     rw[stL_out λi o' h1 h2=>absurd h2 (hout i o' h1),stL_out λi o' h1 h2=>absurd h2 (hout i o' h1)]
   have hS2:St P l.toArray (alcO dA (.box T (zs.map .d)) og (stL (l.take n) ss (λi=>listed.getD i false) st)) o (ss j):=by
    refine St_frame hS (λx hx=>?_) (λj' b oj dj h1 h2 h3=>?_) (λk g ob h=>?_)
    ·cases x with
     | tmp t =>
      have h1:=List.all_eq_true.1 hops _ hx
      have h2:=List.all_eq_true.1 hno.1 _ hx
      exact hsl t h1 (λe=>by rw[e]at h2;simp at h2)
     | _=>rfl
    ·rw[hget]at h2
     rw[h1]at hgd
     simp only[h2,h3,Bool.and_eq_true,decide_eq_true_eq]at hgd
     have h4:=hno.2
     rw[h1]at h4
     simp only[h2,h3,Bool.not_eq_true']at h4
     exact hsl dj hgd.1 (λe=>by rw[e]at h4;simp at h4)
    ·cases og with
     | none=>exact h
     | some g' =>
      show(bif Nat.beq k dA then _ else st.ob k)=_
      have h':st.ob k=some (g,ob):=h
      have:Nat.beq k dA=false:=by
       cases hb:Nat.beq k dA with
       | false=>rfl
       | true =>
        have:=Nat.eq_of_beq_eq_true hb
        subst this
        rw[hfree]at h';cases h'
      rw[this];exact h'
   refine wpOp_of_list hoj ((Al_st (l:=[]) (Q:=Then (Ad P N M0 w0 l.toArray Q fuel (listed.setIfInBounds j true)) Q) hS2 hdo hdN.1 hconst (λj' b oj dj h1 h2 h3=>?_) (Al_nil ?_)).out a w hsim) (λa' w' ⟨st',h1,h2⟩=>h1.out a' w' h2) (λc a' w' h=>h) (λ⟨a',w',h⟩=>⟨a',w',h⟩)
   ·rw[hget]at h2
    rw[h1]at hgd
    simp only[h2,h3,Bool.and_eq_true,decide_eq_true_eq]at hgd
    exact hgd.2
   ·have:=ih (listed.setIfInBounds j true) og (by simpa using hs) hcl' (by rw[hold n (by omega)];exact hog) hun' hcnt
    have e:(alcO dA (.box T (zs.map .d)) og (stL (l.take n) ss (λi=>listed.getD i false) st)).set d (ss j)=alcO dA (.box T (zs.map .d)) og (stL (l.take n) ss (λi=>(listed.setIfInBounds j true).getD i false) st):=by
     have e2:(stL (l.take n) ss (λi=>listed.getD i false) st).set d (ss j)=stL (l.take n) ss (λi=>(listed.setIfInBounds j true).getD i false) st:=stL_set hd hjt hdo hLL
     cases og with
     | none=>exact e2
     | some g=>show(alcS _ _ _ _).set d (ss j)=alcS _ _ _ _;rw[alcS_set hddA,e2]
    show Ad P N M0 w0 l.toArray Q fuel (listed.setIfInBounds j true) _
    rw[e]
    exact this
theorem Aw_drawA {id:Nat}{l:List Oper}(n:Nat) {oA:Oper}{dA:Nat}{T:TypeId}{z:Value}{zs:List AV}(hm:P.follows .mixedOrders=true) (hok:drawAB N l n dA=true) (hA:l[n]?=some oA) (ho:oA.op=.alloc T) (hgA:oA.guard=none) (hdA:oA.dst=some dA) (hNA:dA<N) (hz:∀w,(zeroValue T).run P w=.ok z w) (hzs:z.cells.toList.map AV.v=zs) (hv:z.cells.toList.all (λz=>decide (vok z))=true) (hfree:st.ob dA=none)
  (h:Dr P l.toArray (λst'=>∀g,Al P N M0 w0 l.toArray Q (l.drop (n+1)) ((st'.put dA g (.box T (zs.map .d))).set dA (.bx dA g 0))) (l.take n) st):Aw P N M0 w0 (.region id l.toArray true) Q st:=by
 have hd:Ev.distinct (l.take n)=true:=by
  simp only[drawAB,Bool.and_eq_true]at hok
  exact hok.1.1.1.1.1
 have hnl:n<l.length:=(List.getElem?_eq_some_iff.1 hA).1
 have h0:stL (l.take n) (λ_=>.any) (λi=>decide (i<0)) st=st:=by
  refine Eq.trans (stL_congr (λi _=>?_) (λ_ _ _=>rfl)) (stL_none (l:=l.take n) (ss:=λ_=>.any) (st:=st))
  simp
 obtain⟨ss,_,h2,h3⟩:=dr_all hd (l.take n) 0 (λ_=>.any) rfl (by rw[h0];exact h)
 refine Aw_drawn hm ?_
 have:=drawA_go hok hA ho hgA hdA hNA hz hzs hv hfree (λi o hi=>h2 i o (Nat.zero_le _) hi) (λg=>h3 g) l.length (List.replicate l.length false).toArray none (by simp) (λi o h1 _ d _=>by
  exfalso
  rw[List.getElem?_toArray,List.getElem?_replicate]at h1
  split at h1<;>simp at h1) (by simp[List.getElem?_replicate,hnl]) (λi _ hi=>by simp[List.getElem?_replicate,hi]) (by simp[Array.count_replicate])
 have e:stL (l.take n) ss (λi=>(List.replicate l.length false).toArray.getD i false) st=st:=by
  refine Eq.trans (stL_congr (λi _=>?_) (λ_ _ _=>rfl)) stL_none
  rw[Array.getD_eq_getD_getElem?,List.getElem?_toArray,List.getElem?_replicate]
  split<;>rfl
 rw[e]at this
 exact this
theorem Aw_dA {id:Nat}{l:List Oper}{oA:Oper}{dA:Nat}{T:TypeId}{z:Value}{zs:List AV}(n:Nat) (hz:∀w,(zeroValue T).run P w=.ok z w) (h:Dr P l.toArray (λst'=>∀g,Al P N M0 w0 l.toArray Q (l.drop (n+1)) ((st'.put dA g (.box T (zs.map .d))).set dA (.bx dA g 0))) (l.take n) st) (hm:P.follows .mixedOrders=true:=by kernel_rfl) (hok:drawAB N l n dA=true:=by kernel_rfl) (hA:l[n]?=some oA:=by rfl) (ho:oA.op=.alloc T:=by rfl) (hgA:oA.guard=none:=by rfl) (hdA:oA.dst=some dA:=by rfl) (hNA:dA<N:=by decide) (hzs:z.cells.toList.map AV.v=zs:=by rfl) (hv:z.cells.toList.all (λz=>decide (vok z))=true:=by kernel_rfl) (hfree:st.ob dA=none:=by rfl):Aw P N M0 w0 (.region id l.toArray true) Q st:=Aw_drawA (n:=n) (hm:=hm) (hok:=hok) (hA:=hA) (ho:=ho) (hgA:=hgA) (hdA:=hdA) (hNA:=hNA) (hz:=hz) (hzs:=hzs) (hv:=hv) (hfree:=hfree) (h:=h)
end
end Go.Proofs.YtdnijgdmohinlaaGreat.A
end
section
namespace Go.Proofs.YtdnijgdmohinlaaGreat.A
open Go Go.RowKit
def preB (ops:Array Oper) (n k0:Nat):Bool:=(List.range ops.size).all λj=>decide (j<n)||(List.range n).all λi=>decide (i<k0)||(Ev.anc ops j (match ops[j]? with|some o=>Ev.depsOf o|none=>[])).contains i
theorem pre_ready {ops:Array Oper}{listed:Array Bool}{n k0 j:Nat}(ht:preB ops n k0=true) (h0:∀i,i<k0→listed[i]?=some true) (hc:Ev.Closed ops listed) (hj:j∈Region.ready .any ops listed) (hk:n≤j):∀i,i<n→listed[i]?=some true:=by
 obtain⟨_,o,ho,hall⟩:=mem_ready.1 hj
 have hlt:j<ops.size:=(Array.getElem?_eq_some_iff.1 ho).1
 have h1:=List.all_eq_true.1 ht j (List.mem_range.2 hlt)
 rw[ho]at h1
 simp only[Bool.or_eq_true,decide_eq_true_eq,List.all_eq_true]at h1
 intro i hi
 rcases(h1.resolve_left (by omega)) i (List.mem_range.2 hi)with h2|h2
 ·exact h0 i h2
 ·exact Ev.anc_listed hc j _ (Ev.deps_listed hall) i (by simpa using h2)
def drawPB (N:Nat) (l:List Oper) (n k0:Nat):Bool:=Ev.distinct (l.take n)&&Ev.backB l.toArray&&preB l.toArray n k0&&drB N l n&&(l.take n).all λo=>match o.dst with|some d=>decide (d<N)|none=>false
theorem back_lt {ops:Array Oper}{i d:Nat}{o:Oper}(hb:Ev.backB ops=true) (ho:ops[i]?=some o) (hd:d∈Ev.depsOf o):d<i:=by
 have hlt:i<ops.size:=(Array.getElem?_eq_some_iff.1 ho).1
 have h1:=List.all_eq_true.1 hb i (List.mem_range.2 hlt)
 rw[ho]at h1
 simp only[Array.all_eq_true_iff_forall_mem,Bool.or_eq_true,Bool.not_eq_true',decide_eq_true_eq]at h1
 obtain⟨e,he,hbi,rfl⟩:=Ev.mem_deps hd
 rcases h1 e (by simpa using he)with h|h
 ·rw[h]at hbi;cases hbi
 ·exact h
section
variable {P:Program}{N:Nat}{M0:Nat→Prop}{w0:Base}{Q:Exit→ASt→Prop}{st:ASt}
theorem drawP_go {l:List Oper}{k0 n m:Nat}{ss:Nat→SV}(hok:drawPB N l n k0=true) (hnm:l.length=n+m)
  (hst:∀i o,k0≤i→(l.take n)[i]?=some o→∃d,o.dst=some d∧St P l.toArray (stL (l.take n) ss (λx=>decide (k0≤x)&&decide (x<i)) st) o (ss i))
  (hfin:Ad P N M0 w0 l.toArray Q m (List.replicate n true++List.replicate m false).toArray (stL (l.take n) ss (λx=>decide (k0≤x)) st)) :
  ∀(fuel:Nat) (listed:Array Bool),listed.size=l.length→Ev.Closed l.toArray listed→(∀i,i<k0→listed[i]?=some true)→(∀i,n≤i→i<l.length→listed[i]?=some false)→listed.count false=fuel →
   Ad P N M0 w0 l.toArray Q fuel listed (stL (l.take n) ss (λi=>decide (k0≤i)&&listed.getD i false) st):=by
 simp only[drawPB,Bool.and_eq_true]at hok
 obtain⟨⟨⟨⟨hd,hb⟩,ht⟩,hdr⟩,hds⟩:=hok
 have hsz:l.toArray.size=l.length:=by simp
 have hget:∀(j:Nat),l.toArray[j]?=l[j]?:=λj=>by simp
 have htk:∀(j:Nat),j<n→(l.take n)[j]?=l[j]?:=λj hj=>by rw[List.getElem?_take,if_pos hj]
 have hlen:(l.take n).length=n:=by simp;omega
 have fin:∀(fuel:Nat) (listed:Array Bool),listed.size=l.length→(∀i,n≤i→i<l.length→listed[i]?=some false)→listed.count false=fuel→(∀i,i<n→listed[i]?=some true) →
   Ad P N M0 w0 l.toArray Q fuel listed (stL (l.take n) ss (λi=>decide (k0≤i)&&listed.getD i false) st):=by
  intro fuel listed hs hun hfu hall
  have e1:listed=(List.replicate n true++List.replicate m false).toArray:=by
   apply Array.ext'
   apply List.ext_getElem?
   intro i
   rw[Array.getElem?_toList]
   rcases Nat.lt_or_ge i n with h|h
   ·rw[hall i h,List.getElem?_append_left (by simpa using h),List.getElem?_replicate,if_pos h]
   ·rw[List.getElem?_append_right (by simpa using h),List.getElem?_replicate,List.length_replicate]
    rcases Nat.lt_or_ge i l.length with h2|h2
    ·rw[hun i h h2,if_pos (by omega)]
    ·rw[if_neg (by omega),Array.getElem?_eq_none (by omega)]
  have e2:fuel=m:=by rw[←hfu,e1];simp[List.count_replicate]
  have e:stL (l.take n) ss (λi=>decide (k0≤i)&&listed.getD i false) st=stL (l.take n) ss (λx=>decide (k0≤x)) st:=stL_congr (λi hi=>by
   have:=hall i (by omega)
   simp[Array.getD_eq_getD_getElem?,this]) (λ_ _ _=>rfl)
  rw[e,e2,e1]
  exact hfin
 intro fuel
 induction fuel with
 | zero =>
  intro listed hs hcl hk0 hun hn
  refine fin 0 listed hs hun hn λi hi=>?_
  cases hl:listed[i]? with
  | none=>rw[Array.getElem?_eq_none_iff]at hl;omega
  | some b =>
   cases b with
   | true=>rfl
   | false =>
    have:false∈listed:=Array.mem_of_getElem? hl
    have:=Array.count_pos_iff.2 this
    omega
 | succ fuel ih =>
  intro listed hs hcl hk0 hun hn
  by_cases hall:∀(i:Nat),i<n→listed[i]?=some true
  ·exact fin (fuel+1) listed hs hun hn hall
  refine⟨λa w hsim=>⟨λh0=>?_,λj hj=>?_⟩⟩
  ·exfalso
   apply hall
   intro i
   induction i using Nat.strongRecOn with
   | _ i ih' =>
    intro hi
    cases hl:listed[i]? with
    | none=>rw[Array.getElem?_eq_none_iff]at hl;omega
    | some b =>
     cases b with
     | true=>rfl
     | false =>
      have:=Ev.ready_of_least hb (by simpa using hs) (by simp;omega) hl (λk hk=>ih' k hk (by omega))
      rw[h0]at this
      cases this
  obtain⟨hju,o,hoj,hdone⟩:=mem_ready.1 hj
  have hjo:j<l.length:=by
   have:=(Array.getElem?_eq_some_iff.1 hoj).1
   simpa using this
  have hlt:j<listed.size:=by omega
  have hjl:listed[j]?=some false:=by simp[Array.getD,hlt]at hju;simp[hlt,hju]
  have hjn':j<n:=by
   rcases Nat.lt_or_ge j n with h|h
   ·exact h
   ·exact(hall (pre_ready ht hk0 hcl hj h)).elim
  have hoj':l[j]?=some o:=by rw[←hget];exact hoj
  have hdl:∀d∈Ev.depsOf o,listed[d]?=some true:=Ev.deps_listed hdone
  have hold:∀(i:Nat),i≠j→(listed.setIfInBounds j true)[i]?=listed[i]?:=λi hij=>by
   rw[Array.getElem?_setIfInBounds,if_neg (Ne.symm hij)]
  have hcl':Ev.Closed l.toArray (listed.setIfInBounds j true):=λi o' hi ho' d hd'=>by
   have keep:∀(y:Nat),listed[y]?=some true→(listed.setIfInBounds j true)[y]?=some true:=λy hy=>by
    by_cases e:y=j
    ·subst e;simp[hlt]
    ·rw[hold y e];exact hy
   by_cases hij:i=j
   ·subst hij
    rw[hoj]at ho'
    cases ho'
    exact keep d (hdl d hd')
   ·rw[hold i hij]at hi
    exact keep d (hcl i o' hi ho' d hd')
  have hcnt:(listed.setIfInBounds j true).count false=fuel:=by
   have:=Array.count_set (xs:=listed) (i:=j) (a:=true) (b:=false) hlt
   rw[Array.setIfInBounds,dif_pos hlt]
   have h3:listed[j]=false:=by simpa [hlt]using hjl
   have h4:0<listed.count false:=Array.count_pos_iff.2 (Array.mem_iff_getElem.2 ⟨j,hlt,h3⟩)
   rw[this]
   simp[h3]
   omega
  have hLL:∀i,(listed.setIfInBounds j true).getD i false=(listed.getD i false||decide (i=j)):=λi=>by
   by_cases e:i=j
   ·subst e;simp[Array.getD_eq_getD_getElem?,hlt]
   ·simp[Array.getD_eq_getD_getElem?,hold i e,e]
  have hun':∀i,n≤i→i<l.length→(listed.setIfInBounds j true)[i]?=some false:=λi h1 h2=>by
   rw[hold i (by omega)];exact hun i h1 h2
  have hkj:k0≤j:=by
   rcases Nat.lt_or_ge j k0 with h|h
   ·have:=hk0 j h
    rw[hjl]at this;simp at this
   ·exact h
  have hk0':∀i,i<k0→(listed.setIfInBounds j true)[i]?=some true:=λi hi=>by rw[hold i (by omega)];exact hk0 i hi
  have hjt:(l.take n)[j]?=some o:=by rw[htk j hjn'];exact hoj'
  obtain⟨d,hdo,hS⟩:=hst j o hkj hjt
  have hmem:o∈l.take n:=List.mem_of_getElem? hjt
  have hdN:=List.all_eq_true.1 hds o hmem
  rw[hdo]at hdN
  simp only[decide_eq_true_eq]at hdN
  have hdrj:=List.all_eq_true.1 hdr j (List.mem_range.2 hjn')
  rw[hoj']at hdrj
  simp only[Bool.and_eq_true]at hdrj
  obtain⟨⟨hops,hgd⟩,hconst⟩:=hdrj
  have hsl:∀t,opB (l.take n) j o t=true→(stL (l.take n) ss (λi=>decide (k0≤i)&&listed.getD i false) st).sl t=(stL (l.take n) ss (λx=>decide (k0≤x)&&decide (x<j)) st).sl t:=by
   intro t hop
   by_cases hin:inB (l.take n) t=true
   ·simp only[opB,hin,Bool.not_true,Bool.false_or,List.any_eq_true,List.mem_range,Bool.and_eq_true,beq_iff_eq]at hop
    obtain⟨i,hi,hid,hic⟩:=hop
    obtain⟨oi,hoi,hoid⟩:=Option.bind_eq_some_iff.1 hid
    have hli:=hdl i (by simpa using hic)
    rcases Nat.lt_or_ge i k0 with hik|hik
    ·have hex:∀(L:Nat→Bool),L i=false→(stL (l.take n) ss L st).sl t=st.sl t:=λL hL=>stL_out λi' o' h1 h2=>by
      rcases Nat.lt_trichotomy i' i with h|h|h
      ·exact(dist_ne hd h1 hoi h h2 hoid).elim
      ·subst h;exact hL
      ·exact(dist_ne hd hoi h1 h hoid h2).elim
     rw[hex _ (by simp[show¬k0≤i from by omega]),hex _ (by simp[show¬k0≤i from by omega])]
    ·rw[stL_at hd hoi hoid (by simp[Array.getD_eq_getD_getElem?,hli,hik]),stL_at hd hoi hoid (by simp[hik];exact hi)]
   ·have hout:∀(i:Nat) (o':Oper),(l.take n)[i]?=some o'→o'.dst≠some t:=λi o' h1 h2=>hin (by
     simp only[inB,List.any_eq_true,beq_iff_eq]
     exact⟨o',List.mem_of_getElem? h1,h2⟩)
    rw[stL_out λi o' h1 h2=>absurd h2 (hout i o' h1),stL_out λi o' h1 h2=>absurd h2 (hout i o' h1)]
  have hS2:St P l.toArray (stL (l.take n) ss (λi=>decide (k0≤i)&&listed.getD i false) st) o (ss j):=by
   refine St_frame hS (λx hx=>?_) (λj' b oj dj h1 h2 h3=>?_) (λk g ob h=>h)
   ·cases x with
    | tmp t=>exact hsl t (List.all_eq_true.1 hops _ hx)
    | _=>rfl
   ·rw[hget]at h2
    rw[h1]at hgd
    simp only[h2,h3,Bool.and_eq_true,decide_eq_true_eq]at hgd
    exact hsl dj hgd.1
  refine wpOp_of_list hoj ((Al_st (l:=[]) (Q:=Then (Ad P N M0 w0 l.toArray Q fuel (listed.setIfInBounds j true)) Q) hS2 hdo hdN hconst (λj' b oj dj h1 h2 h3=>?_) (Al_nil ?_)).out a w hsim) (λa' w' ⟨st',h1,h2⟩=>h1.out a' w' h2) (λc a' w' h=>h) (λ⟨a',w',h⟩=>⟨a',w',h⟩)
  ·rw[hget]at h2
   rw[h1]at hgd
   simp only[h2,h3,Bool.and_eq_true,decide_eq_true_eq]at hgd
   exact hgd.2
  ·have:=ih (listed.setIfInBounds j true) (by simpa using hs) hcl' hk0' hun' hcnt
   have e2:(stL (l.take n) ss (λi=>decide (k0≤i)&&listed.getD i false) st).set d (ss j)=stL (l.take n) ss (λi=>decide (k0≤i)&&(listed.setIfInBounds j true).getD i false) st:=stL_set hd hjt hdo (λi=>by rw[hLL];by_cases e:i=j<;>simp[e,hkj])
   show Ad P N M0 w0 l.toArray Q fuel (listed.setIfInBounds j true) _
   rw[e2]
   exact this
theorem Ad_drawP {l:List Oper}{listed:Array Bool}{fuel:Nat}(k0 n m:Nat) (hok:drawPB N l n k0=true) (hk:k0≤n) (hnm:l.length=n+m) (hl:listed=(List.replicate k0 true++List.replicate (n - k0+m) false).toArray) (hf:fuel=n - k0+m)
  (h:Dr P l.toArray (λst'=>Ad P N M0 w0 l.toArray Q m (List.replicate n true++List.replicate m false).toArray st') ((l.take n).drop k0) st):Ad P N M0 w0 l.toArray Q fuel listed st:=by
 have hok':=hok
 simp only[drawPB,Bool.and_eq_true]at hok'
 obtain⟨⟨⟨⟨hd,hb⟩,_⟩,_⟩,_⟩:=hok'
 subst hl hf
 obtain⟨ss,h2,h3⟩:∃ss:Nat→SV,(∀i o,k0≤i→(l.take n)[i]?=some o→∃d,o.dst=some d∧St P l.toArray (stL (l.take n) ss (λx=>decide (k0≤x)&&decide (x<i)) st) o (ss i))∧Ad P N M0 w0 l.toArray Q m (List.replicate n true++List.replicate m false).toArray (stL (l.take n) ss (λx=>decide (k0≤x)) st):=by
  have gen:∀(r:List Oper) (j:Nat) (ss0:Nat→SV),k0≤j→(l.take n).drop j=r→Dr P l.toArray (λst'=>Ad P N M0 w0 l.toArray Q m (List.replicate n true++List.replicate m false).toArray st') r (stL (l.take n) ss0 (λx=>decide (k0≤x)&&decide (x<j)) st) →
    ∃ss:Nat→SV,(∀i,i<j→ss i=ss0 i)∧(∀i o,j≤i→(l.take n)[i]?=some o→∃d,o.dst=some d∧St P l.toArray (stL (l.take n) ss (λx=>decide (k0≤x)&&decide (x<i)) st) o (ss i))∧Ad P N M0 w0 l.toArray Q m (List.replicate n true++List.replicate m false).toArray (stL (l.take n) ss (λx=>decide (k0≤x)) st):=by
   intro r
   induction r with
   | nil =>
    intro j ss0 hj hr hD
    have hlj:(l.take n).length≤j:=by
     have:=congrArg List.length hr
     simp only[List.length_drop,List.length_nil]at this
     omega
    refine⟨ss0,λ_ _=>rfl,λi o hi ho=>?_,?_⟩
    ·have:=(List.getElem?_eq_some_iff.1 ho).1
     omega
    ·have e:stL (l.take n) ss0 (λx=>decide (k0≤x)&&decide (x<j)) st=stL (l.take n) ss0 (λx=>decide (k0≤x)) st:=stL_congr (λi hi=>by simp[show i<j from by omega]) (λ_ _ _=>rfl)
     rw[←e]
     exact hD
   | cons o r ih =>
    intro j ss0 hj hr hD
    obtain⟨d,s,hdo,hS,hD2⟩:=hD
    have hlt:j<(l.take n).length:=by
     have:=congrArg List.length hr
     simp only[List.length_drop,List.length_cons]at this
     omega
    have hoj:(l.take n)[j]?=some o:=by
     have:=congrArg (·[0]?) hr
     simpa [List.getElem?_drop]using this
    have hr2:(l.take n).drop (j+1)=r:=by
     have:=congrArg (List.drop 1) hr
     simpa [List.drop_drop,Nat.add_comm]using this
    let ss1:Nat→SV:=λi=>if i=j then s else ss0 i
    have e1:(stL (l.take n) ss0 (λx=>decide (k0≤x)&&decide (x<j)) st)=stL (l.take n) ss1 (λx=>decide (k0≤x)&&decide (x<j)) st:=stL_congr (λ_ _=>rfl) (λi _ hi=>by
     simp only[Bool.and_eq_true,decide_eq_true_eq]at hi
     show ss0 i=if i=j then s else ss0 i
     rw[if_neg (by omega)])
    have e2:(stL (l.take n) ss1 (λx=>decide (k0≤x)&&decide (x<j)) st).set d s=stL (l.take n) ss1 (λx=>decide (k0≤x)&&decide (x<j+1)) st:=by
     have hs1:ss1 j=s:=if_pos rfl
     have:=stL_set (st:=st) (ss:=ss1) (L:=λx=>decide (k0≤x)&&decide (x<j)) (L':=λx=>decide (k0≤x)&&decide (x<j+1)) hd hoj hdo (λi=>by
      by_cases e:i=j
      ·subst e;simp[hj]
      ·have:(i<j+1)↔i<j:=by omega
       simp[e,this])
     rw[hs1]at this
     exact this
    rw[e1,e2]at hD2
    obtain⟨ss,g1,g2,g3⟩:=ih (j+1) ss1 (by omega) hr2 hD2
    refine⟨ss,λi hi=>?_,λi o' hi ho'=>?_,g3⟩
    ·rw[g1 i (by omega)]
     show(if i=j then s else ss0 i)=_
     rw[if_neg (by omega)]
    ·rcases Nat.lt_or_ge j i with h|h
     ·exact g2 i o' h ho'
     ·obtain rfl:i=j:=by omega
      rw[hoj]at ho';cases ho'
      refine⟨d,hdo,?_⟩
      have e3:stL (l.take n) ss (λx=>decide (k0≤x)&&decide (x<i)) st=stL (l.take n) ss0 (λx=>decide (k0≤x)&&decide (x<i)) st:=stL_congr (λ_ _=>rfl) (λy _ hy=>by
       simp only[Bool.and_eq_true,decide_eq_true_eq]at hy
       rw[g1 y (by omega)]
       show(if y=i then s else ss0 y)=_
       rw[if_neg (by omega)])
      rw[e3,g1 i (by omega),show ss1 i=s from if_pos rfl]
      exact hS
  have e0:stL (l.take n) (λ_=>.any) (λx=>decide (k0≤x)&&decide (x<k0)) st=st:=by
   refine Eq.trans (stL_congr (λi _=>?_) (λ_ _ _=>rfl)) (stL_none (l:=l.take n) (ss:=λ_=>.any) (st:=st))
   simp only[Bool.and_eq_false_iff,decide_eq_false_iff_not];omega
  obtain⟨ss,_,g2,g3⟩:=gen ((l.take n).drop k0) k0 (λ_=>.any) (Nat.le_refl _) rfl (by rw[e0];exact h)
  exact⟨ss,g2,g3⟩
 have:=drawP_go (k0:=k0) hok hnm h2 h3 (n - k0+m) (List.replicate k0 true++List.replicate (n - k0+m) false).toArray (by simp;omega) (λi o h1 ho d hd'=>?_) (λi hi=>by rw[List.getElem?_toArray,List.getElem?_append_left (by simpa using hi),List.getElem?_replicate,if_pos hi]) (λi h1 h2=>by rw[List.getElem?_toArray,List.getElem?_append_right (by simp;omega),List.getElem?_replicate,if_pos (by simp;omega)]) (by simp[List.count_replicate])
 ·have e:stL (l.take n) ss (λi=>decide (k0≤i)&&(List.replicate k0 true++List.replicate (n - k0+m) false).toArray.getD i false) st=st:=by
   refine Eq.trans (stL_congr (λi _=>?_) (λ_ _ _=>rfl)) stL_none
   rw[Array.getD_eq_getD_getElem?,List.getElem?_toArray]
   rcases Nat.lt_or_ge i k0 with h|h
   ·simp[show¬k0≤i from by omega]
   ·rw[List.getElem?_append_right (by simpa using h),List.getElem?_replicate]
    split<;>simp
  rw[e]at this
  exact this
 ·have hi:i<k0:=by
   rcases Nat.lt_or_ge i k0 with h|h
   ·exact h
   ·rw[List.getElem?_toArray,List.getElem?_append_right (by simpa using h),List.getElem?_replicate]at h1
    split at h1<;>simp at h1
  have hdi:d<i:=back_lt hb ho hd'
  rw[List.getElem?_toArray,List.getElem?_append_left (by simp;omega),List.getElem?_replicate,if_pos (by omega)]
theorem Aw_drawP {id:Nat}{l:List Oper}(n m:Nat) (hm:P.follows .mixedOrders=true) (hok:drawPB N l n 0=true) (hnm:l.length=n+m)
  (h:Dr P l.toArray (λst'=>Ad P N M0 w0 l.toArray Q m (List.replicate n true++List.replicate m false).toArray st') (l.take n) st):Aw P N M0 w0 (.region id l.toArray true) Q st:=by
 refine Aw_drawn hm ?_
 exact Ad_drawP 0 n m hok (Nat.zero_le _) hnm (by rw[hnm];simp) (by omega) (by rw[List.drop_zero];exact h)
def preAB (ops:Array Oper) (n nA:Nat):Bool:=(List.range ops.size).all λj=>decide (j<n)||(Nat.beq j nA||(List.range n).all λi=>(Ev.anc ops j (match ops[j]? with|some o=>Ev.depsOf o|none=>[])).contains i)
theorem preA_ready {ops:Array Oper}{listed:Array Bool}{n nA j:Nat}(ht:preAB ops n nA=true) (hc:Ev.Closed ops listed) (hj:j∈Region.ready .any ops listed) (hk:n≤j) (hA:j≠nA):∀i,i<n→listed[i]?=some true:=by
 obtain⟨_,o,ho,hall⟩:=mem_ready.1 hj
 have hlt:j<ops.size:=(Array.getElem?_eq_some_iff.1 ho).1
 have h1:=List.all_eq_true.1 ht j (List.mem_range.2 hlt)
 rw[ho]at h1
 simp only[Bool.or_eq_true,decide_eq_true_eq,List.all_eq_true]at h1
 intro i hi
 rcases h1 with h1|h1|h1
 ·omega
 ·exact(hA (Nat.eq_of_beq_eq_true h1)).elim
 ·have h2:=h1 i (List.mem_range.2 hi)
  exact Ev.anc_listed hc j _ (Ev.deps_listed hall) i (by simpa using h2)
def drawPAB (N:Nat) (l:List Oper) (n nA dA:Nat):Bool:=Ev.distinct (l.take n)&&Ev.backB l.toArray&&preAB l.toArray n nA&&drB N l n&&((l.take n).all λo=>match o.dst with|some d=>decide (d<N)&&!Nat.beq d dA|none=>false)&&(l.take n).all λo=>((opsOf o).all fun|.tmp t=>!Nat.beq t dA|_=>true)&&match o.guard with|some (j,_)=>(match l[j]? with|some oj=>(match oj.dst with|some dj=>!Nat.beq dj dA|none=>true)|none=>true)|none=>true
theorem drawPA_go {l:List Oper}{n nA m dA:Nat}{oA:Oper}{T:TypeId}{z:Value}{zs:List AV}{ss:Nat→SV}(hok:drawPAB N l n nA dA=true) (hnm:l.length=n+(m+1)) (hnA:n≤nA) (hA:l[nA]?=some oA) (ho:oA.op=.alloc T) (hgA:oA.guard=none) (hdA:oA.dst=some dA) (hNA:dA<N) (hz:∀w,(zeroValue T).run P w=.ok z w) (hzs:z.cells.toList.map AV.v=zs) (hv:z.cells.toList.all (λz=>decide (vok z))=true) (hfree:st.ob dA=none)
  (hst:∀i o,(l.take n)[i]?=some o→∃d,o.dst=some d∧St P l.toArray (stL (l.take n) ss (λx=>decide (x<i)) st) o (ss i))
  (hfin1:Ad P N M0 w0 l.toArray Q (m+1) (List.replicate n true++List.replicate (m+1) false).toArray (stL (l.take n) ss (λ_=>true) st))
  (hfin2:∀g,Ad P N M0 w0 l.toArray Q m ((List.replicate n true++List.replicate (m+1) false).toArray.setIfInBounds nA true) (alcS dA g (.box T (zs.map .d)) (stL (l.take n) ss (λ_=>true) st))) :
  ∀(fuel:Nat) (listed:Array Bool) (og:Option Nat),listed.size=l.length→Ev.Closed l.toArray listed→listed[nA]?=some og.isSome→(∀i,n≤i→i≠nA→i<l.length→listed[i]?=some false)→listed.count false=fuel →
   Ad P N M0 w0 l.toArray Q fuel listed (alcO dA (.box T (zs.map .d)) og (stL (l.take n) ss (λi=>listed.getD i false) st)):=by
 simp only[drawPAB,Bool.and_eq_true]at hok
 obtain⟨⟨⟨⟨⟨hd,hb⟩,ht⟩,hdr⟩,hds⟩,hdA2⟩:=hok
 have hnl:nA<l.length:=(List.getElem?_eq_some_iff.1 hA).1
 have hsz:l.toArray.size=l.length:=by simp
 have hget:∀(j:Nat),l.toArray[j]?=l[j]?:=λj=>by simp
 have htk:∀(j:Nat),j<n→(l.take n)[j]?=l[j]?:=λj hj=>by rw[List.getElem?_take,if_pos hj]
 have hlen:(l.take n).length=n:=by simp;omega
 have fin:∀(fuel:Nat) (listed:Array Bool) (og:Option Nat),listed.size=l.length→listed[nA]?=some og.isSome→(∀i,n≤i→i≠nA→i<l.length→listed[i]?=some false)→listed.count false=fuel→(∀i,i<n→listed[i]?=some true) →
   Ad P N M0 w0 l.toArray Q fuel listed (alcO dA (.box T (zs.map .d)) og (stL (l.take n) ss (λi=>listed.getD i false) st)):=by
  intro fuel listed og hs hog hun hfu hall
  have e:stL (l.take n) ss (λi=>listed.getD i false) st=stL (l.take n) ss (λ_=>true) st:=stL_congr (λi hi=>by
   have:=hall i (by omega)
   simp[Array.getD_eq_getD_getElem?,this]) (λ_ _ _=>rfl)
  have e1:listed=if og.isSome then(List.replicate n true++List.replicate (m+1) false).toArray.setIfInBounds nA true else(List.replicate n true++List.replicate (m+1) false).toArray:=by
   apply Array.ext'
   apply List.ext_getElem?
   intro i
   rw[Array.getElem?_toList,Array.getElem?_toList]
   have base:∀i,i≠nA→listed[i]?=(List.replicate n true++List.replicate (m+1) false).toArray[i]?:=λi hi=>by
    rw[List.getElem?_toArray (xs:=List.replicate n true++List.replicate (m+1) false)]
    rcases Nat.lt_or_ge i n with h|h
    ·rw[hall i h,List.getElem?_append_left (by simpa using h),List.getElem?_replicate,if_pos h]
    ·rw[List.getElem?_append_right (by simpa using h),List.getElem?_replicate,List.length_replicate]
     rcases Nat.lt_or_ge i l.length with h2|h2
     ·rw[hun i h hi h2,if_pos (by omega)]
     ·rw[if_neg (by omega),Array.getElem?_eq_none (by omega)]
   by_cases hi:i=nA
   ·subst hi
    rw[hog]
    cases og with
    | none =>
     simp only[Option.isSome_none,Bool.false_eq_true,if_false]
     rw[List.getElem?_toArray,List.getElem?_append_right (by simpa using hnA),List.getElem?_replicate,if_pos (by simp;omega)]
    | some g =>
     simp only[Option.isSome_some,if_true]
     rw[Array.getElem?_setIfInBounds_self_of_lt (by simp;omega)]
   ·rw[base i hi]
    split
    ·rw[Array.getElem?_setIfInBounds_ne (Ne.symm hi)]
    ·rfl
  rw[e]
  cases og with
  | none =>
   simp only[Option.isSome_none,Bool.false_eq_true,if_false]at e1
   have e2:fuel=m+1:=by rw[←hfu,e1];simp[List.count_replicate]
   rw[e2,e1]
   exact hfin1
  | some g =>
   simp only[Option.isSome_some,if_true]at e1
   have e2:fuel=m:=by
    have h3:nA<(List.replicate n true++List.replicate (m+1) false).toArray.size:=by simp;omega
    have h4:(List.replicate n true++List.replicate (m+1) false).toArray[nA]=false:=by
     have:(List.replicate n true++List.replicate (m+1) false).toArray[nA]?=some false:=by
      rw[List.getElem?_toArray,List.getElem?_append_right (by simpa using hnA),List.getElem?_replicate,if_pos (by simp;omega)]
     exact(Array.getElem?_eq_some_iff.1 this).2
    have h5:=Array.count_set (xs:=(List.replicate n true++List.replicate (m+1) false).toArray) (i:=nA) (a:=true) (b:=false) h3
    rw[←hfu,e1,Array.setIfInBounds,dif_pos h3,h5,h4]
    simp[List.count_replicate]
   rw[e2,e1]
   exact hfin2 g
 intro fuel
 induction fuel with
 | zero =>
  intro listed og hs hcl hog hun hn
  refine fin 0 listed og hs hog hun hn λi hi=>?_
  cases hl:listed[i]? with
  | none=>rw[Array.getElem?_eq_none_iff]at hl;omega
  | some b =>
   cases b with
   | true=>rfl
   | false =>
    have:false∈listed:=Array.mem_of_getElem? hl
    have:=Array.count_pos_iff.2 this
    omega
 | succ fuel ih =>
  intro listed og hs hcl hog hun hn
  by_cases hall:∀(i:Nat),i<n→listed[i]?=some true
  ·exact fin (fuel+1) listed og hs hog hun hn hall
  refine⟨λa w hsim=>⟨λh0=>?_,λj hj=>?_⟩⟩
  ·exfalso
   apply hall
   intro i
   induction i using Nat.strongRecOn with
   | _ i ih' =>
    intro hi
    cases hl:listed[i]? with
    | none=>rw[Array.getElem?_eq_none_iff]at hl;omega
    | some b =>
     cases b with
     | true=>rfl
     | false =>
      have:=Ev.ready_of_least hb (by simpa using hs) (by simp;omega) hl (λk hk=>ih' k hk (by omega))
      rw[h0]at this
      cases this
  obtain⟨hju,o,hoj,hdone⟩:=mem_ready.1 hj
  have hjo:j<l.length:=by
   have:=(Array.getElem?_eq_some_iff.1 hoj).1
   simpa using this
  have hlt:j<listed.size:=by omega
  have hjl:listed[j]?=some false:=by simp[Array.getD,hlt]at hju;simp[hlt,hju]
  have hoj':l[j]?=some o:=by rw[←hget];exact hoj
  have hdl:∀d∈Ev.depsOf o,listed[d]?=some true:=Ev.deps_listed hdone
  have hold:∀(i:Nat),i≠j→(listed.setIfInBounds j true)[i]?=listed[i]?:=λi hij=>by
   rw[Array.getElem?_setIfInBounds,if_neg (Ne.symm hij)]
  have hcl':Ev.Closed l.toArray (listed.setIfInBounds j true):=λi o' hi ho' d hd'=>by
   have keep:∀(y:Nat),listed[y]?=some true→(listed.setIfInBounds j true)[y]?=some true:=λy hy=>by
    by_cases e:y=j
    ·subst e;simp[hlt]
    ·rw[hold y e];exact hy
   by_cases hij:i=j
   ·subst hij
    rw[hoj]at ho'
    cases ho'
    exact keep d (hdl d hd')
   ·rw[hold i hij]at hi
    exact keep d (hcl i o' hi ho' d hd')
  have hcnt:(listed.setIfInBounds j true).count false=fuel:=by
   have:=Array.count_set (xs:=listed) (i:=j) (a:=true) (b:=false) hlt
   rw[Array.setIfInBounds,dif_pos hlt]
   have h3:listed[j]=false:=by simpa [hlt]using hjl
   have h4:0<listed.count false:=Array.count_pos_iff.2 (Array.mem_iff_getElem.2 ⟨j,hlt,h3⟩)
   rw[this]
   simp[h3]
   omega
  have hLL:∀i,(listed.setIfInBounds j true).getD i false=(listed.getD i false||decide (i=j)):=λi=>by
   by_cases e:i=j
   ·subst e;simp[Array.getD_eq_getD_getElem?,hlt]
   ·simp[Array.getD_eq_getD_getElem?,hold i e,e]
  by_cases hjn:j=nA
  ·subst hjn
   rw[hA]at hoj';cases hoj'
   have hog':og=none:=by
    rw[hjl]at hog
    cases og with
    | none=>rfl
    | some g=>simp at hog
   subst hog'
   refine wpOp_of_list hoj ((Al_alloc (l:=[]) (Q:=Then (Ad P N M0 w0 l.toArray Q fuel (listed.setIfInBounds j true)) Q) ho hgA hdA hNA hz hzs hv (λg=>Al_nil ?_)).out a w hsim) (λa' w' ⟨st',h1,h2⟩=>h1.out a' w' h2) (λc a' w' h=>h) (λ⟨a',w',h⟩=>⟨a',w',h⟩)
   have hun':∀i,n≤i→i≠j→i<l.length→(listed.setIfInBounds j true)[i]?=some false:=λi h1 h2 h3=>by
    rw[hold i h2];exact hun i h1 h2 h3
   have:=ih (listed.setIfInBounds j true) (some g) (by simpa using hs) hcl' (by simp[hlt]) hun' hcnt
   have e:stL (l.take n) ss (λi=>(listed.setIfInBounds j true).getD i false) st=stL (l.take n) ss (λi=>listed.getD i false) st:=stL_congr (λi hi=>by
    rw[hLL i]
    simp at hi
    simp[show i≠j by omega]) (λ_ _ _=>rfl)
   rw[e]at this
   exact this
  ·have hjn':j<n:=by
    rcases Nat.lt_or_ge j n with h|h
    ·exact h
    ·exact(hall (preA_ready ht hcl hj h hjn)).elim
   have hun':∀i,n≤i→i≠nA→i<l.length→(listed.setIfInBounds j true)[i]?=some false:=λi h1 h2 h3=>by
    rw[hold i (by omega)];exact hun i h1 h2 h3
   have hjt:(l.take n)[j]?=some o:=by rw[htk j hjn'];exact hoj'
   obtain⟨d,hdo,hS⟩:=hst j o hjt
   have hmem:o∈l.take n:=List.mem_of_getElem? hjt
   have hdN:=List.all_eq_true.1 hds o hmem
   rw[hdo]at hdN
   simp only[Bool.and_eq_true,decide_eq_true_eq,Bool.not_eq_true']at hdN
   have hddA:d≠dA:=λe=>by rw[e]at hdN;simp at hdN
   have hno:=List.all_eq_true.1 hdA2 o hmem
   simp only[Bool.and_eq_true]at hno
   have hdrj:=List.all_eq_true.1 hdr j (List.mem_range.2 hjn')
   rw[hoj']at hdrj
   simp only[Bool.and_eq_true]at hdrj
   obtain⟨⟨hops,hgd⟩,hconst⟩:=hdrj
   have hsl:∀t,opB (l.take n) j o t=true→t≠dA→(alcO dA (.box T (zs.map .d)) og (stL (l.take n) ss (λi=>listed.getD i false) st)).sl t=(stL (l.take n) ss (λx=>decide (x<j)) st).sl t:=by
    intro t hop hne
    have e1:(alcO dA (.box T (zs.map .d)) og (stL (l.take n) ss (λi=>listed.getD i false) st)).sl t=(stL (l.take n) ss (λi=>listed.getD i false) st).sl t:=by
     cases og with
     | none=>rfl
     | some g =>
      show(bif Nat.beq t dA then _ else _)=_
      have:Nat.beq t dA=false:=by
       cases hb:Nat.beq t dA with
       | false=>rfl
       | true=>exact absurd (Nat.eq_of_beq_eq_true hb) hne
      rw[this];rfl
    rw[e1]
    by_cases hin:inB (l.take n) t=true
    ·simp only[opB,hin,Bool.not_true,Bool.false_or,List.any_eq_true,List.mem_range,Bool.and_eq_true,beq_iff_eq]at hop
     obtain⟨i,hi,hid,hic⟩:=hop
     obtain⟨oi,hoi,hoid⟩:=Option.bind_eq_some_iff.1 hid
     have hli:=hdl i (by simpa using hic)
     rw[stL_at hd hoi hoid (by simp[Array.getD_eq_getD_getElem?,hli]),stL_at hd hoi hoid (by simpa using hi)]
    ·have hout:∀(i:Nat) (o':Oper),(l.take n)[i]?=some o'→o'.dst≠some t:=λi o' h1 h2=>hin (by
      simp only[inB,List.any_eq_true,beq_iff_eq]
      exact⟨o',List.mem_of_getElem? h1,h2⟩)
     rw[stL_out λi o' h1 h2=>absurd h2 (hout i o' h1),stL_out λi o' h1 h2=>absurd h2 (hout i o' h1)]
   have hS2:St P l.toArray (alcO dA (.box T (zs.map .d)) og (stL (l.take n) ss (λi=>listed.getD i false) st)) o (ss j):=by
    refine St_frame hS (λx hx=>?_) (λj' b oj dj h1 h2 h3=>?_) (λk g ob h=>?_)
    ·cases x with
     | tmp t =>
      have h1:=List.all_eq_true.1 hops _ hx
      have h2:=List.all_eq_true.1 hno.1 _ hx
      exact hsl t h1 (λe=>by rw[e]at h2;simp at h2)
     | _=>rfl
    ·rw[hget]at h2
     rw[h1]at hgd
     simp only[h2,h3,Bool.and_eq_true,decide_eq_true_eq]at hgd
     have h4:=hno.2
     rw[h1]at h4
     simp only[h2,h3,Bool.not_eq_true']at h4
     exact hsl dj hgd.1 (λe=>by rw[e]at h4;simp at h4)
    ·cases og with
     | none=>exact h
     | some g' =>
      show(bif Nat.beq k dA then _ else st.ob k)=_
      have h':st.ob k=some (g,ob):=h
      have:Nat.beq k dA=false:=by
       cases hb:Nat.beq k dA with
       | false=>rfl
       | true =>
        have:=Nat.eq_of_beq_eq_true hb
        subst this
        rw[hfree]at h';cases h'
      rw[this];exact h'
   refine wpOp_of_list hoj ((Al_st (l:=[]) (Q:=Then (Ad P N M0 w0 l.toArray Q fuel (listed.setIfInBounds j true)) Q) hS2 hdo hdN.1 hconst (λj' b oj dj h1 h2 h3=>?_) (Al_nil ?_)).out a w hsim) (λa' w' ⟨st',h1,h2⟩=>h1.out a' w' h2) (λc a' w' h=>h) (λ⟨a',w',h⟩=>⟨a',w',h⟩)
   ·rw[hget]at h2
    rw[h1]at hgd
    simp only[h2,h3,Bool.and_eq_true,decide_eq_true_eq]at hgd
    exact hgd.2
   ·have:=ih (listed.setIfInBounds j true) og (by simpa using hs) hcl' (by rw[hold nA (Ne.symm hjn)];exact hog) hun' hcnt
    have e:(alcO dA (.box T (zs.map .d)) og (stL (l.take n) ss (λi=>listed.getD i false) st)).set d (ss j)=alcO dA (.box T (zs.map .d)) og (stL (l.take n) ss (λi=>(listed.setIfInBounds j true).getD i false) st):=by
     have e2:(stL (l.take n) ss (λi=>listed.getD i false) st).set d (ss j)=stL (l.take n) ss (λi=>(listed.setIfInBounds j true).getD i false) st:=stL_set hd hjt hdo hLL
     cases og with
     | none=>exact e2
     | some g=>show(alcS _ _ _ _).set d (ss j)=alcS _ _ _ _;rw[alcS_set hddA,e2]
    show Ad P N M0 w0 l.toArray Q fuel (listed.setIfInBounds j true) _
    rw[e]
    exact this
theorem Aw_drawPA {id:Nat}{l:List Oper}(n nA m:Nat) {oA:Oper}{dA:Nat}{T:TypeId}{z:Value}{zs:List AV}(hm:P.follows .mixedOrders=true) (hok:drawPAB N l n nA dA=true) (hnm:l.length=n+(m+1)) (hnA:n≤nA) (hA:l[nA]?=some oA) (ho:oA.op=.alloc T) (hgA:oA.guard=none) (hdA:oA.dst=some dA) (hNA:dA<N) (hz:∀w,(zeroValue T).run P w=.ok z w) (hzs:z.cells.toList.map AV.v=zs) (hv:z.cells.toList.all (λz=>decide (vok z))=true) (hfree:st.ob dA=none)
  (h:Dr P l.toArray (λst'=>Ad P N M0 w0 l.toArray Q (m+1) (List.replicate n true++List.replicate (m+1) false).toArray st'∧∀g,Ad P N M0 w0 l.toArray Q m ((List.replicate n true++List.replicate (m+1) false).toArray.setIfInBounds nA true) ((st'.put dA g (.box T (zs.map .d))).set dA (.bx dA g 0))) (l.take n) st):Aw P N M0 w0 (.region id l.toArray true) Q st:=by
 have hd:Ev.distinct (l.take n)=true:=by
  simp only[drawPAB,Bool.and_eq_true]at hok
  exact hok.1.1.1.1.1
 have hnl:nA<l.length:=(List.getElem?_eq_some_iff.1 hA).1
 have h0:stL (l.take n) (λ_=>.any) (λi=>decide (i<0)) st=st:=by
  refine Eq.trans (stL_congr (λi _=>?_) (λ_ _ _=>rfl)) (stL_none (l:=l.take n) (ss:=λ_=>.any) (st:=st))
  simp
 obtain⟨ss,_,h2,h3,h4⟩:=dr_all hd (l.take n) 0 (λ_=>.any) rfl (by rw[h0];exact h)
 refine Aw_drawn hm ?_
 have:=drawPA_go hok hnm hnA hA ho hgA hdA hNA hz hzs hv hfree (λi o hi=>h2 i o (Nat.zero_le _) hi) h3 (λg=>h4 g) l.length (List.replicate l.length false).toArray none (by simp) (λi o h1 _ d _=>by
  exfalso
  rw[List.getElem?_toArray,List.getElem?_replicate]at h1
  split at h1<;>simp at h1) (by simp[List.getElem?_replicate,hnl]) (λi _ _ hi=>by simp[List.getElem?_replicate,hi]) (by simp[Array.count_replicate])
 have e:stL (l.take n) ss (λi=>(List.replicate l.length false).toArray.getD i false) st=st:=by
  refine Eq.trans (stL_congr (λi _=>?_) (λ_ _ _=>rfl)) stL_none
  rw[Array.getD_eq_getD_getElem?,List.getElem?_toArray,List.getElem?_replicate]
  split<;>rfl
 rw[e]at this
 exact this
end
end Go.Proofs.YtdnijgdmohinlaaGreat.A
end
section
set_option maxRecDepth 100000
namespace Go.Proofs.YtdnijgdmohinlaaGreat
open Go Go.RowKit A R
structure Pk where
 seq:Int
 d:ByteArray
instance:Inhabited Pk:=⟨⟨0,⟨#[]⟩⟩⟩
def Pk.row (p:Pk):List AV:=[iv p.seq,tv p.d]
abbrev pkA (l:List Pk):List (List AV):=l.map Pk.row
theorem pk_elem:ElemT Tryz.prog 103 170 2 24:=⟨Tryz.underlying103,by
 have h:(Tryz.prog.info? 170).map (λi=>(i.zero,i.size,i.bytes))=some (some (.agg #[.int .i64 0,.string ⟨#[]⟩]),2,24):=by kernel_rfl
 obtain⟨i,hi,h1,h2,h3⟩:=info_parts h
 exact⟨i,_,hi,h1,h2,h3,rfl⟩⟩
namespace L
def sendE (op:List Pk):Int:=if 8≤op.length then 15 else 0
def sendP (sn:Int) (op:List Pk) (d:ByteArray):Pk:=if 8≤op.length then default else⟨sn,d⟩
def sendS (sn:Int) (op:List Pk):Int:=if 8≤op.length then sn else sn+1
def sendO (sn:Int) (op:List Pk) (d:ByteArray):List Pk:=if 8≤op.length then op else op++[⟨sn,d⟩]
theorem tw (p:Pk→Bool):∀(l:List Pk) (k:Nat),k≤l.length→(∀j,j<k→p (l.getD j default)=true)→(k<l.length→p (l.getD k default)=false)→(l.takeWhile p).length=k
 | [],k,h,_,_=>by simp at h;subst h;rfl
 | x::l,0,_,_,h2=>by
  have:=h2 (by simp)
  simp at this
  rw[List.takeWhile_cons,this];rfl
 | x::l,k+1,h,h1,h2=>by
  have h0:=h1 0 (by omega)
  simp at h0
  rw[List.takeWhile_cons,h0]
  simp only[if_true,List.length_cons]
  rw[tw p l k (by simpa using h) (λj hj=>by have:=h1 (j+1) (by omega);simpa using this) (λhk=>by have:=h2 (by simp;omega);simpa using this)]
def ansN (sn:Int) (op:List Pk) (seq:Int):Nat:=if seq>sn then 0 else(op.takeWhile λp=>decide (p.seq<seq)).length
end L
theorem pk_ne {l:List Pk}{k:Nat}(h:k<l.length):pkA l≠[]:=λh0=>by
 have:=congrArg List.length h0
 simp at this
 subst this;simp at h
theorem pk_at {l:List Pk}{k:Nat}(h:k<l.length):(pkA l).flatten[k*2]?=some (iv (l.getD k default).seq)∧(pkA l).flatten[k*2+1]?=some (tv (l.getD k default).d)∧((pkA l).flatten.drop (k*2)).take 2=(l.getD k default).row:=by
 have hu:∀r∈pkA l,r.length=2:=λr hr=>by obtain⟨x,_,rfl⟩:=List.mem_map.1 hr;rfl
 have h1:((pkA l).flatten.drop (k*2)).take 2=(l.getD k default).row:=by
  have:=S.row_at hu (j:=k) (by rw[List.length_map];exact h)
  rw[this,S.map_getD h]
 refine⟨?_,?_,h1⟩
 ·have h2:(((pkA l).flatten.drop (k*2)).take 2)[0]?=some (iv (l.getD k default).seq):=by rw[h1];rfl
  rw[List.getElem?_take,if_pos (by decide),List.getElem?_drop]at h2
  exact h2
 ·have h2:(((pkA l).flatten.drop (k*2)).take 2)[1]?=some (tv (l.getD k default).d):=by rw[h1];rfl
  rw[List.getElem?_take,if_pos (by decide),List.getElem?_drop]at h2
  exact h2
abbrev rowK (v:Value) (l:List Pk):AO:=.op (rowX 170 2 v (pkA l))
abbrev SN (sn:Int) (v:Value) (op:List Pk):Obs:=[(1001,.box 233 [.d (iv sn),.d (.v v)]),(1002,rowK v op)]
abbrev RC (rn:Int):Obs:=[(1001,.box 235 [.d (iv rn)])]
theorem SN_in (sn:Int) (v:Value) (op:List Pk):ObsIn [1001,1002] (SN sn v op):=⟨rfl,λ_ _ _ _ _ h=>h,trivial⟩
theorem RC_in (rn:Int):ObsIn [1001] (RC rn):=⟨rfl,trivial⟩
theorem rowK_in (v:Value) (l:List Pk):ObsIn [1001] [(1001,rowK v l)]:=⟨λ_ _ _ _ _ h=>h,trivial⟩
theorem clonePk_g (v:Value) (l:List Pk) (hop:l.length≤1000000):GCall Tryz.prog 105 [.d (.v v)] [(1001,rowK v l)] (some ([(1001,rowK v l)],.d (.sl 2 (pkA l)))):=by
 refine GC_L Tryz.func105 Tryz.ntmps105 (ReadsS.r1 Tryz.results105) λhok hokB M0 w0 hl=>?_
 refine Aw_sr ?_
 refine Al_mr ?_
 refine Al_nil (Aw_seq (Aw_sr ?_))
 refine Al_ml ?_
 refine Al_eqnilX (k:=1001) rfl rfl rfl (by decide) (by kernel_rfl) Tryz.underlying103 rfl rfl (λnl hnl=>?_)
 refine Al_nil ?_
 refine Aw_cond rfl (λh4=>?_) (λh4=>?_)
 ·(try simp only[A.cd_]at h4)
  refine Aw_sr ?_
  refine Al_mr ?_
  refine Al_nil ?_
  obtain rfl:l=[]:=by simpa using hnl h4
  exact Aw_ret (⟨_,_,[],rfl,Sub.nil,⟨rfl,trivial⟩,rfl⟩)
 ·(try simp only[A.cd_]at h4)
  refine Aw_skip (Aw_sr ?_)
  refine Al_p (Pu_slice0 rfl Tryz.underlying103 Tryz.sizeOf170) ?_
  refine Al_ml ?_
  refine Al_p (Pu_cloneX (k:=1001) rfl pk_elem (by decide) Tryz.sizeOf170 rfl rfl rfl (by simp;omega) (by decide)) ?_
  refine Al_mr ?_
  refine Al_nil ?_
  exact Aw_ret (⟨_,_,[],rfl,Sub.rfl,⟨rfl,trivial⟩,rfl⟩)
theorem lkOpen_g (sn:Int) (v:Value) (op:List Pk) (hop:op.length≤1000000):GCall Tryz.prog 103 [.bx 1001 0 0] (SN sn v op) (some (SN sn v op,.d (.sl 2 (pkA op)))):=by
 refine GC_L Tryz.func103 Tryz.ntmps103 (ReadsS.r1 Tryz.results103) λhok hokB M0 w0 hl=>?_
 refine Aw_sr ?_
 refine Al_mr ?_
 refine Al_nil (Aw_seq (Aw_sr ?_))
 refine Al_ml ?_
 refine Al_p (Pu_eqnilb Tryz.underlying151 rfl rfl) ?_
 refine Al_nil ?_
 refine Aw_condF rfl (rfl) ?_
 refine Aw_skip (Aw_sr ?_)
 refine Al_ml ?_
 refine Al_p Pu_nb ?_
 refine Al_p (Pu_fb 1 Tryz.underlying233 Tryz.sizeOf103) ?_
 refine Al_p (Pu_lb Tryz.isAgg103) ?_
 refine Al_p (Pu_gcall [(1001,1002,0)] (clonePk_g v op hop) (rowK_in ..) rfl ⟨rfl,trivial⟩ rfl ⟨Sub.rfl,trivial⟩) ?_
 refine Al_mr ?_
 refine Al_nil ?_
 exact Aw_ret (⟨_,_,[],rfl,Sub.rfl,⟨rfl,rfl,trivial⟩,rfl⟩)
theorem lkSend_g (sn:Int) (v:Value) (op:List Pk) (d:ByteArray) (hop:op.length≤1000000) (hs:0≤sn∧sn≤1000000):GCallE Tryz.prog 301 [.bx 1001 0 0,.d (tv d)] (SN sn v op) (λv':Value=>some (SN (L.sendS sn op) v' (L.sendO sn op d),.d (.tup [.row (L.sendP sn op d).row,iv (L.sendE op)]))):=by
 refine GC_EL Tryz.func301 Tryz.ntmps301 (ReadsS.cN1 Tryz.results301 Tryz.isAgg170 Tryz.sizeOf170) λhok hokB M0 w0 hl=>?_
 refine Aw_sr ?_
 refine Al_al Tryz.zeroValue170 λg4=>?_
 refine Al_mr ?_
 refine Al_nil (Aw_seq (Aw_block (Aw_sr ?_)))
 refine Al_ml ?_
 refine Al_p (Pu_eqnilb Tryz.underlying151 rfl rfl) ?_
 refine Al_mr ?_
 refine Al_nil ?_
 refine Aw_condF rfl (rfl) ?_
 refine Aw_sr ?_
 refine Al_ml ?_
 refine Al_p Pu_nb ?_
 refine Al_p (Pu_fb 1 Tryz.underlying233 Tryz.sizeOf103) ?_
 refine Al_p (Pu_lb Tryz.isAgg103) ?_
 refine Al_p (Pu_lenX (k:=1002) rfl Tryz.underlying103 rfl rfl (by rw[List.length_map];simp only[A.maxI];omega)) ?_
 refine Al_p Pu_cp ?_
 refine Al_mr ?_
 refine Al_nil ?_
 refine Aw_cond rfl (λh11=>?_) (λh11=>?_)
 ·(try simp only[A.cd_]at h11)
  have h8:8≤op.length:=by omega
  have e1:L.sendS sn op=sn:=if_pos h8
  have e2:L.sendO sn op d=op:=if_pos h8
  have e3:L.sendP sn op d=default:=if_pos h8
  have e4:L.sendE op=15:=if_pos h8
  refine Aw_sr ?_
  refine Al_p (Pu_build (aa:=[]) rfl Tryz.underlying170 Tryz.zeroValue170 places170 (by kernel_rfl) trivial rfl) ?_
  refine Al_sN Tryz.isAgg170 Tryz.sizeOf170 ?_
  refine Al_mr ?_
  refine Al_nil ?_
  exact Aw_ret (⟨v,_,_,[],rfl,⟨_,rfl,_,_,_,_,_,[_,_],_,rfl,rfl,rfl,rfl,Sub.num e4.symm,by rw[e3];rfl⟩,⟨by rw[e1];rfl,by rw[e2];rfl,trivial⟩,rfl⟩)
 ·(try simp only[A.cd_]at h11)
  have h8:¬8≤op.length:=by omega
  have e1:L.sendS sn op=sn+1:=if_neg h8
  have e2:L.sendO sn op d=op++[⟨sn,d⟩]:=if_neg h8
  have e3:L.sendP sn op d=⟨sn,d⟩:=if_neg h8
  have e4:L.sendE op=0:=if_neg h8
  refine Aw_skip (Aw_sr ?_)
  refine Al_ml ?_
  refine Al_p Pu_nb ?_
  refine Al_p (Pu_fb 0 Tryz.underlying233 Tryz.sizeOf231) ?_
  refine Al_p (Pu_fb 0 Tryz.underlying231 Tryz.sizeOf3) ?_
  refine Al_p (Pu_lb Tryz.isAgg3) ?_
  refine Al_ml ?_
  refine Al_p (Pu_build (aa:=[(0,_),(1,_)]) rfl Tryz.underlying170 Tryz.zeroValue170 places170 (by kernel_rfl) ⟨rfl,rfl,rfl,rfl,rfl,rfl,trivial⟩ rfl) ?_
  refine Al_al Tryz.zeroValue170 λg6=>?_
  refine Al_sN Tryz.isAgg170 Tryz.sizeOf170 ?_
  refine Al_ns ?_
  refine Al_ml ?_
  refine Al_p Pu_nb ?_
  refine Al_p (Pu_fb 0 Tryz.underlying233 Tryz.sizeOf231) ?_
  refine Al_p (Pu_fb 0 Tryz.underlying231 Tryz.sizeOf3) ?_
  refine Al_p (Pu_lb Tryz.isAgg3) ?_
  refine Al_p Pu_ad ?_
  refine Al_p Pu_nb ?_
  refine Al_p (Pu_fb 0 Tryz.underlying233 Tryz.sizeOf231) ?_
  refine Al_p (Pu_fb 0 Tryz.underlying231 Tryz.sizeOf3) ?_
  refine Al_s1 Tryz.isAgg3 Tryz.sizeOf3 ?_
  refine Al_nil ?_
  refine Aw_seq ?_
  refine Aw_drawn (by kernel_rfl) ?_
  refine Ad_t 0 rfl (PuI_move (.inl rfl) (by conv=>lhs;whnf)) ?_
  refine Ad_drawP 1 7 4 (by kernel_rfl) (by decide) rfl (by rfl) (by rfl) ?_
  refine Dr_ml ?_
  refine Dr_p Pu_nb ?_
  refine Dr_p (Pu_fb 1 Tryz.underlying233 Tryz.sizeOf103) ?_
  refine Dr_p (Pu_lb Tryz.isAgg103) ?_
  refine Dr_p (Pu_lbN (r:=[_,_]) Tryz.isAgg170 Tryz.sizeOf170) ?_
  refine Dr_p (Pu_slice1 rfl Tryz.underlying103 Tryz.sizeOf170 Tryz.zeroValue170 rfl (by decide) (by decide) (by kernel_rfl) rfl rfl rfl) ?_
  refine Dr_nil ?_
  refine Ad_o 7 ?_
  refine Al_appendX (k:=1002) rfl rfl rfl (by decide) (by kernel_rfl) pk_elem (by decide) Tryz.sizeOf170 rfl rfl rfl (by simp;omega) (by decide) (λv'=>?_)
  refine Al_nil ?_
  refine Ad_t 8 rfl PuI_nb ?_
  refine Ad_t 9 rfl (PuI_fb 1 Tryz.underlying233 Tryz.sizeOf103) ?_
  refine Ad_o 10 ?_
  refine Al_s1 Tryz.isAgg103 Tryz.sizeOf103 ?_
  refine Al_nil ?_
  refine Ad_d ?_
  refine Aw_sr ?_
  refine Al_p (Pu_lbN (r:=[_,_]) Tryz.isAgg170 Tryz.sizeOf170) ?_
  refine Al_sN Tryz.isAgg170 Tryz.sizeOf170 ?_
  refine Al_mr ?_
  refine Al_nil ?_
  exact Aw_ret (⟨v',_,_,[],rfl,⟨_,rfl,_,_,_,_,_,[_,_],_,rfl,rfl,rfl,rfl,Sub.num e4.symm,by rw[e3];rfl⟩,⟨by rw[e1];rfl,by rw[e2];exact obeqX (by simp[Pk.row,A.cellsA]),trivial⟩,rfl⟩)
theorem lkAns_g (sn:Int) (v:Value) (op:List Pk) (seq:Int) (hop:op.length≤1000000):GCallE Tryz.prog 254 [.bx 1001 0 0,.d (iv seq)] (SN sn v op) (λv':Value=>some (SN sn v' (op.drop (L.ansN sn op seq)),.d (iv (L.ansN sn op seq)))):=by
 refine GC_EL Tryz.func254 Tryz.ntmps254 (ReadsS.r1 Tryz.results254) λhok hokB M0 w0 hl=>?_
 refine Aw_sr ?_
 refine Al_mr ?_
 refine Al_nil (Aw_seq (Aw_sr ?_))
 refine Al_ml ?_
 refine Al_p (Pu_eqnilb Tryz.underlying151 rfl rfl) ?_
 refine Al_ml ?_
 refine Al_s (St_g [] trivial (λ_=>Pu_mvl)) ?_
 refine Al_s (St_g [] trivial (λ_=>Pu_mvl)) ?_
 refine Al_s (St_g [10] ⟨⟨_,rfl⟩,trivial⟩ (λ_=>Pu_nb)) ?_
 refine Al_s (St_g [11] ⟨⟨_,rfl⟩,trivial⟩ (λ_=>Pu_fb 0 Tryz.underlying233 Tryz.sizeOf231)) ?_
 refine Al_s (St_g [12] ⟨⟨_,rfl⟩,trivial⟩ (λ_=>Pu_fb 0 Tryz.underlying231 Tryz.sizeOf3)) ?_
 refine Al_s (St_g [13] ⟨⟨_,rfl⟩,trivial⟩ (λ_=>Pu_lb Tryz.isAgg3)) ?_
 refine Al_s (St_g [9,14] ⟨⟨_,rfl⟩,⟨_,rfl⟩,trivial⟩ (λ_=>Pu_cp)) ?_
 refine Al_p Pu_o ?_
 refine Al_nil ?_
 refine Aw_cond rfl (λh16=>?_) (λh16=>?_)
 ·(try simp only[A.cd_]at h16)
  have e1:L.ansN sn op seq=0:=if_pos (by simpa using h16)
  refine Aw_sr ?_
  refine Al_mr ?_
  refine Al_nil ?_
  exact Aw_ret (⟨v,_,_,[],rfl,Sub.num (by rw[e1];rfl),⟨rfl,by rw[e1];rfl,trivial⟩,rfl⟩)
 ·(try simp only[A.cd_]at h16)
  have hns:¬seq>sn:=by simpa using h16
  refine Aw_skip (Aw_sr ?_)
  refine Al_mr ?_
  refine Al_nil (Aw_seq (Aw_block ?_))
  refine Aw_loopk (ι:=Nat) [0,1] [1001,1002] (λk=>[(5,.d (iv k))]) (λk=>[]) (λk=>k≤op.length∧∀j,j<k→decide ((op.getD j default).seq<seq)=true) (λk=>op.length - k) (0) (⟨Nat.zero_le _,λj hj=>absurd hj (Nat.not_lt_zero _)⟩) ⟨Sub.rfl,trivial⟩ trivial ?_
  rintro k ⟨hk,hall⟩
  refine Aw_seq (Aw_sr ?_)
  refine Al_ml ?_
  refine Al_ml ?_
  refine Al_p Pu_nb ?_
  refine Al_p (Pu_fb 1 Tryz.underlying233 Tryz.sizeOf103) ?_
  refine Al_p (Pu_lb Tryz.isAgg103) ?_
  refine Al_p (Pu_lenX (k:=1002) rfl Tryz.underlying103 rfl rfl (by rw[List.length_map];simp only[A.maxI];omega)) ?_
  refine Al_p Pu_cp ?_
  refine Al_ml ?_
  refine Al_s (St_g [] trivial (λ_=>Pu_mvl)) ?_
  refine Al_s (St_g [25] ⟨⟨_,rfl⟩,trivial⟩ (λ_=>Pu_nb)) ?_
  refine Al_s (St_g [26] ⟨⟨_,rfl⟩,trivial⟩ (λ_=>Pu_fb 1 Tryz.underlying233 Tryz.sizeOf103)) ?_
  refine Al_s (St_g [27] ⟨⟨_,rfl⟩,trivial⟩ (λ_=>Pu_lb Tryz.isAgg103)) ?_
  refine Al_s (St_g [] trivial (λ_=>Pu_mvl)) ?_
  refine Al_s (St_gd [28,29] rfl rfl rfl rfl ⟨⟨_,rfl⟩,⟨_,rfl⟩,trivial⟩ (λhg30=>by exact Pu_indexX (j:=k) (k:=1002) rfl Tryz.underlying103 Tryz.sizeOf170 rfl rfl rfl rfl (by simpa using hg30))) ?_
  refine Al_s (St_gd [30] rfl rfl rfl rfl ⟨⟨_,rfl⟩,trivial⟩ (λhg31=>by exact Pu_fieldX (k:=1002) 0 rfl Tryz.underlying170 rfl rfl Tryz.sizeOf3 rfl rfl (pk_ne (by simpa using hg31)))) ?_
  refine Al_s (St_gd [31] rfl rfl rfl rfl ⟨⟨_,rfl⟩,trivial⟩ (λhg32=>by exact Pu_loadX1 (k:=1002) rfl Tryz.isAgg3 rfl rfl (pk_at (by simpa using hg32)).1)) ?_
  refine Al_s (St_g [] trivial (λ_=>Pu_mvl)) ?_
  refine Al_s (St_g [32,33] ⟨⟨_,rfl⟩,⟨_,rfl⟩,trivial⟩ (λ_=>Pu_cp)) ?_
  refine Al_p Pu_a ?_
  refine Al_nil ?_
  refine Aw_cond rfl (λh35=>?_) (λh35=>?_)
  ·skip
   simp only[Bool.and_eq_true,decide_eq_true_eq,List.length_map]at h35
   obtain⟨h35a,h35b⟩:=h35
   refine Aw_skip (Aw_block (Aw_region ?_))
   refine Al_ml ?_
   refine Al_p Pu_ad ?_
   refine Al_mr ?_
   refine Al_nil ?_
   exact⟨k+1,⟨by omega,λj hj=>by
    rcases Nat.lt_or_ge j k with h|h
    ·exact hall j h
    ·rw[show j=k from by omega];simpa using h35b⟩,by omega,Le.ov ⟨Sub.num (by omega),trivial⟩ ⟨Sub.rfl,Sub.rfl,trivial⟩ trivial ⟨rfl,rfl,trivial⟩⟩
  ·skip
   have hst:k<op.length→decide ((op.getD k default).seq<seq)=false:=λhk2=>by
    simp only[Bool.and_eq_false_iff,decide_eq_false_iff_not,List.length_map]at h35
    rcases h35 with h|h
    ·omega
    ·simpa using h
   have e1:L.ansN sn op seq=k:=by unfold L.ansN;rw[if_neg hns];exact L.tw _ op k hk hall hst
   refine Aw_exit ?_
   refine Aw_seq ?_
   refine Aw_drawP 19 1 (by kernel_rfl) (by kernel_rfl) rfl ?_
   refine Dr_ml ?_
   refine Dr_ml ?_
   refine Dr_p Pu_nb ?_
   refine Dr_p (Pu_fb 1 Tryz.underlying233 Tryz.sizeOf103) ?_
   refine Dr_p (Pu_lb Tryz.isAgg103) ?_
   refine Dr_ml ?_
   refine Dr_ml ?_
   refine Dr_p Pu_nb ?_
   refine Dr_p (Pu_fb 1 Tryz.underlying233 Tryz.sizeOf103) ?_
   refine Dr_p (Pu_lb Tryz.isAgg103) ?_
   refine Dr_p (Pu_lenX (k:=1002) rfl Tryz.underlying103 rfl rfl (by rw[List.length_map];simp only[A.maxI];omega)) ?_
   refine Dr_ml ?_
   refine Dr_p Pu_nb ?_
   refine Dr_p (Pu_fb 1 Tryz.underlying233 Tryz.sizeOf103) ?_
   refine Dr_p (Pu_lb Tryz.isAgg103) ?_
   refine Dr_p (Pu_lenX (k:=1002) rfl Tryz.underlying103 rfl rfl (by rw[List.length_map];simp only[A.maxI];omega)) ?_
   refine Dr_p (Pu_cutX (k:=1002) k rfl Tryz.underlying103 Tryz.sizeOf170 rfl rfl ⟨_,rfl,rfl⟩ ⟨_,rfl,rfl⟩ ⟨_,rfl,rfl⟩ (by rw[List.length_map];exact hk)) ?_
   refine Dr_p Pu_nb ?_
   refine Dr_p (Pu_fb 1 Tryz.underlying233 Tryz.sizeOf103) ?_
   refine Dr_nil ?_
   refine Ad_o 19 ?_
   refine Al_s1 Tryz.isAgg103 Tryz.sizeOf103 ?_
   refine Al_nil ?_
   refine Ad_d ?_
   refine Aw_sr ?_
   refine Al_ml ?_
   refine Al_mr ?_
   refine Al_nil ?_
   refine Aw_le (le_cutX (k:=1002) (h:=k) rfl (by rw[List.length_map];exact hk)) ?_
   exact Aw_ret (⟨cutX v k 2,_,_,[],rfl,Sub.num (by rw[e1]),⟨rfl,by rw[e1];exact obeqX (by simp),trivial⟩,rfl⟩)
theorem lktold_g (rn:Int):GCall Tryz.prog 329 [.bx 1001 0 0] (RC rn) (some (RC rn,.d (iv rn))):=by
 refine GC_L Tryz.func329 Tryz.ntmps329 (ReadsS.r1 Tryz.results329) λhok hokB M0 w0 hl=>?_
 refine Aw_sr ?_
 refine Al_mr ?_
 refine Al_ns ?_
 refine Al_ml ?_
 refine Al_p Pu_nb ?_
 refine Al_p (Pu_fb 0 Tryz.underlying231 Tryz.sizeOf3) ?_
 refine Al_p (Pu_lb Tryz.isAgg3) ?_
 refine Al_mr ?_
 refine Al_nil ?_
 exact Aw_ret (⟨_,_,[],rfl,Sub.rfl,⟨rfl,trivial⟩,rfl⟩)
theorem lkWaits_g (rn:Int):GCall Tryz.prog 252 [.bx 1001 0 0] (RC rn) (some (RC rn,.d (iv rn))):=by
 refine GC_L Tryz.func252 Tryz.ntmps252 (ReadsS.r1 Tryz.results252) λhok hokB M0 w0 hl=>?_
 refine Aw_sr ?_
 refine Al_mr ?_
 refine Al_nil (Aw_seq (Aw_sr ?_))
 refine Al_ml ?_
 refine Al_p (Pu_eqnilb Tryz.underlying153 rfl rfl) ?_
 refine Al_nil ?_
 refine Aw_condF rfl (rfl) ?_
 refine Aw_skip (Aw_sr ?_)
 refine Al_ml ?_
 refine Al_p Pu_nb ?_
 refine Al_p (Pu_fb 0 Tryz.underlying235 Tryz.sizeOf231) ?_
 refine Al_p (Pu_gcall [(1001,1001,0)] (lktold_g rn) (RC_in ..) rfl ⟨rfl,trivial⟩ rfl ⟨Sub.rfl,trivial⟩) ?_
 refine Al_mr ?_
 refine Al_nil ?_
 exact Aw_ret (⟨_,_,[],rfl,Sub.rfl,⟨rfl,trivial⟩,rfl⟩)
theorem lkTake_g (rn:Int) (p:Pk) (hs:0≤rn∧rn≤1000000):GCall Tryz.prog 253 [.bx 1001 0 0,.d (.row p.row)] (RC rn) (some (RC (if p.seq=rn then rn+1 else rn),.tp [.d (tv (if p.seq=rn then p.d else⟨#[]⟩)),.d (bv (decide (p.seq=rn)))])):=by
 refine GC_L Tryz.func253 Tryz.ntmps253 (ReadsS.r2 Tryz.results253) λhok hokB M0 w0 hl=>?_
 refine Aw_sr ?_
 refine Al_p Pu_bN ?_
 refine Al_mr ?_
 refine Al_mr ?_
 refine Al_nil (Aw_seq (Aw_seq ?_))
 refine Aw_dr 12 ?_
 refine Dr_ml ?_
 refine Dr_p (Pu_eqnilb Tryz.underlying153 rfl rfl) ?_
 refine Dr_ml ?_
 refine Dr_s (St_g [] trivial (λ_=>Pu_fd 0 Tryz.underlying170 Tryz.sizeOf3)) ?_
 refine Dr_s (St_g [9] ⟨⟨_,rfl⟩,trivial⟩ (λ_=>Pu_l1 Tryz.isAgg3)) ?_
 refine Dr_s (St_g [] trivial (λ_=>Pu_mvl)) ?_
 refine Dr_s (St_g [11] ⟨⟨_,rfl⟩,trivial⟩ (λ_=>Pu_nb)) ?_
 refine Dr_s (St_g [12] ⟨⟨_,rfl⟩,trivial⟩ (λ_=>Pu_fb 0 Tryz.underlying235 Tryz.sizeOf231)) ?_
 refine Dr_s (St_g [13] ⟨⟨_,rfl⟩,trivial⟩ (λ_=>Pu_fb 0 Tryz.underlying231 Tryz.sizeOf3)) ?_
 refine Dr_s (St_g [14] ⟨⟨_,rfl⟩,trivial⟩ (λ_=>Pu_lb Tryz.isAgg3)) ?_
 refine Dr_s (St_g [10,15] ⟨⟨_,rfl⟩,⟨_,rfl⟩,trivial⟩ (λ_=>Pu_cp)) ?_
 refine Dr_p Pu_o ?_
 refine Dr_nil (Al_nil ?_)
 refine Aw_cond rfl (λh17=>?_) (λh17=>?_)
 ·(try simp only[A.cd_]at h17)
  have hne:¬p.seq=rn:=by simpa using h17
  refine Aw_sr ?_
  refine Al_mr ?_
  refine Al_mr ?_
  refine Al_nil ?_
  exact Aw_ret (⟨_,_,[],rfl,⟨_,_,rfl,Sub.d (by rw[if_neg hne]),Sub.bool (by simp[hne])⟩,⟨by rw[if_neg hne];rfl,trivial⟩,rfl⟩)
 ·(try simp only[A.cd_]at h17)
  have hey:p.seq=rn:=by simpa using h17
  refine Aw_skip (Aw_sr ?_)
  refine Al_ml ?_
  refine Al_p Pu_nb ?_
  refine Al_p (Pu_fb 0 Tryz.underlying235 Tryz.sizeOf231) ?_
  refine Al_p (Pu_fb 0 Tryz.underlying231 Tryz.sizeOf3) ?_
  refine Al_p (Pu_lb Tryz.isAgg3) ?_
  refine Al_p Pu_ad ?_
  refine Al_p Pu_nb ?_
  refine Al_p (Pu_fb 0 Tryz.underlying235 Tryz.sizeOf231) ?_
  refine Al_p (Pu_fb 0 Tryz.underlying231 Tryz.sizeOf3) ?_
  refine Al_s1 Tryz.isAgg3 Tryz.sizeOf3 ?_
  refine Al_ns ?_
  refine Al_p (Pu_fd 1 Tryz.underlying170 Tryz.sizeOf9) ?_
  refine Al_p (Pu_l1 Tryz.isAgg9) ?_
  refine Al_mr ?_
  refine Al_mr ?_
  refine Al_nil ?_
  exact Aw_ret (⟨_,_,[],rfl,⟨_,_,rfl,Sub.d (by rw[if_pos hey]),Sub.bool (by simp[hey])⟩,⟨by rw[if_pos hey];rfl,trivial⟩,rfl⟩)
end Go.Proofs.YtdnijgdmohinlaaGreat
end
section
namespace Go.Proofs.YtdnijgdmohinlaaGreat.A
open Go Go.RowKit
def defL:Obs→Rho→Prop
 | [],_=>True
 | p::r,ρ=>(∃h,ρ p.1 0=some h)∧defL r ρ
def fpsL:Obs→Rho→Nat→Prop
 | [],_,_=>False
 | p::r,ρ,b=>(∃h,ρ p.1 0=some h∧fpO p.2 h b)∨fpsL r ρ b
theorem defL_of {ρ:Rho}:∀{o:Obs},(∀p∈o,∃h,ρ p.1 0=some h)→defL o ρ
 | [],_=>trivial
 | q::r,h=>⟨h q (List.mem_cons_self ..),defL_of λp hp=>h p (List.mem_cons_of_mem _ hp)⟩
theorem defL_rho {ρ ρ':Rho}(hr:RhoLe ρ ρ'):∀{o:Obs},defL o ρ→defL o ρ'
 | [],_=>trivial
 | q::r,h=>⟨by obtain⟨x,hx⟩:=h.1;exact⟨x,hr _ _ _ hx⟩,defL_rho hr h.2⟩
theorem fpsL_eq {ρ:Rho}{b:Nat}:∀{o:Obs},fpsL o ρ b↔fps ρ o b
 | []=>⟨λh=>h.elim,λ⟨p,hp,_⟩=>by cases hp⟩
 | q::r=>by
  rw[fps_cons,←fpsL_eq (o:=r)]
  exact Iff.rfl
theorem fpsL_rho {ρ ρ':Rho}(hr:RhoLe ρ ρ') {b:Nat}:∀{o:Obs},defL o ρ→(fpsL o ρ' b↔fpsL o ρ b)
 | [],_=>Iff.rfl
 | q::r,h=>by
  obtain⟨x,hx⟩:=h.1
  have hx':=hr _ _ _ hx
  refine or_congr ⟨λ⟨y,h1,h2⟩=>?_,λ⟨y,h1,h2⟩=>⟨y,hr _ _ _ h1,h2⟩⟩ (fpsL_rho hr h.2)
  rw[hx']at h1
  cases h1
  exact⟨x,hx,h2⟩
def tokF (F F1:Nat→Prop) (o:Obs):OP:=⟨λ_=>False,λ_ _ ρ _=>defL o ρ∧∀b,F b↔(fpsL o ρ b∨F1 b),λ_ _ h=>h,
 λhr h=>⟨defL_rho hr h.1,λb=>(h.2 b).trans (or_congr (fpsL_rho hr h.1).symm Iff.rfl)⟩,λ_ _ hb=>hb.elim⟩
section
variable {σ τ:Type}{E:σ→τ→Obs}{F F1:Nat→Prop}{X X1 X2:List (Value×σ)}{v:Value}{s s':σ}
theorem gh_pullS (hE:∀t,(∃T cs,(1001,AO.box T cs)∈E s t)∧(∀p∈E s t,1001≤p.1∧p.1≤1008)∧ObsIn [1001,1002,1003,1004,1005,1006,1007,1008] (E s t)):Ghost (.d (.v v)) [(1000,.op (starP E F (X1++(v,s)::X2)))] (λx:τ×(Nat→Prop)=>(1000,.op (starP E x.2 (X1++X2)))::(1009,.op (namTok 1001 v))::(1010,.op (tokF F x.2 (E s x.1)))::E s x.1) (λ_=>.bx 1001 0 0):=λM w ρ x hM hb hx hobs hf hap=>by
 obtain⟨hh,e1',hF,L,l1,l2,l3,hI⟩:=hobs _ (List.mem_singleton.2 rfl)
 have e1:ρ 1000 0=some hh:=e1'
 have hi:X1.length<L.length:=by rw[l1];simp
 obtain⟨k1,t,k2⟩:=l2 X1.length L[X1.length] (v,s) (by simp[hi]) (by simp)
 obtain⟨⟨T,cs,hbx⟩,hks,hin⟩:=hE t
 have hLe:L=L.take X1.length++L[X1.length]::L.drop (X1.length+1):=by rw[List.getElem_cons_drop,List.take_append_drop]
 have hperm:L.Perm (L[X1.length]::(L.take X1.length++L.drop (X1.length+1))):=by
  have:=List.perm_middle (a:=L[X1.length]) (l₁:=L.take X1.length) (l₂:=L.drop (X1.length+1))
  rwa [←hLe]at this
 have hI':=star_perm hperm hI
 have hF':=λb=>(l3 b).trans (starF_perm hperm b)
 generalize L[X1.length]=le at *
 obtain⟨ρe,oe⟩:=le
 obtain rfl:oe=E s t:=k2
 obtain⟨m1,m2,m3⟩:=hI'.1 _ (List.mem_cons_self ..)
 have hdis:=(List.pairwise_cons.1 hI'.2).1
 have hfo:∀b,fps ρ [(1000,AO.op (starP E F (X1++(v,s)::X2)))] b↔F b:=fps_one e1
 let ρ':Rho:=λk g=>if g=0∧1001≤k∧k≤1008 then ρe k 0 else if g=0∧(k=1009∨k=1010)then some undef else ρ k g
 have r0:ρ' 1000 0=some hh:=by simp[ρ',e1]
 have r9:ρ' 1009 0=some undef:=by simp[ρ']
 have r10:ρ' 1010 0=some undef:=by simp[ρ']
 have rk:∀k,1001≤k→k≤1008→ρ' k 0=ρe k 0:=λk h1 h2=>by simp[ρ',h1,h2]
 have rE:∀p∈E s t,ρ' p.1 0=ρe p.1 0:=λp hp=>rk p.1 (hks p hp).1 (hks p hp).2
 have fE:∀b,fps ρ' (E s t) b↔fps ρe (E s t) b:=fps_eq rE
 obtain⟨y,n1',b0,ys,rfl,n2⟩:=m1 _ hbx
 have n1:ρe 1001 0=some (.pointer (some ⟨b0,0,none⟩)):=n1'
 have hv:v=.pointer (some ⟨b0,0,none⟩):=by
  have:hd ρe=v:=k1
  rw[←this];unfold hd;rw[n1];rfl
 have hEF:∀b,fps ρe (E s t) b→F b:=λb hb=>(hF' b).2 ⟨_,List.mem_cons_self ..,hb⟩
 have hSF:∀b,(starO (L.take X1.length++L.drop (X1.length+1))).F b→F b:=λb ⟨e,he,h⟩=>(hF' b).2 ⟨e,List.mem_cons_of_mem _ he,h⟩
 have hM':∀c,(M c∨fps ρ' ((1000,AO.op (starP E (starO (L.take X1.length++L.drop (X1.length+1))).F (X1++X2)))::(1009,.op (namTok 1001 v))::(1010,.op (tokF F (starO (L.take X1.length++L.drop (X1.length+1))).F (E s t)))::E s t) c)→M c:=λc hc=>by
  rcases hc with hc|hc
  ·exact hc
  ·refine hf c ((hfo c).2 ?_)
   rcases fps_cons.1 hc with⟨_,_,h⟩|hc
   ·exact hSF c h
   ·rcases fps_cons.1 hc with⟨_,_,h⟩|hc
    ·exact h.elim
    ·rcases fps_cons.1 hc with⟨_,_,h⟩|hc
     ·exact h.elim
     ·exact hEF c ((fE c).1 hc)
 refine⟨(t,(starO (L.take X1.length++L.drop (X1.length+1))).F),ρ',?_,λp hp=>?_,λp hp=>?_,λp hp q hq z z' c h1 h2 h3 h4=>?_,?_⟩
 ·obtain⟨G,hG⟩:=hb
  refine⟨G+1,λk g h=>?_⟩
  by_cases hg:g=0
  ·omega
  ·have:ρ k g≠none:=by simpa [ρ',hg]using h
   have:=hG k g this
   omega
 ·obtain rfl:=List.mem_singleton.1 hp
  exact r0.trans e1.symm
 ·rcases List.mem_cons.1 hp with rfl|hp
  ·refine⟨hh,r0,λb hb=>.inr ((hfo b).2 (hSF b hb)),L.take X1.length++L.drop (X1.length+1),?_,λj e z h1 h2=>?_,λb=>Iff.rfl,?_⟩
   ·simp only[List.length_append,List.length_take,List.length_drop,List.length_cons]at l1 ⊢;omega
   ·rcases Nat.lt_or_ge j X1.length with hj|hj
    ·rw[List.getElem?_append_left (by simp;omega),List.getElem?_take,if_pos hj]at h1
     rw[List.getElem?_append_left hj]at h2
     exact l2 j e z h1 (by rw[List.getElem?_append_left hj];exact h2)
    ·have hlt:(L.take X1.length).length=X1.length:=by simp;omega
     rw[List.getElem?_append_right (by omega),hlt,List.getElem?_drop]at h1
     rw[List.getElem?_append_right hj]at h2
     refine l2 (X1.length+1+(j - X1.length)) e z h1 ?_
     rw[List.getElem?_append_right (by omega),show X1.length+1+(j - X1.length) - X1.length=(j - X1.length)+1 from by omega,List.getElem?_cons_succ]
     exact h2
   ·refine⟨λe he=>⟨objs_mono (Known.sub hM') (λ_ _=>rfl) (hI'.1 e (List.mem_cons_of_mem _ he)).1,(hI'.1 e (List.mem_cons_of_mem _ he)).2⟩,(List.pairwise_cons.1 hI'.2).2⟩
  ·rcases List.mem_cons.1 hp with rfl|hp
   ·exact⟨undef,r9,λb hb=>hb.elim,by show ρ' 1001 0=some v;rw[rk 1001 (by omega) (by omega),n1,hv]⟩
   ·rcases List.mem_cons.1 hp with rfl|hp
    ·refine⟨undef,r10,λb hb=>hb.elim,defL_of λq hq=>?_,λb=>?_⟩
     ·obtain⟨z,h1,_⟩:=m1 q hq
      exact⟨z,(rE q hq).trans h1⟩
     ·refine(hF' b).trans ?_
      rw[fpsL_eq,fE]
      constructor
      ·rintro⟨e,he,h⟩
       rcases List.mem_cons.1 he with rfl|he
       ·exact .inl h
       ·exact .inr ⟨e,he,h⟩
      ·rintro(h|⟨e,he,h⟩)
       ·exact⟨_,List.mem_cons_self ..,h⟩
       ·exact⟨e,List.mem_cons_of_mem _ he,h⟩
    ·obtain⟨z,h1,h2⟩:=m1 p hp
     refine⟨z,(rE p hp).trans h1,?_⟩
     refine(aoIn_rep (ρ:=ρ') (ρ':=ρe) (ks:=[1001,1002,1003,1004,1005,1006,1007,1008]) (λk hk=>?_) (hin.get p hp) h2 |>.mono (Known.sub hM') λ_ _=>rfl).base λb hb=>.inr ((hfo b).2 (hEF b ⟨p,hp,z,h1,hb⟩))
     simp only[List.mem_cons,List.not_mem_nil,or_false]at hk
     exact(rk k (by omega) (by omega)).symm
 ·have hsep:∀c q z',q∈E s t→ρ' q.1 0=some z'→fpO q.2 z' c→(starO (L.take X1.length++L.drop (X1.length+1))).F c→False:=λc q z' hq h2 h4 ⟨e,he,h⟩=>hdis e he c ((fE c).1 ⟨q,hq,z',h2,h4⟩) h
  rcases List.mem_cons.1 hp with rfl|hp
  ·rcases List.mem_cons.1 hq with rfl|hq
   ·rfl
   ·rcases List.mem_cons.1 hq with rfl|hq
    ·exact h4.elim
    ·rcases List.mem_cons.1 hq with rfl|hq
     ·exact h4.elim
     ·exact(hsep c q z' hq h2 h4 h3).elim
  ·rcases List.mem_cons.1 hp with rfl|hp
   ·exact h3.elim
   ·rcases List.mem_cons.1 hp with rfl|hp
    ·exact h3.elim
    ·rcases List.mem_cons.1 hq with rfl|hq
     ·exact(hsep c p z hp h1 h3 h4).elim
     ·rcases List.mem_cons.1 hq with rfl|hq
      ·exact h4.elim
      ·rcases List.mem_cons.1 hq with rfl|hq
       ·exact h4.elim
       ·exact m2 p hp q hq z z' c ((rE p hp).symm.trans h1) ((rE q hq).symm.trans h2) h3 h4
 ·obtain⟨h1,_⟩:=rep_v hx
  exact⟨_,b0,(rk 1001 (by omega) (by omega)).trans n1,rfl,by rw[h1,hv]⟩
theorem gh_putS {t:τ}(hE:∀p∈E s t,1001≤p.1∧p.1≤1008):Ghost .any ((1000,.op (starP E F1 (X1++X2)))::(1009,.op (namTok 1001 v))::(1010,.op (tokF F F1 (E s t)))::E s t) (λ_:Unit=>[(1000,.op (starP E F (X1++(v,s)::X2)))]) (λ_=>.any):=λM w ρ x hM hb hx hobs hf hap=>by
 obtain⟨hh,e1',hF,L,l1,l2,l3,hI⟩:=hobs _ (List.mem_cons_self ..)
 have e1:ρ 1000 0=some hh:=e1'
 obtain⟨_,_,_,hn⟩:=hobs (1009,.op (namTok 1001 v)) (by simp)
 obtain⟨_,_,_,_,hFF⟩:=hobs (1010,.op (tokF F F1 (E s t))) (by simp)
 have hn:ρ 1001 0=some v:=hn
 have hsub:∀p∈E s t,p∈(1000,AO.op (starP E F1 (X1++X2)))::(1009,AO.op (namTok 1001 v))::(1010,AO.op (tokF F F1 (E s t)))::E s t:=λp hp=>by simp[hp]
 have hv:hd ρ=v:=by unfold hd;rw[hn];rfl
 have hsep:∀b,(starO L).F b→fps ρ (E s t) b→False:=λb h1 ⟨p,hp,z,h2,h3⟩=>by
  have:=hap _ (List.mem_cons_self ..) p (hsub p hp) hh z b e1 h2 ((l3 b).2 h1) h3
  have h4:=(hE p hp).1
  rw[←this]at h4
  exact absurd h4 (show¬1001≤1000 by decide)
 obtain⟨j1,j2⟩:=star_put hI (λp hp=>hobs p (hsub p hp)) (λp hp q hq=>hap p (hsub p hp) q (hsub q hq)) hb hsep X1.length
 obtain⟨j3,j4⟩:=star_rel (E:=E) (s':=s) (t:=t) l1 l2 hv
 have hfF:∀b,F b↔(starO (L.take X1.length++(ρ,E s t)::L.drop X1.length)).F b:=λb=>(hFF b).trans ((or_congr fpsL_eq (l3 b)).trans (j2 b).symm)
 have hfo:∀b,F b→fps ρ ((1000,AO.op (starP E F1 (X1++X2)))::(1009,AO.op (namTok 1001 v))::(1010,AO.op (tokF F F1 (E s t)))::E s t) b:=λb hb=>by
  rcases(hFF b).1 hb with h|h
  ·obtain⟨p,hp,z,h1,h2⟩:=fpsL_eq.1 h
   exact⟨p,hsub p hp,z,h1,h2⟩
  ·exact mem_fps (List.mem_cons_self ..) e1 h
 have hM':∀c,(M c∨fps ρ [(1000,AO.op (starP E F (X1++(v,s)::X2)))] c)→M c:=λc hc=>by
  rcases hc with hc|hc
  ·exact hc
  ·exact hf c (hfo c ((fps_one (I:=starP E _ _) e1 c).1 hc))
 refine⟨(),ρ,hb,λp hp=>rfl,λp hp=>?_,λp hp q hq _ _ _ _ _ _ _=>by rw[List.mem_singleton.1 hp,List.mem_singleton.1 hq],trivial⟩
 obtain rfl:=List.mem_singleton.1 hp
 refine⟨hh,e1,λb hb=>.inr (hfo b hb),L.take X1.length++(ρ,E s t)::L.drop X1.length,j3,j4,hfF,?_⟩
 exact(starO _).mono (ρ:=λ_ _=>none) (h:=undef) (Known.sub hM') (λ_ _=>rfl) j1
theorem gh_newP {t:τ}(hE:(∃T cs,(1001,AO.box T cs)∈E s' t)∧∀p∈E s' t,1001≤p.1∧p.1≤1008):Ghost (.bx 1001 0 0) ((1000,.op (starP E F X))::E s' t) (λy:(Nat→Prop)×Nat=>[(1000,.op (starP E y.1 (X++[(.pointer (some ⟨y.2,0,none⟩),s')])))]) (λy=>.d (.v (.pointer (some ⟨y.2,0,none⟩)))):=λM w ρ x hM hb hx hobs hf hap=>by
 obtain⟨hh,e1',hF,L,l1,l2,l3,hI⟩:=hobs _ (List.mem_cons_self ..)
 have e1:ρ 1000 0=some hh:=e1'
 obtain⟨⟨T,cs,hbx⟩,hk⟩:=hE
 have hsub:∀p∈E s' t,p∈(1000,AO.op (starP E F X))::E s' t:=λp hp=>by simp[hp]
 obtain⟨y,n1',b0,ys,rfl,n2⟩:=hobs _ (hsub _ hbx)
 have n1:ρ 1001 0=some (.pointer (some ⟨b0,0,none⟩)):=n1'
 have hv:hd ρ=.pointer (some ⟨b0,0,none⟩):=by unfold hd;rw[n1];rfl
 have hsep:∀b,(starO L).F b→fps ρ (E s' t) b→False:=λb h1 ⟨p,hp,z,h2,h3⟩=>by
  have:=hap _ (List.mem_cons_self ..) p (hsub p hp) hh z b e1 h2 ((l3 b).2 h1) h3
  have h4:=(hk p hp).1
  rw[←this]at h4
  exact absurd h4 (show¬1001≤1000 by decide)
 obtain⟨j1,j2⟩:=star_put hI (λp hp=>hobs p (hsub p hp)) (λp hp q hq=>hap p (hsub p hp) q (hsub q hq)) hb hsep X.length
 obtain⟨j3,j4⟩:=star_rel (E:=E) (s':=s') (t:=t) (X1:=X) (X2:=[]) (by rw[l1,List.append_nil]) (by rw[List.append_nil];exact l2) hv
 have hfo:∀b,(starO (L.take X.length++(ρ,E s' t)::L.drop X.length)).F b→fps ρ ((1000,AO.op (starP E F X))::E s' t) b:=λb hb=>by
  rcases(j2 b).1 hb with⟨p,hp,z,h1,h2⟩|h
  ·exact⟨p,hsub p hp,z,h1,h2⟩
  ·exact mem_fps (List.mem_cons_self ..) e1 ((l3 b).2 h)
 have hM':∀c,(M c∨fps ρ [(1000,AO.op (starP E (starO (L.take X.length++(ρ,E s' t)::L.drop X.length)).F (X++[(.pointer (some ⟨b0,0,none⟩),s')])))] c)→M c:=λc hc=>by
  rcases hc with hc|hc
  ·exact hc
  ·exact hf c (hfo c ((fps_one (I:=starP E _ _) e1 c).1 hc))
 refine⟨((starO (L.take X.length++(ρ,E s' t)::L.drop X.length)).F,b0),ρ,hb,λp hp=>rfl,λp hp=>?_,λp hp q hq _ _ _ _ _ _ _=>by rw[List.mem_singleton.1 hp,List.mem_singleton.1 hq],?_⟩
 ·obtain rfl:=List.mem_singleton.1 hp
  refine⟨hh,e1,λb hb=>.inr (hfo b hb),L.take X.length++(ρ,E s' t)::L.drop X.length,j3,j4,λb=>Iff.rfl,?_⟩
  exact(starO _).mono (ρ:=λ_ _=>none) (h:=undef) (Known.sub hM') (λ_ _=>rfl) j1
 ·obtain⟨z,b',h1,h2,h3⟩:=hx
  rw[n1]at h1
  obtain rfl:=Option.some.inj h1
  simp only[blk,Option.some.injEq]at h2
  subst h2
  rw[h3]
  exact .v _ trivial
theorem focusR {P:Program}{f:FuncId}{rest:List AV}{res:AV}{i:Nat}(hf:∀(vs:Array Value) (w:World),(callFunc f vs).run P w=.ok (.enter f vs) w) (h:∀t,GCall P f (.bx 1001 0 0::rest.map .d) (E s t) (some (E s t,.d res))) (hi:X[i]?=some (v,s)) (h0:∀t,(∃T cs,(1001,AO.box T cs)∈E s t)∧ObsIn ((E s t).map (·.1)) (E s t)) :
  GCall P f (.d (.v v)::rest.map .d) [(1001,.op (starP E F X))] (some ([(1001,.op (starP E F X))],.d res)):=by
 refine⟨hf,λM w ρ vs hM hbnd ha hobs hfps hap=>?_⟩
 obtain⟨hh,e1,hF,L,l1,l2,l3,hI⟩:=hobs _ (List.mem_singleton.2 rfl)
 have hil:i<L.length:=by rw[l1];exact(List.getElem?_eq_some_iff.1 hi).1
 obtain⟨k1,t,k2⟩:=l2 i L[i] (v,s) (by simp[hil]) hi
 obtain⟨⟨T,cs,hbx⟩,hin⟩:=h0 t
 have hLi:L[i]?=some ((L[i]).1,E s t):=by rw[List.getElem?_eq_getElem hil,←k2]
 have hcall:=GCall.focus (h t) hLi hbx rfl hin
 have hset:L.set i ((L[i]).1,E s t)=L:=by
  rw[←k2]
  exact List.set_getElem_self ..
 rw[hset]at hcall
 have e1':ρ 1001 0=some hh:=e1
 have fo:=λb=>fps_one (I:=starP E F X) e1' b
 have fo':=λb=>fps_one (I:=starO L) e1' b
 have hargs:ARep M w ρ (.eq (hd (L[i]).1)::rest.map .d) vs:=⟨by rw[ha.1];simp,λj a x h1 h2=>by
  cases j with
  | zero =>
   obtain rfl:SV.eq (hd (L[i]).1)=a:=by simpa using h1
   rw[k1]
   exact Sub.ve _ _ _ _ (ha.2 0 (.d (.v v)) x rfl h2)
  | succ j=>exact ha.2 (j+1) a x (by simpa using h1) h2⟩
 have hob1:Objs (bas w) M w ρ [(1001,.op (starO L))]:=λp hp=>by
  obtain rfl:=List.mem_singleton.1 hp
  exact⟨hh,e1,λ_ _=>.inr trivial,hI⟩
 have hl:fps ρ [(1001,.op (starP E F X))]=fps ρ [(1001,.op (starO L))]:=funext λb=>propext ((fo b).trans ((l3 b).trans (fo' b).symm))
 refine(hcall.2 M w ρ vs hM hbnd hargs hob1 (λb hb=>hfps b (by rw[hl];exact hb)) (λp hp q hq _ _ _ _ _ _ _=>by rw[List.mem_singleton.1 hp,List.mem_singleton.1 hq])).mono λe w' ⟨hx,u,he,ρ',hb',hsame,hobj,hap',hres⟩=>?_
 have e2:ρ' 1001 0=some hh:=(hsame _ (List.mem_singleton.2 rfl)).trans e1
 obtain⟨h2,e3,hF2,hI2⟩:=hobj _ (List.mem_singleton.2 rfl)
 have fn:=λb=>fps_one (I:=starO L) e2 b
 have fn':=λb=>fps_one (I:=starP E F X) e2 b
 have hM3:(λb=>M b∨fps ρ' [(1001,AO.op (starP E F X))] b)=(λb=>M b∨fps ρ' [(1001,AO.op (starO L))] b):=funext λb=>propext (or_congr_right ((fn' b).trans ((l3 b).trans (fn b).symm)))
 rw[hl]
 refine⟨hx,u,he,ρ',hb',λp hp=>(by rw[List.mem_singleton.1 hp];exact e2.trans e1.symm),λp hp=>?_,λp hp q hq _ _ _ _ _ _ _=>by rw[List.mem_singleton.1 hp,List.mem_singleton.1 hq],?_⟩
 ·obtain rfl:=List.mem_singleton.1 hp
  refine⟨hh,e2,λb hb=>by rw[hl];exact hF2 b ((l3 b).1 hb),L,l1,l2,l3,?_⟩
  rw[hM3]
  exact(starO L).mono (ρ:=λ_ _=>none) (h:=undef) (Known.refl _ _) (λ_ _=>rfl) hI2
 ·rw[hM3];exact hres
end
end Go.Proofs.YtdnijgdmohinlaaGreat.A
end
section
namespace Go.Proofs.YtdnijgdmohinlaaGreat
open Go.RowKit A R
open A.RowT
def Dep.row (d:Dep):List AV:=[tv d.key,iv d.n,iv d.s]
def Event.row (e:Event):List AV:=[iv e.kind,iv e.client,tv e.key,iv e.n,iv e.s,.sl 3 (e.seen.map Dep.row)]
instance:DecidableEq Dep:=λa b=>decidable_of_iff (a.key=b.key∧a.n=b.n∧a.s=b.s) (by cases a;cases b;simp)
instance:RowI Dep where
 row:=Dep.row
 into h _:=by
  obtain⟨rfl,h2,h3,h4⟩:=h
  exact cellsc (.v _ h2) rfl (cellsc (.v _ h3) rfl (cells1 (.v _ h4) rfl))
 back h:=by
  obtain⟨x1,xs1,rfl,h1_1,h2_1,g1⟩:=uncons h
  obtain⟨rfl,k1⟩:=repv h1_1
  obtain⟨x2,xs2,rfl,h1_2,h2_2,g2⟩:=uncons g1
  obtain⟨rfl,k2⟩:=repv h1_2
  obtain⟨x3,xs3,rfl,h1_3,h2_3,g3⟩:=uncons g2
  obtain⟨rfl,k3⟩:=repv h1_3
  obtain rfl:=uncons0 g3
  exact⟨rfl,k1,k2,k3⟩
instance:RowT Event where
 row:=Event.row
 back h:=by
  obtain⟨x1,xs1,rfl,h1_1,h2_1,g1⟩:=uncons h
  obtain⟨rfl,k1⟩:=repv h1_1
  obtain⟨x2,xs2,rfl,h1_2,h2_2,g2⟩:=uncons g1
  obtain⟨rfl,k2⟩:=repv h1_2
  obtain⟨x3,xs3,rfl,h1_3,h2_3,g3⟩:=uncons g2
  obtain⟨rfl,k3⟩:=repv h1_3
  obtain⟨x4,xs4,rfl,h1_4,h2_4,g4⟩:=uncons g3
  obtain⟨rfl,k4⟩:=repv h1_4
  obtain⟨x5,xs5,rfl,h1_5,h2_5,g5⟩:=uncons g4
  obtain⟨rfl,k5⟩:=repv h1_5
  obtain⟨x6,xs6,rfl,h1_6,h2_6,g6⟩:=uncons g5
  obtain rfl:=uncons0 g6
  exact⟨x6,rfl,⟨k3,k1,k2,k4,k5⟩,sl_of (α:=Dep) h1_6⟩
end Go.Proofs.YtdnijgdmohinlaaGreat
end
section
namespace Go.Proofs.YtdnijgdmohinlaaGreat
open Go.RowKit A R
open A.RowT
set_option maxRecDepth 100000 in
theorem cloneD_g (l:List Dep) (hl:l.length≤1000000):GCall Tryz.prog 229 [.d (.sl 3 (l.map Dep.row))] [] (some ([(1001,.arr 110 3 (l.map Dep.row))],.ow 1001 0)):=by
 refine GC_1 Tryz.func229 Tryz.ntmps229 (ReadsS.r1 Tryz.results229) λhok hokB M0 w0=>?_
 refine Aw_sr ?_
 refine Al_mr ?_
 refine Al_nil (Aw_seq (Aw_sr ?_))
 refine Al_ml ?_
 refine Al_eqnil rfl rfl rfl (by decide) (by kernel_rfl) Tryz.underlying48 rfl (λnl hnl=>?_)
 refine Al_nil ?_
 refine Aw_cond rfl (λh4=>?_) (λh4=>?_)
 ·(try simp only[A.cd_]at h4)
  refine Aw_sr ?_
  refine Al_mr ?_
  refine Al_nil ?_
  obtain rfl:l=[]:=by simpa using hnl h4
  refine Aw_own (j:=2) (k:=2) (T:=110) (n:=3) rfl (λg=>?_)
  exact Aw_ret (⟨_,_,[(1001,2,g)],rfl,Sub.rfl,⟨rfl,trivial⟩,rfl⟩)
 ·(try simp only[A.cd_]at h4)
  refine Aw_skip (Aw_sr ?_)
  refine Al_slice0 rfl rfl rfl (by decide) Tryz.underlying48 Tryz.sizeOf110 (λg5=>?_)
  refine Al_ml ?_
  refine Al_append rfl rfl rfl (by decide) (by kernel_rfl) elem48 (by decide) Tryz.sizeOf110 rfl rfl rfl (by simp;omega) (by decide) (λg7=>?_)
  refine Al_mr ?_
  refine Al_nil ?_
  exact Aw_ret (⟨_,_,[(1001,5,g7)],rfl,Sub.rfl,⟨rfl,trivial⟩,rfl⟩)
theorem ins_grow {α:Type}{L:List α}{z x:α}{i:Nat}(hi:i<L.length):(((L.take i++List.replicate (L.length+1 - i) z).take i++[x].take 1++(L.take i++List.replicate (L.length+1 - i) z).drop (i+1)).take (i+1)++(L.drop i).take (L.length - i)++((L.take i++List.replicate (L.length+1 - i) z).take i++[x].take 1++(L.take i++List.replicate (L.length+1 - i) z).drop (i+1)).drop (i+1+(L.length - i)))=L.take i++x::L.drop i:=by
 have h1:(L.take i).length=i:=by simp;omega
 have h2:(L.take i++List.replicate (L.length+1 - i) z).take i=L.take i:=by
  rw[List.take_append_of_le_length (by omega),List.take_of_length_le (by omega)]
 rw[h2]
 have h3:((L.take i++List.replicate (L.length+1 - i) z).drop (i+1)).length=L.length - i:=by simp;omega
 generalize (L.take i++List.replicate (L.length+1 - i) z).drop (i+1)=D at *
 have h4:(L.take i++[x].take 1).length=i+1:=by simp;omega
 have e1:(L.take i++[x].take 1++D).take (i+1)=L.take i++[x].take 1:=by rw[List.take_append_of_le_length (by omega),List.take_of_length_le (by omega)]
 have e2:(L.take i++[x].take 1++D).drop (i+1+(L.length - i))=[]:=List.drop_eq_nil_of_le (by rw[List.length_append,h4,h3];omega)
 rw[e1,e2,List.take_of_length_le (l:=L.drop i) (by simp)]
 simp
theorem ins_room {α:Type}{L:List α}{x:α}{i:Nat}(hi:i<L.length):((L.take (i+1)++(L.drop i).take (L.length - i)).take i++[x].take 1++(L.take (i+1)++(L.drop i).take (L.length - i)).drop (i+1))=L.take i++x::L.drop i:=by
 have h1:(L.take (i+1)).length=i+1:=by simp;omega
 rw[List.take_append_of_le_length (by omega),List.take_take,Nat.min_eq_left (by omega),List.drop_append_of_le_length (by omega),List.drop_eq_nil_of_le (by omega),List.take_of_length_le (l:=L.drop i) (by simp)]
 simp
set_option maxRecDepth 100000 in
set_option maxHeartbeats 1000000 in
theorem insertD_g (l:List Dep) (x:Dep) (i:Nat) (hi:i≤l.length) (hl:l.length≤1000000):GCall Tryz.prog 309 [.ow 1001 0,.d (iv i),.ow 1002 0] [(1001,.arr 110 3 (l.map Dep.row)),(1002,.arr 110 3 [Dep.row x])] (some ([(1003,.arr 110 3 ((l.take i++x::l.drop i).map Dep.row))],.ow 1003 0)):=by
 refine GC_1 Tryz.func309 Tryz.ntmps309 (ReadsS.r1 Tryz.results309) λhok hokB M0 w0=>?_
 have hlm:(l.map Dep.row).length=l.length:=List.length_map ..
 have hres:(l.take i++x::l.drop i).map Dep.row=(l.map Dep.row).take i++Dep.row x::(l.map Dep.row).drop i:=by simp
 rw[hres]
 generalize l.map Dep.row=L at *
 refine Aw_sr ?_
 refine Al_mr ?_
 refine Al_ns ?_
 refine Al_ml ?_
 refine Al_ml ?_
 refine Al_p (Pu_sliceOw i L.length rfl Tryz.underlying48 Tryz.sizeOf110 rfl rfl ⟨_,rfl,rfl⟩ rfl ⟨by omega,.inl (by omega)⟩) ?_
 refine Al_ns ?_
 refine Al_ml ?_
 refine Al_p (Pu_lenOw (m:=1) rfl Tryz.underlying48 rfl rfl rfl) ?_
 refine Al_mr ?_
 refine Al_nil (Aw_seq (Aw_sr ?_))
 refine Al_ml ?_
 refine Al_p Pu_cp ?_
 refine Al_nil ?_
 refine Aw_cond rfl (λh16=>?_) (λh16=>?_)
 ·(try simp only[A.cd_]at h16)
  exfalso;revert h16;decide
 ·(try simp only[A.cd_]at h16)
  refine Aw_skip (Aw_sr ?_)
  refine Al_ml ?_
  refine Al_p (Pu_lenOw rfl Tryz.underlying48 rfl rfl rfl) ?_
  refine Al_mr ?_
  refine Al_nil (Aw_seq (Aw_sr ?_))
  refine Al_ml ?_
  refine Al_ml ?_
  refine Al_p Pu_cp ?_
  refine Al_nil ?_
  refine Aw_cond rfl (λh22=>?_) (λh22=>?_)
  ·(try simp only[A.cd_]at h22)
   refine Aw_sr ?_
   refine Al_ml ?_
   refine Al_ml ?_
   refine Al_appendOw (k2:=1002) (g2:=0) rfl rfl rfl (by decide) (by kernel_rfl) elem48 (by decide) Tryz.sizeOf110 rfl rfl rfl rfl Nat.one_pos (by simp;omega) (by decide) (λg25=>?_)
   refine Al_mr ?_
   refine Al_nil ?_
   exact Aw_ret (⟨_,_,[(1003,1001,g25)],rfl,Sub.rfl,⟨obeq (by rw[show i=L.length by omega];simp),trivial⟩,rfl⟩)
  ·(try simp only[A.cd_]at h22)
   refine Aw_skip (Aw_seq (Aw_sr ?_))
   refine Al_ml ?_
   refine Al_ml ?_
   refine Al_p Pu_ad ?_
   refine Al_ml ?_
   refine Al_cap (kt:=900) rfl rfl rfl (by decide) (by kernel_rfl) Tryz.underlying48 rfl rfl rfl (λc gt hc hcm=>?_)
   refine Al_p Pu_cp ?_
   refine Al_nil ?_
   refine Aw_cond rfl (λh31=>?_) (λh31=>?_)
   ·(try simp only[A.cd_]at h31)
    refine Aw_sr ?_
    refine Al_ml ?_
    refine Al_ml ?_
    refine Al_p (Pu_sliceOw 0 i rfl Tryz.underlying48 Tryz.sizeOf110 rfl rfl rfl ⟨_,rfl,rfl⟩ ⟨by omega,.inl (by omega)⟩) ?_
    refine Al_ml ?_
    refine Al_ml ?_
    refine Al_p Pu_ad ?_
    refine Al_ml ?_
    refine Al_p (Pu_sub rfl rfl rfl (λh1 h2=>by simp only[A.inI,A.maxI]at *;omega)) ?_
    refine Al_appendZ (zz:=L.length+1 - i) (kt:=900) (c:=c) rfl rfl rfl (by decide) (by kernel_rfl) elem48 Tryz.underlying3 Tryz.zeroValue110 (by decide) rfl (by kernel_rfl) rfl rfl rfl (by omega) (by omega) (by omega) rfl (by omega) (by omega) (by decide) (λg40=>?_) rfl
    generalize hzr:List.map AV.v _=zs
    have hz1:(L.take i++List.replicate (L.length+1 - i) zs).length=L.length+1:=by simp;omega
    refine Al_mr ?_
    refine Al_ns ?_
    refine Al_ml ?_
    refine Al_ml ?_
    refine Al_p (Pu_sliceOw i (L.take i++List.replicate (L.length+1 - i) zs).length rfl Tryz.underlying48 Tryz.sizeOf110 rfl rfl ⟨_,rfl,rfl⟩ rfl ⟨by omega,.inl (by omega)⟩) ?_
    refine Al_ml ?_
    refine Al_copy (c:=1) (L:=1) rfl rfl rfl (by decide) (by kernel_rfl) Tryz.underlying48 Tryz.sizeOf110 (by decide) rfl rfl (.inr (.inr ⟨_,_,_,rfl,rfl,rfl⟩)) (by omega) Nat.one_pos (Nat.le_refl _) (by omega) ?_
    refine Al_nil (Aw_seq ?_)
    refine Aw_dr 8 ?_
    refine Dr_ml ?_
    refine Dr_ml ?_
    refine Dr_ml ?_
    refine Dr_p Pu_ad ?_
    refine Dr_p (Pu_sliceOw (i+1) (L.length+1) rfl Tryz.underlying48 Tryz.sizeOf110 rfl rfl ⟨_,rfl,by omega⟩ (by show L.length+1=_;simp;omega) ⟨by omega,.inl (by simp;omega)⟩) ?_
    refine Dr_ml ?_
    refine Dr_ml ?_
    refine Dr_p (Pu_sliceOw i L.length rfl Tryz.underlying48 Tryz.sizeOf110 rfl rfl ⟨_,rfl,rfl⟩ rfl ⟨by omega,.inl (by omega)⟩) ?_
    refine Dr_nil ?_
    refine Al_copy (c:=L.length - i) (L:=L.length - i) (news:=L.drop i) rfl rfl rfl (by decide) (by kernel_rfl) Tryz.underlying48 Tryz.sizeOf110 (by decide) rfl rfl (.inr (.inl ⟨_,_,_,_,_,_,rfl,rfl,rfl,by rw[List.take_length]⟩)) (by omega) (by omega) (by simp) (by simp;omega) ?_
    refine Al_ns ?_
    refine Al_ml ?_
    refine Al_mr ?_
    refine Al_nil ?_
    exact Aw_ret (⟨_,_,[(1003,40,g40)],rfl,Sub.rfl,⟨obeq (ins_grow (by omega)),trivial⟩,rfl⟩)
   ·(try simp only[A.cd_]at h31)
    refine Aw_skip (Aw_sr ?_)
    refine Al_ml ?_
    refine Al_ml ?_
    refine Al_ml ?_
    refine Al_p Pu_ad ?_
    refine Al_p (Pu_sliceOw 0 (L.length+1) rfl Tryz.underlying48 Tryz.sizeOf110 rfl rfl rfl ⟨_,rfl,by omega⟩ ⟨by omega,.inr ⟨900,gt,c,rfl,by omega⟩⟩) ?_
    refine Al_mr ?_
    refine Al_nil (Aw_seq (Aw_sr ?_))
    refine Al_ml ?_
    refine Al_ml ?_
    refine Al_ml ?_
    refine Al_ml ?_
    refine Al_p Pu_ad ?_
    refine Al_p (Pu_sliceOws (i+1) (i+1) rfl Tryz.underlying48 Tryz.sizeOf110 rfl ⟨_,rfl,by omega⟩ (by omega) (by omega)) ?_
    refine Al_overlaps (tS:=48) (tR:=4) (e:=110) (λargs w=>run_callFunc_extern Tryz.func359 (by kernel_rfl) (by kernel_rfl) (by kernel_rfl) (e:=Extern.SlicesOverlaps.overlaps #[48,48] #[4]) (by kernel_rfl) args w) rfl rfl rfl (by decide) (by kernel_rfl) Tryz.underlying48 Tryz.sizeOf110 (by decide) rfl rfl Nat.one_pos rfl rfl rfl (by omega) ?_
    refine Al_p Pu_n ?_
    refine Al_nil ?_
    refine Aw_cond rfl (λh68=>?_) (λh68=>?_)
    ·(try simp only[A.cd_]at h68)
     refine Aw_seq ?_
     refine Aw_dr 8 ?_
     refine Dr_ml ?_
     refine Dr_ml ?_
     refine Dr_ml ?_
     refine Dr_p Pu_ad ?_
     refine Dr_p (Pu_sliceOws (i+1) (i+1) rfl Tryz.underlying48 Tryz.sizeOf110 rfl ⟨_,rfl,by omega⟩ (by omega) (by omega)) ?_
     refine Dr_ml ?_
     refine Dr_ml ?_
     refine Dr_p (Pu_sliceOws i i rfl Tryz.underlying48 Tryz.sizeOf110 rfl ⟨_,rfl,rfl⟩ (by omega) (by omega)) ?_
     refine Dr_nil ?_
     refine Al_copyUp (j:=0) (c:=L.length - i) (L:=L.length+1 - i) (news:=L.drop i) rfl rfl rfl (by decide) (by kernel_rfl) Tryz.underlying48 Tryz.sizeOf110 (by decide) rfl rfl (by show SV.ows 1001 0 3 0 (L.length+1)=SV.ows 1001 0 3 0 (i+1+(L.length - i));congr 1;omega) (.inr (.inl ⟨_,_,_,_,_,_,rfl,rfl,rfl,by rw[List.take_of_length_le (by omega)]⟩)) (by omega) (by omega) (by simp) (by omega) (by omega) (λg77=>?_)
     have hz2:(L.take (i+1)++(L.drop i).take (L.length - i)).length=L.length+1:=by simp;omega
     refine Al_ns ?_
     refine Al_ml ?_
     refine Al_ml ?_
     refine Al_p (Pu_sliceOw i (L.take (i+1)++(L.drop i).take (L.length - i)).length rfl Tryz.underlying48 Tryz.sizeOf110 rfl rfl ⟨_,rfl,rfl⟩ rfl ⟨by omega,.inl (by omega)⟩) ?_
     refine Al_ml ?_
     refine Al_copy (c:=1) (L:=1) rfl rfl rfl (by decide) (by kernel_rfl) Tryz.underlying48 Tryz.sizeOf110 (by decide) rfl rfl (.inr (.inr ⟨_,_,_,rfl,rfl,rfl⟩)) (by omega) Nat.one_pos (Nat.le_refl _) (by omega) ?_
     refine Al_ns ?_
     refine Al_ml ?_
     refine Al_mr ?_
     refine Al_nil ?_
     exact Aw_ret (⟨_,_,[(1003,1001,g77)],rfl,Sub.rfl,⟨obeq (ins_room (by omega)),trivial⟩,rfl⟩)
    ·(try simp only[A.cd_]at h68)
     exfalso;revert h68;decide
instance:Inhabited Dep:=⟨⟨⟨#[]⟩,0,0⟩⟩
set_option maxRecDepth 100000 in
theorem bsearchD_a (l:List Dep) (tg:AV) (f:FuncId) (c:Dep→Int) (s:Nat) (hf:∀x,ACall Tryz.prog f [.row x.row,tg] (iv (c x))) (hl:l.length≤1000000) (hs:s≤l.length) (hlo:∀(j:Nat) (hj:j<l.length),j<s→c l[j]<0) (hhi:∀(j:Nat) (hj:j<l.length),s≤j→0≤c l[j]):ACall Tryz.prog 356 [.sl 3 (l.map Dep.row),tg,.fn f []] (.tup [iv s,bv (decide (s<l.length)&&decide (c (l.getD s default)=0))]):=by
 refine AC_2 Tryz.func356 Tryz.ntmps356 Tryz.results356 λhok M0 w0 hnl=>?_
 refine Aw_sr ?_
 refine Al_mr ?_
 refine Al_mr ?_
 refine Al_ns ?_
 refine Al_ml ?_
 refine Al_p (Pu_ln Tryz.underlying48) ?_
 refine Al_mr ?_
 refine Al_ns ?_
 refine Al_ml ?_
 refine Al_mr ?_
 refine Al_mr ?_
 refine Al_nil (Aw_seq (Aw_block ?_))
 refine Aw_loopk (ι:=Nat×Nat) [0,1,2,8] [] (λ(a,b)=>[(9,.d (iv a)),(10,.d (iv b))]) (λ(a,b)=>[]) (λ(a,b)=>a≤s∧s≤b∧b≤l.length) (λ(a,b)=>b - a) (0,l.length) (⟨Nat.zero_le _,hs,Nat.le_refl _⟩) ⟨Sub.rfl,Sub.num (by simp),trivial⟩ trivial ?_
 rintro⟨a,b⟩ ⟨ha,hb,hbl⟩
 refine Aw_seq (Aw_sr ?_)
 refine Al_ml ?_
 refine Al_ml ?_
 refine Al_p Pu_cp ?_
 refine Al_nil ?_
 refine Aw_cond rfl (λh17=>?_) (λh17=>?_)
 ·(try simp only[A.cd_]at h17)
  have hm:(a+b) / 2<l.length:=by omega
  refine Aw_skip (Aw_block (Aw_sr ?_))
  refine Al_ml ?_
  refine Al_ml ?_
  refine Al_p Pu_ad ?_
  refine Al_p (Pu_conv (k':=.u64) (a:=((a+b:Nat):Int)) rfl Tryz.underlying3 Tryz.underlying390 rfl (λ_=>u64_nat (by omega) (by omega))) ?_
  refine Al_p (Pu_int_shr (r:=(((a+b) / 2:Nat):Int)) rfl rfl rfl ⟨by decide,by decide⟩ (by show(((a+b:Nat):Int)) / 2^1=_;omega) (λ_=>by show 0≤_∧_;omega)) ?_
  refine Al_p (Pu_conv (k':=.i64) rfl Tryz.underlying390 Tryz.underlying3 rfl (λ_=>i64_nat (by simp only[A.inI];omega))) ?_
  refine Al_mr ?_
  refine Al_ns ?_
  refine Al_ml ?_
  refine Al_ml ?_
  refine Al_ml ?_
  refine Al_p (Pu_index rfl Tryz.underlying48 Tryz.sizeOf110 rfl rfl (rfl) (mapget hm)) ?_
  refine Al_p (Pu_lN Tryz.isAgg110 Tryz.sizeOf110) ?_
  refine Al_ml ?_
  refine Al_p (Pu_callv (aa:=[(λx=>.row x.row) (l[(a+b) / 2]'hm),tg]) (caps:=[]) (hf (l[(a+b) / 2]'hm)) rfl rfl ⟨Sub.rfl,Sub.rfl,trivial⟩) ?_
  refine Al_p Pu_cp ?_
  refine Al_nil ?_
  refine Aw_cond rfl (λh31=>?_) (λh31=>?_)
  ·(try simp only[A.cd_]at h31)
   have hms:(a+b) / 2<s:=by
    rcases Nat.lt_or_ge ((a+b) / 2) s with h|h
    ·exact h
    ·have:=hhi _ hm h;omega
   refine Aw_region ?_
   refine Al_ml ?_
   refine Al_p Pu_ad ?_
   refine Al_mr ?_
   refine Al_nil ?_
   exact⟨((a+b) / 2+1,b),⟨by omega,hb,hbl⟩,by simp only[];omega,Le.ov ⟨Sub.num (by omega),Sub.rfl,trivial⟩ ⟨Sub.rfl,Sub.rfl,Sub.rfl,Sub.rfl,trivial⟩ trivial trivial⟩
  ·(try simp only[A.cd_]at h31)
   have hms:s≤(a+b) / 2:=by
    rcases Nat.lt_or_ge ((a+b) / 2) s with h|h
    ·have:=hlo _ hm h;omega
    ·exact h
   refine Aw_region ?_
   refine Al_ml ?_
   refine Al_mr ?_
   refine Al_nil ?_
   exact⟨(a,(a+b) / 2),⟨ha,hms,by omega⟩,by simp only[];omega,Le.ov ⟨Sub.rfl,Sub.rfl,trivial⟩ ⟨Sub.rfl,Sub.rfl,Sub.rfl,Sub.rfl,trivial⟩ trivial trivial⟩
 ·(try simp only[A.cd_]at h17)
  obtain rfl:a=s:=by omega
  refine Aw_exit (Aw_sr ?_)
  refine Al_ml ?_
  refine Al_ml ?_
  refine Al_ml ?_
  refine Al_p Pu_cp ?_
  refine Al_ml ?_
  refine Al_s (St_g [] trivial (λ_=>Pu_mvl)) ?_
  refine Al_s (St_g [] trivial (λ_=>Pu_mvl)) ?_
  refine Al_s (St_g [] trivial (λ_=>Pu_mvl)) ?_
  refine Al_s (St_gd [41,42] rfl rfl rfl rfl ⟨⟨_,rfl⟩,⟨_,rfl⟩,trivial⟩ (λhg43=>by exact Pu_index rfl Tryz.underlying48 Tryz.sizeOf110 rfl rfl (rfl) (mapgetD (d:=default) (by simpa using hg43)))) ?_
  refine Al_s (St_g [43] ⟨⟨_,rfl⟩,trivial⟩ (λ_=>Pu_lN Tryz.isAgg110 Tryz.sizeOf110)) ?_
  refine Al_s (St_g [] trivial (λ_=>Pu_mvl)) ?_
  refine Al_s (St_g [40,44,45] ⟨⟨_,rfl⟩,⟨_,rfl⟩,⟨_,rfl⟩,trivial⟩ (λ_=>Pu_callv (aa:=[(λx=>.row x.row) (l.getD a default),tg]) (caps:=[]) (hf (l.getD a default)) rfl rfl ⟨Sub.rfl,Sub.rfl,trivial⟩)) ?_
  refine Al_s (St_g [46] ⟨⟨_,rfl⟩,trivial⟩ (λ_=>Pu_cp)) ?_
  refine Al_p Pu_a ?_
  refine Al_mr ?_
  refine Al_mr ?_
  refine Al_nil ?_
  exact Aw_ret (⟨Sub.num rfl,Sub.bool (by congr 1;exact decide_eq_decide.2 (by simp))⟩)
end Go.Proofs.YtdnijgdmohinlaaGreat
end
section
namespace Go.Proofs.YtdnijgdmohinlaaGreat
open Go.RowKit R
namespace D
def lessB (a b c d:Int):Bool:=if a=c then decide (b<d)else decide (a<c)
def okB (d:Dep):Bool:=K.checkB d.key&&V.stampB d.n d.s
def eqB (x d:Dep):Bool:=x.key.toList==d.key.toList
def ltB (x d:Dep):Bool:=Op.bytesLess x.key.toList d.key.toList
def addF:List Dep→Dep→Bool→List Dep
 | [],d,put=>if put then[]else[d]
 | x::r,d,put =>
  if eqB x d then(if lessB x.n x.s d.n d.s then d else x)::addF r d true
  else if put then x::addF r d true
  else if ltB x d then x::addF r d false
  else d::x::addF r d true
def add (p:List Dep) (d:Dep):List Dep:=if okB d then addF p d false else p
theorem addF_len:∀(p:List Dep) (d:Dep) (put:Bool),(addF p d put).length≤p.length+1
 | [],d,put=>by unfold addF;split<;>simp
 | x::r,d,put=>by
  have h1:=addF_len r d true
  have h2:=addF_len r d false
  have h3:(addF r d true).length≤r.length:=addF_len_true r d
  unfold addF
  split
  ·simp;omega
  ·split
   ·simp;omega
   ·split<;>simp<;>omega
where addF_len_true:∀(p:List Dep) (d:Dep),(addF p d true).length≤p.length
 | [],d=>by simp[addF]
 | x::r,d=>by
  have h1:=addF_len_true r d
  unfold addF
  split<;>simp<;>omega
theorem add_len (p:List Dep) (d:Dep):(add p d).length≤p.length+1:=by
 unfold add;split
 ·exact addF_len p d false
 ·omega
theorem addF_mem:∀(p:List Dep) (d:Dep) (put:Bool) (x:Dep),x∈addF p d put→x∈p∨x=d
 | [],d,put,x,h=>by
  unfold addF at h;split at h
  ·cases h
  ·simp at h;exact .inr h
 | y::r,d,put,x,h=>by
  unfold addF at h
  split at h
  ·rcases List.mem_cons.1 h with h|h
   ·split at h
    ·exact .inr h
    ·exact .inl (by simp[h])
   ·rcases addF_mem r d _ x h with h|h
    ·exact .inl (by simp[h])
    ·exact .inr h
  ·split at h
   ·rcases List.mem_cons.1 h with h|h
    ·exact .inl (by simp[h])
    ·rcases addF_mem r d _ x h with h|h
     ·exact .inl (by simp[h])
     ·exact .inr h
   ·split at h
    ·rcases List.mem_cons.1 h with h|h
     ·exact .inl (by simp[h])
     ·rcases addF_mem r d _ x h with h|h
      ·exact .inl (by simp[h])
      ·exact .inr h
    ·rcases List.mem_cons.1 h with h|h
     ·exact .inr h
     ·rcases List.mem_cons.1 h with h|h
      ·exact .inl (by simp[h])
      ·rcases addF_mem r d _ x h with h|h
       ·exact .inl (by simp[h])
       ·exact .inr h
theorem add_mem (p:List Dep) (d x:Dep) (h:x∈add p d):x∈p∨x=d:=by
 unfold add at h;split at h
 ·exact addF_mem p d false x h
 ·exact .inl h
end D
end Go.Proofs.YtdnijgdmohinlaaGreat
namespace Go.Proofs.YtdnijgdmohinlaaGreat
open Go.RowKit A
end Go.Proofs.YtdnijgdmohinlaaGreat
end
section
namespace Go.Proofs.YtdnijgdmohinlaaGreat
open Go.RowKit A R
open A.RowT
namespace D
def cmpS (a b:ByteArray):Int:=if Op.bytesLess a.toList b.toList then -1 else if Op.bytesLess b.toList a.toList then 1 else 0
theorem cmp_lt {a b:ByteArray}:cmpS a b<0↔Op.bytesLess a.toList b.toList=true:=by
 unfold cmpS
 cases h:Op.bytesLess a.toList b.toList<;>cases Op.bytesLess b.toList a.toList<;>simp
theorem cmp_ge {a b:ByteArray}(h:Op.bytesLess a.toList b.toList=false):0≤cmpS a b:=Int.not_lt.1 λe=>by rw[cmp_lt.1 e]at h;cases h
theorem cmp_eq {a b:ByteArray}:cmpS a b=0↔a.toList=b.toList:=by
 unfold cmpS
 cases h:Op.bytesLess a.toList b.toList<;>cases h2:Op.bytesLess b.toList a.toList<;>simp
 ·exact K.bl_tri _ _ h h2
 ·intro e;rw[e,K.bl_irrefl]at h2;cases h2
 ·intro e;rw[e,K.bl_irrefl]at h;cases h
 ·intro e;rw[e,K.bl_irrefl]at h;cases h
def Srt (p:List Dep):Prop:=p.Pairwise λx y=>Op.bytesLess x.key.toList y.key.toList=true
structure Good (p:List Dep):Prop where
 srt:Srt p
 ok:∀x∈p,okB x=true
def pos:List Dep→ByteArray→Nat
 | [],_=>0
 | x::r,k=>if Op.bytesLess x.key.toList k.toList then pos r k+1 else 0
theorem pos_le:∀(p:List Dep) (k:ByteArray),pos p k≤p.length
 | [],_=>Nat.le_refl _
 | x::r,k=>by
  unfold pos
  have:=pos_le r k
  split
  ·simp;omega
  ·simp
theorem pos_lo:∀(p:List Dep) (k:ByteArray) (j:Nat) (hj:j<p.length),j<pos p k→Op.bytesLess p[j].key.toList k.toList=true
 | [],_,j,hj,_=>by cases hj
 | x::r,k,j,hj,h=>by
  unfold pos at h
  split at h
  ·rename_i hx
   cases j with
   | zero=>exact hx
   | succ j=>exact pos_lo r k j (by simpa using hj) (by omega)
  ·omega
theorem pos_hi:∀(p:List Dep) (k:ByteArray),Srt p→∀(j:Nat) (hj:j<p.length),pos p k≤j→Op.bytesLess p[j].key.toList k.toList=false
 | [],_,_,j,hj,_=>by cases hj
 | x::r,k,hs,j,hj,h=>by
  have hc:=List.pairwise_cons.1 hs
  unfold pos at h
  split at h
  ·cases j with
   | zero=>omega
   | succ j=>exact pos_hi r k hc.2 j (by simpa using hj) (by omega)
  ·rename_i hx
   have hx:Op.bytesLess x.key.toList k.toList=false:=by simpa using hx
   cases j with
   | zero=>exact hx
   | succ j =>
    cases h2:Op.bytesLess (x::r)[j+1].key.toList k.toList with
    | false=>rfl
    | true =>
     have h3:=hc.1 _ (List.getElem_mem (by simpa using hj:j<r.length))
     have:=K.bl_trans _ _ _ h3 h2
     rw[hx]at this;cases this
def hasK (p:List Dep) (k:ByteArray):Bool:=p.any λx=>x.key.toList==k.toList
theorem pos_has {p:List Dep}{k:ByteArray}(hs:Srt p):(decide (pos p k<p.length)&&decide (cmpS (p.getD (pos p k) default).key k=0))=hasK p k:=by
 unfold hasK
 cases h:p.any λx=>x.key.toList==k.toList with
 | true =>
  obtain⟨x,hx,he⟩:=List.any_eq_true.1 h
  obtain⟨j,hj,rfl⟩:=List.getElem_of_mem hx
  have he:p[j].key.toList=k.toList:=by simpa using he
  have h1:pos p k=j:=by
   rcases Nat.lt_trichotomy (pos p k) j with h2|h2|h2
   ·have h3:=pos_hi p k hs (pos p k) (by omega) (Nat.le_refl _)
    have h4:=List.pairwise_iff_getElem.1 hs (pos p k) j (by omega) hj h2
    rw[he]at h4;rw[h4]at h3;cases h3
   ·exact h2
   ·have h3:=pos_lo p k j hj h2
    rw[he,K.bl_irrefl]at h3;cases h3
  rw[h1]
  simp[hj,cmp_eq.2 he]
 | false =>
  by_cases h1:pos p k<p.length
  ·have h2:¬cmpS (p.getD (pos p k) default).key k=0:=λe=>by
    have e:=cmp_eq.1 e
    rw[List.any_eq_false]at h
    exact h p[pos p k] (List.getElem_mem h1) (by simpa [h1]using e)
   simp only[h2,decide_false,Bool.and_false]
  ·simp[h1]
theorem byte_inj {a b:ByteArray}(h:a.toList=b.toList):a=b:=by
 rw[ByteArray.toList_eq,ByteArray.toList_eq]at h
 exact ByteArray.ext (Array.toList_inj.1 h)
theorem pos_at {p:List Dep}{k:ByteArray}(hs:Srt p) (h:hasK p k=true):∃hj:pos p k<p.length,p[pos p k].key=k:=by
 rw[←pos_has hs]at h
 simp only[Bool.and_eq_true,decide_eq_true_eq]at h
 refine⟨h.1,?_⟩
 have:=cmp_eq.1 h.2
 simp only[List.getD_eq_getElem?_getD,h.1,List.getElem?_eq_getElem,Option.getD_some]at this
 exact byte_inj this
def get (p:List Dep) (k:ByteArray):Int×Int:=match p.find? λx=>x.key.toList==k.toList with
 | some x=>(x.n,x.s)
 | none=>(0,0)
theorem get_no {p:List Dep}{k:ByteArray}(h:hasK p k=false):get p k=(0,0):=by
 unfold get
 have:p.find? (λx=>x.key.toList==k.toList)=none:=by
  rw[List.find?_eq_none]
  intro x hx
  have:=List.any_eq_false.1 h x hx
  simpa using this
 rw[this]
theorem get_first:∀{p:List Dep}{k:ByteArray}{j:Nat}(hj:j<p.length),p[j].key.toList=k.toList→(∀(i:Nat) (hi:i<p.length),i<j→¬p[i].key.toList=k.toList)→get p k=(p[j].n,p[j].s)
 | [],_,j,hj,_,_=>by cases hj
 | x::r,k,0,_,h,_=>by
  unfold get
  rw[List.find?_cons_of_pos (by simpa using h)];rfl
 | x::r,k,j+1,hj,h,hn=>by
  have h0:=hn 0 (by simp) (by omega)
  have ih:=get_first (p:=r) (k:=k) (j:=j) (by simpa using hj) (by simpa using h) (λi hi hij=>by have:=hn (i+1) (by simpa using hi) (by omega);rwa [List.getElem_cons_succ]at this)
  unfold get at *
  rw[List.find?_cons_of_neg (by simpa using h0),ih];rfl
theorem get_pos {p:List Dep}{k:ByteArray}(hs:Srt p) (h:hasK p k=true) {x:Dep}(hx:p.getD (pos p k) default=x):get p k=(x.n,x.s):=by
 obtain⟨hj,he⟩:=pos_at hs h
 have:p[pos p k]=x:=by rw[←hx];simp[hj]
 rw[←this]
 refine get_first hj (by rw[he]) λi hi hij e=>?_
 have:=pos_lo p k i hi hij
 rw[e,K.bl_irrefl]at this;cases this
theorem addF_true:∀(r:List Dep) (d:Dep),(∀x∈r,eqB x d=false)→addF r d true=r
 | [],d,_=>by simp[addF]
 | x::r,d,h=>by
  rw[addF,if_neg (by simp[h x (by simp)]),if_pos rfl,addF_true r d λy hy=>h y (by simp[hy])]
theorem eq_toList {x d:Dep}:eqB x d=true↔x.key.toList=d.key.toList:=by unfold eqB;simp
theorem addF_srt:∀(p:List Dep) (d:Dep),Srt p→addF p d false=(if hasK p d.key then p.take (pos p d.key)++(if lessB (p.getD (pos p d.key) default).n (p.getD (pos p d.key) default).s d.n d.s then d else p.getD (pos p d.key) default)::p.drop (pos p d.key+1)else p.take (pos p d.key)++d::p.drop (pos p d.key))
 | [],d,_=>by simp[addF,hasK,pos]
 | x::r,d,hs=>by
  have hc:=List.pairwise_cons.1 hs
  have ih:=addF_srt r d hc.2
  rw[addF]
  cases he:eqB x d with
  | true =>
   have he':=eq_toList.1 he
   have hp:pos (x::r) d.key=0:=by unfold pos;rw[he',K.bl_irrefl];rfl
   have hh:hasK (x::r) d.key=true:=by simp[hasK,he']
   have hr:addF r d true=r:=addF_true r d λy hy=>by
    cases h:eqB y d with
    | false=>rfl
    | true =>
     have:=hc.1 y hy
     rw[eq_toList.1 h,he',K.bl_irrefl]at this;cases this
   rw[if_pos rfl,hr,if_pos hh,hp]
   simp
  | false =>
   have hne:¬x.key.toList=d.key.toList:=λe=>by rw[eq_toList.2 e]at he;cases he
   cases hl:ltB x d with
   | true =>
    have hl':Op.bytesLess x.key.toList d.key.toList=true:=hl
    have hp:pos (x::r) d.key=pos r d.key+1:=by rw[pos,if_pos hl']
    have hh:hasK (x::r) d.key=hasK r d.key:=by unfold hasK;rw[List.any_cons];simp[hne]
    rw[if_neg (by simp),if_neg (by simp),if_pos rfl,ih,hp,hh]
    cases hasK r d.key<;>simp
   | false =>
    have hl':Op.bytesLess x.key.toList d.key.toList=false:=hl
    have hp:pos (x::r) d.key=0:=by rw[pos,if_neg (by simp[hl'])]
    have hlt:Op.bytesLess d.key.toList x.key.toList=true:=by
     cases h:Op.bytesLess d.key.toList x.key.toList with
     | true=>rfl
     | false=>exact absurd (K.bl_tri _ _ hl' h) hne
    have hno:∀y∈r,eqB y d=false:=λy hy=>by
     cases h:eqB y d with
     | false=>rfl
     | true =>
      have:=K.bl_trans _ _ _ hlt (hc.1 y hy)
      rw[eq_toList.1 h,K.bl_irrefl]at this;cases this
    have hh:hasK (x::r) d.key=false:=by
     unfold hasK
     rw[List.any_eq_false]
     intro y hy
     rcases List.mem_cons.1 hy with rfl|hy
     ·simpa using hne
     ·have:=hno y hy;unfold eqB at this;simp[this]
    rw[if_neg (by simp),if_neg (by simp),if_neg (by simp),addF_true r d hno,hh,hp]
    simp
theorem add_no {p:List Dep}{d:Dep}(h:okB d=false):add p d=p:=by unfold add;rw[h];rfl
theorem add_new {p:List Dep}{d:Dep}(hs:Srt p) (h:okB d=true) (hk:hasK p d.key=false):add p d=p.take (pos p d.key)++d::p.drop (pos p d.key):=by
 unfold add
 rw[if_pos h,addF_srt p d hs,hk];rfl
theorem add_old {p:List Dep}{d:Dep}(hs:Srt p) (h:okB d=true) (hk:hasK p d.key=true):add p d=p.set (pos p d.key) (if lessB (p.getD (pos p d.key) default).n (p.getD (pos p d.key) default).s d.n d.s then d else p.getD (pos p d.key) default):=by
 unfold add
 obtain⟨hj,_⟩:=pos_at hs hk
 rw[if_pos h,addF_srt p d hs,if_pos hk,List.set_eq_take_append_cons_drop,if_pos hj]
theorem add_good {p:List Dep}(hp:Good p) (d:Dep):Good (add p d):=by
 cases hd:okB d with
 | false=>rw[add_no hd];exact hp
 | true =>
  refine⟨?_,λx hx=>?_⟩
  ·have key:∀(p:List Dep),Srt p→(∀x:Dep,(∀y∈p,Op.bytesLess x.key.toList y.key.toList=true)→Op.bytesLess x.key.toList d.key.toList=true→∀y∈addF p d false,Op.bytesLess x.key.toList y.key.toList=true)∧Srt (addF p d false):=by
    intro p
    induction p with
    | nil=>intro _;exact⟨λx _ h y hy=>by simp[addF]at hy;subst hy;exact h,by simp[addF,Srt]⟩
    | cons z r ih =>
     intro hs
     have hc:=List.pairwise_cons.1 hs
     have hmem:∀(q:List Dep) (put:Bool) (y:Dep),y∈addF q d put→y∈q∨y=d:=λq put y=>addF_mem q d put y
     refine⟨λx h1 h2 y hy=>?_,?_⟩
     ·rcases hmem _ _ _ hy with h|rfl
      ·exact h1 y h
      ·exact h2
     ·rw[addF]
      split
      ·rename_i he
       have he':=eq_toList.1 he
       have hr:addF r d true=r:=addF_true r d λy hy=>by
        cases h:eqB y d with
        | false=>rfl
        | true =>
         have:=hc.1 y hy
         rw[eq_toList.1 h,he',K.bl_irrefl]at this;cases this
       rw[hr]
       refine List.pairwise_cons.2 ⟨λy hy=>?_,hc.2⟩
       have h3:=hc.1 y hy
       split
       ·rw[←he'];exact h3
       ·exact h3
      ·rename_i he
       have hne:¬z.key.toList=d.key.toList:=λe=>he (eq_toList.2 e)
       rw[if_neg (by simp)]
       split
       ·rename_i hl
        exact List.pairwise_cons.2 ⟨(ih hc.2).1 z hc.1 hl,(ih hc.2).2⟩
       ·rename_i hl
        have hl':Op.bytesLess z.key.toList d.key.toList=false:=by unfold ltB at hl;simpa using hl
        have hlt:Op.bytesLess d.key.toList z.key.toList=true:=by
         cases h:Op.bytesLess d.key.toList z.key.toList with
         | true=>rfl
         | false=>exact absurd (K.bl_tri _ _ hl' h) hne
        have hno:∀y∈r,eqB y d=false:=λy hy=>by
         cases h:eqB y d with
         | false=>rfl
         | true =>
          have:=K.bl_trans _ _ _ hlt (hc.1 y hy)
          rw[eq_toList.1 h,K.bl_irrefl]at this;cases this
        rw[addF_true r d hno]
        refine List.pairwise_cons.2 ⟨λy hy=>?_,hs⟩
        rcases List.mem_cons.1 hy with rfl|hy
        ·exact hlt
        ·exact K.bl_trans _ _ _ hlt (hc.1 y hy)
   have:=(key p hp.srt).2
   unfold add
   rw[if_pos hd]
   exact this
  ·rcases add_mem p d x hx with h|rfl
   ·exact hp.ok x h
   ·exact hd
theorem less_eq (a b c d:Int):(!(a==c&&b==d)&&(decide (a<c)||decide (a=c)&&decide (b≤d)))=lessB a b c d:=by
 unfold lessB
 by_cases h:a=c<;>by_cases h2:b=d<;>simp[h,h2]<;>first|omega|(rw[Bool.eq_iff_iff];simp;omega)
theorem ok_stamp {d:Dep}(h:okB d=true):1≤d.n∧d.n≤1099511627776∧0≤d.s∧d.s<6:=by
 unfold okB V.stampB at h
 simp only[Bool.and_eq_true,decide_eq_true_eq]at h
 obtain⟨_,h⟩:=h
 refine⟨?_,?_,?_,?_⟩<;>omega
end D
theorem check_a (s:ByteArray):ACall Tryz.prog 238 [tv s] (bv (K.checkB s)):=A.ofv (λ_ _=>by kernel_rfl) trivial λM w vs ha=>by
 obtain⟨rfl,h⟩:=A.all1 ha
 exact check_any s h w
set_option maxRecDepth 100000 in
theorem stcheck_a (n s:Int):ACall Tryz.prog 298 [.row [iv n,iv s]] (bv (V.stampB n s)):=by
 refine AC_1 Tryz.func298 Tryz.ntmps298 Tryz.results298 λhok M0 w0 hnl=>?_
 refine Aw_sr ?_
 refine Al_p Pu_bN ?_
 refine Al_mr ?_
 refine Al_ns ?_
 refine Al_p (Pu_fd 0 Tryz.underlying47 Tryz.sizeOf3) ?_
 refine Al_p (Pu_l1 Tryz.isAgg3) ?_
 refine Al_p Pu_cp ?_
 refine Al_ml ?_
 refine Al_s (St_g [] trivial (λ_=>Pu_fd 0 Tryz.underlying47 Tryz.sizeOf3)) ?_
 refine Al_s (St_g [7] ⟨⟨_,rfl⟩,trivial⟩ (λ_=>Pu_l1 Tryz.isAgg3)) ?_
 refine Al_s (St_g [8] ⟨⟨_,rfl⟩,trivial⟩ (λ_=>Pu_cp)) ?_
 refine Al_p Pu_a ?_
 refine Al_ml ?_
 refine Al_s (St_g [] trivial (λ_=>Pu_fd 1 Tryz.underlying47 Tryz.sizeOf3)) ?_
 refine Al_s (St_g [12] ⟨⟨_,rfl⟩,trivial⟩ (λ_=>Pu_l1 Tryz.isAgg3)) ?_
 refine Al_s (St_g [13] ⟨⟨_,rfl⟩,trivial⟩ (λ_=>Pu_cp)) ?_
 refine Al_p Pu_a ?_
 refine Al_ml ?_
 refine Al_s (St_g [] trivial (λ_=>Pu_fd 1 Tryz.underlying47 Tryz.sizeOf3)) ?_
 refine Al_s (St_g [17] ⟨⟨_,rfl⟩,trivial⟩ (λ_=>Pu_l1 Tryz.isAgg3)) ?_
 refine Al_s (St_g [18] ⟨⟨_,rfl⟩,trivial⟩ (λ_=>Pu_cp)) ?_
 refine Al_p Pu_a ?_
 refine Al_mr ?_
 refine Al_nil ?_
 exact Aw_ret (Sub.bool (by unfold V.stampB;simp[Bool.and_assoc]))
set_option maxRecDepth 100000 in
theorem less_a (a b c d:Int):ACall Tryz.prog 174 [.row [iv a,iv b],.row [iv c,iv d]] (bv (D.lessB a b c d)):=by
 refine AC_1 Tryz.func174 Tryz.ntmps174 Tryz.results174 λhok M0 w0 hnl=>?_
 refine Aw_sr ?_
 refine Al_p Pu_bN ?_
 refine Al_p Pu_bN ?_
 refine Al_mr ?_
 refine Al_ns ?_
 refine Al_p (Pu_lN Tryz.isAgg47 Tryz.sizeOf47) ?_
 refine Al_p (Pu_lN Tryz.isAgg47 Tryz.sizeOf47) ?_
 refine Al_p (Pu_eqrow [.int .i64 _,.int .i64 _] [.int .i64 _,.int .i64 _] (λw=>nev47 _ _ _ _ _ _ w) rfl rfl rfl) ?_
 refine Al_ml ?_
 refine Al_s (St_g [] trivial (λ_=>Pu_fd 0 Tryz.underlying47 Tryz.sizeOf3)) ?_
 refine Al_s (St_g [9] ⟨⟨_,rfl⟩,trivial⟩ (λ_=>Pu_l1 Tryz.isAgg3)) ?_
 refine Al_s (St_g [] trivial (λ_=>Pu_fd 0 Tryz.underlying47 Tryz.sizeOf3)) ?_
 refine Al_s (St_g [11] ⟨⟨_,rfl⟩,trivial⟩ (λ_=>Pu_l1 Tryz.isAgg3)) ?_
 refine Al_s (St_g [10,12] ⟨⟨_,rfl⟩,⟨_,rfl⟩,trivial⟩ (λ_=>Pu_cp)) ?_
 refine Al_s (St_g [13] ⟨⟨_,rfl⟩,trivial⟩ (λ_=>Pu_mvl)) ?_
 refine Al_s (St_gd2 [] rfl rfl rfl rfl trivial (λhp15 hg15=>Pu_fd 0 Tryz.underlying47 Tryz.sizeOf3)) ?_
 refine Al_s (St_gd2 [15] rfl rfl rfl rfl ⟨⟨_,rfl⟩,trivial⟩ (λhp16 hg16=>Pu_l1 Tryz.isAgg3)) ?_
 refine Al_s (St_gd2 [] rfl rfl rfl rfl trivial (λhp17 hg17=>Pu_fd 0 Tryz.underlying47 Tryz.sizeOf3)) ?_
 refine Al_s (St_gd2 [17] rfl rfl rfl rfl ⟨⟨_,rfl⟩,trivial⟩ (λhp18 hg18=>Pu_l1 Tryz.isAgg3)) ?_
 refine Al_s (St_gd2 [16,18] rfl rfl rfl rfl ⟨⟨_,rfl⟩,⟨_,rfl⟩,trivial⟩ (λhp19 hg19=>Pu_cp)) ?_
 refine Al_s (St_gd2 [19] rfl rfl rfl rfl ⟨⟨_,rfl⟩,trivial⟩ (λhp20 hg20=>Pu_mvl)) ?_
 refine Al_s (St_gd2 [] rfl rfl rfl rfl trivial (λhp21 hg21=>Pu_fd 1 Tryz.underlying47 Tryz.sizeOf3)) ?_
 refine Al_s (St_gd2 [21] rfl rfl rfl rfl ⟨⟨_,rfl⟩,trivial⟩ (λhp22 hg22=>Pu_l1 Tryz.isAgg3)) ?_
 refine Al_s (St_gd2 [] rfl rfl rfl rfl trivial (λhp23 hg23=>Pu_fd 1 Tryz.underlying47 Tryz.sizeOf3)) ?_
 refine Al_s (St_gd2 [23] rfl rfl rfl rfl ⟨⟨_,rfl⟩,trivial⟩ (λhp24 hg24=>Pu_l1 Tryz.isAgg3)) ?_
 refine Al_s (St_gd2 [22,24] rfl rfl rfl rfl ⟨⟨_,rfl⟩,⟨_,rfl⟩,trivial⟩ (λhp25 hg25=>Pu_cp)) ?_
 refine Al_s (St_gd2 [20] rfl rfl rfl rfl ⟨⟨_,rfl⟩,trivial⟩ (λhp26 hg26=>Pu_andG rfl rfl (λh=>⟨⟨hp26,hg26⟩,h⟩) rfl rfl)) ?_
 refine Al_s (St_g [14] ⟨⟨_,rfl⟩,trivial⟩ (λhg27=>Pu_orG rfl rfl rfl (λh=>⟨hg27,h⟩) rfl)) ?_
 refine Al_p Pu_a ?_
 refine Al_mr ?_
 refine Al_nil ?_
 exact Aw_ret (Sub.bool (D.less_eq a b c d))
theorem isnan_a (s:ByteArray):ACall Tryz.prog 379 [tv s] (bv false):=by
 refine AC_1 Tryz.func379 Tryz.ntmps379 Tryz.results379 λhok M0 w0 hnl=>?_
 refine Aw_sr ?_
 refine Al_mr ?_
 refine Al_ns ?_
 refine Al_ml ?_
 refine Al_ml ?_
 refine Al_p Pu_sr ?_
 refine Al_mr ?_
 refine Al_nil ?_
 exact Aw_ret (Sub.bool (by simp))
set_option maxRecDepth 100000 in
theorem cmps_a (s t:ByteArray):ACall Tryz.prog 358 [tv s,tv t] (iv (D.cmpS s t)):=by
 refine AC_1 Tryz.func358 Tryz.ntmps358 Tryz.results358 λhok M0 w0 hnl=>?_
 refine Aw_sr ?_
 refine Al_mr ?_
 refine Al_ns ?_
 refine Al_ml ?_
 refine Al_p (Pu_call (isnan_a s) rfl ⟨Sub.rfl,trivial⟩) ?_
 refine Al_mr ?_
 refine Al_ns ?_
 refine Al_ml ?_
 refine Al_p (Pu_call (isnan_a t) rfl ⟨Sub.rfl,trivial⟩) ?_
 refine Al_mr ?_
 refine Al_nil (Aw_seq (Aw_sr ?_))
 refine Al_ml ?_
 refine Al_nil ?_
 refine Aw_condF rfl (rfl) ?_
 refine Aw_skip (Aw_seq (Aw_sr ?_))
 refine Al_ml ?_
 refine Al_nil ?_
 refine Aw_condF rfl (rfl) ?_
 refine Aw_skip (Aw_seq (Aw_sr ?_))
 refine Al_ml ?_
 refine Al_ml ?_
 refine Al_p Pu_sr ?_
 refine Al_nil ?_
 refine Aw_cond rfl (λh16=>?_) (λh16=>?_)
 ·(try simp only[A.cd_]at h16)
  refine Aw_sr ?_
  refine Al_mr ?_
  refine Al_nil ?_
  exact Aw_ret (Sub.num (by unfold D.cmpS;simp_all))
 ·(try simp only[A.cd_]at h16)
  refine Aw_skip (Aw_seq (Aw_sr ?_))
  refine Al_ml ?_
  refine Al_ml ?_
  refine Al_p Pu_sr ?_
  refine Al_nil ?_
  refine Aw_cond rfl (λh19=>?_) (λh19=>?_)
  ·(try simp only[A.cd_]at h19)
   have hlt:Op.bytesLess t.toList s.toList=true:=by
    cases h:Op.bytesLess t.toList s.toList with
    | true=>rfl
    | false=>have:=K.bl_tri _ _ (by simpa using h16) h;simp_all
   refine Aw_sr ?_
   refine Al_mr ?_
   refine Al_nil ?_
   exact Aw_ret (Sub.num (by unfold D.cmpS;simp_all))
  ·(try simp only[A.cd_]at h19)
   refine Aw_skip (Aw_sr ?_)
   refine Al_mr ?_
   refine Al_nil ?_
   exact Aw_ret (Sub.num (by unfold D.cmpS;simp_all))
set_option maxRecDepth 100000 in
theorem pfindc_a (d:Dep) (k:ByteArray):ACall Tryz.prog 357 [.row d.row,tv k] (iv (D.cmpS d.key k)):=by
 refine AC_1 Tryz.func357 Tryz.ntmps357 Tryz.results357 λhok M0 w0 hnl=>?_
 refine Aw_sr ?_
 refine Al_p Pu_bN ?_
 refine Al_mr ?_
 refine Al_ns ?_
 refine Al_p (Pu_fd 0 Tryz.underlying110 Tryz.sizeOf9) ?_
 refine Al_p (Pu_l1 Tryz.isAgg9) ?_
 refine Al_ml ?_
 refine Al_p (Pu_call (cmps_a d.key k) rfl ⟨Sub.rfl,Sub.rfl,trivial⟩) ?_
 refine Al_mr ?_
 refine Al_nil ?_
 exact Aw_ret (Sub.rfl)
set_option maxRecDepth 100000 in
theorem pfind_a (p:List Dep) (k:ByteArray) (hs:D.Srt p) (hl:p.length≤1000000):ACall Tryz.prog 307 [.sl 3 (p.map Dep.row),tv k] (.tup [iv (D.pos p k),bv (D.hasK p k)]):=by
 refine AC_2 Tryz.func307 Tryz.ntmps307 Tryz.results307 λhok M0 w0 hnl=>?_
 refine Aw_sr ?_
 refine Al_mr ?_
 refine Al_mr ?_
 refine Al_ns ?_
 refine Al_ml ?_
 refine Al_ml ?_
 refine Al_p (Pu_call (bsearchD_a p (tv k) _ (λx=>D.cmpS x.key k) (D.pos p k) (λx=>pfindc_a x k) hl (D.pos_le p k) (λj hj h=>D.cmp_lt.2 (D.pos_lo p k j hj h)) (λj hj h=>D.cmp_ge (D.pos_hi p k hs j hj h))) rfl ⟨Sub.rfl,Sub.rfl,Sub.rfl,trivial⟩) ?_
 refine Al_p Pu_ex ?_
 refine Al_p Pu_ex ?_
 refine Al_mr ?_
 refine Al_mr ?_
 refine Al_nil ?_
 exact Aw_ret (⟨Sub.rfl,Sub.bool (D.pos_has hs)⟩)
set_option maxRecDepth 100000 in
theorem pget_a (p:List Dep) (k:ByteArray) (hs:D.Srt p) (hl:p.length≤1000000):ACall Tryz.prog 324 [.sl 3 (p.map Dep.row),tv k] (.row [iv (D.get p k).1,iv (D.get p k).2]):=by
 refine AC_G Tryz.func324 Tryz.ntmps324 (Reads.cN Tryz.results324 Tryz.isAgg47 Tryz.sizeOf47) λhok M0 w0 hnl=>?_
 refine Aw_sr ?_
 refine Al_al Tryz.zeroValue47 λg4=>?_
 refine Al_ns ?_
 refine Al_ml ?_
 refine Al_ml ?_
 refine Al_p (Pu_call (pfind_a p k hs hl) rfl ⟨Sub.rfl,Sub.rfl,trivial⟩) ?_
 refine Al_ml ?_
 refine Al_p Pu_ex ?_
 refine Al_p Pu_ex ?_
 refine Al_mr ?_
 refine Al_mr ?_
 refine Al_nil (Aw_seq (Aw_sr ?_))
 refine Al_ml ?_
 refine Al_p Pu_n ?_
 refine Al_nil ?_
 refine Aw_cond rfl (λh14=>?_) (λh14=>?_)
 ·skip
  have hk:D.hasK p k=false:=by simpa using h14
  refine Aw_sr ?_
  refine Al_p (Pu_build (aa:=[]) rfl Tryz.underlying47 Tryz.zeroValue47 places47 (by kernel_rfl) trivial rfl) ?_
  refine Al_sN Tryz.isAgg47 Tryz.sizeOf47 ?_
  refine Al_nil ?_
  refine Aw_ret ?_
  rw[D.get_no hk];exact⟨_,_,_,_,_,[_,_],rfl,rfl,rfl,rfl,rfl⟩
 ·skip
  have hk:D.hasK p k=true:=by simpa using h14
  obtain⟨hj,he⟩:=D.pos_at hs hk
  have hg:D.get p k=((p.getD (D.pos p k) default).n,(p.getD (D.pos p k) default).s):=D.get_pos hs hk rfl
  refine Aw_skip (Aw_sr ?_)
  refine Al_ml ?_
  refine Al_ml ?_
  refine Al_p (Pu_index rfl Tryz.underlying48 Tryz.sizeOf110 rfl rfl (rfl) (mapgetD (d:=default) hj)) ?_
  refine Al_p (Pu_fd 1 Tryz.underlying110 Tryz.sizeOf47) ?_
  refine Al_p (Pu_lN Tryz.isAgg47 Tryz.sizeOf47) ?_
  refine Al_sN Tryz.isAgg47 Tryz.sizeOf47 ?_
  refine Al_nil ?_
  refine Aw_ret ?_
  rw[hg];exact⟨_,_,_,_,_,[_,_],rfl,rfl,rfl,rfl,rfl⟩
set_option maxRecDepth 100000 in
theorem pmay_a (d:Dep):ACall Tryz.prog 308 [.row d.row] (bv (D.okB d)):=by
 refine AC_1 Tryz.func308 Tryz.ntmps308 Tryz.results308 λhok M0 w0 hnl=>?_
 refine Aw_sr ?_
 refine Al_p Pu_bN ?_
 refine Al_mr ?_
 refine Al_ns ?_
 refine Al_p (Pu_fd 0 Tryz.underlying110 Tryz.sizeOf9) ?_
 refine Al_p (Pu_l1 Tryz.isAgg9) ?_
 refine Al_p (Pu_call (check_a d.key) rfl ⟨Sub.rfl,trivial⟩) ?_
 refine Al_ml ?_
 refine Al_s (St_g [] trivial (λ_=>Pu_fd 1 Tryz.underlying110 Tryz.sizeOf47)) ?_
 refine Al_s (St_g [7] ⟨⟨_,rfl⟩,trivial⟩ (λ_=>Pu_lN Tryz.isAgg47 Tryz.sizeOf47)) ?_
 refine Al_s (St_g [8] ⟨⟨_,rfl⟩,trivial⟩ (λ_=>Pu_call (stcheck_a d.n d.s) rfl ⟨Sub.rfl,trivial⟩)) ?_
 refine Al_p Pu_a ?_
 refine Al_mr ?_
 refine Al_nil ?_
 exact Aw_ret (Sub.rfl)
def D.maxS (l:List (Int×Int)):Int×Int:=l.foldl (λm s=>if D.lessB m.1 m.2 s.1 s.2 then s else m) (0,0)
theorem D.maxS_take (l:List (Int×Int)) {k:Nat}(hk:k<l.length):D.maxS (l.take (k+1))=if D.lessB (D.maxS (l.take k)).1 (D.maxS (l.take k)).2 l[k].1 l[k].2 then l[k]else D.maxS (l.take k):=by
 rw[List.take_succ_eq_append_getElem hk];unfold D.maxS;rw[List.foldl_append];rfl
set_option maxRecDepth 100000 in
theorem smax_a (l:List (Int×Int)):ACall Tryz.prog 227 [.sl 2 (l.map λs=>[iv s.1,iv s.2])] (.row [iv (D.maxS l).1,iv (D.maxS l).2]):=by
 refine AC_G Tryz.func227 Tryz.ntmps227 (Reads.cN Tryz.results227 Tryz.isAgg47 Tryz.sizeOf47) λhok M0 w0 hnl=>?_
 have hlen:=(hok _ (List.mem_cons_self ..)).len
 rw[List.length_map]at hlen
 refine Aw_sr ?_
 refine Al_al Tryz.zeroValue47 λg2=>?_
 refine Al_ns ?_
 refine Al_al Tryz.zeroValue47 λg3=>?_
 refine Al_nil (Aw_seq (Aw_sr ?_))
 refine Al_ml ?_
 refine Al_p (Pu_ln Tryz.underlying214) ?_
 refine Al_ml ?_
 refine Al_nil (Aw_block ?_)
 refine Aw_loopk (ι:=Nat) [2,3,6,7] [2] (λk=>[(8,.d (iv k))]) (λk=>[(3,g3,.box 47 [.d (iv (D.maxS (l.take k)).1),.d (iv (D.maxS (l.take k)).2)])]) (λk=>k≤l.length) (λk=>l.length - k) (0) (Nat.zero_le _) ⟨Sub.rfl,trivial⟩ ⟨rfl,trivial⟩ ?_
 rintro k hk0
 refine Aw_sr ?_
 refine Al_p Pu_cp ?_
 refine Al_nil (Aw_seq ?_)
 refine Aw_cond rfl (λh9=>?_) (λh9=>?_)
 ·(try simp only[A.cd_]at h9)
  have hk:k<l.length:=by omega
  have hmt:=D.maxS_take l hk
  refine Aw_skip ?_
  refine Aw_seq (Aw_block (Aw_sr ?_))
  refine Al_p (Pu_index rfl Tryz.underlying214 Tryz.sizeOf47 rfl rfl (rfl) (mapget hk)) ?_
  refine Al_p (Pu_lN Tryz.isAgg47 Tryz.sizeOf47) ?_
  refine Al_al Tryz.zeroValue47 λg5=>?_
  refine Al_sN Tryz.isAgg47 Tryz.sizeOf47 ?_
  refine Al_ns ?_
  refine Al_p (Pu_lbN (r:=[_,_]) Tryz.isAgg47 Tryz.sizeOf47) ?_
  refine Al_p (Pu_lbN (r:=[_,_]) Tryz.isAgg47 Tryz.sizeOf47) ?_
  refine Al_p (Pu_call (less_a (D.maxS (l.take k)).1 (D.maxS (l.take k)).2 (l[k]'hk).1 (l[k]'hk).2) rfl ⟨Sub.rfl,Sub.rfl,trivial⟩) ?_
  refine Al_nil ?_
  refine Aw_cond rfl (λh14=>?_) (λh14=>?_)
  ·skip
   rw[if_pos h14]at hmt
   refine Aw_region ?_
   refine Al_p (Pu_lbN (r:=[_,_]) Tryz.isAgg47 Tryz.sizeOf47) ?_
   refine Al_sN Tryz.isAgg47 Tryz.sizeOf47 ?_
   refine Al_nil (Aw_region ?_)
   refine Al_p Pu_ad ?_
   refine Al_ml ?_
   refine Al_nil ?_
   exact⟨k+1,by omega,by omega,Le.ov ⟨Sub.num (by omega),trivial⟩ ⟨Sub.rfl,Sub.rfl,Sub.rfl,Sub.rfl,trivial⟩ ⟨by rw[hmt];rfl,trivial⟩ ⟨rfl,trivial⟩⟩
  ·skip
   rw[if_neg (by rw[h14];decide)]at hmt
   refine Aw_skip (Aw_region ?_)
   refine Al_p Pu_ad ?_
   refine Al_ml ?_
   refine Al_nil ?_
   exact⟨k+1,by omega,by omega,Le.ov ⟨Sub.num (by omega),trivial⟩ ⟨Sub.rfl,Sub.rfl,Sub.rfl,Sub.rfl,trivial⟩ ⟨by rw[hmt];rfl,trivial⟩ ⟨rfl,trivial⟩⟩
 ·(try simp only[A.cd_]at h9)
  obtain rfl:k=l.length:=by omega
  rw[List.take_length]
  refine Aw_exit (Aw_sr ?_)
  refine Al_p (Pu_lbN (r:=[_,_]) Tryz.isAgg47 Tryz.sizeOf47) ?_
  refine Al_sN Tryz.isAgg47 Tryz.sizeOf47 ?_
  refine Al_nil ?_
  exact Aw_ret (⟨_,_,_,_,_,[_,_],rfl,rfl,rfl,rfl,rfl⟩)
namespace D
theorem max_two {x d:Dep}(h:okB x=true):maxS [(x.n,x.s),(d.n,d.s)]=if lessB x.n x.s d.n d.s then(d.n,d.s)else(x.n,x.s):=by
 have h1:=(ok_stamp h).1
 have h2:lessB 0 0 x.n x.s=true:=by
  unfold lessB
  rw[if_neg (by omega)]
  simp;omega
 unfold maxS
 simp only[List.foldl_cons,List.foldl_nil,h2,if_true]
theorem cells_at {p:List Dep}{j:Nat}(hj:j<p.length):((p.map Dep.row).flatten.drop (j*3+1)).take 2=[iv (p.getD j default).n,iv (p.getD j default).s]:=by
 have hu:∀r∈p.map Dep.row,r.length=3:=λr hr=>by obtain⟨x,_,rfl⟩:=List.mem_map.1 hr;rfl
 rw[←List.drop_drop,←flat_drop hu,List.drop_eq_getElem_cons (l:=p.map Dep.row) (by simpa using hj)]
 simp[Dep.row,hj]
theorem cells_set {p:List Dep}{j:Nat}(hj:j<p.length) (n s:Int):((p.set j ⟨(p.getD j default).key,n,s⟩).map Dep.row).flatten=(p.map Dep.row).flatten.take (j*3+1)++[iv n,iv s]++(p.map Dep.row).flatten.drop (j*3+1+2):=by
 have hu:∀r∈p.map Dep.row,r.length=3:=λr hr=>by obtain⟨x,_,rfl⟩:=List.mem_map.1 hr;rfl
 have h1:(p.map Dep.row).flatten.take (j*3+1)=(p.map Dep.row).flatten.take (j*3)++[tv (p.getD j default).key]:=by
  rw[List.take_add,←flat_drop hu,List.drop_eq_getElem_cons (l:=p.map Dep.row) (by simpa using hj)]
  simp[Dep.row,hj]
 have h2:(p.map Dep.row).flatten.drop (j*3+1+2)=(p.map Dep.row).flatten.drop ((j+1)*3):=by congr 1;omega
 rw[h1,h2,←flat_take hu,←flat_drop hu,List.set_eq_take_append_cons_drop,if_pos hj]
 simp[Dep.row]
end D
set_option maxRecDepth 100000 in
set_option maxHeartbeats 1000000 in
theorem padd_a (p:List Dep) (d:Dep) (hp:D.Good p) (hl:p.length≤1000):ACall Tryz.prog 235 [.sl 3 (p.map Dep.row),.row d.row] (.sl 3 ((D.add p d).map Dep.row)):=by
 refine AC_1 Tryz.func235 Tryz.ntmps235 Tryz.results235 λhok M0 w0 hnl=>?_
 have hpl:=D.pos_le p d.key
 refine Aw_sr ?_
 refine Al_p Pu_bN ?_
 refine Al_mr ?_
 refine Al_ns ?_
 refine Al_ml ?_
 refine Al_p (Pu_fd 0 Tryz.underlying110 Tryz.sizeOf9) ?_
 refine Al_p (Pu_l1 Tryz.isAgg9) ?_
 refine Al_p (Pu_call (pfind_a p d.key hp.srt (by omega)) rfl ⟨Sub.rfl,Sub.rfl,trivial⟩) ?_
 refine Al_ml ?_
 refine Al_p Pu_ex ?_
 refine Al_p Pu_ex ?_
 refine Al_mr ?_
 refine Al_mr ?_
 refine Al_nil (Aw_seq (Aw_block (Aw_sr ?_)))
 refine Al_p (Pu_lN Tryz.isAgg110 Tryz.sizeOf110) ?_
 refine Al_p (Pu_call (pmay_a d) rfl ⟨Sub.rfl,trivial⟩) ?_
 refine Al_p Pu_n ?_
 refine Al_mr ?_
 refine Al_nil ?_
 refine Aw_cond rfl (λh15=>?_) (λh15=>?_)
 ·skip
  have hd:D.okB d=false:=by simpa using h15
  refine Aw_sr ?_
  refine Al_ml ?_
  refine Al_mr ?_
  refine Al_nil ?_
  exact Aw_ret (Sub.d (by rw[D.add_no hd]))
 ·skip
  have hd:D.okB d=true:=by simpa using h15
  refine Aw_sr ?_
  refine Al_ml ?_
  refine Al_p Pu_n ?_
  refine Al_mr ?_
  refine Al_nil ?_
  refine Aw_cond rfl (λh20=>?_) (λh20=>?_)
  ·skip
   have hk:D.hasK p d.key=false:=by simpa using h20
   refine Aw_seq ?_
   refine Aw_drawn (by kernel_rfl) ?_
   refine Ad_t 0 rfl (PuI_move (.inl rfl) (by conv=>lhs;whnf)) ?_
   refine Ad_t 2 rfl (PuI_move (.inl rfl) (by conv=>lhs;whnf)) ?_
   refine Ad_two 1 3 rfl rfl (by kernel_rfl) ?_ ?_
   ·refine Al_gcall [] [(1001,24)] (cloneD_g p (by omega)) rfl rfl rfl (by decide) (by kernel_rfl) trivial rfl ⟨Sub.rfl,trivial⟩ (λg24=>?_)
    refine Al_nil ?_
    refine Ad_o 3 ?_
    refine Al_p (Pu_lN Tryz.isAgg110 Tryz.sizeOf110) ?_
    refine Al_nil ?_
    refine Ad_o 4 ?_
    refine Al_sliceLit (aa:=[(0,_)]) (rows:=[d.row]) rfl rfl rfl (by decide) (by kernel_rfl) Tryz.underlying48 Tryz.sizeOf110 Tryz.zeroValue110 rfl (by decide) (by decide) (by decide) (by kernel_rfl) ⟨rfl,rfl,rfl,trivial⟩ (rfl) rfl rfl (λg27=>?_)
    refine Al_nil ?_
    refine Ad_o 5 ?_
    refine Al_gcall [(1001,24,g24),(1002,27,g27)] [(1003,28)] (insertD_g p d (D.pos p d.key) hpl (by omega)) rfl rfl rfl (by decide) (by kernel_rfl) ⟨rfl,rfl,trivial⟩ rfl ⟨Sub.rfl,Sub.rfl,Sub.rfl,trivial⟩ (λg28=>?_)
    refine Al_nil ?_
    refine Ad_t 6 rfl (PuI_move (.inr rfl) (by conv=>lhs;whnf)) ?_
    refine Ad_d ?_
    refine Aw_frz hnl (k:=28) [4] rfl ⟨rfl,trivial⟩ ?_
    exact Aw_ret (Sub.d (by rw[D.add_new hp.srt hd hk]))
   ·refine Al_p (Pu_lN Tryz.isAgg110 Tryz.sizeOf110) ?_
    refine Al_nil ?_
    refine Ad_two 1 4 rfl rfl (by kernel_rfl) ?_ ?_
    ·refine Al_gcall [] [(1001,24)] (cloneD_g p (by omega)) rfl rfl rfl (by decide) (by kernel_rfl) trivial rfl ⟨Sub.rfl,trivial⟩ (λg24=>?_)
     refine Al_nil ?_
     refine Ad_o 4 ?_
     refine Al_sliceLit (aa:=[(0,_)]) (rows:=[d.row]) rfl rfl rfl (by decide) (by kernel_rfl) Tryz.underlying48 Tryz.sizeOf110 Tryz.zeroValue110 rfl (by decide) (by decide) (by decide) (by kernel_rfl) ⟨rfl,rfl,rfl,trivial⟩ (rfl) rfl rfl (λg27=>?_)
     refine Al_nil ?_
     refine Ad_o 5 ?_
     refine Al_gcall [(1001,24,g24),(1002,27,g27)] [(1003,28)] (insertD_g p d (D.pos p d.key) hpl (by omega)) rfl rfl rfl (by decide) (by kernel_rfl) ⟨rfl,rfl,trivial⟩ rfl ⟨Sub.rfl,Sub.rfl,Sub.rfl,trivial⟩ (λg28=>?_)
     refine Al_nil ?_
     refine Ad_t 6 rfl (PuI_move (.inr rfl) (by conv=>lhs;whnf)) ?_
     refine Ad_d ?_
     refine Aw_frz hnl (k:=28) [4] rfl ⟨rfl,trivial⟩ ?_
     exact Aw_ret (Sub.d (by rw[D.add_new hp.srt hd hk]))
    ·refine Al_sliceLit (aa:=[(0,_)]) (rows:=[d.row]) rfl rfl rfl (by decide) (by kernel_rfl) Tryz.underlying48 Tryz.sizeOf110 Tryz.zeroValue110 rfl (by decide) (by decide) (by decide) (by kernel_rfl) ⟨rfl,rfl,rfl,trivial⟩ (rfl) rfl rfl (λg27=>?_)
     refine Al_nil ?_
     refine Ad_o 1 ?_
     refine Al_gcall [] [(1001,24)] (cloneD_g p (by omega)) rfl rfl rfl (by decide) (by kernel_rfl) trivial rfl ⟨Sub.rfl,trivial⟩ (λg24=>?_)
     refine Al_nil ?_
     refine Ad_o 5 ?_
     refine Al_gcall [(1001,24,g24),(1002,27,g27)] [(1003,28)] (insertD_g p d (D.pos p d.key) hpl (by omega)) rfl rfl rfl (by decide) (by kernel_rfl) ⟨rfl,rfl,trivial⟩ rfl ⟨Sub.rfl,Sub.rfl,Sub.rfl,trivial⟩ (λg28=>?_)
     refine Al_nil ?_
     refine Ad_t 6 rfl (PuI_move (.inr rfl) (by conv=>lhs;whnf)) ?_
     refine Ad_d ?_
     refine Aw_frz hnl (k:=28) [4] rfl ⟨rfl,trivial⟩ ?_
     exact Aw_ret (Sub.d (by rw[D.add_new hp.srt hd hk]))
  ·skip
   have hk:D.hasK p d.key=true:=by simpa using h20
   obtain⟨hj,hje⟩:=D.pos_at hp.srt hk
   have hg:p.getD (D.pos p d.key) default=p[D.pos p d.key]:=by simp[hj]
   have hok2:D.okB (p.getD (D.pos p d.key) default)=true:=by rw[hg];exact hp.ok _ (List.getElem_mem hj)
   have hke:(p.getD (D.pos p d.key) default).key=d.key:=by rw[hg,hje]
   have hmx:=D.max_two (d:=d) hok2
   have hma:=smax_a [((p.getD (D.pos p d.key) default).n,(p.getD (D.pos p d.key) default).s),(d.n,d.s)]
   have hca:=D.cells_at hj
   have hcs:=D.cells_set hj (D.maxS [((p.getD (D.pos p d.key) default).n,(p.getD (D.pos p d.key) default).s),(d.n,d.s)]).1 (D.maxS [((p.getD (D.pos p d.key) default).n,(p.getD (D.pos p d.key) default).s),(d.n,d.s)]).2
   refine Aw_skip (Aw_sr ?_)
   refine Al_ml ?_
   refine Al_gcall [] [(1001,30)] (cloneD_g p (by omega)) rfl rfl rfl (by decide) (by kernel_rfl) trivial rfl ⟨Sub.rfl,trivial⟩ (λg30=>?_)
   refine Al_mr ?_
   refine Al_nil (Aw_seq ?_)
   refine Aw_dr 13 ?_
   refine Dr_ml ?_
   refine Dr_ml ?_
   refine Dr_ml ?_
   refine Dr_ml ?_
   refine Dr_p (Pu_indexOw (j:=D.pos p d.key) rfl Tryz.underlying48 Tryz.sizeOf110 rfl rfl rfl rfl (by rw[List.length_map];exact hj)) ?_
   refine Dr_p (Pu_fb 1 Tryz.underlying110 Tryz.sizeOf47) ?_
   refine Dr_p (Pu_loadArrN rfl Tryz.isAgg47 Tryz.sizeOf47 rfl rfl hca rfl) ?_
   refine Dr_p (Pu_fd 1 Tryz.underlying110 Tryz.sizeOf47) ?_
   refine Dr_p (Pu_lN Tryz.isAgg47 Tryz.sizeOf47) ?_
   refine Dr_p (Pu_buildSlice (aa:=[(0,_),(1,_)]) rfl Tryz.underlying214 Tryz.sizeOf47 Tryz.zeroValue47 rfl (by decide) (by decide) (by decide) (by kernel_rfl) ⟨rfl,rfl,rfl,rfl,rfl,rfl,trivial⟩ ((rfl:_=some [[iv (p.getD (D.pos p d.key) default).n,iv (p.getD (D.pos p d.key) default).s],[iv d.n,iv d.s]].flatten)) rfl rfl) ?_
   refine Dr_p (Pu_call (hma) rfl ⟨Sub.rfl,trivial⟩) ?_
   refine Dr_p (Pu_indexOw (j:=D.pos p d.key) rfl Tryz.underlying48 Tryz.sizeOf110 rfl rfl rfl rfl (by rw[List.length_map];exact hj)) ?_
   refine Dr_p (Pu_fb 1 Tryz.underlying110 Tryz.sizeOf47) ?_
   refine Dr_nil ?_
   refine Al_storeArr ((p.set (D.pos p d.key) ⟨(p.getD (D.pos p d.key) default).key,_,_⟩).map Dep.row) rfl rfl rfl (by kernel_rfl) Tryz.sizeOf47 rfl rfl rfl rfl rfl (by rw[List.length_map];omega) (by simp) (λq hq=>by obtain⟨x,_,rfl⟩:=List.mem_map.1 hq;rfl) hcs ?_
   refine Al_ns ?_
   refine Al_ml ?_
   refine Al_mr ?_
   refine Al_nil ?_
   refine Aw_frz hnl (k:=30) [4] rfl ⟨rfl,trivial⟩ ?_
   refine Aw_ret ?_
   exact Sub.d (by
    rw[D.add_old hp.srt hd hk,hmx]
    congr 3
    split
    ·rw[hke]
    ·rfl)
end Go.Proofs.YtdnijgdmohinlaaGreat
end
section
namespace Go.Proofs
open Go.Shelf
def Tryz.lays190_ren:Go.Shelf.Ren:=⟨fun|190=>313|125=>363|258=>362|128=>390|129=>391|302=>381|303=>382|304=>383|305=>384|306=>385|307=>386|308=>387|309=>388|310=>389|333=>406|329=>407|330=>408|334=>409|335=>410|336=>379|344=>414|n=>n,fun|31=>39|9=>9|3=>3|46=>390|0=>0|51=>409|53=>271|4=>4|183=>402|182=>401|131=>304|5=>5|218=>419|222=>423|228=>426|229=>427|n=>n,fun|n=>n⟩
theorem Tryz.lays190:Go.Proofs.Lays.n190 Tryz.prog Tryz.lays190_ren:={
 mixed:=by kernel_rfl
 f125:=Tryz.func363.trans (congrArg some (by kernel_rfl))
 f128:=Tryz.func390.trans (congrArg some (by kernel_rfl))
 f129:=Tryz.func391.trans (congrArg some (by kernel_rfl))
 f190:=Tryz.func313.trans (congrArg some (by kernel_rfl))
 f258:=Tryz.func362.trans (congrArg some (by kernel_rfl))
 f302:=Tryz.func381.trans (congrArg some (by kernel_rfl))
 f303:=Tryz.func382.trans (congrArg some (by kernel_rfl))
 f304:=Tryz.func383.trans (congrArg some (by kernel_rfl))
 f305:=Tryz.func384.trans (congrArg some (by kernel_rfl))
 f306:=Tryz.func385.trans (congrArg some (by kernel_rfl))
 f307:=Tryz.func386.trans (congrArg some (by kernel_rfl))
 f308:=Tryz.func387.trans (congrArg some (by kernel_rfl))
 f309:=Tryz.func388.trans (congrArg some (by kernel_rfl))
 f310:=Tryz.func389.trans (congrArg some (by kernel_rfl))
 f329:=Tryz.func407.trans (congrArg some (by kernel_rfl))
 f330:=Tryz.func408.trans (congrArg some (by kernel_rfl))
 f333:=Tryz.func406.trans (congrArg some (by kernel_rfl))
 f334:=Tryz.func409.trans (congrArg some (by kernel_rfl))
 f335:=Tryz.func410.trans (congrArg some (by kernel_rfl))
 f336:=Tryz.func379.trans (congrArg some (by kernel_rfl))
 f344:=Tryz.func414.trans (congrArg some (by kernel_rfl))
 t0:=Tryz.underlying0
 a0:=Tryz.isAgg0
 z0:=Tryz.sizeOf0
 v0:=Tryz.zeroValue0
 t3:=Tryz.underlying3
 a3:=Tryz.isAgg3
 z3:=Tryz.sizeOf3
 v3:=Tryz.zeroValue3
 t4:=Tryz.underlying4
 a4:=Tryz.isAgg4
 z4:=Tryz.sizeOf4
 v4:=Tryz.zeroValue4
 t5:=Tryz.underlying5
 a5:=Tryz.isAgg5
 z5:=Tryz.sizeOf5
 v5:=Tryz.zeroValue5
 t9:=Tryz.underlying9
 a9:=Tryz.isAgg9
 z9:=Tryz.sizeOf9
 v9:=Tryz.zeroValue9
 t31:=Tryz.underlying39
 a31:=Tryz.isAgg39
 z31:=Tryz.sizeOf39
 v31:=Tryz.zeroValue39
 t46:=Tryz.underlying390
 a46:=Tryz.isAgg390
 z46:=Tryz.sizeOf390
 v46:=Tryz.zeroValue390
 t51:=Tryz.underlying409
 a51:=Tryz.isAgg409
 z51:=Tryz.sizeOf409
 v51:=Tryz.zeroValue409
 t53:=Tryz.underlying271
 a53:=Tryz.isAgg271
 z53:=Tryz.sizeOf271
 v53:=Tryz.zeroValue271
 t131:=Tryz.underlying304
 a131:=Tryz.isAgg304
 z131:=Tryz.sizeOf304
 v131:=Tryz.zeroValue304
 t182:=Tryz.underlying401
 a182:=Tryz.isAgg401
 z182:=Tryz.sizeOf401
 v182:=Tryz.zeroValue401
 t183:=Tryz.underlying402
 a183:=Tryz.isAgg402
 z183:=Tryz.sizeOf402
 v183:=Tryz.zeroValue402
 t218:=Tryz.underlying419
 a218:=Tryz.isAgg419
 z218:=Tryz.sizeOf419
 v218:=Tryz.zeroValue419
 t222:=Tryz.underlying423
 a222:=Tryz.isAgg423
 z222:=Tryz.sizeOf423
 v222:=Tryz.zeroValue423
 t228:=Tryz.underlying426
 a228:=Tryz.isAgg426
 z228:=Tryz.sizeOf426
 v228:=Tryz.zeroValue426
 t229:=Tryz.underlying427
 a229:=Tryz.isAgg427
 z229:=Tryz.sizeOf427
 v229:=Tryz.zeroValue427}
open Go.Sort Go.RowKit in
theorem Tryz.slices_Sort_string (blk off cap:Nat) (ss:List (List UInt8)) (w:World) (hH:Holds encStr w blk off ss.toArray) (hblk:blk<w.heap.size) (hsz:ss.length<4611686018427387904) :
 Calls Tryz.prog 313 #[.slice (some ⟨blk,off,none⟩) ss.length cap] w λe w' =>
  e=.returned (.tuple #[])∧∃n os,w'=grow (putRow encStr (Sort.ahead w n) blk off (ss.mergeSort λx y=>decide (x≤y)).toArray) os:=Any.slices_Sort_string Tryz.lays190 blk off cap ss w hH hblk hsz
open Go.RowKit Go.Sort in
theorem Tryz.slices_Sort_string_none (p:Option Addr) (cap:Nat) (w:World) :
 Calls Tryz.prog 313 #[.slice p 0 cap] w λe w'=>e=.returned (.tuple #[])∧w'=w:=Any.slices_Sort_string_none Tryz.lays190 p cap w
end Go.Proofs
end
section
namespace Go.Proofs.YtdnijgdmohinlaaGreat
open Go.RowKit A R
open A.RowT
abbrev VK:=ByteArray×Int×Int
instance:Inhabited Event:=⟨⟨0,0,⟨#[]⟩,0,0,[]⟩⟩
namespace G
def keyE (e:Event):VK:=(e.key,e.n,e.s)
def isW (v:VK) (e:Event):Bool:=decide (e.kind=1)&&decide (keyE e=v)
def first (l:List Event) (k:Nat) (v:VK):Option Nat:=(l.take k).findIdx? (isW v)
def last (l:List Event):Nat→Int→Option Nat
 | 0,_=>none
 | k+1,c=>match l[k]? with
  | some e=>if e.client=c then some k else last l k c
  | none=>last l k c
end G
end Go.Proofs.YtdnijgdmohinlaaGreat
end
section
namespace Go.Proofs.YtdnijgdmohinlaaGreat.A
open Go Go.RowKit
variable {P:Program}{st:ASt}{o:Oper}
theorem Pu_buildArr {t e:TypeId}{len n:Nat}{ps:Array (Nat×Operand)}{aa:List (Nat×AV)}{zs:List Value}{r:List AV}(ho:o.op=.build t ps) (ht:P.underlying t=some (.array len e)) (hz:∀w,(zeroValue t).run P w=.ok (.agg zs.toArray) w)
  (hs:∀w,(sizeOf e).run P w=.ok n w) (hv:zs.all (λz=>decide (vok z))=true) (ha:PartsOk st ps.toList aa) (hr:fillA (λi=>some (i*n,n)) (zs.map .v) aa=some r):Pu P st o (.d (.row r)):=Pu_q λB M ρ w a h2 _=>by
 obtain⟨us,h3,h4⟩:=run_fill (M:=M) (w:=w) (ρ:=ρ) (a:=a) (λi=>some (i*n,n)) ps.toList aa _ r zs.toArray ha (λp hp=>h2 p.2 (by
  simp only[opsOf,ho,Op.operands]
  exact List.mem_map.2 ⟨p,hp,rfl⟩)) (cells_v hv) hr
 refine⟨.agg us,?_,h4.row⟩
 have e:(ps.map λ(p:Nat×Operand)=>(p.1,a.eval p.2)).toList=ps.toList.map λ(i,x)=>(i,a.eval x):=by simp
 simp only[execOp,ho,Instr.build,Sem.run_bind,hz,Result.andThen_ok,run_underlying ht,hs,Value.cells]
 rw[e]
 simp only[h3,Sem.run_pure,Sem.run_bind,Result.andThen_ok]
theorem Pu_max2 {x y:Operand}{ts:Array TypeId}{a b c:Int}(ho:o.op=.call ⟨.builtin .max,#[x,y],ts⟩) (hx:st.ev x=.d (.v (.int .i64 a))) (hy:st.ev y=.d (.v (.int .i64 b))) (hc:c=if b>a then b else a):Pu P st o (.d (.v (.int .i64 c))):=Pu_q λB M ρ w act h2 h3=>by
 subst hc
 obtain⟨e1,o1⟩:=ev_v h2 (mem_call ho x (by simp)) hx
 obtain⟨e2,o2⟩:=ev_v h2 (mem_call ho y (by simp)) hy
 refine⟨.int .i64 (if b>a then b else a),?_,.v _ ?_⟩
 ·simp[execOp,ho,resolve,invoke,builtin,Builtin.max_,Builtin.max2,e1,e2,Sem.run]
 ·split
  ·exact o2
  ·exact o1
theorem Pu_int_and {t yt:TypeId}{x y:Operand}{k:IntKind}{a b r:Int}(ho:o.op=.binOp .and t x y yt) (hx:st.ev x=.d (.v (.int k a))) (hy:st.ev y=.d (.v (.int k b))) (hr:k.wrap (BitVec.ofInt k.bits a&&&BitVec.ofInt k.bits b).toNat=r) (hv:vok (.int k a)→vok (.int k r)):Pu P st o (.d (.v (.int k r))) :=
 Pu_bin ho hx hy (λh1 h2 w=>by
  simp only[Sem.run_bind,guard_int,Result.andThen_ok,binOp];simp only[Op.intBits,hr,ne_eq,not_true_eq_false,if_false,Sem.run_pure]) (λh _=>hv h)
theorem Pu_convW {f t:TypeId}{x:Operand}{k k' k2:IntKind}{a r:Int}(ho:o.op=.convert f t x) (hf:P.underlying f=some (.int k2)) (ht:P.underlying t=some (.int k')) (hx:st.ev x=.d (.v (.int k a))) (hw:k'.wrap a=r) (hv:vok (.int k' r)):Pu P st o (.d (.v (.int k' r))):=Pu_q λB M ρ w a2 h2 _=>by
 obtain⟨e1,k1⟩:=ev_v h2 (x:=x) (by simp[opsOf,ho,Op.operands]) hx
 refine⟨.int k' r,?_,.v _ hv⟩
 simp only[execOp,ho,e1,convert,Sem.run_bind,run_underlying hf,run_underlying ht,Result.andThen_ok,Conv.intToInt,hw,Sem.run_pure]
end Go.Proofs.YtdnijgdmohinlaaGreat.A
namespace Go.Proofs.YtdnijgdmohinlaaGreat.V
open Go.RowKit A R
theorem i64_ok (z:Int):vok (.int .i64 (IntKind.i64.wrap z)):=by
 show A.inI _
 rw[IntKind.wrap_i64]
 simp only[A.inI];omega
end Go.Proofs.YtdnijgdmohinlaaGreat.V
end
section
namespace Go.Proofs.YtdnijgdmohinlaaGreat
open Go.RowKit A R
namespace G
def dirB (l:List Event) (j i:Nat):Bool:=decide (last l j (l.getD j default).client=some i)||(decide ((l.getD j default).kind=2)&&!(decide ((l.getD j default).n=0)&&decide ((l.getD j default).s=0))&&decide (first l l.length (keyE (l.getD j default))=some i))
def dirN (l:List Event) (j:Nat):List Nat:=(List.range j).filter (dirB l j)
def ahF (l:List Event):Nat→Nat→Nat→Bool
 | 0,_,_=>false
 | f+1,i,k=>(dirN l i).any λd=>d==k||ahF l f d k
def ah (l:List Event) (i k:Nat):Bool:=ahF l (i+1) i k
abbrev VS:=(Nat→Bool)×Nat
def add (s:VS) (k:Nat):VS:=(λx=>x==k||s.1 x,s.2+1)
def aheadN (l:List Event) (i:Nat):List Nat:=(List.range l.length).filter (ah l i)
end G
end Go.Proofs.YtdnijgdmohinlaaGreat
namespace Go.Proofs.YtdnijgdmohinlaaGreat
open Go.RowKit A R
open A.RowT
namespace G
end G
namespace G
end G
end Go.Proofs.YtdnijgdmohinlaaGreat
namespace Go.Proofs.YtdnijgdmohinlaaGreat
open Go.RowKit A R
open A.RowT
namespace G
def aheadI (l:List Event) (i:Int):List Nat:=if 0≤i∧i<l.length then aheadN l i.toNat else[]
end G
namespace G
end G
end Go.Proofs.YtdnijgdmohinlaaGreat
namespace Go.Proofs.YtdnijgdmohinlaaGreat
open Go.RowKit A R
open A.RowT
namespace G
end G
namespace G
def depE (e:Event):Dep:=⟨e.key,e.n,e.s⟩
def seenS (l:List Event) (p:List Dep) (j:Nat):List Dep:=if (l.getD j default).kind=1 then D.add p (depE (l.getD j default))else p
def seenTo (l:List Event) (js:List Nat) (k:Nat):List Dep:=(js.take k).foldl (seenS l) []
def seen (l:List Event) (i:Int):List Dep:=seenTo l (aheadI l i) (aheadI l i).length
end G
end Go.Proofs.YtdnijgdmohinlaaGreat
end
section
set_option maxRecDepth 100000
namespace Go.Proofs.YtdnijgdmohinlaaGreat
open Go.RowKit A R
namespace D
end D
abbrev pastA (p:List Dep):AV:=.sl 3 (p.map Dep.row)
end Go.Proofs.YtdnijgdmohinlaaGreat
end
section
namespace Go.Proofs.YtdnijgdmohinlaaGreat
open Go.RowKit A R
open A.RowT
namespace D
def addAll (p q:List Dep):List Dep:=q.foldl add p
def mergeL (l:List (List Dep)):List Dep:=addAll [] l.flatten
theorem addAll_len:∀(q p:List Dep),(addAll p q).length≤p.length+q.length
 | [],p=>Nat.le_refl _
 | d::q,p=>by
  have h1:=addAll_len q (add p d)
  have h2:=add_len p d
  show(addAll (add p d) q).length≤_
  simp only[List.length_cons]
  omega
theorem addAll_succ (p q:List Dep) {k:Nat}(hk:k<q.length):addAll p (q.take (k+1))=add (addAll p (q.take k)) q[k]:=by
 unfold addAll
 rw[List.take_succ_eq_append_getElem hk,List.foldl_append];rfl
theorem addAll_app (p q r:List Dep):addAll p (q++r)=addAll (addAll p q) r:=List.foldl_append
theorem flat_len (l:List (List Dep)) (k:Nat):(l.take k).flatten.length≤l.flatten.length:=by
 have:l.flatten=(l.take k).flatten++(l.drop k).flatten:=by rw[←List.flatten_append,List.take_append_drop]
 rw[this,List.length_append];omega
theorem flat_len2 (l:List (List Dep)) {k:Nat}(hk:k<l.length):(l.take k).flatten.length+l[k].length≤l.flatten.length:=by
 have:=flat_len l (k+1)
 rw[List.take_succ_eq_append_getElem hk,List.flatten_append,List.length_append]at this
 simpa using this
theorem mergeL_succ (l:List (List Dep)) {k:Nat}(hk:k<l.length):mergeL (l.take (k+1))=addAll (mergeL (l.take k)) l[k]:=by
 unfold mergeL
 rw[List.take_succ_eq_append_getElem hk,List.flatten_append,addAll_app];simp
end D
namespace G
def behindN (l:List Event) (j:Nat):List Dep:=D.mergeL [(l.getD j default).seen,[depE (l.getD j default)]]
def behind (l:List Event) (i:Int):List Dep:=if 0≤i∧i<l.length then behindN l i.toNat else[]
def lastZ (l:List Event) (k:Nat) (c:Int):Int:=match last l k c with|some i=>(i:Int)|none=> -1
end G
end Go.Proofs.YtdnijgdmohinlaaGreat
end
section
set_option maxRecDepth 100000
namespace Go.Proofs.YtdnijgdmohinlaaGreat
open Go.RowKit A R
open A.RowT
structure Ver where
 key:ByteArray
 value:ByteArray
 gone:Bool
 n:Int
 s:Int
 past:List Dep
def Ver.row (v:Ver):List AV:=[tv v.key,tv v.value,bv v.gone,iv v.n,iv v.s,.sl 3 (v.past.map Dep.row)]
instance:Inhabited Ver:=⟨⟨⟨#[]⟩,⟨#[]⟩,false,0,0,[]⟩⟩
instance:DecidableEq Ver:=λa b=>decidable_of_iff (a.key=b.key∧a.value=b.value∧a.gone=b.gone∧a.n=b.n∧a.s=b.s∧a.past=b.past) (by cases a;cases b;simp)
abbrev versA (l:List Ver):AV:=.sl 6 (l.map Ver.row)
namespace J
def okAt (p:List Dep) (i:Nat):Bool:=D.okB (p.getD i default)&&(decide (i=0)||Op.bytesLess (p.getD (i - 1) default).key.toList (p.getD i default).key.toList)
def pastB (p:List Dep):Bool:=(List.range p.length).all (okAt p)&&decide ((p.length:Int)≤24)
theorem past_no {p:List Dep}{i:Nat}(hi:i<p.length) (h:okAt p i=false):pastB p=false:=by
 unfold pastB
 rw[Bool.and_eq_false_iff]
 refine .inl ?_
 rw[List.all_eq_false]
 exact⟨i,List.mem_range.2 hi,by rw[h];decide⟩
theorem past_all {p:List Dep}(h:∀i,i<p.length→okAt p i=true):pastB p=decide ((p.length:Int)≤24):=by
 unfold pastB
 rw[show(List.range p.length).all (okAt p)=true from List.all_eq_true.2 λi hi=>h i (List.mem_range.1 hi),Bool.true_and]
theorem adj_srt:∀(p:List Dep),(∀i,i+1<p.length→Op.bytesLess (p.getD i default).key.toList (p.getD (i+1) default).key.toList=true)→D.Srt p
 | [],_=>.nil
 | [x],_=>List.pairwise_singleton ..
 | x::y::r,h=>by
  have ih:=adj_srt (y::r) λi hi=>h (i+1) (by simpa using hi)
  have h0:Op.bytesLess x.key.toList y.key.toList=true:=h 0 (by simp)
  refine List.pairwise_cons.2 ⟨λz hz=>?_,ih⟩
  rcases List.mem_cons.1 hz with rfl|hz
  ·exact h0
  ·exact K.bl_trans _ _ _ h0 ((List.pairwise_cons.1 ih).1 z hz)
theorem past_good {p:List Dep}(h:pastB p=true):D.Good p∧p.length≤24:=by
 unfold pastB at h
 simp only[Bool.and_eq_true,List.all_eq_true,List.mem_range,decide_eq_true_eq]at h
 obtain⟨h1,h2⟩:=h
 refine⟨⟨adj_srt p λi hi=>?_,λx hx=>?_⟩,by omega⟩
 ·have:=h1 (i+1) hi
  unfold okAt at this
  simp only[Bool.and_eq_true,Bool.or_eq_true,decide_eq_true_eq]at this
  rcases this.2 with h|h
  ·omega
  ·exact h
 ·obtain⟨i,hi,rfl⟩:=List.getElem_of_mem hx
  have:=h1 i hi
  unfold okAt at this
  simp only[Bool.and_eq_true]at this
  have hg:p.getD i default=p[i]:=by simp[hi]
  rw[hg]at this
  exact this.1
theorem size_runes (s:ByteArray):∀(k i f n:Nat),s.size - i≤k→s.size≤i+f→K.runesF s f i=some n→s.size≤i+4*n:=by
 intro k
 induction k with
 | zero=>intro i f n h _ _;omega
 | succ k ih =>
  intro i f n h hf hr
  by_cases hi:i<s.size
  ·cases ho:K.okAt s i with
   | false=>rw[K.runesF_bad s f i hi hf ho]at hr;cases hr
   | true =>
    obtain⟨g,hg,e⟩:=K.runesF_ok s f i hi hf ho
    rw[e]at hr
    obtain⟨m,hm,rfl⟩:=Option.map_eq_some_iff.1 hr
    have hw:=K.wd_pos s i hi
    have hw4:K.wd s i≤4:=by rw[←(K.ref_ok s i hi).2 ho];exact K.longN_le _
    have:=ih (i+K.wd s i) g m (by omega) hg hm
    omega
  ·omega
theorem check_size {s:ByteArray}(h:K.checkB s=true):s.size≤32:=by
 unfold K.checkB K.lim at h
 simp only[Bool.and_eq_true,decide_eq_true_eq]at h
 obtain⟨⟨h1,h2⟩,_⟩:=h
 unfold K.runes at h1 h2
 split at h1
 ·rename_i n hn
  have:=size_runes s s.size 0 s.size n (by omega) (by omega) hn
  rw[hn]at h2
  simp only at h2
  omega
 ·omega
def checkB (v:Ver):Bool:=K.checkB v.key&&(V.stampB v.n v.s&&(pastB v.past&&(decide ((v.value.size:Int)≤32)&&(!v.gone||(v.value.toList==(⟨#[]⟩:ByteArray).toList)))))
theorem ver_key {v:Ver}(h:checkB v=true):v.key.size≤32:=by
 unfold checkB at h
 simp only[Bool.and_eq_true]at h
 exact check_size h.1
end J
set_option maxRecDepth 100000 in
theorem pcheck_a (p:List Dep):ACall Tryz.prog 299 [.sl 3 (p.map Dep.row)] (bv (J.pastB p)):=by
 refine AC_1 Tryz.func299 Tryz.ntmps299 Tryz.results299 λhok M0 w0 hnl=>?_
 have hlen:=(hok _ (List.mem_cons_self ..)).len
 rw[List.length_map]at hlen
 refine Aw_sr ?_
 refine Al_mr ?_
 refine Al_nil (Aw_seq (Aw_sr ?_))
 refine Al_ml ?_
 refine Al_p (Pu_ln Tryz.underlying48) ?_
 refine Al_ml ?_
 refine Al_nil (Aw_block ?_)
 refine Aw_loopk (ι:=Nat) [0,5,6] [] (λk=>[(7,.d (iv k))]) (λk=>[]) (λk=>k≤p.length∧∀i,i<k→J.okAt p i=true) (λk=>p.length - k) (0) (⟨Nat.zero_le _,by intros;omega⟩) ⟨Sub.rfl,trivial⟩ trivial ?_
 rintro k ⟨hk0,hno⟩
 refine Aw_sr ?_
 refine Al_p Pu_cp ?_
 refine Al_nil (Aw_seq ?_)
 refine Aw_cond rfl (λh8=>?_) (λh8=>?_)
 ·(try simp only[A.cd_]at h8)
  have hk:k<p.length:=by omega
  refine Aw_skip (Aw_seq (Aw_block (Aw_sr ?_)))
  refine Al_ml ?_
  refine Al_p (Pu_index rfl Tryz.underlying48 Tryz.sizeOf110 rfl rfl (rfl) (mapgetD (d:=default) hk)) ?_
  refine Al_p (Pu_lN Tryz.isAgg110 Tryz.sizeOf110) ?_
  refine Al_al Tryz.zeroValue110 λg4=>?_
  refine Al_mr ?_
  refine Al_sN Tryz.isAgg110 Tryz.sizeOf110 ?_
  refine Al_nil (Aw_seq ?_)
  refine Aw_dr 18 ?_
  refine Dr_p (Pu_lbN (r:=[_,_,_]) Tryz.isAgg110 Tryz.sizeOf110) ?_
  refine Dr_p (Pu_call (pmay_a _) rfl ⟨Sub.rfl,trivial⟩) ?_
  refine Dr_p Pu_n ?_
  refine Dr_ml ?_
  refine Dr_s (St_g [] trivial (λ_=>Pu_mvl)) ?_
  refine Dr_s (St_g [16] ⟨⟨_,rfl⟩,trivial⟩ (λ_=>Pu_cp)) ?_
  refine Dr_s (St_g [17] ⟨⟨_,rfl⟩,trivial⟩ (λ_=>Pu_mvl)) ?_
  refine Dr_s (St_gd2 [] rfl rfl rfl rfl trivial (λhp19 hg19=>Pu_mvl)) ?_
  refine Dr_s (St_gd2 [] rfl rfl rfl rfl trivial (λhp20 hg20=>Pu_mvl)) ?_
  refine Dr_s (St_gd2 [20] rfl rfl rfl rfl ⟨⟨_,rfl⟩,trivial⟩ (λhp21 hg21=>by exact Pu_sub rfl rfl rfl (λh1 h2=>by simp only[A.inI,A.maxI]at *;omega))) ?_
  refine Dr_s (St_gd2 [19,21] rfl rfl rfl rfl ⟨⟨_,rfl⟩,⟨_,rfl⟩,trivial⟩ (λhp22 hg22=>by exact Pu_index rfl Tryz.underlying48 Tryz.sizeOf110 rfl rfl ((show((k:Int) - 1)=((k - 1:Nat):Int)from by have:=of_decide_eq_true hg22;omega)) (mapgetD (d:=default) (show k - 1<p.length by omega)))) ?_
  refine Dr_s (St_gd2 [22] rfl rfl rfl rfl ⟨⟨_,rfl⟩,trivial⟩ (λhp23 hg23=>Pu_fd 0 Tryz.underlying110 Tryz.sizeOf9)) ?_
  refine Dr_s (St_gd2 [23] rfl rfl rfl rfl ⟨⟨_,rfl⟩,trivial⟩ (λhp24 hg24=>Pu_l1 Tryz.isAgg9)) ?_
  refine Dr_s (St_gd2 [] rfl rfl rfl rfl trivial (λhp25 hg25=>Pu_fb 0 Tryz.underlying110 Tryz.sizeOf9)) ?_
  refine Dr_s (St_gd2 [25] rfl rfl rfl rfl ⟨⟨_,rfl⟩,trivial⟩ (λhp26 hg26=>Pu_lb Tryz.isAgg9)) ?_
  refine Dr_s (St_gd2 [24,26] rfl rfl rfl rfl ⟨⟨_,rfl⟩,⟨_,rfl⟩,trivial⟩ (λhp27 hg27=>Pu_sr)) ?_
  refine Dr_s (St_g [18] ⟨⟨_,rfl⟩,trivial⟩ (λhg28=>Pu_andG rfl rfl (λh=>⟨hg28,h⟩) rfl rfl)) ?_
  refine Dr_p Pu_o ?_
  refine Dr_nil (Al_nil ?_)
  refine Aw_cond rfl (λh29=>?_) (λh29=>?_)
  ·skip
   have hf:J.okAt p k=false:=by
    unfold J.okAt
    rcases Nat.eq_zero_or_pos k with h0|h0
    ·subst h0
     simpa using h29
    ·rw[show decide (k=0)=false from by simp;omega,Bool.false_or]
     simp only[Bool.or_eq_true,Bool.not_eq_true',Bool.and_eq_true,decide_eq_true_eq]at h29
     rcases h29 with h|h
     ·rw[h];rfl
     ·rw[h.2,Bool.and_false]
   refine Aw_sr ?_
   refine Al_mr ?_
   refine Al_nil ?_
   exact Aw_ret (Sub.bool (J.past_no hk hf).symm)
  ·skip
   have hf:J.okAt p k=true:=by
    unfold J.okAt
    rcases Nat.eq_zero_or_pos k with h0|h0
    ·subst h0
     simpa using h29
    ·rw[show decide (k=0)=false from by simp;omega,Bool.false_or]
     simp only[Bool.or_eq_false_iff,Bool.not_eq_false',Bool.and_eq_false_iff,decide_eq_false_iff_not]at h29
     obtain⟨h1,h2⟩:=h29
     rw[h1,Bool.true_and]
     rcases h2 with h|h
     ·omega
     ·exact h
   refine Aw_skip (Aw_region ?_)
   refine Al_p Pu_ad ?_
   refine Al_ml ?_
   refine Al_nil ?_
   exact⟨k+1,⟨by omega,λi hi=>by
    rcases Nat.lt_succ_iff_lt_or_eq.1 hi with h|rfl
    ·exact hno i h
    ·exact hf⟩,by omega,Le.ov ⟨Sub.num (by omega),trivial⟩ ⟨Sub.rfl,Sub.rfl,Sub.rfl,trivial⟩ trivial trivial⟩
 ·(try simp only[A.cd_]at h8)
  have hk:k=p.length:=by omega
  refine Aw_exit (Aw_sr ?_)
  refine Al_ml ?_
  refine Al_p (Pu_ln Tryz.underlying48) ?_
  refine Al_p Pu_cp ?_
  refine Al_mr ?_
  refine Al_nil ?_
  exact Aw_ret (Sub.bool (J.past_all (by subst hk;exact hno)).symm)
set_option maxRecDepth 100000 in
theorem wcheck_a (v:Ver):ACall Tryz.prog 230 [.row v.row] (bv (J.checkB v)):=by
 refine AC_1 Tryz.func230 Tryz.ntmps230 Tryz.results230 λhok M0 w0 hnl=>?_
 refine Aw_sr ?_
 refine Al_p Pu_bN ?_
 refine Al_mr ?_
 refine Al_ns ?_
 refine Al_p (Pu_fd 0 Tryz.underlying50 Tryz.sizeOf9) ?_
 refine Al_p (Pu_l1 Tryz.isAgg9) ?_
 refine Al_p (Pu_call (check_a _) rfl ⟨Sub.rfl,trivial⟩) ?_
 refine Al_ml ?_
 refine Al_s (St_g [] trivial (λ_=>Pu_fd 3 Tryz.underlying50 Tryz.sizeOf47)) ?_
 refine Al_s (St_g [7] ⟨⟨_,rfl⟩,trivial⟩ (λ_=>Pu_lN Tryz.isAgg47 Tryz.sizeOf47)) ?_
 refine Al_s (St_g [8] ⟨⟨_,rfl⟩,trivial⟩ (λ_=>Pu_call (stcheck_a _ _) rfl ⟨Sub.rfl,trivial⟩)) ?_
 refine Al_p Pu_a ?_
 refine Al_ml ?_
 refine Al_s (St_g [] trivial (λ_=>Pu_fd 5 Tryz.underlying50 Tryz.sizeOf48)) ?_
 refine Al_s (St_g [12] ⟨⟨_,rfl⟩,trivial⟩ (λ_=>Pu_l1 Tryz.isAgg48)) ?_
 refine Al_s (St_g [13] ⟨⟨_,rfl⟩,trivial⟩ (λ_=>Pu_call (pcheck_a v.past) rfl ⟨Sub.rfl,trivial⟩)) ?_
 refine Al_p Pu_a ?_
 refine Al_ml ?_
 refine Al_s (St_g [] trivial (λ_=>Pu_fd 1 Tryz.underlying50 Tryz.sizeOf9)) ?_
 refine Al_s (St_g [17] ⟨⟨_,rfl⟩,trivial⟩ (λ_=>Pu_l1 Tryz.isAgg9)) ?_
 refine Al_s (St_g [18] ⟨⟨_,rfl⟩,trivial⟩ (λ_=>Pu_lenS rfl Tryz.underlying9 rfl)) ?_
 refine Al_s (St_g [19] ⟨⟨_,rfl⟩,trivial⟩ (λ_=>Pu_cp)) ?_
 refine Al_p Pu_a ?_
 refine Al_ml ?_
 refine Al_s (St_g [] trivial (λ_=>Pu_fd 2 Tryz.underlying50 Tryz.sizeOf4)) ?_
 refine Al_s (St_g [23] ⟨⟨_,rfl⟩,trivial⟩ (λ_=>Pu_l1 Tryz.isAgg4)) ?_
 refine Al_s (St_g [24] ⟨⟨_,rfl⟩,trivial⟩ (λ_=>Pu_n)) ?_
 refine Al_s (St_g [25] ⟨⟨_,rfl⟩,trivial⟩ (λ_=>Pu_mvl)) ?_
 refine Al_s (St_gd2 [] rfl rfl rfl rfl trivial (λhp27 hg27=>Pu_fd 1 Tryz.underlying50 Tryz.sizeOf9)) ?_
 refine Al_s (St_gd2 [27] rfl rfl rfl rfl ⟨⟨_,rfl⟩,trivial⟩ (λhp28 hg28=>Pu_l1 Tryz.isAgg9)) ?_
 refine Al_s (St_gd2 [28] rfl rfl rfl rfl ⟨⟨_,rfl⟩,trivial⟩ (λhp29 hg29=>Pu_sr)) ?_
 refine Al_s (St_g [26] ⟨⟨_,rfl⟩,trivial⟩ (λhg30=>Pu_orG rfl rfl rfl (λh=>⟨hg30,h⟩) rfl)) ?_
 refine Al_p Pu_a ?_
 refine Al_mr ?_
 refine Al_nil ?_
 exact Aw_ret (Sub.bool (by unfold J.checkB;simp only[Bool.and_assoc]))
end Go.Proofs.YtdnijgdmohinlaaGreat
end
section
set_option maxRecDepth 100000
namespace Go.Proofs.YtdnijgdmohinlaaGreat
open Go.RowKit A R
open A.RowT
set_option maxRecDepth 100000 in
theorem cloneV_g (l:List Ver) (hl:l.length≤1000000):GCall Tryz.prog 183 [.d (.sl 6 (l.map Ver.row))] [] (some ([(1001,.arr 50 6 (l.map Ver.row))],.ow 1001 0)):=by
 refine GC_1 Tryz.func183 Tryz.ntmps183 (ReadsS.r1 Tryz.results183) λhok hokB M0 w0=>?_
 refine Aw_sr ?_
 refine Al_mr ?_
 refine Al_nil (Aw_seq (Aw_sr ?_))
 refine Al_ml ?_
 refine Al_eqnil rfl rfl rfl (by decide) (by kernel_rfl) Tryz.underlying35 rfl (λnl hnl=>?_)
 refine Al_nil ?_
 refine Aw_cond rfl (λh4=>?_) (λh4=>?_)
 ·(try simp only[A.cd_]at h4)
  refine Aw_sr ?_
  refine Al_mr ?_
  refine Al_nil ?_
  obtain rfl:l=[]:=by simpa using hnl h4
  refine Aw_own (j:=2) (k:=2) (T:=50) (n:=6) rfl (λg=>?_)
  exact Aw_ret (⟨_,_,[(1001,2,g)],rfl,Sub.rfl,⟨rfl,trivial⟩,rfl⟩)
 ·(try simp only[A.cd_]at h4)
  refine Aw_skip (Aw_sr ?_)
  refine Al_slice0 rfl rfl rfl (by decide) Tryz.underlying35 Tryz.sizeOf50 (λg5=>?_)
  refine Al_ml ?_
  refine Al_append rfl rfl rfl (by decide) (by kernel_rfl) elem35 (by decide) Tryz.sizeOf50 rfl rfl rfl (by simp;omega) (by decide) (λg7=>?_)
  refine Al_mr ?_
  refine Al_nil ?_
  exact Aw_ret (⟨_,_,[(1001,5,g7)],rfl,Sub.rfl,⟨rfl,trivial⟩,rfl⟩)
set_option maxRecDepth 100000 in
set_option maxHeartbeats 1000000 in
theorem insertV_g (l:List Ver) (x:Ver) (i:Nat) (hi:i≤l.length) (hl:l.length≤1000000):GCall Tryz.prog 374 [.ow 1001 0,.d (iv i),.ow 1002 0] [(1001,.arr 50 6 (l.map Ver.row)),(1002,.arr 50 6 [Ver.row x])] (some ([(1003,.arr 50 6 ((l.take i++x::l.drop i).map Ver.row))],.ow 1003 0)):=by
 refine GC_1 Tryz.func374 Tryz.ntmps374 (ReadsS.r1 Tryz.results374) λhok hokB M0 w0=>?_
 have hlm:(l.map Ver.row).length=l.length:=List.length_map ..
 have hres:(l.take i++x::l.drop i).map Ver.row=(l.map Ver.row).take i++Ver.row x::(l.map Ver.row).drop i:=by simp
 rw[hres]
 generalize l.map Ver.row=L at *
 refine Aw_sr ?_
 refine Al_mr ?_
 refine Al_ns ?_
 refine Al_ml ?_
 refine Al_ml ?_
 refine Al_p (Pu_sliceOw i L.length rfl Tryz.underlying35 Tryz.sizeOf50 rfl rfl ⟨_,rfl,rfl⟩ rfl ⟨by omega,.inl (by omega)⟩) ?_
 refine Al_ns ?_
 refine Al_ml ?_
 refine Al_p (Pu_lenOw (m:=1) rfl Tryz.underlying35 rfl rfl rfl) ?_
 refine Al_mr ?_
 refine Al_nil (Aw_seq (Aw_sr ?_))
 refine Al_ml ?_
 refine Al_p Pu_cp ?_
 refine Al_nil ?_
 refine Aw_cond rfl (λh16=>?_) (λh16=>?_)
 ·(try simp only[A.cd_]at h16)
  exfalso;revert h16;decide
 ·(try simp only[A.cd_]at h16)
  refine Aw_skip (Aw_sr ?_)
  refine Al_ml ?_
  refine Al_p (Pu_lenOw rfl Tryz.underlying35 rfl rfl rfl) ?_
  refine Al_mr ?_
  refine Al_nil (Aw_seq (Aw_sr ?_))
  refine Al_ml ?_
  refine Al_ml ?_
  refine Al_p Pu_cp ?_
  refine Al_nil ?_
  refine Aw_cond rfl (λh22=>?_) (λh22=>?_)
  ·(try simp only[A.cd_]at h22)
   refine Aw_sr ?_
   refine Al_ml ?_
   refine Al_ml ?_
   refine Al_appendOw (k2:=1002) (g2:=0) rfl rfl rfl (by decide) (by kernel_rfl) elem35 (by decide) Tryz.sizeOf50 rfl rfl rfl rfl Nat.one_pos (by simp;omega) (by decide) (λg25=>?_)
   refine Al_mr ?_
   refine Al_nil ?_
   exact Aw_ret (⟨_,_,[(1003,1001,g25)],rfl,Sub.rfl,⟨obeq (by rw[show i=L.length by omega];simp),trivial⟩,rfl⟩)
  ·(try simp only[A.cd_]at h22)
   refine Aw_skip (Aw_seq (Aw_sr ?_))
   refine Al_ml ?_
   refine Al_ml ?_
   refine Al_p Pu_ad ?_
   refine Al_ml ?_
   refine Al_cap (kt:=900) rfl rfl rfl (by decide) (by kernel_rfl) Tryz.underlying35 rfl rfl rfl (λc gt hc hcm=>?_)
   refine Al_p Pu_cp ?_
   refine Al_nil ?_
   refine Aw_cond rfl (λh31=>?_) (λh31=>?_)
   ·(try simp only[A.cd_]at h31)
    refine Aw_sr ?_
    refine Al_ml ?_
    refine Al_ml ?_
    refine Al_p (Pu_sliceOw 0 i rfl Tryz.underlying35 Tryz.sizeOf50 rfl rfl rfl ⟨_,rfl,rfl⟩ ⟨by omega,.inl (by omega)⟩) ?_
    refine Al_ml ?_
    refine Al_ml ?_
    refine Al_p Pu_ad ?_
    refine Al_ml ?_
    refine Al_p (Pu_sub rfl rfl rfl (λh1 h2=>by simp only[A.inI,A.maxI]at *;omega)) ?_
    refine Al_appendZ (zz:=L.length+1 - i) (kt:=900) (c:=c) rfl rfl rfl (by decide) (by kernel_rfl) elem35 Tryz.underlying3 Tryz.zeroValue50 (by decide) rfl (by kernel_rfl) rfl rfl rfl (by omega) (by omega) (by omega) rfl (by omega) (by omega) (by decide) (λg40=>?_) rfl
    generalize hzr:List.map AV.v _=zs
    have hz1:(L.take i++List.replicate (L.length+1 - i) zs).length=L.length+1:=by simp;omega
    refine Al_mr ?_
    refine Al_ns ?_
    refine Al_ml ?_
    refine Al_ml ?_
    refine Al_p (Pu_sliceOw i (L.take i++List.replicate (L.length+1 - i) zs).length rfl Tryz.underlying35 Tryz.sizeOf50 rfl rfl ⟨_,rfl,rfl⟩ rfl ⟨by omega,.inl (by omega)⟩) ?_
    refine Al_ml ?_
    refine Al_copy (c:=1) (L:=1) rfl rfl rfl (by decide) (by kernel_rfl) Tryz.underlying35 Tryz.sizeOf50 (by decide) rfl rfl (.inr (.inr ⟨_,_,_,rfl,rfl,rfl⟩)) (by omega) Nat.one_pos (Nat.le_refl _) (by omega) ?_
    refine Al_nil (Aw_seq ?_)
    refine Aw_dr 8 ?_
    refine Dr_ml ?_
    refine Dr_ml ?_
    refine Dr_ml ?_
    refine Dr_p Pu_ad ?_
    refine Dr_p (Pu_sliceOw (i+1) (L.length+1) rfl Tryz.underlying35 Tryz.sizeOf50 rfl rfl ⟨_,rfl,by omega⟩ (by show L.length+1=_;simp;omega) ⟨by omega,.inl (by simp;omega)⟩) ?_
    refine Dr_ml ?_
    refine Dr_ml ?_
    refine Dr_p (Pu_sliceOw i L.length rfl Tryz.underlying35 Tryz.sizeOf50 rfl rfl ⟨_,rfl,rfl⟩ rfl ⟨by omega,.inl (by omega)⟩) ?_
    refine Dr_nil ?_
    refine Al_copy (c:=L.length - i) (L:=L.length - i) (news:=L.drop i) rfl rfl rfl (by decide) (by kernel_rfl) Tryz.underlying35 Tryz.sizeOf50 (by decide) rfl rfl (.inr (.inl ⟨_,_,_,_,_,_,rfl,rfl,rfl,by rw[List.take_length]⟩)) (by omega) (by omega) (by simp) (by simp;omega) ?_
    refine Al_ns ?_
    refine Al_ml ?_
    refine Al_mr ?_
    refine Al_nil ?_
    exact Aw_ret (⟨_,_,[(1003,40,g40)],rfl,Sub.rfl,⟨obeq (ins_grow (by omega)),trivial⟩,rfl⟩)
   ·(try simp only[A.cd_]at h31)
    refine Aw_skip (Aw_sr ?_)
    refine Al_ml ?_
    refine Al_ml ?_
    refine Al_ml ?_
    refine Al_p Pu_ad ?_
    refine Al_p (Pu_sliceOw 0 (L.length+1) rfl Tryz.underlying35 Tryz.sizeOf50 rfl rfl rfl ⟨_,rfl,by omega⟩ ⟨by omega,.inr ⟨900,gt,c,rfl,by omega⟩⟩) ?_
    refine Al_mr ?_
    refine Al_nil (Aw_seq (Aw_sr ?_))
    refine Al_ml ?_
    refine Al_ml ?_
    refine Al_ml ?_
    refine Al_ml ?_
    refine Al_p Pu_ad ?_
    refine Al_p (Pu_sliceOws (i+1) (i+1) rfl Tryz.underlying35 Tryz.sizeOf50 rfl ⟨_,rfl,by omega⟩ (by omega) (by omega)) ?_
    refine Al_overlaps (tS:=35) (tR:=4) (e:=50) (λargs w=>run_callFunc_extern Tryz.func400 (by kernel_rfl) (by kernel_rfl) (by kernel_rfl) (e:=Extern.SlicesOverlaps.overlaps #[35,35] #[4]) (by kernel_rfl) args w) rfl rfl rfl (by decide) (by kernel_rfl) Tryz.underlying35 Tryz.sizeOf50 (by decide) rfl rfl Nat.one_pos rfl rfl rfl (by omega) ?_
    refine Al_p Pu_n ?_
    refine Al_nil ?_
    refine Aw_cond rfl (λh68=>?_) (λh68=>?_)
    ·(try simp only[A.cd_]at h68)
     refine Aw_seq ?_
     refine Aw_dr 8 ?_
     refine Dr_ml ?_
     refine Dr_ml ?_
     refine Dr_ml ?_
     refine Dr_p Pu_ad ?_
     refine Dr_p (Pu_sliceOws (i+1) (i+1) rfl Tryz.underlying35 Tryz.sizeOf50 rfl ⟨_,rfl,by omega⟩ (by omega) (by omega)) ?_
     refine Dr_ml ?_
     refine Dr_ml ?_
     refine Dr_p (Pu_sliceOws i i rfl Tryz.underlying35 Tryz.sizeOf50 rfl ⟨_,rfl,rfl⟩ (by omega) (by omega)) ?_
     refine Dr_nil ?_
     refine Al_copyUp (j:=0) (c:=L.length - i) (L:=L.length+1 - i) (news:=L.drop i) rfl rfl rfl (by decide) (by kernel_rfl) Tryz.underlying35 Tryz.sizeOf50 (by decide) rfl rfl (by show SV.ows 1001 0 6 0 (L.length+1)=SV.ows 1001 0 6 0 (i+1+(L.length - i));congr 1;omega) (.inr (.inl ⟨_,_,_,_,_,_,rfl,rfl,rfl,by rw[List.take_of_length_le (by omega)]⟩)) (by omega) (by omega) (by simp) (by omega) (by omega) (λg77=>?_)
     have hz2:(L.take (i+1)++(L.drop i).take (L.length - i)).length=L.length+1:=by simp;omega
     refine Al_ns ?_
     refine Al_ml ?_
     refine Al_ml ?_
     refine Al_p (Pu_sliceOw i (L.take (i+1)++(L.drop i).take (L.length - i)).length rfl Tryz.underlying35 Tryz.sizeOf50 rfl rfl ⟨_,rfl,rfl⟩ rfl ⟨by omega,.inl (by omega)⟩) ?_
     refine Al_ml ?_
     refine Al_copy (c:=1) (L:=1) rfl rfl rfl (by decide) (by kernel_rfl) Tryz.underlying35 Tryz.sizeOf50 (by decide) rfl rfl (.inr (.inr ⟨_,_,_,rfl,rfl,rfl⟩)) (by omega) Nat.one_pos (Nat.le_refl _) (by omega) ?_
     refine Al_ns ?_
     refine Al_ml ?_
     refine Al_mr ?_
     refine Al_nil ?_
     exact Aw_ret (⟨_,_,[(1003,1001,g77)],rfl,Sub.rfl,⟨obeq (ins_room (by omega)),trivial⟩,rfl⟩)
    ·(try simp only[A.cd_]at h68)
     exfalso;revert h68;decide
set_option maxRecDepth 100000 in
theorem indexV_a (l:List Ver) (f:FuncId) (caps:List AV) (p:Ver→Bool) (hf:∀x,ACall Tryz.prog f ([.row x.row]++caps) (bv (p x))):ACall Tryz.prog 247 [.sl 6 (l.map Ver.row),.fn f caps] (iv (S.find p l)):=by
 refine AC_1 Tryz.func247 Tryz.ntmps247 Tryz.results247 λhok M0 w0 hnl=>?_
 have hlen:=(hok _ (List.mem_cons_self ..)).len
 rw[List.length_map]at hlen
 refine Aw_sr ?_
 refine Al_mr ?_
 refine Al_nil (Aw_seq (Aw_sr ?_))
 refine Al_ml ?_
 refine Al_p (Pu_ln Tryz.underlying35) ?_
 refine Al_ml ?_
 refine Al_nil (Aw_block ?_)
 refine Aw_loopk (ι:=Nat) [0,1,7] [] (λk=>[(8,.d (iv k))]) (λk=>[]) (λk=>k≤l.length∧∀j (h:j<l.length),j<k→p l[j]=false) (λk=>l.length - k) (0) (⟨Nat.zero_le _,by intros;omega⟩) ⟨Sub.rfl,trivial⟩ trivial ?_
 rintro k ⟨hk0,hk2⟩
 refine Aw_sr ?_
 refine Al_p Pu_cp ?_
 refine Al_nil (Aw_seq ?_)
 refine Aw_cond rfl (λh9=>?_) (λh9=>?_)
 ·(try simp only[A.cd_]at h9)
  have hk:k<l.length:=by omega
  refine Aw_skip (Aw_seq (Aw_block (Aw_sr ?_)))
  refine Al_ml ?_
  refine Al_mr ?_
  refine Al_ns ?_
  refine Al_ml ?_
  refine Al_ml ?_
  refine Al_ml ?_
  refine Al_p (Pu_index rfl Tryz.underlying35 Tryz.sizeOf50 rfl rfl (rfl) (mapget hk)) ?_
  refine Al_p (Pu_lN Tryz.isAgg50 Tryz.sizeOf50) ?_
  refine Al_p (Pu_callv (aa:=[(λx=>.row x.row) l[k]]) (caps:=caps) (hf l[k]) rfl rfl ⟨Sub.rfl,trivial⟩) ?_
  refine Al_nil ?_
  refine Aw_cond rfl (λh16=>?_) (λh16=>?_)
  ·skip
   refine Aw_sr ?_
   refine Al_ml ?_
   refine Al_mr ?_
   refine Al_nil ?_
   exact Aw_ret (Sub.num (S.find_at hk h16 hk2))
  ·skip
   have h16':p l[k]=false:=h16
   refine Aw_skip (Aw_region ?_)
   refine Al_p Pu_ad ?_
   refine Al_ml ?_
   refine Al_nil ?_
   exact⟨k+1,⟨by omega,λj hj hjk=>by
    by_cases e:j=k
    ·subst e;exact h16'
    ·exact hk2 j hj (by omega)⟩,by omega,Le.ov ⟨Sub.num (by omega),trivial⟩ ⟨Sub.rfl,Sub.rfl,Sub.rfl,trivial⟩ trivial trivial⟩
 ·(try simp only[A.cd_]at h9)
  obtain rfl:k=l.length:=by omega
  refine Aw_exit (Aw_sr ?_)
  refine Al_mr ?_
  refine Al_nil ?_
  exact Aw_ret (Sub.num (S.find_no hk2))
abbrev verA (o:Option Ver):AV:=.tup [.row (o.getD default).row,bv o.isSome]
namespace J
def notB (n s:Int) (v:Ver):Bool:=!D.lessB v.n v.s n s
def frm (l:List Ver) (n s:Int):Nat:=l.findIdx (notB n s)
theorem frm_le (l:List Ver) (n s:Int):frm l n s≤l.length:=List.findIdx_le_length
def told (l:List Ver) (i:Int):Option Ver:=if 0≤i∧i<l.length then l[i.toNat]? else none
def head (l:List Ver):Option Ver:=told l ((l.length:Int) - 1)
def isSt (n s:Int) (v:Ver):Bool:=(v.n==n)&&(v.s==s)
def atc (l:List Ver) (n s:Int):Option Ver:=(l[frm l n s]?).filter (isSt n s)
def put (l:List Ver) (v:Ver):Option (List Ver):=if checkB v=true∧(∀x,l[0]?=some x→x.key.toList=v.key.toList)∧(∀x,l[frm l v.n v.s]?=some x→isSt v.n v.s x=false)then some (l.take (frm l v.n v.s)++v::l.drop (frm l v.n v.s))else none
theorem find_frm (l:List Ver) (n s:Int):(S.find (notB n s) l<0∧frm l n s=l.length)∨S.find (notB n s) l=frm l n s:=by
 unfold S.find frm
 split
 ·exact .inr rfl
 ·rename_i h
  refine .inl ⟨by omega,?_⟩
  apply Nat.le_antisymm List.findIdx_le_length
  rw[Nat.le_iff_lt_or_eq]
  refine .inr (List.findIdx_eq_length.2 ?_).symm
  intro x hx
  cases hp:notB n s x with
  | false=>rfl
  | true=>exact(h (List.any_eq_true.2 ⟨x,hx,hp⟩)).elim
theorem told_at {l:List Ver}{i:Nat}(hi:i<l.length):told l i=some l[i]:=by
 unfold told
 rw[if_pos ⟨by omega,by omega⟩,Int.toNat_natCast,List.getElem?_eq_getElem hi]
theorem told_no {l:List Ver}{i:Int}(hi:i<0∨l.length≤i):told l i=none:=if_neg (by omega)
end J
set_option maxRecDepth 100000 in
theorem cfrom1_a (v:Ver) (n s:Int):ACall Tryz.prog 399 [.row v.row,.fp [iv n,iv s]] (bv (J.notB n s v)):=by
 refine AC_1 Tryz.func399 Tryz.ntmps399 Tryz.results399 λhok M0 w0 hnl=>?_
 refine Aw_sr ?_
 refine Al_p Pu_bN ?_
 refine Al_mr ?_
 refine Al_ns ?_
 refine Al_p (Pu_fd 3 Tryz.underlying50 Tryz.sizeOf47) ?_
 refine Al_p (Pu_lN Tryz.isAgg47 Tryz.sizeOf47) ?_
 refine Al_p (Pu_lN Tryz.isAgg47 Tryz.sizeOf47) ?_
 refine Al_p (Pu_call (less_a _ _ _ _) rfl ⟨Sub.rfl,Sub.rfl,trivial⟩) ?_
 refine Al_p Pu_n ?_
 refine Al_mr ?_
 refine Al_nil ?_
 exact Aw_ret (Sub.rfl)
theorem cfrom_a (l:List Ver) (n s:Int):ACall Tryz.prog 373 [versA l,.row [iv n,iv s]] (iv (J.frm l n s:Nat)):=by
 refine AC_1 Tryz.func373 Tryz.ntmps373 Tryz.results373 λhok M0 w0 hnl=>?_
 have hlen:=(hok _ (List.mem_cons_self ..)).len
 rw[List.length_map]at hlen
 have hix:=indexV_a l 399 [.fp [iv n,iv s]] (J.notB n s) λv=>cfrom1_a v n s
 refine Aw_sr ?_
 refine Al_p Pu_bN ?_
 refine Al_mr ?_
 refine Al_ns ?_
 refine Al_ml ?_
 refine Al_p (Pu_makeFunc (caps:=[_]) rfl ⟨Sub.rfl,trivial⟩) ?_
 refine Al_p (Pu_call (hix) rfl ⟨Sub.rfl,Sub.rfl,trivial⟩) ?_
 refine Al_mr ?_
 refine Al_nil (Aw_seq (Aw_sr ?_))
 refine Al_ml ?_
 refine Al_p Pu_cp ?_
 refine Al_nil ?_
 refine Aw_cond rfl (λh10=>?_) (λh10=>?_)
 ·(try simp only[A.cd_]at h10)
  refine Aw_sr ?_
  refine Al_ml ?_
  refine Al_p (Pu_ln Tryz.underlying35) ?_
  refine Al_mr ?_
  refine Al_nil ?_
  exact Aw_ret (Sub.num (by rcases J.find_frm l n s with h|h<;>omega))
 ·(try simp only[A.cd_]at h10)
  refine Aw_skip (Aw_sr ?_)
  refine Al_ml ?_
  refine Al_mr ?_
  refine Al_nil ?_
  exact Aw_ret (Sub.num (by rcases J.find_frm l n s with h|h<;>omega))
set_option maxRecDepth 100000 in
theorem ctold_a (l:List Ver) (i:Int):ACall Tryz.prog 346 [versA l,iv i] (verA (J.told l i)):=by
 refine AC_G Tryz.func346 Tryz.ntmps346 (Reads.cN1 Tryz.results346 Tryz.isAgg50 Tryz.sizeOf50) λhok M0 w0 hnl=>?_
 have hlen:=(hok _ (List.mem_cons_self ..)).len
 rw[List.length_map]at hlen
 refine Aw_sr ?_
 refine Al_al Tryz.zeroValue50 λg4=>?_
 refine Al_mr ?_
 refine Al_nil (Aw_seq (Aw_sr ?_))
 refine Al_ml ?_
 refine Al_p Pu_cp ?_
 refine Al_ml ?_
 refine Al_s (St_g [] trivial (λ_=>Pu_mvl)) ?_
 refine Al_s (St_g [] trivial (λ_=>Pu_mvl)) ?_
 refine Al_s (St_g [10] ⟨⟨_,rfl⟩,trivial⟩ (λ_=>Pu_ln Tryz.underlying35)) ?_
 refine Al_s (St_g [9,11] ⟨⟨_,rfl⟩,⟨_,rfl⟩,trivial⟩ (λ_=>Pu_cp)) ?_
 refine Al_p Pu_o ?_
 refine Al_nil ?_
 refine Aw_cond rfl (λh13=>?_) (λh13=>?_)
 ·(try simp only[A.cd_]at h13)
  refine Aw_sr ?_
  refine Al_p (Pu_build (aa:=[]) rfl Tryz.underlying50 Tryz.zeroValue50 places50 (by kernel_rfl) trivial rfl) ?_
  refine Al_sN Tryz.isAgg50 Tryz.sizeOf50 ?_
  refine Al_mr ?_
  refine Al_nil ?_
  refine Aw_boxle (k:=4) ((default:Ver).row.map .d) rfl ⟨Sub.rfl,Sub.rfl,Sub.rfl,Sub.rfl,Sub.rfl,Sub.nil,trivial⟩ ?_
  exact Aw_ret (⟨_,_,_,_,_,[_,_,_,_,_,_],_,rfl,rfl,rfl,rfl,Sub.rfl,by rw[J.told_no (by omega)];rfl⟩)
 ·(try simp only[A.cd_]at h13)
  obtain⟨k,rfl⟩:∃k:Nat,i=k:=⟨i.toNat,by omega⟩
  have hk:k<l.length:=by omega
  refine Aw_skip (Aw_sr ?_)
  refine Al_ml ?_
  refine Al_ml ?_
  refine Al_p (Pu_index rfl Tryz.underlying35 Tryz.sizeOf50 rfl rfl (rfl) (mapgetD (d:=default) hk)) ?_
  refine Al_p (Pu_lN Tryz.isAgg50 Tryz.sizeOf50) ?_
  refine Al_sN Tryz.isAgg50 Tryz.sizeOf50 ?_
  refine Al_mr ?_
  refine Al_nil ?_
  refine Aw_ret ?_
  exact⟨_,_,_,_,_,[_,_,_,_,_,_],_,rfl,rfl,rfl,rfl,Sub.rfl,by
   rw[J.told_at hk,show l[k]=l.getD k default from by simp[hk]];rfl⟩
set_option maxRecDepth 100000 in
theorem chead_a (l:List Ver):ACall Tryz.prog 275 [versA l] (verA (J.head l)):=by
 refine AC_G Tryz.func275 Tryz.ntmps275 (Reads.cN1 Tryz.results275 Tryz.isAgg50 Tryz.sizeOf50) λhok M0 w0 hnl=>?_
 have hlen:=(hok _ (List.mem_cons_self ..)).len
 rw[List.length_map]at hlen
 refine Aw_sr ?_
 refine Al_al Tryz.zeroValue50 λg2=>?_
 refine Al_mr ?_
 refine Al_ns ?_
 refine Al_ml ?_
 refine Al_ml ?_
 refine Al_p (Pu_ln Tryz.underlying35) ?_
 refine Al_p (Pu_sub rfl rfl rfl (λh1 h2=>by simp only[A.inI,A.maxI]at *;omega)) ?_
 refine Al_p (Pu_call (ctold_a l _) rfl ⟨Sub.rfl,Sub.rfl,trivial⟩) ?_
 refine Al_p Pu_ex ?_
 refine Al_p Pu_ex ?_
 refine Al_sN Tryz.isAgg50 Tryz.sizeOf50 ?_
 refine Al_mr ?_
 refine Al_nil ?_
 exact Aw_ret (⟨_,_,_,_,_,[_,_,_,_,_,_],_,rfl,rfl,rfl,rfl,Sub.rfl,rfl⟩)
set_option maxRecDepth 100000 in
theorem cat_a (l:List Ver) (n s:Int):ACall Tryz.prog 393 [versA l,.row [iv n,iv s]] (verA (J.atc l n s)):=by
 refine AC_G Tryz.func393 Tryz.ntmps393 (Reads.cN1 Tryz.results393 Tryz.isAgg50 Tryz.sizeOf50) λhok M0 w0 hnl=>?_
 refine Aw_sr ?_
 refine Al_p Pu_bN ?_
 refine Al_al Tryz.zeroValue50 λg4=>?_
 refine Al_mr ?_
 refine Al_ns ?_
 refine Al_ml ?_
 refine Al_ml ?_
 refine Al_p (Pu_lN Tryz.isAgg47 Tryz.sizeOf47) ?_
 refine Al_p (Pu_call (cfrom_a l n s) rfl ⟨Sub.rfl,Sub.rfl,trivial⟩) ?_
 refine Al_p (Pu_call (ctold_a l _) rfl ⟨Sub.rfl,Sub.rfl,trivial⟩) ?_
 refine Al_ml ?_
 refine Al_p Pu_ex ?_
 refine Al_p Pu_ex ?_
 refine Al_al Tryz.zeroValue50 λg6=>?_
 refine Al_sN Tryz.isAgg50 Tryz.sizeOf50 ?_
 refine Al_mr ?_
 refine Al_nil (Aw_seq (Aw_sr ?_))
 refine Al_ml ?_
 refine Al_p Pu_n ?_
 refine Al_ml ?_
 refine Al_s (St_g [] trivial (λ_=>Pu_fb 3 Tryz.underlying50 Tryz.sizeOf47)) ?_
 refine Al_s (St_g [19] ⟨⟨_,rfl⟩,trivial⟩ (λ_=>Pu_lbN (r:=[_,_]) Tryz.isAgg47 Tryz.sizeOf47)) ?_
 refine Al_s (St_g [] trivial (λ_=>Pu_lN Tryz.isAgg47 Tryz.sizeOf47)) ?_
 refine Al_s (St_g [20,21] ⟨⟨_,rfl⟩,⟨_,rfl⟩,trivial⟩ (λ_=>Pu_eqrow [.int .i64 _,.int .i64 _] [.int .i64 _,.int .i64 _] (λw=>nev47 _ _ _ _ _ _ w) rfl rfl rfl)) ?_
 refine Al_p Pu_o ?_
 refine Al_nil ?_
 refine Aw_cond rfl (λh23=>?_) (λh23=>?_)
 ·skip
  have hno:J.atc l n s=none:=by
   unfold J.atc
   rcases Nat.lt_or_ge (J.frm l n s) l.length with h|h
   ·rw[J.told_at h]at h23
    rw[List.getElem?_eq_getElem h,Option.filter_some]
    simp only[Option.isSome_some,Option.getD_some,Bool.not_true,Bool.false_or,Bool.not_eq_true']at h23
    rw[if_neg (by unfold J.isSt;rw[h23];decide)]
   ·rw[List.getElem?_eq_none h];rfl
  refine Aw_sr ?_
  refine Al_p (Pu_build (aa:=[]) rfl Tryz.underlying50 Tryz.zeroValue50 places50 (by kernel_rfl) trivial rfl) ?_
  refine Al_sN Tryz.isAgg50 Tryz.sizeOf50 ?_
  refine Al_mr ?_
  refine Al_nil ?_
  refine Aw_boxle (k:=4) ((default:Ver).row.map .d) rfl ⟨Sub.rfl,Sub.rfl,Sub.rfl,Sub.rfl,Sub.rfl,Sub.nil,trivial⟩ ?_
  exact Aw_ret (⟨_,_,_,_,_,[_,_,_,_,_,_],_,rfl,rfl,rfl,rfl,Sub.rfl,by rw[hno];rfl⟩)
 ·skip
  have hyes:J.atc l n s=J.told l (J.frm l n s:Nat):=by
   unfold J.atc
   rcases Nat.lt_or_ge (J.frm l n s) l.length with h|h
   ·rw[J.told_at h]at h23 ⊢
    rw[List.getElem?_eq_getElem h,Option.filter_some]
    simp only[Option.isSome_some,Option.getD_some,Bool.not_true,Bool.false_or,Bool.not_eq_false']at h23
    rw[if_pos (by unfold J.isSt;rw[h23])]
   ·rw[J.told_no (.inr (by omega)),List.getElem?_eq_none h];rfl
  have hsm:(J.told l (J.frm l n s:Nat)).isSome=true:=by
   cases h:(J.told l (J.frm l n s:Nat)).isSome with
   | true=>rfl
   | false=>rw[h]at h23;simp at h23
  refine Aw_skip (Aw_sr ?_)
  refine Al_p (Pu_lbN (r:=[_,_,_,_,_,_]) Tryz.isAgg50 Tryz.sizeOf50) ?_
  refine Al_sN Tryz.isAgg50 Tryz.sizeOf50 ?_
  refine Al_mr ?_
  refine Al_nil ?_
  exact Aw_ret (⟨_,_,_,_,_,[_,_,_,_,_,_],_,rfl,rfl,rfl,rfl,Sub.rfl,by rw[hyes,verA,hsm];rfl⟩)
set_option maxRecDepth 100000 in
set_option maxHeartbeats 1000000 in
theorem cput_a (l:List Ver) (v:Ver) (hl:l.length≤1000):ACall Tryz.prog 351 [versA l,.row v.row] (.tup [versA ((J.put l v).getD l),bv (J.put l v).isSome]):=by
 refine AC_2 Tryz.func351 Tryz.ntmps351 Tryz.results351 λhok M0 w0 hnl=>?_
 have hfl:=J.frm_le l v.n v.s
 refine Aw_sr ?_
 refine Al_p Pu_bN ?_
 refine Al_mr ?_
 refine Al_mr ?_
 refine Al_ns ?_
 refine Al_ml ?_
 refine Al_p (Pu_fd 3 Tryz.underlying50 Tryz.sizeOf47) ?_
 refine Al_p (Pu_lN Tryz.isAgg47 Tryz.sizeOf47) ?_
 refine Al_p (Pu_call (cfrom_a l v.n v.s) rfl ⟨Sub.rfl,Sub.rfl,trivial⟩) ?_
 refine Al_mr ?_
 refine Al_nil (Aw_seq (Aw_seq ?_))
 refine Aw_dr 33 ?_
 refine Dr_p (Pu_lN Tryz.isAgg50 Tryz.sizeOf50) ?_
 refine Dr_p (Pu_call (wcheck_a v) rfl ⟨Sub.rfl,trivial⟩) ?_
 refine Dr_p Pu_n ?_
 refine Dr_ml ?_
 refine Dr_s (St_g [] trivial (λ_=>Pu_mvl)) ?_
 refine Dr_s (St_g [15] ⟨⟨_,rfl⟩,trivial⟩ (λ_=>Pu_ln Tryz.underlying35)) ?_
 refine Dr_s (St_g [16] ⟨⟨_,rfl⟩,trivial⟩ (λ_=>Pu_cp)) ?_
 refine Dr_s (St_g [17] ⟨⟨_,rfl⟩,trivial⟩ (λ_=>Pu_mvl)) ?_
 refine Dr_s (St_gd2 [] rfl rfl rfl rfl trivial (λhp19 hg19=>Pu_mvl)) ?_
 refine Dr_s (St_gd2 [19] rfl rfl rfl rfl ⟨⟨_,rfl⟩,trivial⟩ (λhp20 hg20=>by exact Pu_index rfl Tryz.underlying35 Tryz.sizeOf50 rfl rfl (rfl) (mapgetD (d:=default) (show 0<l.length from by have:=of_decide_eq_true hg20;omega)))) ?_
 refine Dr_s (St_gd2 [20] rfl rfl rfl rfl ⟨⟨_,rfl⟩,trivial⟩ (λhp21 hg21=>Pu_fd 0 Tryz.underlying50 Tryz.sizeOf9)) ?_
 refine Dr_s (St_gd2 [21] rfl rfl rfl rfl ⟨⟨_,rfl⟩,trivial⟩ (λhp22 hg22=>Pu_l1 Tryz.isAgg9)) ?_
 refine Dr_s (St_gd2 [] rfl rfl rfl rfl trivial (λhp23 hg23=>Pu_fd 0 Tryz.underlying50 Tryz.sizeOf9)) ?_
 refine Dr_s (St_gd2 [23] rfl rfl rfl rfl ⟨⟨_,rfl⟩,trivial⟩ (λhp24 hg24=>Pu_l1 Tryz.isAgg9)) ?_
 refine Dr_s (St_gd2 [22,24] rfl rfl rfl rfl ⟨⟨_,rfl⟩,⟨_,rfl⟩,trivial⟩ (λhp25 hg25=>Pu_sr)) ?_
 refine Dr_s (St_g [18] ⟨⟨_,rfl⟩,trivial⟩ (λhg26=>Pu_andG rfl rfl (λh=>⟨hg26,h⟩) rfl rfl)) ?_
 refine Dr_p Pu_o ?_
 refine Dr_ml ?_
 refine Dr_s (St_g [] trivial (λ_=>Pu_mvl)) ?_
 refine Dr_s (St_g [] trivial (λ_=>Pu_mvl)) ?_
 refine Dr_s (St_g [30] ⟨⟨_,rfl⟩,trivial⟩ (λ_=>Pu_ln Tryz.underlying35)) ?_
 refine Dr_s (St_g [29,31] ⟨⟨_,rfl⟩,⟨_,rfl⟩,trivial⟩ (λ_=>Pu_cp)) ?_
 refine Dr_s (St_g [32] ⟨⟨_,rfl⟩,trivial⟩ (λ_=>Pu_mvl)) ?_
 refine Dr_s (St_gd2 [] rfl rfl rfl rfl trivial (λhp34 hg34=>Pu_mvl)) ?_
 refine Dr_s (St_gd2 [] rfl rfl rfl rfl trivial (λhp35 hg35=>Pu_mvl)) ?_
 refine Dr_s (St_gd2 [34,35] rfl rfl rfl rfl ⟨⟨_,rfl⟩,⟨_,rfl⟩,trivial⟩ (λhp36 hg36=>by exact Pu_index rfl Tryz.underlying35 Tryz.sizeOf50 rfl rfl (rfl) (mapgetD (d:=default) (show J.frm l v.n v.s<l.length from by have:=of_decide_eq_true hg36;omega)))) ?_
 refine Dr_s (St_gd2 [36] rfl rfl rfl rfl ⟨⟨_,rfl⟩,trivial⟩ (λhp37 hg37=>Pu_fd 3 Tryz.underlying50 Tryz.sizeOf47)) ?_
 refine Dr_s (St_gd2 [37] rfl rfl rfl rfl ⟨⟨_,rfl⟩,trivial⟩ (λhp38 hg38=>Pu_lN Tryz.isAgg47 Tryz.sizeOf47)) ?_
 refine Dr_s (St_gd2 [] rfl rfl rfl rfl trivial (λhp39 hg39=>Pu_fd 3 Tryz.underlying50 Tryz.sizeOf47)) ?_
 refine Dr_s (St_gd2 [39] rfl rfl rfl rfl ⟨⟨_,rfl⟩,trivial⟩ (λhp40 hg40=>Pu_lN Tryz.isAgg47 Tryz.sizeOf47)) ?_
 refine Dr_s (St_gd2 [38,40] rfl rfl rfl rfl ⟨⟨_,rfl⟩,⟨_,rfl⟩,trivial⟩ (λhp41 hg41=>Pu_eqrow [.int .i64 _,.int .i64 _] [.int .i64 _,.int .i64 _] (λw=>eqv47 _ _ _ _ _ _ w) rfl rfl rfl)) ?_
 refine Dr_s (St_g [33] ⟨⟨_,rfl⟩,trivial⟩ (λhg42=>Pu_andG rfl rfl (λh=>⟨hg42,h⟩) rfl rfl)) ?_
 refine Dr_p Pu_o ?_
 refine Dr_nil (Al_nil ?_)
 refine Aw_cond rfl (λh43=>?_) (λh43=>?_)
 ·skip
  have hno:J.put l v=none:=by
   unfold J.put
   rw[if_neg]
   rintro⟨h1,h2,h3⟩
   simp only[h1,Bool.not_true,Bool.false_or,Bool.or_eq_true,Bool.and_eq_true,decide_eq_true_eq,Bool.not_eq_true']at h43
   rcases h43 with⟨h4,h5⟩|⟨h4,h5⟩
   ·have h6:0<l.length:=by omega
    have:=h2 _ (List.getElem?_eq_getElem h6)
    rw[show l.getD 0 default=l[0]from by simp[h6]]at h5
    simp[this]at h5
   ·have h6:J.frm l v.n v.s<l.length:=by omega
    have:=h3 _ (List.getElem?_eq_getElem h6)
    unfold J.isSt at this
    rw[show l.getD (J.frm l v.n v.s) default=l[J.frm l v.n v.s]from by simp[h6]]at h5
    rw[Bool.and_eq_false_iff]at this
    simp only[beq_iff_eq]at h5
    rcases this with h|h<;>simp[h5]at h
  refine Aw_sr ?_
  refine Al_ml ?_
  refine Al_mr ?_
  refine Al_mr ?_
  refine Al_nil ?_
  exact Aw_ret (⟨Sub.d (by rw[hno];rfl),Sub.bool (by rw[hno];rfl)⟩)
 ·skip
  have hyes:J.put l v=some (l.take (J.frm l v.n v.s)++v::l.drop (J.frm l v.n v.s)):=by
   unfold J.put
   simp only[Bool.or_eq_false_iff,Bool.not_eq_false',Bool.and_eq_false_iff,decide_eq_false_iff_not]at h43
   obtain⟨⟨h1,h2⟩,h3⟩:=h43
   refine if_pos ⟨h1,λx hx=>?_,λx hx=>?_⟩
   ·obtain⟨h6,rfl⟩:=List.getElem?_eq_some_iff.1 hx
    rcases h2 with h|h
    ·omega
    ·rw[show l.getD 0 default=l[0]from by simp[h6]]at h
     simpa using h
   ·obtain⟨h6,rfl⟩:=List.getElem?_eq_some_iff.1 hx
    rcases h3 with h|h
    ·omega
    ·rw[show l.getD (J.frm l v.n v.s) default=l[J.frm l v.n v.s]from by simp[h6]]at h
     unfold J.isSt
     rw[Bool.and_eq_false_iff]
     exact h
  refine Aw_skip ?_
  refine Aw_seq ?_
  refine Aw_drawn (by kernel_rfl) ?_
  refine Ad_t 0 rfl (PuI_move (.inl rfl) (by conv=>lhs;whnf)) ?_
  refine Ad_t 2 rfl (PuI_move (.inl rfl) (by conv=>lhs;whnf)) ?_
  refine Ad_two 1 3 rfl rfl (by kernel_rfl) ?_ ?_
  ·refine Al_gcall [] [(1001,46)] (cloneV_g l (by omega)) rfl rfl rfl (by decide) (by kernel_rfl) trivial rfl ⟨Sub.rfl,trivial⟩ (λg46=>?_)
   refine Al_nil ?_
   refine Ad_o 3 ?_
   refine Al_p (Pu_lN Tryz.isAgg50 Tryz.sizeOf50) ?_
   refine Al_nil ?_
   refine Ad_o 4 ?_
   refine Al_sliceLit (aa:=[(0,_)]) (rows:=[v.row]) rfl rfl rfl (by decide) (by kernel_rfl) Tryz.underlying35 Tryz.sizeOf50 Tryz.zeroValue50 rfl (by decide) (by decide) (by decide) (by kernel_rfl) ⟨rfl,rfl,rfl,trivial⟩ (rfl) rfl rfl (λg49=>?_)
   refine Al_nil ?_
   refine Ad_o 5 ?_
   refine Al_gcall [(1001,46,g46),(1002,49,g49)] [(1003,50)] (insertV_g l v (J.frm l v.n v.s) hfl (by omega)) rfl rfl rfl (by decide) (by kernel_rfl) ⟨rfl,rfl,trivial⟩ rfl ⟨Sub.rfl,Sub.rfl,Sub.rfl,trivial⟩ (λg50=>?_)
   refine Al_nil ?_
   refine Ad_t 6 rfl (PuI_move (.inr rfl) (by conv=>lhs;whnf)) ?_
   refine Ad_t 7 rfl (PuI_move (.inr rfl) (by conv=>lhs;whnf)) ?_
   refine Ad_d ?_
   refine Aw_frz hnl (k:=50) [4] rfl ⟨rfl,trivial⟩ ?_
   exact Aw_ret (⟨Sub.d (by rw[hyes];rfl),Sub.bool (by rw[hyes];rfl)⟩)
  ·refine Al_p (Pu_lN Tryz.isAgg50 Tryz.sizeOf50) ?_
   refine Al_nil ?_
   refine Ad_two 1 4 rfl rfl (by kernel_rfl) ?_ ?_
   ·refine Al_gcall [] [(1001,46)] (cloneV_g l (by omega)) rfl rfl rfl (by decide) (by kernel_rfl) trivial rfl ⟨Sub.rfl,trivial⟩ (λg46=>?_)
    refine Al_nil ?_
    refine Ad_o 4 ?_
    refine Al_sliceLit (aa:=[(0,_)]) (rows:=[v.row]) rfl rfl rfl (by decide) (by kernel_rfl) Tryz.underlying35 Tryz.sizeOf50 Tryz.zeroValue50 rfl (by decide) (by decide) (by decide) (by kernel_rfl) ⟨rfl,rfl,rfl,trivial⟩ (rfl) rfl rfl (λg49=>?_)
    refine Al_nil ?_
    refine Ad_o 5 ?_
    refine Al_gcall [(1001,46,g46),(1002,49,g49)] [(1003,50)] (insertV_g l v (J.frm l v.n v.s) hfl (by omega)) rfl rfl rfl (by decide) (by kernel_rfl) ⟨rfl,rfl,trivial⟩ rfl ⟨Sub.rfl,Sub.rfl,Sub.rfl,trivial⟩ (λg50=>?_)
    refine Al_nil ?_
    refine Ad_t 6 rfl (PuI_move (.inr rfl) (by conv=>lhs;whnf)) ?_
    refine Ad_t 7 rfl (PuI_move (.inr rfl) (by conv=>lhs;whnf)) ?_
    refine Ad_d ?_
    refine Aw_frz hnl (k:=50) [4] rfl ⟨rfl,trivial⟩ ?_
    exact Aw_ret (⟨Sub.d (by rw[hyes];rfl),Sub.bool (by rw[hyes];rfl)⟩)
   ·refine Al_sliceLit (aa:=[(0,_)]) (rows:=[v.row]) rfl rfl rfl (by decide) (by kernel_rfl) Tryz.underlying35 Tryz.sizeOf50 Tryz.zeroValue50 rfl (by decide) (by decide) (by decide) (by kernel_rfl) ⟨rfl,rfl,rfl,trivial⟩ (rfl) rfl rfl (λg49=>?_)
    refine Al_nil ?_
    refine Ad_o 1 ?_
    refine Al_gcall [] [(1001,46)] (cloneV_g l (by omega)) rfl rfl rfl (by decide) (by kernel_rfl) trivial rfl ⟨Sub.rfl,trivial⟩ (λg46=>?_)
    refine Al_nil ?_
    refine Ad_o 5 ?_
    refine Al_gcall [(1001,46,g46),(1002,49,g49)] [(1003,50)] (insertV_g l v (J.frm l v.n v.s) hfl (by omega)) rfl rfl rfl (by decide) (by kernel_rfl) ⟨rfl,rfl,trivial⟩ rfl ⟨Sub.rfl,Sub.rfl,Sub.rfl,trivial⟩ (λg50=>?_)
    refine Al_nil ?_
    refine Ad_t 6 rfl (PuI_move (.inr rfl) (by conv=>lhs;whnf)) ?_
    refine Ad_t 7 rfl (PuI_move (.inr rfl) (by conv=>lhs;whnf)) ?_
    refine Ad_d ?_
    refine Aw_frz hnl (k:=50) [4] rfl ⟨rfl,trivial⟩ ?_
    exact Aw_ret (⟨Sub.d (by rw[hyes];rfl),Sub.bool (by rw[hyes];rfl)⟩)
end Go.Proofs.YtdnijgdmohinlaaGreat
end
section
namespace Go.Proofs
open Go.RowKit Go.Maps Go.Sort Go.Shelf
def Tryz.sorted_ren:Go.Shelf.Ren:=⟨fun|6=>240|8=>312|11=>361|9=>313|n=>n,fun|0=>0|24=>39|26=>9|28=>302|33=>186|n=>n,fun|n=>n⟩
theorem Tryz.sorted_lays:SlLaysZ.n6 Tryz.prog Tryz.sorted_ren:={
 mixed:=by kernel_rfl
 f6:=⟨Tryz.f240.name,by kernel_rfl,Tryz.func240.trans (congrArg some (by kernel_rfl))⟩
 f8:=⟨Tryz.f312.name,by kernel_rfl,Tryz.func312.trans (congrArg some (by kernel_rfl))⟩
 f11:=⟨Tryz.f361.name,by kernel_rfl,Tryz.func361.trans (congrArg some (by kernel_rfl))⟩
 t0:=Tryz.underlying0
 a0:=Tryz.isAgg0
 z0:=Tryz.sizeOf0
 v0:=Tryz.zeroValue0
 t24:=Tryz.underlying39
 a24:=Tryz.isAgg39
 z24:=Tryz.sizeOf39
 v24:=Tryz.zeroValue39
 t26:=Tryz.underlying9
 a26:=Tryz.isAgg9
 z26:=Tryz.sizeOf9
 v26:=Tryz.zeroValue9
 t28:=Tryz.underlying302
 a28:=Tryz.isAgg302
 z28:=Tryz.sizeOf302
 v28:=Tryz.zeroValue302
 i26:=by kernel_rfl}
theorem Tryz.sorts_in (m:Nat):AnyZ.SortsIn Tryz.prog Tryz.sorted_ren Fence.wide m :=
 ⟨λblk off cap ss W hH hblk hsz=>callsIn_wide.2 (Tryz.slices_Sort_string blk off cap ss W hH hblk hsz),
  λp cap W=>callsIn_wide.2 (Tryz.slices_Sort_string_none p cap W)⟩
end Go.Proofs
namespace Go.Proofs.YtdnijgdmohinlaaGreat
open Go Go.RowKit Go.Maps Go.Sort Go.Shelf A R
abbrev keyS (s:ByteArray):Value:=.string s
abbrev okS (s:ByteArray):Prop:=s.size≤A.maxI
theorem keyS_T:KeyT Tryz.prog 9 ByteArray keyS okS:=KeyT.of (Maps.string_keyed Tryz.underlying9) (λa ha=>⟨_,Go.WideMaps.keyOf_string_mk Tryz.underlying9 ha⟩) λa b h=>by cases h;rfl
def Rise (ks:List ByteArray):Prop:=ks.Pairwise λa b=>Op.bytesLess a.toList b.toList=true
theorem enc_flat:∀(ks:List ByteArray),(ks.map (·.data.toList)).map encStr=(ks.map λs=>[Value.string s]).flatten
 | []=>rfl
 | a::r=>by simp only[List.map_cons,List.flatten_cons];rw[enc_flat r];rfl
def Tryz.keysV_ren:Go.Shelf.Ren:=⟨fun|7=>274|10=>345|n=>n,fun|0=>0|3=>35|4=>4|23=>236|26=>9|27=>301|28=>302|33=>186|n=>n,fun|n=>n⟩
theorem Tryz.keysV:SlLaysZ.n7 Tryz.prog Tryz.keysV_ren:={
 mixed:=by kernel_rfl
 f7:=⟨Tryz.f274.name,by kernel_rfl,Tryz.func274.trans (congrArg some (by kernel_rfl))⟩
 f10:=⟨Tryz.f345.name,by kernel_rfl,Tryz.func345.trans (congrArg some (by kernel_rfl))⟩
 t0:=Tryz.underlying0
 a0:=Tryz.isAgg0
 z0:=Tryz.sizeOf0
 v0:=Tryz.zeroValue0
 t4:=Tryz.underlying4
 a4:=Tryz.isAgg4
 z4:=Tryz.sizeOf4
 v4:=Tryz.zeroValue4
 t23:=Tryz.underlying236
 a23:=Tryz.isAgg236
 z23:=Tryz.sizeOf236
 v23:=Tryz.zeroValue236
 t26:=Tryz.underlying9
 a26:=Tryz.isAgg9
 z26:=Tryz.sizeOf9
 v26:=Tryz.zeroValue9
 t27:=Tryz.underlying301
 a27:=Tryz.isAgg301
 z27:=Tryz.sizeOf301
 v27:=Tryz.zeroValue301
 t28:=Tryz.underlying302
 a28:=Tryz.isAgg302
 z28:=Tryz.sizeOf302
 v28:=Tryz.zeroValue302
 t33:=Tryz.underlying186
 a33:=Tryz.isAgg186
 z33:=Tryz.sizeOf186
 v33:=Tryz.zeroValue186}
set_option maxRecDepth 100000 in
theorem keysV_g {κ α:Type}(kv:κ→Value) (ok:κ→Prop) (enc:α→AV) (b n:Nat) (m:κ→Option α):GCall Tryz.prog 274 [.ow 1001 0] [(1001,.op (mapO kv ok enc b n m))] (some ([(1001,.op (mapO kv ok enc b n m)),(1002,.box 236 [.ow 1001 0])],.fnb 345 [] [.bx 1002 0 0])):=by
 refine GC_1 Tryz.func274 Tryz.ntmps274 (ReadsS.r1 Tryz.results274) λhok hokB M0 w0=>?_
 refine Aw_sr ?_
 refine Al_box1 rfl rfl rfl (by decide) (by kernel_rfl) (by conv=>lhs;whnf) rfl (λg1=>?_)
 refine Al_mr ?_
 refine Al_ns ?_
 refine Al_p (Pu_makeFuncS [] [.bx 1 g1 0] rfl trivial ⟨Sub.rfl,trivial⟩) ?_
 refine Al_mr ?_
 refine Al_nil ?_
 exact Aw_ret (⟨_,_,[(1002,1,g1)],rfl,Sub.rfl,⟨rfl,rfl,trivial⟩,rfl⟩)
set_option maxHeartbeats 1000000 in
theorem sortedV_g {α:Type}(enc:α→AV) (b n:Nat) (m:ByteArray→Option α) (ks:List ByteArray) (hr:Rise ks) (hk:∀k,(m k).isSome=true↔k∈ks) (hn:n≤1000000):GCall Tryz.prog 240 [.fnb 345 [] [.bx 1002 0 0]] [(1001,.op (mapO keyS okS enc b n m)),(1002,.box 236 [.ow 1001 0])] (some ([(1001,.op (mapO keyS okS enc b n m)),(1003,.arr 9 1 (ks.map λs=>[tv s]))],.ow 1003 0)):=⟨λ_ _=>by kernel_rfl,λM w ρ vs hM hbnd ha hobs hfps hap=>by
 obtain⟨h1,e1,_,hh1,hmp⟩:=hobs (1001,.op (mapO keyS okS enc b n m)) (by simp)
 obtain⟨h2,e2,b2,cs2,rfl,_,hb2,hsz2,hcs2⟩:=hobs (1002,.box 236 [.ow 1001 0]) (by simp)
 have hmb:M b:=hfps b ⟨_,List.mem_cons_self ..,h1,e1,rfl⟩
 have hcell:w.cell? ⟨b2,0,none⟩=some (.map (some b)):=by
  have h0:0<cs2.size:=by rw[hsz2];exact Nat.one_pos
  have h3:cs2[0]?=some cs2[0]:=Array.getElem?_eq_getElem h0
  obtain⟨⟨h4,_⟩,_⟩:=hcs2 0 (.ow 1001 0) cs2[0] rfl h3
  rw[e1]at h4
  rw[Lib.cell_of_heap hb2]
  show cs2[0]?=_
  rw[h3,←Option.some.inj h4,hh1]
 match vs,ha with
 | [x],ha =>
 obtain⟨us,vs',rfl,⟨hu,_⟩,hv1,hv2⟩:=ha.2 0 _ x rfl rfl
 obtain rfl:us=[]:=List.eq_nil_of_length_eq_zero hu
 match vs',hv1,hv2 with
 | [y],_,hv2 =>
 obtain⟨z,bz,ez,hz1,rfl⟩:=hv2 0 _ y rfl rfl
 rw[e2]at ez
 obtain rfl:=Option.some.inj ez
 have hbz:b2=bz:=by simpa [blk]using hz1
 subst hbz
 obtain⟨es,clock,hbm,hst,hsz,hent,hall⟩:=hmp
 have hrd:∀x∈es.toList,∃c,okS c∧x.key=keyS c∧(m c).isSome=true∧WideElems.rd (H:=Unit) Tryz.prog 9 (λ_=>some (.lit (.bool true),[])) x=some (.string c.data.toList,.lit (.bool true)):=λx hx=>by
  obtain⟨c,v,h3,h4,h5,_⟩:=hent x hx
  refine⟨c,h3,h4,by rw[h5];rfl,?_⟩
  have:=WideElems.rd_mk (H:=Unit) (P:=Tryz.prog) (k:=9) (R:=λ_=>some (.lit (.bool true),[])) (key:=x.key) (val:=x.val) (born:=x.born) (kl:=.string c.data.toList) (yv:=(.lit (.bool true),[])) (by rw[h4];exact WideMaps.keyOf_string_mk Tryz.underlying9 h3) rfl
  exact this
 have hown:w.ownsMap (H:=Unit) Tryz.prog 9 (λ_=>some (.lit (.bool true),[])) b n (.map ((es.toList.map (WideElems.rg Tryz.prog 9 (λ_=>some (.lit (.bool true),[])))).foldr DataW.insert [])) :=
  ⟨es,clock,hbm,⟨by have:maxLen=9223372036854775807:=rfl;omega,hst,λx hx=>by obtain⟨c,_,_,_,h6⟩:=hrd x hx;exact⟨_,h6⟩⟩,hsz,rfl⟩
 have hsl:=hown.size_le
 have hlt2:b2<w.heap.size:=(Array.getElem?_eq_some_iff.1 hb2).1
 have hseq:=AnyZ.keys_gives (ρ:=Tryz.keysV_ren) {Tryz.keysV with} Fence.wide 2 trivial rfl (by omega) b2 b n _ w hlt2 hcell hown
 have hS:=AnyZ.sorted_in Tryz.sorted_lays Fence.wide 5 trivial trivial trivial trivial rfl (by omega) (Tryz.sorts_in _) (enters_of Tryz.func313 (by kernel_rfl) rfl) 345 #[.pointer (some ⟨b2,0,none⟩)] trivial (enters_of Tryz.func345 (by kernel_rfl) rfl) _ _ (Nat.le_trans hsl (by have:maxLen=9223372036854775807:=rfl;omega)) (by omega) _ hseq
 refine(callsIn_wide.1 hS).mono λe w' ⟨v,ss,he,hperm,hrow,hnil,hbel⟩=>?_
 have hext:Ev.Ext w w':=hbel
 have hkp:∀c∈ks,okS c:=λc hc=>by
  obtain⟨x,hx⟩:=Option.isSome_iff_exists.1 ((hk c).2 hc)
  obtain⟨e,he,hek⟩:=hall c x hx
  obtain⟨c',_,h3,h4,_⟩:=hent e he
  rw[h4]at hek
  cases hek;exact h3
 have hinj:∀a c:ByteArray,a.data.toList=c.data.toList→a=c:=λa c h=>ByteArray.ext (Array.toList_inj.1 h)
 have hlt:(ks.map (·.data.toList)).Pairwise (·<·):=by
  rw[List.pairwise_map]
  refine hr.imp λ{a c} h=>?_
  rw[ByteArray.toList_eq,ByteArray.toList_eq,bytesLess_eq]at h
  simpa using h
 have hnd:(ks.map (·.data.toList)).Nodup:=hlt.imp λ{a c} h e=>by rw[e]at h;exact List.lt_irrefl _ h
 have hpk:(ks.map (·.data.toList)).Perm (strKeys (.map ((es.toList.map (WideElems.rg (H:=Unit) Tryz.prog 9 (λ_=>some (.lit (.bool true),[])))).foldr DataW.insert []))):=by
  obtain⟨es',hD,hpw,_⟩:=hown.entries (Maps.string_keyed Tryz.underlying9)
  cases hD
  have hmem:∀p:Lit×DataW Unit,p∈(es.toList.map (WideElems.rg (H:=Unit) Tryz.prog 9 (λ_=>some (.lit (.bool true),[])))).foldr DataW.insert []↔∃x∈es.toList,∃c,x.key=keyS c∧(m c).isSome=true∧p=(.string c.data.toList,.lit (.bool true)):=λp=>by
   rw[mem_sorted,List.mem_map]
   constructor
   ·rintro⟨x,hx,rfl⟩
    obtain⟨c,_,h4,h5,h6⟩:=hrd x hx
    exact⟨x,hx,c,h4,h5,WideElems.rg_of h6⟩
   ·rintro⟨x,hx,c,h4,_,rfl⟩
    obtain⟨c',_,h4',_,h6⟩:=hrd x hx
    rw[h4]at h4'
    cases h4'
    exact⟨x,hx,WideElems.rg_of h6⟩
  refine perm_strKeys hpw (λp hp=>?_) hnd λx=>?_
  ·obtain⟨_,_,c,_,_,rfl⟩:=(hmem p).1 hp
   exact⟨_,rfl⟩
  ·rw[Maps.has_eq,List.any_eq_true,List.mem_map]
   constructor
   ·rintro⟨c,hc,rfl⟩
    obtain⟨y,hy⟩:=Option.isSome_iff_exists.1 ((hk c).2 hc)
    obtain⟨e0,he0,hek⟩:=hall c y hy
    exact⟨_,(hmem _).2 ⟨e0,he0,c,hek,(hk c).2 hc,rfl⟩,by simp[Lit.sameKey]⟩
   ·rintro⟨p,hp,hs⟩
    obtain⟨_,_,c,_,hsm,rfl⟩:=(hmem p).1 hp
    refine⟨c,(hk c).1 hsm,?_⟩
    simpa [Lit.sameKey]using hs
 have hsort:ss.mergeSort (λx y=>decide (x≤y))=ks.map (·.data.toList):=by
  have h3:=mergeSort_of_perm (hperm.trans hpk.symm)
  refine h3.trans (List.mergeSort_of_pairwise ?_)
  refine hlt.imp λ{a c} h=>?_
  simpa using List.le_of_lt h
 have hss:ss.length=ks.length:=by rw[←List.length_mergeSort ss (le:=λx y=>decide (x≤y)),hsort,List.length_map]
 have hvals:(ss.mergeSort (λx y=>decide (x≤y))).map encStr=(ks.map λs=>[Value.string s]).flatten:=by
  rw[hsort,enc_flat]
 rw[hvals,hss]at hrow
 let ρ':Rho:=λk g=>if k=1003∧g=0 then some v else ρ k g
 have r1:ρ' 1001 0=ρ 1001 0:=if_neg (by decide)
 have r2:ρ' 1002 0=ρ 1002 0:=if_neg (by decide)
 have r3:ρ' 1003 0=some v:=if_pos ⟨rfl,rfl⟩
 have hblk:∀c,blk v=some c→w.heap.size≤c:=λc hc=>by
  rcases hrow.2 with⟨rfl,_⟩|⟨gb,cap,cur,rfl,hbase,_⟩
  ·cases hc
  ·simp[blk]at hc;omega
 have hf':∀c,fps ρ' [(1001,.op (mapO keyS okS enc b n m)),(1003,.arr 9 1 (ks.map λs=>[tv s]))] c→c=b∨blk v=some c:=λc ⟨p,hp,z,hz,hc⟩=>by
  rcases List.mem_cons.1 hp with rfl|hp
  ·exact .inl hc
  ·rcases List.mem_cons.1 hp with rfl|hp
   ·rw[show ρ' 1003 0=some v from r3]at hz
    cases hz;exact .inr hc
   ·cases hp
 have hkn:Known M (λc=>M c∨fps ρ' [(1001,.op (mapO keyS okS enc b n m)),(1003,.arr 9 1 (ks.map λs=>[tv s]))] c) w w':=λc hc hn=>⟨λh=>by
  rcases h with h|h
  ·exact hn h
  ·rcases hf' c h with rfl|h
   ·exact hn hmb
   ·have:=hblk c h;omega,hext.block c hc⟩
 have hbl:b<w.heap.size:=hM b hmb
 have hks:ks.length≤n:=by
  have:=hpk.length_eq
  rw[List.length_map]at this
  have h5:(strKeys (.map ((es.toList.map (WideElems.rg (H:=Unit) Tryz.prog 9 (λ_=>some (.lit (.bool true),[])))).foldr DataW.insert []))).length=Maps.size (.map ((es.toList.map (WideElems.rg (H:=Unit) Tryz.prog 9 (λ_=>some (.lit (.bool true),[])))).foldr DataW.insert [])):=by
   rw[Maps.size_eq];exact List.length_map ..
  omega
 refine⟨⟨hext.os,hext.tape,hext.output,hext.size,λc hc _=>hext.block c hc⟩,v,he,ρ',?_,λp hp=>?_,λp hp=>?_,λp hp q hq x x' c hx hx' hc hc'=>?_,?_⟩
 ·obtain⟨G,hG⟩:=hbnd
  refine⟨G+1,λk g h=>?_⟩
  by_cases e:k=1003∧g=0
  ·omega
  ·have:ρ' k g=ρ k g:=if_neg e
   rw[this]at h
   have:=hG k g h;omega
 ·rcases List.mem_cons.1 hp with rfl|hp
  ·exact r1
  ·rcases List.mem_cons.1 hp with rfl|hp
   ·exact r2
   ·cases hp
 ·rcases List.mem_cons.1 hp with rfl|hp
  ·refine⟨h1,r1.trans e1,λc hc=>.inr ⟨_,List.mem_cons_self ..,h1,e1,hc⟩,hh1,?_⟩
   refine R.Mp.mono (V:=λw v x=>Rep M w (enc x) v) ⟨es,clock,hbm,hst,hsz,hent,hall⟩ (hext.block b hbl) λv x hv=>hv.mono hkn
  ·rcases List.mem_cons.1 hp with rfl|hp
   ·refine⟨v,r3,ks.map λs=>[Value.string s],?_,⟨by simp,λi r u hi hu=>?_⟩,?_,?_,λc hc=>.inl (hblk c hc)⟩
    ·have h6:=hrow
     rw[List.length_map]
     refine⟨h6.1,?_⟩
     rcases h6.2 with h7|⟨gb,cap,cur,h7,hbase,h8⟩
     ·exact .inl h7
     ·exact .inr ⟨gb,cap,cur,h7,Nat.zero_le _,h8⟩
    ·rw[List.getElem?_map]at hi hu
     obtain⟨a,h8,rfl⟩:=Option.map_eq_some_iff.1 hi
     rw[h8]at hu
     simp only[Option.map_some,Option.some.injEq]at hu
     subst hu
     refine⟨rfl,rfl,λj c x hj hx=>?_⟩
     match j with
     | 0 =>
      simp at hj hx
      subst hj hx
      exact⟨.v _ (hkp a (List.mem_of_getElem? h8)),rfl⟩
     | j+1=>simp at hj
    ·rw[List.length_map]
     rcases hrow.2 with⟨rfl,h7⟩|⟨gb,cap,cur,rfl,_⟩
     ·exact⟨none,0,by simp at h7;simp[h7]⟩
     ·exact⟨_,cap,rfl⟩
    ·rw[List.length_map]
     simp only[A.maxI];omega
   ·cases hp
 ·rcases List.mem_cons.1 hp with rfl|hp<;>rcases List.mem_cons.1 hq with rfl|hq
  ·rfl
  ·rcases List.mem_cons.1 hq with rfl|hq
   ·have hcb:c=b:=hc
    rw[show ρ' 1003 0=some v from r3]at hx'
    cases hx'
    have:=hblk c hc'
    omega
   ·cases hq
  ·rcases List.mem_cons.1 hp with rfl|hp
   ·have hcb:c=b:=hc'
    rw[show ρ' 1003 0=some v from r3]at hx
    cases hx
    have:=hblk c hc
    omega
   ·cases hp
  ·rcases List.mem_cons.1 hp with rfl|hp
   ·rcases List.mem_cons.1 hq with rfl|hq
    ·rfl
    ·cases hq
   ·cases hp
 ·refine⟨r3,?_⟩
  rcases hrow.2 with⟨rfl,_⟩|⟨gb,cap,cur,rfl,_⟩<;>rfl⟩
end Go.Proofs.YtdnijgdmohinlaaGreat
end
section
set_option maxRecDepth 100000
namespace Go.Proofs.YtdnijgdmohinlaaGreat
open Go.RowKit A R
open A.RowT
abbrev SC:=List (ByteArray×List Ver)
namespace J
def look (cs:SC) (k:ByteArray):Option (List Ver):=(cs.find? λp=>decide (p.1=k)).map (·.2)
def getC (cs:SC) (k:ByteArray):List Ver:=(look cs k).getD []
def RiseC (cs:SC):Prop:=Rise (cs.map (·.1))
def setC:SC→ByteArray→List Ver→SC
 | [],k,l=>[(k,l)]
 | p::r,k,l=>if p.1=k then(k,l)::r else if Op.bytesLess k.toList p.1.toList then(k,l)::p::r else p::setC r k l
theorem look_cons (p:ByteArray×List Ver) (r:SC) (k:ByteArray):look (p::r) k=if p.1=k then some p.2 else look r k:=by
 unfold look
 rw[List.find?_cons]
 split<;>simp_all
theorem look_set:∀(cs:SC) (k:ByteArray) (l:List Ver) (c:ByteArray),RiseC cs→look (setC cs k l) c=if c=k then some l else look cs c
 | [],k,l,c,_=>by
  rw[setC,look_cons]
  by_cases h:c=k
  ·rw[if_pos h.symm,if_pos h]
  ·rw[if_neg (λe=>h e.symm),if_neg h]
 | p::r,k,l,c,hr=>by
  have hc:=List.pairwise_cons.1 hr
  rw[setC]
  by_cases h1:p.1=k
  ·rw[if_pos h1,look_cons,look_cons]
   by_cases h:c=k
   ·rw[if_pos h.symm,if_pos h]
   ·rw[if_neg (λe=>h e.symm),if_neg h,if_neg (λe=>h (e.symm.trans h1))]
  ·rw[if_neg h1]
   split
   ·rw[look_cons,look_cons]
    by_cases h:c=k
    ·rw[if_pos h.symm,if_pos h]
    ·rw[if_neg (λe=>h e.symm),if_neg h]
   ·rw[look_cons,look_cons,look_set r k l c hc.2]
    by_cases h:c=k
    ·rw[if_pos h,if_neg (λe=>h1 (e.trans h)),if_pos h]
    ·rw[if_neg h];simp[h]
theorem mem_setC:∀(cs:SC) (k:ByteArray) (l:List Ver) (p:ByteArray×List Ver),p∈setC cs k l→p=(k,l)∨p∈cs
 | [],k,l,p,h=>by simp[setC]at h;exact .inl h
 | q::r,k,l,p,h=>by
  rw[setC]at h
  split at h
  ·rcases List.mem_cons.1 h with h|h
   ·exact .inl h
   ·exact .inr (List.mem_cons_of_mem _ h)
  ·split at h
   ·rcases List.mem_cons.1 h with h|h
    ·exact .inl h
    ·exact .inr h
   ·rcases List.mem_cons.1 h with rfl|h
    ·exact .inr (List.mem_cons_self ..)
    ·rcases mem_setC r k l p h with h|h
     ·exact .inl h
     ·exact .inr (List.mem_cons_of_mem _ h)
theorem rise_set:∀(cs:SC) (k:ByteArray) (l:List Ver),RiseC cs→RiseC (setC cs k l)
 | [],k,l,_=>List.pairwise_singleton ..
 | p::r,k,l,hr=>by
  have hc:=List.pairwise_cons.1 hr
  rw[setC]
  split
  ·rename_i h1
   subst h1
   exact hr
  ·rename_i h1
   split
   ·rename_i h2
    refine List.pairwise_cons.2 ⟨λy hy=>?_,hr⟩
    rcases List.mem_cons.1 hy with rfl|hy
    ·exact h2
    ·exact K.bl_trans _ _ _ h2 (hc.1 y hy)
   ·rename_i h2
    refine List.pairwise_cons.2 ⟨λy hy=>?_,rise_set r k l hc.2⟩
    obtain⟨q,hq,rfl⟩:=List.mem_map.1 hy
    rcases mem_setC r k l q hq with rfl|hq
    ·show Op.bytesLess p.1.toList k.toList=true
     cases h:Op.bytesLess p.1.toList k.toList with
     | true=>rfl
     | false=>exact(h1 (D.byte_inj (K.bl_tri _ _ h (by simpa using h2)))).elim
    ·exact hc.1 _ (List.mem_map_of_mem hq)
theorem look_mem {cs:SC}(h:RiseC cs) {p:ByteArray×List Ver}(hp:p∈cs):look cs p.1=some p.2:=by
 induction cs with
 | nil=>cases hp
 | cons q r ih =>
  have hc:=List.pairwise_cons.1 h
  rw[look_cons]
  rcases List.mem_cons.1 hp with rfl|hp
  ·rw[if_pos rfl]
  ·rw[if_neg,ih hc.2 hp]
   intro e
   have h9:Op.bytesLess q.1.toList p.1.toList=true:=hc.1 p.1 (List.mem_map_of_mem hp)
   rw[e,K.bl_irrefl]at h9;cases h9
theorem mem_look {cs:SC}{k:ByteArray}{l:List Ver}(h:look cs k=some l):(k,l)∈cs:=by
 unfold look at h
 obtain⟨p,hp,rfl⟩:=Option.map_eq_some_iff.1 h
 have h1:=List.mem_of_find?_eq_some hp
 have h2:=List.find?_some hp
 simp only[decide_eq_true_eq]at h2
 subst h2;exact h1
theorem look_keys {cs:SC}(h:RiseC cs) (k:ByteArray):(look cs k).isSome=true↔k∈cs.map (·.1):=by
 constructor
 ·intro hs
  obtain⟨l,hl⟩:=Option.isSome_iff_exists.1 hs
  exact List.mem_map_of_mem (mem_look hl)
 ·intro hm
  obtain⟨p,hp,rfl⟩:=List.mem_map.1 hm
  rw[look_mem h hp];rfl
theorem look_getA (cs:SC) (k:ByteArray):lookA (λl:List Ver=>versA l) (versA []) (look cs k)=versA (getC cs k):=by
 unfold getC
 cases look cs k<;>rfl
def Sm (m:Nat) (cs:SC):Prop:=cs.length≤m∧∀p∈cs,p.2.length≤m∧p.1.size≤9223372036854775807
theorem Sm.get {m:Nat}{cs:SC}(h:Sm m cs) (k:ByteArray):(getC cs k).length≤m:=by
 unfold getC
 cases hl:look cs k with
 | none=>exact Nat.zero_le _
 | some l=>exact(h.2 _ (mem_look hl)).1
def sput (rs:List Rng) (cs:SC) (v:Ver):SC×Bool:=if findR rs v.key<0 then(cs,false)else match put (getC cs v.key) v with
 | some l=>(setC cs v.key l,true)
 | none=>(cs,false)
def keysC (cs:SC):List ByteArray:=cs.map (·.1)
def shead (cs:SC) (k:ByteArray):Option Ver:=head (getC cs k)
def sat (cs:SC) (k:ByteArray) (n s:Int):Option Ver:=atc (getC cs k) n s
def have' (cs:SC):List Dep:=(keysC cs).map λk=>⟨k,((shead cs k).getD default).n,((shead cs k).getD default).s⟩
end J
abbrev mapV (b:Nat) (cs:SC):AO:=.op (mapO keyS okS (λl:List Ver=>versA l) b cs.length (J.look cs))
theorem obeq2 {g b:Nat}{cs cs':SC}(h:cs=cs'):some (g,mapV b cs)=some (g,mapV b cs'):=by rw[h]
abbrev rngA (rs:List Rng):AV:=.sl 2 (rs.map Rng.row)
abbrev SH (rs:List Rng) (cs:SC) (b:Nat):Obs:=[(1001,.box 238 [.d (rngA rs),.ow 1002 0]),(1002,mapV b cs)]
set_option maxRecDepth 100000 in
theorem cloneR_g (l:List Rng) (hl:l.length≤1000000):GCall Tryz.prog 81 [.d (.sl 2 (l.map Rng.row))] [] (some ([(1001,.arr 56 2 (l.map Rng.row))],.ow 1001 0)):=by
 refine GC_1 Tryz.func81 Tryz.ntmps81 (ReadsS.r1 Tryz.results81) λhok hokB M0 w0=>?_
 refine Aw_sr ?_
 refine Al_mr ?_
 refine Al_nil (Aw_seq (Aw_sr ?_))
 refine Al_ml ?_
 refine Al_eqnil rfl rfl rfl (by decide) (by kernel_rfl) Tryz.underlying28 rfl (λnl hnl=>?_)
 refine Al_nil ?_
 refine Aw_cond rfl (λh4=>?_) (λh4=>?_)
 ·(try simp only[A.cd_]at h4)
  refine Aw_sr ?_
  refine Al_mr ?_
  refine Al_nil ?_
  obtain rfl:l=[]:=by simpa using hnl h4
  refine Aw_own (j:=2) (k:=2) (T:=56) (n:=2) rfl (λg=>?_)
  exact Aw_ret (⟨_,_,[(1001,2,g)],rfl,Sub.rfl,⟨rfl,trivial⟩,rfl⟩)
 ·(try simp only[A.cd_]at h4)
  refine Aw_skip (Aw_sr ?_)
  refine Al_slice0 rfl rfl rfl (by decide) Tryz.underlying28 Tryz.sizeOf56 (λg5=>?_)
  refine Al_ml ?_
  refine Al_append rfl rfl rfl (by decide) (by kernel_rfl) elem28 (by decide) Tryz.sizeOf56 rfl rfl rfl (by simp;omega) (by decide) (λg7=>?_)
  refine Al_mr ?_
  refine Al_nil ?_
  exact Aw_ret (⟨_,_,[(1001,5,g7)],rfl,Sub.rfl,⟨rfl,trivial⟩,rfl⟩)
set_option maxRecDepth 100000 in
theorem snew_g (rs:List Rng) (hrl:rs.length≤1000000):GCallE Tryz.prog 85 [.d (rngA rs)] [] (λb:Nat=>some (SH rs [] b,.bx 1001 0 0)):=by
 refine GC_EL Tryz.func85 Tryz.ntmps85 (ReadsS.r1 Tryz.results85) λhok hokB M0 w0 hl=>?_
 refine Aw_sr ?_
 refine Al_mr ?_
 refine Al_ns ?_
 refine Al_ml ?_
 refine Al_gcall [] [(1001,4)] (cloneR_g rs hrl) rfl rfl rfl (by decide) (by kernel_rfl) trivial rfl ⟨Sub.rfl,trivial⟩ (λg4=>?_)
 refine Al_frzL hl (k:=4) [4] rfl trivial ⟨rfl,trivial⟩ ?_
 refine Al_makeMap keyS okS (λl:List Ver=>versA l) rfl rfl rfl (by decide) (λb5 g5=>?_)
 refine Al_p (Pu_buildAg (aa:=[(0,_),(1,_)]) rfl Tryz.underlying238 Tryz.zeroValue238 places238 (by decide) ⟨rfl,rfl,rfl,rfl,trivial⟩ rfl) ?_
 refine Al_boxAg rfl rfl rfl (by decide) (by kernel_rfl) rfl (λg7=>?_)
 refine Al_mr ?_
 refine Al_nil ?_
 exact Aw_ret (⟨b5,_,_,[(1001,7,g7),(1002,5,g5)],rfl,Sub.rfl,⟨rfl,rfl,trivial⟩,rfl⟩)
set_option maxRecDepth 100000 in
theorem sranges_g (rs:List Rng) (cs:SC) (b:Nat) (hrl:rs.length≤1000000):GCall Tryz.prog 223 [.bx 1001 0 0] (SH rs cs b) (some (SH rs cs b,.d (rngA rs))):=by
 refine GC_L Tryz.func223 Tryz.ntmps223 (ReadsS.r1 Tryz.results223) λhok hokB M0 w0 hl=>?_
 refine Aw_sr ?_
 refine Al_mr ?_
 refine Al_nil (Aw_seq (Aw_sr ?_))
 refine Al_ml ?_
 refine Al_p (Pu_eqnilb Tryz.underlying158 rfl rfl) ?_
 refine Al_nil ?_
 refine Aw_condF rfl (rfl) ?_
 refine Aw_skip (Aw_sr ?_)
 refine Al_ml ?_
 refine Al_p Pu_nb ?_
 refine Al_p (Pu_fb 0 Tryz.underlying238 Tryz.sizeOf28) ?_
 refine Al_p (Pu_lb Tryz.isAgg28) ?_
 refine Al_gcall [] [(1001,9)] (cloneR_g rs hrl) rfl rfl rfl (by decide) (by kernel_rfl) trivial rfl ⟨Sub.rfl,trivial⟩ (λg9=>?_)
 refine Al_mr ?_
 refine Al_nil ?_
 refine Aw_frzL hl (k:=9) [2] rfl ⟨rfl,⟨_,rfl,λ_ _ h=>h⟩,rfl,⟨_,rfl,λ_ _ h=>h⟩,trivial⟩ ⟨rfl,trivial⟩ ?_
 exact Aw_ret (⟨_,_,[],rfl,Sub.rfl,⟨rfl,rfl,trivial⟩,rfl⟩)
set_option maxRecDepth 100000 in
theorem schain_g (rs:List Rng) (cs:SC) (b:Nat) (key:ByteArray) (hs:J.Sm 1000 cs):GCall Tryz.prog 99 [.bx 1001 0 0,.d (tv key)] (SH rs cs b) (some (SH rs cs b,.d (versA (J.getC cs key)))):=by
 refine GC_L Tryz.func99 Tryz.ntmps99 (ReadsS.r1 Tryz.results99) λhok hokB M0 w0 hl=>?_
 have hk:key.size≤A.maxI:=(hok (tv key) (by simp)).text
 refine Aw_sr ?_
 refine Al_mr ?_
 refine Al_nil (Aw_seq (Aw_sr ?_))
 refine Al_ml ?_
 refine Al_p (Pu_eqnilb Tryz.underlying158 rfl rfl) ?_
 refine Al_nil ?_
 refine Aw_condF rfl (rfl) ?_
 refine Aw_skip (Aw_sr ?_)
 refine Al_ml ?_
 refine Al_p Pu_nb ?_
 refine Al_p (Pu_fb 1 Tryz.underlying238 Tryz.sizeOf236) ?_
 refine Al_p (Pu_lb Tryz.isAgg236) ?_
 refine Al_ml ?_
 refine Al_p (Pu_lookup (c:=key) (z:=versA []) keyS_T rfl Tryz.underlying236 Tryz.zeroValue35 (λM w=>.nil _ _ _) rfl rfl rfl (Only.v _) hk) ?_
 refine Al_gcall [] [(1001,13)] (cloneV_g (J.getC cs key) (Nat.le_trans (hs.get key) (by decide))) rfl rfl rfl (by decide) (by kernel_rfl) trivial rfl ⟨Sub.d (J.look_getA cs key),trivial⟩ (λg13=>?_)
 refine Al_mr ?_
 refine Al_nil ?_
 refine Aw_frzL hl (k:=13) [4] rfl ⟨rfl,⟨_,rfl,λ_ _ h=>h⟩,rfl,⟨_,rfl,λ_ _ h=>h⟩,trivial⟩ ⟨rfl,trivial⟩ ?_
 exact Aw_ret (⟨_,_,[],rfl,Sub.rfl,⟨rfl,rfl,trivial⟩,rfl⟩)
set_option maxRecDepth 100000 in
theorem shead_g (rs:List Rng) (cs:SC) (b:Nat) (key:ByteArray) (hs:J.Sm 1000 cs):GCall Tryz.prog 186 [.bx 1001 0 0,.d (tv key)] (SH rs cs b) (some (SH rs cs b,.d (verA (J.shead cs key)))):=by
 refine GC_L Tryz.func186 Tryz.ntmps186 (ReadsS.cN1 Tryz.results186 Tryz.isAgg50 Tryz.sizeOf50) λhok hokB M0 w0 hl=>?_
 refine Aw_sr ?_
 refine Al_al Tryz.zeroValue50 λg4=>?_
 refine Al_mr ?_
 refine Al_ns ?_
 refine Al_ml ?_
 refine Al_ml ?_
 refine Al_gcall [(1001,1001,0),(1002,1002,0)] [] (schain_g rs cs b key hs) rfl rfl rfl (by decide) (by kernel_rfl) ⟨rfl,rfl,trivial⟩ rfl ⟨Sub.rfl,Sub.rfl,trivial⟩ (λg8=>?_)
 refine Al_p (Pu_call (chead_a (J.getC cs key)) rfl ⟨Sub.rfl,trivial⟩) ?_
 refine Al_p Pu_ex ?_
 refine Al_p Pu_ex ?_
 refine Al_sN Tryz.isAgg50 Tryz.sizeOf50 ?_
 refine Al_mr ?_
 refine Al_nil ?_
 exact Aw_ret (⟨_,_,[],rfl,⟨_,rfl,_,_,_,_,_,[_,_,_,_,_,_],_,rfl,rfl,rfl,rfl,Sub.rfl,rfl⟩,⟨rfl,rfl,trivial⟩,rfl⟩)
set_option maxRecDepth 100000 in
theorem sat_g (rs:List Rng) (cs:SC) (b:Nat) (key:ByteArray) (n s:Int) (hs:J.Sm 1000 cs):GCall Tryz.prog 366 [.bx 1001 0 0,.d (tv key),.d (.row [iv n,iv s])] (SH rs cs b) (some (SH rs cs b,.d (verA (J.sat cs key n s)))):=by
 refine GC_L Tryz.func366 Tryz.ntmps366 (ReadsS.cN1 Tryz.results366 Tryz.isAgg50 Tryz.sizeOf50) λhok hokB M0 w0 hl=>?_
 refine Aw_sr ?_
 refine Al_p Pu_bN ?_
 refine Al_al Tryz.zeroValue50 λg6=>?_
 refine Al_mr ?_
 refine Al_nil ?_
 refine Aw_seq ?_
 refine Aw_drawn (by kernel_rfl) ?_
 refine Ad_t 0 rfl (PuI_move (.inl rfl) (by conv=>lhs;whnf)) ?_
 refine Ad_t 1 rfl (PuI_move (.inl rfl) (by conv=>lhs;whnf)) ?_
 refine Ad_two 2 3 rfl rfl (by kernel_rfl) ?_ ?_
 ·refine Al_gcall [(1001,1001,0),(1002,1002,0)] [] (schain_g rs cs b key hs) rfl rfl rfl (by decide) (by kernel_rfl) ⟨rfl,rfl,trivial⟩ rfl ⟨Sub.rfl,Sub.rfl,trivial⟩ (λg10=>?_)
  refine Al_nil ?_
  refine Ad_drawP 3 7 2 (by kernel_rfl) (by decide) rfl (by rfl) (by rfl) ?_
  refine Dr_p (Pu_lN Tryz.isAgg47 Tryz.sizeOf47) ?_
  refine Dr_p (Pu_call (cat_a (J.getC cs key) n s) rfl ⟨Sub.rfl,Sub.rfl,trivial⟩) ?_
  refine Dr_p Pu_ex ?_
  refine Dr_p Pu_ex ?_
  refine Dr_nil ?_
  refine Ad_o 7 ?_
  refine Al_sN Tryz.isAgg50 Tryz.sizeOf50 ?_
  refine Al_nil ?_
  refine Ad_t 8 rfl (PuI_move (.inr rfl) (by conv=>lhs;whnf)) ?_
  refine Ad_d ?_
  exact Aw_ret (⟨_,_,[],rfl,⟨_,rfl,_,_,_,_,_,[_,_,_,_,_,_],_,rfl,rfl,rfl,rfl,Sub.rfl,rfl⟩,⟨rfl,rfl,trivial⟩,rfl⟩)
 ·refine Al_p (Pu_lN Tryz.isAgg47 Tryz.sizeOf47) ?_
  refine Al_nil ?_
  refine Ad_o 2 ?_
  refine Al_gcall [(1001,1001,0),(1002,1002,0)] [] (schain_g rs cs b key hs) rfl rfl rfl (by decide) (by kernel_rfl) ⟨rfl,rfl,trivial⟩ rfl ⟨Sub.rfl,Sub.rfl,trivial⟩ (λg10=>?_)
  refine Al_nil ?_
  refine Ad_drawP 4 7 2 (by kernel_rfl) (by decide) rfl (by rfl) (by rfl) ?_
  refine Dr_p (Pu_call (cat_a (J.getC cs key) n s) rfl ⟨Sub.rfl,Sub.rfl,trivial⟩) ?_
  refine Dr_p Pu_ex ?_
  refine Dr_p Pu_ex ?_
  refine Dr_nil ?_
  refine Ad_o 7 ?_
  refine Al_sN Tryz.isAgg50 Tryz.sizeOf50 ?_
  refine Al_nil ?_
  refine Ad_t 8 rfl (PuI_move (.inr rfl) (by conv=>lhs;whnf)) ?_
  refine Ad_d ?_
  exact Aw_ret (⟨_,_,[],rfl,⟨_,rfl,_,_,_,_,_,[_,_,_,_,_,_],_,rfl,rfl,rfl,rfl,Sub.rfl,rfl⟩,⟨rfl,rfl,trivial⟩,rfl⟩)
set_option maxRecDepth 100000 in
theorem skeys_g (rs:List Rng) (cs:SC) (b:Nat) (hr:J.RiseC cs) (hs:J.Sm 1000 cs):GCall Tryz.prog 185 [.bx 1001 0 0] (SH rs cs b) (some (SH rs cs b,.d (.sl 1 ((J.keysC cs).map λs=>[tv s])))):=by
 refine GC_L Tryz.func185 Tryz.ntmps185 (ReadsS.r1 Tryz.results185) λhok hokB M0 w0 hl=>?_
 refine Aw_sr ?_
 refine Al_mr ?_
 refine Al_nil (Aw_seq (Aw_sr ?_))
 refine Al_ml ?_
 refine Al_p (Pu_eqnilb Tryz.underlying158 rfl rfl) ?_
 refine Al_nil ?_
 refine Aw_condF rfl (rfl) ?_
 refine Aw_skip (Aw_sr ?_)
 refine Al_ml ?_
 refine Al_p Pu_nb ?_
 refine Al_p (Pu_fb 1 Tryz.underlying238 Tryz.sizeOf236) ?_
 refine Al_p (Pu_lb Tryz.isAgg236) ?_
 refine Al_gcall [(1001,1002,0)] [(1002,9)] (keysV_g keyS okS (λl:List Ver=>versA l) b cs.length (J.look cs)) rfl rfl rfl (by decide) (by kernel_rfl) ⟨rfl,trivial⟩ rfl ⟨Sub.rfl,trivial⟩ (λg9=>?_)
 refine Al_gcall [(1001,1002,0),(1002,9,g9)] [(1003,10)] (sortedV_g (λl:List Ver=>versA l) b cs.length (J.look cs) (J.keysC cs) hr (J.look_keys hr) (Nat.le_trans hs.1 (by decide))) rfl rfl rfl (by decide) (by kernel_rfl) ⟨rfl,rfl,trivial⟩ rfl ⟨Sub.rfl,trivial⟩ (λg10=>?_)
 refine Al_mr ?_
 refine Al_nil ?_
 refine Aw_frzL hl (k:=10) [2] rfl ⟨rfl,⟨_,rfl,λ_ _ h=>h⟩,rfl,⟨_,rfl,λ_ _ h=>h⟩,trivial⟩ ⟨rfl,trivial⟩ ?_
 exact Aw_ret (⟨_,_,[],rfl,Sub.rfl,⟨rfl,rfl,trivial⟩,rfl⟩)
namespace J
theorem put_len {l m:List Ver}{v:Ver}(h:put l v=some m):m.length=l.length+1:=by
 unfold put at h
 split at h
 ·cases h
  have:=frm_le l v.n v.s
  simp;omega
 ·cases h
theorem put_ok {l m:List Ver}{v:Ver}(h:put l v=some m):checkB v=true:=by
 unfold put at h
 split at h
 ·rename_i hc;exact hc.1
 ·cases h
theorem set_len:∀(cs:SC) (k:ByteArray) (l:List Ver),(setC cs k l).length≤cs.length+1
 | [],k,l=>Nat.le_refl _
 | p::r,k,l=>by
  rw[setC]
  split
  ·simp
  ·split
   ·simp
   ·have:=set_len r k l
    simp;omega
theorem sput_sm {m:Nat}{rs:List Rng}{cs:SC}(h:Sm m cs) (v:Ver):Sm (m+1) (sput rs cs v).1:=by
 have h':Sm (m+1) cs:=⟨Nat.le_succ_of_le h.1,λp hp=>⟨Nat.le_succ_of_le (h.2 p hp).1,(h.2 p hp).2⟩⟩
 unfold sput
 split
 ·exact h'
 ·split
  ·rename_i l hl
   refine⟨Nat.le_trans (set_len _ _ _) (Nat.succ_le_succ h.1),λp hp=>?_⟩
   rcases mem_setC _ _ _ _ hp with rfl|hp
   ·show l.length≤m+1∧_
    rw[put_len hl]
    have:=h.get v.key
    have h3:=ver_key (put_ok hl)
    exact⟨by omega,by show v.key.size≤_;omega⟩
   ·exact h'.2 p hp
  ·exact h'
theorem sput_rise {rs:List Rng}{cs:SC}(h:RiseC cs) (v:Ver):RiseC (sput rs cs v).1:=by
 unfold sput
 split
 ·exact h
 ·split
  ·exact rise_set _ _ _ h
  ·exact h
theorem take_have (cs:SC) {j:Nat}(hj:j<cs.length):(have' cs).take (j+1)=(have' cs).take j++[⟨(keysC cs).getD j default,((shead cs ((keysC cs).getD j default)).getD default).n,((shead cs ((keysC cs).getD j default)).getD default).s⟩]:=by
 have h1:j<(have' cs).length:=by unfold have' keysC;simpa using hj
 have h2:(keysC cs).getD j default=cs[j].1:=by unfold keysC;simp[hj]
 rw[List.take_succ_eq_append_getElem h1,h2]
 unfold have' keysC
 simp
end J
instance:Inhabited ByteArray:=⟨⟨#[]⟩⟩
set_option maxRecDepth 100000 in
set_option maxHeartbeats 1000000 in
theorem sput_g (rs:List Rng) (cs:SC) (b:Nat) (v:Ver) (hrl:rs.length≤1000000) (hr:J.RiseC cs) (hs:J.Sm 1000 cs):GCall Tryz.prog 300 [.bx 1001 0 0,.d (.row v.row)] (SH rs cs b) (some (SH rs (J.sput rs cs v).1 b,.d (bv (J.sput rs cs v).2))):=by
 refine GC_L Tryz.func300 Tryz.ntmps300 (ReadsS.r1 Tryz.results300) λhok hokB M0 w0 hl=>?_
 have hk:v.key.size≤A.maxI:=((hok (.row v.row) (by simp)).row (tv v.key) (by simp[Ver.row])).text
 have hfi:=find_a rs v.key hrl
 have hpu:=cput_a (J.getC cs v.key) v (hs.get v.key)
 refine Aw_sr ?_
 refine Al_p Pu_bN ?_
 refine Al_mr ?_
 refine Al_nil (Aw_seq (Aw_seq ?_))
 refine Aw_dr 12 ?_
 refine Dr_ml ?_
 refine Dr_p (Pu_eqnilb Tryz.underlying158 rfl rfl) ?_
 refine Dr_ml ?_
 refine Dr_s (St_g [] trivial (λ_=>Pu_mvl)) ?_
 refine Dr_s (St_g [10] ⟨⟨_,rfl⟩,trivial⟩ (λ_=>Pu_nb)) ?_
 refine Dr_s (St_g [11] ⟨⟨_,rfl⟩,trivial⟩ (λ_=>Pu_fb 0 Tryz.underlying238 Tryz.sizeOf28)) ?_
 refine Dr_s (St_g [12] ⟨⟨_,rfl⟩,trivial⟩ (λ_=>Pu_lb Tryz.isAgg28)) ?_
 refine Dr_s (St_g [] trivial (λ_=>Pu_fd 0 Tryz.underlying50 Tryz.sizeOf9)) ?_
 refine Dr_s (St_g [14] ⟨⟨_,rfl⟩,trivial⟩ (λ_=>Pu_l1 Tryz.isAgg9)) ?_
 refine Dr_s (St_g [13,15] ⟨⟨_,rfl⟩,⟨_,rfl⟩,trivial⟩ (λ_=>Pu_call (hfi) rfl ⟨Sub.rfl,Sub.rfl,trivial⟩)) ?_
 refine Dr_s (St_g [16] ⟨⟨_,rfl⟩,trivial⟩ (λ_=>Pu_cp)) ?_
 refine Dr_p Pu_o ?_
 refine Dr_nil (Al_nil ?_)
 refine Aw_cond rfl (λh18=>?_) (λh18=>?_)
 ·skip
  have hno:J.sput rs cs v=(cs,false):=by
   unfold J.sput
   rw[if_pos (by simpa using h18)]
  refine Aw_sr ?_
  refine Al_mr ?_
  refine Al_nil ?_
  exact Aw_ret (⟨_,_,[],rfl,Sub.bool (by rw[hno]),⟨rfl,obeq2 (by rw[hno]),trivial⟩,rfl⟩)
 ·skip
  have hfn:¬findR rs v.key<0:=by simpa using h18
  refine Aw_skip (Aw_seq ?_)
  refine Aw_dr 14 ?_
  refine Dr_ml ?_
  refine Dr_p Pu_nb ?_
  refine Dr_p (Pu_fb 1 Tryz.underlying238 Tryz.sizeOf236) ?_
  refine Dr_p (Pu_lb Tryz.isAgg236) ?_
  refine Dr_p (Pu_fd 0 Tryz.underlying50 Tryz.sizeOf9) ?_
  refine Dr_p (Pu_l1 Tryz.isAgg9) ?_
  refine Dr_p (Pu_lookup (c:=v.key) (z:=versA []) keyS_T rfl Tryz.underlying236 Tryz.zeroValue35 (λM w=>.nil _ _ _) rfl rfl rfl (Only.v _) hk) ?_
  refine Dr_p (Pu_lN Tryz.isAgg50 Tryz.sizeOf50) ?_
  refine Dr_p (Pu_call (hpu) rfl ⟨Sub.d (J.look_getA cs v.key),Sub.rfl,trivial⟩) ?_
  refine Dr_ml ?_
  refine Dr_p Pu_ex ?_
  refine Dr_p Pu_ex ?_
  refine Dr_p Pu_mvr ?_
  refine Dr_p Pu_mvr ?_
  refine Dr_nil (Al_nil ?_)
  refine Aw_seq (Aw_sr ?_)
  refine Al_ml ?_
  refine Al_nil ?_
  refine Aw_cond rfl (λh31=>?_) (λh31=>?_)
  ·skip
   obtain⟨l,hl2⟩:=Option.isSome_iff_exists.1 h31
   have hyes:J.sput rs cs v=(J.setC cs v.key l,true):=by
    unfold J.sput
    rw[if_neg hfn,hl2]
   have hlk:(λc=>if c=v.key then some l else J.look cs c)=J.look (J.setC cs v.key l):=funext λc=>(J.look_set cs v.key l c hr).symm
   refine Aw_dr 7 ?_
   refine Dr_ml ?_
   refine Dr_p Pu_nb ?_
   refine Dr_p (Pu_fb 1 Tryz.underlying238 Tryz.sizeOf236) ?_
   refine Dr_p (Pu_lb Tryz.isAgg236) ?_
   refine Dr_p (Pu_fd 0 Tryz.underlying50 Tryz.sizeOf9) ?_
   refine Dr_p (Pu_l1 Tryz.isAgg9) ?_
   refine Dr_ml ?_
   refine Dr_nil ?_
   refine Al_mapUpdate (c:=v.key) (v:=l) keyS_T rfl rfl rfl (by kernel_rfl) Tryz.underlying236 (by have:=hs.1;simp only[maxLen];omega) rfl rfl rfl (Only.v _) hk (Sub.d (by rw[hl2];rfl)) ?_
   refine Al_mapT (k:=1002) ((J.setC cs v.key l).map (·.1)) rfl hlk (λc hc=>(J.look_keys (J.rise_set cs v.key l hr) c).1 hc) (List.length_map ..) ?_
   refine Al_ns ?_
   refine Al_ml ?_
   refine Al_mr ?_
   refine Al_nil ?_
   exact Aw_ret (⟨_,_,[],rfl,Sub.bool (by rw[h31,hyes]),⟨rfl,obeq2 (by rw[hyes]),trivial⟩,rfl⟩)
  ·skip
   have hyes:J.sput rs cs v=(cs,false):=by
    unfold J.sput
    rw[if_neg hfn]
    cases hp:J.put (J.getC cs v.key) v with
    | none=>rfl
    | some l=>rw[hp]at h31;cases h31
   refine Aw_skip (Aw_sr ?_)
   refine Al_ml ?_
   refine Al_mr ?_
   refine Al_nil ?_
   exact Aw_ret (⟨_,_,[],rfl,Sub.bool (by rw[h31,hyes]),⟨rfl,obeq2 (by rw[hyes]),trivial⟩,rfl⟩)
set_option maxRecDepth 100000 in
set_option maxHeartbeats 1000000 in
theorem shave_g (rs:List Rng) (cs:SC) (b:Nat) (hr:J.RiseC cs) (hs:J.Sm 1000 cs):GCall Tryz.prog 106 [.bx 1001 0 0] (SH rs cs b) (some (SH rs cs b,.d (.sl 3 ((J.have' cs).map Dep.row)))):=by
 refine GC_L Tryz.func106 Tryz.ntmps106 (ReadsS.r1 Tryz.results106) λhok hokB M0 w0 hl=>?_
 have hcl:=hs.1
 refine Aw_sr ?_
 refine Al_mr ?_
 refine Al_ns ?_
 refine Al_mr ?_
 refine Al_nil (Aw_seq (Aw_sr ?_))
 refine Al_ml ?_
 refine Al_gcall [(1001,1001,0),(1002,1002,0)] [] (skeys_g rs cs b hr hs) rfl rfl rfl (by decide) (by kernel_rfl) ⟨rfl,rfl,trivial⟩ rfl ⟨Sub.rfl,trivial⟩ (λg9=>?_)
 refine Al_p (Pu_ln Tryz.underlying39) ?_
 refine Al_ml ?_
 refine Al_nil (Aw_block ?_)
 refine Aw_own (j:=3) (k:=3) (T:=110) (n:=3) rfl (λg0=>?_)
 refine Aw_loopk (ι:=Nat×Nat) [0,9,10] [1001,1002] (λ(k,g)=>[(11,.d (iv k)),(3,.ow 3 g)]) (λ(k,g)=>[(3,g,.arr 110 3 (((J.have' cs).take k).map Dep.row))]) (λ(k,g)=>k≤cs.length) (λ(k,g)=>cs.length - k) ((0,g0)) (Nat.zero_le _) ⟨Sub.rfl,Sub.rfl,trivial⟩ ⟨rfl,trivial⟩ ?_
 rintro⟨k,g⟩ hk0
 refine Aw_sr ?_
 refine Al_p Pu_cp ?_
 refine Al_nil (Aw_seq ?_)
 refine Aw_cond rfl (λh12=>?_) (λh12=>?_)
 ·(try simp only[A.cd_]at h12)
  have hk:k<cs.length:=by first|omega|(unfold J.keysC at h12;simp at h12;omega)
  have hkk:k<(J.keysC cs).length:=by unfold J.keysC;simpa using hk
  refine Aw_skip (Aw_seq (Aw_block (Aw_sr ?_)))
  refine Al_p (Pu_index rfl Tryz.underlying39 Tryz.sizeOf9 rfl rfl (rfl) (mapgetD (d:=default) hkk)) ?_
  refine Al_p (Pu_l1 Tryz.isAgg9) ?_
  refine Al_mr ?_
  refine Al_ns ?_
  refine Al_ml ?_
  refine Al_ml ?_
  refine Al_gcall [(1001,1001,0),(1002,1002,0)] [] (shead_g rs cs b ((J.keysC cs).getD k default) hs) rfl rfl rfl (by decide) (by kernel_rfl) ⟨rfl,rfl,trivial⟩ rfl ⟨Sub.rfl,Sub.rfl,trivial⟩ (λg18=>?_)
  refine Al_ml ?_
  refine Al_p Pu_ex ?_
  refine Al_p Pu_ex ?_
  refine Al_al Tryz.zeroValue50 λg6=>?_
  refine Al_sN Tryz.isAgg50 Tryz.sizeOf50 ?_
  refine Al_mr ?_
  refine Al_nil (Aw_region ?_)
  refine Al_ml ?_
  refine Al_ml ?_
  refine Al_p (Pu_fb 3 Tryz.underlying50 Tryz.sizeOf47) ?_
  refine Al_p (Pu_lbN (r:=[_,_]) Tryz.isAgg47 Tryz.sizeOf47) ?_
  refine Al_p (Pu_build (aa:=[(0,_),(1,_)]) rfl Tryz.underlying110 Tryz.zeroValue110 places110 (by kernel_rfl) ⟨rfl,rfl,rfl,rfl,rfl,rfl,trivial⟩ rfl) ?_
  refine Al_p (Pu_slice1 rfl Tryz.underlying48 Tryz.sizeOf110 Tryz.zeroValue110 rfl (by decide) (by decide) (by kernel_rfl) rfl rfl rfl) ?_
  refine Al_append rfl rfl rfl (by decide) (by kernel_rfl) elem48 (by decide) Tryz.sizeOf110 rfl rfl rfl (by simp;omega) (by decide) (λg27=>?_)
  refine Al_mr ?_
  refine Al_nil (Aw_region ?_)
  refine Al_p Pu_ad ?_
  refine Al_ml ?_
  refine Al_nil ?_
  exact⟨(k+1,g27),by omega,by simp only[];omega,Le.ov ⟨Sub.num (by omega),Sub.rfl,trivial⟩ ⟨Sub.rfl,Sub.rfl,Sub.rfl,trivial⟩ ⟨obeq (by rw[J.take_have cs hk,List.map_append];rfl),trivial⟩ ⟨rfl,rfl,trivial⟩⟩
 ·(try simp only[A.cd_]at h12)
  have hkn:k=cs.length:=by first|omega|(unfold J.keysC at h12;simp at h12;omega)
  have htk:(J.have' cs).take k=J.have' cs:=List.take_of_length_le (by subst hkn;unfold J.have' J.keysC;simp)
  refine Aw_exit (Aw_sr ?_)
  refine Al_ml ?_
  refine Al_mr ?_
  refine Al_nil ?_
  refine Aw_frzL hl (k:=3) [2] rfl ⟨rfl,⟨_,rfl,λ_ _ h=>h⟩,rfl,⟨_,rfl,λ_ _ h=>h⟩,trivial⟩ ⟨rfl,trivial⟩ ?_
  exact Aw_ret (⟨_,_,[],rfl,Sub.d (by rw[htk]),⟨rfl,rfl,trivial⟩,rfl⟩)
namespace J
end J
end Go.Proofs.YtdnijgdmohinlaaGreat
end
section
set_option maxRecDepth 100000
namespace Go.Proofs.YtdnijgdmohinlaaGreat
open Go.RowKit A R
open A.RowT
set_option maxRecDepth 100000 in
theorem indexD_a (l:List Dep) (f:FuncId) (caps:List AV) (p:Dep→Bool) (hf:∀x,ACall Tryz.prog f ([.row x.row]++caps) (bv (p x))):ACall Tryz.prog 245 [.sl 3 (l.map Dep.row),.fn f caps] (iv (S.find p l)):=by
 refine AC_1 Tryz.func245 Tryz.ntmps245 Tryz.results245 λhok M0 w0 hnl=>?_
 have hlen:=(hok _ (List.mem_cons_self ..)).len
 rw[List.length_map]at hlen
 refine Aw_sr ?_
 refine Al_mr ?_
 refine Al_nil (Aw_seq (Aw_sr ?_))
 refine Al_ml ?_
 refine Al_p (Pu_ln Tryz.underlying48) ?_
 refine Al_ml ?_
 refine Al_nil (Aw_block ?_)
 refine Aw_loopk (ι:=Nat) [0,1,7] [] (λk=>[(8,.d (iv k))]) (λk=>[]) (λk=>k≤l.length∧∀j (h:j<l.length),j<k→p l[j]=false) (λk=>l.length - k) (0) (⟨Nat.zero_le _,by intros;omega⟩) ⟨Sub.rfl,trivial⟩ trivial ?_
 rintro k ⟨hk0,hk2⟩
 refine Aw_sr ?_
 refine Al_p Pu_cp ?_
 refine Al_nil (Aw_seq ?_)
 refine Aw_cond rfl (λh9=>?_) (λh9=>?_)
 ·(try simp only[A.cd_]at h9)
  have hk:k<l.length:=by omega
  refine Aw_skip (Aw_seq (Aw_block (Aw_sr ?_)))
  refine Al_ml ?_
  refine Al_mr ?_
  refine Al_ns ?_
  refine Al_ml ?_
  refine Al_ml ?_
  refine Al_ml ?_
  refine Al_p (Pu_index rfl Tryz.underlying48 Tryz.sizeOf110 rfl rfl (rfl) (mapget hk)) ?_
  refine Al_p (Pu_lN Tryz.isAgg110 Tryz.sizeOf110) ?_
  refine Al_p (Pu_callv (aa:=[(λx=>.row x.row) l[k]]) (caps:=caps) (hf l[k]) rfl rfl ⟨Sub.rfl,trivial⟩) ?_
  refine Al_nil ?_
  refine Aw_cond rfl (λh16=>?_) (λh16=>?_)
  ·skip
   refine Aw_sr ?_
   refine Al_ml ?_
   refine Al_mr ?_
   refine Al_nil ?_
   exact Aw_ret (Sub.num (S.find_at hk h16 hk2))
  ·skip
   have h16':p l[k]=false:=h16
   refine Aw_skip (Aw_region ?_)
   refine Al_p Pu_ad ?_
   refine Al_ml ?_
   refine Al_nil ?_
   exact⟨k+1,⟨by omega,λj hj hjk=>by
    by_cases e:j=k
    ·subst e;exact h16'
    ·exact hk2 j hj (by omega)⟩,by omega,Le.ov ⟨Sub.num (by omega),trivial⟩ ⟨Sub.rfl,Sub.rfl,Sub.rfl,trivial⟩ trivial trivial⟩
 ·(try simp only[A.cd_]at h9)
  obtain rfl:k=l.length:=by omega
  refine Aw_exit (Aw_sr ?_)
  refine Al_mr ?_
  refine Al_nil ?_
  exact Aw_ret (Sub.num (S.find_no hk2))
set_option maxRecDepth 100000 in
set_option maxHeartbeats 1000000 in
theorem delfuncD_g (l:List Dep) (f:FuncId) (caps:List AV) (p:Dep→Bool) (hf:∀x,ACall Tryz.prog f ([.row x.row]++caps) (bv (p x))) (hl:l.length≤1000000):GCall Tryz.prog 327 [.ow 1001 0,.d (.fn f caps)] [(1001,.arr 110 3 (l.map Dep.row))] (some ([(1002,.arr 110 3 ((l.filter λx=>!p x).map Dep.row))],.ow 1002 0)):=by
 refine GC_1 Tryz.func327 Tryz.ntmps327 (ReadsS.r1 Tryz.results327) λhok hokB M0 w0=>?_
 have hu:∀(c:List Dep),∀r∈c.map Dep.row,r.length=3:=λc r hr=>by obtain⟨x,_,rfl⟩:=List.mem_map.1 hr;rfl
 refine Aw_sr ?_
 refine Al_mr ?_
 refine Al_ns ?_
 refine Al_ml ?_
 refine Al_ml ?_
 refine Al_p (Pu_callR (indexD_a l f caps p hf) rfl rfl ⟨.inr ⟨1001,0,_,_,_,rfl,rfl,rfl⟩,.inl Sub.rfl,trivial⟩) ?_
 refine Al_mr ?_
 refine Al_nil (Aw_seq (Aw_sr ?_))
 refine Al_ml ?_
 refine Al_p Pu_cp ?_
 refine Al_nil ?_
 refine Aw_cond rfl (λh12=>?_) (λh12=>?_)
 ·(try simp only[A.cd_]at h12)
  have hno:=S.find_neg h12
  refine Aw_sr ?_
  refine Al_ml ?_
  refine Al_mr ?_
  refine Al_nil ?_
  exact Aw_ret (⟨_,_,[(1002,1001,0)],rfl,Sub.rfl,⟨obeq (by rw[hno]),trivial⟩,rfl⟩)
 ·(try simp only[A.cd_]at h12)
  obtain⟨i0,hi0,hfi,hpi,hbef⟩:=S.find_pos (p:=p) (l:=l) h12
  refine Aw_skip (Aw_seq (Aw_sr ?_))
  refine Al_ml ?_
  refine Al_p Pu_ad ?_
  refine Al_mr ?_
  refine Al_nil (Aw_block ?_)
  refine Aw_loopk (ι:=Nat×Nat×(List Dep)) [0,1] [] (λ(i,j,c)=>[(5,.d (iv i)),(6,.d (iv j))]) (λ(i,j,c)=>[(1001,0,.arr 110 3 (c.map Dep.row))]) (λ(i,j,c)=>c.length=l.length∧i≤j∧j≤l.length∧c.take i=(l.take j).filter (λx=>!p x)∧c.drop j=l.drop j∧i<j) (λ(i,j,c)=>l.length - j) (i0,i0+1,l) (⟨rfl,by omega,by omega,S.filter_first hi0 hpi hbef,rfl,by omega⟩) ⟨Sub.num hfi,Sub.num (by rw[hfi];omega),trivial⟩ ⟨rfl,trivial⟩ ?_
  rintro⟨i,j,c⟩ ⟨hcl,hij,hjl,hct,hcd,hij2⟩
  refine Aw_seq (Aw_sr ?_)
  refine Al_ml ?_
  refine Al_ml ?_
  refine Al_p (Pu_lenOw (m:=l.length) rfl Tryz.underlying48 rfl rfl (by rw[List.length_map,hcl])) ?_
  refine Al_p Pu_cp ?_
  refine Al_nil ?_
  refine Aw_cond rfl (λh19=>?_) (λh19=>?_)
  ·(try simp only[A.cd_]at h19)
   have hj:j<l.length:=by omega
   have hjc:j<(c.map Dep.row).length:=by rw[List.length_map];omega
   have hcj:c.getD j default=l[j]:=S.drop_at hcd hj (by omega)
   have hrow:=S.row_at (hu c) hjc
   rw[S.map_getD (by omega:j<c.length),hcj]at hrow
   have hset:=S.flat_set (hu c) (x:=Dep.row l[j]) (i:=i) (by rw[List.length_map];omega) rfl
   refine Aw_skip ?_
   refine Aw_seq (Aw_block (Aw_sr ?_))
   refine Al_ml ?_
   refine Al_ml ?_
   refine Al_p (Pu_indexOw (j:=j) rfl Tryz.underlying48 Tryz.sizeOf110 rfl rfl rfl rfl hjc) ?_
   refine Al_p (Pu_loadArrN rfl Tryz.isAgg110 Tryz.sizeOf110 rfl rfl hrow rfl) ?_
   refine Al_al Tryz.zeroValue110 λg7=>?_
   refine Al_sN Tryz.isAgg110 Tryz.sizeOf110 ?_
   refine Al_ns ?_
   refine Al_ml ?_
   refine Al_p (Pu_lbN (r:=[_,_,_]) Tryz.isAgg110 Tryz.sizeOf110) ?_
   refine Al_p (Pu_callv (aa:=[(λx=>.row x.row) l[j]]) (caps:=caps) (hf l[j]) rfl rfl ⟨Sub.rfl,trivial⟩) ?_
   refine Al_p Pu_n ?_
   refine Al_nil ?_
   refine Aw_cond rfl (λh29=>?_) (λh29=>?_)
   ·skip
    have hpj:p l[j]=false:=by simpa using h29
    refine Aw_sr ?_
    refine Al_ml ?_
    refine Al_ml ?_
    refine Al_p (Pu_lbN (r:=[_,_,_]) Tryz.isAgg110 Tryz.sizeOf110) ?_
    refine Al_p (Pu_indexOw (j:=i) rfl Tryz.underlying48 Tryz.sizeOf110 rfl rfl rfl rfl (by rw[List.length_map];omega)) ?_
    refine Al_storeArr ((c.map Dep.row).set i (Dep.row l[j])) rfl rfl rfl (by kernel_rfl) Tryz.sizeOf110 rfl rfl rfl rfl rfl (by rw[List.length_map];omega) (by simp) (λq hq=>by rcases List.mem_or_eq_of_mem_set hq with h|rfl;exact hu c q h;rfl) hset ?_
    refine Al_nil (Aw_region ?_)
    refine Al_ml ?_
    refine Al_p Pu_ad ?_
    refine Al_mr ?_
    refine Al_nil (Aw_region ?_)
    refine Al_ml ?_
    refine Al_p Pu_ad ?_
    refine Al_mr ?_
    refine Al_nil ?_
    exact⟨(i+1,j+1,c.set i l[j]),⟨by rw[List.length_set,hcl],by omega,by omega,S.del_keep hj hct hpj (by omega),by rw[List.drop_set_of_lt (by omega),←List.drop_drop,hcd,List.drop_drop],by omega⟩,by simp only[];omega,Le.ov ⟨Sub.num (by omega),Sub.num (by omega),trivial⟩ ⟨Sub.rfl,Sub.rfl,trivial⟩ ⟨obeq (by rw[List.map_set]),trivial⟩ trivial⟩
   ·skip
    have hpj:p l[j]=true:=by simpa using h29
    refine Aw_skip (Aw_region ?_)
    refine Al_ml ?_
    refine Al_p Pu_ad ?_
    refine Al_mr ?_
    refine Al_nil ?_
    exact⟨(i,j+1,c),⟨hcl,by omega,by omega,S.del_drop hj hct hpj,by rw[←List.drop_drop,hcd,List.drop_drop],by omega⟩,by simp only[];omega,Le.ov ⟨Sub.rfl,Sub.num (by omega),trivial⟩ ⟨Sub.rfl,Sub.rfl,trivial⟩ ⟨rfl,trivial⟩ trivial⟩
  ·(try simp only[A.cd_]at h19)
   obtain rfl:j=l.length:=by omega
   rw[List.take_length]at hct
   have hfl:∀zz,((c.map Dep.row).take i++List.replicate ((c.map Dep.row).length - i) zz).take i=(l.filter λx=>!p x).map Dep.row:=λzz=>by
    rw[←hct,List.map_take,List.take_append_of_le_length (by simp;omega),List.take_take,Nat.min_self]
   refine Aw_exit (Aw_sr ?_)
   refine Al_ml ?_
   refine Al_ml ?_
   refine Al_p (Pu_sliceOw i (c.map Dep.row).length rfl Tryz.underlying48 Tryz.sizeOf110 rfl rfl ⟨_,rfl,rfl⟩ rfl ⟨by rw[List.length_map];omega,.inl (Nat.le_refl _)⟩) ?_
   refine Al_clear0 rfl rfl rfl (by kernel_rfl) Tryz.underlying48 Tryz.zeroValue110 rfl (by decide) rfl (by decide) rfl rfl rfl ?_
   refine Al_ns ?_
   refine Al_ml ?_
   refine Al_ml ?_
   refine Al_cut i rfl rfl rfl (by decide) (by kernel_rfl) Tryz.underlying48 Tryz.sizeOf110 rfl rfl rfl ⟨_,rfl,rfl⟩ (by simp;omega) (λg41=>?_)
   refine Al_mr ?_
   refine Al_nil ?_
   exact Aw_ret (⟨_,_,[(1002,1001,g41)],rfl,Sub.rfl,⟨obeq (hfl _),trivial⟩,rfl⟩)
namespace J
def only(p:List Dep) (own:List Rng):List Dep:=p.filter λd=>!decide (findR own d.key<0)
def lacks (hv:List Dep) (d:Dep):Bool:=D.lessB (D.get hv d.key).1 (D.get hv d.key).2 d.n d.s
def misses (v:Ver) (hv:List Dep) (own:List Rng):List Dep:=(only v.past own).filter (lacks hv)
def ready (hv:List Dep) (own:List Rng) (v:Ver):Bool:=decide (((misses v hv own).length:Int)=0)
def nextI (l:List Ver) (hv:List Dep) (own:List Rng):Nat:=l.findIdx (ready hv own)
end J
theorem ponly1_a (own:List Rng) (d:Dep) (hl:own.length≤1000000):ACall Tryz.prog 328 [.row d.row,.fp [rngA own]] (bv (decide (findR own d.key<0))):=by
 refine AC_1 Tryz.func328 Tryz.ntmps328 Tryz.results328 λhok M0 w0 hnl=>?_
 refine Aw_sr ?_
 refine Al_p Pu_bN ?_
 refine Al_mr ?_
 refine Al_ns ?_
 refine Al_p (Pu_l1 Tryz.isAgg28) ?_
 refine Al_p (Pu_fd 0 Tryz.underlying110 Tryz.sizeOf9) ?_
 refine Al_p (Pu_l1 Tryz.isAgg9) ?_
 refine Al_p (Pu_call (find_a own d.key hl) rfl ⟨Sub.rfl,Sub.rfl,trivial⟩) ?_
 refine Al_p Pu_cp ?_
 refine Al_mr ?_
 refine Al_nil ?_
 exact Aw_ret (Sub.rfl)
theorem ponly_g (p:List Dep) (own:List Rng) (hl:own.length≤1000000) (hp:p.length≤1000000):GCall Tryz.prog 251 [.d (.sl 3 (p.map Dep.row)),.d (rngA own)] [] (some ([(1001,.arr 110 3 ((J.only p own).map Dep.row))],.ow 1001 0)):=by
 refine GC_1 Tryz.func251 Tryz.ntmps251 (ReadsS.r1 Tryz.results251) λhok hokB M0 w0=>?_
 have hdel:=delfuncD_g p 328 [.fp [rngA own]] (λd=>decide (findR own d.key<0)) (λd=>ponly1_a own d hl) hp
 refine Aw_sr ?_
 refine Al_p (Pu_box1 rfl rfl (by nofun) (by nofun)) ?_
 refine Al_mr ?_
 refine Al_ns ?_
 refine Al_ml ?_
 refine Al_gcall [] [(1001,6)] (cloneD_g p hp) rfl rfl rfl (by decide) (by kernel_rfl) trivial rfl ⟨Sub.rfl,trivial⟩ (λg6=>?_)
 refine Al_p (Pu_makeFunc (caps:=[_]) rfl ⟨Sub.rfl,trivial⟩) ?_
 refine Al_gcall [(1001,6,g6)] [(1002,8)] (hdel) rfl rfl rfl (by decide) (by kernel_rfl) ⟨rfl,trivial⟩ rfl ⟨Sub.rfl,Sub.rfl,trivial⟩ (λg8=>?_)
 refine Al_mr ?_
 refine Al_nil ?_
 exact Aw_ret (⟨_,_,[(1001,8,g8)],rfl,Sub.rfl,⟨rfl,trivial⟩,rfl⟩)
theorem qmisses1_a (hv:List Dep) (d:Dep) (hs:D.Srt hv) (hl:hv.length≤1000000):ACall Tryz.prog 394 [.row d.row,.fp [.sl 3 (hv.map Dep.row)]] (bv (!J.lacks hv d)):=by
 refine AC_1 Tryz.func394 Tryz.ntmps394 Tryz.results394 λhok M0 w0 hnl=>?_
 refine Aw_sr ?_
 refine Al_p Pu_bN ?_
 refine Al_mr ?_
 refine Al_nil (Aw_seq ?_)
 refine Aw_dr 8 ?_
 refine Dr_p (Pu_l1 Tryz.isAgg48) ?_
 refine Dr_p (Pu_fd 0 Tryz.underlying110 Tryz.sizeOf9) ?_
 refine Dr_p (Pu_l1 Tryz.isAgg9) ?_
 refine Dr_p (Pu_call (pget_a hv d.key hs hl) rfl ⟨Sub.rfl,Sub.rfl,trivial⟩) ?_
 refine Dr_p (Pu_fd 1 Tryz.underlying110 Tryz.sizeOf47) ?_
 refine Dr_p (Pu_lN Tryz.isAgg47 Tryz.sizeOf47) ?_
 refine Dr_p (Pu_call (less_a _ _ _ _) rfl ⟨Sub.rfl,Sub.rfl,trivial⟩) ?_
 refine Dr_p Pu_n ?_
 refine Dr_nil ?_
 refine Al_mr ?_
 refine Al_nil ?_
 exact Aw_ret (Sub.rfl)
theorem qmisses_g (v:Ver) (hv:List Dep) (own:List Rng) (hl:own.length≤1000000) (hp:v.past.length≤1000000) (hs:D.Srt hv) (hh:hv.length≤1000000):GCall Tryz.prog 367 [.d (.row v.row),.d (.sl 3 (hv.map Dep.row)),.d (rngA own)] [] (some ([(1001,.arr 110 3 ((J.misses v hv own).map Dep.row))],.ow 1001 0)):=by
 refine GC_1 Tryz.func367 Tryz.ntmps367 (ReadsS.r1 Tryz.results367) λhok hokB M0 w0=>?_
 have hol:(J.only v.past own).length≤1000000:=Nat.le_trans (List.length_filter_le ..) hp
 have hdel:=delfuncD_g (J.only v.past own) 394 [.fp [.sl 3 (hv.map Dep.row)]] (λd=>!J.lacks hv d) (λd=>qmisses1_a hv d hs hh) hol
 refine Aw_sr ?_
 refine Al_p Pu_bN ?_
 refine Al_p (Pu_box1 rfl rfl (by nofun) (by nofun)) ?_
 refine Al_mr ?_
 refine Al_ns ?_
 refine Al_p (Pu_fd 5 Tryz.underlying50 Tryz.sizeOf48) ?_
 refine Al_p (Pu_l1 Tryz.isAgg48) ?_
 refine Al_ml ?_
 refine Al_gcall [] [(1001,10)] (ponly_g v.past own hl hp) rfl rfl rfl (by decide) (by kernel_rfl) trivial rfl ⟨Sub.rfl,Sub.rfl,trivial⟩ (λg10=>?_)
 refine Al_p (Pu_makeFunc (caps:=[_]) rfl ⟨Sub.rfl,trivial⟩) ?_
 refine Al_gcall [(1001,10,g10)] [(1002,12)] (hdel) rfl rfl rfl (by decide) (by kernel_rfl) ⟨rfl,trivial⟩ rfl ⟨Sub.rfl,Sub.rfl,trivial⟩ (λg12=>?_)
 refine Al_mr ?_
 refine Al_nil ?_
 exact Aw_ret (⟨_,_,[(1001,12,g12)],rfl,Sub.rfl,⟨obeq (by unfold J.misses;simp only[Bool.not_not]),trivial⟩,rfl⟩)
theorem qcheck_a (v:Ver) (hv:List Dep) (own:List Rng) (hl:own.length≤1000000) (hp:v.past.length≤1000000) (hs:D.Srt hv) (hh:hv.length≤1000000):ACall Tryz.prog 335 [.row v.row,.sl 3 (hv.map Dep.row),rngA own] (bv (J.ready hv own v)):=by
 refine AC_1 Tryz.func335 Tryz.ntmps335 Tryz.results335 λhok M0 w0 hnl=>?_
 refine Aw_sr ?_
 refine Al_p Pu_bN ?_
 refine Al_mr ?_
 refine Al_ns ?_
 refine Al_p (Pu_lN Tryz.isAgg50 Tryz.sizeOf50) ?_
 refine Al_ml ?_
 refine Al_ml ?_
 refine Al_gcall [] [(1001,10)] (qmisses_g v hv own hl hp hs hh) rfl rfl rfl (by decide) (by kernel_rfl) trivial rfl ⟨Sub.rfl,Sub.rfl,Sub.rfl,trivial⟩ (λg10=>?_)
 refine Al_p (Pu_lenOw rfl Tryz.underlying48 rfl rfl (List.length_map ..)) ?_
 refine Al_p Pu_cp ?_
 refine Al_mr ?_
 refine Al_nil ?_
 exact Aw_ret (Sub.rfl)
def J.pushE (l:List Ver) (v:Ver):Int:=if J.checkB v then(if (24:Int)≤l.length then 15 else 0)else 1
theorem qpush_a (l:List Ver) (v:Ver) (hp:l.length≤1000000):ACall Tryz.prog 262 [versA l,.row v.row] (.tup [versA (if J.pushE l v=0 then l++[v]else[]),iv (J.pushE l v)]):=by
 refine AC_2 Tryz.func262 Tryz.ntmps262 Tryz.results262 λhok M0 w0 hnl=>?_
 refine Aw_sr ?_
 refine Al_p Pu_bN ?_
 refine Al_mr ?_
 refine Al_mr ?_
 refine Al_nil (Aw_seq (Aw_block (Aw_sr ?_)))
 refine Al_p (Pu_lN Tryz.isAgg50 Tryz.sizeOf50) ?_
 refine Al_p (Pu_call (wcheck_a v) rfl ⟨Sub.rfl,trivial⟩) ?_
 refine Al_p Pu_n ?_
 refine Al_mr ?_
 refine Al_nil ?_
 refine Aw_cond rfl (λh6=>?_) (λh6=>?_)
 ·(try simp only[A.cd_]at h6)
  have he:J.pushE l v=1:=by
   unfold J.pushE
   rw[if_neg (by rw[Bool.not_eq_true];simpa using h6)]
  refine Aw_sr ?_
  refine Al_mr ?_
  refine Al_mr ?_
  refine Al_nil ?_
  refine Aw_ret ?_
  rw[he];exact⟨Sub.nil,Sub.rfl⟩
 ·(try simp only[A.cd_]at h6)
  refine Aw_sr ?_
  refine Al_ml ?_
  refine Al_p (Pu_ln Tryz.underlying35) ?_
  refine Al_p Pu_cp ?_
  refine Al_mr ?_
  refine Al_nil ?_
  refine Aw_cond rfl (λh10=>?_) (λh10=>?_)
  ·(try simp only[A.cd_]at h10)
   have he:J.pushE l v=15:=by
    unfold J.pushE
    rw[if_pos (by simpa using h6),if_pos (by simpa using h10)]
   refine Aw_sr ?_
   refine Al_mr ?_
   refine Al_mr ?_
   refine Al_nil ?_
   refine Aw_ret ?_
   rw[he];exact⟨Sub.nil,Sub.rfl⟩
  ·(try simp only[A.cd_]at h10)
   have he:J.pushE l v=0:=by
    unfold J.pushE
    rw[if_pos (by simpa using h6),if_neg (by simpa using h10)]
   refine Aw_skip (Aw_seq ?_)
   refine Aw_dr 8 ?_
   refine Dr_ml ?_
   refine Dr_ml ?_
   refine Dr_p (Pu_ln Tryz.underlying35) ?_
   refine Dr_ml ?_
   refine Dr_p (Pu_ln Tryz.underlying35) ?_
   refine Dr_p (Pu_sub3 l.length rfl Tryz.underlying35 Tryz.sizeOf50 rfl ⟨_,rfl,rfl⟩ ⟨_,rfl,rfl⟩ (by rw[List.length_map];exact Nat.le_refl _)) ?_
   refine Dr_p (Pu_lN Tryz.isAgg50 Tryz.sizeOf50) ?_
   refine Dr_p (Pu_slice1 rfl Tryz.underlying35 Tryz.sizeOf50 Tryz.zeroValue50 rfl (by decide) (by decide) (by kernel_rfl) rfl rfl rfl) ?_
   refine Dr_nil ?_
   refine Al_p (Pu_appendC rfl elem35 (by decide) Tryz.sizeOf50 rfl rfl (by simp;omega) (by decide)) ?_
   refine Al_mr ?_
   refine Al_mr ?_
   refine Al_nil ?_
   exact Aw_ret (⟨Sub.d (by rw[he,if_pos rfl];show AV.sl 6 _=AV.sl 6 ((l++[v]).map Ver.row);rw[List.map_append,List.take_of_length_le (by rw[List.length_map];exact Nat.le_refl _)];rfl),Sub.num he.symm⟩)
namespace J
theorem next_at {l:List Ver}{hv:List Dep}{own:List Rng}{k:Nat}(hk:k<l.length) (hr:ready hv own (l.getD k default)=true) (hno:∀j,j<k→ready hv own (l.getD j default)=false):nextI l hv own=k∧l[nextI l hv own]?=some (l.getD k default)∧l.eraseIdx (nextI l hv own)=l.take k++l.drop (k+1):=by
 have h1:nextI l hv own=k:=by
  unfold nextI
  rw[List.findIdx_eq hk]
  refine⟨by rw[List.getD_eq_getElem?_getD,List.getElem?_eq_getElem hk]at hr;exact hr,λj hj=>?_⟩
  have:=hno j hj
  rw[List.getD_eq_getElem?_getD,List.getElem?_eq_getElem (by omega)]at this
  exact this
 refine⟨h1,by rw[h1,List.getD_eq_getElem?_getD,List.getElem?_eq_getElem hk];rfl,by rw[h1,List.eraseIdx_eq_take_drop_succ]⟩
theorem next_no {l:List Ver}{hv:List Dep}{own:List Rng}(hno:∀j,j<l.length→ready hv own (l.getD j default)=false):l[nextI l hv own]?=none∧l.eraseIdx (nextI l hv own)=l:=by
 have h1:nextI l hv own=l.length:=by
  unfold nextI
  rw[List.findIdx_eq_length]
  intro x hx
  obtain⟨j,hj,rfl⟩:=List.getElem_of_mem hx
  have:=hno j hj
  rw[List.getD_eq_getElem?_getD,List.getElem?_eq_getElem hj]at this
  exact this
 exact⟨by rw[h1];simp,by rw[h1,List.eraseIdx_of_length_le (Nat.le_refl _)]⟩
def nextV (l:List Ver) (hv:List Dep) (own:List Rng):Option Ver:=l[nextI l hv own]?
def nextL (l:List Ver) (hv:List Dep) (own:List Rng):List Ver:=l.eraseIdx (nextI l hv own)
end J
abbrev nextA (l:List Ver) (hv:List Dep) (own:List Rng):AV:=.tup [.row ((J.nextV l hv own).getD default).row,versA (J.nextL l hv own),bv (J.nextV l hv own).isSome]
set_option maxRecDepth 100000 in
theorem qnext_a (l:List Ver) (hv:List Dep) (own:List Rng) (hl:own.length≤1000000) (hp:∀v∈l,v.past.length≤1000000) (hs:D.Srt hv) (hh:hv.length≤1000000) (hll:l.length≤1000000):ACall Tryz.prog 263 [versA l,.sl 3 (hv.map Dep.row),rngA own] (nextA l hv own):=by
 refine AC_G Tryz.func263 Tryz.ntmps263 (Reads.cN2 Tryz.results263 Tryz.isAgg50 Tryz.sizeOf50) λhok M0 w0 hnl=>?_
 refine Aw_sr ?_
 refine Al_al Tryz.zeroValue50 λg6=>?_
 refine Al_mr ?_
 refine Al_mr ?_
 refine Al_nil (Aw_scope (Aw_seq (Aw_label (Aw_seq (Aw_sr ?_)))))
 refine Al_ml ?_
 refine Al_p (Pu_ln Tryz.underlying35) ?_
 refine Al_ml ?_
 refine Al_nil (Aw_block ?_)
 refine Aw_loopk (ι:=Nat) [0,1,2,6,11,12] [6] (λk=>[(13,.d (iv k))]) (λk=>[]) (λk=>k≤l.length∧∀j,j<k→J.ready hv own (l.getD j default)=false) (λk=>l.length - k) (0) (⟨Nat.zero_le _,λj hj=>absurd hj (Nat.not_lt_zero _)⟩) ⟨Sub.rfl,trivial⟩ trivial ?_
 rintro k ⟨hk0,hno⟩
 refine Aw_sr ?_
 refine Al_p Pu_cp ?_
 refine Al_nil (Aw_seq ?_)
 refine Aw_cond rfl (λh14=>?_) (λh14=>?_)
 ·(try simp only[A.cd_]at h14)
  have hk:k<l.length:=by omega
  have hmem:l.getD k default∈l:=by rw[List.getD_eq_getElem?_getD,List.getElem?_eq_getElem hk];exact List.getElem_mem hk
  refine Aw_skip (Aw_seq (Aw_block (Aw_sr ?_)))
  refine Al_ml ?_
  refine Al_p (Pu_index rfl Tryz.underlying35 Tryz.sizeOf50 rfl rfl (rfl) (mapgetD (d:=default) hk)) ?_
  refine Al_p (Pu_lN Tryz.isAgg50 Tryz.sizeOf50) ?_
  refine Al_al Tryz.zeroValue50 λg10=>?_
  refine Al_mr ?_
  refine Al_sN Tryz.isAgg50 Tryz.sizeOf50 ?_
  refine Al_nil (Aw_seq (Aw_sr ?_))
  refine Al_p (Pu_lbN (r:=[_,_,_,_,_,_]) Tryz.isAgg50 Tryz.sizeOf50) ?_
  refine Al_ml ?_
  refine Al_ml ?_
  refine Al_p (Pu_call (qcheck_a (l.getD k default) hv own hl (hp _ hmem) hs hh) rfl ⟨Sub.rfl,Sub.rfl,Sub.rfl,trivial⟩) ?_
  refine Al_p Pu_n ?_
  refine Al_nil ?_
  refine Aw_cond rfl (λh22=>?_) (λh22=>?_)
  ·(try simp only[A.cd_]at h22)
   refine Aw_exit (Aw_region ?_)
   refine Al_p Pu_ad ?_
   refine Al_ml ?_
   refine Al_nil ?_
   exact⟨k+1,⟨by omega,λj hj=>by
    rcases Nat.lt_succ_iff_lt_or_eq.1 hj with h|rfl
    ·exact hno j h
    ·exact h22⟩,by omega,Le.ov ⟨Sub.num (by omega),trivial⟩ ⟨Sub.rfl,Sub.rfl,Sub.rfl,Sub.rfl,Sub.rfl,Sub.rfl,trivial⟩ trivial ⟨rfl,trivial⟩⟩
  ·(try simp only[A.cd_]at h22)
   obtain⟨e1,e2,e3⟩:=J.next_at hk h22 hno
   refine Aw_skip (Aw_seq ?_)
   refine Aw_dr 10 ?_
   refine Dr_p (Pu_lbN (r:=[_,_,_,_,_,_]) Tryz.isAgg50 Tryz.sizeOf50) ?_
   refine Dr_ml ?_
   refine Dr_ml ?_
   refine Dr_ml ?_
   refine Dr_p (Pu_sub3 k rfl Tryz.underlying35 Tryz.sizeOf50 rfl ⟨_,rfl,rfl⟩ ⟨_,rfl,rfl⟩ (by rw[List.length_map];omega)) ?_
   refine Dr_ml ?_
   refine Dr_ml ?_
   refine Dr_p Pu_ad ?_
   refine Dr_p (Pu_subL (k+1) (l.length) rfl Tryz.underlying35 Tryz.sizeOf50 rfl ⟨_,rfl,rfl⟩ ((List.length_map ..).symm) ⟨by first|omega|(rw[List.length_map];omega),by first|omega|(rw[List.length_map];omega)⟩) ?_
   refine Dr_p (Pu_appendC rfl elem35 (by decide) Tryz.sizeOf50 rfl rfl (by simp;omega) (by decide)) ?_
   refine Dr_nil ?_
   refine Al_sN Tryz.isAgg50 Tryz.sizeOf50 ?_
   refine Al_mr ?_
   refine Al_mr ?_
   refine Al_nil ?_
   refine Aw_ret ?_
   exact⟨_,_,_,_,_,[_,_,_,_,_,_],versA (l.take k++l.drop (k+1)),_,rfl,rfl,rfl,rfl,Sub.d (by
    have h1:(l.map Ver.row).take l.length=l.map Ver.row:=List.take_of_length_le (by simp)
    show AV.sl 6 _=AV.sl 6 _
    rw[List.map_append,List.map_take,List.map_drop,h1]),Sub.rfl,by unfold nextA J.nextV J.nextL;rw[e2,e3];rfl⟩
 ·(try simp only[A.cd_]at h14)
  obtain⟨e2,e3⟩:=J.next_no (l:=l) (hv:=hv) (own:=own) λj hj=>hno j (by omega)
  refine Aw_exit (Aw_sr ?_)
  refine Al_p (Pu_build (aa:=[]) rfl Tryz.underlying50 Tryz.zeroValue50 places50 (by kernel_rfl) trivial rfl) ?_
  refine Al_ml ?_
  refine Al_sN Tryz.isAgg50 Tryz.sizeOf50 ?_
  refine Al_mr ?_
  refine Al_mr ?_
  refine Al_nil ?_
  refine Aw_boxle (k:=6) ((default:Ver).row.map .d) rfl ⟨Sub.rfl,Sub.rfl,Sub.rfl,Sub.rfl,Sub.rfl,Sub.nil,trivial⟩ ?_
  exact Aw_ret (⟨_,_,_,_,_,[_,_,_,_,_,_],versA l,_,rfl,rfl,rfl,rfl,Sub.rfl,Sub.rfl,by unfold nextA J.nextV J.nextL;rw[e2,e3];rfl⟩)
end Go.Proofs.YtdnijgdmohinlaaGreat
end
section
namespace Go.Proofs.YtdnijgdmohinlaaGreat.A
open Go Go.RowKit
section
variable {P:Program}{N:Nat}{M0:Nat→Prop}{w0:Base}{ops:Array Oper}{Q:Exit→ASt→Prop}{o:Oper}{l:List Oper}{st:ASt}
theorem Pu_to {s s':SV}(h:Pu P st o s) (e:s=s'):Pu P st o s':=e▸h
end
section
variable {κ α:Type}{kv:κ→Value}{ok:κ→Prop}{enc:α→AV}
end
end Go.Proofs.YtdnijgdmohinlaaGreat.A
end
