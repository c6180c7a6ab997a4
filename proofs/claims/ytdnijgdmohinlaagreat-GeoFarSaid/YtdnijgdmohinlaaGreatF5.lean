/- What the proofs need in common, laid together (5 of 7): no condition. -/
import Derived.Test.YtdnijgdmohinlaaGreatF4
import Derived.Maps.RangeRun
set_option linter.unusedSimpArgs false
set_option linter.unusedVariables false
set_option linter.constructorNameAsVariable false
section
set_option maxRecDepth 100000
namespace Go.Proofs.YtdnijgdmohinlaaGreat
open Go Go.RowKit A R
open A.RowT
namespace D
theorem addAll_good1:∀(q p:List Dep),Good p→Good (addAll p q)
 | [],p,h=>h
 | d::q,p,h=>addAll_good1 q (add p d) (add_good h d)
theorem nil_good:Good []:=⟨List.Pairwise.nil,λx hx=>by cases hx⟩
theorem mergeL_good (l:List (List Dep)):Good (mergeL l):=addAll_good1 _ _ nil_good
end D
set_option maxHeartbeats 1000000 in
theorem merge_a (l:List (List Dep)) (hl:l.flatten.length≤1000):ACall Tryz.prog 155 [.sl 1 (l.map λp=>[pastA p])] (pastA (D.mergeL l)):=by
 refine AC_1 Tryz.func155 Tryz.ntmps155 Tryz.results155 λhok M0 w0 hnl=>?_
 have hlen:=(hok _ (List.mem_cons_self ..)).len
 rw[List.length_map]at hlen
 refine Aw_sr ?_
 refine Al_mr ?_
 refine Al_ns ?_
 refine Al_mr ?_
 refine Al_nil (Aw_seq (Aw_sr ?_))
 refine Al_ml ?_
 refine Al_p (Pu_ln Tryz.underlying195) ?_
 refine Al_ml ?_
 refine Al_nil (Aw_block ?_)
 refine Aw_loopk (ι:=Nat) [8,9] [] (λi=>[(10,.d (iv i)),(3,.d (pastA (D.mergeL (l.take i))))]) (λi=>[]) (λi=>i≤l.length) (λi=>l.length - i) (0) (Nat.zero_le _) ⟨Sub.rfl,Sub.nil,trivial⟩ trivial ?_
 rintro i hk0
 refine Aw_sr ?_
 refine Al_p Pu_cp ?_
 refine Al_nil (Aw_seq ?_)
 refine Aw_cond rfl (λh11=>?_) (λh11=>?_)
 ·(try simp only[A.cd_]at h11)
  have hi:i<l.length:=by omega
  have hfl:=D.flat_len2 l hi
  have hml:=D.addAll_len (l.take i).flatten []
  have hgi:l.getD i default=l[i]:=by simp[hi]
  refine Aw_skip (Aw_seq (Aw_block (Aw_sr ?_)))
  refine Al_p (Pu_index rfl Tryz.underlying195 Tryz.sizeOf48 rfl rfl (rfl) (mapgetD (d:=default) hi)) ?_
  refine Al_p (Pu_l1 Tryz.isAgg48) ?_
  refine Al_mr ?_
  refine Al_ns ?_
  refine Al_ml ?_
  refine Al_p (Pu_ln Tryz.underlying48) ?_
  refine Al_ml ?_
  refine Al_nil (Aw_block ?_)
  refine Aw_loopk (ι:=Nat) [8,9,10,14,15] [] (λj=>[(16,.d (iv j)),(3,.d (pastA (D.addAll (D.mergeL (l.take i)) ((l.getD i default).take j))))]) (λj=>[]) (λj=>j≤(l.getD i default).length) (λj=>(l.getD i default).length - j) (0) (Nat.zero_le _) ⟨Sub.rfl,Sub.rfl,trivial⟩ trivial ?_
  rintro j hk1
  refine Aw_sr ?_
  refine Al_p Pu_cp ?_
  refine Al_nil (Aw_seq ?_)
  refine Aw_cond rfl (λh17=>?_) (λh17=>?_)
  ·(try simp only[A.cd_]at h17)
   have hj:j<(l.getD i default).length:=by omega
   have hal:=D.addAll_len ((l.getD i default).take j) (D.mergeL (l.take i))
   have htl:((l.getD i default).take j).length≤(l.getD i default).length:=by rw[List.length_take];omega
   have hml2:(D.mergeL (l.take i)).length≤(l.take i).flatten.length:=by unfold D.mergeL;simpa using hml
   have hgl:(l.getD i default).length=l[i].length:=by rw[hgi]
   have hda:=padd_a (D.addAll (D.mergeL (l.take i)) ((l.getD i default).take j)) ((l.getD i default)[j]'hj) (D.addAll_good1 _ _ (D.mergeL_good _)) (by omega)
   refine Aw_skip (Aw_seq (Aw_block (Aw_sr ?_)))
   refine Al_p (Pu_index rfl Tryz.underlying48 Tryz.sizeOf110 rfl rfl (rfl) (mapget hj)) ?_
   refine Al_p (Pu_lN Tryz.isAgg110 Tryz.sizeOf110) ?_
   refine Al_al Tryz.zeroValue110 λg7=>?_
   refine Al_sN Tryz.isAgg110 Tryz.sizeOf110 ?_
   refine Al_nil (Aw_region ?_)
   refine Al_ml ?_
   refine Al_p (Pu_lbN (r:=[_,_,_]) Tryz.isAgg110 Tryz.sizeOf110) ?_
   refine Al_p (Pu_call (hda) rfl ⟨Sub.rfl,Sub.rfl,trivial⟩) ?_
   refine Al_mr ?_
   refine Al_nil (Aw_region ?_)
   refine Al_p Pu_ad ?_
   refine Al_ml ?_
   refine Al_nil ?_
   exact⟨j+1,by omega,by omega,Le.ov ⟨Sub.num (by omega),Sub.d (by rw[D.addAll_succ _ _ hj]),trivial⟩ ⟨Sub.rfl,Sub.rfl,Sub.rfl,Sub.rfl,Sub.rfl,trivial⟩ trivial trivial⟩
  ·(try simp only[A.cd_]at h17)
   have hjj:(l.getD i default).take j=l[i]:=by rw[List.take_of_length_le (by omega),hgi]
   refine Aw_exit (Aw_region ?_)
   refine Al_p Pu_ad ?_
   refine Al_ml ?_
   refine Al_nil ?_
   exact⟨i+1,by omega,by omega,Le.ov ⟨Sub.num (by omega),Sub.d (by rw[hjj,D.mergeL_succ l hi]),trivial⟩ ⟨Sub.rfl,Sub.rfl,trivial⟩ trivial trivial⟩
 ·(try simp only[A.cd_]at h11)
  have hii:l.take i=l:=List.take_of_length_le (by omega)
  refine Aw_exit (Aw_sr ?_)
  refine Al_ml ?_
  refine Al_mr ?_
  refine Al_nil ?_
  exact Aw_ret (Sub.d (by rw[hii]))
namespace H
abbrev SK:=Int×Int
def skv (x:SK):Value:=.agg #[.int .i64 x.1,.int .i64 x.2]
def skok (x:SK):Prop:=A.inI x.1∧A.inI x.2
theorem skv_inj (a b:SK) (h:skv a=skv b):a=b:=by
 obtain⟨a1,a2⟩:=a
 obtain⟨b1,b2⟩:=b
 simp[skv]at h
 simp[h]
end H
end Go.Proofs.YtdnijgdmohinlaaGreat
end
section
set_option maxRecDepth 100000
namespace Go.Proofs.YtdnijgdmohinlaaGreat
open Go Go.RowKit A R
theorem pair_lit (a:H.SK) (h:H.skok a):∃l,keyOf Tryz.prog 157 (H.skv a)=some l:=by
 obtain⟨a2,a3⟩:=a
 obtain⟨h2,h3⟩:=h
 have w2:(Lit.int .i64 a2).wf=true:=by simp only[Lit.wf,Bool.and_eq_true,decide_eq_true_eq];exact h2
 have w3:(Lit.int .i64 a3).wf=true:=by simp only[Lit.wf,Bool.and_eq_true,decide_eq_true_eq];exact h3
 have k1:Tryz.prog.keyType 157=true:=by kernel_rfl
 have k2:(H.skv (a2,a3)).formed Tryz.prog 157=true:=by kernel_rfl
 have c2:Tryz.prog.cellsOf 157=2:=by kernel_rfl
 have c4:Tryz.prog.cellsOf 3=1:=by kernel_rfl
 have hl:∃n,Tryz.prog.types.size+1=n+3:=⟨Tryz.prog.types.size - 2,by have:2≤Tryz.prog.types.size:=Nat.le_of_ble_eq_true (by kernel_rfl);omega⟩
 obtain⟨n,hn⟩:=hl
 have hI:∀z:Int,(Lit.int .i64 z).wf=true→Tryz.prog.keyLits (n+2) 3 [.int .i64 z]=some [Lit.int .i64 z]:=λz hz=>by
  simp[Program.keyLits,Tryz.underlying3,hz]
 have hP:Tryz.prog.keyLits (n+3) 157 [.int .i64 a2,.int .i64 a3]=some [Lit.int .i64 a2,Lit.int .i64 a3]:=by
  rw[Program.keyLits]
  case heq=>exact Tryz.underlying157
  rw[show List.range 2=[0,1]from rfl]
  simp[hI a2 w2,hI a3 w3,c2,c4]
 unfold keyOf
 simp only[Tryz.underlying157,k1,k2,Bool.and_self,if_true,hn]
 exact⟨_,by
  show(Tryz.prog.keyLits (n+3) _ [.int .i64 a2,.int .i64 a3]).map _=some _
  rw[hP];rfl⟩
theorem pair_key:KeyT Tryz.prog 157 H.SK H.skv H.skok :=
 .of (Go.Maps.Keyed.of_law (deep_law_laid (by kernel_rfl) (m:=2) (by decide) (Nat.lt_of_lt_of_le (Nat.lt_succ_self _) (Nat.le_of_ble_eq_true (by kernel_rfl))) (by kernel_rfl) (by rw[Tryz.underlying157]))) pair_lit H.skv_inj
end Go.Proofs.YtdnijgdmohinlaaGreat
end
section
set_option maxRecDepth 100000
namespace Go.Proofs.YtdnijgdmohinlaaGreat
open Go Go.RowKit A R
structure Ses where
 sn:Int
 op:List Pk
 rn:Int
 way:List Pk
instance:Inhabited Ses:=⟨⟨0,[],0,[]⟩⟩
namespace N
def idx (n:Nat) (a b:Int):Option Nat:=if 0≤a∧a<n∧0≤b∧b<n∧a≠b then some (a.toNat*(n - 1)+(if b<a then b.toNat else b.toNat - 1))else none
def send (s:Ses) (d:ByteArray):Ses:={s with sn:=L.sendS s.sn s.op,op:=L.sendO s.sn s.op d,way:=if 8≤s.op.length then s.way else s.way++[L.sendP s.sn s.op d]}
abbrev XS:=List (Value×Ses)
def netM (n:Nat) (X:XS) (c:H.SK):Option Value:=(idx n c.1 c.2).bind λi=>X[i]?.map (·.1)
def ofV (n:Nat) (X:XS) (a b:Int):Value:=(netM n X (a,b)).getD (.pointer none)
def at' (n:Nat) (X:XS) (a b:Int):Option Ses:=(idx n a b).bind λi=>X[i]?.map (·.2)
def upd (n:Nat) (X:XS) (a b:Int) (f:Ses→Ses):XS:=match idx n a b with
 | some i=>(match X[i]? with|some x=>X.set i (x.1,f x.2)|none=>X)
 | none=>X
theorem upd_m (n:Nat) (X:XS) (a b:Int) (f:Ses→Ses):netM n (upd n X a b f)=netM n X:=by
 funext c
 unfold netM upd
 cases idx n a b with
 | none=>rfl
 | some i =>
  simp only
  cases hx:X[i]? with
  | none=>rfl
  | some x =>
   simp only
   congr 1
   funext j
   rw[List.getElem?_set]
   split
   ·rename_i hij
    subst hij
    obtain⟨h1,h2⟩:=List.getElem?_eq_some_iff.1 hx
    simp[h1,h2]
   ·rfl
theorem of_cases (n:Nat) (X:XS) (a b:Int):(ofV n X a b=.pointer none∧at' n X a b=none∧∀f,upd n X a b f=X)∨∃X1 v s X2,X=X1++(v,s)::X2∧ofV n X a b=v∧at' n X a b=some s∧∀f,upd n X a b f=X1++(v,f s)::X2:=by
 unfold ofV netM at' upd
 cases idx n a b with
 | none=>exact .inl ⟨rfl,rfl,λf=>rfl⟩
 | some i =>
  simp only[Option.bind_some]
  cases hx:X[i]? with
  | none=>exact .inl ⟨rfl,rfl,λf=>rfl⟩
  | some x =>
   obtain⟨h1,h2⟩:=List.getElem?_eq_some_iff.1 hx
   refine .inr ⟨X.take i,x.1,x.2,X.drop (i+1),?_,rfl,rfl,λf=>?_⟩
   ·rw[←h2,List.getElem_cons_drop,List.take_append_drop]
   ·simp only
    rw[List.set_eq_take_append_cons_drop,if_pos h1]
end N
abbrev SES (x:Ses) (t:Value×Value):Obs:=[(1001,.box 156 [.bx 1002 0 0,.bx 1003 0 0,.d (.v t.2)]),(1002,.box 233 [.d (iv x.sn),.d (.v t.1)]),(1003,.box 235 [.d (iv x.rn)]),(1004,rowK t.1 x.op),(1005,rowK t.2 x.way)]
theorem SES_in (s:Ses) (t:Value×Value):(∃T cs,(1001,AO.box T cs)∈SES s t)∧(∀p∈SES s t,1001≤p.1∧p.1≤1008)∧ObsIn [1001,1002,1003,1004,1005,1006,1007,1008] (SES s t) :=
 ⟨⟨_,_,List.mem_cons_self ..⟩,λp hp=>by
  simp only[SES,List.mem_cons,List.not_mem_nil,or_false]at hp
  rcases hp with rfl|rfl|rfl|rfl|rfl<;>exact⟨Nat.le_of_ble_eq_true rfl,Nat.le_of_ble_eq_true rfl⟩,rfl,rfl,rfl,λ_ _ _ _ _ h=>h,λ_ _ _ _ _ h=>h,trivial⟩
abbrev mapP (n b cnt:Nat) (X:N.XS):AO:=.op (mapO H.skv H.skok (λv:Value=>AV.v v) b cnt (N.netM n X))
abbrev NT (n b cnt:Nat) (F:Nat→Prop) (X:N.XS):Obs:=[(1001,.box 149 [.ow 1002 0]),(1002,mapP n b cnt X),(1003,.op (starP SES F X))]
theorem NT_in (n b cnt:Nat) (F:Nat→Prop) (X:N.XS):ObsIn [1001,1002,1003] (NT n b cnt F X):=⟨rfl,λ_ _ _ _ _ h=>h,λ_ _ _ _ _ h=>h,trivial⟩
def Places (X:N.XS):Prop:=∀x∈X,∃a,x.1=.pointer (some a)
theorem ntOf_g (n b cnt:Nat) (F:Nat→Prop) (X:N.XS) (x y:Int):GCall Tryz.prog 104 [.bx 1001 0 0,.d (iv x),.d (iv y)] (NT n b cnt F X) (some (NT n b cnt F X,.d (.v (N.ofV n X x y)))):=by
 refine GC_L Tryz.func104 Tryz.ntmps104 (ReadsS.r1 Tryz.results104) λhok hokB M0 w0 hl=>?_
 have hx:=hok _ (List.mem_cons_of_mem _ (List.mem_cons_self ..))
 have hy:=hok _ (List.mem_cons_of_mem _ (List.mem_cons_of_mem _ (List.mem_cons_self ..)))
 have hks:H.skok (x,y):=⟨hx.int,hy.int⟩
 refine Aw_sr ?_
 refine Al_mr ?_
 refine Al_nil (Aw_seq (Aw_sr ?_))
 refine Al_ml ?_
 refine Al_p (Pu_eqnilb Tryz.underlying83 rfl rfl) ?_
 refine Al_nil ?_
 refine Aw_condF rfl (rfl) ?_
 refine Aw_skip (Aw_sr ?_)
 refine Al_ml ?_
 refine Al_p Pu_nb ?_
 refine Al_p (Pu_fb 0 Tryz.underlying149 Tryz.sizeOf147) ?_
 refine Al_p (Pu_lb Tryz.isAgg147) ?_
 refine Al_ml ?_
 refine Al_ml ?_
 refine Al_p (Pu_buildArr (aa:=[(0,_),(1,_)]) rfl Tryz.underlying157 Tryz.zeroValue157 Tryz.sizeOf3 (by kernel_rfl) ⟨rfl,rfl,rfl,rfl,rfl,rfl,trivial⟩ rfl) ?_
 refine Al_p (Pu_to (s':=.d (.v (N.ofV n X x y))) (Pu_lookup (k:=1002) (c:=((x,y):H.SK)) (z:=.v (.pointer none)) pair_key rfl Tryz.underlying147 Tryz.zeroValue150 (λM w=>.v _ trivial) rfl rfl rfl (Only.row [.int .i64 x,.int .i64 y]) hks) (by unfold N.ofV;cases N.netM n X (x,y)<;>rfl)) ?_
 refine Al_mr ?_
 refine Al_nil ?_
 exact Aw_ret (⟨_,_,[],rfl,Sub.rfl,⟨rfl,rfl,rfl,trivial⟩,rfl⟩)
theorem Places.of {n:Nat}{X:N.XS}(h:Places X) (x y:Int):∃ad,N.ofV n X x y=.pointer ad:=by
 rcases N.of_cases n X x y with⟨h1,_⟩|⟨X1,v,s,X2,rfl,h1,_⟩
 ·exact⟨none,h1⟩
 ·obtain⟨a,ha⟩:=h (v,s) (by simp)
  exact⟨some a,by rw[h1];exact ha⟩
theorem Places.none {n:Nat}{X:N.XS}(hX:Places X) {x y:Int}(hnn:N.ofV n X x y=.pointer none):N.ofV n X x y=.pointer none∧N.at' n X x y=none∧∀f,N.upd n X x y f=X:=by
 rcases N.of_cases n X x y with h|⟨X1,v,s,X2,rfl,h1,_⟩
 ·exact h
 ·obtain⟨a,ha⟩:=hX (v,s) (by simp)
  rw[h1]at hnn;rw[show v=_ from ha]at hnn;cases hnn
def isNilP:Value→Bool
 | .pointer none=>true
 | _=>false
theorem N.of_some {n:Nat}{X:N.XS}{x y:Int}(h:isNilP (N.ofV n X x y)=false):∃X1 v s X2,X=X1++(v,s)::X2∧N.ofV n X x y=v∧N.at' n X x y=some s∧∀f,N.upd n X x y f=X1++(v,f s)::X2:=by
 rcases N.of_cases n X x y with⟨h1,_⟩|h1
 ·rw[h1]at h;cases h
 ·exact h1
namespace N
structure Fit (m:Nat) (s:Ses):Prop where
 op:s.op.length≤8
 way:s.way.length≤m
 sn:0≤s.sn∧s.sn≤m
 rn:0≤s.rn∧s.rn≤m
def ask {α:Type}(n:Nat) (X:XS) (a b:Int) (z:α) (f:Ses→α):α:=match at' n X a b with
 | some s=>f s
 | none=>z
end N
theorem mapP_upd {n b cnt:Nat}{X:N.XS}{x y:Int}{f:Ses→Ses}:mapP n b cnt (N.upd n X x y f)=mapP n b cnt X:=by
 show AO.op (mapO _ _ _ _ _ (N.netM n (N.upd n X x y f)))=_
 rw[N.upd_m]
theorem ntSend_g (n b cnt:Nat) (F:Nat→Prop) (X:N.XS) (x y:Int) (d:ByteArray) (hX:Places X) (hs:∀p∈X,N.Fit 1000 p.2):GCallE Tryz.prog 232 [.bx 1001 0 0,.d (iv x),.d (iv y),.d (tv d)] (NT n b cnt F X) (λF':Nat→Prop=>some (NT n b cnt F' (N.upd n X x y λs=>N.send s d),.d (iv (N.ask n X x y 1 λs=>L.sendE s.op)))):=by
 refine GC_EL Tryz.func232 Tryz.ntmps232 (ReadsS.r1 Tryz.results232) λhok hokB M0 w0 hl=>?_
 obtain⟨ad,had⟩:=hX.of (n:=n) x y
 refine Aw_sr ?_
 refine Al_mr ?_
 refine Al_ns ?_
 refine Al_ml ?_
 refine Al_ml ?_
 refine Al_ml ?_
 refine Al_p (Pu_gcall [(1001,1001,0),(1002,1002,0),(1003,1003,0)] (ntOf_g n b cnt F X x y) (NT_in ..) rfl ⟨rfl,rfl,rfl,trivial⟩ rfl ⟨Sub.rfl,Sub.rfl,Sub.rfl,trivial⟩) ?_
 refine Al_mr ?_
 refine Al_nil (Aw_seq (Aw_sr ?_))
 refine Al_ml ?_
 refine Al_p (Pu_eqnilV had Tryz.underlying150 rfl rfl) ?_
 refine Al_nil ?_
 refine Aw_cond rfl (λh17=>?_) (λh17=>?_)
 ·(try simp only[A.cd_]at h17)
  have hnn:N.ofV n X x y=.pointer none:=by rw[had];cases ad with
   | none=>rfl
   | some a=>simp at h17
  obtain⟨h1,h2,h3⟩:=hX.none hnn
  have e1:N.ask n X x y (1:Int) (λs=>L.sendE s.op)=1:=by unfold N.ask;rw[h2]
  refine Aw_sr ?_
  refine Al_mr ?_
  refine Al_nil ?_
  exact Aw_ret (⟨F,_,_,[],rfl,Sub.num e1.symm,⟨rfl,by rw[h3];rfl,by rw[h3];rfl,trivial⟩,rfl⟩)
 ·(try simp only[A.cd_]at h17)
  obtain⟨X1,v,s,X2,rfl,h1,h2,h3⟩:=N.of_some (by rw[had];cases ad with
   | none=>simp at h17
   | some a=>rfl)
  obtain⟨s1,s2,s3,s4⟩:N.Fit 1000 s:=hs (v,s) (by simp)
  refine Aw_ghost [(1000,1003,0)] [(1009,1019),(1001,1011),(1002,1012),(1003,1013),(1004,1014),(1005,1015)] 9 (gh_pull (SES_in s)) (by rw[h1];exact Sub.rfl) ⟨rfl,trivial⟩ (λ_=>rfl) rfl rfl (λz G=>?_)
  obtain⟨t,F1⟩:=z
  refine Aw_skip (Aw_sr ?_)
  refine Al_ml ?_
  refine Al_p Pu_nb ?_
  refine Al_p (Pu_fb 0 Tryz.underlying156 Tryz.sizeOf151) ?_
  refine Al_p (Pu_lb Tryz.isAgg151) ?_
  refine Al_ml ?_
  refine Al_gcallE [(1001,1012,G),(1002,1014,G)] [] (lkSend_g s.sn t.1 s.op d (by omega) (by omega)) rfl rfl rfl (by decide) (by kernel_rfl) ⟨rfl,rfl,trivial⟩ (λ_=>rfl) rfl rfl ⟨Sub.rfl,Sub.rfl,trivial⟩ ?_
  rintro v1 g24
  refine Al_ml ?_
  refine Al_p Pu_ex ?_
  refine Al_p Pu_ex ?_
  refine Al_al Tryz.zeroValue170 λg10=>?_
  refine Al_sN Tryz.isAgg170 Tryz.sizeOf170 ?_
  refine Al_mr ?_
  refine Al_nil ?_
  refine Aw_seq (Aw_sr ?_)
  refine Al_ml ?_
  refine Al_p Pu_cp ?_
  refine Al_nil ?_
  refine Aw_cond rfl (λh28=>?_) (λh28=>?_)
  ·(try simp only[A.cd_]at h28)
   have h8:¬8≤s.op.length:=λh=>by
    rw[show L.sendE s.op=15 from if_pos h]at h28
    cases h28
   have e1:N.ask n (X1++(v,s)::X2) x y (1:Int) (λs=>L.sendE s.op)=L.sendE s.op:=by unfold N.ask;rw[h2]
   have e2:N.send s d=⟨L.sendS s.sn s.op,L.sendO s.sn s.op d,s.rn,s.way++[L.sendP s.sn s.op d]⟩:=by unfold N.send;rw[if_neg h8]
   refine Aw_drawn (by kernel_rfl) ?_
   refine Ad_t 0 rfl (PuI_move (.inl rfl) (by conv=>lhs;whnf)) ?_
   refine Ad_drawP 1 7 4 (by kernel_rfl) (by decide) rfl (by rfl) (by rfl) ?_
   refine Dr_ml ?_
   refine Dr_p Pu_nb ?_
   refine Dr_p (Pu_fb 2 Tryz.underlying156 Tryz.sizeOf103) ?_
   refine Dr_p (Pu_lb Tryz.isAgg103) ?_
   refine Dr_p (Pu_lbN (r:=[_,_]) Tryz.isAgg170 Tryz.sizeOf170) ?_
   refine Dr_p (Pu_slice1 rfl Tryz.underlying103 Tryz.sizeOf170 Tryz.zeroValue170 rfl (by decide) (by decide) (by kernel_rfl) rfl rfl rfl) ?_
   refine Dr_nil ?_
   refine Ad_o 7 ?_
   refine Al_appendX (k:=1015) rfl rfl rfl (by decide) (by kernel_rfl) pk_elem (by decide) Tryz.sizeOf170 rfl rfl rfl (by simp;omega) (by decide) (λv2=>?_)
   refine Al_nil ?_
   refine Ad_t 8 rfl PuI_nb ?_
   refine Ad_t 9 rfl (PuI_fb 2 Tryz.underlying156 Tryz.sizeOf103) ?_
   refine Ad_o 10 ?_
   refine Al_s1 Tryz.isAgg103 Tryz.sizeOf103 ?_
   refine Al_nil ?_
   refine Ad_d ?_
   refine Aw_sr ?_
   refine Al_ml ?_
   refine Al_mr ?_
   refine Al_nil ?_
   refine Aw_ghost [(1000,1003,0),(1009,1019,G),(1001,1011,G),(1002,1012,G),(1003,1013,G),(1004,1014,G),(1005,1015,G)] [] 9 (gh_put (E:=SES) (s':=N.send s d) (t:=(v1,v2)) (λp hp=>(SES_in _ _).2.1 p hp)) (λ_ _ _ _ _=>trivial) ⟨rfl,rfl,rfl,by rw[e2];rfl,by rw[e2];rfl,by rw[e2];rfl,by rw[e2];exact obeqX (by simp[A.cellsA,Pk.row]),trivial⟩ (λ_=>rfl) rfl rfl (λF' G'=>?_)
   exact Aw_ret (⟨F',_,_,[],rfl,Sub.num e1.symm,⟨rfl,by rw[mapP_upd];rfl,by rw[h3];rfl,trivial⟩,rfl⟩)
  ·(try simp only[A.cd_]at h28)
   have h8:8≤s.op.length:=by
    rcases Nat.lt_or_ge s.op.length 8 with h|h
    ·rw[show L.sendE s.op=0 from if_neg (by omega)]at h28
     exact absurd rfl h28
    ·exact h
   have e1:N.ask n (X1++(v,s)::X2) x y (1:Int) (λs=>L.sendE s.op)=L.sendE s.op:=by unfold N.ask;rw[h2]
   have e2:N.send s d=⟨L.sendS s.sn s.op,L.sendO s.sn s.op d,s.rn,s.way⟩:=by unfold N.send;rw[if_pos h8]
   refine Aw_skip (Aw_sr ?_)
   refine Al_ml ?_
   refine Al_mr ?_
   refine Al_nil ?_
   refine Aw_ghost [(1000,1003,0),(1009,1019,G),(1001,1011,G),(1002,1012,G),(1003,1013,G),(1004,1014,G),(1005,1015,G)] [] 9 (gh_put (E:=SES) (s':=N.send s d) (t:=(v1,t.2)) (λp hp=>(SES_in _ _).2.1 p hp)) (λ_ _ _ _ _=>trivial) ⟨rfl,rfl,rfl,by rw[e2];rfl,by rw[e2];rfl,by rw[e2];rfl,by rw[e2];rfl,trivial⟩ (λ_=>rfl) rfl rfl (λF' G'=>?_)
   exact Aw_ret (⟨F',_,_,[],rfl,Sub.num e1.symm,⟨rfl,by rw[mapP_upd];rfl,by rw[h3];rfl,trivial⟩,rfl⟩)
theorem ntFly_g (n b cnt:Nat) (F:Nat→Prop) (X:N.XS) (x y:Int) (hX:Places X) (hs:∀p∈X,N.Fit 1000 p.2):GCall Tryz.prog 47 [.bx 1001 0 0,.d (iv x),.d (iv y)] (NT n b cnt F X) (some (NT n b cnt F X,.d (.sl 2 (pkA (N.ask n X x y [] (·.way)))))):=by
 refine GC_L Tryz.func47 Tryz.ntmps47 (ReadsS.r1 Tryz.results47) λhok hokB M0 w0 hl=>?_
 obtain⟨ad,had⟩:=hX.of (n:=n) x y
 refine Aw_sr ?_
 refine Al_mr ?_
 refine Al_ns ?_
 refine Al_ml ?_
 refine Al_ml ?_
 refine Al_ml ?_
 refine Al_p (Pu_gcall [(1001,1001,0),(1002,1002,0),(1003,1003,0)] (ntOf_g n b cnt F X x y) (NT_in ..) rfl ⟨rfl,rfl,rfl,trivial⟩ rfl ⟨Sub.rfl,Sub.rfl,Sub.rfl,trivial⟩) ?_
 refine Al_mr ?_
 refine Al_nil (Aw_seq (Aw_sr ?_))
 refine Al_ml ?_
 refine Al_p (Pu_eqnilV had Tryz.underlying150 rfl rfl) ?_
 refine Al_nil ?_
 refine Aw_cond rfl (λh13=>?_) (λh13=>?_)
 ·(try simp only[A.cd_]at h13)
  have hnn:N.ofV n X x y=.pointer none:=by rw[had];cases ad with
   | none=>rfl
   | some a=>simp at h13
  obtain⟨h1,h2,h3⟩:=hX.none hnn
  have e1:N.ask n X x y [] (·.way)=[]:=by unfold N.ask;rw[h2]
  refine Aw_sr ?_
  refine Al_mr ?_
  refine Al_nil ?_
  exact Aw_ret (⟨_,_,[],rfl,by rw[e1];exact Sub.nil,⟨rfl,rfl,rfl,trivial⟩,rfl⟩)
 ·(try simp only[A.cd_]at h13)
  obtain⟨X1,v,s,X2,rfl,h1,h2,h3⟩:=N.of_some (by rw[had];cases ad with
   | none=>simp at h13
   | some a=>rfl)
  obtain⟨s1,s2,s3,s4⟩:N.Fit 1000 s:=hs (v,s) (by simp)
  have e1:N.ask n (X1++(v,s)::X2) x y [] (·.way)=s.way:=by unfold N.ask;rw[h2]
  refine Aw_ghost [(1000,1003,0)] [(1009,1019),(1010,1020),(1001,1011),(1002,1012),(1003,1013),(1004,1014),(1005,1015)] 7 (gh_pullS (SES_in s)) (by rw[h1];exact Sub.rfl) ⟨rfl,trivial⟩ (λ_=>rfl) rfl rfl (λz G=>?_)
  obtain⟨t,F1⟩:=z
  refine Aw_skip (Aw_sr ?_)
  refine Al_ml ?_
  refine Al_p Pu_nb ?_
  refine Al_p (Pu_fb 2 Tryz.underlying156 Tryz.sizeOf103) ?_
  refine Al_p (Pu_lb Tryz.isAgg103) ?_
  refine Al_p (Pu_gcall [(1001,1015,G)] (clonePk_g t.2 s.way (by omega)) (rowK_in ..) rfl ⟨rfl,trivial⟩ rfl ⟨Sub.rfl,trivial⟩) ?_
  refine Al_mr ?_
  refine Al_nil ?_
  refine Aw_ghost [(1000,1003,0),(1009,1019,G),(1010,1020,G),(1001,1011,G),(1002,1012,G),(1003,1013,G),(1004,1014,G),(1005,1015,G)] [] 7 (gh_putS (E:=SES) (F:=F) (F1:=F1) (s:=s) (t:=t) (λp hp=>(SES_in _ _).2.1 p hp)) (λ_ _ _ _ _=>trivial) ⟨rfl,rfl,rfl,rfl,rfl,rfl,rfl,rfl,trivial⟩ (λ_=>rfl) rfl rfl (λ_ G'=>?_)
  exact Aw_ret (⟨_,_,[],rfl,by rw[e1];exact Sub.rfl,⟨rfl,rfl,rfl,trivial⟩,rfl⟩)
theorem ntOpen_g (n b cnt:Nat) (F:Nat→Prop) (X:N.XS) (x y:Int) (hX:Places X) (hs:∀p∈X,N.Fit 1000 p.2):GCall Tryz.prog 77 [.bx 1001 0 0,.d (iv x),.d (iv y)] (NT n b cnt F X) (some (NT n b cnt F X,.d (iv ((N.ask n X x y 0 (·.op.length):Nat):Int)))):=by
 refine GC_L Tryz.func77 Tryz.ntmps77 (ReadsS.r1 Tryz.results77) λhok hokB M0 w0 hl=>?_
 obtain⟨ad,had⟩:=hX.of (n:=n) x y
 refine Aw_sr ?_
 refine Al_mr ?_
 refine Al_ns ?_
 refine Al_ml ?_
 refine Al_ml ?_
 refine Al_ml ?_
 refine Al_p (Pu_gcall [(1001,1001,0),(1002,1002,0),(1003,1003,0)] (ntOf_g n b cnt F X x y) (NT_in ..) rfl ⟨rfl,rfl,rfl,trivial⟩ rfl ⟨Sub.rfl,Sub.rfl,Sub.rfl,trivial⟩) ?_
 refine Al_mr ?_
 refine Al_nil (Aw_seq (Aw_sr ?_))
 refine Al_ml ?_
 refine Al_p (Pu_eqnilV had Tryz.underlying150 rfl rfl) ?_
 refine Al_nil ?_
 refine Aw_cond rfl (λh13=>?_) (λh13=>?_)
 ·(try simp only[A.cd_]at h13)
  have hnn:N.ofV n X x y=.pointer none:=by rw[had];cases ad with
   | none=>rfl
   | some a=>simp at h13
  obtain⟨h1,h2,h3⟩:=hX.none hnn
  have e1:N.ask n X x y 0 (·.op.length)=0:=by unfold N.ask;rw[h2]
  refine Aw_sr ?_
  refine Al_mr ?_
  refine Al_nil ?_
  exact Aw_ret (⟨_,_,[],rfl,Sub.num (by rw[e1];rfl),⟨rfl,rfl,rfl,trivial⟩,rfl⟩)
 ·(try simp only[A.cd_]at h13)
  obtain⟨X1,v,s,X2,rfl,h1,h2,h3⟩:=N.of_some (by rw[had];cases ad with
   | none=>simp at h13
   | some a=>rfl)
  obtain⟨s1,s2,s3,s4⟩:N.Fit 1000 s:=hs (v,s) (by simp)
  have e1:N.ask n (X1++(v,s)::X2) x y 0 (·.op.length)=s.op.length:=by unfold N.ask;rw[h2]
  refine Aw_ghost [(1000,1003,0)] [(1009,1019),(1010,1020),(1001,1011),(1002,1012),(1003,1013),(1004,1014),(1005,1015)] 7 (gh_pullS (SES_in s)) (by rw[h1];exact Sub.rfl) ⟨rfl,trivial⟩ (λ_=>rfl) rfl rfl (λz G=>?_)
  obtain⟨t,F1⟩:=z
  refine Aw_skip (Aw_sr ?_)
  refine Al_ml ?_
  refine Al_p Pu_nb ?_
  refine Al_p (Pu_fb 0 Tryz.underlying156 Tryz.sizeOf151) ?_
  refine Al_p (Pu_lb Tryz.isAgg151) ?_
  refine Al_p (Pu_gcall [(1001,1012,G),(1002,1014,G)] (lkOpen_g s.sn t.1 s.op (by omega)) (SN_in ..) rfl ⟨rfl,rfl,trivial⟩ rfl ⟨Sub.rfl,trivial⟩) ?_
  refine Al_p (Pu_ln Tryz.underlying103) ?_
  refine Al_mr ?_
  refine Al_nil ?_
  refine Aw_ghost [(1000,1003,0),(1009,1019,G),(1010,1020,G),(1001,1011,G),(1002,1012,G),(1003,1013,G),(1004,1014,G),(1005,1015,G)] [] 7 (gh_putS (E:=SES) (F:=F) (F1:=F1) (s:=s) (t:=t) (λp hp=>(SES_in _ _).2.1 p hp)) (λ_ _ _ _ _=>trivial) ⟨rfl,rfl,rfl,rfl,rfl,rfl,rfl,rfl,trivial⟩ (λ_=>rfl) rfl rfl (λ_ G'=>?_)
  exact Aw_ret (⟨_,_,[],rfl,Sub.num (by rw[e1]),⟨rfl,rfl,rfl,trivial⟩,rfl⟩)
end Go.Proofs.YtdnijgdmohinlaaGreat
end
section
set_option maxRecDepth 100000
namespace Go.Proofs.YtdnijgdmohinlaaGreat
open Go Go.RowKit A R
theorem A.tup2 {M:Nat→Prop}{w:World}{ρ:Rho}{a b:AV}{v:Value}(h:SRep M w ρ (.tp [.d a,.d b]) v):SRep M w ρ (.d (.tup [a,b])) v:=by
 obtain⟨vs,rfl,hl,hr⟩:=h
 refine .tup _ _ hl λj c x h1 h2=>?_
 match j,h1 with
 | 0,h1=>simp at h1;subst h1;exact hr 0 (.d a) x rfl h2
 | 1,h1=>simp at h1;subst h1;exact hr 1 (.d b) x rfl h2
 | j+2,h1=>simp at h1
theorem A.GCall.tup {P:Program}{f:FuncId}{ins:List SV}{obs obs':Obs}{a b:AV}(h:GCall P f ins obs (some (obs',.tp [.d a,.d b]))):GCall P f ins obs (some (obs',.d (.tup [a,b]))):=⟨h.1,λM w ρ vs h1 h2 h3 h4 h5 h6=>(h.2 M w ρ vs h1 h2 h3 h4 h5 h6).mono λe w' ⟨h7,v,h8,ρ',k1,k2,k3,k4,k5⟩=>⟨h7,v,h8,ρ',k1,k2,k3,k4,A.tup2 k5⟩⟩
namespace N
def would (s:Ses) (k:Int):Bool:=decide (0≤k)&&(decide (k<s.way.length)&&decide ((s.way.getD k.toNat default).seq=s.rn))
def wouldD (s:Ses) (k:Int):ByteArray:=if would s k then(s.way.getD k.toNat default).d else⟨#[]⟩
def inW (s:Ses) (k:Int):Bool:=decide (0≤k)&&decide (k<s.way.length)
def answer (s:Ses) (seq:Int):Ses:={s with op:=s.op.drop (L.ansN s.sn s.op seq)}
def out (s:Ses) (k:Int):Ses:={s with way:=s.way.take k.toNat++s.way.drop (k.toNat+1)}
def took (s:Ses) (p:Pk):Ses:=if p.seq=s.rn then answer {s with rn:=s.rn+1} (s.rn+1)else s
def hw3 (a:Int):Int:=IntKind.i64.wrap (BitVec.ofInt IntKind.i64.bits a&&&BitVec.ofInt IntKind.i64.bits 3).toNat
def pick (s:Ses) (k how:Int):Ses :=
 if inW s k=false then s
 else if hw3 how=2 then(if s.way.length<32 then{s with way:=s.way++[s.way.getD k.toNat default]}else s)
 else if hw3 how=1 then out s k
 else took (out s k) (s.way.getD k.toNat default)
def pickB (s:Ses) (k how:Int):Bool:=inW s k&&(decide (hw3 how≠2)&&(decide (hw3 how≠1)&&decide ((s.way.getD k.toNat default).seq=s.rn)))
def pickD (s:Ses) (k how:Int):ByteArray:=if pickB s k how then(s.way.getD k.toNat default).d else⟨#[]⟩
end N
theorem N.at_some {n:Nat}{X:N.XS}{x y:Int}{s:Ses}(h:N.at' n X x y=some s):∃X1 v X2,X=X1++(v,s)::X2∧N.ofV n X x y=v∧∀f,N.upd n X x y f=X1++(v,f s)::X2:=by
 rcases N.of_cases n X x y with⟨_,h1,_⟩|⟨X1,v,s',X2,h1,h2,h3,h4⟩
 ·rw[h1]at h;cases h
 ·rw[h3]at h;cases h;exact⟨X1,v,X2,h1,h2,h4⟩
theorem N.inW_iff {s:Ses}{k:Int}(h:N.inW s k=true):0≤k∧k<s.way.length∧k.toNat<s.way.length∧k=(k.toNat:Int):=by
 unfold N.inW at h
 simp only[Bool.and_eq_true,decide_eq_true_eq]at h
 omega
theorem ntTakes_g (n b cnt:Nat) (F:Nat→Prop) (X:N.XS) (x y k:Int) (s:Ses) (hat:N.at' n X x y=some s) (hk:N.inW s k=true) (hs:∀p∈X,N.Fit 1000 p.2):GCall Tryz.prog 167 [.bx 1001 0 0,.d (iv x),.d (iv y),.d (iv k)] (NT n b cnt F X) (some (NT n b cnt F X,.tp [.d (tv (N.wouldD s k)),.d (bv (N.would s k))])):=by
 refine GC_L Tryz.func167 Tryz.ntmps167 (ReadsS.r2 Tryz.results167) λhok hokB M0 w0 hl=>?_
 obtain⟨X1,v,X2,rfl,h1,h3⟩:=N.at_some hat
 obtain⟨s1,s2,s3,s4⟩:N.Fit 1000 s:=hs (v,s) (by simp)
 obtain⟨k1,k2,k3,k4⟩:=N.inW_iff hk
 refine Aw_sr ?_
 refine Al_mr ?_
 refine Al_mr ?_
 refine Al_ns ?_
 refine Al_ml ?_
 refine Al_ml ?_
 refine Al_ml ?_
 refine Al_p (Pu_gcall [(1001,1001,0),(1002,1002,0),(1003,1003,0)] (ntOf_g n b cnt F (X1++(v,s)::X2) x y) (NT_in ..) rfl ⟨rfl,rfl,rfl,trivial⟩ rfl ⟨Sub.rfl,Sub.rfl,Sub.rfl,trivial⟩) ?_
 refine Al_mr ?_
 refine Al_nil (Aw_seq (Aw_seq ?_))
 refine Aw_ghost [(1000,1003,0)] [(1009,1019),(1010,1020),(1001,1011),(1002,1012),(1003,1013),(1004,1014),(1005,1015)] 10 (gh_pullS (SES_in s)) (by rw[h1];exact Sub.rfl) ⟨rfl,trivial⟩ (λ_=>rfl) rfl rfl (λz G=>?_)
 obtain⟨t,F1⟩:=z
 refine Aw_dr 31 ?_
 refine Dr_ml ?_
 refine Dr_p (Pu_eqnilb Tryz.underlying150 rfl rfl) ?_
 refine Dr_ml ?_
 refine Dr_s (St_g [] trivial (λ_=>Pu_mvl)) ?_
 refine Dr_s (St_g [18] ⟨⟨_,rfl⟩,trivial⟩ (λ_=>Pu_cp)) ?_
 refine Dr_p Pu_o ?_
 refine Dr_ml ?_
 refine Dr_s (St_g [] trivial (λ_=>Pu_mvl)) ?_
 refine Dr_s (St_g [] trivial (λ_=>Pu_mvl)) ?_
 refine Dr_s (St_g [23] ⟨⟨_,rfl⟩,trivial⟩ (λ_=>Pu_nb)) ?_
 refine Dr_s (St_g [24] ⟨⟨_,rfl⟩,trivial⟩ (λ_=>Pu_fb 2 Tryz.underlying156 Tryz.sizeOf103)) ?_
 refine Dr_s (St_g [25] ⟨⟨_,rfl⟩,trivial⟩ (λ_=>Pu_lb Tryz.isAgg103)) ?_
 refine Dr_s (St_gd [26] rfl rfl rfl rfl ⟨⟨_,rfl⟩,trivial⟩ (λhg27=>by exact Pu_lenX (k:=1015) rfl Tryz.underlying103 rfl rfl (by rw[List.length_map];simp only[A.maxI];omega))) ?_
 refine Dr_s (St_g [22,27] ⟨⟨_,rfl⟩,⟨_,rfl⟩,trivial⟩ (λ_=>Pu_cp)) ?_
 refine Dr_p Pu_o ?_
 refine Dr_ml ?_
 refine Dr_s (St_g [] trivial (λ_=>Pu_mvl)) ?_
 refine Dr_s (St_g [31] ⟨⟨_,rfl⟩,trivial⟩ (λ_=>Pu_nb)) ?_
 refine Dr_s (St_g [32] ⟨⟨_,rfl⟩,trivial⟩ (λ_=>Pu_fb 2 Tryz.underlying156 Tryz.sizeOf103)) ?_
 refine Dr_s (St_g [33] ⟨⟨_,rfl⟩,trivial⟩ (λ_=>Pu_lb Tryz.isAgg103)) ?_
 refine Dr_s (St_g [] trivial (λ_=>Pu_mvl)) ?_
 refine Dr_s (St_gd [34,35] rfl rfl rfl rfl ⟨⟨_,rfl⟩,⟨_,rfl⟩,trivial⟩ (λhg36=>by exact Pu_indexX (j:=k.toNat) (k:=1015) rfl Tryz.underlying103 Tryz.sizeOf170 rfl rfl rfl k4 (by rw[List.length_map];exact k3))) ?_
 refine Dr_s (St_g [36] ⟨⟨_,rfl⟩,trivial⟩ (λ_=>Pu_fieldX (k:=1015) 0 rfl Tryz.underlying170 rfl rfl Tryz.sizeOf3 rfl rfl (pk_ne k3))) ?_
 refine Dr_s (St_g [37] ⟨⟨_,rfl⟩,trivial⟩ (λ_=>Pu_loadX1 (k:=1015) rfl Tryz.isAgg3 rfl rfl (pk_at k3).1)) ?_
 refine Dr_s (St_g [] trivial (λ_=>Pu_mvl)) ?_
 refine Dr_s (St_g [39] ⟨⟨_,rfl⟩,trivial⟩ (λ_=>Pu_nb)) ?_
 refine Dr_s (St_g [40] ⟨⟨_,rfl⟩,trivial⟩ (λ_=>Pu_fb 1 Tryz.underlying156 Tryz.sizeOf153)) ?_
 refine Dr_s (St_g [41] ⟨⟨_,rfl⟩,trivial⟩ (λ_=>Pu_lb Tryz.isAgg153)) ?_
 refine Dr_s (St_g [42] ⟨⟨_,rfl⟩,trivial⟩ (λ_=>Pu_gcall [(1001,1013,G)] (lkWaits_g s.rn) (RC_in ..) rfl ⟨rfl,trivial⟩ rfl ⟨Sub.rfl,trivial⟩)) ?_
 refine Dr_s (St_g [38,43] ⟨⟨_,rfl⟩,⟨_,rfl⟩,trivial⟩ (λ_=>Pu_cp)) ?_
 refine Dr_p Pu_o ?_
 refine Dr_nil (Al_nil ?_)
 refine Aw_cond rfl (λh45=>?_) (λh45=>?_)
 ·skip
  have hw:N.would s k=false:=by
   have h0:(decide (k<0)||decide (k≥(pkA s.way).length)||!decide ((s.way.getD k.toNat default).seq=s.rn))=true:=h45
   rw[List.length_map]at h0
   unfold N.would
   simp only[Bool.or_eq_true,decide_eq_true_eq,Bool.not_eq_true',decide_eq_false_iff_not]at h0
   simp only[k1,k2,decide_true,Bool.true_and,decide_eq_false_iff_not]
   rcases h0 with(h0|h0)|h0
   ·omega
   ·omega
   ·exact h0
  have e1:N.wouldD s k=⟨#[]⟩:=by unfold N.wouldD;rw[hw];rfl
  refine Aw_sr ?_
  refine Al_mr ?_
  refine Al_mr ?_
  refine Al_nil ?_
  refine Aw_ghost [(1000,1003,0),(1009,1019,G),(1010,1020,G),(1001,1011,G),(1002,1012,G),(1003,1013,G),(1004,1014,G),(1005,1015,G)] [] 10 (gh_putS (E:=SES) (F:=F) (F1:=F1) (s:=s) (t:=t) (λp hp=>(SES_in _ _).2.1 p hp)) (λ_ _ _ _ _=>trivial) ⟨rfl,rfl,rfl,rfl,rfl,rfl,rfl,rfl,trivial⟩ (λ_=>rfl) rfl rfl (λ_ G'=>?_)
  exact Aw_ret (⟨_,_,[],rfl,⟨_,_,rfl,Sub.d (by rw[e1]),Sub.bool hw.symm⟩,⟨rfl,rfl,rfl,trivial⟩,rfl⟩)
 ·skip
  have hw:N.would s k=true:=by
   have h0:(decide (k<0)||decide (k≥(pkA s.way).length)||!decide ((s.way.getD k.toNat default).seq=s.rn))=false:=h45
   unfold N.would
   simp only[Bool.or_eq_false_iff,Bool.not_eq_false',decide_eq_true_eq]at h0
   simp only[k1,k2,decide_true,Bool.true_and,decide_eq_true_eq]
   exact h0.2
  have e1:N.wouldD s k=(s.way.getD k.toNat default).d:=by unfold N.wouldD;rw[hw];rfl
  refine Aw_skip (Aw_sr ?_)
  refine Al_ml ?_
  refine Al_p Pu_nb ?_
  refine Al_p (Pu_fb 2 Tryz.underlying156 Tryz.sizeOf103) ?_
  refine Al_p (Pu_lb Tryz.isAgg103) ?_
  refine Al_ml ?_
  refine Al_p (Pu_indexX (j:=k.toNat) (k:=1015) rfl Tryz.underlying103 Tryz.sizeOf170 rfl rfl rfl k4 (by rw[List.length_map];exact k3)) ?_
  refine Al_p (Pu_fieldX (k:=1015) 1 rfl Tryz.underlying170 rfl rfl Tryz.sizeOf9 rfl rfl (pk_ne k3)) ?_
  refine Al_p (Pu_loadX1 (k:=1015) rfl Tryz.isAgg9 rfl rfl (pk_at k3).2.1) ?_
  refine Al_mr ?_
  refine Al_mr ?_
  refine Al_nil ?_
  refine Aw_ghost [(1000,1003,0),(1009,1019,G),(1010,1020,G),(1001,1011,G),(1002,1012,G),(1003,1013,G),(1004,1014,G),(1005,1015,G)] [] 10 (gh_putS (E:=SES) (F:=F) (F1:=F1) (s:=s) (t:=t) (λp hp=>(SES_in _ _).2.1 p hp)) (λ_ _ _ _ _=>trivial) ⟨rfl,rfl,rfl,rfl,rfl,rfl,rfl,rfl,trivial⟩ (λ_=>rfl) rfl rfl (λ_ G'=>?_)
  exact Aw_ret (⟨_,_,[],rfl,⟨_,_,rfl,Sub.d (by rw[e1]),Sub.bool hw.symm⟩,⟨rfl,rfl,rfl,trivial⟩,rfl⟩)
theorem ntPick_g (n b cnt:Nat) (F:Nat→Prop) (X:N.XS) (x y k how:Int) (s:Ses) (hat:N.at' n X x y=some s) (hk:N.inW s k=true) (hs:∀p∈X,N.Fit 1000 p.2):GCallE Tryz.prog 168 [.bx 1001 0 0,.d (iv x),.d (iv y),.d (iv k),.d (iv how)] (NT n b cnt F X) (λF':Nat→Prop=>some (NT n b cnt F' (N.upd n X x y λs=>N.pick s k how),.tp [.d (tv (N.pickD s k how)),.d (bv (N.pickB s k how))])):=by
 refine GC_EL Tryz.func168 Tryz.ntmps168 (ReadsS.r2 Tryz.results168) λhok hokB M0 w0 hl=>?_
 obtain⟨X1,v,X2,rfl,h1,h3⟩:=N.at_some hat
 obtain⟨s1,s2,s3,s4⟩:N.Fit 1000 s:=hs (v,s) (by simp)
 obtain⟨k1,k2,k3,k4⟩:=N.inW_iff hk
 have hnk:¬N.inW s k=false:=by rw[hk];exact Bool.noConfusion
 refine Aw_sr ?_
 refine Al_mr ?_
 refine Al_mr ?_
 refine Al_ns ?_
 refine Al_ml ?_
 refine Al_ml ?_
 refine Al_ml ?_
 refine Al_p (Pu_gcall [(1001,1001,0),(1002,1002,0),(1003,1003,0)] (ntOf_g n b cnt F (X1++(v,s)::X2) x y) (NT_in ..) rfl ⟨rfl,rfl,rfl,trivial⟩ rfl ⟨Sub.rfl,Sub.rfl,Sub.rfl,trivial⟩) ?_
 refine Al_mr ?_
 refine Al_nil (Aw_seq (Aw_seq ?_))
 refine Aw_ghost [(1000,1003,0)] [(1009,1019),(1001,1011),(1002,1012),(1003,1013),(1004,1014),(1005,1015)] 12 (gh_pull (SES_in s)) (by rw[h1];exact Sub.rfl) ⟨rfl,trivial⟩ (λ_=>rfl) rfl rfl (λz G=>?_)
 obtain⟨t,F1⟩:=z
 refine Aw_region ?_
 refine Al_ml ?_
 refine Al_p (Pu_eqnilb Tryz.underlying150 rfl rfl) ?_
 refine Al_ml ?_
 refine Al_s (St_g [] trivial (λ_=>Pu_mvl)) ?_
 refine Al_s (St_g [23] ⟨⟨_,rfl⟩,trivial⟩ (λ_=>Pu_cp)) ?_
 refine Al_p Pu_o ?_
 refine Al_ml ?_
 refine Al_s (St_g [] trivial (λ_=>Pu_mvl)) ?_
 refine Al_s (St_g [] trivial (λ_=>Pu_mvl)) ?_
 refine Al_s (St_g [28] ⟨⟨_,rfl⟩,trivial⟩ (λ_=>Pu_nb)) ?_
 refine Al_s (St_g [29] ⟨⟨_,rfl⟩,trivial⟩ (λ_=>Pu_fb 2 Tryz.underlying156 Tryz.sizeOf103)) ?_
 refine Al_s (St_g [30] ⟨⟨_,rfl⟩,trivial⟩ (λ_=>Pu_lb Tryz.isAgg103)) ?_
 refine Al_s (St_gd [31] rfl rfl rfl rfl ⟨⟨_,rfl⟩,trivial⟩ (λhg32=>by exact Pu_lenX (k:=1015) rfl Tryz.underlying103 rfl rfl (by rw[List.length_map];simp only[A.maxI];omega))) ?_
 refine Al_s (St_g [27,32] ⟨⟨_,rfl⟩,⟨_,rfl⟩,trivial⟩ (λ_=>Pu_cp)) ?_
 refine Al_p Pu_o ?_
 refine Al_nil ?_
 refine Aw_condF rfl ((by rw[List.length_map];simp;omega)) ?_
 refine Aw_skip (Aw_sr ?_)
 refine Al_ml ?_
 refine Al_p Pu_nb ?_
 refine Al_p (Pu_fb 2 Tryz.underlying156 Tryz.sizeOf103) ?_
 refine Al_p (Pu_lb Tryz.isAgg103) ?_
 refine Al_ml ?_
 refine Al_p (Pu_indexX (j:=k.toNat) (k:=1015) rfl Tryz.underlying103 Tryz.sizeOf170 rfl rfl rfl k4 (by rw[List.length_map];exact k3)) ?_
 refine Al_p (Pu_loadXN (k:=1015) rfl Tryz.isAgg170 Tryz.sizeOf170 rfl rfl (pk_at k3).2.2 rfl (by decide)) ?_
 refine Al_al Tryz.zeroValue170 λg13=>?_
 refine Al_sN Tryz.isAgg170 Tryz.sizeOf170 ?_
 refine Al_nil (Aw_seq (Aw_sr ?_))
 refine Al_ml ?_
 refine Al_p (Pu_int_and (r:=N.hw3 how) rfl rfl rfl rfl (λ_=>V.i64_ok _)) ?_
 refine Al_p Pu_cp ?_
 refine Al_nil ?_
 refine Aw_cond rfl (λh44=>?_) (λh44=>?_)
 ·(try simp only[A.cd_]at h44)
  have hw:N.hw3 how=2:=h44
  have eb:N.pickB s k how=false:=by unfold N.pickB;rw[hw];simp
  have ed:N.pickD s k how=⟨#[]⟩:=by unfold N.pickD;rw[eb];rfl
  refine Aw_seq (Aw_sr ?_)
  refine Al_ml ?_
  refine Al_p Pu_nb ?_
  refine Al_p (Pu_fb 2 Tryz.underlying156 Tryz.sizeOf103) ?_
  refine Al_p (Pu_lb Tryz.isAgg103) ?_
  refine Al_p (Pu_lenX (k:=1015) rfl Tryz.underlying103 rfl rfl (by rw[List.length_map];simp only[A.maxI];omega)) ?_
  refine Al_p Pu_cp ?_
  refine Al_nil ?_
  refine Aw_cond rfl (λh50=>?_) (λh50=>?_)
  ·(try simp only[A.cd_]at h50)
   have h32:s.way.length<32:=by omega
   have es:N.pick s k how={s with way:=s.way++[s.way.getD k.toNat default]}:=by unfold N.pick;rw[if_neg hnk,if_pos hw,if_pos h32]
   refine Aw_drawn (by kernel_rfl) ?_
   refine Ad_t 0 rfl (PuI_move (.inl rfl) (by conv=>lhs;whnf)) ?_
   refine Ad_drawP 1 7 4 (by kernel_rfl) (by decide) rfl (by rfl) (by rfl) ?_
   refine Dr_ml ?_
   refine Dr_p Pu_nb ?_
   refine Dr_p (Pu_fb 2 Tryz.underlying156 Tryz.sizeOf103) ?_
   refine Dr_p (Pu_lb Tryz.isAgg103) ?_
   refine Dr_p (Pu_lbN (r:=[_,_]) Tryz.isAgg170 Tryz.sizeOf170) ?_
   refine Dr_p (Pu_slice1 rfl Tryz.underlying103 Tryz.sizeOf170 Tryz.zeroValue170 rfl (by decide) (by decide) (by kernel_rfl) rfl rfl rfl) ?_
   refine Dr_nil ?_
   refine Ad_o 7 ?_
   refine Al_appendX (k:=1015) rfl rfl rfl (by decide) (by kernel_rfl) pk_elem (by decide) Tryz.sizeOf170 rfl rfl rfl (by simp;omega) (by decide) (λv2=>?_)
   refine Al_nil ?_
   refine Ad_t 8 rfl PuI_nb ?_
   refine Ad_t 9 rfl (PuI_fb 2 Tryz.underlying156 Tryz.sizeOf103) ?_
   refine Ad_o 10 ?_
   refine Al_s1 Tryz.isAgg103 Tryz.sizeOf103 ?_
   refine Al_nil ?_
   refine Ad_d ?_
   refine Aw_sr ?_
   refine Al_mr ?_
   refine Al_mr ?_
   refine Al_nil ?_
   refine Aw_ghost [(1000,1003,0),(1009,1019,G),(1001,1011,G),(1002,1012,G),(1003,1013,G),(1004,1014,G),(1005,1015,G)] [] 12 (gh_put (E:=SES) (s':=N.pick s k how) (t:=(t.1,v2)) (λp hp=>(SES_in _ _).2.1 p hp)) (λ_ _ _ _ _=>trivial) ⟨rfl,rfl,rfl,by rw[es];rfl,by rw[es];rfl,by rw[es];rfl,by rw[es];exact obeqX (by simp[A.cellsA,Pk.row]),trivial⟩ (λ_=>rfl) rfl rfl (λF' G'=>?_)
   exact Aw_ret (⟨F',_,_,[],rfl,⟨_,_,rfl,Sub.d (by rw[ed]),Sub.bool eb.symm⟩,⟨rfl,by rw[mapP_upd];rfl,by rw[h3];rfl,trivial⟩,rfl⟩)
  ·(try simp only[A.cd_]at h50)
   have h32:¬s.way.length<32:=by omega
   have es:N.pick s k how=s:=by unfold N.pick;rw[if_neg hnk,if_pos hw,if_neg h32]
   refine Aw_skip (Aw_sr ?_)
   refine Al_mr ?_
   refine Al_mr ?_
   refine Al_nil ?_
   refine Aw_ghost [(1000,1003,0),(1009,1019,G),(1001,1011,G),(1002,1012,G),(1003,1013,G),(1004,1014,G),(1005,1015,G)] [] 12 (gh_put (E:=SES) (s':=N.pick s k how) (t:=t) (λp hp=>(SES_in _ _).2.1 p hp)) (λ_ _ _ _ _=>trivial) ⟨rfl,rfl,rfl,by rw[es];rfl,by rw[es];rfl,by rw[es];rfl,by rw[es];rfl,trivial⟩ (λ_=>rfl) rfl rfl (λF' G'=>?_)
   exact Aw_ret (⟨F',_,_,[],rfl,⟨_,_,rfl,Sub.d (by rw[ed]),Sub.bool eb.symm⟩,⟨rfl,by rw[mapP_upd];rfl,by rw[h3];rfl,trivial⟩,rfl⟩)
 ·(try simp only[A.cd_]at h44)
  have hw:¬N.hw3 how=2:=h44
  refine Aw_skip ?_
  refine Aw_seq ?_
  refine Aw_drawn (by kernel_rfl) ?_
  refine Ad_t 0 rfl (PuI_move (.inl rfl) (by conv=>lhs;whnf)) ?_
  refine Ad_drawP 1 15 4 (by kernel_rfl) (by decide) rfl (by rfl) (by rfl) ?_
  refine Dr_ml ?_
  refine Dr_p Pu_nb ?_
  refine Dr_p (Pu_fb 2 Tryz.underlying156 Tryz.sizeOf103) ?_
  refine Dr_p (Pu_lb Tryz.isAgg103) ?_
  refine Dr_ml ?_
  refine Dr_ml ?_
  refine Dr_p (Pu_cut3 (k:=1015) k.toNat rfl Tryz.underlying103 Tryz.sizeOf170 rfl rfl rfl ⟨_,rfl,k4⟩ ⟨_,rfl,k4⟩ (by rw[List.length_map];omega)) ?_
  refine Dr_ml ?_
  refine Dr_p Pu_nb ?_
  refine Dr_p (Pu_fb 2 Tryz.underlying156 Tryz.sizeOf103) ?_
  refine Dr_p (Pu_lb Tryz.isAgg103) ?_
  refine Dr_ml ?_
  refine Dr_p Pu_ad ?_
  refine Dr_p (Pu_cutLo (k:=1015) (k.toNat+1) rfl Tryz.underlying103 Tryz.sizeOf170 rfl rfl ⟨_,rfl,by omega⟩ (by rw[List.length_map];omega)) ?_
  refine Dr_nil ?_
  refine Ad_o 15 ?_
  refine Al_eraseX (k:=1015) rfl rfl rfl (by decide) (by kernel_rfl) pk_elem (by decide) Tryz.sizeOf170 rfl rfl rfl (by rw[List.length_map];exact k3) (by rw[List.length_map];omega) (by decide) (λv2=>?_)
  refine Al_nil ?_
  refine Ad_t 16 rfl PuI_nb ?_
  refine Ad_t 17 rfl (PuI_fb 2 Tryz.underlying156 Tryz.sizeOf103) ?_
  refine Ad_o 18 ?_
  refine Al_s1 Tryz.isAgg103 Tryz.sizeOf103 ?_
  refine Al_nil ?_
  refine Ad_d ?_
  refine Aw_seq (Aw_sr ?_)
  refine Al_ml ?_
  refine Al_p (Pu_int_and (r:=N.hw3 how) rfl rfl rfl rfl (λ_=>V.i64_ok _)) ?_
  refine Al_p Pu_cp ?_
  refine Al_nil ?_
  refine Aw_cond rfl (λh81=>?_) (λh81=>?_)
  ·(try simp only[A.cd_]at h81)
   have hw1:N.hw3 how=1:=h81
   have eb:N.pickB s k how=false:=by unfold N.pickB;rw[hw1];simp
   have ed:N.pickD s k how=⟨#[]⟩:=by unfold N.pickD;rw[eb];rfl
   have es:N.pick s k how=N.out s k:=by unfold N.pick;rw[if_neg hnk,if_neg hw,if_pos hw1]
   refine Aw_sr ?_
   refine Al_mr ?_
   refine Al_mr ?_
   refine Al_nil ?_
   refine Aw_ghost [(1000,1003,0),(1009,1019,G),(1001,1011,G),(1002,1012,G),(1003,1013,G),(1004,1014,G),(1005,1015,G)] [] 12 (gh_put (E:=SES) (s':=N.pick s k how) (t:=(t.1,v2)) (λp hp=>(SES_in _ _).2.1 p hp)) (λ_ _ _ _ _=>trivial) ⟨rfl,rfl,rfl,by rw[es];rfl,by rw[es];rfl,by rw[es];rfl,by rw[es];exact obeqX (by simp[N.out]),trivial⟩ (λ_=>rfl) rfl rfl (λF' G'=>?_)
   exact Aw_ret (⟨F',_,_,[],rfl,⟨_,_,rfl,Sub.d (by rw[ed]),Sub.bool eb.symm⟩,⟨rfl,by rw[mapP_upd];rfl,by rw[h3];rfl,trivial⟩,rfl⟩)
  ·(try simp only[A.cd_]at h81)
   have hw1:¬N.hw3 how=1:=h81
   have es:N.pick s k how=N.took (N.out s k) (s.way.getD k.toNat default):=by unfold N.pick;rw[if_neg hnk,if_neg hw,if_neg hw1]
   refine Aw_skip ?_
   refine Aw_seq ?_
   refine Aw_drawP 5 6 (by kernel_rfl) (by kernel_rfl) rfl ?_
   refine Dr_ml ?_
   refine Dr_p Pu_nb ?_
   refine Dr_p (Pu_fb 1 Tryz.underlying156 Tryz.sizeOf153) ?_
   refine Dr_p (Pu_lb Tryz.isAgg153) ?_
   refine Dr_p (Pu_lbN (r:=[_,_]) Tryz.isAgg170 Tryz.sizeOf170) ?_
   refine Dr_nil ?_
   refine Ad_o 5 ?_
   refine Al_gcall [(1001,1013,G)] [] ((lkTake_g s.rn (s.way.getD k.toNat default) (by omega)).tup) rfl rfl rfl (by decide) (by kernel_rfl) ⟨rfl,trivial⟩ rfl ⟨Sub.rfl,Sub.rfl,trivial⟩ (λg88=>?_)
   refine Al_nil ?_
   refine Ad_t 6 rfl (PuI_move (.inl rfl) (by conv=>lhs;whnf)) ?_
   refine Ad_t 7 rfl PuI_ex ?_
   refine Ad_t 8 rfl PuI_ex ?_
   refine Ad_t 9 rfl (PuI_move (.inr rfl) (by conv=>lhs;whnf)) ?_
   refine Ad_t 10 rfl (PuI_move (.inr rfl) (by conv=>lhs;whnf)) ?_
   refine Ad_d ?_
   refine Aw_seq (Aw_sr ?_)
   refine Al_ml ?_
   refine Al_nil ?_
   refine Aw_cond rfl (λh91=>?_) (λh91=>?_)
   ·(try simp only[A.cd_]at h91)
    have hq:(s.way.getD k.toNat default).seq=s.rn:=h91
    have eb:N.pickB s k how=true:=by unfold N.pickB;rw[hk,decide_eq_true hq];simp[hw,hw1]
    have ed:N.pickD s k how=(s.way.getD k.toNat default).d:=by unfold N.pickD;rw[eb];rfl
    have et:N.took (N.out s k) (s.way.getD k.toNat default)=N.answer {N.out s k with rn:=s.rn+1} (s.rn+1):=by unfold N.took;rw[if_pos (show _=(N.out s k).rn from hq)];rfl
    rw[if_pos hq]
    refine Aw_drawP 9 1 (by kernel_rfl) (by kernel_rfl) rfl ?_
    refine Dr_ml ?_
    refine Dr_p Pu_nb ?_
    refine Dr_p (Pu_fb 0 Tryz.underlying156 Tryz.sizeOf151) ?_
    refine Dr_p (Pu_lb Tryz.isAgg151) ?_
    refine Dr_ml ?_
    refine Dr_p Pu_nb ?_
    refine Dr_p (Pu_fb 1 Tryz.underlying156 Tryz.sizeOf153) ?_
    refine Dr_p (Pu_lb Tryz.isAgg153) ?_
    refine Dr_p (Pu_gcall [(1001,1013,G)] (lkWaits_g (s.rn+1)) (RC_in ..) rfl ⟨rfl,trivial⟩ rfl ⟨Sub.rfl,trivial⟩) ?_
    refine Dr_nil ?_
    refine Ad_o 9 ?_
    refine Al_gcallE [(1001,1012,G),(1002,1014,G)] [] (lkAns_g s.sn t.1 s.op (s.rn+1) (by omega)) rfl rfl rfl (by decide) (by kernel_rfl) ⟨rfl,rfl,trivial⟩ (λ_=>rfl) rfl rfl ⟨Sub.rfl,Sub.rfl,trivial⟩ ?_
    rintro v1 g101
    refine Al_nil ?_
    refine Ad_d ?_
    refine Aw_sr ?_
    refine Al_ml ?_
    refine Al_ml ?_
    refine Al_mr ?_
    refine Al_mr ?_
    refine Al_nil ?_
    refine Aw_ghost [(1000,1003,0),(1009,1019,G),(1001,1011,G),(1002,1012,G),(1003,1013,G),(1004,1014,G),(1005,1015,G)] [] 12 (gh_put (E:=SES) (s':=N.pick s k how) (t:=(v1,v2)) (λp hp=>(SES_in _ _).2.1 p hp)) (λ_ _ _ _ _=>trivial) ⟨rfl,rfl,rfl,by rw[es,et];rfl,by rw[es,et];rfl,by rw[es,et];rfl,by rw[es,et];exact obeqX (by simp[N.out,N.answer]),trivial⟩ (λ_=>rfl) rfl rfl (λF' G'=>?_)
    exact Aw_ret (⟨F',_,_,[],rfl,⟨_,_,rfl,Sub.d (by rw[if_pos hq,ed]),Sub.bool (by rw[eb];exact decide_eq_true hq)⟩,⟨rfl,by rw[mapP_upd];rfl,by rw[h3];rfl,trivial⟩,rfl⟩)
   ·(try simp only[A.cd_]at h91)
    have hq:¬(s.way.getD k.toNat default).seq=s.rn:=h91
    have eb:N.pickB s k how=false:=by unfold N.pickB;rw[decide_eq_false hq];simp
    have ed:N.pickD s k how=⟨#[]⟩:=by unfold N.pickD;rw[eb];rfl
    have et:N.took (N.out s k) (s.way.getD k.toNat default)=N.out s k:=by unfold N.took;rw[if_neg (show¬_=(N.out s k).rn from hq)]
    refine Aw_skip (Aw_sr ?_)
    refine Al_ml ?_
    refine Al_ml ?_
    refine Al_mr ?_
    refine Al_mr ?_
    refine Al_nil ?_
    refine Aw_ghost [(1000,1003,0),(1009,1019,G),(1001,1011,G),(1002,1012,G),(1003,1013,G),(1004,1014,G),(1005,1015,G)] [] 12 (gh_put (E:=SES) (s':=N.pick s k how) (t:=(t.1,v2)) (λp hp=>(SES_in _ _).2.1 p hp)) (λ_ _ _ _ _=>trivial) ⟨rfl,rfl,rfl,by rw[es,et];rfl,by rw[es,et,if_neg hq];rfl,by rw[es,et];rfl,by rw[es,et];exact obeqX (by simp[N.out]),trivial⟩ (λ_=>rfl) rfl rfl (λF' G'=>?_)
    exact Aw_ret (⟨F',_,_,[],rfl,⟨_,_,rfl,Sub.d (by rw[if_neg hq,ed]),Sub.bool (by rw[eb];exact decide_eq_false hq)⟩,⟨rfl,by rw[mapP_upd];rfl,by rw[h3];rfl,trivial⟩,rfl⟩)
end Go.Proofs.YtdnijgdmohinlaaGreat
end
section
namespace Go.Proofs.YtdnijgdmohinlaaGreat.A
open Go Go.RowKit
open Go.ChangeMaps (setBlock)
section
variable {κ α:Type}
def Iter (kv:κ→Value) (w:World) (b r cnt:Nat) (D:κ→Prop) (cur:Option κ):Prop :=
 ∃(since:Nat) (seen:Array Nat) (c0:Nat) (es:Array MapEntry) (clock:Nat),w.heap[r]?=some (.mapIter (some b) since seen c0)∧w.heap[b]?=some (.map es clock)∧(∀x∈es.toList,x.born<since)∧(since≤c0∧since≤clock)∧(es.toList.map (·.born)).Nodup∧(leftOf es seen).size=cnt∧(∀e∈es.toList,seen.contains e.born=true→∀c,e.key=kv c→D c)∧∀c,cur=some c→c0=clock∧∃e∈es.toList,e.key=kv c∧∃s':Array Nat,seen=s'.push e.born
def mapIt (kv:κ→Value) (ok:κ→Prop) (enc:α→AV) (b n:Nat) (m:κ→Option α) (r cnt:Nat) (D:κ→Prop) (cur:Option κ):OP where
 F:=λc=>c=b∨c=r
 I:=λM w _ h=>h=.map (some b)∧R.Mp kv ok (λw v x=>Rep M w (enc x) v) w b n m∧Iter kv w b r cnt D cur
 mono:=λ{M M' w w' ρ h} k hb hI=>by
  obtain⟨h1,h2,since,seen,c0,es,clock,h3,h4,h5⟩:=hI
  exact⟨h1,h2.mono (hb b (.inl rfl)) λv x hv=>hv.mono k,since,seen,c0,es,clock,(hb r (.inr rfl)).trans h3,(hb b (.inl rfl)).trans h4,h5⟩
 rho:=λ_ h=>h
 lt:=λ{M w ρ h} hI c hc=>by
  obtain⟨h1,h2,since,seen,c0,es,clock,h3,h4,h5⟩:=hI
  rcases hc with rfl|rfl
  ·exact(Array.getElem?_eq_some_iff.1 h4).1
  ·exact(Array.getElem?_eq_some_iff.1 h3).1
abbrev itV (r:Nat):Value:=.pointer (some ⟨r,0,none⟩)
end
section
variable {P:Program}{N:Nat}{M0:Nat→Prop}{w0:Base}{ops:Array Oper}{Q:Exit→ASt→Prop}{o o2:Oper}{l:List Oper}{st:ASt}
variable {κ α:Type}{kv:κ→Value}{ok:κ→Prop}{enc:α→AV}{b n:Nat}{m:κ→Option α}
theorem Al_range {d k g:Nat}{t kt e:TypeId}{x:Operand}(ho:o.op=.range t x) (hg:o.guard=none) (hd:o.dst=some d) (hN:d<N) (hc:conB o=true) (ht:P.underlying t=some (.map kt e)) (hx:st.ev x=.ow k g) (hob:st.ob k=some (g,.op (mapO kv ok enc b n m)))
  (h:∀r cnt,Al P N M0 w0 ops Q l ((st.put k g (.op (mapIt kv ok enc b n m r cnt (λ_=>False) none))).set d (.d (.v (itV r))))):Al P N M0 w0 ops Q (o::l) st:=by
 refine⟨?_⟩
 rintro a w ⟨ρ,hsim⟩
 have h1:=hsim.ev hc x (by simp[opsOf,ho,Op.operands])
 rw[hx]at h1
 obtain⟨k1,_⟩:=h1
 obtain⟨u,hu,hF,he,hmp⟩:=hsim.obj k g _ hob
 rw[k1]at hu
 have hxe:a.eval x=.map (some b):=(Option.some.inj hu).trans he
 have hmp0:=hmp
 obtain⟨es,clock,q1,q2,q3⟩:=hmp
 have hlt:b<w.heap.size:=(Array.getElem?_eq_some_iff.1 q1).1
 have hs2:=hsim.mod2 (w':=w.alloc (.mapIter (some b) clock #[] clock)) hob k1 ⟨rfl,rfl,rfl⟩ (by simp) (λc hc _=>heap_alloc_old w _ hc) (o':=.op (mapIt kv ok enc b n m w.heap.size (leftOf es #[]).size (λ_=>False) none)) (λM' hK=>⟨λc hc=>by
   rcases hc with rfl|rfl
   ·exact hF _ rfl
   ·exact .inl hsim.ext.size,hxe,hmp0.mono (heap_alloc_old w _ hlt) (λv x hv=>hv.mono hK),clock,#[],clock,es,clock,heap_alloc_new w _,(heap_alloc_old w _ hlt).trans q1,q2.1,⟨Nat.le_refl _,Nat.le_refl _⟩,q2.2.1,rfl,λe he hs=>by simp at hs,λc hc=>by cases hc⟩) (λc hc=>by
   rcases hc with rfl|rfl
   ·exact .inl rfl
   ·exact .inr (Nat.le_refl _))
 refine wpList_plain hg λK hK=>wp_upon ?_
 have e:(execOp a.eval o).run P w=.ok (.value (itV w.heap.size)) (w.alloc (.mapIter (some b) clock #[] clock)):=by
  simp only[execOp,ho,hxe,run_range_map w t kt _ b es clock ht q1,Sem.run_bind,Result.andThen_ok,Sem.run_pure]
 rw[e]
 refine hK _ _ ((h w.heap.size (leftOf es #[]).size).out _ _ ⟨ρ,?_⟩)
 rw[hd]
 exact hs2.set hN (.v _ trivial)
theorem Al_next {d d2 k g r cnt:Nat}{D:κ→Prop}{cur:Option κ}{x:Operand}(ho:o.op=.next x false) (hg:o.guard=none) (hd:o.dst=some d) (hN:d<N) (hc:conB o=true) (ho2:o2.op=.extract (.tmp d) 0) (hg2:o2.guard=none) (hd2:o2.dst=some d2) (hN2:d2<N) (hx:st.ev x=.d (.v (itV r))) (hob:st.ob k=some (g,.op (mapIt kv ok enc b n m r cnt D cur))) (hinj:∀a c,kv a=kv c→a=c)
  (h:∀(y:Bool) (cnt':Nat) (D':κ→Prop) (cur':Option κ),(y=false→∀c,(m c).isSome=true→D' c)→(y=false→D'=D)→(y=true→cnt'<cnt∧∃c v,cur'=some c∧m c=some v∧D'=λc'=>D c'∨c'=c)→Al P N M0 w0 ops Q l (((st.put k g (.op (mapIt kv ok enc b n m r cnt' D' cur'))).set d .any).set d2 (.d (.v (.bool y))))):Al P N M0 w0 ops Q (o::o2::l) st:=by
 refine⟨?_⟩
 rintro a w ⟨ρ,hsim⟩
 have h1:=hsim.ev hc x (by simp[opsOf,ho,Op.operands])
 rw[hx]at h1
 obtain⟨hxe,_⟩:=rep_v h1
 obtain⟨u,hu,hF,he,hmp,since,seen,c0,es,clock,i1,i2,i3,i4,i5,i6,i7,i8⟩:=hsim.obj k g _ hob
 have hmp0:=hmp
 obtain⟨es',clock',m1,m2,m3,m4,m5⟩:=hmp
 rw[i2]at m1
 obtain⟨rfl,rfl⟩:es=es'∧clock=clock':=by cases m1;exact⟨rfl,rfl⟩
 have fin:∀(y:Bool) (vs:List Value) (w':World) (cnt':Nat) (D':κ→Prop) (cur':Option κ),(y=false→∀c,(m c).isSome=true→D' c)→(y=false→D'=D)→(y=true→cnt'<cnt∧∃c v,cur'=some c∧m c=some v∧D'=λc'=>D c'∨c'=c)→(Instr.next (itV r) false o.type).run P w=.ok (.tuple (.bool y::vs).toArray) w'→SimR N M0 w0 (st.put k g (.op (mapIt kv ok enc b n m r cnt' D' cur'))) ρ a w'→wpList P ops (QL N M0 w0 Q) (o::o2::l) a w:=λy vs w' cnt' D' cur' hy1 hy3 hy2 hrun hs=>by
  refine wpList_plain hg λK hK=>wp_upon ?_
  have e:(execOp a.eval o).run P w=.ok (.value (.tuple (.bool y::vs).toArray)) w':=by
   simp only[execOp,ho,hxe,hrun,Sem.run_bind,Result.andThen_ok,Sem.run_pure]
  rw[e]
  refine hK _ _ ?_
  rw[hd]
  have hs1:=hs.set (i:=d) (s:=.any) (x:=.tuple (.bool y::vs).toArray) hN trivial
  have hget:(a.put (some d) (.tuple (.bool y::vs).toArray)).eval (.tmp d)=.tuple (.bool y::vs).toArray:=by
   have hsz:=hs.size
   simp[Act.put,Act.eval,Array.getD_eq_getD_getElem?,hsz,hN]
  refine wpList_plain hg2 λK2 hK2=>wp_upon ?_
  have e2:(execOp (a.put (some d) (.tuple (.bool y::vs).toArray)).eval o2).run P w'=.ok (.value (.bool y)) w':=by
   simp[execOp,ho2,hget,Instr.extract,Sem.run]
  rw[e2]
  refine hK2 _ _ ((h y cnt' D' cur' hy1 hy3 hy2).out _ _ ⟨ρ,?_⟩)
  rw[hd2]
  exact hs1.set hN2 (.v _ trivial)
 rcases run_next_at (P:=P) w o.type r b since c0 seen es clock i1 i2 i3 i4.1 with⟨h0,hr⟩|⟨en,hen,w1,hw1,hr⟩
 ·refine fin false [] w cnt D cur (λ_ c hcs=>?_) (λ_=>rfl) (λh=>by cases h) hr ?_
  ·obtain⟨v,hv⟩:=Option.isSome_iff_exists.1 hcs
   obtain⟨en,he1,he2⟩:=m5 c v hv
   refine i7 en he1 ?_ c he2
   cases hsn:seen.contains en.born with
   | true=>rfl
   | false =>
    exfalso
    have:en∈leftOf es seen:=by
     unfold leftOf
     rw[Array.mem_filter]
     exact⟨by simpa using he1,by simpa using hsn⟩
    have:=Array.size_pos_of_mem this
    omega
  ·exact hsim.mod2 (w':=w) hob hu ⟨rfl,rfl,rfl⟩ (Nat.le_refl _) (λ_ _ _=>rfl) (λM' hK=>⟨hF,he,hmp0.mono rfl λv x hv=>hv.mono hK,since,seen,c0,es,clock,i1,i2,i3,i4,i5,i6,i7,i8⟩) (λc hc=>.inl hc)
 ·have hen1:en∈es.toList∧seen.contains en.born=false:=by
   unfold leftOf at hen
   rw[Array.mem_toList_iff,Array.mem_filter]at hen
   exact⟨by simpa using hen.1,by simpa using hen.2⟩
  obtain⟨c,v,hck,hkc,hmc,hvc⟩:=m4 en hen1.1
  have hw:w1.heap=w.heap∧w1.os=w.os∧w1.tape=w.tape∧w1.output=w.output:=by rcases hw1 with rfl|rfl<;>exact⟨rfl,rfl,rfl,rfl⟩
  have hrb:r≠b:=λe=>by subst e;rw[i1]at i2;cases i2
  have hrl:r<w.heap.size:=(Array.getElem?_eq_some_iff.1 i1).1
  have hnw:∀c',c'≠r→(setBlock w1 r (.mapIter (some b) since (seen.push en.born) clock)).heap[c']?=w.heap[c']?:=λc' hc'=>by
   simp[setBlock,hw.1,Array.getElem?_setIfInBounds,Ne.symm hc']
  have hnr:(setBlock w1 r (.mapIter (some b) since (seen.push en.born) clock)).heap[r]?=some (.mapIter (some b) since (seen.push en.born) clock):=by
   simp[setBlock,hw.1,Array.getElem?_setIfInBounds,hrl]
  have hcnt:(leftOf es (seen.push en.born)).size<(leftOf es seen).size:=by
   have:=filter_lt (λe=>!seen.contains e.born) (λe=>!(seen.push en.born).contains e.born) (λx hx=>by simp at hx ⊢;exact hx.1) en (by simpa using hen1.2) (by simp) es.toList hen1.1
   have hsz:∀sn,(leftOf es sn).size=(es.toList.filter λe=>!sn.contains e.born).length:=λsn=>by
    unfold leftOf
    rw[←Array.length_toList,Array.toList_filter]
   rw[hsz,hsz]
   exact this
  refine fin true [en.key,en.val] _ (leftOf es (seen.push en.born)).size (λc'=>D c'∨c'=c) (some c) (λh=>by cases h) (λh=>by cases h) (λ_=>⟨by rw[←i6];exact hcnt,c,v,rfl,hmc,rfl⟩) hr ?_
  refine hsim.mod2 (w':=setBlock w1 r (.mapIter (some b) since (seen.push en.born) clock)) hob hu ⟨hw.2.1,hw.2.2.1,hw.2.2.2⟩ (by simp[setBlock,hw.1]) (λc' _ hc'=>hnw c' λe=>hc' (.inr e)) (λM' hK=>⟨hF,he,hmp0.mono (hnw b (Ne.symm hrb)) λv x hv=>hv.mono hK,since,seen.push en.born,clock,es,clock,hnr,(hnw b (Ne.symm hrb)).trans i2,i3,⟨i4.2,i4.2⟩,i5,rfl,λe' he' hs' c' hk'=>?_,λc' hc'=>?_⟩) (λc' hc'=>.inl hc')
  ·by_cases hb:seen.contains e'.born=true
   ·exact .inl (i7 e' he' hb c' hk')
   ·right
    have hbe:e'.born=en.born:=by
     simp only[Array.contains_eq_mem,Array.mem_push,decide_eq_true_eq]at hs' hb
     exact hs'.resolve_left hb
    have h7:=find_born en es.toList i5 hen1.1
    have h8:=find_born e' es.toList i5 he'
    rw[hbe]at h8
    rw[h7]at h8
    obtain rfl:=Option.some.inj h8
    exact hinj _ _ (hk'.symm.trans hkc)
  ·obtain rfl:=Option.some.inj hc'
   exact⟨rfl,en,hen1.1,hkc,seen,rfl⟩
theorem Al_entry {d d2 k g r cnt:Nat}{D:κ→Prop}{c:κ}{v:α}{x:Operand}(ho:o.op=.entry x) (hg:o.guard=none) (hd:o.dst=some d) (hN:d<N) (hc:conB o=true) (ho2:o2.op=.extract (.tmp d) 1) (hg2:o2.guard=none) (hd2:o2.dst=some d2) (hN2:d2<N) (hx:st.ev x=.d (.v (itV r))) (hob:st.ob k=some (g,.op (mapIt kv ok enc b n m r cnt D (some c)))) (hm:m c=some v) (hinj:∀a c,kv a=kv c→a=c)
  (h:Al P N M0 w0 ops Q l ((st.set d .any).set d2 (.d (enc v)))):Al P N M0 w0 ops Q (o::o2::l) st:=by
 refine⟨?_⟩
 rintro a w ⟨ρ,hs⟩
 have h1:=hs.ev hc x (by simp[opsOf,ho,Op.operands])
 rw[hx]at h1
 obtain⟨hxe,_⟩:=rep_v h1
 obtain⟨u,hu,hF,he,hmp,since,seen,c0,es,clock,i1,i2,i3,i4,i5,i6,i7,i8⟩:=hs.obj k g _ hob
 obtain⟨es',clock',m1,m2,m3,m4,m5⟩:=hmp
 rw[i2]at m1
 obtain⟨rfl,rfl⟩:es=es'∧clock=clock':=by cases m1;exact⟨rfl,rfl⟩
 obtain⟨rfl,en,he1,he2,s',rfl⟩:=i8 c rfl
 obtain⟨c',v',hck,hkc,hmc,hvc⟩:=m4 en he1
 obtain rfl:=hinj _ _ (he2.symm.trans hkc)
 rw[hm]at hmc
 obtain rfl:=Option.some.inj hmc
 have hrun:=run_entry_at (P:=P) w r b since s' es _ en i1 i2 he1 i5
 refine wpList_plain hg λK hK=>wp_upon ?_
 have e:(execOp a.eval o).run P w=.ok (.value (.tuple #[en.key,en.val])) w:=by
  simp only[execOp,ho,hxe,hrun,Sem.run_bind,Result.andThen_ok,Sem.run_pure]
 rw[e]
 refine hK _ _ ?_
 rw[hd]
 have hs1:=hs.set (i:=d) (s:=.any) (x:=.tuple #[en.key,en.val]) hN trivial
 have hget:(a.put (some d) (.tuple #[en.key,en.val])).eval (.tmp d)=.tuple #[en.key,en.val]:=by
  have hsz:=hs.size
  simp[Act.put,Act.eval,Array.getD_eq_getD_getElem?,hsz,hN]
 refine wpList_plain hg2 λK2 hK2=>wp_upon ?_
 have e2:(execOp (a.put (some d) (.tuple #[en.key,en.val])).eval o2).run P w=.ok (.value en.val) w:=by
  simp[execOp,ho2,hget,Instr.extract,Sem.run]
 rw[e2]
 refine hK2 _ _ (h.out _ _ ⟨ρ,?_⟩)
 rw[hd2]
 exact hs1.set hN2 hvc
theorem le_iter {k g r cnt:Nat}{D:κ→Prop}{cur:Option κ}(hob:st.ob k=some (g,.op (mapIt kv ok enc b n m r cnt D cur))):Le N M0 w0 st (st.put k g (.op (mapO kv ok enc b n m))):=λa w ⟨ρ,hs⟩=>by
 obtain⟨y,hy,hF,h1,h2,_⟩:=hs.obj k g _ hob
 exact⟨ρ,hs.mod2 (w':=w) hob hy ⟨rfl,rfl,rfl⟩ (Nat.le_refl _) (λ_ _ _=>rfl) (λM' hK=>⟨λc hc=>hF c (.inl hc),h1,h2.mono rfl λv x hv=>hv.mono hK⟩) (λc hc=>.inl (.inl hc))⟩
end
end Go.Proofs.YtdnijgdmohinlaaGreat.A
end
section
set_option maxRecDepth 100000
namespace Go.Proofs.YtdnijgdmohinlaaGreat
open Go Go.RowKit A R
namespace N
def idle (X:XS):Bool:=X.all λp=>p.2.op.isEmpty
theorem netM_some {n:Nat}{X:XS}{c:H.SK}{v:Value}(h:netM n X c=some v):∃X1 s X2,X=X1++(v,s)::X2∧idx n c.1 c.2=some X1.length:=by
 unfold netM at h
 obtain⟨i,hi,h1⟩:=Option.bind_eq_some_iff.1 h
 obtain⟨x,hx,rfl⟩:=Option.map_eq_some_iff.1 h1
 obtain⟨hl,he⟩:=List.getElem?_eq_some_iff.1 hx
 refine⟨X.take i,x.2,X.drop (i+1),?_,?_⟩
 ·show X=X.take i++x::_
  rw[←he,List.getElem_cons_drop,List.take_append_drop]
 ·rw[hi,List.length_take,Nat.min_eq_left (by omega)]
def Full (n:Nat) (X:XS):Prop:=∀i,i<X.length→∃c:H.SK,idx n c.1 c.2=some i
end N
theorem ntIdle_g (n b cm:Nat) (F:Nat→Prop) (X:N.XS) (hX:N.Full n X) (hs:∀p∈X,N.Fit 1000 p.2):GCall Tryz.prog 46 [.bx 1001 0 0] (NT n b cm F X) (some (NT n b cm F X,.d (bv (N.idle X)))):=by
 refine GC_L Tryz.func46 Tryz.ntmps46 (ReadsS.r1 Tryz.results46) λhok hokB M0 w0 hl=>?_
 refine Aw_sr ?_
 refine Al_mr ?_
 refine Al_nil (Aw_seq (Aw_sr ?_))
 refine Al_ml ?_
 refine Al_p (Pu_eqnilb Tryz.underlying83 rfl rfl) ?_
 refine Al_nil ?_
 refine Aw_condF rfl (rfl) ?_
 refine Aw_skip (Aw_seq (Aw_sr ?_))
 refine Al_ml ?_
 refine Al_p Pu_nb ?_
 refine Al_p (Pu_fb 0 Tryz.underlying149 Tryz.sizeOf147) ?_
 refine Al_p (Pu_lb Tryz.isAgg147) ?_
 refine Al_range (k:=1002) rfl rfl rfl (by decide) (by kernel_rfl) Tryz.underlying147 rfl rfl (λr cnt0=>?_)
 refine Al_nil (Aw_block ?_)
 refine Aw_loopk (ι:=Nat×(H.SK→Prop)×(Option H.SK)) [11] [1001] (λ(cnt,D,cur)=>[]) (λ(cnt,D,cur)=>[(1002,0,.op (mapIt H.skv H.skok (λv:Value=>AV.v v) b cm (N.netM n X) r cnt D cur)),(1003,0,.op (starP SES F X))]) (λ(cnt,D,cur)=>∀c,D c→∀i p,N.idx n c.1 c.2=some i→X[i]?=some p→p.2.op=[]) (λ(cnt,D,cur)=>cnt) (cnt0,λ_=>False,none) (λc h=>h.elim) trivial ⟨rfl,rfl,trivial⟩ ?_
 rintro⟨cnt,D,cur⟩ hD
 refine Aw_sr ?_
 refine Al_next (k:=1002) rfl rfl rfl (by decide) (by kernel_rfl) rfl rfl rfl (by decide) rfl rfl H.skv_inj (λy cnt' D' cur' hy1 hy2 hy3=>?_)
 skip
 refine Al_nil (Aw_seq ?_)
 refine Aw_cond rfl (λh13=>?_) (λh13=>?_)
 ·(try simp only[A.cd_]at h13)
  obtain⟨hlt,c,v,rfl,hm,rfl⟩:=hy3 h13
  obtain⟨X1,s,X2,rfl,hi⟩:=N.netM_some hm
  obtain⟨s1,s2,s3,s4⟩:N.Fit 1000 s:=hs (v,s) (by simp)
  refine Aw_skip (Aw_block (Aw_sr ?_))
  refine Al_entry (k:=1002) rfl rfl rfl (by decide) (by kernel_rfl) rfl rfl rfl (by decide) rfl rfl hm H.skv_inj ?_
  skip
  refine Al_mr ?_
  refine Al_nil (Aw_seq ?_)
  refine Aw_ghost [(1000,1003,0)] [(1009,1019),(1010,1020),(1001,1011),(1002,1012),(1003,1013),(1004,1014),(1005,1015)] 4 (gh_pullS (SES_in s)) Sub.rfl ⟨rfl,trivial⟩ (λ_=>rfl) rfl rfl (λz G=>?_)
  obtain⟨t,F2⟩:=z
  refine Aw_region ?_
  refine Al_ml ?_
  refine Al_p Pu_nb ?_
  refine Al_p (Pu_fb 0 Tryz.underlying156 Tryz.sizeOf151) ?_
  refine Al_p (Pu_lb Tryz.isAgg151) ?_
  refine Al_p (Pu_gcall [(1001,1012,G),(1002,1014,G)] (lkOpen_g s.sn t.1 s.op (by omega)) (SN_in ..) rfl ⟨rfl,rfl,trivial⟩ rfl ⟨Sub.rfl,trivial⟩) ?_
  refine Al_p (Pu_ln Tryz.underlying103) ?_
  refine Al_p Pu_cp ?_
  refine Al_nil ?_
  refine Aw_cond rfl (λh22=>?_) (λh22=>?_)
  ·(try simp only[A.cd_]at h22)
   have hne:s.op≠[]:=λh=>by rw[h]at h22;simp at h22
   refine Aw_ghost [(1000,1003,0),(1009,1019,G),(1010,1020,G),(1001,1011,G),(1002,1012,G),(1003,1013,G),(1004,1014,G),(1005,1015,G)] [] 4 (gh_putS (E:=SES) (F:=F) (F1:=F2) (s:=s) (t:=t) (λp hp=>(SES_in _ _).2.1 p hp)) (λ_ _ _ _ _=>trivial) ⟨rfl,rfl,rfl,rfl,rfl,rfl,rfl,rfl,trivial⟩ (λ_=>rfl) rfl rfl (λ_ G'=>?_)
   refine Aw_le (le_iter (k:=1002) rfl) ?_
   have e1:N.idle (X1++(v,s)::X2)=false:=by
    unfold N.idle
    rw[List.all_eq_false]
    exact⟨(v,s),by simp,by simpa using hne⟩
   refine Aw_sr ?_
   refine Al_mr ?_
   refine Al_nil ?_
   exact Aw_ret (⟨_,_,[],rfl,Sub.bool e1.symm,⟨rfl,rfl,rfl,trivial⟩,rfl⟩)
  ·(try simp only[A.cd_]at h22)
   have hno:s.op=[]:=List.eq_nil_of_length_eq_zero (by omega)
   refine Aw_ghost [(1000,1003,0),(1009,1019,G),(1010,1020,G),(1001,1011,G),(1002,1012,G),(1003,1013,G),(1004,1014,G),(1005,1015,G)] [] 4 (gh_putS (E:=SES) (F:=F) (F1:=F2) (s:=s) (t:=t) (λp hp=>(SES_in _ _).2.1 p hp)) (λ_ _ _ _ _=>trivial) ⟨rfl,rfl,rfl,rfl,rfl,rfl,rfl,rfl,trivial⟩ (λ_=>rfl) rfl rfl (λ_ G'=>?_)
   refine Aw_skip ?_
   exact⟨(cnt',_,_),λc' hc' i p h1 h2=>by
    rcases hc' with hc'|rfl
    ·exact hD c' hc' i p h1 h2
    ·rw[hi]at h1
     cases h1
     rw[List.getElem?_append_right (Nat.le_refl _),Nat.sub_self,List.getElem?_cons_zero]at h2
     cases h2
     exact hno,hlt,Le.ov trivial ⟨Sub.rfl,trivial⟩ ⟨rfl,rfl,trivial⟩ ⟨rfl,trivial⟩⟩
 ·(try simp only[A.cd_]at h13)
  have hall:=hy1 h13
  have hDD:=hy2 h13
  subst hDD
  refine Aw_le (le_iter (k:=1002) rfl) ?_
  have e1:N.idle X=true:=by
   unfold N.idle
   rw[List.all_eq_true]
   intro p hp
   obtain⟨i,hi,rfl⟩:=List.getElem_of_mem hp
   obtain⟨c,hc⟩:=hX i hi
   have h2:X[i]?=some X[i]:=List.getElem?_eq_getElem hi
   have h3:(N.netM n X c).isSome=true:=by unfold N.netM;rw[hc];simp[h2]
   rw[hD c (hall c h3) i _ hc h2];rfl
  refine Aw_exit (Aw_sr ?_)
  refine Al_mr ?_
  refine Al_nil ?_
  exact Aw_ret (⟨_,_,[],rfl,Sub.bool e1.symm,⟨rfl,rfl,rfl,trivial⟩,rfl⟩)
end Go.Proofs.YtdnijgdmohinlaaGreat
end
section
set_option maxRecDepth 100000
namespace Go.Proofs.YtdnijgdmohinlaaGreat
open Go Go.RowKit A R
namespace N
theorem idx_all:∀n∈List.range 7,∀a∈List.range 6,∀b∈List.range 6,∀c∈List.range 6,∀d∈List.range 6,idx n a b≠none→idx n (a:Nat) (b:Nat)=idx n (c:Nat) (d:Nat)→a=c∧b=d:=by decide +kernel
theorem idx_some {n:Nat}{a b:Int}{i:Nat}(h:idx n a b=some i):0≤a∧a<n∧0≤b∧b<n∧a≠b:=by
 unfold idx at h
 split at h
 ·assumption
 ·cases h
theorem idx_inj {n:Nat}(hn:n≤6) {c c':H.SK}{i:Nat}(h:idx n c.1 c.2=some i) (h':idx n c'.1 c'.2=some i):c=c':=by
 obtain⟨a,b⟩:=c
 obtain⟨a',b'⟩:=c'
 obtain⟨h1,h2,h3,h4,_⟩:=idx_some h
 obtain⟨k1,k2,k3,k4,_⟩:=idx_some h'
 have e1:a=(a.toNat:Int):=by simp only[]at h1;omega
 have e2:b=(b.toNat:Int):=by simp only[]at h3;omega
 have e3:a'=(a'.toNat:Int):=by simp only[]at k1;omega
 have e4:b'=(b'.toNat:Int):=by simp only[]at k3;omega
 simp only[]at h h' h1 h2 h3 h4 k1 k2 k3 k4
 have:=idx_all n (List.mem_range.2 (by omega)) a.toNat (List.mem_range.2 (by omega)) b.toNat (List.mem_range.2 (by omega)) a'.toNat (List.mem_range.2 (by omega)) b'.toNat (List.mem_range.2 (by omega))
 rw[←e1,←e2,←e3,←e4,h,h']at this
 obtain⟨p,q⟩:=this (by simp) rfl
 rw[e1,e2,e3,e4,p,q]
theorem netM_snoc {n:Nat}(hn:n≤6) {X:XS}{a b:Int}{v:Value}{s:Ses}(h:idx n a b=some X.length):(λc':H.SK=>if c'=(a,b)then some v else netM n X c')=netM n (X++[(v,s)]):=by
 funext c'
 unfold netM
 by_cases hc:c'=(a,b)
 ·subst hc
  rw[if_pos rfl]
  simp only[h,Option.bind_some]
  simp
 ·rw[if_neg hc]
  cases hi:idx n c'.1 c'.2 with
  | none=>rfl
  | some i =>
   simp only[Option.bind_some]
   have hne:i≠X.length:=λe=>hc (idx_inj hn (c:=c') (c':=(a,b)) hi (by rw[e];exact h))
   rcases Nat.lt_or_ge i X.length with hl|hl
   ·rw[List.getElem?_append_left hl]
   ·rw[List.getElem?_eq_none (by omega),List.getElem?_eq_none (by simp;omega)]
def upto (n a b:Nat):Nat:=a*(n - 1)+(if a<b then b - 1 else b)
theorem idx_upto {n a b:Nat}(ha:a<n) (hb:b<n) (hab:a≠b):idx n a b=some (upto n a b):=by
 unfold idx upto
 rw[if_pos ⟨by omega,by omega,by omega,by omega,by omega⟩]
 simp only[Int.toNat_natCast]
 congr 2
 split<;>split<;>omega
theorem upto_next {n a b:Nat}:upto n a (b+1)=if a=b then upto n a b else upto n a b+1:=by
 unfold upto
 split<;>split<;>split<;>omega
theorem upto_row {n a:Nat}(ha:a<n):upto n a n=upto n (a+1) 0:=by
 unfold upto
 rw[if_pos ha,if_neg (by omega),Nat.add_zero]
 have:(a+1)*(n - 1)=a*(n - 1)+(n - 1):=by rw[Nat.add_mul,Nat.one_mul]
 omega
structure New (n k:Nat) (X:XS):Prop where
 len:X.length=k
 zero:∀p∈X,p.2=⟨0,[],0,[]⟩
 pl:∀p∈X,∃a,p.1=.pointer (some a)
end N
theorem lkNewS_g:GCall Tryz.prog 83 [] [] (some ([(1001,.box 233 [.d (iv 0),.d (.v (.slice none 0 0))])],.bx 1001 0 0)):=by
 refine GC_1 Tryz.func83 Tryz.ntmps83 (ReadsS.r1 Tryz.results83) λhok hokB M0 w0=>?_
 refine Aw_sr ?_
 refine Al_mr ?_
 refine Al_ns ?_
 refine Al_p (Pu_build (aa:=[]) rfl Tryz.underlying233 Tryz.zeroValue233 places233 (by kernel_rfl) trivial rfl) ?_
 refine Al_boxN rfl rfl rfl (by decide) (by kernel_rfl) rfl (λg2=>?_)
 refine Al_mr ?_
 refine Al_nil ?_
 exact Aw_ret (⟨_,_,[(1001,2,g2)],rfl,Sub.rfl,⟨rfl,trivial⟩,rfl⟩)
theorem lkNewR_g:GCall Tryz.prog 84 [] [] (some ([(1001,.box 235 [.d (iv 0)])],.bx 1001 0 0)):=by
 refine GC_1 Tryz.func84 Tryz.ntmps84 (ReadsS.r1 Tryz.results84) λhok hokB M0 w0=>?_
 refine Aw_sr ?_
 refine Al_mr ?_
 refine Al_ns ?_
 refine Al_p (Pu_build (aa:=[]) rfl Tryz.underlying235 Tryz.zeroValue235 places235 (by kernel_rfl) trivial rfl) ?_
 refine Al_boxN rfl rfl rfl (by decide) (by kernel_rfl) rfl (λg2=>?_)
 refine Al_mr ?_
 refine Al_nil ?_
 exact Aw_ret (⟨_,_,[(1001,2,g2)],rfl,Sub.rfl,⟨rfl,trivial⟩,rfl⟩)
theorem N.netM_nil (n:Nat):N.netM n []=λ_=>none:=by
 funext c
 unfold N.netM
 cases N.idx n c.1 c.2<;>rfl
theorem N.upto_le {n a b:Nat}(hn:n≤6) (ha:a≤n) (hb:b≤n):N.upto n a b≤100:=by
 unfold N.upto
 have:a*(n - 1)≤6*6:=Nat.mul_le_mul (by omega) (by omega)
 split<;>omega
theorem A.PuI_buildArr {P:Program}{st:ASt}{o:Oper}{t e:TypeId}{len n:Nat}{ps:Array (Nat×Operand)}{aa:List (Nat×AV)}{zs:List Value}{r:List AV}(ho:o.op=.build t ps) (ht:P.underlying t=some (.array len e)) (hz:∀w,(zeroValue t).run P w=.ok (.agg zs.toArray) w)
  (hs:∀w,(sizeOf e).run P w=.ok n w) (hv:zs.all (λz=>decide (vok z))=true) (ha:PartsOk st ps.toList aa) (hr:fillA (λi=>some (i*n,n)) (zs.map .v) aa=some r):PuI P st o (.d (.row r)):=λM ρ w a h2=>by
 obtain⟨us,h3,h4⟩:=run_fill (M:=M) (w:=w) (ρ:=ρ) (a:=a) (λi=>some (i*n,n)) ps.toList aa _ r zs.toArray ha (λp hp=>h2 p.2 (by
  simp only[opsOf,ho,Op.operands]
  exact List.mem_map.2 ⟨p,hp,rfl⟩)) (cells_v hv) hr
 refine⟨.agg us,h4.row,λw2=>?_⟩
 have e:(ps.map λ(p:Nat×Operand)=>(p.1,a.eval p.2)).toList=ps.toList.map λ(i,x)=>(i,a.eval x):=by simp
 simp only[execOp,ho,Instr.build,Sem.run_bind,hz,Result.andThen_ok,run_underlying ht,hs,Value.cells]
 rw[e]
 simp only[h3,Sem.run_pure,Sem.run_bind,Result.andThen_ok]
theorem ntNew_g (n:Nat) (hn:1≤n∧n≤6):GCallE Tryz.prog 35 [.d (iv n)] [] (λz:{z:Nat×(Nat→Prop)×N.XS // N.New n (N.upto n n 0) z.2.2}=>some (NT n z.1.1 (N.upto n n 0) z.1.2.1 z.1.2.2,.bx 1001 0 0)):=by
 refine GC_E Tryz.func35 Tryz.ntmps35 (ReadsS.r1 Tryz.results35) λhok hokB M0 w0=>?_
 refine Aw_sr ?_
 refine Al_mr ?_
 refine Al_nil (Aw_seq (Aw_sr ?_))
 refine Al_ml ?_
 refine Al_p Pu_cp ?_
 refine Al_ml ?_
 refine Al_s (St_g [] trivial (λ_=>Pu_mvl)) ?_
 refine Al_s (St_g [9] ⟨⟨_,rfl⟩,trivial⟩ (λ_=>Pu_cp)) ?_
 refine Al_p Pu_o ?_
 refine Al_nil ?_
 refine Aw_condF rfl ((by simp;omega)) ?_
 refine Aw_skip (Aw_sr ?_)
 refine Al_makeMap H.skv H.skok (λv:Value=>AV.v v) rfl rfl rfl (by decide) (λbm g12=>?_)
 refine Al_ghost [] [(1000,60)] 2 (gh_nil (E:=SES)) (λ_ _ _ _ _=>trivial) trivial (λ_=>rfl) rfl rfl (λ_ g60=>?_)
 refine Al_p (Pu_buildAg (aa:=[(0,_)]) rfl Tryz.underlying149 Tryz.zeroValue149 places149 (by kernel_rfl) ⟨rfl,rfl,trivial⟩ rfl) ?_
 refine Al_boxAg rfl rfl rfl (by decide) (by kernel_rfl) rfl (λg14=>?_)
 refine Al_mr ?_
 refine Al_nil (Aw_seq (Aw_sr ?_))
 refine Al_ml ?_
 refine Al_ml ?_
 refine Al_nil (Aw_block ?_)
 refine Aw_loopk (ι:=Nat×(Nat→Prop)×N.XS) [0,3,15] [14] (λ(a,F,X)=>[(16,.d (iv a))]) (λ(a,F,X)=>[(12,g12,.op (mapO H.skv H.skok (λv:Value=>AV.v v) bm (N.upto n a 0) (N.netM n X))),(60,g60,.op (starP SES F X))]) (λ(a,F,X)=>a≤n∧N.New n (N.upto n a 0) X) (λ(a,F,X)=>n - a) ((0,λ_=>False,[])) (⟨Nat.zero_le _,⟨by simp[N.upto],λp hp=>(by cases hp),λp hp=>by cases hp⟩⟩) ⟨Sub.rfl,trivial⟩ ⟨by rw[N.netM_nil,show N.upto n 0 0=0 from by simp[N.upto]];rfl,rfl,trivial⟩ ?_
 rintro⟨a,F,X⟩ ⟨hk0,hN⟩
 refine Aw_sr ?_
 refine Al_p Pu_cp ?_
 refine Al_nil (Aw_seq ?_)
 refine Aw_cond rfl (λh17=>?_) (λh17=>?_)
 ·(try simp only[A.cd_]at h17)
  refine Aw_skip (Aw_seq (Aw_block (Aw_sr ?_)))
  refine Al_ml ?_
  refine Al_mr ?_
  refine Al_ns ?_
  refine Al_ml ?_
  refine Al_ml ?_
  refine Al_nil (Aw_block ?_)
  refine Aw_loopk (ι:=Nat×(Nat→Prop)×N.XS) [0,3,4,15,16,19] [14] (λ(j,F,X)=>[(20,.d (iv j))]) (λ(j,F,X)=>[(12,g12,.op (mapO H.skv H.skok (λv:Value=>AV.v v) bm (N.upto n a j) (N.netM n X))),(60,g60,.op (starP SES F X))]) (λ(j,F,X)=>j≤n∧N.New n (N.upto n a j) X) (λ(j,F,X)=>n - j) ((0,F,X)) (⟨Nat.zero_le _,hN⟩) ⟨Sub.rfl,trivial⟩ ⟨rfl,rfl,trivial⟩ ?_
  rintro⟨j,F,X⟩ ⟨hk1,hN1⟩
  refine Aw_sr ?_
  refine Al_p Pu_cp ?_
  refine Al_nil (Aw_seq ?_)
  refine Aw_cond rfl (λh21=>?_) (λh21=>?_)
  ·(try simp only[A.cd_]at h21)
   refine Aw_skip ?_
   refine Aw_seq (Aw_block (Aw_sr ?_))
   refine Al_ml ?_
   refine Al_mr ?_
   refine Al_ns ?_
   refine Al_ml ?_
   refine Al_ml ?_
   refine Al_p Pu_cp ?_
   refine Al_nil ?_
   refine Aw_cond rfl (λh25=>?_) (λh25=>?_)
   ·(try simp only[A.cd_]at h25)
    have hne:a≠j:=λh=>by subst h;simp at h25
    have hix:=N.idx_upto (n:=n) (a:=a) (b:=j) (by omega) (by omega) hne
    have hup:=N.upto_next (n:=n) (a:=a) (b:=j)
    rw[if_neg hne]at hup
    have hul:=N.upto_le (n:=n) (a:=a) (b:=j) hn.2 (by omega) (by omega)
    refine Aw_drawn (by kernel_rfl) ?_
    refine Ad_t 0 rfl (PuI_move (.inl rfl) (by conv=>lhs;whnf)) ?_
    refine Ad_t 1 rfl PuI_nb ?_
    refine Ad_t 2 rfl (PuI_fb 0 Tryz.underlying149 Tryz.sizeOf147) ?_
    refine Ad_t 4 rfl (PuI_move (.inl rfl) (by conv=>lhs;whnf)) ?_
    refine Ad_t 5 rfl (PuI_move (.inl rfl) (by conv=>lhs;whnf)) ?_
    refine Ad_t 6 rfl (PuI_buildArr (aa:=[(0,_),(1,_)]) rfl Tryz.underlying157 Tryz.zeroValue157 Tryz.sizeOf3 (by kernel_rfl) ⟨rfl,rfl,rfl,rfl,rfl,rfl,trivial⟩ rfl) ?_
    refine Ad_two 3 7 rfl rfl (by kernel_rfl) ?_ ?_
    ·refine Al_p (Pu_lb Tryz.isAgg147) ?_
     refine Al_nil ?_
     refine Ad_o 7 ?_
     refine Al_gcall [] [(1001,33)] (lkNewS_g) rfl rfl rfl (by decide) (by kernel_rfl) trivial rfl trivial (λg33=>?_)
     refine Al_nil ?_
     refine Ad_o 8 ?_
     refine Al_gcall [] [(1001,34)] (lkNewR_g) rfl rfl rfl (by decide) (by kernel_rfl) trivial rfl trivial (λg34=>?_)
     refine Al_nil ?_
     refine Ad_o 9 ?_
     refine Al_p (Pu_buildAg (aa:=[(0,_),(1,_)]) rfl Tryz.underlying156 Tryz.zeroValue156 places156 (by kernel_rfl) ⟨rfl,rfl,rfl,rfl,trivial⟩ rfl) ?_
     refine Al_nil ?_
     refine Ad_o 10 ?_
     refine Al_boxAg rfl rfl rfl (by decide) (by kernel_rfl) rfl (λg36=>?_)
     refine Al_nil ?_
     refine Ad_o 11 ?_
     refine Al_ghost [] [(1003,50)] 2 (gh_row (T:=170) (n:=2)) (λ_ _ _ _ _=>trivial) trivial (λ_=>rfl) rfl rfl (λ_ g50=>?_)
     refine Al_ghost [] [(1003,51)] 2 (gh_row (T:=170) (n:=2)) (λ_ _ _ _ _=>trivial) trivial (λ_=>rfl) rfl rfl (λ_ g51=>?_)
     refine Al_ghost [(1000,60,g60),(1001,36,g36),(1002,33,g33),(1003,34,g34),(1004,50,g50),(1005,51,g51)] [] 36 (gh_newP (E:=SES) (s':=⟨0,[],0,[]⟩) (t:=(.slice none 0 0,.slice none 0 0)) ⟨(SES_in _ _).1,(SES_in _ _).2.1⟩) Sub.rfl ⟨rfl,rfl,rfl,rfl,rfl,rfl,trivial⟩ (λ_=>rfl) rfl rfl (λy G=>?_)
     obtain⟨F2,pb⟩:=y
     refine Al_mapUpdate (c:=(((a:Int),(j:Int)):H.SK)) (v:=.pointer (some ⟨pb,0,none⟩)) pair_key rfl rfl rfl (by kernel_rfl) Tryz.underlying147 (by simp only[maxLen];omega) rfl rfl rfl (Only.row [.int .i64 _,.int .i64 _]) ⟨by simp only[A.inI];omega,by simp only[A.inI];omega⟩ Sub.rfl ?_
     refine Al_nil ?_
     refine Ad_d ?_
     refine Aw_region ?_
     refine Al_p Pu_ad ?_
     refine Al_ml ?_
     refine Al_nil ?_
     exact⟨(j+1,F2,X++[(.pointer (some ⟨pb,0,none⟩),(⟨0,[],0,[]⟩:Ses))]),⟨by omega,⟨by rw[hup,List.length_append,hN1.len];rfl,λp hp=>(by
      rcases List.mem_append.1 hp with hp|hp
      ·exact hN1.zero p hp
      ·rw[List.mem_singleton.1 hp]),λp hp=>by
      rcases List.mem_append.1 hp with hp|hp
      ·exact hN1.pl p hp
      ·rw[List.mem_singleton.1 hp];exact⟨_,rfl⟩⟩⟩,by simp only[];omega,Le.ov ⟨Sub.num (by omega),trivial⟩ ⟨Sub.rfl,Sub.rfl,Sub.rfl,Sub.rfl,Sub.rfl,Sub.rfl,trivial⟩ ⟨by rw[hup,←N.netM_snoc hn.2 (by rw[hix,hN1.len])];rfl,rfl,trivial⟩ ⟨rfl,trivial⟩⟩
    ·refine Al_gcall [] [(1001,33)] (lkNewS_g) rfl rfl rfl (by decide) (by kernel_rfl) trivial rfl trivial (λg33=>?_)
     refine Al_nil ?_
     refine Ad_two 3 8 rfl rfl (by kernel_rfl) ?_ ?_
     ·refine Al_p (Pu_lb Tryz.isAgg147) ?_
      refine Al_nil ?_
      refine Ad_o 8 ?_
      refine Al_gcall [] [(1001,34)] (lkNewR_g) rfl rfl rfl (by decide) (by kernel_rfl) trivial rfl trivial (λg34=>?_)
      refine Al_nil ?_
      refine Ad_o 9 ?_
      refine Al_p (Pu_buildAg (aa:=[(0,_),(1,_)]) rfl Tryz.underlying156 Tryz.zeroValue156 places156 (by kernel_rfl) ⟨rfl,rfl,rfl,rfl,trivial⟩ rfl) ?_
      refine Al_nil ?_
      refine Ad_o 10 ?_
      refine Al_boxAg rfl rfl rfl (by decide) (by kernel_rfl) rfl (λg36=>?_)
      refine Al_nil ?_
      refine Ad_o 11 ?_
      refine Al_ghost [] [(1003,50)] 2 (gh_row (T:=170) (n:=2)) (λ_ _ _ _ _=>trivial) trivial (λ_=>rfl) rfl rfl (λ_ g50=>?_)
      refine Al_ghost [] [(1003,51)] 2 (gh_row (T:=170) (n:=2)) (λ_ _ _ _ _=>trivial) trivial (λ_=>rfl) rfl rfl (λ_ g51=>?_)
      refine Al_ghost [(1000,60,g60),(1001,36,g36),(1002,33,g33),(1003,34,g34),(1004,50,g50),(1005,51,g51)] [] 36 (gh_newP (E:=SES) (s':=⟨0,[],0,[]⟩) (t:=(.slice none 0 0,.slice none 0 0)) ⟨(SES_in _ _).1,(SES_in _ _).2.1⟩) Sub.rfl ⟨rfl,rfl,rfl,rfl,rfl,rfl,trivial⟩ (λ_=>rfl) rfl rfl (λy G=>?_)
      obtain⟨F2,pb⟩:=y
      refine Al_mapUpdate (c:=(((a:Int),(j:Int)):H.SK)) (v:=.pointer (some ⟨pb,0,none⟩)) pair_key rfl rfl rfl (by kernel_rfl) Tryz.underlying147 (by simp only[maxLen];omega) rfl rfl rfl (Only.row [.int .i64 _,.int .i64 _]) ⟨by simp only[A.inI];omega,by simp only[A.inI];omega⟩ Sub.rfl ?_
      refine Al_nil ?_
      refine Ad_d ?_
      refine Aw_region ?_
      refine Al_p Pu_ad ?_
      refine Al_ml ?_
      refine Al_nil ?_
      exact⟨(j+1,F2,X++[(.pointer (some ⟨pb,0,none⟩),(⟨0,[],0,[]⟩:Ses))]),⟨by omega,⟨by rw[hup,List.length_append,hN1.len];rfl,λp hp=>(by
       rcases List.mem_append.1 hp with hp|hp
       ·exact hN1.zero p hp
       ·rw[List.mem_singleton.1 hp]),λp hp=>by
       rcases List.mem_append.1 hp with hp|hp
       ·exact hN1.pl p hp
       ·rw[List.mem_singleton.1 hp];exact⟨_,rfl⟩⟩⟩,by simp only[];omega,Le.ov ⟨Sub.num (by omega),trivial⟩ ⟨Sub.rfl,Sub.rfl,Sub.rfl,Sub.rfl,Sub.rfl,Sub.rfl,trivial⟩ ⟨by rw[hup,←N.netM_snoc hn.2 (by rw[hix,hN1.len])];rfl,rfl,trivial⟩ ⟨rfl,trivial⟩⟩
     ·refine Al_gcall [] [(1001,34)] (lkNewR_g) rfl rfl rfl (by decide) (by kernel_rfl) trivial rfl trivial (λg34=>?_)
      refine Al_nil ?_
      refine Ad_two 3 9 rfl rfl (by kernel_rfl) ?_ ?_
      ·refine Al_p (Pu_lb Tryz.isAgg147) ?_
       refine Al_nil ?_
       refine Ad_o 9 ?_
       refine Al_p (Pu_buildAg (aa:=[(0,_),(1,_)]) rfl Tryz.underlying156 Tryz.zeroValue156 places156 (by kernel_rfl) ⟨rfl,rfl,rfl,rfl,trivial⟩ rfl) ?_
       refine Al_nil ?_
       refine Ad_o 10 ?_
       refine Al_boxAg rfl rfl rfl (by decide) (by kernel_rfl) rfl (λg36=>?_)
       refine Al_nil ?_
       refine Ad_o 11 ?_
       refine Al_ghost [] [(1003,50)] 2 (gh_row (T:=170) (n:=2)) (λ_ _ _ _ _=>trivial) trivial (λ_=>rfl) rfl rfl (λ_ g50=>?_)
       refine Al_ghost [] [(1003,51)] 2 (gh_row (T:=170) (n:=2)) (λ_ _ _ _ _=>trivial) trivial (λ_=>rfl) rfl rfl (λ_ g51=>?_)
       refine Al_ghost [(1000,60,g60),(1001,36,g36),(1002,33,g33),(1003,34,g34),(1004,50,g50),(1005,51,g51)] [] 36 (gh_newP (E:=SES) (s':=⟨0,[],0,[]⟩) (t:=(.slice none 0 0,.slice none 0 0)) ⟨(SES_in _ _).1,(SES_in _ _).2.1⟩) Sub.rfl ⟨rfl,rfl,rfl,rfl,rfl,rfl,trivial⟩ (λ_=>rfl) rfl rfl (λy G=>?_)
       obtain⟨F2,pb⟩:=y
       refine Al_mapUpdate (c:=(((a:Int),(j:Int)):H.SK)) (v:=.pointer (some ⟨pb,0,none⟩)) pair_key rfl rfl rfl (by kernel_rfl) Tryz.underlying147 (by simp only[maxLen];omega) rfl rfl rfl (Only.row [.int .i64 _,.int .i64 _]) ⟨by simp only[A.inI];omega,by simp only[A.inI];omega⟩ Sub.rfl ?_
       refine Al_nil ?_
       refine Ad_d ?_
       refine Aw_region ?_
       refine Al_p Pu_ad ?_
       refine Al_ml ?_
       refine Al_nil ?_
       exact⟨(j+1,F2,X++[(.pointer (some ⟨pb,0,none⟩),(⟨0,[],0,[]⟩:Ses))]),⟨by omega,⟨by rw[hup,List.length_append,hN1.len];rfl,λp hp=>(by
        rcases List.mem_append.1 hp with hp|hp
        ·exact hN1.zero p hp
        ·rw[List.mem_singleton.1 hp]),λp hp=>by
        rcases List.mem_append.1 hp with hp|hp
        ·exact hN1.pl p hp
        ·rw[List.mem_singleton.1 hp];exact⟨_,rfl⟩⟩⟩,by simp only[];omega,Le.ov ⟨Sub.num (by omega),trivial⟩ ⟨Sub.rfl,Sub.rfl,Sub.rfl,Sub.rfl,Sub.rfl,Sub.rfl,trivial⟩ ⟨by rw[hup,←N.netM_snoc hn.2 (by rw[hix,hN1.len])];rfl,rfl,trivial⟩ ⟨rfl,trivial⟩⟩
      ·refine Al_p (Pu_buildAg (aa:=[(0,_),(1,_)]) rfl Tryz.underlying156 Tryz.zeroValue156 places156 (by kernel_rfl) ⟨rfl,rfl,rfl,rfl,trivial⟩ rfl) ?_
       refine Al_nil ?_
       refine Ad_two 3 10 rfl rfl (by kernel_rfl) ?_ ?_
       ·refine Al_p (Pu_lb Tryz.isAgg147) ?_
        refine Al_nil ?_
        refine Ad_o 10 ?_
        refine Al_boxAg rfl rfl rfl (by decide) (by kernel_rfl) rfl (λg36=>?_)
        refine Al_nil ?_
        refine Ad_o 11 ?_
        refine Al_ghost [] [(1003,50)] 2 (gh_row (T:=170) (n:=2)) (λ_ _ _ _ _=>trivial) trivial (λ_=>rfl) rfl rfl (λ_ g50=>?_)
        refine Al_ghost [] [(1003,51)] 2 (gh_row (T:=170) (n:=2)) (λ_ _ _ _ _=>trivial) trivial (λ_=>rfl) rfl rfl (λ_ g51=>?_)
        refine Al_ghost [(1000,60,g60),(1001,36,g36),(1002,33,g33),(1003,34,g34),(1004,50,g50),(1005,51,g51)] [] 36 (gh_newP (E:=SES) (s':=⟨0,[],0,[]⟩) (t:=(.slice none 0 0,.slice none 0 0)) ⟨(SES_in _ _).1,(SES_in _ _).2.1⟩) Sub.rfl ⟨rfl,rfl,rfl,rfl,rfl,rfl,trivial⟩ (λ_=>rfl) rfl rfl (λy G=>?_)
        obtain⟨F2,pb⟩:=y
        refine Al_mapUpdate (c:=(((a:Int),(j:Int)):H.SK)) (v:=.pointer (some ⟨pb,0,none⟩)) pair_key rfl rfl rfl (by kernel_rfl) Tryz.underlying147 (by simp only[maxLen];omega) rfl rfl rfl (Only.row [.int .i64 _,.int .i64 _]) ⟨by simp only[A.inI];omega,by simp only[A.inI];omega⟩ Sub.rfl ?_
        refine Al_nil ?_
        refine Ad_d ?_
        refine Aw_region ?_
        refine Al_p Pu_ad ?_
        refine Al_ml ?_
        refine Al_nil ?_
        exact⟨(j+1,F2,X++[(.pointer (some ⟨pb,0,none⟩),(⟨0,[],0,[]⟩:Ses))]),⟨by omega,⟨by rw[hup,List.length_append,hN1.len];rfl,λp hp=>(by
         rcases List.mem_append.1 hp with hp|hp
         ·exact hN1.zero p hp
         ·rw[List.mem_singleton.1 hp]),λp hp=>by
         rcases List.mem_append.1 hp with hp|hp
         ·exact hN1.pl p hp
         ·rw[List.mem_singleton.1 hp];exact⟨_,rfl⟩⟩⟩,by simp only[];omega,Le.ov ⟨Sub.num (by omega),trivial⟩ ⟨Sub.rfl,Sub.rfl,Sub.rfl,Sub.rfl,Sub.rfl,Sub.rfl,trivial⟩ ⟨by rw[hup,←N.netM_snoc hn.2 (by rw[hix,hN1.len])];rfl,rfl,trivial⟩ ⟨rfl,trivial⟩⟩
       ·refine Al_boxAg rfl rfl rfl (by decide) (by kernel_rfl) rfl (λg36=>?_)
        refine Al_nil ?_
        refine Ad_o 3 ?_
        refine Al_p (Pu_lb Tryz.isAgg147) ?_
        refine Al_nil ?_
        refine Ad_o 11 ?_
        refine Al_ghost [] [(1003,50)] 2 (gh_row (T:=170) (n:=2)) (λ_ _ _ _ _=>trivial) trivial (λ_=>rfl) rfl rfl (λ_ g50=>?_)
        refine Al_ghost [] [(1003,51)] 2 (gh_row (T:=170) (n:=2)) (λ_ _ _ _ _=>trivial) trivial (λ_=>rfl) rfl rfl (λ_ g51=>?_)
        refine Al_ghost [(1000,60,g60),(1001,36,g36),(1002,33,g33),(1003,34,g34),(1004,50,g50),(1005,51,g51)] [] 36 (gh_newP (E:=SES) (s':=⟨0,[],0,[]⟩) (t:=(.slice none 0 0,.slice none 0 0)) ⟨(SES_in _ _).1,(SES_in _ _).2.1⟩) Sub.rfl ⟨rfl,rfl,rfl,rfl,rfl,rfl,trivial⟩ (λ_=>rfl) rfl rfl (λy G=>?_)
        obtain⟨F2,pb⟩:=y
        refine Al_mapUpdate (c:=(((a:Int),(j:Int)):H.SK)) (v:=.pointer (some ⟨pb,0,none⟩)) pair_key rfl rfl rfl (by kernel_rfl) Tryz.underlying147 (by simp only[maxLen];omega) rfl rfl rfl (Only.row [.int .i64 _,.int .i64 _]) ⟨by simp only[A.inI];omega,by simp only[A.inI];omega⟩ Sub.rfl ?_
        refine Al_nil ?_
        refine Ad_d ?_
        refine Aw_region ?_
        refine Al_p Pu_ad ?_
        refine Al_ml ?_
        refine Al_nil ?_
        exact⟨(j+1,F2,X++[(.pointer (some ⟨pb,0,none⟩),(⟨0,[],0,[]⟩:Ses))]),⟨by omega,⟨by rw[hup,List.length_append,hN1.len];rfl,λp hp=>(by
         rcases List.mem_append.1 hp with hp|hp
         ·exact hN1.zero p hp
         ·rw[List.mem_singleton.1 hp]),λp hp=>by
         rcases List.mem_append.1 hp with hp|hp
         ·exact hN1.pl p hp
         ·rw[List.mem_singleton.1 hp];exact⟨_,rfl⟩⟩⟩,by simp only[];omega,Le.ov ⟨Sub.num (by omega),trivial⟩ ⟨Sub.rfl,Sub.rfl,Sub.rfl,Sub.rfl,Sub.rfl,Sub.rfl,trivial⟩ ⟨by rw[hup,←N.netM_snoc hn.2 (by rw[hix,hN1.len])];rfl,rfl,trivial⟩ ⟨rfl,trivial⟩⟩
   ·(try simp only[A.cd_]at h25)
    have haj:a=j:=by omega
    have hup:=N.upto_next (n:=n) (a:=a) (b:=j)
    rw[if_pos haj]at hup
    refine Aw_skip (Aw_region ?_)
    refine Al_p Pu_ad ?_
    refine Al_ml ?_
    refine Al_nil ?_
    exact⟨(j+1,F,X),⟨by omega,⟨by rw[hup];exact hN1.len,hN1.zero,hN1.pl⟩⟩,by simp only[];omega,Le.ov ⟨Sub.num (by omega),trivial⟩ ⟨Sub.rfl,Sub.rfl,Sub.rfl,Sub.rfl,Sub.rfl,Sub.rfl,trivial⟩ ⟨by rw[hup];rfl,rfl,trivial⟩ ⟨rfl,trivial⟩⟩
  ·(try simp only[A.cd_]at h21)
   have hjn:j=n:=by omega
   have hur:N.upto n a j=N.upto n (a+1) 0:=by rw[hjn];exact N.upto_row (by omega)
   refine Aw_exit (Aw_region ?_)
   refine Al_p Pu_ad ?_
   refine Al_ml ?_
   refine Al_nil ?_
   exact⟨(a+1,F,X),⟨by omega,⟨by rw[←hur];exact hN1.len,hN1.zero,hN1.pl⟩⟩,by simp only[];omega,Le.ov ⟨Sub.num (by omega),trivial⟩ ⟨Sub.rfl,Sub.rfl,Sub.rfl,trivial⟩ ⟨by rw[←hur];rfl,rfl,trivial⟩ ⟨rfl,trivial⟩⟩
 ·(try simp only[A.cd_]at h17)
  obtain rfl:a=n:=by omega
  refine Aw_exit (Aw_sr ?_)
  refine Al_ml ?_
  refine Al_mr ?_
  refine Al_nil ?_
  exact Aw_ret (⟨⟨(bm,F,X),hN⟩,_,_,[(1001,14,g14),(1002,12,g12),(1003,60,g60)],rfl,Sub.rfl,⟨rfl,rfl,rfl,trivial⟩,rfl⟩)
end Go.Proofs.YtdnijgdmohinlaaGreat
end
section
namespace Go.Proofs.YtdnijgdmohinlaaGreat
open Go.RowKit A
theorem A.append_str {P:Program}(w:World) (B:Nat) (t u ty e:TypeId) (i:TypeInfo) (ht:P.underlying t=some (.slice e)) (hu:P.underlying u=some .string) (hi:P.info? e=some i) (hz:i.zero=some (.int .u8 0)) (hsize:i.size=1) (hby:i.bytes=1)
  (v:Value) (n:Nat) (xs:List Value) (hown:w.ownsRow B e 1 v n xs) (s:ByteArray) (h63:n+s.size≤maxLen) (hbytes:n+s.size≤140737488355328) (hbase:B≤w.heap.size) :
  ∃v' w',(Builtin.append_ #[t,u] ty #[v,.string s]).run P w=.ok v' w'∧w'.ownsRow B e 1 v' (n+s.size) (xs++Lib.strCells s)∧w.grownBy w' v.ownBlock∧(v'.ownBlock=v.ownBlock∨∃c,v'.ownBlock=some c∧w.heap.size≤c):=by
 obtain⟨v',w',h1',h2',h3',_⟩:=Lib.run_append_own_string (P:=P) w B t u ty e i ht hu hi hz hsize hby v n xs hown s h63 hbytes hbase
 refine⟨v',w',h1',h2',h3',?_⟩
 rcases hown.2 with⟨rfl,rfl⟩|⟨g,cap,cur,rfl,hbg,hg,hnc,hcm,hcs,htake⟩
 ·have hx:xs=[]:=List.eq_nil_of_length_eq_zero (by simpa using hown.1)
  obtain⟨v2,w2,k1,k2,_,_⟩:=Lib.run_append_own_string (P:=P) w w.heap.size t u ty e i ht hu hi hz hsize hby (.slice none 0 0) 0 xs (by rw[hx];exact World.ownsRow_nil w _ e 1) s h63 hbytes (Nat.le_refl _)
  rw[k1]at h1'
  simp only[Result.ok.injEq]at h1'
  obtain⟨rfl,rfl⟩:=h1'
  rcases k2.2 with⟨rfl,_⟩|⟨g,cap,cur,rfl,hbg,_⟩
  ·exact .inl rfl
  ·exact .inr ⟨g,rfl,hbg⟩
 ·by_cases hroom:n+s.size≤cap
  ·have hr:=Lib.run_append_room_string (P:=P) w t u ty e i ht hu hi hsize g n cap cur hg s hroom (by rw[hcs];omega)
   rw[hr]at h1'
   simp only[Result.ok.injEq]at h1'
   obtain⟨rfl,_⟩:=h1'
   exact .inl rfl
  ·have hr:=Lib.run_append_grow_string (P:=P) w t u ty e i _ ht hu hi hz ⟨g,0,none⟩ n cap xs (by rw[hsize];exact hown.1) (hown.cells (g:=g) rfl) s (by omega) (by simp only[maxLen]at h63;omega) (growslice_fits (by omega) (by rw[hby];omega))
   rw[hr]at h1'
   simp only[Result.ok.injEq]at h1'
   obtain⟨rfl,_⟩:=h1'
   exact .inr ⟨_,rfl,Nat.le_refl _⟩
structure A.Bld (B b:Nat) (v:Value) (bs:List Value) (w:World):Prop where
 blk:∃p,(p=.pointer none∨p=.pointer (some ⟨b,0,none⟩))∧w.heap[b]?=some (.cells #[p,v] 376 (0,0))
 own:w.ownsRow B 5 1 v bs.length bs
 ne:v.ownBlock≠some b
theorem A.wpList_append_str {P:Program}{w:World}{ops:Array Oper}{rest:List Oper}{o:Oper}{a:Act}{Q:Exit→Act→World→Prop}(hgd:o.guard=none) (sl x:Operand) (t u:TypeId)
  (ho:o.op=.call {callee:=.builtin .append,args:=#[sl,x],argTypes:=#[t,u]})
  (B:Nat) (e:TypeId) (i:TypeInfo) (ht:P.underlying t=some (.slice e)) (hu:P.underlying u=some .string) (hi:P.info? e=some i) (hz:i.zero=some (.int .u8 0)) (hsize:i.size=1) (hby:i.bytes=1)
  (v:Value) (n:Nat) (xs:List Value) (hs:a.eval sl=v) (hown:w.ownsRow B e 1 v n xs) (s:ByteArray) (hx:a.eval x=.string s)
  (h63:n+s.size≤maxLen) (hbytes:n+s.size≤140737488355328) (hbase:B≤w.heap.size)
  (h:∀v' w',w'.ownsRow B e 1 v' (n+s.size) (xs++Lib.strCells s)→w.grownBy w' v.ownBlock→(v'.ownBlock=v.ownBlock∨∃c,v'.ownBlock=some c∧w.heap.size≤c)→wpList P ops Q rest (a.put o.dst v') w'):wpList P ops Q (o::rest) a w:=by
 refine wpList_plain hgd λK hK=>?_
 obtain⟨v',w',hr,h2,h3,h4⟩:=A.append_str (P:=P) w B t u o.type e i ht hu hi hz hsize hby v n xs hown s h63 hbytes hbase
 unfold Oper.wp execOp
 simp only[ho,resolve,invoke,builtin,Sem.run_bind,Sem.run_pure,Result.andThen_ok,List.map_toArray,List.map_cons,List.map_nil,hs,hx,hr]
 exact hK _ _ (h v' w' h2 h3 h4)
set_option maxHeartbeats 2000000 in
set_option maxRecDepth 100000 in
theorem bcheck_any (B b:Nat) (v:Value) (bs:List Value) (w:World) (h:A.Bld B b v bs w) :
  Calls Tryz.prog 375 #[.pointer (some ⟨b,0,none⟩)] w λe w'=>e=.returned (.tuple #[])∧w'.heap[b]?=some (.cells #[.pointer (some ⟨b,0,none⟩),v] 376 (0,0))∧w'.heap.size=w.heap.size∧w'.os=w.os∧w'.tape=w.tape∧w'.output=w.output∧∀c,c≠b→w'.heap[c]?=w.heap[c]?:=by
 obtain⟨p,hp,hb⟩:=h.blk
 have c0:w.cell? ⟨b,0,none⟩=some p:=by rw[Lib.cell_of_heap hb];rfl
 rcases hp with rfl|rfl
 ·refine(Any.Builder_copyCheck_fresh Tryz.lays240 Tryz.Builder_X72_240 b w c0 (by simp[World.shape?,hb];rfl) (Lib.frozen_of_heap hb 0)).mono ?_
  rintro e w' ⟨rfl,rfl⟩
  refine⟨rfl,?_,by simp[World.setCell],rfl,rfl,rfl,λc hc=>Below.heap_setCell _ _ _ _ hc⟩
  simp[World.setCell,Array.getElem?_modify,hb]
 ·refine(Any.Builder_copyCheck_used Tryz.lays240 Tryz.Builder_X72_240 b w c0).mono ?_
  rintro e w' ⟨rfl,rfl⟩
  exact⟨rfl,hb,rfl,rfl,rfl,rfl,λ_ _=>rfl⟩
set_option maxHeartbeats 2000000 in
set_option maxRecDepth 100000 in
theorem bwrite_any (B b:Nat) (v:Value) (bs:List Value) (s:ByteArray) (w:World) (h:A.Bld B b v bs w) (hlen:bs.length+s.size≤140737488355328) (hBw:B≤w.heap.size) :
  Calls Tryz.prog 353 #[.pointer (some ⟨b,0,none⟩),.string s] w λe w'=>e=.returned (.tuple #[.int .i64 s.size,.nilIface])∧∃v',A.Bld B b v' (bs++Lib.strCells s) w'∧w'.heap[b]?=some (.cells #[.pointer (some ⟨b,0,none⟩),v'] 376 (0,0))∧(v'.ownBlock=v.ownBlock∨∃c,v'.ownBlock=some c∧w.heap.size≤c)∧w.heap.size≤w'.heap.size∧w'.os=w.os∧w'.tape=w.tape∧w'.output=w.output∧∀c,c<w.heap.size→c≠b→v.ownBlock≠some c→w'.heap[c]?=w.heap[c]?:=by
 obtain⟨i0,hi,hz0,hz1,hz2⟩:=info_parts Tryz.Builder_Extra_166.infoByte
 have hlt:b<w.heap.size:=by
  obtain⟨p,_,hb⟩:=h.blk
  exact(Array.getElem?_eq_some_iff.1 hb).1
 go_enter Tryz.func353,Tryz.ntmps353
 go_wp2_with (go_at_call 375;refine(bcheck_any B b v bs _ h).mono ?_)
 rintro e w1 ⟨rfl,hbk,hsz,ho1,ho2,ho3,hold⟩
 have hown:w1.ownsRow B 5 1 v bs.length bs:=owns_kept h.own λc hc=>hold c λe=>by
  subst e
  obtain⟨_,h2⟩:=h.own
  rcases h2 with⟨rfl,_⟩|⟨g,cap,cur,rfl,_⟩
  ·simp[blk]at hc
  ·simp only[blk,Option.some.injEq]at hc;subst hc;exact h.ne rfl
 have c0:w1.cell? ⟨b,0,none⟩=some (.pointer (some ⟨b,0,none⟩)):=by rw[Lib.cell_of_heap hbk];rfl
 have c1:w1.cell? ⟨b,1,none⟩=some v:=by rw[Lib.cell_of_heap hbk];rfl
 go_wp2_with (at_builtin;go_loud (refine A.wpList_append_str rfl _ _ 45 9 rfl B 5 i0 Tryz.underlying45 Tryz.underlying9 hi hz0 hz1 hz2 _ _ _ rfl hown s rfl ?c3 ?c4 ?c5 ?_))
 case c3=>unfold maxLen;omega
 case c4=>omega
 case c5=>omega
 intro v' w2 hown' hgrow hnew
 have hb2:w2.heap[b]?=some (.cells #[.pointer (some ⟨b,0,none⟩),v] 376 (0,0)):=by
  rw[hgrow.block b (by omega) (λe=>h.ne e.symm)]
  exact hbk
 have d0:w2.cell? ⟨b,0,none⟩=some (.pointer (some ⟨b,0,none⟩)):=by rw[Lib.cell_of_heap hb2];rfl
 have d1:w2.cell? ⟨b,1,none⟩=some v:=by rw[Lib.cell_of_heap hb2];rfl
 have f1:w2.frozen? ⟨b,1,none⟩=false:=Lib.frozen_of_heap hb2 1
 have hne':v'.ownBlock≠some b:=λe=>by
  rcases hnew with hn|⟨c,hc,hc2⟩
  ·exact h.ne (hn▸e)
  ·rw[hc]at e;cases e;omega
 obtain⟨ao,n',cap,rfl⟩:∃ao n' cap,v'=.slice ao n' cap:=by
  rcases hown'.2 with⟨hv,_⟩|⟨g,cap,cur,hv,_⟩
  ·exact⟨_,_,_,hv⟩
  ·exact⟨_,_,_,hv⟩
 go_wp2
 go_ret2
 have hk:∀c,c≠b→(w2.setCell ⟨b,1,none⟩ (.slice ao n' cap)).heap[c]?=w2.heap[c]?:=λc hc=>Below.heap_setCell _ _ _ _ hc
 have hself:(w2.setCell ⟨b,1,none⟩ (.slice ao n' cap)).heap[b]?=some (.cells #[.pointer (some ⟨b,0,none⟩),.slice ao n' cap] 376 (0,0)):=by simp[World.setCell,Array.getElem?_modify,hb2]
 refine⟨rfl,_,⟨⟨_,.inr rfl,hself⟩,?_,hne'⟩,hself,?_,?_,hgrow.os.trans ho1,hgrow.tape.trans ho2,hgrow.output.trans ho3,λc hc hcb hcv=>?_⟩
 ·rw[show(bs++Lib.strCells s).length=bs.length+s.size from by simp[Lib.strCells_length]]
  exact owns_kept hown' λc hc=>hk c λe=>by
   subst e
   cases ao with
   | none=>simp[blk]at hc
   | some a=>simp only[blk,Option.some.injEq]at hc;exact hne' (by simp[Value.ownBlock,hc])
 ·rcases hnew with hn|⟨c,hc,hc2⟩
  ·exact .inl hn
  ·exact .inr ⟨c,hc,by omega⟩
 ·have:=hgrow.size
  simp[World.setCell];omega
 ·rw[hk c hcb,hgrow.block c (by omega) (λe=>hcv e.symm),hold c hcb]
set_option maxHeartbeats 2000000 in
set_option maxRecDepth 100000 in
theorem bstring_any (B b:Nat) (v:Value) (l:List UInt8) (w:World) (h:A.Bld B b v (Lib.byteCells l) w) (h0:l≠[]) :
  Calls Tryz.prog 354 #[.pointer (some ⟨b,0,none⟩)] w λe w'=>e=.returned (.string (V.ba l))∧w.heap.size≤w'.heap.size∧w'.os=w.os∧w'.tape=w.tape∧w'.output=w.output∧∀c,c<w.heap.size→v.ownBlock≠some c→w'.heap[c]?=w.heap[c]?:=by
 have L:=Tryz.lays169
 have X:=Tryz.Builder_Extra_169
 obtain⟨p,_,hbk⟩:=h.blk
 have hown:=h.own
 have hl0:l.length≠0:=by simpa using h0
 rw[Lib.byteCells_length]at hown
 obtain⟨g,cap,cur,rfl,hbg,hg,hnc,hcm,hcs,htake⟩:∃g cap cur,v=.slice (some ⟨g,0,none⟩) l.length cap∧B≤g∧w.heap[g]?=some (.cells cur 5 (0,0))∧l.length≤cap∧cap≤maxLen∧cur.size=cap*1∧cur.toList.take (l.length*1)=Lib.byteCells l:=by
  rcases hown.2 with⟨_,hz⟩|⟨g,cap,cur,hv,r⟩
  ·exact absurd hz hl0
  ·exact⟨g,cap,cur,hv,r⟩
 have c1:w.drew.cell? ⟨b,1,none⟩=some (.slice (some ⟨g,0,none⟩) l.length cap):=by
  have:w.drew.heap[b]?=some (.cells #[p,.slice (some ⟨g,0,none⟩) l.length cap] 376 (0,0)):=hbk
  rw[Lib.cell_of_heap this];rfl
 have hSD:(Builtin.unsafeSliceData_ #[45] 396 #[.slice (some ⟨g,0,none⟩) l.length cap]).run Tryz.prog w.drew=.ok (.pointer (some ⟨g,0,none⟩)) w.drew :=
  Lib.run_unsafeSliceData_row _ _ _ _ _ _ (by omega)
 have hUS:(Builtin.unsafeString_ #[396,3] 9 #[.pointer (some ⟨g,0,none⟩),.int .i64 l.length]).run Tryz.prog w.drew=.ok (.string ⟨l.toArray⟩) (w.drew.freeze ⟨g,0,none⟩ l.length):=by
  refine Lib.run_unsafeString_row w.drew 396 3 9 5 L.t127 X.cellsByte g cur.size (by have hg':w.drew.heap[g]?=some (.cells cur 5 (0,0)):=hg;simp[World.shape?,hg']) l h0 (by omega) (by unfold maxLen at hcm;omega) ?_
  intro j x hx
  have:=hown.cells (g:=g) rfl j (.int .u8 x.toNat) (by simp[Lib.byteCells,hx])
  exact this
 have mixed:=L.mixed
 go_enter Tryz.func354,Tryz.ntmps354
 go_wp2
 go_region_o
 all_goals
  go_wp2
  go_ret
  have hb:=Lib.below_freeze (Below.drew (Below.refl g w)) (p:=⟨g,0,none⟩) (Nat.le_refl g) l.length
  refine⟨rfl,hb.size,hb.os,hb.tape,hb.output,λc hc hcv=>?_⟩
  have hgc:g≠c:=λe=>hcv (by rw[e];rfl)
  unfold World.freeze
  rw[if_neg hl0]
  simp only[Array.getElem?_modify,if_neg hgc]
  rfl
end Go.Proofs.YtdnijgdmohinlaaGreat
end
section
namespace Go.Proofs.YtdnijgdmohinlaaGreat
open Go.RowKit A
namespace A
section
variable {N:Nat}{M0:Nat→Prop}{w0:Base}{ops:Array Oper}{Q:Exit→ASt→Prop}{o:Oper}{l:List Oper}{st:ASt}
theorem put_other {k k2 g:Nat}{o':AO}(h:Nat.beq k k2=false):(st.put k2 g o').ob k=st.ob k:=by
 show(bif Nat.beq k k2 then _ else st.ob k)=_
 rw[h];rfl
theorem SimR.lose {ρ:Rho}{a:Act}{w w':World}(h:SimR N M0 w0 st ρ a w) {k g:Nat}{o:AO}{x:Value}(hob:st.ob k=some (g,o)) (hx:ρ k g=some x) (hos:w'.os=w.os∧w'.tape=w.tape∧w'.output=w.output) (hsz:w.heap.size≤w'.heap.size)
  (hold:∀b,b<w.heap.size→¬fpO o x b→w'.heap[b]?=w.heap[b]?):SimR N M0 w0 (st.drop k) ρ a w':=by
 have hO0:ORep w0 (Mt M0 ρ st.ob) w ρ x o:=by
  obtain⟨y,h1,h2⟩:=h.obj k g o hob
  rw[hx]at h1;cases h1;exact h2
 have hob':∀j g' o',(st.drop k).ob j=some (g',o')→j≠k∧st.ob j=some (g',o'):=λj g' o' hh=>by
  have:(bif Nat.beq j k then none else st.ob j)=some (g',o'):=hh
  cases hb:Nat.beq j k with
  | true=>rw[hb]at this;cases this
  | false =>
   rw[hb]at this
   exact⟨λe=>by subst e;simp at hb,this⟩
 have hK:Known (Mt M0 ρ st.ob) (Mt M0 ρ (st.drop k).ob) w w':=λb hb hm=>⟨λhm'=>hm (by
  rcases hm' with hm'|⟨k2,g2,o2,x2,h1,h2,h3⟩
  ·exact .inl hm'
  ·exact .inr ⟨k2,g2,o2,x2,(hob' _ _ _ h1).2,h2,h3⟩),hold b hb λe=>hm (.inr ⟨k,g,o,x,hob,hx,e⟩)⟩
 exact{
  size:=h.size
  defers:=h.defers
  slot:=λi=>(h.slot i).mono hK
  obj:=λk2 g2 o2 hh=>by
   obtain⟨hn,h1⟩:=hob' _ _ _ hh
   obtain⟨y,h2,h3⟩:=h.obj k2 g2 o2 h1
   exact⟨y,h2,h3.mono hK λb hb=>hold b (h3.blk_lt hb).2 λe=>hn (h.apart k2 g2 o2 k g o y x b h1 hob h2 hx hb e)⟩
  apart:=λk1 g1 o1 k2 g2 o2 x x' b h1 h2=>h.apart k1 g1 o1 k2 g2 o2 x x' b (hob' _ _ _ h1).2 (hob' _ _ _ h2).2
  gens:=h.gens
  base:=h.base
  ext:=by
   have h1:=h.ext
   refine⟨hos.1.trans h1.os,hos.2.1.trans h1.tape,hos.2.2.trans h1.output,Nat.le_trans h1.size hsz,λb hb hl=>?_⟩
   rw[hold b (Nat.lt_of_lt_of_le hb h1.size) λe=>?_]
   ·exact h1.block b hb hl
   ·rcases(hO0.blk_lt e).1 with h7|h7
    ·omega
    ·exact hl h7
  pin:=h.pin}
theorem byte_vok (c:UInt8):vok (.int .u8 c.toNat):=by
 have:=UInt8.toNat_lt c
 show(0:Int)≤_∧_≤(255:Int)
 omega
theorem bld_of {ρ:Rho}{a:Act}{w:World}(hsim:SimR N M0 w0 st ρ a w) {k g k2 g2:Nat}{c0:SV}{bs:List UInt8}(hkk:Nat.beq k k2=false) (hc0:c0=.d (.v (.pointer none))∨c0=.bx k g 0) (hob:st.ob k=some (g,.box 376 [c0,.ow k2 g2])) (hob2:st.ob k2=some (g2,.arr 5 1 (byteA bs))) :
  ∃b v p,ρ k g=some (.pointer (some ⟨b,0,none⟩))∧ρ k2 g2=some v∧(w0.w.heap.size≤b∨w0.l b)∧A.Bld 0 b v (Lib.byteCells bs) w∧(∀c,blk v=some c→w0.w.heap.size≤c∨w0.l c)∧blk v=v.ownBlock∧w.heap[b]?=some (.cells #[p,v] 376 (0,0))∧bs.length≤maxI:=by
 obtain⟨y,hy,b,vs,rfl,hB,hh,hsz,hcs⟩:=hsim.obj k g _ hob
 obtain⟨v,hv,vals,hown,hrows,⟨va,vc,hvf⟩,hl,hlb⟩:=hsim.obj k2 g2 _ hob2
 obtain⟨hfl,_⟩:=col_vals hrows
 have hlen:(byteA bs).length=bs.length:=by simp[byteA,colA]
 rw[hfl,hlen]at hown
 obtain⟨x0,x1,rfl⟩:∃x0 x1,vs=#[x0,x1]:=by
  match vs,hsz with
  | ⟨[x0,x1]⟩,_=>exact⟨x0,x1,rfl⟩
 have h1:=(hcs 1 _ x1 rfl rfl).1
 have e1:x1=v:=by
  have:=h1.1
  rw[hv]at this
  exact(Option.some.inj this).symm
 subst e1
 have hbv:blk x1=x1.ownBlock:=blk_own ⟨va,_,vc,hvf⟩
 refine⟨b,x1,x0,hy,hv,hB,⟨⟨x0,?_,hh⟩,by simpa [Lib.byteCells]using hown,λe=>?_⟩,hlb,hbv,hh,by rwa [hlen]at hl⟩
 ·have h0:=(hcs 0 _ x0 rfl rfl).1
  rcases hc0 with rfl|rfl
  ·exact .inl (rep_v h0).1
  ·obtain⟨z,b',hz,hb',rfl⟩:=h0
   rw[hy]at hz;cases hz
   simp only[blk,Option.some.injEq]at hb'
   subst hb';exact .inr rfl
 ·have:=hsim.apart k g _ k2 g2 _ _ _ b hob hob2 hy hv rfl (by show blk x1=some b;rw[hbv];exact e)
  subst this
  simp at hkk
theorem Al_bwrite {d k g k2 g2:Nat}{c0:SV}{x y:Operand}{ts:Array TypeId}{bs:List UInt8}{s:ByteArray}(ho:o.op=.call ⟨.value (.func 353),#[x,y],ts⟩) (hg:o.guard=none) (hd:o.dst=some d) (hN:d<N) (hc:conB o=true) (hkk:Nat.beq k k2=false) (hx:st.ev x=.bx k g 0) (hc0:c0=.d (.v (.pointer none))∨c0=.bx k g 0) (hob:st.ob k=some (g,.box 376 [c0,.ow k2 g2])) (hob2:st.ob k2=some (g2,.arr 5 1 (byteA bs))) (hy:st.ev y=.d (tv s)) (hlen:bs.length+s.size≤140737488355328)
  (h:∀g',Al Tryz.prog N M0 w0 ops Q l (((st.put k2 g' (.arr 5 1 (byteA (bs++s.data.toList)))).put k g (.box 376 [.bx k g 0,.ow k2 g'])).set d .any)):Al Tryz.prog N M0 w0 ops Q (o::l) st:=by
 refine⟨?_⟩
 rintro a w ⟨ρ,hsim⟩
 have hev:=λz hz=>hsim.ev hc z (mem_call ho z hz)
 have h1:=hev x (by simp)
 rw[hx]at h1
 obtain⟨u,b',hu1,hu2,hu3⟩:=h1
 have h2:=hev y (by simp)
 rw[hy]at h2
 have hys:=(rep_v h2).1
 obtain⟨b,v,p,hb1,hv1,hB,hbld,hlb,hbv,hh,hl⟩:=bld_of hsim hkk hc0 hob hob2
 rw[hb1]at hu1;cases hu1
 simp only[blk,Option.some.injEq]at hu2
 subst hu2
 have hbl:(Lib.byteCells bs).length=bs.length:=by simp[Lib.byteCells]
 have hcall:=bwrite_any _ b v (Lib.byteCells bs) s w hbld (by rw[hbl];exact hlen) (Nat.zero_le _)
 refine wpList_plain hg λK hK=>wp_upon ?_
 have e:(execOp a.eval o).run Tryz.prog w=.ok (.enter 353 #[.pointer (some ⟨b,0,none⟩),.string s]) w:=by
  rw[call_run (λ_ _=>by kernel_rfl) (xs:=[y]) ho,hu3]
  simp[hys]
 rw[e]
 refine hcall.mono λe w' ⟨he,v',hbld',hh',hown',hsz',ho1,ho2,ho3,hold⟩=>⟨_,he,?_⟩
 have hbw:b<w.heap.size:=(Array.getElem?_eq_some_iff.1 hh).1
 have hbv':blk v'=v'.ownBlock:=by
  obtain⟨_,h5⟩:=hbld'.own
  rcases h5 with⟨rfl,_⟩|⟨g',cap,cur,rfl,_⟩<;>rfl
 have hform:∃q c,v'=.slice q (bs++s.data.toList).length c:=by
  obtain⟨q,c,e⟩:=own_form hbld'.own
  refine⟨q,c,by rw[e];simp[Lib.byteCells,Lib.strCells]⟩
 obtain⟨w1,hw1⟩:∃w1:World,w1={w' with heap:=w'.heap.setIfInBounds b (.cells #[p,v] 376 (0,0))}:=⟨_,rfl⟩
 have hw1b:w1.heap[b]?=w.heap[b]?:=by
  rw[hw1,hh]
  simp[Array.getElem?_setIfInBounds,show b<w'.heap.size by omega]
 have hw1c:∀c,c≠b→w1.heap[c]?=w'.heap[c]?:=λc hcb=>by
  rw[hw1];simp[Array.getElem?_setIfInBounds,Ne.symm hcb]
 have hw1s:w1.heap.size=w'.heap.size:=by rw[hw1];simp
 have hst:Lib.byteCells bs++Lib.strCells s=(bs++s.data.toList).map λc:UInt8=>Value.int .u8 c.toNat:=by simp[Lib.byteCells,Lib.strCells]
 have hlA:(byteA (bs++s.data.toList)).length=(bs++s.data.toList).length:=by simp[byteA,colA]
 obtain⟨g',ρ',m1,m2,m3⟩:=hsim.upd2 (w':=w1) k2 ⟨by rw[hw1];exact ho1,by rw[hw1];exact ho2,by rw[hw1];exact ho3⟩ (by omega) (λc hcs hne=>by
  by_cases hcb:c=b
  ·subst hcb;exact hw1b
  ·rw[hw1c c hcb];exact hold c hcs hcb (by rw[←hbv];exact hne g2 _ v hob2 hv1)) (x':=v') (o':=.arr 5 1 (byteA (bs++s.data.toList))) (λc hcv=>by
  have hcv:blk v'=some c:=hcv
  rw[hbv']at hcv
  rcases hown' with e1|⟨c',e1,e2⟩
  ·exact .inr ⟨g2,_,v,hob2,hv1,by show blk v=some c;rw[hbv,←e1];exact hcv⟩
  ·rw[e1]at hcv;cases hcv;exact .inl e2) (λM' ρ' hK _=>by
  refine⟨(bs++s.data.toList).map λc=>[Value.int .u8 c.toNat],?_,col_rows λc _=>byte_vok c,by rw[hlA];exact hform,by rw[hlA];simp[maxI];omega,λc hcv=>by
   rw[hbv']at hcv
   rcases hown' with e1|⟨c',e1,e2⟩
   ·exact hlb c (by rw[hbv,←e1];exact hcv)
   ·rw[e1]at hcv;cases hcv;exact .inl (by have:=hsim.ext.size;omega)⟩
  rw[col_flat,hlA,←hst]
  have:=hbld'.own
  rw[show(Lib.byteCells bs++Lib.strCells s).length=(bs++s.data.toList).length from by simp[Lib.byteCells,Lib.strCells]]at this
  exact owns_kept this λc hcv=>hw1c c λe=>hbld'.ne (by rw[←hbv',hcv,e]))
 have hob':(st.put k2 g' (.arr 5 1 (byteA (bs++s.data.toList)))).ob k=some (g,.box 376 [c0,.ow k2 g2]):=by rw[put_other hkk];exact hob
 have hb1':ρ' k g=some (.pointer (some ⟨b,0,none⟩)):=m3 _ _ _ hb1
 have hs2:=m1.mod (w':=w') hob' hb1' ⟨by rw[hw1],by rw[hw1],by rw[hw1]⟩ (by omega) (λc hcs hne=>(hw1c c λe=>hne (by rw[e];rfl)).symm) (o':=.box 376 [.bx k g 0,.ow k2 g']) (λM' hK _=>⟨b,_,rfl,hB,hh',rfl,λj q z hq hz=>by
  match j with
  | 0=>simp at hq hz;subst hq hz;exact⟨⟨_,b,hb1',rfl,rfl⟩,rfl⟩
  | 1 =>
   simp at hq hz;subst hq hz
   obtain⟨q,c,e⟩:=hform
   exact⟨⟨m2,by rw[e];rfl⟩,by rw[e];rfl⟩
  | j+2=>simp at hq⟩)
 refine hK _ _ ((h g').out _ _ ⟨ρ',?_⟩)
 rw[hd]
 exact hs2.set hN trivial
theorem Al_bstring {d k g k2 g2:Nat}{c0:SV}{x:Operand}{ts:Array TypeId}{bs:List UInt8}(ho:o.op=.call ⟨.value (.func 354),#[x],ts⟩) (hg:o.guard=none) (hd:o.dst=some d) (hN:d<N) (hc:conB o=true) (hkk:Nat.beq k k2=false) (hx:st.ev x=.bx k g 0) (hc0:c0=.d (.v (.pointer none))∨c0=.bx k g 0) (hob:st.ob k=some (g,.box 376 [c0,.ow k2 g2])) (hob2:st.ob k2=some (g2,.arr 5 1 (byteA bs))) (h0:bs≠[])
  (h:Al Tryz.prog N M0 w0 ops Q l ((st.drop k2).set d (.d (tv (V.ba bs))))):Al Tryz.prog N M0 w0 ops Q (o::l) st:=by
 refine⟨?_⟩
 rintro a w ⟨ρ,hsim⟩
 have h1:=hsim.ev hc x (mem_call ho x (by simp))
 rw[hx]at h1
 obtain⟨u,b',hu1,hu2,hu3⟩:=h1
 obtain⟨b,v,p,hb1,hv1,hB,hbld,hlb,hbv,hh,hl⟩:=bld_of hsim hkk hc0 hob hob2
 rw[hb1]at hu1;cases hu1
 simp only[blk,Option.some.injEq]at hu2
 subst hu2
 have hcall:=bstring_any _ b v bs w hbld h0
 refine wpList_plain hg λK hK=>wp_upon ?_
 have e:(execOp a.eval o).run Tryz.prog w=.ok (.enter 354 #[.pointer (some ⟨b,0,none⟩)]) w:=by
  rw[call_run (λ_ _=>by kernel_rfl) (xs:=[]) ho,hu3]
  rfl
 rw[e]
 refine hcall.mono λe w' ⟨he,hsz,ho1,ho2,ho3,hold⟩=>⟨_,he,?_⟩
 have hs2:=hsim.lose hob2 hv1 ⟨ho1,ho2,ho3⟩ hsz (λc hc hne=>hold c hc (by rw[←hbv];exact hne))
 refine hK _ _ (h.out _ _ ⟨ρ,?_⟩)
 rw[hd]
 exact hs2.set hN (.v _ (by show(V.ba bs).size≤maxI;rw[A.ba_sz];exact hl))
theorem le_ownc {k k2 g:Nat}{T e:TypeId}{c0:SV}{n:Nat}(hkk:Nat.beq k k2=false) (hob:st.ob k=some (g,.box T [c0,.d (.v (.slice none 0 0))])) {X:Act→World→Prop}(h:∀g2,∀a w,Sim N M0 w0 ((st.put k2 g2 (.arr e n [])).put k g (.box T [c0,.ow k2 g2])) a w→X a w):∀a w,Sim N M0 w0 st a w→X a w:=by
 rintro a w ⟨ρ,hs⟩
 obtain⟨g',ρ',h1,h2⟩:=hs.upd (w':=w) k2 ⟨rfl,rfl,rfl⟩ (Nat.le_refl _) (λ_ _ _=>rfl) (x':=.slice none 0 0) (o':=.arr e n []) (λb hb=>by simp[blk]at hb)
  (λM' ρ' _ _=>⟨[],World.ownsRow_nil w _ e n,⟨rfl,λi r v h=>by simp at h⟩,⟨none,0,rfl⟩,by simp,λb hb=>by simp[blk]at hb⟩)
 have hob':(st.put k2 g' (.arr e n [])).ob k=some (g,.box T [c0,.d (.v (.slice none 0 0))]):=by rw[put_other hkk];exact hob
 obtain⟨y,hy,b,vs,rfl,hB,hh,hsz,hcs⟩:=h1.obj k g _ hob'
 refine h g' a w ⟨ρ',h1.mod hob' hy ⟨rfl,rfl,rfl⟩ (Nat.le_refl _) (λ_ _ _=>rfl) (λM' hK _=>⟨b,vs,rfl,hB,hh,hsz,λj q z hq hz=>?_⟩)⟩
 match j with
 | 0=>simp at hq;subst hq;exact⟨(hcs 0 _ z rfl hz).1.mono hK,(hcs 0 _ z rfl hz).2⟩
 | 1 =>
  simp at hq;subst hq
  have:=(hcs 1 _ z rfl hz).1
  obtain rfl:=(rep_v this).1
  exact⟨⟨h2,rfl⟩,rfl⟩
 | j+2=>simp at hq
theorem Aw_ownc {c:Code}{Q:Exit→ASt→Prop}{k k2 g:Nat}{T e:TypeId}{c0:SV}{n:Nat}(hkk:Nat.beq k k2=false) (hob:st.ob k=some (g,.box T [c0,.d (.v (.slice none 0 0))])) (h:∀g2,Aw Tryz.prog N M0 w0 c Q ((st.put k2 g2 (.arr e n [])).put k g (.box T [c0,.ow k2 g2]))):Aw Tryz.prog N M0 w0 c Q st:=⟨le_ownc hkk hob λg2=>(h g2).out⟩
end
end A
end Go.Proofs.YtdnijgdmohinlaaGreat
end
section
set_option maxRecDepth 100000
namespace Go.Proofs.YtdnijgdmohinlaaGreat
open Go Go.RowKit A R
namespace V
def depB (d:Dep):List UInt8:=text d.key++stamp d.n d.s
def pastL (p:List Dep):List UInt8:=num p.length++p.flatMap depB
def gn (v:Ver):Nat:=if v.gone then 1 else 0
def verB (v:Ver):List UInt8:=text v.key++(num (gn v)++(text v.value++(stamp v.n v.s++pastL v.past)))
end V
theorem stamp_len (n s:Int):(V.stamp n s).length≤20:=by
 unfold V.stamp
 split
 ·rename_i h
  obtain⟨h1,h2,h3,h4⟩:=V.stampB_iff.1 h
  have a:=V.num_len64 (n:=n.toNat) (by omega)
  have b:=V.num_len64 (n:=s.toNat) (by omega)
  simp;omega
 ·simp
theorem stbytes_a (n s:Int):ACall Tryz.prog 305 [.row [iv n,iv s]] (tv (V.ba (V.stamp n s))):=A.ofv (λ_ _=>by kernel_rfl) (by have:=stamp_len n s;simp[vok,A.ba_sz,A.maxI];omega) λM w vs ha=>by
 obtain rfl:=A.all1r (us:=[.int .i64 n,.int .i64 s]) ha
 exact stbytes_any n s w
theorem V.dep_key {p:List Dep}(h:J.pastB p=true):∀d∈p,d.key.size≤32:=λd hd=>by
 unfold J.pastB at h
 simp only[Bool.and_eq_true,List.all_eq_true,List.mem_range]at h
 obtain⟨i,hi,rfl⟩:=List.getElem_of_mem hd
 have h1:=h.1 i hi
 unfold J.okAt at h1
 simp only[Bool.and_eq_true]at h1
 have h2:=h1.1
 rw[show p.getD i default=p[i]by simp[hi]]at h2
 unfold D.okB at h2
 simp only[Bool.and_eq_true]at h2
 exact J.check_size h2.1
theorem V.dep_len {d:Dep}(h:d.key.size≤32):(V.depB d).length≤62:=by
 have h1:=V.num_len64 (n:=d.key.size) (by omega)
 have h2:=stamp_len d.n d.s
 have h3:d.key.data.toList.length=d.key.size:=Array.length_toList ..
 simp only[V.depB,V.text,List.length_append,h3]
 omega
theorem V.deps_len {p:List Dep}(h:∀d∈p,d.key.size≤32):(p.flatMap V.depB).length≤62*p.length:=by
 induction p with
 | nil=>simp
 | cons d p ih =>
  have:=V.dep_len (h d (by simp))
  have:=ih λx hx=>h x (by simp[hx])
  simp only[List.flatMap_cons,List.length_append,List.length_cons]
  omega
theorem pastbytes_a (p:List Dep) (h:J.pastB p=true):ACall Tryz.prog 306 [.sl 3 (p.map Dep.row)] (tv (V.ba (V.pastL p))):=by
 refine AC_1 Tryz.func306 Tryz.ntmps306 Tryz.results306 λhok M0 w0 hnl=>?_
 have hpl:=(J.past_good h).2
 have hkk:=V.dep_key h
 have b1:=V.num_len64 (n:=p.length) (by omega)
 refine Aw_sr ?_
 refine Al_mr ?_
 refine Al_nil (Aw_seq (Aw_sr ?_))
 refine Al_ml ?_
 refine Al_p (Pu_call (pcheck_a p) rfl ⟨Sub.rfl,trivial⟩) ?_
 refine Al_p Pu_n ?_
 refine Al_nil ?_
 refine Aw_condF rfl ((by rw[h];rfl)) ?_
 refine Aw_skip (Aw_sr ?_)
 refine Al_al Tryz.zeroValue376 λg3=>?_
 refine Al_nil (Aw_seq ?_)
 refine Aw_ownc (k:=3) (k2:=30) (e:=5) (n:=1) rfl rfl (λg30=>?_)
 refine Aw_region ?_
 refine Al_ml ?_
 refine Al_p (Pu_ln Tryz.underlying48) ?_
 refine Al_p (Pu_conv rfl Tryz.underlying3 Tryz.underlying271 rfl (λhv=>u64_nat (by omega) (by simp only[vok,A.inI]at hv;omega))) ?_
 refine Al_p (Pu_call (number_a p.length (by omega)) rfl ⟨Sub.rfl,trivial⟩) ?_
 refine Al_bwrite (k:=3) (k2:=30) (bs:=[]) rfl rfl rfl (by decide) (by kernel_rfl) rfl rfl (.inl rfl) rfl rfl rfl (by simp only[List.length_nil,A.ba_sz];omega) (λg13=>?_)
 refine Al_nil (Aw_seq (Aw_sr ?_))
 refine Al_ml ?_
 refine Al_p (Pu_ln Tryz.underlying48) ?_
 refine Al_ml ?_
 refine Al_nil (Aw_block ?_)
 refine Aw_loopk (ι:=Nat×Nat) [3,14,15] [] (λ(k,g)=>[(16,.d (iv k))]) (λ(k,g)=>[(3,g3,.box 376 [.bx 3 g3 0,.ow 30 g]),(30,g,.arr 5 1 (byteA (V.num p.length++(p.take k).flatMap V.depB)))]) (λ(k,g)=>k≤p.length) (λ(k,g)=>p.length - k) ((0,g13)) (Nat.zero_le _) ⟨Sub.rfl,trivial⟩ ⟨rfl,obeq (by simp[V.ba]),trivial⟩ ?_
 rintro⟨k,g⟩ hk0
 refine Aw_sr ?_
 refine Al_p Pu_cp ?_
 refine Al_nil (Aw_seq ?_)
 refine Aw_cond rfl (λh17=>?_) (λh17=>?_)
 ·(try simp only[A.cd_]at h17)
  have hk:k<p.length:=by omega
  have t1:=V.deps_len (p:=p.take k) λd hd=>hkk d (List.mem_of_mem_take hd)
  rw[List.length_take]at t1
  have hgk:p.getD k default=p[k]:=by simp[hk]
  have hkd:(p.getD k default).key.size≤32:=by rw[hgk];exact hkk _ (List.getElem_mem hk)
  have t2:=V.dep_len hkd
  have t3:=stamp_len (p.getD k default).n (p.getD k default).s
  have t4:(V.text (p.getD k default).key).length≤42:=by have:=V.num_len64 (n:=(p.getD k default).key.size) (by omega);have h3:(p.getD k default).key.data.toList.length=(p.getD k default).key.size:=Array.length_toList ..;simp only[V.text,List.length_append,h3];omega
  refine Aw_skip ?_
  refine Aw_seq (Aw_block (Aw_sr ?_))
  refine Al_p (Pu_index rfl Tryz.underlying48 Tryz.sizeOf110 rfl rfl (rfl) (mapgetD (d:=default) hk)) ?_
  refine Al_p (Pu_lN Tryz.isAgg110 Tryz.sizeOf110) ?_
  refine Al_al Tryz.zeroValue110 λg5=>?_
  refine Al_sN Tryz.isAgg110 Tryz.sizeOf110 ?_
  refine Al_nil ?_
  refine Aw_drawP 7 1 (by kernel_rfl) (by kernel_rfl) rfl ?_
  refine Dr_p (Pu_fb 0 Tryz.underlying110 Tryz.sizeOf9) ?_
  refine Dr_p (Pu_lb Tryz.isAgg9) ?_
  refine Dr_p (Pu_call (text_a (p.getD k default).key (by omega)) rfl ⟨Sub.rfl,trivial⟩) ?_
  refine Dr_p (Pu_fb 1 Tryz.underlying110 Tryz.sizeOf47) ?_
  refine Dr_p (Pu_lbN (r:=[_,_]) Tryz.isAgg47 Tryz.sizeOf47) ?_
  refine Dr_p (Pu_call (stbytes_a (p.getD k default).n (p.getD k default).s) rfl ⟨Sub.rfl,trivial⟩) ?_
  refine Dr_p (A.Pu_catB rfl rfl rfl (by simp only[A.maxI];omega)) ?_
  refine Dr_nil ?_
  refine Ad_o 7 ?_
  refine Al_bwrite (k:=3) (k2:=30) (bs:=V.num p.length++(p.take k).flatMap V.depB) rfl rfl rfl (by decide) (by kernel_rfl) rfl rfl (.inr rfl) rfl rfl rfl (by simp only[List.length_append,A.ba_sz];omega) (λg27=>?_)
  refine Al_nil ?_
  refine Ad_d ?_
  refine Aw_region ?_
  refine Al_p Pu_ad ?_
  refine Al_ml ?_
  refine Al_nil ?_
  exact⟨(k+1,g27),by omega,by simp only[];omega,Le.ov ⟨Sub.num (by omega),trivial⟩ ⟨Sub.rfl,Sub.rfl,Sub.rfl,trivial⟩ ⟨rfl,obeq (by rw[List.take_succ_eq_append_getElem hk,List.flatMap_append,←hgk];simp[V.ba,V.depB]),trivial⟩ trivial⟩
 ·(try simp only[A.cd_]at h17)
  have hkk2:p.take k=p:=List.take_of_length_le (by omega)
  refine Aw_exit (Aw_sr ?_)
  refine Al_bstring (k:=3) (k2:=30) (bs:=V.num p.length++(p.take k).flatMap V.depB) rfl rfl rfl (by decide) (by kernel_rfl) rfl rfl (.inr rfl) rfl rfl (by have:=V.num_pos p.length;intro h;rw[←List.length_eq_zero_iff,List.length_append]at h;omega) ?_
  refine Al_mr ?_
  refine Al_nil ?_
  exact Aw_ret (Sub.str (by rw[hkk2];rfl))
theorem sjoin_a (xs:List ByteArray) (hne:xs≠[]) (hl:xs.length≤1000) (hlen:(Lib.join (xs.map (·.data.toList)) []).length≤1000000):ACall Tryz.prog 302 [.sl 1 (xs.map λs=>[tv s]),tv ⟨#[]⟩] (tv ⟨(Lib.join (xs.map (·.data.toList)) []).toArray⟩):=⟨λ_ _=>by kernel_rfl,λM w vs hM hr=>by
 obtain⟨y,vs,rfl,hy,hr⟩:=A.allc hr
 obtain⟨z,vs,rfl,hz,hr⟩:=A.allc hr
 obtain rfl:=A.all0 hr
 obtain⟨rfl,_⟩:=A.repv hz
 generalize hrr:(xs.map λs=>[tv s])=rr at hy
 cases hy with
 | nil n a c=>simp at hrr;exact(hne hrr).elim
 | sl n rows b o cap f hl2 hcap hn hc hrep =>
  subst hrr
  have hxl:(xs.map λs=>[tv s]).length=xs.length:=List.length_map ..
  have hcell:∀(j:Nat) x,xs[j]?=some x→w.cell? ⟨b,o+j,none⟩=some (.string x):=λj x hx=>by
   have h1:(xs.map λs=>[tv s])[j]?=some [tv x]:=by rw[List.getElem?_map,hx];rfl
   obtain⟨_,h2,_⟩:=hc j [tv x] 0 (tv x) h1 rfl
   have h3:=hrep j [tv x] 0 (tv x) h1 rfl
   obtain⟨h4,_⟩:=A.repv h3
   rw[Nat.mul_one,Nat.add_zero,h4]at h2
   exact h2
  obtain⟨x0,hx0⟩:∃x0,xs[0]?=some x0:=by
   cases xs with
   | nil=>exact(hne rfl).elim
   | cons x l=>exact⟨x,rfl⟩
  have hb:b<w.heap.size:=World.block_lt_of_cell? w _ (hcell 0 x0 hx0)
  have:=Tryz.strings_Join b o cap xs ⟨#[]⟩ w hcell hb (by omega) (by rw[hxl]at hcap;exact hcap) (by simp only[Array.toList_empty];omega)
  rw[hxl]
  refine this.mono λe w' ⟨h1,h2⟩=>⟨_,h1,h2,.v _ ?_⟩
  show ByteArray.size _≤_
  simp only[ByteArray.size,A.maxI]
  have:((Lib.join (xs.map (·.data.toList)) []).toArray).size≤1000000:=by simpa using hlen
  exact Nat.le_trans this (by decide)⟩
theorem J.ver_val {v:Ver}(h:J.checkB v=true):v.value.size≤32:=by
 unfold J.checkB at h
 simp only[Bool.and_eq_true,decide_eq_true_eq]at h
 have:=h.2.2.2.1
 omega
theorem J.ver_past {v:Ver}(h:J.checkB v=true):J.pastB v.past=true:=by
 unfold J.checkB at h
 simp only[Bool.and_eq_true]at h
 exact h.2.2.1
theorem V.gn_le (v:Ver):V.gn v≤1:=by unfold V.gn;split<;>omega
theorem V.gnT {v:Ver}(h:v.gone=true):Sub (.d (.v (.int .u64 1))) (.d (uv (V.gn v))):=by
 rw[show V.gn v=1 by simp[V.gn,h]]
 exact Sub.rfl
theorem V.gnF {v:Ver}(h:v.gone=false):Sub (.d (.v (.int .u64 0))) (.d (uv (V.gn v))):=by
 rw[show V.gn v=0 by simp[V.gn,h]]
 exact Sub.rfl
theorem V.text_len {s:ByteArray}(h:s.size≤32):(V.text s).length≤42:=by
 have:=V.num_len64 (n:=s.size) (by omega)
 have h3:s.data.toList.length=s.size:=Array.length_toList ..
 simp only[V.text,List.length_append,h3]
 omega
theorem V.past_len {p:List Dep}(h:J.pastB p=true):(V.pastL p).length≤10+62*p.length:=by
 have h1:=V.deps_len (V.dep_key h)
 have hpl:=(J.past_good h).2
 have h2:=V.num_len64 (n:=p.length) (by omega)
 simp only[V.pastL,List.length_append]
 omega
theorem V.ver_len {v:Ver}(h:J.checkB v=true):(V.verB v).length≤1000000:=by
 have h1:=V.text_len (J.ver_key h)
 have h2:=V.text_len (J.ver_val h)
 have h3:=V.past_len (J.ver_past h)
 have h4:=(J.past_good (J.ver_past h)).2
 have h5:=stamp_len v.n v.s
 have h7:=V.gn_le v
 have h6:=V.num_len64 (n:=V.gn v) (by omega)
 simp only[V.verB,List.length_append]
 omega
theorem V.ver_join (v:Ver):Lib.join ([V.ba (V.text v.key),V.ba (V.num (V.gn v)),V.ba (V.text v.value),V.ba (V.stamp v.n v.s),V.ba (V.pastL v.past)].map (·.data.toList)) []=V.verB v:=by
 simp[Lib.join,V.ba,V.verB]
theorem verbytes_a (v:Ver) (h:J.checkB v=true):ACall Tryz.prog 233 [.row v.row] (tv (V.ba (V.verB v))):=by
 refine AC_1 Tryz.func233 Tryz.ntmps233 Tryz.results233 λhok M0 w0 hnl=>?_
 have h1:=J.ver_key h
 have h2:=J.ver_val h
 have h3:=J.ver_past h
 have h4:=V.gn_le v
 refine Aw_sr ?_
 refine Al_p Pu_bN ?_
 refine Al_mr ?_
 refine Al_nil (Aw_seq (Aw_sr ?_))
 refine Al_p (Pu_lN Tryz.isAgg50 Tryz.sizeOf50) ?_
 refine Al_p (Pu_call (wcheck_a v) rfl ⟨Sub.rfl,trivial⟩) ?_
 refine Al_p Pu_n ?_
 refine Al_nil ?_
 refine Aw_condF rfl ((by rw[h];rfl)) ?_
 refine Aw_skip (Aw_sr ?_)
 refine Al_mr ?_
 refine Al_nil ?_
 refine Aw_join (ι:=Unit) [1] [25] (λ_=>[(3,.d (uv (V.gn v)))]) (λ_=>[]) (λ_=>True) ?_ ?_
 ·refine Aw_sr ?_
  refine Al_p (Pu_fd 2 Tryz.underlying50 Tryz.sizeOf4) ?_
  refine Al_p (Pu_l1 Tryz.isAgg4) ?_
  refine Al_nil ?_
  refine Aw_cond rfl (λh8=>?_) (λh8=>?_)
  ·(try simp only[A.cd_]at h8)
   refine Aw_region ?_
   refine Al_mr ?_
   refine Al_nil ?_
   exact⟨(),trivial,Le.ov ⟨V.gnT h8,trivial⟩ ⟨Sub.rfl,trivial⟩ trivial ⟨rfl,trivial⟩⟩
  ·(try simp only[A.cd_]at h8)
   refine Aw_skip ?_
   exact⟨(),trivial,Le.ov ⟨V.gnF h8,trivial⟩ ⟨Sub.rfl,trivial⟩ trivial ⟨rfl,trivial⟩⟩
 ·rintro _ hj0
  refine Aw_seq ?_
  refine Aw_dr 16 ?_
  refine Dr_p (Pu_fd 0 Tryz.underlying50 Tryz.sizeOf9) ?_
  refine Dr_p (Pu_l1 Tryz.isAgg9) ?_
  refine Dr_p (Pu_call (text_a v.key (by omega)) rfl ⟨Sub.rfl,trivial⟩) ?_
  refine Dr_ml ?_
  refine Dr_p (Pu_call (number_a (V.gn v) (by omega)) rfl ⟨Sub.rfl,trivial⟩) ?_
  refine Dr_p (Pu_fd 1 Tryz.underlying50 Tryz.sizeOf9) ?_
  refine Dr_p (Pu_l1 Tryz.isAgg9) ?_
  refine Dr_p (Pu_call (text_a v.value (by omega)) rfl ⟨Sub.rfl,trivial⟩) ?_
  refine Dr_p (Pu_fd 3 Tryz.underlying50 Tryz.sizeOf47) ?_
  refine Dr_p (Pu_lN Tryz.isAgg47 Tryz.sizeOf47) ?_
  refine Dr_p (Pu_call (stbytes_a v.n v.s) rfl ⟨Sub.rfl,trivial⟩) ?_
  refine Dr_p (Pu_fd 5 Tryz.underlying50 Tryz.sizeOf48) ?_
  refine Dr_p (Pu_l1 Tryz.isAgg48) ?_
  refine Dr_p (Pu_call (pastbytes_a v.past h3) rfl ⟨Sub.rfl,trivial⟩) ?_
  refine Dr_p (Pu_buildSlice (aa:=[(0,_),(1,_),(2,_),(3,_),(4,_)]) rfl Tryz.underlying39 Tryz.sizeOf9 Tryz.zeroValue9 rfl (by decide) (by decide) (by decide) (by kernel_rfl) ⟨rfl,rfl,rfl,rfl,rfl,rfl,rfl,rfl,rfl,rfl,rfl,rfl,rfl,rfl,rfl,trivial⟩ ((rfl:_=some [[tv (V.ba (V.text v.key))],[tv (V.ba (V.num (V.gn v)))],[tv (V.ba (V.text v.value))],[tv (V.ba (V.stamp v.n v.s))],[tv (V.ba (V.pastL v.past))]].flatten)) rfl rfl) ?_
  refine Dr_p (Pu_call (sjoin_a [V.ba (V.text v.key),V.ba (V.num (V.gn v)),V.ba (V.text v.value),V.ba (V.stamp v.n v.s),V.ba (V.pastL v.past)] (by simp) (by simp) (by rw[V.ver_join];exact V.ver_len h)) rfl ⟨Sub.rfl,Sub.rfl,trivial⟩) ?_
  refine Dr_nil ?_
  refine Al_mr ?_
  refine Al_nil ?_
  exact Aw_ret (Sub.str (by rw[V.ver_join]))
end Go.Proofs.YtdnijgdmohinlaaGreat
end
section
namespace Go.Proofs.YtdnijgdmohinlaaGreat
namespace V
def rd:List UInt8→Option (Nat×List UInt8)
 | []=>none
 | c::r=>if c.toNat<128 then some (c.toNat,r)else match rd r with
  | some (m,t)=>if m=0 then none else some (c.toNat - 128+128*m,t)
  | none=>none
theorem rd_some:∀(l:List UInt8) (n:Nat) (r:List UInt8),rd l=some (n,r)→l=num n++r
 | [],n,r,h=>by simp[rd]at h
 | c::t,n,r,h=>by
  rw[rd]at h
  split at h
  ·rename_i hc
   simp only[Option.some.injEq,Prod.mk.injEq]at h
   obtain⟨rfl,rfl⟩:=h
   rw[num_small hc];simp
  ·rename_i hc
   split at h
   ·rename_i m t' hr
    split at h
    ·cases h
    ·rename_i hm
     simp only[Option.some.injEq,Prod.mk.injEq]at h
     obtain⟨rfl,rfl⟩:=h
     have ih:=rd_some t m t' hr
     have hlt:=UInt8.toNat_lt c
     rw[num_big (by omega),ih]
     have e1:(c.toNat - 128+128*m) / 128=m:=by omega
     have e2:(c.toNat - 128+128*m)%128=c.toNat - 128:=by omega
     rw[e1,e2,show 128+(c.toNat - 128)=c.toNat from by omega,UInt8.ofNat_toNat]
     simp
   ·cases h
theorem rd_num (n:Nat):∀r,rd (num n++r)=some (n,r):=by
 induction n using Nat.strongRecOn with
 | _ n ih =>
  intro r
  by_cases h:n<128
  ·rw[num_small h]
   simp only[List.cons_append,List.nil_append,rd]
   have:(UInt8.ofNat n).toNat=n:=by simp;omega
   rw[this,if_pos h]
  ·rw[num_big h]
   simp only[List.cons_append,rd]
   have e:(UInt8.ofNat (128+n%128)).toNat=128+n%128:=by simp;omega
   rw[ih (n / 128) (by omega) r,e,if_neg (by omega)]
   simp only
   rw[if_neg (by omega)]
   simp only[Option.some.injEq,Prod.mk.injEq,and_true]
   omega
def comb (k acc:Nat):Option (Nat×List UInt8)→Option (Nat×List UInt8)
 | some (m,t)=>if (k=0∨m≠0)∧acc+128^k*m<18446744073709551616 then some (acc+128^k*m,t)else none
 | none=>none
def rdB (l:List UInt8):Option (Nat×List UInt8):=comb 0 0 (rd l)
theorem comb_more {k acc:Nat}{c:UInt8}{t:List UInt8}(h:128≤c.toNat):comb k acc (rd (c::t))=comb (k+1) (acc+128^k*(c.toNat - 128)) (rd t):=by
 rw[rd,if_neg (by omega)]
 cases hr:rd t with
 | none=>rfl
 | some x =>
  obtain⟨m,t'⟩:=x
  simp only
  by_cases hm:m=0
  ·rw[if_pos hm]
   simp[comb,hm]
  ·rw[if_neg hm]
   have e:acc+128^k*(c.toNat - 128+128*m)=acc+128^k*(c.toNat - 128)+128^(k+1)*m:=by
    rw[Nat.mul_add,Nat.pow_succ,Nat.mul_assoc];omega
   simp only[comb,e]
   have h1:k=0∨c.toNat - 128+128*m≠0:=.inr (by omega)
   have h2:k+1=0∨m≠0:=.inr hm
   by_cases hb:acc+128^k*(c.toNat - 128)+128^(k+1)*m<18446744073709551616
   ·rw[if_pos ⟨h1,hb⟩,if_pos ⟨h2,hb⟩]
   ·rw[if_neg (λh=>hb h.2),if_neg (λh=>hb h.2)]
theorem comb_last {k acc:Nat}{c:UInt8}{t:List UInt8}(h:c.toNat<128):comb k acc (rd (c::t))=if (k=0∨c.toNat≠0)∧acc+128^k*c.toNat<18446744073709551616 then some (acc+128^k*c.toNat,t)else none:=by
 rw[rd,if_pos h];rfl
theorem rd_low {c:UInt8}{t:List UInt8}{m:Nat}{r:List UInt8}(h:rd (c::t)=some (m,r)):c.toNat%128≤m:=by
 rw[rd]at h
 have:=UInt8.toNat_lt c
 split at h
 ·simp only[Option.some.injEq,Prod.mk.injEq]at h;omega
 ·split at h
  ·split at h
   ·cases h
   ·simp only[Option.some.injEq,Prod.mk.injEq]at h;omega
  ·cases h
theorem comb_over {k acc:Nat}{c:UInt8}{t:List UInt8}(h:18446744073709551616≤128^k*(c.toNat%128)):comb k acc (rd (c::t))=none:=by
 cases hr:rd (c::t)with
 | none=>rfl
 | some x =>
  obtain⟨m,r⟩:=x
  have h1:=rd_low hr
  have h2:128^k*(c.toNat%128)≤128^k*m:=Nat.mul_le_mul_left _ h1
  simp only[comb]
  rw[if_neg (by omega)]
theorem comb_far {k acc:Nat}(hk:10≤k) (x:Option (Nat×List UInt8)):comb k acc x=none:=by
 cases x with
 | none=>rfl
 | some x =>
  obtain⟨m,r⟩:=x
  simp only[comb]
  rw[if_neg]
  rintro⟨h1,h2⟩
  have h3:(128:Nat)^10≤128^k:=Nat.pow_le_pow_right (by omega) hk
  have h4:128^k*1≤128^k*m:=Nat.mul_le_mul_left _ (by omega)
  omega
end V
end Go.Proofs.YtdnijgdmohinlaaGreat
end
section
namespace Go.Proofs.YtdnijgdmohinlaaGreat
open Go.RowKit A R
namespace V
def gotN (s:ByteArray) (at_:Nat):Nat:=match rdB (s.data.toList.drop at_)with|some (n,_)=>n|none=>0
def gotE (s:ByteArray) (at_:Nat):Nat:=match rdB (s.data.toList.drop at_)with|some (_,r)=>s.size - r.length|none=>0
def gotB (s:ByteArray) (at_:Nat):Bool:=(rdB (s.data.toList.drop at_)).isSome
theorem got_none {s:ByteArray}{at_:Nat}(h:rdB (s.data.toList.drop at_)=none):gotN s at_=0∧gotE s at_=0∧gotB s at_=false:=by
 unfold gotN gotE gotB;rw[h];exact⟨rfl,rfl,rfl⟩
theorem got_some {s:ByteArray}{at_ n:Nat}{r:List UInt8}(h:rdB (s.data.toList.drop at_)=some (n,r)):gotN s at_=n∧gotE s at_=s.size - r.length∧gotB s at_=true:=by
 unfold gotN gotE gotB;rw[h];exact⟨rfl,rfl,rfl⟩
theorem low_bits (c:UInt8):IntKind.u64.wrap (BitVec.ofInt IntKind.u64.bits ((c.toNat:Nat):Int)&&&~~~BitVec.ofInt IntKind.u64.bits 128).toNat=((c.toNat%128:Nat):Int):=by
 have h:∀x:Fin 256,IntKind.u64.wrap (BitVec.ofInt IntKind.u64.bits ((x:Nat):Int)&&&~~~BitVec.ofInt IntKind.u64.bits 128).toNat=(((x:Nat)%128:Nat):Int):=by decide +kernel
 exact h ⟨c.toNat,UInt8.toNat_lt c⟩
theorem pow7 (k:Nat):(2:Nat)^(7*k)=128^k:=by rw[Nat.pow_mul]
theorem or_bits {a b k:Nat}(ha:a<128^k) (hb:128^k*b<18446744073709551616) (h:a+128^k*b<18446744073709551616):IntKind.u64.wrap (BitVec.ofInt IntKind.u64.bits (a:Int)|||BitVec.ofInt IntKind.u64.bits ((128^k*b:Nat):Int)).toNat=((a+128^k*b:Nat):Int):=by
 have e:a|||128^k*b=a+128^k*b:=by
  rw[←pow7]at *
  rw[Nat.or_comm,←Nat.two_pow_add_eq_or_of_lt ha]
  omega
 have e1:(BitVec.ofInt IntKind.u64.bits (a:Int)).toNat=a:=by
  show(BitVec.ofInt 64 (a:Int)).toNat=a
  rw[BitVec.ofInt_natCast,BitVec.toNat_ofNat];omega
 have e2:(BitVec.ofInt IntKind.u64.bits ((128^k*b:Nat):Int)).toNat=128^k*b:=by
  show(BitVec.ofInt 64 ((128^k*b:Nat):Int)).toNat=_
  rw[BitVec.ofInt_natCast,BitVec.toNat_ofNat];omega
 rw[BitVec.toNat_or,e1,e2,e]
 exact IntWalk.u64_in _ ⟨by omega,by omega⟩
theorem two_pow_cast (n:Nat):((2^n:Nat):Int)=(2:Int)^n:=by rw[Int.natCast_pow];rfl
theorem shl_bits (b sh:Nat):IntKind.u64.wrap ((b:Int)*2^((sh:Int)).toNat)=((b*2^sh%18446744073709551616:Nat):Int):=by
 rw[IntKind.wrap_u64,Int.toNat_natCast,←two_pow_cast,←Int.natCast_mul]
 generalize b*2^sh=x
 omega
theorem shr_bits (x sh:Nat):(x:Int) / 2^((sh:Int)).toNat=((x / 2^sh:Nat):Int):=by
 rw[Int.toNat_natCast,←two_pow_cast,Int.natCast_ediv]
theorem brk {k acc:Nat}{c:UInt8}{t:List UInt8}(h:64≤7*k∨c.toNat%128*2^(7*k)%18446744073709551616 / 2^(7*k)≠c.toNat%128∨(c.toNat=0∧0<k)):comb k acc (rd (c::t))=none:=by
 rcases h with h|h|⟨h,h2⟩
 ·exact comb_far (by omega) _
 ·refine comb_over ?_
  rw[←pow7]
  rcases Nat.lt_or_ge (2^(7*k)*(c.toNat%128)) 18446744073709551616 with hl|hl
  ·exfalso
   apply h
   rw[Nat.mul_comm,Nat.mod_eq_of_lt hl,Nat.mul_div_cancel_left _ (Nat.pow_pos (by omega))]
  ·exact hl
 ·rw[comb_last (by omega),if_neg (by omega)]
theorem no_over {k b:Nat}(h:b*2^(7*k)%18446744073709551616 / 2^(7*k)=b) (hk:¬64≤7*k):128^k*b<18446744073709551616:=by
 rw[←pow7]
 have hp:0<2^(7*k):=Nat.pow_pos (by omega)
 have h1:=Nat.mod_lt (b*2^(7*k)) (show 18446744073709551616>0 by omega)
 have h2:=Nat.div_mul_le_self (b*2^(7*k)%18446744073709551616) (2^(7*k))
 rw[h,Nat.mul_comm]at h2
 omega
theorem acc_fit {a b k:Nat}(ha:a<128^k) (hk:¬64≤7*k) (hb:128^k*b<18446744073709551616):a+128^k*b<18446744073709551616:=by
 rw[←pow7]at *
 have hp:0<2^(7*k):=Nat.pow_pos (by omega)
 have e:2^(7*k)*2^(64 - 7*k)=18446744073709551616:=by
  rw[←Nat.pow_add,show 7*k+(64 - 7*k)=64 by omega]
 have hb2:b<2^(64 - 7*k):=by
  rw[←e]at hb
  exact Nat.lt_of_mul_lt_mul_left hb
 have h3:2^(7*k)*(b+1)≤2^(7*k)*2^(64 - 7*k):=Nat.mul_le_mul_left _ hb2
 rw[e,Nat.mul_add]at h3
 omega
end V
set_option maxRecDepth 100000 in
theorem vread_a (s:ByteArray) (at_:Nat) (hs:s.size≤1000000):ACall Tryz.prog 331 [tv s,iv at_] (.tup [uv (V.gotN s at_),iv (V.gotE s at_),bv (V.gotB s at_)]):=by
 refine AC_G Tryz.func331 Tryz.ntmps331 (Reads.r3 Tryz.results331) λhok M0 w0 hnl=>?_
 refine Aw_sr ?_
 refine Al_mr ?_
 refine Al_mr ?_
 refine Al_mr ?_
 refine Al_nil (Aw_scope (Aw_seq (Aw_sr ?_)))
 refine Al_ml ?_
 refine Al_p Pu_cp ?_
 refine Al_ml ?_
 refine Al_s (St_g [] trivial (λ_=>Pu_mvl)) ?_
 refine Al_s (St_g [] trivial (λ_=>Pu_mvl)) ?_
 refine Al_s (St_g [15] ⟨⟨_,rfl⟩,trivial⟩ (λ_=>Pu_lenS rfl Tryz.underlying9 rfl)) ?_
 refine Al_s (St_g [14,16] ⟨⟨_,rfl⟩,⟨_,rfl⟩,trivial⟩ (λ_=>Pu_cp)) ?_
 refine Al_p Pu_o ?_
 refine Al_nil ?_
 refine Aw_cond rfl (λh18=>?_) (λh18=>?_)
 ·skip
  have hge:s.size≤at_:=by
   simp only[Bool.or_eq_true,decide_eq_true_eq]at h18
   omega
  obtain⟨e1,e2,e3⟩:=V.got_none (s:=s) (at_:=at_) (by rw[List.drop_eq_nil_of_le (by simpa using hge)];rfl)
  refine Aw_sr ?_
  refine Al_mr ?_
  refine Al_mr ?_
  refine Al_mr ?_
  refine Al_nil ?_
  exact Aw_ret (⟨_,_,_,rfl,Sub.num (by rw[e1];rfl),Sub.num (by rw[e2];rfl),Sub.bool (by rw[e3])⟩)
 ·skip
  have hlt:at_<s.size:=by
   simp only[Bool.or_eq_false_iff,decide_eq_false_iff_not]at h18
   omega
  refine Aw_skip (Aw_seq (Aw_label ?_))
  refine Aw_seq (Aw_sr ?_)
  refine Al_ml ?_
  refine Al_mr ?_
  refine Al_nil (Aw_block ?_)
  refine Aw_loopk (ι:=Nat×Nat) [0,1] [] (λ(k,acc)=>[(7,.d (iv ((at_+k:Nat):Int))),(4,.d (uv acc))]) (λ(k,acc)=>[]) (λ(k,acc)=>at_+k≤s.size∧acc<128^k∧acc<18446744073709551616∧V.rdB (s.data.toList.drop at_)=V.comb k acc (V.rd (s.data.toList.drop (at_+k)))) (λ(k,acc)=>s.size - (at_+k)) (0,0) (⟨by omega,by simp,by omega,rfl⟩) ⟨Sub.num (by omega),Sub.rfl,trivial⟩ trivial ?_
  rintro⟨k,acc⟩ ⟨hk1,hk2,hk3,hk4⟩
  refine Aw_seq (Aw_sr ?_)
  refine Al_ml ?_
  refine Al_ml ?_
  refine Al_p (Pu_lenS rfl Tryz.underlying9 rfl) ?_
  refine Al_p Pu_cp ?_
  refine Al_nil ?_
  refine Aw_cond rfl (λh23=>?_) (λh23=>?_)
  ·(try simp only[A.cd_]at h23)
   have hi:at_+k<s.size:=by omega
   have hdr:s.data.toList.drop (at_+k)=s[at_+k]::s.data.toList.drop (at_+k+1):=by
    rw[List.drop_eq_getElem_cons (by simpa using hi)];rfl
   rw[hdr]at hk4
   have hcl:=UInt8.toNat_lt s[at_+k]
   have q41:decide (64≤((7*k:Nat):Int))=false→(0:Int)≤((7*k:Nat):Int)∧((7*k:Nat):Int)≤(IntKind.u64.bits:Nat):=λh=>by
    have:=of_decide_eq_false h
    exact⟨by omega,by show((7*k:Nat):Int)≤64;omega⟩
   have q2:vok (.int .u64 ((s[at_+k].toNat%128*2^(7*k)%18446744073709551616:Nat):Int)):=⟨by omega,by omega⟩
   have q3:vok (.int .u64 ((s[at_+k].toNat%128*2^(7*k)%18446744073709551616 / 2^(7*k):Nat):Int)):=by
    have:=Nat.div_le_self (s[at_+k].toNat%128*2^(7*k)%18446744073709551616) (2^(7*k))
    have h2:=Nat.mod_lt (s[at_+k].toNat%128*2^(7*k)) (show 18446744073709551616>0 by omega)
    exact⟨Int.natCast_nonneg _,Int.ofNat_le.2 (Nat.le_trans this (Nat.le_of_lt_succ h2))⟩
   refine Aw_skip (Aw_seq (Aw_block (Aw_sr ?_)))
   refine Al_ml ?_
   refine Al_ml ?_
   refine Al_p (Pu_indexS rfl Tryz.underlying9 rfl rfl (rfl) (getS hi)) ?_
   refine Al_p (Pu_conv rfl Tryz.underlying5 Tryz.underlying271 rfl (λhv=>u64_nat (by omega) (by simp only[vok,A.inI]at hv;omega))) ?_
   refine Al_mr ?_
   refine Al_ns ?_
   refine Al_ml ?_
   refine Al_ml ?_
   refine Al_p (Pu_sub rfl rfl rfl (λh1 h2=>by simp only[A.inI,A.maxI]at *;omega)) ?_
   refine Al_p (Pu_int_mul (r:=((7*k:Nat):Int)) rfl rfl rfl (by rw[show(7:Int)*(((at_+k:Nat):Int) - (at_:Int))=((7*k:Nat):Int)from by omega];exact IntWalk.i64_in _ (by omega)) (λ_=>by show A.inI _;simp only[A.inI];omega)) ?_
   refine Al_mr ?_
   refine Al_ns ?_
   refine Al_ml ?_
   refine Al_p (Pu_int_andNot (r:=((s[at_+k].toNat%128:Nat):Int)) rfl rfl rfl (V.low_bits _) (λ_=>by constructor<;>omega)) ?_
   refine Al_mr ?_
   refine Al_nil (Aw_seq (Aw_sr ?_))
   refine Al_ml ?_
   refine Al_p Pu_cp ?_
   refine Al_ml ?_
   refine Al_s (St_g [] trivial (λ_=>Pu_mvl)) ?_
   refine Al_s (St_g [] trivial (λ_=>Pu_mvl)) ?_
   refine Al_s (St_g [39,40] ⟨⟨_,rfl⟩,⟨_,rfl⟩,trivial⟩ (λhg41=>Pu_int_shl rfl rfl rfl (q41 hg41) (V.shl_bits (s[at_+k].toNat%128) (7*k)) (λ_=>q2))) ?_
   refine Al_s (St_g [] trivial (λ_=>Pu_mvl)) ?_
   refine Al_s (St_g [41,42] ⟨⟨_,rfl⟩,⟨_,rfl⟩,trivial⟩ (λhg43=>Pu_int_shr rfl rfl rfl (q41 hg43) (V.shr_bits (s[at_+k].toNat%128*2^(7*k)%18446744073709551616) (7*k)) (λ_=>q3))) ?_
   refine Al_s (St_g [] trivial (λ_=>Pu_mvl)) ?_
   refine Al_s (St_g [43,44] ⟨⟨_,rfl⟩,⟨_,rfl⟩,trivial⟩ (λ_=>Pu_cp)) ?_
   refine Al_p Pu_o ?_
   refine Al_ml ?_
   refine Al_s (St_g [] trivial (λ_=>Pu_mvl)) ?_
   refine Al_s (St_g [48] ⟨⟨_,rfl⟩,trivial⟩ (λ_=>Pu_cp)) ?_
   refine Al_s (St_g [49] ⟨⟨_,rfl⟩,trivial⟩ (λ_=>Pu_mvl)) ?_
   refine Al_s (St_gd2 [] rfl rfl rfl rfl trivial (λhp51 hg51=>Pu_mvl)) ?_
   refine Al_s (St_gd2 [] rfl rfl rfl rfl trivial (λhp52 hg52=>Pu_mvl)) ?_
   refine Al_s (St_gd2 [51,52] rfl rfl rfl rfl ⟨⟨_,rfl⟩,⟨_,rfl⟩,trivial⟩ (λhp53 hg53=>Pu_cp)) ?_
   refine Al_s (St_g [50] ⟨⟨_,rfl⟩,trivial⟩ (λhg54=>Pu_andG rfl rfl (λh=>⟨hg54,h⟩) rfl rfl)) ?_
   refine Al_p Pu_o ?_
   refine Al_nil ?_
   refine Aw_cond rfl (λh55=>?_) (λh55=>?_)
   ·skip
    have hbk:V.rdB (s.data.toList.drop at_)=none:=by
     rw[hk4]
     refine V.brk ?_
     simp only[Bool.or_eq_true,Bool.and_eq_true,Bool.not_eq_true',decide_eq_true_eq,decide_eq_false_iff_not]at h55
     rcases h55 with(h|h)|⟨h,h'⟩
     ·exact .inl (by omega)
     ·exact .inr (.inl λe=>h (by rw[e]))
     ·exact .inr (.inr ⟨by omega,by omega⟩)
    obtain⟨e1,e2,e3⟩:=V.got_none hbk
    refine Aw_exit (Aw_sr ?_)
    refine Al_mr ?_
    refine Al_mr ?_
    refine Al_mr ?_
    refine Al_nil ?_
    exact Aw_ret (⟨_,_,_,rfl,Sub.num (by rw[e1];rfl),Sub.num (by rw[e2];rfl),Sub.bool (by rw[e3])⟩)
   ·skip
    have hsf:¬64≤7*k∧s[at_+k].toNat%128*2^(7*k)%18446744073709551616 / 2^(7*k)=s[at_+k].toNat%128∧(k=0∨s[at_+k].toNat≠0):=by
     simp only[Bool.or_eq_false_iff,Bool.and_eq_false_iff,Bool.not_eq_false',decide_eq_true_eq,decide_eq_false_iff_not]at h55
     obtain⟨⟨h,h'⟩,h''⟩:=h55
     exact⟨by omega,Int.ofNat_inj.1 h',by omega⟩
    obtain⟨s1,s2,s3⟩:=hsf
    have hov:=V.no_over s2 s1
    have hfit:=V.acc_fit hk2 s1 hov
    have q59:(0:Int)≤((7*k:Nat):Int)∧((7*k:Nat):Int)≤(IntKind.u64.bits:Nat):=⟨by omega,by show((7*k:Nat):Int)≤64;omega⟩
    have q60:IntKind.u64.wrap (((s[at_+k].toNat%128:Nat):Int)*2^(((7*k:Nat):Int)).toNat)=((128^k*(s[at_+k].toNat%128):Nat):Int):=by
     rw[V.shl_bits,V.pow7,Nat.mul_comm,Nat.mod_eq_of_lt hov]
    refine Aw_skip (Aw_sr ?_)
    refine Al_ml ?_
    refine Al_ml ?_
    refine Al_ml ?_
    refine Al_p (Pu_int_shl rfl rfl rfl q59 q60 (λ_=>by exact⟨by omega,by omega⟩)) ?_
    refine Al_p (Pu_int_or rfl rfl rfl (V.or_bits hk2 hov hfit) (λ_=>by exact⟨by omega,by omega⟩)) ?_
    refine Al_mr ?_
    refine Al_ns ?_
    refine Al_ml ?_
    refine Al_p Pu_cp ?_
    refine Al_nil ?_
    refine Aw_cond rfl (λh62=>?_) (λh62=>?_)
    ·(try simp only[A.cd_]at h62)
     have hsm:s[at_+k].toNat<128:=by omega
     have hmo:s[at_+k].toNat%128=s[at_+k].toNat:=Nat.mod_eq_of_lt hsm
     rw[hmo]at hfit
     have hgot:=V.got_some (s:=s) (at_:=at_) (n:=acc+128^k*s[at_+k].toNat) (r:=s.data.toList.drop (at_+k+1)) (by rw[hk4,V.comb_last hsm,if_pos ⟨s3,hfit⟩])
     obtain⟨e1,e2,e3⟩:=hgot
     have elen:(s.data.toList.drop (at_+k+1)).length=s.size - (at_+k+1):=by rw[List.length_drop];rfl
     refine Aw_sr ?_
     refine Al_ml ?_
     refine Al_ml ?_
     refine Al_p Pu_ad ?_
     refine Al_mr ?_
     refine Al_mr ?_
     refine Al_mr ?_
     refine Al_nil ?_
     exact Aw_ret (⟨_,_,_,rfl,Sub.num (by rw[e1,hmo]),Sub.num (by rw[e2,elen];omega),Sub.bool (by rw[e3])⟩)
    ·(try simp only[A.cd_]at h62)
     have hbg:128≤s[at_+k].toNat:=by omega
     have hmo:s[at_+k].toNat%128=s[at_+k].toNat - 128:=by omega
     have hacc:acc+128^k*(s[at_+k].toNat%128)<128^(k+1):=by
      have h1:128^k*(s[at_+k].toNat%128)≤128^k*127:=Nat.mul_le_mul_left _ (by omega)
      rw[Nat.pow_succ];omega
     refine Aw_skip (Aw_region ?_)
     refine Al_ml ?_
     refine Al_p Pu_ad ?_
     refine Al_mr ?_
     refine Al_nil ?_
     exact⟨(k+1,acc+128^k*(s[at_+k].toNat%128)),⟨by omega,hacc,hfit,by rw[hk4,V.comb_more hbg,hmo];rfl⟩,by simp only[];omega,Le.ov ⟨Sub.num (by omega),Sub.rfl,trivial⟩ ⟨Sub.rfl,Sub.rfl,trivial⟩ trivial trivial⟩
  ·(try simp only[A.cd_]at h23)
   have hend:s.size≤at_+k:=by omega
   rw[List.drop_eq_nil_of_le (show s.data.toList.length≤at_+k from hend)]at hk4
   obtain⟨e1,e2,e3⟩:=V.got_none (s:=s) (at_:=at_) hk4
   refine Aw_exit (Aw_sr ?_)
   refine Al_mr ?_
   refine Al_mr ?_
   refine Al_mr ?_
   refine Al_nil ?_
   exact Aw_ret (⟨_,_,_,rfl,Sub.num (by rw[e1];rfl),Sub.num (by rw[e2];rfl),Sub.bool (by rw[e3])⟩)
end Go.Proofs.YtdnijgdmohinlaaGreat
namespace Go.Proofs.YtdnijgdmohinlaaGreat
namespace V
def ptext (most:Nat) (r:List UInt8):Option (List UInt8×List UInt8):=match rdB r with
 | some (n,t)=>if n≤most∧n≤t.length then some (t.take n,t.drop n)else none
 | none=>none
theorem rdB_suf {r t:List UInt8}{n:Nat}(h:rdB r=some (n,t)):n<18446744073709551616∧r=num n++t:=by
 unfold rdB at h
 cases hr:rd r with
 | none=>rw[hr]at h;cases h
 | some x =>
  obtain⟨m,t'⟩:=x
  rw[hr]at h
  simp only[comb]at h
  split at h
  ·rename_i hc
   simp only[Option.some.injEq,Prod.mk.injEq]at h
   obtain⟨h1,rfl⟩:=h
   have:m=n:=by omega
   subst this
   exact⟨by omega,rd_some _ _ _ hr⟩
  ·cases h
theorem rdB_num {n:Nat}(hn:n<18446744073709551616) (t:List UInt8):rdB (num n++t)=some (n,t):=by
 unfold rdB
 rw[rd_num]
 simp only[comb]
 rw[if_pos ⟨.inl trivial,by omega⟩]
 simp
theorem text_ba (x:List UInt8):text (ba x)=num x.length++x:=by
 unfold text;rw[A.ba_sz]
theorem ptext_iff {most:Nat}{r t:List UInt8}{x:List UInt8}(hm:most<18446744073709551616):ptext most r=some (x,t)↔x.length≤most∧r=text (ba x)++t:=by
 rw[text_ba]
 unfold ptext
 constructor
 ·intro h
  split at h
  ·rename_i n' t' hr
   split at h
   ·rename_i hc
    simp only[Option.some.injEq,Prod.mk.injEq]at h
    obtain⟨rfl,rfl⟩:=h
    have hl:(t'.take n').length=n':=by simp;omega
    rw[hl]
    exact⟨hc.1,by rw[(rdB_suf hr).2,List.append_assoc,List.take_append_drop]⟩
   ·cases h
  ·cases h
 ·rintro⟨h1,rfl⟩
  rw[List.append_assoc,rdB_num (by omega)]
  simp[h1]
theorem drop_suf {s:ByteArray}{r:List UInt8}(h:r <:+s.data.toList):s.data.toList.drop (s.size - r.length)=r:=by
 obtain⟨p,hp⟩:=h
 have hs:s.size=p.length+r.length:=by
  show s.data.size=_
  rw[←Array.length_toList,←hp,List.length_append]
 rw[←hp,hs,Nat.add_sub_cancel,List.drop_left]
theorem suf_app {p t l:List UInt8}(h:p++t <:+l):t <:+l:=(List.suffix_append p t).trans h
theorem suf_len {s:ByteArray}{r:List UInt8}(h:r <:+s.data.toList):r.length≤s.size:=by
 have:=h.length_le
 rwa [Array.length_toList]at this
end V
end Go.Proofs.YtdnijgdmohinlaaGreat
namespace Go.Proofs.YtdnijgdmohinlaaGreat
open Go.RowKit A R
namespace V
def rtT (s:ByteArray) (at_ most:Nat):ByteArray:=match ptext most (s.data.toList.drop at_)with|some (x,_)=>ba x|none=>⟨#[]⟩
def rtE (s:ByteArray) (at_ most:Nat):Nat:=match ptext most (s.data.toList.drop at_)with|some (_,t)=>s.size - t.length|none=>0
def rtB (s:ByteArray) (at_ most:Nat):Bool:=(ptext most (s.data.toList.drop at_)).isSome
theorem got_cases (s:ByteArray) (at_:Nat):(gotB s at_=false∧gotN s at_=0∧gotE s at_=0∧rdB (s.data.toList.drop at_)=none)∨∃n t,gotB s at_=true∧gotN s at_=n∧gotE s at_=s.size - t.length∧rdB (s.data.toList.drop at_)=some (n,t)∧n<18446744073709551616∧t <:+s.data.toList:=by
 cases h:rdB (s.data.toList.drop at_)with
 | none=>obtain⟨e1,e2,e3⟩:=got_none h;exact .inl ⟨e3,e1,e2,rfl⟩
 | some x =>
  obtain⟨n,t⟩:=x
  obtain⟨e1,e2,e3⟩:=got_some h
  obtain⟨h1,h2⟩:=rdB_suf h
  exact .inr ⟨n,t,e3,e1,e2,rfl,h1,suf_app (p:=num n) (by rw[←h2];exact List.drop_suffix _ _)⟩
theorem cut_ba (s:ByteArray) (t:List UInt8) (n:Nat) (h:t <:+s.data.toList) (hn:n≤t.length):s.extract (s.size - t.length) (s.size - t.length+n)=ba (t.take n):=by
 apply ByteArray.ext
 apply Array.ext'
 rw[ByteArray.data_extract]
 rw[Array.toList_extract]
 simp only[List.extract]
 show List.take _ (List.drop _ _)=t.take n
 rw[drop_suf h,Nat.add_sub_cancel_left]
theorem rt_none {s:ByteArray}{at_ most:Nat}(h:ptext most (s.data.toList.drop at_)=none):rtT s at_ most=⟨#[]⟩∧rtE s at_ most=0∧rtB s at_ most=false:=by
 unfold rtT rtE rtB;rw[h];exact⟨rfl,rfl,rfl⟩
theorem rt_some {s:ByteArray}{at_ most:Nat}{x t:List UInt8}(h:ptext most (s.data.toList.drop at_)=some (x,t)):rtT s at_ most=ba x∧rtE s at_ most=s.size - t.length∧rtB s at_ most=true:=by
 unfold rtT rtE rtB;rw[h];exact⟨rfl,rfl,rfl⟩
end V
set_option maxRecDepth 100000 in
theorem readtext_a (s:ByteArray) (at_ most:Nat) (hs:s.size≤1000000) (hm:most≤1000000):ACall Tryz.prog 330 [tv s,iv at_,iv most] (.tup [tv (V.rtT s at_ most),iv (V.rtE s at_ most),bv (V.rtB s at_ most)]):=by
 refine AC_G Tryz.func330 Tryz.ntmps330 (Reads.r3 Tryz.results330) λhok M0 w0 hnl=>?_
 have hcs:=V.got_cases s at_
 have hE:V.gotE s at_≤s.size:=by
  rcases hcs with⟨_,_,h,_⟩|⟨n,t,_,_,h,_⟩<;>omega
 have hN:V.gotN s at_<18446744073709551616:=by
  rcases hcs with⟨_,h,_,_⟩|⟨n,t,_,h,_,_,h2,_⟩<;>omega
 refine Aw_sr ?_
 refine Al_mr ?_
 refine Al_mr ?_
 refine Al_mr ?_
 refine Al_ns ?_
 refine Al_ml ?_
 refine Al_ml ?_
 refine Al_p (Pu_call (vread_a s at_ hs) rfl ⟨Sub.rfl,Sub.rfl,trivial⟩) ?_
 refine Al_ml ?_
 refine Al_p Pu_ex ?_
 refine Al_p Pu_ex ?_
 refine Al_p Pu_ex ?_
 refine Al_mr ?_
 refine Al_mr ?_
 refine Al_mr ?_
 refine Al_nil (Aw_seq (Aw_sr ?_))
 refine Al_ml ?_
 refine Al_p Pu_n ?_
 refine Al_ml ?_
 refine Al_s (St_g [] trivial (λ_=>Pu_mvl)) ?_
 refine Al_s (St_g [21] ⟨⟨_,rfl⟩,trivial⟩ (λ_=>Pu_cp)) ?_
 refine Al_p Pu_o ?_
 refine Al_ml ?_
 refine Al_s (St_g [] trivial (λ_=>Pu_mvl)) ?_
 refine Al_s (St_g [] trivial (λ_=>Pu_mvl)) ?_
 refine Al_s (St_gd [26] rfl rfl rfl rfl ⟨⟨_,rfl⟩,trivial⟩ (λhg27=>by exact Pu_conv rfl Tryz.underlying3 Tryz.underlying271 rfl (λhv=>u64_nat (by omega) (by simp only[vok,A.inI]at hv;omega)))) ?_
 refine Al_s (St_g [25,27] ⟨⟨_,rfl⟩,⟨_,rfl⟩,trivial⟩ (λ_=>Pu_cp)) ?_
 refine Al_p Pu_o ?_
 refine Al_ml ?_
 refine Al_s (St_g [] trivial (λ_=>Pu_mvl)) ?_
 refine Al_s (St_g [] trivial (λ_=>Pu_mvl)) ?_
 refine Al_s (St_g [32] ⟨⟨_,rfl⟩,trivial⟩ (λ_=>Pu_lenS rfl Tryz.underlying9 rfl)) ?_
 refine Al_s (St_g [] trivial (λ_=>Pu_mvl)) ?_
 refine Al_s (St_gd [33,34] rfl rfl rfl rfl ⟨⟨_,rfl⟩,⟨_,rfl⟩,trivial⟩ (λhg35=>by exact Pu_sub rfl rfl rfl (λh1 h2=>by simp only[A.inI,A.maxI]at *;omega))) ?_
 refine Al_s (St_gd [35] rfl rfl rfl rfl ⟨⟨_,rfl⟩,trivial⟩ (λhg36=>by exact Pu_conv rfl Tryz.underlying3 Tryz.underlying271 rfl (λhv=>u64_nat (by omega) (by omega)))) ?_
 refine Al_s (St_g [31,36] ⟨⟨_,rfl⟩,⟨_,rfl⟩,trivial⟩ (λ_=>Pu_cp)) ?_
 refine Al_p Pu_o ?_
 refine Al_nil ?_
 refine Aw_cond rfl (λh38=>?_) (λh38=>?_)
 ·skip
  have hno:V.ptext most (s.data.toList.drop at_)=none:=by
   simp only[Bool.or_eq_true,Bool.not_eq_true',decide_eq_true_eq]at h38
   unfold V.ptext
   rcases hcs with⟨h1,h2,h3,h4⟩|⟨n,t,h1,h2,h3,h4,h5,h6⟩
   ·rw[h4]
   ·rw[h4]
    have hl:=V.suf_len h6
    rw[h1,h2,h3]at h38
    simp only
    rw[if_neg]
    rintro⟨k1,k2⟩
    rcases h38 with(((h|h)|h)|h)
    ·cases h
    ·omega
    ·omega
    ·omega
  obtain⟨e1,e2,e3⟩:=V.rt_none hno
  refine Aw_sr ?_
  refine Al_mr ?_
  refine Al_mr ?_
  refine Al_mr ?_
  refine Al_nil ?_
  exact Aw_ret (⟨_,_,_,rfl,Sub.str (by rw[e1]),Sub.num (by rw[e2];rfl),Sub.bool (by rw[e3])⟩)
 ·skip
  have hyes:∃n t,V.gotN s at_=n∧V.gotE s at_=s.size - t.length∧V.ptext most (s.data.toList.drop at_)=some (t.take n,t.drop n)∧n≤t.length∧t <:+s.data.toList∧n≤most:=by
   simp only[Bool.or_eq_false_iff,Bool.not_eq_false',decide_eq_false_iff_not]at h38
   obtain⟨⟨⟨h38,h39⟩,h40⟩,h41⟩:=h38
   rcases hcs with⟨h1,h2,h3,h4⟩|⟨n,t,h1,h2,h3,h4,h5,h6⟩
   ·rw[h1]at h38;cases h38
   ·have hl:=V.suf_len h6
    rw[h2]at h40 h41
    rw[h3]at h41
    refine⟨n,t,h2,h3,?_,by omega,h6,by omega⟩
    unfold V.ptext
    rw[h4]
    simp only
    rw[if_pos ⟨by omega,by omega⟩]
  obtain⟨n,t,k1,k2,k3,k4,k5,k6⟩:=hyes
  have hl:=V.suf_len k5
  obtain⟨e1,e2,e3⟩:=V.rt_some k3
  rw[k1,k2]
  refine Aw_skip (Aw_sr ?_)
  refine Al_ml ?_
  refine Al_ml ?_
  refine Al_p (Pu_conv rfl Tryz.underlying271 Tryz.underlying3 rfl (λhv=>i64_nat (by simp only[A.inI];omega))) ?_
  refine Al_p Pu_ad ?_
  refine Al_mr ?_
  refine Al_ns ?_
  refine Al_ml ?_
  refine Al_ml ?_
  refine Al_ml ?_
  refine Al_p (Pu_subS ((s.size - t.length)) ((s.size - t.length+n)) rfl Tryz.underlying9 rfl ⟨_,rfl,by omega⟩ ⟨_,rfl,by omega⟩ ⟨by omega,by omega⟩) ?_
  refine Al_ml ?_
  refine Al_mr ?_
  refine Al_mr ?_
  refine Al_mr ?_
  refine Al_nil ?_
  exact Aw_ret (⟨_,_,_,rfl,Sub.str (by rw[e1];exact V.cut_ba s t n k5 k4),Sub.num (by rw[e2];simp;omega),Sub.bool (by rw[e3])⟩)
end Go.Proofs.YtdnijgdmohinlaaGreat
namespace Go.Proofs.YtdnijgdmohinlaaGreat
open Go.RowKit A R
namespace V
abbrev pos (s:ByteArray) (r:List UInt8):Nat:=s.size - r.length
theorem data_ba (l:List UInt8):(ba l).data.toList=l:=by simp[ba]
end V
end Go.Proofs.YtdnijgdmohinlaaGreat
end
section
namespace Go.Proofs.YtdnijgdmohinlaaGreat
open Go.RowKit A R
namespace V
def pst (r:List UInt8):Option ((Nat×Nat)×List UInt8):=match rdB r with
 | none=>none
 | some (n,t)=>match rdB t with
  | none=>none
  | some (i,u)=>if 1≤n∧n≤1099511627776∧i<6 then some ((n,i),u)else none
def stN (s:ByteArray) (at_:Nat):Nat:=match pst (s.data.toList.drop at_)with|some ((n,_),_)=>n|none=>0
def stI (s:ByteArray) (at_:Nat):Nat:=match pst (s.data.toList.drop at_)with|some ((_,i),_)=>i|none=>0
def stEn (s:ByteArray) (at_:Nat):Nat:=match pst (s.data.toList.drop at_)with|some (_,u)=>s.size - u.length|none=>0
def stB (s:ByteArray) (at_:Nat):Bool:=(pst (s.data.toList.drop at_)).isSome
theorem pst_iff {r u:List UInt8}{n i:Nat}:pst r=some ((n,i),u)↔(1≤n∧n≤1099511627776∧i<6)∧r=num n++(num i++u):=by
 unfold pst
 constructor
 ·intro h
  split at h
  ·cases h
  ·rename_i m t h1
   split at h
   ·cases h
   ·rename_i j v h2
    split at h
    ·rename_i hc
     simp only[Option.some.injEq,Prod.mk.injEq]at h
     obtain⟨⟨rfl,rfl⟩,rfl⟩:=h
     exact⟨hc,by rw[(rdB_suf h1).2,(rdB_suf h2).2]⟩
    ·cases h
 ·rintro⟨hc,rfl⟩
  rw[rdB_num (by omega)]
  simp only
  rw[rdB_num (by omega)]
  simp only
  rw[if_pos hc]
theorem st_yes {s:ByteArray}{at_:Nat}(h1:gotB s at_=true) (h2:gotB s (gotE s at_)=true) (h3:stampB (gotN s at_:Nat) (gotN s (gotE s at_):Nat)=true):stN s at_=gotN s at_∧stI s at_=gotN s (gotE s at_)∧stEn s at_=gotE s (gotE s at_)∧stB s at_=true:=by
 rcases got_cases s at_ with⟨k1,_⟩|⟨n,t,_,k2,k3,k4,k5,k6⟩
 ·rw[k1]at h1;cases h1
 rcases got_cases s (gotE s at_)with⟨j1,_⟩|⟨i,u,_,j2,j3,j4,j5,j6⟩
 ·rw[j1]at h2;cases h2
 rw[k2,j2,stampB_iff]at h3
 have j4':rdB t=some (i,u):=by rw[k3,drop_suf k6]at j4;exact j4
 have hp:pst (s.data.toList.drop at_)=some ((n,i),u):=by
  unfold pst;rw[k4];simp only;rw[j4'];simp only;rw[if_pos (by omega)]
 unfold stN stI stEn stB
 rw[hp,k2,j2,j3]
 exact⟨rfl,rfl,rfl,rfl⟩
theorem st_none {s:ByteArray}{at_:Nat}(h:pst (s.data.toList.drop at_)=none):stN s at_=0∧stI s at_=0∧stEn s at_=0∧stB s at_=false:=by
 unfold stN stI stEn stB;rw[h];exact⟨rfl,rfl,rfl,rfl⟩
theorem st_no {s:ByteArray}{at_:Nat}(h:gotB s at_=true→gotB s (gotE s at_)=true→stampB (gotN s at_:Nat) (gotN s (gotE s at_):Nat)=false):stN s at_=0∧stI s at_=0∧stEn s at_=0∧stB s at_=false:=by
 apply st_none
 rcases got_cases s at_ with⟨_,_,_,k4⟩|⟨n,t,k1,k2,k3,k4,k5,k6⟩
 ·unfold pst;rw[k4]
 rcases got_cases s (gotE s at_)with⟨_,_,_,j4⟩|⟨i,u,j1,j2,j3,j4,j5,j6⟩
 ·have j4':rdB t=none:=by rw[k3,drop_suf k6]at j4;exact j4
  unfold pst;rw[k4];simp only;rw[j4']
 have h3:=h k1 j1
 have j4':rdB t=some (i,u):=by rw[k3,drop_suf k6]at j4;exact j4
 have h4:¬(1≤n∧n≤1099511627776∧i<6):=λhc=>by
  have:stampB (gotN s at_:Nat) (gotN s (gotE s at_):Nat)=true:=stampB_iff.2 (by rw[k2,j2];omega)
  rw[h3]at this;cases this
 unfold pst;rw[k4];simp only;rw[j4'];simp only;rw[if_neg h4]
end V
set_option maxRecDepth 100000 in
theorem vstread_a (s:ByteArray) (at_:Nat) (hs:s.size≤1000000):ACall Tryz.prog 257 [tv s,iv at_] (.tup [.row [iv (V.stN s at_),iv (V.stI s at_)],iv (V.stEn s at_),bv (V.stB s at_)]):=by
 refine AC_G Tryz.func257 Tryz.ntmps257 (Reads.cN2 Tryz.results257 Tryz.isAgg47 Tryz.sizeOf47) λhok M0 w0 hnl=>?_
 refine Aw_sr ?_
 refine Al_al Tryz.zeroValue47 λg4=>?_
 refine Al_mr ?_
 refine Al_mr ?_
 refine Al_ns ?_
 refine Al_ml ?_
 refine Al_ml ?_
 refine Al_p (Pu_call (vread_a s at_ hs) rfl ⟨Sub.rfl,Sub.rfl,trivial⟩) ?_
 refine Al_ml ?_
 refine Al_p Pu_ex ?_
 refine Al_p Pu_ex ?_
 refine Al_p Pu_ex ?_
 refine Al_mr ?_
 refine Al_mr ?_
 refine Al_mr ?_
 refine Al_ns ?_
 refine Al_ml ?_
 refine Al_ml ?_
 refine Al_p (Pu_call (vread_a s (V.gotE s at_) hs) rfl ⟨Sub.rfl,Sub.rfl,trivial⟩) ?_
 refine Al_ml ?_
 refine Al_p Pu_ex ?_
 refine Al_p Pu_ex ?_
 refine Al_p Pu_ex ?_
 refine Al_mr ?_
 refine Al_mr ?_
 refine Al_mr ?_
 refine Al_nil (Aw_seq (Aw_sr ?_))
 refine Al_ml ?_
 refine Al_p Pu_n ?_
 refine Al_ml ?_
 refine Al_s (St_g [] trivial (λ_=>Pu_mvl)) ?_
 refine Al_s (St_g [29] ⟨⟨_,rfl⟩,trivial⟩ (λ_=>Pu_n)) ?_
 refine Al_p Pu_o ?_
 refine Al_ml ?_
 refine Al_s (St_g [] trivial (λ_=>Pu_mvl)) ?_
 refine Al_s (St_g [33] ⟨⟨_,rfl⟩,trivial⟩ (λ_=>Pu_cp)) ?_
 refine Al_p Pu_o ?_
 refine Al_ml ?_
 refine Al_s (St_g [] trivial (λ_=>Pu_mvl)) ?_
 refine Al_s (St_g [37] ⟨⟨_,rfl⟩,trivial⟩ (λ_=>Pu_cp)) ?_
 refine Al_p Pu_o ?_
 refine Al_nil ?_
 refine Aw_cond rfl (λh39=>?_) (λh39=>?_)
 ·skip
  obtain⟨e1,e2,e3,e4⟩:=V.st_no (s:=s) (at_:=at_) (λc1 c2=>by
   rw[c1,c2]at h39
   simp only[Bool.not_true,Bool.false_or,Bool.or_eq_true,decide_eq_true_eq]at h39
   cases hb:V.stampB (V.gotN s at_:Nat) (V.gotN s (V.gotE s at_):Nat)with
   | false=>rfl
   | true=>have:=V.stampB_iff.1 hb;omega)
  refine Aw_sr ?_
  refine Al_p (Pu_build (aa:=[]) rfl Tryz.underlying47 Tryz.zeroValue47 places47 (by kernel_rfl) trivial rfl) ?_
  refine Al_sN Tryz.isAgg47 Tryz.sizeOf47 ?_
  refine Al_mr ?_
  refine Al_mr ?_
  refine Al_nil ?_
  exact Aw_ret (⟨_,_,_,_,_,[_,_],iv (V.stEn s at_),bv (V.stB s at_),rfl,rfl,rfl,rfl,Sub.num (by rw[e3];rfl),Sub.bool (by rw[e4]),by rw[e1,e2];rfl⟩)
 ·skip
  simp only[Bool.or_eq_false_iff,Bool.not_eq_false',decide_eq_false_iff_not]at h39
  refine Aw_skip (Aw_sr ?_)
  refine Al_ml ?_
  refine Al_p (Pu_conv rfl Tryz.underlying271 Tryz.underlying3 rfl (λhv=>i64_nat (by simp only[vok,A.inI]at *;omega))) ?_
  refine Al_ml ?_
  refine Al_p (Pu_conv rfl Tryz.underlying271 Tryz.underlying3 rfl (λhv=>i64_nat (by simp only[vok,A.inI]at *;omega))) ?_
  refine Al_p (Pu_build (aa:=[(0,_),(1,_)]) rfl Tryz.underlying47 Tryz.zeroValue47 places47 (by kernel_rfl) ⟨rfl,rfl,rfl,rfl,rfl,rfl,trivial⟩ rfl) ?_
  refine Al_sN Tryz.isAgg47 Tryz.sizeOf47 ?_
  refine Al_nil (Aw_seq (Aw_sr ?_))
  refine Al_p (Pu_lbN (r:=[_,_]) Tryz.isAgg47 Tryz.sizeOf47) ?_
  refine Al_p (Pu_call (stcheck_a _ _) rfl ⟨Sub.rfl,trivial⟩) ?_
  refine Al_p Pu_n ?_
  refine Al_nil ?_
  refine Aw_cond rfl (λh48=>?_) (λh48=>?_)
  ·(try simp only[A.cd_]at h48)
   obtain⟨e1,e2,e3,e4⟩:=V.st_no (s:=s) (at_:=at_) (λc1 c2=>h48)
   refine Aw_sr ?_
   refine Al_p (Pu_build (aa:=[]) rfl Tryz.underlying47 Tryz.zeroValue47 places47 (by kernel_rfl) trivial rfl) ?_
   refine Al_sN Tryz.isAgg47 Tryz.sizeOf47 ?_
   refine Al_mr ?_
   refine Al_mr ?_
   refine Al_nil ?_
   exact Aw_ret (⟨_,_,_,_,_,[_,_],iv (V.stEn s at_),bv (V.stB s at_),rfl,rfl,rfl,rfl,Sub.num (by rw[e3];rfl),Sub.bool (by rw[e4]),by rw[e1,e2];rfl⟩)
  ·(try simp only[A.cd_]at h48)
   obtain⟨e1,e2,e3,e4⟩:=V.st_yes (s:=s) (at_:=at_) h39.1.1.1 h39.1.1.2 h48
   refine Aw_skip (Aw_sr ?_)
   refine Al_p (Pu_lbN (r:=[_,_]) Tryz.isAgg47 Tryz.sizeOf47) ?_
   refine Al_ml ?_
   refine Al_sN Tryz.isAgg47 Tryz.sizeOf47 ?_
   refine Al_mr ?_
   refine Al_mr ?_
   refine Al_nil ?_
   exact Aw_ret (⟨_,_,_,_,_,[_,_],iv (V.stEn s at_),bv (V.stB s at_),rfl,rfl,rfl,rfl,Sub.num (by rw[e3]),Sub.bool (by rw[e4]),by rw[e1,e2]⟩)
end Go.Proofs.YtdnijgdmohinlaaGreat
end
section
set_option maxRecDepth 100000
namespace Go.Proofs.YtdnijgdmohinlaaGreat
open Go Go.RowKit A R
theorem vread_y (s:ByteArray) (n:Nat) (t:List UInt8) (hs:s.size≤1000000) (hn:n<18446744073709551616) (hr:V.num n++t <:+s.data.toList):ACall Tryz.prog 331 [tv s,iv (V.pos s (V.num n++t))] (.tup [uv n,iv (V.pos s t),bv true]):=by
 have h1:V.rdB (s.data.toList.drop (V.pos s (V.num n++t)))=some (n,t):=by
  rw[V.drop_suf hr];exact V.rdB_num hn t
 obtain⟨e1,e2,e3⟩:=V.got_some h1
 have:=vread_a s (V.pos s (V.num n++t)) hs
 rw[e1,e2,e3]at this
 exact this
theorem tread_y (s x:ByteArray) (t:List UInt8) (most:Nat) (hs:s.size≤1000000) (hm:most≤1000000) (hx:x.size≤most) {r:List UInt8}(hre:r=V.text x++t) (hr:r <:+s.data.toList):ACall Tryz.prog 330 [tv s,iv (V.pos s r),iv most] (.tup [tv x,iv (V.pos s t),bv true]):=by
 subst hre
 have h1:V.ptext most (s.data.toList.drop (V.pos s (V.text x++t)))=some (x.data.toList,t):=by
  rw[V.drop_suf hr]
  exact(V.ptext_iff (by omega)).2 ⟨by rw[Array.length_toList];exact hx,by rw[V.ba_data]⟩
 obtain⟨e1,e2,e3⟩:=V.rt_some h1
 have:=readtext_a s (V.pos s (V.text x++t)) most hs hm
 rw[e1,e2,e3,V.ba_data]at this
 exact this
theorem sread_y (s:ByteArray) (n i:Int) (t:List UInt8) (hs:s.size≤1000000) (hb:V.stampB n i=true) (hr:V.stamp n i++t <:+s.data.toList):ACall Tryz.prog 257 [tv s,iv (V.pos s (V.stamp n i++t))] (.tup [.row [iv n,iv i],iv (V.pos s t),bv true]):=by
 obtain⟨h1,h2,h3,h4⟩:=V.stampB_iff.1 hb
 have e:V.stamp n i=V.num n.toNat++V.num i.toNat:=by unfold V.stamp;rw[if_pos hb]
 have h5:V.pst (s.data.toList.drop (V.pos s (V.stamp n i++t)))=some ((n.toNat,i.toNat),t):=by
  rw[V.drop_suf hr];exact V.pst_iff.2 ⟨by omega,by rw[e,List.append_assoc]⟩
 have:=vstread_a s (V.pos s (V.stamp n i++t)) hs
 unfold V.stN V.stI V.stEn V.stB at this
 simp only[h5,Option.isSome_some]at this
 rw[Int.toNat_of_nonneg (by omega),Int.toNat_of_nonneg h3]at this
 exact this
def V.pr (p:List Dep) (k:Nat) (t:List UInt8):List UInt8:=(p.drop k).flatMap V.depB++t
theorem V.pr_step {p:List Dep}{k:Nat}(t:List UInt8) (hk:k<p.length):V.pr p k t=V.text (p.getD k default).key++(V.stamp (p.getD k default).n (p.getD k default).s++V.pr p (k+1) t):=by
 unfold V.pr
 rw[List.drop_eq_getElem_cons hk,List.flatMap_cons,show p.getD k default=p[k]by simp[hk]]
 simp only[V.depB,List.append_assoc]
theorem V.pr_zero (p:List Dep) (t:List UInt8):V.pastL p++t=V.num p.length++V.pr p 0 t:=by simp[V.pastL,V.pr]
theorem V.pr_all {p:List Dep}{k:Nat}(t:List UInt8) (hk:p.length≤k):V.pr p k t=t:=by simp[V.pr,List.drop_eq_nil_of_le hk]
theorem V.dep_stamp {p:List Dep}(h:J.pastB p=true):∀d∈p,V.stampB d.n d.s=true:=λd hd=>by
 unfold J.pastB at h
 simp only[Bool.and_eq_true,List.all_eq_true,List.mem_range]at h
 obtain⟨i,hi,rfl⟩:=List.getElem_of_mem hd
 have h1:=h.1 i hi
 unfold J.okAt at h1
 simp only[Bool.and_eq_true]at h1
 have h2:=h1.1
 rw[show p.getD i default=p[i]by simp[hi]]at h2
 unfold D.okB at h2
 simp only[Bool.and_eq_true]at h2
 exact h2.2
theorem pastread_a (s:ByteArray) (p:List Dep) (t:List UInt8) (hs:s.size≤1000000) (h:J.pastB p=true) (hr:V.num p.length++V.pr p 0 t <:+s.data.toList):ACall Tryz.prog 258 [tv s,iv (V.pos s (V.num p.length++V.pr p 0 t))] (.tup [.sl 3 (p.map Dep.row),iv (V.pos s t),bv true]):=by
 refine AC_G Tryz.func258 Tryz.ntmps258 (Reads.r3 Tryz.results258) λhok M0 w0 hnl=>?_
 have hpl:=(J.past_good h).2
 have hkk:=V.dep_key h
 have hst:=V.dep_stamp h
 have hr0:V.pr p 0 t <:+s.data.toList:=(List.suffix_append _ _).trans hr
 refine Aw_sr ?_
 refine Al_mr ?_
 refine Al_mr ?_
 refine Al_mr ?_
 refine Al_nil (Aw_scope (Aw_sr ?_))
 refine Al_ml ?_
 refine Al_ml ?_
 refine Al_p (Pu_call (vread_y s p.length (V.pr p 0 t) hs (by omega) hr) rfl ⟨Sub.rfl,Sub.rfl,trivial⟩) ?_
 refine Al_ml ?_
 refine Al_p Pu_ex ?_
 refine Al_p Pu_ex ?_
 refine Al_p Pu_ex ?_
 refine Al_mr ?_
 refine Al_mr ?_
 refine Al_mr ?_
 refine Al_nil (Aw_seq (Aw_sr ?_))
 refine Al_ml ?_
 refine Al_p Pu_n ?_
 refine Al_ml ?_
 refine Al_s (St_g [] trivial (λ_=>Pu_mvl)) ?_
 refine Al_s (St_g [19] ⟨⟨_,rfl⟩,trivial⟩ (λ_=>Pu_cp)) ?_
 refine Al_p Pu_o ?_
 refine Al_nil ?_
 refine Aw_condF rfl ((by simp;omega)) ?_
 refine Aw_skip (Aw_seq (Aw_label ?_))
 refine Aw_seq (Aw_sr ?_)
 refine Al_ml ?_
 refine Al_ml ?_
 refine Al_nil (Aw_block ?_)
 refine Aw_own (j:=4) (k:=4) (T:=110) (n:=3) rfl (λg0=>?_)
 refine Aw_loopk (ι:=Nat×Nat) [0,22] [] (λ(k,g)=>[(4,.ow 4 g),(23,.d (uv k)),(5,.d (iv (V.pos s (V.pr p k t)))),(6,.d (bv true))]) (λ(k,g)=>[(4,g,.arr 110 3 ((p.take k).map Dep.row))]) (λ(k,g)=>k≤p.length∧V.pr p k t <:+s.data.toList) (λ(k,g)=>p.length - k) (0,g0) (⟨by omega,hr0⟩) ⟨Sub.rfl,Sub.rfl,Sub.rfl,Sub.rfl,trivial⟩ ⟨rfl,trivial⟩ ?_
 rintro⟨k,g⟩ ⟨hk1,hk2⟩
 refine Aw_sr ?_
 refine Al_p Pu_cp ?_
 refine Al_nil (Aw_seq ?_)
 refine Aw_cond rfl (λh24=>?_) (λh24=>?_)
 ·(try simp only[A.cd_]at h24)
  have hk:k<p.length:=by omega
  have hm:p.getD k default∈p:=by rw[show p.getD k default=p[k]by simp[hk]];exact List.getElem_mem hk
  have hkd:=hkk _ hm
  have hsd:=hst _ hm
  have est:=V.pr_step t hk
  have hk3:V.stamp (p.getD k default).n (p.getD k default).s++V.pr p (k+1) t <:+s.data.toList:=(List.suffix_append _ _).trans (est▸hk2)
  have hk4:V.pr p (k+1) t <:+s.data.toList:=(List.suffix_append _ _).trans hk3
  refine Aw_skip (Aw_seq (Aw_block (Aw_sr ?_)))
  refine Al_al Tryz.zeroValue110 λg8=>?_
  refine Al_ns ?_
  refine Al_ml ?_
  refine Al_ml ?_
  refine Al_p (Pu_call (tread_y s (p.getD k default).key _ 32 hs (by omega) (by omega) est hk2) rfl ⟨Sub.rfl,Sub.rfl,Sub.rfl,trivial⟩) ?_
  refine Al_ml ?_
  refine Al_p Pu_ex ?_
  refine Al_p Pu_ex ?_
  refine Al_p Pu_ex ?_
  refine Al_p (Pu_fb 0 Tryz.underlying110 Tryz.sizeOf9) ?_
  refine Al_s1 Tryz.isAgg9 Tryz.sizeOf9 ?_
  refine Al_mr ?_
  refine Al_mr ?_
  refine Al_nil (Aw_seq (Aw_sr ?_))
  refine Al_ml ?_
  refine Al_p Pu_n ?_
  refine Al_nil ?_
  refine Aw_condF rfl (rfl) ?_
  refine Aw_skip (Aw_sr ?_)
  refine Al_ml ?_
  refine Al_ml ?_
  refine Al_p (Pu_call (sread_y s (p.getD k default).n (p.getD k default).s _ hs hsd hk3) rfl ⟨Sub.rfl,Sub.rfl,trivial⟩) ?_
  refine Al_ml ?_
  refine Al_p Pu_ex ?_
  refine Al_p Pu_ex ?_
  refine Al_p Pu_ex ?_
  refine Al_p (Pu_fb 1 Tryz.underlying110 Tryz.sizeOf47) ?_
  refine Al_sN Tryz.isAgg47 Tryz.sizeOf47 ?_
  refine Al_mr ?_
  refine Al_mr ?_
  refine Al_nil (Aw_seq (Aw_sr ?_))
  refine Al_ml ?_
  refine Al_p Pu_n ?_
  refine Al_nil ?_
  refine Aw_condF rfl (rfl) ?_
  refine Aw_skip (Aw_region ?_)
  refine Al_ml ?_
  refine Al_p (Pu_lbN (r:=[_,_,_]) Tryz.isAgg110 Tryz.sizeOf110) ?_
  refine Al_p (Pu_slice1 rfl Tryz.underlying48 Tryz.sizeOf110 Tryz.zeroValue110 rfl (by decide) (by decide) (by kernel_rfl) rfl rfl rfl) ?_
  refine Al_append rfl rfl rfl (by decide) (by kernel_rfl) elem48 (by decide) Tryz.sizeOf110 rfl rfl rfl (by simp;omega) (by decide) (λg48=>?_)
  refine Al_mr ?_
  refine Al_nil (Aw_region ?_)
  refine Al_p (Pu_int_add rfl rfl rfl (u64_nat (by omega) (by omega)).1 (λ_=>(u64_nat (by omega) (by omega)).2)) ?_
  refine Al_ml ?_
  refine Al_nil ?_
  exact⟨(k+1,g48),⟨by omega,hk4⟩,by simp only[];omega,Le.ov ⟨Sub.rfl,Sub.num (by omega),Sub.rfl,Sub.rfl,trivial⟩ ⟨Sub.rfl,Sub.rfl,trivial⟩ ⟨obeq (by rw[List.take_succ_eq_append_getElem hk,List.map_append];congr 1;simp[A.cellsA,Dep.row,hk]),trivial⟩ trivial⟩
 ·(try simp only[A.cd_]at h24)
  have e1:V.pr p k t=t:=V.pr_all t (by omega)
  have e2:p.take k=p:=List.take_of_length_le (by omega)
  refine Aw_exit (Aw_seq (Aw_seq ?_))
  refine Aw_frz hnl (k:=4) [4] rfl ⟨rfl,trivial⟩ ?_
  refine Aw_region ?_
  refine Al_ml ?_
  refine Al_p Pu_n ?_
  refine Al_ml ?_
  refine Al_s (St_g [] trivial (λ_=>Pu_mvl)) ?_
  refine Al_s (St_g [53] ⟨⟨_,rfl⟩,trivial⟩ (λ_=>Pu_call (pcheck_a (p.take k)) rfl ⟨Sub.rfl,trivial⟩)) ?_
  refine Al_s (St_g [54] ⟨⟨_,rfl⟩,trivial⟩ (λ_=>Pu_n)) ?_
  refine Al_p Pu_o ?_
  refine Al_nil ?_
  refine Aw_condF rfl ((by rw[e2,h];rfl)) ?_
  refine Aw_skip (Aw_sr ?_)
  refine Al_ml ?_
  refine Al_ml ?_
  refine Al_mr ?_
  refine Al_mr ?_
  refine Al_mr ?_
  refine Al_nil ?_
  exact Aw_ret (⟨_,_,_,rfl,(show Sub (.d (.sl 3 ((p.take k).map Dep.row))) (.d (.sl 3 (p.map Dep.row)))by rw[e2];exact Sub.rfl),(show Sub (.d (iv (V.pos s (V.pr p k t)))) (.d (iv (V.pos s t)))by rw[e1];exact Sub.rfl),Sub.rfl⟩)
end Go.Proofs.YtdnijgdmohinlaaGreat
end
section
namespace Go.Proofs.YtdnijgdmohinlaaGreat
open Go.RowKit A R
namespace V
abbrev WS:=Nat×Bool
def wcs (s:ByteArray) (p:WS):List AV:=[tv s,iv p.1,bv p.2]
def wokN (s:ByteArray) (most:Nat) (p:WS):Bool:=gotB s p.1&&decide ((gotN s p.1:Int)≤(most:Int))
def wnumS (s:ByteArray) (most:Nat) (p:WS):WS:=(gotE s p.1,p.2||!wokN s most p)
def wnumV (s:ByteArray) (most:Nat) (p:WS):Nat:=if (wnumS s most p).2 then 0 else gotN s p.1
def wtextS (s:ByteArray) (most:Nat) (p:WS):WS:=(rtE s p.1 most,p.2||!rtB s p.1 most)
theorem gotN_lt (s:ByteArray) (at_:Nat):gotN s at_<18446744073709551616:=by
 rcases got_cases s at_ with⟨_,h,_⟩|⟨n,t,_,h,_,_,h2,_⟩<;>omega
end V
set_option maxRecDepth 100000 in
theorem wmoves_m (s:ByteArray) (p:V.WS) (e:Nat) (ok:Bool):MCall Tryz.prog 259 313 (V.wcs s p) [iv e,bv ok] (some (V.wcs s (e,p.2||!ok),.tup [])):=by
 refine MC_1 Tryz.func259 Tryz.ntmps259 (Reads.r0 Tryz.results259) λhok hokc M0 w0 hlent=>?_
 refine Aw_sr ?_
 refine Al_ml ?_
 refine Al_ml ?_
 refine Al_p Pu_nb ?_
 refine Al_p (Pu_fb 1 Tryz.underlying313 Tryz.sizeOf3) ?_
 refine Al_s1 Tryz.isAgg3 Tryz.sizeOf3 ?_
 refine Al_nil (Aw_region ?_)
 refine Al_ml ?_
 refine Al_ml ?_
 refine Al_p Pu_nb ?_
 refine Al_p (Pu_fb 2 Tryz.underlying313 Tryz.sizeOf4) ?_
 refine Al_p (Pu_lb Tryz.isAgg4) ?_
 refine Al_ml ?_
 refine Al_s (St_g [] trivial (λ_=>Pu_mvl)) ?_
 refine Al_s (St_g [16] ⟨⟨_,rfl⟩,trivial⟩ (λ_=>Pu_n)) ?_
 refine Al_p Pu_o ?_
 refine Al_p Pu_nb ?_
 refine Al_p (Pu_fb 2 Tryz.underlying313 Tryz.sizeOf4) ?_
 refine Al_s1 Tryz.isAgg4 Tryz.sizeOf4 ?_
 refine Al_nil ?_
 exact⟨_,_,rfl,rfl,rfl⟩
set_option maxRecDepth 100000 in
theorem wnum_m (s:ByteArray) (p:V.WS) (most:Nat) (hs:s.size≤1000000) (hm:most≤1000000):MCall Tryz.prog 256 313 (V.wcs s p) [uv most] (some (V.wcs s (V.wnumS s most p),iv (V.wnumV s most p:Nat))):=by
 refine MC_1 Tryz.func256 Tryz.ntmps256 (Reads.r1 Tryz.results256) λhok hokc M0 w0 hlent=>?_
 have hN:=V.gotN_lt s p.1
 refine Aw_sr ?_
 refine Al_mr ?_
 refine Al_nil (Aw_seq ?_)
 refine Aw_dr 16 ?_
 refine Dr_ml ?_
 refine Dr_p Pu_nb ?_
 refine Dr_p (Pu_fb 0 Tryz.underlying313 Tryz.sizeOf9) ?_
 refine Dr_p (Pu_lb Tryz.isAgg9) ?_
 refine Dr_ml ?_
 refine Dr_p Pu_nb ?_
 refine Dr_p (Pu_fb 1 Tryz.underlying313 Tryz.sizeOf3) ?_
 refine Dr_p (Pu_lb Tryz.isAgg3) ?_
 refine Dr_p (Pu_call (vread_a s p.1 hs) rfl ⟨Sub.rfl,Sub.rfl,trivial⟩) ?_
 refine Dr_ml ?_
 refine Dr_p Pu_ex ?_
 refine Dr_p Pu_ex ?_
 refine Dr_p Pu_ex ?_
 refine Dr_p Pu_mvr ?_
 refine Dr_p Pu_mvr ?_
 refine Dr_p Pu_mvr ?_
 refine Dr_nil (Al_ns ?_)
 refine Al_ml ?_
 refine Al_ml ?_
 refine Al_ml ?_
 refine Al_ml ?_
 refine Al_s (St_g [] trivial (λ_=>Pu_mvl)) ?_
 refine Al_s (St_g [] trivial (λ_=>Pu_mvl)) ?_
 refine Al_s (St_g [25,26] ⟨⟨_,rfl⟩,⟨_,rfl⟩,trivial⟩ (λ_=>Pu_cp)) ?_
 refine Al_p Pu_a ?_
 refine Al_mcall (wmoves_m s p (V.gotE s p.1) (V.wokN s most p)) rfl rfl rfl (by decide) (by kernel_rfl) rfl rfl ⟨Sub.rfl,Sub.rfl,trivial⟩ ?_
 refine Al_nil (Aw_seq (Aw_sr ?_))
 refine Al_ml ?_
 refine Al_p Pu_nb ?_
 refine Al_p (Pu_fb 2 Tryz.underlying313 Tryz.sizeOf4) ?_
 refine Al_p (Pu_lb Tryz.isAgg4) ?_
 refine Al_nil ?_
 refine Aw_cond rfl (λh33=>?_) (λh33=>?_)
 ·skip
  have hb:(V.wnumS s most p).2=true:=h33
  refine Aw_sr ?_
  refine Al_mr ?_
  refine Al_nil ?_
  exact Aw_ret (⟨_,_,rfl,Sub.num (by unfold V.wnumV;rw[if_pos hb];rfl),rfl⟩)
 ·skip
  have hb:(V.wnumS s most p).2=false:=h33
  have hle:V.gotN s p.1≤most:=by
   have h1:(p.2||!V.wokN s most p)=false:=hb
   simp only[Bool.or_eq_false_iff,Bool.not_eq_false']at h1
   have h2:=h1.2
   unfold V.wokN at h2
   simp only[Bool.and_eq_true,decide_eq_true_eq]at h2
   omega
  refine Aw_skip (Aw_sr ?_)
  refine Al_ml ?_
  refine Al_p (Pu_conv rfl Tryz.underlying271 Tryz.underlying3 rfl (λhv=>i64_nat (by simp only[A.inI];omega))) ?_
  refine Al_mr ?_
  refine Al_nil ?_
  exact Aw_ret (⟨_,_,rfl,Sub.num (by unfold V.wnumV;rw[if_neg (by rw[hb];simp)]),rfl⟩)
set_option maxRecDepth 100000 in
theorem wtext_m (s:ByteArray) (p:V.WS) (most:Nat) (hs:s.size≤1000000) (hm:most≤1000000):MCall Tryz.prog 255 313 (V.wcs s p) [iv most] (some (V.wcs s (V.wtextS s most p),tv (V.rtT s p.1 most))):=by
 refine MC_1 Tryz.func255 Tryz.ntmps255 (Reads.r1 Tryz.results255) λhok hokc M0 w0 hlent=>?_
 refine Aw_sr ?_
 refine Al_mr ?_
 refine Al_nil (Aw_seq ?_)
 refine Aw_dr 17 ?_
 refine Dr_ml ?_
 refine Dr_p Pu_nb ?_
 refine Dr_p (Pu_fb 0 Tryz.underlying313 Tryz.sizeOf9) ?_
 refine Dr_p (Pu_lb Tryz.isAgg9) ?_
 refine Dr_ml ?_
 refine Dr_p Pu_nb ?_
 refine Dr_p (Pu_fb 1 Tryz.underlying313 Tryz.sizeOf3) ?_
 refine Dr_p (Pu_lb Tryz.isAgg3) ?_
 refine Dr_ml ?_
 refine Dr_p (Pu_call (readtext_a s p.1 most hs hm) rfl ⟨Sub.rfl,Sub.rfl,Sub.rfl,trivial⟩) ?_
 refine Dr_ml ?_
 refine Dr_p Pu_ex ?_
 refine Dr_p Pu_ex ?_
 refine Dr_p Pu_ex ?_
 refine Dr_p Pu_mvr ?_
 refine Dr_p Pu_mvr ?_
 refine Dr_p Pu_mvr ?_
 refine Dr_nil (Al_ns ?_)
 refine Al_ml ?_
 refine Al_ml ?_
 refine Al_ml ?_
 refine Al_mcall (wmoves_m s p (V.rtE s p.1 most) (V.rtB s p.1 most)) rfl rfl rfl (by decide) (by kernel_rfl) rfl rfl ⟨Sub.rfl,Sub.rfl,trivial⟩ ?_
 refine Al_ns ?_
 refine Al_ml ?_
 refine Al_mr ?_
 refine Al_nil ?_
 exact Aw_ret (⟨_,_,rfl,Sub.rfl,rfl⟩)
set_option maxRecDepth 100000 in
theorem wdone_m (s:ByteArray) (p:V.WS):MCall Tryz.prog 260 313 (V.wcs s p) [] (some (V.wcs s p,bv (!p.2&&decide ((p.1:Int)=(s.size:Int))))):=by
 refine MC_1 Tryz.func260 Tryz.ntmps260 (Reads.r1 Tryz.results260) λhok hokc M0 w0 hlent=>?_
 refine Aw_sr ?_
 refine Al_mr ?_
 refine Al_nil (Aw_seq ?_)
 refine Aw_dr 17 ?_
 refine Dr_ml ?_
 refine Dr_p Pu_nb ?_
 refine Dr_p (Pu_fb 2 Tryz.underlying313 Tryz.sizeOf4) ?_
 refine Dr_p (Pu_lb Tryz.isAgg4) ?_
 refine Dr_p Pu_n ?_
 refine Dr_ml ?_
 refine Dr_s (St_g [] trivial (λ_=>Pu_mvl)) ?_
 refine Dr_s (St_g [9] ⟨⟨_,rfl⟩,trivial⟩ (λ_=>Pu_nb)) ?_
 refine Dr_s (St_g [10] ⟨⟨_,rfl⟩,trivial⟩ (λ_=>Pu_fb 1 Tryz.underlying313 Tryz.sizeOf3)) ?_
 refine Dr_s (St_g [11] ⟨⟨_,rfl⟩,trivial⟩ (λ_=>Pu_lb Tryz.isAgg3)) ?_
 refine Dr_s (St_g [] trivial (λ_=>Pu_mvl)) ?_
 refine Dr_s (St_g [13] ⟨⟨_,rfl⟩,trivial⟩ (λ_=>Pu_nb)) ?_
 refine Dr_s (St_g [14] ⟨⟨_,rfl⟩,trivial⟩ (λ_=>Pu_fb 0 Tryz.underlying313 Tryz.sizeOf9)) ?_
 refine Dr_s (St_g [15] ⟨⟨_,rfl⟩,trivial⟩ (λ_=>Pu_lb Tryz.isAgg9)) ?_
 refine Dr_s (St_g [16] ⟨⟨_,rfl⟩,trivial⟩ (λ_=>Pu_lenS rfl Tryz.underlying9 rfl)) ?_
 refine Dr_s (St_g [12,17] ⟨⟨_,rfl⟩,⟨_,rfl⟩,trivial⟩ (λ_=>Pu_cp)) ?_
 refine Dr_p Pu_a ?_
 refine Dr_nil ?_
 refine Al_mr ?_
 refine Al_nil ?_
 exact Aw_ret (⟨_,_,rfl,Sub.rfl,rfl⟩)
end Go.Proofs.YtdnijgdmohinlaaGreat
end
section
set_option maxRecDepth 100000
namespace Go.Proofs.YtdnijgdmohinlaaGreat
open Go Go.RowKit A R
theorem wtext_y (s x:ByteArray) {r t:List UInt8}(most:Nat) (hs:s.size≤1000000) (hm:most≤1000000) (hx:x.size≤most) (hre:r=V.text x++t) (hr:r <:+s.data.toList):MCall Tryz.prog 255 313 (V.wcs s (V.pos s r,false)) [iv most] (some (V.wcs s (V.pos s t,false),tv x)):=by
 subst hre
 have h1:V.ptext most (s.data.toList.drop (V.pos s (V.text x++t)))=some (x.data.toList,t):=by
  rw[V.drop_suf hr]
  exact(V.ptext_iff (by omega)).2 ⟨by rw[Array.length_toList];exact hx,by rw[V.ba_data]⟩
 obtain⟨e1,e2,e3⟩:=V.rt_some h1
 have:=wtext_m s (V.pos s (V.text x++t),false) most hs hm
 unfold V.wtextS at this
 rw[e1,e2,e3,V.ba_data]at this
 exact this
theorem wnum_y (s:ByteArray) (n:Nat) {r t:List UInt8}(most:Nat) (hs:s.size≤1000000) (hm:most≤1000000) (hx:n≤most) (hre:r=V.num n++t) (hr:r <:+s.data.toList):MCall Tryz.prog 256 313 (V.wcs s (V.pos s r,false)) [uv most] (some (V.wcs s (V.pos s t,false),iv n)):=by
 subst hre
 have h1:V.rdB (s.data.toList.drop (V.pos s (V.num n++t)))=some (n,t):=by
  rw[V.drop_suf hr];exact V.rdB_num (by omega) t
 obtain⟨e1,e2,e3⟩:=V.got_some h1
 have:=wnum_m s (V.pos s (V.num n++t),false) most hs hm
 have hd:decide ((n:Int)≤(most:Int))=true:=decide_eq_true (by omega)
 unfold V.wnumV V.wnumS V.wokN at this
 simp only[e1,e2,e3,hd,Bool.and_self,Bool.not_true,Bool.or_self,Bool.false_eq_true,if_false]at this
 exact this
theorem V.gn_eq (v:Ver):{v with gone:=decide ((V.gn v:Int)=1)}=v:=by
 have:decide ((V.gn v:Int)=1)=v.gone:=by cases hg:v.gone<;>simp[V.gn,hg]
 rw[this]
theorem wireread_a (v:Ver) (h:J.checkB v=true):ACall Tryz.prog 169 [tv (V.ba (V.verB v))] (.tup [.row v.row,bv true]):=by
 have hv:=V.ver_len h
 obtain⟨s,hsd⟩:∃s,s=V.ba (V.verB v):=⟨_,rfl⟩
 have hsz:s.size=(V.verB v).length:=by rw[hsd,A.ba_sz]
 have hs:s.size≤1000000:=by omega
 have hda:s.data.toList=V.verB v:=by rw[hsd,V.data_ba]
 obtain⟨r4,e4⟩:∃r4,r4=V.num v.past.length++V.pr v.past 0 []:=⟨_,rfl⟩
 obtain⟨r3,e3⟩:∃r3,r3=V.stamp v.n v.s++r4:=⟨_,rfl⟩
 obtain⟨r2,e2⟩:∃r2,r2=V.text v.value++r3:=⟨_,rfl⟩
 obtain⟨r1,e1⟩:∃r1,r1=V.num (V.gn v)++r2:=⟨_,rfl⟩
 have e0:V.verB v=V.text v.key++r1:=by rw[e1,e2,e3,e4,←V.pr_zero];simp[V.verB]
 have f0:V.verB v <:+s.data.toList:=by rw[hda];exact List.suffix_refl _
 have f1:r1 <:+s.data.toList:=(List.suffix_append _ _).trans (e0▸f0)
 have f2:r2 <:+s.data.toList:=(List.suffix_append _ _).trans (e1▸f1)
 have f3:r3 <:+s.data.toList:=(List.suffix_append _ _).trans (e2▸f2)
 have f4:r4 <:+s.data.toList:=(List.suffix_append _ _).trans (e3▸f3)
 have hp0:V.pos s (V.verB v)=0:=by show s.size - _=0;omega
 have hb:V.stampB v.n v.s=true:=by
  unfold J.checkB at h
  simp only[Bool.and_eq_true]at h
  exact h.2.1
 have m0:=wtext_y s v.key 32 hs (by omega) (J.ver_key h) e0 f0
 rw[hp0]at m0
 have g:=V.gn_le v
 rw[←hsd]
 have c3:=sread_y s v.n v.s r4 hs hb (e3▸f3)
 rw[←e3]at c3
 have c4:=pastread_a s v.past [] hs (J.ver_past h) (e4▸f4)
 rw[←e4]at c4
 refine AC_G Tryz.func169 Tryz.ntmps169 (Reads.cN1 Tryz.results169 Tryz.isAgg50 Tryz.sizeOf50) λhok M0 w0 hnl=>?_
 refine Aw_sr ?_
 refine Al_al Tryz.zeroValue50 λg2=>?_
 refine Al_mr ?_
 refine Al_ns ?_
 refine Al_ml ?_
 refine Al_p (Pu_build (aa:=[(0,_)]) rfl Tryz.underlying313 Tryz.zeroValue313 places313 (by kernel_rfl) ⟨rfl,rfl,rfl,trivial⟩ rfl) ?_
 refine Al_boxN rfl rfl rfl (by decide) (by kernel_rfl) rfl (λg14=>?_)
 refine Al_mr ?_
 refine Al_ns ?_
 refine Al_ml ?_
 refine Al_mcall (m0) rfl rfl rfl (by decide) (by kernel_rfl) rfl rfl ⟨Sub.rfl,trivial⟩ ?_
 refine Al_p (Pu_build (aa:=[(0,_)]) rfl Tryz.underlying50 Tryz.zeroValue50 places50 (by kernel_rfl) ⟨rfl,rfl,rfl,trivial⟩ rfl) ?_
 refine Al_al Tryz.zeroValue50 λg5=>?_
 refine Al_sN Tryz.isAgg50 Tryz.sizeOf50 ?_
 refine Al_nil (Aw_seq (Aw_sr ?_))
 refine Al_ml ?_
 refine Al_p Pu_nb ?_
 refine Al_p (Pu_fb 2 Tryz.underlying313 Tryz.sizeOf4) ?_
 refine Al_p (Pu_lb Tryz.isAgg4) ?_
 refine Al_nil ?_
 refine Aw_condF rfl (rfl) ?_
 refine Aw_skip (Aw_sr ?_)
 refine Al_ml ?_
 refine Al_mcall (wnum_y s (V.gn v) 1 hs (by omega) g e1 f1) rfl rfl rfl (by decide) (by kernel_rfl) rfl rfl ⟨Sub.rfl,trivial⟩ ?_
 refine Al_p Pu_cp ?_
 refine Al_p (Pu_fb 2 Tryz.underlying50 Tryz.sizeOf4) ?_
 refine Al_s1 Tryz.isAgg4 Tryz.sizeOf4 ?_
 refine Al_nil (Aw_seq (Aw_sr ?_))
 refine Al_ml ?_
 refine Al_p Pu_nb ?_
 refine Al_p (Pu_fb 2 Tryz.underlying313 Tryz.sizeOf4) ?_
 refine Al_p (Pu_lb Tryz.isAgg4) ?_
 refine Al_nil ?_
 refine Aw_condF rfl (rfl) ?_
 refine Aw_skip (Aw_sr ?_)
 refine Al_ml ?_
 refine Al_mcall (wtext_y s v.value 32 hs (by omega) (J.ver_val h) e2 f2) rfl rfl rfl (by decide) (by kernel_rfl) rfl rfl ⟨Sub.rfl,trivial⟩ ?_
 refine Al_p (Pu_fb 1 Tryz.underlying50 Tryz.sizeOf9) ?_
 refine Al_s1 Tryz.isAgg9 Tryz.sizeOf9 ?_
 refine Al_nil (Aw_seq (Aw_sr ?_))
 refine Al_ml ?_
 refine Al_p Pu_nb ?_
 refine Al_p (Pu_fb 2 Tryz.underlying313 Tryz.sizeOf4) ?_
 refine Al_p (Pu_lb Tryz.isAgg4) ?_
 refine Al_nil ?_
 refine Aw_condF rfl (rfl) ?_
 refine Aw_skip (Aw_sr ?_)
 refine Al_ml ?_
 refine Al_ml ?_
 refine Al_p Pu_nb ?_
 refine Al_p (Pu_fb 1 Tryz.underlying313 Tryz.sizeOf3) ?_
 refine Al_p (Pu_lb Tryz.isAgg3) ?_
 refine Al_p (Pu_call (c3) rfl ⟨Sub.rfl,Sub.rfl,trivial⟩) ?_
 refine Al_ml ?_
 refine Al_p Pu_ex ?_
 refine Al_p Pu_ex ?_
 refine Al_p Pu_ex ?_
 refine Al_al Tryz.zeroValue47 λg6=>?_
 refine Al_sN Tryz.isAgg47 Tryz.sizeOf47 ?_
 refine Al_mr ?_
 refine Al_mr ?_
 refine Al_ns ?_
 refine Al_ml ?_
 refine Al_ml ?_
 refine Al_p (Pu_call (c4) rfl ⟨Sub.rfl,Sub.rfl,trivial⟩) ?_
 refine Al_ml ?_
 refine Al_p Pu_ex ?_
 refine Al_p Pu_ex ?_
 refine Al_p Pu_ex ?_
 refine Al_mr ?_
 refine Al_mr ?_
 refine Al_mr ?_
 refine Al_ns ?_
 refine Al_p (Pu_lbN (r:=[_,_]) Tryz.isAgg47 Tryz.sizeOf47) ?_
 refine Al_ml ?_
 refine Al_p (Pu_fb 3 Tryz.underlying50 Tryz.sizeOf47) ?_
 refine Al_sN Tryz.isAgg47 Tryz.sizeOf47 ?_
 refine Al_p (Pu_fb 5 Tryz.underlying50 Tryz.sizeOf48) ?_
 refine Al_s1 Tryz.isAgg48 Tryz.sizeOf48 ?_
 refine Al_ns ?_
 refine Al_ml ?_
 refine Al_ml ?_
 refine Al_ml ?_
 refine Al_ml ?_
 refine Al_s (St_g [] trivial (λ_=>Pu_mvl)) ?_
 refine Al_p Pu_a ?_
 refine Al_mcall (wmoves_m s (V.pos s r3,false) (V.pos s []) true) rfl rfl rfl (by decide) (by kernel_rfl) rfl rfl ⟨Sub.rfl,Sub.rfl,trivial⟩ ?_
 refine Al_nil (Aw_seq (Aw_sr ?_))
 refine Al_ml ?_
 refine Al_mcall (wdone_m s (V.pos s [],false)) rfl rfl rfl (by decide) (by kernel_rfl) rfl rfl trivial ?_
 refine Al_p Pu_n ?_
 refine Al_ml ?_
 refine Al_s (St_g [] trivial (λ_=>Pu_lbN (r:=[_,_,_,_,_,_]) Tryz.isAgg50 Tryz.sizeOf50)) ?_
 refine Al_s (St_g [72] ⟨⟨_,rfl⟩,trivial⟩ (λ_=>Pu_call (wcheck_a {v with gone:=decide ((V.gn v:Int)=1)}) rfl ⟨Sub.rfl,trivial⟩)) ?_
 refine Al_s (St_g [73] ⟨⟨_,rfl⟩,trivial⟩ (λ_=>Pu_n)) ?_
 refine Al_p Pu_o ?_
 refine Al_nil ?_
 refine Aw_condF rfl ((by rw[V.gn_eq,h];simp[V.pos])) ?_
 refine Aw_skip (Aw_sr ?_)
 refine Al_p (Pu_lbN (r:=[_,_,_,_,_,_]) Tryz.isAgg50 Tryz.sizeOf50) ?_
 refine Al_sN Tryz.isAgg50 Tryz.sizeOf50 ?_
 refine Al_mr ?_
 refine Al_nil ?_
 exact Aw_ret (⟨2,g2,0,_,_,[_,_,_,_,_,_],_,rfl,rfl,rfl,rfl,Sub.rfl,congrArg (λu:Ver=>AV.tup [.row u.row,bv true]) (V.gn_eq v).symm⟩)
end Go.Proofs.YtdnijgdmohinlaaGreat
end
section
set_option maxRecDepth 100000
namespace Go.Proofs.YtdnijgdmohinlaaGreat
open Go Go.RowKit A R
structure VS where
 sn:Int
 op:List (Int×Ver)
 rn:Int
 way:List (Int×Ver)
instance:Inhabited VS:=⟨⟨0,[],0,[]⟩⟩
namespace VS
def pk (p:Int×Ver):Pk:=⟨p.1,V.ba (V.verB p.2)⟩
def ses (s:VS):Ses:=⟨s.sn,s.op.map pk,s.rn,s.way.map pk⟩
def send (s:VS) (v:Ver):VS:=if 8≤s.op.length then s else⟨s.sn+1,s.op++[(s.sn,v)],s.rn,s.way++[(s.sn,v)]⟩
def inW (s:VS) (k:Int):Bool:=decide (0≤k)&&decide (k<s.way.length)
def at' (s:VS) (k:Int):Int×Ver:=s.way.getD k.toNat default
def would (s:VS) (k:Int):Bool:=decide ((s.at' k).1=s.rn)
def ansN (s:VS) (seq:Int):Nat:=if seq>s.sn then 0 else(s.op.takeWhile λp=>decide (p.1<seq)).length
def answer (s:VS) (seq:Int):VS:={s with op:=s.op.drop (s.ansN seq)}
def out (s:VS) (k:Int):VS:={s with way:=s.way.take k.toNat++s.way.drop (k.toNat+1)}
def took (s:VS) (q:Int):VS:=if q=s.rn then answer {s with rn:=s.rn+1} (s.rn+1)else s
def pick (s:VS) (k how:Int):VS :=
 if N.hw3 how=2 then(if s.way.length<32 then{s with way:=s.way++[s.at' k]}else s)
 else if N.hw3 how=1 then s.out k
 else(s.out k).took (s.at' k).1
theorem ses_inj_len (s:VS):s.ses.op.length=s.op.length∧s.ses.way.length=s.way.length:=by simp[ses]
theorem send_ses (s:VS) (v:Ver):N.send s.ses (V.ba (V.verB v))=(s.send v).ses:=by
 unfold N.send send L.sendS L.sendO L.sendP
 simp only[ses,List.length_map]
 split<;>simp[pk]
theorem at_pk {s:VS}{k:Int}(h:s.inW k=true):s.ses.way.getD k.toNat default=pk (s.at' k):=by
 unfold inW at h
 simp only[Bool.and_eq_true,decide_eq_true_eq]at h
 unfold at' ses
 have:k.toNat<s.way.length:=by omega
 simp[this]
theorem inW_ses (s:VS) (k:Int):N.inW s.ses k=s.inW k:=by unfold N.inW inW;simp[ses]
theorem would_ses {s:VS}{k:Int}(h:s.inW k=true):N.would s.ses k=s.would k:=by
 unfold N.would would
 rw[at_pk h]
 unfold inW at h
 simp only[Bool.and_eq_true,decide_eq_true_eq]at h
 simp only[(s.ses_inj_len).2,h.1,h.2,decide_true,Bool.true_and]
 rfl
theorem wouldD_ses {s:VS}{k:Int}(h:s.inW k=true) (hw:s.would k=true):N.wouldD s.ses k=V.ba (V.verB (s.at' k).2):=by
 unfold N.wouldD
 rw[would_ses h,if_pos hw,at_pk h];rfl
theorem ansN_ses (s:VS) (seq:Int):L.ansN s.ses.sn s.ses.op seq=s.ansN seq:=by
 unfold L.ansN ansN ses
 simp only[List.takeWhile_map,List.length_map]
 split
 ·rfl
 ·rfl
theorem answer_ses (s:VS) (seq:Int):N.answer s.ses seq=(s.answer seq).ses:=by
 unfold N.answer answer
 rw[ansN_ses]
 simp[ses]
theorem out_ses (s:VS) (k:Int):N.out s.ses k=(s.out k).ses:=by
 unfold N.out out
 simp[ses]
theorem took_ses (s:VS) (p:Int×Ver):N.took s.ses (pk p)=(s.took p.1).ses:=by
 unfold N.took took
 show(if p.1=s.rn then _ else _)=_
 split
 ·have:=answer_ses {s with rn:=s.rn+1} (s.rn+1)
  rw[←this];rfl
 ·rfl
theorem pick_ses {s:VS}{k:Int}(how:Int) (h:s.inW k=true):N.pick s.ses k how=(s.pick k how).ses:=by
 unfold N.pick pick
 rw[inW_ses,h,if_neg (by simp),at_pk h,(s.ses_inj_len).2,out_ses,took_ses]
 split
 ·split
  ·simp[ses]
  ·rfl
 ·split<;>rfl
structure Fit (m:Nat) (s:VS):Prop where
 op:s.op.length≤8
 way:s.way.length≤m
 sn:0≤s.sn∧s.sn≤m
 rn:0≤s.rn∧s.rn≤m
 vo:∀p∈s.op,J.checkB p.2=true
 vw:∀p∈s.way,J.checkB p.2=true
theorem Fit.ses {m:Nat}{s:VS}(h:s.Fit m):N.Fit m s.ses:=⟨by rw[(s.ses_inj_len).1];exact h.op,by rw[(s.ses_inj_len).2];exact h.way,h.sn,h.rn⟩
theorem Fit.mono {m m':Nat}{s:VS}(h:s.Fit m) (hm:m≤m'):s.Fit m':=⟨h.op,by have:=h.way;omega,by have:=h.sn;omega,by have:=h.rn;omega,h.vo,h.vw⟩
theorem Fit.send {m:Nat}{s:VS}(h:s.Fit m) {v:Ver}(hv:J.checkB v=true):(s.send v).Fit (m+1):=by
 obtain⟨h1,h2,h3,h4,h5,h6⟩:=h
 unfold VS.send
 split
 ·exact⟨h1,by omega,by omega,by omega,h5,h6⟩
 ·refine⟨by simp;omega,by simp;omega,by simp only[];omega,by simp only[];omega,λp hp=>?_,λp hp=>?_⟩ <;>
  ·rcases List.mem_append.1 hp with hp|hp
   ·first|exact h5 p hp|exact h6 p hp
   ·rw[List.mem_singleton.1 hp];exact hv
theorem mem_at {s:VS}{k:Int}(h:s.inW k=true):s.at' k∈s.way:=by
 unfold inW at h
 simp only[Bool.and_eq_true,decide_eq_true_eq]at h
 have hk:k.toNat<s.way.length:=by omega
 have:s.at' k=s.way[k.toNat]:=by unfold at';simp[hk]
 rw[this];exact List.getElem_mem hk
theorem Fit.out {m:Nat}{s:VS}(h:s.Fit m) (k:Int):(s.out k).Fit m:=by
 obtain⟨h1,h2,h3,h4,h5,h6⟩:=h
 refine⟨h1,?_,h3,h4,h5,λp hp=>?_⟩
 ·simp only[VS.out,List.length_append,List.length_take,List.length_drop];omega
 ·simp only[VS.out,List.mem_append]at hp
  rcases hp with hp|hp
  ·exact h6 p (List.mem_of_mem_take hp)
  ·exact h6 p (List.mem_of_mem_drop hp)
theorem Fit.took {m:Nat}{s:VS}(h:s.Fit m) (q:Int):(s.took q).Fit (m+1):=by
 obtain⟨h1,h2,h3,h4,h5,h6⟩:=h
 unfold VS.took
 split
 ·refine⟨?_,by simp only[answer];omega,by simp only[answer];omega,by simp only[answer];omega,λp hp=>h5 p (List.mem_of_mem_drop hp),h6⟩
  simp only[answer,List.length_drop];omega
 ·exact⟨h1,by omega,by omega,by omega,h5,h6⟩
theorem Fit.pick {m:Nat}{s:VS}(h:s.Fit m) {k:Int}(how:Int) (hk:s.inW k=true) (hm:32≤m):(s.pick k how).Fit (m+1):=by
 unfold VS.pick
 split
 ·split
  ·obtain⟨h1,h2,h3,h4,h5,h6⟩:=h
   refine⟨h1,by simp;omega,by simp only[];omega,by simp only[];omega,h5,λp hp=>?_⟩
   rcases List.mem_append.1 hp with hp|hp
   ·exact h6 p hp
   ·rw[List.mem_singleton.1 hp];exact h6 _ (mem_at hk)
  ·exact h.mono (by omega)
 ·split
  ·exact(h.out k).mono (by omega)
  ·exact(h.out k).took _
end VS
namespace N
abbrev vX (np:List Value) (Y:List VS):XS:=np.zip (Y.map VS.ses)
def vAt (n:Nat) (Y:List VS) (a b:Int):Option VS:=(idx n a b).bind λi=>Y[i]?
def vUpd (n:Nat) (Y:List VS) (a b:Int) (f:VS→VS):List VS:=match idx n a b with
 | some i=>(match Y[i]? with|some s=>Y.set i (f s)|none=>Y)
 | none=>Y
variable {n:Nat}{np:List Value}{Y:List VS}
theorem vX_len (hl:np.length=Y.length):(vX np Y).length=Y.length:=by simp[vX,hl]
theorem vX_get (hl:np.length=Y.length) {i:Nat}(hi:i<Y.length):(vX np Y)[i]?=some (np[i]'(by omega),(Y[i]).ses):=by
 rw[List.getElem?_eq_getElem (by rw[vX_len hl];exact hi)]
 simp[vX]
theorem vX_none (hl:np.length=Y.length) {i:Nat}(hi:¬i<Y.length):(vX np Y)[i]?=none:=List.getElem?_eq_none (by rw[vX_len hl];omega)
theorem vAt_ses (hl:np.length=Y.length) (a b:Int):at' n (vX np Y) a b=(vAt n Y a b).map VS.ses:=by
 unfold at' vAt
 cases idx n a b with
 | none=>rfl
 | some i =>
  simp only[Option.bind_some]
  by_cases hi:i<Y.length
  ·rw[vX_get hl hi,List.getElem?_eq_getElem hi];rfl
  ·rw[vX_none hl hi,List.getElem?_eq_none (by omega)];rfl
theorem vAsk {α:Type}(hl:np.length=Y.length) (a b:Int) (z:α) (f:Ses→α):ask n (vX np Y) a b z f=(match vAt n Y a b with|some s=>f s.ses|none=>z):=by
 unfold ask
 rw[vAt_ses hl]
 cases vAt n Y a b<;>rfl
theorem vUpd_ses (hl:np.length=Y.length) (a b:Int) {F:Ses→Ses}{f:VS→VS}(hF:∀s,vAt n Y a b=some s→F s.ses=(f s).ses):upd n (vX np Y) a b F=vX np (vUpd n Y a b f):=by
 unfold upd vUpd
 unfold vAt at hF
 cases hx:idx n a b with
 | none=>rfl
 | some i =>
  simp only[hx,Option.bind_some]at hF
  by_cases hi:i<Y.length
  ·rw[List.getElem?_eq_getElem hi]at hF
   simp only[vX_get hl hi,List.getElem?_eq_getElem hi]
   rw[hF _ rfl]
   refine List.ext_getElem (by simp[vX]) λj h1 h2=>?_
   simp only[vX,List.getElem_set,List.getElem_zip,List.getElem_map]
   split
   ·subst j;rfl
   ·rfl
  ·simp only[vX_none hl hi,List.getElem?_eq_none (show Y.length≤i by omega)]
theorem vUpd_len (Y:List VS) (a b:Int) (f:VS→VS):(vUpd n Y a b f).length=Y.length:=by
 unfold vUpd
 split
 ·split<;>simp
 ·rfl
theorem vAt_mem {a b:Int}{s:VS}(h:vAt n Y a b=some s):s∈Y:=by
 unfold vAt at h
 obtain⟨i,_,h⟩:=Option.bind_eq_some_iff.1 h
 exact List.mem_of_getElem? h
theorem vUpd_fit {m m':Nat}{a b:Int}{f:VS→VS}(h:∀s∈Y,s.Fit m) (hm:m≤m') (hf:∀s,vAt n Y a b=some s→(f s).Fit m'):∀s∈vUpd n Y a b f,s.Fit m':=by
 intro s hs
 unfold vUpd at hs
 unfold vAt at hf
 cases hi:idx n a b with
 | none=>rw[hi]at hs;exact(h s hs).mono hm
 | some i =>
  rw[hi]at hs hf
  simp only[Option.bind_some]at hf
  cases hy:Y[i]? with
  | none=>simp only[hy]at hs;exact(h s hs).mono hm
  | some x =>
   simp only[hy]at hs
   rcases List.mem_or_eq_of_mem_set hs with hs|rfl
   ·exact(h s hs).mono hm
   ·exact hf x hy
theorem vX_fit {m:Nat}(h:∀s∈Y,s.Fit m):∀p∈vX np Y,Fit m p.2:=λp hp=>by
 obtain⟨s,hs,e⟩:=List.mem_map.1 (List.of_mem_zip (a:=p.1) (b:=p.2) hp).2
 rw[←e];exact(h s hs).ses
theorem vX_places (h:∀v∈np,∃a,v=.pointer (some a)):Places (vX np Y):=λx hx=>h x.1 (List.of_mem_zip (a:=x.1) (b:=x.2) hx).1
theorem vX_idle (hl:np.length=Y.length):idle (vX np Y)=Y.all (·.op.isEmpty):=by
 unfold idle vX
 rw[show(λp:Value×Ses=>p.2.op.isEmpty)=(λs:Ses=>s.op.isEmpty)∘Prod.snd from rfl,←List.all_map,List.map_snd_zip (by simp[hl]),List.all_map]
 congr 1
 funext s
 simp[VS.ses]
theorem vX_full (hl:np.length=Y.length) (h:∀i,i<Y.length→∃c:H.SK,idx n c.1 c.2=some i):Full n (vX np Y):=λi hi=>h i (by rw[vX_len hl]at hi;exact hi)
end N
end Go.Proofs.YtdnijgdmohinlaaGreat
end
section
set_option maxRecDepth 100000
namespace Go.Proofs.YtdnijgdmohinlaaGreat
open Go.RowKit A R
open A.RowT
namespace J
def andI (x m:Int):Int:=IntKind.i64.wrap (BitVec.ofInt 64 x&&&BitVec.ofInt 64 m).toNat
theorem andI_le (x:Int) (m:Nat) (hm:m<1000):0≤andI x m∧andI x m≤m:=by
 unfold andI
 have h1:(BitVec.ofInt 64 x&&&BitVec.ofInt 64 (m:Int)).toNat≤m:=by
  rw[BitVec.toNat_and]
  refine Nat.le_trans Nat.and_le_right ?_
  rw[BitVec.toNat_ofInt]
  omega
 generalize (BitVec.ofInt 64 x&&&BitVec.ofInt 64 (m:Int)).toNat=z at h1
 rw[IntKind.wrap_i64]
 omega
theorem u8_wrap {z:Int}(h:0≤z∧z≤255):IntKind.u8.wrap z=((UInt8.ofNat z.toNat).toNat:Int):=by
 have h1:IntKind.u8.wrap z=z:=by
  unfold IntKind.wrap
  simp[IntKind.bits,IntKind.signed]
  omega
 rw[h1]
 have:(UInt8.ofNat z.toNat).toNat=z.toNat:=by
  rw[UInt8.toNat_ofNat']
  omega
 rw[this];omega
end J
structure HOp where
 kind:Int
 key:Int
 n:Int
 site:Int
 raw:Bool
 v:Ver
 pin:Dep
instance:Inhabited HOp:=⟨⟨0,0,0,0,false,default,default⟩⟩
namespace J
end J
end Go.Proofs.YtdnijgdmohinlaaGreat
end
section
set_option maxRecDepth 100000
namespace Go.Proofs.YtdnijgdmohinlaaGreat
open Go.RowKit A R
open A.RowT
namespace J
theorem Sm.mono {m m':Nat}{cs:SC}(h:Sm m cs) (hm:m≤m'):Sm m' cs:=⟨Nat.le_trans h.1 hm,λp hp=>⟨Nat.le_trans (h.2 p hp).1 hm,(h.2 p hp).2⟩⟩
theorem sm_nil (m:Nat):Sm m []:=⟨Nat.zero_le _,λp hp=>by cases hp⟩
theorem rise_nil:RiseC []:=.nil
end J
namespace J
end J
end Go.Proofs.YtdnijgdmohinlaaGreat
end
section
set_option maxRecDepth 100000
namespace Go.Proofs.YtdnijgdmohinlaaGreat
open Go.RowKit A R
open A.RowT
set_option maxRecDepth 100000 in
theorem containsV_a (l:List Ver) (f:FuncId) (caps:List AV) (p:Ver→Bool) (hf:∀x,ACall Tryz.prog f ([.row x.row]++caps) (bv (p x))):ACall Tryz.prog 333 [.sl 6 (l.map Ver.row),.fn f caps] (bv (l.any p)):=by
 refine AC_1 Tryz.func333 Tryz.ntmps333 Tryz.results333 λhok M0 w0 hnl=>?_
 refine Aw_sr ?_
 refine Al_mr ?_
 refine Al_ns ?_
 refine Al_ml ?_
 refine Al_ml ?_
 refine Al_p (Pu_call (indexV_a l f caps p hf) rfl ⟨Sub.rfl,Sub.rfl,trivial⟩) ?_
 refine Al_p Pu_cp ?_
 refine Al_mr ?_
 refine Al_nil ?_
 exact Aw_ret (Sub.bool S.find_any)
structure PS where
 id:Int
 wait:List Ver
 n:Int
 s:Int
 rs:List Rng
 cs:SC
abbrev ST (p:PS) (b:Nat):Obs:=[(1001,.box 163 [.bx 1002 0 0,.d (iv p.id),.d (versA p.wait),.d (iv p.n),.d (iv p.s)]),(1002,.box 238 [.d (rngA p.rs),.ow 1003 0]),(1003,mapV b p.cs)]
theorem SH_in (rs:List Rng) (cs:SC) (b:Nat):ObsIn [1001,1002] (SH rs cs b):=⟨rfl,λ_ _ _ _ _ h=>h,trivial⟩
theorem ST_in (p:PS) (b:Nat):ObsIn [1001,1002,1003] (ST p b):=⟨rfl,rfl,λ_ _ _ _ _ h=>h,trivial⟩
def mx (a b:Int×Int):Int×Int:=D.maxS [a,b]
namespace J
def nextE (n:Int):Int:=if 1099511627776≤n then 18 else 0
def nextR (n k:Int):Int×Int:=if 1099511627776≤n then(0,0)else(max n 0+1,k)
theorem have_srt {cs:SC}(h:RiseC cs):D.Srt (have' cs):=by
 unfold have' D.Srt
 rw[List.pairwise_map]
 exact h
theorem hav_len (cs:SC):(have' cs).length=cs.length:=by unfold have' keysC;simp
theorem past_len {v:Ver}(h:checkB v=true):v.past.length≤24:=by
 unfold checkB at h
 simp only[Bool.and_eq_true]at h
 exact(past_good h.2.2.1).2
end J
namespace PS
structure Ok (p:PS) (m:Nat):Prop where
 rise:J.RiseC p.cs
 sm:J.Sm m p.cs
 wl:p.wait.length≤24
 wp:∀v∈p.wait,J.checkB v=true
 rl:p.rs.length≤1000000
 id:0≤p.id∧p.id<6
theorem Ok.mono {p:PS}{m m':Nat}(h:p.Ok m) (hm:m≤m'):p.Ok m':=⟨h.rise,h.sm.mono hm,h.wl,h.wp,h.rl,h.id⟩
def seen (p:PS) (past:List Dep):Int×Int:=past.foldl (λx d=>mx x (d.n,d.s)) (p.n,p.s)
def made (p:PS) (key value:ByteArray) (gone:Bool) (past:List Dep):Ver:=⟨key,value,gone,max (p.seen past).1 0+1,p.id,past⟩
def writeE (p:PS) (key value:ByteArray) (gone:Bool) (past:List Dep):Int :=
 if findR p.rs key<0 then 14 else if 1099511627776≤(p.seen past).1 then 18 else if J.checkB (p.made key value gone past)then 0 else 1
def writeP (p:PS) (key value:ByteArray) (gone:Bool) (past:List Dep):PS :=
 {p with cs:=(J.sput p.rs p.cs (p.made key value gone past)).1,n:=max (p.seen past).1 0+1,s:=p.id}
def write (p:PS) (key value:ByteArray) (gone:Bool) (past:List Dep):PS:=if p.writeE key value gone past=0 then p.writeP key value gone past else p
def writeV (p:PS) (key value:ByteArray) (gone:Bool) (past:List Dep):Ver:=if p.writeE key value gone past=0 then p.made key value gone past else default
def isW (v w:Ver):Bool:=(w.key.toList==v.key.toList)&&((w.n==v.n)&&(w.s==v.s))
def there (p:PS) (v:Ver):Bool:=(J.sat p.cs v.key v.n v.s).isSome||p.wait.any (isW v)
def arriveE (p:PS) (v:Ver):Int :=
 if J.checkB v=false then 1 else if findR p.rs v.key<0 then 0 else if p.there v then 13 else J.pushE p.wait v
def clockP (p:PS) (v:Ver):PS:={p with n:=(mx (p.n,p.s) (v.n,v.s)).1,s:=(mx (p.n,p.s) (v.n,v.s)).2}
def arrive (p:PS) (v:Ver):PS:=if p.arriveE v=0 then(if findR p.rs v.key<0 then p else{p with wait:=p.wait++[v]}).clockP v else p
def stepV (p:PS):Option Ver:=J.nextV p.wait (J.have' p.cs) p.rs
def step (p:PS):PS:=match p.stepV with
 | some v=>{p with wait:=J.nextL p.wait (J.have' p.cs) p.rs,cs:=(J.sput p.rs p.cs v).1}
 | none=>p
def readE (p:PS) (key:ByteArray):Int:=if findR p.rs key<0 then 14 else 0
def readV (p:PS) (key:ByteArray):Option Ver:=if findR p.rs key<0 then none else J.shead p.cs key
end PS
def PS.zero (k:Int) (rs:List Rng):PS:=⟨k,[],0,0,rs,[]⟩
theorem snextG_a (n s k:Int) (hk:0≤k∧k<6):ACall Tryz.prog 228 [.row [iv n,iv s],iv k] (.tup [.row [iv (J.nextR n k).1,iv (J.nextR n k).2],iv (J.nextE n)]):=by
 refine AC_G Tryz.func228 Tryz.ntmps228 (Reads.cN1 Tryz.results228 Tryz.isAgg47 Tryz.sizeOf47) λhok M0 w0 hnl=>?_
 refine Aw_sr ?_
 refine Al_p Pu_bN ?_
 refine Al_al Tryz.zeroValue47 λg4=>?_
 refine Al_mr ?_
 refine Al_nil (Aw_seq (Aw_block (Aw_sr ?_)))
 refine Al_ml ?_
 refine Al_p Pu_cp ?_
 refine Al_ml ?_
 refine Al_s (St_g [] trivial (λ_=>Pu_mvl)) ?_
 refine Al_s (St_g [10] ⟨⟨_,rfl⟩,trivial⟩ (λ_=>Pu_cp)) ?_
 refine Al_p Pu_o ?_
 refine Al_mr ?_
 refine Al_nil ?_
 refine Aw_cond rfl (λh6=>?_) (λh6=>?_)
 ·(try simp only[A.cd_]at h6)
  exfalso
  omega
 ·(try simp only[A.cd_]at h6)
  refine Aw_sr ?_
  refine Al_p (Pu_fd 0 Tryz.underlying47 Tryz.sizeOf3) ?_
  refine Al_p (Pu_l1 Tryz.isAgg3) ?_
  refine Al_p Pu_cp ?_
  refine Al_mr ?_
  refine Al_nil ?_
  refine Aw_cond rfl (λh14=>?_) (λh14=>?_)
  ·(try simp only[A.cd_]at h14)
   have e1:J.nextE n=18:=by unfold J.nextE;rw[if_pos h14]
   have e2:J.nextR n k=(0,0):=by unfold J.nextR;rw[if_pos h14]
   refine Aw_sr ?_
   refine Al_p (Pu_build (aa:=[]) rfl Tryz.underlying47 Tryz.zeroValue47 places47 (by kernel_rfl) trivial rfl) ?_
   refine Al_sN Tryz.isAgg47 Tryz.sizeOf47 ?_
   refine Al_mr ?_
   refine Al_nil ?_
   exact Aw_ret (⟨_,_,_,_,_,[_,_],_,rfl,rfl,rfl,rfl,Sub.rfl,by rw[e1,e2]⟩)
  ·(try simp only[A.cd_]at h14)
   have e1:J.nextE n=0:=by unfold J.nextE;rw[if_neg h14]
   have e2:J.nextR n k=(max n 0+1,k):=by unfold J.nextR;rw[if_neg h14]
   refine Aw_skip (Aw_sr ?_)
   refine Al_p (Pu_fd 0 Tryz.underlying47 Tryz.sizeOf3) ?_
   refine Al_p (Pu_l1 Tryz.isAgg3) ?_
   refine Al_p (Pu_max2 (c:=max n 0) rfl rfl rfl (by rw[Int.max_def];split<;>split<;>omega)) ?_
   refine Al_p Pu_ad ?_
   refine Al_ml ?_
   refine Al_p (Pu_build (aa:=[(0,_),(1,_)]) rfl Tryz.underlying47 Tryz.zeroValue47 places47 (by kernel_rfl) ⟨rfl,rfl,rfl,rfl,rfl,rfl,trivial⟩ rfl) ?_
   refine Al_sN Tryz.isAgg47 Tryz.sizeOf47 ?_
   refine Al_mr ?_
   refine Al_nil ?_
   exact Aw_ret (⟨_,_,_,_,_,[_,_],_,rfl,rfl,rfl,rfl,Sub.rfl,by rw[e1,e2]⟩)
theorem kput_g (rs:List Rng) (cs:SC) (b:Nat) (v:Ver) (hrl:rs.length≤1000000) (hr:J.RiseC cs) (hs:J.Sm 1000 cs):GCall Tryz.prog 231 [.ag [.bx 1001 0 0],.d (.row v.row)] (SH rs cs b) (some (SH rs (J.sput rs cs v).1 b,.d (bv (J.sput rs cs v).2))):=by
 refine GC_L Tryz.func231 Tryz.ntmps231 (ReadsS.r1 Tryz.results231) λhok hokB M0 w0 hl=>?_
 refine Aw_sr ?_
 refine Al_boxAg rfl rfl rfl (by decide) (by kernel_rfl) rfl (λg2=>?_)
 refine Al_p Pu_bN ?_
 refine Al_mr ?_
 refine Al_ns ?_
 refine Al_p (Pu_fb 0 Tryz.underlying161 Tryz.sizeOf158) ?_
 refine Al_p (Pu_lb Tryz.isAgg158) ?_
 refine Al_p (Pu_lN Tryz.isAgg50 Tryz.sizeOf50) ?_
 refine Al_gcall [(1001,1001,0),(1002,1002,0)] [] (sput_g rs cs b v hrl hr hs) rfl rfl rfl (by decide) (by kernel_rfl) ⟨rfl,rfl,trivial⟩ rfl ⟨Sub.rfl,Sub.rfl,trivial⟩ (λg8=>?_)
 refine Al_mr ?_
 refine Al_nil ?_
 exact Aw_ret (⟨_,_,[],rfl,Sub.rfl,⟨rfl,rfl,trivial⟩,rfl⟩)
theorem khead_g (rs:List Rng) (cs:SC) (b:Nat) (key:ByteArray) (hs:J.Sm 1000 cs):GCall Tryz.prog 234 [.ag [.bx 1001 0 0],.d (tv key)] (SH rs cs b) (some (SH rs cs b,.d (verA (J.shead cs key)))):=by
 refine GC_L Tryz.func234 Tryz.ntmps234 (ReadsS.cN1 Tryz.results234 Tryz.isAgg50 Tryz.sizeOf50) λhok hokB M0 w0 hl=>?_
 refine Aw_sr ?_
 refine Al_boxAg rfl rfl rfl (by decide) (by kernel_rfl) rfl (λg2=>?_)
 refine Al_al Tryz.zeroValue50 λg4=>?_
 refine Al_mr ?_
 refine Al_ns ?_
 refine Al_p (Pu_fb 0 Tryz.underlying161 Tryz.sizeOf158) ?_
 refine Al_p (Pu_lb Tryz.isAgg158) ?_
 refine Al_ml ?_
 refine Al_p (Pu_gcall [(1001,1001,0),(1002,1002,0)] (shead_g rs cs b key hs) (SH_in ..) rfl ⟨rfl,rfl,trivial⟩ rfl ⟨Sub.rfl,Sub.rfl,trivial⟩) ?_
 refine Al_p Pu_ex ?_
 refine Al_p Pu_ex ?_
 refine Al_sN Tryz.isAgg50 Tryz.sizeOf50 ?_
 refine Al_mr ?_
 refine Al_nil ?_
 exact Aw_ret (⟨_,_,[],rfl,⟨_,rfl,_,_,_,_,_,[_,_,_,_,_,_],_,rfl,rfl,rfl,rfl,Sub.rfl,rfl⟩,⟨rfl,rfl,trivial⟩,rfl⟩)
theorem kat_g (rs:List Rng) (cs:SC) (b:Nat) (key:ByteArray) (n s:Int) (hs:J.Sm 1000 cs):GCall Tryz.prog 332 [.ag [.bx 1001 0 0],.d (tv key),.d (.row [iv n,iv s])] (SH rs cs b) (some (SH rs cs b,.d (verA (J.sat cs key n s)))):=by
 refine GC_L Tryz.func332 Tryz.ntmps332 (ReadsS.cN1 Tryz.results332 Tryz.isAgg50 Tryz.sizeOf50) λhok hokB M0 w0 hl=>?_
 refine Aw_sr ?_
 refine Al_boxAg rfl rfl rfl (by decide) (by kernel_rfl) rfl (λg3=>?_)
 refine Al_p Pu_bN ?_
 refine Al_al Tryz.zeroValue50 λg6=>?_
 refine Al_mr ?_
 refine Al_ns ?_
 refine Al_p (Pu_fb 0 Tryz.underlying161 Tryz.sizeOf158) ?_
 refine Al_p (Pu_lb Tryz.isAgg158) ?_
 refine Al_ml ?_
 refine Al_p (Pu_lN Tryz.isAgg47 Tryz.sizeOf47) ?_
 refine Al_p (Pu_gcall [(1001,1001,0),(1002,1002,0)] (sat_g rs cs b key n s hs) (SH_in ..) rfl ⟨rfl,rfl,trivial⟩ rfl ⟨Sub.rfl,Sub.rfl,Sub.rfl,trivial⟩) ?_
 refine Al_p Pu_ex ?_
 refine Al_p Pu_ex ?_
 refine Al_sN Tryz.isAgg50 Tryz.sizeOf50 ?_
 refine Al_mr ?_
 refine Al_nil ?_
 exact Aw_ret (⟨_,_,[],rfl,⟨_,rfl,_,_,_,_,_,[_,_,_,_,_,_],_,rfl,rfl,rfl,rfl,Sub.rfl,rfl⟩,⟨rfl,rfl,trivial⟩,rfl⟩)
namespace PS
theorem Ok.hl {p:PS}{m:Nat}(h:p.Ok m) (hm:m≤1000):(J.have' p.cs).length≤1000000:=by rw[J.hav_len];have:=h.sm.1;omega
theorem seen_take (p:PS) (past:List Dep) {k:Nat}(hk:k<past.length):p.seen (past.take (k+1))=mx (p.seen (past.take k)) ((past.getD k default).n,(past.getD k default).s):=by
 have hg:past.getD k default=past[k]:=by simp[hk]
 rw[List.take_succ_eq_append_getElem hk,hg]
 unfold seen
 rw[List.foldl_append];rfl
theorem wait_past {p:PS}{m:Nat}(h:p.Ok m):∀v∈p.wait,v.past.length≤1000000:=λv hv=>Nat.le_trans (J.past_len (h.wp v hv)) (by decide)
end PS
theorem cloneD_a (l:List Dep) (hl:l.length≤1000000):ACall Tryz.prog 229 [.sl 3 (l.map Dep.row)] (.sl 3 (l.map Dep.row)):=GCall.a (aa:=[.sl 3 (l.map Dep.row)]) (cloneD_g l hl)
section
variable (p:PS) (b:Nat)
theorem stOwn_g (hrl:p.rs.length≤1000000):GCall Tryz.prog 147 [.bx 1001 0 0] (ST p b) (some (ST p b,.d (rngA p.rs))):=by
 refine GC_L Tryz.func147 Tryz.ntmps147 (ReadsS.r1 Tryz.results147) λhok hokB M0 w0 hl=>?_
 refine Aw_sr ?_
 refine Al_mr ?_
 refine Al_nil (Aw_seq (Aw_sr ?_))
 refine Al_ml ?_
 refine Al_p (Pu_eqnilb Tryz.underlying92 rfl rfl) ?_
 refine Al_nil ?_
 refine Aw_condF rfl (rfl) ?_
 refine Aw_skip (Aw_sr ?_)
 refine Al_ml ?_
 refine Al_p Pu_nb ?_
 refine Al_p (Pu_fb 0 Tryz.underlying163 Tryz.sizeOf161) ?_
 refine Al_p (Pu_fb 0 Tryz.underlying161 Tryz.sizeOf158) ?_
 refine Al_p (Pu_lb Tryz.isAgg158) ?_
 refine Al_p (Pu_gcall [(1001,1002,0),(1002,1003,0)] (sranges_g p.rs p.cs b hrl) (SH_in ..) rfl ⟨rfl,rfl,trivial⟩ rfl ⟨Sub.rfl,trivial⟩) ?_
 refine Al_mr ?_
 refine Al_nil ?_
 exact Aw_ret (⟨_,_,[],rfl,Sub.rfl,⟨rfl,rfl,rfl,trivial⟩,rfl⟩)
theorem stowns_g (key:ByteArray) (hrl:p.rs.length≤1000000):GCall Tryz.prog 226 [.bx 1001 0 0,.d (tv key)] (ST p b) (some (ST p b,.d (bv (decide (0≤findR p.rs key))))):=by
 refine GC_L Tryz.func226 Tryz.ntmps226 (ReadsS.r1 Tryz.results226) λhok hokB M0 w0 hl=>?_
 refine Aw_sr ?_
 refine Al_mr ?_
 refine Al_ns ?_
 refine Al_ml ?_
 refine Al_p (Pu_gcall [(1001,1001,0),(1002,1002,0),(1003,1003,0)] (stOwn_g p b hrl) (ST_in ..) rfl ⟨rfl,rfl,rfl,trivial⟩ rfl ⟨Sub.rfl,trivial⟩) ?_
 refine Al_ml ?_
 refine Al_p (Pu_call (find_a p.rs key hrl) rfl ⟨Sub.rfl,Sub.rfl,trivial⟩) ?_
 refine Al_p Pu_cp ?_
 refine Al_mr ?_
 refine Al_nil ?_
 exact Aw_ret (⟨_,_,[],rfl,Sub.rfl,⟨rfl,rfl,rfl,trivial⟩,rfl⟩)
theorem stWaiting_g:GCall Tryz.prog 76 [.bx 1001 0 0] (ST p b) (some (ST p b,.d (iv p.wait.length))):=by
 refine GC_L Tryz.func76 Tryz.ntmps76 (ReadsS.r1 Tryz.results76) λhok hokB M0 w0 hl=>?_
 refine Aw_sr ?_
 refine Al_mr ?_
 refine Al_nil (Aw_seq (Aw_sr ?_))
 refine Al_ml ?_
 refine Al_p (Pu_eqnilb Tryz.underlying92 rfl rfl) ?_
 refine Al_nil ?_
 refine Aw_condF rfl (rfl) ?_
 refine Aw_skip (Aw_sr ?_)
 refine Al_ml ?_
 refine Al_p Pu_nb ?_
 refine Al_p (Pu_fb 2 Tryz.underlying163 Tryz.sizeOf35) ?_
 refine Al_p (Pu_lb Tryz.isAgg35) ?_
 refine Al_p (Pu_ln Tryz.underlying35) ?_
 refine Al_mr ?_
 refine Al_nil ?_
 exact Aw_ret (⟨_,_,[],rfl,Sub.rfl,⟨rfl,rfl,rfl,trivial⟩,rfl⟩)
theorem stHave_g {m:Nat}(hp:p.Ok m) (hm:m≤1000):GCall Tryz.prog 49 [.bx 1001 0 0] (ST p b) (some (ST p b,.d (.sl 3 ((J.have' p.cs).map Dep.row)))):=by
 refine GC_L Tryz.func49 Tryz.ntmps49 (ReadsS.r1 Tryz.results49) λhok hokB M0 w0 hl=>?_
 refine Aw_sr ?_
 refine Al_mr ?_
 refine Al_nil (Aw_seq (Aw_sr ?_))
 refine Al_ml ?_
 refine Al_p (Pu_eqnilb Tryz.underlying92 rfl rfl) ?_
 refine Al_nil ?_
 refine Aw_condF rfl (rfl) ?_
 refine Aw_skip (Aw_sr ?_)
 refine Al_ml ?_
 refine Al_p Pu_nb ?_
 refine Al_p (Pu_fb 0 Tryz.underlying163 Tryz.sizeOf161) ?_
 refine Al_p (Pu_fb 0 Tryz.underlying161 Tryz.sizeOf158) ?_
 refine Al_p (Pu_lb Tryz.isAgg158) ?_
 refine Al_p (Pu_gcall [(1001,1002,0),(1002,1003,0)] (shave_g p.rs p.cs b hp.rise (hp.sm.mono hm)) (SH_in ..) rfl ⟨rfl,rfl,trivial⟩ rfl ⟨Sub.rfl,trivial⟩) ?_
 refine Al_mr ?_
 refine Al_nil ?_
 exact Aw_ret (⟨_,_,[],rfl,Sub.rfl,⟨rfl,rfl,rfl,trivial⟩,rfl⟩)
theorem stChain_g (key:ByteArray) {m:Nat}(hp:p.Ok m) (hm:m≤1000):GCall Tryz.prog 43 [.bx 1001 0 0,.d (tv key)] (ST p b) (some (ST p b,.d (versA (J.getC p.cs key)))):=by
 refine GC_L Tryz.func43 Tryz.ntmps43 (ReadsS.r1 Tryz.results43) λhok hokB M0 w0 hl=>?_
 refine Aw_sr ?_
 refine Al_mr ?_
 refine Al_nil (Aw_seq (Aw_sr ?_))
 refine Al_ml ?_
 refine Al_p (Pu_eqnilb Tryz.underlying92 rfl rfl) ?_
 refine Al_nil ?_
 refine Aw_condF rfl (rfl) ?_
 refine Aw_skip (Aw_sr ?_)
 refine Al_ml ?_
 refine Al_p Pu_nb ?_
 refine Al_p (Pu_fb 0 Tryz.underlying163 Tryz.sizeOf161) ?_
 refine Al_p (Pu_fb 0 Tryz.underlying161 Tryz.sizeOf158) ?_
 refine Al_p (Pu_lb Tryz.isAgg158) ?_
 refine Al_ml ?_
 refine Al_p (Pu_gcall [(1001,1002,0),(1002,1003,0)] (schain_g p.rs p.cs b key (hp.sm.mono hm)) (SH_in ..) rfl ⟨rfl,rfl,trivial⟩ rfl ⟨Sub.rfl,Sub.rfl,trivial⟩) ?_
 refine Al_mr ?_
 refine Al_nil ?_
 exact Aw_ret (⟨_,_,[],rfl,Sub.rfl,⟨rfl,rfl,rfl,trivial⟩,rfl⟩)
theorem stRead_g (key:ByteArray) {m:Nat}(hp:p.Ok m) (hm:m≤1000):GCall Tryz.prog 154 [.bx 1001 0 0,.d (tv key)] (ST p b) (some (ST p b,.d (.tup [.row ((p.readV key).getD default).row,bv (p.readV key).isSome,iv (p.readE key)]))):=by
 refine GC_L Tryz.func154 Tryz.ntmps154 (ReadsS.cN2 Tryz.results154 Tryz.isAgg50 Tryz.sizeOf50) λhok hokB M0 w0 hl=>?_
 refine Aw_sr ?_
 refine Al_al Tryz.zeroValue50 λg4=>?_
 refine Al_mr ?_
 refine Al_mr ?_
 refine Al_nil (Aw_seq (Aw_block (Aw_sr ?_)))
 refine Al_ml ?_
 refine Al_p (Pu_eqnilb Tryz.underlying92 rfl rfl) ?_
 refine Al_mr ?_
 refine Al_nil ?_
 refine Aw_condF rfl (rfl) ?_
 refine Aw_sr ?_
 refine Al_ml ?_
 refine Al_ml ?_
 refine Al_p (Pu_gcall [(1001,1001,0),(1002,1002,0),(1003,1003,0)] (stowns_g p b key hp.rl) (ST_in ..) rfl ⟨rfl,rfl,rfl,trivial⟩ rfl ⟨Sub.rfl,Sub.rfl,trivial⟩) ?_
 refine Al_p Pu_n ?_
 refine Al_mr ?_
 refine Al_nil ?_
 refine Aw_cond rfl (λh13=>?_) (λh13=>?_)
 ·skip
  have h0:findR p.rs key<0:=by simpa using h13
  have e1:p.readV key=none:=by unfold PS.readV;rw[if_pos h0]
  have e2:p.readE key=14:=by unfold PS.readE;rw[if_pos h0]
  refine Aw_sr ?_
  refine Al_p (Pu_build (aa:=[]) rfl Tryz.underlying50 Tryz.zeroValue50 places50 (by kernel_rfl) trivial rfl) ?_
  refine Al_sN Tryz.isAgg50 Tryz.sizeOf50 ?_
  refine Al_mr ?_
  refine Al_mr ?_
  refine Al_nil ?_
  rw[e1,e2]
  refine Aw_boxle (k:=4) ((default:Ver).row.map .d) rfl ⟨Sub.rfl,Sub.rfl,Sub.rfl,Sub.rfl,Sub.rfl,Sub.nil,trivial⟩ ?_
  exact Aw_ret (⟨_,_,[],rfl,⟨_,rfl,_,_,_,_,_,[_,_,_,_,_,_],_,_,rfl,rfl,rfl,rfl,Sub.rfl,Sub.rfl,rfl⟩,⟨rfl,rfl,rfl,trivial⟩,rfl⟩)
 ·skip
  have h0:¬findR p.rs key<0:=by simpa using h13
  have e1:p.readV key=J.shead p.cs key:=by unfold PS.readV;rw[if_neg h0]
  have e2:p.readE key=0:=by unfold PS.readE;rw[if_neg h0]
  refine Aw_skip (Aw_sr ?_)
  refine Al_ml ?_
  refine Al_p Pu_nb ?_
  refine Al_p (Pu_fb 0 Tryz.underlying163 Tryz.sizeOf161) ?_
  refine Al_p (Pu_loadAg (r:=[.bx 1002 0 0]) rfl Tryz.isAgg161 Tryz.sizeOf161 rfl rfl (by exact rfl) rfl) ?_
  refine Al_ml ?_
  refine Al_p (Pu_gcall [(1001,1002,0),(1002,1003,0)] (khead_g p.rs p.cs b key (hp.sm.mono hm)) (SH_in ..) rfl ⟨rfl,rfl,trivial⟩ rfl ⟨Sub.rfl,Sub.rfl,trivial⟩) ?_
  refine Al_ml ?_
  refine Al_p Pu_ex ?_
  refine Al_p Pu_ex ?_
  refine Al_al Tryz.zeroValue50 λg7=>?_
  refine Al_sN Tryz.isAgg50 Tryz.sizeOf50 ?_
  refine Al_mr ?_
  refine Al_ns ?_
  refine Al_p (Pu_lbN (r:=[_,_,_,_,_,_]) Tryz.isAgg50 Tryz.sizeOf50) ?_
  refine Al_ml ?_
  refine Al_sN Tryz.isAgg50 Tryz.sizeOf50 ?_
  refine Al_mr ?_
  refine Al_mr ?_
  refine Al_nil ?_
  rw[e1,e2]
  exact Aw_ret (⟨_,_,[],rfl,⟨_,rfl,_,_,_,_,_,[_,_,_,_,_,_],_,_,rfl,rfl,rfl,rfl,Sub.rfl,Sub.rfl,rfl⟩,⟨rfl,rfl,rfl,trivial⟩,rfl⟩)
theorem stthere1_a (v w:Ver):ACall Tryz.prog 334 [.row w.row,.fp v.row] (bv (PS.isW v w)):=by
 refine AC_1 Tryz.func334 Tryz.ntmps334 Tryz.results334 λhok M0 w0 hnl=>?_
 refine Aw_sr ?_
 refine Al_p Pu_bN ?_
 refine Al_mr ?_
 refine Al_ns ?_
 refine Al_p (Pu_fd 0 Tryz.underlying50 Tryz.sizeOf9) ?_
 refine Al_p (Pu_l1 Tryz.isAgg9) ?_
 refine Al_p (Pu_fd 0 Tryz.underlying50 Tryz.sizeOf9) ?_
 refine Al_p (Pu_l1 Tryz.isAgg9) ?_
 refine Al_p Pu_sr ?_
 refine Al_ml ?_
 refine Al_s (St_g [] trivial (λ_=>Pu_fd 3 Tryz.underlying50 Tryz.sizeOf47)) ?_
 refine Al_s (St_g [10] ⟨⟨_,rfl⟩,trivial⟩ (λ_=>Pu_lN Tryz.isAgg47 Tryz.sizeOf47)) ?_
 refine Al_s (St_g [] trivial (λ_=>Pu_fd 3 Tryz.underlying50 Tryz.sizeOf47)) ?_
 refine Al_s (St_g [12] ⟨⟨_,rfl⟩,trivial⟩ (λ_=>Pu_lN Tryz.isAgg47 Tryz.sizeOf47)) ?_
 refine Al_s (St_g [11,13] ⟨⟨_,rfl⟩,⟨_,rfl⟩,trivial⟩ (λ_=>Pu_eqrow [.int .i64 _,.int .i64 _] [.int .i64 _,.int .i64 _] (λw=>eqv47 _ _ _ _ _ _ w) rfl rfl rfl)) ?_
 refine Al_p Pu_a ?_
 refine Al_mr ?_
 refine Al_nil ?_
 exact Aw_ret (Sub.rfl)
theorem stthere_g (v:Ver) {m:Nat}(hp:p.Ok m) (hm:m≤1000):GCall Tryz.prog 261 [.bx 1001 0 0,.d (.row v.row)] (ST p b) (some (ST p b,.d (bv (p.there v)))):=by
 refine GC_L Tryz.func261 Tryz.ntmps261 (ReadsS.r1 Tryz.results261) λhok hokB M0 w0 hl=>?_
 refine Aw_sr ?_
 refine Al_p Pu_bN ?_
 refine Al_mr ?_
 refine Al_nil ?_
 refine Aw_seq ?_
 refine Aw_drawPA 10 12 4 (by kernel_rfl) (by kernel_rfl) rfl (by decide) rfl rfl rfl rfl (by decide) Tryz.zeroValue50 rfl (by kernel_rfl) rfl ?_
 refine Dr_ml ?_
 refine Dr_p Pu_nb ?_
 refine Dr_p (Pu_fb 0 Tryz.underlying163 Tryz.sizeOf161) ?_
 refine Dr_p (Pu_loadAg (r:=[.bx 1002 0 0]) rfl Tryz.isAgg161 Tryz.sizeOf161 rfl rfl (by exact rfl) rfl) ?_
 refine Dr_p (Pu_fd 0 Tryz.underlying50 Tryz.sizeOf9) ?_
 refine Dr_p (Pu_l1 Tryz.isAgg9) ?_
 refine Dr_p (Pu_fd 3 Tryz.underlying50 Tryz.sizeOf47) ?_
 refine Dr_p (Pu_lN Tryz.isAgg47 Tryz.sizeOf47) ?_
 refine Dr_p (Pu_gcall [(1001,1002,0),(1002,1003,0)] (kat_g p.rs p.cs b v.key v.n v.s (hp.sm.mono hm)) (SH_in ..) rfl ⟨rfl,rfl,trivial⟩ rfl ⟨Sub.rfl,Sub.rfl,Sub.rfl,trivial⟩) ?_
 refine Dr_ml ?_
 refine Dr_nil ⟨?_,λg5=>?_⟩
 ·refine Ad_t 10 rfl PuI_ex ?_
  refine Ad_t 11 rfl PuI_ex ?_
  refine Ad_o 12 ?_
  refine Al_al Tryz.zeroValue50 λg5=>?_
  refine Al_nil ?_
  refine Ad_o 13 ?_
  refine Al_sN Tryz.isAgg50 Tryz.sizeOf50 ?_
  refine Al_nil ?_
  refine Ad_t 14 rfl (PuI_move (.inr rfl) (by conv=>lhs;whnf)) ?_
  refine Ad_d ?_
  refine Aw_sr ?_
  refine Al_ml ?_
  refine Al_ml ?_
  refine Al_s (St_g [] trivial (λ_=>Pu_mvl)) ?_
  refine Al_s (St_g [21] ⟨⟨_,rfl⟩,trivial⟩ (λ_=>Pu_nb)) ?_
  refine Al_s (St_g [22] ⟨⟨_,rfl⟩,trivial⟩ (λ_=>Pu_fb 2 Tryz.underlying163 Tryz.sizeOf35)) ?_
  refine Al_s (St_g [23] ⟨⟨_,rfl⟩,trivial⟩ (λ_=>Pu_lb Tryz.isAgg35)) ?_
  refine Al_s (St_g [] trivial (λ_=>Pu_makeFunc (caps:=[_]) rfl ⟨Sub.rfl,trivial⟩)) ?_
  refine Al_s (St_g [24,25] ⟨⟨_,rfl⟩,⟨_,rfl⟩,trivial⟩ (λ_=>Pu_call (containsV_a p.wait 334 [.fp v.row] (PS.isW v) (λw=>stthere1_a v w)) rfl ⟨Sub.rfl,Sub.rfl,trivial⟩)) ?_
  refine Al_p Pu_o ?_
  refine Al_mr ?_
  refine Al_nil ?_
  exact Aw_ret (⟨_,_,[],rfl,Sub.rfl,⟨rfl,rfl,rfl,trivial⟩,rfl⟩)
 ·refine Ad_t 10 rfl PuI_ex ?_
  refine Ad_t 11 rfl PuI_ex ?_
  refine Ad_o 13 ?_
  refine Al_sN Tryz.isAgg50 Tryz.sizeOf50 ?_
  refine Al_nil ?_
  refine Ad_t 14 rfl (PuI_move (.inr rfl) (by conv=>lhs;whnf)) ?_
  refine Ad_d ?_
  refine Aw_sr ?_
  refine Al_ml ?_
  refine Al_ml ?_
  refine Al_s (St_g [] trivial (λ_=>Pu_mvl)) ?_
  refine Al_s (St_g [21] ⟨⟨_,rfl⟩,trivial⟩ (λ_=>Pu_nb)) ?_
  refine Al_s (St_g [22] ⟨⟨_,rfl⟩,trivial⟩ (λ_=>Pu_fb 2 Tryz.underlying163 Tryz.sizeOf35)) ?_
  refine Al_s (St_g [23] ⟨⟨_,rfl⟩,trivial⟩ (λ_=>Pu_lb Tryz.isAgg35)) ?_
  refine Al_s (St_g [] trivial (λ_=>Pu_makeFunc (caps:=[_]) rfl ⟨Sub.rfl,trivial⟩)) ?_
  refine Al_s (St_g [24,25] ⟨⟨_,rfl⟩,⟨_,rfl⟩,trivial⟩ (λ_=>Pu_call (containsV_a p.wait 334 [.fp v.row] (PS.isW v) (λw=>stthere1_a v w)) rfl ⟨Sub.rfl,Sub.rfl,trivial⟩)) ?_
  refine Al_p Pu_o ?_
  refine Al_mr ?_
  refine Al_nil ?_
  exact Aw_ret (⟨_,_,[],rfl,Sub.rfl,⟨rfl,rfl,rfl,trivial⟩,rfl⟩)
set_option maxHeartbeats 1000000 in
theorem stArrive_g (v:Ver) {m:Nat}(hp:p.Ok m) (hm:m≤1000):GCall Tryz.prog 170 [.bx 1001 0 0,.d (.row v.row)] (ST p b) (some (ST (p.arrive v) b,.d (iv (p.arriveE v)))):=by
 refine GC_L Tryz.func170 Tryz.ntmps170 (ReadsS.r1 Tryz.results170) λhok hokB M0 w0 hl=>?_
 have hwl:=hp.wl
 refine Aw_sr ?_
 refine Al_p Pu_bN ?_
 refine Al_mr ?_
 refine Al_nil (Aw_seq (Aw_sr ?_))
 refine Al_ml ?_
 refine Al_p (Pu_eqnilb Tryz.underlying92 rfl rfl) ?_
 refine Al_ml ?_
 refine Al_s (St_g [] trivial (λ_=>Pu_lN Tryz.isAgg50 Tryz.sizeOf50)) ?_
 refine Al_s (St_g [10] ⟨⟨_,rfl⟩,trivial⟩ (λ_=>Pu_call (wcheck_a v) rfl ⟨Sub.rfl,trivial⟩)) ?_
 refine Al_s (St_g [11] ⟨⟨_,rfl⟩,trivial⟩ (λ_=>Pu_n)) ?_
 refine Al_p Pu_o ?_
 refine Al_nil ?_
 refine Aw_cond rfl (λh13=>?_) (λh13=>?_)
 ·skip
  have h0:J.checkB v=false:=by simpa using h13
  have e2:p.arriveE v=1:=by unfold PS.arriveE;rw[if_pos h0]
  have e1:p.arrive v=p:=by unfold PS.arrive;rw[e2,if_neg (by decide)]
  refine Aw_sr ?_
  refine Al_mr ?_
  refine Al_nil ?_
  rw[e1,e2]
  exact Aw_ret (⟨_,_,[],rfl,Sub.rfl,⟨rfl,rfl,rfl,trivial⟩,rfl⟩)
 ·skip
  have h0:J.checkB v=true:=by simpa using h13
  refine Aw_skip ?_
  refine Aw_seq (Aw_sr ?_)
  refine Al_ml ?_
  refine Al_p (Pu_fd 0 Tryz.underlying50 Tryz.sizeOf9) ?_
  refine Al_p (Pu_l1 Tryz.isAgg9) ?_
  refine Al_p (Pu_gcall [(1001,1001,0),(1002,1002,0),(1003,1003,0)] (stowns_g p b v.key hp.rl) (ST_in ..) rfl ⟨rfl,rfl,rfl,trivial⟩ rfl ⟨Sub.rfl,Sub.rfl,trivial⟩) ?_
  refine Al_nil ?_
  refine Aw_cond rfl (λh17=>?_) (λh17=>?_)
  ·(try simp only[A.cd_]at h17)
   have hf:¬findR p.rs v.key<0:=by omega
   refine Aw_seq (Aw_sr ?_)
   refine Al_ml ?_
   refine Al_p (Pu_lN Tryz.isAgg50 Tryz.sizeOf50) ?_
   refine Al_p (Pu_gcall [(1001,1001,0),(1002,1002,0),(1003,1003,0)] (stthere_g p b v hp hm) (ST_in ..) rfl ⟨rfl,rfl,rfl,trivial⟩ rfl ⟨Sub.rfl,Sub.rfl,trivial⟩) ?_
   refine Al_nil ?_
   refine Aw_cond rfl (λh20=>?_) (λh20=>?_)
   ·skip
    have e2:p.arriveE v=13:=by unfold PS.arriveE;rw[if_neg (by rw[h0];decide),if_neg hf,if_pos h20]
    have e1:p.arrive v=p:=by unfold PS.arrive;rw[e2,if_neg (by decide)]
    refine Aw_sr ?_
    refine Al_mr ?_
    refine Al_nil ?_
    rw[e1,e2]
    exact Aw_ret (⟨_,_,[],rfl,Sub.rfl,⟨rfl,rfl,rfl,trivial⟩,rfl⟩)
   ·skip
    have e3:p.arriveE v=J.pushE p.wait v:=by unfold PS.arriveE;rw[if_neg (by rw[h0];decide),if_neg hf,if_neg (by rw[h20];decide)]
    refine Aw_skip (Aw_seq ?_)
    refine Aw_dr 10 ?_
    refine Dr_ml ?_
    refine Dr_p Pu_nb ?_
    refine Dr_p (Pu_fb 2 Tryz.underlying163 Tryz.sizeOf35) ?_
    refine Dr_p (Pu_lb Tryz.isAgg35) ?_
    refine Dr_p (Pu_lN Tryz.isAgg50 Tryz.sizeOf50) ?_
    refine Dr_p (Pu_call (qpush_a p.wait v (by omega)) rfl ⟨Sub.rfl,Sub.rfl,trivial⟩) ?_
    refine Dr_ml ?_
    refine Dr_p Pu_ex ?_
    refine Dr_p Pu_ex ?_
    refine Dr_p Pu_mvr ?_
    refine Dr_nil ?_
    refine Al_mr ?_
    refine Al_nil (Aw_seq (Aw_sr ?_))
    refine Al_ml ?_
    refine Al_p Pu_cp ?_
    refine Al_nil ?_
    refine Aw_cond rfl (λh31=>?_) (λh31=>?_)
    ·(try simp only[A.cd_]at h31)
     have e1:p.arrive v=p:=by unfold PS.arrive;rw[if_neg (by rw[e3];exact h31)]
     refine Aw_sr ?_
     refine Al_ml ?_
     refine Al_mr ?_
     refine Al_nil ?_
     rw[e1,e3]
     exact Aw_ret (⟨_,_,[],rfl,Sub.rfl,⟨rfl,rfl,rfl,trivial⟩,rfl⟩)
    ·(try simp only[A.cd_]at h31)
     have e4:J.pushE p.wait v=0:=by simpa using h31
     have e1:p.arrive v=({p with wait:=p.wait++[v]}:PS).clockP v:=by unfold PS.arrive;rw[if_pos (e3.trans e4),if_neg hf]
     refine Aw_skip ?_
     rw[if_pos e4]
     refine Aw_region ?_
     refine Al_ml ?_
     refine Al_ml ?_
     refine Al_p Pu_nb ?_
     refine Al_p (Pu_fb 2 Tryz.underlying163 Tryz.sizeOf35) ?_
     refine Al_s1 Tryz.isAgg35 Tryz.sizeOf35 ?_
     refine Al_nil (Aw_seq ?_)
     refine Aw_dr 11 ?_
     refine Dr_ml ?_
     refine Dr_ml ?_
     refine Dr_p Pu_nb ?_
     refine Dr_p (Pu_fb 3 Tryz.underlying163 Tryz.sizeOf47) ?_
     refine Dr_p (Pu_lbN (r:=[_,_]) Tryz.isAgg47 Tryz.sizeOf47) ?_
     refine Dr_p (Pu_fd 3 Tryz.underlying50 Tryz.sizeOf47) ?_
     refine Dr_p (Pu_lN Tryz.isAgg47 Tryz.sizeOf47) ?_
     refine Dr_p (Pu_buildSlice (aa:=[(0,_),(1,_)]) rfl Tryz.underlying214 Tryz.sizeOf47 Tryz.zeroValue47 rfl (by decide) (by decide) (by decide) (by kernel_rfl) ⟨rfl,rfl,rfl,rfl,rfl,rfl,trivial⟩ ((rfl:_=some [[iv p.n,iv p.s],[iv v.n,iv v.s]].flatten)) rfl rfl) ?_
     refine Dr_p (Pu_call (smax_a [(p.n,p.s),(v.n,v.s)]) rfl ⟨Sub.rfl,trivial⟩) ?_
     refine Dr_p Pu_nb ?_
     refine Dr_p (Pu_fb 3 Tryz.underlying163 Tryz.sizeOf47) ?_
     refine Dr_nil ?_
     refine Al_sN Tryz.isAgg47 Tryz.sizeOf47 ?_
     refine Al_ns ?_
     refine Al_mr ?_
     refine Al_nil ?_
     rw[e1,e3,e4]
     exact Aw_ret (⟨_,_,[],rfl,Sub.rfl,⟨rfl,rfl,rfl,trivial⟩,rfl⟩)
  ·(try simp only[A.cd_]at h17)
   have hf:findR p.rs v.key<0:=by omega
   have e2:p.arriveE v=0:=by unfold PS.arriveE;rw[if_neg (by rw[h0];decide),if_pos hf]
   have e1:p.arrive v=p.clockP v:=by unfold PS.arrive;rw[if_pos e2,if_pos hf]
   refine Aw_skip (Aw_seq ?_)
   refine Aw_dr 11 ?_
   refine Dr_ml ?_
   refine Dr_ml ?_
   refine Dr_p Pu_nb ?_
   refine Dr_p (Pu_fb 3 Tryz.underlying163 Tryz.sizeOf47) ?_
   refine Dr_p (Pu_lbN (r:=[_,_]) Tryz.isAgg47 Tryz.sizeOf47) ?_
   refine Dr_p (Pu_fd 3 Tryz.underlying50 Tryz.sizeOf47) ?_
   refine Dr_p (Pu_lN Tryz.isAgg47 Tryz.sizeOf47) ?_
   refine Dr_p (Pu_buildSlice (aa:=[(0,_),(1,_)]) rfl Tryz.underlying214 Tryz.sizeOf47 Tryz.zeroValue47 rfl (by decide) (by decide) (by decide) (by kernel_rfl) ⟨rfl,rfl,rfl,rfl,rfl,rfl,trivial⟩ ((rfl:_=some [[iv p.n,iv p.s],[iv v.n,iv v.s]].flatten)) rfl rfl) ?_
   refine Dr_p (Pu_call (smax_a [(p.n,p.s),(v.n,v.s)]) rfl ⟨Sub.rfl,trivial⟩) ?_
   refine Dr_p Pu_nb ?_
   refine Dr_p (Pu_fb 3 Tryz.underlying163 Tryz.sizeOf47) ?_
   refine Dr_nil ?_
   refine Al_sN Tryz.isAgg47 Tryz.sizeOf47 ?_
   refine Al_ns ?_
   refine Al_mr ?_
   refine Al_nil ?_
   rw[e1,e2]
   exact Aw_ret (⟨_,_,[],rfl,Sub.rfl,⟨rfl,rfl,rfl,trivial⟩,rfl⟩)
set_option maxHeartbeats 1000000 in
theorem stStep_g {m:Nat}(hp:p.Ok m) (hm:m≤1000):GCall Tryz.prog 172 [.bx 1001 0 0] (ST p b) (some (ST p.step b,.d (.tup [.row (p.stepV.getD default).row,bv p.stepV.isSome]))):=by
 refine GC_L Tryz.func172 Tryz.ntmps172 (ReadsS.cN1 Tryz.results172 Tryz.isAgg50 Tryz.sizeOf50) λhok hokB M0 w0 hl=>?_
 have hwl:=hp.wl
 have hnx:=qnext_a p.wait (J.have' p.cs) p.rs hp.rl (PS.wait_past hp) (J.have_srt hp.rise) (hp.hl hm) (by omega)
 refine Aw_sr ?_
 refine Al_al Tryz.zeroValue50 λg2=>?_
 refine Al_mr ?_
 refine Al_nil (Aw_seq (Aw_sr ?_))
 refine Al_ml ?_
 refine Al_p (Pu_eqnilb Tryz.underlying92 rfl rfl) ?_
 refine Al_nil ?_
 refine Aw_condF rfl (rfl) ?_
 refine Aw_skip ?_
 refine Aw_seq ?_
 refine Aw_drawPA 10 13 6 (by kernel_rfl) (by kernel_rfl) rfl (by decide) rfl rfl rfl rfl (by decide) Tryz.zeroValue50 rfl (by kernel_rfl) rfl ?_
 refine Dr_ml ?_
 refine Dr_p Pu_nb ?_
 refine Dr_p (Pu_fb 2 Tryz.underlying163 Tryz.sizeOf35) ?_
 refine Dr_p (Pu_lb Tryz.isAgg35) ?_
 refine Dr_ml ?_
 refine Dr_p (Pu_gcall [(1001,1001,0),(1002,1002,0),(1003,1003,0)] (stHave_g p b hp hm) (ST_in ..) rfl ⟨rfl,rfl,rfl,trivial⟩ rfl ⟨Sub.rfl,trivial⟩) ?_
 refine Dr_ml ?_
 refine Dr_p (Pu_gcall [(1001,1001,0),(1002,1002,0),(1003,1003,0)] (stOwn_g p b hp.rl) (ST_in ..) rfl ⟨rfl,rfl,rfl,trivial⟩ rfl ⟨Sub.rfl,trivial⟩) ?_
 refine Dr_p (Pu_call (hnx) rfl ⟨Sub.rfl,Sub.rfl,Sub.rfl,trivial⟩) ?_
 refine Dr_ml ?_
 refine Dr_nil ⟨?_,λg4=>?_⟩
 ·refine Ad_t 10 rfl PuI_ex ?_
  refine Ad_t 11 rfl PuI_ex ?_
  refine Ad_t 12 rfl PuI_ex ?_
  refine Ad_o 13 ?_
  refine Al_al Tryz.zeroValue50 λg4=>?_
  refine Al_nil ?_
  refine Ad_o 14 ?_
  refine Al_sN Tryz.isAgg50 Tryz.sizeOf50 ?_
  refine Al_nil ?_
  refine Ad_t 15 rfl (PuI_move (.inr rfl) (by conv=>lhs;whnf)) ?_
  refine Ad_t 16 rfl (PuI_move (.inr rfl) (by conv=>lhs;whnf)) ?_
  refine Ad_d ?_
  refine Aw_seq (Aw_sr ?_)
  refine Al_ml ?_
  refine Al_nil ?_
  refine Aw_cond rfl (λh23=>?_) (λh23=>?_)
  ·skip
   obtain⟨v,hv⟩:=Option.isSome_iff_exists.1 h23
   have hv2:p.stepV=some v:=hv
   have e1:p.step={p with wait:=J.nextL p.wait (J.have' p.cs) p.rs,cs:=(J.sput p.rs p.cs v).1}:=by unfold PS.step;rw[hv2]
   rw[hv]
   refine Aw_seq ?_
   refine Aw_dr 5 ?_
   refine Dr_ml ?_
   refine Dr_p Pu_nb ?_
   refine Dr_p (Pu_fb 0 Tryz.underlying163 Tryz.sizeOf161) ?_
   refine Dr_p (Pu_loadAg (r:=[.bx 1002 0 0]) rfl Tryz.isAgg161 Tryz.sizeOf161 rfl rfl (by exact rfl) rfl) ?_
   refine Dr_p (Pu_lbN (r:=[_,_,_,_,_,_]) Tryz.isAgg50 Tryz.sizeOf50) ?_
   refine Dr_nil ?_
   refine Al_gcall [(1001,1002,0),(1002,1003,0)] [] (kput_g p.rs p.cs b v hp.rl hp.rise (hp.sm.mono hm)) rfl rfl rfl (by decide) (by kernel_rfl) ⟨rfl,rfl,trivial⟩ rfl ⟨Sub.rfl,Sub.rfl,trivial⟩ (λg29=>?_)
   refine Al_nil (Aw_region ?_)
   refine Al_ml ?_
   refine Al_ml ?_
   refine Al_p Pu_nb ?_
   refine Al_p (Pu_fb 2 Tryz.underlying163 Tryz.sizeOf35) ?_
   refine Al_s1 Tryz.isAgg35 Tryz.sizeOf35 ?_
   refine Al_ns ?_
   refine Al_p (Pu_lbN (r:=[_,_,_,_,_,_]) Tryz.isAgg50 Tryz.sizeOf50) ?_
   refine Al_ml ?_
   refine Al_sN Tryz.isAgg50 Tryz.sizeOf50 ?_
   refine Al_mr ?_
   refine Al_nil ?_
   rw[e1,hv2]
   exact Aw_ret (⟨_,_,[],rfl,⟨_,rfl,_,_,_,_,_,[_,_,_,_,_,_],_,rfl,rfl,rfl,rfl,Sub.rfl,rfl⟩,⟨rfl,rfl,rfl,trivial⟩,rfl⟩)
  ·skip
   have hv:J.nextV p.wait (J.have' p.cs) p.rs=none:=by simpa using h23
   have hv2:p.stepV=none:=hv
   have e1:p.step=p:=by unfold PS.step;rw[hv2]
   rw[hv]
   refine Aw_skip (Aw_sr ?_)
   refine Al_p (Pu_lbN (r:=[_,_,_,_,_,_]) Tryz.isAgg50 Tryz.sizeOf50) ?_
   refine Al_ml ?_
   refine Al_sN Tryz.isAgg50 Tryz.sizeOf50 ?_
   refine Al_mr ?_
   refine Al_nil ?_
   rw[e1,hv2]
   exact Aw_ret (⟨_,_,[],rfl,⟨_,rfl,_,_,_,_,_,[_,_,_,_,_,_],_,rfl,rfl,rfl,rfl,Sub.rfl,rfl⟩,⟨rfl,rfl,rfl,trivial⟩,rfl⟩)
 ·refine Ad_t 10 rfl PuI_ex ?_
  refine Ad_t 11 rfl PuI_ex ?_
  refine Ad_t 12 rfl PuI_ex ?_
  refine Ad_o 14 ?_
  refine Al_sN Tryz.isAgg50 Tryz.sizeOf50 ?_
  refine Al_nil ?_
  refine Ad_t 15 rfl (PuI_move (.inr rfl) (by conv=>lhs;whnf)) ?_
  refine Ad_t 16 rfl (PuI_move (.inr rfl) (by conv=>lhs;whnf)) ?_
  refine Ad_d ?_
  refine Aw_seq (Aw_sr ?_)
  refine Al_ml ?_
  refine Al_nil ?_
  refine Aw_cond rfl (λh23=>?_) (λh23=>?_)
  ·skip
   obtain⟨v,hv⟩:=Option.isSome_iff_exists.1 h23
   have hv2:p.stepV=some v:=hv
   have e1:p.step={p with wait:=J.nextL p.wait (J.have' p.cs) p.rs,cs:=(J.sput p.rs p.cs v).1}:=by unfold PS.step;rw[hv2]
   rw[hv]
   refine Aw_seq ?_
   refine Aw_dr 5 ?_
   refine Dr_ml ?_
   refine Dr_p Pu_nb ?_
   refine Dr_p (Pu_fb 0 Tryz.underlying163 Tryz.sizeOf161) ?_
   refine Dr_p (Pu_loadAg (r:=[.bx 1002 0 0]) rfl Tryz.isAgg161 Tryz.sizeOf161 rfl rfl (by exact rfl) rfl) ?_
   refine Dr_p (Pu_lbN (r:=[_,_,_,_,_,_]) Tryz.isAgg50 Tryz.sizeOf50) ?_
   refine Dr_nil ?_
   refine Al_gcall [(1001,1002,0),(1002,1003,0)] [] (kput_g p.rs p.cs b v hp.rl hp.rise (hp.sm.mono hm)) rfl rfl rfl (by decide) (by kernel_rfl) ⟨rfl,rfl,trivial⟩ rfl ⟨Sub.rfl,Sub.rfl,trivial⟩ (λg29=>?_)
   refine Al_nil (Aw_region ?_)
   refine Al_ml ?_
   refine Al_ml ?_
   refine Al_p Pu_nb ?_
   refine Al_p (Pu_fb 2 Tryz.underlying163 Tryz.sizeOf35) ?_
   refine Al_s1 Tryz.isAgg35 Tryz.sizeOf35 ?_
   refine Al_ns ?_
   refine Al_p (Pu_lbN (r:=[_,_,_,_,_,_]) Tryz.isAgg50 Tryz.sizeOf50) ?_
   refine Al_ml ?_
   refine Al_sN Tryz.isAgg50 Tryz.sizeOf50 ?_
   refine Al_mr ?_
   refine Al_nil ?_
   rw[e1,hv2]
   exact Aw_ret (⟨_,_,[],rfl,⟨_,rfl,_,_,_,_,_,[_,_,_,_,_,_],_,rfl,rfl,rfl,rfl,Sub.rfl,rfl⟩,⟨rfl,rfl,rfl,trivial⟩,rfl⟩)
  ·skip
   have hv:J.nextV p.wait (J.have' p.cs) p.rs=none:=by simpa using h23
   have hv2:p.stepV=none:=hv
   have e1:p.step=p:=by unfold PS.step;rw[hv2]
   rw[hv]
   refine Aw_skip (Aw_sr ?_)
   refine Al_p (Pu_lbN (r:=[_,_,_,_,_,_]) Tryz.isAgg50 Tryz.sizeOf50) ?_
   refine Al_ml ?_
   refine Al_sN Tryz.isAgg50 Tryz.sizeOf50 ?_
   refine Al_mr ?_
   refine Al_nil ?_
   rw[e1,hv2]
   exact Aw_ret (⟨_,_,[],rfl,⟨_,rfl,_,_,_,_,_,[_,_,_,_,_,_],_,rfl,rfl,rfl,rfl,Sub.rfl,rfl⟩,⟨rfl,rfl,rfl,trivial⟩,rfl⟩)
set_option maxHeartbeats 1000000 in
theorem stWrite_g (key value:ByteArray) (gone:Bool) (past:List Dep) (hpl:past.length≤1000000) {m:Nat}(hp:p.Ok m) (hm:m≤1000):GCall Tryz.prog 149 [.bx 1001 0 0,.d (tv key),.d (tv value),.d (bv gone),.d (.sl 3 (past.map Dep.row))] (ST p b) (some (ST (p.write key value gone past) b,.d (.tup [.row (p.writeV key value gone past).row,iv (p.writeE key value gone past)]))):=by
 refine GC_L Tryz.func149 Tryz.ntmps149 (ReadsS.cN1 Tryz.results149 Tryz.isAgg50 Tryz.sizeOf50) λhok hokB M0 w0 hl=>?_
 have hid:=hp.id
 refine Aw_sr ?_
 refine Al_al Tryz.zeroValue50 λg10=>?_
 refine Al_mr ?_
 refine Al_nil (Aw_seq (Aw_block (Aw_sr ?_)))
 refine Al_ml ?_
 refine Al_p (Pu_eqnilb Tryz.underlying92 rfl rfl) ?_
 refine Al_mr ?_
 refine Al_nil ?_
 refine Aw_condF rfl (rfl) ?_
 refine Aw_sr ?_
 refine Al_ml ?_
 refine Al_ml ?_
 refine Al_p (Pu_gcall [(1001,1001,0),(1002,1002,0),(1003,1003,0)] (stowns_g p b key hp.rl) (ST_in ..) rfl ⟨rfl,rfl,rfl,trivial⟩ rfl ⟨Sub.rfl,Sub.rfl,trivial⟩) ?_
 refine Al_p Pu_n ?_
 refine Al_mr ?_
 refine Al_nil ?_
 refine Aw_cond rfl (λh22=>?_) (λh22=>?_)
 ·skip
  have h0:findR p.rs key<0:=by simpa using h22
  have e2:p.writeE key value gone past=14:=by unfold PS.writeE;rw[if_pos h0]
  have e1:p.write key value gone past=p:=by unfold PS.write;rw[e2,if_neg (by decide)]
  have e3:p.writeV key value gone past=default:=by unfold PS.writeV;rw[e2,if_neg (by decide)]
  refine Aw_sr ?_
  refine Al_p (Pu_build (aa:=[]) rfl Tryz.underlying50 Tryz.zeroValue50 places50 (by kernel_rfl) trivial rfl) ?_
  refine Al_sN Tryz.isAgg50 Tryz.sizeOf50 ?_
  refine Al_mr ?_
  refine Al_nil ?_
  rw[e1,e2,e3]
  try rw[e4]
  first
   | refine Aw_boxle (k:=10) ((default:Ver).row.map .d) rfl ⟨Sub.rfl,Sub.rfl,Sub.rfl,Sub.rfl,Sub.rfl,Sub.nil,trivial⟩ ?_
   | skip
  exact Aw_ret (⟨_,_,[],rfl,⟨_,rfl,_,_,_,_,_,[_,_,_,_,_,_],_,rfl,rfl,rfl,rfl,Sub.rfl,rfl⟩,⟨rfl,rfl,rfl,trivial⟩,rfl⟩)
 ·skip
  have h0:¬findR p.rs key<0:=by simpa using h22
  refine Aw_skip (Aw_sr ?_)
  refine Al_ml ?_
  refine Al_p Pu_nb ?_
  refine Al_p (Pu_fb 3 Tryz.underlying163 Tryz.sizeOf47) ?_
  refine Al_p (Pu_lbN (r:=[_,_]) Tryz.isAgg47 Tryz.sizeOf47) ?_
  refine Al_al Tryz.zeroValue47 λg12=>?_
  refine Al_sN Tryz.isAgg47 Tryz.sizeOf47 ?_
  refine Al_nil (Aw_seq (Aw_sr ?_))
  refine Al_ml ?_
  refine Al_p (Pu_ln Tryz.underlying48) ?_
  refine Al_ml ?_
  refine Al_nil (Aw_block ?_)
  refine Aw_loopk (ι:=Nat) [0,1,2,3,4,10,12,32,33] [1001,1002,1003,10] (λk=>[(34,.d (iv k))]) (λk=>[(12,g12,.box 47 [.d (iv (p.seen (past.take k)).1),.d (iv (p.seen (past.take k)).2)])]) (λk=>k≤past.length) (λk=>past.length - k) (0) (Nat.zero_le _) ⟨Sub.rfl,trivial⟩ ⟨rfl,trivial⟩ ?_
  rintro k hk0
  refine Aw_sr ?_
  refine Al_p Pu_cp ?_
  refine Al_nil (Aw_seq ?_)
  refine Aw_cond rfl (λh35=>?_) (λh35=>?_)
  ·(try simp only[A.cd_]at h35)
   have hk:k<past.length:=by omega
   have hsn:=p.seen_take past hk
   refine Aw_skip (Aw_seq (Aw_block (Aw_sr ?_)))
   refine Al_p (Pu_index rfl Tryz.underlying48 Tryz.sizeOf110 rfl rfl (rfl) (mapgetD (d:=default) hk)) ?_
   refine Al_p (Pu_lN Tryz.isAgg110 Tryz.sizeOf110) ?_
   refine Al_al Tryz.zeroValue110 λg14=>?_
   refine Al_sN Tryz.isAgg110 Tryz.sizeOf110 ?_
   refine Al_nil (Aw_region ?_)
   refine Al_p (Pu_lbN (r:=[_,_]) Tryz.isAgg47 Tryz.sizeOf47) ?_
   refine Al_p (Pu_fb 1 Tryz.underlying110 Tryz.sizeOf47) ?_
   refine Al_p (Pu_lbN (r:=[_,_]) Tryz.isAgg47 Tryz.sizeOf47) ?_
   refine Al_p (Pu_buildSlice (aa:=[(0,_),(1,_)]) rfl Tryz.underlying214 Tryz.sizeOf47 Tryz.zeroValue47 rfl (by decide) (by decide) (by decide) (by kernel_rfl) ⟨rfl,rfl,rfl,rfl,rfl,rfl,trivial⟩ ((rfl:_=some [[iv (p.seen (past.take k)).1,iv (p.seen (past.take k)).2],[iv (past.getD k default).n,iv (past.getD k default).s]].flatten)) rfl rfl) ?_
   refine Al_p (Pu_call (smax_a [((p.seen (past.take k)).1,(p.seen (past.take k)).2),((past.getD k default).n,(past.getD k default).s)]) rfl ⟨Sub.rfl,trivial⟩) ?_
   refine Al_sN Tryz.isAgg47 Tryz.sizeOf47 ?_
   refine Al_nil (Aw_region ?_)
   refine Al_p Pu_ad ?_
   refine Al_ml ?_
   refine Al_nil ?_
   exact⟨k+1,by omega,by omega,Le.ov ⟨Sub.num (by omega),trivial⟩ ⟨Sub.rfl,Sub.rfl,Sub.rfl,Sub.rfl,Sub.rfl,Sub.rfl,Sub.rfl,Sub.rfl,Sub.rfl,trivial⟩ ⟨by rw[hsn];rfl,trivial⟩ ⟨rfl,rfl,rfl,rfl,trivial⟩⟩
  ·(try simp only[A.cd_]at h35)
   have hkk:k=past.length:=by omega
   rw[show past.take k=past from by rw[hkk,List.take_length]]
   refine Aw_exit ?_
   refine Aw_seq ?_
   refine Aw_drawPA 7 9 4 (by kernel_rfl) (by kernel_rfl) rfl (by decide) rfl rfl rfl rfl (by decide) Tryz.zeroValue47 rfl (by kernel_rfl) rfl ?_
   refine Dr_p (Pu_lbN (r:=[_,_]) Tryz.isAgg47 Tryz.sizeOf47) ?_
   refine Dr_ml ?_
   refine Dr_p Pu_nb ?_
   refine Dr_p (Pu_fb 1 Tryz.underlying163 Tryz.sizeOf3) ?_
   refine Dr_p (Pu_lb Tryz.isAgg3) ?_
   refine Dr_p (Pu_call (snextG_a (p.seen past).1 (p.seen past).2 p.id hid) rfl ⟨Sub.rfl,Sub.rfl,trivial⟩) ?_
   refine Dr_ml ?_
   refine Dr_nil ⟨?_,λg15=>?_⟩
   ·refine Ad_t 7 rfl PuI_ex ?_
    refine Ad_t 8 rfl PuI_ex ?_
    refine Ad_o 9 ?_
    refine Al_al Tryz.zeroValue47 λg15=>?_
    refine Al_nil ?_
    refine Ad_o 10 ?_
    refine Al_sN Tryz.isAgg47 Tryz.sizeOf47 ?_
    refine Al_nil ?_
    refine Ad_t 11 rfl (PuI_move (.inr rfl) (by conv=>lhs;whnf)) ?_
    refine Ad_d ?_
    refine Aw_seq (Aw_sr ?_)
    refine Al_ml ?_
    refine Al_p Pu_cp ?_
    refine Al_nil ?_
    refine Aw_cond rfl (λh54=>?_) (λh54=>?_)
    ·(try simp only[A.cd_]at h54)
     have h1:1099511627776≤(p.seen past).1:=by unfold J.nextE at h54;split at h54<;>simp_all
     have e2:p.writeE key value gone past=18:=by unfold PS.writeE;rw[if_neg h0,if_pos h1]
     have e1:p.write key value gone past=p:=by unfold PS.write;rw[e2,if_neg (by decide)]
     have e3:p.writeV key value gone past=default:=by unfold PS.writeV;rw[e2,if_neg (by decide)]
     have e4:J.nextE (p.seen past).1=18:=by unfold J.nextE;rw[if_pos h1]
     refine Aw_sr ?_
     refine Al_p (Pu_build (aa:=[]) rfl Tryz.underlying50 Tryz.zeroValue50 places50 (by kernel_rfl) trivial rfl) ?_
     refine Al_ml ?_
     refine Al_sN Tryz.isAgg50 Tryz.sizeOf50 ?_
     refine Al_mr ?_
     refine Al_nil ?_
     rw[e1,e2,e3]
     try rw[e4]
     first
      | refine Aw_boxle (k:=10) ((default:Ver).row.map .d) rfl ⟨Sub.rfl,Sub.rfl,Sub.rfl,Sub.rfl,Sub.rfl,Sub.nil,trivial⟩ ?_
      | skip
     exact Aw_ret (⟨_,_,[],rfl,⟨_,rfl,_,_,_,_,_,[_,_,_,_,_,_],_,rfl,rfl,rfl,rfl,Sub.rfl,rfl⟩,⟨rfl,rfl,rfl,trivial⟩,rfl⟩)
    ·(try simp only[A.cd_]at h54)
     have h1:¬1099511627776≤(p.seen past).1:=by unfold J.nextE at h54;split at h54<;>simp_all
     have e5:J.nextR (p.seen past).1 p.id=(max (p.seen past).1 0+1,p.id):=by unfold J.nextR;rw[if_neg h1]
     rw[e5]
     refine Aw_skip (Aw_seq ?_)
     refine Aw_dA 7 Tryz.zeroValue50 ?_
     refine Dr_ml ?_
     refine Dr_ml ?_
     refine Dr_ml ?_
     refine Dr_p (Pu_lbN (r:=[_,_]) Tryz.isAgg47 Tryz.sizeOf47) ?_
     refine Dr_ml ?_
     refine Dr_p (Pu_call (cloneD_a past hpl) rfl ⟨Sub.rfl,trivial⟩) ?_
     refine Dr_p (Pu_build (aa:=[(0,_),(1,_),(2,_),(3,_),(4,_)]) rfl Tryz.underlying50 Tryz.zeroValue50 places50 (by kernel_rfl) ⟨rfl,rfl,rfl,rfl,rfl,rfl,rfl,rfl,rfl,rfl,rfl,rfl,rfl,rfl,rfl,trivial⟩ rfl) ?_
     refine Dr_nil ?_
     intro g17
     refine Al_sN Tryz.isAgg50 Tryz.sizeOf50 ?_
     refine Al_nil (Aw_seq (Aw_sr ?_))
     refine Al_p (Pu_lbN (r:=[_,_,_,_,_,_]) Tryz.isAgg50 Tryz.sizeOf50) ?_
     refine Al_p (Pu_call (wcheck_a (p.made key value gone past)) rfl ⟨Sub.rfl,trivial⟩) ?_
     refine Al_p Pu_n ?_
     refine Al_nil ?_
     refine Aw_cond rfl (λh66=>?_) (λh66=>?_)
     ·skip
      have h2:J.checkB (p.made key value gone past)=false:=by simpa using h66
      have e2:p.writeE key value gone past=1:=by unfold PS.writeE;rw[if_neg h0,if_neg h1,if_neg (by rw[h2];decide)]
      have e1:p.write key value gone past=p:=by unfold PS.write;rw[e2,if_neg (by decide)]
      have e3:p.writeV key value gone past=default:=by unfold PS.writeV;rw[e2,if_neg (by decide)]
      refine Aw_sr ?_
      refine Al_p (Pu_build (aa:=[]) rfl Tryz.underlying50 Tryz.zeroValue50 places50 (by kernel_rfl) trivial rfl) ?_
      refine Al_sN Tryz.isAgg50 Tryz.sizeOf50 ?_
      refine Al_mr ?_
      refine Al_nil ?_
      rw[e1,e2,e3]
      try rw[e4]
      first
       | refine Aw_boxle (k:=10) ((default:Ver).row.map .d) rfl ⟨Sub.rfl,Sub.rfl,Sub.rfl,Sub.rfl,Sub.rfl,Sub.nil,trivial⟩ ?_
       | skip
      exact Aw_ret (⟨_,_,[],rfl,⟨_,rfl,_,_,_,_,_,[_,_,_,_,_,_],_,rfl,rfl,rfl,rfl,Sub.rfl,rfl⟩,⟨rfl,rfl,rfl,trivial⟩,rfl⟩)
     ·skip
      have h2:J.checkB (p.made key value gone past)=true:=by simpa using h66
      have e2:p.writeE key value gone past=0:=by unfold PS.writeE;rw[if_neg h0,if_neg h1,if_pos h2]
      have e1:p.write key value gone past=p.writeP key value gone past:=by unfold PS.write;rw[e2,if_pos rfl]
      have e3:p.writeV key value gone past=p.made key value gone past:=by unfold PS.writeV;rw[e2,if_pos rfl]
      refine Aw_skip (Aw_seq ?_)
      refine Aw_dr 5 ?_
      refine Dr_ml ?_
      refine Dr_p Pu_nb ?_
      refine Dr_p (Pu_fb 0 Tryz.underlying163 Tryz.sizeOf161) ?_
      refine Dr_p (Pu_loadAg (r:=[.bx 1002 0 0]) rfl Tryz.isAgg161 Tryz.sizeOf161 rfl rfl (by exact rfl) rfl) ?_
      refine Dr_p (Pu_lbN (r:=[_,_,_,_,_,_]) Tryz.isAgg50 Tryz.sizeOf50) ?_
      refine Dr_nil ?_
      refine Al_gcall [(1001,1002,0),(1002,1003,0)] [] (kput_g p.rs p.cs b (p.made key value gone past) hp.rl hp.rise (hp.sm.mono hm)) rfl rfl rfl (by decide) (by kernel_rfl) ⟨rfl,rfl,trivial⟩ rfl ⟨Sub.rfl,Sub.rfl,trivial⟩ (λg73=>?_)
      refine Al_ns ?_
      refine Al_ml ?_
      refine Al_p (Pu_lbN (r:=[_,_]) Tryz.isAgg47 Tryz.sizeOf47) ?_
      refine Al_p Pu_nb ?_
      refine Al_p (Pu_fb 3 Tryz.underlying163 Tryz.sizeOf47) ?_
      refine Al_sN Tryz.isAgg47 Tryz.sizeOf47 ?_
      refine Al_ns ?_
      refine Al_p (Pu_lbN (r:=[_,_,_,_,_,_]) Tryz.isAgg50 Tryz.sizeOf50) ?_
      refine Al_sN Tryz.isAgg50 Tryz.sizeOf50 ?_
      refine Al_mr ?_
      refine Al_nil ?_
      rw[e1,e2,e3]
      try rw[e4]
      first
       | refine Aw_boxle (k:=10) ((default:Ver).row.map .d) rfl ⟨Sub.rfl,Sub.rfl,Sub.rfl,Sub.rfl,Sub.rfl,Sub.nil,trivial⟩ ?_
       | skip
      exact Aw_ret (⟨_,_,[],rfl,⟨_,rfl,_,_,_,_,_,[_,_,_,_,_,_],_,rfl,rfl,rfl,rfl,Sub.rfl,rfl⟩,⟨rfl,rfl,rfl,trivial⟩,rfl⟩)
   ·refine Ad_t 7 rfl PuI_ex ?_
    refine Ad_t 8 rfl PuI_ex ?_
    refine Ad_o 10 ?_
    refine Al_sN Tryz.isAgg47 Tryz.sizeOf47 ?_
    refine Al_nil ?_
    refine Ad_t 11 rfl (PuI_move (.inr rfl) (by conv=>lhs;whnf)) ?_
    refine Ad_d ?_
    refine Aw_seq (Aw_sr ?_)
    refine Al_ml ?_
    refine Al_p Pu_cp ?_
    refine Al_nil ?_
    refine Aw_cond rfl (λh54=>?_) (λh54=>?_)
    ·(try simp only[A.cd_]at h54)
     have h1:1099511627776≤(p.seen past).1:=by unfold J.nextE at h54;split at h54<;>simp_all
     have e2:p.writeE key value gone past=18:=by unfold PS.writeE;rw[if_neg h0,if_pos h1]
     have e1:p.write key value gone past=p:=by unfold PS.write;rw[e2,if_neg (by decide)]
     have e3:p.writeV key value gone past=default:=by unfold PS.writeV;rw[e2,if_neg (by decide)]
     have e4:J.nextE (p.seen past).1=18:=by unfold J.nextE;rw[if_pos h1]
     refine Aw_sr ?_
     refine Al_p (Pu_build (aa:=[]) rfl Tryz.underlying50 Tryz.zeroValue50 places50 (by kernel_rfl) trivial rfl) ?_
     refine Al_ml ?_
     refine Al_sN Tryz.isAgg50 Tryz.sizeOf50 ?_
     refine Al_mr ?_
     refine Al_nil ?_
     rw[e1,e2,e3]
     try rw[e4]
     first
      | refine Aw_boxle (k:=10) ((default:Ver).row.map .d) rfl ⟨Sub.rfl,Sub.rfl,Sub.rfl,Sub.rfl,Sub.rfl,Sub.nil,trivial⟩ ?_
      | skip
     exact Aw_ret (⟨_,_,[],rfl,⟨_,rfl,_,_,_,_,_,[_,_,_,_,_,_],_,rfl,rfl,rfl,rfl,Sub.rfl,rfl⟩,⟨rfl,rfl,rfl,trivial⟩,rfl⟩)
    ·(try simp only[A.cd_]at h54)
     have h1:¬1099511627776≤(p.seen past).1:=by unfold J.nextE at h54;split at h54<;>simp_all
     have e5:J.nextR (p.seen past).1 p.id=(max (p.seen past).1 0+1,p.id):=by unfold J.nextR;rw[if_neg h1]
     rw[e5]
     refine Aw_skip (Aw_seq ?_)
     refine Aw_dA 7 Tryz.zeroValue50 ?_
     refine Dr_ml ?_
     refine Dr_ml ?_
     refine Dr_ml ?_
     refine Dr_p (Pu_lbN (r:=[_,_]) Tryz.isAgg47 Tryz.sizeOf47) ?_
     refine Dr_ml ?_
     refine Dr_p (Pu_call (cloneD_a past hpl) rfl ⟨Sub.rfl,trivial⟩) ?_
     refine Dr_p (Pu_build (aa:=[(0,_),(1,_),(2,_),(3,_),(4,_)]) rfl Tryz.underlying50 Tryz.zeroValue50 places50 (by kernel_rfl) ⟨rfl,rfl,rfl,rfl,rfl,rfl,rfl,rfl,rfl,rfl,rfl,rfl,rfl,rfl,rfl,trivial⟩ rfl) ?_
     refine Dr_nil ?_
     intro g17
     refine Al_sN Tryz.isAgg50 Tryz.sizeOf50 ?_
     refine Al_nil (Aw_seq (Aw_sr ?_))
     refine Al_p (Pu_lbN (r:=[_,_,_,_,_,_]) Tryz.isAgg50 Tryz.sizeOf50) ?_
     refine Al_p (Pu_call (wcheck_a (p.made key value gone past)) rfl ⟨Sub.rfl,trivial⟩) ?_
     refine Al_p Pu_n ?_
     refine Al_nil ?_
     refine Aw_cond rfl (λh66=>?_) (λh66=>?_)
     ·skip
      have h2:J.checkB (p.made key value gone past)=false:=by simpa using h66
      have e2:p.writeE key value gone past=1:=by unfold PS.writeE;rw[if_neg h0,if_neg h1,if_neg (by rw[h2];decide)]
      have e1:p.write key value gone past=p:=by unfold PS.write;rw[e2,if_neg (by decide)]
      have e3:p.writeV key value gone past=default:=by unfold PS.writeV;rw[e2,if_neg (by decide)]
      refine Aw_sr ?_
      refine Al_p (Pu_build (aa:=[]) rfl Tryz.underlying50 Tryz.zeroValue50 places50 (by kernel_rfl) trivial rfl) ?_
      refine Al_sN Tryz.isAgg50 Tryz.sizeOf50 ?_
      refine Al_mr ?_
      refine Al_nil ?_
      rw[e1,e2,e3]
      try rw[e4]
      first
       | refine Aw_boxle (k:=10) ((default:Ver).row.map .d) rfl ⟨Sub.rfl,Sub.rfl,Sub.rfl,Sub.rfl,Sub.rfl,Sub.nil,trivial⟩ ?_
       | skip
      exact Aw_ret (⟨_,_,[],rfl,⟨_,rfl,_,_,_,_,_,[_,_,_,_,_,_],_,rfl,rfl,rfl,rfl,Sub.rfl,rfl⟩,⟨rfl,rfl,rfl,trivial⟩,rfl⟩)
     ·skip
      have h2:J.checkB (p.made key value gone past)=true:=by simpa using h66
      have e2:p.writeE key value gone past=0:=by unfold PS.writeE;rw[if_neg h0,if_neg h1,if_pos h2]
      have e1:p.write key value gone past=p.writeP key value gone past:=by unfold PS.write;rw[e2,if_pos rfl]
      have e3:p.writeV key value gone past=p.made key value gone past:=by unfold PS.writeV;rw[e2,if_pos rfl]
      refine Aw_skip (Aw_seq ?_)
      refine Aw_dr 5 ?_
      refine Dr_ml ?_
      refine Dr_p Pu_nb ?_
      refine Dr_p (Pu_fb 0 Tryz.underlying163 Tryz.sizeOf161) ?_
      refine Dr_p (Pu_loadAg (r:=[.bx 1002 0 0]) rfl Tryz.isAgg161 Tryz.sizeOf161 rfl rfl (by exact rfl) rfl) ?_
      refine Dr_p (Pu_lbN (r:=[_,_,_,_,_,_]) Tryz.isAgg50 Tryz.sizeOf50) ?_
      refine Dr_nil ?_
      refine Al_gcall [(1001,1002,0),(1002,1003,0)] [] (kput_g p.rs p.cs b (p.made key value gone past) hp.rl hp.rise (hp.sm.mono hm)) rfl rfl rfl (by decide) (by kernel_rfl) ⟨rfl,rfl,trivial⟩ rfl ⟨Sub.rfl,Sub.rfl,trivial⟩ (λg73=>?_)
      refine Al_ns ?_
      refine Al_ml ?_
      refine Al_p (Pu_lbN (r:=[_,_]) Tryz.isAgg47 Tryz.sizeOf47) ?_
      refine Al_p Pu_nb ?_
      refine Al_p (Pu_fb 3 Tryz.underlying163 Tryz.sizeOf47) ?_
      refine Al_sN Tryz.isAgg47 Tryz.sizeOf47 ?_
      refine Al_ns ?_
      refine Al_p (Pu_lbN (r:=[_,_,_,_,_,_]) Tryz.isAgg50 Tryz.sizeOf50) ?_
      refine Al_sN Tryz.isAgg50 Tryz.sizeOf50 ?_
      refine Al_mr ?_
      refine Al_nil ?_
      rw[e1,e2,e3]
      try rw[e4]
      first
       | refine Aw_boxle (k:=10) ((default:Ver).row.map .d) rfl ⟨Sub.rfl,Sub.rfl,Sub.rfl,Sub.rfl,Sub.rfl,Sub.nil,trivial⟩ ?_
       | skip
      exact Aw_ret (⟨_,_,[],rfl,⟨_,rfl,_,_,_,_,_,[_,_,_,_,_,_],_,rfl,rfl,rfl,rfl,Sub.rfl,rfl⟩,⟨rfl,rfl,rfl,trivial⟩,rfl⟩)
end
namespace PS
theorem Ok.write {p:PS}{m:Nat}(h:p.Ok m) (key value:ByteArray) (gone:Bool) (past:List Dep):(p.write key value gone past).Ok (m+1):=by
 unfold PS.write
 split
 ·exact⟨J.sput_rise h.rise _,J.sput_sm h.sm _,h.wl,h.wp,h.rl,h.id⟩
 ·exact h.mono (Nat.le_succ m)
theorem pushE_zero {l:List Ver}{v:Ver}(h:J.pushE l v=0):J.checkB v=true∧l.length<24:=by
 unfold J.pushE at h
 split at h
 ·rename_i h1
  split at h
  ·omega
  ·rename_i h2
   exact⟨h1,by omega⟩
 ·omega
theorem Ok.arrive {p:PS}{m:Nat}(h:p.Ok m) (v:Ver):(p.arrive v).Ok m:=by
 unfold PS.arrive
 split
 ·rename_i he
  split
  ·exact⟨h.rise,h.sm,h.wl,h.wp,h.rl,h.id⟩
  ·rename_i hf
   unfold PS.arriveE at he
   split at he
   ·omega
   ·try rw[if_neg hf]at he
    split at he
    ·omega
    ·obtain⟨h1,h2⟩:=pushE_zero he
     refine⟨h.rise,h.sm,?_,λw hw=>?_,h.rl,h.id⟩
     ·show(p.wait++[v]).length≤24
      simp;omega
     ·rcases List.mem_append.1 hw with hw|hw
      ·exact h.wp w hw
      ·cases List.mem_singleton.1 hw;exact h1
 ·exact h
theorem Ok.step {p:PS}{m:Nat}(h:p.Ok m):p.step.Ok (m+1):=by
 unfold PS.step
 split
 ·refine⟨J.sput_rise h.rise _,J.sput_sm h.sm _,Nat.le_trans (List.length_eraseIdx_le ..) h.wl,λw hw=>h.wp w (List.mem_of_mem_eraseIdx hw),h.rl,h.id⟩
 ·exact h.mono (Nat.le_succ m)
theorem Ok.zero {k:Int}(hk:0≤k∧k<6) {rs:List Rng}(hrl:rs.length≤1000000):(PS.zero k rs).Ok 0:=⟨J.rise_nil,J.sm_nil 0,Nat.zero_le _,(λv hv=>nomatch hv),hrl,hk⟩
end PS
section
variable (p:PS) (b:Nat)
end
theorem stNew_g (k:Int) (hk:0≤k∧k<6) (rs:List Rng) (hrl:rs.length≤1000000):GCallE Tryz.prog 36 [.d (iv k),.d (rngA rs)] [] (λb:Nat=>some (ST (PS.zero k rs) b,.bx 1001 0 0)):=by
 refine GC_EL Tryz.func36 Tryz.ntmps36 (ReadsS.r1 Tryz.results36) λhok hokB M0 w0 hl=>?_
 refine Aw_sr ?_
 refine Al_mr ?_
 refine Al_nil (Aw_seq (Aw_sr ?_))
 refine Al_ml ?_
 refine Al_p Pu_cp ?_
 refine Al_ml ?_
 refine Al_s (St_g [] trivial (λ_=>Pu_mvl)) ?_
 refine Al_s (St_g [8] ⟨⟨_,rfl⟩,trivial⟩ (λ_=>Pu_cp)) ?_
 refine Al_p Pu_o ?_
 refine Al_nil ?_
 refine Aw_cond rfl (λh10=>?_) (λh10=>?_)
 ·skip
  exfalso
  simp only[Bool.or_eq_true,decide_eq_true_eq]at h10
  omega
 ·skip
  refine Aw_skip (Aw_sr ?_)
  refine Al_ml ?_
  refine Al_gcallE [] [(1001,12),(1002,120)] (snew_g rs hrl) rfl rfl rfl (by decide) (by kernel_rfl) trivial (λ_=>rfl) rfl rfl ⟨Sub.rfl,trivial⟩ ?_
  rintro b g12
  refine Al_p (Pu_buildAg (aa:=[(0,_)]) rfl Tryz.underlying161 Tryz.zeroValue161 places161 (by kernel_rfl) ⟨rfl,rfl,trivial⟩ rfl) ?_
  refine Al_ml ?_
  refine Al_p (Pu_buildAg (aa:=[(0,_),(1,_)]) rfl Tryz.underlying163 Tryz.zeroValue163 places163 (by kernel_rfl) ⟨rfl,rfl,rfl,rfl,trivial⟩ rfl) ?_
  refine Al_boxAg rfl rfl rfl (by decide) (by kernel_rfl) rfl (λg16=>?_)
  refine Al_mr ?_
  refine Al_nil ?_
  refine Aw_boxle (k:=16) [.bx 12 g12 0,.d (iv k),.d (versA []),.d (iv 0),.d (iv 0)] rfl ⟨Sub.rfl,Sub.rfl,Sub.nil,Sub.rfl,Sub.rfl,trivial⟩ ?_
  exact Aw_ret (⟨b,_,_,[(1001,16,g16),(1002,12,g12),(1003,120,g12)],rfl,Sub.rfl,⟨rfl,rfl,rfl,trivial⟩,rfl⟩)
end Go.Proofs.YtdnijgdmohinlaaGreat
end
section
set_option maxRecDepth 100000
namespace Go.Proofs.YtdnijgdmohinlaaGreat
open Go Go.RowKit A R
abbrev cliA (c:Int×List Dep):List AV:=[iv c.1,pastA c.2]
namespace N
def vdep (v:Ver):Dep:=⟨v.key,v.n,v.s⟩
def saw1 (c:Int×List Dep) (v:Ver):Int×List Dep:=(c.1,D.mergeL [c.2,v.past,[vdep v]])
def saw (c:Int×List Dep) (l:List Ver):Int×List Dep:=l.foldl saw1 c
theorem saw_succ (c:Int×List Dep) (l:List Ver) {k:Nat}(hk:k<l.length):saw c (l.take (k+1))=saw1 (saw c (l.take k)) (l.getD k default):=by
 unfold saw
 rw[List.take_succ_eq_append_getElem hk,List.foldl_append]
 simp[hk]
theorem merge_len (l:List (List Dep)):(D.mergeL l).length≤l.flatten.length:=by
 have:=D.addAll_len l.flatten []
 unfold D.mergeL
 simpa using this
theorem saw_len (c:Int×List Dep) (l:List Ver) (hv:∀v∈l,v.past.length≤24):∀k,k≤l.length→(saw c (l.take k)).2.length≤c.2.length+25*k
 | 0,_=>by simp[saw]
 | k+1,hk=>by
  rw[saw_succ c l (by omega)]
  have ih:=saw_len c l hv k (by omega)
  have h1:=merge_len [(saw c (l.take k)).2,(l.getD k default).past,[vdep (l.getD k default)]]
  have h2:(l.getD k default).past.length≤24:=hv _ (by simp[show k<l.length by omega])
  simp only[List.flatten_cons,List.flatten_nil,List.length_append,List.length_nil,List.length_cons]at h1
  show(D.mergeL [_,_,_]).length≤_
  omega
end N
theorem cliNew_a (s:Int):ACall Tryz.prog 38 [iv s] (.row (cliA (s,[]))):=by
 refine AC_G Tryz.func38 Tryz.ntmps38 (Reads.cN Tryz.results38 Tryz.isAgg75 Tryz.sizeOf75) λhok M0 w0 hnl=>?_
 refine Aw_sr ?_
 refine Al_al Tryz.zeroValue75 λg2=>?_
 refine Al_ns ?_
 refine Al_ml ?_
 refine Al_p (Pu_build (aa:=[(0,_)]) rfl Tryz.underlying75 Tryz.zeroValue75 places75 (by kernel_rfl) ⟨rfl,rfl,rfl,trivial⟩ rfl) ?_
 refine Al_sN Tryz.isAgg75 Tryz.sizeOf75 ?_
 refine Al_nil ?_
 refine Aw_boxle (k:=2) [.d (iv s),.d (pastA [])] rfl ⟨Sub.rfl,Sub.nil,trivial⟩ ?_
 exact Aw_ret (⟨_,_,_,_,_,[_,_],rfl,rfl,rfl,rfl,rfl⟩)
theorem cliSaw_a (c:Int×List Dep) (l:List Ver) (hv:∀v∈l,v.past.length≤24) (hl:c.2.length+25*l.length≤900):ACall Tryz.prog 152 [.row (cliA c),.sl 6 (l.map Ver.row)] (.row (cliA (N.saw c l))):=by
 refine AC_G Tryz.func152 Tryz.ntmps152 (Reads.cN Tryz.results152 Tryz.isAgg75 Tryz.sizeOf75) λhok M0 w0 hnl=>?_
 have hlen:=(hok _ (List.mem_cons_of_mem _ (List.mem_cons_self ..))).len
 rw[List.length_map]at hlen
 refine Aw_sr ?_
 refine Al_boxN rfl rfl rfl (by decide) (by kernel_rfl) rfl (λg2=>?_)
 refine Al_al Tryz.zeroValue75 λg4=>?_
 refine Al_nil (Aw_seq (Aw_sr ?_))
 refine Al_ml ?_
 refine Al_p (Pu_ln Tryz.underlying35) ?_
 refine Al_ml ?_
 refine Al_nil (Aw_block ?_)
 refine Aw_loopk (ι:=Nat) [2,4,7,8] [4] (λk=>[(9,.d (iv k))]) (λk=>[(2,g2,.box 75 [.d (iv (N.saw c (l.take k)).1),.d (pastA (N.saw c (l.take k)).2)])]) (λk=>k≤l.length) (λk=>l.length - k) (0) (Nat.zero_le _) ⟨Sub.rfl,trivial⟩ ⟨rfl,trivial⟩ ?_
 rintro k hk0
 refine Aw_sr ?_
 refine Al_p Pu_cp ?_
 refine Al_nil (Aw_seq ?_)
 refine Aw_cond rfl (λh10=>?_) (λh10=>?_)
 ·(try simp only[A.cd_]at h10)
  have hk:k<l.length:=by omega
  have hsn:=N.saw_succ c l hk
  have hsl:=N.saw_len c l hv k (by omega)
  have hvl:(l.getD k default).past.length≤24:=hv _ (by simp[hk])
  have hmg:=merge_a [(N.saw c (l.take k)).2,(l.getD k default).past,[N.vdep (l.getD k default)]] (by simp only[List.flatten_cons,List.flatten_nil,List.length_append,List.length_nil,List.length_cons];omega)
  refine Aw_skip (Aw_seq (Aw_block (Aw_sr ?_)))
  refine Al_p (Pu_index rfl Tryz.underlying35 Tryz.sizeOf50 rfl rfl (rfl) (mapgetD (d:=default) hk)) ?_
  refine Al_p (Pu_lN Tryz.isAgg50 Tryz.sizeOf50) ?_
  refine Al_al Tryz.zeroValue50 λg6=>?_
  refine Al_sN Tryz.isAgg50 Tryz.sizeOf50 ?_
  refine Al_nil (Aw_region ?_)
  refine Al_p (Pu_fb 1 Tryz.underlying75 Tryz.sizeOf48) ?_
  refine Al_p (Pu_lb Tryz.isAgg48) ?_
  refine Al_p (Pu_fb 5 Tryz.underlying50 Tryz.sizeOf48) ?_
  refine Al_p (Pu_lb Tryz.isAgg48) ?_
  refine Al_p (Pu_fb 0 Tryz.underlying50 Tryz.sizeOf9) ?_
  refine Al_p (Pu_lb Tryz.isAgg9) ?_
  refine Al_p (Pu_fb 3 Tryz.underlying50 Tryz.sizeOf47) ?_
  refine Al_p (Pu_lbN (r:=[_,_]) Tryz.isAgg47 Tryz.sizeOf47) ?_
  refine Al_p (Pu_build (aa:=[(0,_),(1,_)]) rfl Tryz.underlying110 Tryz.zeroValue110 places110 (by kernel_rfl) ⟨rfl,rfl,rfl,rfl,rfl,rfl,trivial⟩ rfl) ?_
  refine Al_p (Pu_slice1 rfl Tryz.underlying48 Tryz.sizeOf110 Tryz.zeroValue110 rfl (by decide) (by decide) (by kernel_rfl) rfl rfl rfl) ?_
  refine Al_p (Pu_buildSlice (aa:=[(0,_),(1,_),(2,_)]) rfl Tryz.underlying195 Tryz.sizeOf48 Tryz.zeroValue48 rfl (by decide) (by decide) (by decide) (by kernel_rfl) ⟨rfl,rfl,rfl,rfl,rfl,rfl,rfl,rfl,rfl,trivial⟩ ((rfl:_=some [[pastA (N.saw c (l.take k)).2],[pastA (l.getD k default).past],[pastA [N.vdep (l.getD k default)]]].flatten)) rfl rfl) ?_
  refine Al_p (Pu_call (hmg) rfl ⟨Sub.rfl,trivial⟩) ?_
  refine Al_p (Pu_fb 1 Tryz.underlying75 Tryz.sizeOf48) ?_
  refine Al_s1 Tryz.isAgg48 Tryz.sizeOf48 ?_
  refine Al_nil (Aw_region ?_)
  refine Al_p Pu_ad ?_
  refine Al_ml ?_
  refine Al_nil ?_
  exact⟨k+1,by omega,by omega,Le.ov ⟨Sub.num (by omega),trivial⟩ ⟨Sub.rfl,Sub.rfl,Sub.rfl,Sub.rfl,trivial⟩ ⟨by rw[hsn];rfl,trivial⟩ ⟨rfl,trivial⟩⟩
 ·(try simp only[A.cd_]at h10)
  have hkk:l.take k=l:=List.take_of_length_le (by omega)
  refine Aw_exit (Aw_sr ?_)
  refine Al_p (Pu_lbN (r:=[_,_]) Tryz.isAgg75 Tryz.sizeOf75) ?_
  refine Al_sN Tryz.isAgg75 Tryz.sizeOf75 ?_
  refine Al_nil ?_
  exact Aw_ret (⟨_,_,_,_,_,[_,_],rfl,rfl,rfl,rfl,by rw[hkk]⟩)
end Go.Proofs.YtdnijgdmohinlaaGreat
end
section
set_option maxRecDepth 100000
namespace Go.Proofs.YtdnijgdmohinlaaGreat
open Go Go.RowKit A R
open A.RowT
abbrev PinT:=Int×List Dep
end Go.Proofs.YtdnijgdmohinlaaGreat
end
section
namespace Go.Proofs.YtdnijgdmohinlaaGreat
open Go.RowKit A R
namespace T
def nearB (p:List Int) (a b:Nat):Bool:=decide (p.getD a 0=(b:Int))||decide (p.getD b 0=(a:Int))
def lookS (p:List Int) (a:Nat) (fr:Int) (go:Nat→List Nat) (r:List Nat) (i:Nat):List Nat :=
 if r≠[]then r else if (i:Int)=fr∨i=a∨nearB p a i=false then[]else go i
def lookK (p:List Int) (a:Nat) (fr:Int) (go:Nat→List Nat) (k:Nat):List Nat:=(List.range k).foldl (lookS p a fr go) []
def way (p:List Int) (b:Nat):Nat→Nat→Int→List Nat
 | 0,_,_=>[]
 | f+1,a,fr=>if a=b then[a]else if lookK p a fr (λi=>way p b f i (a:Int)) p.length=[]then[]else a::lookK p a fr (λi=>way p b f i (a:Int)) p.length
theorem lookK_succ (p:List Int) (a:Nat) (fr:Int) (go:Nat→List Nat) (k:Nat):lookK p a fr go (k+1)=lookS p a fr go (lookK p a fr go k) k:=by
 unfold lookK
 rw[List.range_succ,List.foldl_append];rfl
theorem lookK_keep (p:List Int) (a:Nat) (fr:Int) (go:Nat→List Nat) {k:Nat}(h:lookK p a fr go k≠[]):∀m,lookK p a fr go (k+m)=lookK p a fr go k
 | 0=>rfl
 | m+1=>by
  have ih:=lookK_keep p a fr go h m
  rw[←Nat.add_assoc,lookK_succ,ih]
  unfold lookS
  rw[if_pos h]
def mu (p:List Int) (a:Nat) (fr:Int):Nat:=if fr=p.getD a 0 then p.length - a else p.length+a+1
theorem mu_lt {p:List Int}(h:Ahead p) {a i:Nat}{fr:Int}(ha:a<p.length) (hi:i<p.length) (hf:(i:Int)≠fr) (hn:nearB p a i=true):mu p i (a:Int)<mu p a fr:=by
 unfold nearB at hn
 simp only[Bool.or_eq_true,decide_eq_true_eq]at hn
 unfold mu
 rcases hn with hn|hn
 ·
  have hai:i<a:=by
   rcases Nat.eq_zero_or_pos a with h0|h0
   ·have:=h.root;rw[h0]at hn;omega
   ·have:=(h.up a h0 ha).2;omega
  have h1:¬(a:Int)=p.getD i 0:=by
   rcases Nat.eq_zero_or_pos i with h0|h0
   ·have:=h.root;rw[h0];omega
   ·have:=(h.up i h0 hi).2;omega
  rw[if_neg h1,if_neg (by omega)]
  omega
 ·have hai:a<i:=by
   rcases Nat.eq_zero_or_pos i with h0|h0
   ·have:=h.root;rw[h0]at hn;omega
   ·have:=(h.up i h0 hi).2;omega
  rw[if_pos hn.symm]
  split<;>omega
theorem way_len (p:List Int) (b:Nat):∀f a fr,(way p b f a fr).length≤f
 | 0,_,_=>Nat.le_refl _
 | f+1,a,fr=>by
  unfold way
  split
  ·simp
  ·split
   ·simp
   ·have key:∀k,(lookK p a fr (λi=>way p b f i (a:Int)) k).length≤f:=λk=>by
     induction k with
     | zero=>exact Nat.zero_le _
     | succ k ih =>
      rw[lookK_succ]
      unfold lookS
      split
      ·exact ih
      ·split
       ·exact Nat.zero_le _
       ·exact way_len p b f k a
    have:=key p.length
    simp only[List.length_cons];omega
def path (p:List Int) (a b:Nat):List Nat:=way p b (2*p.length+1) a (-1)
def sideK (p:List Int) (a:Nat) (b:Int) (k:Nat):Nat:=(List.range k).foldl (λm i=>if 1<(path p a i).length∧((path p a i).getD 1 0:Int)=b then m|||2^i else m) 0
def side (p:List Int) (a:Nat) (b:Int):Nat:=sideK p a b p.length
theorem sideK_succ (p:List Int) (a:Nat) (b:Int) (k:Nat):sideK p a b (k+1)=if 1<(path p a k).length∧((path p a k).getD 1 0:Int)=b then sideK p a b k|||2^k else sideK p a b k:=by
 unfold sideK
 rw[List.range_succ,List.foldl_append];rfl
theorem sideK_lt (p:List Int) (a:Nat) (b:Int) (k:Nat):sideK p a b k<2^k:=by
 induction k with
 | zero=>exact Nat.one_pos
 | succ k ih =>
  rw[sideK_succ]
  have h2:2^k<2^(k+1):=Nat.pow_lt_pow_right (by omega) (by omega)
  split
  ·exact Nat.or_lt_two_pow (by omega) h2
  ·omega
def nearL (p:List Int) (a:Nat):List Nat:=(List.range p.length).filter (nearB p a)
def next (c:SRow) (a:Nat) (fr:Int) (key:ByteArray):List Nat:=(nearL c.parents a).filter λs=>!(decide ((s:Int)=fr)||decide (side c.parents a s&&&owners c key=0))
theorem next_len (c:SRow) (a:Nat) (fr:Int) (key:ByteArray):(next c a fr key).length≤c.parents.length:=by
 unfold next nearL
 have h1:=List.length_filter_le (nearB c.parents a) (List.range c.parents.length)
 rw[List.length_range]at h1
 exact Nat.le_trans (List.length_filter_le _ _) h1
end T
end Go.Proofs.YtdnijgdmohinlaaGreat
end
