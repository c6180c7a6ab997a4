/- What the proofs need in common, laid together (6 of 7): no condition. -/
import Derived.Test.YtdnijgdmohinlaaGreatF5
import Derived.Lib.LazyBuf
set_option linter.unusedSimpArgs false
set_option linter.unusedVariables false
set_option linter.constructorNameAsVariable false
section
set_option maxRecDepth 100000
namespace Go.Proofs.YtdnijgdmohinlaaGreat
open Go Go.RowKit A R
abbrev parA (p:List Int):AV:=.sl 1 (p.map λx=>[iv x])
theorem near_a (p:List Int) (a b:Nat) (ha:a<p.length) (hb:b<p.length):ACall Tryz.prog 297 [parA p,iv a,iv b] (bv (T.nearB p a b)):=by
 refine AC_1 Tryz.func297 Tryz.ntmps297 Tryz.results297 λhok M0 w0 hnl=>?_
 have e1:p.getD a 0=p[a]:=by simp[List.getD_eq_getElem?_getD,ha]
 have e2:p.getD b 0=p[b]:=by simp[List.getD_eq_getElem?_getD,hb]
 refine Aw_sr ?_
 refine Al_mr ?_
 refine Al_ns ?_
 refine Al_ml ?_
 refine Al_ml ?_
 refine Al_p (Pu_index rfl Tryz.underlying22 Tryz.sizeOf3 rfl rfl (rfl) (mapget ha)) ?_
 refine Al_p (Pu_l1 Tryz.isAgg3) ?_
 refine Al_ml ?_
 refine Al_p Pu_cp ?_
 refine Al_ml ?_
 refine Al_s (St_g [] trivial (λ_=>Pu_mvl)) ?_
 refine Al_s (St_g [] trivial (λ_=>Pu_mvl)) ?_
 refine Al_s (St_g [14,15] ⟨⟨_,rfl⟩,⟨_,rfl⟩,trivial⟩ (λ_=>Pu_index rfl Tryz.underlying22 Tryz.sizeOf3 rfl rfl (rfl) (mapget hb))) ?_
 refine Al_s (St_g [16] ⟨⟨_,rfl⟩,trivial⟩ (λ_=>Pu_l1 Tryz.isAgg3)) ?_
 refine Al_s (St_g [] trivial (λ_=>Pu_mvl)) ?_
 refine Al_s (St_g [17,18] ⟨⟨_,rfl⟩,⟨_,rfl⟩,trivial⟩ (λ_=>Pu_cp)) ?_
 refine Al_p Pu_o ?_
 refine Al_mr ?_
 refine Al_nil ?_
 exact Aw_ret (Sub.bool (by unfold T.nearB;rw[e1,e2]))
theorem there1_a (p:List Int) (x:Int):ACall Tryz.prog 350 ([iv x]++[.fp [parA p]]) (bv (decide (x<0)||decide (x≥p.length))):=by
 refine AC_1 Tryz.func350 Tryz.ntmps350 Tryz.results350 λhok M0 w0 hnl=>?_
 refine Aw_sr ?_
 refine Al_mr ?_
 refine Al_ns ?_
 refine Al_ml ?_
 refine Al_p Pu_cp ?_
 refine Al_ml ?_
 refine Al_s (St_g [] trivial (λ_=>Pu_mvl)) ?_
 refine Al_s (St_g [] trivial (λ_=>Pu_l1 Tryz.isAgg22)) ?_
 refine Al_s (St_g [8] ⟨⟨_,rfl⟩,trivial⟩ (λ_=>Pu_ln Tryz.underlying22)) ?_
 refine Al_s (St_g [7,9] ⟨⟨_,rfl⟩,⟨_,rfl⟩,trivial⟩ (λ_=>Pu_cp)) ?_
 refine Al_p Pu_o ?_
 refine Al_mr ?_
 refine Al_nil ?_
 exact Aw_ret (Sub.rfl)
theorem there_a (p:List Int) (hp:T.Ahead p) (l:List Int):ACall Tryz.prog 296 [parA p,parA l] (bv (!(l.any λx=>decide (x<0)||decide (x≥p.length)))):=by
 refine AC_1 Tryz.func296 Tryz.ntmps296 Tryz.results296 λhok M0 w0 hnl=>?_
 refine Aw_sr ?_
 refine Al_p (Pu_box1 rfl rfl (by nofun) (by nofun)) ?_
 refine Al_mr ?_
 refine Al_ns ?_
 refine Al_p (Pu_l1 Tryz.isAgg22) ?_
 refine Al_p (Pu_call (trcheck_a p hp) rfl ⟨Sub.rfl,trivial⟩) ?_
 refine Al_ml ?_
 refine Al_s (St_g [] trivial (λ_=>Pu_mvl)) ?_
 refine Al_s (St_g [] trivial (λ_=>Pu_makeFunc (caps:=[_]) rfl ⟨Sub.rfl,trivial⟩)) ?_
 refine Al_s (St_g [8,9] ⟨⟨_,rfl⟩,⟨_,rfl⟩,trivial⟩ (λ_=>Pu_call (containsI_a l 350 [.fp [parA p]] _ (there1_a p)) rfl ⟨Sub.rfl,Sub.rfl,trivial⟩)) ?_
 refine Al_s (St_g [10] ⟨⟨_,rfl⟩,trivial⟩ (λ_=>Pu_n)) ?_
 refine Al_p Pu_a ?_
 refine Al_mr ?_
 refine Al_nil ?_
 exact Aw_ret (Sub.bool (by simp))
namespace T
def wayA:List Nat→AV
 | []=>.v (.slice none 0 0)
 | x::l=>.sl 1 (outR (x::l))
def wF (p:List Int) (b:Nat):SV:=.fnb 349 [] [.d (.fp [iv b]),.d (.fp [parA p]),.bx 1007 0 0]
end T
theorem T.Pu_neqW {st:ASt}{o:Oper}{t yt e:TypeId}{x:Operand}{r:List Nat}(ho:o.op=.binOp .neq t x (.const (.slice none 0 0)) yt) (ht:Tryz.prog.underlying t=some (.slice e)) (hx:st.ev x=.d (T.wayA r)):Pu Tryz.prog st o (.d (bv (!r.isEmpty))):=Pu_q λB M ρ w a h2 _=>by
 have h1:=h2 x (by simp[opsOf,ho,Op.operands])
 rw[hx]at h1
 have hf:∃ad len cap,a.eval x=.slice ad len cap∧r.isEmpty=ad.isNone:=by
  cases r with
  | nil=>obtain⟨h3,_⟩:=rep_v h1;exact⟨none,0,0,h3,rfl⟩
  | cons y r =>
   have h1:Rep M w (.sl 1 (T.outR (y::r))) (a.eval x):=h1
   generalize a.eval x=z at h1
   generalize hrr:T.outR (y::r)=rr at h1
   cases h1 with
   | nil n a c=>simp[T.outR]at hrr
   | sl n rows b o' cap f hl hcap=>exact⟨_,_,_,rfl,rfl⟩
 obtain⟨ad,len,cap,he,hn⟩:=hf
 refine⟨.bool (!r.isEmpty),?_,.v _ trivial⟩
 simp only[execOp,ho,he,Sem.run_bind,Sem.run_pure,Result.andThen_ok]
 have hq:(eqGuard .neq t x (.const (.slice none 0 0)) (.slice ad len cap) (a.eval (.const (.slice none 0 0)))).run Tryz.prog w=.ok () w:=by
  simp[eqGuard,Act.eval]
 have h2:=run_neq_slice_nil (P:=Tryz.prog) w t e ad len cap ht
 rw[hn]
 first|(rw[hq];simp only[Result.andThen_ok];exact(by simp[Act.eval,h2]))|simp[Act.eval,h2]
theorem way_step (p:List Int) (hp:T.Ahead p) (b f a:Nat) (fr:Int) (ha:a<p.length) (hf:f≤1000) (hgo:∀(i:Nat),i<p.length→(i:Int)≠fr→T.nearB p a i=true→GCall Tryz.prog 349 [.d (iv i),.d (iv a),.d (.fp [iv b]),.d (.fp [parA p]),.bx 1007 0 0] [(1007,.box 373 [T.wF p b])] (some ([(1007,.box 373 [T.wF p b])],.d (T.wayA (T.way p b f i (a:Int)))))):GCall Tryz.prog 349 [.d (iv a),.d (iv fr),.d (.fp [iv b]),.d (.fp [parA p]),.bx 1007 0 0] [(1007,.box 373 [T.wF p b])] (some ([(1007,.box 373 [T.wF p b])],.d (T.wayA (T.way p b (f+1) a fr)))):=by
 refine GC_L Tryz.func349 Tryz.ntmps349 (ReadsS.r1 Tryz.results349) λhok hokB M0 w0 hl=>?_
 have hp6:=hp.le
 refine Aw_sr ?_
 refine Al_mr ?_
 refine Al_nil (Aw_seq (Aw_sr ?_))
 refine Al_ml ?_
 refine Al_p (Pu_l1 Tryz.isAgg3) ?_
 refine Al_p Pu_cp ?_
 refine Al_nil ?_
 refine Aw_cond rfl (λh12=>?_) (λh12=>?_)
 ·(try simp only[A.cd_]at h12)
  have hab:a=b:=by omega
  have e1:T.way p b (f+1) a fr=[a]:=by unfold T.way;rw[if_pos hab]
  refine Aw_sr ?_
  refine Al_ml ?_
  refine Al_p (Pu_slice1 rfl Tryz.underlying22 Tryz.sizeOf3 Tryz.zeroValue3 rfl (by decide) (by decide) (by kernel_rfl) rfl rfl rfl) ?_
  refine Al_mr ?_
  refine Al_nil ?_
  exact Aw_ret (⟨_,_,[],rfl,by rw[e1];exact Sub.rfl,⟨rfl,trivial⟩,rfl⟩)
 ·(try simp only[A.cd_]at h12)
  have hab:¬a=b:=by omega
  have e0:T.way p b (f+1) a fr=if T.lookK p a fr (λi=>T.way p b f i (a:Int)) p.length=[]then[]else a::T.lookK p a fr (λi=>T.way p b f i (a:Int)) p.length:=by conv=>lhs;unfold T.way;rw[if_neg hab]
  refine Aw_skip (Aw_seq (Aw_sr ?_))
  refine Al_p (Pu_l1 Tryz.isAgg22) ?_
  refine Al_p (Pu_ln Tryz.underlying22) ?_
  refine Al_ml ?_
  refine Al_nil (Aw_block ?_)
  refine Aw_loopk (ι:=Nat) [0,1,3,4,16] [1007] (λk=>[(17,.d (iv k))]) (λk=>[]) (λk=>k≤p.length∧T.lookK p a fr (λi=>T.way p b f i (a:Int)) k=[]) (λk=>p.length - k) (0) (⟨Nat.zero_le _,rfl⟩) ⟨Sub.rfl,trivial⟩ trivial ?_
  rintro k ⟨hk0,hlk⟩
  refine Aw_sr ?_
  refine Al_p Pu_cp ?_
  refine Al_nil (Aw_seq ?_)
  refine Aw_cond rfl (λh18=>?_) (λh18=>?_)
  ·(try simp only[A.cd_]at h18)
   have hk:k<p.length:=by omega
   have hsn:=T.lookK_succ p a fr (λi=>T.way p b f i (a:Int)) k
   rw[hlk]at hsn
   refine Aw_skip ?_
   refine Aw_seq (Aw_block (Aw_sr ?_))
   refine Al_ml ?_
   refine Al_mr ?_
   refine Al_nil (Aw_seq (Aw_sr ?_))
   refine Al_ml ?_
   refine Al_ml ?_
   refine Al_p Pu_cp ?_
   refine Al_ml ?_
   refine Al_s (St_g [] trivial (λ_=>Pu_mvl)) ?_
   refine Al_s (St_g [] trivial (λ_=>Pu_mvl)) ?_
   refine Al_s (St_g [24,25] ⟨⟨_,rfl⟩,⟨_,rfl⟩,trivial⟩ (λ_=>Pu_cp)) ?_
   refine Al_p Pu_o ?_
   refine Al_ml ?_
   refine Al_s (St_g [] trivial (λ_=>Pu_l1 Tryz.isAgg22)) ?_
   refine Al_s (St_g [] trivial (λ_=>Pu_mvl)) ?_
   refine Al_s (St_g [] trivial (λ_=>Pu_mvl)) ?_
   refine Al_s (St_g [29,30,31] ⟨⟨_,rfl⟩,⟨_,rfl⟩,⟨_,rfl⟩,trivial⟩ (λ_=>Pu_call (near_a p a k ha hk) rfl ⟨Sub.rfl,Sub.rfl,Sub.rfl,trivial⟩)) ?_
   refine Al_s (St_g [32] ⟨⟨_,rfl⟩,trivial⟩ (λ_=>Pu_n)) ?_
   refine Al_p Pu_o ?_
   refine Al_nil ?_
   refine Aw_cond rfl (λh34=>?_) (λh34=>?_)
   ·skip
    have h0:(k:Int)=fr∨k=a∨T.nearB p a k=false:=by
     have h1:(decide ((k:Int)=fr)||decide ((k:Int)=(a:Int))||!T.nearB p a k)=true:=h34
     simp only[Bool.or_eq_true,decide_eq_true_eq,Bool.not_eq_true']at h1
     rcases h1 with(h|h)|h
     ·exact .inl h
     ·exact .inr (.inl (by omega))
     ·exact .inr (.inr h)
    have hsn1:T.lookK p a fr (λi=>T.way p b f i (a:Int)) (k+1)=[]:=by rw[hsn];unfold T.lookS;rw[if_neg (by simp),if_pos h0]
    refine Aw_exit (Aw_region ?_)
    refine Al_p Pu_ad ?_
    refine Al_ml ?_
    refine Al_nil ?_
    exact⟨k+1,⟨by omega,hsn1⟩,by omega,Le.ov ⟨Sub.num (by omega),trivial⟩ ⟨Sub.rfl,Sub.rfl,Sub.rfl,Sub.rfl,Sub.rfl,trivial⟩ trivial ⟨rfl,trivial⟩⟩
   ·skip
    have h0:¬((k:Int)=fr∨k=a∨T.nearB p a k=false):=by
     have h1:(decide ((k:Int)=fr)||decide ((k:Int)=(a:Int))||!T.nearB p a k)=false:=h34
     simp only[Bool.or_eq_false_iff,decide_eq_false_iff_not,Bool.not_eq_false']at h1
     rintro(h|h|h)
     ·exact h1.1.1 h
     ·exact h1.1.2 (by rw[h])
     ·rw[h1.2]at h;cases h
    have hsn2:T.lookK p a fr (λi=>T.way p b f i (a:Int)) (k+1)=T.way p b f k (a:Int):=by rw[hsn];unfold T.lookS;rw[if_neg (by simp),if_neg h0]
    have hcall:=hgo k hk (λh=>h0 (.inl h)) (by cases h:T.nearB p a k with
     | true=>rfl
     | false=>exact(h0 (.inr (.inr h))).elim)
    have hwl:=T.way_len p b f k (a:Int)
    refine Aw_skip (Aw_sr ?_)
    refine Al_p (Pu_lb Tryz.isAgg373) ?_
    refine Al_ml ?_
    refine Al_ml ?_
    refine Al_gcallv [(1007,1007,0)] [] hcall rfl rfl rfl (by decide) (by kernel_rfl) rfl ⟨rfl,trivial⟩ rfl [.d (iv k),.d (iv a)] rfl ⟨Sub.rfl,Sub.rfl,trivial⟩ (λg38=>?_)
    refine Al_mr ?_
    refine Al_ns ?_
    refine Al_ml ?_
    refine Al_p (T.Pu_neqW (r:=T.way p b f k (a:Int)) rfl Tryz.underlying22 rfl) ?_
    refine Al_nil ?_
    refine Aw_cond rfl (λh40=>?_) (λh40=>?_)
    ·(try simp only[A.cd_]at h40)
     obtain⟨y,ys,hw⟩:∃y ys,T.way p b f k (a:Int)=y::ys:=by
      cases hw:T.way p b f k (a:Int)with
      | nil=>rw[hw]at h40;simp at h40
      | cons y ys=>exact⟨y,ys,rfl⟩
     have hfin:=T.lookK_keep p a fr (λi=>T.way p b f i (a:Int)) (k:=k+1) (by rw[hsn2,hw];simp) (p.length - (k+1))
     rw[show k+1+(p.length - (k+1))=p.length from by omega,hsn2]at hfin
     have e1:T.way p b (f+1) a fr=a::T.way p b f k (a:Int):=by rw[e0,hfin,if_neg (by rw[hw];simp)]
     rw[e1,hw]
     rw[hw]at hwl
     refine Aw_sr ?_
     refine Al_ml ?_
     refine Al_sliceLit (aa:=[(0,_)]) (rows:=[[iv (a:Int)]]) rfl rfl rfl (by decide) (by kernel_rfl) Tryz.underlying22 Tryz.sizeOf3 Tryz.zeroValue3 rfl (by decide) (by decide) (by decide) (by kernel_rfl) ⟨rfl,rfl,rfl,trivial⟩ (rfl) rfl rfl (λg42=>?_)
     refine Al_ml ?_
     refine Al_append rfl rfl rfl (by decide) (by kernel_rfl) elem22 (by decide) Tryz.sizeOf3 rfl rfl rfl (by rw[T.outR,List.length_map];simp only[List.length_singleton];omega) (by decide) (λg44=>?_)
     refine Al_mr ?_
     refine Al_nil ?_
     refine Aw_frzL hl (k:=42) [7] rfl ⟨rfl,⟨_,rfl,λ_ _ h=>h⟩,trivial⟩ ⟨rfl,trivial⟩ ?_
     exact Aw_ret (⟨_,_,[],rfl,Sub.rfl,⟨rfl,trivial⟩,rfl⟩)
    ·(try simp only[A.cd_]at h40)
     have hw:T.way p b f k (a:Int)=[]:=by
      cases hw:T.way p b f k (a:Int)with
      | nil=>rfl
      | cons y ys=>rw[hw]at h40;simp at h40
     refine Aw_skip (Aw_region ?_)
     refine Al_p Pu_ad ?_
     refine Al_ml ?_
     refine Al_nil ?_
     exact⟨k+1,⟨by omega,by rw[hsn2,hw]⟩,by omega,Le.ov ⟨Sub.num (by omega),trivial⟩ ⟨Sub.rfl,Sub.rfl,Sub.rfl,Sub.rfl,Sub.rfl,trivial⟩ trivial ⟨rfl,trivial⟩⟩
  ·(try simp only[A.cd_]at h18)
   have hkk:k=p.length:=by omega
   have e1:T.way p b (f+1) a fr=[]:=by rw[e0,←hkk,if_pos hlk]
   refine Aw_exit (Aw_sr ?_)
   refine Al_mr ?_
   refine Al_nil ?_
   exact Aw_ret (⟨_,_,[],rfl,by rw[e1];exact Sub.rfl,⟨rfl,trivial⟩,rfl⟩)
theorem way_g (p:List Int) (hp:T.Ahead p) (b:Nat):∀(f a:Nat) (fr:Int),a<p.length→f≤1000→T.mu p a fr≤f→GCall Tryz.prog 349 [.d (iv a),.d (iv fr),.d (.fp [iv b]),.d (.fp [parA p]),.bx 1007 0 0] [(1007,.box 373 [T.wF p b])] (some ([(1007,.box 373 [T.wF p b])],.d (T.wayA (T.way p b f a fr))))
 | 0,a,fr,ha,_,hm=>by
  unfold T.mu at hm
  split at hm<;>omega
 | f+1,a,fr,ha,hf,hm=>way_step p hp b f a fr ha (by omega) λi hi hne hn=>way_g p hp b f i a hi (by omega) (by
  have:=T.mu_lt hp ha hi hne hn
  omega)
theorem path_a (p:List Int) (hp:T.Ahead p) (a b:Nat) (ha:a<p.length) (hb:b<p.length):ACall Tryz.prog 294 [parA p,iv a,iv b] (T.wayA (T.path p a b)):=by
 refine AC_1 Tryz.func294 Tryz.ntmps294 Tryz.results294 λhok M0 w0 hnl=>?_
 have hp6:=hp.le
 have hm:T.mu p a (-1)≤2*p.length+1:=by unfold T.mu;split<;>omega
 have hcall:=way_g p hp b (2*p.length+1) a (-1) ha (by omega) hm
 refine Aw_sr ?_
 refine Al_p (Pu_box1 rfl rfl (by nofun) (by nofun)) ?_
 refine Al_p (Pu_box1 rfl rfl (by nofun) (by nofun)) ?_
 refine Al_mr ?_
 refine Al_nil (Aw_seq (Aw_sr ?_))
 refine Al_p (Pu_l1 Tryz.isAgg22) ?_
 refine Al_ml ?_
 refine Al_p (Pu_l1 Tryz.isAgg3) ?_
 refine Al_p (Pu_buildSlice (aa:=[(0,_),(1,_)]) rfl Tryz.underlying22 Tryz.sizeOf3 Tryz.zeroValue3 rfl (by decide) (by decide) (by decide) (by kernel_rfl) ⟨rfl,rfl,rfl,rfl,rfl,rfl,trivial⟩ ((rfl:_=some [[iv (a:Int)],[iv (b:Int)]].flatten)) rfl rfl) ?_
 refine Al_p (Pu_call (there_a p hp [(a:Int),(b:Int)]) rfl ⟨Sub.rfl,Sub.rfl,trivial⟩) ?_
 refine Al_p Pu_n ?_
 refine Al_nil ?_
 refine Aw_condF rfl ((by simp;omega)) ?_
 refine Aw_skip (Aw_sr ?_)
 refine Al_al Tryz.zeroValue373 λg7=>?_
 refine Al_ns ?_
 refine Al_p (Pu_makeFuncS (ys:=[]) (xs:=[_,_,_]) [] [.d (.fp [iv b]),.d (.fp [parA p]),.bx 7 g7 0] rfl trivial ⟨Sub.rfl,Sub.rfl,Sub.rfl,trivial⟩) ?_
 refine Al_s1 Tryz.isAgg373 Tryz.sizeOf373 ?_
 refine Al_ns ?_
 refine Al_p (Pu_lb Tryz.isAgg373) ?_
 refine Al_ml ?_
 refine Al_gcallv [(1007,7,g7)] [] hcall rfl rfl rfl (by decide) (by kernel_rfl) rfl ⟨rfl,trivial⟩ rfl [.d (iv a),.d (iv (-1))] rfl ⟨Sub.rfl,Sub.rfl,trivial⟩ (λg17=>?_)
 refine Al_mr ?_
 refine Al_nil ?_
 exact Aw_ret (Sub.rfl)
theorem path_b (p:List Int) (hp:T.Ahead p) (a b:Nat) (ha:a<p.length) (hb:b<p.length):ACall Tryz.prog 294 [parA p,iv a,iv b] (.sl 1 (T.outR (T.path p a b))):=⟨(path_a p hp a b ha hb).1,λM w vs hM hr=>((path_a p hp a b ha hb).2 M w vs hM hr).mono λe w' ⟨v,h1,h2,h3⟩=>⟨v,h1,h2,by
 cases h:T.path p a b with
 | nil=>rw[h]at h3;cases h3;exact .nil _ _ _
 | cons x l=>rw[h]at h3;exact h3⟩⟩
theorem T.out_at {l:List Nat}{j:Nat}(h:j<l.length):(T.outR l)[j]?=some [iv ((l.getD j 0:Nat):Int)]:=by
 simp[T.outR,h]
theorem T.or64:∀a∈List.range 64,∀b∈List.range 64,IntKind.i64.wrap (BitVec.ofInt IntKind.i64.bits (a:Nat)|||BitVec.ofInt IntKind.i64.bits (b:Nat)).toNat=((a|||b:Nat):Int):=by decide +kernel
theorem T.and64:∀a∈List.range 64,∀b∈List.range 64,IntKind.i64.wrap (BitVec.ofInt IntKind.i64.bits (a:Nat)&&&BitVec.ofInt IntKind.i64.bits (b:Nat)).toNat=((a&&&b:Nat):Int):=by decide +kernel
theorem T.shl1:∀k∈List.range 6,IntKind.i64.wrap (1*2^((k:Nat):Int).toNat)=((2^k:Nat):Int):=by decide +kernel
theorem side_a (p:List Int) (hp:T.Ahead p) (a:Nat) (b:Int) (ha:a<p.length):ACall Tryz.prog 218 [parA p,iv a,iv b] (iv (T.side p a b:Nat)):=by
 refine AC_1 Tryz.func218 Tryz.ntmps218 Tryz.results218 λhok M0 w0 hnl=>?_
 have hp6:=hp.le
 refine Aw_sr ?_
 refine Al_mr ?_
 refine Al_ns ?_
 refine Al_mr ?_
 refine Al_nil (Aw_seq (Aw_sr ?_))
 refine Al_ml ?_
 refine Al_p (Pu_ln Tryz.underlying22) ?_
 refine Al_ml ?_
 refine Al_nil (Aw_block ?_)
 refine Aw_loopk (ι:=Nat) [0,1,2,11] [] (λk=>[(12,.d (iv k)),(7,.d (iv (T.sideK p a b k:Nat)))]) (λk=>[]) (λk=>k≤p.length) (λk=>p.length - k) (0) (Nat.zero_le _) ⟨Sub.rfl,Sub.rfl,trivial⟩ trivial ?_
 rintro k hk0
 refine Aw_sr ?_
 refine Al_p Pu_cp ?_
 refine Al_nil (Aw_seq ?_)
 refine Aw_cond rfl (λh13=>?_) (λh13=>?_)
 ·(try simp only[A.cd_]at h13)
  have hk:k<p.length:=by omega
  have hsn:=T.sideK_succ p a b k
  have hlt:=T.sideK_lt p a b k
  have h64:2^k≤32:=Nat.pow_le_pow_right (by omega) (by omega:k≤5)
  refine Aw_skip ?_
  refine Aw_seq (Aw_block (Aw_sr ?_))
  refine Al_ml ?_
  refine Al_mr ?_
  refine Al_ns ?_
  refine Al_ml ?_
  refine Al_ml ?_
  refine Al_ml ?_
  refine Al_p (Pu_call (path_b p hp a k ha hk) rfl ⟨Sub.rfl,Sub.rfl,Sub.rfl,trivial⟩) ?_
  refine Al_mr ?_
  refine Al_ns ?_
  refine Al_ml ?_
  refine Al_p (Pu_ln Tryz.underlying22) ?_
  refine Al_p Pu_cp ?_
  refine Al_ml ?_
  refine Al_s (St_g [] trivial (λ_=>Pu_mvl)) ?_
  refine Al_s (St_gd [23] rfl rfl rfl rfl ⟨⟨_,rfl⟩,trivial⟩ (λhg24=>by exact Pu_index rfl Tryz.underlying22 Tryz.sizeOf3 rfl rfl (rfl) (T.out_at (j:=1) (by have h0:=hg24;simp[T.outR]at h0;omega)))) ?_
  refine Al_s (St_g [24] ⟨⟨_,rfl⟩,trivial⟩ (λ_=>Pu_l1 Tryz.isAgg3)) ?_
  refine Al_s (St_g [] trivial (λ_=>Pu_mvl)) ?_
  refine Al_s (St_g [25,26] ⟨⟨_,rfl⟩,⟨_,rfl⟩,trivial⟩ (λ_=>Pu_cp)) ?_
  refine Al_p Pu_a ?_
  refine Al_nil ?_
  refine Aw_cond rfl (λh28=>?_) (λh28=>?_)
  ·skip
   have h0:1<(T.path p a k).length∧(((T.path p a k).getD 1 0:Nat):Int)=b:=by
    have h1:(decide ((1:Int)<((T.path p a k).length:Nat))&&decide ((((T.path p a k).getD 1 0:Nat):Int)=b))=true:=h28
    simp only[Bool.and_eq_true,decide_eq_true_eq]at h1
    exact⟨by omega,h1.2⟩
   rw[if_pos h0]at hsn
   refine Aw_region ?_
   refine Al_ml ?_
   refine Al_ml ?_
   refine Al_p (Pu_int_shl (r:=((2^k:Nat):Int)) rfl rfl rfl ⟨by omega,by show(k:Int)≤64;omega⟩ (T.shl1 k (List.mem_range.2 (by omega))) (λ_=>by show A.inI _;simp only[A.inI];omega)) ?_
   refine Al_p (Pu_int_or (r:=((T.sideK p a b k|||2^k:Nat):Int)) rfl rfl rfl (T.or64 _ (List.mem_range.2 (by omega)) _ (List.mem_range.2 (by omega))) (λ_=>by show A.inI _;have:=Nat.or_lt_two_pow (n:=6) (x:=T.sideK p a b k) (y:=2^k) (by omega) (by omega);simp only[A.inI];omega)) ?_
   refine Al_mr ?_
   refine Al_nil (Aw_region ?_)
   refine Al_p Pu_ad ?_
   refine Al_ml ?_
   refine Al_nil ?_
   exact⟨k+1,by omega,by omega,Le.ov ⟨Sub.num (by omega),Sub.num (by rw[hsn]),trivial⟩ ⟨Sub.rfl,Sub.rfl,Sub.rfl,Sub.rfl,trivial⟩ trivial trivial⟩
  ·skip
   have h0:¬(1<(T.path p a k).length∧(((T.path p a k).getD 1 0:Nat):Int)=b):=by
    have h1:(decide ((1:Int)<((T.path p a k).length:Nat))&&decide ((((T.path p a k).getD 1 0:Nat):Int)=b))=false:=h28
    rintro⟨h2,h3⟩
    simp only[Bool.and_eq_false_iff,decide_eq_false_iff_not]at h1
    rcases h1 with h1|h1
    ·omega
    ·exact h1 h3
   rw[if_neg h0]at hsn
   refine Aw_skip (Aw_region ?_)
   refine Al_p Pu_ad ?_
   refine Al_ml ?_
   refine Al_nil ?_
   exact⟨k+1,by omega,by omega,Le.ov ⟨Sub.num (by omega),Sub.num (by rw[hsn]),trivial⟩ ⟨Sub.rfl,Sub.rfl,Sub.rfl,Sub.rfl,trivial⟩ trivial trivial⟩
 ·(try simp only[A.cd_]at h13)
  have hkk:k=p.length:=by omega
  refine Aw_exit (Aw_sr ?_)
  refine Al_ml ?_
  refine Al_mr ?_
  refine Al_nil ?_
  exact Aw_ret (Sub.num (by rw[hkk];rfl))
theorem T.outI (l:List Nat):T.outR l=(l.map λx=>((x:Nat):Int)).map λx=>[iv x]:=by
 unfold T.outR
 rw[List.map_map];rfl
theorem nearL_g (p:List Int) (hp:T.Ahead p) (a:Nat) (ha:a<p.length):GCall Tryz.prog 220 [.d (parA p),.d (iv a)] [] (some ([(1001,.arr 3 1 (((T.nearL p a).map λx=>((x:Nat):Int)).map λx=>[iv x]))],.ow 1001 0)):=by
 refine GC_1 Tryz.func220 Tryz.ntmps220 (ReadsS.r1 Tryz.results220) λhok hokB M0 w0=>?_
 have hp6:=hp.le
 refine Aw_sr ?_
 refine Al_mr ?_
 refine Al_nil (Aw_scope (Aw_seq (Aw_sr ?_)))
 refine Al_ml ?_
 refine Al_ml ?_
 refine Al_p (Pu_slice1 rfl Tryz.underlying22 Tryz.sizeOf3 Tryz.zeroValue3 rfl (by decide) (by decide) (by kernel_rfl) rfl rfl rfl) ?_
 refine Al_p (Pu_call (there_a p hp [(a:Int)]) rfl ⟨Sub.rfl,Sub.rfl,trivial⟩) ?_
 refine Al_p Pu_n ?_
 refine Al_nil ?_
 refine Aw_condF rfl ((by simp;omega)) ?_
 refine Aw_skip (Aw_sr ?_)
 refine Al_mr ?_
 refine Al_nil (Aw_seq (Aw_label (Aw_seq (Aw_sr ?_))))
 refine Al_ml ?_
 refine Al_p (Pu_ln Tryz.underlying22) ?_
 refine Al_ml ?_
 refine Al_nil (Aw_block ?_)
 refine Aw_own (j:=5) (k:=5) (T:=3) (n:=1) rfl (λg5=>?_)
 refine Aw_loopk (ι:=Nat×Nat) [0,1,13] [] (λ(k,g)=>[(14,.d (iv k)),(5,.ow 5 g)]) (λ(k,g)=>[(5,g,.arr 3 1 (T.outR ((List.range k).filter (T.nearB p a))))]) (λ(k,g)=>k≤p.length) (λ(k,g)=>p.length - k) ((0,g5)) (Nat.zero_le _) ⟨Sub.rfl,Sub.rfl,trivial⟩ ⟨rfl,trivial⟩ ?_
 rintro⟨k,g⟩ hk0
 refine Aw_sr ?_
 refine Al_p Pu_cp ?_
 refine Al_nil (Aw_seq ?_)
 refine Aw_cond rfl (λh15=>?_) (λh15=>?_)
 ·(try simp only[A.cd_]at h15)
  have hk:k<p.length:=by omega
  have hsn:(List.range (k+1)).filter (T.nearB p a)=(List.range k).filter (T.nearB p a)++(if T.nearB p a k then[k]else[]):=by
   rw[List.range_succ,List.filter_append]
   congr 1
   cases h:T.nearB p a k<;>simp[List.filter_cons,h]
  have hfl:=List.length_filter_le (T.nearB p a) (List.range k)
  rw[List.length_range]at hfl
  refine Aw_skip ?_
  refine Aw_seq (Aw_block (Aw_sr ?_))
  refine Al_ml ?_
  refine Al_mr ?_
  refine Al_nil (Aw_seq (Aw_sr ?_))
  refine Al_ml ?_
  refine Al_ml ?_
  refine Al_ml ?_
  refine Al_p (Pu_call (near_a p a k ha hk) rfl ⟨Sub.rfl,Sub.rfl,Sub.rfl,trivial⟩) ?_
  refine Al_p Pu_n ?_
  refine Al_nil ?_
  refine Aw_cond rfl (λh21=>?_) (λh21=>?_)
  ·(try simp only[A.cd_]at h21)
   have hno:T.nearB p a k=false:=by simpa using h21
   refine Aw_exit (Aw_region ?_)
   refine Al_p Pu_ad ?_
   refine Al_ml ?_
   refine Al_nil ?_
   exact⟨(k+1,g),by omega,by simp only[];omega,Le.ov ⟨Sub.num (by omega),Sub.rfl,trivial⟩ ⟨Sub.rfl,Sub.rfl,Sub.rfl,trivial⟩ ⟨obeq (by rw[hsn,hno];simp),trivial⟩ trivial⟩
  ·(try simp only[A.cd_]at h21)
   have hye:T.nearB p a k=true:=by simpa using h21
   refine Aw_skip (Aw_region ?_)
   refine Al_ml ?_
   refine Al_ml ?_
   refine Al_p (Pu_slice1 rfl Tryz.underlying22 Tryz.sizeOf3 Tryz.zeroValue3 rfl (by decide) (by decide) (by kernel_rfl) rfl rfl rfl) ?_
   refine Al_append rfl rfl rfl (by decide) (by kernel_rfl) elem22 (by decide) Tryz.sizeOf3 rfl rfl rfl (by simp[T.outR];omega) (by decide) (λg25=>?_)
   refine Al_mr ?_
   refine Al_nil (Aw_region ?_)
   refine Al_p Pu_ad ?_
   refine Al_ml ?_
   refine Al_nil ?_
   exact⟨(k+1,g25),by omega,by simp only[];omega,Le.ov ⟨Sub.num (by omega),Sub.rfl,trivial⟩ ⟨Sub.rfl,Sub.rfl,Sub.rfl,trivial⟩ ⟨obeq (by rw[hsn,hye];simp[T.outR,A.cellsA]),trivial⟩ trivial⟩
 ·(try simp only[A.cd_]at h15)
  have hkk:k=p.length:=by omega
  refine Aw_exit (Aw_sr ?_)
  refine Al_ml ?_
  refine Al_mr ?_
  refine Al_nil ?_
  exact Aw_ret (⟨_,_,[(1001,5,g)],rfl,Sub.rfl,⟨obeq (by rw[hkk,←T.outI];rfl),trivial⟩,rfl⟩)
set_option maxRecDepth 100000 in
set_option maxHeartbeats 1000000 in
theorem delfuncI_g (l:List Int) (f:FuncId) (caps:List AV) (p:Int→Bool) (hf:∀x,ACall Tryz.prog f ([iv x]++caps) (bv (p x))) (hl:l.length≤1000000):GCall Tryz.prog 219 [.ow 1001 0,.d (.fn f caps)] [(1001,.arr 3 1 (l.map (λx=>[iv x])))] (some ([(1002,.arr 3 1 ((l.filter λx=>!p x).map (λx=>[iv x])))],.ow 1002 0)):=by
 refine GC_1 Tryz.func219 Tryz.ntmps219 (ReadsS.r1 Tryz.results219) λhok hokB M0 w0=>?_
 have hu:∀(c:List Int),∀r∈c.map (λx=>[iv x]),r.length=1:=λc r hr=>by obtain⟨x,_,rfl⟩:=List.mem_map.1 hr;rfl
 refine Aw_sr ?_
 refine Al_mr ?_
 refine Al_ns ?_
 refine Al_ml ?_
 refine Al_ml ?_
 refine Al_p (Pu_callR (indexI_a l f caps p hf) rfl rfl ⟨.inr ⟨1001,0,_,_,_,rfl,rfl,rfl⟩,.inl Sub.rfl,trivial⟩) ?_
 refine Al_mr ?_
 refine Al_nil (Aw_seq (Aw_sr ?_))
 refine Al_ml ?_
 refine Al_p Pu_cp ?_
 refine Al_nil ?_
 refine Aw_cond rfl (λh12=>?_) (λh12=>?_)
 ·(try simp only[A.cd_]at h12)
  have hno:=S.find_neg h12
  refine Aw_sr ?_
  refine Al_ml ?_
  refine Al_mr ?_
  refine Al_nil ?_
  exact Aw_ret (⟨_,_,[(1002,1001,0)],rfl,Sub.rfl,⟨obeq (by rw[hno]),trivial⟩,rfl⟩)
 ·(try simp only[A.cd_]at h12)
  obtain⟨i0,hi0,hfi,hpi,hbef⟩:=S.find_pos (p:=p) (l:=l) h12
  refine Aw_skip (Aw_seq (Aw_sr ?_))
  refine Al_ml ?_
  refine Al_p Pu_ad ?_
  refine Al_mr ?_
  refine Al_nil (Aw_block ?_)
  refine Aw_loopk (ι:=Nat×Nat×(List Int)) [0,1] [] (λ(i,j,c)=>[(5,.d (iv i)),(6,.d (iv j))]) (λ(i,j,c)=>[(1001,0,.arr 3 1 (c.map (λx=>[iv x])))]) (λ(i,j,c)=>c.length=l.length∧i≤j∧j≤l.length∧c.take i=(l.take j).filter (λx=>!p x)∧c.drop j=l.drop j∧i<j) (λ(i,j,c)=>l.length - j) (i0,i0+1,l) (⟨rfl,by omega,by omega,S.filter_first hi0 hpi hbef,rfl,by omega⟩) ⟨Sub.num hfi,Sub.num (by rw[hfi];omega),trivial⟩ ⟨rfl,trivial⟩ ?_
  rintro⟨i,j,c⟩ ⟨hcl,hij,hjl,hct,hcd,hij2⟩
  refine Aw_seq (Aw_sr ?_)
  refine Al_ml ?_
  refine Al_ml ?_
  refine Al_p (Pu_lenOw (m:=l.length) rfl Tryz.underlying22 rfl rfl (by rw[List.length_map,hcl])) ?_
  refine Al_p Pu_cp ?_
  refine Al_nil ?_
  refine Aw_cond rfl (λh19=>?_) (λh19=>?_)
  ·(try simp only[A.cd_]at h19)
   have hj:j<l.length:=by omega
   have hjc:j<(c.map (λx=>[iv x])).length:=by rw[List.length_map];omega
   have hcj:c.getD j default=l[j]:=S.drop_at hcd hj (by omega)
   have hrow:=S.row_at (hu c) hjc
   rw[S.map_getD (by omega:j<c.length),hcj]at hrow
   have hrow1:(c.map (λx=>[iv x])).flatten[j*1]?=some ((λx=>iv x) l[j]):=by
    have h0:=congrArg (λz=>z[0]?) hrow
    simpa [List.getElem?_drop,List.getElem?_take]using h0
   have hset:=S.flat_set (hu c) (x:=(λx=>[iv x]) l[j]) (i:=i) (by rw[List.length_map];omega) rfl
   refine Aw_skip ?_
   refine Aw_seq (Aw_block (Aw_sr ?_))
   refine Al_ml ?_
   refine Al_ml ?_
   refine Al_p (Pu_indexOw (j:=j) rfl Tryz.underlying22 Tryz.sizeOf3 rfl rfl rfl rfl hjc) ?_
   refine Al_p (Pu_loadArr rfl Tryz.isAgg3 rfl rfl hrow1) ?_
   refine Al_mr ?_
   refine Al_ns ?_
   refine Al_ml ?_
   refine Al_ml ?_
   refine Al_p (Pu_callv (aa:=[(λx=>iv x) l[j]]) (caps:=caps) (hf l[j]) rfl rfl ⟨Sub.rfl,trivial⟩) ?_
   refine Al_p Pu_n ?_
   refine Al_nil ?_
   refine Aw_cond rfl (λh29=>?_) (λh29=>?_)
   ·skip
    have hpj:p l[j]=false:=by simpa using h29
    refine Aw_sr ?_
    refine Al_ml ?_
    refine Al_ml ?_
    refine Al_ml ?_
    refine Al_p (Pu_indexOw (j:=i) rfl Tryz.underlying22 Tryz.sizeOf3 rfl rfl rfl rfl (by rw[List.length_map];omega)) ?_
    refine Al_storeArr ((c.map (λx=>[iv x])).set i ((λx=>[iv x]) l[j])) rfl rfl rfl (by kernel_rfl) Tryz.sizeOf3 rfl rfl rfl rfl rfl (by rw[List.length_map];omega) (by simp) (λq hq=>by rcases List.mem_or_eq_of_mem_set hq with h|rfl;exact hu c q h;rfl) hset ?_
    refine Al_nil (Aw_region ?_)
    refine Al_ml ?_
    refine Al_p Pu_ad ?_
    refine Al_mr ?_
    refine Al_nil (Aw_region ?_)
    refine Al_ml ?_
    refine Al_p Pu_ad ?_
    refine Al_mr ?_
    refine Al_nil ?_
    exact⟨(i+1,j+1,c.set i l[j]),⟨by rw[List.length_set,hcl],by omega,by omega,S.del_keep hj hct hpj (by omega),by rw[List.drop_set_of_lt (by omega),←List.drop_drop,hcd,List.drop_drop],by omega⟩,by simp only[];omega,Le.ov ⟨Sub.num (by omega),Sub.num (by omega),trivial⟩ ⟨Sub.rfl,Sub.rfl,trivial⟩ ⟨obeq (by rw[List.map_set]),trivial⟩ trivial⟩
   ·skip
    have hpj:p l[j]=true:=by simpa using h29
    refine Aw_skip (Aw_region ?_)
    refine Al_ml ?_
    refine Al_p Pu_ad ?_
    refine Al_mr ?_
    refine Al_nil ?_
    exact⟨(i,j+1,c),⟨hcl,by omega,by omega,S.del_drop hj hct hpj,by rw[←List.drop_drop,hcd,List.drop_drop],by omega⟩,by simp only[];omega,Le.ov ⟨Sub.rfl,Sub.num (by omega),trivial⟩ ⟨Sub.rfl,Sub.rfl,trivial⟩ ⟨rfl,trivial⟩ trivial⟩
  ·(try simp only[A.cd_]at h19)
   obtain rfl:j=l.length:=by omega
   rw[List.take_length]at hct
   have hfl:∀zz,((c.map (λx=>[iv x])).take i++List.replicate ((c.map (λx=>[iv x])).length - i) zz).take i=(l.filter λx=>!p x).map (λx=>[iv x]):=λzz=>by
    rw[←hct,List.map_take,List.take_append_of_le_length (by simp;omega),List.take_take,Nat.min_self]
   refine Aw_exit (Aw_sr ?_)
   refine Al_ml ?_
   refine Al_ml ?_
   refine Al_p (Pu_sliceOw i (c.map (λx=>[iv x])).length rfl Tryz.underlying22 Tryz.sizeOf3 rfl rfl ⟨_,rfl,rfl⟩ rfl ⟨by rw[List.length_map];omega,.inl (Nat.le_refl _)⟩) ?_
   refine Al_clear0 rfl rfl rfl (by kernel_rfl) Tryz.underlying22 Tryz.zeroValue3 rfl (by decide) rfl (by decide) rfl rfl rfl ?_
   refine Al_ns ?_
   refine Al_ml ?_
   refine Al_ml ?_
   refine Al_cut i rfl rfl rfl (by decide) (by kernel_rfl) Tryz.underlying22 Tryz.sizeOf3 rfl rfl rfl ⟨_,rfl,rfl⟩ (by simp;omega) (λg41=>?_)
   refine Al_mr ?_
   refine Al_nil ?_
   exact Aw_ret (⟨_,_,[(1002,1001,g41)],rfl,Sub.rfl,⟨obeq (hfl _),trivial⟩,rfl⟩)
theorem routeC_a (c:SRow) (hp:T.Ahead c.parents):ACall Tryz.prog 32 [.row c.row] (bv (T.ok c)):=by
 refine AC_1 Tryz.func32 Tryz.ntmps32 Tryz.results32 λhok M0 w0 hnl=>?_
 refine Aw_sr ?_
 refine Al_p Pu_bN ?_
 refine Al_mr ?_
 refine Al_ns ?_
 refine Al_p (Pu_lN Tryz.isAgg30 Tryz.sizeOf30) ?_
 refine Al_p (Pu_call (tcheck_a c) rfl ⟨Sub.rfl,trivial⟩) ?_
 refine Al_ml ?_
 refine Al_s (St_g [] trivial (λ_=>Pu_fd 2 Tryz.underlying30 Tryz.sizeOf22)) ?_
 refine Al_s (St_g [6] ⟨⟨_,rfl⟩,trivial⟩ (λ_=>Pu_l1 Tryz.isAgg22)) ?_
 refine Al_s (St_g [7] ⟨⟨_,rfl⟩,trivial⟩ (λ_=>Pu_call (trcheck_a c.parents hp) rfl ⟨Sub.rfl,trivial⟩)) ?_
 refine Al_p Pu_a ?_
 refine Al_mr ?_
 refine Al_nil ?_
 exact Aw_ret (Sub.bool (by simp))
theorem next1_a (c:SRow) (hp:T.Ahead c.parents) (a:Nat) (ha:a<c.parents.length) (fr:Int) (ow:Nat) (ho:ow<64) (s:Int):ACall Tryz.prog 217 ([iv s]++[.fp [iv fr],.fp c.row,.fp [iv a],.fp [iv ow]]) (bv (decide (s=fr)||decide (T.side c.parents a s&&&ow=0))):=by
 refine AC_1 Tryz.func217 Tryz.ntmps217 Tryz.results217 λhok M0 w0 hnl=>?_
 have hp6:=hp.le
 have hsl:T.side c.parents a s<64:=by
  have h1:=T.sideK_lt c.parents a s c.parents.length
  have h2:2^c.parents.length≤2^6:=Nat.pow_le_pow_right (by omega) hp6
  unfold T.side;omega
 refine Aw_sr ?_
 refine Al_mr ?_
 refine Al_nil (Aw_seq ?_)
 refine Aw_dr 13 ?_
 refine Dr_ml ?_
 refine Dr_p (Pu_l1 Tryz.isAgg3) ?_
 refine Dr_p Pu_cp ?_
 refine Dr_ml ?_
 refine Dr_s (St_g [] trivial (λ_=>Pu_fd 2 Tryz.underlying30 Tryz.sizeOf22)) ?_
 refine Dr_s (St_g [11] ⟨⟨_,rfl⟩,trivial⟩ (λ_=>Pu_l1 Tryz.isAgg22)) ?_
 refine Dr_s (St_g [] trivial (λ_=>Pu_l1 Tryz.isAgg3)) ?_
 refine Dr_s (St_g [] trivial (λ_=>Pu_mvl)) ?_
 refine Dr_s (St_g [12,13,14] ⟨⟨_,rfl⟩,⟨_,rfl⟩,⟨_,rfl⟩,trivial⟩ (λ_=>Pu_call (side_a c.parents hp a s ha) rfl ⟨Sub.rfl,Sub.rfl,Sub.rfl,trivial⟩)) ?_
 refine Dr_s (St_g [] trivial (λ_=>Pu_l1 Tryz.isAgg3)) ?_
 refine Dr_s (St_gd [15,16] rfl rfl rfl rfl ⟨⟨_,rfl⟩,⟨_,rfl⟩,trivial⟩ (λhg17=>by exact Pu_int_and (r:=((T.side c.parents a s&&&ow:Nat):Int)) rfl rfl rfl (T.and64 _ (List.mem_range.2 hsl) _ (List.mem_range.2 ho)) (λ_=>by have:=Nat.and_lt_two_pow (n:=6) (T.side c.parents a s) (y:=ow) (by omega);show A.inI _;simp only[A.inI];omega))) ?_
 refine Dr_s (St_g [17] ⟨⟨_,rfl⟩,trivial⟩ (λ_=>Pu_cp)) ?_
 refine Dr_p Pu_o ?_
 refine Dr_nil ?_
 refine Al_mr ?_
 refine Al_nil ?_
 exact Aw_ret (Sub.bool (by congr 1;simp))
theorem next_a (c:SRow) (hp:T.Ahead c.parents) (hc:T.ok c=true) (a:Nat) (ha:a<c.parents.length) (fr:Int) (key:ByteArray):ACall Tryz.prog 145 [.row c.row,iv a,iv fr,tv key] (.sl 1 (T.outR (T.next c a fr key))):=by
 refine AC_1 Tryz.func145 Tryz.ntmps145 Tryz.results145 λhok M0 w0 hnl=>?_
 have hp6:=hp.le
 have hnl2:=List.length_filter_le (T.nearB c.parents a) (List.range c.parents.length)
 rw[List.length_range]at hnl2
 have hdel:=delfuncI_g ((T.nearL c.parents a).map λx=>((x:Nat):Int)) 217 [.fp [iv fr],.fp c.row,.fp [iv a],.fp [iv (T.owners c key)]] _ (λs=>next1_a c hp a ha fr (T.owners c key) (T.owners_lt c key) s) (by rw[List.length_map];unfold T.nearL;omega)
 refine Aw_sr ?_
 refine Al_p Pu_bN ?_
 refine Al_p (Pu_box1 rfl rfl (by nofun) (by nofun)) ?_
 refine Al_p (Pu_box1 rfl rfl (by nofun) (by nofun)) ?_
 refine Al_mr ?_
 refine Al_nil (Aw_seq (Aw_sr ?_))
 refine Al_p (Pu_lN Tryz.isAgg30 Tryz.sizeOf30) ?_
 refine Al_p (Pu_call (routeC_a c hp) rfl ⟨Sub.rfl,trivial⟩) ?_
 refine Al_p Pu_n ?_
 refine Al_nil ?_
 refine Aw_condF rfl ((by rw[hc];rfl)) ?_
 refine Aw_skip (Aw_sr ?_)
 refine Al_p (Pu_lN Tryz.isAgg30 Tryz.sizeOf30) ?_
 refine Al_ml ?_
 refine Al_p (Pu_call (owners_a c key) rfl ⟨Sub.rfl,Sub.rfl,trivial⟩) ?_
 refine Al_al Tryz.zeroValue3 λg9=>?_
 refine Al_s1 Tryz.isAgg3 Tryz.sizeOf3 ?_
 refine Al_nil (Aw_seq ?_)
 refine Aw_frzb hnl (k:=9) (cs:=[iv (T.owners c key)]) [9] rfl ⟨rfl,trivial⟩ ?_
 refine Aw_region ?_
 refine Al_p (Pu_makeFunc (caps:=[_,_,_,_]) rfl ⟨Sub.rfl,Sub.rfl,Sub.rfl,Sub.rfl,trivial⟩) ?_
 refine Al_mr ?_
 refine Al_ns ?_
 refine Al_p (Pu_fd 2 Tryz.underlying30 Tryz.sizeOf22) ?_
 refine Al_p (Pu_l1 Tryz.isAgg22) ?_
 refine Al_p (Pu_l1 Tryz.isAgg3) ?_
 refine Al_gcall [] [(1001,21)] (nearL_g c.parents hp a ha) rfl rfl rfl (by decide) (by kernel_rfl) trivial rfl ⟨Sub.rfl,Sub.rfl,trivial⟩ (λg21=>?_)
 refine Al_ml ?_
 refine Al_gcall [(1001,21,g21)] [(1002,23)] (hdel) rfl rfl rfl (by decide) (by kernel_rfl) ⟨rfl,trivial⟩ rfl ⟨Sub.rfl,Sub.rfl,trivial⟩ (λg23=>?_)
 refine Al_mr ?_
 refine Al_nil ?_
 refine Aw_frz hnl (k:=23) [8] rfl ⟨rfl,trivial⟩ ?_
 exact Aw_ret (Sub.d (by rw[List.filter_map,T.outI];rfl))
end Go.Proofs.YtdnijgdmohinlaaGreat
end
section
set_option maxRecDepth 100000
namespace Go.Proofs.YtdnijgdmohinlaaGreat
open Go Go.RowKit A R
instance:Inhabited PS:=⟨⟨0,[],0,0,[],[]⟩⟩
structure PG where
 c:SRow
 S:List PS
 Y:List VS
 cs:Nat→Int×List Dep
 bg:Nat→List ByteArray×List Int
 ps:List PinT
 h:List Event
namespace PG
abbrev Ans:=Int×List Ver
def n (g:PG):Nat:=g.c.parents.length
def cli (g:PG) (i:Int):Int×List Dep:=g.cs i.toNat
def site (g:PG) (i:Int):PS:=g.S.getD i.toNat default
def setC (g:PG) (i:Int) (c:Int×List Dep):PG:={g with cs:=λj=>if j=i.toNat then c else g.cs j}
def setS (g:PG) (i:Int) (p:PS):PG:={g with S:=g.S.set i.toNat p}
def updY (g:PG) (a b:Int) (f:VS→VS):PG:={g with Y:=N.vUpd g.n g.Y a b f}
def ses (g:PG) (a b:Int):Option VS:=N.vAt g.n g.Y a b
def opn (g:PG) (a b:Int):Nat:=match g.ses a b with|some s=>s.op.length|none=>0
def fly (g:PG) (a b:Int):Nat:=match g.ses a b with|some s=>s.way.length|none=>0
def idle (g:PG):Bool:=g.Y.all (·.op.isEmpty)
def full (g:PG) (fr:Int) (to:List Nat):Bool:=to.any λs=>decide (8≤g.opn fr s)
def send (g:PG) (fr:Int) (to:List Nat) (v:Ver):PG:=to.foldl (λ(g:PG) (s:Nat)=>g.updY fr s (·.send v)) g
def ev (g:PG) (e:Event):PG:={g with h:=g.h++[e]}
def nx (g:PG) (a fr:Int) (key:ByteArray):List Nat:=T.next g.c a.toNat fr key
def isS (g:PG) (s:Int):Bool:=decide (0≤s)&&decide (s<g.n)
def putW (o:SOp):ByteArray:=if o.kind=2 then⟨#[]⟩else o.value
def putE (g:PG) (o:SOp):Int :=
 if findR (g.site (g.cli o.client).1).rs o.key<0 then 14
 else if g.full (g.cli o.client).1 (g.nx (g.cli o.client).1 (-1) o.key)then 15
 else(g.site (g.cli o.client).1).writeE o.key (putW o) (decide (o.kind=2)) (g.cli o.client).2
def putV (g:PG) (o:SOp):Ver:=(g.site (g.cli o.client).1).writeV o.key (putW o) (decide (o.kind=2)) (g.cli o.client).2
def putS (g:PG) (o:SOp):PG :=
 ((
  ((g.setS (g.cli o.client).1 ((g.site (g.cli o.client).1).write o.key (putW o) (decide (o.kind=2)) (g.cli o.client).2)).send (g.cli o.client).1 (g.nx (g.cli o.client).1 (-1) o.key) (g.putV o)).ev
  ⟨1,o.client,(g.putV o).key,(g.putV o).n,(g.putV o).s,(g.cli o.client).2⟩).setC o.client (N.saw1 (g.cli o.client) (g.putV o)))
def put (g:PG) (o:SOp):PG×Ans:=if g.putE o=0 then(g.putS o,0,[g.putV o])else(g,g.putE o,[])
def getV (g:PG) (o:SOp):Option Ver:=(g.site (g.cli o.client).1).readV o.key
def getS (g:PG) (o:SOp):PG:=g.ev ⟨2,o.client,o.key,((g.getV o).getD default).n,((g.getV o).getD default).s,D.mergeL [(g.cli o.client).2,((g.getV o).getD default).past]⟩
def get (g:PG) (o:SOp):PG×Ans :=
 if (g.site (g.cli o.client).1).readE o.key=0 then(match g.getV o with
  | some v=>((g.getS o).setC o.client (N.saw1 (g.cli o.client) v),0,[v])
  | none=>(g.getS o,0,[]))
 else(g,(g.site (g.cli o.client).1).readE o.key,[])
def pickT (g:PG) (o:SOp) (v:Ver):List Nat:=g.nx o.to' o.site v.key
def pick (g:PG) (o:SOp):PG×Ans:=match g.ses o.site o.to' with
 | none=>(g,12,[])
 | some s =>
  if s.inW o.at'=false then(g,12,[])
  else if N.hw3 o.how=1∨N.hw3 o.how=2∨s.would o.at'=false then(g.updY o.site o.to' (·.pick o.at' o.how),0,[])
  else if (0≤findR (g.site o.to').rs (s.at' o.at').2.key∧24≤(g.site o.to').wait.length)∨g.full o.to' (g.pickT o (s.at' o.at').2)=true then(g,15,[])
  else(((g.updY o.site o.to' (·.pick o.at' o.how)).setS o.to' ((g.site o.to').arrive (s.at' o.at').2)).send o.to' (g.pickT o (s.at' o.at').2) (s.at' o.at').2,0,[(s.at' o.at').2])
def step (g:PG) (o:SOp):PG×Ans :=
 if g.isS o.site then(match (g.site o.site).stepV with
  | some v=>(g.setS o.site (g.site o.site).step,0,[v])
  | none=>(g,12,[]))
 else(g,1,[])
end PG
end Go.Proofs.YtdnijgdmohinlaaGreat
end
section
set_option maxRecDepth 100000
namespace Go.Proofs.YtdnijgdmohinlaaGreat
open Go Go.RowKit A R
theorem gtold_a (n:Nat) (i:Int):ACall Tryz.prog 39 [iv i] (.row [iv i,.sl n []]):=by
 refine AC_G Tryz.func39 Tryz.ntmps39 (Reads.cN Tryz.results39 Tryz.isAgg37 Tryz.sizeOf37) λhok M0 w0 hnl=>?_
 refine Aw_sr ?_
 refine Al_al Tryz.zeroValue37 λg2=>?_
 refine Al_ns ?_
 refine Al_ml ?_
 refine Al_p (Pu_build (aa:=[(0,_)]) rfl Tryz.underlying37 Tryz.zeroValue37 places37 (by kernel_rfl) ⟨rfl,rfl,rfl,trivial⟩ rfl) ?_
 refine Al_sN Tryz.isAgg37 Tryz.sizeOf37 ?_
 refine Al_nil ?_
 refine Aw_boxle (k:=2) [.d (iv i),.d (.sl n [])] rfl ⟨Sub.rfl,Sub.nil,trivial⟩ ?_
 exact Aw_ret (⟨_,_,_,_,_,[_,_],rfl,rfl,rfl,rfl,rfl⟩)
end Go.Proofs.YtdnijgdmohinlaaGreat
end
section
set_option maxRecDepth 100000
namespace Go.Proofs.YtdnijgdmohinlaaGreat
open Go Go.RowKit A R
open A.RowT
structure FR where
 sp:List Value
 np:List Value
 b:Nat
 cnt:Nat
 sv:Value
structure GT where
 Fs:Nat→Prop
 Fn:Nat→Prop
 hv:Value
abbrev keysA (l:List ByteArray):AV:=.sl 1 (l.map λs=>[tv s])
abbrev intA (l:List Int):AV:=.sl 1 (l.map λx=>[iv x])
abbrev siteX (sp:List Value) (S:List PS):List (Value×PS):=sp.zip S
def gcellsN (nt:SV) (sv:Value) (g:PG) (hv:Value):List SV :=
 [.d (rngA g.c.ranges),.d (intA g.c.owners),.d (intA g.c.parents),.d (.v sv),nt,
  .d (iv (g.cs 0).1),.d (pastA (g.cs 0).2),.d (iv (g.cs 1).1),.d (pastA (g.cs 1).2),.d (iv (g.cs 2).1),.d (pastA (g.cs 2).2),.d (iv (g.cs 3).1),.d (pastA (g.cs 3).2),
  .d (keysA (g.bg 0).1),.d (intA (g.bg 0).2),.d (keysA (g.bg 1).1),.d (intA (g.bg 1).2),.d (keysA (g.bg 2).1),.d (intA (g.bg 2).2),.d (keysA (g.bg 3).1),.d (intA (g.bg 3).2),
  .d (.sl 2 (g.ps.map cliA)),.d (.v hv)]
abbrev gcells (fr:FR) (g:PG) (hv:Value):List SV:=gcellsN (.bx 1002 0 0) fr.sv g hv
abbrev histX (hv:Value) (h:List Event):AO:=.op (rowX 107 6 hv (h.map Event.row))
abbrev sitesX (sv:Value) (sp:List Value):AO:=.op (rowX 92 1 sv (sp.map λv=>[.v v]))
abbrev GE (fr:FR) (g:PG) (t:GT):Obs:=[(1001,.box 91 (gcells fr g t.hv)),(1002,.box 149 [.ow 1003 0]),(1003,mapP g.n fr.b fr.cnt (N.vX fr.np g.Y)),(1004,.op (starP SES t.Fn (N.vX fr.np g.Y))),(1005,.op (starP ST t.Fs (siteX fr.sp g.S))),(1006,histX t.hv g.h),(1007,sitesX fr.sv fr.sp)]
theorem GE_in (fr:FR) (g:PG) (t:GT):ObsIn [1001,1002,1003,1004,1005,1006,1007] (GE fr g t):=⟨rfl,rfl,λ_ _ _ _ _ h=>h,λ_ _ _ _ _ h=>h,λ_ _ _ _ _ h=>h,λ_ _ _ _ _ h=>h,λ_ _ _ _ _ h=>h,trivial⟩
structure FR.Ok (fr:FR) (g:PG):Prop where
 sl:fr.sp.length=g.S.length
 nl:fr.np.length=g.Y.length
 np:∀v∈fr.np,∃a,v=.pointer (some a)
 sp:∀v∈fr.sp,∃a,v=.pointer (some a)
 s6:g.S.length≤6
theorem gc_cs (fr:FR) (g:PG) (hv:Value) {k:Nat}(h:k<4):((gcells fr g hv).drop (0+5+k*2)).take 2=(cliA (g.cs k)).map .d:=by
 match k,h with
 | 0,_=>rfl
 | 1,_=>rfl
 | 2,_=>rfl
 | 3,_=>rfl
theorem gc_c0 (fr:FR) (g:PG) (hv:Value) {k:Nat}(h:k<4):(gcells fr g hv)[0+5+k*2+0]?=some (.d (iv (g.cs k).1)):=by
 match k,h with
 | 0,_=>rfl
 | 1,_=>rfl
 | 2,_=>rfl
 | 3,_=>rfl
theorem gcN_setC (nt:SV) (sv:Value) (g:PG) (hv:Value) {i:Int}(c:Int×List Dep) (h:i.toNat<4):(gcellsN nt sv g hv).take (0+5+i.toNat*2)++(cliA c).map .d++(gcellsN nt sv g hv).drop (0+5+i.toNat*2+2)=gcellsN nt sv (g.setC i c) hv:=by
 unfold PG.setC
 generalize i.toNat=k at h
 match k,h with
 | 0,_=>rfl
 | 1,_=>rfl
 | 2,_=>rfl
 | 3,_=>rfl
theorem gc_setC (fr:FR) (g:PG) (hv:Value) {i:Int}(c:Int×List Dep) (h:i.toNat<4):(gcells fr g hv).take (0+5+i.toNat*2)++(cliA c).map .d++(gcells fr g hv).drop (0+5+i.toNat*2+2)=gcells fr (g.setC i c) hv:=gcN_setC _ _ _ _ _ h
section
variable {P:Program}{N:Nat}{M0:Nat→Prop}{w0:Base}{ops:Array Oper}{Q:Exit→ASt→Prop}{o:Oper}{l:List Oper}{st:ASt}
theorem A.Al_storeC {t T:TypeId}{x y:Operand}{k g off n:Nat}{cs:List SV}{r:List AV}(cs':List SV) (he:cs.take off++r.map .d++cs.drop (off+n)=cs') (ho:o.op=.store t x y) (ht:∀w,(isAgg t).run P w=.ok true w) (hz:∀w,(sizeOf t).run P w=.ok n w) (hx:st.ev x=.bx k g off) (hob:st.ob k=some (g,.box T cs)) (hy:st.ev y=.d (.row r)) (hn:r.length=n) (hoff:off+n≤cs.length)
  (h:Al P N M0 w0 ops Q l (st.put k g (.box T cs'))) (hg:o.guard=none:=by rfl) (hd:o.dst=none:=by rfl) (hc:conB o=true:=by kernel_rfl):Al P N M0 w0 ops Q (o::l) st:=by
 subst he
 exact Al_storeN ho hg hd hc ht hz hx hob hy hn hoff h
end
abbrev ansA (a:Int×List Ver):AV:=.row [iv a.1,versA a.2]
theorem siteX_len {sp:List Value}{S:List PS}(h:sp.length=S.length):(siteX sp S).length=S.length:=by simp[siteX,h]
theorem siteX_get {sp:List Value}{S:List PS}(h:sp.length=S.length) {i:Nat}(hi:i<S.length):(siteX sp S)[i]?=some (sp.getD i default,S.getD i default):=by
 rw[List.getElem?_eq_getElem (by rw[siteX_len h];exact hi)]
 simp[siteX,hi,show i<sp.length from by omega]
theorem siteX_set {sp:List Value}{S:List PS}{i:Nat}(h:sp.length=S.length) (hi:i<S.length) (p:PS):(siteX sp S).set i (sp.getD i default,p)=siteX sp (S.set i p):=by
 refine List.ext_getElem (by simp[siteX]) λj h1 h2=>?_
 simp only[siteX,List.getElem_set,List.getElem_zip]
 split
 ·subst j;simp[show i<sp.length from by omega]
 ·rfl
theorem place_at {fr:FR}{g:PG}(h:fr.Ok g) {i:Nat}(hi:i<g.S.length):∃a,fr.sp.getD i default=.pointer (some a):=by
 have:i<fr.sp.length:=by rw[h.sl];exact hi
 rw[show fr.sp.getD i default=fr.sp[i]from by simp[this]]
 exact h.sp _ (List.getElem_mem this)
theorem sp_flat:∀sp:List Value,(sp.map λv=>[AV.v v]).flatten=sp.map AV.v
 | []=>rfl
 | x::r=>by rw[List.map_cons,List.flatten_cons,sp_flat r];rfl
theorem sp_at {sp:List Value}{i:Nat}(h:i<sp.length):((sp.map λv=>[AV.v v]).flatten)[i*1]?=some (.v (sp.getD i default)):=by
 rw[sp_flat]
 simp[h]
namespace PG
structure Ok (g:PG) (m:Nat):Prop where
 par:T.Ahead g.c.parents
 row:T.ok g.c=true
 sl:g.S.length=g.n
 so:∀p∈g.S,p.Ok m
 yl:g.Y.length=N.upto g.n g.n 0
 yf:∀s∈g.Y,s.Fit m
 cs:∀k, -1≤(g.cs k).1∧(g.cs k).1<g.n∧(g.cs k).2.length≤400
 hl:g.h.length≤m
theorem Ok.n6 {g:PG}{m:Nat}(h:g.Ok m):1≤g.n∧g.n≤6:=⟨h.par.pos,h.par.le⟩
theorem Ok.site {g:PG}{m:Nat}(h:g.Ok m) {i:Int}(hi:i.toNat<g.n):(g.site i).Ok m:=by
 have:i.toNat<g.S.length:=by rw[h.sl];exact hi
 unfold PG.site
 rw[show g.S.getD i.toNat default=g.S[i.toNat]from by simp[this]]
 exact h.so _ (List.getElem_mem this)
end PG
end Go.Proofs.YtdnijgdmohinlaaGreat
end
section
set_option maxRecDepth 100000
namespace Go.Proofs.YtdnijgdmohinlaaGreat
open Go Go.RowKit A R
open A.RowT
theorem gfound_a (l:List Ver):ACall Tryz.prog 153 [versA l] (ansA (0,l)):=by
 refine AC_G Tryz.func153 Tryz.ntmps153 (Reads.cN Tryz.results153 Tryz.isAgg37 Tryz.sizeOf37) λhok M0 w0 hnl=>?_
 refine Aw_sr ?_
 refine Al_al Tryz.zeroValue37 λg2=>?_
 refine Al_ns ?_
 refine Al_ml ?_
 refine Al_p (Pu_build (aa:=[(1,_)]) rfl Tryz.underlying37 Tryz.zeroValue37 places37 (by kernel_rfl) ⟨rfl,rfl,rfl,trivial⟩ rfl) ?_
 refine Al_sN Tryz.isAgg37 Tryz.sizeOf37 ?_
 refine Al_nil ?_
 exact Aw_ret (⟨_,_,_,_,_,[_,_],rfl,rfl,rfl,rfl,rfl⟩)
theorem site_elem:ElemT Tryz.prog 85 92 1 8:=⟨Tryz.underlying85,by
 have h:(Tryz.prog.info? 92).map (λi=>(i.zero,i.size,i.bytes))=some (some (.pointer none),1,8):=by kernel_rfl
 obtain⟨i,hi,h1,h2,h3⟩:=info_parts h
 exact⟨i,_,hi,h1,h2,h3,rfl⟩⟩
theorem A.obE {g:Nat}{o o':AO}(h:o=o'):some (g,o)=some (g,o'):=by rw[h]
def atV (fr:FR) (g:PG) (s:Int):Value:=if g.isS s then fr.sp.getD s.toNat default else .pointer none
theorem gat_g (fr:FR) (g:PG) (t:GT) (s:Int) (hf:fr.Ok g) (hn:g.S.length=g.n):GCall Tryz.prog 42 [.bx 1001 0 0,.d (iv s)] (GE fr g t) (some (GE fr g t,.d (.v (atV fr g s)))):=by
 refine GC_L Tryz.func42 Tryz.ntmps42 (ReadsS.r1 Tryz.results42) λhok hokB M0 w0 hl=>?_
 have hsl:=hf.sl
 have h6:=hf.s6
 refine Aw_sr ?_
 refine Al_mr ?_
 refine Al_nil (Aw_seq (Aw_sr ?_))
 refine Al_ml ?_
 refine Al_p (Pu_eqnilb Tryz.underlying32 rfl rfl) ?_
 refine Al_ml ?_
 refine Al_s (St_g [] trivial (λ_=>Pu_mvl)) ?_
 refine Al_s (St_g [8] ⟨⟨_,rfl⟩,trivial⟩ (λ_=>Pu_cp)) ?_
 refine Al_p Pu_o ?_
 refine Al_ml ?_
 refine Al_s (St_g [] trivial (λ_=>Pu_mvl)) ?_
 refine Al_s (St_g [] trivial (λ_=>Pu_mvl)) ?_
 refine Al_s (St_g [13] ⟨⟨_,rfl⟩,trivial⟩ (λ_=>Pu_nb)) ?_
 refine Al_s (St_g [14] ⟨⟨_,rfl⟩,trivial⟩ (λ_=>Pu_fb 3 Tryz.underlying91 Tryz.sizeOf85)) ?_
 refine Al_s (St_g [15] ⟨⟨_,rfl⟩,trivial⟩ (λ_=>Pu_lb Tryz.isAgg85)) ?_
 refine Al_s (St_gd [16] rfl rfl rfl rfl ⟨⟨_,rfl⟩,trivial⟩ (λhg17=>by exact Pu_lenX (k:=1007) rfl Tryz.underlying85 rfl rfl (by rw[List.length_map];simp only[A.maxI];omega))) ?_
 refine Al_s (St_g [12,17] ⟨⟨_,rfl⟩,⟨_,rfl⟩,trivial⟩ (λ_=>Pu_cp)) ?_
 refine Al_p Pu_o ?_
 refine Al_nil ?_
 refine Aw_cond rfl (λh19=>?_) (λh19=>?_)
 ·skip
  have e1:atV fr g s=.pointer none:=by
   unfold atV PG.isS
   have h0:(decide (s<0)||decide (s≥((fr.sp.map λv=>[AV.v v]).length:Int)))=true:=h19
   simp only[Bool.or_eq_true,decide_eq_true_eq,List.length_map]at h0
   rw[if_neg (by simp only[Bool.and_eq_true,decide_eq_true_eq];omega)]
  refine Aw_sr ?_
  refine Al_mr ?_
  refine Al_nil ?_
  exact Aw_ret (⟨_,_,[],rfl,Sub.d (by rw[e1]),⟨rfl,rfl,rfl,rfl,rfl,rfl,rfl,trivial⟩,rfl⟩)
 ·skip
  have h0:(decide (s<0)||decide (s≥((fr.sp.map λv=>[AV.v v]).length:Int)))=false:=h19
  simp only[Bool.or_eq_false_iff,decide_eq_false_iff_not,List.length_map]at h0
  have hs0:s=(s.toNat:Int):=by omega
  have hlt:s.toNat<fr.sp.length:=by omega
  have e1:atV fr g s=fr.sp.getD s.toNat default:=by
   unfold atV PG.isS
   rw[if_pos (by simp only[Bool.and_eq_true,decide_eq_true_eq];omega)]
  refine Aw_skip (Aw_sr ?_)
  refine Al_ml ?_
  refine Al_p Pu_nb ?_
  refine Al_p (Pu_fb 3 Tryz.underlying91 Tryz.sizeOf85) ?_
  refine Al_p (Pu_lb Tryz.isAgg85) ?_
  refine Al_ml ?_
  refine Al_p (Pu_indexX (j:=s.toNat) (k:=1007) rfl Tryz.underlying85 Tryz.sizeOf92 rfl rfl rfl hs0 (by rw[List.length_map];exact hlt)) ?_
  refine Al_p (Pu_loadX1 (k:=1007) rfl Tryz.isAgg92 rfl rfl (sp_at hlt)) ?_
  refine Al_mr ?_
  refine Al_nil ?_
  exact Aw_ret (⟨_,_,[],rfl,Sub.d (by rw[e1]),⟨rfl,rfl,rfl,rfl,rfl,rfl,rfl,trivial⟩,rfl⟩)
theorem gevent_g (fr:FR) (g:PG) (t:GT) (e:Event) (hl:g.h.length≤100000):GCallE Tryz.prog 151 [.bx 1001 0 0,.d (iv e.kind),.d (iv e.client),.d (tv e.key),.d (.row [iv e.n,iv e.s]),.d (pastA e.seen)] (GE fr g t) (λv:Value=>some (GE fr (g.ev e) {t with hv:=v},.d (.tup []))):=by
 refine GC_EL Tryz.func151 Tryz.ntmps151 (ReadsS.r0 Tryz.results151) λhok hokB M0 w0 hl=>?_
 refine Aw_sr ?_
 refine Al_p Pu_bN ?_
 refine Al_nil ?_
 refine Aw_drawn (by kernel_rfl) ?_
 refine Ad_t 0 rfl (PuI_move (.inl rfl) (by conv=>lhs;whnf)) ?_
 refine Ad_drawP 1 12 4 (by kernel_rfl) (by decide) rfl (by rfl) (by rfl) ?_
 refine Dr_ml ?_
 refine Dr_p Pu_nb ?_
 refine Dr_p (Pu_fb 22 Tryz.underlying91 Tryz.sizeOf61) ?_
 refine Dr_p (Pu_lb Tryz.isAgg61) ?_
 refine Dr_ml ?_
 refine Dr_ml ?_
 refine Dr_ml ?_
 refine Dr_p (Pu_lN Tryz.isAgg47 Tryz.sizeOf47) ?_
 refine Dr_ml ?_
 refine Dr_p (Pu_build (aa:=[(0,_),(1,_),(2,_),(3,_),(4,_)]) rfl Tryz.underlying107 Tryz.zeroValue107 places107 (by kernel_rfl) ⟨rfl,rfl,rfl,rfl,rfl,rfl,rfl,rfl,rfl,rfl,rfl,rfl,rfl,rfl,rfl,trivial⟩ rfl) ?_
 refine Dr_p (Pu_slice1 rfl Tryz.underlying61 Tryz.sizeOf107 Tryz.zeroValue107 rfl (by decide) (by decide) (by kernel_rfl) rfl rfl rfl) ?_
 refine Dr_nil ?_
 refine Ad_o 12 ?_
 refine Al_appendX (k:=1006) rfl rfl rfl (by decide) (by kernel_rfl) event_elem (by decide) Tryz.sizeOf107 rfl rfl rfl (by simp;omega) (by decide) (λv=>?_)
 refine Al_nil ?_
 refine Ad_t 13 rfl PuI_nb ?_
 refine Ad_t 14 rfl (PuI_fb 22 Tryz.underlying91 Tryz.sizeOf61) ?_
 refine Ad_o 15 ?_
 refine Al_s1 Tryz.isAgg61 Tryz.sizeOf61 ?_
 refine Al_nil ?_
 refine Ad_d ?_
 exact⟨v,_,_,[],rfl,rfl,⟨rfl,rfl,rfl,rfl,rfl,obeqX (by simp[A.cellsA,PG.ev,Event.row]),rfl,trivial⟩,rfl⟩
namespace PG
theorem send_Y (g:PG) (fr:Int) (to:List Nat) (v:Ver):g.send fr to v={g with Y:=(g.send fr to v).Y}:=by
 unfold send
 induction to generalizing g with
 | nil=>rfl
 | cons s r ih=>rw[List.foldl_cons,ih];rfl
theorem send_succ (g:PG) (fr:Int) (to:List Nat) (v:Ver) {j:Nat}(hj:j<to.length):g.send fr (to.take (j+1)) v=(g.send fr (to.take j) v).updY fr (to.getD j default:Nat) (·.send v):=by
 unfold send
 rw[List.take_succ_eq_append_getElem hj,List.foldl_append]
 simp[hj]
theorem send_n (g:PG) (fr:Int) (to:List Nat) (v:Ver):(g.send fr to v).n=g.n:=by rw[send_Y];rfl
theorem send_h (g:PG) (fr:Int) (to:List Nat) (v:Ver):(g.send fr to v).h=g.h:=by rw[send_Y]
theorem send_S (g:PG) (fr:Int) (to:List Nat) (v:Ver):(g.send fr to v).S=g.S:=by rw[send_Y]
theorem send_len (g:PG) (fr:Int) (to:List Nat) (v:Ver):(g.send fr to v).Y.length=g.Y.length:=by
 unfold send
 induction to generalizing g with
 | nil=>rfl
 | cons s r ih=>rw[List.foldl_cons,ih];exact N.vUpd_len ..
theorem send_fit {v:Ver}(hv:J.checkB v=true) (fr:Int):∀(to:List Nat) (g:PG) (m:Nat),(∀s∈g.Y,s.Fit m)→∀s∈(g.send fr to v).Y,s.Fit (m+to.length)
 | [],g,m,h=>h
 | x::r,g,m,h=>by
  have:=send_fit hv fr r (g.updY fr x (·.send v)) (m+1) (N.vUpd_fit h (by omega) λs hs=>(h s (N.vAt_mem hs)).send hv)
  rw[List.length_cons,show m+(r.length+1)=m+1+r.length from by omega]
  exact this
end PG
theorem mapP_v {n b cnt:Nat}{np:List Value}{Y:List VS}(hl:np.length=Y.length) (x y:Int) (f:VS→VS):mapP n b cnt (N.vX np (N.vUpd n Y x y f))=mapP n b cnt (N.vX np Y):=by
 have e:N.netM n (N.vX np (N.vUpd n Y x y f))=N.netM n (N.vX np Y):=by
  funext c
  unfold N.netM
  cases N.idx n c.1 c.2 with
  | none=>rfl
  | some i =>
   simp only[Option.bind_some,←List.getElem?_map]
   rw[List.map_fst_zip (by simp[N.vUpd_len,hl]),List.map_fst_zip (by simp[hl])]
 show AO.op (mapO _ _ _ _ _ _)=_
 rw[e]
theorem mapP_send {n b cnt:Nat}{np:List Value}{g:PG}(hl:np.length=g.Y.length) (hn:g.n=n) (fr:Int) (v:Ver):∀(to:List Nat),mapP n b cnt (N.vX np (g.send fr to v).Y)=mapP n b cnt (N.vX np g.Y):=by
 intro to
 unfold PG.send
 induction to generalizing g with
 | nil=>rfl
 | cons s r ih =>
  rw[List.foldl_cons,ih (g:=g.updY fr s (·.send v)) (by rw[hl];exact(N.vUpd_len ..).symm) hn]
  show mapP n b cnt (N.vX np (N.vUpd g.n g.Y fr s _))=_
  rw[hn]
  exact mapP_v hl _ _ _
theorem gc_send (fr:FR) (g:PG) (hv:Value) (a:Int) (to:List Nat) (v:Ver):gcells fr (g.send a to v) hv=gcells fr g hv:=by rw[PG.send_Y];rfl
set_option maxHeartbeats 1000000 in
theorem gsend_g (fr:FR) (g:PG) (t:GT) (a:Int) (to:List Nat) (v:Ver) (hv:J.checkB v=true) (hf:fr.Ok g) {m:Nat}(hY:∀s∈g.Y,s.Fit m) (hm:m+to.length≤1000):GCallE Tryz.prog 150 [.bx 1001 0 0,.d (iv a),.d (.sl 1 (T.outR to)),.d (.row v.row)] (GE fr g t) (λF:Nat→Prop=>some (GE fr (g.send a to v) {t with Fn:=F},.d (.tup []))):=by
 refine GC_EL Tryz.func150 Tryz.ntmps150 (ReadsS.r0 Tryz.results150) λhok hokB M0 w0 hl=>?_
 have hnl:=hf.nl
 refine Aw_sr ?_
 refine Al_p Pu_bN ?_
 refine Al_ns ?_
 refine Al_ml ?_
 refine Al_p (Pu_ln Tryz.underlying22) ?_
 refine Al_ml ?_
 refine Al_nil (Aw_block ?_)
 refine Aw_loopk (ι:=Nat×(Nat→Prop)) [0,1,7,10,11] [1001,1002,1005,1006,1007] (λ(j,F)=>[(12,.d (iv j))]) (λ(j,F)=>[(1003,0,mapP g.n fr.b fr.cnt (N.vX fr.np g.Y)),(1004,0,.op (starP SES F (N.vX fr.np (g.send a (to.take j) v).Y)))]) (λ(j,F)=>j≤to.length) (λ(j,F)=>to.length - j) ((0,t.Fn)) (Nat.zero_le _) ⟨Sub.rfl,trivial⟩ ⟨rfl,rfl,trivial⟩ ?_
 rintro⟨j,F⟩ hk0
 refine Aw_sr ?_
 refine Al_p Pu_cp ?_
 refine Al_nil (Aw_seq ?_)
 refine Aw_cond rfl (λh13=>?_) (λh13=>?_)
 ·(try simp only[A.cd_]at h13)
  have hj:j<to.length:=by omega
  have hl2:fr.np.length=(g.send a (to.take j) v).Y.length:=by rw[PG.send_len];exact hnl
  have hY2:∀s∈(g.send a (to.take j) v).Y,s.Fit 1000:=λs hs=>(PG.send_fit hv a (to.take j) g m hY s hs).mono (by rw[List.length_take];omega)
  have hmp:=mapP_send (b:=fr.b) (cnt:=fr.cnt) hnl rfl a v (to.take j)
  have hst:N.upd g.n (N.vX fr.np (g.send a (to.take j) v).Y) a (to.getD j default:Nat) (λs=>N.send s (V.ba (V.verB v)))=N.vX fr.np (g.send a (to.take (j+1)) v).Y:=by
   rw[N.vUpd_ses hl2 (f:=(·.send v)) _ _ λs _=>VS.send_ses s v,PG.send_succ g a to v hj]
   show _=N.vX fr.np (N.vUpd (g.send a (to.take j) v).n _ _ _ _)
   rw[PG.send_n]
  refine Aw_skip ?_
  refine Aw_seq (Aw_block (Aw_sr ?_))
  refine Al_p (Pu_index rfl Tryz.underlying22 Tryz.sizeOf3 rfl rfl (rfl) (T.out_at hj)) ?_
  refine Al_p (Pu_l1 Tryz.isAgg3) ?_
  refine Al_mr ?_
  refine Al_nil ?_
  refine Aw_drawP 8 1 (by kernel_rfl) (by kernel_rfl) rfl ?_
  refine Dr_ml ?_
  refine Dr_p Pu_nb ?_
  refine Dr_p (Pu_fb 4 Tryz.underlying91 Tryz.sizeOf83) ?_
  refine Dr_p (Pu_lb Tryz.isAgg83) ?_
  refine Dr_ml ?_
  refine Dr_ml ?_
  refine Dr_p (Pu_lN Tryz.isAgg50 Tryz.sizeOf50) ?_
  refine Dr_p (Pu_call (verbytes_a v hv) rfl ⟨Sub.rfl,trivial⟩) ?_
  refine Dr_nil ?_
  refine Ad_o 8 ?_
  refine Al_gcallE [(1001,1002,0),(1002,1003,0),(1003,1004,0)] [] (ntSend_g g.n fr.b fr.cnt F (N.vX fr.np (g.send a (to.take j) v).Y) a (to.getD j default:Nat) (V.ba (V.verB v)) (N.vX_places hf.np) (N.vX_fit hY2)) rfl rfl rfl (by decide) (by kernel_rfl) ⟨rfl,by rw[hmp];rfl,rfl,trivial⟩ (λ_=>rfl) rfl rfl ⟨Sub.rfl,Sub.rfl,Sub.rfl,Sub.rfl,trivial⟩ ?_
  rintro F2 g24
  refine Al_nil ?_
  refine Ad_d ?_
  refine Aw_region ?_
  refine Al_p Pu_ad ?_
  refine Al_ml ?_
  refine Al_nil ?_
  exact⟨(j+1,F2),by omega,by simp only[];omega,Le.ov ⟨Sub.num (by omega),trivial⟩ ⟨Sub.rfl,Sub.rfl,Sub.rfl,Sub.rfl,Sub.rfl,trivial⟩ ⟨A.obE (mapP_upd.trans hmp),A.obE (congrArg (λX=>AO.op (starP SES F2 X)) hst),trivial⟩ ⟨rfl,rfl,rfl,rfl,rfl,trivial⟩⟩
 ·(try simp only[A.cd_]at h13)
  have hjj:to.take j=to:=List.take_of_length_le (by omega)
  refine Aw_exit ?_
  exact⟨F,_,_,[],rfl,rfl,⟨by rw[gc_send];rfl,rfl,by rw[PG.send_n,mapP_send hnl rfl a v to];rfl,A.obE (congrArg (λl=>AO.op (starP SES F (N.vX fr.np (g.send a l v).Y))) hjj),by rw[PG.send_S];rfl,by rw[PG.send_h];rfl,rfl,trivial⟩,rfl⟩
end Go.Proofs.YtdnijgdmohinlaaGreat
end
section
set_option maxRecDepth 100000
namespace Go.Proofs.YtdnijgdmohinlaaGreat
open Go Go.RowKit A R
open A.RowT
abbrev GF (fr:FR) (g:PG) (t:GT):Obs:=(1008,.box 32 [.bx 1001 0 0])::GE fr g t
theorem PG.opn_ask (g:PG) {np:List Value}(hl:np.length=g.Y.length) (a b:Int):N.ask g.n (N.vX np g.Y) a b 0 (·.op.length)=g.opn a b:=by
 rw[N.vAsk hl]
 unfold PG.opn PG.ses
 cases N.vAt g.n g.Y a b with
 | none=>rfl
 | some s=>exact s.ses_inj_len.1
theorem gfull1_g (fr:FR) (g:PG) (t:GT) (a s:Int) (hf:fr.Ok g) (hY:∀s∈g.Y,s.Fit 1000):GCall Tryz.prog 225 [.d (iv s),.bx 1008 0 0,.d (.fp [iv a])] (GF fr g t) (some (GF fr g t,.d (bv (decide (8≤g.opn a s))))):=by
 refine GC_L Tryz.func225 Tryz.ntmps225 (ReadsS.r1 Tryz.results225) λhok hokB M0 w0 hl=>?_
 refine Aw_sr ?_
 refine Al_mr ?_
 refine Al_nil (Aw_seq ?_)
 refine Aw_dr 8 ?_
 refine Dr_p (Pu_lb Tryz.isAgg32) ?_
 refine Dr_p Pu_nb ?_
 refine Dr_p (Pu_fb 4 Tryz.underlying91 Tryz.sizeOf83) ?_
 refine Dr_p (Pu_lb Tryz.isAgg83) ?_
 refine Dr_p (Pu_l1 Tryz.isAgg3) ?_
 refine Dr_ml ?_
 refine Dr_p (Pu_gcall [(1001,1002,0),(1002,1003,0),(1003,1004,0)] (ntOpen_g g.n fr.b fr.cnt t.Fn (N.vX fr.np g.Y) a s (N.vX_places hf.np) (N.vX_fit hY)) (NT_in ..) rfl ⟨rfl,rfl,rfl,trivial⟩ rfl ⟨Sub.rfl,Sub.rfl,Sub.rfl,trivial⟩) ?_
 refine Dr_p Pu_cp ?_
 refine Dr_nil ?_
 refine Al_mr ?_
 refine Al_nil ?_
 exact Aw_ret (⟨_,_,[],rfl,Sub.bool (by rw[PG.opn_ask g hf.nl];exact decide_eq_decide.2 (by omega)),⟨rfl,rfl,rfl,rfl,rfl,rfl,rfl,rfl,trivial⟩,rfl⟩)
theorem gfullI_g (fr:FR) (g:PG) (t:GT) (a:Int) (to:List Nat) (hf:fr.Ok g) (hY:∀s∈g.Y,s.Fit 1000) (hlen:to.length≤1000):GCall Tryz.prog 295 [.d (.sl 1 (T.outR to)),.fnb 225 [] [.bx 1008 0 0,.d (.fp [iv a])]] (GF fr g t) (some (GF fr g t,.d (iv (S.find (λs:Nat=>decide (8≤g.opn a s)) to)))):=by
 refine GC_L Tryz.func295 Tryz.ntmps295 (ReadsS.r1 Tryz.results295) λhok hokB M0 w0 hl=>?_
 refine Aw_sr ?_
 refine Al_mr ?_
 refine Al_nil (Aw_seq (Aw_sr ?_))
 refine Al_ml ?_
 refine Al_p (Pu_ln Tryz.underlying22) ?_
 refine Al_ml ?_
 refine Al_nil (Aw_block ?_)
 refine Aw_loopk (ι:=Nat) [0,1,7] [1001,1002,1003,1004,1005,1006,1007,1008] (λk=>[(8,.d (iv k))]) (λk=>[]) (λk=>k≤to.length∧∀j (h:j<to.length),j<k→decide (8≤g.opn a (to[j]:Nat))=false) (λk=>to.length - k) (0) (⟨Nat.zero_le _,by intros;omega⟩) ⟨Sub.rfl,trivial⟩ trivial ?_
 rintro k ⟨hk0,hk2⟩
 refine Aw_sr ?_
 refine Al_p Pu_cp ?_
 refine Al_nil (Aw_seq ?_)
 refine Aw_cond rfl (λh9=>?_) (λh9=>?_)
 ·(try simp only[A.cd_]at h9)
  have hk:k<to.length:=by omega
  have hgd:to.getD k 0=to[k]:=by simp[hk]
  refine Aw_skip (Aw_seq (Aw_block (Aw_sr ?_)))
  refine Al_ml ?_
  refine Al_mr ?_
  refine Al_ns ?_
  refine Al_ml ?_
  refine Al_ml ?_
  refine Al_ml ?_
  refine Al_p (Pu_index rfl Tryz.underlying22 Tryz.sizeOf3 rfl rfl (rfl) (T.out_at hk)) ?_
  refine Al_p (Pu_l1 Tryz.isAgg3) ?_
  refine Al_gcallv [(1008,1008,0),(1001,1001,0),(1002,1002,0),(1003,1003,0),(1004,1004,0),(1005,1005,0),(1006,1006,0),(1007,1007,0)] [] (gfull1_g fr g t a (to.getD k 0:Nat) hf hY) rfl rfl rfl (by decide) (by kernel_rfl) rfl ⟨rfl,rfl,rfl,rfl,rfl,rfl,rfl,rfl,trivial⟩ rfl [.d (iv (to.getD k 0:Nat))] rfl ⟨Sub.rfl,trivial⟩ (λg16=>?_)
  refine Al_nil ?_
  refine Aw_cond rfl (λh16=>?_) (λh16=>?_)
  ·skip
   rw[hgd]at h16
   refine Aw_sr ?_
   refine Al_ml ?_
   refine Al_mr ?_
   refine Al_nil ?_
   exact Aw_ret (⟨_,_,[],rfl,Sub.num (S.find_at (p:=λs:Nat=>decide (8≤g.opn a s)) hk h16 hk2),⟨rfl,rfl,rfl,rfl,rfl,rfl,rfl,rfl,trivial⟩,rfl⟩)
  ·skip
   have h16':decide (8≤g.opn a (to.getD k 0:Nat))=false:=h16
   rw[hgd]at h16'
   refine Aw_skip (Aw_region ?_)
   refine Al_p Pu_ad ?_
   refine Al_ml ?_
   refine Al_nil ?_
   exact⟨k+1,⟨by omega,λj hj hjk=>by
    by_cases e:j=k
    ·subst e;exact h16'
    ·exact hk2 j hj (by omega)⟩,by omega,Le.ov ⟨Sub.num (by omega),trivial⟩ ⟨Sub.rfl,Sub.rfl,Sub.rfl,trivial⟩ trivial ⟨rfl,rfl,rfl,rfl,rfl,rfl,rfl,rfl,trivial⟩⟩
 ·(try simp only[A.cd_]at h9)
  obtain rfl:k=to.length:=by omega
  refine Aw_exit (Aw_sr ?_)
  refine Al_mr ?_
  refine Al_nil ?_
  exact Aw_ret (⟨_,_,[],rfl,Sub.num (S.find_no (p:=λs:Nat=>decide (8≤g.opn a s)) hk2),⟨rfl,rfl,rfl,rfl,rfl,rfl,rfl,rfl,trivial⟩,rfl⟩)
theorem gfullC_g (fr:FR) (g:PG) (t:GT) (a:Int) (to:List Nat) (hf:fr.Ok g) (hY:∀s∈g.Y,s.Fit 1000) (hlen:to.length≤1000):GCall Tryz.prog 224 [.d (.sl 1 (T.outR to)),.fnb 225 [] [.bx 1008 0 0,.d (.fp [iv a])]] (GF fr g t) (some (GF fr g t,.d (bv (g.full a to)))):=by
 refine GC_L Tryz.func224 Tryz.ntmps224 (ReadsS.r1 Tryz.results224) λhok hokB M0 w0 hl=>?_
 refine Aw_sr ?_
 refine Al_mr ?_
 refine Al_ns ?_
 refine Al_ml ?_
 refine Al_ml ?_
 refine Al_gcall [(1008,1008,0),(1001,1001,0),(1002,1002,0),(1003,1003,0),(1004,1004,0),(1005,1005,0),(1006,1006,0),(1007,1007,0)] [] (gfullI_g fr g t a to hf hY hlen) rfl rfl rfl (by decide) (by kernel_rfl) ⟨rfl,rfl,rfl,rfl,rfl,rfl,rfl,rfl,trivial⟩ rfl ⟨Sub.rfl,Sub.rfl,trivial⟩ (λg7=>?_)
 refine Al_p Pu_cp ?_
 refine Al_mr ?_
 refine Al_nil ?_
 exact Aw_ret (⟨_,_,[],rfl,Sub.bool S.find_any,⟨rfl,rfl,rfl,rfl,rfl,rfl,rfl,rfl,trivial⟩,rfl⟩)
theorem gfull_g (fr:FR) (g:PG) (t:GT) (a:Int) (to:List Nat) (hf:fr.Ok g) (hY:∀s∈g.Y,s.Fit 1000) (hlen:to.length≤1000):GCall Tryz.prog 148 [.bx 1001 0 0,.d (iv a),.d (.sl 1 (T.outR to))] (GE fr g t) (some (GE fr g t,.d (bv (g.full a to)))):=by
 refine GC_L Tryz.func148 Tryz.ntmps148 (ReadsS.r1 Tryz.results148) λhok hokB M0 w0 hl=>?_
 refine Aw_sr ?_
 refine Al_box1 rfl rfl rfl (by decide) (by kernel_rfl) (by conv=>lhs;whnf) rfl (λg3=>?_)
 refine Al_p (Pu_box1 rfl rfl (by nofun) (by nofun)) ?_
 refine Al_mr ?_
 refine Al_ns ?_
 refine Al_ml ?_
 refine Al_p (Pu_makeFuncS (ys:=[]) (xs:=[_,_]) [] [.bx 3 g3 0,.d (.fp [iv a])] rfl trivial ⟨Sub.rfl,Sub.rfl,trivial⟩) ?_
 refine Al_gcall [(1008,3,g3),(1001,1001,0),(1002,1002,0),(1003,1003,0),(1004,1004,0),(1005,1005,0),(1006,1006,0),(1007,1007,0)] [] (gfullC_g fr g t a to hf hY hlen) rfl rfl rfl (by decide) (by kernel_rfl) ⟨rfl,rfl,rfl,rfl,rfl,rfl,rfl,rfl,trivial⟩ rfl ⟨Sub.rfl,Sub.rfl,trivial⟩ (λg9=>?_)
 refine Al_mr ?_
 refine Al_nil ?_
 exact Aw_ret (⟨_,_,[],rfl,Sub.rfl,⟨rfl,rfl,rfl,rfl,rfl,rfl,rfl,trivial⟩,rfl⟩)
end Go.Proofs.YtdnijgdmohinlaaGreat
end
section
set_option maxRecDepth 100000
namespace Go.Proofs.YtdnijgdmohinlaaGreat
open Go Go.RowKit A R
open A.RowT
abbrev SX (F:Nat→Prop) (sp:List Value) (S:List PS):Obs:=[(1001,.op (starP ST F (siteX sp S)))]
theorem SX_in (F:Nat→Prop) (sp:List Value) (S:List PS):ObsIn [1001] (SX F sp S):=⟨λ_ _ _ _ _ h=>h,trivial⟩
section
variable {F:Nat→Prop}{sp:List Value}{S:List PS}{i:Nat}(h:sp.length=S.length) (hi:i<S.length)
include h hi
theorem gsR {f:FuncId}{rest:List AV}{res:AV}(hf:∀(vs:Array Value) (w:World),(callFunc f vs).run Tryz.prog w=.ok (.enter f vs) w) (hc:∀b,GCall Tryz.prog f (.bx 1001 0 0::rest.map .d) (ST (S.getD i default) b) (some (ST (S.getD i default) b,.d res))):GCall Tryz.prog f (.d (.v (sp.getD i default))::rest.map .d) (SX F sp S) (some (SX F sp S,.d res)) :=
 focusR hf hc (siteX_get h hi) (λb=>⟨⟨_,_,List.mem_cons_self ..⟩,ST_in _ _⟩)
theorem gsW {f:FuncId}{rest:List AV}{res:AV}{p':PS}(hf:∀(vs:Array Value) (w:World),(callFunc f vs).run Tryz.prog w=.ok (.enter f vs) w) (hc:∀b,GCall Tryz.prog f (.bx 1001 0 0::rest.map .d) (ST (S.getD i default) b) (some (ST p' b,.d res))):GCallE Tryz.prog f (.d (.v (sp.getD i default))::rest.map .d) (SX F sp S) (λF':Nat→Prop=>some (SX F' sp (S.set i p'),.d res)):=by
 have:=focusP (E:=ST) (F:=F) (s':=p') hf (λb=>GCall.e b (hc b)) (siteX_get h hi) (λb=>⟨_,_,List.mem_cons_self ..⟩)
 rw[siteX_set h hi]at this
 exact this
theorem gsWaiting_g:GCall Tryz.prog 76 [.d (.v (sp.getD i default))] (SX F sp S) (some (SX F sp S,.d (iv (S.getD i default).wait.length))):=gsR h hi (rest:=[]) (λ_ _=>by kernel_rfl) λb=>stWaiting_g _ b
variable {m:Nat}(hp:(S.getD i default).Ok m) (hm:m≤1000)
include hp
theorem gsOwn_g:GCall Tryz.prog 147 [.d (.v (sp.getD i default))] (SX F sp S) (some (SX F sp S,.d (rngA (S.getD i default).rs))):=gsR h hi (rest:=[]) (λ_ _=>by kernel_rfl) λb=>stOwn_g _ b hp.rl
include hm
theorem gsChain_g (key:ByteArray):GCall Tryz.prog 43 [.d (.v (sp.getD i default)),.d (tv key)] (SX F sp S) (some (SX F sp S,.d (versA (J.getC (S.getD i default).cs key)))):=gsR h hi (rest:=[tv key]) (λ_ _=>by kernel_rfl) λb=>stChain_g _ b key hp hm
theorem gsRead_g (key:ByteArray):GCall Tryz.prog 154 [.d (.v (sp.getD i default)),.d (tv key)] (SX F sp S) (some (SX F sp S,.d (.tup [.row (((S.getD i default).readV key).getD default).row,bv ((S.getD i default).readV key).isSome,iv ((S.getD i default).readE key)]))):=gsR h hi (rest:=[tv key]) (λ_ _=>by kernel_rfl) λb=>stRead_g _ b key hp hm
theorem gsArrive_g (v:Ver):GCallE Tryz.prog 170 [.d (.v (sp.getD i default)),.d (.row v.row)] (SX F sp S) (λF':Nat→Prop=>some (SX F' sp (S.set i ((S.getD i default).arrive v)),.d (iv ((S.getD i default).arriveE v)))):=gsW h hi (rest:=[.row v.row]) (λ_ _=>by kernel_rfl) λb=>stArrive_g _ b v hp hm
theorem gsStep_g:GCallE Tryz.prog 172 [.d (.v (sp.getD i default))] (SX F sp S) (λF':Nat→Prop=>some (SX F' sp (S.set i (S.getD i default).step),.d (.tup [.row ((S.getD i default).stepV.getD default).row,bv (S.getD i default).stepV.isSome]))):=gsW h hi (rest:=[]) (λ_ _=>by kernel_rfl) λb=>stStep_g _ b hp hm
theorem gsWrite_g (key value:ByteArray) (gone:Bool) (past:List Dep) (hpl:past.length≤1000000):GCallE Tryz.prog 149 [.d (.v (sp.getD i default)),.d (tv key),.d (tv value),.d (bv gone),.d (pastA past)] (SX F sp S) (λF':Nat→Prop=>some (SX F' sp (S.set i ((S.getD i default).write key value gone past)),.d (.tup [.row ((S.getD i default).writeV key value gone past).row,iv ((S.getD i default).writeE key value gone past)]))):=gsW h hi (rest:=[tv key,tv value,bv gone,pastA past]) (λ_ _=>by kernel_rfl) λb=>stWrite_g _ b key value gone past hpl hp hm
end
end Go.Proofs.YtdnijgdmohinlaaGreat
end
section
set_option maxRecDepth 100000
namespace Go.Proofs.YtdnijgdmohinlaaGreat
open Go Go.RowKit A R
open A.RowT
structure PG.At (g:PG) (o:SOp):Prop where
 lo:0≤o.client
 hi:o.client<4
 at_:0≤(g.cli o.client).1
theorem PG.Ok.cli {g:PG}{m:Nat}(h:g.Ok m) {o:SOp}(ha:g.At o):(g.cli o.client).1=((g.cli o.client).1.toNat:Int)∧(g.cli o.client).1.toNat<g.n∧(g.cli o.client).2.length≤400:=by
 have:=h.cs o.client.toNat
 have h1:=ha.at_
 unfold PG.cli at *
 exact⟨by omega,by omega,this.2.2⟩
theorem PG.setS_self (g:PG) (i:Int):g.setS i (g.site i)=g:=by
 unfold PG.setS PG.site
 have:g.S.set i.toNat (g.S.getD i.toNat default)=g.S:=by
  rcases Nat.lt_or_ge i.toNat g.S.length with h|h
  ·rw[show g.S.getD i.toNat default=g.S[i.toNat]from by simp[h]];exact List.set_getElem_self ..
  ·exact List.set_eq_of_length_le h
 rw[this]
theorem FR.Ok.setS {fr:FR}{g:PG}(h:fr.Ok g) (i:Int) (p:PS):fr.Ok (g.setS i p):=⟨by rw[h.sl];exact(List.length_set ..).symm,h.nl,h.np,h.sp,by rw[show(g.setS i p).S.length=g.S.length from List.length_set ..];exact h.s6⟩
theorem PS.write_ok {p:PS}{key value:ByteArray}{gone:Bool}{past:List Dep}(h:p.writeE key value gone past=0):J.checkB (p.writeV key value gone past)=true:=by
 unfold PS.writeV
 rw[if_pos h]
 unfold PS.writeE at h
 split at h
 ·cases h
 ·split at h
  ·cases h
  ·split at h
   ·assumption
   ·cases h
set_option maxHeartbeats 4000000 in
theorem gput_g (fr:FR) (g:PG) (t:GT) (o:SOp) {m:Nat}(hg:g.Ok m) (hm:m≤900) (hf:fr.Ok g) (ha:g.At o):GCallE Tryz.prog 87 [.bx 1001 0 0,.d (.row o.row)] (GE fr g t) (λt':GT=>some (GE fr (g.put o).1 t',.d (ansA (g.put o).2))):=by
 refine GC_EL Tryz.func87 Tryz.ntmps87 (ReadsS.cN Tryz.results87 Tryz.isAgg37 Tryz.sizeOf37) λhok hokB M0 w0 hl=>?_
 have hcl:o.client=(o.client.toNat:Int):=by have:=ha.lo;omega
 have hc4:o.client.toNat<4:=by have:=ha.lo;have:=ha.hi;omega
 obtain⟨hcs,hcn,hcp⟩:=hg.cli ha
 have hsl:=hf.sl
 have hgs:=hg.sl
 have h6:=hf.s6
 have hi:(g.cli o.client).1.toNat<g.S.length:=by rw[hgs];exact hcn
 have hisp:(g.cli o.client).1.toNat<fr.sp.length:=by rw[hsl];exact hi
 have hp:(g.S.getD (g.cli o.client).1.toNat default).Ok m:=hg.site (i:=(g.cli o.client).1) hcn
 have hY:∀s∈g.Y,s.Fit 1000:=λs hs=>(hg.yf s hs).mono (by omega)
 refine Aw_sr ?_
 refine Al_p Pu_bN ?_
 refine Al_al Tryz.zeroValue37 λg4=>?_
 refine Al_nil (Aw_seq ?_)
 refine Aw_dA 7 Tryz.zeroValue75 ?_
 refine Dr_ml ?_
 refine Dr_p (Pu_fd 1 Tryz.underlying41 Tryz.sizeOf3) ?_
 refine Dr_p (Pu_l1 Tryz.isAgg3) ?_
 refine Dr_p Pu_nb ?_
 refine Dr_p (Pu_fb 5 Tryz.underlying91 Tryz.sizeOf86) ?_
 refine Dr_p (Pu_indexArrb rfl Tryz.underlying86 Tryz.sizeOf75 rfl rfl (hcl) (hc4)) ?_
 refine Dr_p (Pu_loadbN (r:=cliA (g.cs o.client.toNat)) rfl Tryz.isAgg75 Tryz.sizeOf75 rfl rfl (gc_cs fr g t.hv hc4) rfl) ?_
 refine Dr_nil ?_
 intro g5
 refine Al_sN Tryz.isAgg75 Tryz.sizeOf75 ?_
 refine Al_nil (Aw_seq ?_)
 have hto:(T.next g.c (g.cli o.client).1.toNat (-1) o.key).length≤6:=Nat.le_trans (T.next_len ..) hg.par.le
 have hnx:=next_a g.c hg.par hg.row (g.cli o.client).1.toNat hcn (-1) o.key
 rw[←hcs]at hnx
 refine Aw_dr 9 ?_
 refine Dr_ml ?_
 refine Dr_p Pu_nb ?_
 refine Dr_p (Pu_fb 0 Tryz.underlying91 Tryz.sizeOf30) ?_
 refine Dr_p (Pu_lbN (r:=[_,_,_]) Tryz.isAgg30 Tryz.sizeOf30) ?_
 refine Dr_p (Pu_fb 0 Tryz.underlying75 Tryz.sizeOf3) ?_
 refine Dr_p (Pu_lb Tryz.isAgg3) ?_
 refine Dr_p (Pu_fd 6 Tryz.underlying41 Tryz.sizeOf9) ?_
 refine Dr_p (Pu_l1 Tryz.isAgg9) ?_
 refine Dr_p (Pu_call (hnx) rfl ⟨Sub.rfl,Sub.rfl,Sub.rfl,Sub.rfl,trivial⟩) ?_
 refine Dr_nil ?_
 refine Al_mr ?_
 refine Al_nil (Aw_seq (Aw_block (Aw_seq ?_)))
 refine Aw_dr 13 ?_
 refine Dr_ml ?_
 refine Dr_p Pu_nb ?_
 refine Dr_p (Pu_fb 3 Tryz.underlying91 Tryz.sizeOf85) ?_
 refine Dr_p (Pu_lb Tryz.isAgg85) ?_
 refine Dr_p (Pu_fb 0 Tryz.underlying75 Tryz.sizeOf3) ?_
 refine Dr_p (Pu_lb Tryz.isAgg3) ?_
 refine Dr_p (Pu_indexX (j:=(g.cli o.client).1.toNat) (k:=1007) rfl Tryz.underlying85 Tryz.sizeOf92 rfl rfl rfl hcs (by rw[List.length_map];exact hisp)) ?_
 refine Dr_p (Pu_loadX1 (k:=1007) rfl Tryz.isAgg92 rfl rfl (sp_at hisp)) ?_
 refine Dr_p (Pu_gcall [(1001,1005,0)] (gsOwn_g hsl hi hp) (SX_in ..) rfl ⟨rfl,trivial⟩ rfl ⟨Sub.rfl,trivial⟩) ?_
 refine Dr_p (Pu_fd 6 Tryz.underlying41 Tryz.sizeOf9) ?_
 refine Dr_p (Pu_l1 Tryz.isAgg9) ?_
 refine Dr_p (Pu_call (find_a (g.S.getD (g.cli o.client).1.toNat default).rs o.key hp.rl) rfl ⟨Sub.rfl,Sub.rfl,trivial⟩) ?_
 refine Dr_p Pu_cp ?_
 refine Dr_nil ?_
 refine Al_mr ?_
 refine Al_nil ?_
 refine Aw_cond rfl (λh27=>?_) (λh27=>?_)
 ·(try simp only[A.cd_]at h27)
  have he:g.putE o=14:=by unfold PG.putE;rw[if_pos (show findR (g.site (g.cli o.client).1).rs o.key<0 from h27)]
  have e1:g.put o=(g,14,[]):=by unfold PG.put;rw[he];rfl
  refine Aw_sr ?_
  refine Al_p (Pu_call (gtold_a 6 14) rfl ⟨Sub.rfl,trivial⟩) ?_
  refine Al_sN Tryz.isAgg37 Tryz.sizeOf37 ?_
  refine Al_nil ?_
  exact Aw_ret (⟨t,_,_,[],rfl,⟨_,rfl,_,_,_,_,_,[_,_],rfl,rfl,rfl,rfl,by rw[e1]<;>rfl⟩,⟨by rw[e1]<;>rfl,rfl,by rw[e1]<;>rfl,by rw[e1]<;>rfl,by rw[e1]<;>rfl,by rw[e1]<;>rfl,rfl,trivial⟩,rfl⟩)
 ·(try simp only[A.cd_]at h27)
  have hfd:¬findR (g.site (g.cli o.client).1).rs o.key<0:=h27
  refine Aw_sr ?_
  refine Al_ml ?_
  refine Al_p (Pu_fb 0 Tryz.underlying75 Tryz.sizeOf3) ?_
  refine Al_p (Pu_lb Tryz.isAgg3) ?_
  refine Al_ml ?_
  refine Al_p (Pu_gcall [(1001,1001,0),(1002,1002,0),(1003,1003,0),(1004,1004,0),(1005,1005,0),(1006,1006,0),(1007,1007,0)] (gfull_g fr g t (g.cli o.client).1 (T.next g.c (g.cli o.client).1.toNat (-1) o.key) hf hY (by omega)) (GE_in ..) rfl ⟨rfl,rfl,rfl,rfl,rfl,rfl,rfl,trivial⟩ rfl ⟨Sub.rfl,Sub.rfl,Sub.rfl,trivial⟩) ?_
  refine Al_mr ?_
  refine Al_nil ?_
  refine Aw_cond rfl (λh42=>?_) (λh42=>?_)
  ·skip
   have hfu:g.full (g.cli o.client).1 (g.nx (g.cli o.client).1 (-1) o.key)=true:=h42
   have he:g.putE o=15:=by unfold PG.putE;rw[if_neg hfd,if_pos hfu]
   have e1:g.put o=(g,15,[]):=by unfold PG.put;rw[he];rfl
   refine Aw_sr ?_
   refine Al_p (Pu_call (gtold_a 6 15) rfl ⟨Sub.rfl,trivial⟩) ?_
   refine Al_sN Tryz.isAgg37 Tryz.sizeOf37 ?_
   refine Al_nil ?_
   exact Aw_ret (⟨t,_,_,[],rfl,⟨_,rfl,_,_,_,_,_,[_,_],rfl,rfl,rfl,rfl,by rw[e1]<;>rfl⟩,⟨by rw[e1]<;>rfl,rfl,by rw[e1]<;>rfl,by rw[e1]<;>rfl,by rw[e1]<;>rfl,by rw[e1]<;>rfl,rfl,trivial⟩,rfl⟩)
  ·skip
   have hfu:¬g.full (g.cli o.client).1 (g.nx (g.cli o.client).1 (-1) o.key)=true:=by rw[show g.full (g.cli o.client).1 (g.nx (g.cli o.client).1 (-1) o.key)=false from h42];exact Bool.noConfusion
   refine Aw_skip (Aw_sr ?_)
   refine Al_p (Pu_fd 0 Tryz.underlying41 Tryz.sizeOf3) ?_
   refine Al_p (Pu_l1 Tryz.isAgg3) ?_
   refine Al_p Pu_cp ?_
   refine Al_mr ?_
   refine Al_ns ?_
   refine Al_p (Pu_fd 7 Tryz.underlying41 Tryz.sizeOf9) ?_
   refine Al_p (Pu_l1 Tryz.isAgg9) ?_
   refine Al_mr ?_
   refine Al_nil ?_
   refine Aw_join (ι:=Unit) [0,3,4,5,6,7] [4,5,1001,1002,1003,1004,1005,1006,1007] (λ_=>[(8,.d (tv (PG.putW o)))]) (λ_=>[]) (λ_=>True) ?_ ?_
   ·refine Aw_sr ?_
    refine Al_ml ?_
    refine Al_nil ?_
    refine Aw_cond rfl (λh54=>?_) (λh54=>?_)
    ·(try simp only[A.cd_]at h54)
     refine Aw_region ?_
     refine Al_mr ?_
     refine Al_nil ?_
     exact⟨(),trivial,Le.ov ⟨Sub.d (by rw[show PG.putW o=_ from if_pos h54]),trivial⟩ ⟨Sub.rfl,Sub.rfl,Sub.rfl,Sub.rfl,Sub.rfl,Sub.rfl,trivial⟩ trivial ⟨rfl,rfl,rfl,rfl,rfl,rfl,rfl,rfl,rfl,trivial⟩⟩
    ·(try simp only[A.cd_]at h54)
     refine Aw_skip ?_
     exact⟨(),trivial,Le.ov ⟨Sub.d (by rw[show PG.putW o=_ from if_neg h54]),trivial⟩ ⟨Sub.rfl,Sub.rfl,Sub.rfl,Sub.rfl,Sub.rfl,Sub.rfl,trivial⟩ trivial ⟨rfl,rfl,rfl,rfl,rfl,rfl,rfl,rfl,rfl,trivial⟩⟩
   ·rintro _ hj0
    refine Aw_join (ι:=Nat×(Nat→Prop)) [0,3,4,5,6] [4,5,1001,1002,1003,1004,1006,1007] (λ(g9,F)=>[(9,.bx 9 g9 0),(10,.d (iv ((g.site (g.cli o.client).1).writeE o.key (PG.putW o) (decide (o.kind=2)) (g.cli o.client).2)))]) (λ(g9,F)=>[(9,g9,.box 50 ((g.putV o).row.map .d)),(1005,0,.op (starP ST F (siteX fr.sp (g.S.set (g.cli o.client).1.toNat ((g.S.getD (g.cli o.client).1.toNat default).write o.key (PG.putW o) (decide (o.kind=2)) (g.cli o.client).2)))))]) (λ(g9,F)=>True) ?_ ?_
    ·refine Aw_drawPA 14 18 6 (by kernel_rfl) (by kernel_rfl) rfl (by decide) rfl rfl rfl rfl (by decide) Tryz.zeroValue50 rfl (by kernel_rfl) rfl ?_
     refine Dr_ml ?_
     refine Dr_p Pu_nb ?_
     refine Dr_p (Pu_fb 3 Tryz.underlying91 Tryz.sizeOf85) ?_
     refine Dr_p (Pu_lb Tryz.isAgg85) ?_
     refine Dr_p (Pu_fb 0 Tryz.underlying75 Tryz.sizeOf3) ?_
     refine Dr_p (Pu_lb Tryz.isAgg3) ?_
     refine Dr_p (Pu_indexX (j:=(g.cli o.client).1.toNat) (k:=1007) rfl Tryz.underlying85 Tryz.sizeOf92 rfl rfl rfl hcs (by rw[List.length_map];exact hisp)) ?_
     refine Dr_p (Pu_loadX1 (k:=1007) rfl Tryz.isAgg92 rfl rfl (sp_at hisp)) ?_
     refine Dr_p (Pu_fd 6 Tryz.underlying41 Tryz.sizeOf9) ?_
     refine Dr_p (Pu_l1 Tryz.isAgg9) ?_
     refine Dr_ml ?_
     refine Dr_ml ?_
     refine Dr_p (Pu_fb 1 Tryz.underlying75 Tryz.sizeOf48) ?_
     refine Dr_p (Pu_lb Tryz.isAgg48) ?_
     refine Dr_nil ⟨?_,λg9=>?_⟩
     ·refine Ad_two 14 18 rfl rfl (by kernel_rfl) ?_ ?_
      ·refine Al_gcallE [(1001,1005,0)] [] (gsWrite_g hsl hi hp (by omega) o.key (PG.putW o) (decide (o.kind=2)) (g.cli o.client).2 (by omega)) rfl rfl rfl (by decide) (by kernel_rfl) ⟨rfl,trivial⟩ (λ_=>rfl) rfl rfl ⟨Sub.rfl,Sub.rfl,Sub.rfl,Sub.rfl,Sub.rfl,trivial⟩ ?_
       rintro F g70
       refine Al_nil ?_
       refine Ad_t 15 rfl (PuI_move (.inl rfl) (by conv=>lhs;whnf)) ?_
       refine Ad_t 16 rfl PuI_ex ?_
       refine Ad_t 17 rfl PuI_ex ?_
       refine Ad_o 18 ?_
       refine Al_al Tryz.zeroValue50 λg9=>?_
       refine Al_nil ?_
       refine Ad_o 19 ?_
       refine Al_sN Tryz.isAgg50 Tryz.sizeOf50 ?_
       refine Al_nil ?_
       refine Ad_t 20 rfl (PuI_move (.inr rfl) (by conv=>lhs;whnf)) ?_
       refine Ad_d ?_
       exact⟨(g9,F),trivial,Le.ov ⟨Sub.rfl,Sub.rfl,trivial⟩ ⟨Sub.rfl,Sub.rfl,Sub.rfl,Sub.rfl,Sub.rfl,trivial⟩ ⟨rfl,rfl,trivial⟩ ⟨rfl,rfl,rfl,rfl,rfl,rfl,rfl,rfl,trivial⟩⟩
      ·refine Al_al Tryz.zeroValue50 λg9=>?_
       refine Al_nil ?_
       refine Ad_o 14 ?_
       refine Al_gcallE [(1001,1005,0)] [] (gsWrite_g hsl hi hp (by omega) o.key (PG.putW o) (decide (o.kind=2)) (g.cli o.client).2 (by omega)) rfl rfl rfl (by decide) (by kernel_rfl) ⟨rfl,trivial⟩ (λ_=>rfl) rfl rfl ⟨Sub.rfl,Sub.rfl,Sub.rfl,Sub.rfl,Sub.rfl,trivial⟩ ?_
       rintro F g70
       refine Al_nil ?_
       refine Ad_t 15 rfl (PuI_move (.inl rfl) (by conv=>lhs;whnf)) ?_
       refine Ad_t 16 rfl PuI_ex ?_
       refine Ad_t 17 rfl PuI_ex ?_
       refine Ad_o 19 ?_
       refine Al_sN Tryz.isAgg50 Tryz.sizeOf50 ?_
       refine Al_nil ?_
       refine Ad_t 20 rfl (PuI_move (.inr rfl) (by conv=>lhs;whnf)) ?_
       refine Ad_d ?_
       exact⟨(g9,F),trivial,Le.ov ⟨Sub.rfl,Sub.rfl,trivial⟩ ⟨Sub.rfl,Sub.rfl,Sub.rfl,Sub.rfl,Sub.rfl,trivial⟩ ⟨rfl,rfl,trivial⟩ ⟨rfl,rfl,rfl,rfl,rfl,rfl,rfl,rfl,trivial⟩⟩
     ·refine Ad_o 14 ?_
      refine Al_gcallE [(1001,1005,0)] [] (gsWrite_g hsl hi hp (by omega) o.key (PG.putW o) (decide (o.kind=2)) (g.cli o.client).2 (by omega)) rfl rfl rfl (by decide) (by kernel_rfl) ⟨rfl,trivial⟩ (λ_=>rfl) rfl rfl ⟨Sub.rfl,Sub.rfl,Sub.rfl,Sub.rfl,Sub.rfl,trivial⟩ ?_
      rintro F g70
      refine Al_nil ?_
      refine Ad_t 15 rfl (PuI_move (.inl rfl) (by conv=>lhs;whnf)) ?_
      refine Ad_t 16 rfl PuI_ex ?_
      refine Ad_t 17 rfl PuI_ex ?_
      refine Ad_o 19 ?_
      refine Al_sN Tryz.isAgg50 Tryz.sizeOf50 ?_
      refine Al_nil ?_
      refine Ad_t 20 rfl (PuI_move (.inr rfl) (by conv=>lhs;whnf)) ?_
      refine Ad_d ?_
      exact⟨(g9,F),trivial,Le.ov ⟨Sub.rfl,Sub.rfl,trivial⟩ ⟨Sub.rfl,Sub.rfl,Sub.rfl,Sub.rfl,Sub.rfl,trivial⟩ ⟨rfl,rfl,trivial⟩ ⟨rfl,rfl,rfl,rfl,rfl,rfl,rfl,rfl,trivial⟩⟩
    ·rintro⟨g9,F⟩ hj1
     refine Aw_seq (Aw_sr ?_)
     refine Al_ml ?_
     refine Al_p Pu_cp ?_
     refine Al_nil ?_
     refine Aw_cond rfl (λh74=>?_) (λh74=>?_)
     ·(try simp only[A.cd_]at h74)
      have he:g.putE o=(g.site (g.cli o.client).1).writeE o.key (PG.putW o) (decide (o.kind=2)) (g.cli o.client).2:=by unfold PG.putE;rw[if_neg hfd,if_neg hfu]
      have e1:g.put o=(g,(g.site (g.cli o.client).1).writeE o.key (PG.putW o) (decide (o.kind=2)) (g.cli o.client).2,[]):=by unfold PG.put;rw[he,if_neg h74]
      have hws:g.S.set (g.cli o.client).1.toNat ((g.S.getD (g.cli o.client).1.toNat default).write o.key (PG.putW o) (decide (o.kind=2)) (g.cli o.client).2)=g.S:=by
       have:(g.S.getD (g.cli o.client).1.toNat default).write o.key (PG.putW o) (decide (o.kind=2)) (g.cli o.client).2=g.S.getD (g.cli o.client).1.toNat default:=if_neg h74
       rw[this];exact congrArg PG.S (g.setS_self (g.cli o.client).1)
      refine Aw_sr ?_
      refine Al_ml ?_
      refine Al_p (Pu_call (gtold_a 6 ((g.site (g.cli o.client).1).writeE o.key (PG.putW o) (decide (o.kind=2)) (g.cli o.client).2)) rfl ⟨Sub.rfl,trivial⟩) ?_
      refine Al_sN Tryz.isAgg37 Tryz.sizeOf37 ?_
      refine Al_nil ?_
      exact Aw_ret (⟨{t with Fs:=F},_,_,[],rfl,⟨_,rfl,_,_,_,_,_,[_,_],rfl,rfl,rfl,rfl,by rw[e1]<;>rfl⟩,⟨by rw[e1];rfl,rfl,by rw[e1];rfl,by rw[e1];rfl,by rw[hws,e1];rfl,by rw[e1];rfl,rfl,trivial⟩,rfl⟩)
     ·(try simp only[A.cd_]at h74)
      have h0:(g.site (g.cli o.client).1).writeE o.key (PG.putW o) (decide (o.kind=2)) (g.cli o.client).2=0:=by simpa using h74
      have he:g.putE o=0:=by unfold PG.putE;rw[if_neg hfd,if_neg hfu];exact h0
      have e1:g.put o=(g.putS o,0,[g.putV o]):=by unfold PG.put;rw[if_pos he]
      have hvk:J.checkB (g.putV o)=true:=PS.write_ok h0
      have hvp:(g.putV o).past.length≤24:=J.past_len hvk
      have hf1:fr.Ok (g.setS (g.cli o.client).1 ((g.site (g.cli o.client).1).write o.key (PG.putW o) (decide (o.kind=2)) (g.cli o.client).2)):=hf.setS _ _
      refine Aw_skip (Aw_sr ?_)
      refine Al_ml ?_
      refine Al_p (Pu_fb 0 Tryz.underlying75 Tryz.sizeOf3) ?_
      refine Al_p (Pu_lb Tryz.isAgg3) ?_
      refine Al_ml ?_
      refine Al_p (Pu_lbN (r:=[_,_,_,_,_,_]) Tryz.isAgg50 Tryz.sizeOf50) ?_
      refine Al_gcallE [(1001,1001,0),(1002,1002,0),(1003,1003,0),(1004,1004,0),(1005,1005,0),(1006,1006,0),(1007,1007,0)] [] (gsend_g fr (g.setS (g.cli o.client).1 ((g.site (g.cli o.client).1).write o.key (PG.putW o) (decide (o.kind=2)) (g.cli o.client).2)) {t with Fs:=F} (g.cli o.client).1 (T.next g.c (g.cli o.client).1.toNat (-1) o.key) (g.putV o) hvk hf1 (m:=m) hg.yf (by omega)) rfl rfl rfl (by decide) (by kernel_rfl) ⟨rfl,rfl,rfl,rfl,rfl,rfl,rfl,trivial⟩ (λ_=>rfl) rfl rfl ⟨Sub.rfl,Sub.rfl,Sub.rfl,Sub.rfl,trivial⟩ ?_
      rintro Fn g82
      refine Al_ns ?_
      refine Al_ml ?_
      refine Al_p (Pu_fd 1 Tryz.underlying41 Tryz.sizeOf3) ?_
      refine Al_p (Pu_l1 Tryz.isAgg3) ?_
      refine Al_p (Pu_fb 0 Tryz.underlying50 Tryz.sizeOf9) ?_
      refine Al_p (Pu_lb Tryz.isAgg9) ?_
      refine Al_p (Pu_fb 3 Tryz.underlying50 Tryz.sizeOf47) ?_
      refine Al_p (Pu_lbN (r:=[_,_]) Tryz.isAgg47 Tryz.sizeOf47) ?_
      refine Al_p (Pu_fb 1 Tryz.underlying75 Tryz.sizeOf48) ?_
      refine Al_p (Pu_lb Tryz.isAgg48) ?_
      refine Al_gcallE [(1001,1001,0),(1002,1002,0),(1003,1003,0),(1004,1004,0),(1005,1005,0),(1006,1006,0),(1007,1007,0)] [] (gevent_g fr ((g.setS (g.cli o.client).1 ((g.site (g.cli o.client).1).write o.key (PG.putW o) (decide (o.kind=2)) (g.cli o.client).2)).send (g.cli o.client).1 (T.next g.c (g.cli o.client).1.toNat (-1) o.key) (g.putV o)) ⟨F,Fn,t.hv⟩ ⟨1,o.client,(g.putV o).key,(g.putV o).n,(g.putV o).s,(g.cli o.client).2⟩ (by rw[PG.send_h];have:=hg.hl;show g.h.length≤_;omega)) rfl rfl rfl (by decide) (by kernel_rfl) ⟨rfl,rfl,rfl,rfl,rfl,rfl,rfl,trivial⟩ (λ_=>rfl) rfl rfl ⟨Sub.rfl,Sub.rfl,Sub.rfl,Sub.rfl,Sub.rfl,Sub.rfl,trivial⟩ ?_
      rintro hv g92
      refine Al_nil (Aw_seq ?_)
      refine Aw_dr 10 ?_
      refine Dr_ml ?_
      refine Dr_p (Pu_fd 1 Tryz.underlying41 Tryz.sizeOf3) ?_
      refine Dr_p (Pu_l1 Tryz.isAgg3) ?_
      refine Dr_p (Pu_lbN (r:=[_,_]) Tryz.isAgg75 Tryz.sizeOf75) ?_
      refine Dr_p (Pu_lbN (r:=[_,_,_,_,_,_]) Tryz.isAgg50 Tryz.sizeOf50) ?_
      refine Dr_p (Pu_slice1 rfl Tryz.underlying35 Tryz.sizeOf50 Tryz.zeroValue50 rfl (by decide) (by decide) (by kernel_rfl) rfl rfl rfl) ?_
      refine Dr_p (Pu_call (cliSaw_a (g.cli o.client) [g.putV o] (λv hv=>by rw[List.mem_singleton.1 hv];exact hvp) (by simp;omega)) rfl ⟨Sub.rfl,Sub.rfl,trivial⟩) ?_
      refine Dr_p Pu_nb ?_
      refine Dr_p (Pu_fb 5 Tryz.underlying91 Tryz.sizeOf86) ?_
      refine Dr_p (Pu_indexArrb rfl Tryz.underlying86 Tryz.sizeOf75 rfl rfl (hcl) (hc4)) ?_
      refine Dr_nil ?_
      refine A.Al_storeC (gcells fr (g.putS o) hv) (gc_setC fr (((g.setS (g.cli o.client).1 ((g.site (g.cli o.client).1).write o.key (PG.putW o) (decide (o.kind=2)) (g.cli o.client).2)).send (g.cli o.client).1 (T.next g.c (g.cli o.client).1.toNat (-1) o.key) (g.putV o)).ev ⟨1,o.client,(g.putV o).key,(g.putV o).n,(g.putV o).s,(g.cli o.client).2⟩) hv (N.saw (g.cli o.client) [g.putV o]) hc4) rfl Tryz.isAgg75 Tryz.sizeOf75 rfl rfl rfl rfl (by show 0+5+o.client.toNat*2+2≤23;omega) ?_
      refine Al_ns ?_
      refine Al_p (Pu_lbN (r:=[_,_,_,_,_,_]) Tryz.isAgg50 Tryz.sizeOf50) ?_
      refine Al_p (Pu_slice1 rfl Tryz.underlying35 Tryz.sizeOf50 Tryz.zeroValue50 rfl (by decide) (by decide) (by kernel_rfl) rfl rfl rfl) ?_
      refine Al_p (Pu_call (gfound_a [g.putV o]) rfl ⟨Sub.rfl,trivial⟩) ?_
      refine Al_sN Tryz.isAgg37 Tryz.sizeOf37 ?_
      refine Al_nil ?_
      exact Aw_ret (⟨⟨F,Fn,hv⟩,_,_,[],rfl,⟨_,rfl,_,_,_,_,_,[_,_],rfl,rfl,rfl,rfl,by rw[e1]<;>rfl⟩,⟨by rw[e1]<;>rfl,rfl,by rw[e1]<;>rfl,by rw[e1]<;>rfl,by rw[e1]<;>rfl,by rw[e1]<;>rfl,rfl,trivial⟩,rfl⟩)
end Go.Proofs.YtdnijgdmohinlaaGreat
end
section
set_option maxRecDepth 100000
namespace Go.Proofs.YtdnijgdmohinlaaGreat
open Go Go.RowKit A R
open A.RowT
theorem J.shead_in {cs:SC}{key:ByteArray}{v:Ver}(h:J.shead cs key=some v):v∈J.getC cs key:=by
 unfold J.shead J.head J.told at h
 split at h
 ·exact List.mem_of_getElem? h
 ·cases h
def J.OkC (cs:SC):Prop:=∀p∈cs,∀v∈p.2,J.checkB v=true
theorem J.OkC.get {cs:SC}(h:J.OkC cs) (key:ByteArray):∀v∈J.getC cs key,J.checkB v=true:=by
 unfold J.getC
 cases hl:J.look cs key with
 | none=>intro v hv;cases hv
 | some l=>intro v hv;exact h _ (J.mem_look hl) v hv
theorem PS.read_ok {p:PS}(h:J.OkC p.cs) {key:ByteArray}{v:Ver}(hv:p.readV key=some v):J.checkB v=true:=by
 unfold PS.readV at hv
 split at hv
 ·cases hv
 ·exact h.get key v (J.shead_in hv)
set_option maxHeartbeats 4000000 in
theorem gget_g (fr:FR) (g:PG) (t:GT) (o:SOp) {m:Nat}(hg:g.Ok m) (hm:m≤900) (hf:fr.Ok g) (ha:g.At o) (hoc:J.OkC (g.site (g.cli o.client).1).cs):GCallE Tryz.prog 88 [.bx 1001 0 0,.d (.row o.row)] (GE fr g t) (λt':GT=>some (GE fr (g.get o).1 t',.d (ansA (g.get o).2))):=by
 refine GC_EL Tryz.func88 Tryz.ntmps88 (ReadsS.cN Tryz.results88 Tryz.isAgg37 Tryz.sizeOf37) λhok hokB M0 w0 hl=>?_
 have hcl:o.client=(o.client.toNat:Int):=by have:=ha.lo;omega
 have hc4:o.client.toNat<4:=by have:=ha.lo;have:=ha.hi;omega
 obtain⟨hcs,hcn,hcp⟩:=hg.cli ha
 have hsl:=hf.sl
 have hgs:=hg.sl
 have h6:=hf.s6
 have hi:(g.cli o.client).1.toNat<g.S.length:=by rw[hgs];exact hcn
 have hisp:(g.cli o.client).1.toNat<fr.sp.length:=by rw[hsl];exact hi
 have hp:(g.S.getD (g.cli o.client).1.toNat default).Ok m:=hg.site (i:=(g.cli o.client).1) hcn
 have hvp:((g.getV o).getD default).past.length≤24:=by
  cases hv:g.getV o with
  | none=>exact Nat.zero_le _
  | some v=>exact J.past_len (PS.read_ok hoc hv)
 refine Aw_sr ?_
 refine Al_p Pu_bN ?_
 refine Al_al Tryz.zeroValue37 λg4=>?_
 refine Al_nil (Aw_seq ?_)
 refine Aw_dA 7 Tryz.zeroValue75 ?_
 refine Dr_ml ?_
 refine Dr_p (Pu_fd 1 Tryz.underlying41 Tryz.sizeOf3) ?_
 refine Dr_p (Pu_l1 Tryz.isAgg3) ?_
 refine Dr_p Pu_nb ?_
 refine Dr_p (Pu_fb 5 Tryz.underlying91 Tryz.sizeOf86) ?_
 refine Dr_p (Pu_indexArrb rfl Tryz.underlying86 Tryz.sizeOf75 rfl rfl (hcl) (hc4)) ?_
 refine Dr_p (Pu_loadbN (r:=cliA (g.cs o.client.toNat)) rfl Tryz.isAgg75 Tryz.sizeOf75 rfl rfl (gc_cs fr g t.hv hc4) rfl) ?_
 refine Dr_nil ?_
 intro g5
 refine Al_sN Tryz.isAgg75 Tryz.sizeOf75 ?_
 refine Al_nil ?_
 refine Aw_join (ι:=Nat) [0,3,4,5] [4,5,1001,1002,1003,1004,1005,1006,1007] (λg6=>[(6,.bx 6 g6 0),(7,.d (bv (g.getV o).isSome)),(8,.d (iv ((g.site (g.cli o.client).1).readE o.key)))]) (λg6=>[(6,g6,.box 50 (((g.getV o).getD default).row.map .d))]) (λg6=>True) ?_ ?_
 ·refine Aw_drawPA 12 15 6 (by kernel_rfl) (by kernel_rfl) rfl (by decide) rfl rfl rfl rfl (by decide) Tryz.zeroValue50 rfl (by kernel_rfl) rfl ?_
  refine Dr_ml ?_
  refine Dr_p Pu_nb ?_
  refine Dr_p (Pu_fb 3 Tryz.underlying91 Tryz.sizeOf85) ?_
  refine Dr_p (Pu_lb Tryz.isAgg85) ?_
  refine Dr_p (Pu_fb 0 Tryz.underlying75 Tryz.sizeOf3) ?_
  refine Dr_p (Pu_lb Tryz.isAgg3) ?_
  refine Dr_p (Pu_indexX (j:=(g.cli o.client).1.toNat) (k:=1007) rfl Tryz.underlying85 Tryz.sizeOf92 rfl rfl rfl hcs (by rw[List.length_map];exact hisp)) ?_
  refine Dr_p (Pu_loadX1 (k:=1007) rfl Tryz.isAgg92 rfl rfl (sp_at hisp)) ?_
  refine Dr_p (Pu_fd 6 Tryz.underlying41 Tryz.sizeOf9) ?_
  refine Dr_p (Pu_l1 Tryz.isAgg9) ?_
  refine Dr_p (Pu_gcall [(1001,1005,0)] (gsRead_g hsl hi hp (by omega) o.key) (SX_in ..) rfl ⟨rfl,trivial⟩ rfl ⟨Sub.rfl,Sub.rfl,trivial⟩) ?_
  refine Dr_ml ?_
  refine Dr_nil ⟨?_,λg6=>?_⟩
  ·refine Ad_t 12 rfl PuI_ex ?_
   refine Ad_t 13 rfl PuI_ex ?_
   refine Ad_t 14 rfl PuI_ex ?_
   refine Ad_o 15 ?_
   refine Al_al Tryz.zeroValue50 λg6=>?_
   refine Al_nil ?_
   refine Ad_o 16 ?_
   refine Al_sN Tryz.isAgg50 Tryz.sizeOf50 ?_
   refine Al_nil ?_
   refine Ad_t 17 rfl (PuI_move (.inr rfl) (by conv=>lhs;whnf)) ?_
   refine Ad_t 18 rfl (PuI_move (.inr rfl) (by conv=>lhs;whnf)) ?_
   refine Ad_d ?_
   exact⟨g6,trivial,Le.ov ⟨Sub.rfl,Sub.rfl,Sub.rfl,trivial⟩ ⟨Sub.rfl,Sub.rfl,Sub.rfl,Sub.rfl,trivial⟩ ⟨rfl,trivial⟩ ⟨rfl,rfl,rfl,rfl,rfl,rfl,rfl,rfl,rfl,trivial⟩⟩
  ·refine Ad_t 12 rfl PuI_ex ?_
   refine Ad_t 13 rfl PuI_ex ?_
   refine Ad_t 14 rfl PuI_ex ?_
   refine Ad_o 16 ?_
   refine Al_sN Tryz.isAgg50 Tryz.sizeOf50 ?_
   refine Al_nil ?_
   refine Ad_t 17 rfl (PuI_move (.inr rfl) (by conv=>lhs;whnf)) ?_
   refine Ad_t 18 rfl (PuI_move (.inr rfl) (by conv=>lhs;whnf)) ?_
   refine Ad_d ?_
   exact⟨g6,trivial,Le.ov ⟨Sub.rfl,Sub.rfl,Sub.rfl,trivial⟩ ⟨Sub.rfl,Sub.rfl,Sub.rfl,Sub.rfl,trivial⟩ ⟨rfl,trivial⟩ ⟨rfl,rfl,rfl,rfl,rfl,rfl,rfl,rfl,rfl,trivial⟩⟩
 ·rintro g6 hj0
  refine Aw_seq (Aw_sr ?_)
  refine Al_ml ?_
  refine Al_p Pu_cp ?_
  refine Al_nil ?_
  refine Aw_cond rfl (λh32=>?_) (λh32=>?_)
  ·(try simp only[A.cd_]at h32)
   have e1:g.get o=(g,(g.site (g.cli o.client).1).readE o.key,[]):=by unfold PG.get;rw[if_neg (show¬(g.site (g.cli o.client).1).readE o.key=0 from h32)]
   refine Aw_sr ?_
   refine Al_ml ?_
   refine Al_p (Pu_call (gtold_a 6 ((g.site (g.cli o.client).1).readE o.key)) rfl ⟨Sub.rfl,trivial⟩) ?_
   refine Al_sN Tryz.isAgg37 Tryz.sizeOf37 ?_
   refine Al_nil ?_
   exact Aw_ret (⟨t,_,_,[],rfl,⟨_,rfl,_,_,_,_,_,[_,_],rfl,rfl,rfl,rfl,by rw[e1]<;>rfl⟩,⟨by rw[e1]<;>rfl,rfl,by rw[e1]<;>rfl,by rw[e1]<;>rfl,by rw[e1]<;>rfl,by rw[e1]<;>rfl,rfl,trivial⟩,rfl⟩)
  ·(try simp only[A.cd_]at h32)
   have h0:(g.site (g.cli o.client).1).readE o.key=0:=h32
   refine Aw_skip ?_
   refine Aw_seq ?_
   refine Aw_drawP 13 1 (by kernel_rfl) (by kernel_rfl) rfl ?_
   refine Dr_ml ?_
   refine Dr_p (Pu_fd 1 Tryz.underlying41 Tryz.sizeOf3) ?_
   refine Dr_p (Pu_l1 Tryz.isAgg3) ?_
   refine Dr_p (Pu_fd 6 Tryz.underlying41 Tryz.sizeOf9) ?_
   refine Dr_p (Pu_l1 Tryz.isAgg9) ?_
   refine Dr_p (Pu_fb 3 Tryz.underlying50 Tryz.sizeOf47) ?_
   refine Dr_p (Pu_lbN (r:=[_,_]) Tryz.isAgg47 Tryz.sizeOf47) ?_
   refine Dr_p (Pu_fb 1 Tryz.underlying75 Tryz.sizeOf48) ?_
   refine Dr_p (Pu_lb Tryz.isAgg48) ?_
   refine Dr_p (Pu_fb 5 Tryz.underlying50 Tryz.sizeOf48) ?_
   refine Dr_p (Pu_lb Tryz.isAgg48) ?_
   refine Dr_p (Pu_buildSlice (aa:=[(0,_),(1,_)]) rfl Tryz.underlying195 Tryz.sizeOf48 Tryz.zeroValue48 rfl (by decide) (by decide) (by decide) (by kernel_rfl) ⟨rfl,rfl,rfl,rfl,rfl,rfl,trivial⟩ ((rfl:_=some [[pastA (g.cli o.client).2],[pastA ((g.getV o).getD default).past]].flatten)) rfl rfl) ?_
   refine Dr_p (Pu_call (merge_a [(g.cli o.client).2,((g.getV o).getD default).past] (by simp;omega)) rfl ⟨Sub.rfl,trivial⟩) ?_
   refine Dr_nil ?_
   refine Ad_o 13 ?_
   refine Al_gcallE [(1001,1001,0),(1002,1002,0),(1003,1003,0),(1004,1004,0),(1005,1005,0),(1006,1006,0),(1007,1007,0)] [] (gevent_g fr g t ⟨2,o.client,o.key,((g.getV o).getD default).n,((g.getV o).getD default).s,D.mergeL [(g.cli o.client).2,((g.getV o).getD default).past]⟩ (by have:=hg.hl;omega)) rfl rfl rfl (by decide) (by kernel_rfl) ⟨rfl,rfl,rfl,rfl,rfl,rfl,rfl,trivial⟩ (λ_=>rfl) rfl rfl ⟨Sub.rfl,Sub.rfl,Sub.rfl,Sub.rfl,Sub.rfl,Sub.rfl,trivial⟩ ?_
   rintro hv g48
   refine Al_nil ?_
   refine Ad_d ?_
   refine Aw_seq (Aw_sr ?_)
   refine Al_ml ?_
   refine Al_p Pu_n ?_
   refine Al_nil ?_
   refine Aw_cond rfl (λh50=>?_) (λh50=>?_)
   ·skip
    have hn:g.getV o=none:=by
     have h1:(!(g.getV o).isSome)=true:=h50
     cases hx:g.getV o with
     | none=>rfl
     | some v=>rw[hx]at h1;cases h1
    have e1:g.get o=(g.getS o,0,[]):=by unfold PG.get;rw[if_pos h0,hn]
    refine Aw_sr ?_
    refine Al_p (Pu_build (aa:=[]) rfl Tryz.underlying37 Tryz.zeroValue37 places37 (by kernel_rfl) trivial rfl) ?_
    refine Al_sN Tryz.isAgg37 Tryz.sizeOf37 ?_
    refine Al_nil ?_
    refine Aw_boxle (k:=4) ([iv 0,versA []].map .d) rfl ⟨Sub.rfl,Sub.nil,trivial⟩ ?_
    exact Aw_ret (⟨{t with hv:=hv},_,_,[],rfl,⟨_,rfl,_,_,_,_,_,[_,_],rfl,rfl,rfl,rfl,by rw[e1]<;>rfl⟩,⟨by rw[e1]<;>rfl,rfl,by rw[e1]<;>rfl,by rw[e1]<;>rfl,by rw[e1]<;>rfl,by rw[e1]<;>rfl,rfl,trivial⟩,rfl⟩)
   ·skip
    obtain⟨v,hvs⟩:∃v,g.getV o=some v:=by
     have h1:(!(g.getV o).isSome)=false:=h50
     cases hx:g.getV o with
     | none=>rw[hx]at h1;cases h1
     | some v=>exact⟨v,rfl⟩
    have e1:g.get o=((g.getS o).setC o.client (N.saw1 (g.cli o.client) ((g.getV o).getD default)),0,[(g.getV o).getD default]):=by unfold PG.get;rw[if_pos h0,hvs];rfl
    refine Aw_skip (Aw_seq ?_)
    refine Aw_dr 10 ?_
    refine Dr_ml ?_
    refine Dr_p (Pu_fd 1 Tryz.underlying41 Tryz.sizeOf3) ?_
    refine Dr_p (Pu_l1 Tryz.isAgg3) ?_
    refine Dr_p (Pu_lbN (r:=[_,_]) Tryz.isAgg75 Tryz.sizeOf75) ?_
    refine Dr_p (Pu_lbN (r:=[_,_,_,_,_,_]) Tryz.isAgg50 Tryz.sizeOf50) ?_
    refine Dr_p (Pu_slice1 rfl Tryz.underlying35 Tryz.sizeOf50 Tryz.zeroValue50 rfl (by decide) (by decide) (by kernel_rfl) rfl rfl rfl) ?_
    refine Dr_p (Pu_call (cliSaw_a (g.cli o.client) [(g.getV o).getD default] (λv hv=>by rw[List.mem_singleton.1 hv];exact hvp) (by simp;omega)) rfl ⟨Sub.rfl,Sub.rfl,trivial⟩) ?_
    refine Dr_p Pu_nb ?_
    refine Dr_p (Pu_fb 5 Tryz.underlying91 Tryz.sizeOf86) ?_
    refine Dr_p (Pu_indexArrb rfl Tryz.underlying86 Tryz.sizeOf75 rfl rfl (hcl) (hc4)) ?_
    refine Dr_nil ?_
    refine A.Al_storeC (gcells fr ((g.getS o).setC o.client (N.saw (g.cli o.client) [(g.getV o).getD default])) hv) (gc_setC fr (g.getS o) hv (N.saw (g.cli o.client) [(g.getV o).getD default]) hc4) rfl Tryz.isAgg75 Tryz.sizeOf75 rfl rfl rfl rfl (by show 0+5+o.client.toNat*2+2≤23;omega) ?_
    refine Al_ns ?_
    refine Al_p (Pu_lbN (r:=[_,_,_,_,_,_]) Tryz.isAgg50 Tryz.sizeOf50) ?_
    refine Al_p (Pu_slice1 rfl Tryz.underlying35 Tryz.sizeOf50 Tryz.zeroValue50 rfl (by decide) (by decide) (by kernel_rfl) rfl rfl rfl) ?_
    refine Al_p (Pu_call (gfound_a [(g.getV o).getD default]) rfl ⟨Sub.rfl,trivial⟩) ?_
    refine Al_sN Tryz.isAgg37 Tryz.sizeOf37 ?_
    refine Al_nil ?_
    exact Aw_ret (⟨{t with hv:=hv},_,_,[],rfl,⟨_,rfl,_,_,_,_,_,[_,_],rfl,rfl,rfl,rfl,by rw[e1]<;>rfl⟩,⟨by rw[e1]<;>rfl,rfl,by rw[e1]<;>rfl,by rw[e1]<;>rfl,by rw[e1]<;>rfl,by rw[e1]<;>rfl,rfl,trivial⟩,rfl⟩)
end Go.Proofs.YtdnijgdmohinlaaGreat
end
section
set_option maxRecDepth 100000
namespace Go.Proofs.YtdnijgdmohinlaaGreat
open Go Go.RowKit A R
open A.RowT
theorem PG.isS_iff {g:PG}{s:Int}(h:g.isS s=true):s=(s.toNat:Int)∧s.toNat<g.n:=by
 unfold PG.isS at h
 simp only[Bool.and_eq_true,decide_eq_true_eq]at h
 omega
theorem atV_cases {fr:FR}{g:PG}(hf:fr.Ok g) (hn:g.S.length=g.n) (s:Int):(g.isS s=false∧atV fr g s=.pointer none)∨(g.isS s=true∧atV fr g s=fr.sp.getD s.toNat default∧∃a,atV fr g s=.pointer (some a)):=by
 cases h:g.isS s with
 | false=>exact .inl ⟨rfl,by unfold atV;rw[h];rfl⟩
 | true =>
  obtain⟨h1,h2⟩:=PG.isS_iff h
  have e:atV fr g s=fr.sp.getD s.toNat default:=by unfold atV;rw[h];rfl
  obtain⟨a,ha⟩:=place_at hf (i:=s.toNat) (by rw[hn];exact h2)
  exact .inr ⟨rfl,e,a,by rw[e,ha]⟩
set_option maxHeartbeats 2000000 in
theorem gsteps_g (fr:FR) (g:PG) (t:GT) (o:SOp) {m:Nat}(hg:g.Ok m) (hm:m≤900) (hf:fr.Ok g):GCallE Tryz.prog 95 [.bx 1001 0 0,.d (.row o.row)] (GE fr g t) (λt':GT=>some (GE fr (g.step o).1 t',.d (ansA (g.step o).2))):=by
 refine GC_EL Tryz.func95 Tryz.ntmps95 (ReadsS.cN Tryz.results95 Tryz.isAgg37 Tryz.sizeOf37) λhok hokB M0 w0 hl=>?_
 obtain⟨ad,had⟩:∃ad,atV fr g o.site=.pointer ad:=by
  rcases atV_cases hf hg.sl o.site with⟨_,h⟩|⟨_,_,a,h⟩
  ·exact⟨_,h⟩
  ·exact⟨_,h⟩
 have hsl:=hf.sl
 refine Aw_sr ?_
 refine Al_p Pu_bN ?_
 refine Al_al Tryz.zeroValue37 λg4=>?_
 refine Al_ns ?_
 refine Al_ml ?_
 refine Al_p (Pu_fd 2 Tryz.underlying41 Tryz.sizeOf3) ?_
 refine Al_p (Pu_l1 Tryz.isAgg3) ?_
 refine Al_p (Pu_gcall [(1001,1001,0),(1002,1002,0),(1003,1003,0),(1004,1004,0),(1005,1005,0),(1006,1006,0),(1007,1007,0)] (gat_g fr g t o.site hf hg.sl) (GE_in ..) rfl ⟨rfl,rfl,rfl,rfl,rfl,rfl,rfl,trivial⟩ rfl ⟨Sub.rfl,Sub.rfl,trivial⟩) ?_
 refine Al_mr ?_
 refine Al_nil (Aw_seq (Aw_sr ?_))
 refine Al_ml ?_
 refine Al_p (Pu_eqnilV had Tryz.underlying92 rfl rfl) ?_
 refine Al_nil ?_
 refine Aw_cond rfl (λh13=>?_) (λh13=>?_)
 ·(try simp only[A.cd_]at h13)
  have e1:g.step o=(g,1,[]):=by
   rcases atV_cases hf hg.sl o.site with⟨h,_⟩|⟨_,_,a,h⟩
   ·unfold PG.step;rw[h];rfl
   ·rw[had]at h;cases h;simp at h13
  refine Aw_sr ?_
  refine Al_p (Pu_call (gtold_a 6 1) rfl ⟨Sub.rfl,trivial⟩) ?_
  refine Al_sN Tryz.isAgg37 Tryz.sizeOf37 ?_
  refine Al_nil ?_
  exact Aw_ret (⟨t,_,_,[],rfl,⟨_,rfl,_,_,_,_,_,[_,_],rfl,rfl,rfl,rfl,by rw[e1]<;>rfl⟩,⟨by rw[e1]<;>rfl,rfl,by rw[e1]<;>rfl,by rw[e1]<;>rfl,by rw[e1]<;>rfl,by rw[e1]<;>rfl,rfl,trivial⟩,rfl⟩)
 ·(try simp only[A.cd_]at h13)
  obtain⟨hS,hav⟩:g.isS o.site=true∧atV fr g o.site=fr.sp.getD o.site.toNat default:=by
   rcases atV_cases hf hg.sl o.site with⟨_,h⟩|⟨h,h2,_⟩
   ·rw[had]at h;cases h;simp at h13
   ·exact⟨h,h2⟩
  obtain⟨hs0,hsn⟩:=PG.isS_iff hS
  have hi:o.site.toNat<g.S.length:=by rw[hg.sl];exact hsn
  have hp:(g.S.getD o.site.toNat default).Ok m:=hg.site (i:=o.site) hsn
  refine Aw_skip (Aw_sr ?_)
  refine Al_ml ?_
  refine Al_gcallE [(1001,1005,0)] [] (gsStep_g hsl hi hp (by omega)) rfl rfl rfl (by decide) (by kernel_rfl) ⟨rfl,trivial⟩ (λ_=>rfl) rfl rfl ⟨by rw[←hav];exact Sub.rfl,trivial⟩ ?_
  rintro F g17
  refine Al_ml ?_
  refine Al_p Pu_ex ?_
  refine Al_p Pu_ex ?_
  refine Al_al Tryz.zeroValue50 λg6=>?_
  refine Al_sN Tryz.isAgg50 Tryz.sizeOf50 ?_
  refine Al_mr ?_
  refine Al_nil (Aw_seq (Aw_sr ?_))
  refine Al_ml ?_
  refine Al_p Pu_n ?_
  refine Al_nil ?_
  refine Aw_cond rfl (λh21=>?_) (λh21=>?_)
  ·skip
   have hn:(g.site o.site).stepV=none:=by
    have h1:(!(g.site o.site).stepV.isSome)=true:=h21
    cases hx:(g.site o.site).stepV with
    | none=>rfl
    | some v=>rw[hx]at h1;cases h1
   have e1:g.step o=(g,12,[]):=by unfold PG.step;rw[hS,hn];rfl
   have hws:g.S.set o.site.toNat (g.S.getD o.site.toNat default).step=g.S:=by
    have:(g.S.getD o.site.toNat default).step=g.S.getD o.site.toNat default:=by
     show(g.site o.site).step=g.site o.site
     unfold PS.step;rw[hn]
    rw[this];exact congrArg PG.S (g.setS_self o.site)
   refine Aw_sr ?_
   refine Al_p (Pu_call (gtold_a 6 12) rfl ⟨Sub.rfl,trivial⟩) ?_
   refine Al_sN Tryz.isAgg37 Tryz.sizeOf37 ?_
   refine Al_nil ?_
   exact Aw_ret (⟨{t with Fs:=F},_,_,[],rfl,⟨_,rfl,_,_,_,_,_,[_,_],rfl,rfl,rfl,rfl,by rw[e1]<;>rfl⟩,⟨by rw[e1]<;>rfl,rfl,by rw[e1]<;>rfl,by rw[e1]<;>rfl,by rw[hws,e1];rfl,by rw[e1]<;>rfl,rfl,trivial⟩,rfl⟩)
  ·skip
   obtain⟨v,hvs⟩:∃v,(g.site o.site).stepV=some v:=by
    have h1:(!(g.site o.site).stepV.isSome)=false:=h21
    cases hx:(g.site o.site).stepV with
    | none=>rw[hx]at h1;cases h1
    | some v=>exact⟨v,rfl⟩
   have e1:g.step o=(g.setS o.site (g.site o.site).step,0,[(g.site o.site).stepV.getD default]):=by unfold PG.step;rw[hS,hvs];rfl
   refine Aw_skip (Aw_sr ?_)
   refine Al_p (Pu_lbN (r:=[_,_,_,_,_,_]) Tryz.isAgg50 Tryz.sizeOf50) ?_
   refine Al_p (Pu_slice1 rfl Tryz.underlying35 Tryz.sizeOf50 Tryz.zeroValue50 rfl (by decide) (by decide) (by kernel_rfl) rfl rfl rfl) ?_
   refine Al_p (Pu_call (gfound_a [(g.site o.site).stepV.getD default]) rfl ⟨Sub.rfl,trivial⟩) ?_
   refine Al_sN Tryz.isAgg37 Tryz.sizeOf37 ?_
   refine Al_nil ?_
   exact Aw_ret (⟨{t with Fs:=F},_,_,[],rfl,⟨_,rfl,_,_,_,_,_,[_,_],rfl,rfl,rfl,rfl,by rw[e1]<;>rfl⟩,⟨by rw[e1]<;>rfl,rfl,by rw[e1]<;>rfl,by rw[e1]<;>rfl,by rw[e1]<;>rfl,by rw[e1]<;>rfl,rfl,trivial⟩,rfl⟩)
theorem PG.fly_ask (g:PG) {np:List Value}(hl:np.length=g.Y.length) (a b:Int):(N.ask g.n (N.vX np g.Y) a b [] (·.way)).length=g.fly a b:=by
 rw[N.vAsk hl]
 unfold PG.fly PG.ses
 cases N.vAt g.n g.Y a b with
 | none=>rfl
 | some s=>exact s.ses_inj_len.2
theorem FR.Ok.updY {fr:FR}{g:PG}(h:fr.Ok g) (a b:Int) (f:VS→VS):fr.Ok (g.updY a b f):=⟨h.sl,by rw[h.nl];exact(N.vUpd_len ..).symm,h.np,h.sp,h.s6⟩
theorem PG.ses_idx {g:PG}{a b:Int}{s:VS}(h:g.ses a b=some s):a=(a.toNat:Int)∧a.toNat<g.n∧b=(b.toNat:Int)∧b.toNat<g.n:=by
 unfold PG.ses N.vAt at h
 obtain⟨i,hi,_⟩:=Option.bind_eq_some_iff.1 h
 have:=N.idx_some hi
 omega
set_option maxHeartbeats 4000000 in
theorem gpick_g (fr:FR) (g:PG) (t:GT) (o:SOp) {m:Nat}(hg:g.Ok m) (hm:m≤900) (hf:fr.Ok g):GCallE Tryz.prog 93 [.bx 1001 0 0,.d (.row o.row)] (GE fr g t) (λt':GT=>some (GE fr (g.pick o).1 t',.d (ansA (g.pick o).2))):=by
 refine GC_EL Tryz.func93 Tryz.ntmps93 (ReadsS.cN Tryz.results93 Tryz.isAgg37 Tryz.sizeOf37) λhok hokB M0 w0 hl=>?_
 have hnl:=hf.nl
 have hsl:=hf.sl
 have hpl:=N.vX_places (Y:=g.Y) hf.np
 have hY:∀s∈g.Y,s.Fit 1000:=λs hs=>(hg.yf s hs).mono (by omega)
 have hfl:=PG.fly_ask g hnl o.site o.to'
 refine Aw_sr ?_
 refine Al_p Pu_bN ?_
 refine Al_al Tryz.zeroValue37 λg4=>?_
 refine Al_nil (Aw_seq ?_)
 refine Aw_dr 9 ?_
 refine Dr_ml ?_
 refine Dr_p Pu_nb ?_
 refine Dr_p (Pu_fb 4 Tryz.underlying91 Tryz.sizeOf83) ?_
 refine Dr_p (Pu_lb Tryz.isAgg83) ?_
 refine Dr_p (Pu_fd 2 Tryz.underlying41 Tryz.sizeOf3) ?_
 refine Dr_p (Pu_l1 Tryz.isAgg3) ?_
 refine Dr_p (Pu_fd 3 Tryz.underlying41 Tryz.sizeOf3) ?_
 refine Dr_p (Pu_l1 Tryz.isAgg3) ?_
 refine Dr_p (Pu_gcall [(1001,1002,0),(1002,1003,0),(1003,1004,0)] (ntFly_g g.n fr.b fr.cnt t.Fn (N.vX fr.np g.Y) o.site o.to' hpl (N.vX_fit hY)) (NT_in ..) rfl ⟨rfl,rfl,rfl,trivial⟩ rfl ⟨Sub.rfl,Sub.rfl,Sub.rfl,trivial⟩) ?_
 refine Dr_nil ?_
 refine Al_mr ?_
 refine Al_nil (Aw_seq (Aw_sr ?_))
 refine Al_p (Pu_fd 4 Tryz.underlying41 Tryz.sizeOf3) ?_
 refine Al_p (Pu_l1 Tryz.isAgg3) ?_
 refine Al_p Pu_cp ?_
 refine Al_ml ?_
 refine Al_s (St_g [] trivial (λ_=>Pu_fd 4 Tryz.underlying41 Tryz.sizeOf3)) ?_
 refine Al_s (St_g [26] ⟨⟨_,rfl⟩,trivial⟩ (λ_=>Pu_l1 Tryz.isAgg3)) ?_
 refine Al_s (St_g [] trivial (λ_=>Pu_mvl)) ?_
 refine Al_s (St_g [28] ⟨⟨_,rfl⟩,trivial⟩ (λ_=>Pu_ln Tryz.underlying103)) ?_
 refine Al_s (St_g [27,29] ⟨⟨_,rfl⟩,⟨_,rfl⟩,trivial⟩ (λ_=>Pu_cp)) ?_
 refine Al_p Pu_o ?_
 refine Al_nil ?_
 refine Aw_cond rfl (λh31=>?_) (λh31=>?_)
 ·skip
  have h0:(decide (o.at'<0)||decide (((N.ask g.n (N.vX fr.np g.Y) o.site o.to' [] (·.way)).length:Int)≤o.at'))=true:=h31
  rw[hfl]at h0
  simp only[Bool.or_eq_true,decide_eq_true_eq]at h0
  have e1:g.pick o=(g,12,[]):=by
   unfold PG.pick
   cases hx:g.ses o.site o.to' with
   | none=>rfl
   | some s =>
    have hw:s.inW o.at'=false:=by
     have hfy:g.fly o.site o.to'=s.way.length:=by unfold PG.fly;rw[hx]
     rw[hfy]at h0
     unfold VS.inW
     simp only[Bool.and_eq_false_iff,decide_eq_false_iff_not]
     omega
    simp only[hw,if_true]
  refine Aw_sr ?_
  refine Al_p (Pu_call (gtold_a 6 12) rfl ⟨Sub.rfl,trivial⟩) ?_
  refine Al_sN Tryz.isAgg37 Tryz.sizeOf37 ?_
  refine Al_nil ?_
  exact Aw_ret (⟨t,_,_,[],rfl,⟨_,rfl,_,_,_,_,_,[_,_],rfl,rfl,rfl,rfl,by rw[e1]<;>rfl⟩,⟨by rw[e1]<;>rfl,rfl,by rw[e1]<;>rfl,by rw[e1]<;>rfl,by rw[e1]<;>rfl,by rw[e1]<;>rfl,rfl,trivial⟩,rfl⟩)
 ·skip
  have h0:(decide (o.at'<0)||decide (((N.ask g.n (N.vX fr.np g.Y) o.site o.to' [] (·.way)).length:Int)≤o.at'))=false:=h31
  rw[hfl]at h0
  simp only[Bool.or_eq_false_iff,decide_eq_false_iff_not]at h0
  obtain⟨s,hx⟩:∃s,g.ses o.site o.to'=some s:=by
   cases hx:g.ses o.site o.to' with
   | none =>
    have hfy:g.fly o.site o.to'=0:=by unfold PG.fly;rw[hx]
    rw[hfy]at h0;omega
   | some s=>exact⟨s,rfl⟩
  have hw:s.inW o.at'=true:=by
   have hfy:g.fly o.site o.to'=s.way.length:=by unfold PG.fly;rw[hx]
   rw[hfy]at h0
   unfold VS.inW
   simp only[Bool.and_eq_true,decide_eq_true_eq]
   omega
  obtain⟨ha0,han,hb0,hbn⟩:=PG.ses_idx hx
  have hsf:=hg.yf s (N.vAt_mem hx)
  have hat:N.at' g.n (N.vX fr.np g.Y) o.site o.to'=some s.ses:=by rw[N.vAt_ses hnl];exact congrArg (Option.map VS.ses) hx
  have hws:N.inW s.ses o.at'=true:=by rw[VS.inW_ses];exact hw
  have hst:N.upd g.n (N.vX fr.np g.Y) o.site o.to' (λs=>N.pick s o.at' o.how)=N.vX fr.np (N.vUpd g.n g.Y o.site o.to' (·.pick o.at' o.how)):=N.vUpd_ses hnl _ _ λs' hs'=>by
   rw[show N.vAt g.n g.Y o.site o.to'=some s from hx]at hs'
   cases hs'
   exact VS.pick_ses _ hw
  have hmp:mapP g.n fr.b fr.cnt (N.upd g.n (N.vX fr.np g.Y) o.site o.to' (λs=>N.pick s o.at' o.how))=mapP g.n fr.b fr.cnt (N.vX fr.np (N.vUpd g.n g.Y o.site o.to' (·.pick o.at' o.how))):=by rw[mapP_upd,mapP_v hnl]
  have hwo:=VS.would_ses hw
  refine Aw_skip ?_
  refine Aw_seq ?_
  refine Aw_drawP 12 4 (by kernel_rfl) (by kernel_rfl) rfl ?_
  refine Dr_ml ?_
  refine Dr_p Pu_nb ?_
  refine Dr_p (Pu_fb 4 Tryz.underlying91 Tryz.sizeOf83) ?_
  refine Dr_p (Pu_lb Tryz.isAgg83) ?_
  refine Dr_p (Pu_fd 2 Tryz.underlying41 Tryz.sizeOf3) ?_
  refine Dr_p (Pu_l1 Tryz.isAgg3) ?_
  refine Dr_p (Pu_fd 3 Tryz.underlying41 Tryz.sizeOf3) ?_
  refine Dr_p (Pu_l1 Tryz.isAgg3) ?_
  refine Dr_p (Pu_fd 4 Tryz.underlying41 Tryz.sizeOf3) ?_
  refine Dr_p (Pu_l1 Tryz.isAgg3) ?_
  refine Dr_p (Pu_gcall [(1001,1002,0),(1002,1003,0),(1003,1004,0)] ((ntTakes_g g.n fr.b fr.cnt t.Fn (N.vX fr.np g.Y) o.site o.to' o.at' s.ses hat hws (N.vX_fit hY)).tup) (NT_in ..) rfl ⟨rfl,rfl,rfl,trivial⟩ rfl ⟨Sub.rfl,Sub.rfl,Sub.rfl,Sub.rfl,trivial⟩) ?_
  refine Dr_ml ?_
  refine Dr_nil ?_
  refine Ad_t 12 rfl PuI_ex ?_
  refine Ad_t 13 rfl PuI_ex ?_
  refine Ad_t 14 rfl (PuI_move (.inr rfl) (by conv=>lhs;whnf)) ?_
  refine Ad_t 15 rfl (PuI_move (.inr rfl) (by conv=>lhs;whnf)) ?_
  refine Ad_d ?_
  refine Aw_sr ?_
  refine Al_p (Pu_fd 5 Tryz.underlying41 Tryz.sizeOf3) ?_
  refine Al_p (Pu_l1 Tryz.isAgg3) ?_
  refine Al_p (Pu_int_and (r:=N.hw3 o.how) rfl rfl rfl rfl (λ_=>V.i64_ok _)) ?_
  refine Al_mr ?_
  refine Al_nil (Aw_seq (Aw_sr ?_))
  refine Al_ml ?_
  refine Al_p Pu_cp ?_
  refine Al_ml ?_
  refine Al_s (St_g [] trivial (λ_=>Pu_mvl)) ?_
  refine Al_s (St_g [53] ⟨⟨_,rfl⟩,trivial⟩ (λ_=>Pu_cp)) ?_
  refine Al_p Pu_o ?_
  refine Al_ml ?_
  refine Al_s (St_g [] trivial (λ_=>Pu_mvl)) ?_
  refine Al_s (St_g [57] ⟨⟨_,rfl⟩,trivial⟩ (λ_=>Pu_n)) ?_
  refine Al_p Pu_o ?_
  refine Al_nil ?_
  refine Aw_cond rfl (λh59=>?_) (λh59=>?_)
  ·skip
   have h1:(decide (N.hw3 o.how=1)||decide (N.hw3 o.how=2)||!N.would s.ses o.at')=true:=h59
   rw[hwo]at h1
   simp only[Bool.or_eq_true,decide_eq_true_eq,Bool.not_eq_true']at h1
   have e1:g.pick o=(g.updY o.site o.to' (·.pick o.at' o.how),0,[]):=by
    unfold PG.pick
    rw[hx]
    simp only[hw]
    rw[if_neg (by simp),if_pos (by rcases h1 with(h|h)|h;exact .inl h;exact .inr (.inl h);exact .inr (.inr h))]
   refine Aw_seq ?_
   refine Aw_drawP 12 1 (by kernel_rfl) (by kernel_rfl) rfl ?_
   refine Dr_ml ?_
   refine Dr_p Pu_nb ?_
   refine Dr_p (Pu_fb 4 Tryz.underlying91 Tryz.sizeOf83) ?_
   refine Dr_p (Pu_lb Tryz.isAgg83) ?_
   refine Dr_p (Pu_fd 2 Tryz.underlying41 Tryz.sizeOf3) ?_
   refine Dr_p (Pu_l1 Tryz.isAgg3) ?_
   refine Dr_p (Pu_fd 3 Tryz.underlying41 Tryz.sizeOf3) ?_
   refine Dr_p (Pu_l1 Tryz.isAgg3) ?_
   refine Dr_p (Pu_fd 4 Tryz.underlying41 Tryz.sizeOf3) ?_
   refine Dr_p (Pu_l1 Tryz.isAgg3) ?_
   refine Dr_p (Pu_fd 5 Tryz.underlying41 Tryz.sizeOf3) ?_
   refine Dr_p (Pu_l1 Tryz.isAgg3) ?_
   refine Dr_nil ?_
   refine Ad_o 12 ?_
   refine Al_gcallE [(1001,1002,0),(1002,1003,0),(1003,1004,0)] [] (ntPick_g g.n fr.b fr.cnt t.Fn (N.vX fr.np g.Y) o.site o.to' o.at' o.how s.ses hat hws (N.vX_fit hY)) rfl rfl rfl (by decide) (by kernel_rfl) ⟨rfl,rfl,rfl,trivial⟩ (λ_=>rfl) rfl rfl ⟨Sub.rfl,Sub.rfl,Sub.rfl,Sub.rfl,Sub.rfl,trivial⟩ ?_
   rintro F g72
   refine Al_nil ?_
   refine Ad_d ?_
   refine Aw_sr ?_
   refine Al_p (Pu_build (aa:=[]) rfl Tryz.underlying37 Tryz.zeroValue37 places37 (by kernel_rfl) trivial rfl) ?_
   refine Al_sN Tryz.isAgg37 Tryz.sizeOf37 ?_
   refine Al_nil ?_
   refine Aw_boxle (k:=4) ([iv 0,versA []].map .d) rfl ⟨Sub.rfl,Sub.nil,trivial⟩ ?_
   exact Aw_ret (⟨{t with Fn:=F},_,_,[],rfl,⟨_,rfl,_,_,_,_,_,[_,_],rfl,rfl,rfl,rfl,by rw[e1]<;>rfl⟩,⟨by rw[e1];rfl,rfl,by rw[e1];exact A.obE hmp,by rw[e1];exact A.obE (congrArg (λX=>AO.op (starP SES F X)) hst),by rw[e1];rfl,by rw[e1];rfl,rfl,trivial⟩,rfl⟩)
  ·skip
   have h1:(decide (N.hw3 o.how=1)||decide (N.hw3 o.how=2)||!N.would s.ses o.at')=false:=h59
   rw[hwo]at h1
   simp only[Bool.or_eq_false_iff,decide_eq_false_iff_not,Bool.not_eq_false']at h1
   obtain⟨⟨hh1,hh2⟩,hwd⟩:=h1
   have hD:=VS.wouldD_ses hw hwd
   have hvk:J.checkB (s.at' o.at').2=true:=hsf.vw _ (VS.mem_at hw)
   have hto:(T.next g.c o.to'.toNat o.site (s.at' o.at').2.key).length≤6:=Nat.le_trans (T.next_len ..) hg.par.le
   have hnx:=next_a g.c hg.par hg.row o.to'.toNat hbn o.site (s.at' o.at').2.key
   rw[←hb0]at hnx
   have hi:o.to'.toNat<g.S.length:=by rw[hg.sl];exact hbn
   have hisp:o.to'.toNat<fr.sp.length:=by rw[hsl];exact hi
   have hp:(g.S.getD o.to'.toNat default).Ok m:=hg.site (i:=o.to') hbn
   refine Aw_skip (Aw_sr ?_)
   refine Al_ml ?_
   refine Al_p (Pu_call (wireread_a (s.at' o.at').2 hvk) rfl ⟨Sub.d (by rw[hD]),trivial⟩) ?_
   refine Al_ml ?_
   refine Al_p Pu_ex ?_
   refine Al_p Pu_ex ?_
   refine Al_al Tryz.zeroValue50 λg9=>?_
   refine Al_sN Tryz.isAgg50 Tryz.sizeOf50 ?_
   refine Al_mr ?_
   refine Al_nil (Aw_seq ?_)
   refine Aw_dr 8 ?_
   refine Dr_ml ?_
   refine Dr_p Pu_nb ?_
   refine Dr_p (Pu_fb 3 Tryz.underlying91 Tryz.sizeOf85) ?_
   refine Dr_p (Pu_lb Tryz.isAgg85) ?_
   refine Dr_p (Pu_fd 3 Tryz.underlying41 Tryz.sizeOf3) ?_
   refine Dr_p (Pu_l1 Tryz.isAgg3) ?_
   refine Dr_p (Pu_indexX (j:=o.to'.toNat) (k:=1007) rfl Tryz.underlying85 Tryz.sizeOf92 rfl rfl rfl hb0 (by rw[List.length_map];exact hisp)) ?_
   refine Dr_p (Pu_loadX1 (k:=1007) rfl Tryz.isAgg92 rfl rfl (sp_at hisp)) ?_
   refine Dr_nil ?_
   refine Al_mr ?_
   refine Al_nil (Aw_seq ?_)
   refine Aw_dr 11 ?_
   refine Dr_ml ?_
   refine Dr_p Pu_nb ?_
   refine Dr_p (Pu_fb 0 Tryz.underlying91 Tryz.sizeOf30) ?_
   refine Dr_p (Pu_lbN (r:=[_,_,_]) Tryz.isAgg30 Tryz.sizeOf30) ?_
   refine Dr_p (Pu_fd 3 Tryz.underlying41 Tryz.sizeOf3) ?_
   refine Dr_p (Pu_l1 Tryz.isAgg3) ?_
   refine Dr_p (Pu_fd 2 Tryz.underlying41 Tryz.sizeOf3) ?_
   refine Dr_p (Pu_l1 Tryz.isAgg3) ?_
   refine Dr_p (Pu_fb 0 Tryz.underlying50 Tryz.sizeOf9) ?_
   refine Dr_p (Pu_lb Tryz.isAgg9) ?_
   refine Dr_p (Pu_call (hnx) rfl ⟨Sub.rfl,Sub.rfl,Sub.rfl,Sub.rfl,trivial⟩) ?_
   refine Dr_nil ?_
   refine Al_mr ?_
   refine Al_nil (Aw_seq (Aw_seq ?_))
   refine Aw_dr 18 ?_
   refine Dr_ml ?_
   refine Dr_p (Pu_gcall [(1001,1005,0)] (gsOwn_g hsl hi hp) (SX_in ..) rfl ⟨rfl,trivial⟩ rfl ⟨Sub.rfl,trivial⟩) ?_
   refine Dr_p (Pu_fb 0 Tryz.underlying50 Tryz.sizeOf9) ?_
   refine Dr_p (Pu_lb Tryz.isAgg9) ?_
   refine Dr_p (Pu_call (find_a (g.S.getD o.to'.toNat default).rs (s.at' o.at').2.key hp.rl) rfl ⟨Sub.rfl,Sub.rfl,trivial⟩) ?_
   refine Dr_p Pu_cp ?_
   refine Dr_ml ?_
   refine Dr_s (St_g [] trivial (λ_=>Pu_mvl)) ?_
   refine Dr_s (St_g [105] ⟨⟨_,rfl⟩,trivial⟩ (λ_=>Pu_gcall [(1001,1005,0)] (gsWaiting_g hsl hi) (SX_in ..) rfl ⟨rfl,trivial⟩ rfl ⟨Sub.rfl,trivial⟩)) ?_
   refine Dr_s (St_g [106] ⟨⟨_,rfl⟩,trivial⟩ (λ_=>Pu_cp)) ?_
   refine Dr_p Pu_a ?_
   refine Dr_ml ?_
   refine Dr_s (St_g [] trivial (λ_=>Pu_mvl)) ?_
   refine Dr_s (St_g [] trivial (λ_=>Pu_fd 3 Tryz.underlying41 Tryz.sizeOf3)) ?_
   refine Dr_s (St_g [111] ⟨⟨_,rfl⟩,trivial⟩ (λ_=>Pu_l1 Tryz.isAgg3)) ?_
   refine Dr_s (St_g [] trivial (λ_=>Pu_mvl)) ?_
   refine Dr_s (St_gd [110,112,113] rfl rfl rfl rfl ⟨⟨_,rfl⟩,⟨_,rfl⟩,⟨_,rfl⟩,trivial⟩ (λhg114=>by exact Pu_gcall [(1001,1001,0),(1002,1002,0),(1003,1003,0),(1004,1004,0),(1005,1005,0),(1006,1006,0),(1007,1007,0)] (gfull_g fr g t o.to' (T.next g.c o.to'.toNat o.site (s.at' o.at').2.key) hf hY (by omega)) (GE_in ..) rfl ⟨rfl,rfl,rfl,rfl,rfl,rfl,rfl,trivial⟩ rfl ⟨Sub.rfl,Sub.rfl,Sub.rfl,trivial⟩)) ?_
   refine Dr_p Pu_o ?_
   refine Dr_nil (Al_nil ?_)
   refine Aw_cond rfl (λh115=>?_) (λh115=>?_)
   ·skip
    have h2:((decide (findR (g.site o.to').rs (s.at' o.at').2.key≥0)&&decide (((g.site o.to').wait.length:Int)≥24))||g.full o.to' (g.pickT o (s.at' o.at').2))=true:=h115
    simp only[Bool.or_eq_true,Bool.and_eq_true,decide_eq_true_eq]at h2
    have e1:g.pick o=(g,15,[]):=by
     unfold PG.pick
     rw[hx]
     simp only[hw]
     rw[if_neg (by simp),if_neg (by rintro(h|h|h);exact hh1 h;exact hh2 h;rw[hwd]at h;cases h),if_pos (by rcases h2 with h|h;exact .inl ⟨h.1,by omega⟩;exact .inr h)]
    refine Aw_sr ?_
    refine Al_p (Pu_call (gtold_a 6 15) rfl ⟨Sub.rfl,trivial⟩) ?_
    refine Al_sN Tryz.isAgg37 Tryz.sizeOf37 ?_
    refine Al_nil ?_
    exact Aw_ret (⟨t,_,_,[],rfl,⟨_,rfl,_,_,_,_,_,[_,_],rfl,rfl,rfl,rfl,by rw[e1]<;>rfl⟩,⟨by rw[e1]<;>rfl,rfl,by rw[e1]<;>rfl,by rw[e1]<;>rfl,by rw[e1]<;>rfl,by rw[e1]<;>rfl,rfl,trivial⟩,rfl⟩)
   ·skip
    have h2:((decide (findR (g.site o.to').rs (s.at' o.at').2.key≥0)&&decide (((g.site o.to').wait.length:Int)≥24))||g.full o.to' (g.pickT o (s.at' o.at').2))=false:=h115
    have e1:g.pick o=(((g.updY o.site o.to' (·.pick o.at' o.how)).setS o.to' ((g.site o.to').arrive (s.at' o.at').2)).send o.to' (T.next g.c o.to'.toNat o.site (s.at' o.at').2.key) (s.at' o.at').2,0,[(s.at' o.at').2]):=by
     unfold PG.pick
     rw[hx]
     simp only[hw]
     rw[if_neg (by simp),if_neg (by rintro(h|h|h);exact hh1 h;exact hh2 h;rw[hwd]at h;cases h),if_neg (by
      simp only[Bool.or_eq_false_iff,Bool.and_eq_false_iff,decide_eq_false_iff_not]at h2
      rintro(h|h)
      ·obtain⟨h3,h4⟩:=h2;omega
      ·rw[h2.2]at h;cases h)]
     rfl
    have hf2:fr.Ok ((g.updY o.site o.to' (·.pick o.at' o.how)).setS o.to' ((g.site o.to').arrive (s.at' o.at').2)):=(hf.updY ..).setS ..
    have hY2:∀s'∈N.vUpd g.n g.Y o.site o.to' (·.pick o.at' o.how),s'.Fit (m+33):=N.vUpd_fit (m:=m) (m':=m+33) hg.yf (by omega) λs' hs'=>by
     rw[show N.vAt g.n g.Y o.site o.to'=some s from hx]at hs'
     cases hs'
     exact((hsf.mono (m':=m+32) (by omega)).pick _ hw (by omega))
    refine Aw_skip ?_
    refine Aw_seq ?_
    refine Aw_drawP 12 1 (by kernel_rfl) (by kernel_rfl) rfl ?_
    refine Dr_ml ?_
    refine Dr_p Pu_nb ?_
    refine Dr_p (Pu_fb 4 Tryz.underlying91 Tryz.sizeOf83) ?_
    refine Dr_p (Pu_lb Tryz.isAgg83) ?_
    refine Dr_p (Pu_fd 2 Tryz.underlying41 Tryz.sizeOf3) ?_
    refine Dr_p (Pu_l1 Tryz.isAgg3) ?_
    refine Dr_p (Pu_fd 3 Tryz.underlying41 Tryz.sizeOf3) ?_
    refine Dr_p (Pu_l1 Tryz.isAgg3) ?_
    refine Dr_p (Pu_fd 4 Tryz.underlying41 Tryz.sizeOf3) ?_
    refine Dr_p (Pu_l1 Tryz.isAgg3) ?_
    refine Dr_p (Pu_fd 5 Tryz.underlying41 Tryz.sizeOf3) ?_
    refine Dr_p (Pu_l1 Tryz.isAgg3) ?_
    refine Dr_nil ?_
    refine Ad_o 12 ?_
    refine Al_gcallE [(1001,1002,0),(1002,1003,0),(1003,1004,0)] [] (ntPick_g g.n fr.b fr.cnt t.Fn (N.vX fr.np g.Y) o.site o.to' o.at' o.how s.ses hat hws (N.vX_fit hY)) rfl rfl rfl (by decide) (by kernel_rfl) ⟨rfl,rfl,rfl,trivial⟩ (λ_=>rfl) rfl rfl ⟨Sub.rfl,Sub.rfl,Sub.rfl,Sub.rfl,Sub.rfl,trivial⟩ ?_
    rintro F g129
    refine Al_nil ?_
    refine Ad_d ?_
    refine Aw_sr ?_
    refine Al_ml ?_
    refine Al_p (Pu_lbN (r:=[_,_,_,_,_,_]) Tryz.isAgg50 Tryz.sizeOf50) ?_
    refine Al_gcallE [(1001,1005,0)] [] (gsArrive_g hsl hi hp (by omega) (s.at' o.at').2) rfl rfl rfl (by decide) (by kernel_rfl) ⟨rfl,trivial⟩ (λ_=>rfl) rfl rfl ⟨Sub.rfl,Sub.rfl,trivial⟩ ?_
    rintro F2 g132
    refine Al_ns ?_
    refine Al_ml ?_
    refine Al_p (Pu_fd 3 Tryz.underlying41 Tryz.sizeOf3) ?_
    refine Al_p (Pu_l1 Tryz.isAgg3) ?_
    refine Al_ml ?_
    refine Al_p (Pu_lbN (r:=[_,_,_,_,_,_]) Tryz.isAgg50 Tryz.sizeOf50) ?_
    refine Al_gcallE [(1001,1001,0),(1002,1002,0),(1003,1003,0),(1004,1004,0),(1005,1005,0),(1006,1006,0),(1007,1007,0)] [] (gsend_g fr ((g.updY o.site o.to' (·.pick o.at' o.how)).setS o.to' ((g.site o.to').arrive (s.at' o.at').2)) ⟨F2,F,t.hv⟩ o.to' (T.next g.c o.to'.toNat o.site (s.at' o.at').2.key) (s.at' o.at').2 hvk hf2 (m:=m+33) hY2 (by omega)) rfl rfl rfl (by decide) (by kernel_rfl) ⟨rfl,rfl,A.obE hmp,A.obE (congrArg (λX=>AO.op (starP SES F X)) hst),rfl,rfl,rfl,trivial⟩ (λ_=>rfl) rfl rfl ⟨Sub.rfl,Sub.rfl,Sub.rfl,Sub.rfl,trivial⟩ ?_
    rintro F3 g138
    refine Al_ns ?_
    refine Al_p (Pu_lbN (r:=[_,_,_,_,_,_]) Tryz.isAgg50 Tryz.sizeOf50) ?_
    refine Al_p (Pu_slice1 rfl Tryz.underlying35 Tryz.sizeOf50 Tryz.zeroValue50 rfl (by decide) (by decide) (by kernel_rfl) rfl rfl rfl) ?_
    refine Al_p (Pu_call (gfound_a [(s.at' o.at').2]) rfl ⟨Sub.rfl,trivial⟩) ?_
    refine Al_sN Tryz.isAgg37 Tryz.sizeOf37 ?_
    refine Al_nil ?_
    exact Aw_ret (⟨⟨F2,F3,t.hv⟩,_,_,[],rfl,⟨_,rfl,_,_,_,_,_,[_,_],rfl,rfl,rfl,rfl,by rw[e1]<;>rfl⟩,⟨by rw[e1]<;>rfl,rfl,by rw[e1]<;>rfl,by rw[e1]<;>rfl,by rw[e1]<;>rfl,by rw[e1]<;>rfl,rfl,trivial⟩,rfl⟩)
end Go.Proofs.YtdnijgdmohinlaaGreat
end
section
set_option maxRecDepth 100000
namespace Go.Proofs.YtdnijgdmohinlaaGreat
open Go Go.RowKit A R
open A.RowT
namespace T
def pickR (s:Int) (l:List (Rng×Int)):List Rng:=(l.filter λp=>bit p.2.toNat s).map (·.1)
def rangesOf (c:SRow) (s:Int):List Rng:=if ok c then pickR s (c.ranges.zip c.owners)else[]
theorem pickR_snoc (s:Int) (l:List (Rng×Int)) {k:Nat}(hk:k<l.length):pickR s (l.take (k+1))=pickR s (l.take k)++(if bit l[k].2.toNat s then[l[k].1]else[]):=by
 unfold pickR
 rw[List.take_succ_eq_append_getElem hk,List.filter_append,List.map_append]
 cases h:bit l[k].2.toNat s<;>simp[List.filter_cons,h]
theorem pickR_len (s:Int) (l:List (Rng×Int)):(pickR s l).length≤l.length:=by unfold pickR;rw[List.length_map];exact List.length_filter_le _ _
theorem rangesOf_len (c:SRow) (s:Int):(rangesOf c s).length≤8:=by
 unfold rangesOf
 split
 ·rename_i h
  have h1:=(S.shape_facts (ok_facts h).1).2.2.1
  have h2:=pickR_len s (c.ranges.zip c.owners)
  rw[List.length_zip]at h2
  omega
 ·simp
end T
set_option maxHeartbeats 1000000 in
theorem tranges_a (c:SRow) (s:Int):ACall Tryz.prog 37 [.row c.row,iv s] (.sl 2 ((T.rangesOf c s).map Rng.row)):=by
 refine AC_G Tryz.func37 Tryz.ntmps37 (Reads.r1 Tryz.results37) λhok M0 w0 hnl=>?_
 refine Aw_sr ?_
 refine Al_p Pu_bN ?_
 refine Al_mr ?_
 refine Al_nil (Aw_scope (Aw_seq (Aw_sr ?_)))
 refine Al_p (Pu_lN Tryz.isAgg30 Tryz.sizeOf30) ?_
 refine Al_p (Pu_call (tcheck_a c) rfl ⟨Sub.rfl,trivial⟩) ?_
 refine Al_p Pu_n ?_
 refine Al_nil ?_
 refine Aw_cond rfl (λh10=>?_) (λh10=>?_)
 ·skip
  have hno:T.rangesOf c s=[]:=by
   unfold T.rangesOf;rw[if_neg];simpa using h10
  refine Aw_sr ?_
  refine Al_mr ?_
  refine Al_nil ?_
  refine Aw_ret ?_
  rw[hno];exact Sub.nil
 ·skip
  have hok2:T.ok c=true:=by simpa using h10
  have hR:T.rangesOf c s=T.pickR s (c.ranges.zip c.owners):=by unfold T.rangesOf;rw[if_pos hok2]
  obtain⟨hsh,hown⟩:=T.ok_facts hok2
  obtain⟨n1,n6,n8,no,_⟩:=S.shape_facts hsh
  have hz:(c.ranges.zip c.owners).length=c.ranges.length:=by rw[List.length_zip];omega
  refine Aw_skip (Aw_sr ?_)
  refine Al_mr ?_
  refine Al_nil (Aw_seq (Aw_label (Aw_seq (Aw_sr ?_))))
  refine Al_p (Pu_fd 0 Tryz.underlying30 Tryz.sizeOf28) ?_
  refine Al_p (Pu_l1 Tryz.isAgg28) ?_
  refine Al_p (Pu_ln Tryz.underlying28) ?_
  refine Al_ml ?_
  refine Al_nil (Aw_block ?_)
  refine Aw_own (j:=5) (k:=5) (T:=56) (n:=2) rfl (λg0=>?_)
  refine Aw_loopk (ι:=Nat×Nat) [1,2,12,13] [] (λ(k,g)=>[(14,.d (iv k)),(5,.ow 5 g)]) (λ(k,g)=>[(5,g,.arr 56 2 ((T.pickR s ((c.ranges.zip c.owners).take k)).map Rng.row))]) (λ(k,g)=>k≤c.ranges.length) (λ(k,g)=>c.ranges.length - k) ((0,g0)) (Nat.zero_le _) ⟨Sub.rfl,Sub.rfl,trivial⟩ ⟨rfl,trivial⟩ ?_
  rintro⟨k,g⟩ hk0
  refine Aw_sr ?_
  refine Al_p Pu_cp ?_
  refine Al_nil (Aw_seq ?_)
  refine Aw_cond rfl (λh15=>?_) (λh15=>?_)
  ·(try simp only[A.cd_]at h15)
   have hk:k<c.ranges.length:=by omega
   have hko:k<c.owners.length:=by omega
   have hkz:k<(c.ranges.zip c.owners).length:=by omega
   have hsn:=T.pickR_snoc s (c.ranges.zip c.owners) hkz
   have hpz:(c.ranges.zip c.owners)[k]=(c.ranges[k],c.owners[k]):=List.getElem_zip ..
   rw[hpz]at hsn
   have hpl:=T.pickR_len s ((c.ranges.zip c.owners).take k)
   rw[List.length_take]at hpl
   have ho:=hown _ (List.getElem_mem hko)
   have hpw:=T.pow_le n6
   have h3:((2^c.parents.length:Nat):Int)=(2:Int)^c.parents.length:=by rw[Int.natCast_pow];rfl
   refine Aw_skip ?_
   refine Aw_seq (Aw_block (Aw_sr ?_))
   refine Al_ml ?_
   refine Al_p (Pu_index rfl Tryz.underlying28 Tryz.sizeOf56 rfl rfl (rfl) (mapget hk)) ?_
   refine Al_p (Pu_lN Tryz.isAgg56 Tryz.sizeOf56) ?_
   refine Al_al Tryz.zeroValue56 λg7=>?_
   refine Al_mr ?_
   refine Al_sN Tryz.isAgg56 Tryz.sizeOf56 ?_
   refine Al_nil (Aw_seq (Aw_sr ?_))
   refine Al_p (Pu_fd 1 Tryz.underlying30 Tryz.sizeOf22) ?_
   refine Al_p (Pu_l1 Tryz.isAgg22) ?_
   refine Al_ml ?_
   refine Al_p (Pu_index rfl Tryz.underlying22 Tryz.sizeOf3 rfl rfl (rfl) (mapget hko)) ?_
   refine Al_p (Pu_l1 Tryz.isAgg3) ?_
   refine Al_ml ?_
   refine Al_p (Pu_call (has_a (c.owners[k]).toNat s (by omega)) rfl ⟨Sub.num (by omega),Sub.rfl,trivial⟩) ?_
   refine Al_p Pu_n ?_
   refine Al_nil ?_
   refine Aw_cond rfl (λh26=>?_) (λh26=>?_)
   ·skip
    have hb:T.bit (c.owners[k]).toNat s=false:=by simpa using h26
    refine Aw_exit (Aw_region ?_)
    refine Al_p Pu_ad ?_
    refine Al_ml ?_
    refine Al_nil ?_
    exact⟨(k+1,g),by omega,by simp only[];omega,Le.ov ⟨Sub.num (by omega),Sub.rfl,trivial⟩ ⟨Sub.rfl,Sub.rfl,Sub.rfl,Sub.rfl,trivial⟩ ⟨obeq (by rw[hsn,hb];simp),trivial⟩ trivial⟩
   ·skip
    have hb:T.bit (c.owners[k]).toNat s=true:=by simpa using h26
    refine Aw_skip (Aw_region ?_)
    refine Al_ml ?_
    refine Al_p (Pu_lbN (r:=[_,_]) Tryz.isAgg56 Tryz.sizeOf56) ?_
    refine Al_p (Pu_slice1 rfl Tryz.underlying28 Tryz.sizeOf56 Tryz.zeroValue56 rfl (by decide) (by decide) (by kernel_rfl) rfl rfl rfl) ?_
    refine Al_append rfl rfl rfl (by decide) (by kernel_rfl) elem28 (by decide) Tryz.sizeOf56 rfl rfl rfl (by simp;omega) (by decide) (λg30=>?_)
    refine Al_mr ?_
    refine Al_nil (Aw_region ?_)
    refine Al_p Pu_ad ?_
    refine Al_ml ?_
    refine Al_nil ?_
    exact⟨(k+1,g30),by omega,by simp only[];omega,Le.ov ⟨Sub.num (by omega),Sub.rfl,trivial⟩ ⟨Sub.rfl,Sub.rfl,Sub.rfl,Sub.rfl,trivial⟩ ⟨obeq (by rw[hsn,hb];simp[A.cellsA,Rng.row]),trivial⟩ trivial⟩
  ·(try simp only[A.cd_]at h15)
   have hkk:(c.ranges.zip c.owners).take k=c.ranges.zip c.owners:=List.take_of_length_le (by omega)
   refine Aw_exit (Aw_sr ?_)
   refine Al_ml ?_
   refine Al_mr ?_
   refine Al_nil ?_
   refine Aw_frz hnl (k:=5) [4] rfl ⟨rfl,trivial⟩ ?_
   exact Aw_ret (Sub.d (by rw[hkk,hR]))
end Go.Proofs.YtdnijgdmohinlaaGreat
end
section
set_option maxRecDepth 100000
namespace Go.Proofs.YtdnijgdmohinlaaGreat
open Go Go.RowKit A R
open A.RowT
set_option maxRecDepth 100000 in
theorem cloneRng_g (l:List Rng) (hl:l.length≤1000000):GCall Tryz.prog 81 [.d (.sl 2 (l.map Rng.row))] [] (some ([(1001,.arr 56 2 (l.map Rng.row))],.ow 1001 0)):=by
 refine GC_1 Tryz.func81 Tryz.ntmps81 (ReadsS.r1 Tryz.results81) λhok hokB M0 w0=>?_
 refine Aw_sr ?_
 refine Al_mr ?_
 refine Al_nil (Aw_seq (Aw_sr ?_))
 refine Al_ml ?_
 refine Al_eqnil rfl rfl rfl (by decide) (by kernel_rfl) Tryz.underlying28 rfl (λnl hnl=>?_)
 refine Al_nil ?_
 refine Aw_cond rfl (λh4=>?_) (λh4=>?_)
 ·(try simp only[A.cd_]at h4)
  refine Aw_sr ?_
  refine Al_mr ?_
  refine Al_nil ?_
  obtain rfl:l=[]:=by simpa using hnl h4
  refine Aw_own (j:=2) (k:=2) (T:=56) (n:=2) rfl (λg=>?_)
  exact Aw_ret (⟨_,_,[(1001,2,g)],rfl,Sub.rfl,⟨rfl,trivial⟩,rfl⟩)
 ·(try simp only[A.cd_]at h4)
  refine Aw_skip (Aw_sr ?_)
  refine Al_slice0 rfl rfl rfl (by decide) Tryz.underlying28 Tryz.sizeOf56 (λg5=>?_)
  refine Al_ml ?_
  refine Al_append rfl rfl rfl (by decide) (by kernel_rfl) elem28 (by decide) Tryz.sizeOf56 rfl rfl rfl (by simp;omega) (by decide) (λg7=>?_)
  refine Al_mr ?_
  refine Al_nil ?_
  exact Aw_ret (⟨_,_,[(1001,5,g7)],rfl,Sub.rfl,⟨rfl,trivial⟩,rfl⟩)
set_option maxRecDepth 100000 in
theorem cloneInt_g (l:List Int) (hl:l.length≤1000000):GCall Tryz.prog 82 [.d (.sl 1 (l.map (λx=>[iv x])))] [] (some ([(1001,.arr 3 1 (l.map (λx=>[iv x])))],.ow 1001 0)):=by
 refine GC_1 Tryz.func82 Tryz.ntmps82 (ReadsS.r1 Tryz.results82) λhok hokB M0 w0=>?_
 refine Aw_sr ?_
 refine Al_mr ?_
 refine Al_nil (Aw_seq (Aw_sr ?_))
 refine Al_ml ?_
 refine Al_eqnil rfl rfl rfl (by decide) (by kernel_rfl) Tryz.underlying22 rfl (λnl hnl=>?_)
 refine Al_nil ?_
 refine Aw_cond rfl (λh4=>?_) (λh4=>?_)
 ·(try simp only[A.cd_]at h4)
  refine Aw_sr ?_
  refine Al_mr ?_
  refine Al_nil ?_
  obtain rfl:l=[]:=by simpa using hnl h4
  refine Aw_own (j:=2) (k:=2) (T:=3) (n:=1) rfl (λg=>?_)
  exact Aw_ret (⟨_,_,[(1001,2,g)],rfl,Sub.rfl,⟨rfl,trivial⟩,rfl⟩)
 ·(try simp only[A.cd_]at h4)
  refine Aw_skip (Aw_sr ?_)
  refine Al_slice0 rfl rfl rfl (by decide) Tryz.underlying22 Tryz.sizeOf3 (λg5=>?_)
  refine Al_ml ?_
  refine Al_append rfl rfl rfl (by decide) (by kernel_rfl) elem22 (by decide) Tryz.sizeOf3 rfl rfl rfl (by simp;omega) (by decide) (λg7=>?_)
  refine Al_mr ?_
  refine Al_nil ?_
  exact Aw_ret (⟨_,_,[(1001,5,g7)],rfl,Sub.rfl,⟨rfl,trivial⟩,rfl⟩)
theorem gcopied_a (c:SRow) (h1:c.ranges.length≤1000000) (h2:c.owners.length≤1000000) (h3:c.parents.length≤1000000):ACall Tryz.prog 34 [.row c.row] (.row c.row):=by
 refine AC_G Tryz.func34 Tryz.ntmps34 (Reads.cN Tryz.results34 Tryz.isAgg30 Tryz.sizeOf30) λhok M0 w0 hnl=>?_
 refine Aw_sr ?_
 refine Al_p Pu_bN ?_
 refine Al_al Tryz.zeroValue30 λg2=>?_
 refine Al_nil (Aw_seq ?_)
 refine Aw_dr 10 ?_
 refine Dr_p (Pu_fd 0 Tryz.underlying30 Tryz.sizeOf28) ?_
 refine Dr_p (Pu_l1 Tryz.isAgg28) ?_
 refine Dr_p (Pu_call (GCall.a (aa:=[.sl 2 (c.ranges.map Rng.row)]) (cloneRng_g c.ranges h1)) rfl ⟨Sub.rfl,trivial⟩) ?_
 refine Dr_p (Pu_fd 1 Tryz.underlying30 Tryz.sizeOf22) ?_
 refine Dr_p (Pu_l1 Tryz.isAgg22) ?_
 refine Dr_p (Pu_call (GCall.a (aa:=[.sl 1 (c.owners.map λx=>[iv x])]) (cloneInt_g c.owners h2)) rfl ⟨Sub.rfl,trivial⟩) ?_
 refine Dr_p (Pu_fd 2 Tryz.underlying30 Tryz.sizeOf22) ?_
 refine Dr_p (Pu_l1 Tryz.isAgg22) ?_
 refine Dr_p (Pu_call (GCall.a (aa:=[.sl 1 (c.parents.map λx=>[iv x])]) (cloneInt_g c.parents h3)) rfl ⟨Sub.rfl,trivial⟩) ?_
 refine Dr_p (Pu_build (aa:=[(0,_),(1,_),(2,_)]) rfl Tryz.underlying30 Tryz.zeroValue30 places30 (by kernel_rfl) ⟨rfl,rfl,rfl,rfl,rfl,rfl,rfl,rfl,rfl,trivial⟩ rfl) ?_
 refine Dr_nil ?_
 refine Al_sN Tryz.isAgg30 Tryz.sizeOf30 ?_
 refine Al_nil ?_
 exact Aw_ret (⟨_,_,_,_,_,[_,_,_],rfl,rfl,rfl,rfl,rfl⟩)
namespace PG
def newK (c:SRow) (k:Nat):PG:=⟨c,(List.range c.parents.length).map λi=>PS.zero (i:Nat) (T.rangesOf c (i:Nat)),List.replicate (N.upto c.parents.length c.parents.length 0) ⟨0,[],0,[]⟩,λj=>if j<k then(((j%c.parents.length:Nat):Int),[])else(0,[]),λ_=>([],[]),[],[]⟩
def new (c:SRow):PG:=newK c 4
theorem newK_succ (c:SRow) {k:Nat}:newK c (k+1)=(newK c k).setC (k:Int) (((k%c.parents.length:Nat):Int),[]):=by
 unfold newK setC
 simp only[Int.toNat_natCast]
 congr 1
 funext j
 by_cases h:j=k
 ·subst h;rw[if_pos (by omega),if_pos rfl]
 ·rw[if_neg h]
  by_cases h2:j<k
  ·rw[if_pos (by omega),if_pos h2]
  ·rw[if_neg (by omega),if_neg h2]
theorem new_ok {c:SRow}(hp:T.Ahead c.parents) (hc:T.ok c=true):(new c).Ok 32 where
 par:=hp
 row:=hc
 sl:=by simp[new,newK,PG.n]
 so p hp2:=by
  obtain⟨i,hi,rfl⟩:=List.mem_map.1 hp2
  have h6:=hp.le
  rw[List.mem_range]at hi
  exact(PS.Ok.zero ⟨by omega,by omega⟩ (Nat.le_trans (T.rangesOf_len ..) (by decide))).mono (by decide)
 yl:=by simp[new,newK,PG.n]
 yf s hs:=by
  obtain⟨_,rfl⟩:=List.mem_replicate.1 hs
  exact⟨by decide,by decide,by decide,by decide,λp hp=>(by cases hp),λp hp=>by cases hp⟩
 cs k:=by
  have h1:=hp.pos
  show -1≤(if k<4 then(((k%c.parents.length:Nat):Int),([]:List Dep))else(0,[])).1∧(if k<4 then(((k%c.parents.length:Nat):Int),([]:List Dep))else(0,[])).1<(c.parents.length:Int)∧(if k<4 then(((k%c.parents.length:Nat):Int),([]:List Dep))else(0,[])).2.length≤400
  have h2:=Nat.mod_lt k (show c.parents.length>0 by omega)
  split
  ·refine⟨?_,?_,Nat.zero_le _⟩
   ·show(-1:Int)≤((k%c.parents.length:Nat):Int);omega
   ·show((k%c.parents.length:Nat):Int)<_;omega
  ·refine⟨by decide,?_,Nat.zero_le _⟩
   show(0:Int)<_;omega
 hl:=Nat.zero_le _
end PG
theorem siteX_snoc {sp:List Value}{S:List PS}(h:sp.length=S.length) (v:Value) (p:PS):siteX (sp++[v]) (S++[p])=siteX sp S++[(v,p)]:=by
 unfold siteX
 rw[List.zip_append h];rfl
theorem N.New.vX {n k:Nat}{X:N.XS}(h:N.New n k X):N.vX (X.map (·.1)) (List.replicate k (⟨0,[],0,[]⟩:VS))=X:=by
 have hl:=h.len
 refine List.ext_getElem (by simp[N.vX,hl]) λi h1 h2=>?_
 have hz:=h.zero _ (List.getElem_mem h2)
 simp only[N.vX,List.getElem_zip,List.getElem_map,List.getElem_replicate]
 exact Prod.ext rfl (by rw[hz];rfl)
abbrev nilV:Value:=.slice none 0 0
set_option maxHeartbeats 4000000 in
theorem gnew_g (c:SRow) (hp:T.Ahead c.parents) (hc:T.ok c=true):GCallE Tryz.prog 12 [.d (.row c.row)] [] (λz:{z:FR×GT // z.1.Ok (PG.new c)}=>some (GE z.1.1 (PG.new c) z.1.2,.bx 1001 0 0)):=by
 refine GC_E Tryz.func12 Tryz.ntmps12 (ReadsS.r1 Tryz.results12) λhok hokB M0 w0=>?_
 have hn:=hp.le
 have hn1:=hp.pos
 have hsh:=S.shape_facts (T.ok_facts hc).1
 obtain⟨k1,k2,k3,k4,_⟩:=hsh
 refine Aw_sr ?_
 refine Al_p Pu_bN ?_
 refine Al_mr ?_
 refine Al_nil (Aw_seq (Aw_sr ?_))
 refine Al_p (Pu_lN Tryz.isAgg30 Tryz.sizeOf30) ?_
 refine Al_p (Pu_call (routeC_a c hp) rfl ⟨Sub.rfl,trivial⟩) ?_
 refine Al_p Pu_n ?_
 refine Al_nil ?_
 refine Aw_condF rfl ((by rw[hc];rfl)) ?_
 refine Aw_skip (Aw_sr ?_)
 refine Al_p (Pu_lN Tryz.isAgg30 Tryz.sizeOf30) ?_
 refine Al_p (Pu_call (sites_a c) rfl ⟨Sub.rfl,trivial⟩) ?_
 refine Al_mr ?_
 refine Al_ns ?_
 refine Al_p (Pu_lN Tryz.isAgg30 Tryz.sizeOf30) ?_
 refine Al_p (Pu_call (gcopied_a c (by omega) (by omega) (by omega)) rfl ⟨Sub.rfl,trivial⟩) ?_
 refine Al_ml ?_
 refine Al_gcallE [] [(1001,15),(1002,150),(1003,151)] (ntNew_g c.parents.length ⟨hn1,hn⟩) rfl rfl rfl (by decide) (by kernel_rfl) trivial (λ_=>rfl) rfl rfl ⟨Sub.rfl,trivial⟩ ?_
 rintro⟨⟨nb,Fn,X⟩,hN⟩ g15
 refine Al_p (Pu_buildAg (aa:=[(0,_),(2,_)]) rfl Tryz.underlying91 Tryz.zeroValue91 places91 (by kernel_rfl) ⟨rfl,rfl,rfl,rfl,trivial⟩ rfl) ?_
 refine Al_boxAg rfl rfl rfl (by decide) (by kernel_rfl) rfl (λg17=>?_)
 refine Al_mr ?_
 refine Al_nil (Aw_seq (Aw_seq ?_))
 refine Aw_ghost [] [(1000,61)] 2 (gh_nil (E:=ST)) (λ_ _ _ _ _=>trivial) trivial (λ_=>rfl) rfl rfl (λ_ g61=>?_)
 refine Aw_ghost [] [(1003,62)] 2 (gh_row (T:=92) (n:=1)) (λ_ _ _ _ _=>trivial) trivial (λ_=>rfl) rfl rfl (λ_ g62=>?_)
 refine Aw_ghost [] [(1003,63)] 2 (gh_row (T:=107) (n:=6)) (λ_ _ _ _ _=>trivial) trivial (λ_=>rfl) rfl rfl (λ_ g63=>?_)
 refine Aw_boxle (k:=17) (gcellsN (.bx 15 g15 0) nilV (PG.newK c 0) nilV) rfl ⟨Sub.rfl,Sub.rfl,Sub.rfl,Sub.rfl,Sub.rfl,Sub.rfl,Sub.nil,Sub.rfl,Sub.nil,Sub.rfl,Sub.nil,Sub.rfl,Sub.nil,Sub.nil,Sub.nil,Sub.nil,Sub.nil,Sub.nil,Sub.nil,Sub.nil,Sub.nil,Sub.nil,Sub.rfl,trivial⟩ ?_
 refine Aw_region ?_
 refine Al_ml ?_
 refine Al_ml ?_
 refine Al_nil (Aw_block ?_)
 refine Aw_loopk (ι:=Nat×(Nat→Prop)×(List Value)×Value) [1,3,4,18] [15,150,151,63] (λ(i,Fs,sp,sv)=>[(19,.d (iv i))]) (λ(i,Fs,sp,sv)=>[(17,g17,.box 91 (gcellsN (.bx 15 g15 0) sv (PG.newK c 0) nilV)),(61,g61,.op (starP ST Fs (siteX sp ((List.range i).map λj=>PS.zero (j:Nat) (T.rangesOf c (j:Nat)))))),(62,g62,sitesX sv sp)]) (λ(i,Fs,sp,sv)=>i≤c.parents.length∧sp.length=i∧∀v∈sp,∃a,v=.pointer (some a)) (λ(i,Fs,sp,sv)=>c.parents.length - i) ((0,λ_=>False,[],nilV)) (⟨Nat.zero_le _,⟨rfl,λv hv=>by cases hv⟩⟩) ⟨Sub.rfl,trivial⟩ ⟨rfl,rfl,rfl,trivial⟩ ?_
 rintro⟨i,Fs,sp,sv⟩ ⟨hk0,⟨hspl,hspp⟩⟩
 refine Aw_sr ?_
 refine Al_p Pu_cp ?_
 refine Al_nil (Aw_seq ?_)
 refine Aw_cond rfl (λh20=>?_) (λh20=>?_)
 ·(try simp only[A.cd_]at h20)
  refine Aw_skip ?_
  refine Aw_seq (Aw_block (Aw_sr ?_))
  refine Al_ml ?_
  refine Al_mr ?_
  refine Al_nil ?_
  refine Aw_drawn (by kernel_rfl) ?_
  refine Ad_t 0 rfl (PuI_move (.inl rfl) (by conv=>lhs;whnf)) ?_
  refine Ad_t 1 rfl (PuI_move (.inl rfl) (by conv=>lhs;whnf)) ?_
  refine Ad_t 2 rfl PuI_nb ?_
  refine Ad_t 3 rfl (PuI_fb 3 Tryz.underlying91 Tryz.sizeOf85) ?_
  refine Ad_t 5 rfl (PuI_move (.inl rfl) (by conv=>lhs;whnf)) ?_
  refine Ad_t 7 rfl (PuI_move (.inl rfl) (by conv=>lhs;whnf)) ?_
  refine Ad_two 4 6 rfl rfl (by kernel_rfl) ?_ ?_
  ·refine Al_p (Pu_lb Tryz.isAgg85) ?_
   refine Al_nil ?_
   refine Ad_o 6 ?_
   refine Al_p (Pu_lN Tryz.isAgg30 Tryz.sizeOf30) ?_
   refine Al_nil ?_
   refine Ad_o 8 ?_
   refine Al_p (Pu_call (tranges_a c i) rfl ⟨Sub.rfl,Sub.rfl,trivial⟩) ?_
   refine Al_nil ?_
   refine Ad_o 9 ?_
   refine Al_gcallE [] [(1001,31),(1002,310),(1003,311)] (stNew_g i (by omega) (T.rangesOf c i) (Nat.le_trans (T.rangesOf_len ..) (by decide))) rfl rfl rfl (by decide) (by kernel_rfl) trivial (λ_=>rfl) rfl rfl ⟨Sub.rfl,Sub.rfl,trivial⟩ ?_
   rintro b g31
   refine Al_nil ?_
   refine Ad_o 10 ?_
   refine Al_ghost [(1000,61,g61),(1001,31,g31),(1002,310,g31),(1003,311,g31)] [] 31 (gh_newP (E:=ST) (s':=PS.zero i (T.rangesOf c i)) (t:=b) ⟨⟨_,_,List.mem_cons_self ..⟩,λp hp=>by
    simp only[ST,List.mem_cons,List.not_mem_nil,or_false]at hp
    rcases hp with rfl|rfl|rfl<;>exact⟨Nat.le_of_ble_eq_true rfl,Nat.le_of_ble_eq_true rfl⟩⟩) Sub.rfl ⟨rfl,rfl,rfl,rfl,trivial⟩ (λ_=>rfl) rfl rfl (λy G=>?_)
   obtain⟨F2,pb⟩:=y
   refine Al_p (Pu_slice1 rfl Tryz.underlying85 Tryz.sizeOf92 Tryz.zeroValue92 rfl (by decide) (by decide) (by kernel_rfl) rfl rfl rfl) ?_
   refine Al_nil ?_
   refine Ad_o 11 ?_
   refine Al_appendX (k:=62) rfl rfl rfl (by decide) (by kernel_rfl) site_elem (by decide) Tryz.sizeOf92 rfl rfl rfl (by simp;omega) (by decide) (λv2=>?_)
   refine Al_nil ?_
   refine Ad_t 12 rfl PuI_nb ?_
   refine Ad_t 13 rfl (PuI_fb 3 Tryz.underlying91 Tryz.sizeOf85) ?_
   refine Ad_o 14 ?_
   refine Al_s1 Tryz.isAgg85 Tryz.sizeOf85 ?_
   refine Al_nil ?_
   refine Ad_d ?_
   refine Aw_region ?_
   refine Al_p Pu_ad ?_
   refine Al_ml ?_
   refine Al_nil ?_
   exact⟨(i+1,F2,sp++[.pointer (some ⟨pb,0,none⟩)],v2),⟨by omega,⟨by rw[List.length_append,hspl];rfl,λv hv=>by
    rcases List.mem_append.1 hv with hv|hv
    ·exact hspp v hv
    ·rw[List.mem_singleton.1 hv];exact⟨_,rfl⟩⟩⟩,by simp only[];omega,Le.ov ⟨Sub.num (by omega),trivial⟩ ⟨Sub.rfl,Sub.rfl,Sub.rfl,Sub.rfl,trivial⟩ ⟨rfl,A.obE (congrArg (λX=>AO.op (starP ST F2 X)) (by rw[List.range_succ,List.map_append,List.map_singleton,siteX_snoc (by rw[hspl];simp)])),obeqX (by simp[A.cellsA]),trivial⟩ ⟨rfl,rfl,rfl,rfl,trivial⟩⟩
  ·refine Al_p (Pu_lN Tryz.isAgg30 Tryz.sizeOf30) ?_
   refine Al_nil ?_
   refine Ad_two 4 8 rfl rfl (by kernel_rfl) ?_ ?_
   ·refine Al_p (Pu_lb Tryz.isAgg85) ?_
    refine Al_nil ?_
    refine Ad_o 8 ?_
    refine Al_p (Pu_call (tranges_a c i) rfl ⟨Sub.rfl,Sub.rfl,trivial⟩) ?_
    refine Al_nil ?_
    refine Ad_o 9 ?_
    refine Al_gcallE [] [(1001,31),(1002,310),(1003,311)] (stNew_g i (by omega) (T.rangesOf c i) (Nat.le_trans (T.rangesOf_len ..) (by decide))) rfl rfl rfl (by decide) (by kernel_rfl) trivial (λ_=>rfl) rfl rfl ⟨Sub.rfl,Sub.rfl,trivial⟩ ?_
    rintro b g31
    refine Al_nil ?_
    refine Ad_o 10 ?_
    refine Al_ghost [(1000,61,g61),(1001,31,g31),(1002,310,g31),(1003,311,g31)] [] 31 (gh_newP (E:=ST) (s':=PS.zero i (T.rangesOf c i)) (t:=b) ⟨⟨_,_,List.mem_cons_self ..⟩,λp hp=>by
     simp only[ST,List.mem_cons,List.not_mem_nil,or_false]at hp
     rcases hp with rfl|rfl|rfl<;>exact⟨Nat.le_of_ble_eq_true rfl,Nat.le_of_ble_eq_true rfl⟩⟩) Sub.rfl ⟨rfl,rfl,rfl,rfl,trivial⟩ (λ_=>rfl) rfl rfl (λy G=>?_)
    obtain⟨F2,pb⟩:=y
    refine Al_p (Pu_slice1 rfl Tryz.underlying85 Tryz.sizeOf92 Tryz.zeroValue92 rfl (by decide) (by decide) (by kernel_rfl) rfl rfl rfl) ?_
    refine Al_nil ?_
    refine Ad_o 11 ?_
    refine Al_appendX (k:=62) rfl rfl rfl (by decide) (by kernel_rfl) site_elem (by decide) Tryz.sizeOf92 rfl rfl rfl (by simp;omega) (by decide) (λv2=>?_)
    refine Al_nil ?_
    refine Ad_t 12 rfl PuI_nb ?_
    refine Ad_t 13 rfl (PuI_fb 3 Tryz.underlying91 Tryz.sizeOf85) ?_
    refine Ad_o 14 ?_
    refine Al_s1 Tryz.isAgg85 Tryz.sizeOf85 ?_
    refine Al_nil ?_
    refine Ad_d ?_
    refine Aw_region ?_
    refine Al_p Pu_ad ?_
    refine Al_ml ?_
    refine Al_nil ?_
    exact⟨(i+1,F2,sp++[.pointer (some ⟨pb,0,none⟩)],v2),⟨by omega,⟨by rw[List.length_append,hspl];rfl,λv hv=>by
     rcases List.mem_append.1 hv with hv|hv
     ·exact hspp v hv
     ·rw[List.mem_singleton.1 hv];exact⟨_,rfl⟩⟩⟩,by simp only[];omega,Le.ov ⟨Sub.num (by omega),trivial⟩ ⟨Sub.rfl,Sub.rfl,Sub.rfl,Sub.rfl,trivial⟩ ⟨rfl,A.obE (congrArg (λX=>AO.op (starP ST F2 X)) (by rw[List.range_succ,List.map_append,List.map_singleton,siteX_snoc (by rw[hspl];simp)])),obeqX (by simp[A.cellsA]),trivial⟩ ⟨rfl,rfl,rfl,rfl,trivial⟩⟩
   ·refine Al_p (Pu_call (tranges_a c i) rfl ⟨Sub.rfl,Sub.rfl,trivial⟩) ?_
    refine Al_nil ?_
    refine Ad_two 4 9 rfl rfl (by kernel_rfl) ?_ ?_
    ·refine Al_p (Pu_lb Tryz.isAgg85) ?_
     refine Al_nil ?_
     refine Ad_o 9 ?_
     refine Al_gcallE [] [(1001,31),(1002,310),(1003,311)] (stNew_g i (by omega) (T.rangesOf c i) (Nat.le_trans (T.rangesOf_len ..) (by decide))) rfl rfl rfl (by decide) (by kernel_rfl) trivial (λ_=>rfl) rfl rfl ⟨Sub.rfl,Sub.rfl,trivial⟩ ?_
     rintro b g31
     refine Al_nil ?_
     refine Ad_o 10 ?_
     refine Al_ghost [(1000,61,g61),(1001,31,g31),(1002,310,g31),(1003,311,g31)] [] 31 (gh_newP (E:=ST) (s':=PS.zero i (T.rangesOf c i)) (t:=b) ⟨⟨_,_,List.mem_cons_self ..⟩,λp hp=>by
      simp only[ST,List.mem_cons,List.not_mem_nil,or_false]at hp
      rcases hp with rfl|rfl|rfl<;>exact⟨Nat.le_of_ble_eq_true rfl,Nat.le_of_ble_eq_true rfl⟩⟩) Sub.rfl ⟨rfl,rfl,rfl,rfl,trivial⟩ (λ_=>rfl) rfl rfl (λy G=>?_)
     obtain⟨F2,pb⟩:=y
     refine Al_p (Pu_slice1 rfl Tryz.underlying85 Tryz.sizeOf92 Tryz.zeroValue92 rfl (by decide) (by decide) (by kernel_rfl) rfl rfl rfl) ?_
     refine Al_nil ?_
     refine Ad_o 11 ?_
     refine Al_appendX (k:=62) rfl rfl rfl (by decide) (by kernel_rfl) site_elem (by decide) Tryz.sizeOf92 rfl rfl rfl (by simp;omega) (by decide) (λv2=>?_)
     refine Al_nil ?_
     refine Ad_t 12 rfl PuI_nb ?_
     refine Ad_t 13 rfl (PuI_fb 3 Tryz.underlying91 Tryz.sizeOf85) ?_
     refine Ad_o 14 ?_
     refine Al_s1 Tryz.isAgg85 Tryz.sizeOf85 ?_
     refine Al_nil ?_
     refine Ad_d ?_
     refine Aw_region ?_
     refine Al_p Pu_ad ?_
     refine Al_ml ?_
     refine Al_nil ?_
     exact⟨(i+1,F2,sp++[.pointer (some ⟨pb,0,none⟩)],v2),⟨by omega,⟨by rw[List.length_append,hspl];rfl,λv hv=>by
      rcases List.mem_append.1 hv with hv|hv
      ·exact hspp v hv
      ·rw[List.mem_singleton.1 hv];exact⟨_,rfl⟩⟩⟩,by simp only[];omega,Le.ov ⟨Sub.num (by omega),trivial⟩ ⟨Sub.rfl,Sub.rfl,Sub.rfl,Sub.rfl,trivial⟩ ⟨rfl,A.obE (congrArg (λX=>AO.op (starP ST F2 X)) (by rw[List.range_succ,List.map_append,List.map_singleton,siteX_snoc (by rw[hspl];simp)])),obeqX (by simp[A.cellsA]),trivial⟩ ⟨rfl,rfl,rfl,rfl,trivial⟩⟩
    ·refine Al_gcallE [] [(1001,31),(1002,310),(1003,311)] (stNew_g i (by omega) (T.rangesOf c i) (Nat.le_trans (T.rangesOf_len ..) (by decide))) rfl rfl rfl (by decide) (by kernel_rfl) trivial (λ_=>rfl) rfl rfl ⟨Sub.rfl,Sub.rfl,trivial⟩ ?_
     rintro b g31
     refine Al_nil ?_
     refine Ad_two 4 10 rfl rfl (by kernel_rfl) ?_ ?_
     ·refine Al_p (Pu_lb Tryz.isAgg85) ?_
      refine Al_nil ?_
      refine Ad_o 10 ?_
      refine Al_ghost [(1000,61,g61),(1001,31,g31),(1002,310,g31),(1003,311,g31)] [] 31 (gh_newP (E:=ST) (s':=PS.zero i (T.rangesOf c i)) (t:=b) ⟨⟨_,_,List.mem_cons_self ..⟩,λp hp=>by
       simp only[ST,List.mem_cons,List.not_mem_nil,or_false]at hp
       rcases hp with rfl|rfl|rfl<;>exact⟨Nat.le_of_ble_eq_true rfl,Nat.le_of_ble_eq_true rfl⟩⟩) Sub.rfl ⟨rfl,rfl,rfl,rfl,trivial⟩ (λ_=>rfl) rfl rfl (λy G=>?_)
      obtain⟨F2,pb⟩:=y
      refine Al_p (Pu_slice1 rfl Tryz.underlying85 Tryz.sizeOf92 Tryz.zeroValue92 rfl (by decide) (by decide) (by kernel_rfl) rfl rfl rfl) ?_
      refine Al_nil ?_
      refine Ad_o 11 ?_
      refine Al_appendX (k:=62) rfl rfl rfl (by decide) (by kernel_rfl) site_elem (by decide) Tryz.sizeOf92 rfl rfl rfl (by simp;omega) (by decide) (λv2=>?_)
      refine Al_nil ?_
      refine Ad_t 12 rfl PuI_nb ?_
      refine Ad_t 13 rfl (PuI_fb 3 Tryz.underlying91 Tryz.sizeOf85) ?_
      refine Ad_o 14 ?_
      refine Al_s1 Tryz.isAgg85 Tryz.sizeOf85 ?_
      refine Al_nil ?_
      refine Ad_d ?_
      refine Aw_region ?_
      refine Al_p Pu_ad ?_
      refine Al_ml ?_
      refine Al_nil ?_
      exact⟨(i+1,F2,sp++[.pointer (some ⟨pb,0,none⟩)],v2),⟨by omega,⟨by rw[List.length_append,hspl];rfl,λv hv=>by
       rcases List.mem_append.1 hv with hv|hv
       ·exact hspp v hv
       ·rw[List.mem_singleton.1 hv];exact⟨_,rfl⟩⟩⟩,by simp only[];omega,Le.ov ⟨Sub.num (by omega),trivial⟩ ⟨Sub.rfl,Sub.rfl,Sub.rfl,Sub.rfl,trivial⟩ ⟨rfl,A.obE (congrArg (λX=>AO.op (starP ST F2 X)) (by rw[List.range_succ,List.map_append,List.map_singleton,siteX_snoc (by rw[hspl];simp)])),obeqX (by simp[A.cellsA]),trivial⟩ ⟨rfl,rfl,rfl,rfl,trivial⟩⟩
     ·refine Al_ghost [(1000,61,g61),(1001,31,g31),(1002,310,g31),(1003,311,g31)] [] 31 (gh_newP (E:=ST) (s':=PS.zero i (T.rangesOf c i)) (t:=b) ⟨⟨_,_,List.mem_cons_self ..⟩,λp hp=>by
       simp only[ST,List.mem_cons,List.not_mem_nil,or_false]at hp
       rcases hp with rfl|rfl|rfl<;>exact⟨Nat.le_of_ble_eq_true rfl,Nat.le_of_ble_eq_true rfl⟩⟩) Sub.rfl ⟨rfl,rfl,rfl,rfl,trivial⟩ (λ_=>rfl) rfl rfl (λy G=>?_)
      obtain⟨F2,pb⟩:=y
      refine Al_p (Pu_slice1 rfl Tryz.underlying85 Tryz.sizeOf92 Tryz.zeroValue92 rfl (by decide) (by decide) (by kernel_rfl) rfl rfl rfl) ?_
      refine Al_nil ?_
      refine Ad_o 4 ?_
      refine Al_p (Pu_lb Tryz.isAgg85) ?_
      refine Al_nil ?_
      refine Ad_o 11 ?_
      refine Al_appendX (k:=62) rfl rfl rfl (by decide) (by kernel_rfl) site_elem (by decide) Tryz.sizeOf92 rfl rfl rfl (by simp;omega) (by decide) (λv2=>?_)
      refine Al_nil ?_
      refine Ad_t 12 rfl PuI_nb ?_
      refine Ad_t 13 rfl (PuI_fb 3 Tryz.underlying91 Tryz.sizeOf85) ?_
      refine Ad_o 14 ?_
      refine Al_s1 Tryz.isAgg85 Tryz.sizeOf85 ?_
      refine Al_nil ?_
      refine Ad_d ?_
      refine Aw_region ?_
      refine Al_p Pu_ad ?_
      refine Al_ml ?_
      refine Al_nil ?_
      exact⟨(i+1,F2,sp++[.pointer (some ⟨pb,0,none⟩)],v2),⟨by omega,⟨by rw[List.length_append,hspl];rfl,λv hv=>by
       rcases List.mem_append.1 hv with hv|hv
       ·exact hspp v hv
       ·rw[List.mem_singleton.1 hv];exact⟨_,rfl⟩⟩⟩,by simp only[];omega,Le.ov ⟨Sub.num (by omega),trivial⟩ ⟨Sub.rfl,Sub.rfl,Sub.rfl,Sub.rfl,trivial⟩ ⟨rfl,A.obE (congrArg (λX=>AO.op (starP ST F2 X)) (by rw[List.range_succ,List.map_append,List.map_singleton,siteX_snoc (by rw[hspl];simp)])),obeqX (by simp[A.cellsA]),trivial⟩ ⟨rfl,rfl,rfl,rfl,trivial⟩⟩
 ·(try simp only[A.cd_]at h20)
  obtain rfl:i=c.parents.length:=by omega
  refine Aw_exit (Aw_seq (Aw_sr ?_))
  refine Al_ml ?_
  refine Al_nil (Aw_block ?_)
  refine Aw_loopk (ι:=Nat) [3,4] [15,150,151,61,62,63] (λk=>[(37,.d (iv k))]) (λk=>[(17,g17,.box 91 (gcellsN (.bx 15 g15 0) sv (PG.newK c k) nilV))]) (λk=>k≤4) (λk=>4 - k) (0) (Nat.zero_le _) ⟨Sub.rfl,trivial⟩ ⟨rfl,trivial⟩ ?_
  rintro k hk1
  refine Aw_sr ?_
  refine Al_p Pu_cp ?_
  refine Al_nil (Aw_seq ?_)
  refine Aw_cond rfl (λh38=>?_) (λh38=>?_)
  ·(try simp only[A.cd_]at h38)
   refine Aw_skip (Aw_seq (Aw_block (Aw_sr ?_)))
   refine Al_ml ?_
   refine Al_mr ?_
   refine Al_nil ?_
   refine Aw_dr 9 ?_
   refine Dr_ml ?_
   refine Dr_ml ?_
   refine Dr_ml ?_
   refine Dr_ml ?_
   refine Dr_p (Pu_rem rfl rfl rfl (by omega) (Int.ofNat_tmod k c.parents.length).symm) ?_
   refine Dr_p (Pu_call (cliNew_a ((k%c.parents.length:Nat):Int)) rfl ⟨Sub.rfl,trivial⟩) ?_
   refine Dr_p Pu_nb ?_
   refine Dr_p (Pu_fb 5 Tryz.underlying91 Tryz.sizeOf86) ?_
   refine Dr_p (Pu_indexArrb rfl Tryz.underlying86 Tryz.sizeOf75 rfl rfl (rfl) (by omega)) ?_
   refine Dr_nil ?_
   refine A.Al_storeC (gcellsN (.bx 15 g15 0) sv (PG.newK c (k+1)) nilV) (by rw[PG.newK_succ];exact gcN_setC (.bx 15 g15 0) sv (PG.newK c k) nilV (i:=(k:Int)) (((k%c.parents.length:Nat):Int),[]) (by omega)) rfl Tryz.isAgg75 Tryz.sizeOf75 rfl rfl rfl rfl (by show 0+5+k*2+2≤23;omega) ?_
   refine Al_nil (Aw_region ?_)
   refine Al_p Pu_ad ?_
   refine Al_ml ?_
   refine Al_nil ?_
   exact⟨k+1,by omega,by omega,Le.ov ⟨Sub.num (by omega),trivial⟩ ⟨Sub.rfl,Sub.rfl,trivial⟩ ⟨rfl,trivial⟩ ⟨rfl,rfl,rfl,rfl,rfl,rfl,trivial⟩⟩
  ·(try simp only[A.cd_]at h38)
   obtain rfl:k=4:=by omega
   refine Aw_exit (Aw_sr ?_)
   refine Al_ml ?_
   refine Al_mr ?_
   refine Al_nil ?_
   exact Aw_ret (⟨⟨(⟨sp,X.map (·.1),nb,N.upto c.parents.length c.parents.length 0,sv⟩,⟨Fs,Fn,nilV⟩),⟨by simp[PG.new,PG.newK,hspl],by simp[PG.new,PG.newK,hN.len],λv hv=>(by obtain⟨x,hx,rfl⟩:=List.mem_map.1 hv;exact hN.pl x hx),hspp,by simp[PG.new,PG.newK];exact hn⟩⟩,_,_,[(1001,17,g17),(1002,15,g15),(1003,150,g15),(1004,151,g15),(1005,61,g61),(1006,63,g63),(1007,62,g62)],rfl,Sub.rfl,⟨rfl,rfl,A.obE (congrArg (λY=>mapP c.parents.length nb (N.upto c.parents.length c.parents.length 0) Y) hN.vX.symm),A.obE (congrArg (λY=>AO.op (starP SES Fn Y)) hN.vX.symm),rfl,rfl,rfl,trivial⟩,rfl⟩)
end Go.Proofs.YtdnijgdmohinlaaGreat
end
section
set_option maxRecDepth 100000
namespace Go.Proofs.YtdnijgdmohinlaaGreat.A
open Go Go.RowKit
section
variable {P:Program}{N:Nat}{M0:Nat→Prop}{w0:Base}{ops:Array Oper}{Q:Exit→ASt→Prop}{o:Oper}{l:List Oper}{st:ASt}
theorem run_eqF (d:Nat) (w:World) (t:TypeId) {ps rs:Array TypeId}{vr:Bool}(h:P.underlying t=some (.func ps rs vr)) (f:Fn) (us vs:Array Value):(Op.equalIn (d+1) t (.func f us vs) .nilFunc).run P w=.ok false w∧(Op.equalIn (d+1) t .nilFunc .nilFunc).run P w=.ok true w:=by
 constructor<;>simp[Op.equalIn,run_underlying h]
theorem Pu_eqnilF {t yt:TypeId}{x:Operand}{f:FuncId}{first caps:List CV}{ps rs:Array TypeId}{vr:Bool}(ht:P.underlying t=some (.func ps rs vr)) (ho:o.op=.binOp .eql t x (.const .nilFunc) yt) (hx:st.ev x=.fnb f first caps):Pu P st o (.d (.v (.bool false))):=Pu_q λB M ρ w a h2 h3=>by
 have hm:=h2 x (by simp[opsOf,ho,Op.operands])
 rw[hx]at hm
 obtain⟨us,vs,h6,_,_⟩:=hm
 refine⟨.bool false,?_,.v _ trivial⟩
 have hc:a.eval (.const .nilFunc)=.nilFunc:=rfl
 have he:(Op.equal t (.func (.func f) us.toArray vs.toArray) .nilFunc).run P w=.ok false w:=(run_eqF 9999 w t ht _ _ _).1
 have key:(do eqGuard .eql t x (.const .nilFunc) (.func (.func f) us.toArray vs.toArray) .nilFunc;binOp .eql t (.func (.func f) us.toArray vs.toArray) .nilFunc:Sem Value).run P w=.ok (.bool false) w:=by simp[go_sem,eqGuard,binOp,he]
 simp only[execOp,ho,h6,hc,Sem.run_bind,Sem.run_pure]at key ⊢
 rw[key];rfl
theorem Al_gcallvE {ι:Type}{f:FuncId}{first caps:List CV}{ins:List SV}{obs:Obs}{obs':ι→Obs}{res:ι→SV}(pm:Pm) (nw:List (Nat×Nat)) {d:Nat}{y:Operand}{xs:List Operand}{ts:Array TypeId}(hG:GCallE P f ins obs λi=>some (obs' i,res i)) (ho:o.op=.call ⟨.value y,xs.toArray,ts⟩) (hg:o.guard=none) (hd:o.dst=some d) (hN:d<N) (hc:conB o=true) (hy:st.ev y=.fnb f first caps)
  (hpre:PreO st (nmOf pm) obs) (hB:∀i,nmB obs (obs' i) pm nw=true) (hb1:(obs.all λp=>(lookR pm p.1).isSome)=true) (hb5:nodupB (pm.map (·.2.1))=true) (aa:List SV) (hins:ins.map (SV.ren (nmOf pm))=first.map CV.sv++aa++caps.map CV.sv) (ha:ArgsS st xs aa)
  (h:∀i G,Al P N M0 w0 ops Q l ((st.aft pm (obs' i) (nm2 pm nw G)).set d ((res i).ren (nm2 pm nw G)))):Al P N M0 w0 ops Q (o::l) st:=by
 refine⟨?_⟩
 rintro a w ⟨ρ,hsim⟩
 have hev:=λy hy=>hsim.ev hc y (mem_call ho y hy)
 have hm:=hsim.ev hc y (by simp[opsOf,ho,Op.operands,Call.operands])
 rw[hy]at hm
 obtain⟨us,vs,h1,h2,h3⟩:=hm
 refine gcallE_at hG hsim hd hN hg hpre hB hb1 hb5 (vs:=us++xs.map a.eval++vs) ?_ (by rw[hins];exact(h2.arep.append (ha.rep λx hx=>hev x (by simpa using hx))).append h3.arep) h
 simp only[execOp,ho,resolve,h1,Deferred.ofValue,invoke,Sem.run_bind,Sem.run_pure,Result.andThen_ok]
 rw[hG.1]
 simp
end
end Go.Proofs.YtdnijgdmohinlaaGreat.A
namespace Go.Proofs.YtdnijgdmohinlaaGreat
open Go Go.RowKit A R
open A.RowT
def stepF (k:Int):Option FuncId :=
 if k=1∨k=2 then some 87 else if k=3 then some 88 else if k=4 then some 89 else if k=5 then some 90 else if k=6 then some 91 else if k=7 then some 92
 else if k=8 then some 93 else if k=9 then some 94 else if k=10 then some 95 else if k=11 then some 96 else if k=12 then some 97 else none
def stR1:Option FuncId→SV
 | some f=>.fnb f [.bx 1001 0 0] []
 | none=>.d (.v .nilFunc)
def stR (k:Int):SV:=stR1 (stepF k)
theorem stR_put {k:Int}(h:k=1∨k=2):stR k=.fnb 87 [.bx 1001 0 0] []:=by rcases h with rfl|rfl<;>rfl
set_option maxHeartbeats 2000000 in
theorem gstep_g (fr:FR) (g:PG) (t:GT) (k:Int):GCall Tryz.prog 40 [.bx 1001 0 0,.d (iv k)] (GE fr g t) (some (GE fr g t,stR k)):=by
 refine GC_L Tryz.func40 Tryz.ntmps40 (ReadsS.r1 Tryz.results40) λhok hokB M0 w0 hl=>?_
 refine Aw_sr ?_
 refine Al_mr ?_
 refine Al_nil ?_
 refine Aw_seq (Aw_sr ?_)
 refine Al_ml ?_
 refine Al_nil (Aw_block ?_)
 refine Aw_join (ι:=Bool) [0,5] [1001,1002,1003,1004,1005,1006,1007] (λb=>[(6,.d (bv b))]) (λb=>[]) (λb=>b=decide (k=1∨k=2)) ?_ ?_
 ·refine Aw_sr ?_
  refine Al_p Pu_cp ?_
  refine Al_mr ?_
  refine Al_nil ?_
  refine Aw_cond rfl (λh6=>?_) (λh6=>?_)
  ·try simp only[decide_eq_true_eq,decide_eq_false_iff_not]at h6
   refine Aw_skip ?_
   exact⟨true,by simp only[h6,true_or,decide_true],Le.ov ⟨Sub.bool (decide_eq_true h6),trivial⟩ ⟨Sub.rfl,Sub.rfl,trivial⟩ trivial ⟨rfl,rfl,rfl,rfl,rfl,rfl,rfl,trivial⟩⟩
  ·try simp only[decide_eq_true_eq,decide_eq_false_iff_not]at h6
   refine Aw_region ?_
   refine Al_p Pu_cp ?_
   refine Al_mr ?_
   refine Al_nil ?_
   exact⟨decide (k=2),by simp only[h6,false_or],Le.ov ⟨Sub.rfl,trivial⟩ ⟨Sub.rfl,Sub.rfl,trivial⟩ trivial ⟨rfl,rfl,rfl,rfl,rfl,rfl,rfl,trivial⟩⟩
 ·rintro b hj1
  subst hj1
  refine Aw_cond rfl (λh6=>?_) (λh6=>?_)
  ·try simp only[decide_eq_true_eq,decide_eq_false_iff_not]at h6
   refine Aw_sr ?_
   refine Al_ml ?_
   refine Al_p (Pu_makeFuncS (ys:=[_]) (xs:=[]) [.bx 1001 0 0] [] rfl ⟨Sub.rfl,trivial⟩ trivial) ?_
   refine Al_mr ?_
   refine Al_nil ?_
   exact Aw_ret (⟨_,_,[],rfl,by rw[stR_put h6];exact Sub.rfl,⟨rfl,rfl,rfl,rfl,rfl,rfl,rfl,trivial⟩,rfl⟩)
  ·try simp only[decide_eq_true_eq,decide_eq_false_iff_not]at h6
   refine Aw_sr ?_
   refine Al_p Pu_cp ?_
   refine Al_mr ?_
   refine Al_nil ?_
   refine Aw_cond rfl (λh11=>?_) (λh11=>?_)
   ·(try simp only[A.cd_]at h11)
    subst h11
    refine Aw_sr ?_
    refine Al_ml ?_
    refine Al_p (Pu_makeFuncS (ys:=[_]) (xs:=[]) [.bx 1001 0 0] [] rfl ⟨Sub.rfl,trivial⟩ trivial) ?_
    refine Al_mr ?_
    refine Al_nil ?_
    exact Aw_ret (⟨_,_,[],rfl,Sub.rfl,⟨rfl,rfl,rfl,rfl,rfl,rfl,rfl,trivial⟩,rfl⟩)
   ·(try simp only[A.cd_]at h11)
    refine Aw_sr ?_
    refine Al_p Pu_cp ?_
    refine Al_mr ?_
    refine Al_nil ?_
    refine Aw_cond rfl (λh15=>?_) (λh15=>?_)
    ·(try simp only[A.cd_]at h15)
     subst h15
     refine Aw_sr ?_
     refine Al_ml ?_
     refine Al_p (Pu_makeFuncS (ys:=[_]) (xs:=[]) [.bx 1001 0 0] [] rfl ⟨Sub.rfl,trivial⟩ trivial) ?_
     refine Al_mr ?_
     refine Al_nil ?_
     exact Aw_ret (⟨_,_,[],rfl,Sub.rfl,⟨rfl,rfl,rfl,rfl,rfl,rfl,rfl,trivial⟩,rfl⟩)
    ·(try simp only[A.cd_]at h15)
     refine Aw_sr ?_
     refine Al_p Pu_cp ?_
     refine Al_mr ?_
     refine Al_nil ?_
     refine Aw_cond rfl (λh19=>?_) (λh19=>?_)
     ·(try simp only[A.cd_]at h19)
      subst h19
      refine Aw_sr ?_
      refine Al_ml ?_
      refine Al_p (Pu_makeFuncS (ys:=[_]) (xs:=[]) [.bx 1001 0 0] [] rfl ⟨Sub.rfl,trivial⟩ trivial) ?_
      refine Al_mr ?_
      refine Al_nil ?_
      exact Aw_ret (⟨_,_,[],rfl,Sub.rfl,⟨rfl,rfl,rfl,rfl,rfl,rfl,rfl,trivial⟩,rfl⟩)
     ·(try simp only[A.cd_]at h19)
      refine Aw_sr ?_
      refine Al_p Pu_cp ?_
      refine Al_mr ?_
      refine Al_nil ?_
      refine Aw_cond rfl (λh23=>?_) (λh23=>?_)
      ·(try simp only[A.cd_]at h23)
       subst h23
       refine Aw_sr ?_
       refine Al_ml ?_
       refine Al_p (Pu_makeFuncS (ys:=[_]) (xs:=[]) [.bx 1001 0 0] [] rfl ⟨Sub.rfl,trivial⟩ trivial) ?_
       refine Al_mr ?_
       refine Al_nil ?_
       exact Aw_ret (⟨_,_,[],rfl,Sub.rfl,⟨rfl,rfl,rfl,rfl,rfl,rfl,rfl,trivial⟩,rfl⟩)
      ·(try simp only[A.cd_]at h23)
       refine Aw_sr ?_
       refine Al_p Pu_cp ?_
       refine Al_mr ?_
       refine Al_nil ?_
       refine Aw_cond rfl (λh27=>?_) (λh27=>?_)
       ·(try simp only[A.cd_]at h27)
        subst h27
        refine Aw_sr ?_
        refine Al_ml ?_
        refine Al_p (Pu_makeFuncS (ys:=[_]) (xs:=[]) [.bx 1001 0 0] [] rfl ⟨Sub.rfl,trivial⟩ trivial) ?_
        refine Al_mr ?_
        refine Al_nil ?_
        exact Aw_ret (⟨_,_,[],rfl,Sub.rfl,⟨rfl,rfl,rfl,rfl,rfl,rfl,rfl,trivial⟩,rfl⟩)
       ·(try simp only[A.cd_]at h27)
        refine Aw_sr ?_
        refine Al_p Pu_cp ?_
        refine Al_mr ?_
        refine Al_nil ?_
        refine Aw_cond rfl (λh31=>?_) (λh31=>?_)
        ·(try simp only[A.cd_]at h31)
         subst h31
         refine Aw_sr ?_
         refine Al_ml ?_
         refine Al_p (Pu_makeFuncS (ys:=[_]) (xs:=[]) [.bx 1001 0 0] [] rfl ⟨Sub.rfl,trivial⟩ trivial) ?_
         refine Al_mr ?_
         refine Al_nil ?_
         exact Aw_ret (⟨_,_,[],rfl,Sub.rfl,⟨rfl,rfl,rfl,rfl,rfl,rfl,rfl,trivial⟩,rfl⟩)
        ·(try simp only[A.cd_]at h31)
         refine Aw_sr ?_
         refine Al_p Pu_cp ?_
         refine Al_mr ?_
         refine Al_nil ?_
         refine Aw_cond rfl (λh35=>?_) (λh35=>?_)
         ·(try simp only[A.cd_]at h35)
          subst h35
          refine Aw_sr ?_
          refine Al_ml ?_
          refine Al_p (Pu_makeFuncS (ys:=[_]) (xs:=[]) [.bx 1001 0 0] [] rfl ⟨Sub.rfl,trivial⟩ trivial) ?_
          refine Al_mr ?_
          refine Al_nil ?_
          exact Aw_ret (⟨_,_,[],rfl,Sub.rfl,⟨rfl,rfl,rfl,rfl,rfl,rfl,rfl,trivial⟩,rfl⟩)
         ·(try simp only[A.cd_]at h35)
          refine Aw_sr ?_
          refine Al_p Pu_cp ?_
          refine Al_mr ?_
          refine Al_nil ?_
          refine Aw_cond rfl (λh39=>?_) (λh39=>?_)
          ·(try simp only[A.cd_]at h39)
           subst h39
           refine Aw_sr ?_
           refine Al_ml ?_
           refine Al_p (Pu_makeFuncS (ys:=[_]) (xs:=[]) [.bx 1001 0 0] [] rfl ⟨Sub.rfl,trivial⟩ trivial) ?_
           refine Al_mr ?_
           refine Al_nil ?_
           exact Aw_ret (⟨_,_,[],rfl,Sub.rfl,⟨rfl,rfl,rfl,rfl,rfl,rfl,rfl,trivial⟩,rfl⟩)
          ·(try simp only[A.cd_]at h39)
           refine Aw_sr ?_
           refine Al_p Pu_cp ?_
           refine Al_mr ?_
           refine Al_nil ?_
           refine Aw_cond rfl (λh43=>?_) (λh43=>?_)
           ·(try simp only[A.cd_]at h43)
            subst h43
            refine Aw_sr ?_
            refine Al_ml ?_
            refine Al_p (Pu_makeFuncS (ys:=[_]) (xs:=[]) [.bx 1001 0 0] [] rfl ⟨Sub.rfl,trivial⟩ trivial) ?_
            refine Al_mr ?_
            refine Al_nil ?_
            exact Aw_ret (⟨_,_,[],rfl,Sub.rfl,⟨rfl,rfl,rfl,rfl,rfl,rfl,rfl,trivial⟩,rfl⟩)
           ·(try simp only[A.cd_]at h43)
            refine Aw_sr ?_
            refine Al_p Pu_cp ?_
            refine Al_mr ?_
            refine Al_nil ?_
            refine Aw_cond rfl (λh47=>?_) (λh47=>?_)
            ·(try simp only[A.cd_]at h47)
             subst h47
             refine Aw_sr ?_
             refine Al_ml ?_
             refine Al_p (Pu_makeFuncS (ys:=[_]) (xs:=[]) [.bx 1001 0 0] [] rfl ⟨Sub.rfl,trivial⟩ trivial) ?_
             refine Al_mr ?_
             refine Al_nil ?_
             exact Aw_ret (⟨_,_,[],rfl,Sub.rfl,⟨rfl,rfl,rfl,rfl,rfl,rfl,rfl,trivial⟩,rfl⟩)
            ·(try simp only[A.cd_]at h47)
             have hno:stR k=.d (.v .nilFunc):=by
              unfold stR stepF
              rw[if_neg h6,if_neg h11,if_neg h15,if_neg h19,if_neg h23,if_neg h27,if_neg h31,if_neg h35,if_neg h39,if_neg h43,if_neg h47];rfl
             refine Aw_skip (Aw_sr ?_)
             refine Al_mr ?_
             refine Al_nil ?_
             exact Aw_ret (⟨_,_,[],rfl,by rw[hno];exact Sub.rfl,⟨rfl,rfl,rfl,rfl,rfl,rfl,rfl,trivial⟩,rfl⟩)
end Go.Proofs.YtdnijgdmohinlaaGreat
end
section
set_option maxRecDepth 100000
namespace Go.Proofs.YtdnijgdmohinlaaGreat
open Go Go.RowKit A R
open A.RowT
namespace PG
def bad (o:SOp):Prop:=1≤o.kind∧o.kind≤7∧(o.client<0∨4≤o.client)
def away (g:PG) (o:SOp):Prop:=1≤o.kind∧o.kind≤7∧o.kind≠5∧(g.cli o.client).1= -1
instance (o:SOp):Decidable (bad o):=by unfold bad;infer_instance
instance (g:PG) (o:SOp):Decidable (g.away o):=by unfold away;infer_instance
def gate (g:PG) (o:SOp) (r:PG×Ans):PG×Ans:=if bad o then(g,1,[])else if g.away o then(g,13,[])else r
end PG
set_option maxHeartbeats 2000000 in
theorem gdo_of (fr:FR) (g:PG) (t:GT) (o:SOp) (r:PG×PG.Ans) (f:FuncId) (hk:stepF o.kind=some f) (hG:¬PG.bad o→¬g.away o→GCallE Tryz.prog f [.bx 1001 0 0,.d (.row o.row)] (GE fr g t) (λt':GT=>some (GE fr r.1 t',.d (ansA r.2)))):GCallE Tryz.prog 13 [.bx 1001 0 0,.d (.row o.row)] (GE fr g t) (λt':GT=>some (GE fr (g.gate o r).1 t',.d (ansA (g.gate o r).2))):=by
 refine GC_EL Tryz.func13 Tryz.ntmps13 (ReadsS.cN Tryz.results13 Tryz.isAgg37 Tryz.sizeOf37) λhok hokB M0 w0 hl=>?_
 have hst:=gstep_g fr g t o.kind
 rw[show stR o.kind=.fnb f [.bx 1001 0 0] []from congrArg stR1 hk]at hst
 refine Aw_sr ?_
 refine Al_p Pu_bN ?_
 refine Al_al Tryz.zeroValue37 λg4=>?_
 refine Al_nil (Aw_seq (Aw_sr ?_))
 refine Al_ml ?_
 refine Al_p (Pu_eqnilb Tryz.underlying32 rfl rfl) ?_
 refine Al_nil ?_
 refine Aw_condF rfl (rfl) ?_
 refine Aw_skip ?_
 refine Aw_join (ι:=Unit) [3,4] [4,1001,1002,1003,1004,1005,1006,1007] (λ_=>[(0,.bx 1001 0 0)]) (λ_=>[]) (λ_=>¬PG.bad o∧¬g.away o) ?_ ?_
 ·refine Aw_sr ?_
  refine Al_p (Pu_fd 0 Tryz.underlying41 Tryz.sizeOf3) ?_
  refine Al_p (Pu_l1 Tryz.isAgg3) ?_
  refine Al_p Pu_cp ?_
  refine Al_ml ?_
  refine Al_s (St_g [] trivial (λ_=>Pu_fd 0 Tryz.underlying41 Tryz.sizeOf3)) ?_
  refine Al_s (St_g [13] ⟨⟨_,rfl⟩,trivial⟩ (λ_=>Pu_l1 Tryz.isAgg3)) ?_
  refine Al_s (St_g [14] ⟨⟨_,rfl⟩,trivial⟩ (λ_=>Pu_cp)) ?_
  refine Al_p Pu_a ?_
  refine Al_nil ?_
  refine Aw_cond rfl (λh16=>?_) (λh16=>?_)
  ·(try simp only[A.cd_]at h16)
   refine Aw_block (Aw_sr ?_)
   refine Al_p (Pu_fd 1 Tryz.underlying41 Tryz.sizeOf3) ?_
   refine Al_p (Pu_l1 Tryz.isAgg3) ?_
   refine Al_p Pu_cp ?_
   refine Al_ml ?_
   refine Al_s (St_g [] trivial (λ_=>Pu_fd 1 Tryz.underlying41 Tryz.sizeOf3)) ?_
   refine Al_s (St_g [22] ⟨⟨_,rfl⟩,trivial⟩ (λ_=>Pu_l1 Tryz.isAgg3)) ?_
   refine Al_s (St_g [23] ⟨⟨_,rfl⟩,trivial⟩ (λ_=>Pu_cp)) ?_
   refine Al_p Pu_o ?_
   refine Al_mr ?_
   refine Al_nil ?_
   refine Aw_cond rfl (λh17=>?_) (λh17=>?_)
   ·(try simp only[A.cd_]at h17)
    have e1:g.gate o r=(g,1,[]):=if_pos ⟨by omega,by omega,by omega⟩
    refine Aw_sr ?_
    refine Al_p (Pu_call (gtold_a 6 1) rfl ⟨Sub.rfl,trivial⟩) ?_
    refine Al_sN Tryz.isAgg37 Tryz.sizeOf37 ?_
    refine Al_nil ?_
    exact Aw_ret (⟨t,_,_,[],rfl,⟨_,rfl,_,_,_,_,_,[_,_],rfl,rfl,rfl,rfl,by rw[e1]<;>rfl⟩,⟨by rw[e1]<;>rfl,rfl,by rw[e1]<;>rfl,by rw[e1]<;>rfl,by rw[e1]<;>rfl,by rw[e1]<;>rfl,rfl,trivial⟩,rfl⟩)
   ·(try simp only[A.cd_]at h17)
    have hcl:o.client=(o.client.toNat:Int):=by omega
    have hc4:o.client.toNat<4:=by omega
    have hnb:¬PG.bad o:=λh=>by have:=h.2.2;omega
    refine Aw_seq ?_
    refine Aw_dr 14 ?_
    refine Dr_p (Pu_fd 0 Tryz.underlying41 Tryz.sizeOf3) ?_
    refine Dr_p (Pu_l1 Tryz.isAgg3) ?_
    refine Dr_p Pu_cp ?_
    refine Dr_ml ?_
    refine Dr_s (St_g [] trivial (λ_=>Pu_mvl)) ?_
    refine Dr_s (St_g [] trivial (λ_=>Pu_fd 1 Tryz.underlying41 Tryz.sizeOf3)) ?_
    refine Dr_s (St_g [33] ⟨⟨_,rfl⟩,trivial⟩ (λ_=>Pu_l1 Tryz.isAgg3)) ?_
    refine Dr_s (St_g [32] ⟨⟨_,rfl⟩,trivial⟩ (λ_=>Pu_nb)) ?_
    refine Dr_s (St_g [35] ⟨⟨_,rfl⟩,trivial⟩ (λ_=>Pu_fb 5 Tryz.underlying91 Tryz.sizeOf86)) ?_
    refine Dr_s (St_g [36,34] ⟨⟨_,rfl⟩,⟨_,rfl⟩,trivial⟩ (λ_=>Pu_indexArrb rfl Tryz.underlying86 Tryz.sizeOf75 rfl rfl (hcl) (hc4))) ?_
    refine Dr_s (St_g [37] ⟨⟨_,rfl⟩,trivial⟩ (λ_=>Pu_fb 0 Tryz.underlying75 Tryz.sizeOf3)) ?_
    refine Dr_s (St_g [38] ⟨⟨_,rfl⟩,trivial⟩ (λ_=>Pu_loadb rfl Tryz.isAgg3 rfl rfl (gc_c0 fr g t.hv hc4))) ?_
    refine Dr_s (St_g [39] ⟨⟨_,rfl⟩,trivial⟩ (λ_=>Pu_cp)) ?_
    refine Dr_p Pu_a ?_
    refine Dr_nil ?_
    refine Al_mr ?_
    refine Al_nil ?_
    refine Aw_cond rfl (λh27=>?_) (λh27=>?_)
    ·skip
     have h1:(!decide (o.kind=5)&&decide ((g.cli o.client).1= -1))=true:=h27
     simp only[Bool.and_eq_true,decide_eq_true_eq,Bool.not_eq_true',decide_eq_false_iff_not]at h1
     have e1:g.gate o r=(g,13,[]):=by unfold PG.gate;rw[if_neg hnb,if_pos ⟨by omega,by omega,h1.1,h1.2⟩]
     refine Aw_sr ?_
     refine Al_p (Pu_call (gtold_a 6 13) rfl ⟨Sub.rfl,trivial⟩) ?_
     refine Al_sN Tryz.isAgg37 Tryz.sizeOf37 ?_
     refine Al_nil ?_
     exact Aw_ret (⟨t,_,_,[],rfl,⟨_,rfl,_,_,_,_,_,[_,_],rfl,rfl,rfl,rfl,by rw[e1]<;>rfl⟩,⟨by rw[e1]<;>rfl,rfl,by rw[e1]<;>rfl,by rw[e1]<;>rfl,by rw[e1]<;>rfl,by rw[e1]<;>rfl,rfl,trivial⟩,rfl⟩)
    ·skip
     have h1:(!decide (o.kind=5)&&decide ((g.cli o.client).1= -1))=false:=h27
     have hna:¬g.away o:=λ⟨_,_,h2,h3⟩=>by
      rw[decide_eq_false h2,decide_eq_true h3]at h1;cases h1
     refine Aw_skip ?_
     exact⟨(),⟨hnb,hna⟩,Le.ov ⟨Sub.rfl,trivial⟩ ⟨Sub.rfl,Sub.rfl,trivial⟩ trivial ⟨rfl,rfl,rfl,rfl,rfl,rfl,rfl,rfl,trivial⟩⟩
  ·(try simp only[A.cd_]at h16)
   have hnb:¬PG.bad o:=λh=>by have h1:=h.1;have h2:=h.2.1;omega
   have hna:¬g.away o:=λh=>by have h1:=h.1;have h2:=h.2.1;omega
   refine Aw_skip ?_
   exact⟨(),⟨hnb,hna⟩,Le.ov ⟨Sub.rfl,trivial⟩ ⟨Sub.rfl,Sub.rfl,trivial⟩ trivial ⟨rfl,rfl,rfl,rfl,rfl,rfl,rfl,rfl,trivial⟩⟩
 ·rintro _ ⟨hnb,hna⟩
  have e1:g.gate o r=r:=by unfold PG.gate;rw[if_neg hnb,if_neg hna]
  refine Aw_sr ?_
  refine Al_ml ?_
  refine Al_p (Pu_fd 0 Tryz.underlying41 Tryz.sizeOf3) ?_
  refine Al_p (Pu_l1 Tryz.isAgg3) ?_
  refine Al_p (Pu_gcall [(1001,1001,0),(1002,1002,0),(1003,1003,0),(1004,1004,0),(1005,1005,0),(1006,1006,0),(1007,1007,0)] (hst) (GE_in ..) rfl ⟨rfl,rfl,rfl,rfl,rfl,rfl,rfl,trivial⟩ rfl ⟨Sub.rfl,Sub.rfl,trivial⟩) ?_
  refine Al_mr ?_
  refine Al_nil (Aw_seq (Aw_sr ?_))
  refine Al_ml ?_
  refine Al_p (Pu_eqnilF Tryz.underlying38 rfl rfl) ?_
  refine Al_nil ?_
  refine Aw_condF rfl (rfl) ?_
  refine Aw_skip (Aw_sr ?_)
  refine Al_ml ?_
  refine Al_p (Pu_lN Tryz.isAgg41 Tryz.sizeOf41) ?_
  refine Al_gcallvE [(1001,1001,0),(1002,1002,0),(1003,1003,0),(1004,1004,0),(1005,1005,0),(1006,1006,0),(1007,1007,0)] [] (hG hnb hna) rfl rfl rfl (by decide) (by kernel_rfl) rfl ⟨rfl,rfl,rfl,rfl,rfl,rfl,rfl,trivial⟩ (λ_=>rfl) rfl rfl [.d (.row o.row)] rfl ⟨Sub.rfl,trivial⟩ (λt' g52=>?_)
  refine Al_sN Tryz.isAgg37 Tryz.sizeOf37 ?_
  refine Al_nil ?_
  exact Aw_ret (⟨t',_,_,[],rfl,⟨_,rfl,_,_,_,_,_,[_,_],rfl,rfl,rfl,rfl,by rw[e1]<;>rfl⟩,⟨by rw[e1]<;>rfl,rfl,by rw[e1]<;>rfl,by rw[e1]<;>rfl,by rw[e1]<;>rfl,by rw[e1]<;>rfl,rfl,trivial⟩,rfl⟩)
end Go.Proofs.YtdnijgdmohinlaaGreat
end
section
set_option maxRecDepth 100000
namespace Go.Proofs.YtdnijgdmohinlaaGreat
open Go Go.RowKit A R
open A.RowT
theorem N.full_all:∀n∈List.range 7,∀i∈List.range (N.upto n n 0),((List.range n).any λa=>(List.range n).any λb=>decide (N.idx n (a:Nat) (b:Nat)=some i))=true:=by decide +kernel
theorem PG.Ok.full {g:PG}{m:Nat}(h:g.Ok m):∀i,i<g.Y.length→∃c:H.SK,N.idx g.n c.1 c.2=some i:=λi hi=>by
 have h6:=h.n6
 rw[h.yl]at hi
 have:=N.full_all g.n (List.mem_range.2 (by omega)) i (List.mem_range.2 hi)
 obtain⟨a,_,ha⟩:=List.any_eq_true.1 this
 obtain⟨b,_,hb⟩:=List.any_eq_true.1 ha
 exact⟨((a:Int),(b:Int)),of_decide_eq_true hb⟩
section
variable (fr:FR) (g:PG) (t:GT)
theorem gIdle_g {m:Nat}(hg:g.Ok m) (hm:m≤1000) (hf:fr.Ok g):GCall Tryz.prog 17 [.bx 1001 0 0] (GE fr g t) (some (GE fr g t,.d (bv g.idle))):=by
 refine GC_L Tryz.func17 Tryz.ntmps17 (ReadsS.r1 Tryz.results17) λhok hokB M0 w0 hl=>?_
 have hY:∀s∈g.Y,s.Fit 1000:=λs hs=>(hg.yf s hs).mono (by omega)
 refine Aw_sr ?_
 refine Al_mr ?_
 refine Al_ns ?_
 refine Al_ml ?_
 refine Al_p (Pu_neqnilb Tryz.underlying32 rfl rfl) ?_
 refine Al_ml ?_
 refine Al_s (St_g [] trivial (λ_=>Pu_mvl)) ?_
 refine Al_s (St_g [6] ⟨⟨_,rfl⟩,trivial⟩ (λ_=>Pu_nb)) ?_
 refine Al_s (St_g [7] ⟨⟨_,rfl⟩,trivial⟩ (λ_=>Pu_fb 4 Tryz.underlying91 Tryz.sizeOf83)) ?_
 refine Al_s (St_g [8] ⟨⟨_,rfl⟩,trivial⟩ (λ_=>Pu_lb Tryz.isAgg83)) ?_
 refine Al_s (St_g [9] ⟨⟨_,rfl⟩,trivial⟩ (λ_=>Pu_gcall [(1001,1002,0),(1002,1003,0),(1003,1004,0)] (ntIdle_g g.n fr.b fr.cnt t.Fn (N.vX fr.np g.Y) (N.vX_full hf.nl hg.full) (N.vX_fit hY)) (NT_in ..) rfl ⟨rfl,rfl,rfl,trivial⟩ rfl ⟨Sub.rfl,trivial⟩)) ?_
 refine Al_p Pu_a ?_
 refine Al_mr ?_
 refine Al_nil ?_
 exact Aw_ret (⟨_,_,[],rfl,Sub.bool (by rw[N.vX_idle hf.nl];rfl),⟨rfl,rfl,rfl,rfl,rfl,rfl,rfl,trivial⟩,rfl⟩)
theorem atV_in {fr:FR}{g:PG}{s:Int}(h:g.isS s=true):atV fr g s=fr.sp.getD s.toNat default:=by unfold atV;rw[h];rfl
theorem gChain_g (s:Int) (key:ByteArray) {m:Nat}(hg:g.Ok m) (hm:m≤1000) (hf:fr.Ok g) (hs:g.isS s=true):GCall Tryz.prog 15 [.bx 1001 0 0,.d (iv s),.d (tv key)] (GE fr g t) (some (GE fr g t,.d (versA (J.getC (g.site s).cs key)))):=by
 refine GC_L Tryz.func15 Tryz.ntmps15 (ReadsS.r1 Tryz.results15) λhok hokB M0 w0 hl=>?_
 obtain⟨hs0,hsn⟩:=PG.isS_iff hs
 have hi:s.toNat<g.S.length:=by rw[hg.sl];exact hsn
 refine Aw_sr ?_
 refine Al_mr ?_
 refine Al_ns ?_
 refine Al_ml ?_
 refine Al_ml ?_
 refine Al_p (Pu_gcall [(1001,1001,0),(1002,1002,0),(1003,1003,0),(1004,1004,0),(1005,1005,0),(1006,1006,0),(1007,1007,0)] (gat_g fr g t s hf hg.sl) (GE_in ..) rfl ⟨rfl,rfl,rfl,rfl,rfl,rfl,rfl,trivial⟩ rfl ⟨Sub.rfl,Sub.rfl,trivial⟩) ?_
 refine Al_ml ?_
 refine Al_p (Pu_gcall [(1001,1005,0)] (gsChain_g hf.sl hi (hg.site hsn) hm key) (SX_in ..) rfl ⟨rfl,trivial⟩ rfl ⟨by rw[←atV_in hs];exact Sub.rfl,Sub.rfl,trivial⟩) ?_
 refine Al_mr ?_
 refine Al_nil ?_
 exact Aw_ret (⟨_,_,[],rfl,Sub.rfl,⟨rfl,rfl,rfl,rfl,rfl,rfl,rfl,trivial⟩,rfl⟩)
end
end Go.Proofs.YtdnijgdmohinlaaGreat
end
section
namespace Go.Proofs.YtdnijgdmohinlaaGreat
open Go.RowKit A R
open A.RowT
structure Act where
 write:Bool
 client:Int
 key:Int
 n:Int
 site:Int
instance:Inhabited Act:=⟨⟨false,0,0,0,0⟩⟩
namespace G
def keys4:List ByteArray:=[⟨#[97]⟩,⟨#[98]⟩,⟨#[99]⟩,⟨#[100]⟩]
end G
end Go.Proofs.YtdnijgdmohinlaaGreat
end
section
namespace Go.Proofs.YtdnijgdmohinlaaGreat
open Go.RowKit A R
namespace D
def Ge (p q:List Dep):Prop:=∀k,lessB (get p k).1 (get p k).2 (get q k).1 (get q k).2=false
end D
end Go.Proofs.YtdnijgdmohinlaaGreat
namespace Go.Proofs.YtdnijgdmohinlaaGreat
open Go.RowKit A R
namespace G
def wk (e:List Event) (key:ByteArray) (k:Nat):Bool:=decide ((e.getD k default).kind=1)&&(e.getD k default).key.toList==key.toList
structure EvI (e:List Event) (j:Nat) (x:Event):Prop where
 cl:0≤x.client∧x.client<4
 key:x.key∈keys4
 good:D.Good x.seen
 ent:∀d∈x.seen,∃w,w<j∧(e.getD w default).kind=1∧d=depE (e.getD w default)
 cov:D.Ge x.seen (behind e (lastZ e j x.client))
 kw:x.kind=1→x.n=1+j∧x.s=x.client
 kr:x.kind≠1→x.kind=2∧((x.n=0∧x.s=0∧∀w,w<j→wk e x.key w=false)∨∃w,w<j∧wk e x.key w=true∧(∀v,w<v→v<j→wk e x.key v=false)∧x.n=(e.getD w default).n∧x.s=(e.getD w default).s∧D.Ge x.seen (e.getD w default).seen)
section
variable {e:List Event}(hev:∀j,j<e.length→EvI e j (e.getD j default))
include hev in
include hev in
include hev in
end
end G
end Go.Proofs.YtdnijgdmohinlaaGreat
namespace Go.Proofs.YtdnijgdmohinlaaGreat
open Go.RowKit A R
namespace G
section
variable {e:List Event}(hn:e.length≤16) (hev:∀j,j<e.length→EvI e j (e.getD j default))
include hev in
include hev in
include hev in
include hn hev in
include hn hev in
include hn hev in
include hn hev in
include hev in
end
end G
end Go.Proofs.YtdnijgdmohinlaaGreat
end
section
set_option maxRecDepth 100000
namespace Go.Proofs.YtdnijgdmohinlaaGreat
open Go Go.RowKit A R
def letter (j:Nat):ByteArray:=⟨#[UInt8.ofNat (97+j)]⟩
def letters:List ByteArray:=(List.range 8).map letter
def K8 (k:ByteArray):Prop:=k∈letters
def idx8 (k:ByteArray):Nat:=(k.data.toList.headD 97).toNat - 97
theorem idx8_lt:∀a∈letters,∀b∈letters,Op.bytesLess a.toList b.toList=true→idx8 a<idx8 b:=by decide +kernel
theorem idx8_le:∀a∈letters,idx8 a<8:=by decide +kernel
theorem rise8:∀(l:List Nat) (b:Nat),b≤8→l.Pairwise (·<·)→(∀x∈l,b≤x∧x<8)→l.length≤8 - b
 | [],b,_,_,_=>Nat.zero_le _
 | x::r,b,hb,h,h2=>by
  obtain⟨h3,h4⟩:=List.pairwise_cons.1 h
  have hx:=h2 x (List.mem_cons_self ..)
  have:=rise8 r (x+1) (by omega) h4 λy hy=>⟨h3 y hy,(h2 y (List.mem_cons_of_mem _ hy)).2⟩
  rw[List.length_cons];omega
theorem rise_k8 {l:List ByteArray}(h:l.Pairwise λa b=>Op.bytesLess a.toList b.toList=true) (h8:∀k∈l,K8 k):l.length≤8:=by
 have:=rise8 (l.map idx8) 0 (by decide) (List.pairwise_map.2 (h.imp_of_mem λ{a b} ha hb hab=>idx8_lt a (h8 a ha) b (h8 b hb) hab)) λx hx=>by
  obtain⟨k,hk,rfl⟩:=List.mem_map.1 hx
  exact⟨Nat.zero_le _,idx8_le k (h8 k hk)⟩
 simpa using this
structure P8 (p:List Dep):Prop where
 good:D.Good p
 key:∀d∈p,K8 d.key
theorem P8.len {p:List Dep}(h:P8 p):p.length≤8:=by
 have:=rise_k8 (l:=p.map (·.key)) ((List.pairwise_map (f:=λd:Dep=>d.key)).2 (show p.Pairwise (λx y=>Op.bytesLess x.key.toList y.key.toList=true)from h.good.1)) λk hk=>by
  obtain⟨d,hd,rfl⟩:=List.mem_map.1 hk
  exact h.key d hd
 simpa using this
theorem P8.nil:P8 []:=⟨D.nil_good,λd hd=>by cases hd⟩
structure V8 (v:Ver):Prop where
 ok:J.checkB v=true
 key:K8 v.key
 past:∀d∈v.past,K8 d.key
theorem D.addAll_mem:∀(q p:List Dep) (x:Dep),x∈D.addAll p q→x∈p∨x∈q
 | [],p,x,h=>.inl h
 | d::q,p,x,h=>by
  rcases D.addAll_mem q (D.add p d) x h with h|h
  ·unfold D.add at h
   split at h
   ·rcases D.addF_mem _ _ _ _ h with h|h
    ·exact .inl h
    ·exact .inr (by rw[h];exact List.mem_cons_self ..)
   ·exact .inl h
  ·exact .inr (List.mem_cons_of_mem _ h)
theorem D.mergeL_mem {l:List (List Dep)}{x:Dep}(h:x∈D.mergeL l):∃p∈l,x∈p:=by
 rcases D.addAll_mem _ _ _ h with h|h
 ·cases h
 ·obtain⟨p,hp,hx⟩:=List.mem_flatten.1 h
  exact⟨p,hp,hx⟩
theorem P8.merge {l:List (List Dep)}(h:∀p∈l,∀d∈p,K8 d.key):P8 (D.mergeL l):=⟨D.mergeL_good l,λd hd=>by
 obtain⟨p,hp,hx⟩:=D.mergeL_mem hd
 exact h p hp d hx⟩
theorem P8.saw1 {c:Int×List Dep}(h:P8 c.2) {v:Ver}(hv:V8 v):P8 (N.saw1 c v).2:=P8.merge λp hp d hd=>by
 rcases List.mem_cons.1 hp with rfl|hp
 ·exact h.key d hd
 ·rcases List.mem_cons.1 hp with rfl|hp
  ·exact hv.past d hd
  ·obtain rfl:=List.mem_singleton.1 hp
   rw[List.mem_singleton.1 hd];exact hv.key
def SV8 (Q:Ver→Prop) (p:PS):Prop:=(∀q∈p.cs,∀v∈q.2,Q v)∧∀v∈p.wait,Q v
def YV8 (Q:Ver→Prop) (s:VS):Prop:=(∀p∈s.op,Q p.2)∧∀p∈s.way,Q p.2
section
variable {Q:Ver→Prop}
theorem J.put_in {l m:List Ver}{v x:Ver}(h:J.put l v=some m) (hx:x∈m):x=v∨x∈l:=by
 unfold J.put at h
 split at h
 ·obtain rfl:=Option.some.inj h
  rcases List.mem_append.1 hx with hx|hx
  ·exact .inr (List.mem_of_mem_take hx)
  ·rcases List.mem_cons.1 hx with rfl|hx
   ·exact .inl rfl
   ·exact .inr (List.mem_of_mem_drop hx)
 ·cases h
theorem J.getC_of {cs:SC}{k:ByteArray}{x:Ver}(hx:x∈J.getC cs k):∃q∈cs,x∈q.2:=by
 unfold J.getC at hx
 cases hl:J.look cs k with
 | none=>rw[hl]at hx;cases hx
 | some l=>rw[hl]at hx;exact⟨_,J.mem_look hl,hx⟩
theorem J.sput_all {rs:List Rng}{cs:SC}{v:Ver}(h:∀q∈cs,∀x∈q.2,Q x) (hv:Q v):∀q∈(J.sput rs cs v).1,∀x∈q.2,Q x:=by
 unfold J.sput
 split
 ·exact h
 ·split
  ·rename_i m hm
   intro q hq x hx
   rcases J.mem_setC _ _ _ _ hq with rfl|hq
   ·rcases J.put_in hm hx with rfl|hx
    ·exact hv
    ·obtain⟨q',hq',hx'⟩:=J.getC_of hx
     exact h q' hq' x hx'
   ·exact h q hq x hx
  ·exact h
theorem SV8.write {p:PS}(h:SV8 Q p) (key value:ByteArray) (gone:Bool) (past:List Dep) (hv:p.writeE key value gone past=0→Q (p.made key value gone past)):SV8 Q (p.write key value gone past):=by
 unfold PS.write
 split
 ·rename_i h0
  exact⟨J.sput_all h.1 (hv h0),h.2⟩
 ·exact h
theorem SV8.arrive {p:PS}(h:SV8 Q p) {v:Ver}(hv:Q v):SV8 Q (p.arrive v):=by
 unfold PS.arrive
 split
 ·split
  ·exact h
  ·refine⟨h.1,λx hx=>?_⟩
   rcases List.mem_append.1 hx with hx|hx
   ·exact h.2 x hx
   ·rw[List.mem_singleton.1 hx];exact hv
 ·exact h
theorem PS.stepV_mem {p:PS}{v:Ver}(h:p.stepV=some v):v∈p.wait:=List.mem_of_getElem? h
theorem SV8.step {p:PS}(h:SV8 Q p):SV8 Q p.step:=by
 unfold PS.step
 split
 ·rename_i v hv
  exact⟨J.sput_all h.1 (h.2 v (PS.stepV_mem hv)),λx hx=>h.2 x (List.mem_of_mem_eraseIdx hx)⟩
 ·exact h
theorem SV8.head {p:PS}(h:SV8 Q p) {key:ByteArray}{v:Ver}(hv:p.readV key=some v):Q v:=by
 unfold PS.readV at hv
 split at hv
 ·cases hv
 ·obtain⟨q,hq,hx⟩:=J.getC_of (J.shead_in hv)
  exact h.1 q hq v hx
theorem YV8.send {s:VS}(h:YV8 Q s) {v:Ver}(hv:Q v):YV8 Q (s.send v):=by
 unfold VS.send
 split
 ·exact h
 ·refine⟨λp hp=>?_,λp hp=>?_⟩ <;>
  ·rcases List.mem_append.1 hp with hp|hp
   ·first|exact h.1 p hp|exact h.2 p hp
   ·rw[List.mem_singleton.1 hp];exact hv
theorem YV8.out {s:VS}(h:YV8 Q s) (k:Int):YV8 Q (s.out k):=⟨h.1,λp hp=>by
 rcases List.mem_append.1 hp with hp|hp
 ·exact h.2 p (List.mem_of_mem_take hp)
 ·exact h.2 p (List.mem_of_mem_drop hp)⟩
theorem YV8.took {s:VS}(h:YV8 Q s) (q:Int):YV8 Q (s.took q):=by
 unfold VS.took
 split
 ·exact⟨λp hp=>h.1 p (List.mem_of_mem_drop hp),h.2⟩
 ·exact h
theorem YV8.pick {s:VS}(h:YV8 Q s) {k:Int}(how:Int) (hk:s.inW k=true):YV8 Q (s.pick k how):=by
 unfold VS.pick
 split
 ·split
  ·refine⟨h.1,λp hp=>?_⟩
   rcases List.mem_append.1 hp with hp|hp
   ·exact h.2 p hp
   ·rw[List.mem_singleton.1 hp];exact h.2 _ (VS.mem_at hk)
  ·exact h
 ·split
  ·exact h.out k
  ·exact(h.out k).took _
end
end Go.Proofs.YtdnijgdmohinlaaGreat
end
section
set_option maxRecDepth 100000
namespace Go.Proofs.YtdnijgdmohinlaaGreat
open Go Go.RowKit A R
namespace PG
structure Inv (g:PG) (m:Nat):Prop where
 ok:g.Ok m
 cp:∀k,P8 (g.cs k).2
 sv:∀p∈g.S,SV8 V8 p
 yv:∀s∈g.Y,YV8 V8 s
variable {g:PG}{m:Nat}
theorem Ok.mono {m':Nat}(h:g.Ok m) (hm:m≤m'):g.Ok m':=⟨h.par,h.row,h.sl,λp hp=>(h.so p hp).mono hm,h.yl,λs hs=>(h.yf s hs).mono hm,h.cs,Nat.le_trans h.hl hm⟩
theorem Inv.mono {m':Nat}(h:g.Inv m) (hm:m≤m'):g.Inv m':=⟨h.ok.mono hm,h.cp,h.sv,h.yv⟩
theorem Inv.new {c:SRow}(hp:T.Ahead c.parents) (hc:T.ok c=true):(new c).Inv 32 where
 ok:=new_ok hp hc
 cp k:=by
  show P8 (if k<4 then(((k%c.parents.length:Nat):Int),([]:List Dep))else(0,[])).2
  split<;>exact P8.nil
 sv p hp2:=by
  obtain⟨i,hi,rfl⟩:=List.mem_map.1 hp2
  exact⟨λq hq=>(by cases hq),λv hv=>by cases hv⟩
 yv s hs:=by
  obtain⟨_,rfl⟩:=List.mem_replicate.1 hs
  exact⟨λp hp=>(by cases hp),λp hp=>by cases hp⟩
theorem Inv.setC (h:g.Inv m) (i:Int) {c:Int×List Dep}(h1: -1≤c.1) (h2:c.1<g.n) (h3:P8 c.2):(g.setC i c).Inv m where
 ok:=⟨h.ok.par,h.ok.row,h.ok.sl,h.ok.so,h.ok.yl,h.ok.yf,λk=>by
  show -1≤(if k=i.toNat then c else g.cs k).1∧(if k=i.toNat then c else g.cs k).1<(g.n:Int)∧(if k=i.toNat then c else g.cs k).2.length≤400
  split
  ·exact⟨h1,h2,by have:=h3.len;omega⟩
  ·exact h.ok.cs k,h.ok.hl⟩
 cp k:=by
  show P8 (if k=i.toNat then c else g.cs k).2
  split
  ·exact h3
  ·exact h.cp k
 sv:=h.sv
 yv:=h.yv
theorem Inv.setS {m':Nat}(h:g.Inv m) (hm:m≤m') (i:Int) {p:PS}(hp:p.Ok m') (hv:SV8 V8 p):(g.setS i p).Inv m' where
 ok:=⟨h.ok.par,h.ok.row,by show(g.S.set _ _).length=g.n;rw[List.length_set];exact h.ok.sl,λq hq=>by
  rcases List.mem_or_eq_of_mem_set hq with hq|rfl
  ·exact(h.ok.so q hq).mono hm
  ·exact hp,h.ok.yl,λs hs=>(h.ok.yf s hs).mono hm,h.ok.cs,Nat.le_trans h.ok.hl hm⟩
 cp:=h.cp
 sv q hq:=by
  rcases List.mem_or_eq_of_mem_set hq with hq|rfl
  ·exact h.sv q hq
  ·exact hv
 yv:=h.yv
theorem vUpd_mem {n:Nat}{Y:List VS}{a b:Int}{f:VS→VS}{s:VS}(h:s∈N.vUpd n Y a b f):s∈Y∨∃s',N.vAt n Y a b=some s'∧s=f s':=by
 unfold N.vUpd at h
 unfold N.vAt
 cases hx:N.idx n a b with
 | none=>rw[hx]at h;exact .inl h
 | some i =>
  rw[hx]at h
  cases hy:Y[i]? with
  | none=>simp only[hy]at h;exact .inl h
  | some x =>
   simp only[hy]at h
   rcases List.mem_or_eq_of_mem_set h with h|rfl
   ·exact .inl h
   ·exact .inr ⟨x,hy,rfl⟩
theorem Inv.updY {m':Nat}(h:g.Inv m) (hm:m≤m') (a b:Int) {f:VS→VS}(hf:∀s,g.ses a b=some s→s.Fit m→YV8 V8 s→(f s).Fit m'∧YV8 V8 (f s)):(g.updY a b f).Inv m' where
 ok:=⟨h.ok.par,h.ok.row,h.ok.sl,λq hq=>(h.ok.so q hq).mono hm,(N.vUpd_len ..).trans h.ok.yl,λs hs=>by
  rcases vUpd_mem hs with hs|⟨s',hs',rfl⟩
  ·exact(h.ok.yf s hs).mono hm
  ·exact(hf s' hs' (h.ok.yf s' (N.vAt_mem hs')) (h.yv s' (N.vAt_mem hs'))).1,h.ok.cs,Nat.le_trans h.ok.hl hm⟩
 cp:=h.cp
 sv:=h.sv
 yv s hs:=by
  rcases vUpd_mem hs with hs|⟨s',hs',rfl⟩
  ·exact h.yv s hs
  ·exact(hf s' hs' (h.ok.yf s' (N.vAt_mem hs')) (h.yv s' (N.vAt_mem hs'))).2
theorem Inv.send {v:Ver}(hv:V8 v) (fr:Int):∀(to:List Nat) (g:PG) (m:Nat),g.Inv m→(g.send fr to v).Inv (m+to.length)
 | [],g,m,h=>h
 | x::r,g,m,h=>by
  have:=Inv.send hv fr r (g.updY fr x (·.send v)) (m+1) (h.updY (by omega) fr x λs _ hs hy=>⟨hs.send hv.ok,hy.send hv⟩)
  rw[List.length_cons,show m+(r.length+1)=m+1+r.length from by omega]
  exact this
theorem Inv.ev (h:g.Inv m) (e:Event):(g.ev e).Inv (m+1) where
 ok:=⟨h.ok.par,h.ok.row,h.ok.sl,λq hq=>(h.ok.so q hq).mono (by omega),h.ok.yl,λs hs=>(h.ok.yf s hs).mono (by omega),h.ok.cs,by
  have:=h.ok.hl
  show(g.h++[e]).length≤_
  simp;omega⟩
 cp:=h.cp
 sv:=h.sv
 yv:=h.yv
theorem nx_len (h:g.Ok m) (a fr:Int) (key:ByteArray):(g.nx a fr key).length≤6:=Nat.le_trans (T.next_len ..) h.par.le
theorem Inv.site (h:g.Inv m) {i:Int}(hi:i.toNat<g.n):SV8 V8 (g.site i):=by
 have:i.toNat<g.S.length:=by rw[h.ok.sl];exact hi
 unfold PG.site
 rw[show g.S.getD i.toNat default=g.S[i.toNat]from by simp[this]]
 exact h.sv _ (List.getElem_mem this)
theorem write_v8 {p:PS}{key value:ByteArray}{gone:Bool}{past:List Dep}(hk:K8 key) (hp:P8 past) (h:p.writeE key value gone past=0):V8 (p.made key value gone past):=by
 have:=PS.write_ok h
 unfold PS.writeV at this
 rw[if_pos h]at this
 exact⟨this,hk,hp.key⟩
theorem putE_zero {o:SOp}(h:g.putE o=0):(g.site (g.cli o.client).1).writeE o.key (putW o) (decide (o.kind=2)) (g.cli o.client).2=0:=by
 unfold PG.putE at h
 split at h
 ·cases h
 ·split at h
  ·cases h
  ·exact h
theorem put_v8 (h:g.Inv m) {o:SOp}(hk:K8 o.key) (h0:g.putE o=0):V8 (g.putV o):=by
 have h1:=putE_zero h0
 unfold PG.putV PS.writeV
 rw[if_pos h1]
 exact write_v8 hk (h.cp _) h1
theorem Inv.put (h:g.Inv m) {o:SOp}(ha:g.At o) (hk:K8 o.key):(g.put o).1.Inv (m+8):=by
 unfold PG.put
 split
 ·rename_i h0
  obtain⟨hcs,hcn,hcp⟩:=h.ok.cli ha
  have hv:=put_v8 h hk h0
  have hl:=nx_len h.ok (g.cli o.client).1 (-1) o.key
  have h1:(g.setS (g.cli o.client).1 ((g.site (g.cli o.client).1).write o.key (putW o) (decide (o.kind=2)) (g.cli o.client).2)).Inv (m+1) :=
   h.setS (by omega) _ ((h.ok.site hcn).write ..) ((h.site hcn).write _ _ _ _ λh2=>write_v8 hk (h.cp _) h2)
  have h2:=(Inv.send hv (g.cli o.client).1 (g.nx (g.cli o.client).1 (-1) o.key) _ _ h1).ev ⟨1,o.client,(g.putV o).key,(g.putV o).n,(g.putV o).s,(g.cli o.client).2⟩
  have hc:=h.ok.cs o.client.toNat
  have h2':((((g.setS (g.cli o.client).1 ((g.site (g.cli o.client).1).write o.key (putW o) (decide (o.kind=2)) (g.cli o.client).2)).send (g.cli o.client).1 (g.nx (g.cli o.client).1 (-1) o.key) (g.putV o))).ev ⟨1,o.client,(g.putV o).key,(g.putV o).n,(g.putV o).s,(g.cli o.client).2⟩).n=g.n:=by
   show((g.setS _ _).send _ _ _).n=g.n
   rw[send_n];rfl
  refine(h2.setC o.client (c:=N.saw1 (g.cli o.client) (g.putV o)) ?_ ?_ (P8.saw1 (h.cp _) hv)).mono ?_
  ·exact hc.1
  ·rw[h2'];exact hc.2.1
  ·omega
 ·exact h.mono (by omega)
theorem Inv.get (h:g.Inv m) {o:SOp}(ha:g.At o):(g.get o).1.Inv (m+8):=by
 obtain⟨hcs,hcn,hcp⟩:=h.ok.cli ha
 have hc:=h.ok.cs o.client.toNat
 have h1:(g.getS o).Inv (m+1):=h.ev _
 unfold PG.get
 split
 ·split
  ·rename_i v hv
   exact(h1.setC o.client (c:=N.saw1 (g.cli o.client) v) hc.1 hc.2.1 (P8.saw1 (h.cp _) ((h.site hcn).head hv))).mono (by omega)
  ·exact h1.mono (by omega)
 ·exact h.mono (by omega)
theorem Inv.step (h:g.Inv m) (o:SOp):(g.step o).1.Inv (m+1):=by
 unfold PG.step
 split
 ·rename_i hs
  obtain⟨hs0,hsn⟩:=isS_iff hs
  split
  ·exact h.setS (by omega) _ (h.ok.site hsn).step (h.site hsn).step
  ·exact h.mono (by omega)
 ·exact h.mono (by omega)
theorem Inv.pick (h:g.Inv m) (hm:32≤m) (o:SOp):(g.pick o).1.Inv (m+8):=by
 unfold PG.pick
 split
 ·exact h.mono (by omega)
 ·rename_i s hx
  obtain⟨ha0,han,hb0,hbn⟩:=ses_idx hx
  by_cases hw:s.inW o.at'=false
  ·rw[if_pos hw];exact h.mono (by omega)
  ·rw[if_neg hw]
   have hw':s.inW o.at'=true:=by simpa using hw
   have h1:(g.updY o.site o.to' (·.pick o.at' o.how)).Inv (m+1):=h.updY (by omega) o.site o.to' λs' hs' hf hy=>by
    rw[hx]at hs';cases hs'
    exact⟨hf.pick _ hw' hm,hy.pick _ hw'⟩
   split
   ·exact h1.mono (by omega)
   ·split
    ·exact h.mono (by omega)
    ·have hv:V8 (s.at' o.at').2:=(h.yv s (N.vAt_mem hx)).2 _ (VS.mem_at hw')
     have h2:=h1.setS (Nat.le_refl _) o.to' (p:=(g.site o.to').arrive (s.at' o.at').2) (((h.ok.site hbn).arrive _).mono (by omega)) ((h.site hbn).arrive hv)
     have hl:=nx_len h.ok o.to' o.site (s.at' o.at').2.key
     exact(Inv.send hv o.to' _ _ _ h2).mono (by unfold pickT;omega)
theorem Inv.gate {m':Nat}(h:g.Inv m) (hm:m≤m') {o:SOp}{r:PG×Ans}(hr:¬bad o→¬g.away o→r.1.Inv m'):(g.gate o r).1.Inv m':=by
 unfold PG.gate
 split
 ·exact h.mono hm
 ·split
  ·exact h.mono hm
  ·rename_i h1 h2;exact hr h1 h2
theorem at_of (h:g.Ok m) {o:SOp}(hk:1≤o.kind∧o.kind≤7∧o.kind≠5) (hb:¬bad o) (ha:¬g.away o):g.At o:=by
 have hc:=h.cs o.client.toNat
 unfold bad at hb
 unfold away at ha
 unfold PG.cli at ha
 refine⟨by omega,by omega,?_⟩
 unfold PG.cli
 omega
end PG
end Go.Proofs.YtdnijgdmohinlaaGreat
end
section
set_option maxRecDepth 100000
namespace Go.Proofs.YtdnijgdmohinlaaGreat
open Go Go.RowKit A R
open A.RowT
theorem gdo_to {fr:FR}{g:PG}{t:GT}{o:SOp}{r:PG×PG.Ans}{f:FuncId}{w:PG}{a:PG.Ans}(hk:stepF o.kind=some f) (hw:g.gate o r=(w,a)) (hG:¬PG.bad o→¬g.away o→GCallE Tryz.prog f [.bx 1001 0 0,.d (.row o.row)] (GE fr g t) (λt':GT=>some (GE fr r.1 t',.d (ansA r.2)))):GCallE Tryz.prog 13 [.bx 1001 0 0,.d (.row o.row)] (GE fr g t) (λt':GT=>some (GE fr w t',.d (ansA a))):=by
 have:=gdo_of fr g t o r f hk hG
 rw[hw]at this
 exact this
section
variable {fr:FR}{g:PG}{t:GT}{o:SOp}{w:PG}{a:PG.Ans}{m:Nat}
theorem gdo_put (hi:g.Inv m) (hm:m≤900) (hf:fr.Ok g) (hk:o.kind=1∨o.kind=2) (hw:g.gate o (g.put o)=(w,a)):GCallE Tryz.prog 13 [.bx 1001 0 0,.d (.row o.row)] (GE fr g t) (λt':GT=>some (GE fr w t',.d (ansA a))) :=
 gdo_to (f:=87) (by rcases hk with h|h<;>rw[h]<;>rfl) hw λhb ha=>gput_g fr g t o hi.ok hm hf (PG.at_of hi.ok (by omega) hb ha)
theorem gdo_get (hi:g.Inv m) (hm:m≤900) (hf:fr.Ok g) (hk:o.kind=3) (hw:g.gate o (g.get o)=(w,a)):GCallE Tryz.prog 13 [.bx 1001 0 0,.d (.row o.row)] (GE fr g t) (λt':GT=>some (GE fr w t',.d (ansA a))) :=
 gdo_to (f:=88) (by rw[hk];rfl) hw λhb ha=>by
  have hat:=PG.at_of hi.ok (by omega) hb ha
  obtain⟨hcs,hcn,hcp⟩:=hi.ok.cli hat
  exact gget_g fr g t o hi.ok hm hf hat λq hq v hv=>((hi.site hcn).1 q hq v hv).ok
theorem gdo_pick (hi:g.Inv m) (hm:m≤900) (hf:fr.Ok g) (hk:o.kind=8) (hw:g.gate o (g.pick o)=(w,a)):GCallE Tryz.prog 13 [.bx 1001 0 0,.d (.row o.row)] (GE fr g t) (λt':GT=>some (GE fr w t',.d (ansA a))) :=
 gdo_to (f:=93) (by rw[hk];rfl) hw λ_ _=>gpick_g fr g t o hi.ok hm hf
theorem gdo_step (hi:g.Inv m) (hm:m≤900) (hf:fr.Ok g) (hk:o.kind=10) (hw:g.gate o (g.step o)=(w,a)):GCallE Tryz.prog 13 [.bx 1001 0 0,.d (.row o.row)] (GE fr g t) (λt':GT=>some (GE fr w t',.d (ansA a))) :=
 gdo_to (f:=95) (by rw[hk];rfl) hw λ_ _=>gsteps_g fr g t o hi.ok hm hf
end
namespace W21
def c0:SRow:=⟨[⟨⟨#[]⟩,⟨#[]⟩⟩],[3],[-1,0]⟩
def none_:SRow:=⟨[],[],[]⟩
def o1:SOp:=⟨1,0,0,0,0,0,⟨#[97]⟩,⟨#[120]⟩,[],none_⟩
def o2:SOp:=⟨8,0,0,1,0,0,⟨#[]⟩,⟨#[]⟩,[],none_⟩
def o3:SOp:=⟨10,0,1,0,0,0,⟨#[]⟩,⟨#[]⟩,[],none_⟩
def o4:SOp:=⟨3,1,0,0,0,0,⟨#[97]⟩,⟨#[]⟩,[],none_⟩
theorem h0:T.Ahead c0.parents:=⟨by decide,by decide,rfl,λi h1 h2=>by
 have:i=1:=by simp[c0]at h2;omega
 subst this;decide⟩
theorem k0:T.ok c0=true:=by decide +kernel
def w0:PG:=PG.new c0
def w1:PG:=(w0.gate o1 (w0.put o1)).1
def a1:PG.Ans:=(w0.gate o1 (w0.put o1)).2
def w2:PG:=(w1.gate o2 (w1.pick o2)).1
def a2:PG.Ans:=(w1.gate o2 (w1.pick o2)).2
def w3:PG:=(w2.gate o3 (w2.step o3)).1
def a3:PG.Ans:=(w2.gate o3 (w2.step o3)).2
def w4:PG:=(w3.gate o4 (w3.get o4)).1
def a4:PG.Ans:=(w3.gate o4 (w3.get o4)).2
theorem ka:K8 ⟨#[97]⟩:=List.mem_map.2 ⟨0,by decide,rfl⟩
theorem i0:w0.Inv 32:=PG.Inv.new h0 k0
theorem i1:w1.Inv 40:=i0.gate (by decide) λhb ha=>i0.put (PG.at_of i0.ok (by decide) hb ha) ka
theorem i2:w2.Inv 48:=i1.gate (by decide) λ_ _=>i1.pick (by decide) o2
theorem i3:w3.Inv 49:=i2.gate (by decide) λ_ _=>i2.step o3
theorem i4:w4.Inv 57:=i3.gate (by decide) λhb ha=>i3.get (PG.at_of i3.ok (by decide) hb ha)
theorem e4:a4.2.length=1:=by decide +kernel
theorem eall:(decide (a1.1=0)&&decide (a2.1=0)&&decide (a3.1=0)&&decide ((a4.2.length:Int)=1)&&((a4.2.getD 0 default).value.toList==(⟨#[120]⟩:ByteArray).toList)&&w4.idle)=true:=by decide +kernel
end W21
theorem FR.Ok.inv {fr:FR}{g g':PG}{m m':Nat}(h:fr.Ok g) (i:g.Inv m) (i':g'.Inv m') (hn:g'.n=g.n):fr.Ok g':=⟨by rw[h.sl,i.ok.sl,i'.ok.sl,hn],by rw[h.nl,i.ok.yl,i'.ok.yl,hn],h.np,h.sp,by rw[i'.ok.sl,hn,←i.ok.sl];exact h.s6⟩
theorem gawake_a:ACall Tryz.prog 10 [] (bv true):=by
 refine AC_1 Tryz.func10 Tryz.ntmps10 Tryz.results10 λhok M0 w0 hnl=>?_
 have he4:=W21.e4
 have hlt:0<W21.a4.2.length:=by omega
 refine Aw_sr ?_
 refine Al_mr ?_
 refine Al_ns ?_
 refine Al_p (Pu_build (aa:=[]) rfl Tryz.underlying56 Tryz.zeroValue56 places56 (by kernel_rfl) trivial rfl) ?_
 refine Al_p (Pu_slice1 rfl Tryz.underlying28 Tryz.sizeOf56 Tryz.zeroValue56 rfl (by decide) (by decide) (by kernel_rfl) rfl rfl rfl) ?_
 refine Al_p (Pu_slice1 rfl Tryz.underlying22 Tryz.sizeOf3 Tryz.zeroValue3 rfl (by decide) (by decide) (by kernel_rfl) rfl rfl rfl) ?_
 refine Al_p (Pu_buildSlice (aa:=[(0,_),(1,_)]) rfl Tryz.underlying22 Tryz.sizeOf3 Tryz.zeroValue3 rfl (by decide) (by decide) (by decide) (by kernel_rfl) ⟨rfl,rfl,rfl,rfl,rfl,rfl,trivial⟩ ((rfl:_=some [[iv (-1)],[iv 0]].flatten)) rfl rfl) ?_
 refine Al_p (Pu_build (aa:=[(0,_),(1,_),(2,_)]) rfl Tryz.underlying30 Tryz.zeroValue30 places30 (by kernel_rfl) ⟨rfl,rfl,rfl,rfl,rfl,rfl,rfl,rfl,rfl,trivial⟩ rfl) ?_
 refine Al_gcallE [] [(1001,2001),(1002,2002),(1003,2003),(1004,2004),(1005,2005),(1006,2006),(1007,2007)] (gnew_g W21.c0 W21.h0 W21.k0) rfl rfl rfl (by decide) (by kernel_rfl) trivial (λ_=>rfl) rfl rfl ⟨Sub.rfl,trivial⟩ ?_
 rintro⟨⟨fr,t0⟩,hf0⟩ g11
 refine Al_mr ?_
 refine Al_nil (Aw_seq (Aw_sr ?_))
 refine Al_ml ?_
 refine Al_p (Pu_eqnilb Tryz.underlying32 rfl rfl) ?_
 refine Al_nil ?_
 refine Aw_condF rfl (rfl) ?_
 refine Aw_skip (Aw_seq ?_)
 have hf1:fr.Ok W21.w1:=FR.Ok.inv hf0 W21.i0 W21.i1 (by decide +kernel)
 have hf2:fr.Ok W21.w2:=FR.Ok.inv hf0 W21.i0 W21.i2 (by decide +kernel)
 have hf3:fr.Ok W21.w3:=FR.Ok.inv hf0 W21.i0 W21.i3 (by decide +kernel)
 have hf4:fr.Ok W21.w4:=FR.Ok.inv hf0 W21.i0 W21.i4 (by decide +kernel)
 refine Aw_region ?_
 refine Al_ml ?_
 refine Al_p (Pu_build (aa:=[(0,_),(6,_),(7,_)]) rfl Tryz.underlying41 Tryz.zeroValue41 places41 (by kernel_rfl) ⟨rfl,rfl,rfl,rfl,rfl,rfl,rfl,rfl,rfl,trivial⟩ rfl) ?_
 refine Al_gcallE [(1001,2001,g11),(1002,2002,g11),(1003,2003,g11),(1004,2004,g11),(1005,2005,g11),(1006,2006,g11),(1007,2007,g11)] [] (gdo_put (g:=W21.w0) (t:=t0) (w:=W21.w1) (a:=W21.a1) W21.i0 (by decide) hf0 (o:=W21.o1) (.inl rfl) rfl) rfl rfl rfl (by decide) (by kernel_rfl) ⟨rfl,rfl,rfl,rfl,rfl,rfl,rfl,trivial⟩ (λ_=>rfl) rfl rfl ⟨Sub.rfl,ASub.sub (ASub.row ⟨ASub.rfl,ASub.rfl,ASub.rfl,ASub.rfl,ASub.rfl,ASub.rfl,ASub.rfl,ASub.rfl,ASub.nil,ASub.nil,ASub.nil,ASub.nil,trivial⟩),trivial⟩ ?_
 rintro t1 g16
 refine Al_al Tryz.zeroValue37 λg2=>?_
 refine Al_sN Tryz.isAgg37 Tryz.sizeOf37 ?_
 refine Al_ns ?_
 refine Al_ml ?_
 refine Al_p (Pu_build (aa:=[(0,_),(2,_),(3,_)]) rfl Tryz.underlying41 Tryz.zeroValue41 places41 (by kernel_rfl) ⟨rfl,rfl,rfl,rfl,rfl,rfl,rfl,rfl,rfl,trivial⟩ rfl) ?_
 refine Al_gcallE [(1001,2001,g11),(1002,2002,g11),(1003,2003,g11),(1004,2004,g11),(1005,2005,g11),(1006,2006,g11),(1007,2007,g11)] [] (gdo_pick (g:=W21.w1) (t:=t1) (w:=W21.w2) (a:=W21.a2) W21.i1 (by decide) hf1 (o:=W21.o2) rfl rfl) rfl rfl rfl (by decide) (by kernel_rfl) ⟨rfl,rfl,rfl,rfl,rfl,rfl,rfl,trivial⟩ (λ_=>rfl) rfl rfl ⟨Sub.rfl,ASub.sub (ASub.row ⟨ASub.rfl,ASub.rfl,ASub.rfl,ASub.rfl,ASub.rfl,ASub.rfl,ASub.rfl,ASub.rfl,ASub.nil,ASub.nil,ASub.nil,ASub.nil,trivial⟩),trivial⟩ ?_
 rintro t2 g19
 refine Al_al Tryz.zeroValue37 λg3=>?_
 refine Al_sN Tryz.isAgg37 Tryz.sizeOf37 ?_
 refine Al_ns ?_
 refine Al_ml ?_
 refine Al_p (Pu_build (aa:=[(0,_),(2,_)]) rfl Tryz.underlying41 Tryz.zeroValue41 places41 (by kernel_rfl) ⟨rfl,rfl,rfl,rfl,rfl,rfl,trivial⟩ rfl) ?_
 refine Al_gcallE [(1001,2001,g11),(1002,2002,g11),(1003,2003,g11),(1004,2004,g11),(1005,2005,g11),(1006,2006,g11),(1007,2007,g11)] [] (gdo_step (g:=W21.w2) (t:=t2) (w:=W21.w3) (a:=W21.a3) W21.i2 (by decide) hf2 (o:=W21.o3) rfl rfl) rfl rfl rfl (by decide) (by kernel_rfl) ⟨rfl,rfl,rfl,rfl,rfl,rfl,rfl,trivial⟩ (λ_=>rfl) rfl rfl ⟨Sub.rfl,ASub.sub (ASub.row ⟨ASub.rfl,ASub.rfl,ASub.rfl,ASub.rfl,ASub.rfl,ASub.rfl,ASub.rfl,ASub.rfl,ASub.nil,ASub.nil,ASub.nil,ASub.nil,trivial⟩),trivial⟩ ?_
 rintro t3 g22
 refine Al_al Tryz.zeroValue37 λg4=>?_
 refine Al_sN Tryz.isAgg37 Tryz.sizeOf37 ?_
 refine Al_ns ?_
 refine Al_ml ?_
 refine Al_p (Pu_build (aa:=[(0,_),(1,_),(6,_)]) rfl Tryz.underlying41 Tryz.zeroValue41 places41 (by kernel_rfl) ⟨rfl,rfl,rfl,rfl,rfl,rfl,rfl,rfl,rfl,trivial⟩ rfl) ?_
 refine Al_gcallE [(1001,2001,g11),(1002,2002,g11),(1003,2003,g11),(1004,2004,g11),(1005,2005,g11),(1006,2006,g11),(1007,2007,g11)] [] (gdo_get (g:=W21.w3) (t:=t3) (w:=W21.w4) (a:=W21.a4) W21.i3 (by decide) hf3 (o:=W21.o4) rfl rfl) rfl rfl rfl (by decide) (by kernel_rfl) ⟨rfl,rfl,rfl,rfl,rfl,rfl,rfl,trivial⟩ (λ_=>rfl) rfl rfl ⟨Sub.rfl,ASub.sub (ASub.row ⟨ASub.rfl,ASub.rfl,ASub.rfl,ASub.rfl,ASub.rfl,ASub.rfl,ASub.rfl,ASub.rfl,ASub.nil,ASub.nil,ASub.nil,ASub.nil,trivial⟩),trivial⟩ ?_
 rintro t4 g25
 refine Al_al Tryz.zeroValue37 λg5=>?_
 refine Al_sN Tryz.isAgg37 Tryz.sizeOf37 ?_
 refine Al_ns ?_
 refine Al_p (Pu_fb 0 Tryz.underlying37 Tryz.sizeOf34) ?_
 refine Al_p (Pu_lb Tryz.isAgg34) ?_
 refine Al_p Pu_cp ?_
 refine Al_ml ?_
 refine Al_s (St_g [] trivial (λ_=>Pu_fb 0 Tryz.underlying37 Tryz.sizeOf34)) ?_
 refine Al_s (St_g [30] ⟨⟨_,rfl⟩,trivial⟩ (λ_=>Pu_lb Tryz.isAgg34)) ?_
 refine Al_s (St_g [31] ⟨⟨_,rfl⟩,trivial⟩ (λ_=>Pu_cp)) ?_
 refine Al_p Pu_a ?_
 refine Al_ml ?_
 refine Al_s (St_g [] trivial (λ_=>Pu_fb 0 Tryz.underlying37 Tryz.sizeOf34)) ?_
 refine Al_s (St_g [35] ⟨⟨_,rfl⟩,trivial⟩ (λ_=>Pu_lb Tryz.isAgg34)) ?_
 refine Al_s (St_g [36] ⟨⟨_,rfl⟩,trivial⟩ (λ_=>Pu_cp)) ?_
 refine Al_p Pu_a ?_
 refine Al_ml ?_
 refine Al_s (St_g [] trivial (λ_=>Pu_fb 1 Tryz.underlying37 Tryz.sizeOf35)) ?_
 refine Al_s (St_g [40] ⟨⟨_,rfl⟩,trivial⟩ (λ_=>Pu_lb Tryz.isAgg35)) ?_
 refine Al_s (St_g [41] ⟨⟨_,rfl⟩,trivial⟩ (λ_=>Pu_ln Tryz.underlying35)) ?_
 refine Al_s (St_g [42] ⟨⟨_,rfl⟩,trivial⟩ (λ_=>Pu_cp)) ?_
 refine Al_p Pu_a ?_
 refine Al_ml ?_
 refine Al_s (St_g [] trivial (λ_=>Pu_fb 1 Tryz.underlying37 Tryz.sizeOf35)) ?_
 refine Al_s (St_g [46] ⟨⟨_,rfl⟩,trivial⟩ (λ_=>Pu_lb Tryz.isAgg35)) ?_
 refine Al_s (St_g [47] ⟨⟨_,rfl⟩,trivial⟩ (λ_=>Pu_index rfl Tryz.underlying35 Tryz.sizeOf50 rfl rfl (show((0:Int))=((0:Nat):Int)from rfl) (mapgetD (d:=default) hlt))) ?_
 refine Al_s (St_g [48] ⟨⟨_,rfl⟩,trivial⟩ (λ_=>Pu_fd 1 Tryz.underlying50 Tryz.sizeOf9)) ?_
 refine Al_s (St_g [49] ⟨⟨_,rfl⟩,trivial⟩ (λ_=>Pu_l1 Tryz.isAgg9)) ?_
 refine Al_s (St_g [50] ⟨⟨_,rfl⟩,trivial⟩ (λ_=>Pu_sr)) ?_
 refine Al_p Pu_a ?_
 refine Al_ml ?_
 refine Al_s (St_g [] trivial (λ_=>Pu_mvl)) ?_
 refine Al_s (St_gd [54] rfl rfl rfl rfl ⟨⟨_,rfl⟩,trivial⟩ (λhg55=>by exact Pu_gcall [(1001,2001,g11),(1002,2002,g11),(1003,2003,g11),(1004,2004,g11),(1005,2005,g11),(1006,2006,g11),(1007,2007,g11)] (gIdle_g fr W21.w4 t4 W21.i4.ok (by decide) hf4) (GE_in ..) rfl ⟨rfl,rfl,rfl,rfl,rfl,rfl,rfl,trivial⟩ rfl ⟨Sub.rfl,trivial⟩)) ?_
 refine Al_p Pu_a ?_
 refine Al_mr ?_
 refine Al_nil ?_
 exact Aw_ret (Sub.bool W21.eall)
end Go.Proofs.YtdnijgdmohinlaaGreat
end
section
namespace Go.Proofs.YtdnijgdmohinlaaGreat.K
open Go
theorem good_iff {f t:ByteArray}(hf:mayB f=true) (ht:mayB t=true):goodB f t=(t.toList.isEmpty||Op.bytesLess f.toList t.toList):=by simp[goodB,hf,ht]
theorem may_nil:mayB ⟨#[]⟩=true:=by decide +kernel
end Go.Proofs.YtdnijgdmohinlaaGreat.K
end
section
namespace Go.Proofs.YtdnijgdmohinlaaGreat
open R
inductive Chn:List Rng→ByteArray→Prop where
 | nil:Chn [] ⟨#[]⟩
 | snoc {m:List Rng}{a w:ByteArray}:Chn m a→K.mayB w=true→Op.bytesLess a.toList w.toList=true→Chn (m++[⟨a,w⟩]) w
def endR (a:ByteArray):Rng:=⟨a,⟨#[]⟩⟩
def hasR (key:ByteArray) (r:Rng):Bool:=K.hasB r.f r.t key
theorem Chn.may {m:List Rng}{a:ByteArray}(h:Chn m a):K.mayB a=true:=by
 cases h with
 | nil=>exact K.may_nil
 | snoc _ hw _=>exact hw
theorem less_ne {a b:List UInt8}(h:Op.bytesLess a b=true):b.isEmpty=false:=by
 cases b with
 | nil=>rw[K.less_nil]at h;cases h
 | cons=>rfl
theorem Chn.ends {m:List Rng}{a:ByteArray}(h:Chn m a):a.toList.isEmpty=m.isEmpty:=by
 cases h with
 | nil=>rw[K.empty_list];rfl
 | snoc _ _ hl=>rw[less_ne hl];simp
theorem Chn.count {m:List Rng}{a:ByteArray}(key:ByteArray) (h:Chn m a):m.countP (hasR key)=if Op.bytesLess key.toList a.toList then 1 else 0:=by
 induction h with
 | nil=>rw[K.empty_list,K.less_nil];rfl
 | snoc h hw hl ih =>
  rename_i m a w
  rw[List.countP_append,ih]
  simp only[List.countP_singleton,hasR,K.hasB,less_ne hl,Bool.false_or]
  cases h1:Op.bytesLess key.toList a.toList<;>cases h2:Op.bytesLess key.toList w.toList<;>simp
  exact absurd (K.bl_trans _ _ _ h1 hl) (by rw[h2];simp)
theorem Chn.last {m:List Rng}{a:ByteArray}(key:ByteArray) (h:Chn m a):(m++[endR a]).countP (hasR key)=1:=by
 rw[List.countP_append,h.count key]
 simp only[List.countP_singleton,endR,hasR,K.hasB,K.empty_list]
 cases Op.bytesLess key.toList a.toList<;>simp
theorem Chn.wholes {m:List Rng}{a:ByteArray}(h:Chn m a):∀rest,wholeF ⟨#[]⟩ true (m++rest)=wholeF a m.isEmpty rest:=by
 induction h with
 | nil=>intro rest;rfl
 | snoc h hw hl ih =>
  rename_i m a w
  intro rest
  rw[List.append_assoc,ih]
  have hg:K.goodB a w=true:=by rw[K.good_iff h.may hw,hl];simp
  have he:(m.isEmpty||!a.toList.isEmpty)=true:=by rw[h.ends];cases m.isEmpty<;>rfl
  simp only[List.cons_append,List.nil_append,wholeF,hg,he,beq_self_eq_true,Bool.true_and]
  congr 1
  simp
theorem Chn.whole {m:List Rng}{a:ByteArray}(h:Chn m a):Go.Proofs.YtdnijgdmohinlaaGreat.whole (m++[endR a])=true:=by
 unfold Go.Proofs.YtdnijgdmohinlaaGreat.whole
 rw[h.wholes]
 have hg:K.goodB a ⟨#[]⟩=true:=by rw[K.good_iff h.may K.may_nil,K.empty_list];rfl
 have he:(m.isEmpty||!a.toList.isEmpty)=true:=by rw[h.ends];cases m.isEmpty<;>rfl
 simp only[endR,wholeF,hg,he,beq_self_eq_true,Bool.true_and,K.empty_list]
 simp
theorem Chn.find {m:List Rng}{a:ByteArray}(key:ByteArray) (h:Chn m a):∃i:Nat,∃hi:i<(m++[endR a]).length,findR (m++[endR a]) key=i∧hasR key (m++[endR a])[i]=true:=by
 have hc:=h.last key
 obtain⟨r,hr⟩:∃r,r=m++[endR a]:=⟨_,rfl⟩
 rw[←hr]at hc ⊢
 unfold findR idxF
 cases hf:r.findIdx? (λr=>K.hasB r.f r.t key)with
 | none =>
  rw[List.findIdx?_eq_none_iff]at hf
  have:r.countP (hasR key)=0:=List.countP_eq_zero.2 λx hx=>by rw[show hasR key x=false from hf x hx];simp
  omega
 | some i =>
  rw[List.findIdx?_eq_some_iff_getElem]at hf
  obtain⟨hi,h1,_⟩:=hf
  exact⟨i,hi,rfl,h1⟩
end Go.Proofs.YtdnijgdmohinlaaGreat
end
section
set_option maxRecDepth 100000
namespace Go.Proofs.YtdnijgdmohinlaaGreat
open Go Go.RowKit A R
open A.RowT
namespace QSpec
theorem wd_may (x:Int):K.mayB (wd x)=true:=by
 have h:=tmod_b (x.tmod 8+8) (n:=8) (by omega)
 have h0:=Int.tmod_nonneg 8 (show 0≤x.tmod 8+8 by have:=tmod_b x (n:=8) (by omega);omega)
 have key:∀n:Nat,n<8→K.mayB (V.ba [UInt8.ofNat n+97])=true:=by decide +kernel
 exact key _ (by omega)
theorem chn (l:List Int):Chn (ewalk l).2 (ewalk l).1:=by
 have key:∀(l:List Int) (s:ByteArray×List Rng),Chn s.2 s.1→Chn (l.foldl estep s).2 (l.foldl estep s).1:=by
  intro l
  induction l with
  | nil=>intro s h;exact h
  | cons x l ih =>
   intro s h
   refine ih _ ?_
   unfold estep
   split
   ·rename_i hab
    refine .snoc h (wd_may x) ?_
    unfold above at hab
    simp only[Bool.not_eq_true',Bool.or_eq_false_iff]at hab
    cases h3:Op.bytesLess s.1.toList (wd x).toList with
    | true=>rfl
    | false=>have:=K.bl_tri _ _ hab.1 h3;rw[this]at hab;simp at hab
   ·exact h
 exact key l _ .nil
theorem mod_b (y:Int) {n:Int}(h:0<n) (hy: -n<y):0≤(y+n).tmod n∧(y+n).tmod n<n:=⟨Int.tmod_nonneg n (by omega),Int.tmod_lt_of_pos _ h⟩
theorem par_b (x:Int) (i:Nat):0≤par x i∧par x i<(i:Int)+2:=by
 unfold par
 have h:=tmod_b x (n:=(i:Int)+2) (by omega)
 have:=mod_b (x.tmod ((i:Int)+2)) (n:=(i:Int)+2) (by omega) h.1
 rwa [←Int.add_assoc]at this
theorem ahead (q:QSpec):T.Ahead (q.pars 0):=by
 have hl:=pars_len q (n:=0) (by omega)
 refine⟨by omega,by omega,rfl,λi h1 h2=>?_⟩
 have e:q.pars 0=pars1 q (m1 q 0):=by unfold pars pars2;simp
 rw[e]at h2 ⊢
 rw[pars1_len]at h2
 unfold pars1
 rw[List.getD_eq_getElem?_getD]
 match i,h1 with
 | 1,_=>exact(show(0:Int)≤0∧(0:Int)<((1:Nat):Int)from⟨by decide,by decide⟩)
 | i+2,_ =>
  have hi:i<m1 q 0:=by omega
  have e2:([-1,0]++(List.range (m1 q 0)).map λi=>par (q.p.getD i 0) i)[i+2]?=some (par (q.p.getD i 0) i):=by
   rw[List.getElem?_append_right (by simp)]
   simp only[List.length_cons,List.length_nil,List.getElem?_map]
   rw[show i+2 - (0+1+1)=i from by omega,List.getElem?_range hi];rfl
  rw[e2]
  have:=par_b (q.p.getD i 0) i
  simp only[Option.getD_some]
  omega
theorem ok (q:QSpec):T.ok (q.mkR 0)=true:=by
 have hl:=pars_len q (n:=0) (by omega)
 have hr:=rngs_len q
 have hal:=all_b q (n:=0) (by omega)
 have hs:S.shape (q.mkR 0)=true:=by
  unfold S.shape
  rw[decide_eq_false (show¬(q.mkR 0).parents.length<1 from(show¬(q.pars 0).length<1 by omega)),decide_eq_false (show¬6<(q.mkR 0).parents.length from(show¬6<(q.pars 0).length by omega)),decide_eq_false (show¬8<(q.mkR 0).ranges.length from(show¬8<q.rngs.length by omega)),decide_eq_true (show(q.mkR 0).owners.length=(q.mkR 0).ranges.length by simp[mkR]),show whole (q.mkR 0).ranges=true from(chn _).whole]
  rfl
 unfold T.ok
 rw[hs,Bool.true_and,Bool.not_eq_true',List.any_eq_false]
 intro x hx
 obtain⟨i,_,rfl⟩:=List.mem_map.1 hx
 have h7:=own_b (all:=q.all 0) (by omega) q.o i
 unfold S.badO
 rw[decide_eq_false (show¬own (q.all 0) q.o i<1 by omega),decide_eq_false (show¬(2:Int)^(q.mkR 0).parents.length≤own (q.all 0) q.o i from λh=>by
  have h8:q.all 0=(2:Int)^(q.mkR 0).parents.length:=by unfold all;rw[Int.natCast_pow];rfl
  omega)]
 simp
end QSpec
theorem find_some {l:List Rng}{key:ByteArray}:¬findR l key<0↔∃r∈l,hasR key r=true:=by
 unfold findR idxF
 cases hf:l.findIdx? (λr=>K.hasB r.f r.t key)with
 | none =>
  rw[List.findIdx?_eq_none_iff]at hf
  constructor
  ·intro h;exact absurd (show(-1:Int)<0 by decide) h
  ·rintro⟨r,hr,h⟩;rw[show hasR key r=false from hf r hr]at h;cases h
 | some i =>
  rw[List.findIdx?_eq_some_iff_getElem]at hf
  obtain⟨hi,h1,_⟩:=hf
  exact⟨λ_=>⟨l[i],List.getElem_mem hi,h1⟩,λ_ h=>by have:((i:Nat):Int)<0:=h;omega⟩
theorem one_has {l:List Rng}{key:ByteArray}(h:l.countP (hasR key)=1) {i j:Nat}(hi:i<l.length) (hj:j<l.length) (h1:hasR key l[i]=true) (h2:hasR key l[j]=true):i=j:=by
 have key:∀i j,∀(hi:i<l.length) (hj:j<l.length),hasR key l[i]=true→hasR key l[j]=true→i<j→False:=λi j hi hj h1 h2 hl=>by
  have e:l.countP (hasR key)=(l.take j).countP (hasR key)+(l.drop j).countP (hasR key):=by rw[←List.countP_append,List.take_append_drop]
  have a1:0<(l.take j).countP (hasR key):=List.countP_pos_iff.2 ⟨l[i],by rw[List.mem_take_iff_getElem];exact⟨i,by omega,rfl⟩,h1⟩
  have a2:0<(l.drop j).countP (hasR key):=List.countP_pos_iff.2 ⟨l[j],by rw[List.mem_drop_iff_getElem];exact⟨0,by omega,by simp⟩,h2⟩
  omega
 rcases Nat.lt_trichotomy i j with h3|h3|h3
 ·exact(key i j hi hj h1 h2 h3).elim
 ·exact h3
 ·exact(key j i hj hi h2 h1 h3).elim
theorem T.rangesOf_find {c:SRow}(hc:T.ok c=true) {m:List Rng}{a:ByteArray}(hm:Chn m a) (hr:c.ranges=m++[endR a]) (key:ByteArray) (s:Int):(¬findR (T.rangesOf c s) key<0)↔T.bit (T.owners c key) s=true:=by
 obtain⟨i,hi,h1,h2⟩:=hm.find key
 have hcnt:=hm.last key
 rw[←hr]at hcnt
 have hi':i<c.ranges.length:=by rw[hr];exact hi
 have h2':hasR key (c.ranges[i])=true:=by simpa only[hr]using h2
 have hol:c.owners.length=c.ranges.length:=by
  have:=(T.ok_facts hc).1
  unfold S.shape at this
  simp only[Bool.not_eq_true',Bool.or_eq_false_iff,decide_eq_false_iff_not]at this
  have:=this.1.2
  simpa using this
 have ho:T.owners c key=(c.owners[i]'(by omega)).toNat:=by
  unfold T.owners
  rw[if_pos hc,hr,h1,if_neg (by omega)]
  simp[hi',hol]
 rw[find_some,ho]
 unfold T.rangesOf T.pickR
 rw[if_pos hc]
 constructor
 ·rintro⟨r,hr1,hr2⟩
  obtain⟨p,hp,rfl⟩:=List.mem_map.1 hr1
  obtain⟨hp1,hp2⟩:=List.mem_filter.1 hp
  obtain⟨j,hj,e⟩:=List.getElem_of_mem hp1
  rw[List.getElem_zip]at e
  rw[List.length_zip]at hj
  have hj':j<c.ranges.length:=by omega
  obtain rfl:=one_has hcnt hi' hj' h2' (by rw[show c.ranges[j]=p.1 from congrArg Prod.fst e];exact hr2)
  rw[show c.owners[i]'(by omega)=p.2 from congrArg Prod.snd e]
  exact hp2
 ·intro hb
  refine⟨c.ranges[i],List.mem_map.2 ⟨(c.ranges[i],c.owners[i]'(by omega)),List.mem_filter.2 ⟨?_,hb⟩,rfl⟩,h2'⟩
  rw[List.mem_iff_getElem]
  exact⟨i,by rw[List.length_zip];omega,by rw[List.getElem_zip]⟩
theorem T.bit_test {m:Nat}{s:Nat}(hs:s<6):T.bit m (s:Nat)=m.testBit s:=by
 unfold T.bit
 rw[decide_eq_true (by omega),decide_eq_true (show((s:Nat):Int)<6 by omega),Nat.testBit_eq_decide_div_mod_eq,Int.toNat_natCast]
 simp
end Go.Proofs.YtdnijgdmohinlaaGreat
end
section
set_option maxRecDepth 100000
namespace Go.Proofs.YtdnijgdmohinlaaGreat
open Go Go.RowKit A R
namespace T
def six:List Nat:=[0,1,2,3,4,5]
theorem mem_six {a:Nat}(h:a<6):a∈six:=by simp[six];omega
def cnt (m:Nat):Nat:=(six.filter λx=>m.testBit x).length
def edgeB (p:List Int) (a b:Nat):Bool :=
 (side p a b).testBit b&&!(side p a b).testBit a&&decide (cnt (side p a b)<p.length) &&
 (six.all λx=>!decide (x<p.length)||((side p b a).testBit x==!(side p a b).testBit x)) &&
 (six.all λc=>!decide (c<p.length)||!nearB p b c||c==a||(decide (cnt (side p b c)<cnt (side p a b))&&(side p b c&&&side p a b==side p b c)))
def factB (p:List Int):Bool :=
 (six.all λa=>!decide (a<p.length)||six.all λb=>!decide (b<p.length)||!nearB p a b||edgeB p a b) &&
 (six.all λa=>!decide (a<p.length)||six.all λx=>!decide (x<p.length)||x==a||(six.filter λc=>decide (c<p.length)&&(nearB p a c&&(side p a c).testBit x)).length==1)
theorem facts:∀n∈List.range 7,∀p∈allA n,factB p=true:=by decide +kernel
structure Tr (p:List Int):Prop where
 le:p.length≤6
 to:∀a b,a<p.length→b<p.length→nearB p a b=true→(side p a b).testBit b=true∧(side p a b).testBit a=false∧cnt (side p a b)<p.length
 co:∀a b x,a<p.length→b<p.length→x<p.length→nearB p a b=true→(side p b a).testBit x=!(side p a b).testBit x
 sub:∀a b c,a<p.length→b<p.length→c<p.length→nearB p a b=true→nearB p b c=true→c≠a→cnt (side p b c)<cnt (side p a b)∧side p b c&&&side p a b=side p b c
 one:∀a x,a<p.length→x<p.length→x≠a→∃c,c<p.length∧nearB p a c=true∧(side p a c).testBit x=true∧∀d,d<p.length→nearB p a d=true→(side p a d).testBit x=true→d=c
theorem all6 {f:Nat→Bool}(h:six.all f=true) {a:Nat}(ha:a<6):f a=true:=List.all_eq_true.1 h a (mem_six ha)
theorem len1 {f:Nat→Bool}(h:((six.filter f).length==1)=true):∃c,c<6∧f c=true∧∀d,d<6→f d=true→d=c:=by
 obtain⟨c,hc⟩:=List.length_eq_one_iff.1 (beq_iff_eq.1 h)
 have h1:c∈six.filter f:=by rw[hc];exact List.mem_cons_self ..
 obtain⟨h2,h3⟩:=List.mem_filter.1 h1
 refine⟨c,by simp[six]at h2;omega,h3,λd hd hf=>?_⟩
 have:d∈six.filter f:=List.mem_filter.2 ⟨mem_six hd,hf⟩
 rw[hc]at this
 exact List.mem_singleton.1 this
theorem imp_of {P:Prop}[Decidable P] {b:Bool}(h:(!decide P||b)=true) (hp:P):b=true:=by simpa [hp]using h
theorem tr {p:List Int}(h:Ahead p):Tr p:=by
 have hf:=facts p.length (List.mem_range.2 (by have:=h.le;omega)) p (ahead_mem _ p rfl h)
 unfold factB at hf
 obtain⟨h1,h2⟩:=(Bool.and_eq_true _ _).mp hf
 have hl:=h.le
 have he:∀a b,a<p.length→b<p.length→nearB p a b=true→edgeB p a b=true:=λa b ha hb hn=>by
  simpa [hb,hn]using all6 (imp_of (all6 h1 (a:=a) (by omega)) ha) (a:=b) (by omega)
 refine⟨hl,λa b ha hb hn=>?_,λa b x ha hb hx hn=>?_,λa b c ha hb hc hn hm hne=>?_,λa x ha hx hne=>?_⟩
 ·have:=he a b ha hb hn
  unfold edgeB at this
  simp only[Bool.and_eq_true,Bool.not_eq_true',decide_eq_true_eq]at this
  exact⟨this.1.1.1.1,this.1.1.1.2,this.1.1.2⟩
 ·have:=he a b ha hb hn
  unfold edgeB at this
  simp only[Bool.and_eq_true]at this
  simpa [hx]using all6 this.1.2 (a:=x) (by omega)
 ·have:=he a b ha hb hn
  unfold edgeB at this
  simp only[Bool.and_eq_true]at this
  simpa [hc,hm,hne]using all6 this.2 (a:=c) (by omega)
 ·have:=all6 (imp_of (all6 h2 (a:=a) (by omega)) ha) (a:=x) (by omega)
  have h3:((six.filter λc=>decide (c<p.length)&&(nearB p a c&&(side p a c).testBit x)).length==1)=true:=by simpa [hx,hne]using this
  obtain⟨c,hc,hd,hu⟩:=len1 h3
  simp only[Bool.and_eq_true,decide_eq_true_eq]at hd hu
  exact⟨c,hd.1,hd.2.1,hd.2.2,λd h4 h5 h6=>hu d (by omega) ⟨h4,h5,h6⟩⟩
theorem near_comm (p:List Int) (a b:Nat):nearB p a b=nearB p b a:=by unfold nearB;rw[Bool.or_comm]
section
variable {p:List Int}{M a0:Nat}
def Ed (p:List Int) (M a0 a b:Nat):Prop:=a<p.length∧b<p.length∧nearB p a b=true∧(side p a b).testBit a0=false∧side p a b&&&M≠0
theorem and_ne {x y M:Nat}(h:x&&&y=x) (hx:x&&&M≠0):y&&&M≠0:=λe=>hx (by
 rw[←h,Nat.and_assoc,e,Nat.and_zero])
theorem Ed.go (h:Tr p) {a b c:Nat}(he:Ed p M a0 a b) (ha0:a0<p.length) (hc:c<p.length) (hn:nearB p b c=true) (hne:c≠a) (hM:side p b c&&&M≠0):Ed p M a0 b c:=by
 obtain⟨h1,h2,h3,h4,h5⟩:=he
 refine⟨h2,hc,hn,?_,hM⟩
 have h6:=(h.sub a b c h1 h2 hc h3 hn hne).2
 have:(side p b c&&&side p a b).testBit a0=(side p b c).testBit a0:=by rw[h6]
 rw[Nat.testBit_and,h4,Bool.and_false]at this
 exact this.symm
theorem Ed.first (h:Tr p) {c:Nat}(ha0:a0<p.length) (hc:c<p.length) (hn:nearB p a0 c=true) (hM:side p a0 c&&&M≠0):Ed p M a0 a0 c:=⟨ha0,hc,hn,(h.to a0 c ha0 hc hn).2.1,hM⟩
theorem Ed.ne (h:Tr p) {a b:Nat}(he:Ed p M a0 a b):b≠a0:=λe=>by
 obtain⟨h1,h2,h3,h4,h5⟩:=he
 have:=(h.to a b h1 h2 h3).1
 rw[e,←e,e]at this
 rw[e]at h4
 rw[h4]at this;cases this
theorem Ed.uniq (h:Tr p) {a a' b:Nat}(ha0:a0<p.length) (he:Ed p M a0 a b) (he':Ed p M a0 a' b):a=a':=by
 have hne:=he.ne h
 obtain⟨h1,h2,h3,h4,h5⟩:=he
 obtain⟨g1,_,g3,g4,g5⟩:=he'
 obtain⟨c,_,_,_,hu⟩:=h.one b a0 h2 ha0 (λe=>hne e.symm)
 have e1:=hu a h1 (by rw[near_comm];exact h3) (by rw[h.co a b a0 h1 h2 ha0 h3,h4];rfl)
 have e2:=hu a' g1 (by rw[near_comm];exact g3) (by rw[h.co a' b a0 g1 h2 ha0 g3,g4];rfl)
 rw[e1,e2]
theorem Ed.up (h:Tr p) {b c:Nat}(ha0:a0<p.length) (he:Ed p M a0 b c) (hb:b≠a0):∃a,Ed p M a0 a b∧c≠a∧cnt (side p b c)<cnt (side p a b):=by
 obtain⟨h1,h2,h3,h4,h5⟩:=he
 obtain⟨a,g1,g2,g3,_⟩:=h.one b a0 h1 ha0 (λe=>hb e.symm)
 have hn:nearB p a b=true:=by rw[near_comm];exact g2
 have hne:c≠a:=λe=>by rw[e,g3]at h4;cases h4
 have hs:=h.sub a b c g1 h1 h2 hn h3 hne
 refine⟨a,⟨g1,h1,hn,?_,and_ne hs.2 h5⟩,hne,hs.1⟩
 rw[h.co b a a0 h1 g1 ha0 g2,g3];rfl
theorem Ed.all (h:Tr p) {s:Nat}(ha0:a0<p.length) (hs:s<p.length) (hne:s≠a0) (hM:M.testBit s=true):∃a,Ed p M a0 a s:=by
 obtain⟨a,g1,g2,g3,_⟩:=h.one s a0 hs ha0 (λe=>hne e.symm)
 have hn:nearB p a s=true:=by rw[near_comm];exact g2
 refine⟨a,g1,hs,hn,by rw[h.co s a a0 hs g1 ha0 g2,g3];rfl,λe=>?_⟩
 have:(side p a s&&&M).testBit s=true:=by rw[Nat.testBit_and,hM,(h.to a s g1 hs hn).1];rfl
 rw[e,Nat.zero_testBit]at this;cases this
end
end T
end Go.Proofs.YtdnijgdmohinlaaGreat
end
section
set_option maxRecDepth 100000
namespace Go.Proofs.YtdnijgdmohinlaaGreat
open Go Go.RowKit A R
theorem N.vAt_upd {n:Nat}(hn:n≤6) (Y:List VS) (a b x y:Int) (f:VS→VS):N.vAt n (N.vUpd n Y a b f) x y=if x=a∧y=b then(N.vAt n Y x y).map f else N.vAt n Y x y:=by
 unfold N.vAt N.vUpd
 cases hi:N.idx n a b with
 | none =>
  by_cases h:x=a∧y=b
  ·rw[if_pos h,h.1,h.2,hi];rfl
  ·rw[if_neg h]
 | some i =>
  simp only[]
  cases hy:Y[i]? with
  | none =>
   simp only[]
   by_cases h:x=a∧y=b
   ·rw[if_pos h,h.1,h.2,hi,Option.bind_some,hy];rfl
   ·rw[if_neg h]
  | some s =>
   have hlt:i<Y.length:=(List.getElem?_eq_some_iff.1 hy).1
   simp only[]
   cases hj:N.idx n x y with
   | none =>
    by_cases h:x=a∧y=b
    ·rw[h.1,h.2,hi]at hj;cases hj
    ·rw[if_neg h];rfl
   | some j =>
    simp only[Option.bind_some]
    by_cases hij:i=j
    ·subst hij
     have:=N.idx_inj hn (c:=(x,y)) (c':=(a,b)) hj hi
     have h1:x=a:=congrArg Prod.fst this
     have h2:y=b:=congrArg Prod.snd this
     rw[if_pos ⟨h1,h2⟩,List.getElem?_set_self hlt,hy];rfl
    ·rw[List.getElem?_set_ne hij,if_neg (λh=>hij (by rw[h.1,h.2,hi]at hj;exact Option.some.inj hj))]
namespace PG
theorem ses_upd {g:PG}(hn:g.n≤6) (a b x y:Int) (f:VS→VS):(g.updY a b f).ses x y=if x=a∧y=b then(g.ses x y).map f else g.ses x y:=N.vAt_upd hn ..
theorem ses_send {fr:Int}{v:Ver}{x y:Int}:∀(to:List Nat) (g:PG),g.n≤6→to.Nodup→(g.send fr to v).ses x y=if x=fr∧(∃s∈to,y=(s:Nat))then(g.ses x y).map (·.send v)else g.ses x y
 | [],g,_,_=>by rw[if_neg (λ⟨_,s,hs,_⟩=>by cases hs)];rfl
 | s::r,g,hn,hd=>by
  obtain⟨h1,h2⟩:=List.nodup_cons.1 hd
  show((g.updY fr s (·.send v)).send fr r v).ses x y=_
  rw[ses_send r (g.updY fr s (·.send v)) hn h2,ses_upd hn]
  by_cases hx:x=fr
  ·by_cases hy:y=(s:Nat)
   ·rw[if_neg (λ⟨_,s',h3,h4⟩=>h1 (by rw[show s=s' by omega];exact h3)),if_pos ⟨hx,hy⟩,if_pos ⟨hx,s,List.mem_cons_self ..,hy⟩]
   ·rw[if_neg (show¬(x=fr∧y=(s:Nat))from λh=>hy h.2)]
    by_cases hr:∃s'∈r,y=(s':Nat)
    ·obtain⟨s',h3,h4⟩:=hr
     rw[if_pos ⟨hx,s',h3,h4⟩,if_pos ⟨hx,s',List.mem_cons_of_mem _ h3,h4⟩]
    ·rw[if_neg (λh=>hr h.2),if_neg (λ⟨_,s',h3,h4⟩=>by
      rcases List.mem_cons.1 h3 with rfl|h3
      ·exact hy h4
      ·exact hr ⟨s',h3,h4⟩)]
  ·rw[if_neg (λh=>hx h.1),if_neg (λh=>hx h.1),if_neg (λh=>hx h.1)]
theorem ses_none {g:PG}(a:Nat):g.ses a a=none:=by
 unfold ses N.vAt N.idx
 rw[if_neg (λh=>h.2.2.2.2 rfl)];rfl
theorem ses_some {g:PG}(hl:g.Y.length=N.upto g.n g.n 0) {a b:Nat}(ha:a<g.n) (hb:b<g.n) (hab:a≠b):∃s,g.ses a b=some s∧s∈g.Y:=by
 unfold ses N.vAt
 rw[N.idx_upto ha hb hab,Option.bind_some]
 have:N.upto g.n a b<g.Y.length:=by
  rw[hl]
  unfold N.upto
  rw[if_neg (Nat.not_lt_zero _),Nat.add_zero]
  have h1:(a+1)*(g.n - 1)≤g.n*(g.n - 1):=Nat.mul_le_mul_right _ ha
  have h2:(a+1)*(g.n - 1)=a*(g.n - 1)+(g.n - 1):=by rw[Nat.add_mul,Nat.one_mul]
  split<;>omega
 exact⟨g.Y[N.upto g.n a b],List.getElem?_eq_getElem this,List.getElem_mem this⟩
theorem site_set {g:PG}(hl:g.S.length=g.n) {i j:Nat}(hi:i<g.n) (p:PS):(g.setS (i:Nat) p).site (j:Nat)=if j=i then p else g.site (j:Nat):=by
 unfold setS site
 simp only[Int.toNat_natCast,List.getD_eq_getElem?_getD]
 by_cases h:j=i
 ·subst h;rw[if_pos rfl,List.getElem?_set_self (by omega)];rfl
 ·rw[if_neg h,List.getElem?_set_ne (λe=>h e.symm)]
theorem site_of {g g':PG}(h:g'.S=g.S) (i:Int):g'.site i=g.site i:=by unfold site;rw[h]
end PG
namespace Far
def vv:ByteArray:=⟨#[118]⟩
def o1 (k:Nat) (key:ByteArray):SOp:=⟨1,k,0,0,0,0,key,vv,[],W21.none_⟩
def oB (a b:Nat):SOp:=⟨8,0,a,b,0,0,⟨#[]⟩,⟨#[]⟩,[],W21.none_⟩
def oS (s:Nat):SOp:=⟨10,0,s,0,0,0,⟨#[]⟩,⟨#[]⟩,[],W21.none_⟩
def ver (a:Nat) (key:ByteArray):Ver:=⟨key,vv,false,1,a,[]⟩
theorem ver_ok:∀a∈T.six,∀k∈letters,J.checkB (ver a k)=true:=by decide +kernel
def v0:VS:=⟨0,[],0,[]⟩
def v1 (v:Ver):VS:=⟨1,[(0,v)],0,[(0,v)]⟩
def v2:VS:=⟨1,[],1,[]⟩
def zs (c:SRow) (i:Nat):PS:=PS.zero (i:Nat) (T.rangesOf c (i:Nat))
section
variable {c:SRow}{key:ByteArray}{a0:Nat}
abbrev E (c:SRow) (key:ByteArray) (a0 a b:Nat):Prop:=T.Ed c.parents (T.owners c key) a0 a b
def wr (c:SRow) (key:ByteArray) (a0:Nat):PS:=(zs c a0).write key vv false []
def ar (c:SRow) (key:ByteArray) (a0 i:Nat):PS:=(zs c i).arrive (ver a0 key)
def Up (a0:Nat) (D:Nat→Nat→Prop) (a:Nat):Prop:=a=a0∨∃z,D z a
def SesI (c:SRow) (key:ByteArray) (a0:Nat) (D:Nat→Nat→Prop) (a b:Nat) (s:VS):Prop :=
 (D a b∧s=v2)∨(E c key a0 a b∧¬D a b∧Up a0 D a∧s=v1 (ver a0 key))∨(¬D a b∧(E c key a0 a b→¬Up a0 D a)∧s=v0)
def SiteI (c:SRow) (key:ByteArray) (a0:Nat) (D:Nat→Nat→Prop) (i:Nat) (p:PS):Prop :=
 (i=a0∧p=wr c key a0)∨(i≠a0∧(∃z,D z i)∧p=ar c key a0 i)∨(i≠a0∧(¬∃z,D z i)∧p=zs c i)
structure FI (c:SRow) (key:ByteArray) (a0:Nat) (D:Nat→Nat→Prop) (g:PG):Prop where
 gc:g.c=c
 sl:g.S.length=g.n
 yl:g.Y.length=N.upto g.n g.n 0
 de:∀a b,D a b→E c key a0 a b
 cl:∀a b,D a b→Up a0 D a
 y:∀a b,a<g.n→b<g.n→a≠b→∃s,g.ses a b=some s∧SesI c key a0 D a b s
 s:∀i,i<g.n→SiteI c key a0 D i (g.site i)
structure Ask (c:SRow) (key:ByteArray) (a0:Nat):Prop where
 p:T.Ahead c.parents
 ok:T.ok c=true
 k8:K8 key
 lt:a0<c.parents.length
 own:¬findR (T.rangesOf c a0) key<0
theorem Ask.tr (h:Ask c key a0):T.Tr c.parents:=T.tr h.p
theorem Ask.ver (h:Ask c key a0):J.checkB (Far.ver a0 key)=true:=ver_ok a0 (T.mem_six (by have:=h.p.le;have:=h.lt;omega)) key h.k8
theorem E_ne (h:Ask c key a0) {a b:Nat}(he:E c key a0 a b):a≠b:=λe=>by
 obtain⟨h1,h2,h3,h4,h5⟩:=he
 have:=h.tr.to a b h1 h2 h3
 rw[e]at this
 rw[this.1]at this
 cases this.2.1
theorem mem_next {a:Nat}{fr:Int}{s:Nat}:s∈T.next c a fr key↔s<c.parents.length∧T.nearB c.parents a s=true∧(s:Int)≠fr∧T.side c.parents a s&&&T.owners c key≠0:=by
 unfold T.next T.nearL
 rw[List.mem_filter,List.mem_filter,List.mem_range]
 simp only[Bool.not_eq_true',Bool.or_eq_false_iff,decide_eq_false_iff_not]
 exact⟨λ⟨⟨h1,h2⟩,h3,h4⟩=>⟨h1,h2,h3,h4⟩,λ⟨h1,h2,h3,h4⟩=>⟨⟨h1,h2⟩,h3,h4⟩⟩
theorem next_nodup (c:SRow) (a:Nat) (fr:Int) (key:ByteArray):(T.next c a fr key).Nodup:=by
 unfold T.next T.nearL
 exact(List.nodup_range.filter _).filter _
theorem SesI.op {D:Nat→Nat→Prop}{a b:Nat}{s:VS}(h:SesI c key a0 D a b s):s.op.length≤1:=by
 rcases h with⟨_,rfl⟩|⟨_,_,_,rfl⟩|⟨_,_,rfl⟩
 ·exact Nat.zero_le _
 ·exact Nat.le_refl _
 ·exact Nat.zero_le _
theorem FI.full {D:Nat→Nat→Prop}{g:PG}(h:FI c key a0 D g) (a:Nat) (ha:a<g.n) (to:List Nat) (ht:∀s∈to,s<g.n):g.full a to=false:=by
 unfold PG.full
 rw[List.any_eq_false]
 intro s hs
 rw[decide_eq_true_eq]
 unfold PG.opn
 by_cases hab:a=s
 ·subst hab;rw[PG.ses_none];exact(by decide)
 ·obtain⟨x,hx,hi⟩:=h.y a s ha (ht s hs) hab
  rw[hx]
  have:=hi.op
  show¬8≤x.op.length
  omega
theorem SiteI.of_no {D:Nat→Nat→Prop}{i:Nat}{p:PS}(h:SiteI c key a0 D i p) (h1:i≠a0) (h2:¬∃z,D z i):p=zs c i:=by
 rcases h with⟨h,_⟩|⟨_,h,_⟩|⟨_,_,h⟩
 ·exact absurd h h1
 ·exact absurd h h2
 ·exact h
theorem SesI.of_no {D:Nat→Nat→Prop}{a b:Nat}{s:VS}(h:SesI c key a0 D a b s) (h1:¬D a b) (h2:¬Up a0 D a):s=v0:=by
 rcases h with⟨h,_⟩|⟨_,_,h,_⟩|⟨_,_,h⟩
 ·exact absurd h h1
 ·exact absurd h h2
 ·exact h
theorem v1_pick (v:Ver):(v1 v).pick 0 0=v2:=by
 unfold VS.pick
 rw[if_neg (by decide),if_neg (by decide)]
 rfl
theorem FI.go (A:Ask c key a0) {D:Nat→Nat→Prop}{g:PG}(h:FI c key a0 D g) {a b:Nat}(ha:a<g.n) (hb:b<g.n) (hab:a≠b) (he:E c key a0 a b) (hd:¬D a b) (hu:Up a0 D a) :
  FI c key a0 (λx y=>D x y∨(x=a∧y=b)) (((g.updY (a:Nat) (b:Nat) (·.pick 0 0)).setS (b:Nat) ((g.site (b:Nat)).arrive (ver a0 key))).send (b:Nat) (T.next c b (a:Nat) key) (ver a0 key)):=by
 have hn:g.n=c.parents.length:=by unfold PG.n;rw[h.gc]
 have hn6:g.n≤6:=by rw[hn];exact A.p.le
 have hb0:b≠a0:=T.Ed.ne A.tr he
 have hlt:=A.lt
 have hnob:¬∃z,D z b:=λ⟨z,hz⟩=>hd (by rw[he.uniq A.tr hlt (h.de z b hz)];exact hz)
 have hnub:¬Up a0 D b:=λhx=>hx.elim hb0 hnob
 have hback:¬E c key a0 b a:=λh1=>by
  have h2:=A.tr.co a b a0 he.1 he.2.1 hlt he.2.2.1
  rw[he.2.2.2.1,h1.2.2.2.1]at h2
  cases h2
 have hm:∀y:Nat,(∃s∈T.next c b (a:Nat) key,(y:Int)=(s:Nat))↔E c key a0 b y:=λy=>by
  constructor
  ·rintro⟨s,hs,e⟩
   obtain rfl:y=s:=by omega
   obtain⟨h1,h2,h3,h4⟩:=mem_next.1 hs
   exact he.go A.tr hlt h1 h2 (by omega) h4
  ·intro h1
   exact⟨y,mem_next.2 ⟨h1.2.1,h1.2.2.1,λe=>hback (by rw[show a=y by omega];exact h1),h1.2.2.2.2⟩,rfl⟩
 have hgn:((g.updY (a:Nat) (b:Nat) (·.pick 0 0)).setS (b:Nat) ((g.site (b:Nat)).arrive (ver a0 key))).n=g.n:=rfl
 refine⟨by rw[PG.send_Y];exact h.gc,by rw[PG.send_S,PG.send_n];show(g.S.set _ _).length=g.n;rw[List.length_set];exact h.sl,by rw[PG.send_len,PG.send_n];exact(N.vUpd_len ..).trans h.yl,λx y hx=>?_,λx y hx=>?_,λx y hx hy hxy=>?_,λi hi=>?_⟩
 ·rcases hx with hx|⟨rfl,rfl⟩
  ·exact h.de x y hx
  ·exact he
 ·have key:∀z,Up a0 D z→Up a0 (λx y=>D x y∨(x=a∧y=b)) z:=λz hz=>hz.imp id λ⟨w,hw⟩=>⟨w,.inl hw⟩
  rcases hx with hx|⟨rfl,rfl⟩
  ·exact key x (h.cl x y hx)
  ·exact key x hu
 ·rw[PG.send_n]at hx hy
  obtain⟨s,hs,hi⟩:=h.y x y hx hy hxy
  rw[PG.ses_send _ _ (by rw[hgn];exact hn6) (next_nodup ..)]
  have hses:((g.updY (a:Nat) (b:Nat) (·.pick 0 0)).setS (b:Nat) ((g.site (b:Nat)).arrive (ver a0 key))).ses x y=if (x:Int)=(a:Nat)∧(y:Int)=(b:Nat)then(g.ses x y).map (·.pick 0 0)else g.ses x y:=PG.ses_upd hn6 ..
  rw[hses]
  by_cases h1:x=a∧y=b
  ·obtain⟨rfl,rfl⟩:=h1
   rw[if_neg (λh2=>hab (by omega)),if_pos ⟨rfl,rfl⟩,hs]
   refine⟨_,rfl,.inl ⟨.inr ⟨rfl,rfl⟩,?_⟩⟩
   rcases hi with⟨h2,_⟩|⟨_,_,_,rfl⟩|⟨_,h2,_⟩
   ·exact absurd h2 hd
   ·exact v1_pick _
   ·exact absurd hu (h2 he)
  ·have h1':¬((x:Int)=(a:Nat)∧(y:Int)=(b:Nat)):=λh2=>h1 ⟨by omega,by omega⟩
   rw[if_neg h1']
   by_cases h2:x=b∧E c key a0 b y
   ·obtain⟨rfl,h3⟩:=h2
    rw[if_pos ⟨rfl,(hm y).2 h3⟩,hs]
    have hdy:¬D x y:=λh4=>hnub (h.cl x y h4)
    obtain rfl:=hi.of_no hdy hnub
    exact⟨_,rfl,.inr (.inl ⟨h3,λh4=>h4.elim hdy (λh5=>h1 h5),.inr ⟨a,.inr ⟨rfl,rfl⟩⟩,rfl⟩)⟩
   ·rw[if_neg (λh3=>h2 ⟨by have:=h3.1;omega,(hm y).1 h3.2⟩)]
    refine⟨s,hs,?_⟩
    rcases hi with⟨h3,h4⟩|⟨h3,h4,h5,h6⟩|⟨h3,h4,h5⟩
    ·exact .inl ⟨.inl h3,h4⟩
    ·exact .inr (.inl ⟨h3,λh7=>h7.elim h4 h1,h5.imp id λ⟨w,hw⟩=>⟨w,.inl hw⟩,h6⟩)
    ·refine .inr (.inr ⟨λh7=>h7.elim h3 h1,λh7 h8=>?_,h5⟩)
     rcases h8 with h8|⟨z,h8|⟨rfl,rfl⟩⟩
     ·exact h4 h7 (.inl h8)
     ·exact h4 h7 (.inr ⟨z,h8⟩)
     ·exact h2 ⟨rfl,h7⟩
 ·rw[PG.send_n]at hi
  have hi2:i<g.n:=hi
  have hst:(((g.updY (a:Nat) (b:Nat) (·.pick 0 0)).setS (b:Nat) ((g.site (b:Nat)).arrive (ver a0 key))).send (b:Nat) (T.next c b (a:Nat) key) (ver a0 key)).site i=if i=b then(g.site (b:Nat)).arrive (ver a0 key)else g.site i:=by
   rw[PG.site_of (PG.send_S ..)]
   exact PG.site_set (g:=g.updY (a:Nat) (b:Nat) (·.pick 0 0)) h.sl hb _
  rw[hst]
  by_cases hib:i=b
  ·subst hib
   rw[if_pos rfl,(h.s i hi2).of_no hb0 hnob]
   exact .inr (.inl ⟨hb0,⟨a,.inr ⟨rfl,rfl⟩⟩,rfl⟩)
  ·rw[if_neg hib]
   rcases h.s i hi2 with h3|⟨h3,⟨z,h4⟩,h5⟩|⟨h3,h4,h5⟩
   ·exact .inl h3
   ·exact .inr (.inl ⟨h3,⟨z,.inl h4⟩,h5⟩)
   ·exact .inr (.inr ⟨h3,λ⟨z,h6⟩=>h6.elim (λh7=>h4 ⟨z,h7⟩) (λh7=>hib h7.2),h5⟩)
theorem FI.pick (A:Ask c key a0) {D:Nat→Nat→Prop}{g:PG}(h:FI c key a0 D g) {a b:Nat}(ha:a<g.n) (hb:b<g.n) :
  ∃D':Nat→Nat→Prop,FI c key a0 D' (g.pick (oB a b)).1∧(∀x y,D x y→D' x y)∧(E c key a0 a b→Up a0 D a→D' a b):=by
 by_cases hab:a=b
 ·subst hab
  refine⟨D,?_,λ_ _ h=>h,λhe _=>absurd rfl (E_ne A he)⟩
  unfold PG.pick
  rw[show g.ses (oB a a).site (oB a a).to'=none from PG.ses_none a]
  exact h
 ·obtain⟨s,hs,hi⟩:=h.y a b ha hb hab
  have hs':g.ses (oB a b).site (oB a b).to'=some s:=hs
  by_cases hx:E c key a0 a b∧¬D a b∧Up a0 D a
  ·obtain⟨he,hd,hu⟩:=hx
   obtain rfl:s=v1 (ver a0 key):=by
    rcases hi with⟨h2,_⟩|⟨_,_,_,e⟩|⟨_,h2,_⟩
    ·exact absurd h2 hd
    ·exact e
    ·exact absurd hu (h2 he)
   have hb0:b≠a0:=T.Ed.ne A.tr he
   have hnob:¬∃z,D z b:=λ⟨z,hz⟩=>hd (by rw[he.uniq A.tr A.lt (h.de z b hz)];exact hz)
   have hz:=(h.s b hb).of_no hb0 hnob
   have hto:g.pickT (oB a b) (ver a0 key)=T.next c b (a:Nat) key:=by unfold PG.pickT PG.nx;rw[h.gc];rfl
   refine⟨λx y=>D x y∨(x=a∧y=b),?_,λx y hd=>.inl hd,λ_ _=>.inr ⟨rfl,rfl⟩⟩
   have hg:=h.go A ha hb hab he hd hu
   have e:(g.pick (oB a b)).1=((g.updY (a:Nat) (b:Nat) (·.pick 0 0)).setS (b:Nat) ((g.site (b:Nat)).arrive (ver a0 key))).send (b:Nat) (T.next c b (a:Nat) key) (ver a0 key):=by
    unfold PG.pick
    rw[hs']
    have hat:VS.at' (v1 (ver a0 key)) (oB a b).at'=(0,ver a0 key):=rfl
    have hfull:g.full (oB a b).to' (T.next c b (a:Nat) key)=false:=h.full b hb _ λs hs=>by
     have:=(mem_next.1 hs).1
     unfold PG.n;rw[h.gc];exact this
    simp only[hat]
    rw[if_neg (show¬(v1 (ver a0 key)).inW (oB a b).at'=false from λh=>by cases h),if_neg (by
     rintro(h1|h1|h1)
     ·exact absurd h1 (show¬N.hw3 0=1 by decide)
     ·exact absurd h1 (show¬N.hw3 0=2 by decide)
     ·cases h1),hto,if_neg (by
     rintro(⟨_,h1⟩|h1)
     ·rw[show(g.site (oB a b).to').wait=[]from by rw[show g.site (oB a b).to'=zs c b from hz];rfl]at h1
      exact absurd h1 (by decide)
     ·rw[hfull]at h1;cases h1)]
    rfl
   rw[e]
   exact hg
  ·have hno:VS.inW s (oB a b).at'=false:=by
    rcases hi with⟨_,rfl⟩|⟨h1,h2,h3,_⟩|⟨_,_,rfl⟩
    ·rfl
    ·exact absurd ⟨h1,h2,h3⟩ hx
    ·rfl
   refine⟨D,?_,λ_ _ h=>h,λhe hu=>?_⟩
   ·unfold PG.pick
    rw[hs']
    simp only[hno]
    exact h
   ·by_cases hd:D a b
    ·exact hd
    ·exact absurd ⟨he,hd,hu⟩ hx
end
end Far
end Go.Proofs.YtdnijgdmohinlaaGreat
end
section
set_option maxRecDepth 100000
namespace Go.Proofs.YtdnijgdmohinlaaGreat
open Go Go.RowKit A R
namespace Far
section
variable {c:SRow}{key:ByteArray}{a0:Nat}{D:Nat→Nat→Prop}{g:PG}
theorem new_site {i:Nat}(hi:i<c.parents.length):(PG.new c).site i=zs c i:=by
 unfold PG.site PG.new PG.newK zs
 simp[hi]
theorem new_cli {k:Nat}(hk:k<4):(PG.new c).cli k=(((k%c.parents.length:Nat):Int),[]):=by
 unfold PG.cli PG.new PG.newK
 exact if_pos (by simpa using hk)
theorem new_ses {x y:Int}{s:VS}(h:(PG.new c).ses x y=some s):s=v0:=(List.mem_replicate.1 (N.vAt_mem h)).2
theorem new_full (a:Int) (to:List Nat):(PG.new c).full a to=false:=by
 unfold PG.full
 rw[List.any_eq_false]
 intro s _
 rw[decide_eq_true_eq]
 unfold PG.opn
 cases h:(PG.new c).ses a s with
 | none=>exact(by decide)
 | some x=>rw[new_ses h];exact(by decide)
theorem made_ver (c:SRow) (key:ByteArray) (a0:Nat):(zs c a0).made key vv false []=ver a0 key:=rfl
theorem write_zero (A:Ask c key a0):(zs c a0).writeE key vv false []=0:=by
 unfold PS.writeE
 rw[if_neg (show¬findR (zs c a0).rs key<0 from A.own),if_neg (show¬(1099511627776:Int)≤((zs c a0).seen []).1 from(show¬(1099511627776:Int)≤0 by decide)),made_ver,if_pos A.ver]
def G1 (c:SRow) (key:ByteArray) (k:Nat):PG:=(PG.new c).putS (o1 k key)
variable {k:Nat}
theorem put_cli (hk:k<4):(PG.new c).cli (o1 k key).client=(((k%c.parents.length:Nat):Int),[]):=new_cli hk
theorem put_no (hk:k<4) (h1:1≤c.parents.length) (h:findR (T.rangesOf c (k%c.parents.length:Nat)) key<0):(PG.new c).putE (o1 k key)=14:=by
 unfold PG.putE
 rw[put_cli hk,new_site (Nat.mod_lt _ (by omega))]
 exact if_pos h
theorem put_yes (hk:k<4) (A:Ask c key (k%c.parents.length)):(PG.new c).putE (o1 k key)=0:=by
 unfold PG.putE
 rw[put_cli hk,new_site A.lt,if_neg (show¬findR (zs c (k%c.parents.length)).rs (o1 k key).key<0 from A.own),new_full,if_neg (by decide)]
 exact write_zero A
theorem put_ver (hk:k<4) (A:Ask c key (k%c.parents.length)):(PG.new c).putV (o1 k key)=ver (k%c.parents.length) key:=by
 unfold PG.putV
 rw[put_cli hk,new_site A.lt]
 unfold PS.writeV
 rw[show(zs c (k%c.parents.length)).writeE (o1 k key).key (PG.putW (o1 k key)) (decide ((o1 k key).kind=2)) []=0 from write_zero A,if_pos rfl]
 rfl
theorem gate1 (hk:k<4) (r:PG×PG.Ans):(PG.new c).gate (o1 k key) r=r:=by
 unfold PG.gate
 rw[if_neg (λh=>by
  have h1:=h.2.2
  have h2:(o1 k key).client=(k:Int):=rfl
  omega),if_neg (λh=>by
  have:=h.2.2.2
  rw[put_cli hk]at this
  simp only[]at this
  omega)]
theorem gate8 (o:SOp) (h:7<o.kind) (r:PG×PG.Ans):g.gate o r=r:=by
 unfold PG.gate
 rw[if_neg (λh2=>by have:=h2.2.1;omega),if_neg (λh2=>by have:=h2.2.1;omega)]
theorem G1_eq (hk:k<4) (A:Ask c key (k%c.parents.length)):∃e:Event,∃cc:Int×List Dep,G1 c key k=((((PG.new c).setS ((k%c.parents.length:Nat):Int) (wr c key (k%c.parents.length))).send ((k%c.parents.length:Nat):Int) (T.next c (k%c.parents.length) (-1) key) (ver (k%c.parents.length) key)).ev e).setC k cc:=by
 unfold G1 PG.putS
 rw[put_ver hk A,put_cli hk,new_site A.lt]
 exact⟨_,_,rfl⟩
theorem FI.start (hk:k<4) (A:Ask c key (k%c.parents.length)):FI c key (k%c.parents.length) (λ_ _=>False) (G1 c key k):=by
 obtain⟨e,cc,he⟩:=G1_eq hk A
 generalize hx:k%c.parents.length=a0 at A he ⊢
 have hn6:(PG.new c).n≤6:=A.p.le
 have hS:(G1 c key k).S=(PG.new c).S.set a0 (wr c key a0):=by rw[he];exact PG.send_S ..
 have hn:(G1 c key k).n=c.parents.length:=by rw[he];exact PG.send_n ..
 have hses:∀x y:Int,(G1 c key k).ses x y=(((PG.new c).setS (a0:Nat) (wr c key a0)).send (a0:Nat) (T.next c a0 (-1) key) (ver a0 key)).ses x y:=λx y=>by rw[he];rfl
 have hm:∀y:Nat,(∃s∈T.next c a0 (-1) key,(y:Int)=(s:Nat))↔E c key a0 a0 y:=λy=>by
  constructor
  ·rintro⟨s,hs,e⟩
   obtain rfl:y=s:=by omega
   obtain⟨h1,h2,_,h4⟩:=mem_next.1 hs
   exact T.Ed.first A.tr A.lt h1 h2 h4
  ·intro h1
   exact⟨y,mem_next.2 ⟨h1.2.1,h1.2.2.1,by omega,h1.2.2.2.2⟩,rfl⟩
 have hup:∀x,Up a0 (λ_ _=>False) x↔x=a0:=λx=>⟨λh=>h.elim id λ⟨_,h⟩=>h.elim,.inl⟩
 refine⟨by rw[he];show(PG.send _ _ _ _).c=c;rw[PG.send_Y];rfl,by rw[hS,List.length_set,hn];simp[PG.new,PG.newK],?_,λ_ _ h=>h.elim,λ_ _ h=>h.elim,λx y hx hy hxy=>?_,λi hi=>?_⟩
 ·rw[hn,he]
  show(PG.send _ _ _ _).Y.length=_
  rw[PG.send_len]
  simp[PG.new,PG.newK,PG.setS]
 ·rw[hn]at hx hy
  obtain⟨s,hs,_⟩:=PG.ses_some (g:=PG.new c) (by simp[PG.new,PG.newK,PG.n]) (a:=x) (b:=y) hx hy hxy
  have h0:=new_ses hs
  subst h0
  rw[hses,PG.ses_send (T.next c a0 (-1) key) ((PG.new c).setS (a0:Nat) (wr c key a0)) hn6 (next_nodup ..),show((PG.new c).setS (a0:Nat) (wr c key a0)).ses x y=some v0 from hs]
  by_cases h2:x=a0∧E c key a0 a0 y
  ·obtain⟨rfl,h3⟩:=h2
   rw[if_pos ⟨rfl,(hm y).2 h3⟩]
   exact⟨v1 (ver x key),rfl,.inr (.inl ⟨h3,λh=>h,.inl rfl,rfl⟩)⟩
  ·rw[if_neg (λh=>h2 ⟨by have:=h.1;omega,(hm y).1 h.2⟩)]
   refine⟨_,rfl,.inr (.inr ⟨λh=>h,λh3 h4=>?_,rfl⟩)⟩
   obtain rfl:=(hup x).1 h4
   exact h2 ⟨rfl,h3⟩
 ·rw[hn]at hi
  have:(G1 c key k).site i=if i=a0 then wr c key a0 else zs c i:=by
   rw[PG.site_of (g':=G1 c key k) (g:=(PG.new c).setS (a0:Nat) (wr c key a0)) (by rw[hS];rfl),PG.site_set (by simp[PG.new,PG.newK,PG.n]) A.lt]
   split
   ·rfl
   ·exact new_site hi
  rw[this]
  by_cases h2:i=a0
  ·rw[if_pos h2];exact .inl ⟨h2,rfl⟩
  ·rw[if_neg h2];exact .inr (.inr ⟨h2,λ⟨_,h⟩=>h,rfl⟩)
theorem G1_inv (hk:k<4) (A:Ask c key (k%c.parents.length)):(G1 c key k).Inv 40:=by
 have h0:=PG.Inv.new A.p A.ok
 have hat:(PG.new c).At (o1 k key):=⟨by show(0:Int)≤(k:Nat);omega,by show((k:Nat):Int)<4;omega,by rw[put_cli hk];simp only[];omega⟩
 have:=h0.put hat (o:=o1 k key) A.k8
 unfold PG.put at this
 rw[if_pos (put_yes hk A)]at this
 exact this
theorem pick_cs (g:PG) (o:SOp):(g.pick o).1.cs=g.cs∧(g.pick o).1.h=g.h:=by
 unfold PG.pick
 split
 ·exact⟨rfl,rfl⟩
 ·split
  ·exact⟨rfl,rfl⟩
  ·split
   ·exact⟨rfl,rfl⟩
   ·split
    ·exact⟨rfl,rfl⟩
    ·constructor
     ·show(PG.send _ _ _ _).cs=_
      rw[PG.send_Y];rfl
     ·exact PG.send_h ..
theorem wr_ok (A:Ask c key a0):(wr c key a0).Ok 64∧SV8 V8 (wr c key a0):=by
 have hp:=A.p.le
 have hlt:=A.lt
 have h0:(zs c a0).Ok 0:=PS.Ok.zero ⟨by omega,by omega⟩ (Nat.le_trans (T.rangesOf_len ..) (by decide))
 have h1:SV8 V8 (zs c a0):=⟨λq hq=>(by cases hq),λv hv=>by cases hv⟩
 exact⟨(h0.write ..).mono (by decide),h1.write _ _ _ _ λ_=>⟨by rw[made_ver];exact A.ver,A.k8,λd hd=>by cases hd⟩⟩
theorem ver8 (A:Ask c key a0):V8 (ver a0 key):=⟨A.ver,A.k8,λd hd=>by cases hd⟩
theorem zs_ok {i:Nat}(A:Ask c key a0) (hi:i<c.parents.length):(zs c i).Ok 64∧SV8 V8 (zs c i):=by
 have hp:=A.p.le
 exact⟨(PS.Ok.zero ⟨by omega,by omega⟩ (Nat.le_trans (T.rangesOf_len ..) (by decide))).mono (by decide),λq hq=>(by cases hq),λv hv=>by cases hv⟩
theorem FI.inv (A:Ask c key a0) (h:FI c key a0 D g) {g1:PG}(h1:g1.Inv 64) (hcs:g.cs=g1.cs) (hh:g.h=g1.h) (hn1:g1.n=g.n):g.Inv 64:=by
 have hn:g.n=c.parents.length:=by unfold PG.n;rw[h.gc]
 have hn6:g.n≤6:=by rw[hn];exact A.p.le
 have hS:∀p∈g.S,p.Ok 64∧SV8 V8 p:=λp hp=>by
  obtain⟨i,hi,rfl⟩:=List.getElem_of_mem hp
  rw[h.sl]at hi
  have e:g.S[i]=g.site i:=by unfold PG.site;simp[h.sl,hi]
  rw[e]
  rcases h.s i hi with⟨_,e2⟩|⟨_,_,e2⟩|⟨_,_,e2⟩
  ·rw[e2];exact wr_ok A
  ·rw[e2]
   have:=zs_ok A (i:=i) (by omega)
   exact⟨this.1.arrive _,this.2.arrive (ver8 A)⟩
  ·rw[e2];exact zs_ok A (by omega)
 have hv:=A.ver
 have hY:∀s∈g.Y,s.Fit 64∧YV8 V8 s:=λs hs=>by
  obtain⟨i,hi,rfl⟩:=List.getElem_of_mem hs
  have hi2:=hi
  rw[h.yl]at hi
  have:=N.full_all g.n (List.mem_range.2 (by omega)) i (List.mem_range.2 hi)
  obtain⟨a,ha,this⟩:=List.any_eq_true.1 this
  obtain⟨b,hb,this⟩:=List.any_eq_true.1 this
  have hx:=of_decide_eq_true this
  have hab:=(N.idx_some hx).2.2.2.2
  obtain⟨s,hs,hs2⟩:=h.y a b (List.mem_range.1 ha) (List.mem_range.1 hb) (λe=>hab (by rw[e]))
  unfold PG.ses N.vAt at hs
  rw[hx,Option.bind_some,List.getElem?_eq_getElem hi2]at hs
  rw[Option.some.inj hs]
  have f0:∀n:Int,n=0∨n=1→VS.Fit 64 ⟨n,[],n,[]⟩∧YV8 V8 ⟨n,[],n,[]⟩:=λn hn=>⟨⟨Nat.zero_le _,Nat.zero_le _,(show 0≤n∧n≤(64:Nat)by omega),(show 0≤n∧n≤(64:Nat)by omega),λp hp=>(by cases hp),λp hp=>by cases hp⟩,λp hp=>(by cases hp),λp hp=>by cases hp⟩
  rcases hs2 with⟨_,e2⟩|⟨_,_,_,e2⟩|⟨_,_,e2⟩
  ·rw[e2];exact f0 1 (.inr rfl)
  ·rw[e2]
   have hw:∀p∈[((0:Int),ver a0 key)],p.2=ver a0 key:=λp hp=>by rw[List.mem_singleton.1 hp]
   exact⟨⟨(show 1≤8 by decide),(show 1≤64 by decide),(show(0:Int)≤1∧(1:Int)≤(64:Nat)by decide),(show(0:Int)≤0∧(0:Int)≤(64:Nat)by decide),λp hp=>by rw[hw p hp];exact hv,λp hp=>by rw[hw p hp];exact hv⟩,λp hp=>by rw[hw p hp];exact ver8 A,λp hp=>by rw[hw p hp];exact ver8 A⟩
  ·rw[e2];exact f0 0 (.inl rfl)
 exact⟨⟨by rw[h.gc];exact A.p,by rw[h.gc];exact A.ok,h.sl,λp hp=>(hS p hp).1,h.yl,λs hs=>(hY s hs).1,λk=>by rw[hcs,←hn1];exact h1.ok.cs k,by rw[hh];exact h1.ok.hl⟩,λk=>by rw[hcs];exact h1.cp k,λp hp=>(hS p hp).2,λs hs=>(hY s hs).2⟩
def Tr (c:SRow) (r a b x y:Nat):Prop:=c.parents.length≤T.cnt (T.side c.parents x y)+r∨(c.parents.length≤T.cnt (T.side c.parents x y)+(r+1)∧(x<a∨(x=a∧y<b)))
structure FarI (c:SRow) (key:ByteArray) (k:Nat) (T:Nat→Nat→Prop) (g:PG):Prop where
 D:∃D,FI c key (k%c.parents.length) D g∧∀x y,E c key (k%c.parents.length) x y→T x y→D x y
 cs:g.cs=(G1 c key k).cs
 h:g.h=(G1 c key k).h
variable {Q Q':Nat→Nat→Prop}
theorem FarI.n (h:FarI c key k Q g):g.n=c.parents.length:=by
 obtain⟨D,h1,_⟩:=h.D
 unfold PG.n;rw[h1.gc]
theorem G1_n (hk:k<4) (A:Ask c key (k%c.parents.length)):(G1 c key k).n=c.parents.length:=by
 unfold PG.n;rw[(FI.start hk A).gc]
theorem FarI.inv (hk:k<4) (A:Ask c key (k%c.parents.length)) (h:FarI c key k Q g):g.Inv 64:=by
 obtain⟨D,h1,_⟩:=h.D
 exact h1.inv A ((G1_inv hk A).mono (by decide)) h.cs h.h (by rw[G1_n hk A,h.n])
theorem FarI.mono (h:FarI c key k Q g) (hq:∀x y,E c key (k%c.parents.length) x y→Q' x y→Q x y):FarI c key k Q' g:=by
 obtain⟨D,h1,h2⟩:=h.D
 exact⟨⟨D,h1,λx y he ht=>h2 x y he (hq x y he ht)⟩,h.cs,h.h⟩
theorem FarI.start (hk:k<4) (A:Ask c key (k%c.parents.length)):FarI c key k (Tr c 0 0 0) (G1 c key k) :=
 ⟨⟨_,FI.start hk A,λx y he ht=>by
  have:=(A.tr.to x y he.1 he.2.1 he.2.2.1).2.2
  unfold Tr at ht
  omega⟩,rfl,rfl⟩
theorem FarI.keep (A:Ask c key (k%c.parents.length)) (h:FarI c key k Q g) {a b:Nat}(ha:a<c.parents.length) (hb:b<c.parents.length):FarI c key k Q (g.pick (oB a b)).1:=by
 have hn:=h.n
 obtain⟨D,h1,h2⟩:=h.D
 obtain⟨D',h3,h4,_⟩:=h1.pick A (a:=a) (b:=b) (by omega) (by omega)
 obtain⟨e1,e2⟩:=pick_cs g (oB a b)
 exact⟨⟨D',h3,λx y he ht=>h4 x y (h2 x y he ht)⟩,by rw[e1];exact h.cs,by rw[e2];exact h.h⟩
theorem FarI.pick (A:Ask c key (k%c.parents.length)) {r a b:Nat}(h:FarI c key k (Tr c r a b) g) (ha:a<c.parents.length) (hb:b<c.parents.length):FarI c key k (Tr c r a (b+1)) (g.pick (oB a b)).1:=by
 have hn:=h.n
 obtain⟨D,h1,h2⟩:=h.D
 obtain⟨D',h3,h4,h5⟩:=h1.pick A (a:=a) (b:=b) (by omega) (by omega)
 obtain⟨e1,e2⟩:=pick_cs g (oB a b)
 refine⟨⟨D',h3,λx y he ht=>?_⟩,by rw[e1];exact h.cs,by rw[e2];exact h.h⟩
 by_cases hb1:Tr c r a b x y
 ·exact h4 x y (h2 x y he hb1)
 ·unfold Tr at hb1 ht
  obtain⟨rfl,rfl⟩:x=a∧y=b:=by omega
  refine h5 he ?_
  by_cases hx:x=k%c.parents.length
  ·exact .inl hx
  ·obtain⟨z,hz,_,hz2⟩:=T.Ed.up A.tr A.lt he hx
   exact .inr ⟨z,h2 z x hz (.inl (by omega))⟩
theorem FarI.row {r a:Nat}(h:FarI c key k (Tr c r a c.parents.length) g):FarI c key k (Tr c r (a+1) 0) g:=h.mono λx y he ht=>by
 have:=he.2.1
 unfold Tr at ht ⊢
 omega
theorem FarI.round {r:Nat}(h:FarI c key k (Tr c r c.parents.length 0) g):FarI c key k (Tr c (r+1) 0 0) g:=h.mono λx y he ht=>by
 have:=he.1
 unfold Tr at ht ⊢
 omega
def Done (c:SRow) (key:ByteArray) (a0:Nat) (g:PG):Prop:=∃D,FI c key a0 D g∧∀x y,E c key a0 x y→D x y
theorem FarI.done (A:Ask c key (k%c.parents.length)) (h:FarI c key k (Tr c 6 0 0) g):Done c key (k%c.parents.length) g:=by
 obtain⟨D,h1,h2⟩:=h.D
 exact⟨D,h1,λx y he=>h2 x y he (.inl (by have:=A.p.le;omega))⟩
theorem Done.idle (A:Ask c key a0) (h:Done c key a0 g):g.idle=true:=by
 obtain⟨D,h,hd⟩:=h
 have hn:g.n=c.parents.length:=by unfold PG.n;rw[h.gc]
 have hn6:g.n≤6:=by rw[hn];exact A.p.le
 unfold PG.idle
 rw[List.all_eq_true]
 intro s hs
 obtain⟨i,hi,rfl⟩:=List.getElem_of_mem hs
 have hi2:=hi
 rw[h.yl]at hi
 have:=N.full_all g.n (List.mem_range.2 (by omega)) i (List.mem_range.2 hi)
 obtain⟨a,ha,this⟩:=List.any_eq_true.1 this
 obtain⟨b,hb,this⟩:=List.any_eq_true.1 this
 have hx:=of_decide_eq_true this
 have hab:=(N.idx_some hx).2.2.2.2
 obtain⟨s,hs,hs2⟩:=h.y a b (List.mem_range.1 ha) (List.mem_range.1 hb) (λe=>hab (by rw[e]))
 unfold PG.ses N.vAt at hs
 rw[hx,Option.bind_some,List.getElem?_eq_getElem hi2]at hs
 rw[Option.some.inj hs]
 rcases hs2 with⟨_,e2⟩|⟨h3,h4,_,_⟩|⟨_,_,e2⟩
 ·rw[e2];rfl
 ·exact absurd (hd a b h3) h4
 ·rw[e2];rfl
theorem sput_new {rs:List Rng}{v:Ver}(h:¬findR rs v.key<0) (hv:J.checkB v=true):J.sput rs [] v=([(v.key,[v])],true):=by
 unfold J.sput
 rw[if_neg h]
 have:J.put (J.getC [] v.key) v=some [v]:=by
  unfold J.put
  rw[if_pos ⟨hv,λx h=>(by cases h),λx h=>(by rw[show(J.getC [] v.key)[_]?=none from rfl]at h;cases h)⟩]
  rfl
 rw[this];rfl
theorem getC_one (v:Ver):J.getC [(v.key,[v])] v.key=[v]:=by
 unfold J.getC J.look
 rw[List.find?_cons,decide_eq_true rfl]
 rfl
theorem step_none {p:PS}(h:p.wait=[]):p.step=p:=by
 unfold PS.step PS.stepV J.nextV
 rw[h];rfl
theorem Done.chain (A:Ask c key a0) {m:List Rng}{e:ByteArray}(hm:Chn m e) (hr:c.ranges=m++[endR e]) (h:Done c key a0 g) {i:Nat}(hi:i<c.parents.length) :
  J.getC (g.site i).step.cs key=if T.bit (T.owners c key) (i:Nat)then[ver a0 key]else[]:=by
 obtain⟨D,h,hd⟩:=h
 have hn:g.n=c.parents.length:=by unfold PG.n;rw[h.gc]
 have hp6:=A.p.le
 have hb:=T.rangesOf_find A.ok hm hr key
 rcases h.s i (by omega)with⟨h1,h2⟩|⟨h1,h2,h3⟩|⟨h1,h2,h3⟩
 ·subst h1
  rw[if_pos ((hb i).1 A.own),h2]
  have hw:wr c key i=(zs c i).writeP key vv false []:=by
   unfold wr PS.write
   rw[if_pos (write_zero A)]
  have hcs:(wr c key i).cs=[(key,[ver i key])]:=by
   rw[hw]
   show(J.sput (T.rangesOf c i) [] ((zs c i).made key vv false [])).1=_
   rw[made_ver,sput_new A.own A.ver];rfl
  rw[step_none (by rw[hw];rfl),hcs]
  exact getC_one (ver i key)
 ·rw[h3]
  unfold ar PS.arrive
  have hz:¬J.checkB (ver a0 key)=false:=by rw[A.ver];decide
  by_cases ho:findR (T.rangesOf c i) key<0
  ·have he:(zs c i).arriveE (ver a0 key)=0:=by
    unfold PS.arriveE
    rw[if_neg hz,if_pos (show findR (zs c i).rs (ver a0 key).key<0 from ho)]
   rw[if_pos he,if_pos (show findR (zs c i).rs (ver a0 key).key<0 from ho),if_neg (λh=>absurd ho ((hb i).2 h)),step_none rfl]
   rfl
  ·have he:(zs c i).arriveE (ver a0 key)=0:=by
    unfold PS.arriveE
    rw[if_neg hz,if_neg (show¬findR (zs c i).rs (ver a0 key).key<0 from ho)]
    have ht:(zs c i).there (ver a0 key)=false:=rfl
    rw[if_neg (by rw[ht];decide)]
    show J.pushE [] (ver a0 key)=0
    unfold J.pushE
    rw[if_pos A.ver];rfl
   rw[if_pos he,if_neg (show¬findR (zs c i).rs (ver a0 key).key<0 from ho),if_pos ((hb i).1 ho)]
   unfold PS.step
   rw[show(({zs c i with wait:=(zs c i).wait++[ver a0 key]}:PS).clockP (ver a0 key)).stepV=some (ver a0 key)from rfl]
   show J.getC (J.sput (T.rangesOf c i) [] (ver a0 key)).1 key=_
   rw[sput_new (show¬findR (T.rangesOf c i) (ver a0 key).key<0 from ho) A.ver]
   exact getC_one (ver a0 key)
 ·rw[h3,if_neg,step_none rfl]
  ·rfl
  ·intro hbt
   rw[T.bit_test (by omega)]at hbt
   obtain⟨a,ha⟩:=T.Ed.all A.tr A.lt hi h1 hbt
   exact h2 ⟨a,hd a i ha⟩
theorem step_site {s:Nat}(hl:g.S.length=g.n) (hs:s<g.n) (i:Nat):((g.step (oS s)).1).site i=if i=s then(g.site s).step else g.site i:=by
 unfold PG.step
 rw[if_pos (show g.isS (oS s).site=true from by unfold PG.isS;simp only[Bool.and_eq_true,decide_eq_true_eq];exact⟨by show(0:Int)≤(s:Nat);omega,by show((s:Nat):Int)<g.n;omega⟩)]
 show(match (g.site s).stepV with|some v=>(g.setS s (g.site s).step,(0:Int),[v])|none=>(g,12,[])).1.site i=_
 cases hv:(g.site s).stepV with
 | some v=>exact PG.site_set hl hs _
 | none =>
  by_cases h:i=s
  ·subst h
   rw[if_pos rfl]
   unfold PS.step
   rw[hv]
  ·rw[if_neg h]
structure EndI (c:SRow) (key:ByteArray) (a0 s:Nat) (g:PG):Prop where
 G:∃G,Done c key a0 G∧g.Y=G.Y∧∀i,s≤i→i<c.parents.length→g.site i=G.site i
 n:g.n=c.parents.length
 inv:g.Inv (64+s)
theorem EndI.zero (A:Ask c key (k%c.parents.length)) (hk:k<4) (h:FarI c key k (Tr c 6 0 0) g):EndI c key (k%c.parents.length) 0 g:=⟨⟨g,h.done A,rfl,λ_ _ _=>rfl⟩,h.n,h.inv hk A⟩
theorem EndI.step {s:Nat}(h:EndI c key a0 s g) (hs:s<c.parents.length):EndI c key a0 (s+1) (g.step (oS s)).1:=by
 obtain⟨G,h1,h2,h3⟩:=h.G
 have hn:=h.n
 have hst:=h.inv.step (oS s)
 refine⟨⟨G,h1,?_,λi hi hi2=>?_⟩,?_,hst⟩
 ·rw[←h2]
  unfold PG.step
  split
  ·split<;>rfl
  ·rfl
 ·rw[step_site h.inv.ok.sl (by omega),if_neg (by omega)]
  exact h3 i (by omega) hi2
 ·rw[←hn]
  unfold PG.step
  split
  ·split<;>rfl
  ·rfl
theorem EndI.chain (A:Ask c key a0) {m:List Rng}{e:ByteArray}(hm:Chn m e) (hr:c.ranges=m++[endR e]) {s:Nat}(h:EndI c key a0 s g) (hs:s<c.parents.length) :
  J.getC ((g.step (oS s)).1.site s).cs key=if T.bit (T.owners c key) (s:Nat)then[ver a0 key]else[]:=by
 obtain⟨G,h1,h2,h3⟩:=h.G
 rw[step_site h.inv.ok.sl (by rw[h.n];exact hs),if_pos rfl,h3 s (Nat.le_refl _) hs]
 exact h1.chain A hm hr hs
theorem EndI.idle (A:Ask c key a0) {s:Nat}(h:EndI c key a0 s g):g.idle=true:=by
 obtain⟨G,h1,h2,_⟩:=h.G
 have:=h1.idle A
 unfold PG.idle at this ⊢
 rw[h2];exact this
end
end Far
end Go.Proofs.YtdnijgdmohinlaaGreat
end
section
set_option maxRecDepth 100000
namespace Go.Proofs.YtdnijgdmohinlaaGreat
open Go.RowKit A R
open A.RowT
structure TOp where
 kind:Int
 key:Int
 n:Int
 site:Int
 gone:Bool
 value:ByteArray
 past:List Dep
instance:Inhabited TOp:=⟨⟨0,0,0,0,false,⟨#[]⟩,[]⟩⟩
namespace TOp
end TOp
namespace TOp
end TOp
end Go.Proofs.YtdnijgdmohinlaaGreat
end
