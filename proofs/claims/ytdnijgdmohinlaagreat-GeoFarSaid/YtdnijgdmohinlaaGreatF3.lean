/- What the proofs need in common, laid together (3 of 7): no condition. -/
import Derived.Test.YtdnijgdmohinlaaGreatF2
import Derived.Laws.IdiomStrings
import Derived.Laws.BytesArg
import Derived.ArgAppend
set_option linter.unusedSimpArgs false
set_option linter.unusedVariables false
set_option linter.constructorNameAsVariable false
section
namespace Go.Proofs.YtdnijgdmohinlaaGreat.A
open Go Go.RowKit
section
variable {P:Program}{st:ASt}{o:Oper}
theorem Pu_and1 {t yt:TypeId}{x y:Operand}{a:Nat}{r:Int}(ho:o.op=.binOp .and t x y yt) (hx:st.ev x=.d (.v (.int .i64 a))) (hy:st.ev y=.d (.v (.int .i64 1))) (ha:a<9223372036854775808) (hr:((a%2:Nat):Int)=r):Pu P st o (.d (.v (.int .i64 r))):=by
 subst hr
 exact Pu_bin ho hx hy (λh1 h2 w=>by
  simp only[Sem.run_bind,guard_int,Result.andThen_ok,binOp]
  have e:IntKind.i64.wrap (BitVec.ofInt IntKind.i64.bits (a:Int)&&&BitVec.ofInt IntKind.i64.bits 1).toNat=((a%2:Nat):Int):=by
   have e1:(BitVec.ofInt IntKind.i64.bits (a:Int)).toNat=a:=by
    show(BitVec.ofInt 64 (a:Int)).toNat=a
    rw[BitVec.ofInt_natCast,BitVec.toNat_ofNat];omega
   have e2:(BitVec.ofInt IntKind.i64.bits 1).toNat=1:=rfl
   rw[BitVec.toNat_and,e1,e2,Nat.and_one_is_mod]
   exact IntWalk.i64_in _ (by omega)
  simp only[Op.intBits,e,ne_eq,not_true_eq_false,if_false,Sem.run_pure]) (λh _=>by show inI _;simp only[inI];omega)
theorem Pu_int_quo {t yt:TypeId}{x y:Operand}{k:IntKind}{a b r:Int}(ho:o.op=.binOp .quo t x y yt) (hx:st.ev x=.d (.v (.int k a))) (hy:st.ev y=.d (.v (.int k b))) (hb:b≠0) (hr:k.wrap (a.tdiv b)=r) (hv:vok (.int k a)→vok (.int k r)):Pu P st o (.d (.v (.int k r))) :=
 Pu_bin ho hx hy (λh1 h2 w=>by
  simp only[Sem.run_bind,guard_int,Result.andThen_ok,binOp];simp[Op.intDiv,hb,hr,Sem.run]) (λh _=>hv h)
theorem quo_nat {a b:Nat}(ha:a<9223372036854775808):IntKind.i64.wrap ((a:Int).tdiv (b:Int))=((a / b:Nat):Int)∧vok (.int .i64 ((a / b:Nat):Int)):=by
 have h:=Nat.div_le_self a b
 generalize hq:a / b=q at h
 have e:(a:Int).tdiv (b:Int)=(q:Int):=by rw[←hq];exact Int.ofNat_tdiv a b
 rw[e]
 exact⟨IntWalk.i64_in _ (by omega),by show inI _;simp only[inI];omega⟩
end
end Go.Proofs.YtdnijgdmohinlaaGreat.A
namespace Go.Proofs.YtdnijgdmohinlaaGreat
open Go.RowKit A R
open A.RowT
namespace T
def ok (c:SRow):Bool:=S.shape c&&!c.owners.any (S.badO c.parents.length)
theorem ok_facts {c:SRow}(h:ok c=true):S.shape c=true∧∀x∈c.owners,1≤x∧x<2^c.parents.length:=by
 unfold ok at h
 rw[Bool.and_eq_true]at h
 refine⟨h.1,λx hx=>?_⟩
 by_cases hb:S.badO c.parents.length x=true
 ·rw[List.any_eq_true.2 ⟨x,hx,hb⟩]at h;cases h.2
 ·simp only[S.badO,Bool.or_eq_true,decide_eq_true_eq,not_or]at hb;omega
def owners (c:SRow) (key:ByteArray):Nat:=if ok c then(if findR c.ranges key<0 then 0 else(c.owners.getD (findR c.ranges key).toNat 0).toNat)else 0
def bit (m:Nat) (s:Int):Bool:=decide (0≤s)&&decide (s<6)&&decide (m / 2^s.toNat%2=1)
theorem vok64 {m:Nat}(h:m<64):vok (.int .i64 (m:Int)):=by show A.inI _;simp only[A.inI];omega
theorem shr_nat (m:Nat) (s:Int):(m:Int) / 2^s.toNat=((m / 2^s.toNat:Nat):Int):=by
 rw[Int.natCast_ediv,Int.natCast_pow];rfl
theorem bit_eq (m:Nat) (s:Int):(decide (0≤s)&&decide (s<6)&&decide (((m / 2^s.toNat%2:Nat):Int)=1))=bit m s:=by
 unfold bit
 congr 1
 exact decide_eq_decide.2 (by omega)
theorem pow_le {n:Nat}(h:n≤6):(2:Nat)^n≤64:=Nat.pow_le_pow_right (by omega) h
end T
theorem idxF_le {α:Type}(p:α→Bool) (l:List α): -1≤idxF p l∧idxF p l<l.length∨l=[]∧idxF p l= -1:=by
 unfold idxF
 cases h:l.findIdx? p with
 | none =>
  cases l with
  | nil=>exact .inr ⟨rfl,rfl⟩
  | cons x r=>exact .inl ⟨by simp,by simp;omega⟩
 | some i =>
  have:i<l.length:=by
   rw[List.findIdx?_eq_some_iff_getElem]at h
   exact h.1
  exact .inl ⟨by simp only[];omega,by simp only[];omega⟩
theorem find_vok (l:List Rng) (key:ByteArray) (h:l.length≤1000000):vok (.int .i64 (findR l key)):=by
 show A.inI _
 unfold findR
 simp only[A.inI]
 rcases idxF_le (λr=>K.hasB r.f r.t key) l with h1|⟨_,h1⟩<;>omega
theorem find_a (l:List Rng) (key:ByteArray) (hl:l.length≤1000000):ACall Tryz.prog 146 [.sl 2 (l.map Rng.row),tv key] (iv (findR l key)):=A.ofv (λ_ _=>by kernel_rfl) (find_vok l key hl) λM w vs ha=>by
 obtain⟨x,xs,rfl,h1,h2⟩:=allc ha
 obtain⟨rfl,_⟩:=A.all1 h2
 exact find_any x l key _ w (sl_of (α:=Rng) h1)
theorem rfind_a (l:List Rng) (key:ByteArray) (hl:l.length≤1000000):ACall Tryz.prog 102 [.sl 2 (l.map Rng.row),tv key] (iv (findR l key)):=A.ofv (λ_ _=>by kernel_rfl) (find_vok l key hl) λM w vs ha=>by
 obtain⟨x,xs,rfl,h1,h2⟩:=allc ha
 obtain⟨rfl,_⟩:=A.all1 h2
 exact rfind_any x l key _ w (sl_of (α:=Rng) h1)
set_option maxRecDepth 100000 in
theorem sites_a (c:SRow):ACall Tryz.prog 33 [.row c.row] (iv c.parents.length):=by
 refine AC_1 Tryz.func33 Tryz.ntmps33 Tryz.results33 λhok M0 w0 hnl=>?_
 refine Aw_sr ?_
 refine Al_p Pu_bN ?_
 refine Al_mr ?_
 refine Al_ns ?_
 refine Al_p (Pu_fd 2 Tryz.underlying30 Tryz.sizeOf22) ?_
 refine Al_p (Pu_l1 Tryz.isAgg22) ?_
 refine Al_p (Pu_ln Tryz.underlying22) ?_
 refine Al_mr ?_
 refine Al_nil ?_
 exact Aw_ret (Sub.rfl)
set_option maxRecDepth 100000 in
theorem tcheck_a (c:SRow):ACall Tryz.prog 79 [.row c.row] (bv (T.ok c)):=by
 refine AC_1 Tryz.func79 Tryz.ntmps79 Tryz.results79 λhok M0 w0 hnl=>?_
 refine Aw_sr ?_
 refine Al_p Pu_bN ?_
 refine Al_mr ?_
 refine Al_ns ?_
 refine Al_p (Pu_lN Tryz.isAgg30 Tryz.sizeOf30) ?_
 refine Al_p (Pu_call (sites_a c) rfl ⟨Sub.rfl,trivial⟩) ?_
 refine Al_mr ?_
 refine Al_nil (Aw_seq (Aw_sr ?_))
 refine Al_ml ?_
 refine Al_p Pu_cp ?_
 refine Al_ml ?_
 refine Al_s (St_g [] trivial (λ_=>Pu_mvl)) ?_
 refine Al_s (St_g [11] ⟨⟨_,rfl⟩,trivial⟩ (λ_=>Pu_cp)) ?_
 refine Al_p Pu_o ?_
 refine Al_ml ?_
 refine Al_s (St_g [] trivial (λ_=>Pu_fd 0 Tryz.underlying30 Tryz.sizeOf28)) ?_
 refine Al_s (St_g [15] ⟨⟨_,rfl⟩,trivial⟩ (λ_=>Pu_l1 Tryz.isAgg28)) ?_
 refine Al_s (St_g [16] ⟨⟨_,rfl⟩,trivial⟩ (λ_=>Pu_ln Tryz.underlying28)) ?_
 refine Al_s (St_g [17] ⟨⟨_,rfl⟩,trivial⟩ (λ_=>Pu_cp)) ?_
 refine Al_p Pu_o ?_
 refine Al_ml ?_
 refine Al_s (St_g [] trivial (λ_=>Pu_fd 1 Tryz.underlying30 Tryz.sizeOf22)) ?_
 refine Al_s (St_g [21] ⟨⟨_,rfl⟩,trivial⟩ (λ_=>Pu_l1 Tryz.isAgg22)) ?_
 refine Al_s (St_g [22] ⟨⟨_,rfl⟩,trivial⟩ (λ_=>Pu_ln Tryz.underlying22)) ?_
 refine Al_s (St_g [] trivial (λ_=>Pu_fd 0 Tryz.underlying30 Tryz.sizeOf28)) ?_
 refine Al_s (St_g [24] ⟨⟨_,rfl⟩,trivial⟩ (λ_=>Pu_l1 Tryz.isAgg28)) ?_
 refine Al_s (St_g [25] ⟨⟨_,rfl⟩,trivial⟩ (λ_=>Pu_ln Tryz.underlying28)) ?_
 refine Al_s (St_g [23,26] ⟨⟨_,rfl⟩,⟨_,rfl⟩,trivial⟩ (λ_=>Pu_cp)) ?_
 refine Al_p Pu_o ?_
 refine Al_ml ?_
 refine Al_s (St_g [] trivial (λ_=>Pu_fd 0 Tryz.underlying30 Tryz.sizeOf28)) ?_
 refine Al_s (St_g [30] ⟨⟨_,rfl⟩,trivial⟩ (λ_=>Pu_l1 Tryz.isAgg28)) ?_
 refine Al_s (St_g [31] ⟨⟨_,rfl⟩,trivial⟩ (λ_=>Pu_call (whole_a c.ranges) rfl ⟨Sub.rfl,trivial⟩)) ?_
 refine Al_s (St_g [32] ⟨⟨_,rfl⟩,trivial⟩ (λ_=>Pu_n)) ?_
 refine Al_p Pu_o ?_
 refine Al_nil ?_
 refine Aw_cond rfl (λh34=>?_) (λh34=>?_)
 ·skip
  have hs:S.shape c=false:=by
   have h:=S.shape_z c
   rw[h34]at h
   simpa using h.symm
  refine Aw_sr ?_
  refine Al_mr ?_
  refine Al_nil ?_
  exact Aw_ret (Sub.bool (by unfold T.ok;rw[hs];rfl))
 ·skip
  have hs:S.shape c=true:=by
   have h:=S.shape_z c
   rw[h34]at h
   simpa using h.symm
  obtain⟨n1,n6,n8,no,_⟩:=S.shape_facts hs
  have hn:(0:Int)≤(c.parents.length:Int)∧(c.parents.length:Int)≤(IntKind.i64.bits:Nat):=⟨by omega,by show(c.parents.length:Int)≤64;omega⟩
  refine Aw_skip (Aw_seq (Aw_sr ?_))
  refine Al_p (Pu_fd 1 Tryz.underlying30 Tryz.sizeOf22) ?_
  refine Al_p (Pu_l1 Tryz.isAgg22) ?_
  refine Al_p (Pu_ln Tryz.underlying22) ?_
  refine Al_ml ?_
  refine Al_nil (Aw_block ?_)
  refine Aw_loopk (ι:=Nat) [3,36,37] [] (λk=>[(38,.d (iv k))]) (λk=>[]) (λk=>k≤c.owners.length∧(c.owners.take k).any (S.badO c.parents.length)=false) (λk=>c.owners.length - k) (0) (⟨Nat.zero_le _,by simp⟩) ⟨Sub.rfl,trivial⟩ trivial ?_
  rintro k ⟨hk0,hno⟩
  refine Aw_sr ?_
  refine Al_p Pu_cp ?_
  refine Al_nil (Aw_seq ?_)
  refine Aw_cond rfl (λh39=>?_) (λh39=>?_)
  ·(try simp only[A.cd_]at h39)
   have hk:k<c.owners.length:=by omega
   refine Aw_skip (Aw_seq (Aw_block (Aw_sr ?_)))
   refine Al_p (Pu_index rfl Tryz.underlying22 Tryz.sizeOf3 rfl rfl (rfl) (mapget hk)) ?_
   refine Al_p (Pu_l1 Tryz.isAgg3) ?_
   refine Al_mr ?_
   refine Al_ns ?_
   refine Al_ml ?_
   refine Al_p Pu_cp ?_
   refine Al_ml ?_
   refine Al_s (St_g [] trivial (λ_=>Pu_mvl)) ?_
   refine Al_s (St_g [] trivial (λ_=>Pu_mvl)) ?_
   refine Al_s (St_g [45,46] ⟨⟨_,rfl⟩,⟨_,rfl⟩,trivial⟩ (λ_=>Pu_int_shr rfl rfl rfl hn rfl (λh=>div_in _ h))) ?_
   refine Al_s (St_g [47] ⟨⟨_,rfl⟩,trivial⟩ (λ_=>Pu_cp)) ?_
   refine Al_p Pu_o ?_
   refine Al_nil ?_
   refine Aw_cond rfl (λh49=>?_) (λh49=>?_)
   ·skip
    have hb:S.badO c.parents.length (c.owners[k]'hk)=true:=by
     unfold S.badO
     by_cases h:c.owners[k]'hk<1
     ·simp[h]
     ·have h2:=shr_pos (c.owners[k]'hk) c.parents.length h
      rw[←h2]
      exact h49
    refine Aw_sr ?_
    refine Al_mr ?_
    refine Al_nil ?_
    exact Aw_ret (Sub.bool (by unfold T.ok;rw[S.any_at hk hb];simp))
   ·skip
    have hb:S.badO c.parents.length (c.owners[k]'hk)=false:=by
     unfold S.badO
     by_cases h:c.owners[k]'hk<1
     ·simp[h]at h49
     ·have h2:=shr_pos (c.owners[k]'hk) c.parents.length h
      rw[←h2]
      exact h49
    refine Aw_skip (Aw_region ?_)
    refine Al_p Pu_ad ?_
    refine Al_ml ?_
    refine Al_nil ?_
    exact⟨k+1,⟨by omega,S.any_snoc hk hno hb⟩,by omega,Le.ov ⟨Sub.num (by omega),trivial⟩ ⟨Sub.rfl,Sub.rfl,Sub.rfl,trivial⟩ trivial trivial⟩
  ·(try simp only[A.cd_]at h39)
   obtain rfl:k=c.owners.length:=by omega
   rw[List.take_length]at hno
   refine Aw_exit (Aw_sr ?_)
   refine Al_mr ?_
   refine Al_nil ?_
   exact Aw_ret (Sub.bool (by unfold T.ok;rw[hs,hno];rfl))
set_option maxRecDepth 100000 in
theorem has_a (m:Nat) (s:Int) (hm:m<64):ACall Tryz.prog 86 [iv m,iv s] (bv (T.bit m s)):=by
 refine AC_1 Tryz.func86 Tryz.ntmps86 Tryz.results86 λhok M0 w0 hnl=>?_
 have q14:(decide (0≤s)&&decide (s<6))=true→(0:Int)≤s∧s≤(IntKind.i64.bits:Nat):=λh=>by
  simp only[Bool.and_eq_true,decide_eq_true_eq]at h
  exact⟨h.1,by show s≤64;omega⟩
 have q15:m / 2^s.toNat<64:=by have:=Nat.div_le_self m (2^s.toNat);omega
 refine Aw_sr ?_
 refine Al_mr ?_
 refine Al_ns ?_
 refine Al_ml ?_
 refine Al_p Pu_cp ?_
 refine Al_ml ?_
 refine Al_s (St_g [] trivial (λ_=>Pu_mvl)) ?_
 refine Al_s (St_g [8] ⟨⟨_,rfl⟩,trivial⟩ (λ_=>Pu_cp)) ?_
 refine Al_p Pu_a ?_
 refine Al_ml ?_
 refine Al_s (St_g [] trivial (λ_=>Pu_mvl)) ?_
 refine Al_s (St_g [] trivial (λ_=>Pu_mvl)) ?_
 refine Al_s (St_g [12,13] ⟨⟨_,rfl⟩,⟨_,rfl⟩,trivial⟩ (λhg14=>Pu_int_shr (r:=((m / 2^s.toNat:Nat):Int)) rfl rfl rfl (q14 hg14) (T.shr_nat m s) (λ_=>T.vok64 q15))) ?_
 refine Al_s (St_gd [14] rfl rfl rfl rfl ⟨⟨_,rfl⟩,trivial⟩ (λhg15=>by exact Pu_and1 rfl rfl rfl (Nat.lt_trans q15 (by decide)) rfl)) ?_
 refine Al_s (St_g [15] ⟨⟨_,rfl⟩,trivial⟩ (λ_=>Pu_cp)) ?_
 refine Al_p Pu_a ?_
 refine Al_mr ?_
 refine Al_nil ?_
 exact Aw_ret (Sub.bool (T.bit_eq m s))
theorem T.shape_owner {c:SRow}(h:T.ok c=true) {key:ByteArray}(hf:¬findR c.ranges key<0):∃k:Nat,findR c.ranges key=(k:Int)∧∃hk:k<c.owners.length,1≤c.owners[k]∧c.owners[k]<64∧(T.owners c key:Int)=c.owners[k]:=by
 obtain⟨hs,ho⟩:=T.ok_facts h
 obtain⟨n1,n6,n8,no,_⟩:=S.shape_facts hs
 have hi:findR c.ranges key<c.ranges.length:=by
  rcases idxF_le (λr=>K.hasB r.f r.t key) c.ranges with h1|⟨_,h1⟩
  ·exact h1.2
  ·exact absurd (show findR c.ranges key<0 by show idxF _ _<0;omega) hf
 refine⟨(findR c.ranges key).toNat,by omega,by omega,?_⟩
 have hk:(findR c.ranges key).toNat<c.owners.length:=by omega
 have h1:=ho _ (List.getElem_mem hk)
 have h2:=T.pow_le n6
 have h3:((2^c.parents.length:Nat):Int)=(2:Int)^c.parents.length:=by rw[Int.natCast_pow];rfl
 refine⟨h1.1,by omega,?_⟩
 unfold T.owners
 rw[if_pos h,if_neg hf,List.getD_eq_getElem?_getD,List.getElem?_eq_getElem hk]
 simp only[Option.getD_some]
 omega
theorem T.owners_lt (c:SRow) (key:ByteArray):T.owners c key<64:=by
 by_cases h:T.ok c=true
 ·by_cases hf:findR c.ranges key<0
  ·unfold T.owners;rw[if_pos h,if_pos hf];omega
  ·obtain⟨k,h1,h2,h3,h4,h5⟩:=T.shape_owner h hf
   omega
 ·unfold T.owners;rw[if_neg h];omega
set_option maxRecDepth 100000 in
theorem owners_a (c:SRow) (key:ByteArray):ACall Tryz.prog 216 [.row c.row,tv key] (iv (T.owners c key)):=by
 refine AC_1 Tryz.func216 Tryz.ntmps216 Tryz.results216 λhok M0 w0 hnl=>?_
 refine Aw_sr ?_
 refine Al_p Pu_bN ?_
 refine Al_mr ?_
 refine Al_nil (Aw_seq (Aw_sr ?_))
 refine Al_p (Pu_lN Tryz.isAgg30 Tryz.sizeOf30) ?_
 refine Al_p (Pu_call (tcheck_a c) rfl ⟨Sub.rfl,trivial⟩) ?_
 refine Al_p Pu_n ?_
 refine Al_nil ?_
 refine Aw_cond rfl (λh8=>?_) (λh8=>?_)
 ·skip
  have hno:T.owners c key=0:=by
   unfold T.owners;rw[if_neg];simpa using h8
  refine Aw_sr ?_
  refine Al_mr ?_
  refine Al_nil ?_
  exact Aw_ret (Sub.num (by rw[hno];rfl))
 ·skip
  have hok2:T.ok c=true:=by simpa using h8
  have hl:=(S.shape_facts (T.ok_facts hok2).1).2.2.1
  refine Aw_skip (Aw_sr ?_)
  refine Al_p (Pu_fd 0 Tryz.underlying30 Tryz.sizeOf28) ?_
  refine Al_p (Pu_l1 Tryz.isAgg28) ?_
  refine Al_ml ?_
  refine Al_p (Pu_call (find_a c.ranges key (by omega)) rfl ⟨Sub.rfl,Sub.rfl,trivial⟩) ?_
  refine Al_mr ?_
  refine Al_nil (Aw_seq (Aw_sr ?_))
  refine Al_ml ?_
  refine Al_p Pu_cp ?_
  refine Al_nil ?_
  refine Aw_cond rfl (λh14=>?_) (λh14=>?_)
  ·(try simp only[A.cd_]at h14)
   have hno:T.owners c key=0:=by
    unfold T.owners;rw[if_pos hok2,if_pos h14]
   refine Aw_sr ?_
   refine Al_mr ?_
   refine Al_nil ?_
   exact Aw_ret (Sub.num (by rw[hno];rfl))
  ·(try simp only[A.cd_]at h14)
   obtain⟨k,e1,hk,e2,e3,e4⟩:=T.shape_owner hok2 h14
   refine Aw_skip (Aw_sr ?_)
   refine Al_p (Pu_fd 1 Tryz.underlying30 Tryz.sizeOf22) ?_
   refine Al_p (Pu_l1 Tryz.isAgg22) ?_
   refine Al_ml ?_
   refine Al_p (Pu_index rfl Tryz.underlying22 Tryz.sizeOf3 rfl rfl (e1) (mapget hk)) ?_
   refine Al_p (Pu_l1 Tryz.isAgg3) ?_
   refine Al_mr ?_
   refine Al_nil ?_
   exact Aw_ret (Sub.num e4.symm)
end Go.Proofs.YtdnijgdmohinlaaGreat
namespace Go.Proofs.YtdnijgdmohinlaaGreat
open Go.RowKit A R
open A.RowT
theorem T.pow_cast (n:Nat):((2^n:Nat):Int)=(2:Int)^n:=by rw[Int.natCast_pow];rfl
set_option maxRecDepth 100000 in
theorem two_a (n:Nat) (hn:n≤6):ACall Tryz.prog 100 [iv n] (iv ((2^n:Nat):Int)):=by
 refine AC_1 Tryz.func100 Tryz.ntmps100 Tryz.results100 λhok M0 w0 hnl=>?_
 refine Aw_sr ?_
 refine Al_mr ?_
 refine Al_ns ?_
 refine Al_mr ?_
 refine Al_nil (Aw_seq (Aw_sr ?_))
 refine Al_mr ?_
 refine Al_nil (Aw_block ?_)
 refine Aw_loopk (ι:=Nat) [0] [] (λk=>[(4,.d (iv k)),(3,.d (iv ((2^k:Nat):Int)))]) (λk=>[]) (λk=>k≤n) (λk=>n - k) (0) (Nat.zero_le _) ⟨Sub.rfl,Sub.rfl,trivial⟩ trivial ?_
 rintro k hk0
 refine Aw_seq (Aw_sr ?_)
 refine Al_ml ?_
 refine Al_ml ?_
 refine Al_p Pu_cp ?_
 refine Al_nil ?_
 refine Aw_cond rfl (λh7=>?_) (λh7=>?_)
 ·(try simp only[A.cd_]at h7)
  have hk6:=T.pow_le (n:=k+1) (by omega)
  have hk5:=T.pow_le (n:=k) (by omega)
  have hp:2^(k+1)=2^k*2:=Nat.pow_succ ..
  refine Aw_skip (Aw_seq (Aw_block (Aw_region ?_)))
  refine Al_ml ?_
  refine Al_p (Pu_int_mul (r:=((2^(k+1):Nat):Int)) rfl rfl rfl (by rw[show((2^k:Nat):Int)*2=((2^(k+1):Nat):Int)from by rw[hp];omega];exact IntWalk.i64_in _ (by omega)) (λ_=>by show A.inI _;simp only[A.inI];omega)) ?_
  refine Al_mr ?_
  refine Al_nil (Aw_region ?_)
  refine Al_ml ?_
  refine Al_p Pu_ad ?_
  refine Al_mr ?_
  refine Al_nil ?_
  exact⟨k+1,by omega,by omega,Le.ov ⟨Sub.num (by omega),Sub.rfl,trivial⟩ ⟨Sub.rfl,trivial⟩ trivial trivial⟩
 ·(try simp only[A.cd_]at h7)
  obtain rfl:k=n:=by omega
  refine Aw_exit (Aw_sr ?_)
  refine Al_ml ?_
  refine Al_mr ?_
  refine Al_nil ?_
  exact Aw_ret (Sub.rfl)
set_option maxRecDepth 100000 in
theorem rbit_a (m s:Nat) (hm:m<64) (hs:s<6):ACall Tryz.prog 44 [iv m,iv s] (bv (decide (m / 2^s%2=1))):=by
 refine AC_1 Tryz.func44 Tryz.ntmps44 Tryz.results44 λhok M0 w0 hnl=>?_
 have h2:(2:Nat)^s≠0:=Nat.pos_iff_ne_zero.1 (Nat.pow_pos (by omega))
 have h3:=Nat.div_le_self m (2^s)
 refine Aw_sr ?_
 refine Al_mr ?_
 refine Al_ns ?_
 refine Al_ml ?_
 refine Al_ml ?_
 refine Al_p (Pu_call (two_a s (by omega)) rfl ⟨Sub.rfl,trivial⟩) ?_
 refine Al_p (Pu_int_quo (r:=((m / 2^s:Nat):Int)) rfl rfl rfl (by omega) (quo_nat (by omega)).1 (λ_=>(quo_nat (by omega)).2)) ?_
 refine Al_p (Pu_rem (c:=((m / 2^s%2:Nat):Int)) rfl rfl rfl (by decide) (by rw[Int.tmod_eq_emod_of_nonneg (Int.natCast_nonneg _)];rfl)) ?_
 refine Al_p Pu_cp ?_
 refine Al_mr ?_
 refine Al_nil ?_
 exact Aw_ret (Sub.bool (decide_eq_decide.2 (by omega)))
set_option maxRecDepth 100000 in
theorem rtcheck_a (c:SRow):ACall Tryz.prog 101 [.row c.row] (bv (T.ok c)):=by
 refine AC_1 Tryz.func101 Tryz.ntmps101 Tryz.results101 λhok M0 w0 hnl=>?_
 refine Aw_sr ?_
 refine Al_p Pu_bN ?_
 refine Al_mr ?_
 refine Al_ns ?_
 refine Al_p (Pu_fd 2 Tryz.underlying30 Tryz.sizeOf22) ?_
 refine Al_p (Pu_l1 Tryz.isAgg22) ?_
 refine Al_p (Pu_ln Tryz.underlying22) ?_
 refine Al_mr ?_
 refine Al_ns ?_
 refine Al_p (Pu_fd 0 Tryz.underlying30 Tryz.sizeOf28) ?_
 refine Al_p (Pu_l1 Tryz.isAgg28) ?_
 refine Al_p (Pu_call (rwhole_a c.ranges) rfl ⟨Sub.rfl,trivial⟩) ?_
 refine Al_mr ?_
 refine Al_nil (Aw_seq (Aw_sr ?_))
 refine Al_ml ?_
 refine Al_p Pu_n ?_
 refine Al_ml ?_
 refine Al_s (St_g [] trivial (λ_=>Pu_fd 0 Tryz.underlying30 Tryz.sizeOf28)) ?_
 refine Al_s (St_g [15] ⟨⟨_,rfl⟩,trivial⟩ (λ_=>Pu_l1 Tryz.isAgg28)) ?_
 refine Al_s (St_g [16] ⟨⟨_,rfl⟩,trivial⟩ (λ_=>Pu_ln Tryz.underlying28)) ?_
 refine Al_s (St_g [17] ⟨⟨_,rfl⟩,trivial⟩ (λ_=>Pu_cp)) ?_
 refine Al_p Pu_o ?_
 refine Al_ml ?_
 refine Al_s (St_g [] trivial (λ_=>Pu_fd 1 Tryz.underlying30 Tryz.sizeOf22)) ?_
 refine Al_s (St_g [21] ⟨⟨_,rfl⟩,trivial⟩ (λ_=>Pu_l1 Tryz.isAgg22)) ?_
 refine Al_s (St_g [22] ⟨⟨_,rfl⟩,trivial⟩ (λ_=>Pu_ln Tryz.underlying22)) ?_
 refine Al_s (St_g [] trivial (λ_=>Pu_fd 0 Tryz.underlying30 Tryz.sizeOf28)) ?_
 refine Al_s (St_g [24] ⟨⟨_,rfl⟩,trivial⟩ (λ_=>Pu_l1 Tryz.isAgg28)) ?_
 refine Al_s (St_g [25] ⟨⟨_,rfl⟩,trivial⟩ (λ_=>Pu_ln Tryz.underlying28)) ?_
 refine Al_s (St_g [23,26] ⟨⟨_,rfl⟩,⟨_,rfl⟩,trivial⟩ (λ_=>Pu_cp)) ?_
 refine Al_p Pu_o ?_
 refine Al_ml ?_
 refine Al_s (St_g [] trivial (λ_=>Pu_mvl)) ?_
 refine Al_s (St_g [30] ⟨⟨_,rfl⟩,trivial⟩ (λ_=>Pu_cp)) ?_
 refine Al_p Pu_o ?_
 refine Al_ml ?_
 refine Al_s (St_g [] trivial (λ_=>Pu_mvl)) ?_
 refine Al_s (St_g [34] ⟨⟨_,rfl⟩,trivial⟩ (λ_=>Pu_cp)) ?_
 refine Al_p Pu_o ?_
 refine Al_nil ?_
 refine Aw_cond rfl (λh36=>?_) (λh36=>?_)
 ·skip
  have hs:S.shape c=false:=by
   have h:=S.shape_z2 c
   rw[h36]at h
   simpa using h.symm
  refine Aw_sr ?_
  refine Al_mr ?_
  refine Al_nil ?_
  exact Aw_ret (Sub.bool (by unfold T.ok;rw[hs];rfl))
 ·skip
  have hs:S.shape c=true:=by
   have h:=S.shape_z2 c
   rw[h36]at h
   simpa using h.symm
  obtain⟨n1,n6,n8,no,_⟩:=S.shape_facts hs
  refine Aw_skip (Aw_seq (Aw_sr ?_))
  refine Al_mr ?_
  refine Al_nil (Aw_block ?_)
  refine Aw_loopk (ι:=Nat) [1,3] [] (λk=>[(5,.d (iv k))]) (λk=>[]) (λk=>k≤c.owners.length∧(c.owners.take k).any (S.badO c.parents.length)=false) (λk=>c.owners.length - k) (0) (⟨Nat.zero_le _,by simp⟩) ⟨Sub.rfl,trivial⟩ trivial ?_
  rintro k ⟨hk0,hno⟩
  refine Aw_seq (Aw_sr ?_)
  refine Al_ml ?_
  refine Al_p (Pu_fd 1 Tryz.underlying30 Tryz.sizeOf22) ?_
  refine Al_p (Pu_l1 Tryz.isAgg22) ?_
  refine Al_p (Pu_ln Tryz.underlying22) ?_
  refine Al_p Pu_cp ?_
  refine Al_nil ?_
  refine Aw_cond rfl (λh41=>?_) (λh41=>?_)
  ·(try simp only[A.cd_]at h41)
   have hk:k<c.owners.length:=by omega
   refine Aw_skip (Aw_seq (Aw_block (Aw_seq ?_)))
   refine Aw_dr 16 ?_
   refine Dr_p (Pu_fd 1 Tryz.underlying30 Tryz.sizeOf22) ?_
   refine Dr_p (Pu_l1 Tryz.isAgg22) ?_
   refine Dr_ml ?_
   refine Dr_p (Pu_index rfl Tryz.underlying22 Tryz.sizeOf3 rfl rfl (rfl) (mapget hk)) ?_
   refine Dr_p (Pu_l1 Tryz.isAgg3) ?_
   refine Dr_p Pu_cp ?_
   refine Dr_ml ?_
   refine Dr_s (St_g [] trivial (λ_=>Pu_fd 1 Tryz.underlying30 Tryz.sizeOf22)) ?_
   refine Dr_s (St_g [51] ⟨⟨_,rfl⟩,trivial⟩ (λ_=>Pu_l1 Tryz.isAgg22)) ?_
   refine Dr_s (St_g [] trivial (λ_=>Pu_mvl)) ?_
   refine Dr_s (St_g [52,53] ⟨⟨_,rfl⟩,⟨_,rfl⟩,trivial⟩ (λ_=>Pu_index rfl Tryz.underlying22 Tryz.sizeOf3 rfl rfl (rfl) (mapget hk))) ?_
   refine Dr_s (St_g [54] ⟨⟨_,rfl⟩,trivial⟩ (λ_=>Pu_l1 Tryz.isAgg3)) ?_
   refine Dr_s (St_g [] trivial (λ_=>Pu_mvl)) ?_
   refine Dr_s (St_g [56] ⟨⟨_,rfl⟩,trivial⟩ (λ_=>Pu_call (two_a c.parents.length n6) rfl ⟨Sub.rfl,trivial⟩)) ?_
   refine Dr_s (St_g [55,57] ⟨⟨_,rfl⟩,⟨_,rfl⟩,trivial⟩ (λ_=>Pu_cp)) ?_
   refine Dr_p Pu_o ?_
   refine Dr_nil (Al_nil ?_)
   refine Aw_cond rfl (λh59=>?_) (λh59=>?_)
   ·skip
    have hb:S.badO c.parents.length (c.owners[k]'hk)=true:=by rw[←h59];unfold S.badO;rw[T.pow_cast]
    refine Aw_sr ?_
    refine Al_mr ?_
    refine Al_nil ?_
    exact Aw_ret (Sub.bool (by unfold T.ok;rw[S.any_at hk hb];simp))
   ·skip
    have hb:S.badO c.parents.length (c.owners[k]'hk)=false:=by rw[←h59];unfold S.badO;rw[T.pow_cast]
    refine Aw_skip (Aw_region ?_)
    refine Al_ml ?_
    refine Al_p Pu_ad ?_
    refine Al_mr ?_
    refine Al_nil ?_
    exact⟨k+1,⟨by omega,S.any_snoc hk hno hb⟩,by omega,Le.ov ⟨Sub.num (by omega),trivial⟩ ⟨Sub.rfl,Sub.rfl,trivial⟩ trivial trivial⟩
  ·(try simp only[A.cd_]at h41)
   obtain rfl:k=c.owners.length:=by omega
   rw[List.take_length]at hno
   refine Aw_exit (Aw_sr ?_)
   refine Al_mr ?_
   refine Al_nil ?_
   exact Aw_ret (Sub.bool (by unfold T.ok;rw[hs,hno];rfl))
set_option maxRecDepth 100000 in
theorem rowners_a (c:SRow) (key:ByteArray):ACall Tryz.prog 45 [.row c.row,tv key] (iv (T.owners c key)):=by
 refine AC_1 Tryz.func45 Tryz.ntmps45 Tryz.results45 λhok M0 w0 hnl=>?_
 refine Aw_sr ?_
 refine Al_p Pu_bN ?_
 refine Al_mr ?_
 refine Al_ns ?_
 refine Al_p (Pu_lN Tryz.isAgg30 Tryz.sizeOf30) ?_
 refine Al_p (Pu_call (rtcheck_a c) rfl ⟨Sub.rfl,trivial⟩) ?_
 refine Al_mr ?_
 refine Al_nil (Aw_seq (Aw_sr ?_))
 refine Al_ml ?_
 refine Al_p Pu_n ?_
 refine Al_nil ?_
 refine Aw_cond rfl (λh10=>?_) (λh10=>?_)
 ·skip
  have hno:T.owners c key=0:=by
   unfold T.owners;rw[if_neg];simpa using h10
  refine Aw_sr ?_
  refine Al_mr ?_
  refine Al_nil ?_
  exact Aw_ret (Sub.num (by rw[hno];rfl))
 ·skip
  have hok2:T.ok c=true:=by simpa using h10
  have hl:=(S.shape_facts (T.ok_facts hok2).1).2.2.1
  refine Aw_skip (Aw_sr ?_)
  refine Al_p (Pu_fd 0 Tryz.underlying30 Tryz.sizeOf28) ?_
  refine Al_p (Pu_l1 Tryz.isAgg28) ?_
  refine Al_ml ?_
  refine Al_p (Pu_call (rfind_a c.ranges key (by omega)) rfl ⟨Sub.rfl,Sub.rfl,trivial⟩) ?_
  refine Al_mr ?_
  refine Al_nil (Aw_seq (Aw_sr ?_))
  refine Al_ml ?_
  refine Al_p Pu_cp ?_
  refine Al_nil ?_
  refine Aw_cond rfl (λh16=>?_) (λh16=>?_)
  ·(try simp only[A.cd_]at h16)
   have hno:T.owners c key=0:=by
    unfold T.owners;rw[if_pos hok2,if_pos h16]
   refine Aw_sr ?_
   refine Al_mr ?_
   refine Al_nil ?_
   exact Aw_ret (Sub.num (by rw[hno];rfl))
  ·(try simp only[A.cd_]at h16)
   obtain⟨k,e1,hk,e2,e3,e4⟩:=T.shape_owner hok2 h16
   refine Aw_skip (Aw_sr ?_)
   refine Al_p (Pu_fd 1 Tryz.underlying30 Tryz.sizeOf22) ?_
   refine Al_p (Pu_l1 Tryz.isAgg22) ?_
   refine Al_ml ?_
   refine Al_p (Pu_index rfl Tryz.underlying22 Tryz.sizeOf3 rfl rfl (e1) (mapget hk)) ?_
   refine Al_p (Pu_l1 Tryz.isAgg3) ?_
   refine Al_mr ?_
   refine Al_nil ?_
   exact Aw_ret (Sub.num e4.symm)
set_option maxRecDepth 100000 in
theorem rowns_a (c:SRow) (s:Int) (key:ByteArray):ACall Tryz.prog 16 [.row c.row,iv s,tv key] (bv (T.bit (T.owners c key) s)):=by
 refine AC_1 Tryz.func16 Tryz.ntmps16 Tryz.results16 λhok M0 w0 hnl=>?_
 have q18:(decide (0≤s)&&decide (s<6))=true→(s.toNat:Int)=s∧s.toNat<6:=λh=>by
  simp only[Bool.and_eq_true,decide_eq_true_eq]at h
  omega
 refine Aw_sr ?_
 refine Al_p Pu_bN ?_
 refine Al_mr ?_
 refine Al_ns ?_
 refine Al_ml ?_
 refine Al_p Pu_cp ?_
 refine Al_ml ?_
 refine Al_s (St_g [] trivial (λ_=>Pu_mvl)) ?_
 refine Al_s (St_g [10] ⟨⟨_,rfl⟩,trivial⟩ (λ_=>Pu_cp)) ?_
 refine Al_p Pu_a ?_
 refine Al_ml ?_
 refine Al_s (St_g [] trivial (λ_=>Pu_lN Tryz.isAgg30 Tryz.sizeOf30)) ?_
 refine Al_s (St_g [] trivial (λ_=>Pu_mvl)) ?_
 refine Al_s (St_g [14,15] ⟨⟨_,rfl⟩,⟨_,rfl⟩,trivial⟩ (λ_=>Pu_call (rowners_a c key) rfl ⟨Sub.rfl,Sub.rfl,trivial⟩)) ?_
 refine Al_s (St_g [] trivial (λ_=>Pu_mvl)) ?_
 refine Al_s (St_g [16,17] ⟨⟨_,rfl⟩,⟨_,rfl⟩,trivial⟩ (λhg18=>Pu_call (rbit_a (T.owners c key) s.toNat (T.owners_lt c key) (q18 hg18).2) rfl ⟨Sub.rfl,Sub.num (q18 hg18).1.symm,trivial⟩)) ?_
 refine Al_p Pu_a ?_
 refine Al_mr ?_
 refine Al_nil ?_
 exact Aw_ret (Sub.rfl)
end Go.Proofs.YtdnijgdmohinlaaGreat
namespace Go.Proofs.YtdnijgdmohinlaaGreat
open Go.RowKit A R
namespace T
structure Ahead (p:List Int):Prop where
 pos:1≤p.length
 le:p.length≤6
 root:p.getD 0 0= -1
 up:∀i,1≤i→i<p.length→0≤p.getD i 0∧p.getD i 0<(i:Int)
abbrev DS:=List Bool×List Nat
def dstep (p:List Int) (a:Nat) (go:Nat→DS→DS) (so:DS) (i:Nat):DS:=if p.getD i 0=(a:Int)∧so.1.getD i true=false then go i so else so
def dfs (p:List Int):Nat→Nat→DS→DS
 | 0,_,so=>so
 | f+1,a,so=>(List.range p.length).foldl (dstep p a (dfs p f)) (so.1.set a true,so.2++[a])
def dfsAt (p:List Int) (f a:Nat) (so:DS) (k:Nat):DS:=(List.range k).foldl (dstep p a (dfs p f)) (so.1.set a true,so.2++[a])
theorem dfsAt_zero (p:List Int) (f a:Nat) (so:DS):dfsAt p f a so 0=(so.1.set a true,so.2++[a]):=rfl
theorem dfsAt_succ (p:List Int) (f a:Nat) (so:DS) (k:Nat):dfsAt p f a so (k+1)=dstep p a (dfs p f) (dfsAt p f a so k) k:=by
 unfold dfsAt
 rw[List.range_succ,List.foldl_append];rfl
theorem dfsAt_all (p:List Int) (f a:Nat) (so:DS):dfsAt p f a so p.length=dfs p (f+1) a so:=rfl
theorem dfs_len (p:List Int) (hp:p.length≤6):∀(f a:Nat) (so:DS),(dfs p f a so).1.length=so.1.length∧(dfs p f a so).2.length≤so.2.length+7^f
 | 0,a,so=>⟨rfl,by simp[dfs]⟩
 | f+1,a,so=>by
  have key:∀k,(dfsAt p f a so k).1.length=so.1.length∧(dfsAt p f a so k).2.length≤so.2.length+1+k*7^f:=by
   intro k
   induction k with
   | zero=>rw[dfsAt_zero];simp
   | succ k ih =>
    rw[dfsAt_succ]
    unfold dstep
    have e:(k+1)*7^f=k*7^f+7^f:=by rw[Nat.add_mul,Nat.one_mul]
    rw[e]
    split
    ·obtain⟨h1,h2⟩:=dfs_len p hp f k (dfsAt p f a so k)
     generalize 7^f=q at *
     generalize k*q=r at *
     exact⟨by omega,by omega⟩
    ·generalize 7^f=q at *
     generalize k*q=r at *
     exact⟨ih.1,by omega⟩
  have h:=key p.length
  rw[dfsAt_all]at h
  refine⟨h.1,?_⟩
  have h7:0<7^f:=Nat.pow_pos (by omega)
  have h8:p.length*7^f≤6*7^f:=Nat.mul_le_mul_right _ hp
  have h9:7^(f+1)=7*7^f:=by rw[Nat.pow_succ,Nat.mul_comm]
  omega
theorem dfsAt_len (p:List Int) (hp:p.length≤6) (f a:Nat) (so:DS):∀k,(dfsAt p f a so k).1.length=so.1.length∧(dfsAt p f a so k).2.length≤so.2.length+1+k*7^f:=by
 intro k
 induction k with
 | zero=>rw[dfsAt_zero];simp
 | succ k ih =>
  rw[dfsAt_succ]
  unfold dstep
  have e:(k+1)*7^f=k*7^f+7^f:=by rw[Nat.add_mul,Nat.one_mul]
  rw[e]
  split
  ·obtain⟨h1,h2⟩:=dfs_len p hp f k (dfsAt p f a so k)
   generalize 7^f=q at *
   generalize k*q=r at *
   exact⟨by omega,by omega⟩
  ·generalize 7^f=q at *
   generalize k*q=r at *
   exact⟨ih.1,by omega⟩
def seenR (s:List Bool):List (List AV):=s.map λb=>[bv b]
def outR (l:List Nat):List (List AV):=l.map λx=>[iv (x:Nat)]
def inF (p:List Int):SV:=.fnb 215 [] [.bx 1005 0 0,.bx 1006 0 0,.d (.fp [.sl 1 (p.map λx=>[iv x])]),.bx 1007 0 0]
def inObs2 (p:List Int) (so:DS):Obs:=[(1005,.box 291 [.ow 1015 0]),(1015,.arr 4 1 (seenR so.1)),(1006,.box 22 [.ow 1026 0]),(1026,.arr 3 1 (outR so.2)),(1007,.box 292 [inF p])]
def inObs (p:List Int) (so:DS):Obs:=[(1005,.box 291 [.ow 1015 0]),(1015,.arr 4 1 (seenR so.1)),(1006,.box 22 [.ow 1016 0]),(1016,.arr 3 1 (outR so.2)),(1007,.box 292 [inF p])]
theorem seenR_un (s:List Bool):∀q∈seenR s,q.length=1:=λq hq=>by
 obtain⟨b,_,rfl⟩:=List.mem_map.1 hq;rfl
theorem seenR_fl (s:List Bool):(seenR s).flatten=s.map bv:=by
 unfold seenR
 induction s with
 | nil=>rfl
 | cons b r ih=>simp[ih]
theorem seenR_set {s:List Bool}{a:Nat}(h:a<s.length):(seenR (s.set a true)).flatten=(seenR s).flatten.take (a*1)++cellsA (bv true)++(seenR s).flatten.drop (a*1+1):=by
 rw[seenR_fl,seenR_fl,List.map_set,Nat.mul_one,List.set_eq_take_append_cons_drop,if_pos (by simpa using h)]
 simp[cellsA]
end T
set_option maxRecDepth 100000 in
set_option maxHeartbeats 2000000 in
theorem in_step (p:List Int) (hp:T.Ahead p) (f a:Nat) (so:T.DS) (hgo:∀(a':Nat) (so':T.DS),a<a'→a'<p.length→so'.1.length=p.length→so'.2.length+7^f≤1000000→GCall Tryz.prog 215 [.d (iv a'),.bx 1005 0 0,.bx 1006 0 0,.d (.fp [.sl 1 (p.map λx=>[iv x])]),.bx 1007 0 0] (T.inObs p so') (some (T.inObs2 p (T.dfs p f a' so'),.d (.tup []))))
  (ha:a<p.length) (hs:so.1.length=p.length) (ho:so.2.length+7^(f+1)≤1000000):GCall Tryz.prog 215 [.d (iv a),.bx 1005 0 0,.bx 1006 0 0,.d (.fp [.sl 1 (p.map λx=>[iv x])]),.bx 1007 0 0] (T.inObs p so) (some (T.inObs2 p (T.dfs p (f+1) a so),.d (.tup []))):=by
 refine GC_1 Tryz.func215 Tryz.ntmps215 (ReadsS.r0 Tryz.results215) λhok hokB M0 w0=>?_
 have hp6:=hp.le
 have h70:0<7^f:=Nat.pow_pos (by omega)
 have h71:7^(f+1)=7*7^f:=by rw[Nat.pow_succ,Nat.mul_comm]
 refine Aw_sr ?_
 refine Al_p (Pu_lb Tryz.isAgg291) ?_
 refine Al_ml ?_
 refine Al_p (Pu_indexOw (j:=a) rfl Tryz.underlying291 Tryz.sizeOf4 rfl rfl rfl rfl (by unfold T.seenR;rw[List.length_map];omega)) ?_
 refine Al_storeArr (T.seenR (so.1.set a true)) rfl rfl rfl (by kernel_rfl) Tryz.sizeOf4 rfl rfl rfl rfl rfl (by unfold T.seenR;rw[List.length_map];omega) (by simp[T.seenR]) (T.seenR_un _) (T.seenR_set (by omega)) ?_
 refine Al_ns ?_
 refine Al_p (Pu_lb Tryz.isAgg22) ?_
 refine Al_ml ?_
 refine Al_p (Pu_slice1 rfl Tryz.underlying22 Tryz.sizeOf3 Tryz.zeroValue3 rfl (by decide) (by decide) (by kernel_rfl) rfl rfl rfl) ?_
 refine Al_append rfl rfl rfl (by decide) (by kernel_rfl) elem22 (by decide) Tryz.sizeOf3 rfl rfl rfl ((by simp[T.outR];omega)) (by decide) (λg14=>?_)
 refine Al_s1 Tryz.isAgg22 Tryz.sizeOf22 ?_
 refine Al_ns ?_
 refine Al_p (Pu_l1 Tryz.isAgg22) ?_
 refine Al_p (Pu_ln Tryz.underlying22) ?_
 refine Al_ml ?_
 refine Al_nil (Aw_block ?_)
 refine Aw_loopk (ι:=Nat×Nat) [0,1,4,15,16] [1007] (λ(k,g)=>[(17,.d (iv k))]) (λ(k,g)=>[(1005,0,.box 291 [.ow 1015 0]),(1015,0,.arr 4 1 (T.seenR (T.dfsAt p f a so k).1)),(1006,0,.box 22 [.ow 1016 g]),(1016,g,.arr 3 1 (T.outR (T.dfsAt p f a so k).2))]) (λ(k,g)=>k≤p.length) (λ(k,g)=>p.length - k) ((0,g14)) (Nat.zero_le _) ⟨Sub.rfl,trivial⟩ ⟨rfl,rfl,rfl,obeq (by simp[T.outR,T.dfsAt_zero,A.cellsA]),trivial⟩ ?_
 rintro⟨k,g⟩ hk0
 refine Aw_sr ?_
 refine Al_p Pu_cp ?_
 refine Al_nil (Aw_seq ?_)
 refine Aw_cond rfl (λh18=>?_) (λh18=>?_)
 ·(try simp only[A.cd_]at h18)
  have hk:k<p.length:=by omega
  obtain⟨d1,d2⟩:=T.dfsAt_len p hp6 f a so k
  have d3:k*7^f≤5*7^f:=Nat.mul_le_mul_right _ (by omega)
  have hks:k<(T.dfsAt p f a so k).1.length:=by omega
  have hkb:p.getD k 0=p[k]:=by simp[List.getD_eq_getElem?_getD,hk]
  have hkd:(T.dfsAt p f a so k).1.getD k true=(T.dfsAt p f a so k).1[k]:=by simp[List.getD_eq_getElem?_getD,hks]
  have hat:(T.seenR (T.dfsAt p f a so k).1).flatten[k*1]?=some (bv (T.dfsAt p f a so k).1[k]):=by rw[T.seenR_fl,Nat.mul_one];simp[hks]
  have hkl:k<(T.seenR (T.dfsAt p f a so k).1).length:=by unfold T.seenR;rw[List.length_map];omega
  refine Aw_skip ?_
  refine Aw_seq (Aw_block (Aw_sr ?_))
  refine Al_ml ?_
  refine Al_p (Pu_index rfl Tryz.underlying22 Tryz.sizeOf3 rfl rfl (rfl) (mapget hk)) ?_
  refine Al_p (Pu_l1 Tryz.isAgg3) ?_
  refine Al_mr ?_
  refine Al_mr ?_
  refine Al_ns ?_
  refine Al_ml ?_
  refine Al_ml ?_
  refine Al_p Pu_cp ?_
  refine Al_ml ?_
  refine Al_s (St_g [] trivial (λ_=>Pu_lb Tryz.isAgg291)) ?_
  refine Al_s (St_g [] trivial (λ_=>Pu_mvl)) ?_
  refine Al_s (St_g [26,27] ⟨⟨_,rfl⟩,⟨_,rfl⟩,trivial⟩ (λ_=>Pu_indexOw (j:=k) rfl Tryz.underlying291 Tryz.sizeOf4 rfl rfl rfl rfl hkl)) ?_
  refine Al_s (St_g [28] ⟨⟨_,rfl⟩,trivial⟩ (λ_=>Pu_loadArr rfl Tryz.isAgg4 rfl rfl hat)) ?_
  refine Al_s (St_g [29] ⟨⟨_,rfl⟩,trivial⟩ (λ_=>Pu_n)) ?_
  refine Al_p Pu_a ?_
  refine Al_nil ?_
  refine Aw_cond rfl (λh31=>?_) (λh31=>?_)
  ·skip
   have h31':p.getD k 0=(a:Int)∧(T.dfsAt p f a so k).1.getD k true=false:=by
    rw[hkb,hkd];simpa using h31
   have hak:a<k:=by
    rcases Nat.eq_zero_or_pos k with h0|h0
    ·have:=hp.root;rw[←h0,h31'.1]at this;omega
    ·have:=(hp.up k h0 hk).2;rw[h31'.1]at this;omega
   have hnx:T.dfsAt p f a so (k+1)=T.dfs p f k (T.dfsAt p f a so k):=by rw[T.dfsAt_succ,T.dstep,if_pos h31']
   have hcall:=hgo k (T.dfsAt p f a so k) hak hk (by omega) (by omega)
   refine Aw_region ?_
   refine Al_p (Pu_lb Tryz.isAgg292) ?_
   refine Al_ml ?_
   refine Al_gcallv [(1005,1005,0),(1015,1015,0),(1006,1006,0),(1016,1016,g),(1007,1007,0)] [(1026,1016)] hcall rfl rfl rfl (by decide) (by kernel_rfl) rfl ⟨rfl,rfl,rfl,rfl,rfl,trivial⟩ rfl [.d (iv k)] rfl ⟨Sub.rfl,trivial⟩ (λg34=>?_)
   refine Al_nil (Aw_region ?_)
   refine Al_p Pu_ad ?_
   refine Al_ml ?_
   refine Al_nil ?_
   exact⟨(k+1,g34),by omega,by simp only[];omega,Le.ov ⟨Sub.num (by omega),trivial⟩ ⟨Sub.rfl,Sub.rfl,Sub.rfl,Sub.rfl,Sub.rfl,trivial⟩ ⟨rfl,obeq (by rw[hnx]),rfl,obeq (by rw[hnx]),trivial⟩ ⟨rfl,trivial⟩⟩
  ·skip
   have hnx:T.dfsAt p f a so (k+1)=T.dfsAt p f a so k:=by
    rw[T.dfsAt_succ,T.dstep,if_neg]
    rw[hkb,hkd];rintro⟨h1,h2⟩;rw[h2]at h31;simp[h1]at h31
   refine Aw_skip (Aw_region ?_)
   refine Al_p Pu_ad ?_
   refine Al_ml ?_
   refine Al_nil ?_
   exact⟨(k+1,g),by omega,by simp only[];omega,Le.ov ⟨Sub.num (by omega),trivial⟩ ⟨Sub.rfl,Sub.rfl,Sub.rfl,Sub.rfl,Sub.rfl,trivial⟩ ⟨rfl,obeq (by rw[hnx]),rfl,obeq (by rw[hnx]),trivial⟩ ⟨rfl,trivial⟩⟩
 ·(try simp only[A.cd_]at h18)
  have hkk:k=p.length:=by omega
  refine Aw_exit ?_
  exact⟨_,_,[(1026,1016,g)],rfl,rfl,⟨rfl,obeq (by rw[hkk,T.dfsAt_all]),rfl,obeq (by rw[hkk,T.dfsAt_all]),rfl,trivial⟩,rfl⟩
theorem in_g (p:List Int) (hp:T.Ahead p):∀(f a:Nat) (so:T.DS),a<p.length→p.length≤a+f→so.1.length=p.length→so.2.length+7^f≤1000000→GCall Tryz.prog 215 [.d (iv a),.bx 1005 0 0,.bx 1006 0 0,.d (.fp [.sl 1 (p.map λx=>[iv x])]),.bx 1007 0 0] (T.inObs p so) (some (T.inObs2 p (T.dfs p f a so),.d (.tup [])))
 | 0,a,so,ha,hf,_,_=>by omega
 | f+1,a,so,ha,hf,hs,ho=>in_step p hp f a so (λa' so' h1 h2 h3 h4=>in_g p hp f a' so' h2 (by omega) h3 h4) ha hs ho
set_option maxRecDepth 100000 in
set_option maxHeartbeats 2000000 in
theorem below_a (p:List Int) (hp:T.Ahead p):ACall Tryz.prog 143 [.sl 1 (p.map λx=>[iv x]),iv (0:Nat)] (.sl 1 (T.outR (T.dfs p p.length 0 (List.replicate p.length false,[])).2)):=by
 refine AC_1 Tryz.func143 Tryz.ntmps143 Tryz.results143 λhok M0 w0 hnl=>?_
 have hp6:=hp.le
 have hin:=in_g p hp p.length 0 (List.replicate p.length false,[]) hp.pos (by omega) (by simp) (by
  have:(7:Nat)^p.length≤7^6:=Nat.pow_le_pow_right (by omega) hp6
  simp only[List.length_nil];omega)
 have hrep:(List.replicate p.length [AV.v (.bool false)])=T.seenR (List.replicate p.length false):=by simp[T.seenR]
 refine Aw_sr ?_
 refine Al_p (Pu_box1 rfl rfl (by nofun) (by nofun)) ?_
 refine Al_mr ?_
 refine Al_ns ?_
 refine Al_p (Pu_l1 Tryz.isAgg22) ?_
 refine Al_p (Pu_ln Tryz.underlying22) ?_
 refine Al_make1 (n:=p.length) (bytes:=1) (z:=.bool false) rfl rfl rfl (by decide) (by kernel_rfl) Tryz.underlying291 (by kernel_rfl) rfl trivial rfl rfl (by omega) (by decide) (λg10=>?_)
 refine Al_al Tryz.zeroValue291 λg5=>?_
 refine Al_s1 Tryz.isAgg291 Tryz.sizeOf291 ?_
 refine Al_ns ?_
 refine Al_al Tryz.zeroValue22 λg6=>?_
 refine Al_ns ?_
 refine Al_al Tryz.zeroValue292 λg7=>?_
 refine Al_ns ?_
 refine Al_p (Pu_makeFuncS (ys:=[]) (xs:=[_,_,_,_]) [] [.bx 5 g5 0,.bx 6 g6 0,.d (.fp [.sl 1 (p.map λx=>[iv x])]),.bx 7 g7 0] rfl trivial ⟨Sub.rfl,Sub.rfl,Sub.rfl,Sub.rfl,trivial⟩) ?_
 refine Al_s1 Tryz.isAgg292 Tryz.sizeOf292 ?_
 refine Al_nil (Aw_seq ?_)
 refine Aw_owncell 0 (k:=6) (k2:=16) (e:=3) (n:=1) rfl rfl rfl (λg16=>?_)
 refine Aw_region ?_
 refine Al_p (Pu_lb Tryz.isAgg292) ?_
 refine Al_ml ?_
 refine Al_gcallv [(1005,5,g5),(1015,10,g10),(1006,6,g6),(1016,16,g16),(1007,7,g7)] [(1026,16)] hin rfl rfl rfl (by decide) (by kernel_rfl) rfl ⟨rfl,obeq hrep,rfl,rfl,rfl,trivial⟩ rfl [.d (iv (0:Nat))] rfl ⟨Sub.rfl,trivial⟩ (λg14=>?_)
 refine Al_ns ?_
 refine Al_p (Pu_lb Tryz.isAgg22) ?_
 refine Al_mr ?_
 refine Al_nil ?_
 refine Aw_frz hnl (k:=16) [4] rfl ⟨rfl,trivial⟩ ?_
 exact Aw_ret (Sub.rfl)
namespace T
def allA:Nat→List (List Int)
 | 0=>[[]]
 | 1=>[[-1]]
 | n+2=>(allA (n+1)).flatMap λp=>(List.range (n+1)).map λ(k:Nat)=>p++[(k:Int)]
theorem getD_app {p:List Int}{x:Int}{i:Nat}(h:i<p.length):(p++[x]).getD i 0=p.getD i 0:=by
 rw[List.getD_eq_getElem?_getD,List.getD_eq_getElem?_getD,List.getElem?_append_left h]
theorem ahead_mem:∀(n:Nat) (p:List Int),p.length=n→Ahead p→p∈allA n
 | 0,p,hn,h=>by have:=h.pos;omega
 | 1,p,hn,h=>by
  match p,hn with
  | [x],_ =>
   have:=h.root
   simp at this
   simp[allA,this]
 | n+2,p,hn,h=>by
  have hne:p≠[]:=λe=>by rw[e]at hn;simp at hn
  obtain⟨q,x,rfl⟩:∃q x,p=q++[x]:=⟨p.dropLast,p.getLast hne,(List.dropLast_concat_getLast hne).symm⟩
  have hql:q.length=n+1:=by simp at hn;omega
  have hl:=h.le
  rw[List.length_append,List.length_singleton]at hl
  have hq:Ahead q:=⟨by omega,by omega,by rw[←getD_app (x:=x) (by omega)];exact h.root,λi h1 h2=>by
   have:=h.up i h1 (by rw[List.length_append,List.length_singleton];omega)
   rwa [getD_app h2]at this⟩
  have hx:=h.up (n+1) (by omega) (by rw[List.length_append,List.length_singleton];omega)
  have hxe:(q++[x]).getD (n+1) 0=x:=by
   rw[List.getD_eq_getElem?_getD,List.getElem?_append_right (by omega)]
   simp[hql]
  rw[hxe]at hx
  rw[allA,List.mem_flatMap]
  refine⟨q,ahead_mem (n+1) q hql hq,List.mem_map.2 ⟨x.toNat,List.mem_range.2 (by omega),?_⟩⟩
  rw[show((x.toNat:Nat):Int)=x from by omega]
theorem all_dfs:∀n∈List.range 7,∀p∈allA n,(dfs p n 0 (List.replicate n false,[])).2.length=n:=by decide +kernel
theorem dfs_all {p:List Int}(h:Ahead p):(dfs p p.length 0 (List.replicate p.length false,[])).2.length=p.length :=
 all_dfs p.length (List.mem_range.2 (by have:=h.le;omega)) p (ahead_mem _ p rfl h)
theorem ahead_at {p:List Int}(h:Ahead p) {k:Nat}(hk:k<p.length):(p[k]= -1∧k=0)∨(0≤p[k]∧p[k]<k∧1≤k):=by
 have e:p.getD k 0=p[k]:=by simp[List.getD_eq_getElem?_getD,hk]
 rcases Nat.eq_zero_or_pos k with h0|h0
 ·left
  have:=h.root
  subst h0
  rw[e]at this
  exact⟨this,rfl⟩
 ·right
  have:=h.up k h0 hk
  rw[e]at this
  exact⟨this.1,this.2,h0⟩
end T
set_option maxRecDepth 100000 in
theorem index0_a (p:List Int) (hp:T.Ahead p):ACall Tryz.prog 144 [.sl 1 (p.map λx=>[iv x]),iv (-1)] (iv (0:Nat)):=by
 refine AC_1 Tryz.func144 Tryz.ntmps144 Tryz.results144 λhok M0 w0 hnl=>?_
 have hp1:=hp.pos
 have hp6:=hp.le
 refine Aw_sr ?_
 refine Al_mr ?_
 refine Al_nil (Aw_seq (Aw_sr ?_))
 refine Al_ml ?_
 refine Al_p (Pu_ln Tryz.underlying22) ?_
 refine Al_ml ?_
 refine Al_nil (Aw_block ?_)
 refine Aw_loopk (ι:=Nat) [0,1,7] [] (λk=>[(8,.d (iv k))]) (λk=>[]) (λk=>k≤p.length∧k=0) (λk=>p.length - k) (0) (⟨Nat.zero_le _,rfl⟩) ⟨Sub.rfl,trivial⟩ trivial ?_
 rintro k ⟨hk0,hz⟩
 refine Aw_sr ?_
 refine Al_p Pu_cp ?_
 refine Al_nil (Aw_seq ?_)
 refine Aw_cond rfl (λh9=>?_) (λh9=>?_)
 ·(try simp only[A.cd_]at h9)
  subst hz
  have hk:0<p.length:=by omega
  have hat:=T.ahead_at hp hk
  refine Aw_skip (Aw_seq (Aw_block (Aw_sr ?_)))
  refine Al_ml ?_
  refine Al_mr ?_
  refine Al_ns ?_
  refine Al_ml ?_
  refine Al_ml ?_
  refine Al_ml ?_
  refine Al_p (Pu_index rfl Tryz.underlying22 Tryz.sizeOf3 rfl rfl (rfl) (mapget hk)) ?_
  refine Al_p (Pu_l1 Tryz.isAgg3) ?_
  refine Al_p Pu_cp ?_
  refine Al_nil ?_
  refine Aw_cond rfl (λh16=>?_) (λh16=>?_)
  ·(try simp only[A.cd_]at h16)
   refine Aw_sr ?_
   refine Al_ml ?_
   refine Al_mr ?_
   refine Al_nil ?_
   exact Aw_ret (Sub.rfl)
  ·(try simp only[A.cd_]at h16)
   exfalso;omega
 ·(try simp only[A.cd_]at h9)
  exfalso;omega
set_option maxRecDepth 100000 in
theorem trcheck_a (p:List Int) (hp:T.Ahead p):ACall Tryz.prog 80 [.sl 1 (p.map λx=>[iv x])] (bv true):=by
 refine AC_1 Tryz.func80 Tryz.ntmps80 Tryz.results80 λhok M0 w0 hnl=>?_
 have hp1:=hp.pos
 have hp6:=hp.le
 refine Aw_sr ?_
 refine Al_mr ?_
 refine Al_nil (Aw_seq (Aw_sr ?_))
 refine Al_ml ?_
 refine Al_p (Pu_ln Tryz.underlying22) ?_
 refine Al_p Pu_cp ?_
 refine Al_ml ?_
 refine Al_s (St_g [] trivial (λ_=>Pu_mvl)) ?_
 refine Al_s (St_g [10] ⟨⟨_,rfl⟩,trivial⟩ (λ_=>Pu_ln Tryz.underlying22)) ?_
 refine Al_s (St_g [11] ⟨⟨_,rfl⟩,trivial⟩ (λ_=>Pu_cp)) ?_
 refine Al_p Pu_o ?_
 refine Al_nil ?_
 refine Aw_cond rfl (λh13=>?_) (λh13=>?_)
 ·skip
  exfalso
  simp only[Bool.or_eq_true,decide_eq_true_eq]at h13
  omega
 ·skip
  refine Aw_skip (Aw_sr ?_)
  refine Al_mr ?_
  refine Al_nil (Aw_seq (Aw_sr ?_))
  refine Al_ml ?_
  refine Al_p (Pu_ln Tryz.underlying22) ?_
  refine Al_ml ?_
  refine Al_nil (Aw_block ?_)
  refine Aw_loopk (ι:=Nat) [0,14,15] [] (λk=>[(16,.d (iv k)),(3,.d (iv (if k=0 then 0 else 1)))]) (λk=>[]) (λk=>k≤p.length) (λk=>p.length - k) (0) (Nat.zero_le _) ⟨Sub.rfl,Sub.rfl,trivial⟩ trivial ?_
  rintro k hk0
  refine Aw_sr ?_
  refine Al_p Pu_cp ?_
  refine Al_nil (Aw_seq ?_)
  refine Aw_cond rfl (λh17=>?_) (λh17=>?_)
  ·(try simp only[A.cd_]at h17)
   have hk:k<p.length:=by omega
   have hat:=T.ahead_at hp hk
   refine Aw_skip ?_
   refine Aw_seq (Aw_block (Aw_sr ?_))
   refine Al_p (Pu_index rfl Tryz.underlying22 Tryz.sizeOf3 rfl rfl (rfl) (mapget hk)) ?_
   refine Al_p (Pu_l1 Tryz.isAgg3) ?_
   refine Al_mr ?_
   refine Al_nil (Aw_seq (Aw_sr ?_))
   refine Al_ml ?_
   refine Al_p Pu_cp ?_
   refine Al_ml ?_
   refine Al_s (St_g [] trivial (λ_=>Pu_mvl)) ?_
   refine Al_s (St_g [] trivial (λ_=>Pu_mvl)) ?_
   refine Al_s (St_g [24] ⟨⟨_,rfl⟩,trivial⟩ (λ_=>Pu_ln Tryz.underlying22)) ?_
   refine Al_s (St_g [23,25] ⟨⟨_,rfl⟩,⟨_,rfl⟩,trivial⟩ (λ_=>Pu_cp)) ?_
   refine Al_p Pu_o ?_
   refine Al_nil ?_
   refine Aw_cond rfl (λh27=>?_) (λh27=>?_)
   ·skip
    exfalso
    simp only[Bool.or_eq_true,decide_eq_true_eq]at h27
    omega
   ·skip
    refine Aw_skip (Aw_sr ?_)
    refine Al_ml ?_
    refine Al_p Pu_cp ?_
    refine Al_nil ?_
    refine Aw_cond rfl (λh29=>?_) (λh29=>?_)
    ·(try simp only[A.cd_]at h29)
     refine Aw_region ?_
     refine Al_ml ?_
     refine Al_p Pu_ad ?_
     refine Al_mr ?_
     refine Al_nil (Aw_region ?_)
     refine Al_p Pu_ad ?_
     refine Al_ml ?_
     refine Al_nil ?_
     exact⟨k+1,by omega,by omega,Le.ov ⟨Sub.num (by omega),Sub.num (by rw[if_pos (by omega:k=0),if_neg (by omega)];rfl),trivial⟩ ⟨Sub.rfl,Sub.rfl,Sub.rfl,trivial⟩ trivial trivial⟩
    ·(try simp only[A.cd_]at h29)
     refine Aw_skip (Aw_region ?_)
     refine Al_p Pu_ad ?_
     refine Al_ml ?_
     refine Al_nil ?_
     exact⟨k+1,by omega,by omega,Le.ov ⟨Sub.num (by omega),Sub.num (by rw[if_neg (by omega:¬k=0),if_neg (by omega)]),trivial⟩ ⟨Sub.rfl,Sub.rfl,Sub.rfl,trivial⟩ trivial trivial⟩
  ·(try simp only[A.cd_]at h17)
   have hkk:¬k=0:=by omega
   rw[if_neg hkk]
   refine Aw_exit (Aw_sr ?_)
   refine Al_ml ?_
   refine Al_p Pu_cp ?_
   refine Al_ml ?_
   refine Al_s (St_g [] trivial (λ_=>Pu_mvl)) ?_
   refine Al_s (St_g [] trivial (λ_=>Pu_mvl)) ?_
   refine Al_s (St_g [37] ⟨⟨_,rfl⟩,trivial⟩ (λ_=>Pu_call (index0_a p hp) rfl ⟨Sub.rfl,Sub.rfl,trivial⟩)) ?_
   refine Al_s (St_g [36,38] ⟨⟨_,rfl⟩,⟨_,rfl⟩,trivial⟩ (λ_=>Pu_call (below_a p hp) rfl ⟨Sub.rfl,Sub.rfl,trivial⟩)) ?_
   refine Al_s (St_gd [39] rfl rfl rfl rfl ⟨⟨_,rfl⟩,trivial⟩ (λhg40=>by exact Pu_len rfl Tryz.underlying22 rfl (by unfold T.outR;exact List.length_map ..))) ?_
   refine Al_s (St_g [] trivial (λ_=>Pu_mvl)) ?_
   refine Al_s (St_g [41] ⟨⟨_,rfl⟩,trivial⟩ (λ_=>Pu_ln Tryz.underlying22)) ?_
   refine Al_s (St_g [40,42] ⟨⟨_,rfl⟩,⟨_,rfl⟩,trivial⟩ (λ_=>Pu_cp)) ?_
   refine Al_p Pu_a ?_
   refine Al_mr ?_
   refine Al_nil ?_
   exact Aw_ret (Sub.bool (by rw[T.dfs_all hp];simp))
end Go.Proofs.YtdnijgdmohinlaaGreat
end
section
namespace Go.Proofs.YtdnijgdmohinlaaGreat.A
open Go Go.RowKit
def ASub (a a':AV):Prop:=∀(M:Nat→Prop) (w:World) (x:Value),Rep M w a x→Rep M w a' x
theorem ASub.rfl {a:AV}:ASub a a:=λ_ _ _ h=>h
theorem ASub.eq {a b:AV}(h:a=b):ASub a b:=h▸ASub.rfl
theorem ASub.nil {n:Nat}:ASub (.v (.slice none 0 0)) (.sl n []):=λ_ _ _ h=>by cases h;exact .nil n _ _
theorem ASub.sub {a a':AV}(h:ASub a a'):Sub (.d a) (.d a'):=λM w _ x hx=>h M w x hx
def LSub:List AV→List AV→Prop
 | [],[]=>True
 | a::l,b::m=>ASub a b∧LSub l m
 | _,_=>False
theorem LSub.get:∀{l m:List AV},LSub l m→l.length=m.length∧∀(j:Nat) (b:AV),m[j]?=some b→∃a,l[j]?=some a∧ASub a b
 | [],[],_=>⟨rfl,λj b h=>by simp at h⟩
 | a::l,b::m,h=>by
  obtain⟨h1,h2⟩:=h.2.get
  refine⟨by simp[h1],λj c hc=>?_⟩
  cases j with
  | zero=>simp at hc;subst hc;exact⟨a,rfl,h.1⟩
  | succ j=>exact h2 j c (by simpa using hc)
 | [],_::_,h=>h.elim
 | _::_,[],h=>h.elim
def RSub:List (List AV)→List (List AV)→Prop
 | [],[]=>True
 | a::l,b::m=>LSub a b∧RSub l m
 | _,_=>False
theorem RSub.get:∀{l m:List (List AV)},RSub l m→l.length=m.length∧∀(j:Nat) (b:List AV),m[j]?=some b→∃a,l[j]?=some a∧LSub a b
 | [],[],_=>⟨rfl,λj b h=>by simp at h⟩
 | a::l,b::m,h=>by
  obtain⟨h1,h2⟩:=h.2.get
  refine⟨by simp[h1],λj c hc=>?_⟩
  cases j with
  | zero=>simp at hc;subst hc;exact⟨a,rfl,h.1⟩
  | succ j=>exact h2 j c (by simpa using hc)
 | [],_::_,h=>h.elim
 | _::_,[],h=>h.elim
theorem ASub.sl {n:Nat}{rows rows':List (List AV)}(h:RSub rows rows'):ASub (.sl n rows) (.sl n rows'):=λM w x hx=>by
 obtain⟨h1,h2⟩:=h.get
 cases hx with
 | nil n a c =>
  cases rows' with
  | nil=>exact .nil n a c
  | cons r l=>simp at h1
 | sl n rows b o cap f hl hcap hn hc hr =>
  rw[h1]
  refine .sl n rows' b o cap f (by omega) (by omega) (λi r hi=>?_) (λi r j a hi hj=>?_) (λi r j a hi hj=>?_)
  ·obtain⟨q,h3,h4⟩:=h2 i r hi
   rw[←h4.get.1];exact hn i q h3
  ·obtain⟨q,h3,h4⟩:=h2 i r hi
   obtain⟨c,h5,_⟩:=h4.get.2 j a hj
   exact hc i q j c h3 h5
  ·obtain⟨q,h3,h4⟩:=h2 i r hi
   obtain⟨c,h5,h6⟩:=h4.get.2 j a hj
   exact h6 _ _ _ (hr i q j c h3 h5)
theorem ASub.row {cs cs':List AV}(h:LSub cs cs'):ASub (.row cs) (.row cs'):=λM w x hx=>by
 obtain⟨h1,h2⟩:=h.get
 cases hx with
 | row cs vs hl hone hr =>
  refine .row cs' vs (by omega) hone (λj a x hj hx=>?_)
  obtain⟨c,h3,h4⟩:=h2 j a hj
  exact h4 _ _ _ (hr j c x h3 hx)
end Go.Proofs.YtdnijgdmohinlaaGreat.A
namespace Go.Proofs.YtdnijgdmohinlaaGreat.A
open Go Go.RowKit
def CCells (M:Nat→Prop) (w:World) (ρ:Rho) (cs:List CV) (vs:List Value):Prop:=vs.length=cs.length∧∀(j:Nat) (c:CV) (x:Value),cs[j]?=some c→vs[j]?=some x→CRep M w ρ c x∧x.oneCell'=true
theorem CCells.append {M:Nat→Prop}{w:World}{ρ:Rho}{aa bs:List CV}{vs us:List Value}(h:CCells M w ρ aa vs) (k:CCells M w ρ bs us):CCells M w ρ (aa++bs) (vs++us):=⟨by simp[h.1,k.1],λj a x h1 h2=>by
 by_cases hj:j<aa.length
 ·rw[List.getElem?_append_left hj]at h1
  rw[List.getElem?_append_left (by rw[h.1];exact hj)]at h2
  exact h.2 j a x h1 h2
 ·rw[List.getElem?_append_right (by omega)]at h1
  rw[List.getElem?_append_right (by rw[h.1];omega),h.1]at h2
  exact k.2 _ a x h1 h2⟩
theorem CCells.take {M:Nat→Prop}{w:World}{ρ:Rho}{aa:List CV}{vs:List Value}(h:CCells M w ρ aa vs) (n:Nat):CCells M w ρ (aa.take n) (vs.take n):=⟨by simp[h.1],λj a x h1 h2=>by
 rw[List.getElem?_take]at h1 h2
 split at h1
 ·rename_i hj;rw[if_pos hj]at h2;exact h.2 j a x h1 h2
 ·cases h1⟩
theorem CCells.drop {M:Nat→Prop}{w:World}{ρ:Rho}{aa:List CV}{vs:List Value}(h:CCells M w ρ aa vs) (n:Nat):CCells M w ρ (aa.drop n) (vs.drop n):=⟨by simp[h.1],λj a x h1 h2=>by
 rw[List.getElem?_drop]at h1 h2
 exact h.2 _ a x h1 h2⟩
theorem Cells.cc {M:Nat→Prop}{w:World}{ρ:Rho}{cs:List AV}{vs:List Value}(h:Cells M w cs vs):CCells M w ρ (cs.map .d) vs:=⟨by simp[h.1],λj c x h1 h2=>by
 rw[List.getElem?_map]at h1
 obtain⟨a,h3,rfl⟩:=Option.map_eq_some_iff.1 h1
 exact h.2 j a x h3 h2⟩
theorem CCells.reps {M:Nat→Prop}{w:World}{ρ:Rho}{cs:List CV}{vs:List Value}(h:CCells M w ρ cs vs):(∀v∈vs,v.oneCell'=true)∧CReps M w ρ cs vs:=⟨λv hv=>by
 obtain⟨j,hj,rfl⟩:=List.getElem_of_mem hv
 have hj2:j<cs.length:=by rw[←h.1];exact hj
 exact(h.2 j cs[j] _ (by simp[hj2]) (by simp[hj])).2,h.1,λj c x h1 h2=>(h.2 j c x h1 h2).1⟩
theorem CReps.cc {M:Nat→Prop}{w:World}{ρ:Rho}{cs:List CV}{vs:List Value}(h:CReps M w ρ cs vs) (h1:∀v∈vs,v.oneCell'=true):CCells M w ρ cs vs:=⟨h.1,λj c x h2 h3=>⟨h.2 j c x h2 h3,h1 x (List.mem_of_getElem? h3)⟩⟩
def cellsS:SV→Option (List CV)
 | .d (.tup _)=>none
 | .d a=>some ((cellsA a).map .d)
 | .bx k g o=>some [.bx k g o]
 | .ow k g=>some [.ow k g]
 | .ag l=>some l
 | .eq v=>some [.eq v]
 | _=>none
theorem SRep.cc {M:Nat→Prop}{w:World}{ρ:Rho}{s:SV}{x:Value}{cs:List CV}(h:SRep M w ρ s x) (hc:cellsS s=some cs):CCells M w ρ cs x.cells.toList:=by
 have one:∀(c:CV) (x:Value),CRep M w ρ c x→x.oneCell'=true→CCells M w ρ [c] x.cells.toList:=λc x h1 h2=>by
  rw[one_cells h2]
  exact⟨rfl,λj a y h3 h4=>by
   match j,h3,h4 with
   | 0,h3,h4=>simp at h3 h4;subst h3 h4;exact⟨h1,h2⟩
   | j+1,h3,_=>simp at h3⟩
 cases s with
 | d a =>
  have hd:cellB a=true∧(cellsA a).map CV.d=cs:=by
   cases a<;>simp[cellsS]at hc<;>first|exact⟨rfl,hc⟩|cases hc
  rw[←hd.2]
  exact(Rep.cells h hd.1).cc
 | bx k g o =>
  obtain rfl:=Option.some.inj hc
  obtain⟨_,b,_,_,h3⟩:=id h
  exact one (.bx k g o) x h (by rw[h3];rfl)
 | ow k g =>
  obtain rfl:=Option.some.inj hc
  exact one (.ow k g) x h h.2
 | eq v =>
  obtain rfl:=Option.some.inj hc
  exact one (.eq v) x h (by rw[h.1];exact h.2)
 | ag l =>
  obtain rfl:=Option.some.inj hc
  obtain⟨vs,rfl,h1,h2⟩:=h
  exact h2.cc h1
 | _=>cases hc
def fillC (place:Nat→Option (Nat×Nat)) (cells:List CV):List (Nat×List CV)→Option (List CV)
 | []=>some cells
 | (i,a)::rest=>match place i with
  | none=>none
  | some (off,size)=>if a.length≠size||off+a.length>cells.length then none else fillC place (cells.take off++a++cells.drop (off+a.length)) rest
section
variable {P:Program}{N:Nat}{M0:Nat→Prop}{w0:Base}{ops:Array Oper}{Q:Exit→ASt→Prop}{o:Oper}{l:List Oper}{st:ASt}
def PartsC (st:ASt):List (Nat×Operand)→List (Nat×List CV)→Prop
 | [],[]=>True
 | (i,x)::xs,(j,a)::aa=>i=j∧cellsS (st.ev x)=some a∧PartsC st xs aa
 | _,_=>False
theorem run_fillC {M:Nat→Prop}{w:World}{ρ:Rho}{a:Act}(place:Nat→Option (Nat×Nat)):∀(ps:List (Nat×Operand)) (aa:List (Nat×List CV)) (cs r:List CV) (vs:Array Value),PartsC st ps aa→(∀p∈ps,SRep M w ρ (st.ev p.2) (a.eval p.2))→CCells M w ρ cs vs.toList→fillC place cs aa=some r →
  ∃us:Array Value,Instr.fill place vs (ps.map λ(i,x)=>(i,a.eval x))=some us∧CCells M w ρ r us.toList
 | [],[],cs,r,vs,_,_,hc,hr=>by simp only[fillC,Option.some.injEq]at hr;subst hr;exact⟨vs,rfl,hc⟩
 | (i,x)::ps,(j,b)::aa,cs,r,vs,hp,hs,hc,hr=>by
  obtain⟨rfl,hx,hp⟩:=hp
  have h1:=hs (i,x) (by simp)
  have h2:=SRep.cc h1 hx
  simp only[fillC]at hr
  simp only[List.map_cons,Instr.fill]
  cases hpl:place i with
  | none=>rw[hpl]at hr;cases hr
  | some p =>
   obtain⟨off,size⟩:=p
   rw[hpl]at hr
   simp only at hr ⊢
   split at hr
   ·cases hr
   ·rename_i hn
    simp only[Bool.or_eq_true,decide_eq_true_eq,not_or,Nat.not_lt]at hn
    obtain⟨h3,h4⟩:=hn
    have hl1:(a.eval x).cells.size=b.length:=by rw[←h2.1];simp
    have hl2:vs.size=cs.length:=by rw[←hc.1];simp
    have h3':b.length=size:=by simpa using h3
    rw[if_neg (by simp only[Bool.or_eq_true,decide_eq_true_eq,not_or,Nat.not_lt];exact⟨by simp;omega,by omega⟩)]
    refine run_fillC place ps aa _ r _ hp (λp hp'=>hs p (by simp[hp'])) ?_ hr
    have h5:=fold_splice off (a.eval x).cells.toList 0 vs (by simp;omega)
    have e:(Array.foldl (λcs (p:Value×Nat)=>cs.setIfInBounds (off+p.2) p.1) vs (a.eval x).cells.zipIdx).toList=vs.toList.take off++(a.eval x).cells.toList++vs.toList.drop (off+b.length):=by
     rw[←Array.foldl_toList,Array.toList_zipIdx,h5]
     simp[hl1]
    have e':(Array.foldl (λcs (x:Value×Nat)=>match x with|(c,j)=>cs.setIfInBounds (off+j) c) vs (a.eval x).cells.zipIdx).toList=_:=e
    rw[e']
    exact((hc.take off).append h2).append (hc.drop _)
 | [],_::_,_,_,_,h,_,_,_=>h.elim
 | _::_,[],_,_,_,h,_,_,_=>h.elim
theorem Pu_buildAg {t:TypeId}{ps:Array (Nat×Operand)}{aa:List (Nat×List CV)}{fs:Array Field}{places:Array (Nat×Nat)}{zs:List Value}{r:List CV}(ho:o.op=.build t ps) (ht:P.underlying t=some (.struct fs)) (hz:∀w,(zeroValue t).run P w=.ok (.agg zs.toArray) w)
  (hp:∀w,(fs.mapM (λf=>do pure (f.offset,←sizeOf f.type)):Sem (Array (Nat×Nat))).run P w=.ok places w) (hv:zs.all (λz=>decide (vok z))=true) (ha:PartsC st ps.toList aa) (hr:fillC (places[·]?) (zs.map λz=>.d (.v z)) aa=some r):Pu P st o (.ag r):=Pu_q λB M ρ w a h2 _=>by
 have hz0:CCells M w ρ (zs.map λz=>.d (.v z)) zs:=by
  have:=(cells_v (M:=M) (w:=w) hv).cc (ρ:=ρ)
  rwa [List.map_map]at this
 obtain⟨us,h3,h4⟩:=run_fillC (M:=M) (w:=w) (ρ:=ρ) (a:=a) (places[·]?) ps.toList aa _ r zs.toArray ha (λp hp=>h2 p.2 (by
  simp only[opsOf,ho,Op.operands]
  exact List.mem_map.2 ⟨p,hp,rfl⟩)) hz0 hr
 refine⟨.agg us,?_,us.toList,by simp,h4.reps⟩
 have e:(ps.map λ(p:Nat×Operand)=>(p.1,a.eval p.2)).toList=ps.toList.map λ(i,x)=>(i,a.eval x):=by simp
 simp only[execOp,ho,Instr.build,Sem.run_bind,hz,Result.andThen_ok,run_underlying ht,hp,Value.cells]
 rw[e]
 simp only[h3,Sem.run_pure,Sem.run_bind,Result.andThen_ok]
theorem cv_one {M:Nat→Prop}{w:World}{ρ:Rho}{r:List CV}{vs:List Value}{j:Nat}{s:SV}{x:Value}(h:CReps M w ρ r vs) (h1:∀v∈vs,v.oneCell'=true) (hs:(r.map CV.sv)[j]?=some s) (hx:vs[j]?=some x):SRep M w ρ s x∧x.oneCell'=true:=by
 rw[List.getElem?_map]at hs
 obtain⟨c,h2,rfl⟩:=Option.map_eq_some_iff.1 hs
 exact⟨CV.rep.2 (h.2 j c x h2 hx),h1 x (List.mem_of_getElem? hx)⟩
theorem Al_boxAg {d:Nat}{T:TypeId}{x:Operand}{r:List CV}(ho:o.op=.box T x) (hg:o.guard=none) (hd:o.dst=some d) (hN:d<N) (hc:conB o=true) (hx:st.ev x=.ag r)
  (h:∀g,Al P N M0 w0 ops Q l ((st.put d g (.box T (r.map CV.sv))).set d (.bx d g 0))):Al P N M0 w0 ops Q (o::l) st:=by
 refine⟨?_⟩
 rintro a w ⟨ρ,hsim⟩
 have hm:=hsim.ev hc x (by simp[opsOf,ho,Op.operands])
 rw[hx]at hm
 obtain⟨vs,hy,h1,hr⟩:=hm
 have hE:Ev.Ext w (w.alloc (.cells vs.toArray T)):=(Below.refl _ _).alloc (Nat.le_refl _) _
 obtain⟨g',ρ',k1,k2⟩:=hsim.upd (w':=w.alloc (.cells vs.toArray T)) d ⟨rfl,rfl,rfl⟩ hE.size (λb hb _=>hE.block b hb) (x':=.pointer (some ⟨w.heap.size,0,none⟩)) (o':=.box T (r.map CV.sv)) (λb hb=>by simp[blk]at hb;exact .inl (by omega))
  (λM' ρ' hK hle=>⟨w.heap.size,vs.toArray,rfl,.inl hsim.ext.size,heap_alloc_new _ _,by simp[hr.1],λj s x h2 h3=>by
   have h3':vs[j]?=some x:=by simpa using h3
   exact cv_one ((hr.mono hK).rho hle) h1 h2 h3'⟩)
 refine wpList_plain hg λK hK=>wp_upon ?_
 have e:(execOp a.eval o).run P w=.ok (.value (.pointer (some ⟨w.heap.size,0,none⟩))) (w.alloc (.cells vs.toArray T)):=by
  simp[execOp,ho,hy,Instr.box,newVar,newRow,newObj,Value.cells,Sem.run,Sem.run_bind]
 rw[e]
 refine hK _ _ ((h g').out _ _ ⟨ρ',?_⟩)
 rw[hd]
 exact k1.set hN ⟨_,_,k2,rfl,rfl⟩
theorem Al_storeAg {t T:TypeId}{x y:Operand}{k g off n:Nat}{cs:List SV}{r:List CV}(ho:o.op=.store t x y) (hg:o.guard=none) (hd:o.dst=none) (hc:conB o=true) (hz:∀w,(sizeOf t).run P w=.ok n w) (hx:st.ev x=.bx k g off) (hob:st.ob k=some (g,.box T cs)) (hy:st.ev y=.ag r) (hn:r.length=n) (hoff:off+n≤cs.length)
  (h:Al P N M0 w0 ops Q l (st.put k g (.box T (cs.take off++r.map CV.sv++cs.drop (off+n))))):Al P N M0 w0 ops Q (o::l) st:=by
 refine⟨?_⟩
 rintro a w ⟨ρ,hsim⟩
 have hmem:x∈opsOf o∧y∈opsOf o:=by simp[opsOf,ho,Op.operands]
 have hmx:=hsim.ev hc x hmem.1
 have hmy:=hsim.ev hc y hmem.2
 rw[hx]at hmx
 rw[hy]at hmy
 obtain⟨u,b,h4,h5,h6⟩:=hmx
 obtain⟨u',h7,b',vs,rfl,h8,h9,h10,h11⟩:=hsim.obj k g _ hob
 rw[h4]at h7;cases h7
 simp only[blk,Option.some.injEq]at h5
 subst h5
 obtain⟨us,hyy,hu1,hur⟩:=hmy
 have hul:=hur.1
 obtain⟨w',vs',k1,k2,k3,k4,k5,k6,k7,k8,k9⟩:=run_storeRow (P:=P) b' off T us 0 w vs h9 (by omega) hu1
 have hs2:=hsim.mod (w':=w') hob h4 ⟨k7,k8,k9⟩ (by omega) (λc hc' hne=>k5 c (λe=>hne (by simp[blk,e]))) (o':=.box T (cs.take off++r.map CV.sv++cs.drop (off+n))) (λM' hK _=>⟨b',vs',rfl,h8,k2,by simp;omega,λj s' z h12 h13=>by
  rw[k4 j,Nat.add_zero]at h13
  by_cases e1:j<off
  ·rw[List.append_assoc,List.getElem?_append_left (by simp;omega),List.getElem?_take,if_pos e1]at h12
   rw[if_neg (by omega)]at h13
   exact⟨(h11 j s' z h12 h13).1.mono hK,(h11 j s' z h12 h13).2⟩
  ·by_cases e2:j<off+n
   ·rw[List.getElem?_append_left (by simp;omega),List.getElem?_append_right (by simp;omega)]at h12
    rw[if_pos (by omega)]at h13
    simp only[List.length_take,Nat.min_eq_left (show off≤cs.length by omega)]at h12
    exact cv_one (hur.mono hK) hu1 h12 h13
   ·rw[List.getElem?_append_right (by simp;omega)]at h12
    simp only[List.length_append,List.length_take,List.length_map,Nat.min_eq_left (show off≤cs.length by omega),List.getElem?_drop]at h12
    rw[show off+n+(j - (off+r.length))=j from by omega]at h12
    rw[if_neg (by omega)]at h13
    exact⟨(h11 j s' z h12 h13).1.mono hK,(h11 j s' z h12 h13).2⟩⟩)
 refine wpList_plain hg λK hK=>wp_upon ?_
 have e:(execOp a.eval o).run P w=.ok .skip w':=by
  simp only[execOp,ho,h6,hyy,Instr.storeAt,Instr.sureAddr,storeVar,Sem.run_bind,Sem.run_pure,Result.andThen_ok,hz,Value.cells]
  rw[if_neg (by simp;omega)]
  simp only[Sem.run_bind,Sem.run_pure,Result.andThen_ok,k1]
 rw[e]
 refine hK _ _ (h.out _ _ ⟨ρ,?_⟩)
 rw[hd]
 exact hs2
theorem Pu_loadAg {t T:TypeId}{x:Operand}{k g off n:Nat}{cs:List SV}{r:List CV}(ho:o.op=.load t x) (ht:∀w,(isAgg t).run P w=.ok true w) (hz:∀w,(sizeOf t).run P w=.ok n w) (hx:st.ev x=.bx k g off) (hob:st.ob k=some (g,.box T cs)) (hr:(cs.drop off).take n=r.map CV.sv) (hn:r.length=n):Pu P st o (.ag r):=Pu_q λB M ρ w a h2 h3=>by
 have h1:=h2 x (by simp[opsOf,ho,Op.operands])
 rw[hx]at h1
 obtain⟨u,b,h4,h5,h6⟩:=h1
 obtain⟨u',h7,b',vs,rfl,h8,h9,h10,h11⟩:=h3 k g _ hob
 rw[h4]at h7;cases h7
 simp only[blk,Option.some.injEq]at h5
 subst h5
 have hlen:n≤cs.length - off:=by
  have:=congrArg List.length hr
  simp only[List.length_take,List.length_drop,List.length_map]at this
  omega
 have hat:∀j,j<n→w.cell? ⟨b',off+j,none⟩=some (vs.toList.getD (off+j) undef):=λj hj=>by
  have:off+j<vs.size:=by omega
  simp[World.cell?,h9,List.getD_eq_getElem?_getD,this]
 have hrun:=run_cells (P:=P) (w:=w) (b:=b') n off 0 (λj=>vs.toList.getD (off+j) undef) #[] (λj hj=>by rw[Nat.zero_add];exact hat j hj)
 refine⟨_,?_,(List.range n).map (λj=>vs.toList.getD (off+j) undef),rfl,?_,by simp[hn],λj c y h12 h13=>?_⟩
 ·simp only[execOp,ho,h6,Instr.loadAt,Instr.sureAddr,loadVar,Sem.run_bind,Sem.run_pure,Result.andThen_ok,ht,hz,if_true,loadCells,hrun]
  simp
 ·intro v hv
  obtain⟨j,hj,rfl⟩:=List.mem_map.1 hv
  have hj:=List.mem_range.1 hj
  have h12:∃s,cs[off+j]?=some s:=⟨cs[off+j]'(by omega),by simp⟩
  obtain⟨s,h12⟩:=h12
  have h13:vs[off+j]?=some (vs.toList.getD (off+j) undef):=by
   have:off+j<vs.size:=by omega
   simp[List.getD_eq_getElem?_getD,this]
  exact(h11 _ s _ h12 h13).2
 ·have hj:j<n:=by have:=(List.getElem?_eq_some_iff.1 h12).1;omega
  rw[List.getElem?_map,List.getElem?_range hj]at h13
  simp only[Option.map_some,Option.some.injEq]at h13
  subst h13
  have h14:cs[off+j]?=some c.sv:=by
   have:=congrArg (λl=>l[j]?) hr
   simp only[List.getElem?_take,if_pos hj,List.getElem?_drop,List.getElem?_map,h12,Option.map_some]at this
   exact this
  have h15:vs[off+j]?=some (vs.toList.getD (off+j) undef):=by
   have:off+j<vs.size:=by omega
   simp[List.getD_eq_getElem?_getD,this]
  exact CV.rep.1 (h11 _ _ _ h14 h15).1
theorem Pu_indexArr {t e:TypeId}{x i:Operand}{n k m:Nat}{z:Int}{cs:List AV}(ho:o.op=.indexAddr t x i) (ht:P.underlying t=some (.array m e)) (hz:∀w,(sizeOf e).run P w=.ok n w) (hx:st.ev x=.d (.fp cs)) (hi:st.ev i=.d (.v (.int .i64 z))) (hk:z=k) (hlt:k<m):Pu P st o (.d (.fp (cs.drop (k*n)))):=Pu_q λB M ρ w a h2 _=>by
 have mm:x∈opsOf o∧i∈opsOf o:=by simp[opsOf,ho,Op.operands]
 obtain⟨e2,_⟩:=ev_v h2 mm.2 hi
 have hm:=h2 x mm.1
 rw[hx]at hm
 generalize hy:a.eval x=y at hm
 cases hm with
 | fp cs b o' f hc hr =>
  subst hk
  refine⟨.pointer (some ⟨b,o'+k*n,none⟩),?_,.fp _ b (o'+k*n) (λj=>f (k*n+j)) (λj a ha=>?_) (λj a ha=>?_)⟩
  ·simp only[execOp,ho,hy,e2,Instr.indexAt,Sem.run_bind,asIntOf,Sem.run_pure,Result.andThen_ok,run_underlying ht,Instr.sureAddr]
   rw[if_pos ⟨by omega,by omega⟩]
   simp only[Sem.run_bind,hz,Result.andThen_ok,Int.toNat_natCast,add_addr,Sem.run_pure]
  ·rw[List.getElem?_drop]at ha
   have:=hc _ a ha
   rw[show o'+k*n+j=o'+(k*n+j)from by omega]
   exact this
  ·rw[List.getElem?_drop]at ha
   exact hr _ a ha
theorem Pu_indexArrb {t e:TypeId}{x i:Operand}{n j m k g off:Nat}{z:Int}(ho:o.op=.indexAddr t x i) (ht:P.underlying t=some (.array m e)) (hz:∀w,(sizeOf e).run P w=.ok n w) (hx:st.ev x=.bx k g off) (hi:st.ev i=.d (.v (.int .i64 z))) (hk:z=j) (hlt:j<m):Pu P st o (.bx k g (off+j*n)):=Pu_q λB M ρ w a h2 _=>by
 have mm:x∈opsOf o∧i∈opsOf o:=by simp[opsOf,ho,Op.operands]
 obtain⟨e2,_⟩:=ev_v h2 mm.2 hi
 have hm:=h2 x mm.1
 rw[hx]at hm
 obtain⟨u,b,h4,h5,h6⟩:=hm
 subst hk
 refine⟨.pointer (some ⟨b,off+j*n,none⟩),?_,u,b,h4,h5,rfl⟩
 simp only[execOp,ho,h6,e2,Instr.indexAt,Sem.run_bind,asIntOf,Sem.run_pure,Result.andThen_ok,run_underlying ht,Instr.sureAddr]
 rw[if_pos ⟨by omega,by omega⟩]
 simp only[Sem.run_bind,hz,Result.andThen_ok,Int.toNat_natCast,add_addr,Sem.run_pure]
theorem Al_sliceLit {d:Nat}{t e:TypeId}{len n:Nat}{ps:Array (Nat×Operand)}{aa:List (Nat×AV)}{zs:Value}{rows:List (List AV)}(ho:o.op=.buildSlice t len ps) (hg:o.guard=none) (hd:o.dst=some d) (hN:d<N) (hc:conB o=true) (ht:P.underlying t=some (.slice e)) (hs:∀w,(sizeOf e).run P w=.ok n w) (hz:∀w,(zeroValue e).run P w=.ok zs w) (hzs:zs.cells.size=n) (hn0:0<n) (hl0:0<len) (hmax:len*n≤16777216)
  (hv:zs.cells.toList.all (λz=>decide (vok z))=true) (ha:PartsOk st ps.toList aa) (hr:fillA (λi=>some (i*n,n)) (zerosA zs.cells.toList (len*n)) aa=some rows.flatten) (hlen:rows.length=len) (hn:(rows.all λr=>r.length==n)=true)
  (h:∀g,Al P N M0 w0 ops Q l ((st.put d g (.arr e n rows)).set d (.ow d g))):Al P N M0 w0 ops Q (o::l) st:=by
 refine⟨?_⟩
 rintro a w ⟨ρ,hsim⟩
 have h2:=hsim.ev hc
 have hzl:zs.cells.toList.length=n:=by simpa using hzs
 have hz0:Cells (Mt M0 ρ st.ob) w (zerosA zs.cells.toList (len*n)) ((Array.range (len*n)).map (zs.cells[·%zs.cells.size]!)).toList:=by
  refine⟨by simp[zerosA],λj b x h3 h4=>?_⟩
  unfold zerosA at h3
  have hj:j<len*n:=by
   have:=(List.getElem?_eq_some_iff.1 h3).1
   simpa using this
  rw[List.getElem?_map,List.getElem?_range hj]at h3
  simp only[Option.map_some,Option.some.injEq]at h3
  simp only[Array.toList_map,Array.toList_range,List.getElem?_map,List.getElem?_range hj,Option.map_some,Option.some.injEq]at h4
  have hlt:j%n<zs.cells.size:=by rw[hzs];exact Nat.mod_lt _ hn0
  have e1:zs.cells[j%zs.cells.size]! = zs.cells[j%n]:=by rw[hzs];simp[hlt]
  have e2:zs.cells.toList.getD (j%zs.cells.toList.length) undef=zs.cells[j%n]:=by rw[hzl];simp[List.getD_eq_getElem?_getD,hlt]
  rw[e1]at h4
  rw[e2]at h3
  subst h3 h4
  have:=List.all_eq_true.1 hv zs.cells[j%n] (by simp)
  have hvk:vok zs.cells[j%n]:=by simpa using this
  exact⟨.v _ hvk,hvk.one⟩
 obtain⟨us,h3,h4⟩:=run_fill (M:=Mt M0 ρ st.ob) (w:=w) (ρ:=ρ) (a:=a) (λi=>some (i*n,n)) ps.toList aa _ _ _ ha (λp hp=>h2 p.2 (by
  simp only[opsOf,ho,Op.operands]
  exact List.mem_map.2 ⟨p,hp,rfl⟩)) hz0 hr
 have hE:Ev.Ext w (w.alloc (.cells us e)):=(Below.refl _ _).alloc (Nat.le_refl _) _
 have hn':∀r∈rows,r.length=n:=λr hr'=>by have:=List.all_eq_true.1 hn r hr';simpa using this
 have hlm:len≤len*n:=Nat.le_mul_of_pos_right _ hn0
 have hus:us.toList.length=rows.length*n:=by rw[h4.1,flat_len hn']
 have e1:(ps.map λ(p:Nat×Operand)=>(p.1,a.eval p.2)).toList=ps.toList.map λ(i,x)=>(i,a.eval x):=by simp
 have hrun:(execOp a.eval o).run P w=.ok (.value (.slice (some ⟨w.heap.size,0,none⟩) len len)) (w.alloc (.cells us e)):=by
  simp only[execOp,ho,Instr.buildSlice,Sem.run_bind,run_underlying ht,Result.andThen_ok,hs]
  rw[if_neg (by show¬_>16777216;omega)]
  simp only[Sem.run_bind,Sem.run_pure,Result.andThen_ok]
  rw[if_neg (by intro h;have:0<len*n:=Nat.mul_pos hl0 hn0;omega)]
  simp only[Sem.run_bind,Sem.run_pure,Result.andThen_ok,hz]
  rw[e1]
  simp only[h3,Sem.run_pure,Sem.run_bind,Result.andThen_ok,newRow,newObj,Sem.run]
  rfl
 obtain⟨g',ρ',k1,k2⟩:=hsim.upd (w':=w.alloc (.cells us e)) d ⟨rfl,rfl,rfl⟩ hE.size (λb hb _=>hE.block b hb) (x':=.slice (some ⟨w.heap.size,0,none⟩) len len) (o':=.arr e n rows) (λb hb=>by simp[blk]at hb;exact .inl (by omega))
  (λM' ρ' hK _=>by
   obtain⟨vals,hv1,hv2⟩:=rows_of_flat (M:=M') (w:=w.alloc (.cells us e)) hn' hus (λq c x h5 h6=>⟨(h4.2 q c x h5 h6).1.mono hK,(h4.2 q c x h5 h6).2⟩)
   refine⟨vals,⟨by rw[hv1,hus],.inr ⟨w.heap.size,len,us,by rw[hlen],Nat.zero_le _,heap_alloc_new _ _,by omega,by unfold maxLen;omega,by rw[←hlen,←hus];simp,?_⟩⟩,hv2,⟨_,len,by rw[hlen]⟩,by unfold maxI;omega,λb hb=>?_⟩
   ·rw[hv1,←hus,List.take_length]
   ·simp only[blk,Option.some.injEq]at hb
    subst hb
    exact .inl hsim.ext.size)
 refine wpList_plain hg λK hK=>wp_upon ?_
 rw[hrun]
 refine hK _ _ ((h g').out _ _ ⟨ρ',?_⟩)
 rw[hd]
 exact k1.set hN ⟨k2,rfl⟩
end
end Go.Proofs.YtdnijgdmohinlaaGreat.A
end
section
namespace Go.Proofs.YtdnijgdmohinlaaGreat.A
open Go Go.RowKit
abbrev byteA (bs:List UInt8):List (List AV):=colA (λc:UInt8=>Value.int .u8 c.toNat) bs
section
variable {P:Program}{N:Nat}{M0:Nat→Prop}{w0:Base}{ops:Array Oper}{Q:Exit→ASt→Prop}{o:Oper}{l:List Oper}{st:ASt}
theorem byteA_at {bs:List UInt8}{i:Nat}(hi:i<bs.length):(byteA bs)[i]?=some [.v (.int .u8 bs[i].toNat)]:=by simp[byteA,colA,hi]
theorem byteA_len (bs:List UInt8):(byteA bs).length=bs.length:=by simp[byteA,colA]
theorem Pu_convBS {f t e:TypeId}{x:Operand}{bs:List UInt8}(ho:o.op=.convert f t x) (hf:P.underlying f=some (.slice e)) (he:P.underlying e=some (.int .u8)) (ht:P.underlying t=some .string) (hx:st.ev x=.d (.sl 1 (byteA bs))):Pu P st o (.d (tv (V.ba bs))):=Pu_q λB M ρ w a h2 _=>by
 have hm:=h2 x (by simp[opsOf,ho,Op.operands])
 rw[hx]at hm
 have key:∃v,(convert f t (a.eval x)).run P w=.ok (.string (V.ba bs)) w∧bs.length≤maxI∧v=a.eval x:=by
  have hm':Rep M w (.sl 1 (byteA bs)) (a.eval x):=hm
  generalize a.eval x=y at hm'
  generalize hbl:byteA bs=rows at hm'
  have hlen:rows.length=bs.length:=by rw[←hbl,byteA_len]
  cases hm' with
  | nil n a c =>
   have h0:bs=[]:=List.eq_nil_of_length_eq_zero (by simpa using hlen.symm)
   subst h0
   refine⟨_,?_,by simp,rfl⟩
   cases a with
   | none=>exact run_convert_bytes_nil w f e hf he 0 c t ht
   | some a=>exact run_convert_bytes_back w f t e a c [] hf he ht (λj hj=>by simp at hj)
  | sl n rows b o' cap g hl hcap hn hc hr =>
   refine⟨_,?_,by omega,rfl⟩
   have h:=run_convert_bytes_back (P:=P) w f t e ⟨b,o',none⟩ cap bs hf he ht (λj hj=>by
    have hat:rows[j]?=some [.v (.int .u8 bs[j].toNat)]:=by rw[←hbl];exact byteA_at hj
    obtain⟨_,h5,_⟩:=hc j _ 0 _ hat rfl
    have h6:=hr j _ 0 _ hat rfl
    have h7:=(rep_v (ρ:=λ_ _=>none) (show SRep M w (λ_ _=>none) (.d (.v (.int .u8 bs[j].toNat))) (g j 0)from h6)).1
    rw[h7]at h5
    rw[add_addr]
    rw[show o'+j*1+0=o'+j from by omega]at h5
    exact h5)
   rw[hlen];exact h
 obtain⟨v,h3,h4,_⟩:=key
 refine⟨.string (V.ba bs),?_,.v _ (by show(V.ba bs).size≤maxI;rw[A.ba_sz];exact h4)⟩
 simp only[execOp,ho,Sem.run_bind,h3,Result.andThen_ok,Sem.run_pure]
end
end Go.Proofs.YtdnijgdmohinlaaGreat.A
end
section
namespace Go.Proofs.YtdnijgdmohinlaaGreat
open Go.RowKit A R
open A.RowT
structure QSpec where
 e:List Int
 o:List Int
 p:List Int
abbrev intsA (l:List Int):List (List AV):=l.map λx=>[iv x]
def QSpec.row (q:QSpec):List AV:=[.sl 1 (intsA q.e),.sl 1 (intsA q.o),.sl 1 (intsA q.p)]
namespace QSpec
def par (x:Int) (i:Nat):Int:=(x.tmod ((i:Int)+2)+i+2).tmod ((i:Int)+2)
def pars1 (q:QSpec) (k:Nat):List Int:=[-1,0]++(List.range k).map λi=>par (q.p.getD i 0) i
def p2 (q:QSpec) (i:Nat):Int:=if i<q.p.length then((q.p.getD i 0).tmod (i:Int)+i).tmod (i:Int)else 0
def m1 (q:QSpec) (n:Nat):Nat:=if n=0 then min q.p.length 3 else 0
def pars2 (q:QSpec) (n k:Nat):List Int:=pars1 q (m1 q n)++(List.range (k - 2)).map λj=>p2 q (j+2)
def pars (q:QSpec) (n:Nat):List Int:=pars2 q n n
def wd (x:Int):ByteArray:=V.ba [UInt8.ofNat ((x.tmod 8+8).tmod 8).toNat+97]
def above (a:ByteArray) (x:Int):Bool:=!(Op.bytesLess (wd x).toList a.toList||(wd x).toList==a.toList)
def estep (s:ByteArray×List Rng) (x:Int):ByteArray×List Rng:=if above s.1 x then(wd x,s.2++[⟨s.1,wd x⟩])else s
def ewalk (l:List Int):ByteArray×List Rng:=l.foldl estep (⟨#[]⟩,[])
def endR (s:ByteArray):Rng:=⟨s,⟨#[]⟩⟩
def rngs (q:QSpec):List Rng:=(ewalk (q.e.take 4)).2++[endR (ewalk (q.e.take 4)).1]
def ownZ (all:Int) (l:List Int) (i:Nat):Int:=if i<l.length then((l.getD i 0).tmod (all - 1)+all - 1).tmod (all - 1)else all - 2
def own (all:Int) (l:List Int) (i:Nat):Int:=1+ownZ all l i
def all (q:QSpec) (n:Nat):Int:=((2^(q.pars n).length:Nat):Int)
def mkR (q:QSpec) (n:Nat):SRow:=⟨q.rngs,(List.range q.rngs.length).map (own (q.all n) q.o),q.pars n⟩
theorem pars1_len (q:QSpec) (k:Nat):(pars1 q k).length=k+2:=by simp[pars1]
theorem pars1_succ (q:QSpec) (k:Nat):pars1 q (k+1)=pars1 q k++[par (q.p.getD k 0) k]:=by simp[pars1,List.range_succ]
theorem pars2_len (q:QSpec) (n k:Nat):(pars2 q n k).length=m1 q n+2+(k - 2):=by simp[pars2,pars1_len]
theorem pars2_succ (q:QSpec) (n:Nat) {k:Nat}(h:2≤k):pars2 q n (k+1)=pars2 q n k++[p2 q k]:=by
 unfold pars2
 rw[show k+1 - 2=(k - 2)+1 from by omega,List.range_succ,List.map_append,List.append_assoc]
 simp[show k - 2+2=k from by omega]
theorem m1_le (q:QSpec) (n:Nat):m1 q n≤3:=by unfold m1;split<;>omega
theorem pars_len (q:QSpec) {n:Nat}(hn:n≤5):2≤(q.pars n).length∧(q.pars n).length≤5:=by
 unfold pars
 rw[pars2_len]
 unfold m1
 split<;>omega
theorem tmod_b (x:Int) {n:Int}(h:0<n): -n<x.tmod n∧x.tmod n<n:=by
 have h1:=Int.tmod_lt_of_pos x h
 have h2:=Int.tmod_lt_of_pos (-x) h
 rw[Int.neg_tmod]at h2
 exact⟨by omega,h1⟩
theorem ewalk_len (l:List Int):(ewalk l).2.length≤l.length:=by
 have key:∀(l:List Int) (s:ByteArray×List Rng),(l.foldl estep s).2.length≤s.2.length+l.length:=by
  intro l
  induction l with
  | nil=>intro s;simp
  | cons x l ih =>
   intro s
   have h1:=ih (estep s x)
   have h2:(estep s x).2.length≤s.2.length+1:=by unfold estep;split<;>simp
   simp only[List.foldl_cons,List.length_cons]
   omega
 have:=key l (⟨#[]⟩,[])
 simpa [ewalk]using this
theorem ewalk_take (l:List Int) {k:Nat}(hk:k<l.length):ewalk (l.take (k+1))=estep (ewalk (l.take k)) l[k]:=by
 unfold ewalk
 rw[List.take_succ_eq_append_getElem hk,List.foldl_append];rfl
theorem rngs_len (q:QSpec):1≤q.rngs.length∧q.rngs.length≤5:=by
 unfold rngs
 have:=ewalk_len (q.e.take 4)
 rw[List.length_take]at this
 rw[List.length_append]
 simp;omega
theorem own_b {all:Int}(h:2≤all) (l:List Int) (i:Nat):1≤own all l i∧own all l i<all:=by
 unfold own ownZ
 split
 ·have h1:=tmod_b (l.getD i 0) (n:=all - 1) (by omega)
  generalize (l.getD i 0).tmod (all - 1)=y at h1
  have h2:=Int.tmod_lt_of_pos (y+all - 1) (show(0:Int)<all - 1 by omega)
  have h3:=Int.tmod_nonneg (all - 1) (show 0≤y+all - 1 by omega)
  omega
 ·omega
theorem all_b (q:QSpec) {n:Nat}(hn:n≤5):4≤q.all n∧q.all n≤32:=by
 have hl:=pars_len q hn
 unfold all
 have h1:2^(q.pars n).length≤2^5:=Nat.pow_le_pow_right (by omega) hl.2
 have h2:2^2≤2^(q.pars n).length:=Nat.pow_le_pow_right (by omega) hl.1
 omega
theorem letter {z:Int}(h0:0≤z) (h1:z<8):(97+z:Int)=((UInt8.ofNat z.toNat+97).toNat:Nat):=by
 rw[UInt8.toNat_add,UInt8.toNat_ofNat']
 show 97+z=(((z.toNat%2^8+97)%2^8:Nat):Int)
 omega
theorem take4 (l:List Int):l.take (min l.length 4)=l.take 4:=by
 rcases Nat.le_total l.length 4 with h|h
 ·rw[Nat.min_eq_left h,List.take_of_length_le (Nat.le_refl _),List.take_of_length_le h]
 ·rw[Nat.min_eq_right h]
end QSpec
set_option maxRecDepth 100000 in
set_option maxHeartbeats 4000000 in
theorem qrow_a (q:QSpec) (n:Nat) (hn:n≤5):ACall Tryz.prog 31 [.row q.row,iv n] (.row (q.mkR n).row):=by
 refine AC_G Tryz.func31 Tryz.ntmps31 (Reads.cN Tryz.results31 Tryz.isAgg30 Tryz.sizeOf30) λhok M0 w0 hnl=>?_
 have hal:=QSpec.all_b q hn
 have hpl:=QSpec.pars_len q hn
 have hm3:=QSpec.m1_le q n
 refine Aw_sr ?_
 refine Al_p Pu_bN ?_
 refine Al_al Tryz.zeroValue30 λg4=>?_
 refine Al_ns ?_
 refine Al_sliceLit (aa:=[(0,_),(1,_)]) (rows:=[[iv (-1)],[iv 0]]) rfl rfl rfl (by decide) (by kernel_rfl) Tryz.underlying22 Tryz.sizeOf3 Tryz.zeroValue3 rfl (by decide) (by decide) (by decide) (by kernel_rfl) ⟨rfl,rfl,rfl,rfl,rfl,rfl,trivial⟩ (rfl) rfl rfl (λg16=>?_)
 refine Al_p (Pu_buildAg (aa:=[(2,_)]) rfl Tryz.underlying30 Tryz.zeroValue30 places30 (by kernel_rfl) ⟨rfl,rfl,trivial⟩ rfl) ?_
 refine Al_al Tryz.zeroValue30 λg5=>?_
 refine Al_storeAg rfl rfl rfl (by kernel_rfl) Tryz.sizeOf30 rfl rfl rfl rfl (Nat.le_of_ble_eq_true rfl) ?_
 refine Al_nil (Aw_seq (Aw_seq ?_))
 refine Aw_owncell (k:=5) 0 (k2:=105) (e:=56) (n:=2) rfl rfl rfl (λga=>?_)
 refine Aw_owncell (k:=5) 1 (k2:=205) (e:=3) (n:=1) rfl rfl rfl (λgb=>?_)
 refine Aw_region ?_
 refine Al_mr ?_
 refine Al_nil (Aw_block ?_)
 refine Aw_loopk (ι:=Nat×Nat) [1,2,4,5] [105,205,4] (λ(k,g)=>[(6,.d (iv k))]) (λ(k,g)=>[(16,g,.arr 3 1 (intsA (QSpec.pars1 q k))),(5,g5,.box 30 [.ow 105 ga,.ow 205 gb,.ow 16 g])]) (λ(k,g)=>k≤(QSpec.m1 q n)) (λ(k,g)=>(QSpec.m1 q n) - k) ((0,g16)) (Nat.zero_le _) ⟨Sub.rfl,trivial⟩ ⟨rfl,rfl,trivial⟩ ?_
 rintro⟨k,g⟩ hk0
 refine Aw_seq (Aw_sr ?_)
 refine Al_ml ?_
 refine Al_p (Pu_fd 2 Tryz.underlying78 Tryz.sizeOf22) ?_
 refine Al_p (Pu_l1 Tryz.isAgg22) ?_
 refine Al_p (Pu_ln Tryz.underlying22) ?_
 refine Al_p Pu_cp ?_
 refine Al_ml ?_
 refine Al_s (St_g [] trivial (λ_=>Pu_mvl)) ?_
 refine Al_s (St_g [24] ⟨⟨_,rfl⟩,trivial⟩ (λ_=>Pu_cp)) ?_
 refine Al_p Pu_a ?_
 refine Al_ml ?_
 refine Al_s (St_g [] trivial (λ_=>Pu_mvl)) ?_
 refine Al_s (St_g [28] ⟨⟨_,rfl⟩,trivial⟩ (λ_=>Pu_cp)) ?_
 refine Al_p Pu_a ?_
 refine Al_nil ?_
 refine Aw_cond rfl (λh30=>?_) (λh30=>?_)
 ·(try simp only[A.cd_]at h30)
  have hk:k<q.p.length:=by omega
  have hm2:QSpec.m1 q n=min q.p.length 3:=by unfold QSpec.m1;rw[if_pos (by omega)]
  have hb1:=QSpec.tmod_b (q.p[k]'hk) (n:=(k:Int)+2) (by omega)
  have hpl0:=QSpec.pars1_len q k
  refine Aw_skip (Aw_seq (Aw_block ?_))
  refine Aw_dr 17 ?_
  refine Dr_p (Pu_fb 2 Tryz.underlying30 Tryz.sizeOf22) ?_
  refine Dr_p (Pu_lb Tryz.isAgg22) ?_
  refine Dr_p (Pu_fd 2 Tryz.underlying78 Tryz.sizeOf22) ?_
  refine Dr_p (Pu_l1 Tryz.isAgg22) ?_
  refine Dr_ml ?_
  refine Dr_p (Pu_index rfl Tryz.underlying22 Tryz.sizeOf3 rfl rfl (rfl) (mapget hk)) ?_
  refine Dr_p (Pu_l1 Tryz.isAgg3) ?_
  refine Dr_ml ?_
  refine Dr_p Pu_ad ?_
  refine Dr_p (Pu_rem rfl rfl rfl (by omega) rfl) ?_
  refine Dr_ml ?_
  refine Dr_p Pu_ad ?_
  refine Dr_p Pu_ad ?_
  refine Dr_ml ?_
  refine Dr_p Pu_ad ?_
  refine Dr_p (Pu_rem rfl rfl rfl (by omega) rfl) ?_
  refine Dr_p (Pu_slice1 rfl Tryz.underlying22 Tryz.sizeOf3 Tryz.zeroValue3 rfl (by decide) (by decide) (by kernel_rfl) rfl rfl rfl) ?_
  refine Dr_nil ?_
  refine Al_append rfl rfl rfl (by decide) (by kernel_rfl) elem22 (by decide) Tryz.sizeOf3 rfl rfl rfl (by rw[List.length_map];simp;omega) (by decide) (λg50=>?_)
  refine Al_p (Pu_fb 2 Tryz.underlying30 Tryz.sizeOf22) ?_
  refine Al_s1 Tryz.isAgg22 Tryz.sizeOf22 ?_
  refine Al_nil (Aw_region ?_)
  refine Al_ml ?_
  refine Al_p Pu_ad ?_
  refine Al_mr ?_
  refine Al_nil ?_
  exact⟨(k+1,g50),by omega,by simp only[];omega,Le.ov ⟨Sub.num (by omega),trivial⟩ ⟨Sub.rfl,Sub.rfl,Sub.rfl,Sub.rfl,trivial⟩ ⟨obeq (by rw[QSpec.pars1_succ];simp[A.cellsA,QSpec.par,hk]),rfl,trivial⟩ ⟨rfl,rfl,rfl,trivial⟩⟩
 ·(try simp only[A.cd_]at h30)
  have hkm:k=QSpec.m1 q n:=by
   have hk1:k≤QSpec.m1 q n:=hk0
   by_cases h:n=0
   ·have hm2:QSpec.m1 q n=min q.p.length 3:=by unfold QSpec.m1;rw[if_pos h]
    omega
   ·have hm2:QSpec.m1 q n=0:=by unfold QSpec.m1;rw[if_neg h]
    omega
  refine Aw_exit (Aw_seq (Aw_sr ?_))
  refine Al_mr ?_
  refine Al_nil (Aw_block ?_)
  refine Aw_loopk (ι:=Nat×Nat) [1,2,4,5] [105,205,4] (λ(k1,g1)=>[(7,.d (iv k1))]) (λ(k1,g1)=>[(16,g1,.arr 3 1 (intsA (QSpec.pars2 q n k1))),(5,g5,.box 30 [.ow 105 ga,.ow 205 gb,.ow 16 g1])]) (λ(k1,g1)=>2≤k1∧(k1≤n∨k1=2)) (λ(k1,g1)=>n - k1) (2,g) (⟨Nat.le_refl _,.inr rfl⟩) ⟨Sub.rfl,trivial⟩ ⟨obeq (by rw[hkm];simp[QSpec.pars2]),rfl,trivial⟩ ?_
  rintro⟨k1,g1⟩ ⟨hk2,hk3⟩
  refine Aw_seq (Aw_sr ?_)
  refine Al_ml ?_
  refine Al_ml ?_
  refine Al_p Pu_cp ?_
  refine Al_nil ?_
  refine Aw_cond rfl (λh54=>?_) (λh54=>?_)
  ·(try simp only[A.cd_]at h54)
   have hpl2:=QSpec.pars2_len q n k1
   refine Aw_skip ?_
   refine Aw_seq (Aw_block (Aw_sr ?_))
   refine Al_mr ?_
   refine Al_nil ?_
   refine Aw_join (ι:=Unit) [1,2,4,5,7] [105,205,16,5,4] (λ_=>[(8,.d (iv (QSpec.p2 q k1)))]) (λ_=>[]) (λ_=>True) ?_ ?_
   ·refine Aw_sr ?_
    refine Al_ml ?_
    refine Al_p (Pu_fd 2 Tryz.underlying78 Tryz.sizeOf22) ?_
    refine Al_p (Pu_l1 Tryz.isAgg22) ?_
    refine Al_p (Pu_ln Tryz.underlying22) ?_
    refine Al_p Pu_cp ?_
    refine Al_nil ?_
    refine Aw_cond rfl (λh61=>?_) (λh61=>?_)
    ·(try simp only[A.cd_]at h61)
     have hkp:k1<q.p.length:=by omega
     have hb1:=QSpec.tmod_b (q.p[k1]'hkp) (n:=(k1:Int)) (by omega)
     refine Aw_region ?_
     refine Al_p (Pu_fd 2 Tryz.underlying78 Tryz.sizeOf22) ?_
     refine Al_p (Pu_l1 Tryz.isAgg22) ?_
     refine Al_ml ?_
     refine Al_p (Pu_index rfl Tryz.underlying22 Tryz.sizeOf3 rfl rfl (rfl) (mapget hkp)) ?_
     refine Al_p (Pu_l1 Tryz.isAgg3) ?_
     refine Al_ml ?_
     refine Al_p (Pu_rem rfl rfl rfl (by omega) rfl) ?_
     refine Al_ml ?_
     refine Al_p Pu_ad ?_
     refine Al_ml ?_
     refine Al_p (Pu_rem rfl rfl rfl (by omega) rfl) ?_
     refine Al_mr ?_
     refine Al_nil ?_
     exact⟨(),trivial,Le.ov ⟨Sub.num (by unfold QSpec.p2;rw[if_pos hkp];simp[hkp]),trivial⟩ ⟨Sub.rfl,Sub.rfl,Sub.rfl,Sub.rfl,Sub.rfl,trivial⟩ trivial ⟨rfl,rfl,rfl,rfl,rfl,trivial⟩⟩
    ·(try simp only[A.cd_]at h61)
     refine Aw_skip ?_
     exact⟨(),trivial,Le.ov ⟨Sub.num (by unfold QSpec.p2;rw[if_neg (by omega)]),trivial⟩ ⟨Sub.rfl,Sub.rfl,Sub.rfl,Sub.rfl,Sub.rfl,trivial⟩ trivial ⟨rfl,rfl,rfl,rfl,rfl,trivial⟩⟩
   ·rintro _ hj1
    refine Aw_region ?_
    refine Al_p (Pu_fb 2 Tryz.underlying30 Tryz.sizeOf22) ?_
    refine Al_p (Pu_lb Tryz.isAgg22) ?_
    refine Al_ml ?_
    refine Al_p (Pu_slice1 rfl Tryz.underlying22 Tryz.sizeOf3 Tryz.zeroValue3 rfl (by decide) (by decide) (by kernel_rfl) rfl rfl rfl) ?_
    refine Al_append rfl rfl rfl (by decide) (by kernel_rfl) elem22 (by decide) Tryz.sizeOf3 rfl rfl rfl (by rw[List.length_map];simp;omega) (by decide) (λg77=>?_)
    refine Al_p (Pu_fb 2 Tryz.underlying30 Tryz.sizeOf22) ?_
    refine Al_s1 Tryz.isAgg22 Tryz.sizeOf22 ?_
    refine Al_nil (Aw_region ?_)
    refine Al_ml ?_
    refine Al_p Pu_ad ?_
    refine Al_mr ?_
    refine Al_nil ?_
    exact⟨(k1+1,g77),⟨by omega,by omega⟩,by simp only[];omega,Le.ov ⟨Sub.num (by omega),trivial⟩ ⟨Sub.rfl,Sub.rfl,Sub.rfl,Sub.rfl,trivial⟩ ⟨obeq (by rw[QSpec.pars2_succ q n hk2];simp[A.cellsA]),rfl,trivial⟩ ⟨rfl,rfl,rfl,trivial⟩⟩
  ·(try simp only[A.cd_]at h54)
   have hps:QSpec.pars2 q n k1=q.pars n:=by
    unfold QSpec.pars QSpec.pars2
    rw[show k1 - 2=n - 2 from by omega]
   refine Aw_exit (Aw_sr ?_)
   refine Al_mr ?_
   refine Al_nil (Aw_seq (Aw_sr ?_))
   refine Al_mr ?_
   refine Al_nil (Aw_block ?_)
   refine Aw_loopk (ι:=Nat×Nat) [2,4,5] [205,16,4] (λ(k,g)=>[(10,.d (iv k)),(9,.d (tv (QSpec.ewalk (q.e.take k)).1))]) (λ(k,g)=>[(105,g,.arr 56 2 ((QSpec.ewalk (q.e.take k)).2.map Rng.row)),(5,g5,.box 30 [.ow 105 g,.ow 205 gb,.ow 16 g1])]) (λ(k,g)=>k≤(min q.e.length 4)) (λ(k,g)=>(min q.e.length 4) - k) ((0,ga)) (Nat.zero_le _) ⟨Sub.rfl,Sub.rfl,trivial⟩ ⟨rfl,rfl,trivial⟩ ?_
   rintro⟨k,g⟩ hk2
   refine Aw_seq (Aw_sr ?_)
   refine Al_ml ?_
   refine Al_p (Pu_fd 0 Tryz.underlying78 Tryz.sizeOf22) ?_
   refine Al_p (Pu_l1 Tryz.isAgg22) ?_
   refine Al_p (Pu_ln Tryz.underlying22) ?_
   refine Al_p Pu_cp ?_
   refine Al_ml ?_
   refine Al_s (St_g [] trivial (λ_=>Pu_mvl)) ?_
   refine Al_s (St_g [85] ⟨⟨_,rfl⟩,trivial⟩ (λ_=>Pu_cp)) ?_
   refine Al_p Pu_a ?_
   refine Al_nil ?_
   refine Aw_cond rfl (λh87=>?_) (λh87=>?_)
   ·(try simp only[A.cd_]at h87)
    have hk:k<q.e.length:=by omega
    have hb1:=QSpec.tmod_b (q.e[k]'hk) (n:=8) (by omega)
    have hb2:=QSpec.tmod_b ((q.e[k]'hk).tmod 8+8) (n:=8) (by omega)
    have hb3:=Int.tmod_nonneg 8 (show 0≤(q.e[k]'hk).tmod 8+8 by omega)
    have hel:=QSpec.ewalk_len (q.e.take k)
    rw[List.length_take]at hel
    have het:=QSpec.ewalk_take q.e hk
    have hwd:QSpec.wd (q.e[k]'hk)=V.ba [UInt8.ofNat (((q.e[k]'hk).tmod 8+8).tmod 8).toNat+97]:=rfl
    refine Aw_skip ?_
    refine Aw_seq (Aw_block (Aw_sr ?_))
    refine Al_p (Pu_fd 0 Tryz.underlying78 Tryz.sizeOf22) ?_
    refine Al_p (Pu_l1 Tryz.isAgg22) ?_
    refine Al_ml ?_
    refine Al_p (Pu_index rfl Tryz.underlying22 Tryz.sizeOf3 rfl rfl (rfl) (mapget hk)) ?_
    refine Al_p (Pu_l1 Tryz.isAgg3) ?_
    refine Al_p (Pu_rem rfl rfl rfl (by decide) rfl) ?_
    refine Al_p Pu_ad ?_
    refine Al_p (Pu_rem rfl rfl rfl (by decide) rfl) ?_
    refine Al_p Pu_ad ?_
    refine Al_p (Pu_conv rfl Tryz.underlying3 Tryz.underlying5 rfl (λhv=>⟨IntWalk.u8_in _ ⟨by omega,by omega⟩,by show 0≤_∧_≤(255:Int);omega⟩)) ?_
    refine Al_p (Pu_slice1 rfl Tryz.underlying45 Tryz.sizeOf5 Tryz.zeroValue5 rfl (by decide) (by decide) (by kernel_rfl) rfl rfl rfl) ?_
    refine Al_p (Pu_convBS (bs:=[UInt8.ofNat (((q.e[k]'hk).tmod 8+8).tmod 8).toNat+97]) rfl Tryz.underlying45 Tryz.underlying5 Tryz.underlying9 (congrArg (λz=>SV.d (.sl 1 [[.v (.int .u8 z)]])) (QSpec.letter hb3 (by omega)))) ?_
    refine Al_mr ?_
    refine Al_ns ?_
    refine Al_ml ?_
    refine Al_ml ?_
    refine Al_p Pu_sr ?_
    refine Al_nil ?_
    refine Aw_cond rfl (λh104=>?_) (λh104=>?_)
    ·skip
     have hes:QSpec.ewalk (q.e.take (k+1))=(QSpec.wd (q.e[k]'hk),(QSpec.ewalk (q.e.take k)).2++[⟨(QSpec.ewalk (q.e.take k)).1,QSpec.wd (q.e[k]'hk)⟩]):=by
      rw[het];unfold QSpec.estep;rw[if_pos];exact h104
     refine Aw_sr ?_
     refine Al_p (Pu_fb 0 Tryz.underlying30 Tryz.sizeOf28) ?_
     refine Al_p (Pu_lb Tryz.isAgg28) ?_
     refine Al_ml ?_
     refine Al_ml ?_
     refine Al_p (Pu_build (aa:=[(0,_),(1,_)]) rfl Tryz.underlying56 Tryz.zeroValue56 places56 (by kernel_rfl) ⟨rfl,rfl,rfl,rfl,rfl,rfl,trivial⟩ rfl) ?_
     refine Al_p (Pu_slice1 rfl Tryz.underlying28 Tryz.sizeOf56 Tryz.zeroValue56 rfl (by decide) (by decide) (by kernel_rfl) rfl rfl rfl) ?_
     refine Al_append rfl rfl rfl (by decide) (by kernel_rfl) elem28 (by decide) Tryz.sizeOf56 rfl rfl rfl (by rw[List.length_map];simp;omega) (by decide) (λg111=>?_)
     refine Al_p (Pu_fb 0 Tryz.underlying30 Tryz.sizeOf28) ?_
     refine Al_s1 Tryz.isAgg28 Tryz.sizeOf28 ?_
     refine Al_nil (Aw_region ?_)
     refine Al_ml ?_
     refine Al_mr ?_
     refine Al_nil (Aw_region ?_)
     refine Al_ml ?_
     refine Al_p Pu_ad ?_
     refine Al_mr ?_
     refine Al_nil ?_
     exact⟨(k+1,g111),by omega,by simp only[];omega,Le.ov ⟨Sub.num (by omega),Sub.str (by rw[hes];rfl),trivial⟩ ⟨Sub.rfl,Sub.rfl,Sub.rfl,trivial⟩ ⟨obeq (by rw[hes];simp[A.cellsA,Rng.row,hwd]),rfl,trivial⟩ ⟨rfl,rfl,rfl,trivial⟩⟩
    ·skip
     have hes:QSpec.ewalk (q.e.take (k+1))=QSpec.ewalk (q.e.take k):=by
      rw[het];unfold QSpec.estep;rw[if_neg];unfold QSpec.above;rw[hwd,h104];simp
     refine Aw_skip (Aw_region ?_)
     refine Al_ml ?_
     refine Al_p Pu_ad ?_
     refine Al_mr ?_
     refine Al_nil ?_
     exact⟨(k+1,g),by omega,by simp only[];omega,Le.ov ⟨Sub.num (by omega),Sub.str (by rw[hes]),trivial⟩ ⟨Sub.rfl,Sub.rfl,Sub.rfl,trivial⟩ ⟨obeq (by rw[hes]),rfl,trivial⟩ ⟨rfl,rfl,rfl,trivial⟩⟩
   ·(try simp only[A.cd_]at h87)
    have hkk:k=min q.e.length 4:=by omega
    have hel:=QSpec.ewalk_len (q.e.take k)
    rw[List.length_take]at hel
    have hrs:(QSpec.ewalk (q.e.take k)).2++[QSpec.endR (QSpec.ewalk (q.e.take k)).1]=q.rngs:=by unfold QSpec.rngs;rw[hkk,QSpec.take4]
    refine Aw_exit (Aw_sr ?_)
    refine Al_p (Pu_fb 0 Tryz.underlying30 Tryz.sizeOf28) ?_
    refine Al_p (Pu_lb Tryz.isAgg28) ?_
    refine Al_ml ?_
    refine Al_p (Pu_build (aa:=[(0,_)]) rfl Tryz.underlying56 Tryz.zeroValue56 places56 (by kernel_rfl) ⟨rfl,rfl,rfl,trivial⟩ rfl) ?_
    refine Al_p (Pu_slice1 rfl Tryz.underlying28 Tryz.sizeOf56 Tryz.zeroValue56 rfl (by decide) (by decide) (by kernel_rfl) rfl rfl rfl) ?_
    refine Al_append rfl rfl rfl (by decide) (by kernel_rfl) elem28 (by decide) Tryz.sizeOf56 rfl rfl rfl (by rw[List.length_map];simp;omega) (by decide) (λg119=>?_)
    refine Al_p (Pu_fb 0 Tryz.underlying30 Tryz.sizeOf28) ?_
    refine Al_s1 Tryz.isAgg28 Tryz.sizeOf28 ?_
    refine Al_ns ?_
    refine Al_mr ?_
    refine Al_nil (Aw_seq (Aw_sr ?_))
    refine Al_mr ?_
    refine Al_nil (Aw_block ?_)
    refine Aw_loopk (ι:=Nat) [2,4,5] [105,205,16,5,4] (λk2=>[(13,.d (iv k2)),(12,.d (iv ((2^k2:Nat):Int)))]) (λk2=>[]) (λk2=>k2≤(q.pars n).length) (λk2=>(q.pars n).length - k2) (0) (Nat.zero_le _) ⟨Sub.rfl,Sub.rfl,trivial⟩ trivial ?_
    rintro k2 hk3
    refine Aw_seq (Aw_sr ?_)
    refine Al_ml ?_
    refine Al_p (Pu_fb 2 Tryz.underlying30 Tryz.sizeOf22) ?_
    refine Al_p (Pu_lb Tryz.isAgg22) ?_
    refine Al_p (Pu_lenOw (m:=(q.pars n).length) rfl Tryz.underlying22 rfl rfl (by rw[List.length_map,hps])) ?_
    refine Al_p Pu_cp ?_
    refine Al_nil ?_
    refine Aw_cond rfl (λh125=>?_) (λh125=>?_)
    ·(try simp only[A.cd_]at h125)
     have hk5:2^(k2+1)≤2^5:=Nat.pow_le_pow_right (by omega) (by omega)
     have hp:2^(k2+1)=2^k2*2:=Nat.pow_succ ..
     refine Aw_skip (Aw_seq (Aw_block (Aw_region ?_)))
     refine Al_ml ?_
     refine Al_p (Pu_int_mul (r:=((2^(k2+1):Nat):Int)) rfl rfl rfl (by rw[show((2^k2:Nat):Int)*2=((2^(k2+1):Nat):Int)from by rw[hp];omega];exact IntWalk.i64_in _ (by omega)) (λ_=>by show A.inI _;simp only[A.inI];omega)) ?_
     refine Al_mr ?_
     refine Al_nil (Aw_region ?_)
     refine Al_ml ?_
     refine Al_p Pu_ad ?_
     refine Al_mr ?_
     refine Al_nil ?_
     exact⟨k2+1,by omega,by omega,Le.ov ⟨Sub.num (by omega),Sub.rfl,trivial⟩ ⟨Sub.rfl,Sub.rfl,Sub.rfl,trivial⟩ trivial ⟨rfl,rfl,rfl,rfl,rfl,trivial⟩⟩
    ·(try simp only[A.cd_]at h125)
     have hk2':k2=(q.pars n).length:=by omega
     have hall:((2^k2:Nat):Int)=q.all n:=by rw[hk2'];rfl
     rw[hall]
     refine Aw_exit (Aw_seq (Aw_sr ?_))
     refine Al_mr ?_
     refine Al_nil (Aw_block ?_)
     refine Aw_loopk (ι:=Nat×Nat) [2,4,5,12] [105,16,4] (λ(k3,g3)=>[(14,.d (iv k3))]) (λ(k3,g3)=>[(205,g3,.arr 3 1 (intsA ((List.range k3).map (QSpec.own (q.all n) q.o)))),(5,g5,.box 30 [.ow 105 g119,.ow 205 g3,.ow 16 g1])]) (λ(k3,g3)=>k3≤q.rngs.length) (λ(k3,g3)=>q.rngs.length - k3) ((0,gb)) (Nat.zero_le _) ⟨Sub.rfl,trivial⟩ ⟨rfl,rfl,trivial⟩ ?_
     rintro⟨k3,g3⟩ hk4
     refine Aw_seq (Aw_sr ?_)
     refine Al_ml ?_
     refine Al_p (Pu_fb 0 Tryz.underlying30 Tryz.sizeOf28) ?_
     refine Al_p (Pu_lb Tryz.isAgg28) ?_
     refine Al_p (Pu_lenOw (m:=q.rngs.length) rfl Tryz.underlying28 rfl rfl (by rw[←hrs];simp[A.cellsA,Rng.row,QSpec.endR])) ?_
     refine Al_p Pu_cp ?_
     refine Al_nil ?_
     refine Aw_cond rfl (λh134=>?_) (λh134=>?_)
     ·(try simp only[A.cd_]at h134)
      refine Aw_skip ?_
      refine Aw_seq (Aw_block (Aw_sr ?_))
      refine Al_ml ?_
      refine Al_p (Pu_sub rfl rfl rfl (λh1 h2=>by simp only[A.inI,A.maxI]at *;omega)) ?_
      refine Al_mr ?_
      refine Al_nil ?_
      refine Aw_join (ι:=Unit) [2,4,5,12,14] [105,205,16,5,4] (λ_=>[(15,.d (iv (QSpec.ownZ (q.all n) q.o k3)))]) (λ_=>[]) (λ_=>True) ?_ ?_
      ·refine Aw_sr ?_
       refine Al_ml ?_
       refine Al_p (Pu_fd 1 Tryz.underlying78 Tryz.sizeOf22) ?_
       refine Al_p (Pu_l1 Tryz.isAgg22) ?_
       refine Al_p (Pu_ln Tryz.underlying22) ?_
       refine Al_p Pu_cp ?_
       refine Al_nil ?_
       refine Aw_cond rfl (λh143=>?_) (λh143=>?_)
       ·(try simp only[A.cd_]at h143)
        have hk3':k3<q.o.length:=by omega
        have hb1:=QSpec.tmod_b (q.o[k3]'hk3') (n:=q.all n - 1) (by omega)
        have hoz:QSpec.ownZ (q.all n) q.o k3=((q.o[k3]'hk3').tmod (q.all n - 1)+q.all n - 1).tmod (q.all n - 1):=by unfold QSpec.ownZ;rw[if_pos hk3'];simp[hk3']
        refine Aw_region ?_
        refine Al_p (Pu_fd 1 Tryz.underlying78 Tryz.sizeOf22) ?_
        refine Al_p (Pu_l1 Tryz.isAgg22) ?_
        refine Al_ml ?_
        refine Al_p (Pu_index rfl Tryz.underlying22 Tryz.sizeOf3 rfl rfl (rfl) (mapget hk3')) ?_
        refine Al_p (Pu_l1 Tryz.isAgg3) ?_
        refine Al_ml ?_
        refine Al_p (Pu_sub rfl rfl rfl (λh1 h2=>by simp only[A.inI,A.maxI]at *;omega)) ?_
        refine Al_p (Pu_rem rfl rfl rfl (by omega) rfl) ?_
        refine Al_ml ?_
        refine Al_p Pu_ad ?_
        refine Al_p (Pu_sub rfl rfl rfl (λh1 h2=>by simp only[A.inI,A.maxI]at *;omega)) ?_
        refine Al_ml ?_
        refine Al_p (Pu_sub rfl rfl rfl (λh1 h2=>by simp only[A.inI,A.maxI]at *;omega)) ?_
        refine Al_p (Pu_rem rfl rfl rfl (by omega) rfl) ?_
        refine Al_mr ?_
        refine Al_nil ?_
        exact⟨(),trivial,Le.ov ⟨Sub.num hoz.symm,trivial⟩ ⟨Sub.rfl,Sub.rfl,Sub.rfl,Sub.rfl,Sub.rfl,trivial⟩ trivial ⟨rfl,rfl,rfl,rfl,rfl,trivial⟩⟩
       ·(try simp only[A.cd_]at h143)
        have hoz:QSpec.ownZ (q.all n) q.o k3=q.all n - 2:=by unfold QSpec.ownZ;rw[if_neg (by omega)]
        refine Aw_skip ?_
        exact⟨(),trivial,Le.ov ⟨Sub.num hoz.symm,trivial⟩ ⟨Sub.rfl,Sub.rfl,Sub.rfl,Sub.rfl,Sub.rfl,trivial⟩ trivial ⟨rfl,rfl,rfl,rfl,rfl,trivial⟩⟩
      ·rintro _ hj4
       have hob:=QSpec.own_b (show 2≤q.all n by omega) q.o k3
       have hob2:QSpec.own (q.all n) q.o k3=1+QSpec.ownZ (q.all n) q.o k3:=rfl
       have hrl:=QSpec.rngs_len q
       refine Aw_region ?_
       refine Al_p (Pu_fb 1 Tryz.underlying30 Tryz.sizeOf22) ?_
       refine Al_p (Pu_lb Tryz.isAgg22) ?_
       refine Al_ml ?_
       refine Al_p Pu_ad ?_
       refine Al_p (Pu_slice1 rfl Tryz.underlying22 Tryz.sizeOf3 Tryz.zeroValue3 rfl (by decide) (by decide) (by kernel_rfl) rfl rfl rfl) ?_
       refine Al_append rfl rfl rfl (by decide) (by kernel_rfl) elem22 (by decide) Tryz.sizeOf3 rfl rfl rfl (by simp;omega) (by decide) (λg163=>?_)
       refine Al_p (Pu_fb 1 Tryz.underlying30 Tryz.sizeOf22) ?_
       refine Al_s1 Tryz.isAgg22 Tryz.sizeOf22 ?_
       refine Al_nil (Aw_region ?_)
       refine Al_ml ?_
       refine Al_p Pu_ad ?_
       refine Al_mr ?_
       refine Al_nil ?_
       exact⟨(k3+1,g163),by omega,by simp only[];omega,Le.ov ⟨Sub.num (by omega),trivial⟩ ⟨Sub.rfl,Sub.rfl,Sub.rfl,Sub.rfl,trivial⟩ ⟨obeq (by rw[List.range_succ];simp[A.cellsA,QSpec.own]),rfl,trivial⟩ ⟨rfl,rfl,rfl,trivial⟩⟩
     ·(try simp only[A.cd_]at h134)
      have hk3:k3=q.rngs.length:=by omega
      refine Aw_exit (Aw_seq ?_)
      refine Aw_frzc (k:=105) (kb:=5) 0 hnl [] rfl rfl rfl rfl trivial ?_
      refine Aw_frzc (k:=205) (kb:=5) 1 hnl [] rfl rfl rfl rfl trivial ?_
      refine Aw_frzc (k:=16) (kb:=5) 2 hnl [] rfl rfl rfl rfl trivial ?_
      refine Aw_region ?_
      refine Al_p (Pu_lbN (r:=[_,_,_]) Tryz.isAgg30 Tryz.sizeOf30) ?_
      refine Al_sN Tryz.isAgg30 Tryz.sizeOf30 ?_
      refine Al_nil ?_
      refine Aw_ret ?_
      refine⟨_,_,_,_,_,[_,_,_],rfl,rfl,rfl,rfl,?_⟩
      simp only[SRow.row,QSpec.mkR,←hrs,hk3,hps]
      simp[A.cellsA,Rng.row,QSpec.endR,intsA]
end Go.Proofs.YtdnijgdmohinlaaGreat
end
section
namespace Go.Proofs.YtdnijgdmohinlaaGreat
open Go.ChangeShapes Go.WideShapes Go.ChangeAt Go.RowKit A
set_option maxRecDepth 100000 in
theorem qspec21_fits {r:List AV}(h:Fits (.stru (.pair (.sl 1 .i64) (.pair (.sl 1 .i64) (.pair (.sl 1 .i64) .unit)))) r):∃q:QSpec,r=q.row:=by
 obtain⟨_,_,rfl,h1,_,_,rfl,h2,_,_,rfl,h3,rfl⟩:=h
 obtain⟨e,rfl⟩:=ints_fits h1
 obtain⟨o,rfl⟩:=ints_fits h2
 obtain⟨p,rfl⟩:=ints_fits h3
 exact⟨⟨e,o,p⟩,rfl⟩
section
variable {H:Type}{enc:TypeId×Value→H}{W:World}{base:Nat}{spare:Nat→Bool}{held:Bool}{v:Value}{d:DataW H}{p:List MemPlace}
set_option maxRecDepth 100000 in
theorem open_qspec21 (hv:Value.okWide Tryz.prog W .any base 24 v) (h:DataW.Trod enc Tryz.prog W 0 spare held 24 v d p):∃q:QSpec,Rep NoM W (.row q.row) v:=by
 obtain⟨r,h1,h2⟩:=A.open_struct Tryz.underlying24 (s:=(.stru (.pair (.sl 1 .i64) (.pair (.sl 1 .i64) (.pair (.sl 1 .i64) .unit))))) ⟨_,Tryz.underlying24,⟨_,_,1,rfl,rfl,by kernel_rfl,⟨_,Tryz.underlying22,by kernel_rfl,by decide,Tryz.underlying3⟩,⟨_,_,1,rfl,rfl,by kernel_rfl,⟨_,Tryz.underlying22,by kernel_rfl,by decide,Tryz.underlying3⟩,⟨_,_,1,rfl,rfl,by kernel_rfl,⟨_,Tryz.underlying22,by kernel_rfl,by decide,Tryz.underlying3⟩,⟨rfl,by kernel_rfl⟩⟩⟩⟩⟩ hv h
 obtain⟨q,rfl⟩:=qspec21_fits h1
 exact⟨q,h2⟩
end
end Go.Proofs.YtdnijgdmohinlaaGreat
end
section
namespace Go.Proofs.YtdnijgdmohinlaaGreat.A
open Go Go.RowKit
def GCallE (P:Program) (f:FuncId) (ins:List SV) (obs:Obs) {ι:Type}(R:ι→Option (Obs×SV)):Prop :=
 (∀(vs:Array Value) (w:World),(callFunc f vs).run P w=.ok (.enter f vs) w) ∧
 ∀(M:Nat→Prop) (w:World) (ρ:Rho) (vs:List Value),(∀b,M b→b<w.heap.size)→Bnd ρ→ARep M w ρ ins vs→Objs ⟨w,λ_=>True,[],λ_ _=>none⟩ M w ρ obs→(∀b,fps ρ obs b→M b)→Apart ρ obs →
  Calls P f vs.toArray w λe w'=>ExtL ⟨w,fps ρ obs,[],λ_ _=>none⟩ w'∧∃i,GPost M w ρ obs w' e (R i)
theorem GCall.e {P:Program}{f:FuncId}{ins:List SV}{obs:Obs}{ι:Type}{R:ι→Option (Obs×SV)}(i:ι) (h:GCall P f ins obs (R i)):GCallE P f ins obs R:=⟨h.1,λM w ρ vs h1 h2 h3 h4 h5 h6=>(h.2 M w ρ vs h1 h2 h3 h4 h5 h6).mono λe w' ⟨h7,h8⟩=>⟨h7,i,h8⟩⟩
section
variable {P:Program}{N:Nat}{M0:Nat→Prop}{w0:Base}{ops:Array Oper}{Q:Exit→ASt→Prop}{o:Oper}{l:List Oper}{st:ASt}
theorem gcallE_at {ι:Type}{f:FuncId}{ins:List SV}{obs:Obs}{obs':ι→Obs}{res:ι→SV}{pm:Pm}{nw:List (Nat×Nat)}{d:Nat}{a:Act}{w:World}{ρ:Rho}{vs:List Value}(hG:GCallE P f ins obs λi=>some (obs' i,res i)) (hsim:SimR N M0 w0 st ρ a w) (hd:o.dst=some d) (hN:d<N) (hg:o.guard=none)
  (hpre:PreO st (nmOf pm) obs) (hB:∀i,nmB obs (obs' i) pm nw=true) (hb1:(obs.all λp=>(lookR pm p.1).isSome)=true) (hb5:nodupB (pm.map (·.2.1))=true) (hrun:(execOp a.eval o).run P w=.ok (.enter f vs.toArray) w) (hargs:ARep (Mt M0 ρ st.ob) w ρ (ins.map (SV.ren (nmOf pm))) vs)
  (h:∀i G,Al P N M0 w0 ops Q l ((st.aft pm (obs' i) (nm2 pm nw G)).set d ((res i).ren (nm2 pm nw G)))):wpList P ops (QL N M0 w0 Q) (o::l) a w:=by
 obtain⟨l1,l2,l3,l4,l5⟩:=hsim.lent ⟨hpre,λp hp=>List.all_eq_true.1 hb1 p hp⟩ hb5
 have hcall:=hG.2 (Mt M0 ρ st.ob) w (pull (nmOf pm) ρ) vs hsim.mt_lt (nmOf_bnd hsim.gens) hargs.ren l1 l2 l3
 refine wpList_plain hg λK hK=>wp_upon ?_
 rw[hrun]
 refine hcall.mono λe w' ⟨hx,ix,v,he,ho⟩=>⟨v,he,?_⟩
 obtain⟨G,ρ',hs',hr'⟩:=hsim.aft hpre (hB ix) hx ho
 refine hK _ _ ((h ix G).out _ _ ⟨ρ',?_⟩)
 rw[hd]
 exact hs'.set hN hr'
theorem Al_gcallE {ι:Type}{f:FuncId}{ins:List SV}{obs:Obs}{obs':ι→Obs}{res:ι→SV}(pm:Pm) (nw:List (Nat×Nat)) {d:Nat}{xs:List Operand}{ts:Array TypeId}(hG:GCallE P f ins obs λi=>some (obs' i,res i)) (ho:o.op=.call ⟨.value (.func f),xs.toArray,ts⟩) (hg:o.guard=none) (hd:o.dst=some d) (hN:d<N) (hc:conB o=true)
  (hpre:PreO st (nmOf pm) obs) (hB:∀i,nmB obs (obs' i) pm nw=true) (hb1:(obs.all λp=>(lookR pm p.1).isSome)=true) (hb5:nodupB (pm.map (·.2.1))=true) (ha:ArgsS st xs (ins.map (SV.ren (nmOf pm))))
  (h:∀i G,Al P N M0 w0 ops Q l ((st.aft pm (obs' i) (nm2 pm nw G)).set d ((res i).ren (nm2 pm nw G)))):Al P N M0 w0 ops Q (o::l) st:=by
 refine⟨?_⟩
 rintro a w ⟨ρ,hsim⟩
 have hev:=λy hy=>hsim.ev hc y (mem_call ho y hy)
 refine gcallE_at hG hsim hd hN hg hpre hB hb1 hb5 (vs:=xs.map a.eval) ?_ (ha.rep λx hx=>hev x (by simpa using hx)) h
 simp only[execOp,ho,resolve,Act.eval,Deferred.ofValue,invoke,Sem.run_bind,Sem.run_pure,Result.andThen_ok]
 rw[hG.1]
 congr 2
 apply Array.ext'
 simp
end
theorem GCallE_enter {P:Program}{ι:Type}{f:FuncId}{fn:Func}{c:Code}{N:Nat}{ins:List SV}{obs:Obs}{R:ι→Option (Obs×SV)}{rs:ASt→SV→Prop}(hcf:∀(vs:Array Value) (w:World),(callFunc f vs).run P w=.ok (.enter f vs) w) (hf:P.funcs[f]?=some fn) (hb:fn.body=some c) (hN:fn.ntmps=N) (hr:ReadsS P fn rs) (hn:ins.length≤N)
  (h:(∀a,SV.d a∈ins→okA a)→(∀k T cs a,(k,AO.box T cs)∈obs→SV.d a∈cs→okA a)→∀M0 w0,Aw P N M0 w0 c (λe st=>∃i,RtO rs obs (R i) e st) (mk (argSS 0 ins) (lookO1 obs))):GCallE P f ins obs R:=⟨hcf,λM w ρ vs hM hbnd ha hobs hfps hap=>by
 have hokI:∀a,SV.d a∈ins→okA a:=λa hm=>by
  obtain⟨j,hj,e⟩:=List.getElem_of_mem hm
  have hj':j<vs.length:=by rw[ha.1];exact hj
  exact⟨M,w,vs[j],ha.2 j (.d a) _ (by rw[List.getElem?_eq_getElem hj,e]) (List.getElem?_eq_getElem hj')⟩
 have hokB:∀k T cs a,(k,AO.box T cs)∈obs→SV.d a∈cs→okA a:=λk T cs a hm ha=>by
  obtain⟨y,_,b,xs,rfl,_,_,hsz,hcs⟩:=hobs _ hm
  obtain⟨j,hj,e⟩:=List.getElem_of_mem ha
  have hj':j<xs.size:=by rw[hsz];exact hj
  exact⟨M,w,xs[j],(hcs j (.d a) _ (by rw[List.getElem?_eq_getElem hj,e]) (Array.getElem?_eq_getElem hj')).1⟩
 have hMt:∀b,Mt M ρ (mk (argSS 0 ins) (lookO1 obs)).ob b→M b:=λb hb=>by
  rcases hb with hb|⟨k,g,o,x,h1,h2,h3⟩
  ·exact hb
  ·obtain⟨rfl,hm⟩:=lookO1_mem h1
   exact hfps b ⟨_,hm,x,h2,h3⟩
 have hsim:SimR N M ⟨w,fps ρ obs,[],pins ρ obs⟩ (mk (argSS 0 ins) (lookO1 obs)) ρ {tmps:=vs.toArray++Array.replicate (N - vs.toArray.size) undef,defers:=[]} w:={
  size:=by have:=ha.1;simp;omega
  defers:=rfl
  slot:=λi=>by
   have e:=argSS_get ins 0 i
   rw[Nat.zero_add]at e
   show SRep _ _ _ (lookS (argSS 0 ins) i) _
   rw[e]
   cases h:ins[i]? with
   | none=>trivial
   | some s =>
    have hi:i<vs.length:=by rw[ha.1];exact(List.getElem?_eq_some_iff.1 h).1
    show SRep _ _ _ s ((vs.toArray++Array.replicate (N - vs.toArray.size) undef).getD i undef)
    have e2:(vs.toArray++Array.replicate (N - vs.toArray.size) undef).getD i undef=vs[i]:=by
     simp[Array.getD_eq_getD_getElem?,Array.getElem?_append,hi]
    rw[e2]
    exact(ha.2 i s vs[i] h (by simp[hi])).mono (Known.sub hMt)
  obj:=λk g o h=>by
   obtain⟨rfl,hm⟩:=lookO1_mem h
   obtain⟨y,h1,h2⟩:=hobs _ hm
   exact⟨y,h1,(h2.mono (Known.sub hMt) λ_ _=>rfl).base λb hb=>.inr ⟨_,hm,y,h1,hb⟩⟩
  apart:=λk g o k' g' o' x x' b h h' h1 h2 h3 h4=>by
   obtain⟨rfl,hm⟩:=lookO1_mem h
   obtain⟨rfl,hm'⟩:=lookO1_mem h'
   exact hap _ hm _ hm' x x' b h1 h2 h3 h4
  gens:=hbnd
  base:=hM
  ext:=⟨rfl,rfl,rfl,Nat.le_refl _,λ_ _ _=>rfl⟩
  pin:=λk g v hv=>by
   have:(bif Nat.beq g 0&&obs.any (λp=>Nat.beq p.1 k)then ρ k g else none)=some v:=hv
   revert this
   cases(Nat.beq g 0&&obs.any (λp=>Nat.beq p.1 k))with
   | true=>exact id
   | false=>intro h;cases h}
 refine calls_of_wp hf hb ?_
 rw[hN]
 refine wp_mono ((h hokI hokB M ⟨w,fps ρ obs,[],pins ρ obs⟩).out _ _ ⟨_,hsim⟩) λe a' w' ⟨st,⟨ix,h1⟩,ρF,h2⟩=>?_
 have hext:ExtL ⟨w,fps ρ obs,[],λ_ _=>none⟩ w':=⟨h2.ext.os,h2.ext.tape,h2.ext.output,h2.ext.size,h2.ext.block⟩
 have key:(∃(obs':Obs) (res:SV) (mp:Pm),R ix=some (obs',res)∧rs st (res.ren (nmOf mp))∧PreO st (nmOf mp) obs'∧(nodupB (obs'.map λp=>(nmOf mp p.1 0).1)&&nodupB (obs'.map (·.1))&&obs.all λp=>!(lookR mp p.1).isSome)=true)→a'.defers=[]∧∃v,(results fn a'.tmps).run P w'=.ok v w'∧(ExtL ⟨w,fps ρ obs,[],λ_ _=>none⟩ w'∧∃ix,GPost M w ρ obs w' (.returned v) (R ix)):=λ⟨obs',res,mp,hR,hrs,hpo,hchk⟩=>by
  simp only[Bool.and_eq_true]at hchk
  obtain⟨⟨c1,c2⟩,c3⟩:=hchk
  obtain⟨v,k1,k2⟩:=hr.out h2 hrs
  refine⟨h2.defers,v,k1,hext,ix,?_⟩
  rw[hR]
  refine⟨v,rfl,pull (nmOf mp) ρF,nmOf_bnd h2.gens,λp hp=>?_,λp hp=>?_,λp hp q hq x x' b h1 h2' h3 h4=>?_,?_⟩
  ·have h5:=List.all_eq_true.1 c3 p hp
   have h6:lookR mp p.1=none:=by simpa using h5
   have e:nmOf mp p.1 0=(p.1,0):=by simp[nmOf,h6]
   show ρF (nmOf mp p.1 0).1 (nmOf mp p.1 0).2=_
   rw[e]
   obtain⟨y,h7,_⟩:=hobs p hp
   rw[h7]
   refine h2.pin _ _ _ ?_
   show(bif Nat.beq 0 0&&obs.any (λq=>Nat.beq q.1 p.1)then ρ p.1 0 else none)=some y
   have:obs.any (λq=>Nat.beq q.1 p.1)=true:=List.any_eq_true.2 ⟨p,hp,by simp⟩
   rw[this];exact h7
  ·obtain⟨y,h5,h6⟩:=h2.obj _ _ _ (hpo.get p hp)
   refine⟨y,h5,((ORep.ren.1 h6).mono (Known.sub λb hb=>?_) λ_ _=>rfl).base λb hb=>(h6.blk_lt (fpO.ren.2 hb)).1⟩
   rcases hb with hb|⟨q,hq,z,h7,h8⟩
   ·exact .inl hb
   ·exact .inr ⟨_,_,_,z,hpo.get q hq,h7,fpO.ren.2 h8⟩
  ·have:=h2.apart _ _ _ _ _ _ x x' b (hpo.get p hp) (hpo.get q hq) h1 h2' (fpO.ren.2 h3) (fpO.ren.2 h4)
   rw[nodupB.inj c1 p hp q hq this]
  ·refine(SRep.ren.1 k2).mono (Known.sub λb hb=>?_)
   rcases hb with hb|⟨q,hq,z,h7,h8⟩
   ·exact .inl hb
   ·exact .inr ⟨_,_,_,z,hpo.get q hq,h7,fpO.ren.2 h8⟩
 cases e with
 | normal=>exact key h1
 | ret=>exact key h1
 | panic ch =>
  obtain⟨hR,pv,rfl⟩:=h1
  exact⟨h2.defers,hext,ix,by rw[hR];exact⟨pv,rfl⟩⟩
 | _=>exact h1.elim⟩
theorem GC_E {P:Program}{ι:Type}{f:FuncId}{fn:Func}{c:Code}{N:Nat}{ins:List SV}{obs:Obs}{R:ι→Option (Obs×SV)}{rs:ASt→SV→Prop}(hf:P.funcs[f]?=some fn) (hN:fn.ntmps=N) (hr:ReadsS P fn rs) (h:(∀a,SV.d a∈ins→okA a)→(∀k T cs a,(k,AO.box T cs)∈obs→SV.d a∈cs→okA a)→∀M0 w0,Aw P N M0 w0 c (λe st=>∃i,RtO rs obs (R i) e st) (mk (argSS 0 ins) (lookO1 obs))) (hcf:∀(vs:Array Value) (w:World),(callFunc f vs).run P w=.ok (.enter f vs) w:=by intro _ _;kernel_rfl) (hb:fn.body=some c:=by rfl) (hn:ins.length≤N:=by exact Nat.le_of_ble_eq_true rfl):GCallE P f ins obs R:=GCallE_enter (hcf:=hcf) (hf:=hf) (hb:=hb) (hN:=hN) (hr:=hr) (hn:=hn) (h:=h)
end Go.Proofs.YtdnijgdmohinlaaGreat.A
namespace Go.Proofs.YtdnijgdmohinlaaGreat.A
open Go Go.RowKit
theorem GCallE_enterL {P:Program}{ι:Type}{f:FuncId}{fn:Func}{c:Code}{N:Nat}{ins:List SV}{obs:Obs}{R:ι→Option (Obs×SV)}{rs:ASt→SV→Prop}(hcf:∀(vs:Array Value) (w:World),(callFunc f vs).run P w=.ok (.enter f vs) w) (hf:P.funcs[f]?=some fn) (hb:fn.body=some c) (hN:fn.ntmps=N) (hr:ReadsS P fn rs) (hn:ins.length≤N)
  (h:(∀a,SV.d a∈ins→okA a)→(∀k T cs a,(k,AO.box T cs)∈obs→SV.d a∈cs→okA a)→∀M0 w0,(∀b,w0.l b→∃p∈obs,∃h,w0.p p.1 0=some h∧fpO p.2 h b)→Aw P N M0 w0 c (λe st=>∃i,RtO rs obs (R i) e st) (mk (argSS 0 ins) (lookO1 obs))):GCallE P f ins obs R:=⟨hcf,λM w ρ vs hM hbnd ha hobs hfps hap=>by
 have hokI:∀a,SV.d a∈ins→okA a:=λa hm=>by
  obtain⟨j,hj,e⟩:=List.getElem_of_mem hm
  have hj':j<vs.length:=by rw[ha.1];exact hj
  exact⟨M,w,vs[j],ha.2 j (.d a) _ (by rw[List.getElem?_eq_getElem hj,e]) (List.getElem?_eq_getElem hj')⟩
 have hokB:∀k T cs a,(k,AO.box T cs)∈obs→SV.d a∈cs→okA a:=λk T cs a hm ha=>by
  obtain⟨y,_,b,xs,rfl,_,_,hsz,hcs⟩:=hobs _ hm
  obtain⟨j,hj,e⟩:=List.getElem_of_mem ha
  have hj':j<xs.size:=by rw[hsz];exact hj
  exact⟨M,w,xs[j],(hcs j (.d a) _ (by rw[List.getElem?_eq_getElem hj,e]) (Array.getElem?_eq_getElem hj')).1⟩
 have hlent:∀b,fps ρ obs b→∃p∈obs,∃h,pins ρ obs p.1 0=some h∧fpO p.2 h b:=λb ⟨p,hp,h,h1,h2⟩=>⟨p,hp,h,by
  have:obs.any (λq=>Nat.beq q.1 p.1)=true:=List.any_eq_true.2 ⟨p,hp,by simp⟩
  show(bif Nat.beq 0 0&&obs.any (λq=>Nat.beq q.1 p.1)then ρ p.1 0 else none)=some h
  rw[this];exact h1,h2⟩
 have hMt:∀b,Mt M ρ (mk (argSS 0 ins) (lookO1 obs)).ob b→M b:=λb hb=>by
  rcases hb with hb|⟨k,g,o,x,h1,h2,h3⟩
  ·exact hb
  ·obtain⟨rfl,hm⟩:=lookO1_mem h1
   exact hfps b ⟨_,hm,x,h2,h3⟩
 have hsim:SimR N M ⟨w,fps ρ obs,[],pins ρ obs⟩ (mk (argSS 0 ins) (lookO1 obs)) ρ {tmps:=vs.toArray++Array.replicate (N - vs.toArray.size) undef,defers:=[]} w:={
  size:=by have:=ha.1;simp;omega
  defers:=rfl
  slot:=λi=>by
   have e:=argSS_get ins 0 i
   rw[Nat.zero_add]at e
   show SRep _ _ _ (lookS (argSS 0 ins) i) _
   rw[e]
   cases h:ins[i]? with
   | none=>trivial
   | some s =>
    have hi:i<vs.length:=by rw[ha.1];exact(List.getElem?_eq_some_iff.1 h).1
    show SRep _ _ _ s ((vs.toArray++Array.replicate (N - vs.toArray.size) undef).getD i undef)
    have e2:(vs.toArray++Array.replicate (N - vs.toArray.size) undef).getD i undef=vs[i]:=by
     simp[Array.getD_eq_getD_getElem?,Array.getElem?_append,hi]
    rw[e2]
    exact(ha.2 i s vs[i] h (by simp[hi])).mono (Known.sub hMt)
  obj:=λk g o h=>by
   obtain⟨rfl,hm⟩:=lookO1_mem h
   obtain⟨y,h1,h2⟩:=hobs _ hm
   exact⟨y,h1,(h2.mono (Known.sub hMt) λ_ _=>rfl).base λb hb=>.inr ⟨_,hm,y,h1,hb⟩⟩
  apart:=λk g o k' g' o' x x' b h h' h1 h2 h3 h4=>by
   obtain⟨rfl,hm⟩:=lookO1_mem h
   obtain⟨rfl,hm'⟩:=lookO1_mem h'
   exact hap _ hm _ hm' x x' b h1 h2 h3 h4
  gens:=hbnd
  base:=hM
  ext:=⟨rfl,rfl,rfl,Nat.le_refl _,λ_ _ _=>rfl⟩
  pin:=λk g v hv=>by
   have:(bif Nat.beq g 0&&obs.any (λp=>Nat.beq p.1 k)then ρ k g else none)=some v:=hv
   revert this
   cases(Nat.beq g 0&&obs.any (λp=>Nat.beq p.1 k))with
   | true=>exact id
   | false=>intro h;cases h}
 refine calls_of_wp hf hb ?_
 rw[hN]
 refine wp_mono ((h hokI hokB M ⟨w,fps ρ obs,[],pins ρ obs⟩ hlent).out _ _ ⟨_,hsim⟩) λe a' w' ⟨st,⟨ix,h1⟩,ρF,h2⟩=>?_
 have hext:ExtL ⟨w,fps ρ obs,[],λ_ _=>none⟩ w':=⟨h2.ext.os,h2.ext.tape,h2.ext.output,h2.ext.size,h2.ext.block⟩
 have key:(∃(obs':Obs) (res:SV) (mp:Pm),R ix=some (obs',res)∧rs st (res.ren (nmOf mp))∧PreO st (nmOf mp) obs'∧(nodupB (obs'.map λp=>(nmOf mp p.1 0).1)&&nodupB (obs'.map (·.1))&&obs.all λp=>!(lookR mp p.1).isSome)=true)→a'.defers=[]∧∃v,(results fn a'.tmps).run P w'=.ok v w'∧(ExtL ⟨w,fps ρ obs,[],λ_ _=>none⟩ w'∧∃ix,GPost M w ρ obs w' (.returned v) (R ix)):=λ⟨obs',res,mp,hR,hrs,hpo,hchk⟩=>by
  simp only[Bool.and_eq_true]at hchk
  obtain⟨⟨c1,c2⟩,c3⟩:=hchk
  obtain⟨v,k1,k2⟩:=hr.out h2 hrs
  refine⟨h2.defers,v,k1,hext,ix,?_⟩
  rw[hR]
  refine⟨v,rfl,pull (nmOf mp) ρF,nmOf_bnd h2.gens,λp hp=>?_,λp hp=>?_,λp hp q hq x x' b h1 h2' h3 h4=>?_,?_⟩
  ·have h5:=List.all_eq_true.1 c3 p hp
   have h6:lookR mp p.1=none:=by simpa using h5
   have e:nmOf mp p.1 0=(p.1,0):=by simp[nmOf,h6]
   show ρF (nmOf mp p.1 0).1 (nmOf mp p.1 0).2=_
   rw[e]
   obtain⟨y,h7,_⟩:=hobs p hp
   rw[h7]
   refine h2.pin _ _ _ ?_
   show(bif Nat.beq 0 0&&obs.any (λq=>Nat.beq q.1 p.1)then ρ p.1 0 else none)=some y
   have:obs.any (λq=>Nat.beq q.1 p.1)=true:=List.any_eq_true.2 ⟨p,hp,by simp⟩
   rw[this];exact h7
  ·obtain⟨y,h5,h6⟩:=h2.obj _ _ _ (hpo.get p hp)
   refine⟨y,h5,((ORep.ren.1 h6).mono (Known.sub λb hb=>?_) λ_ _=>rfl).base λb hb=>(h6.blk_lt (fpO.ren.2 hb)).1⟩
   rcases hb with hb|⟨q,hq,z,h7,h8⟩
   ·exact .inl hb
   ·exact .inr ⟨_,_,_,z,hpo.get q hq,h7,fpO.ren.2 h8⟩
  ·have:=h2.apart _ _ _ _ _ _ x x' b (hpo.get p hp) (hpo.get q hq) h1 h2' (fpO.ren.2 h3) (fpO.ren.2 h4)
   rw[nodupB.inj c1 p hp q hq this]
  ·refine(SRep.ren.1 k2).mono (Known.sub λb hb=>?_)
   rcases hb with hb|⟨q,hq,z,h7,h8⟩
   ·exact .inl hb
   ·exact .inr ⟨_,_,_,z,hpo.get q hq,h7,fpO.ren.2 h8⟩
 cases e with
 | normal=>exact key h1
 | ret=>exact key h1
 | panic ch =>
  obtain⟨hR,pv,rfl⟩:=h1
  exact⟨h2.defers,hext,ix,by rw[hR];exact⟨pv,rfl⟩⟩
 | _=>exact h1.elim⟩
theorem GC_EL {P:Program}{ι:Type}{f:FuncId}{fn:Func}{c:Code}{N:Nat}{ins:List SV}{obs:Obs}{R:ι→Option (Obs×SV)}{rs:ASt→SV→Prop}(hf:P.funcs[f]?=some fn) (hN:fn.ntmps=N) (hr:ReadsS P fn rs) (h:(∀a,SV.d a∈ins→okA a)→(∀k T cs a,(k,AO.box T cs)∈obs→SV.d a∈cs→okA a)→∀M0 w0,(∀b,w0.l b→∃p∈obs,∃h,w0.p p.1 0=some h∧fpO p.2 h b)→Aw P N M0 w0 c (λe st=>∃i,RtO rs obs (R i) e st) (mk (argSS 0 ins) (lookO1 obs))) (hcf:∀(vs:Array Value) (w:World),(callFunc f vs).run P w=.ok (.enter f vs) w:=by intro _ _;kernel_rfl) (hb:fn.body=some c:=by rfl) (hn:ins.length≤N:=by exact Nat.le_of_ble_eq_true rfl):GCallE P f ins obs R:=GCallE_enterL (hcf:=hcf) (hf:=hf) (hb:=hb) (hN:=hN) (hr:=hr) (hn:=hn) (h:=h)
theorem GCallE.one {P:Program}{f:FuncId}{ins:List SV}{obs:Obs}{R:Option (Obs×SV)}(h:GCallE P f ins obs (λ_:Unit=>R)):GCall P f ins obs R:=⟨h.1,λM w ρ vs h1 h2 h3 h4 h5 h6=>(h.2 M w ρ vs h1 h2 h3 h4 h5 h6).mono λ_ _ ⟨h7,_,h8⟩=>⟨h7,h8⟩⟩
theorem GCall_enterL {P:Program}{f:FuncId}{fn:Func}{c:Code}{N:Nat}{ins:List SV}{obs:Obs}{R:Option (Obs×SV)}{rs:ASt→SV→Prop}(hcf:∀(vs:Array Value) (w:World),(callFunc f vs).run P w=.ok (.enter f vs) w) (hf:P.funcs[f]?=some fn) (hb:fn.body=some c) (hN:fn.ntmps=N) (hr:ReadsS P fn rs) (hn:ins.length≤N)
  (h:(∀a,SV.d a∈ins→okA a)→(∀k T cs a,(k,AO.box T cs)∈obs→SV.d a∈cs→okA a)→∀M0 w0,(∀b,w0.l b→∃p∈obs,∃h,w0.p p.1 0=some h∧fpO p.2 h b)→Aw P N M0 w0 c (RtO rs obs R) (mk (argSS 0 ins) (lookO1 obs))):GCall P f ins obs R :=
 GCallE.one (GCallE_enterL hcf hf hb hN hr hn λh1 h2 M0 w0 hl=>Aw_mono (h h1 h2 M0 w0 hl) λ_ _ h3=>⟨(),h3⟩)
theorem GC_L {P:Program}{f:FuncId}{fn:Func}{c:Code}{N:Nat}{ins:List SV}{obs:Obs}{R:Option (Obs×SV)}{rs:ASt→SV→Prop}(hf:P.funcs[f]?=some fn) (hN:fn.ntmps=N) (hr:ReadsS P fn rs) (h:(∀a,SV.d a∈ins→okA a)→(∀k T cs a,(k,AO.box T cs)∈obs→SV.d a∈cs→okA a)→∀M0 w0,(∀b,w0.l b→∃p∈obs,∃h,w0.p p.1 0=some h∧fpO p.2 h b)→Aw P N M0 w0 c (RtO rs obs R) (mk (argSS 0 ins) (lookO1 obs))) (hcf:∀(vs:Array Value) (w:World),(callFunc f vs).run P w=.ok (.enter f vs) w:=by intro _ _;kernel_rfl) (hb:fn.body=some c:=by rfl) (hn:ins.length≤N:=by exact Nat.le_of_ble_eq_true rfl):GCall P f ins obs R:=GCall_enterL (hcf:=hcf) (hf:=hf) (hb:=hb) (hN:=hN) (hr:=hr) (hn:=hn) (h:=h)
section
variable {P:Program}{N:Nat}{M0:Nat→Prop}{w0:Base}{ops:Array Oper}{Q:Exit→ASt→Prop}{o:Oper}{l:List Oper}{st:ASt}
def Still (st:ASt) (k:Nat):Obs→Prop
 | []=>True
 | p::r=>Nat.beq k p.1=false∧(∃o',st.ob p.1=some (0,o')∧∀h b,fpO p.2 h b→fpO o' h b)∧Still st k r
theorem Still.get {k:Nat}:∀{obs:Obs},Still st k obs→∀p∈obs,k≠p.1∧∃o',st.ob p.1=some (0,o')∧∀h b,fpO p.2 h b→fpO o' h b
 | [],_,p,hp=>by cases hp
 | q::r,⟨h1,h2,h3⟩,p,hp=>by
  rcases List.mem_cons.1 hp with rfl|hp
  ·exact⟨λe=>by rw[e]at h1;simp at h1,h2⟩
  ·exact h3.get p hp
theorem lentL_apart {k g:Nat}{ob:AO}{obs:Obs}(hl:∀b,w0.l b→∃p∈obs,∃h,w0.p p.1 0=some h∧fpO p.2 h b) (hob:st.ob k=some (g,ob)) (hst:Still st k obs) (a:Act) (w:World) (ρ:Rho) (hs:SimR N M0 w0 st ρ a w):∀v b,ρ k g=some v→fpO ob v b→¬w0.l b:=λv b hv hb hlb=>by
 obtain⟨p,hp,h,h1,h2⟩:=hl b hlb
 obtain⟨hne,o',h3,h4⟩:=hst.get p hp
 exact hne (hs.apart k g _ p.1 0 _ v h b hob h3 hv (hs.pin _ _ _ h1) hb (h4 _ _ h2))
theorem le_frzL {k g:Nat}{T:TypeId}{n:Nat}{rows:List (List AV)}{obs:Obs}(hl:∀b,w0.l b→∃p∈obs,∃h,w0.p p.1 0=some h∧fpO p.2 h b) (is:List Nat) (hob:st.ob k=some (g,.arr T n rows)) (hst:Still st k obs) (his:AllOw st k g is):Le N M0 w0 st (st.frz k is (.sl n rows)):=λa w ⟨ρ,hs⟩=>⟨ρ,(hs.frz (λv b hv hb=>lentL_apart hl hob hst a w ρ hs v b hv hb) is hob his).1⟩
theorem Aw_frzL {c:Code}{k g:Nat}{T:TypeId}{n:Nat}{rows:List (List AV)}{obs:Obs}(hl:∀b,w0.l b→∃p∈obs,∃h,w0.p p.1 0=some h∧fpO p.2 h b) (is:List Nat) (hob:st.ob k=some (g,.arr T n rows)) (hst:Still st k obs) (his:AllOw st k g is) (h:Aw P N M0 w0 c Q (st.frz k is (.sl n rows))):Aw P N M0 w0 c Q st:=Aw_le (le_frzL hl is hob hst his) h
theorem Al_frzL {k g:Nat}{T:TypeId}{n:Nat}{rows:List (List AV)}{obs:Obs}(hl:∀b,w0.l b→∃p∈obs,∃h,w0.p p.1 0=some h∧fpO p.2 h b) (is:List Nat) (hob:st.ob k=some (g,.arr T n rows)) (hst:Still st k obs) (his:AllOw st k g is) (h:Al P N M0 w0 ops Q l (st.frz k is (.sl n rows))):Al P N M0 w0 ops Q l st:=Al_le (le_frzL hl is hob hst his) h
theorem Pu_eqnilb {t yt:TypeId}{x:Operand}{k g off:Nat}{e:TypeId}(ht:P.underlying t=some (.pointer e)) (ho:o.op=.binOp .eql t x (.const (.pointer none)) yt) (hx:st.ev x=.bx k g off):Pu P st o (.d (.v (.bool false))):=Pu_q λB M ρ w a h2 h3=>by
 have hm:=h2 x (by simp[opsOf,ho,Op.operands])
 rw[hx]at hm
 obtain⟨y,b,h4,h5,h6⟩:=hm
 refine⟨.bool false,?_,.v _ trivial⟩
 have hc:a.eval (.const (.pointer none))=.pointer none:=rfl
 have hp:P.underlying t=some (.pointer (P.pointee t)):=by rw[ht];simp[Program.pointee,ht]
 have key:(do eqGuard .eql t x (.const (.pointer none)) (.pointer (some ⟨b,off,none⟩)) (.pointer none);binOp .eql t (.pointer (some ⟨b,off,none⟩)) (.pointer none):Sem Value).run P w=.ok (.bool false) w:=by simp[go_sem,eqGuard,run_eql_pointer_nil w t _ hp,run_neq_pointer_nil w t _ hp]
 simp only[execOp,ho,h6,hc,Sem.run_bind,Sem.run_pure]at key ⊢
 rw[key];rfl
theorem Pu_neqnilb {t yt:TypeId}{x:Operand}{k g off:Nat}{e:TypeId}(ht:P.underlying t=some (.pointer e)) (ho:o.op=.binOp .neq t x (.const (.pointer none)) yt) (hx:st.ev x=.bx k g off):Pu P st o (.d (.v (.bool true))):=Pu_q λB M ρ w a h2 h3=>by
 have hm:=h2 x (by simp[opsOf,ho,Op.operands])
 rw[hx]at hm
 obtain⟨y,b,h4,h5,h6⟩:=hm
 refine⟨.bool true,?_,.v _ trivial⟩
 have hc:a.eval (.const (.pointer none))=.pointer none:=rfl
 have hp:P.underlying t=some (.pointer (P.pointee t)):=by rw[ht];simp[Program.pointee,ht]
 have key:(do eqGuard .neq t x (.const (.pointer none)) (.pointer (some ⟨b,off,none⟩)) (.pointer none);binOp .neq t (.pointer (some ⟨b,off,none⟩)) (.pointer none):Sem Value).run P w=.ok (.bool true) w:=by simp[go_sem,eqGuard,run_eql_pointer_nil w t _ hp,run_neq_pointer_nil w t _ hp]
 simp only[execOp,ho,h6,hc,Sem.run_bind,Sem.run_pure]at key ⊢
 rw[key];rfl
theorem nodup_len {α:Type}:∀(l m:List α),l.Nodup→(∀x∈l,x∈m)→l.length≤m.length
 | [],m,_,_=>Nat.zero_le _
 | x::r,m,hn,hm=>by
  obtain⟨s,t,rfl⟩:=List.append_of_mem (hm x (List.mem_cons_self ..))
  have hc:=List.nodup_cons.1 hn
  have:=nodup_len r (s++t) hc.2 λy hy=>by
   have h1:=hm y (List.mem_cons_of_mem _ hy)
   simp only[List.mem_append,List.mem_cons]at h1 ⊢
   rcases h1 with h|rfl|h
   ·exact .inl h
   ·exact(hc.1 hy).elim
   ·exact .inr h
  simp only[List.length_append,List.length_cons]at *
  omega
theorem le_mapT {κ α:Type}{kv:κ→Value}{ok:κ→Prop}{enc:α→AV}{b n n' k g:Nat}{m m':κ→Option α}(ks:List κ) (hob:st.ob k=some (g,.op (mapO kv ok enc b n m))) (hm:m=m') (hks:∀c,(m' c).isSome=true→c∈ks) (hn:ks.length=n'):Le N M0 w0 st (st.put k g (.op (mapO kv ok enc b n' m'))):=by
 rintro a w ⟨ρ,hs⟩
 subst hm
 obtain⟨y,hy,hF,rfl,es,clock,h1,h2,h3,h4,h5⟩:=hs.obj k g _ hob
 have hsz:es.size≤n':=by
  have hnd:(es.toList.map (·.key)).Nodup:=List.pairwise_map.2 ((MapKept.stamped_iff es clock).1 h2).2.2
  have:=nodup_len (es.toList.map (·.key)) (ks.map kv) hnd λx hx=>by
   obtain⟨e,he,rfl⟩:=List.mem_map.1 hx
   obtain⟨c,v,_,hk,hc,_⟩:=h4 e he
   rw[hk]
   exact List.mem_map_of_mem (hks c (by rw[hc];rfl))
  simp at this
  omega
 exact⟨ρ,hs.mod hob hy ⟨rfl,rfl,rfl⟩ (Nat.le_refl _) (λ_ _ _=>rfl) (λM' hK hle=>⟨hF,rfl,es,clock,h1,h2,hsz,λe he=>by
  obtain⟨c,v,g1,g2,g3,g4⟩:=h4 e he
  exact⟨c,v,g1,g2,g3,g4.mono hK⟩,h5⟩) (λc hc=>hc)⟩
theorem Al_mapT {κ α:Type}{kv:κ→Value}{ok:κ→Prop}{enc:α→AV}{b n n' k g:Nat}{m m':κ→Option α}(ks:List κ) (hob:st.ob k=some (g,.op (mapO kv ok enc b n m))) (hm:m=m') (hks:∀c,(m' c).isSome=true→c∈ks) (hn:ks.length=n') (h:Al P N M0 w0 ops Q l (st.put k g (.op (mapO kv ok enc b n' m')))):Al P N M0 w0 ops Q l st:=Al_le (le_mapT ks hob hm hks hn) h
def ResN1S (r n r':Nat) (st:ASt) (res:SV):Prop:=∃a,res=.d a∧ResN1 r n r' st a
theorem ReadsS.cN1 {fn:Func}{r t n r':Nat}(h:fn.results=#[.cell r t,.tmp r']) (ht:∀w,(isAgg t).run P w=.ok true w) (hz:∀w,(sizeOf t).run P w=.ok n w):ReadsS P fn (ResN1S r n r'):=⟨λ{N M0 w0 st ρ a w res} hs ⟨res',hres,k,g,off,T,cs,rw',b,h1,h2,h3,h4,h5,h6⟩=>by
 subst hres
 have hm:=hs.slot r
 rw[h1]at hm
 obtain⟨y,b',k1,k2,k3⟩:=hm
 obtain⟨y',k4,hO⟩:=hs.obj k g _ h2
 rw[k1]at k4;cases k4
 obtain⟨v,k5,k6⟩:=loadvarN ht hz hO k2 h3 h4
 refine⟨.tuple #[v,a.tmps.getD r' undef],?_,?_⟩
 ·have ha:(asAddr (a.tmps.getD r undef)).run P w=.ok ⟨b',off,none⟩ w:=by rw[k3];rfl
  rw[Array.getD_eq_getD_getElem?]at ha
  simp[results,h,Sem.run_bind,ha,k5,Array.getD_eq_getD_getElem?]
 ·rw[h6]
  exact .tup _ [_,_] rfl λj c x h7 h8=>by
   match j with
   | 0=>simp at h7 h8;subst h7 h8;exact k6
   | 1=>simp at h7 h8;subst h7 h8;rw[←Array.getD_eq_getD_getElem?];exact h5 _ _ _ _ (hs.slot r')
   | j+2=>simp at h7⟩
end
end Go.Proofs.YtdnijgdmohinlaaGreat.A
namespace Go.Proofs.YtdnijgdmohinlaaGreat.A
open Go Go.RowKit
section
variable {P:Program}{N:Nat}{M0:Nat→Prop}{w0:Base}{ops:Array Oper}{Q:Exit→ASt→Prop}{o:Oper}{l:List Oper}{st:ASt}
end
end Go.Proofs.YtdnijgdmohinlaaGreat.A
end
section
namespace Go.Proofs.YtdnijgdmohinlaaGreat.A
open Go Go.RowKit
def cvIn (ks:List Nat):CV→Bool
 | .d _=>true
 | .bx k g _=>ks.contains k&&Nat.beq g 0
 | .ow k g=>ks.contains k&&Nat.beq g 0
 | .eq _=>true
def svIn (ks:List Nat):SV→Bool
 | .any=>true
 | .d _=>true
 | .bx k g _=>ks.contains k&&Nat.beq g 0
 | .ow k g=>ks.contains k&&Nat.beq g 0
 | .ifb _ s=>svIn ks s
 | .fnb _ a b=>a.all (cvIn ks)&&b.all (cvIn ks)
 | .tp l=>l.all (cvIn ks)
 | .ag l=>l.all (cvIn ks)
 | .psl l=>l.all (cvIn ks)
 | .pc c=>cvIn ks c
 | .ows k g _ _ _=>ks.contains k&&Nat.beq g 0
 | .slc _ _=>true
 | .eq _=>true
section
variable {M:Nat→Prop}{w:World}{ρ ρ':Rho}{ks:List Nat}
theorem name_eq (h:∀k∈ks,ρ' k 0=ρ k 0) {k g:Nat}(hb:(ks.contains k&&Nat.beq g 0)=true):ρ' k g=ρ k g:=by
 simp only[Bool.and_eq_true]at hb
 have h1:g=0:=Nat.eq_of_beq_eq_true hb.2
 subst h1
 exact h k (by simpa using hb.1)
theorem cvIn_rep (h:∀k∈ks,ρ' k 0=ρ k 0) {c:CV}{x:Value}(hb:cvIn ks c=true) (hr:CRep M w ρ' c x):CRep M w ρ c x:=by
 cases c with
 | d a=>exact hr
 | bx k g off =>
  obtain⟨y,b,h1,h2⟩:=hr
  exact⟨y,b,by rw[←name_eq h hb];exact h1,h2⟩
 | ow k g=>exact⟨by rw[←name_eq h hb];exact hr.1,hr.2⟩
 | eq v=>exact hr
theorem cvsIn_rep (h:∀k∈ks,ρ' k 0=ρ k 0) {l:List CV}{vs:List Value}(hb:l.all (cvIn ks)=true) (hr:CReps M w ρ' l vs):CReps M w ρ l vs :=
 ⟨hr.1,λj c x h1 h2=>cvIn_rep h (List.all_eq_true.1 hb c (List.mem_of_getElem? h1)) (hr.2 j c x h1 h2)⟩
theorem svIn_rep (h:∀k∈ks,ρ' k 0=ρ k 0):∀{s:SV}{x:Value},svIn ks s=true→SRep M w ρ' s x→SRep M w ρ s x
 | .any,_,_,_=>trivial
 | .d _,_,_,hr=>hr
 | .bx k g off,x,hb,⟨y,b,h1,h2⟩=>⟨y,b,by rw[←name_eq h hb];exact h1,h2⟩
 | .ow k g,x,hb,hr=>⟨by rw[←name_eq h hb];exact hr.1,hr.2⟩
 | .ifb p s,x,hb,hr=>⟨λhp=>svIn_rep h (s:=s) hb (hr.1 hp),hr.2⟩
 | .fnb f a b,x,hb,⟨us,vs,h1,h2,h3⟩=>by
  simp only[svIn,Bool.and_eq_true]at hb
  exact⟨us,vs,h1,cvsIn_rep h hb.1 h2,cvsIn_rep h hb.2 h3⟩
 | .tp l,x,hb,⟨vs,h1,h2⟩=>⟨vs,h1,cvsIn_rep h hb h2⟩
 | .ag l,x,hb,⟨vs,h1,h0,h2⟩=>⟨vs,h1,h0,cvsIn_rep h hb h2⟩
 | .psl l,x,hb,⟨b,o,cap,h1,h2,h3,h4⟩=>⟨b,o,cap,h1,h2,h3,λj c hj=>by
   obtain⟨k1,v,k2,k3,k4⟩:=h4 j c hj
   exact⟨k1,v,k2,k3,cvIn_rep h (List.all_eq_true.1 hb c (List.mem_of_getElem? hj)) k4⟩⟩
 | .pc c,x,hb,⟨b,o,v,h1,h2,h3,h4,h5⟩=>⟨b,o,v,h1,h2,h3,h4,cvIn_rep h hb h5⟩
 | .ows k g n lo hi,x,hb,⟨ad,len,c,a,h1,h2⟩=>⟨ad,len,c,a,by rw[←name_eq h hb];exact h1,h2⟩
 | .slc n rows,x,_,hr=>hr
 | .eq v,x,_,hr=>hr
end
def aoIn (ks:List Nat):AO→Prop
 | .box _ cs=>cs.all (svIn ks)=true
 | .arr _ _ _=>True
 | .op I=>∀(M:Nat→Prop) (w:World) (ρ ρ':Rho) (h:Value),I.I M w ρ' h→I.I M w ρ h
def ObsIn (ks:List Nat):Obs→Prop
 | []=>True
 | p::r=>aoIn ks p.2∧ObsIn ks r
theorem ObsIn.get {ks:List Nat}:∀{obs:Obs},ObsIn ks obs→∀p∈obs,aoIn ks p.2
 | [],_,p,h=>by cases h
 | q::r,h,p,hp=>by
  rcases List.mem_cons.1 hp with rfl|hp
  ·exact h.1
  ·exact h.2.get p hp
theorem aoIn_rep {B:Base}{M:Nat→Prop}{w:World}{ρ ρ':Rho}{ks:List Nat}(h:∀k∈ks,ρ' k 0=ρ k 0) {o:AO}{x:Value}(hb:aoIn ks o) (hr:ORep B M w ρ' x o):ORep B M w ρ x o:=by
 cases o with
 | box T cs =>
  obtain⟨b,vs,h1,h2,h3,h4,h5⟩:=hr
  exact⟨b,vs,h1,h2,h3,h4,λj s y hj hy=>⟨svIn_rep h (List.all_eq_true.1 hb s (List.mem_of_getElem? hj)) (h5 j s y hj hy).1,(h5 j s y hj hy).2⟩⟩
 | arr T n rows=>exact hr
 | op I=>exact⟨hr.1,hb _ _ _ _ _ hr.2⟩
def gkB (obs:Obs) (pm:Pm) (res:SV):Bool:=(obs.all λp=>(lookR pm p.1).isSome)&&nodupB (pm.map (·.2.1))&&nodupB (obs.map (·.1))&&svIn (obs.map (·.1)) res&&(pm.all λq=>obs.any λp=>Nat.beq p.1 q.1)&&nodupB (pm.map (·.1))
section
variable {P:Program}{st:ASt}{o:Oper}
theorem env_lent {B:Base}{M:Nat→Prop}{ρ:Rho}{w:World}(hev:Env M ρ st.ob) (h3:∀k g ob,st.ob k=some (g,ob)→∃h,ρ k g=some h∧ORep B M w ρ h ob) {obs:Obs}{pm:Pm}(hl:Lent st ρ obs pm) (hd1:nodupB (pm.map (·.2.1))=true) :
  Objs ⟨w,λ_=>True,[],λ_ _=>none⟩ M w (pull (nmOf pm) ρ) obs∧(∀b,fps (pull (nmOf pm) ρ) obs b→M b)∧Apart (pull (nmOf pm) ρ) obs ∧
  (∀b,fps (pull (nmOf pm) ρ) obs b→∃k g ob h,st.ob k=some (g,ob)∧ρ k g=some h∧fpO ob h b∧∃p∈obs,∃g',(p.1,k,g')∈pm):=by
 refine⟨λp hp=>?_,λb hb=>?_,λp hp q hq h h' b h1 h2 h3 h4=>?_,λb hb=>?_⟩
 ·obtain⟨k,g,e,_,hob⟩:=hl.key hp
  obtain⟨h,h1,h2⟩:=h3 k g _ hob
  refine⟨h,by show ρ (nmOf pm p.1 0).1 (nmOf pm p.1 0).2=_;rw[e];exact h1,(ORep.ren.1 h2).base λb _=>.inr trivial⟩
 ·obtain⟨p,hp,h,h1,h2⟩:=hb
  obtain⟨k,g,e,_,hob⟩:=hl.key hp
  have h1':ρ (nmOf pm p.1 0).1 (nmOf pm p.1 0).2=some h:=h1
  rw[e]at h1'
  exact hev.inM k g _ h b hob h1' (fpO.ren.2 h2)
 ·obtain⟨k,g,e,hm,hob⟩:=hl.key hp
  obtain⟨k',g',e',hm',hob'⟩:=hl.key hq
  have h1':ρ (nmOf pm p.1 0).1 (nmOf pm p.1 0).2=some h:=h1
  have h2':ρ (nmOf pm q.1 0).1 (nmOf pm q.1 0).2=some h':=h2
  rw[e]at h1'
  rw[e']at h2'
  have hk:=hev.apart k g _ k' g' _ h h' b hob hob' h1' h2' (fpO.ren.2 h3) (fpO.ren.2 h4)
  have:=nodupB.inj hd1 _ hm _ hm' hk
  simp only[Prod.mk.injEq]at this
  exact this.1
 ·obtain⟨p,hp,h,h1,h2⟩:=hb
  obtain⟨k,g,e,hm,hob⟩:=hl.key hp
  have h1':ρ (nmOf pm p.1 0).1 (nmOf pm p.1 0).2=some h:=h1
  rw[e]at h1'
  exact⟨k,g,_,h,hob,h1',fpO.ren.2 h2,p,hp,g,hm⟩
theorem fps_eq {ρ ρ':Rho}{obs:Obs}(h:∀p∈obs,ρ' p.1 0=ρ p.1 0) (b:Nat):fps ρ' obs b↔fps ρ obs b :=
 ⟨λ⟨p,hp,x,h1,h2⟩=>⟨p,hp,x,by rw[←h p hp];exact h1,h2⟩,λ⟨p,hp,x,h1,h2⟩=>⟨p,hp,x,by rw[h p hp];exact h1,h2⟩⟩
theorem kn_out {B:Base}{M:Nat→Prop}{ρ:Rho}{w w':World}(hev:Env M ρ st.ob) (h3:∀k g ob,st.ob k=some (g,ob)→∃h,ρ k g=some h∧ORep B M w ρ h ob) {obs:Obs}{pm:Pm}{res:SV}{v:Value}(hpre:PreO st (nmOf pm) obs) (hB:gkB obs pm res=true) (hin:ObsIn (obs.map (·.1)) obs) (hx:ExtL ⟨w,fps (pull (nmOf pm) ρ) obs,[],λ_ _=>none⟩ w') (ho:GOut M w (pull (nmOf pm) ρ) obs w' obs res v):Kn B M ρ st.ob w w'∧SRep M w' ρ (res.ren (nmOf pm)) v:=by
 simp only[gkB,Bool.and_eq_true]at hB
 obtain⟨⟨⟨⟨⟨hb1,hb2⟩,hb3⟩,hb4⟩,hb5⟩,hb6⟩:=hB
 have hlent:Lent st ρ obs pm:=⟨hpre,λp hp=>List.all_eq_true.1 hb1 p hp⟩
 obtain⟨l1,l2,l3,l4⟩:=env_lent hev h3 hlent hb2
 obtain⟨ρ',_,hsame,hobj,_,hres⟩:=ho
 have hks:∀k∈obs.map (·.1),ρ' k 0=pull (nmOf pm) ρ k 0:=λk hk=>by
  obtain⟨p,hp,rfl⟩:=List.mem_map.1 hk
  exact hsame p hp
 have hM:∀b,(M b∨fps ρ' obs b)→M b:=λb hb=>hb.elim id λh=>l2 b ((fps_eq hsame b).1 h)
 have hkn:∀b,b<w.heap.size→¬fps (pull (nmOf pm) ρ) obs b→w'.heap[b]?=w.heap[b]?:=λb hb hn=>hx.block b hb hn
 refine⟨⟨hx.os,hx.tape,hx.output,hx.size,λb hb hn=>hkn b hb λhf=>?_,λk g ob h hk hh hO=>?_⟩,?_⟩
 ·obtain⟨k,g,ob,h,k1,k2,k3,_⟩:=l4 b hf
  exact hn k g ob h k1 k2 k3
 ·by_cases hin2:∃p∈obs,(nmOf pm p.1 0).1=k
  ·obtain⟨p,hp,hpk⟩:=hin2
   obtain⟨k',g',e,hm,hob⟩:=hlent.key hp
   rw[e]at hpk
   simp only at hpk
   subst hpk
   rw[hk]at hob
   cases hob
   obtain⟨h',h4,h5⟩:=hobj p hp
   have h6:ρ' p.1 0=ρ (nmOf pm p.1 0).1 (nmOf pm p.1 0).2:=hsame p hp
   rw[e,hh,h4]at h6
   cases h6
   have h7:=aoIn_rep (ρ:=pull (nmOf pm) ρ) hks (hin.get p hp) h5
   refine(ORep.ren.2 (h7.mono (Known.sub λc hc=>.inl hc) λ_ _=>rfl)).base λb hb=>?_
   exact(hO.blk_lt hb).1
  ·refine hO.mono (λb hb hm=>⟨hm,hkn b hb λhf=>hm (l2 b hf)⟩) λb hb=>hkn b (hO.blk_lt hb).2 λhf=>?_
   obtain⟨k2,g2,ob2,h2,j1,j2,j3,p,hp,g',hm⟩:=l4 b hf
   have hkk:=hev.apart _ _ _ _ _ _ _ _ b j1 hk j2 hh j3 hb
   subst hkk
   obtain⟨k',g'',e,hm',_⟩:=hlent.key hp
   refine hin2 ⟨p,hp,?_⟩
   rw[e]
   have:=nodupB.inj hb6 _ hm _ hm' rfl
   simp only[Prod.mk.injEq]at this
   exact this.2.1.symm
 ·exact SRep.ren.2 ((svIn_rep (ρ:=pull (nmOf pm) ρ) hks hb4 hres).mono (Known.sub λb hb=>.inl hb))
theorem Pu_gcall {f:FuncId}{ins:List SV}{obs:Obs}{res:SV}(pm:Pm) {xs:List Operand}{ts:Array TypeId}(hG:GCall P f ins obs (some (obs,res))) (hin:ObsIn (obs.map (·.1)) obs) (ho:o.op=.call ⟨.value (.func f),xs.toArray,ts⟩) (hpre:PreO st (nmOf pm) obs) (hB:gkB obs pm res=true) (ha:ArgsS st xs (ins.map (SV.ren (nmOf pm)))):Pu P st o (res.ren (nmOf pm)):=λB M ρ w a hM h2 h3 hev K hK=>by
 have hB':=hB
 simp only[gkB,Bool.and_eq_true]at hB'
 obtain⟨⟨⟨⟨⟨hb1,hb2⟩,_⟩,_⟩,_⟩,_⟩:=hB'
 have hlent:Lent st ρ obs pm:=⟨hpre,λp hp=>List.all_eq_true.1 hb1 p hp⟩
 obtain⟨l1,l2,l3,_⟩:=env_lent hev h3 hlent hb2
 have hargs:=ha.rep (a:=a) λx hx=>h2 x (mem_call ho x (by simpa using hx))
 have hcall:=hG.2 M w (pull (nmOf pm) ρ) (xs.map a.eval) hM (nmOf_bnd hev.bnd) hargs.ren l1 l2 l3
 have hrun:(execOp a.eval o).run P w=.ok (.enter f (xs.map a.eval).toArray) w:=by
  simp only[execOp,ho,resolve,Act.eval,Deferred.ofValue,invoke,Sem.run_bind,Sem.run_pure,Result.andThen_ok]
  rw[hG.1]
  congr 2
  apply Array.ext'
  simp
 rw[hrun]
 refine hcall.mono λe w' ⟨hx,v,he,hout⟩=>⟨v,he,?_⟩
 obtain⟨k1,k2⟩:=kn_out hev h3 hpre hB hin hx hout
 exact hK v w' k1 k2
end
end Go.Proofs.YtdnijgdmohinlaaGreat.A
namespace Go.Proofs.YtdnijgdmohinlaaGreat.A
open Go Go.RowKit
section
variable {P:Program}
def ResN2 (r n r' r'':Nat) (st:ASt) (res:AV):Prop:=∃k g off T cs rw a b,st.sl r=.bx k g off∧st.ob k=some (g,.box T cs)∧(cs.drop off).take n=rw.map .d∧rw.length=n∧Sub (st.sl r') (.d a)∧Sub (st.sl r'') (.d b)∧res=.tup [.row rw,a,b]
theorem out_cN2 {N:Nat}{M0:Nat→Prop}{w0:Base}{st:ASt}{ρ:Rho}{ac:Act}{w:World}{res:AV}{fn:Func}{r t n r' r'':Nat}(h:fn.results=#[.cell r t,.tmp r',.tmp r'']) (ht:∀w,(isAgg t).run P w=.ok true w) (hz:∀w,(sizeOf t).run P w=.ok n w) (hs:SimR N M0 w0 st ρ ac w) (hr:ResN2 r n r' r'' st res):∃v,(results fn ac.tmps).run P w=.ok v w∧Rep (Mt M0 ρ st.ob) w res v:=by
 obtain⟨k,g,off,T,cs,rw',a,b,h1,h2,h3,h4,h5,h5',h6⟩:=hr
 have hm:=hs.slot r
 rw[h1]at hm
 obtain⟨y,b',k1,k2,k3⟩:=hm
 obtain⟨y',k4,hO⟩:=hs.obj k g _ h2
 rw[k1]at k4;cases k4
 obtain⟨v,k5,k6⟩:=loadvarN ht hz hO k2 h3 h4
 refine⟨.tuple #[v,ac.tmps.getD r' undef,ac.tmps.getD r'' undef],?_,?_⟩
 ·have ha:(asAddr (ac.tmps.getD r undef)).run P w=.ok ⟨b',off,none⟩ w:=by rw[k3];rfl
  rw[Array.getD_eq_getD_getElem?]at ha
  simp[results,h,Sem.run_bind,ha,k5,Array.getD_eq_getD_getElem?]
 ·rw[h6]
  exact .tup _ [_,_,_] rfl λj c x h7 h8=>by
   match j with
   | 0=>simp at h7 h8;subst h7 h8;exact k6
   | 1=>simp at h7 h8;subst h7 h8;rw[←Array.getD_eq_getD_getElem?];exact h5 _ _ _ _ (hs.slot r')
   | 2=>simp at h7 h8;subst h7 h8;rw[←Array.getD_eq_getD_getElem?];exact h5' _ _ _ _ (hs.slot r'')
   | j+3=>simp at h7
theorem Reads.cN2 {fn:Func}{r t n r' r'':Nat}(h:fn.results=#[.cell r t,.tmp r',.tmp r'']) (ht:∀w,(isAgg t).run P w=.ok true w) (hz:∀w,(sizeOf t).run P w=.ok n w):Reads P fn (ResN2 r n r' r''):=⟨λ{N M0 w0 st ρ a w res} hs hr=>by
 obtain⟨v,h1,h2⟩:=out_cN2 h ht hz hs hr
 exact⟨v,h1,h2.mono (Known.sub λc hc=>.inl hc)⟩⟩
def ResN2S (r n r' r'':Nat) (st:ASt) (res:SV):Prop:=∃a,res=.d a∧ResN2 r n r' r'' st a
theorem ReadsS.cN2 {fn:Func}{r t n r' r'':Nat}(h:fn.results=#[.cell r t,.tmp r',.tmp r'']) (ht:∀w,(isAgg t).run P w=.ok true w) (hz:∀w,(sizeOf t).run P w=.ok n w):ReadsS P fn (ResN2S r n r' r''):=⟨λ{N M0 w0 st ρ a w res} hs ⟨res',hres,hr⟩=>by
 subst hres
 exact out_cN2 h ht hz hs hr⟩
def ResNS (r n:Nat) (st:ASt) (res:SV):Prop:=∃a,res=.d a∧ResN r n st a
theorem ReadsS.cN {fn:Func}{r t n:Nat}(h:fn.results=#[.cell r t]) (ht:∀w,(isAgg t).run P w=.ok true w) (hz:∀w,(sizeOf t).run P w=.ok n w):ReadsS P fn (ResNS r n):=⟨λ{N M0 w0 st ρ a w res} hs ⟨res',hres,k,g,off,T,cs,rw',h1,h2,h3,h4,h6⟩=>by
 subst hres
 have hm:=hs.slot r
 rw[h1]at hm
 obtain⟨y,b',k1,k2,k3⟩:=hm
 obtain⟨y',k4,hO⟩:=hs.obj k g _ h2
 rw[k1]at k4;cases k4
 obtain⟨v,k5,k6⟩:=loadvarN ht hz hO k2 h3 h4
 refine⟨v,?_,?_⟩
 ·have ha:(asAddr (a.tmps.getD r undef)).run P w=.ok ⟨b',off,none⟩ w:=by rw[k3];rfl
  rw[Array.getD_eq_getD_getElem?]at ha
  simp[results,h,Sem.run_bind,ha,k5]
 ·rw[h6];exact k6⟩
end
end Go.Proofs.YtdnijgdmohinlaaGreat.A
namespace Go.Proofs.YtdnijgdmohinlaaGreat.A
open Go Go.RowKit
theorem GCall.a {P:Program}{f:FuncId}{aa:List AV}{T:TypeId}{n k:Nat}{rows:List (List AV)}(h:GCall P f (aa.map .d) [] (some ([(k,.arr T n rows)],.ow k 0))):ACall P f aa (.sl n rows):=by
 refine⟨h.1,λM w vs hM ha=>?_⟩
 have h1:=h.2 M w (λ_ _=>none) vs hM ⟨0,λk g hh=>(hh rfl).elim⟩ ⟨by rw[List.length_map];exact ha.1,λj s x h1 h2=>by
  rw[List.getElem?_map]at h1
  obtain⟨a,h3,rfl⟩:=Option.map_eq_some_iff.1 h1
  exact ha.2 j a x h3 h2⟩ (λp hp=>by cases hp) (λb ⟨p,hp,_⟩=>by cases hp) (λp hp=>by cases hp)
 refine h1.mono λe w' ⟨hx,v,he,ρ',_,_,hobj,_,hres⟩=>?_
 have hne:∀b,¬fps (λ_ _=>none) ([]:Obs) b:=λb ⟨p,hp,_⟩=>by cases hp
 refine⟨v,he,⟨hx.os,hx.tape,hx.output,hx.size,λb hb=>hx.block b hb (hne b)⟩,?_⟩
 obtain⟨y,h4,h5⟩:=hobj _ (List.mem_cons_self ..)
 have h6:ρ' k 0=some v:=hres.1
 rw[h6]at h4;cases h4
 have hlt:∀b,blk v=some b→w.heap.size≤b:=λb hb=>h5.arr_lt hne hb
 exact h5.frz (Known.sub λb hb=>.inl hb) λb hb hm=>by
  have:=hlt b hb
  have:=hM b hm
  omega
end Go.Proofs.YtdnijgdmohinlaaGreat.A
end
section
namespace Go.Proofs.YtdnijgdmohinlaaGreat.A
open Go Go.RowKit
def hd (ρ:Rho):Value:=(ρ 1001 0).getD undef
section
variable {P:Program}{st:ASt}{o:Oper}
end
section
variable {P:Program}{N:Nat}{M0:Nat→Prop}{w0:Base}{ops:Array Oper}{Q:Exit→ASt→Prop}{o:Oper}{l:List Oper}{st:ASt}
end
theorem objs_mono {M M':Nat→Prop}{w w':World}{ρ:Rho}{obs:Obs}(k:Known M M' w w') (hb:∀b,fps ρ obs b→w'.heap[b]?=w.heap[b]?) (h:Objs ⟨w,λ_=>True,[],λ_ _=>none⟩ M w ρ obs):Objs ⟨w',λ_=>True,[],λ_ _=>none⟩ M' w' ρ obs:=λp hp=>by
 obtain⟨x,h1,h2⟩:=h p hp
 exact⟨x,h1,(h2.mono k λb hf=>hb b ⟨p,hp,x,h1,hf⟩).base λb _=>.inr trivial⟩
def starO (L:List (Rho×Obs)):OP where
 F:=λb=>∃e∈L,fps e.1 e.2 b
 I:=λM w _ _=>(∀e∈L,Objs ⟨w,λ_=>True,[],λ_ _=>none⟩ M w e.1 e.2∧Apart e.1 e.2∧Bnd e.1)∧L.Pairwise λ(e e':Rho×Obs)=>∀b,fps e.1 e.2 b→fps e'.1 e'.2 b→False
 mono:=λ{M M' w w' ρ h} k hb hI=>⟨λe he=>⟨objs_mono k (λb hf=>hb b ⟨e,he,hf⟩) (hI.1 e he).1,(hI.1 e he).2⟩,hI.2⟩
 rho:=λ_ h=>h
 lt:=λ{M w ρ h} hI b ⟨e,he,p,hp,x,h1,h2⟩=>by
  obtain⟨y,h3,h4⟩:=(hI.1 e he).1 p hp
  rw[h1]at h3;cases h3
  exact(h4.blk_lt h2).2
def Ghost (s:SV) (obs:Obs) {ι:Type}(obs':ι→Obs) (s':ι→SV):Prop :=
 ∀(M:Nat→Prop) (w:World) (ρ:Rho) (x:Value),(∀b,M b→b<w.heap.size)→Bnd ρ→SRep M w ρ s x→Objs ⟨w,λ_=>True,[],λ_ _=>none⟩ M w ρ obs→(∀b,fps ρ obs b→M b)→Apart ρ obs→∃i,GOut M w ρ obs w (obs' i) (s' i) x
section
variable {P:Program}{N:Nat}{M0:Nat→Prop}{w0:Base}{ops:Array Oper}{Q:Exit→ASt→Prop}{o:Oper}{l:List Oper}{st:ASt}
theorem le_ghost {ι:Type}{s:SV}{obs:Obs}{obs':ι→Obs}{s':ι→SV}(pm:Pm) (nw:List (Nat×Nat)) (j:Nat) (hG:Ghost s obs obs' s') (hj:Sub (st.sl j) (s.ren (nmOf pm))) (hpre:PreO st (nmOf pm) obs) (hB:∀i,nmB obs (obs' i) pm nw=true) (hb1:(obs.all λp=>(lookR pm p.1).isSome)=true) (hb5:nodupB (pm.map (·.2.1))=true) {X:Act→World→Prop}
  (h:∀i G,∀a w,Sim N M0 w0 ((st.aft pm (obs' i) (nm2 pm nw G)).set j ((s' i).ren (nm2 pm nw G))) a w→X a w):∀a w,Sim N M0 w0 st a w→X a w:=by
 rintro a w ⟨ρ,hsim⟩
 obtain⟨l1,l2,l3,l4,l5⟩:=hsim.lent ⟨hpre,λp hp=>List.all_eq_true.1 hb1 p hp⟩ hb5
 have hx:SRep (Mt M0 ρ st.ob) w (pull (nmOf pm) ρ) s (a.tmps.getD j undef):=SRep.ren.1 (hj _ _ _ _ (hsim.slot j))
 obtain⟨i,ho⟩:=hG (Mt M0 ρ st.ob) w (pull (nmOf pm) ρ) _ hsim.mt_lt (nmOf_bnd hsim.gens) hx l1 l2 l3
 obtain⟨G,ρ',hs',hr'⟩:=hsim.aft hpre (hB i) ⟨rfl,rfl,rfl,Nat.le_refl _,λ_ _ _=>rfl⟩ ho
 exact h i G a w ⟨ρ',hs'.tell hr'⟩
theorem Aw_ghost {ι:Type}{c:Code}{s:SV}{obs:Obs}{obs':ι→Obs}{s':ι→SV}(pm:Pm) (nw:List (Nat×Nat)) (j:Nat) (hG:Ghost s obs obs' s') (hj:Sub (st.sl j) (s.ren (nmOf pm))) (hpre:PreO st (nmOf pm) obs) (hB:∀i,nmB obs (obs' i) pm nw=true) (hb1:(obs.all λp=>(lookR pm p.1).isSome)=true) (hb5:nodupB (pm.map (·.2.1))=true)
 (h:∀i G,Aw P N M0 w0 c Q ((st.aft pm (obs' i) (nm2 pm nw G)).set j ((s' i).ren (nm2 pm nw G)))):Aw P N M0 w0 c Q st:=⟨le_ghost pm nw j hG hj hpre hB hb1 hb5 λi G a w hs=>(h i G).out a w hs⟩
theorem Al_ghost {ι:Type}{s:SV}{obs:Obs}{obs':ι→Obs}{s':ι→SV}(pm:Pm) (nw:List (Nat×Nat)) (j:Nat) (hG:Ghost s obs obs' s') (hj:Sub (st.sl j) (s.ren (nmOf pm))) (hpre:PreO st (nmOf pm) obs) (hB:∀i,nmB obs (obs' i) pm nw=true) (hb1:(obs.all λp=>(lookR pm p.1).isSome)=true) (hb5:nodupB (pm.map (·.2.1))=true)
 (h:∀i G,Al P N M0 w0 ops Q l ((st.aft pm (obs' i) (nm2 pm nw G)).set j ((s' i).ren (nm2 pm nw G)))):Al P N M0 w0 ops Q l st:=⟨le_ghost pm nw j hG hj hpre hB hb1 hb5 λi G a w hs=>(h i G).out a w hs⟩
end
theorem GCall.focus {P:Program}{f:FuncId}{rest:List AV}{obs obs':Obs}{res:AV}{T:TypeId}{cs:List SV}{ρe:Rho}{L:List (Rho×Obs)}{i:Nat}(h:GCall P f (.bx 1001 0 0::rest.map .d) obs (some (obs',.d res))) (hi:L[i]?=some (ρe,obs)) (h0:(1001,AO.box T cs)∈obs) (hk:obs'.map (·.1)=obs.map (·.1)) (hin:ObsIn (obs.map (·.1)) obs') :
  GCall P f (.eq (hd ρe)::rest.map .d) [(1001,.op (starO L))] (some ([(1001,.op (starO (L.set i (ρe,obs'))))],.d res)):=by
 refine⟨h.1,λM w ρ vs hM hbnd ha hobs hfps hap=>?_⟩
 obtain⟨hh,e1,hF,hI1,hI2⟩:=hobs _ (List.mem_cons_self ..)
 have hm:(ρe,obs)∈L:=List.mem_of_getElem? hi
 obtain⟨j1,j2,j3⟩:=hI1 _ hm
 obtain⟨y,k1',b,ys,rfl,_,k3,k4,k5⟩:=j1 _ h0
 have k1:ρe 1001 0=some (.pointer (some ⟨b,0,none⟩)):=k1'
 have hsub:∀b,fps ρe obs b→M b:=λb hb=>hfps b ⟨_,List.mem_cons_self ..,hh,e1,⟨_,hm,hb⟩⟩
 have hargs:ARep M w ρe (.bx 1001 0 0::rest.map .d) vs:=by
  refine⟨by rw[ha.1];simp,λj s x h1 h2=>?_⟩
  cases j with
  | zero =>
   have:=ha.2 0 _ x rfl h2
   simp only[List.getElem?_cons_zero,Option.some.injEq]at h1
   subst h1
   refine⟨_,b,k1,rfl,?_⟩
   rw[this.1];unfold hd;rw[k1];rfl
  | succ j =>
   have h1':(rest.map SV.d)[j]?=some s:=by simpa using h1
   have:=ha.2 (j+1) s x (by simpa using h1') h2
   rw[List.getElem?_map]at h1'
   obtain⟨r,_,rfl⟩:=Option.map_eq_some_iff.1 h1'
   exact this
 have hcall:=h.2 M w ρe vs hM j3 hargs j1 hsub j2
 refine hcall.mono λe w' ⟨hx,v,he,ρ',_,hsame,hobj,hap',hres⟩=>?_
 have hks:∀k∈obs.map (·.1),ρ' k 0=ρe k 0:=λk hk=>by
  obtain⟨p,hp,rfl⟩:=List.mem_map.1 hk
  exact hsame p hp
 have hks':∀p∈obs',ρ' p.1 0=ρe p.1 0:=λp hp=>hks _ (by rw[←hk];exact List.mem_map_of_mem hp)
 have hfe:∀b,fps ρ' obs' b↔fps ρe obs' b:=fps_eq hks'
 have hnew:∀b,fps ρe obs' b→w.heap.size≤b∨fps ρe obs b:=λb ⟨p,hp,x,h1,h2⟩=>by
  obtain⟨x',h3,h4⟩:=hobj p hp
  rw[hks' p hp,h1]at h3;cases h3
  exact(h4.blk_lt h2).1
 have hext:ExtL ⟨w,fps ρ [(1001,.op (starO L))],[],λ_ _=>none⟩ w':=⟨hx.os,hx.tape,hx.output,hx.size,λb hb hn=>hx.block b hb λhf=>hn ⟨_,List.mem_cons_self ..,hh,e1,⟨_,hm,hf⟩⟩⟩
 have hset:∀e'∈L.set i (ρe,obs'),e'=(ρe,obs')∨∃j,j≠i∧L[j]?=some e':=λe' he'=>by
  obtain⟨j,hj,rfl⟩:=List.getElem_of_mem he'
  rw[List.getElem_set]
  split
  ·exact .inl rfl
  ·rename_i hne
   exact .inr ⟨j,λe=>hne e.symm,List.getElem?_eq_getElem (by simpa using hj)⟩
 have hpw:=List.pairwise_iff_getElem.1 hI2
 have hdis:∀j e',j≠i→L[j]?=some e'→∀b,fps e'.1 e'.2 b→fps ρe obs b→False:=λj e' hne hj b h1 h2=>by
  obtain⟨hjl,hje⟩:=List.getElem?_eq_some_iff.1 hj
  obtain⟨hil,hie⟩:=List.getElem?_eq_some_iff.1 hi
  rcases Nat.lt_or_ge j i with hlt|hge
  ·have:=hpw j i hjl hil hlt b
   rw[hje,hie]at this
   exact this h1 h2
  ·have:=hpw i j hil hjl (by omega) b
   rw[hje,hie]at this
   exact this h2 h1
 have hltO:∀e'∈L,∀b,fps e'.1 e'.2 b→b<w.heap.size:=λe' he' b ⟨p,hp,x,h1,h2⟩=>by
  obtain⟨x',h3,h4⟩:=(hI1 e' he').1 p hp
  rw[h1]at h3;cases h3
  exact(h4.blk_lt h2).2
 have hkn:Known M (λb=>M b∨fps ρ [(1001,.op (starO (L.set i (ρe,obs'))))] b) w w':=λb hb hn=>by
  refine⟨?_,hx.block b hb λhf=>hn (hsub b hf)⟩
  intro hor
  rcases hor with h1|⟨p,hp,x,h1,h2⟩
  ·exact hn h1
  ·rcases List.mem_cons.1 hp with rfl|hp
   ·obtain⟨e',he',h2⟩:(starO (L.set i (ρe,obs'))).F b:=h2
    rcases hset e' he' with rfl|⟨j,_,hj⟩
    ·rcases hnew b h2 with h3|h3
     ·omega
     ·exact hn (hsub b h3)
    ·exact hn (hfps b ⟨_,List.mem_cons_self ..,hh,e1,⟨_,List.mem_of_getElem? hj,h2⟩⟩)
   ·cases hp
 refine⟨hext,v,he,ρ,hbnd,λp hp=>rfl,λp hp=>?_,λp hp q hq x x' b _ _ _ _=>?_,?_⟩
 ·rcases List.mem_cons.1 hp with rfl|hp
  ·refine⟨hh,e1,λb ⟨e',he',hb⟩=>?_,⟨λe' he'=>?_,?_⟩⟩
   ·rcases hset e' he' with rfl|⟨j,_,hj⟩
    ·rcases hnew b hb with h3|h3
     ·exact .inl h3
     ·exact .inr ⟨_,List.mem_cons_self ..,hh,e1,⟨_,hm,h3⟩⟩
    ·exact .inr ⟨_,List.mem_cons_self ..,hh,e1,⟨_,List.mem_of_getElem? hj,hb⟩⟩
   ·rcases hset e' he' with rfl|⟨j,hne,hj⟩
    ·refine⟨λp hp=>?_,λp hp q hq x x' b h1 h2 h3 h4=>?_,j3⟩
     ·obtain⟨x,h1,h2⟩:=hobj p hp
      refine⟨x,(hks' p hp).symm.trans h1,?_⟩
      refine(aoIn_rep (ρ:=ρe) hks (hin.get p hp) h2 |>.mono (Known.sub λc hc=>?_) λ_ _=>rfl).base λb _=>.inr trivial
      rcases hc with h3|⟨p',hp',x',h3,h4⟩
      ·exact .inl h3
      ·rcases List.mem_cons.1 hp' with rfl|hp'
       ·obtain⟨e2,he2,h4⟩:(starO (L.set i (ρe,obs'))).F c:=h4
        rcases hset e2 he2 with rfl|⟨j',_,hj'⟩
        ·exact .inr ((hfe c).2 h4)
        ·exact .inl (hfps c ⟨_,List.mem_cons_self ..,hh,e1,⟨_,List.mem_of_getElem? hj',h4⟩⟩)
       ·cases hp'
     ·exact hap' p hp q hq x x' b ((hks' p hp).trans h1) ((hks' q hq).trans h2) h3 h4
    ·have hme:e'∈L:=List.mem_of_getElem? hj
     obtain⟨m1,m2,m3⟩:=hI1 e' hme
     exact⟨objs_mono hkn (λb hb=>hx.block b (hltO e' hme b hb) λhf=>hdis j e' hne hj b hb hf) m1,m2,m3⟩
   ·rw[List.pairwise_iff_getElem]
    intro j j' hj hj' hlt b h1 h2
    have hj0:j<L.length:=by simpa using hj
    have hj0':j'<L.length:=by simpa using hj'
    rw[List.getElem_set]at h1 h2
    have hold:∀x (hx:x<L.length),x≠i→fps ρe obs' b→fps (L[x]).1 (L[x]).2 b→False:=λx hx hne h3 h4=>by
     rcases hnew b h3 with h5|h5
     ·have:=hltO _ (List.getElem_mem hx) b h4
      omega
     ·exact hdis x L[x] hne (List.getElem?_eq_getElem hx) b h4 h5
    split at h1<;>split at h2
    ·omega
    ·rename_i e1 e2
     exact hold j' hj0' (λe=>e2 e.symm) h1 h2
    ·rename_i e1 e2
     exact hold j hj0 (λe=>e1 e.symm) h2 h1
    ·exact hpw j j' hj0 hj0' hlt b h1 h2
  ·cases hp
 ·rcases List.mem_cons.1 hp with rfl|hp
  ·rcases List.mem_cons.1 hq with rfl|hq
   ·rfl
   ·cases hq
  ·cases hp
 ·refine SRep.mono (ρ:=ρ) (s:=.d res) (Known.sub λc hc=>?_) hres
  rcases hc with h3|⟨p',hp',x',h3,h4⟩
  ·exact .inl h3
  ·rcases List.mem_cons.1 hp' with rfl|hp'
   ·obtain⟨e2,he2,h4⟩:(starO (L.set i (ρe,obs'))).F c:=h4
    rcases hset e2 he2 with rfl|⟨j',_,hj'⟩
    ·exact .inr ((hfe c).2 h4)
    ·exact .inl (hfps c ⟨_,List.mem_cons_self ..,hh,e1,⟨_,List.mem_of_getElem? hj',h4⟩⟩)
   ·cases hp'
end Go.Proofs.YtdnijgdmohinlaaGreat.A
end
section
namespace Go.Proofs.YtdnijgdmohinlaaGreat.A
open Go Go.RowKit
theorem Sub.ve {v:Value}:Sub (.d (.v v)) (.eq v):=λM w ρ x h=>by
 obtain⟨h1,h2⟩:=rep_v h
 exact⟨h1,h2.one⟩
theorem GCallE.focus {P:Program}{f:FuncId}{rest:List AV}{obs:Obs}{ι:Type}{obs':ι→Obs}{res:ι→AV}{T:TypeId}{cs:List SV}{ρe:Rho}{L:List (Rho×Obs)}{i:Nat}(h:GCallE P f (.bx 1001 0 0::rest.map .d) obs λx=>some (obs' x,.d (res x))) (hi:L[i]?=some (ρe,obs)) (h0:(1001,AO.box T cs)∈obs) :
  GCallE P f (.eq (hd ρe)::rest.map .d) [(1001,.op (starO L))] (λx:ι×{ρn:Rho // hd ρn=hd ρe}=>some ([(1001,.op (starO (L.set i (x.2.1,obs' x.1))))],.d (res x.1))):=by
 refine⟨h.1,λM w ρ vs hM hbnd ha hobs hfps hap=>?_⟩
 obtain⟨hh,e1,hF,hI1,hI2⟩:=hobs _ (List.mem_cons_self ..)
 have hm:(ρe,obs)∈L:=List.mem_of_getElem? hi
 obtain⟨j1,j2,j3⟩:=hI1 _ hm
 obtain⟨y,k1',b,ys,rfl,_,k3,k4,k5⟩:=j1 _ h0
 have k1:ρe 1001 0=some (.pointer (some ⟨b,0,none⟩)):=k1'
 have hsub:∀b,fps ρe obs b→M b:=λb hb=>hfps b ⟨_,List.mem_cons_self ..,hh,e1,⟨_,hm,hb⟩⟩
 have hargs:ARep M w ρe (.bx 1001 0 0::rest.map .d) vs:=by
  refine⟨by rw[ha.1];simp,λj s x h1 h2=>?_⟩
  cases j with
  | zero =>
   have:=ha.2 0 _ x rfl h2
   simp only[List.getElem?_cons_zero,Option.some.injEq]at h1
   subst h1
   refine⟨_,b,k1,rfl,?_⟩
   rw[this.1];unfold hd;rw[k1];rfl
  | succ j =>
   have h1':(rest.map SV.d)[j]?=some s:=by simpa using h1
   have:=ha.2 (j+1) s x (by simpa using h1') h2
   rw[List.getElem?_map]at h1'
   obtain⟨r,_,rfl⟩:=Option.map_eq_some_iff.1 h1'
   exact this
 have hcall:=h.2 M w ρe vs hM j3 hargs j1 hsub j2
 refine hcall.mono λe w' ⟨hx,ix,v,he,ρ',hbnd',hsame,hobj,hap',hres⟩=>?_
 have hhd:hd ρ'=hd ρe:=by
  show(ρ' 1001 0).getD undef=(ρe 1001 0).getD undef
  rw[hsame _ h0]
 have hnew:∀b,fps ρ' (obs' ix) b→w.heap.size≤b∨fps ρe obs b:=λb ⟨p,hp,x,h1,h2⟩=>by
  obtain⟨x',h3,h4⟩:=hobj p hp
  rw[h1]at h3;cases h3
  exact(h4.blk_lt h2).1
 have hset:∀e'∈L.set i (ρ',obs' ix),e'=(ρ',obs' ix)∨∃j,j≠i∧L[j]?=some e':=λe' he'=>by
  obtain⟨j,hj,rfl⟩:=List.getElem_of_mem he'
  rw[List.getElem_set]
  split
  ·exact .inl rfl
  ·rename_i hne
   exact .inr ⟨j,λe=>hne e.symm,List.getElem?_eq_getElem (by simpa using hj)⟩
 have hpw:=List.pairwise_iff_getElem.1 hI2
 have hdis:∀j e',j≠i→L[j]?=some e'→∀b,fps e'.1 e'.2 b→fps ρe obs b→False:=λj e' hne hj b h1 h2=>by
  obtain⟨hjl,hje⟩:=List.getElem?_eq_some_iff.1 hj
  obtain⟨hil,hie⟩:=List.getElem?_eq_some_iff.1 hi
  rcases Nat.lt_or_ge j i with hlt|hge
  ·have:=hpw j i hjl hil hlt b
   rw[hje,hie]at this
   exact this h1 h2
  ·have:=hpw i j hil hjl (by omega) b
   rw[hje,hie]at this
   exact this h2 h1
 have hltO:∀e'∈L,∀b,fps e'.1 e'.2 b→b<w.heap.size:=λe' he' b ⟨p,hp,x,h1,h2⟩=>by
  obtain⟨x',h3,h4⟩:=(hI1 e' he').1 p hp
  rw[h1]at h3;cases h3
  exact(h4.blk_lt h2).2
 have hM2:∀c,(M c∨fps ρ [(1001,AO.op (starO (L.set i (ρ',obs' ix))))] c)→M c∨fps ρ' (obs' ix) c:=λc hc'=>by
  rcases hc' with h3|⟨p',hp',x',h3,h4⟩
  ·exact .inl h3
  ·rcases List.mem_cons.1 hp' with rfl|hp'
   ·obtain⟨e2,he2,h4⟩:(starO (L.set i (ρ',obs' ix))).F c:=h4
    rcases hset e2 he2 with rfl|⟨j',_,hj'⟩
    ·exact .inr h4
    ·exact .inl (hfps c ⟨_,List.mem_cons_self ..,hh,e1,⟨_,List.mem_of_getElem? hj',h4⟩⟩)
   ·cases hp'
 have hkn:Known M (λb=>M b∨fps ρ [(1001,.op (starO (L.set i (ρ',obs' ix))))] b) w w':=λb hb hn=>by
  refine⟨?_,hx.block b hb λhf=>hn (hsub b hf)⟩
  intro hor
  rcases hM2 b hor with h1|h1
  ·exact hn h1
  ·rcases hnew b h1 with h3|h3
   ·omega
   ·exact hn (hsub b h3)
 have hext:ExtL ⟨w,fps ρ [(1001,.op (starO L))],[],λ_ _=>none⟩ w':=⟨hx.os,hx.tape,hx.output,hx.size,λb hb hn=>hx.block b hb λhf=>hn ⟨_,List.mem_cons_self ..,hh,e1,⟨_,hm,hf⟩⟩⟩
 refine⟨hext,(ix,⟨ρ',hhd⟩),v,he,ρ,hbnd,λp hp=>rfl,λp hp=>?_,λp hp q hq x x' b _ _ _ _=>?_,?_⟩
 ·rcases List.mem_cons.1 hp with rfl|hp
  ·refine⟨hh,e1,λb ⟨e',he',hb⟩=>?_,⟨λe' he'=>?_,?_⟩⟩
   ·rcases hset e' he' with rfl|⟨j,_,hj⟩
    ·rcases hnew b hb with h3|h3
     ·exact .inl h3
     ·exact .inr ⟨_,List.mem_cons_self ..,hh,e1,⟨_,hm,h3⟩⟩
    ·exact .inr ⟨_,List.mem_cons_self ..,hh,e1,⟨_,List.mem_of_getElem? hj,hb⟩⟩
   ·rcases hset e' he' with rfl|⟨j,hne,hj⟩
    ·refine⟨λp hp=>?_,λp hp q hq x x' b h1 h2 h3 h4=>?_,hbnd'⟩
     ·obtain⟨x,h1,h2⟩:=hobj p hp
      exact⟨x,h1,(h2.mono (Known.sub hM2) λ_ _=>rfl).base λb _=>.inr trivial⟩
     ·exact hap' p hp q hq x x' b h1 h2 h3 h4
    ·have hme:e'∈L:=List.mem_of_getElem? hj
     obtain⟨m1,m2,m3⟩:=hI1 e' hme
     exact⟨objs_mono hkn (λb hb=>hx.block b (hltO e' hme b hb) λhf=>hdis j e' hne hj b hb hf) m1,m2,m3⟩
   ·rw[List.pairwise_iff_getElem]
    intro j j' hj hj' hlt b h1 h2
    have hj0:j<L.length:=by simpa using hj
    have hj0':j'<L.length:=by simpa using hj'
    rw[List.getElem_set]at h1 h2
    have hold:∀x (hx:x<L.length),x≠i→fps ρ' (obs' ix) b→fps (L[x]).1 (L[x]).2 b→False:=λx hx hne h3 h4=>by
     rcases hnew b h3 with h5|h5
     ·have:=hltO _ (List.getElem_mem hx) b h4
      omega
     ·exact hdis x L[x] hne (List.getElem?_eq_getElem hx) b h4 h5
    split at h1<;>split at h2
    ·omega
    ·rename_i e1 e2
     exact hold j' hj0' (λe=>e2 e.symm) h1 h2
    ·rename_i e1 e2
     exact hold j hj0 (λe=>e1 e.symm) h2 h1
    ·exact hpw j j' hj0 hj0' hlt b h1 h2
  ·cases hp
 ·rcases List.mem_cons.1 hp with rfl|hp
  ·rcases List.mem_cons.1 hq with rfl|hq
   ·rfl
   ·cases hq
  ·cases hp
 ·exact SRep.mono (ρ:=ρ) (s:=.d (res ix)) (Known.sub hM2) hres
end Go.Proofs.YtdnijgdmohinlaaGreat.A
end
section
namespace Go.Proofs.YtdnijgdmohinlaaGreat.A
open Go Go.RowKit
section
variable {P:Program}{N:Nat}{M0:Nat→Prop}{w0:Base}{ops:Array Oper}{Q:Exit→ASt→Prop}{o:Oper}{l:List Oper}{st:ASt}
theorem rep_take {M:Nat→Prop}{w:World}{n h:Nat}{rows:List (List AV)}{ad:Option Addr}{c:Nat}(hm:Rep M w (.sl n rows) (.slice ad rows.length c)) (hle:h≤rows.length):Rep M w (.sl n (rows.take h)) (.slice ad h h):=by
 rcases Nat.eq_zero_or_pos h with h0|h0
 ·subst h0
  rw[List.take_zero]
  exact .nil _ _ _
 ·have hlen:(rows.take h).length=h:=by simp;omega
  generalize hyy:Value.slice ad rows.length c=y at hm
  cases hm with
  | nil n a' c'=>simp at hle;omega
  | sl n rows b o' cap f hl hcap hn hcc hr =>
   simp only[Value.slice.injEq]at hyy
   obtain⟨rfl,_,rfl⟩:=hyy
   have:=Rep.sl (M:=M) (w:=w) n (rows.take h) b o' h f (by rw[hlen];omega) (by rw[hlen];exact Nat.le_refl _) (λi r hi=>hn i r (by rw[List.getElem?_take]at hi;split at hi;exact hi;cases hi)) (λi r j a hi ha=>hcc i r j a (by rw[List.getElem?_take]at hi;split at hi;exact hi;cases hi) ha) (λi r j a hi ha=>hr i r j a (by rw[List.getElem?_take]at hi;split at hi;exact hi;cases hi) ha)
   rw[hlen]at this
   exact this
theorem Pu_sub3 {t e:TypeId}{x hi mx:Operand}{n:Nat}{rows:List (List AV)}(h:Nat) (ho:o.op=.slice t x none (some hi) (some mx)) (ht:P.underlying t=some (.slice e)) (hz:∀w,(sizeOf e).run P w=.ok n w) (hx:st.ev x=.d (.sl n rows)) (hhi:∃z:Int,st.ev hi=.d (.v (.int .i64 z))∧z=h) (hmx:∃z:Int,st.ev mx=.d (.v (.int .i64 z))∧z=h) (hle:h≤rows.length):Pu P st o (.slc n (rows.take h)):=Pu_q λB M ρ w a h2 _=>by
 have hm:=h2 x (by simp[opsOf,ho,Op.operands])
 rw[hx]at hm
 have hcap:∃ad c,a.eval x=.slice ad rows.length c∧rows.length≤c:=by
  generalize a.eval x=y at hm
  cases hm with
  | nil n a c=>exact⟨_,_,rfl,by simp⟩
  | sl n rows b o' cap f hl hcap=>exact⟨_,_,rfl,hcap⟩
 obtain⟨ad,c,hy,hc⟩:=hcap
 obtain⟨z1,k1,k2⟩:=hhi
 obtain⟨z2,k3,k4⟩:=hmx
 have b1:=λc=>bnd_run (P:=P) (w:=w) (c:=c) (y:=h) (h2 hi (by simp[opsOf,ho,Op.operands])) k1 k2 (Nat.le_refl h)
 have b2:=λc'=>bnd_run (P:=P) (w:=w) (c:=c') (y:=c) (h2 mx (by simp[opsOf,ho,Op.operands])) k3 k4 (by omega:h≤c)
 refine⟨.slice ad h h,?_,?_⟩
 ·cases ad<;>simp[execOp,ho,hy,Instr.sliceAt,Sem.run_bind,run_underlying ht,Result.andThen_ok,Instr.slice,Instr.sliceBounds,b1,b2,hz,Sem.run_pure,Addr.add]
 ·rw[hy]at hm
  exact⟨rep_take hm hle,ad,h,rfl⟩
theorem rep_cells {M:Nat→Prop}{w:World}{n:Nat}{rows:List (List AV)}{y:Value}(hn:1≤n) (h2:Rep M w (.sl n rows) y):∃(us:List (List Value)) (ad:Option Addr) (c:Nat),y=.slice ad rows.length c∧rows.length≤c∧(∀r∈us,r.length=n)∧Rows M w n us rows∧(rows≠[]→∃b,ad=some b∧∀q u,us.flatten[q]?=some u→w.cell? (b.add q)=some u)∧∀u∈us.flatten,u.oneCell'=true:=by
 cases h2 with
 | nil n na nc=>exact⟨[],_,_,rfl,by simp,(λr hr=>by cases hr),⟨rfl,(λi r v h=>by simp at h)⟩,λh=>(h rfl).elim,λu hu=>by simp at hu⟩
 | sl n news b o' cap f hl hcap hn' hcc hr =>
  let us:List (List Value):=(List.range rows.length).map λi=>(List.range n).map λj=>f i j
  have hul:∀r∈us,r.length=n:=λr hr=>by
   simp only[us,List.mem_map]at hr
   obtain⟨i,_,rfl⟩:=hr
   simp
  have hus:∀i,i<rows.length→us[i]?=some ((List.range n).map λj=>f i j):=λi hi=>by
   simp[us,hi]
  have hcell:∀i,i<rows.length→∀j,j<n→∃r a,rows[i]?=some r∧r[j]?=some a:=λi hi j hj=>by
   have h5:(rows[i]'hi).length=n:=hn' i _ (by simp[hi])
   exact⟨rows[i],(rows[i]'hi)[j]'(by omega),by simp[hi],by simp[h5,hj]⟩
  have hrr:Rows M w n us rows:=by
   refine⟨by simp[us],λi r v h3 h4=>?_⟩
   have hi:i<rows.length:=(List.getElem?_eq_some_iff.1 h3).1
   rw[hus i hi]at h4
   simp only[Option.some.injEq]at h4
   subst h4
   refine⟨hn' i r h3,by simp,λj a x h5 h6=>?_⟩
   have hj:j<n:=by rw[←hn' i r h3];exact(List.getElem?_eq_some_iff.1 h5).1
   rw[List.getElem?_map,List.getElem?_range hj]at h6
   simp only[Option.map_some,Option.some.injEq]at h6
   subst h6
   exact⟨hr i r j a h3 h5,(hcc i r j a h3 h5).2.2⟩
  have hfl:∀q u,us.flatten[q]?=some u→∃i j r c,i<rows.length∧j<n∧q=i*n+j∧rows[i]?=some r∧r[j]?=some c∧u=f i j:=λq u hq=>by
   rw[flatten_get (by omega) us q hul]at hq
   obtain⟨r,h5,h6⟩:=Option.bind_eq_some_iff.1 hq
   have hi:q / n<rows.length:=by
    have:=(List.getElem?_eq_some_iff.1 h5).1
    simpa [us]using this
   have hj:q%n<n:=Nat.mod_lt _ (by omega)
   rw[hus _ hi]at h5
   simp only[Option.some.injEq]at h5
   subst h5
   rw[List.getElem?_map,List.getElem?_range hj]at h6
   simp only[Option.map_some,Option.some.injEq]at h6
   obtain⟨r,c,h7,h8⟩:=hcell _ hi _ hj
   exact⟨q / n,q%n,r,c,hi,hj,by rw[Nat.mul_comm];exact(Nat.div_add_mod q n).symm,h7,h8,h6.symm⟩
  refine⟨us,_,_,rfl,hcap,hul,hrr,λ_=>⟨_,rfl,λq u hq=>?_⟩,λu hu=>?_⟩
  ·obtain⟨i,j,r,c,hi,hj,rfl,h7,h8,rfl⟩:=hfl q u hq
   rw[add_addr,←Nat.add_assoc]
   exact(hcc i r j c h7 h8).2.1
  ·obtain⟨q,hq,rfl⟩:=List.getElem_of_mem hu
   obtain⟨i,j,r,c,hi,hj,_,h7,h8,h9⟩:=hfl q _ (by simp[hq]:us.flatten[q]?=some us.flatten[q])
   rw[h9]
   exact(hcc i r j c h7 h8).2.2
theorem rep_own {M:Nat→Prop}{w':World}{B n:Nat}{T:TypeId}{v:Value}{rows:List (List AV)}{us:List (List Value)}(hn:1≤n) (hM:∀b,M b→b<B) (ho:w'.ownsRow B T n v rows.length us.flatten) (hul:∀r∈us,r.length=n) (hr:Rows M w' n us rows) (h1:∀u∈us.flatten,u.oneCell'=true) (hlen:rows.length≤maxI):Rep M w' (.sl n rows) v:=by
 rcases ho.2 with⟨rfl,hz⟩|⟨gb,cap,cur,rfl,hbase,hgb,hnc,hcm,hcs,htk⟩
 ·rw[List.eq_nil_of_length_eq_zero hz]
  exact .nil _ _ _
 ·have hget:∀i j r c,rows[i]?=some r→r[j]?=some c→∃u,us.flatten[i*n+j]?=some u∧Rep M w' c u:=λi j r c h3 h4=>by
   have hi:i<us.length:=by rw[hr.1];exact(List.getElem?_eq_some_iff.1 h3).1
   obtain⟨k1,k2,k3⟩:=hr.2 i r us[i] h3 (by simp[hi])
   have hj:j<n:=by rw[←k1];exact(List.getElem?_eq_some_iff.1 h4).1
   have hj2:j<us[i].length:=by omega
   refine⟨us[i][j],?_,(k3 j c us[i][j] h4 (by simp[hj2])).1⟩
   rw[flatten_get (by omega) us _ hul]
   have e1:(i*n+j) / n=i:=by rw[Nat.mul_comm,Nat.mul_add_div (by omega),Nat.div_eq_of_lt hj];omega
   have e2:(i*n+j)%n=j:=by rw[Nat.mul_comm,Nat.mul_add_mod,Nat.mod_eq_of_lt hj]
   rw[e1,e2]
   simp[hi,hj2]
  refine .sl n rows gb 0 cap (λi j=>us.flatten.getD (i*n+j) undef) hlen hnc (λi r hi=>?_) (λi r j c h3 h4=>?_) (λi r j c h3 h4=>?_)
  ·have hi':i<us.length:=by rw[hr.1];exact(List.getElem?_eq_some_iff.1 hi).1
   exact(hr.2 i r us[i] hi (by simp[hi'])).1
  ·obtain⟨u,h5,h6⟩:=hget i j r c h3 h4
   refine⟨λhm=>by have:=hM _ hm;omega,?_,?_⟩
   ·rw[Lib.cell_of_heap hgb]
    have h7:us.flatten[i*n+j]?=some (us.flatten.getD (i*n+j) undef):=by rw[List.getD_eq_getElem?_getD,h5];rfl
    have hlt:i*n+j<us.flatten.length:=(List.getElem?_eq_some_iff.1 h5).1
    show cur[0+i*n+j]?=_
    rw[←h7,←htk,Nat.zero_add,List.getElem?_take,if_pos (by rw[←htk]at hlt;simp at hlt;omega),Array.getElem?_toList]
   ·rw[List.getD_eq_getElem?_getD,h5]
    exact h1 u (List.mem_of_getElem? h5)
  ·obtain⟨u,h5,h6⟩:=hget i j r c h3 h4
   rw[List.getD_eq_getElem?_getD,h5]
   exact h6
theorem rows_app {M:Nat→Prop}{w:World}{n:Nat}{us vs:List (List Value)}{rows news:List (List AV)}(h:Rows M w n us rows) (k:Rows M w n vs news):Rows M w n (us++vs) (rows++news):=⟨by rw[List.length_append,List.length_append,h.1,k.1],λi r u h1 h2=>by
 rcases Nat.lt_or_ge i rows.length with hi|hi
 ·rw[List.getElem?_append_left hi]at h1
  rw[List.getElem?_append_left (by rw[h.1];exact hi)]at h2
  exact h.2 i r u h1 h2
 ·rw[List.getElem?_append_right hi]at h1
  rw[List.getElem?_append_right (by rw[h.1];exact hi),h.1]at h2
  exact k.2 _ r u h1 h2⟩
theorem Pu_appendC {s x:Operand}{t T:TypeId}{n bytes:Nat}{rows news:List (List AV)}(ho:o.op=.call ⟨.builtin .append,#[s,x],#[t,t]⟩) (hT:R.ElemT P t T n bytes) (hn:1≤n) (hsz:∀w,(sizeOf T).run P w=.ok n w) (hs:st.ev s=.slc n rows) (hx:st.ev x=.d (.sl n news)) (hlen:rows.length+news.length≤4294967296) (hby:bytes≤32768):Pu P st o (.d (.sl n (rows++news))):=Pu_of λB M ρ w a hM h2 _=>by
 have h1:=h2 s (mem_call ho s (by simp))
 have h4:=h2 x (mem_call ho x (by simp))
 rw[hs]at h1
 rw[hx]at h4
 obtain⟨hr,ad,len,he⟩:=h1
 obtain⟨us,ad1,c1,e1,_,hul,hrows,hcell,hone⟩:=rep_cells hn hr
 obtain⟨vs,ad2,c2,e2,_,hvl,hvrows,hvcell,hvone⟩:=rep_cells hn h4
 have e3:=he.symm.trans e1
 simp only[Value.slice.injEq]at e3
 obtain⟨rfl,rfl,rfl⟩:=e3
 have hfull:∀v' w',(Builtin.append_ #[t,t] o.type #[a.eval s,a.eval x]).run P w=.ok v' w'→(execOp a.eval o).run P w=.ok (.value v') w':=λv' w' e=>by
  simp only[execOp,ho,resolve,invoke,builtin,Sem.run_bind,Sem.run_pure,Result.andThen_ok,List.map_toArray,List.map_cons,List.map_nil,e]
 by_cases hnil:news=[]
 ·subst hnil
  refine⟨_,w,hfull _ w ?_,Ev.Ext.refl _,by rw[List.append_nil];exact hr⟩
  rw[he,e2]
  cases ad<;>cases ad2<;>simp[Builtin.append_,run_underlying hT.ht,hsz,Builtin.lenOf,Builtin.firstCells,storeCells,loadCells,loadCellsFrom,Result.andThen]
 ·obtain⟨b2,rfl,hb2⟩:=hvcell hnil
  have hnl:0<news.length:=List.length_pos_iff.2 hnil
  obtain⟨ix,z,hi,hz,hsize,hbyt,hzs⟩:=hT.hi
  obtain⟨v',w',h3,h5,h6⟩:∃v' w',(Builtin.append_ #[t,t] o.type #[a.eval s,a.eval x]).run P w=.ok v' w'∧w'.ownsRow w.heap.size T n v' (rows.length+news.length) (us.flatten++vs.flatten)∧Ev.Ext w w':=by
   rw[he,e2]
   have hfl:∀(l:List (List Value)),(∀r∈l,r.length=n)→l.flatten.length=l.length*n:=λl hl=>flatten_len hl
   have hb1:(rows.length+news.length)*bytes≤140737488355328:=Nat.le_trans (Nat.mul_le_mul hlen hby) (by decide)
   cases ad with
   | none =>
    have hr0:rows=[]:=Classical.byContradiction λh=>by obtain⟨b,h5,_⟩:=hcell h;cases h5
    subst hr0
    have hu0:us=[]:=List.eq_nil_of_length_eq_zero hrows.1
    subst hu0
    obtain⟨v',w',k1,k2,k3,_⟩:=R.run_append (P:=P) w w.heap.size t o.type T n bytes hT hn (.slice none 0 0) 0 [] ⟨by simp,.inl ⟨rfl,rfl⟩⟩ b2 news.length c2 vs.flatten (by rw[hfl vs hvl,hvrows.1]) hb2 hvone (by unfold maxLen;simp at hlen;omega) (by simpa using hb1) (Nat.le_refl _)
    exact⟨v',w',k1,by simpa using k2,⟨k3.os,k3.tape,k3.output,k3.size,λk hk=>k3.block k hk (by simp[Value.ownBlock])⟩⟩
   | some b1 =>
    have hold:∀j u,us.flatten[j]?=some u→w.cell? (b1.add j)=some u:=λj u hj=>by
     by_cases hr0:rows=[]
     ·have hu0:us=[]:=List.eq_nil_of_length_eq_zero (by rw[hrows.1,hr0];rfl)
      rw[hu0]at hj;simp at hj
     ·obtain⟨b,h7,h8⟩:=hcell hr0
      cases h7
      exact h8 j u hj
    obtain⟨v',w',k1,k2,k3⟩:=run_append_arg_grows (P:=P) (w:=w) t o.type T ix z n bytes hT.ht hi hz hsize hbyt hzs (by omega) b1 rows.length rows.length us.flatten (by rw[hfl us hul,hrows.1]) hold b2 news.length c2 vs.flatten (by rw[hfl vs hvl,hvrows.1]) hb2 (by omega) (by unfold maxLen;omega) hb1
    exact⟨v',w',k1,k2,⟨k3.os,k3.tape,k3.output,k3.size,λk hk=>k3.block k hk (by simp)⟩⟩
  have hul2:∀r∈us++vs,r.length=n:=λr hr=>by
   rcases List.mem_append.1 hr with h|h
   ·exact hul r h
   ·exact hvl r h
  refine⟨v',w',hfull v' w' h3,h6,rep_own (B:=w.heap.size) hn hM (by rw[List.flatten_append,List.length_append];exact h5) hul2 ((rows_app hrows hvrows).mono (Known.ext h6)) (λu hu=>?_) (by rw[List.length_append];unfold maxI;omega)⟩
  rw[List.flatten_append]at hu
  rcases List.mem_append.1 hu with h|h
  ·exact hone u h
  ·exact hvone u h
end
end Go.Proofs.YtdnijgdmohinlaaGreat.A
end
section
namespace Go.Proofs.YtdnijgdmohinlaaGreat.A
open Go Go.RowKit
theorem SimR.mod2 {N:Nat}{M0:Nat→Prop}{w0:Base}{st:ASt}{ρ:Rho}{a:Act}{w w':World}(h:SimR N M0 w0 st ρ a w) {k g:Nat}{o:AO}{x:Value}(hob:st.ob k=some (g,o)) (hx:ρ k g=some x) (hos:w'.os=w.os∧w'.tape=w.tape∧w'.output=w.output) (hsz:w.heap.size≤w'.heap.size)
  (hold:∀b,b<w.heap.size→¬fpO o x b→w'.heap[b]?=w.heap[b]?) {o':AO}(hO:∀M',Known (Mt M0 ρ st.ob) M' w w'→ORep w0 M' w' ρ x o') (hfp:∀b,fpO o' x b→fpO o x b∨w.heap.size≤b):SimR N M0 w0 (st.put k g o') ρ a w':=by
 have hO0:ORep w0 (Mt M0 ρ st.ob) w ρ x o:=by
  obtain⟨y,h1,h2⟩:=h.obj k g o hob
  rw[hx]at h1;cases h1;exact h2
 have hob':∀k2 g2 o2,(st.put k g o').ob k2=some (g2,o2)→(k2=k∧g2=g∧o2=o')∨(k2≠k∧st.ob k2=some (g2,o2)):=λk2 g2 o2 hh=>by
  have:(bif Nat.beq k2 k then some (g,o')else st.ob k2)=some (g2,o2):=hh
  cases hb:Nat.beq k2 k with
  | true =>
   rw[hb]at this
   simp only[cond_true,Option.some.injEq,Prod.mk.injEq]at this
   exact .inl ⟨Nat.eq_of_beq_eq_true hb,this.1.symm,this.2.symm⟩
  | false =>
   rw[hb]at this
   refine .inr ⟨λe=>?_,this⟩
   subst e
   simp at hb
 have hM:∀b,Mt M0 ρ (st.put k g o').ob b→Mt M0 ρ st.ob b∨w.heap.size≤b:=λb hm=>by
  rcases hm with hm|⟨k2,g2,o2,x2,h1,h2,h3⟩
  ·exact .inl (.inl hm)
  ·rcases hob' k2 g2 o2 h1 with⟨rfl,rfl,rfl⟩|⟨_,h1'⟩
   ·rw[hx]at h2;cases h2
    rcases hfp _ h3 with h4|h4
    ·exact .inl (.inr ⟨_,_,o,x,hob,hx,h4⟩)
    ·exact .inr h4
   ·exact .inl (.inr ⟨k2,g2,o2,x2,h1',h2,h3⟩)
 have hK:Known (Mt M0 ρ st.ob) (Mt M0 ρ (st.put k g o').ob) w w':=λb hb hm=>⟨λhm'=>by
  rcases hM b hm' with h1|h1
  ·exact hm h1
  ·omega,hold b hb λe=>hm (.inr ⟨k,g,o,x,hob,hx,e⟩)⟩
 have hlt:∀k2 g2 o2 x2 b,st.ob k2=some (g2,o2)→ρ k2 g2=some x2→fpO o2 x2 b→b<w.heap.size:=λk2 g2 o2 x2 b h1 h2 h3=>by
  obtain⟨y,h4,h5⟩:=h.obj k2 g2 o2 h1
  rw[h2]at h4;cases h4
  exact(h5.blk_lt h3).2
 exact{
  size:=h.size
  defers:=h.defers
  slot:=λi=>(h.slot i).mono hK
  obj:=λk2 g2 o2 hh=>by
   rcases hob' k2 g2 o2 hh with⟨rfl,rfl,rfl⟩|⟨hn,h1⟩
   ·exact⟨x,hx,hO _ hK⟩
   ·obtain⟨y,h2,h3⟩:=h.obj k2 g2 o2 h1
    exact⟨y,h2,h3.mono hK λb hb=>hold b (h3.blk_lt hb).2 λe=>hn (h.apart k2 g2 o2 k g o y x b h1 hob h2 hx hb e)⟩
  apart:=λk1 g1 o1 k2 g2 o2 x1 x2 b h1 h2 h3 h4 h5 h6=>by
   rcases hob' k1 g1 o1 h1 with⟨rfl,rfl,rfl⟩|⟨_,h1'⟩<;>rcases hob' k2 g2 o2 h2 with⟨rfl,rfl,rfl⟩|⟨_,h2'⟩
   ·rfl
   ·rw[hx]at h3;cases h3
    rcases hfp _ h5 with h7|h7
    ·exact h.apart _ _ _ _ _ _ x x2 b hob h2' hx h4 h7 h6
    ·have:=hlt _ _ _ _ b h2' h4 h6;omega
   ·rw[hx]at h4;cases h4
    rcases hfp _ h6 with h7|h7
    ·exact h.apart _ _ _ _ _ _ x1 x b h1' hob h3 hx h5 h7
    ·have:=hlt _ _ _ _ b h1' h3 h5;omega
   ·exact h.apart _ _ _ _ _ _ x1 x2 b h1' h2' h3 h4 h5 h6
  gens:=h.gens
  base:=h.base
  ext:=by
   have h1:=h.ext
   refine⟨hos.1.trans h1.os,hos.2.1.trans h1.tape,hos.2.2.trans h1.output,Nat.le_trans h1.size hsz,λb hb hl=>?_⟩
   rw[hold b (Nat.lt_of_lt_of_le hb h1.size) λe=>?_]
   ·exact h1.block b hb hl
   ·rcases(hO0.blk_lt e).1 with h7|h7
    ·omega
    ·exact hl h7
  pin:=h.pin}
def rowF:Value→Option Nat
 | .slice (some a) _ (_+1)=>some a.block
 | _=>none
structure RowAt (M:Nat→Prop) (w:World) (T:TypeId) (n:Nat) (v:Value) (rows:List (List AV)) (b off cap:Nat) (cur:Array Value) (vals:List (List Value)):Prop where
 v:v=.slice (some ⟨b,off,none⟩) rows.length (cap+1)
 hb:w.heap[b]?=some (.cells cur T (0,0))
 le:rows.length≤cap+1
 own:rows.length=cap+1∨(off=0∧cur.size=(cap+1)*n∧cap+1≤maxLen)
 fit:off+rows.length*n≤cur.size
 tk:(cur.toList.drop off).take (rows.length*n)=vals.flatten
 rows:Rows M w n vals rows
def RowX (M:Nat→Prop) (w:World) (T:TypeId) (n:Nat) (v:Value) (rows:List (List AV)):Prop :=
 (∃ad,v=.slice ad 0 0∧rows=[])∨∃b off cap cur vals,RowAt M w T n v rows b off cap cur vals
def rowX (T:TypeId) (n:Nat) (v:Value) (rows:List (List AV)):OP where
 F:=λc=>rowF v=some c
 I:=λM w _ _=>RowX M w T n v rows
 mono:=λ{M M' w w' ρ h} k hb hI=>by
  rcases hI with h1|⟨b,off,cap,cur,vals,h⟩
  ·exact .inl h1
  ·exact .inr ⟨b,off,cap,cur,vals,h.v,by rw[hb b (by rw[h.v];rfl)];exact h.hb,h.le,h.own,h.fit,h.tk,h.rows.mono k⟩
 rho:=λ_ h=>h
 lt:=λ{M w ρ h} hI c hc=>by
  rcases hI with⟨ad,rfl,_⟩|⟨b,off,cap,cur,vals,h⟩
  ·cases ad<;>cases hc
  ·rw[h.v]at hc
   obtain rfl:b=c:=Option.some.inj hc
   exact(Array.getElem?_eq_some_iff.1 h.hb).1
theorem RowX.form {M:Nat→Prop}{w:World}{T:TypeId}{n:Nat}{v:Value}{rows:List (List AV)}(h:RowX M w T n v rows):∃ad c,v=.slice ad rows.length c∧rows.length≤c:=by
 rcases h with⟨ad,rfl,rfl⟩|⟨b,off,cap,cur,vals,h⟩
 ·exact⟨ad,0,rfl,Nat.le_refl _⟩
 ·exact⟨_,_,h.v,h.le⟩
theorem RowX.vok {M:Nat→Prop}{w:World}{T:TypeId}{n:Nat}{v:Value}{rows:List (List AV)}(h:RowX M w T n v rows):A.vok v:=by
 rcases h with⟨ad,rfl,rfl⟩|⟨b,off,cap,cur,vals,h⟩
 ·cases ad with
  | none=>exact⟨rfl,rfl⟩
  | some a=>trivial
 ·rw[h.v];trivial
theorem RowX.of_own {M:Nat→Prop}{w:World}{B:Nat}{T:TypeId}{n:Nat}{v:Value}{rows:List (List AV)}{vals:List (List Value)}(h:w.ownsRow B T n v rows.length vals.flatten) (hr:Rows M w n vals rows):RowX M w T n v rows:=by
 rcases h.2 with⟨rfl,h0⟩|⟨g,cap,cur,rfl,_,hg,hnc,hcm,hsz,htk⟩
 ·exact .inl ⟨none,rfl,List.eq_nil_of_length_eq_zero h0⟩
 ·cases cap with
  | zero=>obtain rfl:rows=[]:=List.eq_nil_of_length_eq_zero (by omega);exact .inl ⟨_,rfl,rfl⟩
  | succ cap=>exact .inr ⟨g,0,cap,cur,vals,rfl,hg,hnc,.inr ⟨rfl,hsz,hcm⟩,by rw[hsz,Nat.zero_add];exact Nat.mul_le_mul_right _ hnc,by rw[List.drop_zero];exact htk,hr⟩
theorem RowAt.cell {M:Nat→Prop}{w:World}{T:TypeId}{n:Nat}{v:Value}{rows:List (List AV)}{b off cap:Nat}{cur:Array Value}{vals:List (List Value)}(h:RowAt M w T n v rows b off cap cur vals) {q:Nat}{u:Value}(hq:vals.flatten[q]?=some u):w.cell? ⟨b,off+q,none⟩=some u:=by
 rw[←h.tk,List.getElem?_take]at hq
 split at hq
 ·rw[List.getElem?_drop]at hq
  have:cur[off+q]?=some u:=by simpa using hq
  simp[World.cell?,h.hb,this]
 ·cases hq
theorem vals_len {M:Nat→Prop}{w:World}{n:Nat}{vals:List (List Value)}{rows:List (List AV)}(h:Rows M w n vals rows):(∀q∈vals,q.length=n)∧vals.flatten.length=rows.length*n:=by
 have h1:∀q∈vals,q.length=n:=λq hq=>by
  obtain⟨i,hi,rfl⟩:=List.getElem_of_mem hq
  have hi':i<rows.length:=by rw[←h.1];exact hi
  exact(h.2 i rows[i] _ (by simp[hi']) (by simp[hi])).2.1
 exact⟨h1,by rw[flatten_len h1,h.1]⟩
theorem vals_one {M:Nat→Prop}{w:World}{n:Nat}{vals:List (List Value)}{rows:List (List AV)}(h:Rows M w n vals rows):∀u∈vals.flatten,u.oneCell'=true:=λu hu=>by
 obtain⟨r,hr,hu⟩:=List.mem_flatten.1 hu
 obtain⟨i,hi,rfl⟩:=List.getElem_of_mem hr
 obtain⟨j,hj,rfl⟩:=List.getElem_of_mem hu
 have hi':i<rows.length:=by rw[←h.1];exact hi
 obtain⟨e1,e2,e3⟩:=h.2 i rows[i] vals[i] (by simp[hi']) (by simp[hi])
 exact(e3 j ((rows[i])[j]'(by omega)) _ (by simp) (by simp[hj])).2
theorem rows_take {M:Nat→Prop}{w:World}{n:Nat}{vals:List (List Value)}{rows:List (List AV)}(h:Rows M w n vals rows) (k:Nat):Rows M w n (vals.take k) (rows.take k):=⟨by simp[h.1],λi r v h1 h2=>by
 rw[List.getElem?_take]at h1 h2
 split at h1
 ·rename_i hk
  rw[if_pos hk]at h2
  exact h.2 i r v h1 h2
 ·cases h1⟩
theorem rows_drop {M:Nat→Prop}{w:World}{n:Nat}{vals:List (List Value)}{rows:List (List AV)}(h:Rows M w n vals rows) (k:Nat):Rows M w n (vals.drop k) (rows.drop k):=⟨by simp[h.1],λi r v h1 h2=>by
 rw[List.getElem?_drop]at h1 h2
 exact h.2 _ r v h1 h2⟩
section
variable {P:Program}
theorem append_nothing (w:World) (t ty e:TypeId) (n:Nat) (ht:P.underlying t=some (.slice e)) (hz:∀w,(sizeOf e).run P w=.ok n w) (b a:Option Addr) (k c c':Nat) (hkc:k≤c):(Builtin.append_ #[t,t] ty #[.slice b k c,.slice a 0 c']).run P w=.ok (.slice b k c) w:=by
 cases b<;>cases a<;>simp[Builtin.append_,run_underlying ht,hz,Builtin.lenOf,hkc,Builtin.firstCells,storeCells,loadCells,loadCellsFrom]
structure Grown (w w':World) (f f':Option Nat):Prop where
 os:w'.os=w.os∧w'.tape=w.tape∧w'.output=w.output
 size:w.heap.size≤w'.heap.size
 old:∀b,b<w.heap.size→f≠some b→w'.heap[b]?=w.heap[b]?
 blk:∀b,f'=some b→f=some b∨w.heap.size≤b
theorem rowF_own {w:World}{B:Nat}{T:TypeId}{n k:Nat}{v:Value}{xs:List Value}(h:w.ownsRow B T n v k xs) {b:Nat}(hb:rowF v=some b):B≤b∧v.ownBlock=some b:=by
 rcases h.2 with⟨rfl,h0⟩|⟨g,cap,cur,rfl,hg,_⟩
 ·cases hb
 ·cases cap with
  | zero=>cases hb
  | succ c=>obtain rfl:g=b:=Option.some.inj hb;exact⟨hg,rfl⟩
theorem grow_new {M:Nat→Prop}{w:World}{T:TypeId}{n bytes:Nat}{t ty:TypeId}(hT:R.ElemT P t T n bytes) (hn:1≤n) {vals us:List (List Value)}{rows news:List (List AV)}(hr:Rows M w n vals rows) (hur:Rows M w n us news) (b a:Addr) (c:Nat) (holds:∀q u,vals.flatten[q]?=some u→w.cell? (b.add q)=some u) (hnews:∀q u,us.flatten[q]?=some u→w.cell? (a.add q)=some u) (hpos:news≠[]) (hlen:rows.length+news.length≤4294967296) (hby:bytes≤32768) (f:Option Nat) :
  ∃v' w',(Builtin.append_ #[t,t] ty #[.slice (some b) rows.length rows.length,.slice (some a) news.length c]).run P w=.ok v' w'∧Grown w w' f (rowF v')∧(∀b,b<w.heap.size→w'.heap[b]?=w.heap[b]?)∧(∀b,rowF v'=some b→w.heap.size≤b)∧∀M',Known M M' w w'→RowX M' w' T n v' (rows++news):=by
 obtain⟨i,z,hi,hz,hsize,hbb,hzs⟩:=hT.hi
 have hp:0<news.length:=List.length_pos_iff.2 hpos
 obtain⟨v',w',h1,h2,h3⟩:=run_append_arg_grows (P:=P) w t ty T i z n bytes hT.ht hi hz hsize hbb hzs hn b rows.length rows.length vals.flatten (vals_len hr).2 holds a news.length c us.flatten (vals_len hur).2 hnews (by omega) (by unfold maxLen;omega) (Nat.le_trans (Nat.mul_le_mul hlen hby) (by decide))
 have hnb:∀b,rowF v'=some b→w.heap.size≤b:=λb hb=>(rowF_own h2 hb).1
 refine⟨v',w',h1,⟨⟨h3.os,h3.tape,h3.output⟩,h3.size,λb hb _=>h3.block b hb (by simp),λb hb=>.inr (hnb b hb)⟩,λb hb=>h3.block b hb (by simp),hnb,λM' hK=>?_⟩
 have h4:w'.ownsRow w.heap.size T n v' (rows++news).length (vals++us).flatten:=by rw[List.length_append,List.flatten_append];exact h2
 exact RowX.of_own h4 (rows_app (hr.mono hK) (hur.mono hK))
theorem RowX.append {M:Nat→Prop}{w:World}{T:TypeId}{n bytes:Nat}{t ty:TypeId}{v:Value}{rows:List (List AV)}(hT:R.ElemT P t T n bytes) (hn:1≤n) (hsz:∀w,(sizeOf T).run P w=.ok n w) (hX:RowX M w T n v rows) {us:List (List Value)}{news:List (List AV)}{ad:Option Addr}{c:Nat}(hur:Rows M w n us news) (hsrc:news≠[]→∃b,ad=some b∧∀q u,us.flatten[q]?=some u→w.cell? (b.add q)=some u) (hlen:rows.length+news.length≤4294967296) (hby:bytes≤32768) :
  ∃v' w',(Builtin.append_ #[t,t] ty #[v,.slice ad news.length c]).run P w=.ok v' w'∧Grown w w' (rowF v) (rowF v')∧∀M',Known M M' w w'→RowX M' w' T n v' (rows++news):=by
 by_cases h0:news=[]
 ·subst h0
  obtain⟨ad0,c0,hv,hc0⟩:=hX.form
  refine⟨v,w,by rw[hv];exact append_nothing w t ty T n hT.ht hsz _ _ _ _ _ hc0,⟨⟨rfl,rfl,rfl⟩,Nat.le_refl _,λ_ _ _=>rfl,λb hb=>.inl hb⟩,λM' hK=>?_⟩
  rw[List.append_nil]
  exact(rowX T n v rows).mono (ρ:=λ_ _=>none) (h:=undef) hK (λ_ _=>rfl) hX
 obtain⟨a,rfl,hcell⟩:=hsrc h0
 have old:∀{vals:List (List Value)},w.ownsRow 0 T n v rows.length vals.flatten→Rows M w n vals rows→(∀b,v.ownBlock=some b→rowF v=some b)→∃v' w',(Builtin.append_ #[t,t] ty #[v,.slice (some a) news.length c]).run P w=.ok v' w'∧Grown w w' (rowF v) (rowF v')∧∀M',Known M M' w w'→RowX M' w' T n v' (rows++news):=λ{vals} hown hr hrf=>by
  obtain⟨v',w',h1,h2,h3,h4⟩:=R.run_append (P:=P) w 0 t ty T n bytes hT hn v rows.length vals.flatten hown a news.length c us.flatten (vals_len hur).2 hcell (vals_one hur) (by unfold maxLen;omega) (Nat.le_trans (Nat.mul_le_mul hlen hby) (by decide)) (Nat.zero_le _)
  refine⟨v',w',h1,⟨⟨h3.os,h3.tape,h3.output⟩,h3.size,λb hb hne=>h3.block b hb λe=>hne (hrf b e.symm),λb hb=>?_⟩,λM' hK=>?_⟩
  ·have h5:=(rowF_own h2 hb).2
   rcases h4 with e|e
   ·exact .inl (hrf b (by rw[←e,h5]))
   ·rw[h5]at e;exact .inr (by rw[Option.some.inj e];exact Nat.le_refl _)
  ·have h6:w'.ownsRow 0 T n v' (rows++news).length (vals++us).flatten:=by rw[List.length_append,List.flatten_append];exact h2
   exact RowX.of_own h6 (rows_app (hr.mono hK) (hur.mono hK))
 rcases hX with⟨ad0,rfl,rfl⟩|⟨b,off,cap,cur,vals,hA⟩
 ·cases ad0 with
  | none=>exact old (vals:=[]) ⟨by simp,.inl ⟨rfl,rfl⟩⟩ ⟨rfl,λi r v h=>by simp at h⟩ (λb hb=>by cases hb)
  | some b0 =>
   obtain⟨v',w',h1,h2,_,_,h3⟩:=grow_new (P:=P) (ty:=ty) hT hn (vals:=[]) (rows:=[]) ⟨rfl,λi r v h=>by simp at h⟩ hur b0 a c (λq u h=>by simp at h) hcell h0 hlen hby (rowF (.slice (some b0) 0 0))
   exact⟨v',w',h1,h2,h3⟩
 ·rcases hA.own with hl|⟨rfl,hs,hcm⟩
  ·obtain⟨v',w',h1,h2,_,_,h3⟩:=grow_new (P:=P) (ty:=ty) hT hn hA.rows hur ⟨b,off,none⟩ a c (λq u h=>by rw[add_addr];exact hA.cell h) hcell h0 hlen hby (rowF v)
   refine⟨v',w',?_,h2,h3⟩
   rw[hA.v,←hl];exact h1
  ·refine old (vals:=vals) ⟨(vals_len hA.rows).2,.inr ⟨b,cap+1,cur,hA.v,Nat.zero_le _,hA.hb,hA.le,hcm,hs,by rw[←hA.tk,List.drop_zero]⟩⟩ hA.rows λc' hc'=>?_
   rw[hA.v]at hc' ⊢
   exact hc'
end
section
variable {P:Program}{N:Nat}{M0:Nat→Prop}{w0:Base}{ops:Array Oper}{Q:Exit→ASt→Prop}{o:Oper}{l:List Oper}{st:ASt}
theorem Al_appendX {d k g:Nat}{s x:Operand}{t T:TypeId}{n bytes:Nat}{rows news:List (List AV)}{v:Value}(ho:o.op=.call ⟨.builtin .append,#[s,x],#[t,t]⟩) (hg:o.guard=none) (hd:o.dst=some d) (hN:d<N) (hc:conB o=true) (hT:R.ElemT P t T n bytes) (hn:1≤n) (hsz:∀w,(sizeOf T).run P w=.ok n w)
  (hs:st.ev s=.d (.v v)) (hob:st.ob k=some (g,.op (rowX T n v rows))) (hx:st.ev x=.d (.sl n news)) (hlen:rows.length+news.length≤4294967296) (hby:bytes≤32768)
  (h:∀v',Al P N M0 w0 ops Q l ((st.put k g (.op (rowX T n v' (rows++news)))).set d (.d (.v v')))):Al P N M0 w0 ops Q (o::l) st:=by
 refine⟨?_⟩
 rintro a w ⟨ρ,hsim⟩
 have hev:=hsim.ev hc
 have h1:=hev s (mem_call ho s (by simp))
 have h2:=hev x (mem_call ho x (by simp))
 rw[hs]at h1
 rw[hx]at h2
 obtain⟨e1,_⟩:=rep_v h1
 obtain⟨y,hy,hF,hX⟩:=hsim.obj k g _ hob
 obtain⟨us,ad,c,e2,_,_,hur,hsrc,_⟩:=rep_cells hn h2
 obtain⟨v',w',hrun,hG,hX'⟩:=RowX.append (P:=P) (ty:=o.type) hT hn hsz hX (ad:=ad) (c:=c) hur hsrc hlen hby
 have hs2:=hsim.mod2 (w':=w') hob hy hG.os hG.size (λb hb hne=>hG.old b hb hne) (o':=.op (rowX T n v' (rows++news))) (λM' hK=>⟨λb hb=>by
  rcases hG.blk b hb with h3|h3
  ·exact hF b h3
  ·exact .inl (Nat.le_trans hsim.ext.size h3),hX' M' hK⟩) (λb hb=>hG.blk b hb)
 refine wpList_plain hg λK hK=>wp_upon ?_
 have e:(execOp a.eval o).run P w=.ok (.value v') w':=by
  simp only[execOp,ho,resolve,invoke,builtin,Sem.run_bind,Sem.run_pure,Result.andThen_ok,List.map_toArray,List.map_cons,List.map_nil,e1,e2,hrun]
 rw[e]
 refine hK _ _ ((h v').out _ _ ⟨ρ,?_⟩)
 rw[hd]
 obtain⟨_,_,_,hX2⟩:=hs2.obj k g (.op (rowX T n v' (rows++news))) (by simp[ASt.put])
 exact hs2.set hN (.v _ hX2.vok)
end
end Go.Proofs.YtdnijgdmohinlaaGreat.A
end
section
namespace Go.Proofs.YtdnijgdmohinlaaGreat.A
open Go Go.RowKit
section
variable {P:Program}{N:Nat}{M0:Nat→Prop}{w0:Base}{ops:Array Oper}{Q:Exit→ASt→Prop}{o:Oper}{l:List Oper}{st:ASt}
theorem obeqX {g n:Nat}{T:TypeId}{v:Value}{a b:List (List AV)}(h:a=b):some (g,AO.op (rowX T n v a))=some (g,AO.op (rowX T n v b)):=h▸rfl
theorem row_in {B:Base}{M:Nat→Prop}{w:World}{ρ:Rho}{T:TypeId}{n k g:Nat}{v:Value}{rows:List (List AV)}(h3:∀k g ob,st.ob k=some (g,ob)→∃h,ρ k g=some h∧ORep B M w ρ h ob) (hob:st.ob k=some (g,.op (rowX T n v rows))):RowX M w T n v rows:=by
 obtain⟨_,_,_,h⟩:=h3 k g _ hob
 exact h
theorem Pu_lenX {x:Operand}{t e T:TypeId}{n k g:Nat}{v:Value}{rows:List (List AV)}(ho:o.op=.call ⟨.builtin .len,#[x],#[t]⟩) (ht:P.underlying t=some (.slice e)) (hx:st.ev x=.d (.v v)) (hob:st.ob k=some (g,.op (rowX T n v rows))) (hl:rows.length≤maxI):Pu P st o (.d (.v (.int .i64 rows.length))):=Pu_q λB M ρ w a h2 h3=>by
 obtain⟨e1,_⟩:=ev_v h2 (mem_call ho x (by simp)) hx
 obtain⟨ad,c,hv,_⟩:=(row_in h3 hob).form
 refine⟨.int .i64 rows.length,?_,.v _ ?_⟩
 ·rw[hv]at e1
  simp[execOp,ho,resolve,invoke,builtin,Builtin.len_,e1,run_underlying ht,Sem.run,goInt]
 ·unfold maxI at hl;simp[vok,inI];omega
def elP (v:Value) (k:Nat):Value:=match v with
 | .slice (some a) _ _=>.pointer (some (a.add k))
 | _=>undef
theorem elP_at {v:Value}{b off len c k:Nat}(h:v=.slice (some ⟨b,off,none⟩) len c):elP v k=.pointer (some ⟨b,off+k,none⟩):=by
 subst h
 simp[elP,add_addr]
theorem Pu_indexX {t e T:TypeId}{x i:Operand}{n k g j:Nat}{z:Int}{v:Value}{rows:List (List AV)}(ho:o.op=.indexAddr t x i) (ht:P.underlying t=some (.slice e)) (hz:∀w,(sizeOf e).run P w=.ok n w) (hx:st.ev x=.d (.v v)) (hi:st.ev i=.d (.v (.int .i64 z))) (hob:st.ob k=some (g,.op (rowX T n v rows))) (hk:z=j) (hj:j<rows.length):Pu P st o (.d (.v (elP v (j*n)))):=Pu_q λB M ρ w a h2 h3=>by
 have m:x∈opsOf o∧i∈opsOf o:=by simp[opsOf,ho,Op.operands]
 obtain⟨e1,_⟩:=ev_v h2 m.1 hx
 obtain⟨e2,_⟩:=ev_v h2 m.2 hi
 subst hk
 rcases row_in h3 hob with⟨ad,_,h0⟩|⟨b,off,cap,cur,vals,hA⟩
 ·rw[h0]at hj;simp at hj
 ·refine⟨elP v (j*n),?_,.v _ (by rw[elP_at hA.v];trivial)⟩
  rw[elP_at hA.v]
  rw[hA.v]at e1
  simp only[execOp,ho,e1,e2,Instr.indexAt,Instr.sureAddr,Sem.run_bind,asIntOf,Sem.run_pure,Result.andThen_ok,run_underlying ht]
  rw[if_pos ⟨by omega,by omega⟩]
  simp only[Sem.run_bind,hz,Result.andThen_ok,Int.toNat_natCast,add_addr,Sem.run_pure]
theorem RowX.addr {M:Nat→Prop}{w:World}{T:TypeId}{n:Nat}{v:Value}{rows:List (List AV)}(h:RowX M w T n v rows) (h0:rows≠[]):∃b off len c,v=.slice (some ⟨b,off,none⟩) len c:=by
 rcases h with⟨_,_,h1⟩|⟨b,off,cap,cur,vals,h⟩
 ·exact(h0 h1).elim
 ·exact⟨b,off,_,_,h.v⟩
theorem Pu_fieldX {t T:TypeId}{x:Operand}{i:Nat}{fs:Array Field}{fd:Field}{n m q k g:Nat}{v:Value}{rows:List (List AV)}(fo:Nat) (ho:o.op=.fieldAddr t x i) (ht:P.underlying t=some (.struct fs)) (hf:fs[i]?=some fd) (hoff:fd.offset=fo) (hz:∀w,(sizeOf fd.type).run P w=.ok (m+1) w) (hx:st.ev x=.d (.v (elP v q))) (hob:st.ob k=some (g,.op (rowX T n v rows))) (h0:rows≠[]):Pu P st o (.d (.v (elP v (q+fo)))):=Pu_q λB M ρ w a h2 h3=>by
 subst hoff
 obtain⟨e1,_⟩:=ev_v h2 (by simp[opsOf,ho,Op.operands]) hx
 obtain⟨b,off,len,c,hv⟩:=(row_in h3 hob).addr h0
 rw[elP_at hv]at e1
 refine⟨elP v (q+fd.offset),?_,.v _ (by rw[elP_at hv];trivial)⟩
 rw[elP_at hv]
 simp only[execOp,ho,e1,Instr.fieldAt,Sem.run_bind,run_underlying ht,Result.andThen_ok,hf,Instr.sureAddr,Sem.run_pure,fieldPlace,hz]
 rw[if_neg (by omega)]
 simp[add_addr,Sem.run,Nat.add_assoc]
theorem Pu_loadX1 {t T:TypeId}{x:Operand}{k g q n:Nat}{v:Value}{rows:List (List AV)}{c:AV}(ho:o.op=.load t x) (ht:∀w,(isAgg t).run P w=.ok false w) (hx:st.ev x=.d (.v (elP v q))) (hob:st.ob k=some (g,.op (rowX T n v rows))) (hs:rows.flatten[q]?=some c):Pu P st o (.d c):=Pu_q λB M ρ w a h2 h3=>by
 obtain⟨e1,_⟩:=ev_v h2 (by simp[opsOf,ho,Op.operands]) hx
 rcases row_in h3 hob with⟨ad,_,h0⟩|⟨b,off,cap,cur,vals,hA⟩
 ·rw[h0]at hs;simp at hs
 ·obtain⟨u,h8,h9,h10⟩:=rows_flat hA.rows hs
  rw[elP_at hA.v]at e1
  refine⟨u,?_,h9⟩
  simp[execOp,ho,e1,Instr.loadAt,Instr.sureAddr,loadVar,ht,load,Sem.run,hA.cell h8,Sem.run_bind]
theorem Pu_loadXN {t T:TypeId}{x:Operand}{k g q n m:Nat}{v:Value}{rows:List (List AV)}{r:List AV}(ho:o.op=.load t x) (ht:∀w,(isAgg t).run P w=.ok true w) (hz:∀w,(sizeOf t).run P w=.ok m w) (hx:st.ev x=.d (.v (elP v q))) (hob:st.ob k=some (g,.op (rowX T n v rows))) (hs:(rows.flatten.drop q).take m=r) (hm:r.length=m) (hpos:0<m):Pu P st o (.d (.row r)):=Pu_q λB M ρ w a h2 h3=>by
 obtain⟨e1,_⟩:=ev_v h2 (by simp[opsOf,ho,Op.operands]) hx
 rcases row_in h3 hob with⟨ad,_,h0⟩|⟨b,off,cap,cur,vals,hA⟩
 ·rw[h0]at hs;simp at hs;subst hs;simp at hm;omega
 ·rw[elP_at hA.v]at e1
  have hcell:∀j,j<m→∃c u,r[j]?=some c∧vals.flatten[q+j]?=some u∧Rep M w c u∧u.oneCell'=true:=λj hj=>by
   have h12:r[j]?=some (r[j]'(by omega)):=by simp[hm,hj]
   have h13:rows.flatten[q+j]?=r[j]?:=by rw[←hs,List.getElem?_take,if_pos hj,List.getElem?_drop]
   rw[h12]at h13
   obtain⟨u,h8,h9,h10⟩:=rows_flat hA.rows h13
   exact⟨_,u,h12,h8,h9,h10⟩
  have gd:∀j u,vals.flatten[j]?=some u→vals.flatten.getD j undef=u:=λj u hv=>by simp[List.getD_eq_getElem?_getD,hv]
  have h1:=run_cells (P:=P) (w:=w) (b:=b) m (off+q) 0 (λj=>vals.flatten.getD (q+j) undef) #[] (λj hj=>by
   obtain⟨c,u,_,hv,_⟩:=hcell j hj
   rw[Nat.zero_add,gd _ _ hv,Nat.add_assoc]
   exact hA.cell hv)
  refine⟨.agg ((List.range m).map λj=>vals.flatten.getD (q+j) undef).toArray,?_,.row _ _ (by simp[hm]) (λx hx=>?_) (λj c x h12 h13=>?_)⟩
  ·simp only[execOp,ho,e1,Instr.loadAt,Instr.sureAddr,loadVar,Sem.run_bind,Sem.run_pure,Result.andThen_ok,ht,hz,loadCells,if_true,h1]
   simp
  ·simp only[List.mem_map,List.mem_range]at hx
   obtain⟨j,hj,rfl⟩:=hx
   obtain⟨c,u,_,hv,_,h10⟩:=hcell j hj
   rw[gd _ _ hv];exact h10
  ·have hj:j<m:=by rw[←hm];exact(List.getElem?_eq_some_iff.1 h12).1
   obtain⟨c',u,hc',hv,h9,_⟩:=hcell j hj
   rw[h12]at hc';cases hc'
   rw[List.getElem?_map,List.getElem?_range hj]at h13
   simp only[Option.map_some,Option.some.injEq]at h13
   rw[gd _ _ hv]at h13
   subst h13
   exact h9
def cut3 (v:Value) (h:Nat):Value:=match v with
 | .slice ad _ _=>.slice ad h h
 | x=>x
def cutLo (v:Value) (lo n:Nat):Value:=match v with
 | .slice ad len c=>.slice (if c=lo then ad else ad.map (·.add (lo*n))) (len - lo) (c - lo)
 | x=>x
def cutX (v:Value) (lo n:Nat):Value:=match v with
 | .slice ad len _=>.slice (if len=lo then ad else ad.map (·.add (lo*n))) (len - lo) (len - lo)
 | x=>x
theorem Pu_cut3 {t e T:TypeId}{x hi mx:Operand}{lo:Option Operand}{n k g:Nat}{v:Value}{rows:List (List AV)}(h:Nat) (ho:o.op=.slice t x lo (some hi) (some mx)) (ht:P.underlying t=some (.slice e)) (hz:∀w,(sizeOf e).run P w=.ok n w) (hx:st.ev x=.d (.v v)) (hob:st.ob k=some (g,.op (rowX T n v rows))) (hlo:bndA st lo 0 0) (hhi:∃z:Int,st.ev hi=.d (.v (.int .i64 z))∧z=h) (hmx:∃z:Int,st.ev mx=.d (.v (.int .i64 z))∧z=h) (hle:h≤rows.length):Pu P st o (.d (.v (cut3 v h))):=Pu_q λB M ρ w a h2 h3=>by
 obtain⟨e1,_⟩:=ev_v h2 (by simp[opsOf,ho,Op.operands]) hx
 have hX:=row_in h3 hob
 obtain⟨ad,c,hv,hc⟩:=hX.form
 obtain⟨z1,k1,k2⟩:=hhi
 obtain⟨z2,k3,k4⟩:=hmx
 have b1:=λc=>bnd_run (P:=P) (w:=w) (c:=c) (y:=h) (h2 hi (by simp[opsOf,ho,Op.operands])) k1 k2 (Nat.le_refl h)
 have b2:=λc'=>bnd_run (P:=P) (w:=w) (c:=c') (y:=c) (h2 mx (by simp[opsOf,ho,Op.operands])) k3 k4 (by omega:h≤c)
 have hvk:vok (.slice ad h h):=by
  have:=hX.vok
  rw[hv]at this
  cases ad with
  | none=>obtain⟨h5,_⟩:=this;exact⟨by omega,by omega⟩
  | some a=>trivial
 refine⟨.slice ad h h,?_,?_⟩
 ·rw[hv]at e1
  cases lo with
  | none=>cases ad<;>simp[execOp,ho,e1,Instr.sliceAt,Sem.run_bind,run_underlying ht,Result.andThen_ok,Instr.slice,Instr.sliceBounds,b1,b2,hz,Sem.run_pure,Addr.add]
  | some lo =>
   obtain⟨z3,k5,k6⟩:=hlo
   have b3:=λc=>bnd_run (P:=P) (w:=w) (c:=c) (y:=h) (h2 lo (by simp[opsOf,ho,Op.operands])) k5 k6 (Nat.zero_le h)
   cases ad<;>simp[execOp,ho,e1,Instr.sliceAt,Sem.run_bind,run_underlying ht,Result.andThen_ok,Instr.slice,Instr.sliceBounds,b1,b2,b3,hz,Sem.run_pure,Addr.add]
 ·rw[hv];exact .v _ hvk
theorem Pu_cutLo {t e T:TypeId}{x lo:Operand}{n k g:Nat}{v:Value}{rows:List (List AV)}(h:Nat) (ho:o.op=.slice t x (some lo) none none) (ht:P.underlying t=some (.slice e)) (hz:∀w,(sizeOf e).run P w=.ok n w) (hx:st.ev x=.d (.v v)) (hob:st.ob k=some (g,.op (rowX T n v rows))) (hlo:∃z:Int,st.ev lo=.d (.v (.int .i64 z))∧z=h) (hle:h≤rows.length):Pu P st o (.d (.v (cutLo v h n))):=Pu_q λB M ρ w a h2 h3=>by
 obtain⟨e1,_⟩:=ev_v h2 (by simp[opsOf,ho,Op.operands]) hx
 have hX:=row_in h3 hob
 obtain⟨ad,c,hv,hc⟩:=hX.form
 have hrun:=slice_run (P:=P) (w:=w) (M:=M) (ρ:=ρ) (lw:=h) (h:=rows.length) (len:=rows.length) (cap:=c) ho ht hz h2 (by rw[e1];exact hv) hlo (show bndA st none rows.length rows.length from rfl) ⟨hle,hc⟩
 refine⟨cutLo v h n,?_,.v _ ?_⟩
 ·rw[hrun,hv];rfl
 ·have:=hX.vok
  rw[hv]at this ⊢
  cases ad with
  | none=>obtain⟨h5,h6⟩:=this;subst h6;show vok (.slice _ _ _);rw[show h=0 from by omega];exact⟨by omega,rfl⟩
  | some a=>show vok (.slice _ _ _);split<;>trivial
theorem Pu_cutX {t e T:TypeId}{x lo hi mx:Operand}{n k g:Nat}{v:Value}{rows:List (List AV)}(h:Nat) (ho:o.op=.slice t x (some lo) (some hi) (some mx)) (ht:P.underlying t=some (.slice e)) (hz:∀w,(sizeOf e).run P w=.ok n w) (hx:st.ev x=.d (.v v)) (hob:st.ob k=some (g,.op (rowX T n v rows))) (hlo:∃z:Int,st.ev lo=.d (.v (.int .i64 z))∧z=h) (hhi:∃z:Int,st.ev hi=.d (.v (.int .i64 z))∧z=rows.length) (hmx:∃z:Int,st.ev mx=.d (.v (.int .i64 z))∧z=rows.length) (hle:h≤rows.length):Pu P st o (.d (.v (cutX v h n))):=Pu_q λB M ρ w a h2 h3=>by
 obtain⟨e1,_⟩:=ev_v h2 (by simp[opsOf,ho,Op.operands]) hx
 have hX:=row_in h3 hob
 obtain⟨ad,c,hv,hc⟩:=hX.form
 obtain⟨z1,k1,k2⟩:=hhi
 obtain⟨z2,k3,k4⟩:=hmx
 obtain⟨z3,k5,k6⟩:=hlo
 have b1:=λc=>bnd_run (P:=P) (w:=w) (c:=c) (y:=rows.length) (h2 hi (by simp[opsOf,ho,Op.operands])) k1 k2 (Nat.le_refl _)
 have b2:=λc'=>bnd_run (P:=P) (w:=w) (c:=c') (y:=c) (h2 mx (by simp[opsOf,ho,Op.operands])) k3 k4 hc
 have b3:=λc=>bnd_run (P:=P) (w:=w) (c:=c) (y:=rows.length) (h2 lo (by simp[opsOf,ho,Op.operands])) k5 k6 hle
 refine⟨cutX v h n,?_,.v _ ?_⟩
 ·rw[hv]at e1 ⊢
  simp[cutX,execOp,ho,e1,Instr.sliceAt,Sem.run_bind,run_underlying ht,Result.andThen_ok,Instr.slice,Instr.sliceBounds,b1,b2,b3,hz,Sem.run_pure]
 ·have:=hX.vok
  rw[hv]at this ⊢
  cases ad with
  | none=>obtain⟨h5,h6⟩:=this;show vok (.slice _ _ _);rw[show h=0 from by omega,h5];exact⟨rfl,rfl⟩
  | some a=>show vok (.slice _ _ _);split<;>trivial
theorem RowX.cutX {M:Nat→Prop}{w:World}{T:TypeId}{n:Nat}{v:Value}{rows:List (List AV)}(hX:RowX M w T n v rows) {h:Nat}(hle:h≤rows.length):RowX M w T n (A.cutX v h n) (rows.drop h)∧∀b,rowF (A.cutX v h n)=some b→rowF v=some b:=by
 rcases hX with⟨ad,rfl,rfl⟩|⟨b,off,cap,cur,vals,hA⟩
 ·obtain rfl:h=0:=by simpa using hle
  exact⟨.inl ⟨ad,by simp[A.cutX],by simp⟩,λb hb=>by cases ad<;>simp[A.cutX,rowF]at hb⟩
 ·have hv:=hA.v
  by_cases he:rows.length=h
  ·subst he
   rw[hv]
   exact⟨.inl ⟨some ⟨b,off,none⟩,by simp[A.cutX],by simp⟩,λb hb=>by simp[A.cutX,rowF]at hb⟩
  ·obtain⟨k,hk⟩:∃k,rows.length - h=k+1:=⟨rows.length - h - 1,by omega⟩
   have hcv:A.cutX v h n=.slice (some ⟨b,off+h*n,none⟩) (k+1) (k+1):=by
    rw[hv];simp[A.cutX,he,hk,add_addr]
   rw[hcv]
   have hl:(rows.drop h).length=k+1:=by simp[hk]
   have hm:rows.length*n=h*n+(k+1)*n:=by rw[←Nat.add_mul];congr 1;omega
   refine⟨.inr ⟨b,off+h*n,k,cur,vals.drop h,by rw[hl],hA.hb,by omega,.inl hl,by rw[hl];have:=hA.fit;omega,?_,rows_drop hA.rows h⟩,λb' hb'=>by rw[hv];exact hb'⟩
   rw[hl,←List.drop_drop]
   have h5:(vals.drop h).flatten=vals.flatten.drop (h*n):=by
    have h6:(vals.take h).flatten.length=h*n:=by rw[flatten_len (λq hq=>(vals_len hA.rows).1 q (List.mem_of_mem_take hq)),List.length_take,hA.rows.1,Nat.min_eq_left hle]
    have h7:vals.flatten=(vals.take h).flatten++(vals.drop h).flatten:=by rw[←List.flatten_append,List.take_append_drop]
    rw[h7,←h6,List.drop_left]
   rw[h5,←hA.tk,List.drop_take,hm,Nat.add_sub_cancel_left]
theorem le_cutX {k g n h:Nat}{T:TypeId}{v:Value}{rows:List (List AV)}(hob:st.ob k=some (g,.op (rowX T n v rows))) (hle:h≤rows.length):Le N M0 w0 st (st.put k g (.op (rowX T n (cutX v h n) (rows.drop h)))):=λa w ⟨ρ,hs⟩=>by
 obtain⟨y,hy,hF,hX⟩:=hs.obj k g _ hob
 have h1:=RowX.cutX hX hle
 refine⟨ρ,hs.mod2 (w':=w) hob hy ⟨rfl,rfl,rfl⟩ (Nat.le_refl _) (λ_ _ _=>rfl) (λM' hK=>⟨λb hb=>hF b (h1.2 b hb),?_⟩) (λb hb=>.inl (h1.2 b hb))⟩
 exact(rowX T n (cutX v h n) (rows.drop h)).mono (ρ:=ρ) (h:=y) hK (λ_ _=>rfl) h1.1
theorem Pu_slice0 {t e:TypeId}{n:Nat}(ho:o.op=.buildSlice t 0 #[]) (ht:P.underlying t=some (.slice e)) (hz:∀w,(sizeOf e).run P w=.ok n w):Pu P st o (.slc n []):=Pu_of λB M ρ w a hM h2 h3=>by
 refine⟨.slice (some ⟨w.heap.size,0,none⟩) 0 0,w.alloc (.cells #[] e),?_,(Below.refl _ _).alloc (Nat.le_refl _) _,.nil _ _ _,_,0,rfl⟩
 simp[execOp,ho,Instr.buildSlice,Sem.run_bind,run_underlying ht,Result.andThen_ok,hz,Instr.fill,newRow,newObj,Sem.run]
 rw[show Array.map (λ_=>(default:Value)) (Array.range 0)=#[]from Array.eq_empty_of_size_eq_zero (by simp)]
theorem Al_eqnilX {d:Nat}{t yt e:TypeId}{x:Operand}{T:TypeId}{n k g:Nat}{v:Value}{rows:List (List AV)}(ho:o.op=.binOp .eql t x (.const (.slice none 0 0)) yt) (hg:o.guard=none) (hd:o.dst=some d) (hN:d<N) (hc:conB o=true) (ht:P.underlying t=some (.slice e)) (hx:st.ev x=.d (.v v)) (hob:st.ob k=some (g,.op (rowX T n v rows)))
  (hr:∀b:Bool,(b=true→rows=[])→Al P N M0 w0 ops Q l (st.set d (.d (.v (.bool b))))):Al P N M0 w0 ops Q (o::l) st:=by
 refine⟨?_⟩
 rintro a w ⟨ρ,hsim⟩
 have h1:=hsim.ev hc x (by simp[opsOf,ho,Op.operands])
 rw[hx]at h1
 obtain⟨e1,_⟩:=rep_v h1
 obtain⟨_,_,_,hX⟩:=hsim.obj k g _ hob
 obtain⟨ad,len,cap,hv,hn⟩:∃ad len cap,v=.slice ad len cap∧(ad=none→rows=[]):=by
  rcases hX with⟨ad,rfl,rfl⟩|⟨b,off,cap,cur,vals,hA⟩
  ·exact⟨ad,0,0,rfl,λ_=>rfl⟩
  ·exact⟨_,_,_,hA.v,λh=>by cases h⟩
 rw[hv]at e1
 refine wpList_plain hg λK hK=>wp_upon ?_
 have e:(execOp a.eval o).run P w=.ok (.value (.bool ad.isNone)) w:=by
  simp only[execOp,ho,e1,Sem.run_bind,Sem.run_pure,Result.andThen_ok]
  have hq:(eqGuard .eql t x (.const (.slice none 0 0)) (.slice ad len cap) (a.eval (.const (.slice none 0 0)))).run P w=.ok () w:=by
   simp[eqGuard,Act.eval]
  have h2:=Lib.run_eql_slice_nil (P:=P) w t e ad len cap 0 0 ht
  first|(rw[hq];simp only[Result.andThen_ok];exact(by simp[Act.eval,h2]))|simp[Act.eval,h2]
 rw[e]
 refine hK _ _ ((hr ad.isNone (λh=>hn (by simpa using h))).out _ _ ⟨ρ,?_⟩)
 rw[hd]
 exact hsim.set hN (.v _ trivial)
theorem Pu_eqnilV {t yt:TypeId}{x:Operand}{e:TypeId}{ad:Option Addr}{v:Value}(hv:v=.pointer ad) (ht:P.underlying t=some (.pointer e)) (ho:o.op=.binOp .eql t x (.const (.pointer none)) yt) (hx:st.ev x=.d (.v v)):Pu P st o (.d (.v (.bool ad.isNone))):=Pu_q λB M ρ w a h2 h3=>by
 subst hv
 obtain⟨h4,_⟩:=ev_v h2 (by simp[opsOf,ho,Op.operands]) hx
 refine⟨.bool ad.isNone,?_,.v _ trivial⟩
 have hc:a.eval (.const (.pointer none))=.pointer none:=rfl
 have hp:P.underlying t=some (.pointer (P.pointee t)):=by rw[ht];simp[Program.pointee,ht]
 have key:(do eqGuard .eql t x (.const (.pointer none)) (.pointer ad) (.pointer none);binOp .eql t (.pointer ad) (.pointer none):Sem Value).run P w=.ok (.bool ad.isNone) w:=by cases ad<;>simp[go_sem,eqGuard,run_eql_pointer_nil w t _ hp,run_neq_pointer_nil w t _ hp]
 simp only[execOp,ho,h4,hc,Sem.run_bind,Sem.run_pure]at key ⊢
 rw[key];rfl
theorem Pu_cloneX {s x:Operand}{t T:TypeId}{n bytes k g:Nat}{v:Value}{rows:List (List AV)}(ho:o.op=.call ⟨.builtin .append,#[s,x],#[t,t]⟩) (hT:R.ElemT P t T n bytes) (hn:1≤n) (hsz:∀w,(sizeOf T).run P w=.ok n w) (hs:st.ev s=.slc n []) (hx:st.ev x=.d (.v v)) (hob:st.ob k=some (g,.op (rowX T n v rows))) (hlen:rows.length≤4294967296) (hby:bytes≤32768):Pu P st o (.d (.sl n rows)):=Pu_of λB M ρ w a hM h2 h3=>by
 have h1:=h2 s (mem_call ho s (by simp))
 rw[hs]at h1
 obtain⟨e2,_⟩:=ev_v h2 (mem_call ho x (by simp)) hx
 obtain⟨bs,e1⟩:∃bs,a.eval s=.slice bs 0 0:=by
  obtain⟨h4,a',len,h5⟩:=h1
  generalize a.eval s=y at h4 h5
  cases h4 with
  | nil n a c=>cases h5;exact⟨_,rfl⟩
  | sl n rows b o' cap f hl hcap=>cases h5;exact⟨_,rfl⟩
 have hrun:∀v' w',(Builtin.append_ #[t,t] o.type #[.slice bs 0 0,v]).run P w=.ok v' w'→(execOp a.eval o).run P w=.ok (.value v') w':=λv' w' h=>by
  simp only[execOp,ho,resolve,invoke,builtin,Sem.run_bind,Sem.run_pure,Result.andThen_ok,List.map_toArray,List.map_cons,List.map_nil,e1,e2,h]
 have hX0:Rows M w n [] []:=⟨rfl,λi r v h=>by simp at h⟩
 rcases row_in h3 hob with⟨ad,rfl,rfl⟩|⟨b,off,cap,cur,vals,hA⟩
 ·refine⟨_,w,hrun _ _ (append_nothing w t o.type T n hT.ht hsz _ _ 0 0 _ (Nat.le_refl _)),Ev.Ext.refl _,.nil _ _ _⟩
 ·by_cases h0:rows=[]
  ·subst h0
   refine⟨.slice bs 0 0,w,hrun _ _ ?_,Ev.Ext.refl _,.nil _ _ _⟩
   rw[hA.v]
   exact append_nothing w t o.type T n hT.ht hsz _ _ 0 0 _ (Nat.le_refl _)
  ·obtain⟨v',w',q1,q2,q3,q4,q5⟩:∃v' w',(Builtin.append_ #[t,t] o.type #[.slice bs 0 0,v]).run P w=.ok v' w'∧Grown w w' none (rowF v')∧(∀b,b<w.heap.size→w'.heap[b]?=w.heap[b]?)∧(∀b,rowF v'=some b→w.heap.size≤b)∧∀M',Known M M' w w'→RowX M' w' T n v' rows:=by
    cases bs with
    | some bs =>
     obtain⟨v',w',q1,q2⟩:=grow_new (P:=P) (ty:=o.type) hT hn hX0 hA.rows bs ⟨b,off,none⟩ (cap+1) (λq u h=>by simp at h) (λq u h=>by rw[add_addr];exact hA.cell h) h0 (by simpa using hlen) hby none
     exact⟨v',w',by rw[hA.v];exact q1,q2⟩
    | none =>
     have hX1:RowX M w T n (.slice none 0 0) []:=.inl ⟨none,rfl,rfl⟩
     obtain⟨v',w',q1,q2,q3⟩:=RowX.append (P:=P) (ty:=o.type) hT hn hsz hX1 (ad:=some ⟨b,off,none⟩) (c:=cap+1) hA.rows (λ_=>⟨_,rfl,λq u h=>by rw[add_addr];exact hA.cell h⟩) (by simpa using hlen) hby
     exact⟨v',w',by rw[hA.v];exact q1,q2,λb hb=>q2.old b hb (by simp[rowF]),λb hb=>(q2.blk b hb).resolve_left (by simp[rowF]),q3⟩
   have hE:Ev.Ext w w':=⟨q2.os.1,q2.os.2.1,q2.os.2.2,q2.size,q3⟩
   refine⟨v',w',hrun _ _ q1,hE,?_⟩
   have h6:=q5 M (Known.ext hE)
   rcases h6 with⟨ad,_,h7⟩|⟨b',off',cap',cur',vals',hA'⟩
   ·exact(h0 h7).elim
   ·have hb':¬M b':=λhm=>by
     have h8:=hM b' hm
     have h9:=q4 b' (by rw[hA'.v];rfl)
     omega
    have hvl:=vals_len hA'.rows
    have hfl:∀(i:Nat) (r:List AV) (j:Nat) (c:AV),rows[i]?=some r→r[j]?=some c→∃u,vals'.flatten[i*n+j]?=some u∧u=vals'.flatten.getD (i*n+j) undef∧Rep M w' c u∧u.oneCell'=true:=λi r j c h10 h11=>by
     have hr:r.length=n:=unif_rows hA'.rows r (List.mem_of_getElem? h10)
     have hj:j<n:=by rw[←hr];exact(List.getElem?_eq_some_iff.1 h11).1
     have hi:i<vals'.length:=by rw[hA'.rows.1];exact(List.getElem?_eq_some_iff.1 h10).1
     have h12:vals'[i]?=some vals'[i]:=by simp[hi]
     obtain⟨e3,e4,e5⟩:=hA'.rows.2 i r vals'[i] h10 h12
     have hj2:(vals'[i])[j]?=some ((vals'[i])[j]'(by omega)):=by simp[e4,hj]
     obtain⟨e6,e7⟩:=e5 j c _ h11 hj2
     have h13:vals'.flatten[i*n+j]?=some ((vals'[i])[j]'(by omega)):=by
      rw[flatten_get (by omega) vals' _ hvl.1,show(i*n+j) / n=i from by rw[Nat.mul_comm,Nat.mul_add_div (by omega),Nat.div_eq_of_lt hj,Nat.add_zero],show(i*n+j)%n=j from by rw[Nat.mul_comm,Nat.mul_add_mod,Nat.mod_eq_of_lt hj],h12]
      exact hj2
     exact⟨_,h13,by rw[List.getD_eq_getElem?_getD,h13];rfl,e6,e7⟩
    have hrep:Rep M w' (.sl n rows) (.slice (some ⟨b',off',none⟩) rows.length (cap'+1)):=.sl n rows b' off' (cap'+1) (λi j=>vals'.flatten.getD (i*n+j) undef) (by unfold maxI;omega) hA'.le (λi r h10=>unif_rows hA'.rows r (List.mem_of_getElem? h10)) (λi r j c h10 h11=>by
     obtain⟨u,e3,e4,e5,e6⟩:=hfl i r j c h10 h11
     refine⟨hb',?_,?_⟩
     ·rw[←e4,Nat.add_assoc];exact hA'.cell e3
     ·rw[←e4];exact e6) (λi r j c h10 h11=>by
     obtain⟨u,e3,e4,e5,e6⟩:=hfl i r j c h10 h11
     rw[←e4];exact e5)
    rw[hA'.v]
    exact hrep
end
end Go.Proofs.YtdnijgdmohinlaaGreat.A
end
section
namespace Go.Proofs.YtdnijgdmohinlaaGreat.A
open Go Go.RowKit
section
variable {P:Program}{N:Nat}{M0:Nat→Prop}{w0:Base}{ops:Array Oper}{Q:Exit→ASt→Prop}{o:Oper}{l:List Oper}{st:ASt}
theorem RowX.erase {M:Nat→Prop}{w:World}{T:TypeId}{n bytes:Nat}{t ty:TypeId}{v:Value}{rows:List (List AV)}(hT:R.ElemT P t T n bytes) (hn:1≤n) (hsz:∀w,(sizeOf T).run P w=.ok n w) (hX:RowX M w T n v rows) {h:Nat}(hh:h<rows.length) (hlen:rows.length≤4294967296) (hby:bytes≤32768) :
  ∃v' w',(Builtin.append_ #[t,t] ty #[cut3 v h,cutLo v (h+1) n]).run P w=.ok v' w'∧Grown w w' (rowF v) (rowF v')∧∀M',Known M M' w w'→RowX M' w' T n v' (rows.take h++rows.drop (h+1)):=by
 rcases hX with⟨ad,rfl,rfl⟩|⟨b,off,cap,cur,vals,hA⟩
 ·simp at hh
 have hv:=hA.v
 have hvl:=vals_len hA.rows
 have hvn:vals.length=rows.length:=hA.rows.1
 have hle:=hA.le
 have htl:(rows.take h).length=h:=by simp;omega
 have hc3:cut3 v h=.slice (some ⟨b,off,none⟩) (rows.take h).length (rows.take h).length:=by rw[hv,htl];rfl
 have hdl:(rows.drop (h+1)).length=rows.length - (h+1):=by simp
 by_cases hm:rows.drop (h+1)=[]
 ·have hl:rows.length - (h+1)=0:=by rw[←hdl,hm];rfl
  refine⟨cut3 v h,w,?_,⟨⟨rfl,rfl,rfl⟩,Nat.le_refl _,λ_ _ _=>rfl,λc hc=>.inl ?_⟩,λM' hK=>?_⟩
  ·rw[hc3,hv]
   show(Builtin.append_ #[t,t] ty #[_,.slice _ (rows.length - (h+1)) _]).run P w=_
   rw[hl]
   exact append_nothing w t ty T n hT.ht hsz _ _ _ _ _ (Nat.le_refl _)
  ·rw[hc3,htl]at hc
   cases h with
   | zero=>cases hc
   | succ h=>rw[hv];exact hc
  ·rw[hm,List.append_nil]
   refine(rowX T n (cut3 v h) (rows.take h)).mono (ρ:=λ_ _=>none) (h:=undef) hK (λ_ _=>rfl) ?_
   cases h with
   | zero=>exact .inl ⟨some ⟨b,off,none⟩,by rw[hc3];rfl,rfl⟩
   | succ h =>
    refine .inr ⟨b,off,h,cur,vals.take (h+1),by rw[hc3,htl],hA.hb,by omega,.inl htl,?_,?_,rows_take hA.rows _⟩
    ·have:=hA.fit
     have h2:(h+1)*n≤rows.length*n:=Nat.mul_le_mul_right _ (by omega)
     rw[htl];omega
    ·rw[htl,flat_take hvl.1,←hA.tk,List.take_take,Nat.min_eq_left (Nat.mul_le_mul_right _ (by omega))]
 ·have hpos:0<rows.length - (h+1):=by rw[←hdl];exact List.length_pos_iff.2 hm
  have hcl:cutLo v (h+1) n=.slice (some ⟨b,off+(h+1)*n,none⟩) (rows.drop (h+1)).length (cap+1 - (h+1)):=by
   rw[hv,hdl]
   show Value.slice (if cap+1=h+1 then _ else _) _ _=_
   rw[if_neg (by omega)]
   simp[add_addr]
  obtain⟨v',w',q1,q2,_,_,q3⟩:=grow_new (P:=P) (ty:=ty) hT hn (rows_take hA.rows h) (rows_drop hA.rows (h+1)) ⟨b,off,none⟩ ⟨b,off+(h+1)*n,none⟩ (cap+1 - (h+1)) (λq u hq=>by
   rw[flat_take hvl.1,List.getElem?_take]at hq
   split at hq
   ·rw[add_addr];exact hA.cell hq
   ·cases hq) (λq u hq=>by
   rw[flat_drop hvl.1,List.getElem?_drop]at hq
   rw[add_addr,Nat.add_assoc]
   exact hA.cell hq) hm (by rw[htl,hdl];omega) hby (rowF v)
  exact⟨v',w',by rw[hc3,hcl];exact q1,q2,q3⟩
theorem Al_eraseX {d k g h:Nat}{s x:Operand}{t T:TypeId}{n bytes:Nat}{rows:List (List AV)}{v:Value}(ho:o.op=.call ⟨.builtin .append,#[s,x],#[t,t]⟩) (hg:o.guard=none) (hd:o.dst=some d) (hN:d<N) (hc:conB o=true) (hT:R.ElemT P t T n bytes) (hn:1≤n) (hsz:∀w,(sizeOf T).run P w=.ok n w)
  (hs:st.ev s=.d (.v (cut3 v h))) (hx:st.ev x=.d (.v (cutLo v (h+1) n))) (hob:st.ob k=some (g,.op (rowX T n v rows))) (hh:h<rows.length) (hlen:rows.length≤4294967296) (hby:bytes≤32768)
  (hr:∀v',Al P N M0 w0 ops Q l ((st.put k g (.op (rowX T n v' (rows.take h++rows.drop (h+1))))).set d (.d (.v v')))):Al P N M0 w0 ops Q (o::l) st:=by
 refine⟨?_⟩
 rintro a w ⟨ρ,hsim⟩
 have hev:=hsim.ev hc
 have h1:=hev s (mem_call ho s (by simp))
 have h2:=hev x (mem_call ho x (by simp))
 rw[hs]at h1
 rw[hx]at h2
 obtain⟨e1,_⟩:=rep_v h1
 obtain⟨e2,_⟩:=rep_v h2
 obtain⟨y,hy,hF,hX⟩:=hsim.obj k g _ hob
 obtain⟨v',w',hrun,hG,hX'⟩:=RowX.erase (P:=P) (ty:=o.type) hT hn hsz hX hh hlen hby
 have hs2:=hsim.mod2 (w':=w') hob hy hG.os hG.size (λb hb hne=>hG.old b hb hne) (o':=.op (rowX T n v' (rows.take h++rows.drop (h+1)))) (λM' hK=>⟨λb hb=>by
  rcases hG.blk b hb with h3|h3
  ·exact hF b h3
  ·exact .inl (Nat.le_trans hsim.ext.size h3),hX' M' hK⟩) (λb hb=>hG.blk b hb)
 refine wpList_plain hg λK hK=>wp_upon ?_
 have e:(execOp a.eval o).run P w=.ok (.value v') w':=by
  simp only[execOp,ho,resolve,invoke,builtin,Sem.run_bind,Sem.run_pure,Result.andThen_ok,List.map_toArray,List.map_cons,List.map_nil,e1,e2,hrun]
 rw[e]
 refine hK _ _ ((hr v').out _ _ ⟨ρ,?_⟩)
 rw[hd]
 obtain⟨_,_,_,hX2⟩:=hs2.obj k g (.op (rowX T n v' (rows.take h++rows.drop (h+1)))) (by simp[ASt.put])
 exact hs2.set hN (.v _ hX2.vok)
end
theorem gh_row {T:TypeId}{n:Nat}:Ghost .any [] (λ_:Unit=>[(1003,.op (rowX T n (.slice none 0 0) []))]) (λ_=>.any):=λM w ρ x hM hb hx hobs hf hap=>by
 let ρ':Rho:=λk g=>bif Nat.beq k 1003&&Nat.beq g 0 then some undef else ρ k g
 refine⟨(),ρ',?_,λp hp=>(by cases hp),λp hp=>?_,λp hp q hq x x' b _ _ h3 _=>?_,trivial⟩
 ·obtain⟨G,hG⟩:=hb
  refine⟨G+1,λk g h=>?_⟩
  cases hk:(Nat.beq k 1003&&Nat.beq g 0)with
  | true =>
   simp only[Bool.and_eq_true]at hk
   have:=Nat.eq_of_beq_eq_true hk.2
   omega
  | false=>simp only[ρ']at h;rw[hk]at h;have:=hG k g h;omega
 ·rcases List.mem_cons.1 hp with rfl|hp
  ·exact⟨undef,rfl,λb hb=>(by cases hb),.inl ⟨none,rfl,rfl⟩⟩
  ·cases hp
 ·rcases List.mem_cons.1 hp with rfl|hp
  ·cases h3
  ·cases hp
end Go.Proofs.YtdnijgdmohinlaaGreat.A
end
section
namespace Go.Proofs.YtdnijgdmohinlaaGreat.A
open Go Go.RowKit
abbrev bas (w:World):Base:=⟨w,λ_=>True,[],λ_ _=>none⟩
def StarI {σ τ:Type}(E:σ→τ→Obs) (F:Nat→Prop) (X:List (Value×σ)) (M:Nat→Prop) (w:World):Prop :=
 ∃L:List (Rho×Obs),L.length=X.length∧(∀(i:Nat) (e:Rho×Obs) (x:Value×σ),L[i]?=some e→X[i]?=some x→hd e.1=x.1∧∃t,e.2=E x.2 t)∧(∀b,F b↔(starO L).F b)∧(starO L).I M w (λ_ _=>none) undef
def starP {σ τ:Type}(E:σ→τ→Obs) (F:Nat→Prop) (X:List (Value×σ)):OP where
 F:=F
 I:=λM w _ _=>StarI E F X M w
 mono:=λ{M M' w w' ρ h} k hb ⟨L,h1,h2,h3,h4⟩=>⟨L,h1,h2,h3,(starO L).mono (ρ:=λ_ _=>none) (h:=undef) k (λb hf=>hb b ((h3 b).2 hf)) h4⟩
 rho:=λ_ h=>h
 lt:=λ{M w ρ h} ⟨L,_,_,h3,h4⟩ b hb=>(starO L).lt (ρ:=λ_ _=>none) (h:=undef) h4 b ((h3 b).1 hb)
def namTok (k:Nat) (v:Value):OP:=⟨λ_=>False,λ_ _ ρ _=>ρ k 0=some v,λ_ _ h=>h,λhr h=>hr _ _ _ h,λ_ _ hb=>hb.elim⟩
theorem star_perm {L L':List (Rho×Obs)}(hp:L.Perm L') {M:Nat→Prop}{w:World}{ρ:Rho}{h:Value}(hI:(starO L).I M w ρ h):(starO L').I M w ρ h :=
 ⟨λe he=>hI.1 e (hp.mem_iff.2 he),(hp.pairwise_iff (λ{a b} hab c h1 h2=>hab c h2 h1)).1 hI.2⟩
theorem starF_perm {L L':List (Rho×Obs)}(hp:L.Perm L') (b:Nat):(starO L).F b↔(starO L').F b :=
 ⟨λ⟨e,he,h⟩=>⟨e,hp.mem_iff.1 he,h⟩,λ⟨e,he,h⟩=>⟨e,hp.mem_iff.2 he,h⟩⟩
theorem fps_one {ρ:Rho}{k:Nat}{I:OP}{h:Value}(hh:ρ k 0=some h) (b:Nat):fps ρ [(k,.op I)] b↔I.F b :=
 ⟨λ⟨p,hp,x,h1,h2⟩=>by obtain rfl:=List.mem_singleton.1 hp;exact h2,λhb=>⟨_,List.mem_singleton.2 rfl,h,hh,hb⟩⟩
theorem fps_cons {ρ:Rho}{p:Nat×AO}{r:Obs}{b:Nat}:fps ρ (p::r) b↔(∃h,ρ p.1 0=some h∧fpO p.2 h b)∨fps ρ r b:=by
 constructor
 ·rintro⟨q,hq,x,h1,h2⟩
  rcases List.mem_cons.1 hq with rfl|hq
  ·exact .inl ⟨x,h1,h2⟩
  ·exact .inr ⟨q,hq,x,h1,h2⟩
 ·rintro(⟨x,h1,h2⟩|⟨q,hq,x,h1,h2⟩)
  ·exact⟨p,List.mem_cons_self ..,x,h1,h2⟩
  ·exact⟨q,List.mem_cons_of_mem _ hq,x,h1,h2⟩
section
variable {σ τ:Type}{E:σ→τ→Obs}{F:Nat→Prop}{X X1 X2:List (Value×σ)}{v:Value}{s s':σ}
theorem focusP {P:Program}{f:FuncId}{rest:List AV}{res:AV}{i:Nat}(hf:∀(vs:Array Value) (w:World),(callFunc f vs).run P w=.ok (.enter f vs) w) (h:∀t,GCallE P f (.bx 1001 0 0::rest.map .d) (E s t) λt':τ=>some (E s' t',.d res)) (hi:X[i]?=some (v,s)) (h0:∀t,∃T cs,(1001,AO.box T cs)∈E s t) :
  GCallE P f (.d (.v v)::rest.map .d) [(1001,.op (starP E F X))] (λF':Nat→Prop=>some ([(1001,.op (starP E F' (X.set i (v,s'))))],.d res)):=by
 refine⟨hf,λM w ρ vs hM hbnd ha hobs hfps hap=>?_⟩
 obtain⟨hh,e1,hF,L,l1,l2,l3,hI⟩:=hobs _ (List.mem_singleton.2 rfl)
 have hil:i<L.length:=by rw[l1];exact(List.getElem?_eq_some_iff.1 hi).1
 obtain⟨k1,t,k2⟩:=l2 i L[i] (v,s) (by simp[hil]) hi
 obtain⟨T,cs,hbx⟩:=h0 t
 have hLi:L[i]?=some ((L[i]).1,E s t):=by rw[List.getElem?_eq_getElem hil,←k2]
 have hcall:=GCallE.focus (h t) hLi hbx
 have e1':ρ 1001 0=some hh:=e1
 have fo:=λb=>fps_one (I:=starP E F X) e1' b
 have fo':=λb=>fps_one (I:=starO L) e1' b
 have hargs:ARep M w ρ (.eq (hd (L[i]).1)::rest.map .d) vs:=⟨by rw[ha.1];simp,λj a x h1 h2=>by
  cases j with
  | zero =>
   obtain rfl:SV.eq (hd (L[i]).1)=a:=by simpa using h1
   rw[k1]
   exact Sub.ve _ _ _ _ (ha.2 0 (.d (.v v)) x rfl h2)
  | succ j=>exact ha.2 (j+1) a x (by simpa using h1) h2⟩
 have hob1:Objs (bas w) M w ρ [(1001,.op (starO L))]:=λp hp=>by
  obtain rfl:=List.mem_singleton.1 hp
  exact⟨hh,e1,λ_ _=>.inr trivial,hI⟩
 refine(hcall.2 M w ρ vs hM hbnd hargs hob1 (λb hb=>hfps b ((fo b).2 ((l3 b).2 ((fo' b).1 hb)))) (λp hp q hq _ _ _ _ _ _ _=>by rw[List.mem_singleton.1 hp,List.mem_singleton.1 hq])).mono λe w' ⟨hx,⟨t',ρn⟩,u,he,ρ',hb',hsame,hobj,hap',hres⟩=>?_
 have e2:ρ' 1001 0=some hh:=(hsame _ (List.mem_singleton.2 rfl)).trans e1
 obtain⟨h2,e3,hF2,hI2⟩:=hobj _ (List.mem_singleton.2 rfl)
 have e3':ρ' 1001 0=some h2:=e3
 rw[e2]at e3'
 obtain rfl:=Option.some.inj e3'
 have fn:=λb=>fps_one (I:=starO (L.set i (ρn.1,E s' t'))) e2 b
 have fn':=λb=>fps_one (I:=starP E (starO (L.set i (ρn.1,E s' t'))).F (X.set i (v,s'))) e2 b
 have hM2:∀b,(M b∨fps ρ' [(1001,AO.op (starP E (starO (L.set i (ρn.1,E s' t'))).F (X.set i (v,s'))))] b)↔(M b∨fps ρ' [(1001,AO.op (starO (L.set i (ρn.1,E s' t'))))] b):=λb=>or_congr_right ((fn' b).trans (fn b).symm)
 have hM3:(λb=>M b∨fps ρ' [(1001,AO.op (starP E (starO (L.set i (ρn.1,E s' t'))).F (X.set i (v,s'))))] b)=(λb=>M b∨fps ρ' [(1001,AO.op (starO (L.set i (ρn.1,E s' t'))))] b):=funext λb=>propext (hM2 b)
 have hl:fps ρ [(1001,.op (starP E F X))]=fps ρ [(1001,.op (starO L))]:=funext λb=>propext ((fo b).trans ((l3 b).trans (fo' b).symm))
 rw[hl]
 refine⟨hx,(starO (L.set i (ρn.1,E s' t'))).F,u,he,ρ',hb',λp hp=>(by rw[List.mem_singleton.1 hp];exact e2.trans e1.symm),λp hp=>?_,λp hp q hq _ _ _ _ _ _ _=>by rw[List.mem_singleton.1 hp,List.mem_singleton.1 hq],?_⟩
 ·obtain rfl:=List.mem_singleton.1 hp
  refine⟨hh,e2,λb hb=>by rw[hl];exact hF2 b hb,L.set i (ρn.1,E s' t'),by simp[l1],λj e x h1 h2=>?_,λb=>Iff.rfl,?_⟩
  ·rw[List.getElem?_set]at h1 h2
   split at h1
   ·rename_i hij
    rw[if_pos hij]at h2
    simp only[show i<L.length from hil,show i<X.length from by omega,if_true]at h1 h2
    obtain rfl:=Option.some.inj h1
    obtain rfl:=Option.some.inj h2
    exact⟨ρn.2.trans k1,t',rfl⟩
   ·rename_i hij
    rw[if_neg hij]at h2
    exact l2 j e x h1 h2
  ·rw[hM3];exact hI2
 ·rw[hM3];exact hres
theorem mem_fps {ρ:Rho}{obs:Obs}{b:Nat}{p:Nat×AO}{x:Value}(hp:p∈obs) (h1:ρ p.1 0=some x) (h2:fpO p.2 x b):fps ρ obs b:=⟨p,hp,x,h1,h2⟩
theorem gh_pull (hE:∀t,(∃T cs,(1001,AO.box T cs)∈E s t)∧(∀p∈E s t,1001≤p.1∧p.1≤1008)∧ObsIn [1001,1002,1003,1004,1005,1006,1007,1008] (E s t)):Ghost (.d (.v v)) [(1000,.op (starP E F (X1++(v,s)::X2)))] (λx:τ×(Nat→Prop)=>(1000,.op (starP E x.2 (X1++X2)))::(1009,.op (namTok 1001 v))::E s x.1) (λ_=>.bx 1001 0 0):=λM w ρ x hM hb hx hobs hf hap=>by
 obtain⟨hh,e1',hF,L,l1,l2,l3,hI⟩:=hobs _ (List.mem_singleton.2 rfl)
 have e1:ρ 1000 0=some hh:=e1'
 have hi:X1.length<L.length:=by rw[l1];simp
 obtain⟨k1,t,k2⟩:=l2 X1.length L[X1.length] (v,s) (by simp[hi]) (by simp)
 obtain⟨⟨T,cs,hbx⟩,hks,hin⟩:=hE t
 have hLe:L=L.take X1.length++L[X1.length]::L.drop (X1.length+1):=by rw[List.getElem_cons_drop,List.take_append_drop]
 have hperm:L.Perm (L[X1.length]::(L.take X1.length++L.drop (X1.length+1))):=by
  have:=List.perm_middle (a:=L[X1.length]) (l₁:=L.take X1.length) (l₂:=L.drop (X1.length+1))
  rwa [←hLe]at this
 have hI':=star_perm hperm hI
 have hF':=λb=>(l3 b).trans (starF_perm hperm b)
 generalize L[X1.length]=le at *
 obtain⟨ρe,oe⟩:=le
 obtain rfl:oe=E s t:=k2
 obtain⟨m1,m2,m3⟩:=hI'.1 _ (List.mem_cons_self ..)
 have hdis:=(List.pairwise_cons.1 hI'.2).1
 have hfo:∀b,fps ρ [(1000,AO.op (starP E F (X1++(v,s)::X2)))] b↔F b:=fps_one e1
 let ρ':Rho:=λk g=>if g=0∧1001≤k∧k≤1008 then ρe k 0 else if g=0∧k=1009 then some undef else ρ k g
 have r0:ρ' 1000 0=some hh:=by simp[ρ',e1]
 have r9:ρ' 1009 0=some undef:=by simp[ρ']
 have rk:∀k,1001≤k→k≤1008→ρ' k 0=ρe k 0:=λk h1 h2=>by simp[ρ',h1,h2]
 have rE:∀p∈E s t,ρ' p.1 0=ρe p.1 0:=λp hp=>rk p.1 (hks p hp).1 (hks p hp).2
 have fE:∀b,fps ρ' (E s t) b↔fps ρe (E s t) b:=fps_eq rE
 obtain⟨y,n1',b0,ys,rfl,n2⟩:=m1 _ hbx
 have n1:ρe 1001 0=some (.pointer (some ⟨b0,0,none⟩)):=n1'
 have hv:v=.pointer (some ⟨b0,0,none⟩):=by
  have:hd ρe=v:=k1
  rw[←this];unfold hd;rw[n1];rfl
 have hEF:∀b,fps ρe (E s t) b→F b:=λb hb=>(hF' b).2 ⟨_,List.mem_cons_self ..,hb⟩
 have hSF:∀b,(starO (L.take X1.length++L.drop (X1.length+1))).F b→F b:=λb ⟨e,he,h⟩=>(hF' b).2 ⟨e,List.mem_cons_of_mem _ he,h⟩
 have hM':∀c,(M c∨fps ρ' ((1000,AO.op (starP E (starO (L.take X1.length++L.drop (X1.length+1))).F (X1++X2)))::(1009,.op (namTok 1001 v))::E s t) c)→M c:=λc hc=>by
  rcases hc with hc|hc
  ·exact hc
  ·refine hf c ((hfo c).2 ?_)
   rcases fps_cons.1 hc with⟨_,_,h⟩|hc
   ·exact hSF c h
   ·rcases fps_cons.1 hc with⟨_,_,h⟩|hc
    ·exact h.elim
    ·exact hEF c ((fE c).1 hc)
 refine⟨(t,(starO (L.take X1.length++L.drop (X1.length+1))).F),ρ',?_,λp hp=>?_,λp hp=>?_,λp hp q hq z z' c h1 h2 h3 h4=>?_,?_⟩
 ·obtain⟨G,hG⟩:=hb
  refine⟨G+1,λk g h=>?_⟩
  by_cases hg:g=0
  ·omega
  ·have:ρ k g≠none:=by simpa [ρ',hg]using h
   have:=hG k g this
   omega
 ·obtain rfl:=List.mem_singleton.1 hp
  exact r0.trans e1.symm
 ·rcases List.mem_cons.1 hp with rfl|hp
  ·refine⟨hh,r0,λb hb=>.inr ((hfo b).2 (hSF b hb)),L.take X1.length++L.drop (X1.length+1),?_,λj e z h1 h2=>?_,λb=>Iff.rfl,?_⟩
   ·simp only[List.length_append,List.length_take,List.length_drop,List.length_cons]at l1 ⊢;omega
   ·rcases Nat.lt_or_ge j X1.length with hj|hj
    ·rw[List.getElem?_append_left (by simp;omega),List.getElem?_take,if_pos hj]at h1
     rw[List.getElem?_append_left hj]at h2
     exact l2 j e z h1 (by rw[List.getElem?_append_left hj];exact h2)
    ·have hlt:(L.take X1.length).length=X1.length:=by simp;omega
     rw[List.getElem?_append_right (by omega),hlt,List.getElem?_drop]at h1
     rw[List.getElem?_append_right hj]at h2
     refine l2 (X1.length+1+(j - X1.length)) e z h1 ?_
     rw[List.getElem?_append_right (by omega),show X1.length+1+(j - X1.length) - X1.length=(j - X1.length)+1 from by omega,List.getElem?_cons_succ]
     exact h2
   ·refine⟨λe he=>⟨objs_mono (Known.sub hM') (λ_ _=>rfl) (hI'.1 e (List.mem_cons_of_mem _ he)).1,(hI'.1 e (List.mem_cons_of_mem _ he)).2⟩,(List.pairwise_cons.1 hI'.2).2⟩
  ·rcases List.mem_cons.1 hp with rfl|hp
   ·exact⟨undef,r9,λb hb=>hb.elim,by show ρ' 1001 0=some v;rw[rk 1001 (by omega) (by omega),n1,hv]⟩
   ·obtain⟨z,h1,h2⟩:=m1 p hp
    refine⟨z,(rE p hp).trans h1,?_⟩
    refine(aoIn_rep (ρ:=ρ') (ρ':=ρe) (ks:=[1001,1002,1003,1004,1005,1006,1007,1008]) (λk hk=>?_) (hin.get p hp) h2 |>.mono (Known.sub hM') λ_ _=>rfl).base λb hb=>.inr ((hfo b).2 (hEF b ⟨p,hp,z,h1,hb⟩))
    simp only[List.mem_cons,List.not_mem_nil,or_false]at hk
    exact(rk k (by omega) (by omega)).symm
 ·have hsep:∀c q z',q∈E s t→ρ' q.1 0=some z'→fpO q.2 z' c→(starO (L.take X1.length++L.drop (X1.length+1))).F c→False:=λc q z' hq h2 h4 ⟨e,he,h⟩=>hdis e he c ((fE c).1 ⟨q,hq,z',h2,h4⟩) h
  rcases List.mem_cons.1 hp with rfl|hp
  ·rcases List.mem_cons.1 hq with rfl|hq
   ·rfl
   ·rcases List.mem_cons.1 hq with rfl|hq
    ·exact h4.elim
    ·exact(hsep c q z' hq h2 h4 h3).elim
  ·rcases List.mem_cons.1 hp with rfl|hp
   ·exact h3.elim
   ·rcases List.mem_cons.1 hq with rfl|hq
    ·exact(hsep c p z hp h1 h3 h4).elim
    ·rcases List.mem_cons.1 hq with rfl|hq
     ·exact h4.elim
     ·exact m2 p hp q hq z z' c ((rE p hp).symm.trans h1) ((rE q hq).symm.trans h2) h3 h4
 ·obtain⟨h1,_⟩:=rep_v hx
  exact⟨_,b0,(rk 1001 (by omega) (by omega)).trans n1,rfl,by rw[h1,hv]⟩
theorem star_put {M:Nat→Prop}{w:World}{L:List (Rho×Obs)}{ρ:Rho}{o:Obs}(hI:(starO L).I M w (λ_ _=>none) undef) (h1:Objs (bas w) M w ρ o) (h2:Apart ρ o) (h3:Bnd ρ) (hd:∀b,(starO L).F b→fps ρ o b→False) (n:Nat):(starO (L.take n++(ρ,o)::L.drop n)).I M w (λ_ _=>none) undef∧∀b,(starO (L.take n++(ρ,o)::L.drop n)).F b↔(fps ρ o b∨(starO L).F b):=by
 have hp:((ρ,o)::L).Perm (L.take n++(ρ,o)::L.drop n):=by
  have:=(List.perm_middle (a:=(ρ,o)) (l₁:=L.take n) (l₂:=L.drop n)).symm
  rwa [List.take_append_drop]at this
 refine⟨star_perm hp ⟨λe he=>?_,List.pairwise_cons.2 ⟨λe he b hb hb'=>hd b ⟨e,he,hb'⟩ hb,hI.2⟩⟩,λb=>(starF_perm hp b).symm.trans ?_⟩
 ·rcases List.mem_cons.1 he with rfl|he
  ·exact⟨h1,h2,h3⟩
  ·exact hI.1 e he
 ·constructor
  ·rintro⟨e,he,h⟩
   rcases List.mem_cons.1 he with rfl|he
   ·exact .inl h
   ·exact .inr ⟨e,he,h⟩
  ·rintro(h|⟨e,he,h⟩)
   ·exact⟨_,List.mem_cons_self ..,h⟩
   ·exact⟨e,List.mem_cons_of_mem _ he,h⟩
theorem star_rel {L:List (Rho×Obs)}{ρ:Rho}{t:τ}(l1:L.length=(X1++X2).length) (l2:∀(i:Nat) (e:Rho×Obs) (x:Value×σ),L[i]?=some e→(X1++X2)[i]?=some x→hd e.1=x.1∧∃t,e.2=E x.2 t) (hv:hd ρ=v):(L.take X1.length++(ρ,E s' t)::L.drop X1.length).length=(X1++(v,s')::X2).length∧∀(i:Nat) (e:Rho×Obs) (x:Value×σ),(L.take X1.length++(ρ,E s' t)::L.drop X1.length)[i]?=some e→(X1++(v,s')::X2)[i]?=some x→hd e.1=x.1∧∃t,e.2=E x.2 t:=by
 rw[List.length_append]at l1
 have hlt:(L.take X1.length).length=X1.length:=by simp;omega
 refine⟨by simp;omega,λj e x h1 h2=>?_⟩
 rcases Nat.lt_or_ge j X1.length with hj|hj
 ·rw[List.getElem?_append_left (by omega),List.getElem?_take,if_pos hj]at h1
  rw[List.getElem?_append_left hj]at h2
  exact l2 j e x h1 (by rw[List.getElem?_append_left hj];exact h2)
 ·rw[List.getElem?_append_right (by omega),hlt]at h1
  rw[List.getElem?_append_right hj]at h2
  cases hk:j - X1.length with
  | zero =>
   rw[hk]at h1 h2
   simp only[List.getElem?_cons_zero,Option.some.injEq]at h1 h2
   subst h1 h2
   exact⟨hv,t,rfl⟩
  | succ k =>
   rw[hk]at h1 h2
   rw[List.getElem?_cons_succ]at h1 h2
   rw[List.getElem?_drop]at h1
   refine l2 (X1.length+k) e x h1 ?_
   rw[List.getElem?_append_right (by omega),Nat.add_sub_cancel_left]
   exact h2
theorem gh_put {t:τ}(hE:∀p∈E s' t,1001≤p.1∧p.1≤1008):Ghost .any ((1000,.op (starP E F (X1++X2)))::(1009,.op (namTok 1001 v))::E s' t) (λF':Nat→Prop=>[(1000,.op (starP E F' (X1++(v,s')::X2)))]) (λ_=>.any):=λM w ρ x hM hb hx hobs hf hap=>by
 obtain⟨hh,e1',hF,L,l1,l2,l3,hI⟩:=hobs _ (List.mem_cons_self ..)
 have e1:ρ 1000 0=some hh:=e1'
 obtain⟨_,_,_,hn⟩:=hobs (1009,.op (namTok 1001 v)) (by simp)
 have hn:ρ 1001 0=some v:=hn
 have hsub:∀p∈E s' t,p∈(1000,AO.op (starP E F (X1++X2)))::(1009,AO.op (namTok 1001 v))::E s' t:=λp hp=>by simp[hp]
 have hv:hd ρ=v:=by unfold hd;rw[hn];rfl
 have hsep:∀b,(starO L).F b→fps ρ (E s' t) b→False:=λb h1 ⟨p,hp,z,h2,h3⟩=>by
  have:=hap _ (List.mem_cons_self ..) p (hsub p hp) hh z b e1 h2 ((l3 b).2 h1) h3
  have h4:=(hE p hp).1
  rw[←this]at h4
  exact absurd h4 (show¬1001≤1000 by decide)
 obtain⟨j1,j2⟩:=star_put hI (λp hp=>hobs p (hsub p hp)) (λp hp q hq=>hap p (hsub p hp) q (hsub q hq)) hb hsep X1.length
 obtain⟨j3,j4⟩:=star_rel (E:=E) (s':=s') (t:=t) l1 l2 hv
 have hfo:∀b,(starO (L.take X1.length++(ρ,E s' t)::L.drop X1.length)).F b→fps ρ ((1000,AO.op (starP E F (X1++X2)))::(1009,AO.op (namTok 1001 v))::E s' t) b:=λb hb=>by
  rcases(j2 b).1 hb with⟨p,hp,z,h1,h2⟩|h
  ·exact⟨p,hsub p hp,z,h1,h2⟩
  ·exact mem_fps (List.mem_cons_self ..) e1 ((l3 b).2 h)
 have hM':∀c,(M c∨fps ρ [(1000,AO.op (starP E (starO (L.take X1.length++(ρ,E s' t)::L.drop X1.length)).F (X1++(v,s')::X2)))] c)→M c:=λc hc=>by
  rcases hc with hc|hc
  ·exact hc
  ·exact hf c (hfo c ((fps_one (I:=starP E _ _) e1 c).1 hc))
 refine⟨(starO (L.take X1.length++(ρ,E s' t)::L.drop X1.length)).F,ρ,hb,λp hp=>rfl,λp hp=>?_,λp hp q hq _ _ _ _ _ _ _=>by rw[List.mem_singleton.1 hp,List.mem_singleton.1 hq],trivial⟩
 obtain rfl:=List.mem_singleton.1 hp
 refine⟨hh,e1,λb hb=>.inr (hfo b hb),L.take X1.length++(ρ,E s' t)::L.drop X1.length,j3,j4,λb=>Iff.rfl,?_⟩
 exact(starO _).mono (ρ:=λ_ _=>none) (h:=undef) (Known.sub hM') (λ_ _=>rfl) j1
theorem gh_nil:Ghost .any [] (λ_:Unit=>[(1000,.op (starP E (λ_=>False) []))]) (λ_=>.any):=λM w ρ x hM hb hx hobs hf hap=>by
 let ρ':Rho:=λk g=>if k=1000∧g=0 then some undef else ρ k g
 have r0:ρ' 1000 0=some undef:=by simp[ρ']
 refine⟨(),ρ',?_,λp hp=>(by cases hp),λp hp=>?_,λp hp q hq _ _ _ _ _ _ _=>by rw[List.mem_singleton.1 hp,List.mem_singleton.1 hq],trivial⟩
 ·obtain⟨G,hG⟩:=hb
  refine⟨G+1,λk g h=>?_⟩
  by_cases hg:g=0
  ·omega
  ·have:=hG k g (by simpa [ρ',hg]using h)
   omega
 ·obtain rfl:=List.mem_singleton.1 hp
  exact⟨undef,r0,λb hb=>hb.elim,[],rfl,λi e x h=>by simp at h,λb=>⟨λh=>h.elim,λ⟨e,he,_⟩=>(by cases he)⟩,⟨λe he=>(by cases he),List.Pairwise.nil⟩⟩
end
end Go.Proofs.YtdnijgdmohinlaaGreat.A
end
section
namespace Go.Proofs.YtdnijgdmohinlaaGreat.A
open Go Go.RowKit
section
variable {P:Program}{N:Nat}{M0:Nat→Prop}{w0:Base}{ops:Array Oper}{Q:Exit→ASt→Prop}{o:Oper}{l:List Oper}{st:ASt}
theorem Al_clear0 {k g n lo h:Nat}{x:Operand}{t e T:TypeId}{z:Value}{zs:List AV}{rows:List (List AV)}(ho:o.op=.call ⟨.builtin .clear,#[x],#[t]⟩) (hg:o.guard=none) (hd:o.dst=none) (hc:conB o=true) (ht:P.underlying t=some (.slice e)) (hz:∀w,(zeroValue e).run P w=.ok z w) (hzn:z.cells.size=n) (hn:0<n)
  (hzs:z.cells.toList.map AV.v=zs) (hv:z.cells.toList.all (λz=>decide (vok z))=true) (hx:st.ev x=.ows k g n lo h) (hob:st.ob k=some (g,.arr T n rows)) (hh:h=rows.length)
  (hr:Al P N M0 w0 ops Q l (st.put k g (.arr T n (rows.take lo++List.replicate (h - lo) zs)))):Al P N M0 w0 ops Q (o::l) st:=by
 refine⟨?_⟩
 rintro a w ⟨ρ,hsim⟩
 have h1:=hsim.ev hc x (mem_call ho x (by simp))
 rw[hx]at h1
 obtain⟨ad,len,cp,a',k1,k2,k3,k4,k5⟩:=h1
 obtain⟨u,hu,hO⟩:=hsim.obj k g _ hob
 rw[k1]at hu;cases hu
 subst hh
 have fin:∀w',SimR N M0 w0 (st.put k g (.arr T n (rows.take lo++List.replicate (rows.length - lo) zs))) ρ a w'→(execOp a.eval o).run P w=.ok (.value (.tuple #[])) w'→wpList P ops (QL N M0 w0 Q) (o::l) a w:=λw' hs e=>by
  refine wpList_plain hg λK hK=>wp_upon ?_
  rw[e]
  refine hK _ _ (hr.out _ _ ⟨ρ,?_⟩)
  rw[hd]
  exact hs
 by_cases hlt:lo<rows.length
 ·obtain⟨b,rfl,rfl⟩:=k5 hlt
  obtain⟨cap,cur,vals,he,hgb,hnc,hcp,hsz,htk,hrw,hl,hlb⟩:=arr_at hO (b:=b) rfl
  have hcc:cap=cp:=by cases he;rfl
  subst hcc
  cases he
  have hun:=unif_rows hrw
  have hfr:=flat_lenA hun
  have hzl:zs.length=n:=by rw[←hzs];simp[hzn]
  have hrl:(List.replicate (rows.length - lo) zs).flatten.length=(rows.length - lo)*n:=by simp[hzl]
  have hul:(List.replicate (rows.length - lo) z.cells.toList).flatten.length=(rows.length - lo)*n:=by simp[hzn]
  have hlen:(rows.take lo++List.replicate (rows.length - lo) zs).length=rows.length:=by simp;omega
  have e1:lo*n+(rows.length - lo)*n=rows.length*n:=by rw[←Nat.add_mul];congr 1;omega
  have e2:rows.length*n≤cap*n:=Nat.mul_le_mul_right _ hnc
  obtain⟨w',vs',q1,q2,q3,q4,q5,q6,q7⟩:=splice_core (P:=P) (rows.take lo++List.replicate (rows.length - lo) zs) hgb hsz htk hrw (zero_cells hzs hv (rows.length - lo)) (off:=lo*n) (by omega) (by rw[hul];omega) (by rw[hlen];exact hnc)
   (λq hq=>by
    rcases List.mem_append.1 hq with hq|hq
    ·exact hun q (List.mem_of_mem_take hq)
    ·rw[List.eq_of_mem_replicate hq];exact hzl)
   (by rw[List.flatten_append,flat_take hun,hrl,List.drop_eq_nil_of_le (by omega),List.append_nil])
  refine fin w' (hsim.mod (w':=w') hob k1 q6 (by omega) (λc' hc' hne=>q4 c' (λe=>hne (by simp[blk,e]))) (λM' hK _=>by
   obtain⟨vals',hv1,hv2⟩:=q7 M' hK
   exact⟨vals',⟨by have h9:vs'.toList.length=cap*n:=(Array.length_toList ..).trans q3;rw[hv1,List.length_take,hlen,h9];omega,.inr ⟨b,cap,vs',by rw[hlen],Nat.zero_le _,q2,by rw[hlen];exact hnc,hcp,q3,hv1.symm⟩⟩,hv2,⟨_,cap,by rw[hlen]⟩,by rw[hlen];exact hl,λc' hc'=>by simp only[blk,Option.some.injEq]at hc';subst hc';exact hlb⟩)) ?_
  have hne:rows.length - lo≠0:=by omega
  rw[←zeroCells_list z.cells _ (by omega)]at q1
  simp only[execOp,ho,resolve,invoke,builtin,Sem.run_bind,Sem.run_pure,Result.andThen_ok,List.map_toArray,List.map_cons,List.map_nil,k2,Builtin.clear_]
  simp[run_underlying ht,hz,hne,q1,Result.andThen]
 ·have hll:rows.length - lo=0:=by omega
  refine fin w (hsim.mod (w':=w) hob k1 ⟨rfl,rfl,rfl⟩ (Nat.le_refl _) (λ_ _ _=>rfl) (λM' hK _=>?_)) ?_
  ·rw[hll,List.replicate_zero,List.append_nil,List.take_of_length_le (by omega)]
   exact hO.mono hK λ_ _=>rfl
  ·simp only[execOp,ho,resolve,invoke,builtin,Sem.run_bind,Sem.run_pure,Result.andThen_ok,List.map_toArray,List.map_cons,List.map_nil,k2,hll,Builtin.clear_]
   cases a'<;>simp[run_underlying ht,Result.andThen]
end
end Go.Proofs.YtdnijgdmohinlaaGreat.A
namespace Go.Proofs.YtdnijgdmohinlaaGreat
open Go.RowKit A
namespace S
theorem find_neg {α:Type}{p:α→Bool}{l:List α}(h:S.find p l= -1):(l.filter λx=>!p x)=l:=by
 unfold S.find at h
 split at h
 ·omega
 ·rename_i hn
  rw[List.filter_eq_self]
  intro x hx
  cases hp:p x with
  | false=>rfl
  | true=>exact(hn (List.any_eq_true.2 ⟨x,hx,hp⟩)).elim
theorem find_pos {α:Type}{p:α→Bool}{l:List α}(h:¬S.find p l= -1):∃i,∃hi:i<l.length,S.find p l=(i:Int)∧p l[i]=true∧∀j (hj:j<l.length),j<i→p l[j]=false:=by
 unfold S.find at h ⊢
 split at h
 ·rename_i hy
  rw[if_pos hy]
  obtain⟨x,hx,hp⟩:=List.any_eq_true.1 hy
  have hlt:l.findIdx p<l.length:=List.findIdx_lt_length_of_exists ⟨x,hx,hp⟩
  exact⟨l.findIdx p,hlt,rfl,List.findIdx_getElem,λj hj hji=>by simpa using List.not_of_lt_findIdx hji⟩
 ·exact(h rfl).elim
theorem filter_first {α:Type}{p:α→Bool}{l:List α}{i:Nat}(hi:i<l.length) (hp:p l[i]=true) (hb:∀j (hj:j<l.length),j<i→p l[j]=false):l.take i=(l.take (i+1)).filter (λx=>!p x):=by
 rw[List.take_succ_eq_append_getElem hi,List.filter_append,List.filter_cons,hp]
 have:(l.take i).filter (λx=>!p x)=l.take i:=by
  rw[List.filter_eq_self]
  intro x hx
  obtain⟨j,hj,rfl⟩:=List.getElem_of_mem hx
  rw[List.length_take]at hj
  rw[List.getElem_take,hb j (by omega) (by omega)];rfl
 rw[this];simp
theorem drop_at {α:Type}[Inhabited α] {c l:List α}{j:Nat}(h:c.drop j=l.drop j) (hj:j<l.length) (hc:j<c.length):c.getD j default=l[j]:=by
 have h1:(c.drop j)[0]?=(l.drop j)[0]?:=by rw[h]
 rw[List.getElem?_drop,List.getElem?_drop,Nat.add_zero,List.getElem?_eq_getElem hj]at h1
 rw[List.getD_eq_getElem?_getD,h1];rfl
theorem map_getD {α β:Type}[Inhabited α] {f:α→β}{c:List α}{j:Nat}(hj:j<c.length):(c.map f)[j]'(by simpa using hj)=f (c.getD j default):=by simp[hj]
theorem row_at {rows:List (List AV)}{n j:Nat}(hu:∀r∈rows,r.length=n) (hj:j<rows.length):(rows.flatten.drop (j*n)).take n=rows[j]:=by
 rw[←flat_drop hu,List.drop_eq_getElem_cons hj,List.flatten_cons,List.take_append_of_le_length (by rw[hu _ (List.getElem_mem hj)];exact Nat.le_refl _),List.take_of_length_le (by rw[hu _ (List.getElem_mem hj)];exact Nat.le_refl _)]
theorem flat_set {rows:List (List AV)}{n i:Nat}{x:List AV}(hu:∀r∈rows,r.length=n) (hi:i<rows.length) (hx:x.length=n):(rows.set i x).flatten=rows.flatten.take (i*n)++x++rows.flatten.drop (i*n+n):=by
 have h2:i*n+n=(i+1)*n:=by rw[Nat.add_mul,Nat.one_mul]
 rw[h2,←flat_take hu,←flat_drop hu,List.set_eq_take_append_cons_drop,if_pos hi]
 simp
theorem del_keep {α:Type}{p:α→Bool}{c l:List α}{i j:Nat}(hj:j<l.length) (h:c.take i=(l.take j).filter λx=>!p x) (hp:p l[j]=false) (hi:i<c.length):(c.set i l[j]).take (i+1)=(l.take (j+1)).filter λx=>!p x:=by
 rw[List.take_succ_eq_append_getElem hj,List.filter_append,List.filter_cons,hp,←h]
 rw[List.take_succ_eq_append_getElem (by simpa using hi),List.take_set_of_le (Nat.le_refl i)]
 simp
theorem del_drop {α:Type}{p:α→Bool}{c l:List α}{i j:Nat}(hj:j<l.length) (h:c.take i=(l.take j).filter λx=>!p x) (hp:p l[j]=true):c.take i=(l.take (j+1)).filter λx=>!p x:=by
 rw[List.take_succ_eq_append_getElem hj,List.filter_append,List.filter_cons,hp,←h]
 simp
end S
end Go.Proofs.YtdnijgdmohinlaaGreat
end
