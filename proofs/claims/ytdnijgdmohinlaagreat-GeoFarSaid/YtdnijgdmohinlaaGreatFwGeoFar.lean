/- GeoFar: a write comes to all that own its key, however far they are, and to no other chain; no condition. -/
import Derived.Test.YtdnijgdmohinlaaGreatF7
set_option linter.unusedSimpArgs false
set_option linter.unusedVariables false
set_option linter.constructorNameAsVariable false
section
namespace Go.Proofs.YtdnijgdmohinlaaGreat
open Go.ChangeShapes Go.WideShapes Go.ChangeAt Go.RowKit A
theorem geoFar_law.own:ownKnob Tryz.prog.godebug=none:=by kernel_rfl
theorem geoFar_law.laidOut:laidOutB Tryz.prog=true:=by kernel_rfl
set_option maxRecDepth 100000 in
theorem geoFar_law.lifted (os:Os) (started:os.Started) (H:Type) (enc:TypeId×Value→H) :
  ReturnsInHanded {} Tryz.checked os 4 .any (Rows.geoFarSpec.pre6 enc Tryz.prog Tryz.f4 Rows.geoFarRow.domain false) (Rows.geoFarSpec.post enc Tryz.prog Tryz.f4 false true false false):=by
 refine returnsInHanded_of_change (C:=Tryz.checked) geoFar_law.own started (by kernel_rfl) Tryz.func4
  (ChangeSpec.witness6 (enc:=enc) (C:=Tryz.checked) false ⟨#[],#[.agg #[.slice none 0 0,.slice none 0 0,.slice none 0 0],.int .i64 0,.int .i64 0],[]⟩ 8 (by kernel_rfl) (by kernel_rfl) (by kernel_rfl) (by kernel_rfl)) ?_
 intro W base args ds gs before hval0 hW hcnd _
 have hval:∀(j:Nat) t v,Tryz.f4.params[j]?=some t→args[j]?=some v→Value.okWide Tryz.prog W .any base t v:=hval0
 have hW':=hW
 obtain⟨p,q,hA0,hV,rfl,hfz,hnd⟩:=hW
 have hA:DataW.TrodAll enc Tryz.prog W 0 (λ_=>true) true Tryz.f4.params.toList args.toList ds p:=hA0
 rw[Tryz.params4]at hA hval
 obtain⟨v0,vs0,d0,ds0,p0,q0,hargs,rfl,rfl,h0,r0⟩:=trodAll_cons hA
 obtain⟨v1,vs1,d1,ds1,p1,q1,rfl,rfl,rfl,h1,r1⟩:=trodAll_cons r0
 obtain⟨v2,vs2,d2,ds2,p2,q2,rfl,rfl,rfl,h2,r2⟩:=trodAll_cons r1
 obtain⟨rfl,rfl,rfl⟩:=trodAll_nil r2
 obtain rfl:args=#[v0,v1,v2]:=by cases args;simp_all
 obtain⟨rfl,rfl⟩:=trodVars_none hV
 have k0:=h0
 have lt0:∀x∈p0,x.block<W.heap.size:=by obtain⟨m,hm⟩:=k0;exact DataW.trod_lt m _ _ _ hm
 have ok0:=hval 0 24 v0 rfl rfl
 have k1:=h1
 have lt1:∀x∈p1,x.block<W.heap.size:=by obtain⟨m,hm⟩:=k1;exact DataW.trod_lt m _ _ _ hm
 have ok1:=hval 1 3 v1 rfl rfl
 have k2:=h2
 have lt2:∀x∈p2,x.block<W.heap.size:=by obtain⟨m,hm⟩:=k2;exact DataW.trod_lt m _ _ _ hm
 have ok2:=hval 2 3 v2 rfl rfl
 clear hA0 hval0
 obtain⟨q,hq⟩:=open_qspec21 ok0 h0
 obtain⟨n,hn⟩:=A.open_i64 Tryz.underlying3 ok1 h1
 obtain⟨m,hm⟩:=A.open_i64 Tryz.underlying3 ok2 h2 
 refine(A.law (geofar_law q n m) (A.allcons hq (A.allcons hn (A.allcons hm A.allnil)))).mono λe W' ⟨he,bel⟩=>?_
 subst he
 exact⟨_,rfl,_,_,_,[],_,[],hW',trodAll_mk1 (shut_bool Tryz.underlying4 _),(trodAll_cons_mk (Below.trod geoFar_law.laidOut (by kernel_rfl) (of_decide_eq_true (by kernel_rfl)) k0 bel lt0) (trodAll_cons_mk (Below.trod geoFar_law.laidOut (by kernel_rfl) (of_decide_eq_true (by kernel_rfl)) k1 bel lt1) (trodAll_cons_mk (Below.trod geoFar_law.laidOut (by kernel_rfl) (of_decide_eq_true (by kernel_rfl)) k2 bel lt2) trodAll_mk0))),rfl,bel.frame _,λh=>by cases h⟩
theorem geoFar_law.j1:(laidOutB Tryz.prog)=true:=by kernel_rfl
theorem geoFar_law.j2:(mapsRowed Tryz.prog)=true:=by kernel_rfl
theorem geoFar_law.j9:((Rows.geoFarRow.inPlace==Tryz.prog.inPlace 4))=true:=by kernel_rfl
theorem geoFar_law.j10:((Rows.geoFarRow.unfollowed==Tryz.prog.unfollowed 4))=true:=by kernel_rfl
theorem geoFar_law.j11:((Rows.geoFarRow.recurses==Tryz.prog.recurses 4))=true:=by kernel_rfl
theorem geoFar_law.j12:((Rows.geoFarRow.named==Tryz.prog.varsNamed 4))=true:=by kernel_rfl
theorem geoFar_law.j24:(Tryz.prog.stopsHeard)=true:=by kernel_rfl
theorem geoFar_law.j25:(Tryz.prog.mayEnter)=true:=by kernel_rfl
theorem geoFar_law.j26:((Rows.geoFarRow.lifted==Tryz.prog.liftsFinal))=true:=by kernel_rfl
theorem geoFar_law.j27:((Tryz.prog.make==some Rows.geoFarRow.make))=true:=by kernel_rfl
theorem geoFar_law.andI {a b:Bool}(h:a=true) (k:b=true):(a&&b)=true:=by rw[h,k];rfl
set_option maxRecDepth 100000 in
theorem geoFar_law.joined:joinedFacts Tryz.prog 4 Tryz.f4 Rows.geoFarSpec Rows.geoFarRow=true:=(geoFar_law.andI (geoFar_law.andI (geoFar_law.andI (geoFar_law.andI (geoFar_law.andI (geoFar_law.andI (geoFar_law.andI (geoFar_law.andI (geoFar_law.andI (geoFar_law.andI (geoFar_law.andI (geoFar_law.andI (geoFar_law.andI (geoFar_law.andI (geoFar_law.andI (geoFar_law.andI (geoFar_law.andI (geoFar_law.andI (geoFar_law.andI (geoFar_law.andI (geoFar_law.andI (geoFar_law.andI (geoFar_law.andI (geoFar_law.andI (geoFar_law.andI (geoFar_law.andI (geoFar_law.andI (geoFar_law.andI (geoFar_law.andI (geoFar_law.andI (geoFar_law.andI (by kernel_rfl) geoFar_law.j1) geoFar_law.j2) (by kernel_rfl)) (by kernel_rfl)) (by kernel_rfl)) (by kernel_rfl)) (by kernel_rfl)) (by kernel_rfl)) geoFar_law.j9) geoFar_law.j10) geoFar_law.j11) geoFar_law.j12) (by kernel_rfl)) (by kernel_rfl)) (by kernel_rfl)) (by kernel_rfl)) (by kernel_rfl)) (by kernel_rfl)) (by kernel_rfl)) (by kernel_rfl)) (by kernel_rfl)) (by kernel_rfl)) (by kernel_rfl)) geoFar_law.j24) geoFar_law.j25) geoFar_law.j26) geoFar_law.j27) (by kernel_rfl)) (by kernel_rfl)) (by kernel_rfl)) (by kernel_rfl))
theorem geoFar_holds:Rows.GeoFarSaid :=
 OpenClaim.holds_of_wide 4 Tryz.f4 rfl rfl rfl rfl rfl rfl rfl ⟨rfl,rfl,rfl,rfl,rfl⟩ rfl rfl rfl rfl rfl (by kernel_rfl) Tryz.func4 geoFar_law.joined
  (of_decide_eq_true (by kernel_rfl)) (by unfold Func.isWrapper;first|(rw[if_pos (by decide +kernel)];kernel_rfl)|(rw[if_neg (by decide +kernel)];exact⟨rfl,rfl⟩))
  (λos started H enc _=>geoFar_law.lifted os started H enc)
end Go.Proofs.YtdnijgdmohinlaaGreat
end
namespace Go.Proofs.YtdnijgdmohinlaaGreat
#print axioms geoFar_holds
end Go.Proofs.YtdnijgdmohinlaaGreat
