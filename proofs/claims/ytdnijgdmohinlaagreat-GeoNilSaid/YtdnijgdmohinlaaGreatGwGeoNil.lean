/- GeoNil: of no whole nothing comes, and a row without sites makes none; no condition. -/
import Derived.Test.YtdnijgdmohinlaaGreatG6
set_option linter.unusedSimpArgs false
set_option linter.unusedVariables false
set_option linter.constructorNameAsVariable false
section
namespace Go.Proofs.YtdnijgdmohinlaaGreat
open Go.ChangeShapes Go.WideShapes Go.ChangeAt Go.RowKit A
open Go.ChangeMaps (open_string shut_string)
set_option maxRecDepth 100000 in
theorem rng_fits {r:List AV}(h:Fits (.stru (.pair .str (.pair .str .unit))) r):∃x:Rng,r=x.row:=by
 obtain⟨_,_,rfl,⟨a,rfl⟩,_,_,rfl,⟨b,rfl⟩,rfl⟩:=h
 exact⟨⟨a,b⟩,rfl⟩
set_option maxRecDepth 100000 in
theorem srow_fits {r:List AV}(h:Fits (.stru (.pair (.sl 2 (.stru (.pair .str (.pair .str .unit)))) (.pair (.sl 1 .i64) (.pair (.sl 1 .i64) .unit)))) r):∃x:SRow,r=x.row:=by
 obtain⟨_,_,rfl,⟨rows,rfl,hr⟩,_,_,rfl,h1,_,_,rfl,h2,rfl⟩:=h
 obtain⟨rs,rfl⟩:=A.rows_map λr h=>rng_fits (hr r h)
 obtain⟨o,rfl⟩:=ints_fits h1
 obtain⟨p,rfl⟩:=ints_fits h2
 exact⟨⟨rs,o,p⟩,rfl⟩
set_option maxRecDepth 100000 in
theorem op_fits {r:List AV}(h:Fits (.stru (.pair .i64 (.pair .i64 (.pair .i64 (.pair .i64 (.pair .i64 (.pair .i64 (.pair .str (.pair .str (.pair (.sl 1 .str) (.pair (.stru (.pair (.sl 2 (.stru (.pair .str (.pair .str .unit)))) (.pair (.sl 1 .i64) (.pair (.sl 1 .i64) .unit)))) .unit))))))))))) r):∃x:SOp,r=x.row:=by
 obtain⟨_,_,rfl,⟨kind,rfl⟩,_,_,rfl,⟨client,rfl⟩,_,_,rfl,⟨site,rfl⟩,_,_,rfl,⟨to1,rfl⟩,_,_,rfl,⟨at1,rfl⟩,_,_,rfl,⟨how,rfl⟩,_,_,rfl,⟨key,rfl⟩,_,_,rfl,⟨value,rfl⟩,_,_,rfl,⟨ks,rfl,hk⟩,_,_,rfl,h2,rfl⟩:=h
 obtain⟨ks,rfl⟩:=A.rows_map (f:=λs:ByteArray=>[tv s]) λr h=>str_fits (hk r h)
 obtain⟨c,rfl⟩:=srow_fits h2
 exact⟨⟨kind,client,site,to1,at1,how,key,value,ks,c⟩,rfl⟩
section
variable {H:Type}{enc:TypeId×Value→H}{W:World}{base:Nat}{spare:Nat→Bool}{held:Bool}{v:Value}{d:DataW H}{p:List MemPlace}
set_option maxRecDepth 100000 in
theorem open_srow (hv:Value.okWide Tryz.prog W .any base 30 v) (h:DataW.Trod enc Tryz.prog W 0 spare held 30 v d p):∃s:SRow,Rep NoM W (.row s.row) v:=by
 obtain⟨r,h1,h2⟩:=A.open_struct Tryz.underlying30 (s:=(.stru (.pair (.sl 2 (.stru (.pair .str (.pair .str .unit)))) (.pair (.sl 1 .i64) (.pair (.sl 1 .i64) .unit))))) ⟨_,Tryz.underlying30,⟨_,_,1,rfl,rfl,by kernel_rfl,⟨_,Tryz.underlying28,by kernel_rfl,by decide,⟨_,Tryz.underlying56,⟨_,_,1,rfl,rfl,by kernel_rfl,Tryz.underlying9,⟨_,_,1,rfl,rfl,by kernel_rfl,Tryz.underlying9,⟨rfl,by kernel_rfl⟩⟩⟩⟩⟩,⟨_,_,1,rfl,rfl,by kernel_rfl,⟨_,Tryz.underlying22,by kernel_rfl,by decide,Tryz.underlying3⟩,⟨_,_,1,rfl,rfl,by kernel_rfl,⟨_,Tryz.underlying22,by kernel_rfl,by decide,Tryz.underlying3⟩,⟨rfl,by kernel_rfl⟩⟩⟩⟩⟩ hv h
 obtain⟨q,rfl⟩:=srow_fits h1
 exact⟨q,h2⟩
set_option maxRecDepth 100000 in
theorem open_op (hv:Value.okWide Tryz.prog W .any base 41 v) (h:DataW.Trod enc Tryz.prog W 0 spare held 41 v d p):∃s:SOp,Rep NoM W (.row s.row) v:=by
 obtain⟨r,h1,h2⟩:=A.open_struct Tryz.underlying41 (s:=(.stru (.pair .i64 (.pair .i64 (.pair .i64 (.pair .i64 (.pair .i64 (.pair .i64 (.pair .str (.pair .str (.pair (.sl 1 .str) (.pair (.stru (.pair (.sl 2 (.stru (.pair .str (.pair .str .unit)))) (.pair (.sl 1 .i64) (.pair (.sl 1 .i64) .unit)))) .unit)))))))))))) ⟨_,Tryz.underlying41,⟨_,_,1,rfl,rfl,by kernel_rfl,Tryz.underlying3,⟨_,_,1,rfl,rfl,by kernel_rfl,Tryz.underlying3,⟨_,_,1,rfl,rfl,by kernel_rfl,Tryz.underlying3,⟨_,_,1,rfl,rfl,by kernel_rfl,Tryz.underlying3,⟨_,_,1,rfl,rfl,by kernel_rfl,Tryz.underlying3,⟨_,_,1,rfl,rfl,by kernel_rfl,Tryz.underlying3,⟨_,_,1,rfl,rfl,by kernel_rfl,Tryz.underlying9,⟨_,_,1,rfl,rfl,by kernel_rfl,Tryz.underlying9,⟨_,_,1,rfl,rfl,by kernel_rfl,⟨_,Tryz.underlying39,by kernel_rfl,by decide,Tryz.underlying9⟩,⟨_,_,3,rfl,rfl,by kernel_rfl,⟨_,Tryz.underlying30,⟨_,_,1,rfl,rfl,by kernel_rfl,⟨_,Tryz.underlying28,by kernel_rfl,by decide,⟨_,Tryz.underlying56,⟨_,_,1,rfl,rfl,by kernel_rfl,Tryz.underlying9,⟨_,_,1,rfl,rfl,by kernel_rfl,Tryz.underlying9,⟨rfl,by kernel_rfl⟩⟩⟩⟩⟩,⟨_,_,1,rfl,rfl,by kernel_rfl,⟨_,Tryz.underlying22,by kernel_rfl,by decide,Tryz.underlying3⟩,⟨_,_,1,rfl,rfl,by kernel_rfl,⟨_,Tryz.underlying22,by kernel_rfl,by decide,Tryz.underlying3⟩,⟨rfl,by kernel_rfl⟩⟩⟩⟩⟩,⟨rfl,by kernel_rfl⟩⟩⟩⟩⟩⟩⟩⟩⟩⟩⟩⟩ hv h
 obtain⟨q,rfl⟩:=op_fits h1
 exact⟨q,h2⟩
end
end Go.Proofs.YtdnijgdmohinlaaGreat
end
section
namespace Go.Proofs.YtdnijgdmohinlaaGreat.A
open Go Go.RowKit
theorem Pu_fieldv1 {P:Program}{st:ASt}{o:Oper}{t:TypeId}{x:Operand}{i:Nat}{fs:Array Field}{fd:Field}{cs:List AV}{b:AV}(ho:o.op=.field t x i) (ht:P.underlying t=some (.struct fs)) (hf:fs[i]?=some fd) (hag:∀w,(isAgg fd.type).run P w=.ok false w) (_hz:∀w,(sizeOf fd.type).run P w=.ok 1 w) (hx:st.ev x=.d (.row cs)) (hb:cs[fd.offset]?=some b):Pu P st o (.d b):=Pu_q λB M ρ w a h2 _=>by
 have hm:=h2 x (by simp[opsOf,ho,Op.operands])
 rw[hx]at hm
 generalize hy:a.eval x=y at hm
 cases hm with
 | row cs vs hl h1 hr =>
  have hj:fd.offset<vs.length:=by rw[hl];exact(List.getElem?_eq_some_iff.1 hb).1
  refine⟨vs[fd.offset],?_,hr _ b _ hb (by simp[hj])⟩
  have hv:vs.toArray[fd.offset]?=some vs[fd.offset]:=by simp[hj]
  simp only[execOp,ho,hy,Instr.field,Sem.run_bind,run_underlying ht,Result.andThen_ok,hf,asAgg,Sem.run_pure,part,hag,Bool.false_eq_true,if_false,hv]
end Go.Proofs.YtdnijgdmohinlaaGreat.A
end
section
set_option maxRecDepth 100000
namespace Go.Proofs.YtdnijgdmohinlaaGreat
open Go Go.RowKit A R
open A.RowT
abbrev nilP:AV:=.v (.pointer none)
theorem nWaiting_a:ACall Tryz.prog 76 [nilP] (iv 0):=by
 refine AC_1 Tryz.func76 Tryz.ntmps76 Tryz.results76 λhok M0 w0 hnl=>?_
 refine Aw_sr ?_
 refine Al_mr ?_
 refine Al_nil (Aw_seq (Aw_sr ?_))
 refine Al_ml ?_
 refine Al_p (Pu_eqnilN Tryz.underlying92 rfl rfl) ?_
 refine Al_nil ?_
 refine Aw_condT rfl (rfl) ?_
 refine Aw_sr ?_
 refine Al_mr ?_
 refine Al_nil ?_
 exact Aw_ret (Sub.rfl)
theorem nHave_a:ACall Tryz.prog 49 [nilP] (.sl 3 []):=by
 refine AC_1 Tryz.func49 Tryz.ntmps49 Tryz.results49 λhok M0 w0 hnl=>?_
 refine Aw_sr ?_
 refine Al_mr ?_
 refine Al_nil (Aw_seq (Aw_sr ?_))
 refine Al_ml ?_
 refine Al_p (Pu_eqnilN Tryz.underlying92 rfl rfl) ?_
 refine Al_nil ?_
 refine Aw_condT rfl (rfl) ?_
 refine Aw_sr ?_
 refine Al_mr ?_
 refine Al_nil ?_
 exact Aw_ret (Sub.nil)
theorem nChain_a (key:ByteArray):ACall Tryz.prog 43 [nilP,tv key] (versA []):=by
 refine AC_1 Tryz.func43 Tryz.ntmps43 Tryz.results43 λhok M0 w0 hnl=>?_
 refine Aw_sr ?_
 refine Al_mr ?_
 refine Al_nil (Aw_seq (Aw_sr ?_))
 refine Al_ml ?_
 refine Al_p (Pu_eqnilN Tryz.underlying92 rfl rfl) ?_
 refine Al_nil ?_
 refine Aw_condT rfl (rfl) ?_
 refine Aw_sr ?_
 refine Al_mr ?_
 refine Al_nil ?_
 exact Aw_ret (Sub.nil)
theorem zat_a (s:Int):ACall Tryz.prog 42 [nilP,iv s] nilP:=by
 refine AC_1 Tryz.func42 Tryz.ntmps42 Tryz.results42 λhok M0 w0 hnl=>?_
 refine Aw_sr ?_
 refine Al_mr ?_
 refine Al_nil (Aw_seq (Aw_sr ?_))
 refine Al_ml ?_
 refine Al_p (Pu_eqnilN Tryz.underlying32 rfl rfl) ?_
 refine Al_ml ?_
 refine Al_gdF rfl rfl rfl rfl (rfl) (by decide) rfl (by decide) ?_
 refine Al_gdF rfl rfl rfl rfl (rfl) (by decide) rfl (by decide) ?_
 refine Al_p (Pu_orT rfl rfl (rfl) rfl) ?_
 refine Al_ml ?_
 refine Al_gdF rfl rfl rfl rfl (rfl) (by decide) rfl (by decide) ?_
 refine Al_gdF rfl rfl rfl rfl (rfl) (by decide) rfl (by decide) ?_
 refine Al_gdF rfl rfl rfl rfl (rfl) (by decide) rfl (by decide) ?_
 refine Al_gdF rfl rfl rfl rfl (rfl) (by decide) rfl (by decide) ?_
 refine Al_gdF rfl rfl rfl rfl (rfl) (by decide) rfl (by decide) ?_
 refine Al_gdF rfl rfl rfl rfl (rfl) (by decide) rfl (by decide) ?_
 refine Al_gdF rfl rfl rfl rfl (rfl) (by decide) rfl (by decide) ?_
 refine Al_p (Pu_orT rfl rfl (rfl) rfl) ?_
 refine Al_nil ?_
 refine Aw_condT rfl (rfl) ?_
 refine Aw_sr ?_
 refine Al_mr ?_
 refine Al_nil ?_
 exact Aw_ret (Sub.rfl)
theorem zChain_a (s:Int) (key:ByteArray):ACall Tryz.prog 15 [nilP,iv s,tv key] (versA []):=by
 refine AC_1 Tryz.func15 Tryz.ntmps15 Tryz.results15 λhok M0 w0 hnl=>?_
 refine Aw_sr ?_
 refine Al_mr ?_
 refine Al_ns ?_
 refine Al_ml ?_
 refine Al_ml ?_
 refine Al_p (Pu_call (zat_a s) rfl ⟨Sub.rfl,Sub.rfl,trivial⟩) ?_
 refine Al_ml ?_
 refine Al_p (Pu_call (nChain_a key) rfl ⟨Sub.rfl,Sub.rfl,trivial⟩) ?_
 refine Al_mr ?_
 refine Al_nil ?_
 exact Aw_ret (Sub.rfl)
theorem zHave_a (s:Int):ACall Tryz.prog 20 [nilP,iv s] (.sl 3 []):=by
 refine AC_1 Tryz.func20 Tryz.ntmps20 Tryz.results20 λhok M0 w0 hnl=>?_
 refine Aw_sr ?_
 refine Al_mr ?_
 refine Al_ns ?_
 refine Al_ml ?_
 refine Al_ml ?_
 refine Al_p (Pu_call (zat_a s) rfl ⟨Sub.rfl,Sub.rfl,trivial⟩) ?_
 refine Al_p (Pu_call (nHave_a) rfl ⟨Sub.rfl,trivial⟩) ?_
 refine Al_mr ?_
 refine Al_nil ?_
 exact Aw_ret (Sub.rfl)
theorem zWaiting_a (s:Int):ACall Tryz.prog 26 [nilP,iv s] (iv 0):=by
 refine AC_1 Tryz.func26 Tryz.ntmps26 Tryz.results26 λhok M0 w0 hnl=>?_
 refine Aw_sr ?_
 refine Al_mr ?_
 refine Al_ns ?_
 refine Al_ml ?_
 refine Al_ml ?_
 refine Al_p (Pu_call (zat_a s) rfl ⟨Sub.rfl,Sub.rfl,trivial⟩) ?_
 refine Al_p (Pu_call (nWaiting_a) rfl ⟨Sub.rfl,trivial⟩) ?_
 refine Al_mr ?_
 refine Al_nil ?_
 exact Aw_ret (Sub.rfl)
theorem zOpen_a (a b:Int):ACall Tryz.prog 27 [nilP,iv a,iv b] (iv 0):=by
 refine AC_1 Tryz.func27 Tryz.ntmps27 Tryz.results27 λhok M0 w0 hnl=>?_
 refine Aw_sr ?_
 refine Al_mr ?_
 refine Al_nil (Aw_seq (Aw_sr ?_))
 refine Al_ml ?_
 refine Al_p (Pu_eqnilN Tryz.underlying32 rfl rfl) ?_
 refine Al_nil ?_
 refine Aw_condT rfl (rfl) ?_
 refine Aw_sr ?_
 refine Al_mr ?_
 refine Al_nil ?_
 exact Aw_ret (Sub.rfl)
theorem zFlying_a (a b:Int):ACall Tryz.prog 18 [nilP,iv a,iv b] (iv 0):=by
 refine AC_1 Tryz.func18 Tryz.ntmps18 Tryz.results18 λhok M0 w0 hnl=>?_
 refine Aw_sr ?_
 refine Al_mr ?_
 refine Al_nil (Aw_seq (Aw_sr ?_))
 refine Al_ml ?_
 refine Al_p (Pu_eqnilN Tryz.underlying32 rfl rfl) ?_
 refine Al_nil ?_
 refine Aw_condT rfl (rfl) ?_
 refine Aw_sr ?_
 refine Al_mr ?_
 refine Al_nil ?_
 exact Aw_ret (Sub.rfl)
theorem zHistory_a:ACall Tryz.prog 19 [nilP] (.sl 6 []):=by
 refine AC_1 Tryz.func19 Tryz.ntmps19 Tryz.results19 λhok M0 w0 hnl=>?_
 refine Aw_sr ?_
 refine Al_mr ?_
 refine Al_nil (Aw_seq (Aw_sr ?_))
 refine Al_ml ?_
 refine Al_p (Pu_eqnilN Tryz.underlying32 rfl rfl) ?_
 refine Al_nil ?_
 refine Aw_condT rfl (rfl) ?_
 refine Aw_sr ?_
 refine Al_mr ?_
 refine Al_nil ?_
 exact Aw_ret (Sub.nil)
theorem zPins_a:ACall Tryz.prog 28 [nilP] (.sl 2 []):=by
 refine AC_1 Tryz.func28 Tryz.ntmps28 Tryz.results28 λhok M0 w0 hnl=>?_
 refine Aw_sr ?_
 refine Al_mr ?_
 refine Al_nil (Aw_seq (Aw_sr ?_))
 refine Al_ml ?_
 refine Al_p (Pu_eqnilN Tryz.underlying32 rfl rfl) ?_
 refine Al_nil ?_
 refine Aw_condT rfl (rfl) ?_
 refine Aw_sr ?_
 refine Al_mr ?_
 refine Al_nil ?_
 exact Aw_ret (Sub.nil)
theorem zIdle_a:ACall Tryz.prog 17 [nilP] (bv false):=by
 refine AC_1 Tryz.func17 Tryz.ntmps17 Tryz.results17 λhok M0 w0 hnl=>?_
 refine Aw_sr ?_
 refine Al_mr ?_
 refine Al_ns ?_
 refine Al_ml ?_
 refine Al_p (Pu_neqnilN Tryz.underlying32 rfl rfl) ?_
 refine Al_ml ?_
 refine Al_gdF rfl rfl rfl rfl (rfl) (by decide) rfl (by decide) ?_
 refine Al_gdF rfl rfl rfl rfl (rfl) (by decide) rfl (by decide) ?_
 refine Al_gdF rfl rfl rfl rfl (rfl) (by decide) rfl (by decide) ?_
 refine Al_gdF rfl rfl rfl rfl (rfl) (by decide) rfl (by decide) ?_
 refine Al_gdF rfl rfl rfl rfl (rfl) (by decide) rfl (by decide) ?_
 refine Al_p (Pu_andF rfl rfl (rfl) rfl) ?_
 refine Al_mr ?_
 refine Al_nil ?_
 exact Aw_ret (Sub.rfl)
theorem zRow_a:ACall Tryz.prog 29 [nilP] (.row [rngA [],.sl 1 [],.sl 1 []]):=by
 refine AC_G Tryz.func29 Tryz.ntmps29 (Reads.cN Tryz.results29 Tryz.isAgg30 Tryz.sizeOf30) λhok M0 w0 hnl=>?_
 refine Aw_sr ?_
 refine Al_al Tryz.zeroValue30 λg2=>?_
 refine Al_nil (Aw_seq (Aw_sr ?_))
 refine Al_ml ?_
 refine Al_p (Pu_eqnilN Tryz.underlying32 rfl rfl) ?_
 refine Al_nil ?_
 refine Aw_condT rfl (rfl) ?_
 refine Aw_sr ?_
 refine Al_p (Pu_build (aa:=[]) rfl Tryz.underlying30 Tryz.zeroValue30 places30 (by kernel_rfl) trivial rfl) ?_
 refine Al_sN Tryz.isAgg30 Tryz.sizeOf30 ?_
 refine Al_nil ?_
 refine Aw_boxle (k:=2) ([rngA [],.sl 1 [],.sl 1 []].map .d) rfl ⟨Sub.nil,Sub.nil,Sub.nil,trivial⟩ ?_
 exact Aw_ret (⟨_,_,_,_,_,[_,_,_],rfl,rfl,rfl,rfl,rfl⟩)
theorem zSession_a (k:Int):ACall Tryz.prog 30 [nilP,iv k] (.row (cliA (0,[]))):=by
 refine AC_G Tryz.func30 Tryz.ntmps30 (Reads.cN Tryz.results30 Tryz.isAgg75 Tryz.sizeOf75) λhok M0 w0 hnl=>?_
 refine Aw_sr ?_
 refine Al_al Tryz.zeroValue75 λg4=>?_
 refine Al_nil (Aw_seq (Aw_sr ?_))
 refine Al_ml ?_
 refine Al_p (Pu_eqnilN Tryz.underlying32 rfl rfl) ?_
 refine Al_ml ?_
 refine Al_gdF rfl rfl rfl rfl (rfl) (by decide) rfl (by decide) ?_
 refine Al_gdF rfl rfl rfl rfl (rfl) (by decide) rfl (by decide) ?_
 refine Al_p (Pu_orT rfl rfl (rfl) rfl) ?_
 refine Al_ml ?_
 refine Al_gdF rfl rfl rfl rfl (rfl) (by decide) rfl (by decide) ?_
 refine Al_gdF rfl rfl rfl rfl (rfl) (by decide) rfl (by decide) ?_
 refine Al_p (Pu_orT rfl rfl (rfl) rfl) ?_
 refine Al_nil ?_
 refine Aw_condT rfl (rfl) ?_
 refine Aw_sr ?_
 refine Al_p (Pu_build (aa:=[]) rfl Tryz.underlying75 Tryz.zeroValue75 places75 (by kernel_rfl) trivial rfl) ?_
 refine Al_sN Tryz.isAgg75 Tryz.sizeOf75 ?_
 refine Al_nil ?_
 refine Aw_boxle (k:=4) ((cliA (0,[])).map .d) rfl ⟨Sub.rfl,Sub.nil,trivial⟩ ?_
 exact Aw_ret (⟨_,_,_,_,_,[_,_],rfl,rfl,rfl,rfl,rfl⟩)
theorem zDo_a (o:SOp):ACall Tryz.prog 13 [nilP,.row o.row] (ansA (1,[])):=by
 refine AC_G Tryz.func13 Tryz.ntmps13 (Reads.cN Tryz.results13 Tryz.isAgg37 Tryz.sizeOf37) λhok M0 w0 hnl=>?_
 refine Aw_sr ?_
 refine Al_p Pu_bN ?_
 refine Al_al Tryz.zeroValue37 λg4=>?_
 refine Al_nil (Aw_seq (Aw_sr ?_))
 refine Al_ml ?_
 refine Al_p (Pu_eqnilN Tryz.underlying32 rfl rfl) ?_
 refine Al_nil ?_
 refine Aw_condT rfl (rfl) ?_
 refine Aw_sr ?_
 refine Al_p (Pu_call (gtold_a 6 1) rfl ⟨Sub.rfl,trivial⟩) ?_
 refine Al_sN Tryz.isAgg37 Tryz.sizeOf37 ?_
 refine Al_nil ?_
 exact Aw_ret (⟨_,_,_,_,_,[_,_],rfl,rfl,rfl,rfl,rfl⟩)
theorem zRoute_a (c:SRow) (hc:c.parents=[]):ACall Tryz.prog 32 [.row c.row] (bv false):=by
 refine AC_1 Tryz.func32 Tryz.ntmps32 Tryz.results32 λhok M0 w0 hnl=>?_
 have hno:T.ok c=false:=by
  cases h:T.ok c with
  | false=>rfl
  | true =>
   have hsh:=S.shape_facts (T.ok_facts h).1
   obtain⟨k1,_⟩:=hsh
   rw[hc]at k1;simp at k1
 have ht:=tcheck_a c
 rw[hno]at ht
 refine Aw_sr ?_
 refine Al_p Pu_bN ?_
 refine Al_mr ?_
 refine Al_ns ?_
 refine Al_p (Pu_lN Tryz.isAgg30 Tryz.sizeOf30) ?_
 refine Al_p (Pu_call (ht) rfl ⟨Sub.rfl,trivial⟩) ?_
 refine Al_ml ?_
 refine Al_gdF rfl rfl rfl rfl (rfl) (by decide) rfl (by decide) ?_
 refine Al_gdF rfl rfl rfl rfl (rfl) (by decide) rfl (by decide) ?_
 refine Al_gdF rfl rfl rfl rfl (rfl) (by decide) rfl (by decide) ?_
 refine Al_p (Pu_andF rfl rfl (rfl) rfl) ?_
 refine Al_mr ?_
 refine Al_nil ?_
 exact Aw_ret (Sub.rfl)
theorem zNew_a (c:SRow) (hc:c.parents=[]):ACall Tryz.prog 12 [.row c.row] nilP:=by
 refine AC_1 Tryz.func12 Tryz.ntmps12 Tryz.results12 λhok M0 w0 hnl=>?_
 refine Aw_sr ?_
 refine Al_p Pu_bN ?_
 refine Al_mr ?_
 refine Al_nil (Aw_seq (Aw_sr ?_))
 refine Al_p (Pu_lN Tryz.isAgg30 Tryz.sizeOf30) ?_
 refine Al_p (Pu_call (zRoute_a c hc) rfl ⟨Sub.rfl,trivial⟩) ?_
 refine Al_p Pu_n ?_
 refine Al_nil ?_
 refine Aw_condT rfl (rfl) ?_
 refine Aw_sr ?_
 refine Al_mr ?_
 refine Al_nil ?_
 exact Aw_ret (Sub.rfl)
theorem geonil_law (c:SRow) (o:SOp):ACall Tryz.prog 9 [.row c.row,.row o.row] (bv true):=by
 refine AC_1 Tryz.func9 Tryz.ntmps9 Tryz.results9 λhok M0 w0 hnl=>?_
 have hz:=zNew_a ⟨c.ranges,c.owners,[]⟩ rfl
 refine Aw_sr ?_
 refine Al_p Pu_bN ?_
 refine Al_p Pu_bN ?_
 refine Al_mr ?_
 refine Al_ns ?_
 refine Al_mr ?_
 refine Al_ns ?_
 refine Al_p (Pu_lN Tryz.isAgg30 Tryz.sizeOf30) ?_
 refine Al_al Tryz.zeroValue30 λg6=>?_
 refine Al_sN Tryz.isAgg30 Tryz.sizeOf30 ?_
 refine Al_ns ?_
 refine Al_p (Pu_fb 2 Tryz.underlying30 Tryz.sizeOf22) ?_
 refine Al_s1 Tryz.isAgg22 Tryz.sizeOf22 ?_
 refine Al_ns ?_
 refine Al_ml ?_
 refine Al_p (Pu_lN Tryz.isAgg41 Tryz.sizeOf41) ?_
 refine Al_p (Pu_call (zDo_a o) rfl ⟨Sub.rfl,Sub.rfl,trivial⟩) ?_
 refine Al_al Tryz.zeroValue37 λg7=>?_
 refine Al_sN Tryz.isAgg37 Tryz.sizeOf37 ?_
 refine Al_ns ?_
 refine Al_p (Pu_call (gawake_a) rfl trivial) ?_
 refine Al_ml ?_
 refine Al_s (St_g [] trivial (λ_=>Pu_lbN (r:=[_,_,_]) Tryz.isAgg30 Tryz.sizeOf30)) ?_
 refine Al_s (St_g [15] ⟨⟨_,rfl⟩,trivial⟩ (λ_=>Pu_call (hz) rfl ⟨ASub.sub (ASub.row ⟨ASub.rfl,ASub.rfl,ASub.nil,trivial⟩),trivial⟩)) ?_
 refine Al_s (St_g [16] ⟨⟨_,rfl⟩,trivial⟩ (λ_=>Pu_eqnilN Tryz.underlying32 rfl rfl)) ?_
 refine Al_p Pu_a ?_
 refine Al_ml ?_
 refine Al_s (St_g [] trivial (λ_=>Pu_fb 0 Tryz.underlying37 Tryz.sizeOf34)) ?_
 refine Al_s (St_g [20] ⟨⟨_,rfl⟩,trivial⟩ (λ_=>Pu_lb Tryz.isAgg34)) ?_
 refine Al_s (St_g [21] ⟨⟨_,rfl⟩,trivial⟩ (λ_=>Pu_cp)) ?_
 refine Al_p Pu_a ?_
 refine Al_ml ?_
 refine Al_s (St_g [] trivial (λ_=>Pu_fb 1 Tryz.underlying37 Tryz.sizeOf35)) ?_
 refine Al_s (St_g [25] ⟨⟨_,rfl⟩,trivial⟩ (λ_=>Pu_lb Tryz.isAgg35)) ?_
 refine Al_s (St_g [26] ⟨⟨_,rfl⟩,trivial⟩ (λ_=>Pu_ln Tryz.underlying35)) ?_
 refine Al_s (St_g [27] ⟨⟨_,rfl⟩,trivial⟩ (λ_=>Pu_cp)) ?_
 refine Al_p Pu_a ?_
 refine Al_ml ?_
 refine Al_s (St_g [] trivial (λ_=>Pu_mvl)) ?_
 refine Al_s (St_g [31] ⟨⟨_,rfl⟩,trivial⟩ (λ_=>Pu_call (zHistory_a) rfl ⟨Sub.rfl,trivial⟩)) ?_
 refine Al_s (St_g [32] ⟨⟨_,rfl⟩,trivial⟩ (λ_=>Pu_ln Tryz.underlying61)) ?_
 refine Al_s (St_g [] trivial (λ_=>Pu_mvl)) ?_
 refine Al_s (St_g [34] ⟨⟨_,rfl⟩,trivial⟩ (λ_=>Pu_call (zChain_a 0 ⟨#[97]⟩) rfl ⟨Sub.rfl,Sub.rfl,Sub.rfl,trivial⟩)) ?_
 refine Al_s (St_g [35] ⟨⟨_,rfl⟩,trivial⟩ (λ_=>Pu_ln Tryz.underlying35)) ?_
 refine Al_s (St_gd [33,36] rfl rfl rfl rfl ⟨⟨_,rfl⟩,⟨_,rfl⟩,trivial⟩ (λhg37=>by exact Pu_add rfl rfl rfl (λh1 h2=>by simp[A.inI]))) ?_
 refine Al_s (St_g [] trivial (λ_=>Pu_mvl)) ?_
 refine Al_s (St_g [38] ⟨⟨_,rfl⟩,trivial⟩ (λ_=>Pu_call (zHave_a 0) rfl ⟨Sub.rfl,Sub.rfl,trivial⟩)) ?_
 refine Al_s (St_g [39] ⟨⟨_,rfl⟩,trivial⟩ (λ_=>Pu_ln Tryz.underlying48)) ?_
 refine Al_s (St_gd [37,40] rfl rfl rfl rfl ⟨⟨_,rfl⟩,⟨_,rfl⟩,trivial⟩ (λhg41=>by exact Pu_add rfl rfl rfl (λh1 h2=>by simp[A.inI]))) ?_
 refine Al_s (St_g [] trivial (λ_=>Pu_mvl)) ?_
 refine Al_s (St_g [42] ⟨⟨_,rfl⟩,trivial⟩ (λ_=>Pu_call (zWaiting_a 0) rfl ⟨Sub.rfl,Sub.rfl,trivial⟩)) ?_
 refine Al_s (St_gd [41,43] rfl rfl rfl rfl ⟨⟨_,rfl⟩,⟨_,rfl⟩,trivial⟩ (λhg44=>by exact Pu_add rfl rfl rfl (λh1 h2=>by simp[A.inI]))) ?_
 refine Al_s (St_g [] trivial (λ_=>Pu_mvl)) ?_
 refine Al_s (St_g [45] ⟨⟨_,rfl⟩,trivial⟩ (λ_=>Pu_call (zOpen_a 0 1) rfl ⟨Sub.rfl,Sub.rfl,Sub.rfl,trivial⟩)) ?_
 refine Al_s (St_gd [44,46] rfl rfl rfl rfl ⟨⟨_,rfl⟩,⟨_,rfl⟩,trivial⟩ (λhg47=>by exact Pu_add rfl rfl rfl (λh1 h2=>by simp[A.inI]))) ?_
 refine Al_s (St_g [] trivial (λ_=>Pu_mvl)) ?_
 refine Al_s (St_g [48] ⟨⟨_,rfl⟩,trivial⟩ (λ_=>Pu_call (zFlying_a 0 1) rfl ⟨Sub.rfl,Sub.rfl,Sub.rfl,trivial⟩)) ?_
 refine Al_s (St_gd [47,49] rfl rfl rfl rfl ⟨⟨_,rfl⟩,⟨_,rfl⟩,trivial⟩ (λhg50=>by exact Pu_add rfl rfl rfl (λh1 h2=>by simp[A.inI]))) ?_
 refine Al_s (St_g [] trivial (λ_=>Pu_mvl)) ?_
 refine Al_s (St_g [51] ⟨⟨_,rfl⟩,trivial⟩ (λ_=>Pu_call (zPins_a) rfl ⟨Sub.rfl,trivial⟩)) ?_
 refine Al_s (St_g [52] ⟨⟨_,rfl⟩,trivial⟩ (λ_=>Pu_ln Tryz.underlying72)) ?_
 refine Al_s (St_gd [50,53] rfl rfl rfl rfl ⟨⟨_,rfl⟩,⟨_,rfl⟩,trivial⟩ (λhg54=>by exact Pu_add rfl rfl rfl (λh1 h2=>by simp[A.inI]))) ?_
 refine Al_s (St_g [54] ⟨⟨_,rfl⟩,trivial⟩ (λ_=>Pu_cp)) ?_
 refine Al_p Pu_a ?_
 refine Al_ml ?_
 refine Al_s (St_g [] trivial (λ_=>Pu_mvl)) ?_
 refine Al_s (St_g [58] ⟨⟨_,rfl⟩,trivial⟩ (λ_=>Pu_call (zIdle_a) rfl ⟨Sub.rfl,trivial⟩)) ?_
 refine Al_s (St_g [59] ⟨⟨_,rfl⟩,trivial⟩ (λ_=>Pu_n)) ?_
 refine Al_p Pu_a ?_
 refine Al_ml ?_
 refine Al_s (St_g [] trivial (λ_=>Pu_mvl)) ?_
 refine Al_s (St_g [63] ⟨⟨_,rfl⟩,trivial⟩ (λ_=>Pu_call (zRow_a) rfl ⟨Sub.rfl,trivial⟩)) ?_
 refine Al_s (St_g [64] ⟨⟨_,rfl⟩,trivial⟩ (λ_=>Pu_fieldv1 rfl Tryz.underlying30 rfl Tryz.isAgg28 Tryz.sizeOf28 rfl rfl)) ?_
 refine Al_s (St_g [65] ⟨⟨_,rfl⟩,trivial⟩ (λ_=>Pu_ln Tryz.underlying28)) ?_
 refine Al_s (St_g [66] ⟨⟨_,rfl⟩,trivial⟩ (λ_=>Pu_cp)) ?_
 refine Al_p Pu_a ?_
 refine Al_ml ?_
 refine Al_s (St_g [] trivial (λ_=>Pu_mvl)) ?_
 refine Al_s (St_g [70] ⟨⟨_,rfl⟩,trivial⟩ (λ_=>Pu_call (zSession_a 0) rfl ⟨Sub.rfl,Sub.rfl,trivial⟩)) ?_
 refine Al_s (St_g [71] ⟨⟨_,rfl⟩,trivial⟩ (λ_=>Pu_fieldv1 rfl Tryz.underlying75 rfl Tryz.isAgg48 Tryz.sizeOf48 rfl rfl)) ?_
 refine Al_s (St_g [72] ⟨⟨_,rfl⟩,trivial⟩ (λ_=>Pu_ln Tryz.underlying48)) ?_
 refine Al_s (St_g [73] ⟨⟨_,rfl⟩,trivial⟩ (λ_=>Pu_cp)) ?_
 refine Al_p Pu_a ?_
 refine Al_mr ?_
 refine Al_nil ?_
 exact Aw_ret (Sub.rfl)
end Go.Proofs.YtdnijgdmohinlaaGreat
end
section
namespace Go.Proofs.YtdnijgdmohinlaaGreat
open Go.ChangeShapes Go.WideShapes Go.ChangeAt Go.RowKit A
theorem geoNil_law.own:ownKnob Tryz.prog.godebug=none:=by kernel_rfl
theorem geoNil_law.laidOut:laidOutB Tryz.prog=true:=by kernel_rfl
set_option maxRecDepth 100000 in
theorem geoNil_law.lifted (os:Os) (started:os.Started) (H:Type) (enc:TypeId×Value→H) :
  ReturnsInHanded {} Tryz.checked os 9 .any (Rows.geoNilSpec.pre6 enc Tryz.prog Tryz.f9 Rows.geoNilRow.domain false) (Rows.geoNilSpec.post enc Tryz.prog Tryz.f9 false true false false):=by
 refine returnsInHanded_of_change (C:=Tryz.checked) geoNil_law.own started (by kernel_rfl) Tryz.func9
  (ChangeSpec.witness6 (enc:=enc) (C:=Tryz.checked) false ⟨#[],#[.agg #[.slice none 0 0,.slice none 0 0,.slice none 0 0],.agg #[.int .i64 0,.int .i64 0,.int .i64 0,.int .i64 0,.int .i64 0,.int .i64 0,.string ⟨#[]⟩,.string ⟨#[]⟩,.slice none 0 0,.slice none 0 0,.slice none 0 0,.slice none 0 0]],[]⟩ 8 (by kernel_rfl) (by kernel_rfl) (by kernel_rfl) (by kernel_rfl)) ?_
 intro W base args ds gs before hval0 hW hcnd _
 have hval:∀(j:Nat) t v,Tryz.f9.params[j]?=some t→args[j]?=some v→Value.okWide Tryz.prog W .any base t v:=hval0
 have hW':=hW
 obtain⟨p,q,hA0,hV,rfl,hfz,hnd⟩:=hW
 have hA:DataW.TrodAll enc Tryz.prog W 0 (λ_=>true) true Tryz.f9.params.toList args.toList ds p:=hA0
 rw[Tryz.params9]at hA hval
 obtain⟨v0,vs0,d0,ds0,p0,q0,hargs,rfl,rfl,h0,r0⟩:=trodAll_cons hA
 obtain⟨v1,vs1,d1,ds1,p1,q1,rfl,rfl,rfl,h1,r1⟩:=trodAll_cons r0
 obtain⟨rfl,rfl,rfl⟩:=trodAll_nil r1
 obtain rfl:args=#[v0,v1]:=by cases args;simp_all
 obtain⟨rfl,rfl⟩:=trodVars_none hV
 have k0:=h0
 have lt0:∀x∈p0,x.block<W.heap.size:=by obtain⟨m,hm⟩:=k0;exact DataW.trod_lt m _ _ _ hm
 have ok0:=hval 0 30 v0 rfl rfl
 have k1:=h1
 have lt1:∀x∈p1,x.block<W.heap.size:=by obtain⟨m,hm⟩:=k1;exact DataW.trod_lt m _ _ _ hm
 have ok1:=hval 1 41 v1 rfl rfl
 clear hA0 hval0
 obtain⟨c,hc⟩:=open_srow ok0 h0
 obtain⟨o,ho⟩:=open_op ok1 h1 
 refine(A.law (geonil_law c o) (A.allcons hc (A.allcons ho A.allnil))).mono λe W' ⟨he,bel⟩=>?_
 subst he
 exact⟨_,rfl,_,_,_,[],_,[],hW',trodAll_mk1 (shut_bool Tryz.underlying4 _),(trodAll_cons_mk (Below.trod geoNil_law.laidOut (by kernel_rfl) (of_decide_eq_true (by kernel_rfl)) k0 bel lt0) (trodAll_cons_mk (Below.trod geoNil_law.laidOut (by kernel_rfl) (of_decide_eq_true (by kernel_rfl)) k1 bel lt1) trodAll_mk0)),rfl,bel.frame _,λh=>by cases h⟩
theorem geoNil_law.j1:(laidOutB Tryz.prog)=true:=by kernel_rfl
theorem geoNil_law.j2:(mapsRowed Tryz.prog)=true:=by kernel_rfl
theorem geoNil_law.j9:((Rows.geoNilRow.inPlace==Tryz.prog.inPlace 9))=true:=by kernel_rfl
theorem geoNil_law.j10:((Rows.geoNilRow.unfollowed==Tryz.prog.unfollowed 9))=true:=by kernel_rfl
theorem geoNil_law.j11:((Rows.geoNilRow.recurses==Tryz.prog.recurses 9))=true:=by kernel_rfl
theorem geoNil_law.j12:((Rows.geoNilRow.named==Tryz.prog.varsNamed 9))=true:=by kernel_rfl
theorem geoNil_law.j24:(Tryz.prog.stopsHeard)=true:=by kernel_rfl
theorem geoNil_law.j25:(Tryz.prog.mayEnter)=true:=by kernel_rfl
theorem geoNil_law.j26:((Rows.geoNilRow.lifted==Tryz.prog.liftsFinal))=true:=by kernel_rfl
theorem geoNil_law.j27:((Tryz.prog.make==some Rows.geoNilRow.make))=true:=by kernel_rfl
theorem geoNil_law.andI {a b:Bool}(h:a=true) (k:b=true):(a&&b)=true:=by rw[h,k];rfl
set_option maxRecDepth 100000 in
theorem geoNil_law.joined:joinedFacts Tryz.prog 9 Tryz.f9 Rows.geoNilSpec Rows.geoNilRow=true:=(geoNil_law.andI (geoNil_law.andI (geoNil_law.andI (geoNil_law.andI (geoNil_law.andI (geoNil_law.andI (geoNil_law.andI (geoNil_law.andI (geoNil_law.andI (geoNil_law.andI (geoNil_law.andI (geoNil_law.andI (geoNil_law.andI (geoNil_law.andI (geoNil_law.andI (geoNil_law.andI (geoNil_law.andI (geoNil_law.andI (geoNil_law.andI (geoNil_law.andI (geoNil_law.andI (geoNil_law.andI (geoNil_law.andI (geoNil_law.andI (geoNil_law.andI (geoNil_law.andI (geoNil_law.andI (geoNil_law.andI (geoNil_law.andI (geoNil_law.andI (geoNil_law.andI (by kernel_rfl) geoNil_law.j1) geoNil_law.j2) (by kernel_rfl)) (by kernel_rfl)) (by kernel_rfl)) (by kernel_rfl)) (by kernel_rfl)) (by kernel_rfl)) geoNil_law.j9) geoNil_law.j10) geoNil_law.j11) geoNil_law.j12) (by kernel_rfl)) (by kernel_rfl)) (by kernel_rfl)) (by kernel_rfl)) (by kernel_rfl)) (by kernel_rfl)) (by kernel_rfl)) (by kernel_rfl)) (by kernel_rfl)) (by kernel_rfl)) (by kernel_rfl)) geoNil_law.j24) geoNil_law.j25) geoNil_law.j26) geoNil_law.j27) (by kernel_rfl)) (by kernel_rfl)) (by kernel_rfl)) (by kernel_rfl))
theorem geoNil_holds:Rows.GeoNilSaid :=
 OpenClaim.holds_of_wide 9 Tryz.f9 rfl rfl rfl rfl rfl rfl rfl ⟨rfl,rfl,rfl,rfl,rfl⟩ rfl rfl rfl rfl rfl (by kernel_rfl) Tryz.func9 geoNil_law.joined
  (of_decide_eq_true (by kernel_rfl)) (by unfold Func.isWrapper;first|(rw[if_pos (by decide +kernel)];kernel_rfl)|(rw[if_neg (by decide +kernel)];exact⟨rfl,rfl⟩))
  (λos started H enc _=>geoNil_law.lifted os started H enc)
end Go.Proofs.YtdnijgdmohinlaaGreat
end
namespace Go.Proofs.YtdnijgdmohinlaaGreat
#print axioms geoNil_holds
end Go.Proofs.YtdnijgdmohinlaaGreat
